/- NodesSets: words, printed functions and plain laws that the claim uses, laid by a program of this session's. No condition beside those in each theorem's own line. -/
import Derived.Test.YtkceebgncfggjaaDoorZS6
set_option linter.unusedVariables false
set_option linter.unusedSimpArgs false
namespace Go.Proofs.YtkceebgncfggjaaDoor.PQ
open Go.RowKit Go.Proofs.YtkceebgncfggjaaDoorW.PrintWords Go.Proofs.YtkceebgncfggjaaDoorW.PrintLast Go.Proofs.YtkceebgncfggjaaDoorW.PrintMore Go.Proofs.YtkceebgncfggjaaDoorX
set_option maxHeartbeats 8000000
set_option maxRecDepth 100000
attribute [local go_sem] max2_int min2_int max_two min_two
mutual
def texts_PutTime.j0 : Nat → Int → Bool → Option (Int × List Int × Int)
 | 0, _, _ => none
 | k + 1, x0, x18 => if x18 = true then (some (0, ([] : List Int), 32)) else ((texts_civil.f (wrap64 ((wrap64 (Int.tdiv (wrap64 (x0 + 631152000)) 86400)) - 7305))).bind fun bt166 => ((some (([(wrap64 (Int.tdiv bt166.1 1000)) % 256, (Int.tmod (wrap64 (Int.tdiv bt166.1 100)) 10) % 256] : List Int) : List Int)).bind fun y169 => ((some (([(wrap64 (Int.tdiv (Int.tmod bt166.1 100) 10)) % 256, (Int.tmod (Int.tmod bt166.1 100) 10) % 256] : List Int) : List Int)).bind fun y172 => (if y169.length + y172.length < 140737488355328 then ((some (y169 ++ y172 : List Int)).bind fun y175 => ((some (([(wrap64 (Int.tdiv bt166.2.1 10)) % 256, (Int.tmod bt166.2.1 10) % 256] : List Int) : List Int)).bind fun y178 => (if y175.length + y178.length < 140737488355328 then ((some (y175 ++ y178 : List Int)).bind fun y181 => ((some (([(wrap64 (Int.tdiv bt166.2.2 10)) % 256, (Int.tmod bt166.2.2 10) % 256] : List Int) : List Int)).bind fun y184 => (if y181.length + y184.length < 140737488355328 then ((some (y181 ++ y184 : List Int)).bind fun y187 => ((some (([(wrap64 (Int.tdiv (wrap64 (Int.tdiv (Int.tmod (wrap64 (x0 + 631152000)) 86400) 3600)) 10)) % 256, (Int.tmod (wrap64 (Int.tdiv (Int.tmod (wrap64 (x0 + 631152000)) 86400) 3600)) 10) % 256] : List Int) : List Int)).bind fun y190 => (if y187.length + y190.length < 140737488355328 then ((some (y187 ++ y190 : List Int)).bind fun y193 => ((some (([(wrap64 (Int.tdiv (Int.tmod (wrap64 (Int.tdiv (Int.tmod (wrap64 (x0 + 631152000)) 86400) 60)) 60) 10)) % 256, (Int.tmod (Int.tmod (wrap64 (Int.tdiv (Int.tmod (wrap64 (x0 + 631152000)) 86400) 60)) 60) 10) % 256] : List Int) : List Int)).bind fun y196 => (if y193.length + y196.length < 140737488355328 then ((some (y193 ++ y196 : List Int)).bind fun y199 => ((some (([(wrap64 (Int.tdiv (Int.tmod (Int.tmod (wrap64 (x0 + 631152000)) 86400) 60) 10)) % 256, (Int.tmod (Int.tmod (Int.tmod (wrap64 (x0 + 631152000)) 86400) 60) 10) % 256] : List Int) : List Int)).bind fun y202 => (if y199.length + y202.length < 140737488355328 then ((some (y199 ++ y202 : List Int)).bind fun y205 => (texts_PutTime.l0 k bt166.1 y205 (y205.length : Int) 0)) else (none)))) else (none)))) else (none)))) else (none)))) else (none)))) else (none)))))
def texts_PutTime.l0 : Nat → Int → List Int → Int → Int → Option (Int × List Int × Int)
 | 0, _, _, _, _ => none
 | k + 1, x6, x9, x65, x66 => if x66 < x65 then (if 0 ≤ x66 then (if x66 < (x9.length : Int) then (texts_PutTime.l0 k x6 (x9.set (x66 : Int).toNat (((rd x9 x66) + 48) % 256)) x65 (wrap64 (x66 + 1))) else (none)) else (none)) else (if x9.length < 140737488355328 then ((some (x9 ++ [90] : List Int)).bind fun y210 => (if x6 < 2050 then (if 2 ≤ (y210.length : Int) then (some (23, (y210.drop (2 : Int).toNat), 0)) else (none)) else (some (24, y210, 0)))) else (none))
end
def texts_PutTime.f (k : Nat) (a0 : Int) : Option (Int × List Int × Int) := if a0 < (-631152000) then (texts_PutTime.j0 k a0 true) else (texts_PutTime.j0 k a0 (decide (a0 > 253402300799)))
theorem texts_PutTime.mono_l : ∀ k, (∀ y0 y1, LeO (texts_PutTime.j0 k y0 y1) (texts_PutTime.j0 (k + 1) y0 y1)) ∧ (∀ y0 y1 y2 y3, LeO (texts_PutTime.l0 k y0 y1 y2 y3) (texts_PutTime.l0 (k + 1) y0 y1 y2 y3))
 | 0 => ⟨fun _ _ r h => by simp [texts_PutTime.j0] at h, fun _ _ _ _ r h => by simp [texts_PutTime.l0] at h⟩
 | k + 1 => by
  obtain ⟨ih0, ih1⟩ := texts_PutTime.mono_l k
  refine ⟨?_, ?_⟩
  ·intro y0 y1
   unfold texts_PutTime.j0
   repeat' first
   | (with_reducible exact ih0 _ _)
   | (with_reducible exact ih1 _ _ _ _)
   | (with_reducible exact LeO.refl _)
   | (with_reducible exact LeO.none _)
   | (with_reducible refine LeO.ite ?_ ?_)
   | (with_reducible refine LeO.bind ?_ (fun _ => ?_))
   | (with_reducible refine LeO_bindX ?_ (fun _ => ?_))
   | exact ih0 _ _
   | exact ih1 _ _ _ _
   | exact LeO.none _
   | refine LeO.ite ?_ ?_
   | refine LeO.bind ?_ (fun _ => ?_)
  ·intro y0 y1 y2 y3
   unfold texts_PutTime.l0
   repeat' first
   | (with_reducible exact ih0 _ _)
   | (with_reducible exact ih1 _ _ _ _)
   | (with_reducible exact LeO.refl _)
   | (with_reducible exact LeO.none _)
   | (with_reducible refine LeO.ite ?_ ?_)
   | (with_reducible refine LeO.bind ?_ (fun _ => ?_))
   | (with_reducible refine LeO_bindX ?_ (fun _ => ?_))
   | exact ih0 _ _
   | exact ih1 _ _ _ _
   | exact LeO.none _
   | refine LeO.ite ?_ ?_
   | refine LeO.bind ?_ (fun _ => ?_)
theorem texts_PutTime.mono : ∀ a0 k, LeO (texts_PutTime.f k a0) (texts_PutTime.f (k + 1) a0) := by
 intro a0 k
 obtain ⟨ih0, ih1⟩ := texts_PutTime.mono_l k
 unfold texts_PutTime.f
 repeat' first
   | (with_reducible exact ih0 _ _)
   | (with_reducible exact ih1 _ _ _ _)
   | (with_reducible exact LeO.refl _)
   | (with_reducible exact LeO.none _)
   | (with_reducible refine LeO.ite ?_ ?_)
   | (with_reducible refine LeO.bind ?_ (fun _ => ?_))
   | (with_reducible refine LeO_bindX ?_ (fun _ => ?_))
   | exact ih0 _ _
   | exact ih1 _ _ _ _
   | exact LeO.none _
   | refine LeO.ite ?_ ?_
   | refine LeO.bind ?_ (fun _ => ?_)
theorem texts_PutTime.calls (k : Nat) (a0 : Int) (r1 : Int) (r2 : List Int) (r3 : Int) (w : World) (h : texts_PutTime.f k a0 = some (r1, r2, r3)) :
  Calls Tryd.prog 83 #[.int .i64 a0] w fun e w' => ∃ v1_ : Value, e = .returned (.tuple #[.int .u8 r1, v1_, .int .i64 r3]) ∧ Kd.Q (Kd.int .u8) 5 w' w.heap.size (fun _ => True) v1_ r2 ∧ Below w.heap.size w w' := by
 have HB := aZ (Below.refl w.heap.size w)
 have H := h
 clear h
 unfold texts_PutTime.f at H
 have HC2 := aZ H
 clear H
 go_enter Tryd.func83, Tryd.ntmps83
 go_upto_region 1 with (fail)
 repeat (go_quiet (fail); go_upto_region 1 with (fail))
 go_cut [18] (fun v18 wc => ∃ (kq : Nat) (x18_1 : Bool), v18 = .bool x18_1 ∧ Aside0 (texts_PutTime.j0 kq a0 x18_1 = some (r1, r2, r3)) ∧ Aside0 (kq ≤ k) ∧ Aside0 (Below w.heap.size w wc))
 case first =>
  have H := HC2.out
  clear HC2
  by_cases c3 : a0 < (-631152000)
  ·rw [if_pos c3] at H
   have c3b0 : decide (a0 < (-631152000)) = true := decide_eq_true c3
   clear c3
   (first | rw [c3b0] | (simp only [i64_w, i32_w]; rw [c3b0]) | skip)
   have H' := aZ H
   clear H
   go_wp2
   repeat (go_quiet (fail); try go_wp2)
   go_meet
   case rel => exact ⟨_, (true), rS, H', ⟨by first | omega | exact Nat.le_refl _⟩, ⟨bB⟩⟩
  ·rw [if_neg c3] at H
   have c3b0 : decide (a0 < (-631152000)) = false := decide_eq_false c3
   clear c3
   (first | rw [c3b0] | (simp only [i64_w, i32_w]; rw [c3b0]) | skip)
   have H' := aZ H
   clear H
   go_wp2
   repeat (go_quiet (fail); try go_wp2)
   go_meet
   case rel => exact ⟨_, (decide (a0 > 253402300799)), rS, H', ⟨by first | omega | exact Nat.le_refl _⟩, ⟨bB⟩⟩
 case rest =>
  clear HC2
  try clear p2
  try clear c3
  try clear c3b0
  obtain ⟨kq, x18_1, rfl, HA, HJ1, HB⟩ := hcut
  cases kq with
  | zero => exact absurd HA.out (by simp [texts_PutTime.j0])
  | succ kj1 =>
   have H := HA.out
   clear HA
   simp only [texts_PutTime.j0] at H
   by_cases c4 : x18_1 = true
   ·subst c4
    rw [if_pos rfl] at H
    simp only [Option.some.injEq, Prod.mk.injEq] at H
    obtain ⟨rfl, rfl, rfl⟩ := H
    go_wp2
    repeat (go_quiet (fail); try go_wp2)
    go_ret3
    exact ⟨_, rF, Kd.Q_of_R (nN), bB⟩
   ·replace c4 := Bool.eq_false_iff.mpr c4
    subst c4
    rw [if_neg (show ¬ (false = true) by decide)] at H
    replace H := Option.bind_eq_some_iff.mp H
    obtain ⟨⟨t166, t167, t168⟩, A50, H⟩ := H
    try dsimp only at H
    have A5 := aZ A50
    clear A50
    obtain ⟨y169, hy169⟩ : ∃ y_ : List Int, y_ = (([(wrap64 (Int.tdiv t166 1000)) % 256, (Int.tmod (wrap64 (Int.tdiv t166 100)) 10) % 256] : List Int)) := ⟨_, rfl⟩
    replace H : ((some (([(wrap64 (Int.tdiv (Int.tmod t166 100) 10)) % 256, (Int.tmod (Int.tmod t166 100) 10) % 256] : List Int) : List Int)).bind fun y172 => (if y169.length + y172.length < 140737488355328 then ((some (y169 ++ y172 : List Int)).bind fun y175 => ((some (([(wrap64 (Int.tdiv t167 10)) % 256, (Int.tmod t167 10) % 256] : List Int) : List Int)).bind fun y178 => (if y175.length + y178.length < 140737488355328 then ((some (y175 ++ y178 : List Int)).bind fun y181 => ((some (([(wrap64 (Int.tdiv t168 10)) % 256, (Int.tmod t168 10) % 256] : List Int) : List Int)).bind fun y184 => (if y181.length + y184.length < 140737488355328 then ((some (y181 ++ y184 : List Int)).bind fun y187 => ((some (([(wrap64 (Int.tdiv (wrap64 (Int.tdiv (Int.tmod (wrap64 (a0 + 631152000)) 86400) 3600)) 10)) % 256, (Int.tmod (wrap64 (Int.tdiv (Int.tmod (wrap64 (a0 + 631152000)) 86400) 3600)) 10) % 256] : List Int) : List Int)).bind fun y190 => (if y187.length + y190.length < 140737488355328 then ((some (y187 ++ y190 : List Int)).bind fun y193 => ((some (([(wrap64 (Int.tdiv (Int.tmod (wrap64 (Int.tdiv (Int.tmod (wrap64 (a0 + 631152000)) 86400) 60)) 60) 10)) % 256, (Int.tmod (Int.tmod (wrap64 (Int.tdiv (Int.tmod (wrap64 (a0 + 631152000)) 86400) 60)) 60) 10) % 256] : List Int) : List Int)).bind fun y196 => (if y193.length + y196.length < 140737488355328 then ((some (y193 ++ y196 : List Int)).bind fun y199 => ((some (([(wrap64 (Int.tdiv (Int.tmod (Int.tmod (wrap64 (a0 + 631152000)) 86400) 60) 10)) % 256, (Int.tmod (Int.tmod (Int.tmod (wrap64 (a0 + 631152000)) 86400) 60) 10) % 256] : List Int) : List Int)).bind fun y202 => (if y199.length + y202.length < 140737488355328 then ((some (y199 ++ y202 : List Int)).bind fun y205 => (texts_PutTime.l0 kj1 t166 y205 (y205.length : Int) 0)) else (none)))) else (none)))) else (none)))) else (none)))) else (none)))) else (none))) = some (r1, r2, r3) := by first | (rw [hy169]; with_reducible exact H) | (have H2_ := (Option.bind_some _ _).symm.trans H; rw [hy169]; with_reducible exact H2_) | (have H2_ := (Option.bind_some _ _).symm.trans H; with_reducible exact H2_) | with_reducible exact H | (rw [hy169]; exact H) | exact H
    have Ny169 := aZ hy169
    clear hy169
    obtain ⟨y172, hy172⟩ : ∃ y_ : List Int, y_ = (([(wrap64 (Int.tdiv (Int.tmod t166 100) 10)) % 256, (Int.tmod (Int.tmod t166 100) 10) % 256] : List Int)) := ⟨_, rfl⟩
    replace H : (if y169.length + y172.length < 140737488355328 then ((some (y169 ++ y172 : List Int)).bind fun y175 => ((some (([(wrap64 (Int.tdiv t167 10)) % 256, (Int.tmod t167 10) % 256] : List Int) : List Int)).bind fun y178 => (if y175.length + y178.length < 140737488355328 then ((some (y175 ++ y178 : List Int)).bind fun y181 => ((some (([(wrap64 (Int.tdiv t168 10)) % 256, (Int.tmod t168 10) % 256] : List Int) : List Int)).bind fun y184 => (if y181.length + y184.length < 140737488355328 then ((some (y181 ++ y184 : List Int)).bind fun y187 => ((some (([(wrap64 (Int.tdiv (wrap64 (Int.tdiv (Int.tmod (wrap64 (a0 + 631152000)) 86400) 3600)) 10)) % 256, (Int.tmod (wrap64 (Int.tdiv (Int.tmod (wrap64 (a0 + 631152000)) 86400) 3600)) 10) % 256] : List Int) : List Int)).bind fun y190 => (if y187.length + y190.length < 140737488355328 then ((some (y187 ++ y190 : List Int)).bind fun y193 => ((some (([(wrap64 (Int.tdiv (Int.tmod (wrap64 (Int.tdiv (Int.tmod (wrap64 (a0 + 631152000)) 86400) 60)) 60) 10)) % 256, (Int.tmod (Int.tmod (wrap64 (Int.tdiv (Int.tmod (wrap64 (a0 + 631152000)) 86400) 60)) 60) 10) % 256] : List Int) : List Int)).bind fun y196 => (if y193.length + y196.length < 140737488355328 then ((some (y193 ++ y196 : List Int)).bind fun y199 => ((some (([(wrap64 (Int.tdiv (Int.tmod (Int.tmod (wrap64 (a0 + 631152000)) 86400) 60) 10)) % 256, (Int.tmod (Int.tmod (Int.tmod (wrap64 (a0 + 631152000)) 86400) 60) 10) % 256] : List Int) : List Int)).bind fun y202 => (if y199.length + y202.length < 140737488355328 then ((some (y199 ++ y202 : List Int)).bind fun y205 => (texts_PutTime.l0 kj1 t166 y205 (y205.length : Int) 0)) else (none)))) else (none)))) else (none)))) else (none)))) else (none)))) else (none)) = some (r1, r2, r3) := by first | (rw [hy172]; with_reducible exact H) | (have H2_ := (Option.bind_some _ _).symm.trans H; rw [hy172]; with_reducible exact H2_) | (have H2_ := (Option.bind_some _ _).symm.trans H; with_reducible exact H2_) | with_reducible exact H | (rw [hy172]; exact H) | exact H
    have Ny172 := aZ hy172
    clear hy172
    by_cases c6 : y169.length + y172.length < 140737488355328
    ·rw [if_pos c6] at H
     have LMc6 := aZ c6
     clear c6
     obtain ⟨y175, hy175⟩ : ∃ y_ : List Int, y_ = (y169 ++ y172) := ⟨_, rfl⟩
     replace H : ((some (([(wrap64 (Int.tdiv t167 10)) % 256, (Int.tmod t167 10) % 256] : List Int) : List Int)).bind fun y178 => (if y175.length + y178.length < 140737488355328 then ((some (y175 ++ y178 : List Int)).bind fun y181 => ((some (([(wrap64 (Int.tdiv t168 10)) % 256, (Int.tmod t168 10) % 256] : List Int) : List Int)).bind fun y184 => (if y181.length + y184.length < 140737488355328 then ((some (y181 ++ y184 : List Int)).bind fun y187 => ((some (([(wrap64 (Int.tdiv (wrap64 (Int.tdiv (Int.tmod (wrap64 (a0 + 631152000)) 86400) 3600)) 10)) % 256, (Int.tmod (wrap64 (Int.tdiv (Int.tmod (wrap64 (a0 + 631152000)) 86400) 3600)) 10) % 256] : List Int) : List Int)).bind fun y190 => (if y187.length + y190.length < 140737488355328 then ((some (y187 ++ y190 : List Int)).bind fun y193 => ((some (([(wrap64 (Int.tdiv (Int.tmod (wrap64 (Int.tdiv (Int.tmod (wrap64 (a0 + 631152000)) 86400) 60)) 60) 10)) % 256, (Int.tmod (Int.tmod (wrap64 (Int.tdiv (Int.tmod (wrap64 (a0 + 631152000)) 86400) 60)) 60) 10) % 256] : List Int) : List Int)).bind fun y196 => (if y193.length + y196.length < 140737488355328 then ((some (y193 ++ y196 : List Int)).bind fun y199 => ((some (([(wrap64 (Int.tdiv (Int.tmod (Int.tmod (wrap64 (a0 + 631152000)) 86400) 60) 10)) % 256, (Int.tmod (Int.tmod (Int.tmod (wrap64 (a0 + 631152000)) 86400) 60) 10) % 256] : List Int) : List Int)).bind fun y202 => (if y199.length + y202.length < 140737488355328 then ((some (y199 ++ y202 : List Int)).bind fun y205 => (texts_PutTime.l0 kj1 t166 y205 (y205.length : Int) 0)) else (none)))) else (none)))) else (none)))) else (none)))) else (none))) = some (r1, r2, r3) := by first | (rw [hy175]; with_reducible exact H) | (have H2_ := (Option.bind_some _ _).symm.trans H; rw [hy175]; with_reducible exact H2_) | (have H2_ := (Option.bind_some _ _).symm.trans H; with_reducible exact H2_) | with_reducible exact H | (rw [hy175]; exact H) | exact H
     have Ny175 := aZ hy175
     clear hy175
     obtain ⟨y178, hy178⟩ : ∃ y_ : List Int, y_ = (([(wrap64 (Int.tdiv t167 10)) % 256, (Int.tmod t167 10) % 256] : List Int)) := ⟨_, rfl⟩
     replace H : (if y175.length + y178.length < 140737488355328 then ((some (y175 ++ y178 : List Int)).bind fun y181 => ((some (([(wrap64 (Int.tdiv t168 10)) % 256, (Int.tmod t168 10) % 256] : List Int) : List Int)).bind fun y184 => (if y181.length + y184.length < 140737488355328 then ((some (y181 ++ y184 : List Int)).bind fun y187 => ((some (([(wrap64 (Int.tdiv (wrap64 (Int.tdiv (Int.tmod (wrap64 (a0 + 631152000)) 86400) 3600)) 10)) % 256, (Int.tmod (wrap64 (Int.tdiv (Int.tmod (wrap64 (a0 + 631152000)) 86400) 3600)) 10) % 256] : List Int) : List Int)).bind fun y190 => (if y187.length + y190.length < 140737488355328 then ((some (y187 ++ y190 : List Int)).bind fun y193 => ((some (([(wrap64 (Int.tdiv (Int.tmod (wrap64 (Int.tdiv (Int.tmod (wrap64 (a0 + 631152000)) 86400) 60)) 60) 10)) % 256, (Int.tmod (Int.tmod (wrap64 (Int.tdiv (Int.tmod (wrap64 (a0 + 631152000)) 86400) 60)) 60) 10) % 256] : List Int) : List Int)).bind fun y196 => (if y193.length + y196.length < 140737488355328 then ((some (y193 ++ y196 : List Int)).bind fun y199 => ((some (([(wrap64 (Int.tdiv (Int.tmod (Int.tmod (wrap64 (a0 + 631152000)) 86400) 60) 10)) % 256, (Int.tmod (Int.tmod (Int.tmod (wrap64 (a0 + 631152000)) 86400) 60) 10) % 256] : List Int) : List Int)).bind fun y202 => (if y199.length + y202.length < 140737488355328 then ((some (y199 ++ y202 : List Int)).bind fun y205 => (texts_PutTime.l0 kj1 t166 y205 (y205.length : Int) 0)) else (none)))) else (none)))) else (none)))) else (none)))) else (none)) = some (r1, r2, r3) := by first | (rw [hy178]; with_reducible exact H) | (have H2_ := (Option.bind_some _ _).symm.trans H; rw [hy178]; with_reducible exact H2_) | (have H2_ := (Option.bind_some _ _).symm.trans H; with_reducible exact H2_) | with_reducible exact H | (rw [hy178]; exact H) | exact H
     have Ny178 := aZ hy178
     clear hy178
     by_cases c7 : y175.length + y178.length < 140737488355328
     ·rw [if_pos c7] at H
      have LMc7 := aZ c7
      clear c7
      obtain ⟨y181, hy181⟩ : ∃ y_ : List Int, y_ = (y175 ++ y178) := ⟨_, rfl⟩
      replace H : ((some (([(wrap64 (Int.tdiv t168 10)) % 256, (Int.tmod t168 10) % 256] : List Int) : List Int)).bind fun y184 => (if y181.length + y184.length < 140737488355328 then ((some (y181 ++ y184 : List Int)).bind fun y187 => ((some (([(wrap64 (Int.tdiv (wrap64 (Int.tdiv (Int.tmod (wrap64 (a0 + 631152000)) 86400) 3600)) 10)) % 256, (Int.tmod (wrap64 (Int.tdiv (Int.tmod (wrap64 (a0 + 631152000)) 86400) 3600)) 10) % 256] : List Int) : List Int)).bind fun y190 => (if y187.length + y190.length < 140737488355328 then ((some (y187 ++ y190 : List Int)).bind fun y193 => ((some (([(wrap64 (Int.tdiv (Int.tmod (wrap64 (Int.tdiv (Int.tmod (wrap64 (a0 + 631152000)) 86400) 60)) 60) 10)) % 256, (Int.tmod (Int.tmod (wrap64 (Int.tdiv (Int.tmod (wrap64 (a0 + 631152000)) 86400) 60)) 60) 10) % 256] : List Int) : List Int)).bind fun y196 => (if y193.length + y196.length < 140737488355328 then ((some (y193 ++ y196 : List Int)).bind fun y199 => ((some (([(wrap64 (Int.tdiv (Int.tmod (Int.tmod (wrap64 (a0 + 631152000)) 86400) 60) 10)) % 256, (Int.tmod (Int.tmod (Int.tmod (wrap64 (a0 + 631152000)) 86400) 60) 10) % 256] : List Int) : List Int)).bind fun y202 => (if y199.length + y202.length < 140737488355328 then ((some (y199 ++ y202 : List Int)).bind fun y205 => (texts_PutTime.l0 kj1 t166 y205 (y205.length : Int) 0)) else (none)))) else (none)))) else (none)))) else (none))) = some (r1, r2, r3) := by first | (rw [hy181]; with_reducible exact H) | (have H2_ := (Option.bind_some _ _).symm.trans H; rw [hy181]; with_reducible exact H2_) | (have H2_ := (Option.bind_some _ _).symm.trans H; with_reducible exact H2_) | with_reducible exact H | (rw [hy181]; exact H) | exact H
      have Ny181 := aZ hy181
      clear hy181
      obtain ⟨y184, hy184⟩ : ∃ y_ : List Int, y_ = (([(wrap64 (Int.tdiv t168 10)) % 256, (Int.tmod t168 10) % 256] : List Int)) := ⟨_, rfl⟩
      replace H : (if y181.length + y184.length < 140737488355328 then ((some (y181 ++ y184 : List Int)).bind fun y187 => ((some (([(wrap64 (Int.tdiv (wrap64 (Int.tdiv (Int.tmod (wrap64 (a0 + 631152000)) 86400) 3600)) 10)) % 256, (Int.tmod (wrap64 (Int.tdiv (Int.tmod (wrap64 (a0 + 631152000)) 86400) 3600)) 10) % 256] : List Int) : List Int)).bind fun y190 => (if y187.length + y190.length < 140737488355328 then ((some (y187 ++ y190 : List Int)).bind fun y193 => ((some (([(wrap64 (Int.tdiv (Int.tmod (wrap64 (Int.tdiv (Int.tmod (wrap64 (a0 + 631152000)) 86400) 60)) 60) 10)) % 256, (Int.tmod (Int.tmod (wrap64 (Int.tdiv (Int.tmod (wrap64 (a0 + 631152000)) 86400) 60)) 60) 10) % 256] : List Int) : List Int)).bind fun y196 => (if y193.length + y196.length < 140737488355328 then ((some (y193 ++ y196 : List Int)).bind fun y199 => ((some (([(wrap64 (Int.tdiv (Int.tmod (Int.tmod (wrap64 (a0 + 631152000)) 86400) 60) 10)) % 256, (Int.tmod (Int.tmod (Int.tmod (wrap64 (a0 + 631152000)) 86400) 60) 10) % 256] : List Int) : List Int)).bind fun y202 => (if y199.length + y202.length < 140737488355328 then ((some (y199 ++ y202 : List Int)).bind fun y205 => (texts_PutTime.l0 kj1 t166 y205 (y205.length : Int) 0)) else (none)))) else (none)))) else (none)))) else (none)) = some (r1, r2, r3) := by first | (rw [hy184]; with_reducible exact H) | (have H2_ := (Option.bind_some _ _).symm.trans H; rw [hy184]; with_reducible exact H2_) | (have H2_ := (Option.bind_some _ _).symm.trans H; with_reducible exact H2_) | with_reducible exact H | (rw [hy184]; exact H) | exact H
      have Ny184 := aZ hy184
      clear hy184
      by_cases c8 : y181.length + y184.length < 140737488355328
      ·rw [if_pos c8] at H
       have LMc8 := aZ c8
       clear c8
       obtain ⟨y187, hy187⟩ : ∃ y_ : List Int, y_ = (y181 ++ y184) := ⟨_, rfl⟩
       replace H : ((some (([(wrap64 (Int.tdiv (wrap64 (Int.tdiv (Int.tmod (wrap64 (a0 + 631152000)) 86400) 3600)) 10)) % 256, (Int.tmod (wrap64 (Int.tdiv (Int.tmod (wrap64 (a0 + 631152000)) 86400) 3600)) 10) % 256] : List Int) : List Int)).bind fun y190 => (if y187.length + y190.length < 140737488355328 then ((some (y187 ++ y190 : List Int)).bind fun y193 => ((some (([(wrap64 (Int.tdiv (Int.tmod (wrap64 (Int.tdiv (Int.tmod (wrap64 (a0 + 631152000)) 86400) 60)) 60) 10)) % 256, (Int.tmod (Int.tmod (wrap64 (Int.tdiv (Int.tmod (wrap64 (a0 + 631152000)) 86400) 60)) 60) 10) % 256] : List Int) : List Int)).bind fun y196 => (if y193.length + y196.length < 140737488355328 then ((some (y193 ++ y196 : List Int)).bind fun y199 => ((some (([(wrap64 (Int.tdiv (Int.tmod (Int.tmod (wrap64 (a0 + 631152000)) 86400) 60) 10)) % 256, (Int.tmod (Int.tmod (Int.tmod (wrap64 (a0 + 631152000)) 86400) 60) 10) % 256] : List Int) : List Int)).bind fun y202 => (if y199.length + y202.length < 140737488355328 then ((some (y199 ++ y202 : List Int)).bind fun y205 => (texts_PutTime.l0 kj1 t166 y205 (y205.length : Int) 0)) else (none)))) else (none)))) else (none))) = some (r1, r2, r3) := by first | (rw [hy187]; with_reducible exact H) | (have H2_ := (Option.bind_some _ _).symm.trans H; rw [hy187]; with_reducible exact H2_) | (have H2_ := (Option.bind_some _ _).symm.trans H; with_reducible exact H2_) | with_reducible exact H | (rw [hy187]; exact H) | exact H
       have Ny187 := aZ hy187
       clear hy187
       obtain ⟨y190, hy190⟩ : ∃ y_ : List Int, y_ = (([(wrap64 (Int.tdiv (wrap64 (Int.tdiv (Int.tmod (wrap64 (a0 + 631152000)) 86400) 3600)) 10)) % 256, (Int.tmod (wrap64 (Int.tdiv (Int.tmod (wrap64 (a0 + 631152000)) 86400) 3600)) 10) % 256] : List Int)) := ⟨_, rfl⟩
       replace H : (if y187.length + y190.length < 140737488355328 then ((some (y187 ++ y190 : List Int)).bind fun y193 => ((some (([(wrap64 (Int.tdiv (Int.tmod (wrap64 (Int.tdiv (Int.tmod (wrap64 (a0 + 631152000)) 86400) 60)) 60) 10)) % 256, (Int.tmod (Int.tmod (wrap64 (Int.tdiv (Int.tmod (wrap64 (a0 + 631152000)) 86400) 60)) 60) 10) % 256] : List Int) : List Int)).bind fun y196 => (if y193.length + y196.length < 140737488355328 then ((some (y193 ++ y196 : List Int)).bind fun y199 => ((some (([(wrap64 (Int.tdiv (Int.tmod (Int.tmod (wrap64 (a0 + 631152000)) 86400) 60) 10)) % 256, (Int.tmod (Int.tmod (Int.tmod (wrap64 (a0 + 631152000)) 86400) 60) 10) % 256] : List Int) : List Int)).bind fun y202 => (if y199.length + y202.length < 140737488355328 then ((some (y199 ++ y202 : List Int)).bind fun y205 => (texts_PutTime.l0 kj1 t166 y205 (y205.length : Int) 0)) else (none)))) else (none)))) else (none)) = some (r1, r2, r3) := by first | (rw [hy190]; with_reducible exact H) | (have H2_ := (Option.bind_some _ _).symm.trans H; rw [hy190]; with_reducible exact H2_) | (have H2_ := (Option.bind_some _ _).symm.trans H; with_reducible exact H2_) | with_reducible exact H | (rw [hy190]; exact H) | exact H
       have Ny190 := aZ hy190
       clear hy190
       by_cases c9 : y187.length + y190.length < 140737488355328
       ·rw [if_pos c9] at H
        have LMc9 := aZ c9
        clear c9
        obtain ⟨y193, hy193⟩ : ∃ y_ : List Int, y_ = (y187 ++ y190) := ⟨_, rfl⟩
        replace H : ((some (([(wrap64 (Int.tdiv (Int.tmod (wrap64 (Int.tdiv (Int.tmod (wrap64 (a0 + 631152000)) 86400) 60)) 60) 10)) % 256, (Int.tmod (Int.tmod (wrap64 (Int.tdiv (Int.tmod (wrap64 (a0 + 631152000)) 86400) 60)) 60) 10) % 256] : List Int) : List Int)).bind fun y196 => (if y193.length + y196.length < 140737488355328 then ((some (y193 ++ y196 : List Int)).bind fun y199 => ((some (([(wrap64 (Int.tdiv (Int.tmod (Int.tmod (wrap64 (a0 + 631152000)) 86400) 60) 10)) % 256, (Int.tmod (Int.tmod (Int.tmod (wrap64 (a0 + 631152000)) 86400) 60) 10) % 256] : List Int) : List Int)).bind fun y202 => (if y199.length + y202.length < 140737488355328 then ((some (y199 ++ y202 : List Int)).bind fun y205 => (texts_PutTime.l0 kj1 t166 y205 (y205.length : Int) 0)) else (none)))) else (none))) = some (r1, r2, r3) := by first | (rw [hy193]; with_reducible exact H) | (have H2_ := (Option.bind_some _ _).symm.trans H; rw [hy193]; with_reducible exact H2_) | (have H2_ := (Option.bind_some _ _).symm.trans H; with_reducible exact H2_) | with_reducible exact H | (rw [hy193]; exact H) | exact H
        have Ny193 := aZ hy193
        clear hy193
        obtain ⟨y196, hy196⟩ : ∃ y_ : List Int, y_ = (([(wrap64 (Int.tdiv (Int.tmod (wrap64 (Int.tdiv (Int.tmod (wrap64 (a0 + 631152000)) 86400) 60)) 60) 10)) % 256, (Int.tmod (Int.tmod (wrap64 (Int.tdiv (Int.tmod (wrap64 (a0 + 631152000)) 86400) 60)) 60) 10) % 256] : List Int)) := ⟨_, rfl⟩
        replace H : (if y193.length + y196.length < 140737488355328 then ((some (y193 ++ y196 : List Int)).bind fun y199 => ((some (([(wrap64 (Int.tdiv (Int.tmod (Int.tmod (wrap64 (a0 + 631152000)) 86400) 60) 10)) % 256, (Int.tmod (Int.tmod (Int.tmod (wrap64 (a0 + 631152000)) 86400) 60) 10) % 256] : List Int) : List Int)).bind fun y202 => (if y199.length + y202.length < 140737488355328 then ((some (y199 ++ y202 : List Int)).bind fun y205 => (texts_PutTime.l0 kj1 t166 y205 (y205.length : Int) 0)) else (none)))) else (none)) = some (r1, r2, r3) := by first | (rw [hy196]; with_reducible exact H) | (have H2_ := (Option.bind_some _ _).symm.trans H; rw [hy196]; with_reducible exact H2_) | (have H2_ := (Option.bind_some _ _).symm.trans H; with_reducible exact H2_) | with_reducible exact H | (rw [hy196]; exact H) | exact H
        have Ny196 := aZ hy196
        clear hy196
        by_cases c10 : y193.length + y196.length < 140737488355328
        ·rw [if_pos c10] at H
         have LMc10 := aZ c10
         clear c10
         obtain ⟨y199, hy199⟩ : ∃ y_ : List Int, y_ = (y193 ++ y196) := ⟨_, rfl⟩
         replace H : ((some (([(wrap64 (Int.tdiv (Int.tmod (Int.tmod (wrap64 (a0 + 631152000)) 86400) 60) 10)) % 256, (Int.tmod (Int.tmod (Int.tmod (wrap64 (a0 + 631152000)) 86400) 60) 10) % 256] : List Int) : List Int)).bind fun y202 => (if y199.length + y202.length < 140737488355328 then ((some (y199 ++ y202 : List Int)).bind fun y205 => (texts_PutTime.l0 kj1 t166 y205 (y205.length : Int) 0)) else (none))) = some (r1, r2, r3) := by first | (rw [hy199]; with_reducible exact H) | (have H2_ := (Option.bind_some _ _).symm.trans H; rw [hy199]; with_reducible exact H2_) | (have H2_ := (Option.bind_some _ _).symm.trans H; with_reducible exact H2_) | with_reducible exact H | (rw [hy199]; exact H) | exact H
         have Ny199 := aZ hy199
         clear hy199
         obtain ⟨y202, hy202⟩ : ∃ y_ : List Int, y_ = (([(wrap64 (Int.tdiv (Int.tmod (Int.tmod (wrap64 (a0 + 631152000)) 86400) 60) 10)) % 256, (Int.tmod (Int.tmod (Int.tmod (wrap64 (a0 + 631152000)) 86400) 60) 10) % 256] : List Int)) := ⟨_, rfl⟩
         replace H : (if y199.length + y202.length < 140737488355328 then ((some (y199 ++ y202 : List Int)).bind fun y205 => (texts_PutTime.l0 kj1 t166 y205 (y205.length : Int) 0)) else (none)) = some (r1, r2, r3) := by first | (rw [hy202]; with_reducible exact H) | (have H2_ := (Option.bind_some _ _).symm.trans H; rw [hy202]; with_reducible exact H2_) | (have H2_ := (Option.bind_some _ _).symm.trans H; with_reducible exact H2_) | with_reducible exact H | (rw [hy202]; exact H) | exact H
         have Ny202 := aZ hy202
         clear hy202
         by_cases c11 : y199.length + y202.length < 140737488355328
         ·rw [if_pos c11] at H
          have LMc11 := aZ c11
          clear c11
          obtain ⟨y205, hy205⟩ : ∃ y_ : List Int, y_ = (y199 ++ y202) := ⟨_, rfl⟩
          replace H : (texts_PutTime.l0 kj1 t166 y205 (y205.length : Int) 0) = some (r1, r2, r3) := by first | (rw [hy205]; with_reducible exact H) | (have H2_ := (Option.bind_some _ _).symm.trans H; rw [hy205]; with_reducible exact H2_) | (have H2_ := (Option.bind_some _ _).symm.trans H; with_reducible exact H2_) | with_reducible exact H | (rw [hy205]; exact H) | exact H
          have Ny205 := aZ hy205
          clear hy205
          have H' := aZ H
          clear H
          have hu117 := Tryd.underlying117
          have hix0 : ∀ (b0 b1 b2 b3 b4 b5 : Value) (w : World), (Instr.index 117 (.agg #[b0, b1, b2, b3, b4, b5]) (.int .i64 0)).run Tryd.prog w = .ok b0 w := fun _ _ _ _ _ _ _ => by kernel_rfl
          have hix1 : ∀ (b0 b1 b2 b3 b4 b5 : Value) (w : World), (Instr.index 117 (.agg #[b0, b1, b2, b3, b4, b5]) (.int .i64 1)).run Tryd.prog w = .ok b1 w := fun _ _ _ _ _ _ _ => by kernel_rfl
          have hix2 : ∀ (b0 b1 b2 b3 b4 b5 : Value) (w : World), (Instr.index 117 (.agg #[b0, b1, b2, b3, b4, b5]) (.int .i64 2)).run Tryd.prog w = .ok b2 w := fun _ _ _ _ _ _ _ => by kernel_rfl
          have hix3 : ∀ (b0 b1 b2 b3 b4 b5 : Value) (w : World), (Instr.index 117 (.agg #[b0, b1, b2, b3, b4, b5]) (.int .i64 3)).run Tryd.prog w = .ok b3 w := fun _ _ _ _ _ _ _ => by kernel_rfl
          have hix4 : ∀ (b0 b1 b2 b3 b4 b5 : Value) (w : World), (Instr.index 117 (.agg #[b0, b1, b2, b3, b4, b5]) (.int .i64 4)).run Tryd.prog w = .ok b4 w := fun _ _ _ _ _ _ _ => by kernel_rfl
          have hix5 : ∀ (b0 b1 b2 b3 b4 b5 : Value) (w : World), (Instr.index 117 (.agg #[b0, b1, b2, b3, b4, b5]) (.int .i64 5)).run Tryd.prog w = .ok b5 w := fun _ _ _ _ _ _ _ => by kernel_rfl
          go_wp2_with (first | (go_at_call 95; (with_reducible refine (texts_civil.calls (wrap64 ((wrap64 (Int.tdiv (wrap64 (a0 + 631152000)) 86400)) - 7305)) t166 t167 t168 _ A5.out).mono ?_); rintro e w' ⟨rfl, ⟨nd, rfl⟩⟩; (try first | exact ⟨rfl, _, World.drewN_drewN _ _ _⟩ | exact ⟨rfl, _, Eq.trans (World.drewN_drewN _ _ _) (congrArg (World.drewN _) (Nat.add_assoc _ _ _))⟩)) | ((with_reducible refine gD 38 rfl ?_); refine Kd.R_lit (Kd.int .u8) _ 5 ?hg (N := 38) ?hd (xs := ([(wrap64 (Int.tdiv t166 1000)) % 256, (Int.tmod (wrap64 (Int.tdiv t166 100)) 10) % 256] : List Int)) (inner := [.int .u8 ((wrap64 (Int.tdiv t166 1000)) % 256), .int .u8 ((Int.tmod (wrap64 (Int.tdiv t166 100)) 10) % 256)]) (ok := fun _ => True) (okp := fun _ => True) ?hr ?hp (fun _ hk => hk) trivial (Below.refl _ _) (Nat.le_refl _) (by simp) ?_; (case hd => rfl); (case hg => rfl); (case hr => exact gS); (case hp => exact (Reps.one (show Kd.M (Kd.int .u8) _ _ _ ((wrap64 (Int.tdiv t166 1000)) % 256) [.int .u8 ((wrap64 (Int.tdiv t166 1000)) % 256)] from rfl) (Reps.one (show Kd.M (Kd.int .u8) _ _ _ ((Int.tmod (wrap64 (Int.tdiv t166 100)) 10) % 256) [.int .u8 ((Int.tmod (wrap64 (Int.tdiv t166 100)) 10) % 256)] from rfl) (Reps.none _ _)))); intro v170 w12 ho13 hb hg_ hnew_; clear hg_ hnew_; (first | rw [← Ny169.out] at ho13 | (simp only [Int.reduceToNat] at ho13; rw [← Ny169.out] at ho13)); have HO171 := aZ (Kd.R_lower ho13 (below_size bB)); replace HB := aZ (below_step bB hb); clear hb ho13))
          refine wp_loop_rounds 7 ?_
          repeat (rw [rounds_succ]; go_wp2_with (first | ((with_reducible refine gD 61 rfl ?_); refine Kd.R_lit (Kd.int .u8) _ 5 ?hg (N := 61) ?hd (xs := ([(wrap64 (Int.tdiv (Int.tmod t166 100) 10)) % 256, (Int.tmod (Int.tmod t166 100) 10) % 256] : List Int)) (inner := [.int .u8 ((wrap64 (Int.tdiv (Int.tmod t166 100) 10)) % 256), .int .u8 ((Int.tmod (Int.tmod t166 100) 10) % 256)]) (ok := fun _ => True) (okp := fun _ => True) ?hr ?hp (fun _ hk => hk) trivial (Below.refl _ _) (Nat.le_refl _) (by simp) ?_; (case hd => rfl); (case hg => rfl); (case hr => exact gS); (case hp => exact (Reps.one (show Kd.M (Kd.int .u8) _ _ _ ((wrap64 (Int.tdiv (Int.tmod t166 100) 10)) % 256) [.int .u8 ((wrap64 (Int.tdiv (Int.tmod t166 100) 10)) % 256)] from rfl) (Reps.one (show Kd.M (Kd.int .u8) _ _ _ ((Int.tmod (Int.tmod t166 100) 10) % 256) [.int .u8 ((Int.tmod (Int.tmod t166 100) 10) % 256)] from rfl) (Reps.none _ _)))); intro v173 w14 ho15 hb hg_ hnew_; clear hg_ hnew_; (first | rw [← Ny172.out] at ho15 | (simp only [Int.reduceToNat] at ho15; rw [← Ny172.out] at ho15)); have HO174 := aZ (Kd.R_lower (Kd.R_new' ho15 (Kd.R_lt (kR HO171.out))) (below_size bB)); replace HO171 := aZ (Kd.R_elder' (kR HO171.out) (Kd.R_base ho15) hb); replace HB := aZ (below_step bB hb); clear hb ho15; obtain ⟨Ao17, co17, eo17⟩ := Kd.R_slice HO174.out; subst eo17) | ((with_reducible refine gate_builtin (b := .append) (xs := #[.tmp 54, .tmp 61]) rfl ?_); at_builtin; refine Kd.R_append_rows (Kd.int .u8) (w0 := w) w.heap.size rfl (.tmp 54) (.tmp 61) 24 5 (.int .u8 0) 1 rfl Tryd.underlying24 info5 rfl (by decide) (by omega) v170 y169 y172 _ _ _ (fun k_ => some k_ ≠ (.slice Ao17 y172.length co17 : Value).ownBlock) (fun _ => False) rfl rfl ?aO ?aR (fun _ _ h => h) (fun _ h => h.elim) ?aF ?aB ?aS ?aL ?_; (case aR => exact kC (Kd.R_reads' HO174.out).2.2); (case aB => exact bB); (case aF => exact (fun k_ hk => Kd.fresh' (Kd.R_lt (kR HO174.out)) k_ hk)); (case aO => exact (by refine kR ?_; exact Kd.R_mono HO171.out (fun _ hk => hk.2))); (case aS => exact (below_size bB)); (case aL => have := LMc6.out; omega); intro v176 w16 ho hb hg hat; rw [← Ny175.out] at ho; replace HO174 := aZ (Kd.R_after (ok := (fun _ => True)) (kR HO174.out) hg hat); replace HB := aZ (hb); have HO177 := aZ (ho); clear HO171; clear ho hb hg hat) | ((with_reducible refine gD 61 rfl ?_); refine Kd.R_lit (Kd.int .u8) _ 5 ?hg (N := 61) ?hd (xs := ([(wrap64 (Int.tdiv t167 10)) % 256, (Int.tmod t167 10) % 256] : List Int)) (inner := [.int .u8 ((wrap64 (Int.tdiv t167 10)) % 256), .int .u8 ((Int.tmod t167 10) % 256)]) (ok := fun _ => True) (okp := fun _ => True) ?hr ?hp (fun _ hk => hk) trivial (Below.refl _ _) (Nat.le_refl _) (by simp) ?_; (case hd => rfl); (case hg => rfl); (case hr => exact gS); (case hp => exact (Reps.one (show Kd.M (Kd.int .u8) _ _ _ ((wrap64 (Int.tdiv t167 10)) % 256) [.int .u8 ((wrap64 (Int.tdiv t167 10)) % 256)] from rfl) (Reps.one (show Kd.M (Kd.int .u8) _ _ _ ((Int.tmod t167 10) % 256) [.int .u8 ((Int.tmod t167 10) % 256)] from rfl) (Reps.none _ _)))); intro v179 w18 ho19 hb hg_ hnew_; clear hg_ hnew_; (first | rw [← Ny178.out] at ho19 | (simp only [Int.reduceToNat] at ho19; rw [← Ny178.out] at ho19)); have HO180 := aZ (Kd.R_lower (Kd.R_new' (Kd.R_new' ho19 (Kd.R_lt (kR HO174.out))) (Kd.R_lt (kR HO177.out))) (below_size bB)); replace HO174 := aZ (Kd.R_elder' (kR HO174.out) (Kd.R_base ho19) hb); replace HO177 := aZ (Kd.R_elder' (kR HO177.out) (Kd.R_base ho19) hb); replace HB := aZ (below_step bB hb); clear hb ho19; obtain ⟨Ao21, co21, eo21⟩ := Kd.R_slice HO180.out; subst eo21) | ((with_reducible refine gate_builtin (b := .append) (xs := #[.tmp 54, .tmp 61]) rfl ?_); at_builtin; refine Kd.R_append_rows (Kd.int .u8) (w0 := w) w.heap.size rfl (.tmp 54) (.tmp 61) 24 5 (.int .u8 0) 1 rfl Tryd.underlying24 info5 rfl (by decide) (by omega) v176 y175 y178 _ _ _ (fun k_ => some k_ ≠ (.slice Ao17 y172.length co17 : Value).ownBlock ∧ some k_ ≠ (.slice Ao21 y178.length co21 : Value).ownBlock) (fun _ => False) rfl rfl ?aO ?aR (fun _ _ h => h) (fun _ h => h.elim) ?aF ?aB ?aS ?aL ?_; (case aR => exact kC (Kd.R_reads' HO180.out).2.2); (case aB => exact bB); (case aF => exact (fun k_ hk => ⟨Kd.fresh' (Kd.R_lt (kR HO174.out)) k_ hk, Kd.fresh' (Kd.R_lt (kR HO180.out)) k_ hk⟩)); (case aO => exact (kR HO177.out)); (case aS => exact (below_size bB)); (case aL => have := LMc7.out; omega); intro v182 w20 ho hb hg hat; rw [← Ny181.out] at ho; replace HO174 := aZ (Kd.R_after (ok := (fun k_ => some k_ ≠ (.slice Ao21 y178.length co21 : Value).ownBlock)) (by refine kR ?_; exact Kd.R_mono HO174.out (fun _ hk => ⟨hk.2, hk.1.2⟩)) hg hat); replace HO180 := aZ (Kd.R_after (ok := (fun k_ => some k_ ≠ (.slice Ao17 y172.length co17 : Value).ownBlock)) (by refine kR ?_; exact Kd.R_mono HO180.out (fun _ hk => ⟨hk.1.2, hk.2⟩)) hg hat); replace HB := aZ (hb); have HO183 := aZ (ho); clear HO177; clear ho hb hg hat) | ((with_reducible refine gD 61 rfl ?_); refine Kd.R_lit (Kd.int .u8) _ 5 ?hg (N := 61) ?hd (xs := ([(wrap64 (Int.tdiv t168 10)) % 256, (Int.tmod t168 10) % 256] : List Int)) (inner := [.int .u8 ((wrap64 (Int.tdiv t168 10)) % 256), .int .u8 ((Int.tmod t168 10) % 256)]) (ok := fun _ => True) (okp := fun _ => True) ?hr ?hp (fun _ hk => hk) trivial (Below.refl _ _) (Nat.le_refl _) (by simp) ?_; (case hd => rfl); (case hg => rfl); (case hr => exact gS); (case hp => exact (Reps.one (show Kd.M (Kd.int .u8) _ _ _ ((wrap64 (Int.tdiv t168 10)) % 256) [.int .u8 ((wrap64 (Int.tdiv t168 10)) % 256)] from rfl) (Reps.one (show Kd.M (Kd.int .u8) _ _ _ ((Int.tmod t168 10) % 256) [.int .u8 ((Int.tmod t168 10) % 256)] from rfl) (Reps.none _ _)))); intro v185 w22 ho23 hb hg_ hnew_; clear hg_ hnew_; (first | rw [← Ny184.out] at ho23 | (simp only [Int.reduceToNat] at ho23; rw [← Ny184.out] at ho23)); have HO186 := aZ (Kd.R_lower (Kd.R_new' (Kd.R_new' (Kd.R_new' ho23 (Kd.R_lt (kR HO174.out))) (Kd.R_lt (kR HO180.out))) (Kd.R_lt (kR HO183.out))) (below_size bB)); replace HO174 := aZ (Kd.R_elder' (kR HO174.out) (Kd.R_base ho23) hb); replace HO180 := aZ (Kd.R_elder' (kR HO180.out) (Kd.R_base ho23) hb); replace HO183 := aZ (Kd.R_elder' (kR HO183.out) (Kd.R_base ho23) hb); replace HB := aZ (below_step bB hb); clear hb ho23; obtain ⟨Ao25, co25, eo25⟩ := Kd.R_slice HO186.out; subst eo25) | ((with_reducible refine gate_builtin (b := .append) (xs := #[.tmp 54, .tmp 61]) rfl ?_); at_builtin; refine Kd.R_append_rows (Kd.int .u8) (w0 := w) w.heap.size rfl (.tmp 54) (.tmp 61) 24 5 (.int .u8 0) 1 rfl Tryd.underlying24 info5 rfl (by decide) (by omega) v182 y181 y184 _ _ _ (fun k_ => some k_ ≠ (.slice Ao17 y172.length co17 : Value).ownBlock ∧ some k_ ≠ (.slice Ao21 y178.length co21 : Value).ownBlock ∧ some k_ ≠ (.slice Ao25 y184.length co25 : Value).ownBlock) (fun _ => False) rfl rfl ?aO ?aR (fun _ _ h => h) (fun _ h => h.elim) ?aF ?aB ?aS ?aL ?_; (case aR => exact kC (Kd.R_reads' HO186.out).2.2); (case aB => exact bB); (case aF => exact (fun k_ hk => ⟨Kd.fresh' (Kd.R_lt (kR HO174.out)) k_ hk, Kd.fresh' (Kd.R_lt (kR HO180.out)) k_ hk, Kd.fresh' (Kd.R_lt (kR HO186.out)) k_ hk⟩)); (case aO => exact (by refine kR ?_; exact Kd.R_mono HO183.out (fun _ hk => ⟨hk.1.1, ⟨hk.1.2, hk.2⟩⟩))); (case aS => exact (below_size bB)); (case aL => have := LMc8.out; omega); intro v188 w24 ho hb hg hat; rw [← Ny187.out] at ho; replace HO174 := aZ (Kd.R_after (ok := (fun k_ => some k_ ≠ (.slice Ao21 y178.length co21 : Value).ownBlock ∧ some k_ ≠ (.slice Ao25 y184.length co25 : Value).ownBlock)) (by refine kR ?_; exact Kd.R_mono HO174.out (fun _ hk => ⟨⟨hk.1.1, hk.2⟩, hk.1.2⟩)) hg hat); replace HO180 := aZ (Kd.R_after (ok := (fun k_ => some k_ ≠ (.slice Ao17 y172.length co17 : Value).ownBlock ∧ some k_ ≠ (.slice Ao25 y184.length co25 : Value).ownBlock)) (by refine kR ?_; exact Kd.R_mono HO180.out (fun _ hk => ⟨⟨hk.1.1, hk.2⟩, hk.1.2⟩)) hg hat); replace HO186 := aZ (Kd.R_after (ok := (fun k_ => some k_ ≠ (.slice Ao17 y172.length co17 : Value).ownBlock ∧ some k_ ≠ (.slice Ao21 y178.length co21 : Value).ownBlock)) (by refine kR ?_; exact Kd.R_mono HO186.out (fun _ hk => ⟨⟨hk.1.1.2, hk.1.2⟩, hk.2⟩)) hg hat); replace HB := aZ (hb); have HO189 := aZ (ho); clear HO183; clear ho hb hg hat) | ((with_reducible refine gD 61 rfl ?_); refine Kd.R_lit (Kd.int .u8) _ 5 ?hg (N := 61) ?hd (xs := ([(wrap64 (Int.tdiv (wrap64 (Int.tdiv (Int.tmod (wrap64 (a0 + 631152000)) 86400) 3600)) 10)) % 256, (Int.tmod (wrap64 (Int.tdiv (Int.tmod (wrap64 (a0 + 631152000)) 86400) 3600)) 10) % 256] : List Int)) (inner := [.int .u8 ((wrap64 (Int.tdiv (wrap64 (Int.tdiv (Int.tmod (wrap64 (a0 + 631152000)) 86400) 3600)) 10)) % 256), .int .u8 ((Int.tmod (wrap64 (Int.tdiv (Int.tmod (wrap64 (a0 + 631152000)) 86400) 3600)) 10) % 256)]) (ok := fun _ => True) (okp := fun _ => True) ?hr ?hp (fun _ hk => hk) trivial (Below.refl _ _) (Nat.le_refl _) (by simp) ?_; (case hd => rfl); (case hg => rfl); (case hr => exact gS); (case hp => exact (Reps.one (show Kd.M (Kd.int .u8) _ _ _ ((wrap64 (Int.tdiv (wrap64 (Int.tdiv (Int.tmod (wrap64 (a0 + 631152000)) 86400) 3600)) 10)) % 256) [.int .u8 ((wrap64 (Int.tdiv (wrap64 (Int.tdiv (Int.tmod (wrap64 (a0 + 631152000)) 86400) 3600)) 10)) % 256)] from rfl) (Reps.one (show Kd.M (Kd.int .u8) _ _ _ ((Int.tmod (wrap64 (Int.tdiv (Int.tmod (wrap64 (a0 + 631152000)) 86400) 3600)) 10) % 256) [.int .u8 ((Int.tmod (wrap64 (Int.tdiv (Int.tmod (wrap64 (a0 + 631152000)) 86400) 3600)) 10) % 256)] from rfl) (Reps.none _ _)))); intro v191 w26 ho27 hb hg_ hnew_; clear hg_ hnew_; (first | rw [← Ny190.out] at ho27 | (simp only [Int.reduceToNat] at ho27; rw [← Ny190.out] at ho27)); have HO192 := aZ (Kd.R_lower (Kd.R_new' (Kd.R_new' (Kd.R_new' (Kd.R_new' ho27 (Kd.R_lt (kR HO174.out))) (Kd.R_lt (kR HO180.out))) (Kd.R_lt (kR HO186.out))) (Kd.R_lt (kR HO189.out))) (below_size bB)); replace HO174 := aZ (Kd.R_elder' (kR HO174.out) (Kd.R_base ho27) hb); replace HO180 := aZ (Kd.R_elder' (kR HO180.out) (Kd.R_base ho27) hb); replace HO186 := aZ (Kd.R_elder' (kR HO186.out) (Kd.R_base ho27) hb); replace HO189 := aZ (Kd.R_elder' (kR HO189.out) (Kd.R_base ho27) hb); replace HB := aZ (below_step bB hb); clear hb ho27; obtain ⟨Ao29, co29, eo29⟩ := Kd.R_slice HO192.out; subst eo29) | ((with_reducible refine gate_builtin (b := .append) (xs := #[.tmp 54, .tmp 61]) rfl ?_); at_builtin; refine Kd.R_append_rows (Kd.int .u8) (w0 := w) w.heap.size rfl (.tmp 54) (.tmp 61) 24 5 (.int .u8 0) 1 rfl Tryd.underlying24 info5 rfl (by decide) (by omega) v188 y187 y190 _ _ _ (fun k_ => some k_ ≠ (.slice Ao17 y172.length co17 : Value).ownBlock ∧ some k_ ≠ (.slice Ao21 y178.length co21 : Value).ownBlock ∧ some k_ ≠ (.slice Ao25 y184.length co25 : Value).ownBlock ∧ some k_ ≠ (.slice Ao29 y190.length co29 : Value).ownBlock) (fun _ => False) rfl rfl ?aO ?aR (fun _ _ h => h) (fun _ h => h.elim) ?aF ?aB ?aS ?aL ?_; (case aR => exact kC (Kd.R_reads' HO192.out).2.2); (case aB => exact bB); (case aF => exact (fun k_ hk => ⟨Kd.fresh' (Kd.R_lt (kR HO174.out)) k_ hk, Kd.fresh' (Kd.R_lt (kR HO180.out)) k_ hk, Kd.fresh' (Kd.R_lt (kR HO186.out)) k_ hk, Kd.fresh' (Kd.R_lt (kR HO192.out)) k_ hk⟩)); (case aO => exact (by refine kR ?_; exact Kd.R_mono HO189.out (fun _ hk => ⟨hk.1.1, ⟨hk.1.2.1, ⟨hk.1.2.2, hk.2⟩⟩⟩))); (case aS => exact (below_size bB)); (case aL => have := LMc9.out; omega); intro v194 w28 ho hb hg hat; rw [← Ny193.out] at ho; replace HO174 := aZ (Kd.R_after (ok := (fun k_ => some k_ ≠ (.slice Ao21 y178.length co21 : Value).ownBlock ∧ some k_ ≠ (.slice Ao25 y184.length co25 : Value).ownBlock ∧ some k_ ≠ (.slice Ao29 y190.length co29 : Value).ownBlock)) (by refine kR ?_; exact Kd.R_mono HO174.out (fun _ hk => ⟨⟨hk.1.1.1, ⟨hk.1.1.2, hk.2⟩⟩, hk.1.2⟩)) hg hat); replace HO180 := aZ (Kd.R_after (ok := (fun k_ => some k_ ≠ (.slice Ao17 y172.length co17 : Value).ownBlock ∧ some k_ ≠ (.slice Ao25 y184.length co25 : Value).ownBlock ∧ some k_ ≠ (.slice Ao29 y190.length co29 : Value).ownBlock)) (by refine kR ?_; exact Kd.R_mono HO180.out (fun _ hk => ⟨⟨hk.1.1.1, ⟨hk.1.1.2, hk.2⟩⟩, hk.1.2⟩)) hg hat); replace HO186 := aZ (Kd.R_after (ok := (fun k_ => some k_ ≠ (.slice Ao17 y172.length co17 : Value).ownBlock ∧ some k_ ≠ (.slice Ao21 y178.length co21 : Value).ownBlock ∧ some k_ ≠ (.slice Ao29 y190.length co29 : Value).ownBlock)) (by refine kR ?_; exact Kd.R_mono HO186.out (fun _ hk => ⟨⟨hk.1.1.1, ⟨hk.1.1.2, hk.2⟩⟩, hk.1.2⟩)) hg hat); replace HO192 := aZ (Kd.R_after (ok := (fun k_ => some k_ ≠ (.slice Ao17 y172.length co17 : Value).ownBlock ∧ some k_ ≠ (.slice Ao21 y178.length co21 : Value).ownBlock ∧ some k_ ≠ (.slice Ao25 y184.length co25 : Value).ownBlock)) (by refine kR ?_; exact Kd.R_mono HO192.out (fun _ hk => ⟨⟨hk.1.1.1.2, ⟨hk.1.1.2, hk.1.2⟩⟩, hk.2⟩)) hg hat); replace HB := aZ (hb); have HO195 := aZ (ho); clear HO189; clear ho hb hg hat) | ((with_reducible refine gD 61 rfl ?_); refine Kd.R_lit (Kd.int .u8) _ 5 ?hg (N := 61) ?hd (xs := ([(wrap64 (Int.tdiv (Int.tmod (wrap64 (Int.tdiv (Int.tmod (wrap64 (a0 + 631152000)) 86400) 60)) 60) 10)) % 256, (Int.tmod (Int.tmod (wrap64 (Int.tdiv (Int.tmod (wrap64 (a0 + 631152000)) 86400) 60)) 60) 10) % 256] : List Int)) (inner := [.int .u8 ((wrap64 (Int.tdiv (Int.tmod (wrap64 (Int.tdiv (Int.tmod (wrap64 (a0 + 631152000)) 86400) 60)) 60) 10)) % 256), .int .u8 ((Int.tmod (Int.tmod (wrap64 (Int.tdiv (Int.tmod (wrap64 (a0 + 631152000)) 86400) 60)) 60) 10) % 256)]) (ok := fun _ => True) (okp := fun _ => True) ?hr ?hp (fun _ hk => hk) trivial (Below.refl _ _) (Nat.le_refl _) (by simp) ?_; (case hd => rfl); (case hg => rfl); (case hr => exact gS); (case hp => exact (Reps.one (show Kd.M (Kd.int .u8) _ _ _ ((wrap64 (Int.tdiv (Int.tmod (wrap64 (Int.tdiv (Int.tmod (wrap64 (a0 + 631152000)) 86400) 60)) 60) 10)) % 256) [.int .u8 ((wrap64 (Int.tdiv (Int.tmod (wrap64 (Int.tdiv (Int.tmod (wrap64 (a0 + 631152000)) 86400) 60)) 60) 10)) % 256)] from rfl) (Reps.one (show Kd.M (Kd.int .u8) _ _ _ ((Int.tmod (Int.tmod (wrap64 (Int.tdiv (Int.tmod (wrap64 (a0 + 631152000)) 86400) 60)) 60) 10) % 256) [.int .u8 ((Int.tmod (Int.tmod (wrap64 (Int.tdiv (Int.tmod (wrap64 (a0 + 631152000)) 86400) 60)) 60) 10) % 256)] from rfl) (Reps.none _ _)))); intro v197 w30 ho31 hb hg_ hnew_; clear hg_ hnew_; (first | rw [← Ny196.out] at ho31 | (simp only [Int.reduceToNat] at ho31; rw [← Ny196.out] at ho31)); have HO198 := aZ (Kd.R_lower (Kd.R_new' (Kd.R_new' (Kd.R_new' (Kd.R_new' (Kd.R_new' ho31 (Kd.R_lt (kR HO174.out))) (Kd.R_lt (kR HO180.out))) (Kd.R_lt (kR HO186.out))) (Kd.R_lt (kR HO192.out))) (Kd.R_lt (kR HO195.out))) (below_size bB)); replace HO174 := aZ (Kd.R_elder' (kR HO174.out) (Kd.R_base ho31) hb); replace HO180 := aZ (Kd.R_elder' (kR HO180.out) (Kd.R_base ho31) hb); replace HO186 := aZ (Kd.R_elder' (kR HO186.out) (Kd.R_base ho31) hb); replace HO192 := aZ (Kd.R_elder' (kR HO192.out) (Kd.R_base ho31) hb); replace HO195 := aZ (Kd.R_elder' (kR HO195.out) (Kd.R_base ho31) hb); replace HB := aZ (below_step bB hb); clear hb ho31; obtain ⟨Ao33, co33, eo33⟩ := Kd.R_slice HO198.out; subst eo33) | ((with_reducible refine gate_builtin (b := .append) (xs := #[.tmp 54, .tmp 61]) rfl ?_); at_builtin; refine Kd.R_append_rows (Kd.int .u8) (w0 := w) w.heap.size rfl (.tmp 54) (.tmp 61) 24 5 (.int .u8 0) 1 rfl Tryd.underlying24 info5 rfl (by decide) (by omega) v194 y193 y196 _ _ _ (fun k_ => some k_ ≠ (.slice Ao17 y172.length co17 : Value).ownBlock ∧ some k_ ≠ (.slice Ao21 y178.length co21 : Value).ownBlock ∧ some k_ ≠ (.slice Ao25 y184.length co25 : Value).ownBlock ∧ some k_ ≠ (.slice Ao29 y190.length co29 : Value).ownBlock ∧ some k_ ≠ (.slice Ao33 y196.length co33 : Value).ownBlock) (fun _ => False) rfl rfl ?aO ?aR (fun _ _ h => h) (fun _ h => h.elim) ?aF ?aB ?aS ?aL ?_; (case aR => exact kC (Kd.R_reads' HO198.out).2.2); (case aB => exact bB); (case aF => exact (fun k_ hk => ⟨Kd.fresh' (Kd.R_lt (kR HO174.out)) k_ hk, Kd.fresh' (Kd.R_lt (kR HO180.out)) k_ hk, Kd.fresh' (Kd.R_lt (kR HO186.out)) k_ hk, Kd.fresh' (Kd.R_lt (kR HO192.out)) k_ hk, Kd.fresh' (Kd.R_lt (kR HO198.out)) k_ hk⟩)); (case aO => exact (by refine kR ?_; exact Kd.R_mono HO195.out (fun _ hk => ⟨hk.1.1, ⟨hk.1.2.1, ⟨hk.1.2.2.1, ⟨hk.1.2.2.2, hk.2⟩⟩⟩⟩))); (case aS => exact (below_size bB)); (case aL => have := LMc10.out; omega); intro v200 w32 ho hb hg hat; rw [← Ny199.out] at ho; replace HO174 := aZ (Kd.R_after (ok := (fun k_ => some k_ ≠ (.slice Ao21 y178.length co21 : Value).ownBlock ∧ some k_ ≠ (.slice Ao25 y184.length co25 : Value).ownBlock ∧ some k_ ≠ (.slice Ao29 y190.length co29 : Value).ownBlock ∧ some k_ ≠ (.slice Ao33 y196.length co33 : Value).ownBlock)) (by refine kR ?_; exact Kd.R_mono HO174.out (fun _ hk => ⟨⟨hk.1.1.1, ⟨hk.1.1.2.1, ⟨hk.1.1.2.2, hk.2⟩⟩⟩, hk.1.2⟩)) hg hat); replace HO180 := aZ (Kd.R_after (ok := (fun k_ => some k_ ≠ (.slice Ao17 y172.length co17 : Value).ownBlock ∧ some k_ ≠ (.slice Ao25 y184.length co25 : Value).ownBlock ∧ some k_ ≠ (.slice Ao29 y190.length co29 : Value).ownBlock ∧ some k_ ≠ (.slice Ao33 y196.length co33 : Value).ownBlock)) (by refine kR ?_; exact Kd.R_mono HO180.out (fun _ hk => ⟨⟨hk.1.1.1, ⟨hk.1.1.2.1, ⟨hk.1.1.2.2, hk.2⟩⟩⟩, hk.1.2⟩)) hg hat); replace HO186 := aZ (Kd.R_after (ok := (fun k_ => some k_ ≠ (.slice Ao17 y172.length co17 : Value).ownBlock ∧ some k_ ≠ (.slice Ao21 y178.length co21 : Value).ownBlock ∧ some k_ ≠ (.slice Ao29 y190.length co29 : Value).ownBlock ∧ some k_ ≠ (.slice Ao33 y196.length co33 : Value).ownBlock)) (by refine kR ?_; exact Kd.R_mono HO186.out (fun _ hk => ⟨⟨hk.1.1.1, ⟨hk.1.1.2.1, ⟨hk.1.1.2.2, hk.2⟩⟩⟩, hk.1.2⟩)) hg hat); replace HO192 := aZ (Kd.R_after (ok := (fun k_ => some k_ ≠ (.slice Ao17 y172.length co17 : Value).ownBlock ∧ some k_ ≠ (.slice Ao21 y178.length co21 : Value).ownBlock ∧ some k_ ≠ (.slice Ao25 y184.length co25 : Value).ownBlock ∧ some k_ ≠ (.slice Ao33 y196.length co33 : Value).ownBlock)) (by refine kR ?_; exact Kd.R_mono HO192.out (fun _ hk => ⟨⟨hk.1.1.1, ⟨hk.1.1.2.1, ⟨hk.1.1.2.2, hk.2⟩⟩⟩, hk.1.2⟩)) hg hat); replace HO198 := aZ (Kd.R_after (ok := (fun k_ => some k_ ≠ (.slice Ao17 y172.length co17 : Value).ownBlock ∧ some k_ ≠ (.slice Ao21 y178.length co21 : Value).ownBlock ∧ some k_ ≠ (.slice Ao25 y184.length co25 : Value).ownBlock ∧ some k_ ≠ (.slice Ao29 y190.length co29 : Value).ownBlock)) (by refine kR ?_; exact Kd.R_mono HO198.out (fun _ hk => ⟨⟨hk.1.1.1.1.2, ⟨hk.1.1.1.2, ⟨hk.1.1.2, hk.1.2⟩⟩⟩, hk.2⟩)) hg hat); replace HB := aZ (hb); have HO201 := aZ (ho); clear HO195; clear ho hb hg hat) | ((with_reducible refine gD 61 rfl ?_); refine Kd.R_lit (Kd.int .u8) _ 5 ?hg (N := 61) ?hd (xs := ([(wrap64 (Int.tdiv (Int.tmod (Int.tmod (wrap64 (a0 + 631152000)) 86400) 60) 10)) % 256, (Int.tmod (Int.tmod (Int.tmod (wrap64 (a0 + 631152000)) 86400) 60) 10) % 256] : List Int)) (inner := [.int .u8 ((wrap64 (Int.tdiv (Int.tmod (Int.tmod (wrap64 (a0 + 631152000)) 86400) 60) 10)) % 256), .int .u8 ((Int.tmod (Int.tmod (Int.tmod (wrap64 (a0 + 631152000)) 86400) 60) 10) % 256)]) (ok := fun _ => True) (okp := fun _ => True) ?hr ?hp (fun _ hk => hk) trivial (Below.refl _ _) (Nat.le_refl _) (by simp) ?_; (case hd => rfl); (case hg => rfl); (case hr => exact gS); (case hp => exact (Reps.one (show Kd.M (Kd.int .u8) _ _ _ ((wrap64 (Int.tdiv (Int.tmod (Int.tmod (wrap64 (a0 + 631152000)) 86400) 60) 10)) % 256) [.int .u8 ((wrap64 (Int.tdiv (Int.tmod (Int.tmod (wrap64 (a0 + 631152000)) 86400) 60) 10)) % 256)] from rfl) (Reps.one (show Kd.M (Kd.int .u8) _ _ _ ((Int.tmod (Int.tmod (Int.tmod (wrap64 (a0 + 631152000)) 86400) 60) 10) % 256) [.int .u8 ((Int.tmod (Int.tmod (Int.tmod (wrap64 (a0 + 631152000)) 86400) 60) 10) % 256)] from rfl) (Reps.none _ _)))); intro v203 w34 ho35 hb hg_ hnew_; clear hg_ hnew_; (first | rw [← Ny202.out] at ho35 | (simp only [Int.reduceToNat] at ho35; rw [← Ny202.out] at ho35)); have HO204 := aZ (Kd.R_lower (Kd.R_new' (Kd.R_new' (Kd.R_new' (Kd.R_new' (Kd.R_new' (Kd.R_new' ho35 (Kd.R_lt (kR HO174.out))) (Kd.R_lt (kR HO180.out))) (Kd.R_lt (kR HO186.out))) (Kd.R_lt (kR HO192.out))) (Kd.R_lt (kR HO198.out))) (Kd.R_lt (kR HO201.out))) (below_size bB)); replace HO174 := aZ (Kd.R_elder' (kR HO174.out) (Kd.R_base ho35) hb); replace HO180 := aZ (Kd.R_elder' (kR HO180.out) (Kd.R_base ho35) hb); replace HO186 := aZ (Kd.R_elder' (kR HO186.out) (Kd.R_base ho35) hb); replace HO192 := aZ (Kd.R_elder' (kR HO192.out) (Kd.R_base ho35) hb); replace HO198 := aZ (Kd.R_elder' (kR HO198.out) (Kd.R_base ho35) hb); replace HO201 := aZ (Kd.R_elder' (kR HO201.out) (Kd.R_base ho35) hb); replace HB := aZ (below_step bB hb); clear hb ho35; obtain ⟨Ao37, co37, eo37⟩ := Kd.R_slice HO204.out; subst eo37) | ((with_reducible refine gate_builtin (b := .append) (xs := #[.tmp 54, .tmp 61]) rfl ?_); at_builtin; refine Kd.R_append_rows (Kd.int .u8) (w0 := w) w.heap.size rfl (.tmp 54) (.tmp 61) 24 5 (.int .u8 0) 1 rfl Tryd.underlying24 info5 rfl (by decide) (by omega) v200 y199 y202 _ _ _ (fun k_ => some k_ ≠ (.slice Ao17 y172.length co17 : Value).ownBlock ∧ some k_ ≠ (.slice Ao21 y178.length co21 : Value).ownBlock ∧ some k_ ≠ (.slice Ao25 y184.length co25 : Value).ownBlock ∧ some k_ ≠ (.slice Ao29 y190.length co29 : Value).ownBlock ∧ some k_ ≠ (.slice Ao33 y196.length co33 : Value).ownBlock ∧ some k_ ≠ (.slice Ao37 y202.length co37 : Value).ownBlock) (fun _ => False) rfl rfl ?aO ?aR (fun _ _ h => h) (fun _ h => h.elim) ?aF ?aB ?aS ?aL ?_; (case aR => exact kC (Kd.R_reads' HO204.out).2.2); (case aB => exact bB); (case aF => exact (fun k_ hk => ⟨Kd.fresh' (Kd.R_lt (kR HO174.out)) k_ hk, Kd.fresh' (Kd.R_lt (kR HO180.out)) k_ hk, Kd.fresh' (Kd.R_lt (kR HO186.out)) k_ hk, Kd.fresh' (Kd.R_lt (kR HO192.out)) k_ hk, Kd.fresh' (Kd.R_lt (kR HO198.out)) k_ hk, Kd.fresh' (Kd.R_lt (kR HO204.out)) k_ hk⟩)); (case aO => exact (by refine kR ?_; exact Kd.R_mono HO201.out (fun _ hk => ⟨hk.1.1, ⟨hk.1.2.1, ⟨hk.1.2.2.1, ⟨hk.1.2.2.2.1, ⟨hk.1.2.2.2.2, hk.2⟩⟩⟩⟩⟩))); (case aS => exact (below_size bB)); (case aL => have := LMc11.out; omega); intro v206 w36 ho hb hg hat; rw [← Ny205.out] at ho; replace HO174 := aZ (Kd.R_after (ok := (fun k_ => some k_ ≠ (.slice Ao21 y178.length co21 : Value).ownBlock ∧ some k_ ≠ (.slice Ao25 y184.length co25 : Value).ownBlock ∧ some k_ ≠ (.slice Ao29 y190.length co29 : Value).ownBlock ∧ some k_ ≠ (.slice Ao33 y196.length co33 : Value).ownBlock ∧ some k_ ≠ (.slice Ao37 y202.length co37 : Value).ownBlock)) (by refine kR ?_; exact Kd.R_mono HO174.out (fun _ hk => ⟨⟨hk.1.1.1, ⟨hk.1.1.2.1, ⟨hk.1.1.2.2.1, ⟨hk.1.1.2.2.2, hk.2⟩⟩⟩⟩, hk.1.2⟩)) hg hat); replace HO180 := aZ (Kd.R_after (ok := (fun k_ => some k_ ≠ (.slice Ao17 y172.length co17 : Value).ownBlock ∧ some k_ ≠ (.slice Ao25 y184.length co25 : Value).ownBlock ∧ some k_ ≠ (.slice Ao29 y190.length co29 : Value).ownBlock ∧ some k_ ≠ (.slice Ao33 y196.length co33 : Value).ownBlock ∧ some k_ ≠ (.slice Ao37 y202.length co37 : Value).ownBlock)) (by refine kR ?_; exact Kd.R_mono HO180.out (fun _ hk => ⟨⟨hk.1.1.1, ⟨hk.1.1.2.1, ⟨hk.1.1.2.2.1, ⟨hk.1.1.2.2.2, hk.2⟩⟩⟩⟩, hk.1.2⟩)) hg hat); replace HO186 := aZ (Kd.R_after (ok := (fun k_ => some k_ ≠ (.slice Ao17 y172.length co17 : Value).ownBlock ∧ some k_ ≠ (.slice Ao21 y178.length co21 : Value).ownBlock ∧ some k_ ≠ (.slice Ao29 y190.length co29 : Value).ownBlock ∧ some k_ ≠ (.slice Ao33 y196.length co33 : Value).ownBlock ∧ some k_ ≠ (.slice Ao37 y202.length co37 : Value).ownBlock)) (by refine kR ?_; exact Kd.R_mono HO186.out (fun _ hk => ⟨⟨hk.1.1.1, ⟨hk.1.1.2.1, ⟨hk.1.1.2.2.1, ⟨hk.1.1.2.2.2, hk.2⟩⟩⟩⟩, hk.1.2⟩)) hg hat); replace HO192 := aZ (Kd.R_after (ok := (fun k_ => some k_ ≠ (.slice Ao17 y172.length co17 : Value).ownBlock ∧ some k_ ≠ (.slice Ao21 y178.length co21 : Value).ownBlock ∧ some k_ ≠ (.slice Ao25 y184.length co25 : Value).ownBlock ∧ some k_ ≠ (.slice Ao33 y196.length co33 : Value).ownBlock ∧ some k_ ≠ (.slice Ao37 y202.length co37 : Value).ownBlock)) (by refine kR ?_; exact Kd.R_mono HO192.out (fun _ hk => ⟨⟨hk.1.1.1, ⟨hk.1.1.2.1, ⟨hk.1.1.2.2.1, ⟨hk.1.1.2.2.2, hk.2⟩⟩⟩⟩, hk.1.2⟩)) hg hat); replace HO198 := aZ (Kd.R_after (ok := (fun k_ => some k_ ≠ (.slice Ao17 y172.length co17 : Value).ownBlock ∧ some k_ ≠ (.slice Ao21 y178.length co21 : Value).ownBlock ∧ some k_ ≠ (.slice Ao25 y184.length co25 : Value).ownBlock ∧ some k_ ≠ (.slice Ao29 y190.length co29 : Value).ownBlock ∧ some k_ ≠ (.slice Ao37 y202.length co37 : Value).ownBlock)) (by refine kR ?_; exact Kd.R_mono HO198.out (fun _ hk => ⟨⟨hk.1.1.1, ⟨hk.1.1.2.1, ⟨hk.1.1.2.2.1, ⟨hk.1.1.2.2.2, hk.2⟩⟩⟩⟩, hk.1.2⟩)) hg hat); replace HO204 := aZ (Kd.R_after (ok := (fun k_ => some k_ ≠ (.slice Ao17 y172.length co17 : Value).ownBlock ∧ some k_ ≠ (.slice Ao21 y178.length co21 : Value).ownBlock ∧ some k_ ≠ (.slice Ao25 y184.length co25 : Value).ownBlock ∧ some k_ ≠ (.slice Ao29 y190.length co29 : Value).ownBlock ∧ some k_ ≠ (.slice Ao33 y196.length co33 : Value).ownBlock)) (by refine kR ?_; exact Kd.R_mono HO204.out (fun _ hk => ⟨⟨hk.1.1.1.1.1.2, ⟨hk.1.1.1.1.2, ⟨hk.1.1.1.2, ⟨hk.1.1.2, hk.1.2⟩⟩⟩⟩, hk.2⟩)) hg hat); replace HB := aZ (hb); have HO207 := aZ (ho); clear HO201; clear ho hb hg hat; obtain ⟨Ao38, co38, eo38⟩ := Kd.R_slice HO207.out; subst eo38)))
          go_loopg [66] kj1 (fun kq v66 w' => ∃ (x9_2 : List Int) (x66_2 : Int), v66 = .int .i64 x66_2 ∧ Aside0 (texts_PutTime.l0 kq t166 x9_2 (y205.length : Int) x66_2 = some (r1, r2, r3)) ∧ Aside0 (kq ≤ kj1) ∧ Aside0 (Kd.R (Kd.int .u8) 5 w' w.heap.size (fun _ => True) (.slice Ao38 y205.length co38) x9_2) ∧ Aside0 (Below w.heap.size w w'))
          case atStart => exact ⟨(y205), (0), rS, H', ⟨Nat.le_refl _⟩, ⟨by refine kR ?_; exact Kd.R_mono HO207.out (fun _ hk => trivial)⟩, ⟨bB⟩⟩
          case round =>
           clear H'
           try clear c1
           try clear p2
           try clear c3
           try clear c3b0
           try clear c4
           try clear c6
           try clear p6
           try clear c7
           try clear c8
           try clear c9
           try clear c10
           try clear c11
           try clear p2
           obtain ⟨x9_2, x66_2, rfl, HA, HK2, HO_9, HB⟩ := hrel
           have hl9_2 := (Kd.R_reads' HO_9.out).1
           rw [hl9_2] at HO_9
           (try simp only [hl9_2])
           cases gk with
           | zero => exact absurd HA.out (by simp [texts_PutTime.l0])
           | succ k2 =>
            have H := HA.out
            clear HA
            simp only [texts_PutTime.l0] at H
            by_cases c39 : x66_2 < (y205.length : Int)
            ·rw [if_pos c39] at H
             have c39b0 : decide (x66_2 < (y205.length : Int)) = true := decide_eq_true c39
             (try simp only [hl9_2] at c39b0)
             clear c39
             by_cases c40 : 0 ≤ x66_2
             ·rw [if_pos c40] at H
              have c40b0 : decide (0 ≤ x66_2) = true := decide_eq_true c40
              clear c40
              by_cases c41 : x66_2 < (x9_2.length : Int)
              ·rw [if_pos c41] at H
               have c41b0 : decide (x66_2 < (x9_2.length : Int)) = true := decide_eq_true c41
               (try simp only [hl9_2] at c41b0)
               clear c41
               obtain ⟨y209, hy209⟩ : ∃ y_ : List Int, y_ = (x9_2.set (x66_2 : Int).toNat (((rd x9_2 x66_2) + 48) % 256)) := ⟨_, rfl⟩
               replace H : (texts_PutTime.l0 k2 t166 y209 (y205.length : Int) (wrap64 (x66_2 + 1))) = some (r1, r2, r3) := by first | (rw [hy209]; with_reducible exact H) | (have H2_ := (Option.bind_some _ _).symm.trans H; rw [hy209]; with_reducible exact H2_) | (have H2_ := (Option.bind_some _ _).symm.trans H; with_reducible exact H2_) | with_reducible exact H | (rw [hy209]; exact H) | exact H
               have Ny209 := aZ hy209
               clear hy209
               have H' := aZ H
               clear H
               have p208 : 0 ≤ (x66_2 : Int) := oD
               have q208 : x66_2 < (x9_2.length : Int) := oD
               obtain ⟨ad208, e208, hx208_0⟩ := Kd.at_int (Kd.R_reads' HO_9.out).2.2 x66_2 p208 q208
               cases e208
               replace p208 := eq_true p208
               replace q208 := eq_true q208
               have p42 : 0 ≤ (x66_2 : Int) := oD
               have q42 : (x66_2 : Int) < ((x9_2.length : Int) : Int) := oD
               obtain ⟨go42, co42, eo42, gb42, gl42, cl42, HG42⟩ := Kd.R_form HO_9.out (by omega)
               (first | cases eo42 | (injection eo42 with ea_ en_ ec_; (first | subst ea_ | (injection ea_ with ea_; subst ea_)); subst ec_; clear en_))
               have GB42 := aZ gb42
               have GG42 := aZ HG42
               clear gb42 gl42 HG42
               (first | simp only [add_plain] at hx208_0 | skip)
               obtain ⟨hx42_0, hf42_0⟩ := Kd.R_celln 0 HO_9.out (x66_2 : Int) p42 q42
               replace p42 := eq_true p42
               replace q42 := eq_true q42
               have HP43 := Kd.R_putg HO_9.out (x66_2 : Int) (((rd x9_2 x66_2) + 48) % 256)
               go_wp2_with (first | ((with_reducible refine gate_store (t := 5) (p := 74) rfl ?_); (try (rw [drewN_self wr]; generalize hq_ : World.drewN wr _ = wr; replace HO_9 := aZ (Kd.R_at hq_ HO_9.out); replace HB := aZ (below_at hq_ HB.out); clear hq_; (try (have HP43 := Kd.R_putg HO_9.out (x66_2 : Int) (((rd x9_2 x66_2) + 48) % 256))))); refine store_event (t := 5) (p := 74) (v := ?vo_w44) (w1 := (wr.setCell ⟨go42, (x66_2 : Int).toNat, none⟩ (.int .u8 (((rd x9_2 x66_2) + 48) % 256)))) ?hg ?ho ?hn ?hr ?_; (case ho => rfl); (case hg => rfl); (case hn => rfl); (case hr => exact gS); intro w44 hw; have hg : wr.grownBy w44 (some go42) := (by rw [hw]; exact HP43.2); have hp_ : Kd.R (Kd.int .u8) 5 w44 w.heap.size (fun _ => True) (.slice (some ⟨go42, 0, none⟩) x9_2.length co38) y209 := (by rw [hw, Ny209.out]; exact HP43.1); clear HP43; replace HO_9 := aZ (hp_); replace HB := aZ ((by rw [hw]; exact below_set (HB.out) GB42.out : Below w.heap.size w w44)); clear hg hw hp_))
               repeat (go_quiet (first | ((with_reducible refine gate_store (t := 5) (p := 74) rfl ?_); (try (rw [drewN_self wr]; generalize hq_ : World.drewN wr _ = wr; replace HO_9 := aZ (Kd.R_at hq_ HO_9.out); replace HB := aZ (below_at hq_ HB.out); clear hq_; (try (have HP43 := Kd.R_putg HO_9.out (x66_2 : Int) (((rd x9_2 x66_2) + 48) % 256))))); refine store_event (t := 5) (p := 74) (v := ?vo_w44) (w1 := (wr.setCell ⟨go42, (x66_2 : Int).toNat, none⟩ (.int .u8 (((rd x9_2 x66_2) + 48) % 256)))) ?hg ?ho ?hn ?hr ?_; (case ho => rfl); (case hg => rfl); (case hn => rfl); (case hr => exact gS); intro w44 hw; have hg : wr.grownBy w44 (some go42) := (by rw [hw]; exact HP43.2); have hp_ : Kd.R (Kd.int .u8) 5 w44 w.heap.size (fun _ => True) (.slice (some ⟨go42, 0, none⟩) x9_2.length co38) y209 := (by rw [hw, Ny209.out]; exact HP43.1); clear HP43; replace HO_9 := aZ (hp_); replace HB := aZ ((by rw [hw]; exact below_set (HB.out) GB42.out : Below w.heap.size w w44)); clear hg hw hp_)); try go_wp2_with (first | ((with_reducible refine gate_store (t := 5) (p := 74) rfl ?_); (try (rw [drewN_self wr]; generalize hq_ : World.drewN wr _ = wr; replace HO_9 := aZ (Kd.R_at hq_ HO_9.out); replace HB := aZ (below_at hq_ HB.out); clear hq_; (try (have HP43 := Kd.R_putg HO_9.out (x66_2 : Int) (((rd x9_2 x66_2) + 48) % 256))))); refine store_event (t := 5) (p := 74) (v := ?vo_w44) (w1 := (wr.setCell ⟨go42, (x66_2 : Int).toNat, none⟩ (.int .u8 (((rd x9_2 x66_2) + 48) % 256)))) ?hg ?ho ?hn ?hr ?_; (case ho => rfl); (case hg => rfl); (case hn => rfl); (case hr => exact gS); intro w44 hw; have hg : wr.grownBy w44 (some go42) := (by rw [hw]; exact HP43.2); have hp_ : Kd.R (Kd.int .u8) 5 w44 w.heap.size (fun _ => True) (.slice (some ⟨go42, 0, none⟩) x9_2.length co38) y209 := (by rw [hw, Ny209.out]; exact HP43.1); clear HP43; replace HO_9 := aZ (hp_); replace HB := aZ ((by rw [hw]; exact below_set (HB.out) GB42.out : Below w.heap.size w w44)); clear hg hw hp_)))
               (try simp only [← hl9_2])
               go_roundg k2
               case measure => have := HJ1.out; have := HK2.out; omega
               case rel => exact ⟨(y209), (wrap64 (x66_2 + 1)), rS, H', ⟨by have := HJ1.out; have := HK2.out; omega⟩, ⟨by (try simp only [hl9_2]); refine kR ?_; exact HO_9.out⟩, ⟨bB⟩⟩
              ·rw [if_neg c41] at H
               exact absurd H (by simp)
             ·rw [if_neg c40] at H
              exact absurd H (by simp)
            ·rw [if_neg c39] at H
             have c39b0 : decide (x66_2 < (y205.length : Int)) = false := decide_eq_false c39
             (try simp only [hl9_2] at c39b0)
             clear c39
             by_cases c45 : x9_2.length < 140737488355328
             ·rw [if_pos c45] at H
              have LMc45 := aZ c45
              clear c45
              obtain ⟨y210, hy210⟩ : ∃ y_ : List Int, y_ = (x9_2 ++ [90]) := ⟨_, rfl⟩
              replace H : (if t166 < 2050 then (if 2 ≤ (y210.length : Int) then (some (23, (y210.drop (2 : Int).toNat), 0)) else (none)) else (some (24, y210, 0))) = some (r1, r2, r3) := by first | (rw [hy210]; with_reducible exact H) | (have H2_ := (Option.bind_some _ _).symm.trans H; rw [hy210]; with_reducible exact H2_) | (have H2_ := (Option.bind_some _ _).symm.trans H; with_reducible exact H2_) | with_reducible exact H | (rw [hy210]; exact H) | exact H
              have Ny210 := aZ hy210
              clear hy210
              by_cases c46 : t166 < 2050
              ·rw [if_pos c46] at H
               have c46b0 : decide (t166 < 2050) = true := decide_eq_true c46
               clear c46
               by_cases c47 : 2 ≤ (y210.length : Int)
               ·rw [if_pos c47] at H
                have c47b0 := eq_true c47
                have c47b1 : decide (2 ≤ (y210.length : Int)) = true := decide_eq_true c47
                (try simp only [hl9_2] at c47b1)
                clear c47
                obtain ⟨y213, hy213⟩ : ∃ y_ : List Int, y_ = (y210.drop (2 : Int).toNat) := ⟨_, rfl⟩
                replace H : (some (23, y213, 0)) = some (r1, r2, r3) := by first | (rw [hy213]; with_reducible exact H) | (have H2_ := (Option.bind_some _ _).symm.trans H; rw [hy213]; with_reducible exact H2_) | (have H2_ := (Option.bind_some _ _).symm.trans H; with_reducible exact H2_) | with_reducible exact H | (rw [hy213]; exact H) | exact H
                have Ny213 := aZ hy213
                clear hy213
                simp only [Option.some.injEq, Prod.mk.injEq] at H
                obtain ⟨rfl, rfl, rfl⟩ := H
                go_wp2_with (first | ((with_reducible refine gate_builtin (b := .append) (xs := #[.tmp 76, .tmp 77]) rfl ?_); at_builtin; refine Kd.R_append (Kd.int .u8) (w0 := w) w.heap.size rfl (.tmp 76) (.tmp 77) 24 5 (.int .u8 0) 1 rfl Tryd.underlying24 info5 rfl (by decide) (by omega) (.slice Ao38 x9_2.length co38) x9_2 90 [.int .u8 90] (fun _ => True) (fun _ => False) rfl rfl ?aP (fun _ hk => hk.elim) ?aF ?aO ?aB ?aS ?aL ?_; (case aP => exact rfl); (case aB => exact bB); (case aF => exact (fun _ _ => trivial)); (case aO => exact (kR HO_9.out)); (case aS => exact (below_size bB)); (case aL => have := LMc45.out; omega); intro v211 w48 ho hb hg hat; rw [← Ny210.out] at ho; replace HB := aZ (hb); have HO212 := aZ (ho); clear HO_9; clear ho hb hg hat; obtain ⟨Ao49, co49, eo49⟩ := Kd.R_slice HO212.out; subst eo49; have q50 : (2 : Int) ≤ ((y210.length : Int) : Int) := oD; obtain ⟨i050, hi050, _, hsz50, _⟩ := info_parts info5; have hcut50 := cut_from (P := Tryd.prog) 24 5 .i64 Tryd.underlying24 hi050 1 hsz50 Ao49 y210.length co49 2 (by omega) q50; have hr50 := Kd.Q_drop (k := (2 : Int).toNat) (Kd.Q_of_R HO212.out) (by omega); obtain ⟨A50, hA50⟩ : ∃ A1_, A1_ = (if co49 = (2 : Int).toNat then Ao49 else (Ao49 : Option Addr).map (·.add ((2 : Int).toNat * 1))) := ⟨_, rfl⟩; obtain ⟨c50, hc50⟩ : ∃ c1_, c1_ = co49 - (2 : Int).toNat := ⟨_, rfl⟩; have hy50 : y213.length = y210.length - (2 : Int).toNat := (by rw [Ny213.out, List.length_drop]); rw [← Ny213.out] at hr50; rw [← hy50, ← hA50, ← hc50] at hcut50; replace hr50 : Kd.Q (Kd.int .u8) 5 w48 w.heap.size (fun _ => True) (.slice A50 y213.length c50) y213 := (by rw [hA50, hc50, hy50]; exact hr50); have HE50 : Aside0 ((Value.slice A50 y213.length c50).ownBlock = (.slice Ao49 y210.length co49 : Value).ownBlock) := ⟨by rw [hA50]; split <;> (cases (Ao49 : Option Addr) <;> rfl)⟩; clear hy50 hi050 hsz50 HO212 hA50 hc50; have HO215 := aZ hr50; clear hr50; replace q50 := eq_true q50))
                repeat (go_quiet (first | ((with_reducible refine gate_builtin (b := .append) (xs := #[.tmp 76, .tmp 77]) rfl ?_); at_builtin; refine Kd.R_append (Kd.int .u8) (w0 := w) w.heap.size rfl (.tmp 76) (.tmp 77) 24 5 (.int .u8 0) 1 rfl Tryd.underlying24 info5 rfl (by decide) (by omega) (.slice Ao38 x9_2.length co38) x9_2 90 [.int .u8 90] (fun _ => True) (fun _ => False) rfl rfl ?aP (fun _ hk => hk.elim) ?aF ?aO ?aB ?aS ?aL ?_; (case aP => exact rfl); (case aB => exact bB); (case aF => exact (fun _ _ => trivial)); (case aO => exact (kR HO_9.out)); (case aS => exact (below_size bB)); (case aL => have := LMc45.out; omega); intro v211 w48 ho hb hg hat; rw [← Ny210.out] at ho; replace HB := aZ (hb); have HO212 := aZ (ho); clear HO_9; clear ho hb hg hat; obtain ⟨Ao49, co49, eo49⟩ := Kd.R_slice HO212.out; subst eo49; have q50 : (2 : Int) ≤ ((y210.length : Int) : Int) := oD; obtain ⟨i050, hi050, _, hsz50, _⟩ := info_parts info5; have hcut50 := cut_from (P := Tryd.prog) 24 5 .i64 Tryd.underlying24 hi050 1 hsz50 Ao49 y210.length co49 2 (by omega) q50; have hr50 := Kd.Q_drop (k := (2 : Int).toNat) (Kd.Q_of_R HO212.out) (by omega); obtain ⟨A50, hA50⟩ : ∃ A1_, A1_ = (if co49 = (2 : Int).toNat then Ao49 else (Ao49 : Option Addr).map (·.add ((2 : Int).toNat * 1))) := ⟨_, rfl⟩; obtain ⟨c50, hc50⟩ : ∃ c1_, c1_ = co49 - (2 : Int).toNat := ⟨_, rfl⟩; have hy50 : y213.length = y210.length - (2 : Int).toNat := (by rw [Ny213.out, List.length_drop]); rw [← Ny213.out] at hr50; rw [← hy50, ← hA50, ← hc50] at hcut50; replace hr50 : Kd.Q (Kd.int .u8) 5 w48 w.heap.size (fun _ => True) (.slice A50 y213.length c50) y213 := (by rw [hA50, hc50, hy50]; exact hr50); have HE50 : Aside0 ((Value.slice A50 y213.length c50).ownBlock = (.slice Ao49 y210.length co49 : Value).ownBlock) := ⟨by rw [hA50]; split <;> (cases (Ao49 : Option Addr) <;> rfl)⟩; clear hy50 hi050 hsz50 HO212 hA50 hc50; have HO215 := aZ hr50; clear hr50; replace q50 := eq_true q50)); try go_wp2_with (first | ((with_reducible refine gate_builtin (b := .append) (xs := #[.tmp 76, .tmp 77]) rfl ?_); at_builtin; refine Kd.R_append (Kd.int .u8) (w0 := w) w.heap.size rfl (.tmp 76) (.tmp 77) 24 5 (.int .u8 0) 1 rfl Tryd.underlying24 info5 rfl (by decide) (by omega) (.slice Ao38 x9_2.length co38) x9_2 90 [.int .u8 90] (fun _ => True) (fun _ => False) rfl rfl ?aP (fun _ hk => hk.elim) ?aF ?aO ?aB ?aS ?aL ?_; (case aP => exact rfl); (case aB => exact bB); (case aF => exact (fun _ _ => trivial)); (case aO => exact (kR HO_9.out)); (case aS => exact (below_size bB)); (case aL => have := LMc45.out; omega); intro v211 w48 ho hb hg hat; rw [← Ny210.out] at ho; replace HB := aZ (hb); have HO212 := aZ (ho); clear HO_9; clear ho hb hg hat; obtain ⟨Ao49, co49, eo49⟩ := Kd.R_slice HO212.out; subst eo49; have q50 : (2 : Int) ≤ ((y210.length : Int) : Int) := oD; obtain ⟨i050, hi050, _, hsz50, _⟩ := info_parts info5; have hcut50 := cut_from (P := Tryd.prog) 24 5 .i64 Tryd.underlying24 hi050 1 hsz50 Ao49 y210.length co49 2 (by omega) q50; have hr50 := Kd.Q_drop (k := (2 : Int).toNat) (Kd.Q_of_R HO212.out) (by omega); obtain ⟨A50, hA50⟩ : ∃ A1_, A1_ = (if co49 = (2 : Int).toNat then Ao49 else (Ao49 : Option Addr).map (·.add ((2 : Int).toNat * 1))) := ⟨_, rfl⟩; obtain ⟨c50, hc50⟩ : ∃ c1_, c1_ = co49 - (2 : Int).toNat := ⟨_, rfl⟩; have hy50 : y213.length = y210.length - (2 : Int).toNat := (by rw [Ny213.out, List.length_drop]); rw [← Ny213.out] at hr50; rw [← hy50, ← hA50, ← hc50] at hcut50; replace hr50 : Kd.Q (Kd.int .u8) 5 w48 w.heap.size (fun _ => True) (.slice A50 y213.length c50) y213 := (by rw [hA50, hc50, hy50]; exact hr50); have HE50 : Aside0 ((Value.slice A50 y213.length c50).ownBlock = (.slice Ao49 y210.length co49 : Value).ownBlock) := ⟨by rw [hA50]; split <;> (cases (Ao49 : Option Addr) <;> rfl)⟩; clear hy50 hi050 hsz50 HO212 hA50 hc50; have HO215 := aZ hr50; clear hr50; replace q50 := eq_true q50)))
                go_ret3
                exact ⟨_, rF, by (with_reducible repeat (first | apply Kd.Q_alloc | apply Kd.Q_drewN | apply Kd.Q_drew)); exact HO215.out, bB⟩
               ·rw [if_neg c47] at H
                exact absurd H (by simp)
              ·rw [if_neg c46] at H
               have c46b0 : decide (t166 < 2050) = false := decide_eq_false c46
               clear c46
               simp only [Option.some.injEq, Prod.mk.injEq] at H
               obtain ⟨rfl, rfl, rfl⟩ := H
               go_wp2_with (first | ((with_reducible refine gate_builtin (b := .append) (xs := #[.tmp 76, .tmp 77]) rfl ?_); at_builtin; refine Kd.R_append (Kd.int .u8) (w0 := w) w.heap.size rfl (.tmp 76) (.tmp 77) 24 5 (.int .u8 0) 1 rfl Tryd.underlying24 info5 rfl (by decide) (by omega) (.slice Ao38 x9_2.length co38) x9_2 90 [.int .u8 90] (fun _ => True) (fun _ => False) rfl rfl ?aP (fun _ hk => hk.elim) ?aF ?aO ?aB ?aS ?aL ?_; (case aP => exact rfl); (case aB => exact bB); (case aF => exact (fun _ _ => trivial)); (case aO => exact (kR HO_9.out)); (case aS => exact (below_size bB)); (case aL => have := LMc45.out; omega); intro v211 w51 ho hb hg hat; rw [← Ny210.out] at ho; replace HB := aZ (hb); have HO212 := aZ (ho); clear HO_9; clear ho hb hg hat))
               repeat (go_quiet (first | ((with_reducible refine gate_builtin (b := .append) (xs := #[.tmp 76, .tmp 77]) rfl ?_); at_builtin; refine Kd.R_append (Kd.int .u8) (w0 := w) w.heap.size rfl (.tmp 76) (.tmp 77) 24 5 (.int .u8 0) 1 rfl Tryd.underlying24 info5 rfl (by decide) (by omega) (.slice Ao38 x9_2.length co38) x9_2 90 [.int .u8 90] (fun _ => True) (fun _ => False) rfl rfl ?aP (fun _ hk => hk.elim) ?aF ?aO ?aB ?aS ?aL ?_; (case aP => exact rfl); (case aB => exact bB); (case aF => exact (fun _ _ => trivial)); (case aO => exact (kR HO_9.out)); (case aS => exact (below_size bB)); (case aL => have := LMc45.out; omega); intro v211 w51 ho hb hg hat; rw [← Ny210.out] at ho; replace HB := aZ (hb); have HO212 := aZ (ho); clear HO_9; clear ho hb hg hat)); try go_wp2_with (first | ((with_reducible refine gate_builtin (b := .append) (xs := #[.tmp 76, .tmp 77]) rfl ?_); at_builtin; refine Kd.R_append (Kd.int .u8) (w0 := w) w.heap.size rfl (.tmp 76) (.tmp 77) 24 5 (.int .u8 0) 1 rfl Tryd.underlying24 info5 rfl (by decide) (by omega) (.slice Ao38 x9_2.length co38) x9_2 90 [.int .u8 90] (fun _ => True) (fun _ => False) rfl rfl ?aP (fun _ hk => hk.elim) ?aF ?aO ?aB ?aS ?aL ?_; (case aP => exact rfl); (case aB => exact bB); (case aF => exact (fun _ _ => trivial)); (case aO => exact (kR HO_9.out)); (case aS => exact (below_size bB)); (case aL => have := LMc45.out; omega); intro v211 w51 ho hb hg hat; rw [← Ny210.out] at ho; replace HB := aZ (hb); have HO212 := aZ (ho); clear HO_9; clear ho hb hg hat)))
               go_ret3
               exact ⟨_, rF, Kd.Q_of_R (kR HO212.out), bB⟩
             ·rw [if_neg c45] at H
              exact absurd H (by simp)
         ·rw [if_neg c11] at H
          exact absurd H (by simp)
        ·rw [if_neg c10] at H
         exact absurd H (by simp)
       ·rw [if_neg c9] at H
        exact absurd H (by simp)
      ·rw [if_neg c8] at H
       exact absurd H (by simp)
     ·rw [if_neg c7] at H
      exact absurd H (by simp)
    ·rw [if_neg c6] at H
     exact absurd H (by simp)
end Go.Proofs.YtkceebgncfggjaaDoor.PQ

namespace Go.Proofs.YtkceebgncfggjaaDoor.PQ
open Go.RowKit Go.Proofs.YtkceebgncfggjaaDoorW.PrintWords Go.Proofs.YtkceebgncfggjaaDoorW.PrintLast Go.Proofs.YtkceebgncfggjaaDoorW.PrintMore Go.Proofs.YtkceebgncfggjaaDoorX
set_option maxHeartbeats 8000000
set_option maxRecDepth 100000
attribute [local go_sem] max2_int min2_int max_two min_two
def texts_day.f (a0 : Int) (a1 : Int) (a2 : Int) : Option (Int) := if a1 < 3 then (some (wrap64 ((wrap64 ((wrap64 ((wrap64 ((wrap64 ((wrap64 ((wrap64 ((wrap64 (365 * (wrap64 (a0 - 1)))) + (wrap64 (Int.tdiv (wrap64 (a0 - 1)) 4)))) - (wrap64 (Int.tdiv (wrap64 (a0 - 1)) 100)))) + (wrap64 (Int.tdiv (wrap64 (a0 - 1)) 400)))) + (wrap64 (Int.tdiv (wrap64 ((wrap64 (153 * (wrap64 ((wrap64 (a1 + 12)) - 3)))) + 2)) 5)))) + a2)) - 1)) - 719468))) else (some (wrap64 ((wrap64 ((wrap64 ((wrap64 ((wrap64 ((wrap64 ((wrap64 ((wrap64 (365 * a0)) + (wrap64 (Int.tdiv a0 4)))) - (wrap64 (Int.tdiv a0 100)))) + (wrap64 (Int.tdiv a0 400)))) + (wrap64 (Int.tdiv (wrap64 ((wrap64 (153 * (wrap64 (a1 - 3)))) + 2)) 5)))) + a2)) - 1)) - 719468)))
theorem texts_day.calls (a0 : Int) (a1 : Int) (a2 : Int) (r : Int) (w : World) (h : texts_day.f a0 a1 a2 = some r) :
  Calls Tryd.prog 82 #[.int .i64 a0, .int .i64 a1, .int .i64 a2] w fun e w' => e = .returned (.int .i64 r) ∧ Drawn0 w w' := by
 have H := h
 clear h
 unfold texts_day.f at H
 by_cases c4 : a1 < 3
 ·rw [if_pos c4] at H
  have c4b0 : decide (a1 < 3) = true := decide_eq_true c4
  clear c4
  obtain rfl := Option.some.inj H
  go_enter Tryd.func82, Tryd.ntmps82
  go_wp2
  go_ret
  exact ⟨rS, d0⟩
 ·rw [if_neg c4] at H
  have c4b0 : decide (a1 < 3) = false := decide_eq_false c4
  clear c4
  obtain rfl := Option.some.inj H
  go_enter Tryd.func82, Tryd.ntmps82
  go_wp2
  go_ret
  exact ⟨rS, d0⟩
end Go.Proofs.YtkceebgncfggjaaDoor.PQ

namespace Go.Proofs.YtkceebgncfggjaaDoor.PQ
open Go.RowKit Go.Proofs.YtkceebgncfggjaaDoorW.PrintWords Go.Proofs.YtkceebgncfggjaaDoorW.PrintLast Go.Proofs.YtkceebgncfggjaaDoorW.PrintMore Go.Proofs.YtkceebgncfggjaaDoorX
set_option maxHeartbeats 8000000
set_option maxRecDepth 100000
attribute [local go_sem] max2_int min2_int max_two min_two
def ints_PutBool.f (a0 : Bool) : Option (List Int) := if a0 = true then (some (([255] : List Int))) else (some (([0] : List Int)))
theorem ints_PutBool.calls (a0 : Bool) (r : List Int) (w : World) (h : ints_PutBool.f a0 = some r) :
  Calls Tryd.prog 81 #[.bool a0] w fun e w' => ∃ v0_ : Value, e = .returned (v0_) ∧ Kd.R (Kd.int .u8) 5 w' w.heap.size (fun _ => True) v0_ r ∧ Below w.heap.size w w' := by
 have HB := aZ (Below.refl w.heap.size w)
 have H := h
 clear h
 unfold ints_PutBool.f at H
 by_cases c2 : a0 = true
 ·subst c2
  rw [if_pos rfl] at H
  obtain ⟨y151, hy151⟩ : ∃ y_ : List Int, y_ = (([255] : List Int)) := ⟨_, rfl⟩
  replace H : (some y151) = some r := by first | (rw [hy151]; with_reducible exact H) | (have H2_ := (Option.bind_some _ _).symm.trans H; rw [hy151]; with_reducible exact H2_) | (have H2_ := (Option.bind_some _ _).symm.trans H; with_reducible exact H2_) | with_reducible exact H | (rw [hy151]; exact H) | exact H
  have Ny151 := aZ hy151
  clear hy151
  obtain rfl := Option.some.inj H
  go_enter Tryd.func81, Tryd.ntmps81
  go_wp2_with (first | ((with_reducible refine gD 4 rfl ?_); refine Kd.R_lit (Kd.int .u8) _ 5 ?hg (N := 4) ?hd (xs := ([255] : List Int)) (inner := [.int .u8 255]) (ok := fun _ => True) (okp := fun _ => True) ?hr ?hp (fun _ hk => hk) trivial (Below.refl _ _) (Nat.le_refl _) (by simp) ?_; (case hd => rfl); (case hg => rfl); (case hr => exact gS); (case hp => exact (Reps.one (show Kd.M (Kd.int .u8) _ _ _ 255 [.int .u8 255] from rfl) (Reps.none _ _))); intro v152 w3 ho4 hb hg_ hnew_; clear hg_ hnew_; (first | rw [← Ny151.out] at ho4 | (simp only [Int.reduceToNat] at ho4; rw [← Ny151.out] at ho4)); have HO153 := aZ (Kd.R_lower ho4 (below_size bB)); replace HB := aZ (below_step bB hb); clear hb ho4))
  go_ret
  exact ⟨_, rF, by refine kR ?_; exact HO153.out, bB⟩
 ·replace c2 := Bool.eq_false_iff.mpr c2
  subst c2
  rw [if_neg (show ¬ (false = true) by decide)] at H
  obtain ⟨y154, hy154⟩ : ∃ y_ : List Int, y_ = (([0] : List Int)) := ⟨_, rfl⟩
  replace H : (some y154) = some r := by first | (rw [hy154]; with_reducible exact H) | (have H2_ := (Option.bind_some _ _).symm.trans H; rw [hy154]; with_reducible exact H2_) | (have H2_ := (Option.bind_some _ _).symm.trans H; with_reducible exact H2_) | with_reducible exact H | (rw [hy154]; exact H) | exact H
  have Ny154 := aZ hy154
  clear hy154
  obtain rfl := Option.some.inj H
  go_enter Tryd.func81, Tryd.ntmps81
  go_wp2_with (first | ((with_reducible refine gD 5 rfl ?_); refine Kd.R_lit (Kd.int .u8) _ 5 ?hg (N := 5) ?hd (xs := ([0] : List Int)) (inner := [.int .u8 0]) (ok := fun _ => True) (okp := fun _ => True) ?hr ?hp (fun _ hk => hk) trivial (Below.refl _ _) (Nat.le_refl _) (by simp) ?_; (case hd => rfl); (case hg => rfl); (case hr => exact gS); (case hp => exact (Reps.one (show Kd.M (Kd.int .u8) _ _ _ 0 [.int .u8 0] from rfl) (Reps.none _ _))); intro v155 w5 ho6 hb hg_ hnew_; clear hg_ hnew_; (first | rw [← Ny154.out] at ho6 | (simp only [Int.reduceToNat] at ho6; rw [← Ny154.out] at ho6)); have HO156 := aZ (Kd.R_lower ho6 (below_size bB)); replace HB := aZ (below_step bB hb); clear hb ho6))
  go_ret
  exact ⟨_, rF, by refine kR ?_; exact HO156.out, bB⟩
end Go.Proofs.YtkceebgncfggjaaDoor.PQ

namespace Go.Proofs.YtkceebgncfggjaaDoor.PQ
open Go.RowKit Go.Proofs.YtkceebgncfggjaaDoorW.PrintWords Go.Proofs.YtkceebgncfggjaaDoorW.PrintLast Go.Proofs.YtkceebgncfggjaaDoorW.PrintMore Go.Proofs.YtkceebgncfggjaaDoorX
set_option maxHeartbeats 8000000
set_option maxRecDepth 100000
attribute [local go_sem] max2_int min2_int max_two min_two
def ints_strict_bool.f (l0 : List Int) (a1 : Bool) (a2 : Int)  : Option (Bool × Int) := (ints_PutBool.f a1).bind fun t157 => ((bytes_Equal.f t157 l0).bind fun t160 => (if t160 = true then (some (a1, 0)) else (some (false, a2))))
theorem ints_strict_bool.calls (A0 : Option Addr) (c0 : Nat) (l0 : List Int) (a1 : Bool) (a2 : Int)  (r1 : Bool) (r2 : Int) (w : World) (hr0 : Kd.C (Kd.int .u8) w A0 l0.length l0) (hc0 : l0.length ≤ c0) (h : ints_strict_bool.f l0 a1 a2 = some (r1, r2)) :
  Calls Tryd.prog 80 #[.slice A0 l0.length c0, .bool a1, .int .i64 a2, .func (.func 81) #[] #[]] w fun e w' => e = .returned (.tuple #[.bool r1, .int .i64 r2]) ∧ Below w.heap.size w w' := by
 have HR0 := aZ hr0
 have HC0 := aZ hc0
 clear hr0 hc0
 have HB := aZ (Below.refl w.heap.size w)
 have H := h
 clear h
 unfold ints_strict_bool.f at H
 replace H := Option.bind_eq_some_iff.mp H
 obtain ⟨t157, A50, H⟩ := H
 try dsimp only at H
 have A5 := aZ A50
 clear A50
 replace H := Option.bind_eq_some_iff.mp H
 obtain ⟨t160, A60, H⟩ := H
 try dsimp only at H
 have A6 := aZ A60
 clear A60
 by_cases c7 : t160 = true
 ·subst c7
  rw [if_pos rfl] at H
  simp only [Option.some.injEq, Prod.mk.injEq] at H
  obtain ⟨rfl, rfl⟩ := H
  go_enter Tryd.func80, Tryd.ntmps80
  go_wp2_with (first | ((with_reducible refine gate_calleeV (t := 11) rfl ?_); refine goesV_ (some 13) rfl rfl Tryd.func81 (by kernel_rfl) rfl #[.bool a1] rfl aA ?_; (with_reducible refine (ints_PutBool.calls a1 t157 _ A5.out).mono ?_); rintro e w8 ⟨v158, rfl, ho0, hb⟩; refine ⟨_, rfl, ?_⟩; have HO159 := aZ (Kd.R_lower ho0 (below_size bB)); replace HB := aZ (below_step bB hb); (try clear hb); (try clear hb2); (try clear hk); (try clear hi); (try clear ho0); obtain ⟨Ao9, co9, eo9⟩ := Kd.R_slice HO159.out; subst eo9) | ((with_reducible refine gC 48 rfl ?_); refine goL (some 15) Tryd.func48 #[.slice Ao9 t157.length co9, .slice A0 l0.length c0] ?_; (with_reducible refine (bytes_Equal.calls _ _ t157 _ _ l0 true _ ?side1 ?side2 ?side3 ?side4 A6.out).mono ?_); (case side1 => exact kC (Kd.R_reads' HO159.out).2.2); (case side2 => exact (Kd.R_reads' HO159.out).2.1); (case side3 => exact kC (Kd.C_below HR0.out HB.out)); (case side4 => exact HC0.out); rintro e w' ⟨rfl, ⟨nd, rfl⟩⟩; refine ⟨_, rfl, ?_⟩))
  go_ret2
  exact ⟨rF, bB⟩
 ·replace c7 := Bool.eq_false_iff.mpr c7
  subst c7
  rw [if_neg (show ¬ (false = true) by decide)] at H
  simp only [Option.some.injEq, Prod.mk.injEq] at H
  obtain ⟨rfl, rfl⟩ := H
  go_enter Tryd.func80, Tryd.ntmps80
  go_wp2_with (first | ((with_reducible refine gate_calleeV (t := 11) rfl ?_); refine goesV_ (some 13) rfl rfl Tryd.func81 (by kernel_rfl) rfl #[.bool a1] rfl aA ?_; (with_reducible refine (ints_PutBool.calls a1 t157 _ A5.out).mono ?_); rintro e w10 ⟨v158, rfl, ho0, hb⟩; refine ⟨_, rfl, ?_⟩; have HO159 := aZ (Kd.R_lower ho0 (below_size bB)); replace HB := aZ (below_step bB hb); (try clear hb); (try clear hb2); (try clear hk); (try clear hi); (try clear ho0); obtain ⟨Ao11, co11, eo11⟩ := Kd.R_slice HO159.out; subst eo11) | ((with_reducible refine gC 48 rfl ?_); refine goL (some 15) Tryd.func48 #[.slice Ao11 t157.length co11, .slice A0 l0.length c0] ?_; (with_reducible refine (bytes_Equal.calls _ _ t157 _ _ l0 false _ ?side1 ?side2 ?side3 ?side4 A6.out).mono ?_); (case side1 => exact kC (Kd.R_reads' HO159.out).2.2); (case side2 => exact (Kd.R_reads' HO159.out).2.1); (case side3 => exact kC (Kd.C_below HR0.out HB.out)); (case side4 => exact HC0.out); rintro e w' ⟨rfl, ⟨nd, rfl⟩⟩; refine ⟨_, rfl, ?_⟩))
  go_ret2
  exact ⟨rF, bB⟩
end Go.Proofs.YtkceebgncfggjaaDoor.PQ

namespace Go.Proofs.YtkceebgncfggjaaDoor.PQ
open Go.RowKit Go.Proofs.YtkceebgncfggjaaDoorW.PrintWords Go.Proofs.YtkceebgncfggjaaDoorW.PrintLast Go.Proofs.YtkceebgncfggjaaDoorW.PrintMore Go.Proofs.YtkceebgncfggjaaDoorX
set_option maxHeartbeats 8000000
set_option maxRecDepth 100000
attribute [local go_sem] max2_int min2_int max_two min_two
def ints_Bool.f (l0 : List Int) : Option (Bool × Int) := if (l0.length : Int) > 0 then (if 0 < (l0.length : Int) then ((ints_strict_bool.f l0 (decide ((rd l0 0) > 0)) 23).bind fun bt162 => (some (bt162.1, bt162.2))) else (none)) else ((ints_strict_bool.f l0 false 23).bind fun bt164 => (some (bt164.1, bt164.2)))
theorem ints_Bool.calls (A0 : Option Addr) (c0 : Nat) (l0 : List Int) (r1 : Bool) (r2 : Int) (w : World) (hr0 : Kd.C (Kd.int .u8) w A0 l0.length l0) (hc0 : l0.length ≤ c0) (h : ints_Bool.f l0 = some (r1, r2)) :
  Calls Tryd.prog 67 #[.slice A0 l0.length c0] w fun e w' => e = .returned (.tuple #[.bool r1, .int .i64 r2]) ∧ Below w.heap.size w w' := by
 have HR0 := aZ hr0
 have HC0 := aZ hc0
 clear hr0 hc0
 have HB := aZ (Below.refl w.heap.size w)
 have H := h
 clear h
 unfold ints_Bool.f at H
 by_cases c2 : (l0.length : Int) > 0
 ·rw [if_pos c2] at H
  have c2b0 : decide (0 < (l0.length : Int)) = true := decide_eq_true c2
  have c2b1 : decide (0 < l0.length) = true := decide_eq_true (by omega)
  clear c2
  by_cases c3 : 0 < (l0.length : Int)
  ·rw [if_pos c3] at H
   have c3b0 : decide (0 < (l0.length : Int)) = true := decide_eq_true c3
   have c3b1 : decide (0 < l0.length) = true := decide_eq_true (by omega)
   clear c3
   replace H := Option.bind_eq_some_iff.mp H
   obtain ⟨⟨t162, t163⟩, A40, H⟩ := H
   try dsimp only at H
   have A4 := aZ A40
   clear A40
   simp only [Option.some.injEq, Prod.mk.injEq] at H
   obtain ⟨rfl, rfl⟩ := H
   have p161 : 0 ≤ (0 : Int) := (by omega)
   have q161 : 0 < (l0.length : Int) := oD
   obtain ⟨ad161, e161, hx161_0⟩ := Kd.at_int HR0.out 0 p161 q161
   cases e161
   have qi161 : (0 < l0.length) = True := eq_true (by omega)
   (try rw [show ((0 : Int)).toNat = 0 from rfl] at hx161_0)
   (try rw [Addr.add_zero'] at hx161_0)
   replace p161 := eq_true p161
   replace q161 := eq_true q161
   go_enter Tryd.func67, Tryd.ntmps67
   go_wp2_with (first | ((with_reducible refine gC 80 rfl ?_); refine goL (some 14) Tryd.func80 #[.slice (some ad161) l0.length c0, .bool (decide ((rd l0 0) > 0)), .int .i64 23, .func (.func 81) #[] #[]] ?_; (with_reducible refine (ints_strict_bool.calls _ _ l0 (decide ((rd l0 0) > 0)) 23  t162 t163 _ ?side1 ?side2 A4.out).mono ?_); (case side1 => exact kC HR0.out); (case side2 => exact HC0.out); rintro e w5 ⟨rfl, hb⟩; refine ⟨_, rfl, ?_⟩; replace HB := aZ (below_step bB hb); (try clear hb); (try clear hb2); (try clear hk); (try clear hi)))
   go_ret2
   exact ⟨rF, bB⟩
  ·rw [if_neg c3] at H
   exact absurd H (by simp)
 ·rw [if_neg c2] at H
  have c2b0 : decide (0 < (l0.length : Int)) = false := decide_eq_false c2
  have c2b1 : decide (0 < l0.length) = false := decide_eq_false (by omega)
  clear c2
  replace H := Option.bind_eq_some_iff.mp H
  obtain ⟨⟨t164, t165⟩, A60, H⟩ := H
  try dsimp only at H
  have A6 := aZ A60
  clear A60
  simp only [Option.some.injEq, Prod.mk.injEq] at H
  obtain ⟨rfl, rfl⟩ := H
  go_enter Tryd.func67, Tryd.ntmps67
  go_wp2_with (first | ((with_reducible refine gC 80 rfl ?_); refine goL (some 14) Tryd.func80 #[.slice A0 l0.length c0, .bool false, .int .i64 23, .func (.func 81) #[] #[]] ?_; (with_reducible refine (ints_strict_bool.calls _ _ l0 false 23  t164 t165 _ ?side1 ?side2 A6.out).mono ?_); (case side1 => exact kC HR0.out); (case side2 => exact HC0.out); rintro e w7 ⟨rfl, hb⟩; refine ⟨_, rfl, ?_⟩; replace HB := aZ (below_step bB hb); (try clear hb); (try clear hb2); (try clear hk); (try clear hi)))
  go_ret2
  exact ⟨rF, bB⟩
end Go.Proofs.YtkceebgncfggjaaDoor.PQ

namespace Go.Proofs.YtkceebgncfggjaaDoor.PQ
open Go.RowKit Go.Proofs.YtkceebgncfggjaaDoorW.PrintWords Go.Proofs.YtkceebgncfggjaaDoorW.PrintLast Go.Proofs.YtkceebgncfggjaaDoorW.PrintMore Go.Proofs.YtkceebgncfggjaaDoorX
set_option maxHeartbeats 8000000
set_option maxRecDepth 100000
attribute [local go_sem] max2_int min2_int max_two min_two
mutual
def ints_PutInt.l0 : Nat → Int → Int → Int → Option (List Int)
 | 0, _, _, _ => none
 | k + 1, x0, x3, x4 => if x4 < (-128) then (ints_PutInt.l0 k x0 (wrap64 (x3 + 1)) (x4 / 256)) else (if x4 > 127 then (ints_PutInt.l0 k x0 (wrap64 (x3 + 1)) (x4 / 256)) else (if 0 ≤ x3 then (if (x3 : Int).toNat ≤ 281474976710656 then ((some (List.replicate (x3 : Int).toNat 0 : List Int)).bind fun y107 => (ints_PutInt.l1 k x0 x3 y107 (y107.length : Int) 0)) else (none)) else (none)))
def ints_PutInt.l1 : Nat → Int → Int → List Int → Int → Int → Option (List Int)
 | 0, _, _, _, _, _ => none
 | k + 1, x0, x3, x5, x21, x22 => if x22 < x21 then (if 0 ≤ (wrap64 (8 * x22)) then (if 0 ≤ (wrap64 ((wrap64 (x3 - 1)) - x22)) then (if (wrap64 ((wrap64 (x3 - 1)) - x22)) < (x5.length : Int) then (ints_PutInt.l1 k x0 x3 (x5.set ((wrap64 ((wrap64 (x3 - 1)) - x22)) : Int).toNat ((shr .i64 x0 (wrap64 (8 * x22))) % 256)) x21 (wrap64 (x22 + 1))) else (none)) else (none)) else (none)) else (some x5)
end
def ints_PutInt.f (k : Nat) (a0 : Int) : Option (List Int) := ints_PutInt.l0 k a0 1 a0
theorem ints_PutInt.mono_l : ∀ k, (∀ y0 y1 y2, LeO (ints_PutInt.l0 k y0 y1 y2) (ints_PutInt.l0 (k + 1) y0 y1 y2)) ∧ (∀ y0 y1 y2 y3 y4, LeO (ints_PutInt.l1 k y0 y1 y2 y3 y4) (ints_PutInt.l1 (k + 1) y0 y1 y2 y3 y4))
 | 0 => ⟨fun _ _ _ r h => by simp [ints_PutInt.l0] at h, fun _ _ _ _ _ r h => by simp [ints_PutInt.l1] at h⟩
 | k + 1 => by
  obtain ⟨ih0, ih1⟩ := ints_PutInt.mono_l k
  refine ⟨?_, ?_⟩
  ·intro y0 y1 y2
   unfold ints_PutInt.l0
   repeat' first
   | (with_reducible exact ih0 _ _ _)
   | (with_reducible exact ih1 _ _ _ _ _)
   | (with_reducible exact LeO.refl _)
   | (with_reducible exact LeO.none _)
   | (with_reducible refine LeO.ite ?_ ?_)
   | (with_reducible refine LeO.bind ?_ (fun _ => ?_))
   | (with_reducible refine LeO_bindX ?_ (fun _ => ?_))
   | exact ih0 _ _ _
   | exact ih1 _ _ _ _ _
   | exact LeO.none _
   | refine LeO.ite ?_ ?_
   | refine LeO.bind ?_ (fun _ => ?_)
  ·intro y0 y1 y2 y3 y4
   unfold ints_PutInt.l1
   repeat' first
   | (with_reducible exact ih0 _ _ _)
   | (with_reducible exact ih1 _ _ _ _ _)
   | (with_reducible exact LeO.refl _)
   | (with_reducible exact LeO.none _)
   | (with_reducible refine LeO.ite ?_ ?_)
   | (with_reducible refine LeO.bind ?_ (fun _ => ?_))
   | (with_reducible refine LeO_bindX ?_ (fun _ => ?_))
   | exact ih0 _ _ _
   | exact ih1 _ _ _ _ _
   | exact LeO.none _
   | refine LeO.ite ?_ ?_
   | refine LeO.bind ?_ (fun _ => ?_)
theorem ints_PutInt.mono : ∀ a0 k, LeO (ints_PutInt.f k a0) (ints_PutInt.f (k + 1) a0) := by
 intro a0 k
 obtain ⟨ih0, ih1⟩ := ints_PutInt.mono_l k
 unfold ints_PutInt.f
 repeat' first
   | (with_reducible exact ih0 _ _ _)
   | (with_reducible exact ih1 _ _ _ _ _)
   | (with_reducible exact LeO.refl _)
   | (with_reducible exact LeO.none _)
   | (with_reducible refine LeO.ite ?_ ?_)
   | (with_reducible refine LeO.bind ?_ (fun _ => ?_))
   | (with_reducible refine LeO_bindX ?_ (fun _ => ?_))
   | exact ih0 _ _ _
   | exact ih1 _ _ _ _ _
   | exact LeO.none _
   | refine LeO.ite ?_ ?_
   | refine LeO.bind ?_ (fun _ => ?_)
theorem ints_PutInt.calls (k : Nat) (a0 : Int) (r : List Int) (w : World) (h : ints_PutInt.f k a0 = some r) :
  Calls Tryd.prog 18 #[.int .i64 a0] w fun e w' => ∃ v0_ : Value, e = .returned (v0_) ∧ Kd.R (Kd.int .u8) 5 w' w.heap.size (fun _ => True) v0_ r ∧ Below w.heap.size w w' := by
 have HB := aZ (Below.refl w.heap.size w)
 have H := h
 clear h
 unfold ints_PutInt.f at H
 have H' := aZ H
 clear H
 go_enter Tryd.func18, Tryd.ntmps18
 go_wp2
 go_loopg [3, 4] k (fun kq v3 v4 w' => ∃ (x3_1 : Int) (x4_1 : Int), v3 = .int .i64 x3_1 ∧ v4 = .int .i64 x4_1 ∧ Aside0 (ints_PutInt.l0 kq a0 x3_1 x4_1 = some r) ∧ Aside0 (kq ≤ k) ∧ Aside0 (Below w.heap.size w w'))
 case atStart => exact ⟨(1), (a0), rS, rS, H', ⟨Nat.le_refl _⟩, ⟨bB⟩⟩
 case round =>
  clear H'
  try clear c1
  obtain ⟨x3_1, x4_1, rfl, rfl, HA, HK1, HB⟩ := hrel
  cases gk with
  | zero => exact absurd HA.out (by simp [ints_PutInt.l0])
  | succ k1 =>
   have H := HA.out
   clear HA
   simp only [ints_PutInt.l0] at H
   by_cases c2 : x4_1 < (-128)
   ·rw [if_pos c2] at H
    have c2b0 : decide (x4_1 < (-128)) = true := decide_eq_true c2
    clear c2
    have H' := aZ H
    clear H
    go_wp2
    go_roundg k1
    case measure => have := HK1.out; omega
    case rel => exact ⟨(wrap64 (x3_1 + 1)), (x4_1 / 256), rS, rS, H', ⟨by have := HK1.out; omega⟩, ⟨bB⟩⟩
   ·rw [if_neg c2] at H
    have c2b0 : decide (x4_1 < (-128)) = false := decide_eq_false c2
    clear c2
    by_cases c3 : x4_1 > 127
    ·rw [if_pos c3] at H
     have c3b0 : decide (127 < x4_1) = true := decide_eq_true c3
     clear c3
     have H' := aZ H
     clear H
     go_wp2
     go_roundg k1
     case measure => have := HK1.out; omega
     case rel => exact ⟨(wrap64 (x3_1 + 1)), (x4_1 / 256), rS, rS, H', ⟨by have := HK1.out; omega⟩, ⟨bB⟩⟩
    ·rw [if_neg c3] at H
     have c3b0 : decide (127 < x4_1) = false := decide_eq_false c3
     clear c3
     by_cases c4 : 0 ≤ x3_1
     ·rw [if_pos c4] at H
      have c4b0 := eq_true c4
      have c4b1 : decide (0 ≤ x3_1) = true := decide_eq_true c4
      clear c4
      by_cases c5 : (x3_1 : Int).toNat ≤ 281474976710656
      ·rw [if_pos c5] at H
       have c5b0 := eq_true c5
       have c5b1 : decide ((x3_1 : Int).toNat ≤ 281474976710656) = true := decide_eq_true c5
       clear c5
       obtain ⟨y107, hy107⟩ : ∃ y_ : List Int, y_ = (List.replicate (x3_1 : Int).toNat 0) := ⟨_, rfl⟩
       replace H : (ints_PutInt.l1 k1 a0 x3_1 y107 (y107.length : Int) 0) = some r := by first | (rw [hy107]; with_reducible exact H) | (have H2_ := (Option.bind_some _ _).symm.trans H; rw [hy107]; with_reducible exact H2_) | (have H2_ := (Option.bind_some _ _).symm.trans H; with_reducible exact H2_) | with_reducible exact H | (rw [hy107]; exact H) | exact H
       have Ny107 := aZ hy107
       clear hy107
       have H' := aZ H
       clear H
       go_wp2_with (first | ((with_reducible refine gD 19 rfl ?_); refine Kd.R_make (Kd.int .u8) _ 5 rfl (N := 19) rfl 24 _ _ rfl x3_1 rfl rfl Tryd.underlying24 (.int .u8 0) 1 info5 rfl (by decide) (by omega) 0 (ok := fun _ => True) (okp := fun _ => True) rfl (fun _ hk => hk) trivial (oD) (Nat.le_trans (Nat.mul_le_mul_right _ (oD : x3_1.toNat ≤ 281474976710656)) (by omega)) (Below.refl _ _) (Nat.le_refl _) ?_; intro v108 w6 ho7 hb hg_ hnew_; clear hg_ hnew_; (first | rw [← Ny107.out] at ho7 | (simp only [Int.reduceToNat] at ho7; rw [← Ny107.out] at ho7)); have HO109 := aZ (Kd.R_lower ho7 (below_size bB)); replace HB := aZ (below_step bB hb); clear hb ho7; obtain ⟨Ao8, co8, eo8⟩ := Kd.R_slice HO109.out; subst eo8))
       go_loopg [22] k1 (fun kq v22 w' => ∃ (x5_2 : List Int) (x22_2 : Int), v22 = .int .i64 x22_2 ∧ Aside0 (ints_PutInt.l1 kq a0 x3_1 x5_2 (y107.length : Int) x22_2 = some r) ∧ Aside0 (kq ≤ k1) ∧ Aside0 (Kd.R (Kd.int .u8) 5 w' w.heap.size (fun _ => True) (.slice Ao8 y107.length co8) x5_2) ∧ Aside0 (Below w.heap.size w w'))
       case atStart => exact ⟨(y107), (0), rS, H', ⟨Nat.le_refl _⟩, ⟨by refine kR ?_; exact HO109.out⟩, ⟨bB⟩⟩
       case round =>
        clear H'
        try clear c1
        try clear c2
        try clear c2b0
        try clear p2
        try clear c3
        try clear c3b0
        try clear c4
        try clear c4b0
        try clear c4b1
        try clear c5
        try clear c5b0
        try clear c5b1
        try clear p6
        obtain ⟨x5_2, x22_2, rfl, HA, HK2, HO_5, HB⟩ := hrel
        have hl5_2 := (Kd.R_reads' HO_5.out).1
        rw [hl5_2] at HO_5
        (try simp only [hl5_2])
        cases gk with
        | zero => exact absurd HA.out (by simp [ints_PutInt.l1])
        | succ k2 =>
         have H := HA.out
         clear HA
         simp only [ints_PutInt.l1] at H
         by_cases c9 : x22_2 < (y107.length : Int)
         ·rw [if_pos c9] at H
          have c9b0 : decide (x22_2 < (y107.length : Int)) = true := decide_eq_true c9
          (try simp only [hl5_2] at c9b0)
          clear c9
          obtain ⟨ji10, hji10⟩ : ∃ j_ : Int, (wrap64 (8 * x22_2)) = j_ := ⟨_, rfl⟩
          replace H : (if 0 ≤ (ji10) then (if 0 ≤ (wrap64 ((wrap64 (x3_1 - 1)) - x22_2)) then (if (wrap64 ((wrap64 (x3_1 - 1)) - x22_2)) < (x5_2.length : Int) then (ints_PutInt.l1 k2 a0 x3_1 (x5_2.set ((wrap64 ((wrap64 (x3_1 - 1)) - x22_2)) : Int).toNat ((shr .i64 a0 (ji10)) % 256)) (y107.length : Int) (wrap64 (x22_2 + 1))) else (none)) else (none)) else (none)) = some r := by first | (rw [hji10] at H; exact H) | (simp only [hji10] at H ⊢; exact H)
          have hji10w : (IntKind.i64.wrap (8 * x22_2)) = ji10 := (i64_w _).trans hji10
          by_cases c11 : 0 ≤ (ji10)
          ·rw [if_pos c11] at H
           have c11b0 := eq_true c11
           have c11b1 : decide (0 ≤ (ji10)) = true := decide_eq_true c11
           clear c11
           obtain ⟨ji12, hji12⟩ : ∃ j_ : Int, (shr .i64 a0 (ji10)) = j_ := ⟨_, rfl⟩
           replace H : (if 0 ≤ (wrap64 ((wrap64 (x3_1 - 1)) - x22_2)) then (if (wrap64 ((wrap64 (x3_1 - 1)) - x22_2)) < (x5_2.length : Int) then (ints_PutInt.l1 k2 a0 x3_1 (x5_2.set ((wrap64 ((wrap64 (x3_1 - 1)) - x22_2)) : Int).toNat ((ji12) % 256)) (y107.length : Int) (wrap64 (x22_2 + 1))) else (none)) else (none)) = some r := by first | (rw [hji12] at H; exact H) | (simp only [hji12] at H ⊢; exact H)
           have hji12_ : (a0 / 2 ^ min (ji10).toNat 64) = ji12 := hji12
           have hji12z : (ji10) ≤ 64 → (a0 / 2 ^ (ji10).toNat) = ji12 := shr_small hji12
           obtain ⟨ji13, hji13⟩ : ∃ j_ : Int, (wrap64 ((wrap64 (x3_1 - 1)) - x22_2)) = j_ := ⟨_, rfl⟩
           replace H : (if 0 ≤ (ji13) then (if (ji13) < (x5_2.length : Int) then (ints_PutInt.l1 k2 a0 x3_1 (x5_2.set ((ji13) : Int).toNat ((ji12) % 256)) (y107.length : Int) (wrap64 (x22_2 + 1))) else (none)) else (none)) = some r := by first | (rw [hji13] at H; exact H) | (simp only [hji13] at H ⊢; exact H)
           have hji13w : (IntKind.i64.wrap ((wrap64 (x3_1 - 1)) - x22_2)) = ji13 := (i64_w _).trans hji13
           by_cases c14 : 0 ≤ (ji13)
           ·rw [if_pos c14] at H
            have c14b0 : decide (0 ≤ (ji13)) = true := decide_eq_true c14
            clear c14
            by_cases c15 : (ji13) < (x5_2.length : Int)
            ·rw [if_pos c15] at H
             have c15b0 : decide ((ji13) < (x5_2.length : Int)) = true := decide_eq_true c15
             (try simp only [hl5_2] at c15b0)
             clear c15
             obtain ⟨y110, hy110⟩ : ∃ y_ : List Int, y_ = (x5_2.set ((ji13) : Int).toNat ((ji12) % 256)) := ⟨_, rfl⟩
             replace H : (ints_PutInt.l1 k2 a0 x3_1 y110 (y107.length : Int) (wrap64 (x22_2 + 1))) = some r := by first | (rw [hy110]; with_reducible exact H) | (have H2_ := (Option.bind_some _ _).symm.trans H; rw [hy110]; with_reducible exact H2_) | (have H2_ := (Option.bind_some _ _).symm.trans H; with_reducible exact H2_) | with_reducible exact H | (rw [hy110]; exact H) | exact H
             have Ny110 := aZ hy110
             clear hy110
             have H' := aZ H
             clear H
             have p16 : 0 ≤ ((ji13) : Int) := oD
             have q16 : ((ji13) : Int) < ((x5_2.length : Int) : Int) := oD
             obtain ⟨go16, co16, eo16, gb16, gl16, cl16, HG16⟩ := Kd.R_form HO_5.out (by omega)
             (first | cases eo16 | (injection eo16 with ea_ en_ ec_; (first | subst ea_ | (injection ea_ with ea_; subst ea_)); subst ec_; clear en_))
             have GB16 := aZ gb16
             have GG16 := aZ HG16
             clear gb16 gl16 HG16
             obtain ⟨hx16_0, hf16_0⟩ := Kd.R_celln 0 HO_5.out ((ji13) : Int) p16 q16
             replace p16 := eq_true p16
             replace q16 := eq_true q16
             have HP17 := Kd.R_putg HO_5.out ((ji13) : Int) ((ji12) % 256)
             go_wp2_with (first | ((with_reducible refine gate_store (t := 5) (p := 35) rfl ?_); refine store_event (t := 5) (p := 35) (v := ?vo_w18) (w1 := (wr.setCell ⟨go16, ((ji13) : Int).toNat, none⟩ (.int .u8 ((ji12) % 256)))) ?hg ?ho ?hn ?hr ?_; (case ho => rfl); (case hg => rfl); (case hn => rfl); (case hr => exact gS); intro w18 hw; have hg : wr.grownBy w18 (some go16) := (by rw [hw]; exact HP17.2); have hp_ : Kd.R (Kd.int .u8) 5 w18 w.heap.size (fun _ => True) (.slice (some ⟨go16, 0, none⟩) x5_2.length co8) y110 := (by rw [hw, Ny110.out]; exact HP17.1); clear HP17; replace HO_5 := aZ (hp_); replace HB := aZ ((by rw [hw]; exact below_set (HB.out) GB16.out : Below w.heap.size w w18)); clear hg hw hp_))
             (try simp only [← hl5_2])
             go_roundg k2
             case measure => have := HK1.out; have := HK2.out; omega
             case rel => exact ⟨(y110), (wrap64 (x22_2 + 1)), rS, H', ⟨by have := HK1.out; have := HK2.out; omega⟩, ⟨by (try simp only [hl5_2]); refine kR ?_; exact HO_5.out⟩, ⟨bB⟩⟩
            ·rw [if_neg c15] at H
             exact absurd H (by simp)
           ·rw [if_neg c14] at H
            exact absurd H (by simp)
          ·rw [if_neg c11] at H
           exact absurd H (by simp)
         ·rw [if_neg c9] at H
          have c9b0 : decide (x22_2 < (y107.length : Int)) = false := decide_eq_false c9
          (try simp only [hl5_2] at c9b0)
          clear c9
          obtain rfl := Option.some.inj H
          go_wp2
          go_ret
          exact ⟨_, rF, by refine kR ?_; exact HO_5.out, bB⟩
      ·rw [if_neg c5] at H
       exact absurd H (by simp)
     ·rw [if_neg c4] at H
      exact absurd H (by simp)
end Go.Proofs.YtkceebgncfggjaaDoor.PQ

namespace Go.Proofs.YtkceebgncfggjaaDoor.PQ
open Go.RowKit Go.Proofs.YtkceebgncfggjaaDoorW.PrintWords Go.Proofs.YtkceebgncfggjaaDoorW.PrintLast Go.Proofs.YtkceebgncfggjaaDoorW.PrintMore Go.Proofs.YtkceebgncfggjaaDoorX
set_option maxHeartbeats 8000000
set_option maxRecDepth 100000
attribute [local go_sem] max2_int min2_int max_two min_two
def ints_strict_int64.f (k : Nat) (l0 : List Int) (a1 : Int) (a2 : Int)  : Option (Int × Int) := (ints_PutInt.f k a1).bind fun t111 => ((bytes_Equal.f t111 l0).bind fun t114 => (if t114 = true then (some (a1, 0)) else (some (0, a2))))
theorem ints_strict_int64.mono : ∀ a0 a1 a2 k, LeO (ints_strict_int64.f k a0 a1 a2) (ints_strict_int64.f (k + 1) a0 a1 a2) := by
 intro a0 a1 a2 k
 unfold ints_strict_int64.f
 repeat' first
   | (with_reducible exact ints_PutInt.mono _ _)
   | (with_reducible exact LeO.refl _)
   | (with_reducible exact LeO.none _)
   | (with_reducible refine LeO.ite ?_ ?_)
   | (with_reducible refine LeO.bind ?_ (fun _ => ?_))
   | (with_reducible refine LeO_bindX ?_ (fun _ => ?_))
   | exact ints_PutInt.mono _ _
   | exact LeO.none _
   | refine LeO.ite ?_ ?_
   | refine LeO.bind ?_ (fun _ => ?_)
theorem ints_strict_int64.calls (k : Nat) (A0 : Option Addr) (c0 : Nat) (l0 : List Int) (a1 : Int) (a2 : Int)  (r1 : Int) (r2 : Int) (w : World) (hr0 : Kd.C (Kd.int .u8) w A0 l0.length l0) (hc0 : l0.length ≤ c0) (h : ints_strict_int64.f k l0 a1 a2 = some (r1, r2)) :
  Calls Tryd.prog 34 #[.slice A0 l0.length c0, .int .i64 a1, .int .i64 a2, .func (.func 18) #[] #[]] w fun e w' => e = .returned (.tuple #[.int .i64 r1, .int .i64 r2]) ∧ Below w.heap.size w w' := by
 have HR0 := aZ hr0
 have HC0 := aZ hc0
 clear hr0 hc0
 have HB := aZ (Below.refl w.heap.size w)
 have H := h
 clear h
 unfold ints_strict_int64.f at H
 replace H := Option.bind_eq_some_iff.mp H
 obtain ⟨t111, A50, H⟩ := H
 try dsimp only at H
 have A5 := aZ A50
 clear A50
 replace H := Option.bind_eq_some_iff.mp H
 obtain ⟨t114, A60, H⟩ := H
 try dsimp only at H
 have A6 := aZ A60
 clear A60
 by_cases c7 : t114 = true
 ·subst c7
  rw [if_pos rfl] at H
  simp only [Option.some.injEq, Prod.mk.injEq] at H
  obtain ⟨rfl, rfl⟩ := H
  go_enter Tryd.func34, Tryd.ntmps34
  go_wp2_with (first | ((with_reducible refine gate_calleeV (t := 11) rfl ?_); refine goesV_ (some 13) rfl rfl Tryd.func18 (by kernel_rfl) rfl #[.int .i64 a1] rfl aA ?_; (with_reducible refine (ints_PutInt.calls k a1 t111 _ A5.out).mono ?_); rintro e w8 ⟨v112, rfl, ho0, hb⟩; refine ⟨_, rfl, ?_⟩; have HO113 := aZ (Kd.R_lower ho0 (below_size bB)); replace HB := aZ (below_step bB hb); (try clear hb); (try clear hb2); (try clear hk); (try clear hi); (try clear ho0); obtain ⟨Ao9, co9, eo9⟩ := Kd.R_slice HO113.out; subst eo9) | ((with_reducible refine gC 48 rfl ?_); refine goL (some 15) Tryd.func48 #[.slice Ao9 t111.length co9, .slice A0 l0.length c0] ?_; (with_reducible refine (bytes_Equal.calls _ _ t111 _ _ l0 true _ ?side1 ?side2 ?side3 ?side4 A6.out).mono ?_); (case side1 => exact kC (Kd.R_reads' HO113.out).2.2); (case side2 => exact (Kd.R_reads' HO113.out).2.1); (case side3 => exact kC (Kd.C_below HR0.out HB.out)); (case side4 => exact HC0.out); rintro e w' ⟨rfl, ⟨nd, rfl⟩⟩; refine ⟨_, rfl, ?_⟩))
  go_ret2
  exact ⟨rF, bB⟩
 ·replace c7 := Bool.eq_false_iff.mpr c7
  subst c7
  rw [if_neg (show ¬ (false = true) by decide)] at H
  simp only [Option.some.injEq, Prod.mk.injEq] at H
  obtain ⟨rfl, rfl⟩ := H
  go_enter Tryd.func34, Tryd.ntmps34
  go_wp2_with (first | ((with_reducible refine gate_calleeV (t := 11) rfl ?_); refine goesV_ (some 13) rfl rfl Tryd.func18 (by kernel_rfl) rfl #[.int .i64 a1] rfl aA ?_; (with_reducible refine (ints_PutInt.calls k a1 t111 _ A5.out).mono ?_); rintro e w10 ⟨v112, rfl, ho0, hb⟩; refine ⟨_, rfl, ?_⟩; have HO113 := aZ (Kd.R_lower ho0 (below_size bB)); replace HB := aZ (below_step bB hb); (try clear hb); (try clear hb2); (try clear hk); (try clear hi); (try clear ho0); obtain ⟨Ao11, co11, eo11⟩ := Kd.R_slice HO113.out; subst eo11) | ((with_reducible refine gC 48 rfl ?_); refine goL (some 15) Tryd.func48 #[.slice Ao11 t111.length co11, .slice A0 l0.length c0] ?_; (with_reducible refine (bytes_Equal.calls _ _ t111 _ _ l0 false _ ?side1 ?side2 ?side3 ?side4 A6.out).mono ?_); (case side1 => exact kC (Kd.R_reads' HO113.out).2.2); (case side2 => exact (Kd.R_reads' HO113.out).2.1); (case side3 => exact kC (Kd.C_below HR0.out HB.out)); (case side4 => exact HC0.out); rintro e w' ⟨rfl, ⟨nd, rfl⟩⟩; refine ⟨_, rfl, ?_⟩))
  go_ret2
  exact ⟨rF, bB⟩
end Go.Proofs.YtkceebgncfggjaaDoor.PQ

namespace Go.Proofs.YtkceebgncfggjaaDoor.PQ
open Go.RowKit Go.Proofs.YtkceebgncfggjaaDoorW.PrintWords Go.Proofs.YtkceebgncfggjaaDoorW.PrintLast Go.Proofs.YtkceebgncfggjaaDoorW.PrintMore Go.Proofs.YtkceebgncfggjaaDoorX
set_option maxHeartbeats 8000000
set_option maxRecDepth 100000
attribute [local go_sem] max2_int min2_int max_two min_two
mutual
def ints_Int.j0 : Nat → List Int → Bool → Option (Int × Int)
 | 0, _, _ => none
 | k + 1, x0, x14 => if x14 = true then (some (0, 21)) else (if 0 < (x0.length : Int) then (if 1 ≤ (x0.length : Int) then (ints_Int.l0 k x0 (wrap64 (IntKind.i8.wrap (rd x0 0))) (x0.drop 1) ((x0.drop 1).length : Int) 0) else (none)) else (none))
def ints_Int.l0 : Nat → List Int → Int → List Int → Int → Int → Option (Int × Int)
 | 0, _, _, _, _, _ => none
 | k + 1, x0, x4, x21, x22, x23 => if x23 < x22 then (if 0 ≤ x23 then (if x23 < (x21.length : Int) then (ints_Int.l0 k x0 (wrap64 ((wrap64 (x4 * 256)) + (wrap64 (rd x21 x23)))) x21 x22 (wrap64 (x23 + 1))) else (none)) else (none)) else ((ints_strict_int64.f k x0 x4 21).bind fun bt118 => (some (bt118.1, bt118.2)))
end
def ints_Int.f (k : Nat) (l0 : List Int) : Option (Int × Int) := if (l0.length : Int) = 0 then (ints_Int.j0 k l0 true) else (ints_Int.j0 k l0 (decide ((l0.length : Int) > 8)))
theorem ints_Int.mono_l : ∀ k, (∀ y0 y1, LeO (ints_Int.j0 k y0 y1) (ints_Int.j0 (k + 1) y0 y1)) ∧ (∀ y0 y1 y2 y3 y4, LeO (ints_Int.l0 k y0 y1 y2 y3 y4) (ints_Int.l0 (k + 1) y0 y1 y2 y3 y4))
 | 0 => ⟨fun _ _ r h => by simp [ints_Int.j0] at h, fun _ _ _ _ _ r h => by simp [ints_Int.l0] at h⟩
 | k + 1 => by
  obtain ⟨ih0, ih1⟩ := ints_Int.mono_l k
  refine ⟨?_, ?_⟩
  ·intro y0 y1
   unfold ints_Int.j0
   repeat' first
   | (with_reducible exact ih0 _ _)
   | (with_reducible exact ih1 _ _ _ _ _)
   | (with_reducible exact ints_strict_int64.mono _ _ _ _)
   | (with_reducible exact LeO.refl _)
   | (with_reducible exact LeO.none _)
   | (with_reducible refine LeO.ite ?_ ?_)
   | (with_reducible refine LeO.bind ?_ (fun _ => ?_))
   | (with_reducible refine LeO_bindX ?_ (fun _ => ?_))
   | exact ih0 _ _
   | exact ih1 _ _ _ _ _
   | exact ints_strict_int64.mono _ _ _ _
   | exact LeO.none _
   | refine LeO.ite ?_ ?_
   | refine LeO.bind ?_ (fun _ => ?_)
  ·intro y0 y1 y2 y3 y4
   unfold ints_Int.l0
   repeat' first
   | (with_reducible exact ih0 _ _)
   | (with_reducible exact ih1 _ _ _ _ _)
   | (with_reducible exact ints_strict_int64.mono _ _ _ _)
   | (with_reducible exact LeO.refl _)
   | (with_reducible exact LeO.none _)
   | (with_reducible refine LeO.ite ?_ ?_)
   | (with_reducible refine LeO.bind ?_ (fun _ => ?_))
   | (with_reducible refine LeO_bindX ?_ (fun _ => ?_))
   | exact ih0 _ _
   | exact ih1 _ _ _ _ _
   | exact ints_strict_int64.mono _ _ _ _
   | exact LeO.none _
   | refine LeO.ite ?_ ?_
   | refine LeO.bind ?_ (fun _ => ?_)
theorem ints_Int.mono : ∀ a0 k, LeO (ints_Int.f k a0) (ints_Int.f (k + 1) a0) := by
 intro a0 k
 obtain ⟨ih0, ih1⟩ := ints_Int.mono_l k
 unfold ints_Int.f
 repeat' first
   | (with_reducible exact ih0 _ _)
   | (with_reducible exact ih1 _ _ _ _ _)
   | (with_reducible exact ints_strict_int64.mono _ _ _ _)
   | (with_reducible exact LeO.refl _)
   | (with_reducible exact LeO.none _)
   | (with_reducible refine LeO.ite ?_ ?_)
   | (with_reducible refine LeO.bind ?_ (fun _ => ?_))
   | (with_reducible refine LeO_bindX ?_ (fun _ => ?_))
   | exact ih0 _ _
   | exact ih1 _ _ _ _ _
   | exact ints_strict_int64.mono _ _ _ _
   | exact LeO.none _
   | refine LeO.ite ?_ ?_
   | refine LeO.bind ?_ (fun _ => ?_)
theorem ints_Int.calls (k : Nat) (A0 : Option Addr) (c0 : Nat) (l0 : List Int) (r1 : Int) (r2 : Int) (w : World) (hr0 : Kd.C (Kd.int .u8) w A0 l0.length l0) (hc0 : l0.length ≤ c0) (h : ints_Int.f k l0 = some (r1, r2)) :
  Calls Tryd.prog 17 #[.slice A0 l0.length c0] w fun e w' => e = .returned (.tuple #[.int .i64 r1, .int .i64 r2]) ∧ Below w.heap.size w w' := by
 have HR0 := aZ hr0
 have HC0 := aZ hc0
 clear hr0 hc0
 have HB := aZ (Below.refl w.heap.size w)
 have H := h
 clear h
 unfold ints_Int.f at H
 have HC2 := aZ H
 clear H
 go_enter Tryd.func17, Tryd.ntmps17
 go_upto_region 1 with (fail)
 go_cut [14] (fun v14 wc => ∃ (kq : Nat) (x14_1 : Bool), v14 = .bool x14_1 ∧ Aside0 (ints_Int.j0 kq l0 x14_1 = some (r1, r2)) ∧ Aside0 (kq ≤ k) ∧ Aside0 (Below w.heap.size w wc))
 case first =>
  have H := HC2.out
  clear HC2
  by_cases c3 : (l0.length : Int) = 0
  ·rw [if_pos c3] at H
   have c3b0 : ((l0.length : Int) == 0) = true := beq_iff_eq.mpr c3
   have c3b1 : ((l0.length : Int) != 0) = false := bne_eq_false_iff_eq.mpr c3
   clear c3
   (first | rw [c3b0] | (simp only [i64_w, i32_w]; rw [c3b0]) | skip)
   have H' := aZ H
   clear H
   go_wp2
   go_meet
   case rel => exact ⟨_, (true), rS, H', ⟨by first | omega | exact Nat.le_refl _⟩, ⟨bB⟩⟩
  ·rw [if_neg c3] at H
   have c3b0 : ((l0.length : Int) == 0) = false := beq_eq_false_iff_ne.mpr c3
   have c3b1 : ((l0.length : Int) != 0) = true := bne_iff_ne.mpr c3
   have c3b2 : ¬ (l0 = []) := fun h_ => c3 (by rw [h_]; rfl)
   (first | rw [c3b0] | (simp only [i64_w, i32_w]; rw [c3b0]) | skip)
   have H' := aZ H
   clear H
   go_wp2
   go_meet
   case rel => exact ⟨_, (decide ((l0.length : Int) > 8)), rS, H', ⟨by first | omega | exact Nat.le_refl _⟩, ⟨bB⟩⟩
 case rest =>
  clear HC2
  try clear c1
  try clear p2
  try clear c3
  try clear c3b0
  try clear c3b1
  try clear c3b2
  obtain ⟨kq, x14_1, rfl, HA, HJ1, HB⟩ := hcut
  cases kq with
  | zero => exact absurd HA.out (by simp [ints_Int.j0])
  | succ kj1 =>
   have H := HA.out
   clear HA
   simp only [ints_Int.j0] at H
   by_cases c4 : x14_1 = true
   ·subst c4
    rw [if_pos rfl] at H
    simp only [Option.some.injEq, Prod.mk.injEq] at H
    obtain ⟨rfl, rfl⟩ := H
    go_wp2
    go_ret2
    exact ⟨rF, bB⟩
   ·replace c4 := Bool.eq_false_iff.mpr c4
    subst c4
    rw [if_neg (show ¬ (false = true) by decide)] at H
    by_cases c5 : 0 < (l0.length : Int)
    ·rw [if_pos c5] at H
     have c5b0 : decide (0 < (l0.length : Int)) = true := decide_eq_true c5
     have c5b1 : decide (0 < l0.length) = true := decide_eq_true (by omega)
     clear c5
     by_cases c6 : 1 ≤ (l0.length : Int)
     ·rw [if_pos c6] at H
      have c6b0 := eq_true c6
      have c6b1 : decide (1 ≤ (l0.length : Int)) = true := decide_eq_true c6
      clear c6
      have H' := aZ H
      clear H
      have p115 : 0 ≤ (0 : Int) := (by omega)
      have q115 : 0 < (l0.length : Int) := oD
      obtain ⟨ad115, e115, hx115_0⟩ := Kd.at_int HR0.out 0 p115 q115
      cases e115
      have qi115 : (0 < l0.length) = True := eq_true (by omega)
      (try rw [show ((0 : Int)).toNat = 0 from rfl] at hx115_0)
      (try rw [Addr.add_zero'] at hx115_0)
      replace hx115_0 := (HB.out.cell (World.block_lt_of_cell? w _ hx115_0)).trans hx115_0
      replace p115 := eq_true p115
      replace q115 := eq_true q115
      obtain ⟨i07, hi07, _, hsz7, _⟩ := info_parts info5
      obtain ⟨A7, hcut7, hA7, hC7⟩ := print_drop_of (P := Tryd.prog) (Value.int .u8) 0 24 5 .i64 Tryd.underlying24 hi07 hsz7 (some ad115) c0 l0 1 (by omega) (oD) HC0.out
      have HR116 := aZ (Kd.C_of_reads (h1 := fun _ => rfl) (hA7 _ (Kd.reads_of_C HR0.out)))
      have HC116 := aZ hC7
      clear hA7 hC7 hi07 hsz7
      go_wp2
      go_loopg [4, 23] kj1 (fun kq v4 v23 w' => ∃ (x4_2 : Int) (x23_2 : Int), v4 = .int .i64 x4_2 ∧ v23 = .int .i64 x23_2 ∧ Aside0 (ints_Int.l0 kq l0 x4_2 (l0.drop 1) ((l0.drop 1).length : Int) x23_2 = some (r1, r2)) ∧ Aside0 (kq ≤ kj1) ∧ Aside0 (Below w.heap.size w w'))
      case atStart => exact ⟨(wrap64 (IntKind.i8.wrap (rd l0 0))), (0), rS, rS, H', ⟨Nat.le_refl _⟩, ⟨bB⟩⟩
      case round =>
       clear H'
       try clear c1
       try clear p1
       try clear q1
       try clear hx1
       try clear qi1
       try clear p2
       try clear c3
       try clear c3b0
       try clear c3b1
       try clear c3b2
       try clear c4
       try clear c5
       try clear c5b0
       try clear c5b1
       try clear c6
       try clear c6b0
       try clear c6b1
       try clear p6
       try clear hx115_0
       try clear p115
       try clear p2
       try clear q115
       obtain ⟨x4_2, x23_2, rfl, rfl, HA, HK2, HB⟩ := hrel
       cases gk with
       | zero => exact absurd HA.out (by simp [ints_Int.l0])
       | succ k2 =>
        have H := HA.out
        clear HA
        simp only [ints_Int.l0] at H
        by_cases c8 : x23_2 < ((l0.drop 1).length : Int)
        ·rw [if_pos c8] at H
         have c8b0 : decide (x23_2 < ((l0.drop 1).length : Int)) = true := decide_eq_true c8
         have c8b0d := c8b0
         (try simp only [List.length_drop, List.drop_drop] at c8b0d)
         clear c8
         by_cases c9 : 0 ≤ x23_2
         ·rw [if_pos c9] at H
          have c9b0 : decide (0 ≤ x23_2) = true := decide_eq_true c9
          clear c9
          by_cases c10 : x23_2 < ((l0.drop 1).length : Int)
          ·rw [if_pos c10] at H
           have c10b0 : decide (x23_2 < ((l0.drop 1).length : Int)) = true := decide_eq_true c10
           have c10b0d := c10b0
           (try simp only [List.length_drop, List.drop_drop] at c10b0d)
           clear c10
           have H' := aZ H
           clear H
           have p117 : 0 ≤ (x23_2 : Int) := oD
           have q117 : x23_2 < ((l0.drop 1).length : Int) := oD
           obtain ⟨ad117, e117, hx117_0⟩ := Kd.at_int HR116.out x23_2 p117 q117
           cases e117
           replace hx117_0 := (HB.out.cell (World.block_lt_of_cell? w _ hx117_0)).trans hx117_0
           replace p117 := eq_true p117
           replace q117 := eq_true q117
           have q117d := q117
           (try simp only [List.length_drop, List.drop_drop] at q117d)
           go_wp2
           go_roundg k2
           case measure => have := HJ1.out; have := HK2.out; omega
           case rel => exact ⟨(wrap64 ((wrap64 (x4_2 * 256)) + (wrap64 (rd (l0.drop 1) x23_2)))), (wrap64 (x23_2 + 1)), rS, rS, H', ⟨by have := HJ1.out; have := HK2.out; omega⟩, ⟨bB⟩⟩
          ·rw [if_neg c10] at H
           exact absurd H (by simp)
         ·rw [if_neg c9] at H
          exact absurd H (by simp)
        ·rw [if_neg c8] at H
         have c8b0 : decide (x23_2 < ((l0.drop 1).length : Int)) = false := decide_eq_false c8
         have c8b0d := c8b0
         (try simp only [List.length_drop, List.drop_drop] at c8b0d)
         clear c8
         replace H := Option.bind_eq_some_iff.mp H
         obtain ⟨⟨t118, t119⟩, A110, H⟩ := H
         try dsimp only at H
         have A11 := aZ A110
         clear A110
         simp only [Option.some.injEq, Prod.mk.injEq] at H
         obtain ⟨rfl, rfl⟩ := H
         go_wp2_with (first | ((with_reducible refine gC 34 rfl ?_); refine goL (some 35) Tryd.func34 #[.slice (some ad115) l0.length c0, .int .i64 x4_2, .int .i64 21, .func (.func 18) #[] #[]] ?_; (with_reducible refine (ints_strict_int64.calls k2 _ _ l0 x4_2 21  t118 t119 _ ?side1 ?side2 A11.out).mono ?_); (case side1 => exact kC (Kd.C_below HR0.out HB.out)); (case side2 => exact HC0.out); rintro e w12 ⟨rfl, hb⟩; refine ⟨_, rfl, ?_⟩; replace HB := aZ (below_step bB hb); (try clear hb); (try clear hb2); (try clear hk); (try clear hi)))
         go_ret2
         exact ⟨rF, bB⟩
     ·rw [if_neg c6] at H
      exact absurd H (by simp)
    ·rw [if_neg c5] at H
     exact absurd H (by simp)
end Go.Proofs.YtkceebgncfggjaaDoor.PQ

namespace Go.Proofs.YtkceebgncfggjaaDoor.PQ
open Go.RowKit Go.Proofs.YtkceebgncfggjaaDoorW.PrintWords Go.Proofs.YtkceebgncfggjaaDoorW.PrintLast Go.Proofs.YtkceebgncfggjaaDoorW.PrintMore Go.Proofs.YtkceebgncfggjaaDoorX
set_option maxHeartbeats 8000000
set_option maxRecDepth 100000
def slices_Grow_byte_byte.f (l0 : List Int) (a1 : Int) : Option (List Int) := if 0 ≤ a1 ∧ a1 < 140737488355328 then some [] else none
theorem slices_Grow_byte_byte.calls0 (a1 : Int) (r : List Int) (w : World) (h : slices_Grow_byte_byte.f [] a1 = some r) :
    Calls Tryd.prog 78 #[.slice none 0 0, .int .i64 a1] w fun e w' => ∃ v0_ : Value, e = .returned (v0_) ∧ Kd.R (Kd.int .u8) 5 w' w.heap.size (fun _ => True) v0_ r ∧ Below w.heap.size w w' := by
  obtain ⟨i0, hi0, _, hsz, _⟩ := info_parts info5
  have hcut0 := cut_to (P := Tryd.prog) 24 5 .i64 Tryd.underlying24 hi0 none 0 0 0 (by omega) (by omega) (by omega)
  unfold slices_Grow_byte_byte.f at h
  by_cases hb : 0 ≤ a1 ∧ a1 < 140737488355328
  · rw [if_pos hb] at h
    obtain rfl := Option.some.inj h
    have HB := aZ (Below.refl w.heap.size w)
    have hneg : decide (a1 < 0) = false := decide_eq_false (by omega)
    have hw : wrap64 a1 = a1 := by unfold wrap64; omega
    by_cases hz : a1 = 0
    · subst hz
      go_enter Tryd.func78, Tryd.ntmps78
      go_wp2
      go_ret
      exact ⟨_, rfl, Kd.R_nil _ _ _ _ _, HB.out⟩
    · have hpos : decide (0 < a1) = true := decide_eq_true (by omega)
      have h0 : 0 ≤ a1 := hb.1
      have hl : ([] : List Int).length + a1.toNat < 140737488355328 := by simp; omega
      clear hb hz
      go_enter Tryd.func78, Tryd.ntmps78
      go_wp2_with (first | (at_builtin; refine Kd.R_append_zeros (Kd.int .u8) (w0 := w) w.heap.size rfl (.tmp 20) (.tmp 21) 24 3 5 (.int .u8 0) 1 rfl Tryd.underlying24 Tryd.underlying3 info5 rfl (by decide) (by omega) (.slice none 0 0) ([] : List Int) 0 a1 (fun _ => True) rfl rfl rfl ?aF ?aO h0 ?aB ?aS ?aL ?_; (case aB => exact HB.out); (case aF => exact (fun _ _ => trivial)); (case aO => exact (Kd.R_nil _ _ _ _ (fun _ => True))); (case aS => exact (below_size HB.out)); (case aL => have := hl; omega); intro v102 w8 ho hb hg hat; obtain ⟨A_, c_, rfl⟩ := Kd.R_slice ho; have HO := aZ (Kd.R_take (m := 0) ho (by omega)); have hcut1 := cut_to (P := Tryd.prog) 24 5 .i64 Tryd.underlying24 hi0 A_ _ c_ 0 (by omega) (by omega) (Kd.R_reads' ho).2.1; have hcut2 := hcut1; (try simp at hcut2); have HB2 := aZ hb; clear ho hb hg hat))
      go_ret
      exact ⟨_, rfl, HO.out, HB2.out⟩
  · rw [if_neg hb] at h
    cases h
end Go.Proofs.YtkceebgncfggjaaDoor.PQ

namespace Go.Proofs.YtkceebgncfggjaaDoor.PQ
open Go.RowKit Go.Proofs.YtkceebgncfggjaaDoorW.PrintWords Go.Proofs.YtkceebgncfggjaaDoorW.PrintLast Go.Proofs.YtkceebgncfggjaaDoorW.PrintMore Go.Proofs.YtkceebgncfggjaaDoorX
set_option maxHeartbeats 8000000
set_option maxRecDepth 100000
attribute [local go_sem] max2_int min2_int max_two min_two
mutual
def slices_Concat_byte_byte.l0 : Nat → List (List Int) → Int → List (List Int) → Int → Int → Option (List Int)
 | 0, _, _, _, _, _ => none
 | k + 1, x0, x3, x9, x10, x11 => if x11 < x10 then (if 0 ≤ x11 then (if x11 < (x9.length : Int) then (if (wrap64 (x3 + ((rd_L2 x9 x11).length : Int))) < 0 then (none) else (slices_Concat_byte_byte.l0 k x0 (wrap64 (x3 + ((rd_L2 x9 x11).length : Int))) x9 x10 (wrap64 (x11 + 1)))) else (none)) else (none)) else ((slices_Grow_byte_byte.f ([] : List Int) x3).bind fun t518 => (slices_Concat_byte_byte.l1 k t518 x0 (x0.length : Int) 0))
def slices_Concat_byte_byte.l1 : Nat → List Int → List (List Int) → Int → Int → Option (List Int)
 | 0, _, _, _, _ => none
 | k + 1, x6, x25, x26, x27 => if x27 < x26 then (if 0 ≤ x27 then (if x27 < (x25.length : Int) then (if x6.length + (rd_L2 x25 x27).length < 140737488355328 then (slices_Concat_byte_byte.l1 k (x6 ++ (rd_L2 x25 x27)) x25 x26 (wrap64 (x27 + 1))) else (none)) else (none)) else (none)) else (some x6)
end
def slices_Concat_byte_byte.f (k : Nat) (l0 : List (List Int)) : Option (List Int) := slices_Concat_byte_byte.l0 k l0 0 l0 (l0.length : Int) 0
theorem slices_Concat_byte_byte.calls (k : Nat) (A0 : Option Addr) (c0 : Nat) (l0 : List (List Int)) (r : List Int) (w : World) (hr0 : Kd.C (Kd.slice 5 (Kd.int .u8)) w A0 l0.length l0) (hc0 : l0.length ≤ c0) (h : slices_Concat_byte_byte.f k l0 = some r) :
  Calls Tryd.prog 62 #[.slice A0 l0.length c0] w fun e w' => ∃ v0_ : Value, e = .returned (v0_) ∧ Kd.R (Kd.int .u8) 5 w' w.heap.size (fun _ => True) v0_ r ∧ Below w.heap.size w w' := by
 have HR0 := aZ hr0
 have HC0 := aZ hc0
 clear hr0 hc0
 have HB := aZ (Below.refl w.heap.size w)
 have H := h
 clear h
 unfold slices_Concat_byte_byte.f at H
 have H' := aZ H
 clear H
 go_enter Tryd.func62, Tryd.ntmps62
 go_wp2
 go_loopg [3, 11] k (fun kq v3 v11 w' => ∃ (x3_1 : Int) (x11_1 : Int), v3 = .int .i64 x3_1 ∧ v11 = .int .i64 x11_1 ∧ Aside0 (slices_Concat_byte_byte.l0 kq l0 x3_1 l0 (l0.length : Int) x11_1 = some r) ∧ Aside0 (kq ≤ k) ∧ Aside0 (Below w.heap.size w w'))
 case atStart => exact ⟨(0), (0), rS, rS, H', ⟨Nat.le_refl _⟩, ⟨bB⟩⟩
 case round =>
  clear H'
  obtain ⟨x3_1, x11_1, rfl, rfl, HA, HK1, HB⟩ := hrel
  cases gk with
  | zero => exact absurd HA.out (by simp [slices_Concat_byte_byte.l0])
  | succ k1 =>
   have H := HA.out
   clear HA
   simp only [slices_Concat_byte_byte.l0] at H
   by_cases c2 : x11_1 < (l0.length : Int)
   ·rw [if_pos c2] at H
    have c2b0 : decide (x11_1 < (l0.length : Int)) = true := decide_eq_true c2
    clear c2
    by_cases c3 : 0 ≤ x11_1
    ·rw [if_pos c3] at H
     have c3b0 : decide (0 ≤ x11_1) = true := decide_eq_true c3
     clear c3
     by_cases c4 : x11_1 < (l0.length : Int)
     ·rw [if_pos c4] at H
      have c4b0 : decide (x11_1 < (l0.length : Int)) = true := decide_eq_true c4
      clear c4
      by_cases c5 : (wrap64 (x3_1 + ((rd_L2 l0 x11_1).length : Int))) < 0
      ·rw [if_pos c5] at H
       exact absurd H (by simp)
      ·rw [if_neg c5] at H
       have c5b0 : decide ((wrap64 (x3_1 + ((rd_L2 l0 x11_1).length : Int))) < 0) = false := decide_eq_false c5
       clear c5
       have H' := aZ H
       clear H
       have p517 : 0 ≤ (x11_1 : Int) := oD
       have q517 : x11_1 < (l0.length : Int) := oD
       obtain ⟨ad517, A517_0, c517_0, e517, hx517_0, hl517_0, hi517_0⟩ := at_L2 HR0.out x11_1 p517 q517
       cases e517
       replace hx517_0 := (HB.out.cell (World.block_lt_of_cell? w _ hx517_0)).trans hx517_0
       have HR517_0 := aZ hi517_0
       have HC517_0 := aZ hl517_0
       clear hi517_0 hl517_0
       replace p517 := eq_true p517
       replace q517 := eq_true q517
       go_wp2
       go_roundg k1
       case measure => have := HK1.out; omega
       case rel => exact ⟨(wrap64 (x3_1 + ((rd_L2 l0 x11_1).length : Int))), (wrap64 (x11_1 + 1)), rS, rS, H', ⟨by have := HK1.out; omega⟩, ⟨bB⟩⟩
     ·rw [if_neg c4] at H
      exact absurd H (by simp)
    ·rw [if_neg c3] at H
     exact absurd H (by simp)
   ·rw [if_neg c2] at H
    have c2b0 : decide (x11_1 < (l0.length : Int)) = false := decide_eq_false c2
    clear c2
    replace H := Option.bind_eq_some_iff.mp H
    obtain ⟨t518, A60, H⟩ := H
    try dsimp only at H
    have A6 := aZ A60
    clear A60
    have H' := aZ H
    clear H
    go_wp2_with (first | ((with_reducible refine gC 78 rfl ?_); refine goL (some 24) Tryd.func78 #[.slice none 0 0, .int .i64 x3_1] ?_; (refine (slices_Grow_byte_byte.calls0 x3_1 t518 _ A6.out).mono ?_); rintro e w7 ⟨v519, rfl, ho0, hb⟩; refine ⟨_, rfl, ?_⟩; have HO520 := aZ (Kd.R_lower ho0 (below_size bB)); replace HB := aZ (below_step bB hb); (try clear hb); (try clear hb2); (try clear hk); (try clear hi); (try clear ho0)))
    go_loopg [6, 27] k1 (fun kq v6 v27 w' => ∃ (x6_2 : List Int) (x27_2 : Int), v27 = .int .i64 x27_2 ∧ Aside0 (slices_Concat_byte_byte.l1 kq x6_2 l0 (l0.length : Int) x27_2 = some r) ∧ Aside0 (kq ≤ k1) ∧ Aside0 (Kd.R (Kd.int .u8) 5 w' w.heap.size (fun _ => True) v6 x6_2) ∧ Aside0 (Below w.heap.size w w'))
    case atStart => exact ⟨(t518), (0), rS, H', ⟨Nat.le_refl _⟩, ⟨by refine kR ?_; exact HO520.out⟩, ⟨bB⟩⟩
    case round =>
     clear H'
     try clear c2
     try clear c2b0
     try clear p2
     try clear c3
     try clear c3b0
     try clear c4
     try clear c4b0
     try clear c5
     try clear c5b0
     try clear p5
     try clear q5
     try clear hx5
     try clear c6
     try clear p6
     try clear c7
     try clear hx517_0
     try clear p517
     try clear q517
     obtain ⟨x6_2, x27_2, rfl, HA, HK2, HO_6, HB⟩ := hrel
     cases gk with
     | zero => exact absurd HA.out (by simp [slices_Concat_byte_byte.l1])
     | succ k2 =>
      have H := HA.out
      clear HA
      simp only [slices_Concat_byte_byte.l1] at H
      by_cases c8 : x27_2 < (l0.length : Int)
      ·rw [if_pos c8] at H
       have c8b0 : decide (x27_2 < (l0.length : Int)) = true := decide_eq_true c8
       clear c8
       by_cases c9 : 0 ≤ x27_2
       ·rw [if_pos c9] at H
        have c9b0 : decide (0 ≤ x27_2) = true := decide_eq_true c9
        clear c9
        by_cases c10 : x27_2 < (l0.length : Int)
        ·rw [if_pos c10] at H
         have c10b0 : decide (x27_2 < (l0.length : Int)) = true := decide_eq_true c10
         clear c10
         by_cases c11 : x6_2.length + (rd_L2 l0 x27_2).length < 140737488355328
         ·rw [if_pos c11] at H
          have LMc11 := aZ c11
          clear c11
          obtain ⟨y522, hy522⟩ : ∃ y_ : List Int, y_ = (x6_2 ++ (rd_L2 l0 x27_2)) := ⟨_, rfl⟩
          replace H : (slices_Concat_byte_byte.l1 k2 y522 l0 (l0.length : Int) (wrap64 (x27_2 + 1))) = some r := by first | (rw [hy522]; with_reducible exact H) | (have H2_ := (Option.bind_some _ _).symm.trans H; rw [hy522]; with_reducible exact H2_) | (have H2_ := (Option.bind_some _ _).symm.trans H; with_reducible exact H2_) | with_reducible exact H | (rw [hy522]; exact H) | exact H
          have Ny522 := aZ hy522
          clear hy522
          have H' := aZ H
          clear H
          have p521 : 0 ≤ (x27_2 : Int) := oD
          have q521 : x27_2 < (l0.length : Int) := oD
          obtain ⟨ad521, A521_0, c521_0, e521, hx521_0, hl521_0, hi521_0⟩ := at_L2 HR0.out x27_2 p521 q521
          cases e521
          replace hx521_0 := (HB.out.cell (World.block_lt_of_cell? w _ hx521_0)).trans hx521_0
          have HR521_0 := aZ hi521_0
          have HC521_0 := aZ hl521_0
          clear hi521_0 hl521_0
          replace p521 := eq_true p521
          replace q521 := eq_true q521
          go_wp2_with (first | ((with_reducible refine gate_builtin (b := .append) (xs := #[.tmp 31, .tmp 32]) rfl ?_); at_builtin; refine Kd.R_append_rows (Kd.int .u8) (w0 := w) w.heap.size rfl (.tmp 31) (.tmp 32) 24 5 (.int .u8 0) 1 rfl Tryd.underlying24 info5 rfl (by decide) (by omega) u6 x6_2 (rd_L2 l0 x27_2) _ _ _ (fun _ => True) (fun _ => False) rfl rfl ?aO ?aR (fun _ _ h => h) (fun _ h => h.elim) ?aF ?aB ?aS ?aL ?_; (case aR => exact kC (Kd.C_below HR521_0.out HB.out)); (case aB => exact bB); (case aF => exact (fun _ _ => trivial)); (case aO => exact (kR HO_6.out)); (case aS => exact (below_size bB)); (case aL => have := LMc11.out; omega); intro v523 w12 ho hb hg hat; rw [← Ny522.out] at ho; replace HB := aZ (hb); have HO524 := aZ (ho); clear HO_6; clear ho hb hg hat))
          go_roundg k2
          case measure => have := HK1.out; have := HK2.out; omega
          case rel => exact ⟨(y522), (wrap64 (x27_2 + 1)), rS, H', ⟨by have := HK1.out; have := HK2.out; omega⟩, ⟨by refine kR ?_; exact HO524.out⟩, ⟨bB⟩⟩
         ·rw [if_neg c11] at H
          exact absurd H (by simp)
        ·rw [if_neg c10] at H
         exact absurd H (by simp)
       ·rw [if_neg c9] at H
        exact absurd H (by simp)
      ·rw [if_neg c8] at H
       have c8b0 : decide (x27_2 < (l0.length : Int)) = false := decide_eq_false c8
       clear c8
       obtain rfl := Option.some.inj H
       go_wp2
       go_ret
       exact ⟨_, rF, by refine kR ?_; exact HO_6.out, bB⟩
end Go.Proofs.YtkceebgncfggjaaDoor.PQ

namespace Go.Proofs.YtkceebgncfggjaaDoor.PQ
open Go.RowKit Go.Proofs.YtkceebgncfggjaaDoorW.PrintWords Go.Proofs.YtkceebgncfggjaaDoorW.PrintLast Go.Proofs.YtkceebgncfggjaaDoorW.PrintMore Go.Proofs.YtkceebgncfggjaaDoorX
set_option maxHeartbeats 8000000
set_option maxRecDepth 100000
attribute [local go_sem] max2_int min2_int max_two min_two
mutual
def warderref04_Parts.l0 : Nat → Int → Int → Int → Int → List Int → List (S43) → Option (Int)
 | 0, _, _, _, _, _, _ => none
 | k + 1, x1, x5, x6, x497000, x497001, x497002 => if x6 < (x497002.length : Int) then (if x5 ≤ x1 then (if 0 ≤ x6 then ((warderref04_Parts.f k ((rd_T43 x497002 x6).f0) ((rd_T43 x497002 x6).f1) ((rd_T43 x497002 x6).f2) (wrap64 (x1 - x5))).bind fun t498 => (warderref04_Parts.l0 k x1 (wrap64 (x5 + t498)) (wrap64 (x6 + 1)) x497000 x497001 x497002)) else (none)) else (some x5)) else (some x5)
def warderref04_Parts.f : Nat → Int → List Int → List (S43) → Int → Option (Int)
 | 0, _, _, _, _ => none
 | k + 1, a0_0, l0_1, l0_2, a1 => warderref04_Parts.l0 k a1 1 0 a0_0 l0_1 l0_2
end
theorem warderref04_Parts.calls (k : Nat) : ∀ (a0_0 : Int) (A0_1 : Option Addr) (c0_1 : Nat) (l0_1 : List Int) (A0_2 : Option Addr) (c0_2 : Nat) (l0_2 : List (S43)) (a1 : Int) (r : Int) (w : World) (hr0_1 : Kd.C (Kd.int .u8) w A0_1 l0_1.length l0_1) (hc0_1 : l0_1.length ≤ c0_1) (hr0_2 : Kd.C k43 w A0_2 l0_2.length l0_2) (hc0_2 : l0_2.length ≤ c0_2) (h : warderref04_Parts.f k a0_0 l0_1 l0_2 a1 = some r),
  Calls Tryd.prog 26 #[.agg #[.int .u8 a0_0, .slice A0_1 l0_1.length c0_1, .slice A0_2 l0_2.length c0_2], .int .i64 a1] w fun e w' => e = .returned (.int .i64 r) ∧ Below w.heap.size w w' := by
 induction k using Nat.strongRecOn with
 | _ k ih =>
 intro a0_0 A0_1 c0_1 l0_1 A0_2 c0_2 l0_2 a1 r w hr0_1 hc0_1 hr0_2 hc0_2 h
 cases k with
 | zero => exact absurd h (by simp [warderref04_Parts.f])
 | succ k =>
 simp only [warderref04_Parts.f] at h
 have hu43 := Tryd.underlying43
 have HR0_1 := aZ hr0_1
 have HC0_1 := aZ hc0_1
 clear hr0_1 hc0_1
 have HR0_2 := aZ hr0_2
 have HC0_2 := aZ hc0_2
 clear hr0_2 hc0_2
 have HB := aZ (Below.refl w.heap.size w)
 have H := h
 clear h
 have H' := aZ H
 clear H
 go_enter Tryd.func26, Tryd.ntmps26
 go_wp2_with (first | ((with_reducible refine gD 2 rfl ?_); refine bxE (N := 2) (cs := #[.int .u8 a0_0, .slice A0_1 l0_1.length c0_1, .slice A0_2 l0_2.length c0_2]) (t := 43) ?_; intro gb496 hg w3 hbox hb; have BK496 := aZ (hbox); have GW496 := aZ (gwB hg : w.heap.size ≤ gb496); have GE496 := aZ (gwB hg : w.heap.size ≤ gb496); replace HB := aZ (below_step bB hb); clear hb hbox hg))
 go_loopg [5, 6] k (fun kq v5 v6 w' => ∃ (x5_1 : Int) (x6_1 : Int), v5 = .int .i64 x5_1 ∧ v6 = .int .i64 x6_1 ∧ Aside0 (warderref04_Parts.l0 kq a1 x5_1 x6_1 a0_0 l0_1 l0_2 = some r) ∧ Aside0 (kq ≤ k) ∧ Aside0 (w'.heap[gb496]? = some (.cells #[.int .u8 a0_0, (.slice A0_1 l0_1.length c0_1), (.slice A0_2 l0_2.length c0_2)] 43 (0, 0))) ∧ Aside0 (Below w.heap.size w w'))
 case atStart => exact ⟨(1), (0), rS, rS, H', ⟨Nat.le_refl _⟩, ⟨by refine kB ?_; exact BK496.out⟩, ⟨bB⟩⟩
 case round =>
  clear H'
  try clear c2
  try clear p2
  obtain ⟨x5_1, x6_1, rfl, rfl, HA, HK1, BK496, HB⟩ := hrel
  cases gk with
  | zero => exact absurd HA.out (by simp [warderref04_Parts.l0])
  | succ k1 =>
   have H := HA.out
   clear HA
   simp only [warderref04_Parts.l0] at H
   by_cases c4 : x6_1 < (l0_2.length : Int)
   ·rw [if_pos c4] at H
    have c4b0 : decide (x6_1 < (l0_2.length : Int)) = true := decide_eq_true c4
    clear c4
    by_cases c5 : x5_1 ≤ a1
    ·rw [if_pos c5] at H
     have c5b0 : decide (x5_1 ≤ a1) = true := decide_eq_true c5
     clear c5
     by_cases c6 : 0 ≤ x6_1
     ·rw [if_pos c6] at H
      have c6b0 : decide (0 ≤ x6_1) = true := decide_eq_true c6
      clear c6
      replace H := Option.bind_eq_some_iff.mp H
      obtain ⟨t498, A70, H⟩ := H
      try dsimp only at H
      have A7 := aZ A70
      clear A70
      have H' := aZ H
      clear H
      obtain ⟨hcz8_0, hcz8_1, hcz8_2⟩ := cz3 (w := wr) BK496.out
      obtain ⟨hfz8_0, hfz8_1, hfz8_2⟩ := fz3 BK496.out
      have p497 : 0 ≤ (x6_1 : Int) := oD
      have q497 : x6_1 < (l0_2.length : Int) := oD
      obtain ⟨ad497, A497_1, c497_1, A497_2, c497_2, e497, hx497_0, hx497_1, hx497_2, hl497_1, hi497_1, hl497_2, hi497_2⟩ := at_T43 HR0_2.out x6_1 p497 q497
      cases e497
      replace hx497_0 := (HB.out.cell (World.block_lt_of_cell? w _ hx497_0)).trans hx497_0
      replace hx497_1 := (HB.out.cell (World.block_lt_of_cell? w _ hx497_1)).trans hx497_1
      replace hx497_2 := (HB.out.cell (World.block_lt_of_cell? w _ hx497_2)).trans hx497_2
      have HR497_1 := aZ hi497_1
      have HC497_1 := aZ hl497_1
      clear hi497_1 hl497_1
      have HR497_2 := aZ hi497_2
      have HC497_2 := aZ hl497_2
      clear hi497_2 hl497_2
      replace p497 := eq_true p497
      replace q497 := eq_true q497
      go_wp2_with (first | ((with_reducible refine gC 26 rfl ?_); refine goL (some 28) Tryd.func26 #[.agg #[.int .u8 ((rd_T43 l0_2 x6_1).f0), .slice A497_1 ((rd_T43 l0_2 x6_1).f1).length c497_1, .slice A497_2 ((rd_T43 l0_2 x6_1).f2).length c497_2], .int .i64 (wrap64 (a1 - x5_1))] ?_; (with_reducible refine (ih k1 (by have := HK1.out; omega) ((rd_T43 l0_2 x6_1).f0) _ _ ((rd_T43 l0_2 x6_1).f1) _ _ ((rd_T43 l0_2 x6_1).f2) (wrap64 (a1 - x5_1)) t498 _ ?side1 ?side2 ?side3 ?side4 A7.out).mono ?_); (case side1 => exact kC (Kd.C_below HR497_1.out HB.out)); (case side2 => exact HC497_1.out); (case side3 => exact kC (Kd.C_below HR497_2.out HB.out)); (case side4 => exact HC497_2.out); rintro e w9 ⟨rfl, hb⟩; refine ⟨_, rfl, ?_⟩; replace BK496 := aZ (bkB BK496.out hb); replace HB := aZ (below_step bB hb); (try clear hb); (try clear hb2); (try clear hk); (try clear hi)))
      go_roundg k1
      case measure => have := HK1.out; omega
      case rel => exact ⟨(wrap64 (x5_1 + t498)), (wrap64 (x6_1 + 1)), rS, rS, H', ⟨by have := HK1.out; omega⟩, ⟨by refine kB ?_; exact BK496.out⟩, ⟨bB⟩⟩
     ·rw [if_neg c6] at H
      exact absurd H (by simp)
    ·rw [if_neg c5] at H
     have c5b0 : decide (x5_1 ≤ a1) = false := decide_eq_false c5
     clear c5
     obtain rfl := Option.some.inj H
     obtain ⟨hcz10_0, hcz10_1, hcz10_2⟩ := cz3 (w := wr) BK496.out
     obtain ⟨hfz10_0, hfz10_1, hfz10_2⟩ := fz3 BK496.out
     go_wp2
     go_ret
     exact ⟨rF, bB⟩
   ·rw [if_neg c4] at H
    have c4b0 : decide (x6_1 < (l0_2.length : Int)) = false := decide_eq_false c4
    clear c4
    obtain rfl := Option.some.inj H
    obtain ⟨hcz11_0, hcz11_1, hcz11_2⟩ := cz3 (w := wr) BK496.out
    obtain ⟨hfz11_0, hfz11_1, hfz11_2⟩ := fz3 BK496.out
    go_wp2
    go_ret
    exact ⟨rF, bB⟩
end Go.Proofs.YtkceebgncfggjaaDoor.PQ

