/- NodesSets: words, printed functions and plain laws that the claim uses, laid by a program of this session's. No condition beside those in each theorem's own line. -/
import Derived.Deep.DeepBigQuietO
import Derived.Deep.DeepMust
import Derived.Laws.BitsAllLaws
import Derived.Test.YtkceebgncfggjaaDoorZS6
set_option linter.unusedVariables false
set_option linter.unusedSimpArgs false
namespace Go.Proofs.YtkceebgncfggjaaDoor.PQ
open Go.RowKit Go.Proofs.YtkceebgncfggjaaDoorW.PrintWords Go.Proofs.YtkceebgncfggjaaDoorW.PrintLast Go.Proofs.YtkceebgncfggjaaDoorW.PrintMore Go.Proofs.YtkceebgncfggjaaDoorX
set_option maxHeartbeats 8000000
set_option maxRecDepth 100000
theorem infoV : (Tryd.prog.info? 5).map (fun i => (i.zero, i.size, i.bytes)) = some (some (.int .u8 0), 1, 1) := by kernel_rfl
theorem and7V : ∀ X : Fin 256, Go.bits .and .u8 ((X.val : Nat) : Int) 7 = ((X.val % 8 : Nat) : Int) := by decide
def wrd (t : List Int) : Int := (utf8_word_byte.f t).getD 0
theorem word_some {t : List Int} (h : 8 ≤ t.length) : utf8_word_byte.f t = some (wrd t) := by
  unfold wrd utf8_word_byte.f
  rw [if_pos (by omega), if_pos (by omega), if_pos (by omega), if_pos (by omega), if_pos (by omega), if_pos (by omega), if_pos (by omega), if_pos (by omega)]
  rfl
def inF : Nat → List Int → List Int
  | 0, t => t
  | n + 1, t => if 32 < t.length then (if (Go.bits .and .u64 (Go.bits .or .u64 (Go.bits .or .u64 (wrd t) (wrd (t.drop 8))) (Go.bits .or .u64 (wrd (t.drop 16)) (wrd (t.drop 24)))) 9259542123273814144 == 0) = true then inF n (t.drop 32) else t) else t
def fast (t : List Int) : List Int :=
  if 8 < t.length then (if (Go.bits .and .u64 (wrd t) 9259542123273814144 == 0) = true then (if 16 < (t.drop 8).length then (if (Go.bits .and .u64 (Go.bits .or .u64 (wrd (t.drop 8)) (wrd ((t.drop 8).drop 8))) 9259542123273814144 == 0) = true then inF (((t.drop 8).drop 16).length + 1) ((t.drop 8).drop 16) else t.drop 8) else t.drop 8) else t) else t
def stepN (t : List Int) (x : Nat) : Option Nat :=
  if x % 8 = 2 then (if t.length < 2 ∨ rd t 1 < (Lib.accLo (x / 16) : Int) ∨ (Lib.accHi (x / 16) : Int) < rd t 1 then none else some 2)
  else if x % 8 = 3 then (if t.length < 3 ∨ rd t 1 < (Lib.accLo (x / 16) : Int) ∨ (Lib.accHi (x / 16) : Int) < rd t 1 ∨ rd t 2 < 128 ∨ 191 < rd t 2 then none else some 3)
  else if x % 8 = 4 then (if t.length < 4 ∨ rd t 1 < (Lib.accLo (x / 16) : Int) ∨ (Lib.accHi (x / 16) : Int) < rd t 1 ∨ rd t 2 < 128 ∨ 191 < rd t 2 ∨ rd t 3 < 128 ∨ 191 < rd t 3 then none else some 4)
  else none
def vF : Nat → List Int → Bool
  | 0, _ => false
  | n + 1, t => if 0 < t.length then (if rd t 0 < 128 then vF n (fast (t.drop 1)) else match stepN t (Lib.firstT (rd t 0).toNat) with | none => false | some m => vF n (t.drop m)) else true
def InR (l : List Int) : Prop := ∀ x ∈ l, 0 ≤ x ∧ x < 256
instance (l : List Int) : Decidable (InR l) := by unfold InR; exact inferInstance
theorem InR.drop {l : List Int} (h : InR l) (k : Nat) : InR (l.drop k) := fun x hx => h x (List.mem_of_mem_drop hx)
theorem InR.rd {l : List Int} (h : InR l) {i : Int} (h0 : 0 ≤ i) (h1 : i < l.length) : 0 ≤ rd l i ∧ rd l i < 256 := by
  have hl : i.toNat < l.length := by omega
  have e : Go.Proofs.YtkceebgncfggjaaDoorW.PrintWords.rd l i = l[i.toNat] := by unfold Go.Proofs.YtkceebgncfggjaaDoorW.PrintWords.rd; simp [hl]
  rw [e]
  exact h _ (List.getElem_mem hl)
theorem cutS {A : Option Addr} {c : Nat} {t : List Int} {w : World} (k : Nat) (j : Int) (hj : (k : Int) = j) (h : Kd.C (Kd.int .u8) w A t.length t) (hc : t.length ≤ c) (hk : k ≤ t.length) :
    ∃ A' c', (∀ W, (Instr.slice 24 (.slice A t.length c) (some (.int .i64 j)) none none).run Tryd.prog W = .ok (.slice A' (t.drop k).length c') W) ∧ Kd.C (Kd.int .u8) w A' (t.drop k).length (t.drop k) ∧ (t.drop k).length ≤ c' := by
  refine ⟨_, c - k, fun W => ?_, Kd.C_drop h hk hc, by rw [List.length_drop]; omega⟩
  subst hj
  obtain ⟨i0, hi0, _, hsz, _⟩ := info_parts infoV
  have hc_ := cut_from (P := Tryd.prog) 24 5 .i64 Tryd.underlying24 hi0 1 hsz A t.length c (k : Int) (by omega) (by omega) W
  rw [hc_, List.length_drop]
  rfl
def utf8_Valid.f (k : Nat) (l0 : List Int) : Option Bool := if InR l0 then some (vF (l0.length + 1) l0) else none
theorem utf8_Valid.mono : ∀ l0 k, LeO (utf8_Valid.f k l0) (utf8_Valid.f (k + 1) l0) := fun _ _ => LeO.refl _
theorem utf8_Valid.calls (k : Nat) (A0 : Option Addr) (c0 : Nat) (l0 : List Int) (r : Bool) (w : World) (hT : TabU w) (hr0 : Kd.C (Kd.int .u8) w A0 l0.length l0) (hc0 : l0.length ≤ c0) (h : utf8_Valid.f k l0 = some r) :
    Calls Tryd.prog 85 #[.slice A0 l0.length c0] w fun e w' => e = .returned (.bool r) ∧ Below w.heap.size w w' := by
  have hu119 := Tryd.underlying119
  have hu121 := Tryd.underlying121
  have hu122 := Tryd.underlying122
  unfold utf8_Valid.f at h
  by_cases hin : InR l0
  case neg => rw [if_neg hin] at h; cases h
  rw [if_pos hin] at h
  have hv := Option.some.inj h
  have HR := aZ hr0
  have HC := aZ hc0
  have HI := aZ hin
  have HV := aZ hv
  have HT := aZ hT
  clear h hv hin hr0 hc0 hT
  have q0 : (l0.length : Int) ≤ (c0 : Int) := by have h_ := HC.out; omega
  go_enter Tryd.func85, Tryd.ntmps85
  go_wp2
  go_loopg [0] (l0.length + 1) (fun gk s0 wx => ∃ (t : List Int) (A : Option Addr) (c : Nat), s0 = .slice A t.length c ∧ Aside0 (Below w.heap.size w wx) ∧ Aside0 (Kd.C (Kd.int .u8) wx A t.length t) ∧ Aside0 (t.length ≤ c) ∧ Aside0 (InR t) ∧ Aside0 (vF gk t = r) ∧ Aside0 (t.length < gk))
  case atStart => exact ⟨l0, A0, _, rfl, ⟨Below.refl _ _⟩, HR, ⟨Nat.le_refl _⟩, HI, HV, ⟨Nat.lt_succ_self _⟩⟩
  case round =>
    clear HR HC HI HV q0
    obtain ⟨t, A, c, rfl, HB, HR, HC, HI, HV, HG⟩ := hrel
    obtain ⟨g', rfl⟩ : ∃ g', gk = g' + 1 := ⟨gk - 1, by have h_ := HG.out; omega⟩
    have hv := HV.out
    simp only [vF] at hv
    by_cases h0 : 0 < t.length
    · rw [if_pos h0] at hv
      have h0z : (0 : Int) < (t.length : Int) := by omega
      have h0d : decide ((0 : Int) < (t.length : Int)) = true := decide_eq_true h0z
      obtain ⟨ad, e0, hx0⟩ := Kd.at_int HR.out 0 (by omega) h0z
      cases e0
      have hr0 := HI.out.rd (i := 0) (by omega) h0z
      have HR0 := aZ hr0
      (try rw [show ((0 : Int)).toNat = 0 from rfl] at hx0)
      (try rw [Addr.add_zero'] at hx0)
      by_cases ha : rd t 0 < 128
      · rw [if_pos ha] at hv
        have had : decide (rd t 0 < 128) = true := decide_eq_true ha
        obtain ⟨A1, c1, hs1, hC1, hc1⟩ := cutS 1 1 rfl HR.out HC.out (by omega : 1 ≤ t.length)
        have hl1 : (t.drop 1).length + 1 = t.length := by rw [List.length_drop]; omega
        have hI1 := HI.out.drop 1
        have HV1 := aZ hv
        have HG1 := aZ (show (t.drop 1).length < g' by have h_ := HG.out; omega)
        generalize t.drop 1 = t1 at hs1 hC1 hc1 hI1 HV1 HG1 hl1
        clear HV hv HI HG hl1 hr0 ha
        have H1 := aZ hC1
        have HC1 := aZ hc1
        have HI1 := aZ hI1
        clear hC1 hc1 hI1
        have hv := HV1.out
        unfold fast at hv
        by_cases c8 : 8 < t1.length
        · rw [if_pos c8] at hv
          have c8d : decide ((8 : Int) < (t1.length : Int)) = true := decide_eq_true (by omega)
          have c8e : decide (8 < t1.length) = true := decide_eq_true c8
          have c8p : (8 : Int) < (t1.length : Int) := by omega
          cases hz1 : (Go.bits .and .u64 (wrd t1) 9259542123273814144 == 0) with
          | false =>
            rw [hz1, if_neg (by simp)] at hv
            have HV2 := aZ hv
            clear HV1 hv
            go_wp2_with (first | (go_at_call 96; (with_reducible refine (utf8_word_byte.calls _ _ t1 _ _ (by exact kC H1.out) HC1.out (word_some (by omega))).mono ?_); rintro e w' ⟨rfl, ⟨nd, rfl⟩⟩; (try first | exact ⟨rfl, _, World.drewN_drewN _ _ _⟩ | exact ⟨rfl, _, Eq.trans (World.drewN_drewN _ _ _) (congrArg (World.drewN _) (Nat.add_assoc _ _ _))⟩)))
            repeat (go_quiet (first | (go_at_call 96; (with_reducible refine (utf8_word_byte.calls _ _ t1 _ _ (by exact kC H1.out) HC1.out (word_some (by omega))).mono ?_); rintro e w' ⟨rfl, ⟨nd, rfl⟩⟩; (try first | exact ⟨rfl, _, World.drewN_drewN _ _ _⟩ | exact ⟨rfl, _, Eq.trans (World.drewN_drewN _ _ _) (congrArg (World.drewN _) (Nat.add_assoc _ _ _))⟩))); try go_wp2_with (first | (go_at_call 96; (with_reducible refine (utf8_word_byte.calls _ _ t1 _ _ (by exact kC H1.out) HC1.out (word_some (by omega))).mono ?_); rintro e w' ⟨rfl, ⟨nd, rfl⟩⟩; (try first | exact ⟨rfl, _, World.drewN_drewN _ _ _⟩ | exact ⟨rfl, _, Eq.trans (World.drewN_drewN _ _ _) (congrArg (World.drewN _) (Nat.add_assoc _ _ _))⟩))))
            go_roundg g'
            case measure => omega
            case rel => exact ⟨t1, _, _, rfl, ⟨bB⟩, ⟨(by exact kC H1.out)⟩, HC1, HI1, HV2, HG1⟩
          | true =>
            rw [hz1, if_pos rfl] at hv
            obtain ⟨A2, c2, hs2, hC2, hc2⟩ := cutS 8 8 rfl H1.out HC1.out (by omega : 8 ≤ t1.length)
            have hl2 : (t1.drop 8).length + 8 = t1.length := by rw [List.length_drop]; omega
            have hI2 := HI1.out.drop 8
            have HV2 := aZ hv
            have HG2 := aZ (show (t1.drop 8).length < g' by have h_ := HG1.out; omega)
            generalize t1.drop 8 = t2 at hs2 hC2 hc2 hI2 HV2 HG2 hl2
            have H2 := aZ hC2
            have HC2 := aZ hc2
            have HI2 := aZ hI2
            clear HV1 hv hC2 hc2 hI2 hl2
            have hv := HV2.out
            by_cases c16 : 16 < t2.length
            · rw [if_pos c16] at hv
              have c16d : decide ((16 : Int) < (t2.length : Int)) = true := decide_eq_true (by omega)
              have c16e : decide (16 < t2.length) = true := decide_eq_true c16
              obtain ⟨A3, c3, hs3, hC3, hc3⟩ := cutS 8 8 rfl H2.out HC2.out (by omega : 8 ≤ t2.length)
              have hl3 : (t2.drop 8).length + 8 = t2.length := by rw [List.length_drop]; omega
              have H3 := aZ hC3
              have HC3 := aZ hc3
              clear hC3 hc3
              cases hz2 : (Go.bits .and .u64 (Go.bits .or .u64 (wrd t2) (wrd (t2.drop 8))) 9259542123273814144 == 0) with
              | false =>
                rw [hz2, if_neg (by simp)] at hv
                have HV3 := aZ hv
                clear HV2 hv
                generalize t2.drop 8 = t3 at *
                go_wp2_with (first | (go_at_call 96; (with_reducible refine (utf8_word_byte.calls _ _ t1 _ _ (by exact kC H1.out) HC1.out (word_some (by omega))).mono ?_); rintro e w' ⟨rfl, ⟨nd, rfl⟩⟩; (try first | exact ⟨rfl, _, World.drewN_drewN _ _ _⟩ | exact ⟨rfl, _, Eq.trans (World.drewN_drewN _ _ _) (congrArg (World.drewN _) (Nat.add_assoc _ _ _))⟩)) | (go_at_call 96; (with_reducible refine (utf8_word_byte.calls _ _ t2 _ _ (by exact kC H2.out) HC2.out (word_some (by omega))).mono ?_); rintro e w' ⟨rfl, ⟨nd, rfl⟩⟩; (try first | exact ⟨rfl, _, World.drewN_drewN _ _ _⟩ | exact ⟨rfl, _, Eq.trans (World.drewN_drewN _ _ _) (congrArg (World.drewN _) (Nat.add_assoc _ _ _))⟩)) | (go_at_call 96; (with_reducible refine (utf8_word_byte.calls _ _ t3 _ _ (by exact kC H3.out) HC3.out (word_some (by omega))).mono ?_); rintro e w' ⟨rfl, ⟨nd, rfl⟩⟩; (try first | exact ⟨rfl, _, World.drewN_drewN _ _ _⟩ | exact ⟨rfl, _, Eq.trans (World.drewN_drewN _ _ _) (congrArg (World.drewN _) (Nat.add_assoc _ _ _))⟩)))
                repeat (go_quiet (first | (go_at_call 96; (with_reducible refine (utf8_word_byte.calls _ _ t1 _ _ (by exact kC H1.out) HC1.out (word_some (by omega))).mono ?_); rintro e w' ⟨rfl, ⟨nd, rfl⟩⟩; (try first | exact ⟨rfl, _, World.drewN_drewN _ _ _⟩ | exact ⟨rfl, _, Eq.trans (World.drewN_drewN _ _ _) (congrArg (World.drewN _) (Nat.add_assoc _ _ _))⟩)) | (go_at_call 96; (with_reducible refine (utf8_word_byte.calls _ _ t2 _ _ (by exact kC H2.out) HC2.out (word_some (by omega))).mono ?_); rintro e w' ⟨rfl, ⟨nd, rfl⟩⟩; (try first | exact ⟨rfl, _, World.drewN_drewN _ _ _⟩ | exact ⟨rfl, _, Eq.trans (World.drewN_drewN _ _ _) (congrArg (World.drewN _) (Nat.add_assoc _ _ _))⟩)) | (go_at_call 96; (with_reducible refine (utf8_word_byte.calls _ _ t3 _ _ (by exact kC H3.out) HC3.out (word_some (by omega))).mono ?_); rintro e w' ⟨rfl, ⟨nd, rfl⟩⟩; (try first | exact ⟨rfl, _, World.drewN_drewN _ _ _⟩ | exact ⟨rfl, _, Eq.trans (World.drewN_drewN _ _ _) (congrArg (World.drewN _) (Nat.add_assoc _ _ _))⟩))); try go_wp2_with (first | (go_at_call 96; (with_reducible refine (utf8_word_byte.calls _ _ t1 _ _ (by exact kC H1.out) HC1.out (word_some (by omega))).mono ?_); rintro e w' ⟨rfl, ⟨nd, rfl⟩⟩; (try first | exact ⟨rfl, _, World.drewN_drewN _ _ _⟩ | exact ⟨rfl, _, Eq.trans (World.drewN_drewN _ _ _) (congrArg (World.drewN _) (Nat.add_assoc _ _ _))⟩)) | (go_at_call 96; (with_reducible refine (utf8_word_byte.calls _ _ t2 _ _ (by exact kC H2.out) HC2.out (word_some (by omega))).mono ?_); rintro e w' ⟨rfl, ⟨nd, rfl⟩⟩; (try first | exact ⟨rfl, _, World.drewN_drewN _ _ _⟩ | exact ⟨rfl, _, Eq.trans (World.drewN_drewN _ _ _) (congrArg (World.drewN _) (Nat.add_assoc _ _ _))⟩)) | (go_at_call 96; (with_reducible refine (utf8_word_byte.calls _ _ t3 _ _ (by exact kC H3.out) HC3.out (word_some (by omega))).mono ?_); rintro e w' ⟨rfl, ⟨nd, rfl⟩⟩; (try first | exact ⟨rfl, _, World.drewN_drewN _ _ _⟩ | exact ⟨rfl, _, Eq.trans (World.drewN_drewN _ _ _) (congrArg (World.drewN _) (Nat.add_assoc _ _ _))⟩))))
                go_roundg g'
                case measure => omega
                case rel => exact ⟨t2, _, _, rfl, ⟨bB⟩, ⟨(by exact kC H2.out)⟩, HC2, HI2, HV3, HG2⟩
              | true =>
                rw [hz2, if_pos rfl] at hv
                obtain ⟨A4, c4, hs4, hC4, hc4⟩ := cutS 16 16 rfl H2.out HC2.out (by omega : 16 ≤ t2.length)
                have hl4 : (t2.drop 16).length + 16 = t2.length := by rw [List.length_drop]; omega
                have hI4 := HI2.out.drop 16
                have H4 := aZ hC4
                have HC4 := aZ hc4
                have HI4 := aZ hI4
                have HV3 := aZ hv
                have HG4 := aZ (show (t2.drop 16).length < g' by have h_ := HG2.out; omega)
                clear hC4 hc4 hI4 HV2 hv
                generalize t2.drop 8 = t3 at *
                generalize t2.drop 16 = t4 at *
                go_wp2_with (first | (go_at_call 96; (with_reducible refine (utf8_word_byte.calls _ _ t1 _ _ (by exact kC H1.out) HC1.out (word_some (by omega))).mono ?_); rintro e w' ⟨rfl, ⟨nd, rfl⟩⟩; (try first | exact ⟨rfl, _, World.drewN_drewN _ _ _⟩ | exact ⟨rfl, _, Eq.trans (World.drewN_drewN _ _ _) (congrArg (World.drewN _) (Nat.add_assoc _ _ _))⟩)) | (go_at_call 96; (with_reducible refine (utf8_word_byte.calls _ _ t2 _ _ (by exact kC H2.out) HC2.out (word_some (by omega))).mono ?_); rintro e w' ⟨rfl, ⟨nd, rfl⟩⟩; (try first | exact ⟨rfl, _, World.drewN_drewN _ _ _⟩ | exact ⟨rfl, _, Eq.trans (World.drewN_drewN _ _ _) (congrArg (World.drewN _) (Nat.add_assoc _ _ _))⟩)) | (go_at_call 96; (with_reducible refine (utf8_word_byte.calls _ _ t3 _ _ (by exact kC H3.out) HC3.out (word_some (by omega))).mono ?_); rintro e w' ⟨rfl, ⟨nd, rfl⟩⟩; (try first | exact ⟨rfl, _, World.drewN_drewN _ _ _⟩ | exact ⟨rfl, _, Eq.trans (World.drewN_drewN _ _ _) (congrArg (World.drewN _) (Nat.add_assoc _ _ _))⟩)))
                repeat (go_quiet (first | (go_at_call 96; (with_reducible refine (utf8_word_byte.calls _ _ t1 _ _ (by exact kC H1.out) HC1.out (word_some (by omega))).mono ?_); rintro e w' ⟨rfl, ⟨nd, rfl⟩⟩; (try first | exact ⟨rfl, _, World.drewN_drewN _ _ _⟩ | exact ⟨rfl, _, Eq.trans (World.drewN_drewN _ _ _) (congrArg (World.drewN _) (Nat.add_assoc _ _ _))⟩)) | (go_at_call 96; (with_reducible refine (utf8_word_byte.calls _ _ t2 _ _ (by exact kC H2.out) HC2.out (word_some (by omega))).mono ?_); rintro e w' ⟨rfl, ⟨nd, rfl⟩⟩; (try first | exact ⟨rfl, _, World.drewN_drewN _ _ _⟩ | exact ⟨rfl, _, Eq.trans (World.drewN_drewN _ _ _) (congrArg (World.drewN _) (Nat.add_assoc _ _ _))⟩)) | (go_at_call 96; (with_reducible refine (utf8_word_byte.calls _ _ t3 _ _ (by exact kC H3.out) HC3.out (word_some (by omega))).mono ?_); rintro e w' ⟨rfl, ⟨nd, rfl⟩⟩; (try first | exact ⟨rfl, _, World.drewN_drewN _ _ _⟩ | exact ⟨rfl, _, Eq.trans (World.drewN_drewN _ _ _) (congrArg (World.drewN _) (Nat.add_assoc _ _ _))⟩))); try go_wp2_with (first | (go_at_call 96; (with_reducible refine (utf8_word_byte.calls _ _ t1 _ _ (by exact kC H1.out) HC1.out (word_some (by omega))).mono ?_); rintro e w' ⟨rfl, ⟨nd, rfl⟩⟩; (try first | exact ⟨rfl, _, World.drewN_drewN _ _ _⟩ | exact ⟨rfl, _, Eq.trans (World.drewN_drewN _ _ _) (congrArg (World.drewN _) (Nat.add_assoc _ _ _))⟩)) | (go_at_call 96; (with_reducible refine (utf8_word_byte.calls _ _ t2 _ _ (by exact kC H2.out) HC2.out (word_some (by omega))).mono ?_); rintro e w' ⟨rfl, ⟨nd, rfl⟩⟩; (try first | exact ⟨rfl, _, World.drewN_drewN _ _ _⟩ | exact ⟨rfl, _, Eq.trans (World.drewN_drewN _ _ _) (congrArg (World.drewN _) (Nat.add_assoc _ _ _))⟩)) | (go_at_call 96; (with_reducible refine (utf8_word_byte.calls _ _ t3 _ _ (by exact kC H3.out) HC3.out (word_some (by omega))).mono ?_); rintro e w' ⟨rfl, ⟨nd, rfl⟩⟩; (try first | exact ⟨rfl, _, World.drewN_drewN _ _ _⟩ | exact ⟨rfl, _, Eq.trans (World.drewN_drewN _ _ _) (congrArg (World.drewN _) (Nat.add_assoc _ _ _))⟩))))
                go_loopg [0] (t4.length + 1) (fun g2 s0 wx => ∃ (u : List Int) (A : Option Addr) (c : Nat), s0 = .slice A u.length c ∧ Aside0 (Below w.heap.size w wx) ∧ Aside0 (Kd.C (Kd.int .u8) wx A u.length u) ∧ Aside0 (u.length ≤ c) ∧ Aside0 (InR u) ∧ Aside0 (vF g' (inF g2 u) = r) ∧ Aside0 (u.length < g2) ∧ Aside0 (u.length < g'))
                case atStart => exact ⟨t4, _, _, rfl, ⟨bB⟩, ⟨(by exact kC H4.out)⟩, HC4, HI4, HV3, ⟨Nat.lt_succ_self _⟩, HG4⟩
                case round =>
                  clear H4 HC4 HI4 HV3 HG4 hs4 hl4 H3 HC3 hs3 hl3 H2 HC2 HI2 hs2 H1 HC1 HI1 hs1 hz1 hz2 c16 c16d c16e c8 c8d c8e c8p HB HR HC hx0 HR0 h0 h0z h0d had HG1 HG2
                  obtain ⟨u, A, c, rfl, HB, HR, HC, HI, HV, HG, HGG⟩ := hrel
                  obtain ⟨g3, rfl⟩ : ∃ g3, gk = g3 + 1 := ⟨gk - 1, by have h_ := HG.out; omega⟩
                  have hv := HV.out
                  simp only [inF] at hv
                  by_cases c32 : 32 < u.length
                  · rw [if_pos c32] at hv
                    have c32d : decide ((32 : Int) < (u.length : Int)) = true := decide_eq_true (by omega)
                    have c32e : decide (32 < u.length) = true := decide_eq_true c32
                    obtain ⟨Ab, cb, hsb, hCb, hcb⟩ := cutS 8 8 rfl HR.out HC.out (by omega : 8 ≤ u.length)
                    have hlb : (u.drop 8).length + 8 = u.length := by rw [List.length_drop]; omega
                    have Hb := aZ hCb
                    have HCb := aZ hcb
                    clear hCb hcb
                    obtain ⟨Ac, cc, hsc, hCc, hcc⟩ := cutS 16 16 rfl HR.out HC.out (by omega : 16 ≤ u.length)
                    have hlc : (u.drop 16).length + 16 = u.length := by rw [List.length_drop]; omega
                    have Hc := aZ hCc
                    have HCc := aZ hcc
                    clear hCc hcc
                    obtain ⟨Ad, cd, hsd, hCd, hcd⟩ := cutS 24 24 rfl HR.out HC.out (by omega : 24 ≤ u.length)
                    have hld : (u.drop 24).length + 24 = u.length := by rw [List.length_drop]; omega
                    have Hd := aZ hCd
                    have HCd := aZ hcd
                    clear hCd hcd
                    obtain ⟨Ae, ce, hse, hCe, hce⟩ := cutS 32 32 rfl HR.out HC.out (by omega : 32 ≤ u.length)
                    have hle : (u.drop 32).length + 32 = u.length := by rw [List.length_drop]; omega
                    have hIe := HI.out.drop 32
                    have He := aZ hCe
                    have HCe := aZ hce
                    have HIe := aZ hIe
                    have HGe := aZ (show (u.drop 32).length < g3 by have h_ := HG.out; omega)
                    have HGGe := aZ (show (u.drop 32).length < g' by have h_ := HGG.out; omega)
                    clear hCe hce hIe
                    have HV4 := aZ hv
                    clear HV hv
                    generalize u.drop 8 = ub at *
                    generalize u.drop 16 = uc at *
                    generalize u.drop 24 = ud at *
                    generalize u.drop 32 = ue at *
                    have hv := HV4.out
                    clear HV4
                    cases hz3 : (Go.bits .and .u64 (Go.bits .or .u64 (Go.bits .or .u64 (wrd u) (wrd ub)) (Go.bits .or .u64 (wrd uc) (wrd ud))) 9259542123273814144 == 0) with
                    | false =>
                      rw [hz3, if_neg (by simp)] at hv
                      have HV5 := aZ hv
                      clear hv
                      go_wp2_with (first | (go_at_call 96; (with_reducible refine (utf8_word_byte.calls _ _ u _ _ (by exact kC HR.out) HC.out (word_some (by omega))).mono ?_); rintro e w' ⟨rfl, ⟨nd, rfl⟩⟩; (try first | exact ⟨rfl, _, World.drewN_drewN _ _ _⟩ | exact ⟨rfl, _, Eq.trans (World.drewN_drewN _ _ _) (congrArg (World.drewN _) (Nat.add_assoc _ _ _))⟩)) | (go_at_call 96; (with_reducible refine (utf8_word_byte.calls _ _ ub _ _ (by exact kC Hb.out) HCb.out (word_some (by omega))).mono ?_); rintro e w' ⟨rfl, ⟨nd, rfl⟩⟩; (try first | exact ⟨rfl, _, World.drewN_drewN _ _ _⟩ | exact ⟨rfl, _, Eq.trans (World.drewN_drewN _ _ _) (congrArg (World.drewN _) (Nat.add_assoc _ _ _))⟩)) | (go_at_call 96; (with_reducible refine (utf8_word_byte.calls _ _ uc _ _ (by exact kC Hc.out) HCc.out (word_some (by omega))).mono ?_); rintro e w' ⟨rfl, ⟨nd, rfl⟩⟩; (try first | exact ⟨rfl, _, World.drewN_drewN _ _ _⟩ | exact ⟨rfl, _, Eq.trans (World.drewN_drewN _ _ _) (congrArg (World.drewN _) (Nat.add_assoc _ _ _))⟩)) | (go_at_call 96; (with_reducible refine (utf8_word_byte.calls _ _ ud _ _ (by exact kC Hd.out) HCd.out (word_some (by omega))).mono ?_); rintro e w' ⟨rfl, ⟨nd, rfl⟩⟩; (try first | exact ⟨rfl, _, World.drewN_drewN _ _ _⟩ | exact ⟨rfl, _, Eq.trans (World.drewN_drewN _ _ _) (congrArg (World.drewN _) (Nat.add_assoc _ _ _))⟩)))
                      repeat (go_quiet (first | (go_at_call 96; (with_reducible refine (utf8_word_byte.calls _ _ u _ _ (by exact kC HR.out) HC.out (word_some (by omega))).mono ?_); rintro e w' ⟨rfl, ⟨nd, rfl⟩⟩; (try first | exact ⟨rfl, _, World.drewN_drewN _ _ _⟩ | exact ⟨rfl, _, Eq.trans (World.drewN_drewN _ _ _) (congrArg (World.drewN _) (Nat.add_assoc _ _ _))⟩)) | (go_at_call 96; (with_reducible refine (utf8_word_byte.calls _ _ ub _ _ (by exact kC Hb.out) HCb.out (word_some (by omega))).mono ?_); rintro e w' ⟨rfl, ⟨nd, rfl⟩⟩; (try first | exact ⟨rfl, _, World.drewN_drewN _ _ _⟩ | exact ⟨rfl, _, Eq.trans (World.drewN_drewN _ _ _) (congrArg (World.drewN _) (Nat.add_assoc _ _ _))⟩)) | (go_at_call 96; (with_reducible refine (utf8_word_byte.calls _ _ uc _ _ (by exact kC Hc.out) HCc.out (word_some (by omega))).mono ?_); rintro e w' ⟨rfl, ⟨nd, rfl⟩⟩; (try first | exact ⟨rfl, _, World.drewN_drewN _ _ _⟩ | exact ⟨rfl, _, Eq.trans (World.drewN_drewN _ _ _) (congrArg (World.drewN _) (Nat.add_assoc _ _ _))⟩)) | (go_at_call 96; (with_reducible refine (utf8_word_byte.calls _ _ ud _ _ (by exact kC Hd.out) HCd.out (word_some (by omega))).mono ?_); rintro e w' ⟨rfl, ⟨nd, rfl⟩⟩; (try first | exact ⟨rfl, _, World.drewN_drewN _ _ _⟩ | exact ⟨rfl, _, Eq.trans (World.drewN_drewN _ _ _) (congrArg (World.drewN _) (Nat.add_assoc _ _ _))⟩))); try go_wp2_with (first | (go_at_call 96; (with_reducible refine (utf8_word_byte.calls _ _ u _ _ (by exact kC HR.out) HC.out (word_some (by omega))).mono ?_); rintro e w' ⟨rfl, ⟨nd, rfl⟩⟩; (try first | exact ⟨rfl, _, World.drewN_drewN _ _ _⟩ | exact ⟨rfl, _, Eq.trans (World.drewN_drewN _ _ _) (congrArg (World.drewN _) (Nat.add_assoc _ _ _))⟩)) | (go_at_call 96; (with_reducible refine (utf8_word_byte.calls _ _ ub _ _ (by exact kC Hb.out) HCb.out (word_some (by omega))).mono ?_); rintro e w' ⟨rfl, ⟨nd, rfl⟩⟩; (try first | exact ⟨rfl, _, World.drewN_drewN _ _ _⟩ | exact ⟨rfl, _, Eq.trans (World.drewN_drewN _ _ _) (congrArg (World.drewN _) (Nat.add_assoc _ _ _))⟩)) | (go_at_call 96; (with_reducible refine (utf8_word_byte.calls _ _ uc _ _ (by exact kC Hc.out) HCc.out (word_some (by omega))).mono ?_); rintro e w' ⟨rfl, ⟨nd, rfl⟩⟩; (try first | exact ⟨rfl, _, World.drewN_drewN _ _ _⟩ | exact ⟨rfl, _, Eq.trans (World.drewN_drewN _ _ _) (congrArg (World.drewN _) (Nat.add_assoc _ _ _))⟩)) | (go_at_call 96; (with_reducible refine (utf8_word_byte.calls _ _ ud _ _ (by exact kC Hd.out) HCd.out (word_some (by omega))).mono ?_); rintro e w' ⟨rfl, ⟨nd, rfl⟩⟩; (try first | exact ⟨rfl, _, World.drewN_drewN _ _ _⟩ | exact ⟨rfl, _, Eq.trans (World.drewN_drewN _ _ _) (congrArg (World.drewN _) (Nat.add_assoc _ _ _))⟩))))
                      go_roundg g'
                      case measure => omega
                      case rel => exact ⟨u, _, _, rfl, ⟨bB⟩, ⟨(by exact kC HR.out)⟩, HC, HI, HV5, HGG⟩
                    | true =>
                      rw [hz3, if_pos rfl] at hv
                      have HV5 := aZ hv
                      clear hv
                      go_wp2_with (first | (go_at_call 96; (with_reducible refine (utf8_word_byte.calls _ _ u _ _ (by exact kC HR.out) HC.out (word_some (by omega))).mono ?_); rintro e w' ⟨rfl, ⟨nd, rfl⟩⟩; (try first | exact ⟨rfl, _, World.drewN_drewN _ _ _⟩ | exact ⟨rfl, _, Eq.trans (World.drewN_drewN _ _ _) (congrArg (World.drewN _) (Nat.add_assoc _ _ _))⟩)) | (go_at_call 96; (with_reducible refine (utf8_word_byte.calls _ _ ub _ _ (by exact kC Hb.out) HCb.out (word_some (by omega))).mono ?_); rintro e w' ⟨rfl, ⟨nd, rfl⟩⟩; (try first | exact ⟨rfl, _, World.drewN_drewN _ _ _⟩ | exact ⟨rfl, _, Eq.trans (World.drewN_drewN _ _ _) (congrArg (World.drewN _) (Nat.add_assoc _ _ _))⟩)) | (go_at_call 96; (with_reducible refine (utf8_word_byte.calls _ _ uc _ _ (by exact kC Hc.out) HCc.out (word_some (by omega))).mono ?_); rintro e w' ⟨rfl, ⟨nd, rfl⟩⟩; (try first | exact ⟨rfl, _, World.drewN_drewN _ _ _⟩ | exact ⟨rfl, _, Eq.trans (World.drewN_drewN _ _ _) (congrArg (World.drewN _) (Nat.add_assoc _ _ _))⟩)) | (go_at_call 96; (with_reducible refine (utf8_word_byte.calls _ _ ud _ _ (by exact kC Hd.out) HCd.out (word_some (by omega))).mono ?_); rintro e w' ⟨rfl, ⟨nd, rfl⟩⟩; (try first | exact ⟨rfl, _, World.drewN_drewN _ _ _⟩ | exact ⟨rfl, _, Eq.trans (World.drewN_drewN _ _ _) (congrArg (World.drewN _) (Nat.add_assoc _ _ _))⟩)))
                      repeat (go_quiet (first | (go_at_call 96; (with_reducible refine (utf8_word_byte.calls _ _ u _ _ (by exact kC HR.out) HC.out (word_some (by omega))).mono ?_); rintro e w' ⟨rfl, ⟨nd, rfl⟩⟩; (try first | exact ⟨rfl, _, World.drewN_drewN _ _ _⟩ | exact ⟨rfl, _, Eq.trans (World.drewN_drewN _ _ _) (congrArg (World.drewN _) (Nat.add_assoc _ _ _))⟩)) | (go_at_call 96; (with_reducible refine (utf8_word_byte.calls _ _ ub _ _ (by exact kC Hb.out) HCb.out (word_some (by omega))).mono ?_); rintro e w' ⟨rfl, ⟨nd, rfl⟩⟩; (try first | exact ⟨rfl, _, World.drewN_drewN _ _ _⟩ | exact ⟨rfl, _, Eq.trans (World.drewN_drewN _ _ _) (congrArg (World.drewN _) (Nat.add_assoc _ _ _))⟩)) | (go_at_call 96; (with_reducible refine (utf8_word_byte.calls _ _ uc _ _ (by exact kC Hc.out) HCc.out (word_some (by omega))).mono ?_); rintro e w' ⟨rfl, ⟨nd, rfl⟩⟩; (try first | exact ⟨rfl, _, World.drewN_drewN _ _ _⟩ | exact ⟨rfl, _, Eq.trans (World.drewN_drewN _ _ _) (congrArg (World.drewN _) (Nat.add_assoc _ _ _))⟩)) | (go_at_call 96; (with_reducible refine (utf8_word_byte.calls _ _ ud _ _ (by exact kC Hd.out) HCd.out (word_some (by omega))).mono ?_); rintro e w' ⟨rfl, ⟨nd, rfl⟩⟩; (try first | exact ⟨rfl, _, World.drewN_drewN _ _ _⟩ | exact ⟨rfl, _, Eq.trans (World.drewN_drewN _ _ _) (congrArg (World.drewN _) (Nat.add_assoc _ _ _))⟩))); try go_wp2_with (first | (go_at_call 96; (with_reducible refine (utf8_word_byte.calls _ _ u _ _ (by exact kC HR.out) HC.out (word_some (by omega))).mono ?_); rintro e w' ⟨rfl, ⟨nd, rfl⟩⟩; (try first | exact ⟨rfl, _, World.drewN_drewN _ _ _⟩ | exact ⟨rfl, _, Eq.trans (World.drewN_drewN _ _ _) (congrArg (World.drewN _) (Nat.add_assoc _ _ _))⟩)) | (go_at_call 96; (with_reducible refine (utf8_word_byte.calls _ _ ub _ _ (by exact kC Hb.out) HCb.out (word_some (by omega))).mono ?_); rintro e w' ⟨rfl, ⟨nd, rfl⟩⟩; (try first | exact ⟨rfl, _, World.drewN_drewN _ _ _⟩ | exact ⟨rfl, _, Eq.trans (World.drewN_drewN _ _ _) (congrArg (World.drewN _) (Nat.add_assoc _ _ _))⟩)) | (go_at_call 96; (with_reducible refine (utf8_word_byte.calls _ _ uc _ _ (by exact kC Hc.out) HCc.out (word_some (by omega))).mono ?_); rintro e w' ⟨rfl, ⟨nd, rfl⟩⟩; (try first | exact ⟨rfl, _, World.drewN_drewN _ _ _⟩ | exact ⟨rfl, _, Eq.trans (World.drewN_drewN _ _ _) (congrArg (World.drewN _) (Nat.add_assoc _ _ _))⟩)) | (go_at_call 96; (with_reducible refine (utf8_word_byte.calls _ _ ud _ _ (by exact kC Hd.out) HCd.out (word_some (by omega))).mono ?_); rintro e w' ⟨rfl, ⟨nd, rfl⟩⟩; (try first | exact ⟨rfl, _, World.drewN_drewN _ _ _⟩ | exact ⟨rfl, _, Eq.trans (World.drewN_drewN _ _ _) (congrArg (World.drewN _) (Nat.add_assoc _ _ _))⟩))))
                      go_roundg g3
                      case measure => omega
                      case rel => exact ⟨ue, _, _, rfl, ⟨bB⟩, ⟨(by exact kC He.out)⟩, HCe, HIe, HV5, HGe, HGGe⟩
                  · rw [if_neg c32] at hv
                    have c32d : decide ((32 : Int) < (u.length : Int)) = false := decide_eq_false (by omega)
                    have c32e : decide (32 < u.length) = false := decide_eq_false c32
                    have HV5 := aZ hv
                    clear hv HV
                    go_wp2
                    repeat (go_quiet (fail); try go_wp2)
                    go_roundg g'
                    case measure => omega
                    case rel => exact ⟨u, _, _, rfl, ⟨bB⟩, ⟨(by exact kC HR.out)⟩, HC, HI, HV5, HGG⟩
            · rw [if_neg c16] at hv
              have c16d : decide ((16 : Int) < (t2.length : Int)) = false := decide_eq_false (by omega)
              have c16e : decide (16 < t2.length) = false := decide_eq_false c16
              have HV3 := aZ hv
              clear HV2 hv
              go_wp2_with (first | (go_at_call 96; (with_reducible refine (utf8_word_byte.calls _ _ t1 _ _ (by exact kC H1.out) HC1.out (word_some (by omega))).mono ?_); rintro e w' ⟨rfl, ⟨nd, rfl⟩⟩; (try first | exact ⟨rfl, _, World.drewN_drewN _ _ _⟩ | exact ⟨rfl, _, Eq.trans (World.drewN_drewN _ _ _) (congrArg (World.drewN _) (Nat.add_assoc _ _ _))⟩)))
              repeat (go_quiet (first | (go_at_call 96; (with_reducible refine (utf8_word_byte.calls _ _ t1 _ _ (by exact kC H1.out) HC1.out (word_some (by omega))).mono ?_); rintro e w' ⟨rfl, ⟨nd, rfl⟩⟩; (try first | exact ⟨rfl, _, World.drewN_drewN _ _ _⟩ | exact ⟨rfl, _, Eq.trans (World.drewN_drewN _ _ _) (congrArg (World.drewN _) (Nat.add_assoc _ _ _))⟩))); try go_wp2_with (first | (go_at_call 96; (with_reducible refine (utf8_word_byte.calls _ _ t1 _ _ (by exact kC H1.out) HC1.out (word_some (by omega))).mono ?_); rintro e w' ⟨rfl, ⟨nd, rfl⟩⟩; (try first | exact ⟨rfl, _, World.drewN_drewN _ _ _⟩ | exact ⟨rfl, _, Eq.trans (World.drewN_drewN _ _ _) (congrArg (World.drewN _) (Nat.add_assoc _ _ _))⟩))))
              go_roundg g'
              case measure => omega
              case rel => exact ⟨t2, _, _, rfl, ⟨bB⟩, ⟨(by exact kC H2.out)⟩, HC2, HI2, HV3, HG2⟩
        · rw [if_neg c8] at hv
          have c8d : decide ((8 : Int) < (t1.length : Int)) = false := decide_eq_false (by omega)
          have c8e : decide (8 < t1.length) = false := decide_eq_false c8
          have HV2 := aZ hv
          clear HV1 hv
          go_wp2
          repeat (go_quiet (fail); try go_wp2)
          go_roundg g'
          case measure => omega
          case rel => exact ⟨t1, _, _, rfl, ⟨bB⟩, ⟨(by exact kC H1.out)⟩, HC1, HI1, HV2, HG1⟩
      · rw [if_neg ha] at hv
        have had : decide (rd t 0 < 128) = false := decide_eq_false ha
        obtain ⟨n0, e0⟩ : ∃ n0 : Nat, rd t 0 = (n0 : Int) := ⟨(rd t 0).toNat, by omega⟩
        have l0 : n0 < 256 := by omega
        rw [e0] at hx0 had hv
        simp only [Int.toNat_natCast] at hv
        have hTr := HT.out.below HB.out
        have hXlt : Lib.firstT n0 < 256 := by rcases Lib.firstT_cases n0 with h | h | h | h | h | h | h | h | h <;> omega
        have hc0 := hTr.1 n0 l0
        obtain ⟨X, hX⟩ : ∃ X, Lib.firstT n0 = X := ⟨_, rfl⟩
        rw [hX] at hc0 hXlt hv
        have h7 := and7V ⟨X, hXlt⟩
        simp only at h7
        have hb1 : ∀ o, (wr.alloc o).cell? ⟨2, X / 16 * 2, none⟩ = wr.cell? ⟨2, X / 16 * 2, none⟩ := fun o => (below_alloc (Below.refl wr.heap.size wr) o).cell (World.block_lt_of_cell? wr _ (by rw [Nat.mul_comm]; exact (hTr.2 (X / 16) (by omega)).1))
        have ha0 : wr.cell? ⟨2, X / 16 * 2, none⟩ = some (.int .u8 (Lib.accLo (X / 16))) := by rw [Nat.mul_comm]; exact (hTr.2 (X / 16) (by omega)).1
        have ha1 : wr.cell? ⟨2, X / 16 * 2 + 1, none⟩ = some (.int .u8 (Lib.accHi (X / 16))) := by rw [Nat.mul_comm]; exact (hTr.2 (X / 16) (by omega)).2
        have HGd : ∀ m, 1 ≤ m → Aside0 ((t.drop m).length < g') := fun m hm => ⟨by have h_ := HG.out; rw [List.length_drop]; omega⟩
        have HHv := aZ hv
        clear hTr hX HV hv hb1 hr0 ha e0 HR0
        have hv := HHv.out
        clear HHv
        simp only [stepN] at hv
        have hx : ∀ i : Int, 0 ≤ i → i < t.length → ∀ o, (wr.alloc o).cell? (ad.add i.toNat) = some (.int .u8 (rd t i)) := fun i h0_ h1_ o => by
          obtain ⟨ad_, e_, hx_⟩ := Kd.at_int HR.out i h0_ h1_
          cases e_
          exact ((below_alloc (Below.refl wr.heap.size wr) o).cell (World.block_lt_of_cell? wr _ hx_)).trans hx_
        obtain ⟨LO, hLO⟩ : ∃ LO, Lib.accLo (X / 16) = LO := ⟨_, rfl⟩
        obtain ⟨HI_, hHI⟩ : ∃ HI, Lib.accHi (X / 16) = HI := ⟨_, rfl⟩
        rw [hLO] at ha0
        rw [hHI] at ha1
        rw [hLO, hHI] at hv
        have HX := aZ hx
        clear hx hLO hHI
        go_upto_region 15 with (fail)
        repeat (go_quiet (fail); go_upto_region 15 with (fail))
        clear hx0 had hc0 ha0 ha1 h7
        by_cases s2 : X % 8 = 2
        · as_aux_lemma =>
            have hSZz : (X : Int) % 8 = 2 := by omega
            have eb : (((X : Int) % 8) == 2) = true := by simp; omega
            rw [if_pos s2] at hv
            go_upto_region 18 with (fail)
            by_cases c : t.length < 2
            · rw [if_pos (Or.inl c)] at hv
              have cd : decide ((t.length : Int) < 2) = true := decide_eq_true (by omega)
              have ce : decide (t.length < 2) = true := decide_eq_true c
              clear c
              have hr_ : r = false := hv.symm
              subst hr_
              clear hv
              go_wp2
              repeat (go_quiet (fail); try go_wp2)
              go_ret
              exact ⟨rfl, bB⟩
            have cd0 : decide ((t.length : Int) < 2) = false := decide_eq_false (by omega)
            have ce0 : decide (t.length < 2) = false := decide_eq_false c
            have cl := c
            have cn0 := aZ c
            clear c
            have hx1 := HX.out 1 (by omega) (by omega)
            simp only [show (1 : Int).toNat = 1 from rfl, Nat.reduceMul, Nat.reduceEqDiff, Go.Addr.add, ↓reduceIte] at hx1
            have hi1 : (1 : Int) < (t.length : Int) := by omega
            have hj1 : 1 < t.length := by omega
            by_cases c : rd t 1 < (LO : Int)
            · rw [if_pos (Or.inr (Or.inl c))] at hv
              have cd : decide (rd t 1 < (LO : Int)) = true := decide_eq_true c
              clear c
              have hr_ : r = false := hv.symm
              subst hr_
              clear hv
              go_wp2
              repeat (go_quiet (fail); try go_wp2)
              go_ret
              exact ⟨rfl, bB⟩
            have cd1 : decide (rd t 1 < (LO : Int)) = false := decide_eq_false c
            have cn1 := aZ c
            clear c
            by_cases c : (HI_ : Int) < rd t 1
            · rw [if_pos (Or.inr (Or.inr (c)))] at hv
              have cd : decide ((HI_ : Int) < rd t 1) = true := decide_eq_true c
              clear c
              have hr_ : r = false := hv.symm
              subst hr_
              clear hv
              go_wp2
              repeat (go_quiet (fail); try go_wp2)
              go_ret
              exact ⟨rfl, bB⟩
            have cd2 : decide ((HI_ : Int) < rd t 1) = false := decide_eq_false c
            have cn2 := aZ c
            clear c
            rw [if_neg (fun x => by rcases x with x | x | x; exact cn0.out x; exact cn1.out x; exact cn2.out x)] at hv
            replace hv : vF g' (t.drop 2) = r := hv
            obtain ⟨A1, c1, hs1, hC1, hc1⟩ := cutS 2 2 rfl HR.out HC.out (by omega : 2 ≤ t.length)
            have H1 := aZ hC1
            have HC1 := aZ hc1
            have HI1 := aZ (HI.out.drop 2)
            have HV1 := aZ hv
            have HG1 := HGd 2 (by omega)
            clear hC1 hc1 hv
            generalize t.drop 2 = t1 at *
            go_wp2
            repeat (go_quiet (fail); try go_wp2)
            go_roundg g'
            case measure => omega
            case rel => exact ⟨t1, _, _, rfl, ⟨bB⟩, ⟨(by exact kC H1.out)⟩, HC1, HI1, HV1, HG1⟩
        by_cases s3 : X % 8 = 3
        · as_aux_lemma =>
            have hSZz : (X : Int) % 8 = 3 := by omega
            have e2b : (((X : Int) % 8) == 2) = false := by simp; omega
            have eb : (((X : Int) % 8) == 3) = true := by simp; omega
            rw [if_neg s2, if_pos s3] at hv
            go_upto_region 22 with (fail)
            by_cases c : t.length < 3
            · rw [if_pos (Or.inl c)] at hv
              have cd : decide ((t.length : Int) < 3) = true := decide_eq_true (by omega)
              have ce : decide (t.length < 3) = true := decide_eq_true c
              clear c
              have hr_ : r = false := hv.symm
              subst hr_
              clear hv
              go_wp2
              repeat (go_quiet (fail); try go_wp2)
              go_ret
              exact ⟨rfl, bB⟩
            have cd0 : decide ((t.length : Int) < 3) = false := decide_eq_false (by omega)
            have ce0 : decide (t.length < 3) = false := decide_eq_false c
            have cl := c
            have cn0 := aZ c
            clear c
            have hx1 := HX.out 1 (by omega) (by omega)
            simp only [show (1 : Int).toNat = 1 from rfl, Nat.reduceMul, Nat.reduceEqDiff, Go.Addr.add, ↓reduceIte] at hx1
            have hi1 : (1 : Int) < (t.length : Int) := by omega
            have hj1 : 1 < t.length := by omega
            by_cases c : rd t 1 < (LO : Int)
            · rw [if_pos (Or.inr (Or.inl c))] at hv
              have cd : decide (rd t 1 < (LO : Int)) = true := decide_eq_true c
              clear c
              have hr_ : r = false := hv.symm
              subst hr_
              clear hv
              go_wp2
              repeat (go_quiet (fail); try go_wp2)
              go_ret
              exact ⟨rfl, bB⟩
            have cd1 : decide (rd t 1 < (LO : Int)) = false := decide_eq_false c
            have cn1 := aZ c
            clear c
            by_cases c : (HI_ : Int) < rd t 1
            · rw [if_pos (Or.inr (Or.inr (Or.inl c)))] at hv
              have cd : decide ((HI_ : Int) < rd t 1) = true := decide_eq_true c
              clear c
              have hr_ : r = false := hv.symm
              subst hr_
              clear hv
              go_wp2
              repeat (go_quiet (fail); try go_wp2)
              go_ret
              exact ⟨rfl, bB⟩
            have cd2 : decide ((HI_ : Int) < rd t 1) = false := decide_eq_false c
            have cn2 := aZ c
            clear c
            have hx2 := HX.out 2 (by omega) (by omega)
            simp only [show (2 : Int).toNat = 2 from rfl, Nat.reduceMul, Nat.reduceEqDiff, Go.Addr.add, ↓reduceIte] at hx2
            have hi2 : (2 : Int) < (t.length : Int) := by omega
            have hj2 : 2 < t.length := by omega
            by_cases c : rd t 2 < 128
            · rw [if_pos (Or.inr (Or.inr (Or.inr (Or.inl c))))] at hv
              have cd : decide (rd t 2 < 128) = true := decide_eq_true c
              clear c
              have hr_ : r = false := hv.symm
              subst hr_
              clear hv
              go_wp2
              repeat (go_quiet (fail); try go_wp2)
              go_ret
              exact ⟨rfl, bB⟩
            have cd3 : decide (rd t 2 < 128) = false := decide_eq_false c
            have cn3 := aZ c
            clear c
            by_cases c : 191 < rd t 2
            · rw [if_pos (Or.inr (Or.inr (Or.inr (Or.inr (c)))))] at hv
              have cd : decide (191 < rd t 2) = true := decide_eq_true c
              clear c
              have hr_ : r = false := hv.symm
              subst hr_
              clear hv
              go_wp2
              repeat (go_quiet (fail); try go_wp2)
              go_ret
              exact ⟨rfl, bB⟩
            have cd4 : decide (191 < rd t 2) = false := decide_eq_false c
            have cn4 := aZ c
            clear c
            rw [if_neg (fun x => by rcases x with x | x | x | x | x; exact cn0.out x; exact cn1.out x; exact cn2.out x; exact cn3.out x; exact cn4.out x)] at hv
            replace hv : vF g' (t.drop 3) = r := hv
            obtain ⟨A1, c1, hs1, hC1, hc1⟩ := cutS 3 3 rfl HR.out HC.out (by omega : 3 ≤ t.length)
            have H1 := aZ hC1
            have HC1 := aZ hc1
            have HI1 := aZ (HI.out.drop 3)
            have HV1 := aZ hv
            have HG1 := HGd 3 (by omega)
            clear hC1 hc1 hv
            generalize t.drop 3 = t1 at *
            go_wp2
            repeat (go_quiet (fail); try go_wp2)
            go_roundg g'
            case measure => omega
            case rel => exact ⟨t1, _, _, rfl, ⟨bB⟩, ⟨(by exact kC H1.out)⟩, HC1, HI1, HV1, HG1⟩
        by_cases s4 : X % 8 = 4
        · as_aux_lemma =>
            have hSZz : (X : Int) % 8 = 4 := by omega
            have e2b : (((X : Int) % 8) == 2) = false := by simp; omega
            have e3b : (((X : Int) % 8) == 3) = false := by simp; omega
            have eb : (((X : Int) % 8) == 4) = true := by simp; omega
            rw [if_neg s2, if_neg s3, if_pos s4] at hv
            go_upto_region 26 with (fail)
            by_cases c : t.length < 4
            · rw [if_pos (Or.inl c)] at hv
              have cd : decide ((t.length : Int) < 4) = true := decide_eq_true (by omega)
              have ce : decide (t.length < 4) = true := decide_eq_true c
              clear c
              have hr_ : r = false := hv.symm
              subst hr_
              clear hv
              go_wp2
              repeat (go_quiet (fail); try go_wp2)
              go_ret
              exact ⟨rfl, bB⟩
            have cd0 : decide ((t.length : Int) < 4) = false := decide_eq_false (by omega)
            have ce0 : decide (t.length < 4) = false := decide_eq_false c
            have cl := c
            have cn0 := aZ c
            clear c
            have hx1 := HX.out 1 (by omega) (by omega)
            simp only [show (1 : Int).toNat = 1 from rfl, Nat.reduceMul, Nat.reduceEqDiff, Go.Addr.add, ↓reduceIte] at hx1
            have hi1 : (1 : Int) < (t.length : Int) := by omega
            have hj1 : 1 < t.length := by omega
            by_cases c : rd t 1 < (LO : Int)
            · rw [if_pos (Or.inr (Or.inl c))] at hv
              have cd : decide (rd t 1 < (LO : Int)) = true := decide_eq_true c
              clear c
              have hr_ : r = false := hv.symm
              subst hr_
              clear hv
              go_wp2
              repeat (go_quiet (fail); try go_wp2)
              go_ret
              exact ⟨rfl, bB⟩
            have cd1 : decide (rd t 1 < (LO : Int)) = false := decide_eq_false c
            have cn1 := aZ c
            clear c
            by_cases c : (HI_ : Int) < rd t 1
            · rw [if_pos (Or.inr (Or.inr (Or.inl c)))] at hv
              have cd : decide ((HI_ : Int) < rd t 1) = true := decide_eq_true c
              clear c
              have hr_ : r = false := hv.symm
              subst hr_
              clear hv
              go_wp2
              repeat (go_quiet (fail); try go_wp2)
              go_ret
              exact ⟨rfl, bB⟩
            have cd2 : decide ((HI_ : Int) < rd t 1) = false := decide_eq_false c
            have cn2 := aZ c
            clear c
            have hx2 := HX.out 2 (by omega) (by omega)
            simp only [show (2 : Int).toNat = 2 from rfl, Nat.reduceMul, Nat.reduceEqDiff, Go.Addr.add, ↓reduceIte] at hx2
            have hi2 : (2 : Int) < (t.length : Int) := by omega
            have hj2 : 2 < t.length := by omega
            by_cases c : rd t 2 < 128
            · rw [if_pos (Or.inr (Or.inr (Or.inr (Or.inl c))))] at hv
              have cd : decide (rd t 2 < 128) = true := decide_eq_true c
              clear c
              have hr_ : r = false := hv.symm
              subst hr_
              clear hv
              go_wp2
              repeat (go_quiet (fail); try go_wp2)
              go_ret
              exact ⟨rfl, bB⟩
            have cd3 : decide (rd t 2 < 128) = false := decide_eq_false c
            have cn3 := aZ c
            clear c
            by_cases c : 191 < rd t 2
            · rw [if_pos (Or.inr (Or.inr (Or.inr (Or.inr (Or.inl c)))))] at hv
              have cd : decide (191 < rd t 2) = true := decide_eq_true c
              clear c
              have hr_ : r = false := hv.symm
              subst hr_
              clear hv
              go_wp2
              repeat (go_quiet (fail); try go_wp2)
              go_ret
              exact ⟨rfl, bB⟩
            have cd4 : decide (191 < rd t 2) = false := decide_eq_false c
            have cn4 := aZ c
            clear c
            have hx3 := HX.out 3 (by omega) (by omega)
            simp only [show (3 : Int).toNat = 3 from rfl, Nat.reduceMul, Nat.reduceEqDiff, Go.Addr.add, ↓reduceIte] at hx3
            have hi3 : (3 : Int) < (t.length : Int) := by omega
            have hj3 : 3 < t.length := by omega
            by_cases c : rd t 3 < 128
            · rw [if_pos (Or.inr (Or.inr (Or.inr (Or.inr (Or.inr (Or.inl c))))))] at hv
              have cd : decide (rd t 3 < 128) = true := decide_eq_true c
              clear c
              have hr_ : r = false := hv.symm
              subst hr_
              clear hv
              go_wp2
              repeat (go_quiet (fail); try go_wp2)
              go_ret
              exact ⟨rfl, bB⟩
            have cd5 : decide (rd t 3 < 128) = false := decide_eq_false c
            have cn5 := aZ c
            clear c
            by_cases c : 191 < rd t 3
            · rw [if_pos (Or.inr (Or.inr (Or.inr (Or.inr (Or.inr (Or.inr (c)))))))] at hv
              have cd : decide (191 < rd t 3) = true := decide_eq_true c
              clear c
              have hr_ : r = false := hv.symm
              subst hr_
              clear hv
              go_wp2
              repeat (go_quiet (fail); try go_wp2)
              go_ret
              exact ⟨rfl, bB⟩
            have cd6 : decide (191 < rd t 3) = false := decide_eq_false c
            have cn6 := aZ c
            clear c
            rw [if_neg (fun x => by rcases x with x | x | x | x | x | x | x; exact cn0.out x; exact cn1.out x; exact cn2.out x; exact cn3.out x; exact cn4.out x; exact cn5.out x; exact cn6.out x)] at hv
            replace hv : vF g' (t.drop 4) = r := hv
            obtain ⟨A1, c1, hs1, hC1, hc1⟩ := cutS 4 4 rfl HR.out HC.out (by omega : 4 ≤ t.length)
            have H1 := aZ hC1
            have HC1 := aZ hc1
            have HI1 := aZ (HI.out.drop 4)
            have HV1 := aZ hv
            have HG1 := HGd 4 (by omega)
            clear hC1 hc1 hv
            generalize t.drop 4 = t1 at *
            go_wp2
            repeat (go_quiet (fail); try go_wp2)
            go_roundg g'
            case measure => omega
            case rel => exact ⟨t1, _, _, rfl, ⟨bB⟩, ⟨(by exact kC H1.out)⟩, HC1, HI1, HV1, HG1⟩
        have e2b : (((X : Int) % 8) == 2) = false := by simp; omega
        have e3b : (((X : Int) % 8) == 3) = false := by simp; omega
        have e4b : (((X : Int) % 8) == 4) = false := by simp; omega
        rw [if_neg s2, if_neg s3, if_neg s4] at hv
        have hr_ : r = false := hv.symm
        subst hr_
        clear hv
        go_wp2
        repeat (go_quiet (fail); try go_wp2)
        go_ret
        exact ⟨rfl, bB⟩
    · rw [if_neg h0] at hv
      have h0d : decide ((0 : Int) < (t.length : Int)) = false := decide_eq_false (by omega)
      have h0e : decide (0 < t.length) = false := decide_eq_false h0
      subst hv
      clear HV
      go_wp2
      go_ret
      exact ⟨rfl, HB.out⟩
end Go.Proofs.YtkceebgncfggjaaDoor.PQ

