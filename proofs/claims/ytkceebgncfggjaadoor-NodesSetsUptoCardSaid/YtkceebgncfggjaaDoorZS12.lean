/- NodesSets: words, printed functions and plain laws that the claim uses, laid by a program of this session's. No condition beside those in each theorem's own line. -/
import Derived.Laws.Externs
import Derived.Laws.RangeAny
import Derived.Lib.Bytealg
import Derived.Lib.Bytes
import Derived.LoopTactic
import Derived.Test.YtkceebgncfggjaaDoorZS11
set_option linter.unusedVariables false
set_option linter.unusedSimpArgs false
namespace Go.Proofs.YtkceebgncfggjaaDoor.PQ
open Go.RowKit Go.Proofs.YtkceebgncfggjaaDoorW.PrintWords Go.Proofs.YtkceebgncfggjaaDoorW.PrintLast Go.Proofs.YtkceebgncfggjaaDoorW.PrintMore Go.Proofs.YtkceebgncfggjaaDoorX
set_option maxHeartbeats 8000000
set_option maxRecDepth 100000
def tblP : List UInt8 := [48, 49, 50, 51, 52, 53, 54, 55, 56, 57, 32, 39, 40, 41, 43, 44, 45, 46, 47, 58, 61, 63]
def mayP (c : Int) : Bool := if 65 ≤ c ∧ c ≤ 90 then true else if 97 ≤ c ∧ c ≤ 122 then true else if c < 128 then decide (0 ≤ Lib.indexByte tblP c.toNat.toUInt8) else false
def mayI (c : Int) : Bool := decide (c < 128)
def mayG (c : Int) : Bool := if 32 ≤ c then decide (c < 127) else false
theorem run_ibs {s : ByteArray} {c : Int} {w : World} : (callFunc 100 #[.string s, .int .u8 c]).run Tryd.prog w = .ok (.value (.int .i64 (Lib.indexByte s.data.toList c.toNat.toUInt8))) w := by
  rw [run_callFunc_extern (e := Extern.BytealgIndexByte.indexByte) Tryd.func100 (by kernel_rfl) (by kernel_rfl) (by kernel_rfl) (by kernel_rfl), Lib.run_indexByteString]
  rfl
theorem right3 (c : Int) (w : World) : Calls Tryd.prog 88 #[.int .i32 c] w fun e w' => e = .returned (.bool (mayI c)) ∧ w' = w := by
  go_enter Tryd.func88, Tryd.ntmps88
  go_wp2
  go_ret
  exact ⟨rfl, rfl⟩
theorem right4 (c : Int) (w : World) : Calls Tryd.prog 89 #[.int .i32 c] w fun e w' => e = .returned (.bool (mayG c)) ∧ w' = w := by
  unfold mayG
  by_cases h : 32 ≤ c
  · have h1 : decide (32 ≤ c) = true := decide_eq_true h
    rw [if_pos h]
    go_enter Tryd.func89, Tryd.ntmps89
    go_wp2
    go_ret
    exact ⟨rfl, rfl⟩
  · have h1 : decide (32 ≤ c) = false := decide_eq_false h
    rw [if_neg h]
    go_enter Tryd.func89, Tryd.ntmps89
    go_wp2
    go_ret
    exact ⟨rfl, rfl⟩
theorem right2 (c : Int) (h0 : 0 ≤ c) (w : World) : Calls Tryd.prog 86 #[.int .i32 c] w fun e w' => e = .returned (.bool (mayP c)) ∧ w' = w := by
  have hrun : ∀ (s : ByteArray) (c : Int) (w : World), (callFunc 100 #[.string s, .int .u8 c]).run Tryd.prog w = .ok (.value (.int .i64 (Lib.indexByte s.data.toList c.toNat.toUInt8))) w := fun s c w => run_ibs
  have ht : (⟨#[48, 49, 50, 51, 52, 53, 54, 55, 56, 57, 32, 39, 40, 41, 43, 44, 45, 46, 47, 58, 61, 63]⟩ : ByteArray).data.toList = tblP := rfl
  unfold mayP
  by_cases a1 : 65 ≤ c <;> by_cases a2 : c ≤ 90 <;> by_cases a3 : 97 ≤ c <;> by_cases a4 : c ≤ 122 <;> by_cases a5 : c < 128 <;> try omega
  all_goals simp only [a1, a2, a3, a4, a5, and_self, and_true, and_false, true_and, false_and, if_true, if_false]
  all_goals go_enter Tryd.func86, Tryd.ntmps86
  all_goals go_wp2
  all_goals go_ret
  all_goals exact ⟨rfl, rfl⟩
def allP (m : Int → Bool) (l : List UInt8) : Bool := l.all fun b => decide (b.toNat < 128) && m (b.toNat : Int)
theorem mayP_high {c : Int} (h : 128 ≤ c) : mayP c = false := by unfold mayP; rw [if_neg (by omega), if_neg (by omega), if_neg (by omega)]
theorem mayI_high {c : Int} (h : 128 ≤ c) : mayI c = false := by unfold mayI; exact decide_eq_false (by omega)
theorem mayG_high {c : Int} (h : 128 ≤ c) : mayG c = false := by unfold mayG; rw [if_pos (by omega)]; exact decide_eq_false (by omega)
theorem drop_at {s : ByteArray} {p : Nat} (h : p < s.size) : s.data.toList.drop p = (s[p]'h) :: s.data.toList.drop (p + 1) := by
  have hl : p < s.data.toList.length := by simpa using h
  rw [List.drop_eq_getElem_cons hl]
  rfl
def texts_Right.f (k : Nat) (a0 : Int) (l1 : List Int) : Option Bool :=
  if a0 = 12 then utf8_Valid.f k l1 else if a0 = 19 then some (allP mayP (Lib.bytesOf l1)) else if a0 = 22 then some (allP mayI (Lib.bytesOf l1)) else if a0 = 27 then some (allP mayG (Lib.bytesOf l1)) else some false
theorem texts_Right.mono : ∀ a0 l1 k, LeO (texts_Right.f k a0 l1) (texts_Right.f (k + 1) a0 l1) := by
  intro a0 l1 k
  unfold texts_Right.f
  exact LeO.ite (utf8_Valid.mono _ _) (LeO.refl _)
theorem texts_Right.calls (k : Nat) (a0 : Int) (A1 : Option Addr) (c1 : Nat) (l1 : List Int) (r : Bool) (w : World) (hT : TabU w) (hr1 : Kd.C (Kd.int .u8) w A1 l1.length l1) (hc1 : l1.length ≤ c1) (h : texts_Right.f k a0 l1 = some r) :
    Calls Tryd.prog 69 #[.int .u8 a0, .slice A1 l1.length c1] w fun e w' => e = .returned (.bool r) ∧ Below w.heap.size w w' := by
  have hcv := Kd.C_string (P := Tryd.prog) (A := A1) (c := c1) Tryd.underlying24 Tryd.underlying5 Tryd.underlying9 hr1
  have hu9 := Tryd.underlying9
  have HR1 := aZ hr1
  have HC1 := aZ hc1
  clear hr1 hc1
  unfold texts_Right.f at h
  by_cases t12 : a0 = 12
  · rw [if_pos t12] at h
    subst t12
    have A2 := aZ h
    clear h hcv
    go_enter Tryd.func69, Tryd.ntmps69
    go_wp2_with (first | ((with_reducible refine gC 85 rfl ?_); refine goL (some 12) Tryd.func85 #[.slice A1 l1.length c1] ?_; refine (utf8_Valid.calls k _ _ l1 r _ hT HR1.out HC1.out A2.out).mono ?_; rintro e w' ⟨rfl, hb⟩; refine ⟨_, rfl, ?_⟩))
    go_ret
    exact ⟨rfl, hb⟩
  rw [if_neg t12] at h
  have q12 : (a0 == 12) = false := beq_eq_false_iff_ne.mpr t12
  by_cases t19 : a0 = 19
  · rw [if_pos t19] at h
    subst t19
    clear q12
    generalize hs : strOfNums l1 = s at hcv
    have hall : allP mayP s.data.toList = r := by rw [← hs]; exact Option.some.inj h
    have HALL := aZ hall
    clear hall h hs
    go_enter Tryd.func69, Tryd.ntmps69
    go_wp2
    go_loopw [7] (fun v w' => ∃ pos : Nat, w' = w.iter s pos ∧ Aside0 (allP mayP (s.data.toList.drop pos) = r)) (fun _ w' => s.size - w'.iterPos w.heap.size)
    case atStart => exact ⟨0, rfl, ⟨by simpa using HALL.out⟩⟩
    case round =>
      clear HALL
      obtain ⟨pos, rfl, HA⟩ := hrel
      by_cases hp : pos < s.size
      · have hd := drop_at hp
        by_cases hb : (s[pos]'hp).toNat < 128
        · have hnx : ∀ ty, (Instr.next (.pointer (some ⟨w.heap.size, 0, none⟩)) true ty).run Tryd.prog (w.iter s pos) = _ := fun ty => run_next_ascii w s pos ty hp hb
          have HA2 := aZ (show (mayP ((s[pos]'hp).toNat : Int) && allP mayP (s.data.toList.drop (pos + 1))) = r from by have h_ := HA.out; rw [hd] at h_; simpa [allP, hb] using h_)
          clear HA hd
          have hc0 : 0 ≤ ((s[pos]'hp).toNat : Int) := Int.natCast_nonneg _
          generalize ((s[pos]'hp).toNat : Int) = c at hnx HA2 hc0 ⊢
          cases hm : mayP c with
          | true =>
            go_wp2_with (first | ((with_reducible refine gate_calleeV (t := 25) rfl ?_); refine goesV_ (some 27) rfl rfl Tryd.func86 (by kernel_rfl) rfl #[.int .i32 c] rfl aA ?_; refine (right2 c hc0 _).mono ?_; rintro e w' ⟨rfl, rfl⟩; refine ⟨_, rfl, ?_⟩))
            go_roundw
            case rel => exact ⟨pos + 1, rfl, ⟨by have h_ := HA2.out; rw [hm] at h_; simpa using h_⟩⟩
            case measure => simp; omega
          | false =>
            go_wp2_with (first | ((with_reducible refine gate_calleeV (t := 25) rfl ?_); refine goesV_ (some 27) rfl rfl Tryd.func86 (by kernel_rfl) rfl #[.int .i32 c] rfl aA ?_; refine (right2 c hc0 _).mono ?_; rintro e w' ⟨rfl, rfl⟩; refine ⟨_, rfl, ?_⟩))
            go_ret
            have hr0 : r = false := by have h_ := HA2.out; rw [hm] at h_; simpa using h_.symm
            subst hr0
            exact ⟨rfl, below_alloc (Below.refl _ _) _⟩
        · have hnx : ∀ ty, (Instr.next (.pointer (some ⟨w.heap.size, 0, none⟩)) true ty).run Tryd.prog (w.iter s pos) = _ := fun ty => run_next_any w s pos ty hp
          have hhi := (decode_high s pos hp (by omega)).1
          have hr0 : r = false := by have h_ := HA.out; rw [hd] at h_; simpa [allP, hb] using h_.symm
          subst hr0
          have hm : mayP ((Utf8.decode s pos).1 : Int) = false := mayP_high (by omega)
          have hc0 : 0 ≤ ((Utf8.decode s pos).1 : Int) := Int.natCast_nonneg _
          clear HA hd hhi
          generalize ((Utf8.decode s pos).1 : Int) = c at hnx hm hc0 ⊢
          go_wp2_with (first | ((with_reducible refine gate_calleeV (t := 25) rfl ?_); refine goesV_ (some 27) rfl rfl Tryd.func86 (by kernel_rfl) rfl #[.int .i32 c] rfl aA ?_; refine (right2 c hc0 _).mono ?_; rintro e w' ⟨rfl, rfl⟩; refine ⟨_, rfl, ?_⟩))
          go_ret
          exact ⟨rfl, below_alloc (Below.refl _ _) _⟩
      · have hnx : ∀ ty, (Instr.next (.pointer (some ⟨w.heap.size, 0, none⟩)) true ty).run Tryd.prog (w.iter s pos) = _ := fun ty => run_next_end w s pos ty hp
        have hr1 : r = true := by have h_ := HA.out; rw [List.drop_of_length_le (by rw [show s.data.toList.length = s.size by simp]; exact Nat.le_of_not_lt hp)] at h_; simpa [allP] using h_.symm
        subst hr1
        clear HA
        go_wp2
        go_ret
        exact ⟨rfl, below_alloc (Below.refl _ _) _⟩
  rw [if_neg t19] at h
  have q19 : (a0 == 19) = false := beq_eq_false_iff_ne.mpr t19
  by_cases t22 : a0 = 22
  · rw [if_pos t22] at h
    subst t22
    clear q12 q19
    generalize hs : strOfNums l1 = s at hcv
    have hall : allP mayI s.data.toList = r := by rw [← hs]; exact Option.some.inj h
    have HALL := aZ hall
    clear hall h hs
    go_enter Tryd.func69, Tryd.ntmps69
    go_wp2
    go_loopw [7] (fun v w' => ∃ pos : Nat, w' = w.iter s pos ∧ Aside0 (allP mayI (s.data.toList.drop pos) = r)) (fun _ w' => s.size - w'.iterPos w.heap.size)
    case atStart => exact ⟨0, rfl, ⟨by simpa using HALL.out⟩⟩
    case round =>
      clear HALL
      obtain ⟨pos, rfl, HA⟩ := hrel
      by_cases hp : pos < s.size
      · have hd := drop_at hp
        by_cases hb : (s[pos]'hp).toNat < 128
        · have hnx : ∀ ty, (Instr.next (.pointer (some ⟨w.heap.size, 0, none⟩)) true ty).run Tryd.prog (w.iter s pos) = _ := fun ty => run_next_ascii w s pos ty hp hb
          have HA2 := aZ (show (mayI ((s[pos]'hp).toNat : Int) && allP mayI (s.data.toList.drop (pos + 1))) = r from by have h_ := HA.out; rw [hd] at h_; simpa [allP, hb] using h_)
          clear HA hd
          have hc0 : 0 ≤ ((s[pos]'hp).toNat : Int) := Int.natCast_nonneg _
          generalize ((s[pos]'hp).toNat : Int) = c at hnx HA2 hc0 ⊢
          cases hm : mayI c with
          | true =>
            go_wp2_with (first | ((with_reducible refine gate_calleeV (t := 25) rfl ?_); refine goesV_ (some 27) rfl rfl Tryd.func88 (by kernel_rfl) rfl #[.int .i32 c] rfl aA ?_; refine (right3 c _).mono ?_; rintro e w' ⟨rfl, rfl⟩; refine ⟨_, rfl, ?_⟩))
            go_roundw
            case rel => exact ⟨pos + 1, rfl, ⟨by have h_ := HA2.out; rw [hm] at h_; simpa using h_⟩⟩
            case measure => simp; omega
          | false =>
            go_wp2_with (first | ((with_reducible refine gate_calleeV (t := 25) rfl ?_); refine goesV_ (some 27) rfl rfl Tryd.func88 (by kernel_rfl) rfl #[.int .i32 c] rfl aA ?_; refine (right3 c _).mono ?_; rintro e w' ⟨rfl, rfl⟩; refine ⟨_, rfl, ?_⟩))
            go_ret
            have hr0 : r = false := by have h_ := HA2.out; rw [hm] at h_; simpa using h_.symm
            subst hr0
            exact ⟨rfl, below_alloc (Below.refl _ _) _⟩
        · have hnx : ∀ ty, (Instr.next (.pointer (some ⟨w.heap.size, 0, none⟩)) true ty).run Tryd.prog (w.iter s pos) = _ := fun ty => run_next_any w s pos ty hp
          have hhi := (decode_high s pos hp (by omega)).1
          have hr0 : r = false := by have h_ := HA.out; rw [hd] at h_; simpa [allP, hb] using h_.symm
          subst hr0
          have hm : mayI ((Utf8.decode s pos).1 : Int) = false := mayI_high (by omega)
          have hc0 : 0 ≤ ((Utf8.decode s pos).1 : Int) := Int.natCast_nonneg _
          clear HA hd hhi
          generalize ((Utf8.decode s pos).1 : Int) = c at hnx hm hc0 ⊢
          go_wp2_with (first | ((with_reducible refine gate_calleeV (t := 25) rfl ?_); refine goesV_ (some 27) rfl rfl Tryd.func88 (by kernel_rfl) rfl #[.int .i32 c] rfl aA ?_; refine (right3 c _).mono ?_; rintro e w' ⟨rfl, rfl⟩; refine ⟨_, rfl, ?_⟩))
          go_ret
          exact ⟨rfl, below_alloc (Below.refl _ _) _⟩
      · have hnx : ∀ ty, (Instr.next (.pointer (some ⟨w.heap.size, 0, none⟩)) true ty).run Tryd.prog (w.iter s pos) = _ := fun ty => run_next_end w s pos ty hp
        have hr1 : r = true := by have h_ := HA.out; rw [List.drop_of_length_le (by rw [show s.data.toList.length = s.size by simp]; exact Nat.le_of_not_lt hp)] at h_; simpa [allP] using h_.symm
        subst hr1
        clear HA
        go_wp2
        go_ret
        exact ⟨rfl, below_alloc (Below.refl _ _) _⟩
  rw [if_neg t22] at h
  have q22 : (a0 == 22) = false := beq_eq_false_iff_ne.mpr t22
  by_cases t27 : a0 = 27
  · rw [if_pos t27] at h
    subst t27
    clear q12 q19 q22
    generalize hs : strOfNums l1 = s at hcv
    have hall : allP mayG s.data.toList = r := by rw [← hs]; exact Option.some.inj h
    have HALL := aZ hall
    clear hall h hs
    go_enter Tryd.func69, Tryd.ntmps69
    go_wp2
    go_loopw [7] (fun v w' => ∃ pos : Nat, w' = w.iter s pos ∧ Aside0 (allP mayG (s.data.toList.drop pos) = r)) (fun _ w' => s.size - w'.iterPos w.heap.size)
    case atStart => exact ⟨0, rfl, ⟨by simpa using HALL.out⟩⟩
    case round =>
      clear HALL
      obtain ⟨pos, rfl, HA⟩ := hrel
      by_cases hp : pos < s.size
      · have hd := drop_at hp
        by_cases hb : (s[pos]'hp).toNat < 128
        · have hnx : ∀ ty, (Instr.next (.pointer (some ⟨w.heap.size, 0, none⟩)) true ty).run Tryd.prog (w.iter s pos) = _ := fun ty => run_next_ascii w s pos ty hp hb
          have HA2 := aZ (show (mayG ((s[pos]'hp).toNat : Int) && allP mayG (s.data.toList.drop (pos + 1))) = r from by have h_ := HA.out; rw [hd] at h_; simpa [allP, hb] using h_)
          clear HA hd
          have hc0 : 0 ≤ ((s[pos]'hp).toNat : Int) := Int.natCast_nonneg _
          generalize ((s[pos]'hp).toNat : Int) = c at hnx HA2 hc0 ⊢
          cases hm : mayG c with
          | true =>
            go_wp2_with (first | ((with_reducible refine gate_calleeV (t := 25) rfl ?_); refine goesV_ (some 27) rfl rfl Tryd.func89 (by kernel_rfl) rfl #[.int .i32 c] rfl aA ?_; refine (right4 c _).mono ?_; rintro e w' ⟨rfl, rfl⟩; refine ⟨_, rfl, ?_⟩))
            go_roundw
            case rel => exact ⟨pos + 1, rfl, ⟨by have h_ := HA2.out; rw [hm] at h_; simpa using h_⟩⟩
            case measure => simp; omega
          | false =>
            go_wp2_with (first | ((with_reducible refine gate_calleeV (t := 25) rfl ?_); refine goesV_ (some 27) rfl rfl Tryd.func89 (by kernel_rfl) rfl #[.int .i32 c] rfl aA ?_; refine (right4 c _).mono ?_; rintro e w' ⟨rfl, rfl⟩; refine ⟨_, rfl, ?_⟩))
            go_ret
            have hr0 : r = false := by have h_ := HA2.out; rw [hm] at h_; simpa using h_.symm
            subst hr0
            exact ⟨rfl, below_alloc (Below.refl _ _) _⟩
        · have hnx : ∀ ty, (Instr.next (.pointer (some ⟨w.heap.size, 0, none⟩)) true ty).run Tryd.prog (w.iter s pos) = _ := fun ty => run_next_any w s pos ty hp
          have hhi := (decode_high s pos hp (by omega)).1
          have hr0 : r = false := by have h_ := HA.out; rw [hd] at h_; simpa [allP, hb] using h_.symm
          subst hr0
          have hm : mayG ((Utf8.decode s pos).1 : Int) = false := mayG_high (by omega)
          have hc0 : 0 ≤ ((Utf8.decode s pos).1 : Int) := Int.natCast_nonneg _
          clear HA hd hhi
          generalize ((Utf8.decode s pos).1 : Int) = c at hnx hm hc0 ⊢
          go_wp2_with (first | ((with_reducible refine gate_calleeV (t := 25) rfl ?_); refine goesV_ (some 27) rfl rfl Tryd.func89 (by kernel_rfl) rfl #[.int .i32 c] rfl aA ?_; refine (right4 c _).mono ?_; rintro e w' ⟨rfl, rfl⟩; refine ⟨_, rfl, ?_⟩))
          go_ret
          exact ⟨rfl, below_alloc (Below.refl _ _) _⟩
      · have hnx : ∀ ty, (Instr.next (.pointer (some ⟨w.heap.size, 0, none⟩)) true ty).run Tryd.prog (w.iter s pos) = _ := fun ty => run_next_end w s pos ty hp
        have hr1 : r = true := by have h_ := HA.out; rw [List.drop_of_length_le (by rw [show s.data.toList.length = s.size by simp]; exact Nat.le_of_not_lt hp)] at h_; simpa [allP] using h_.symm
        subst hr1
        clear HA
        go_wp2
        go_ret
        exact ⟨rfl, below_alloc (Below.refl _ _) _⟩
  rw [if_neg t27] at h
  have q27 : (a0 == 27) = false := beq_eq_false_iff_ne.mpr t27
  obtain rfl := Option.some.inj h
  go_enter Tryd.func69, Tryd.ntmps69
  go_wp2
  go_ret
  exact ⟨rfl, Below.refl _ _⟩
end Go.Proofs.YtkceebgncfggjaaDoor.PQ

