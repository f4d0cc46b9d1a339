/- NodesSets: words, printed functions and plain laws that the claim uses, laid by a program of this session's. No condition beside those in each theorem's own line. -/
import Derived.Laws.Externs
import Derived.Laws.RangeAny
import Derived.Lib.Bytealg
import Derived.Lib.Bytes
import Derived.Lib.OthersKept
import Derived.LoopTactic
import Derived.Test.YtkceebgncfggjaaDoorZS13
set_option linter.unusedVariables false
set_option linter.unusedSimpArgs false
namespace Go.Proofs.YtkceebgncfggjaaDoor.PQ
open Go.RowKit Go.Proofs.YtkceebgncfggjaaDoorW.PrintWords Go.Proofs.YtkceebgncfggjaaDoorW.PrintLast Go.Proofs.YtkceebgncfggjaaDoorW.PrintMore Go.Proofs.YtkceebgncfggjaaDoorX
set_option maxHeartbeats 8000000
set_option maxRecDepth 100000
def tmGo : List UInt8 → Nat → List Int → Option (List Int)
  | [], _, cs => some cs
  | b :: l, p, cs => if 48 ≤ b.toNat ∧ b.toNat ≤ 57 then tmGo l (p + 1) (cs.set (p / 2) (wrap64 (wrap64 (cs.getD (p / 2) 0 * 10) + ((b.toNat : Int) - 48)))) else none
def tmDigits (a0 : Int) (l1 : List Int) : Option (List UInt8) :=
  if a0 = 23 ∧ l1.length = 13 then (if rd l1 0 < 53 then some (50 :: 48 :: Lib.bytesOf l1) else some (49 :: 57 :: Lib.bytesOf l1)) else if a0 = 24 ∧ l1.length = 15 then some (Lib.bytesOf l1) else none
structure TInv (w w' : World) (k : Nat) (s : ByteArray) (pos : Nat) (cs : List Int) : Prop where
  row : ∃ t, w'.heap[w.heap.size]? = some (.cells (cs.map (Value.int .i64 ·)).toArray t (0, 0))
  len : cs.length = 7
  iter : w'.heap[k]? = some (.stringIter s pos)
  ne : w.heap.size < k
  below : Below w.heap.size w w'
theorem TInv.load {w w' : World} {k : Nat} {s : ByteArray} {pos : Nat} {cs : List Int} (h : TInv w w' k s pos cs) {j : Nat} (hj : j < 7) : w'.cell? ⟨w.heap.size, j, none⟩ = some (.int .i64 (cs.getD j 0)) := by
  obtain ⟨t, ht⟩ := h.row
  have hl : j < cs.length := by rw [h.len]; exact hj
  simp [World.cell?, ht, hl]
theorem TInv.frozen {w w' : World} {k : Nat} {s : ByteArray} {pos : Nat} {cs : List Int} (h : TInv w w' k s pos cs) (j : Nat) : w'.frozen? ⟨w.heap.size, j, none⟩ = false := by
  obtain ⟨t, ht⟩ := h.row
  simp [World.frozen?, ht]
theorem TInv.store {w w' : World} {k : Nat} {s : ByteArray} {pos : Nat} {cs : List Int} (h : TInv w w' k s pos cs) (j : Nat) (x : Int) : TInv w (w'.setCell ⟨w.heap.size, j, none⟩ (.int .i64 x)) k s pos (cs.set j x) := by
  obtain ⟨t, ht⟩ := h.row
  have hlt := (Array.getElem?_eq_some_iff.1 ht).1
  have hne := h.ne
  rw [setCell_eq_setRow w' w.heap.size j _ t (0, 0) _ ht]
  refine ⟨⟨t, ?_⟩, by rw [List.length_set]; exact h.len, ?_, hne, ?_⟩
  · rw [setRow_heap w' w.heap.size _ _ t _ ht]
    simp [List.map_set]
  · simp [World.setRow, Array.getElem?_modify, h.iter, show ¬ w.heap.size = k by omega]
  · refine h.below.trans ?_
    refine ⟨rfl, rfl, rfl, by simp [World.setRow], fun i hi => by simp [World.setRow, Array.getElem?_modify]; omega⟩
theorem TInv.next {w w' : World} {k : Nat} {s : ByteArray} {pos : Nat} {cs : List Int} (h : TInv w w' k s pos cs) (pos' : Nat) : TInv w (w'.iterAt k s pos') k s pos' cs := by
  have hne := h.ne
  refine ⟨?_, h.len, Lib.iterAt_heap w' k s pos pos' h.iter, hne, Lib.below_iterAt h.below (by omega) s pos'⟩
  obtain ⟨t, ht⟩ := h.row
  exact ⟨t, by rw [Lib.iterAt_other _ _ _ _ _ (by omega)]; exact ht⟩
theorem TInv.pos {w w' : World} {k : Nat} {s : ByteArray} {pos : Nat} {cs : List Int} (h : TInv w w' k s pos cs) : w'.iterPos k = pos := by simp [World.iterPos, h.iter]
theorem TInv.start (w : World) (s : ByteArray) : TInv w ((w.alloc (.cells #[.int .i64 0, .int .i64 0, .int .i64 0, .int .i64 0, .int .i64 0, .int .i64 0, .int .i64 0] 106)).iter s 0) (w.heap.size + 1) s 0 [0, 0, 0, 0, 0, 0, 0] := by
  refine ⟨⟨106, ?_⟩, rfl, ?_, Nat.lt_succ_self _, below_alloc (below_alloc (Below.refl _ _) _) _⟩
  · show ((w.heap.push _).push _)[_]? = _
    rw [Array.getElem?_push_lt (by rw [Array.size_push]; omega)]
    simp
  · show ((w.heap.push _).push _)[_]? = _
    have h_ : w.heap.size + 1 = (w.heap.push (.cells #[.int .i64 0, .int .i64 0, .int .i64 0, .int .i64 0, .int .i64 0, .int .i64 0, .int .i64 0] 106)).size := by rw [Array.size_push]
    rw [h_, Array.getElem?_push_size]
theorem tm_drop {s : ByteArray} {p : Nat} (h : p < s.size) : s.data.toList.drop p = (s[p]'h) :: s.data.toList.drop (p + 1) := by
  have hl : p < s.data.toList.length := by simpa using h
  rw [List.drop_eq_getElem_cons hl]
  rfl
def dayN (y m d : Int) : Int := (texts_day.f y m d).getD 0
theorem day_some (y m d : Int) : texts_day.f y m d = some (dayN y m d) := by unfold dayN texts_day.f; split <;> rfl
def tmTail (k : Nat) (a0 : Int) (l1 : List Int) (f0 f1 f2 f3 f4 f5 f6 : Int) : Option (Int × Int) :=
  if f2 < 1 ∨ 12 < f2 ∨ 23 < f4 ∨ 59 < f5 ∨ 59 < f6 then some (0, 32) else
  (texts_PutTime.f k (wrap64 (wrap64 (dayN (wrap64 (wrap64 (100 * f0) + f1)) f2 f3 * 86400) + wrap64 (wrap64 (wrap64 (3600 * f4) + wrap64 (60 * f5)) + f6)))).bind fun x =>
    if x.2.2 ≠ 0 ∨ x.1 ≠ a0 ∨ ((strOfNums x.2.1).toList == (strOfNums l1).toList) = false then some (0, 32) else some (wrap64 (wrap64 (dayN (wrap64 (wrap64 (100 * f0) + f1)) f2 f3 * 86400) + wrap64 (wrap64 (wrap64 (3600 * f4) + wrap64 (60 * f5)) + f6)), 0)
def tmF (k : Nat) (a0 : Int) (l1 : List Int) : Option (List Int) → Option (Int × Int)
  | some [f0, f1, f2, f3, f4, f5, f6] => tmTail k a0 l1 f0 f1 f2 f3 f4 f5 f6
  | _ => some (0, 32)
def texts_Time.f (k : Nat) (a0 : Int) (l1 : List Int) : Option (Int × Int) :=
  match tmDigits a0 l1 with
  | none => some (0, 32)
  | some ds => tmF k a0 l1 (tmGo (ds.take 14) 0 [0, 0, 0, 0, 0, 0, 0])
theorem texts_Time.mono : ∀ a0 l1 k, LeO (texts_Time.f k a0 l1) (texts_Time.f (k + 1) a0 l1) := by
  intro a0 l1 k
  unfold texts_Time.f
  split
  · exact LeO.refl _
  · unfold tmF
    split
    · unfold tmTail
      exact LeO.ite (LeO.refl _) (LeO.bind (texts_PutTime.mono _ _) (fun _ => LeO.refl _))
    · exact LeO.refl _
theorem texts_Time.calls (k : Nat) (a0 : Int) (A1 : Option Addr) (c1 : Nat) (l1 : List Int) (r1 r2 : Int) (w : World) (hr1 : Kd.C (Kd.int .u8) w A1 l1.length l1) (hc1 : l1.length ≤ c1) (h : texts_Time.f k a0 l1 = some (r1, r2)) :
    Calls Tryd.prog 68 #[.int .u8 a0, .slice A1 l1.length c1] w fun e w' => e = .returned (.tuple #[.int .i64 r1, .int .i64 r2]) ∧ Below w.heap.size w w' := by
  have hcv := Kd.C_string (P := Tryd.prog) (A := A1) (c := c1) Tryd.underlying24 Tryd.underlying5 Tryd.underlying9 hr1
  have hu9 := Tryd.underlying9
  have hu106 := Tryd.underlying106
  have HR1 := aZ hr1
  have HC1 := aZ hc1
  clear hr1 hc1
  have hA := aZ h
  clear h
  generalize hs : strOfNums l1 = s at hcv
  go_enter Tryd.func68, Tryd.ntmps68
  go_upto_block 0 with (fail)
  repeat (go_quiet (fail); go_upto_block 0 with (fail))
  go_cut [6] (fun v6 wc => ∃ sd : ByteArray, v6 = .string sd ∧ wc = w ∧ Aside0 (tmF k a0 l1 (tmGo (sd.data.toList.take 14) 0 [0, 0, 0, 0, 0, 0, 0]) = some (r1, r2)) ∧ Aside0 (14 ≤ sd.size))
  case first =>
    have hsz : s.data.toList = Lib.bytesOf l1 := by rw [← hs]; rfl
    have hsl : s.size = l1.length := by show s.data.size = _; rw [← Array.length_toList, hsz]; simp [Lib.bytesOf]
    have h := hA.out
    clear hA hs hcv
    unfold texts_Time.f at h
    by_cases t23 : a0 = 23
    · subst t23
      by_cases hl : l1.length = 13
      · have hlb : ((l1.length : Int) == 13) = true := by rw [hl]; rfl
        obtain ⟨ad, e0, hx⟩ := Kd.at_int HR1.out 0 (by omega) (by omega)
        cases e0
        have qi : (0 < l1.length) = True := eq_true (by omega)
        (try rw [show ((0 : Int)).toNat = 0 from rfl] at hx)
        (try rw [Addr.add_zero'] at hx)
        have hs13 : s.size = 13 := by rw [hsl, hl]
        have HL := aZ hl
        by_cases c5 : rd l1 0 < 53
        · have hd : tmDigits 23 l1 = some (50 :: 48 :: Lib.bytesOf l1) := by unfold tmDigits; rw [if_pos ⟨rfl, hl⟩, if_pos c5]
          rw [hd] at h
          have c5b : decide (rd l1 0 < 53) = true := decide_eq_true c5
          have HA := aZ h
          clear h hd hl c5
          go_wp2
          go_meet
          case rel => exact ⟨_, rfl, rfl, ⟨by have h_ := HA.out; rw [show (_ : ByteArray).data.toList = 50 :: 48 :: s.data.toList from by simp, hsz]; exact h_⟩, ⟨by have h_ := HL.out; rw [ByteArray.size_append, hs13]; decide⟩⟩
        · have hd : tmDigits 23 l1 = some (49 :: 57 :: Lib.bytesOf l1) := by unfold tmDigits; rw [if_pos ⟨rfl, hl⟩, if_neg c5]
          rw [hd] at h
          have c5b : decide (rd l1 0 < 53) = false := decide_eq_false c5
          have HA := aZ h
          clear h hd hl c5
          go_wp2
          go_meet
          case rel => exact ⟨_, rfl, rfl, ⟨by have h_ := HA.out; rw [show (_ : ByteArray).data.toList = 49 :: 57 :: s.data.toList from by simp, hsz]; exact h_⟩, ⟨by have h_ := HL.out; rw [ByteArray.size_append, hs13]; decide⟩⟩
      · have hlb : ((l1.length : Int) == 13) = false := beq_eq_false_iff_ne.mpr (by omega)
        have hd : tmDigits 23 l1 = none := by unfold tmDigits; rw [if_neg (fun x => hl x.2), if_neg (by omega)]
        rw [hd] at h
        simp only [Option.some.injEq, Prod.mk.injEq] at h
        obtain ⟨rfl, rfl⟩ := h
        clear hl hd
        go_wp2
        go_ret2
        exact ⟨rfl, Below.refl _ _⟩
    · have q23 : (a0 == 23) = false := beq_eq_false_iff_ne.mpr t23
      by_cases t24 : a0 = 24
      · subst t24
        by_cases hl : l1.length = 15
        · have hlb : ((l1.length : Int) == 15) = true := by rw [hl]; rfl
          have hd : tmDigits 24 l1 = some (Lib.bytesOf l1) := by unfold tmDigits; rw [if_neg (by omega), if_pos ⟨rfl, hl⟩]
          rw [hd] at h
          have HA := aZ h
          have HL := aZ hl
          clear h hd hl
          go_wp2
          go_meet
          case rel => exact ⟨_, rfl, rfl, ⟨by have h_ := HA.out; rw [hsz]; exact h_⟩, ⟨by have h_ := HL.out; omega⟩⟩
        · have hlb : ((l1.length : Int) == 15) = false := beq_eq_false_iff_ne.mpr (by omega)
          have hd : tmDigits 24 l1 = none := by unfold tmDigits; rw [if_neg (by omega), if_neg (fun x => hl x.2)]
          rw [hd] at h
          simp only [Option.some.injEq, Prod.mk.injEq] at h
          obtain ⟨rfl, rfl⟩ := h
          clear hl hd
          go_wp2
          go_ret2
          exact ⟨rfl, Below.refl _ _⟩
      · have q24 : (a0 == 24) = false := beq_eq_false_iff_ne.mpr t24
        have hd : tmDigits a0 l1 = none := by unfold tmDigits; rw [if_neg (fun x => t23 x.1), if_neg (fun x => t24 x.1)]
        rw [hd] at h
        simp only [Option.some.injEq, Prod.mk.injEq] at h
        obtain ⟨rfl, rfl⟩ := h
        clear hd
        go_wp2
        go_ret2
        exact ⟨rfl, Below.refl _ _⟩
  case rest =>
    clear hA hs hcv
    obtain ⟨sd, rfl, rfl, HA, HL⟩ := hcut
    obtain ⟨s, he⟩ : ∃ s : ByteArray, sd.extract 0 14 = s := ⟨_, rfl⟩
    have hsl : s.data.toList = sd.data.toList.take 14 := by rw [← he]; simp
    have hsz : s.size = 14 := by have h_ := HL.out; rw [← he]; simp; omega
    have hle : 14 ≤ sd.size := HL.out
    have HA2 : Aside0 (tmF k a0 l1 (tmGo s.data.toList 0 [0, 0, 0, 0, 0, 0, 0]) = some (r1, r2)) := ⟨by rw [hsl]; exact HA.out⟩
    have HZ := aZ hsz
    clear HA HL hsl hsz
    go_wp2
    go_loopw [8, 9] (fun v8 v9 w' => ∃ pos cs, TInv wc w' (wc.heap.size + 1) s pos cs ∧ Aside0 (tmF k a0 l1 (tmGo (s.data.toList.drop pos) pos cs) = some (r1, r2))) (fun _ _ w' => s.size - w'.iterPos (wc.heap.size + 1))
    case atStart => exact ⟨0, _, TInv.start _ _, ⟨by simpa using HA2.out⟩⟩
    case round =>
      clear HA2
      obtain ⟨pos, cs, hI, HA⟩ := hrel
      by_cases hp : pos < s.size
      · have hd := tm_drop hp
        by_cases hb : (s[pos]'hp).toNat < 128
        · have hnx : ∀ ty, (Instr.next (.pointer (some ⟨wc.heap.size + 1, 0, none⟩)) true ty).run Tryd.prog wr = _ := fun ty => Lib.run_next_ascii_at wr _ s pos ty hI.iter hp hb
          have hI2 := hI.next (pos + 1)
          have hq : pos / 2 < 7 := by have h_ := HZ.out; omega
          have hld := fun j (hj : j < 7) => hI2.load (j := j) hj
          have hfr := fun j => hI2.frozen j
          have hst := fun j x => hI2.store j x
          have hqd : Int.tdiv (pos : Int) 2 = ((pos / 2 : Nat) : Int) := by rw [Int.tdiv_eq_ediv_of_nonneg (by omega)]; omega
          have HQ := aZ hq
          have hl1 := hld _ hq
          have hf1 := hfr (pos / 2)
          have hA := HA.out
          rw [hd] at hA
          simp only [tmGo] at hA
          by_cases hdg : 48 ≤ (s[pos]'hp).toNat ∧ (s[pos]'hp).toNat ≤ 57
          · rw [if_pos hdg] at hA
            have HA2 := aZ hA
            have HP := aZ hp
            have d1 : decide ((((s[pos]'hp).toNat : Int)) < 48) = false := decide_eq_false (by omega)
            have d2 : decide (57 < (((s[pos]'hp).toNat : Int))) = false := decide_eq_false (by omega)
            have d3 : 48 ≤ ((s[pos]'hp).toNat : Int) := by omega
            have d4 : ((s[pos]'hp).toNat : Int) ≤ 57 := by omega
            clear hd hA HA hb hdg
            generalize ((s[pos]'hp).toNat : Int) = c at hnx HA2 d1 d2 d3 d4
            generalize wr.iterAt (wc.heap.size + 1) s (pos + 1) = w2 at hnx hI2 hld hfr hst hl1 hf1
            generalize hqq : pos / 2 = q at *
            have hix : ∀ w, (Instr.indexAt 106 (.pointer (some ⟨wc.heap.size, 0, none⟩)) (.int .i64 (q : Int))).run Tryd.prog w = .ok (.pointer (some ⟨wc.heap.size, q, none⟩)) w := by
              intro w
              have h_ := HQ.out
              have h2_ : q = 0 ∨ q = 1 ∨ q = 2 ∨ q = 3 ∨ q = 4 ∨ q = 5 ∨ q = 6 := by omega
              rcases h2_ with rfl | rfl | rfl | rfl | rfl | rfl | rfl <;> rfl
            have hw : wrap64 (c - 48) = c - 48 := by unfold wrap64; omega
            have hp0 := hI.pos
            clear hp
            go_wp2
            go_roundw
            case rel => exact ⟨pos + 1, _, hst _ _, HA2⟩
            case measure => rw [(hst _ _).pos, hp0]; have h_ := HP.out; omega
          · rw [if_neg hdg] at hA
            simp only [tmF, Option.some.injEq, Prod.mk.injEq] at hA
            obtain ⟨rfl, rfl⟩ := hA
            have HBl := aZ hI2.below
            clear hl1 hf1 hld hfr hst hI2 hI hd HA hqd hq
            by_cases d0 : ((s[pos]'hp).toNat : Int) < 48
            · have d1 : decide ((((s[pos]'hp).toNat : Int)) < 48) = true := decide_eq_true d0
              clear d0 hdg hb HQ
              generalize ((s[pos]'hp).toNat : Int) = c at hnx d1
              clear hp
              generalize wr.iterAt (wc.heap.size + 1) s (pos + 1) = w2 at hnx HBl
              go_wp2
              go_ret2
              exact ⟨rfl, HBl.out⟩
            · have d1 : decide ((((s[pos]'hp).toNat : Int)) < 48) = false := decide_eq_false d0
              have d2 : decide (57 < (((s[pos]'hp).toNat : Int))) = true := decide_eq_true (by omega)
              clear d0 hdg hb HQ
              generalize ((s[pos]'hp).toNat : Int) = c at hnx d1 d2
              clear hp
              generalize wr.iterAt (wc.heap.size + 1) s (pos + 1) = w2 at hnx HBl
              go_wp2
              go_ret2
              exact ⟨rfl, HBl.out⟩
        · have hnx : ∀ ty, (Instr.next (.pointer (some ⟨wc.heap.size + 1, 0, none⟩)) true ty).run Tryd.prog wr = _ := fun ty => Lib.run_next_any_at wr _ s pos ty hI.iter hp
          have hhi := (decode_high s pos hp (by omega)).1
          have hI2 := hI.next (pos + (Utf8.decode s pos).2)
          have hA := HA.out
          rw [hd] at hA
          simp only [tmGo] at hA
          rw [if_neg (by omega)] at hA
          simp only [tmF, Option.some.injEq, Prod.mk.injEq] at hA
          obtain ⟨rfl, rfl⟩ := hA
          have HBl := aZ hI2.below
          have d1 : decide (((Utf8.decode s pos).1 : Int) < 48) = false := decide_eq_false (by omega)
          have d2 : decide (57 < ((Utf8.decode s pos).1 : Int)) = true := decide_eq_true (by omega)
          clear hI2 hI hd HA hhi hb
          generalize ((Utf8.decode s pos).1 : Int) = c at hnx d1 d2
          generalize wr.iterAt (wc.heap.size + 1) s (pos + (Utf8.decode s pos).2) = w2 at hnx HBl
          clear hp
          go_wp2
          go_ret2
          exact ⟨rfl, HBl.out⟩
      · have hnx : ∀ ty, (Instr.next (.pointer (some ⟨wc.heap.size + 1, 0, none⟩)) true ty).run Tryd.prog wr = _ := fun ty => Lib.run_next_end_at wr _ s pos ty hI.iter hp
        have hA := HA.out
        rw [List.drop_of_length_le (by rw [show s.data.toList.length = s.size by simp]; exact Nat.le_of_not_lt hp)] at hA
        simp only [tmGo] at hA
        have hlen := hI.len
        obtain ⟨f0, f1, f2, f3, f4, f5, f6, rfl⟩ : ∃ f0 f1 f2 f3 f4 f5 f6, cs = [f0, f1, f2, f3, f4, f5, f6] := by
          match cs, hlen with
          | [f0, f1, f2, f3, f4, f5, f6], _ => exact ⟨f0, f1, f2, f3, f4, f5, f6, rfl⟩
        have l0 := hI.load (j := 0) (by omega)
        have l1_ := hI.load (j := 1) (by omega)
        have l2 := hI.load (j := 2) (by omega)
        have l3 := hI.load (j := 3) (by omega)
        have l4 := hI.load (j := 4) (by omega)
        have l5 := hI.load (j := 5) (by omega)
        have l6 := hI.load (j := 6) (by omega)
        simp only [List.getD_cons_zero, List.getD_cons_succ] at l0 l1_ l2 l3 l4 l5 l6
        have HB := aZ hI.below
        clear hI HA hp hlen
        simp only [tmF] at hA
        unfold tmTail at hA
        have HA2 := aZ hA
        clear hA
        by_cases c : f2 < 1
        · have h_ := HA2.out
          rw [if_pos (Or.inl c)] at h_
          simp only [Option.some.injEq, Prod.mk.injEq] at h_
          obtain ⟨rfl, rfl⟩ := h_
          have cb : decide (f2 < 1) = true := decide_eq_true c
          clear HA2 c
          go_wp2
          repeat (go_quiet (fail); try go_wp2)
          go_ret2
          exact ⟨rfl, bB⟩
        have cb0 : decide (f2 < 1) = false := decide_eq_false c
        have cn0 := aZ c
        clear c
        by_cases c : 12 < f2
        · have h_ := HA2.out
          rw [if_pos (Or.inr (Or.inl c))] at h_
          simp only [Option.some.injEq, Prod.mk.injEq] at h_
          obtain ⟨rfl, rfl⟩ := h_
          have cb : decide (12 < f2) = true := decide_eq_true c
          clear HA2 c
          go_wp2
          repeat (go_quiet (fail); try go_wp2)
          go_ret2
          exact ⟨rfl, bB⟩
        have cb1 : decide (12 < f2) = false := decide_eq_false c
        have cn1 := aZ c
        clear c
        by_cases c : 23 < f4
        · have h_ := HA2.out
          rw [if_pos (Or.inr (Or.inr (Or.inl c)))] at h_
          simp only [Option.some.injEq, Prod.mk.injEq] at h_
          obtain ⟨rfl, rfl⟩ := h_
          have cb : decide (23 < f4) = true := decide_eq_true c
          clear HA2 c
          go_wp2
          repeat (go_quiet (fail); try go_wp2)
          go_ret2
          exact ⟨rfl, bB⟩
        have cb2 : decide (23 < f4) = false := decide_eq_false c
        have cn2 := aZ c
        clear c
        by_cases c : 59 < f5
        · have h_ := HA2.out
          rw [if_pos (Or.inr (Or.inr (Or.inr (Or.inl c))))] at h_
          simp only [Option.some.injEq, Prod.mk.injEq] at h_
          obtain ⟨rfl, rfl⟩ := h_
          have cb : decide (59 < f5) = true := decide_eq_true c
          clear HA2 c
          go_wp2
          repeat (go_quiet (fail); try go_wp2)
          go_ret2
          exact ⟨rfl, bB⟩
        have cb3 : decide (59 < f5) = false := decide_eq_false c
        have cn3 := aZ c
        clear c
        by_cases c : 59 < f6
        · have h_ := HA2.out
          rw [if_pos (Or.inr (Or.inr (Or.inr (Or.inr c))))] at h_
          simp only [Option.some.injEq, Prod.mk.injEq] at h_
          obtain ⟨rfl, rfl⟩ := h_
          have cb : decide (59 < f6) = true := decide_eq_true c
          clear HA2 c
          go_wp2
          repeat (go_quiet (fail); try go_wp2)
          go_ret2
          exact ⟨rfl, bB⟩
        have cb4 : decide (59 < f6) = false := decide_eq_false c
        have cn4 := aZ c
        clear c
        have h_ := HA2.out
        rw [if_neg (fun x => by rcases x with x | x | x | x | x; exact cn0.out x; exact cn1.out x; exact cn2.out x; exact cn3.out x; exact cn4.out x)] at h_
        clear HA2
        generalize hsec : (wrap64 (wrap64 (dayN (wrap64 (wrap64 (100 * f0) + f1)) f2 f3 * 86400) + wrap64 (wrap64 (wrap64 (3600 * f4) + wrap64 (60 * f5)) + f6))) = sec at h_
        replace h_ := Option.bind_eq_some_iff.mp h_
        obtain ⟨⟨pt, pa, pe⟩, hpt, h_⟩ := h_
        have PT := aZ hpt
        have HS := aZ hsec
        clear hpt hsec
        obtain ⟨eq, heq⟩ : ∃ b : Bool, ((strOfNums pa).toList == (strOfNums l1).toList) = b := ⟨_, rfl⟩
        have EQ : Aside0 (bytes_Equal.f pa l1 = some eq) := ⟨by unfold bytes_Equal.f; rw [heq]⟩
        simp only [heq] at h_
        clear heq
        by_cases c : pe ≠ 0
        · rw [if_pos (Or.inl c)] at h_
          simp only [Option.some.injEq, Prod.mk.injEq] at h_
          obtain ⟨rfl, rfl⟩ := h_
          have cb : (pe != 0) = true := bne_iff_ne.mpr c
          have cc : (pe == 0) = false := beq_eq_false_iff_ne.mpr c
          clear c
          go_wp2_with (first | (go_at_call 82; (with_reducible refine (texts_day.calls _ _ _ _ _ (day_some _ _ _)).mono ?_); rintro e w' ⟨rfl, ⟨nd, rfl⟩⟩; (try first | exact ⟨rfl, _, World.drewN_drewN _ _ _⟩ | exact ⟨rfl, _, Eq.trans (World.drewN_drewN _ _ _) (congrArg (World.drewN _) (Nat.add_assoc _ _ _))⟩)) | ((with_reducible refine gC 83 rfl ?_); refine goL (some 127) Tryd.func83 #[.int .i64 (wrap64 (wrap64 (dayN (wrap64 (wrap64 (100 * f0) + f1)) f2 f3 * 86400) + wrap64 (wrap64 (wrap64 (3600 * f4) + wrap64 (60 * f5)) + f6)))] ?_; rw [HS.out]; refine (texts_PutTime.calls k sec pt pa pe _ PT.out).mono ?_; rintro e w' ⟨v1, rfl, ho0, hb⟩; refine ⟨_, rfl, ?_⟩; have HO := aZ (Kd.Q_lower ho0 (below_size bB)); replace HB := aZ (below_step bB hb); clear hb ho0; obtain ⟨Ao, co, eo, -⟩ := Kd.Q_slice HO.out; subst eo) | ((with_reducible refine gC 48 rfl ?_); refine goL (some 141) Tryd.func48 #[.slice Ao pa.length co, .slice A1 l1.length c1] ?_; refine (bytes_Equal.calls _ _ pa _ _ l1 _ _ (by exact kC (Kd.Q_reads' HO.out).2.2) (Kd.Q_reads' HO.out).2.1 (by exact kC (Kd.C_below HR1.out HB.out)) HC1.out EQ.out).mono ?_; rintro e w' ⟨rfl, ⟨nd, rfl⟩⟩; refine ⟨_, rfl, ?_⟩) | (go_at_call 48; refine (bytes_Equal.calls _ _ pa _ _ l1 _ _ (by exact kC (Kd.Q_reads' HO.out).2.2) (Kd.Q_reads' HO.out).2.1 (by exact kC (Kd.C_below HR1.out HB.out)) HC1.out EQ.out).mono ?_; rintro e w' ⟨rfl, ⟨nd, rfl⟩⟩))
          repeat (go_quiet ((go_at_call 82; (with_reducible refine (texts_day.calls _ _ _ _ _ (day_some _ _ _)).mono ?_); rintro e w' ⟨rfl, ⟨nd, rfl⟩⟩; (try first | exact ⟨rfl, _, World.drewN_drewN _ _ _⟩ | exact ⟨rfl, _, Eq.trans (World.drewN_drewN _ _ _) (congrArg (World.drewN _) (Nat.add_assoc _ _ _))⟩))); try go_wp2_with (first | (go_at_call 82; (with_reducible refine (texts_day.calls _ _ _ _ _ (day_some _ _ _)).mono ?_); rintro e w' ⟨rfl, ⟨nd, rfl⟩⟩; (try first | exact ⟨rfl, _, World.drewN_drewN _ _ _⟩ | exact ⟨rfl, _, Eq.trans (World.drewN_drewN _ _ _) (congrArg (World.drewN _) (Nat.add_assoc _ _ _))⟩)) | ((with_reducible refine gC 83 rfl ?_); refine goL (some 127) Tryd.func83 #[.int .i64 (wrap64 (wrap64 (dayN (wrap64 (wrap64 (100 * f0) + f1)) f2 f3 * 86400) + wrap64 (wrap64 (wrap64 (3600 * f4) + wrap64 (60 * f5)) + f6)))] ?_; rw [HS.out]; refine (texts_PutTime.calls k sec pt pa pe _ PT.out).mono ?_; rintro e w' ⟨v1, rfl, ho0, hb⟩; refine ⟨_, rfl, ?_⟩; have HO := aZ (Kd.Q_lower ho0 (below_size bB)); replace HB := aZ (below_step bB hb); clear hb ho0; obtain ⟨Ao, co, eo, -⟩ := Kd.Q_slice HO.out; subst eo) | ((with_reducible refine gC 48 rfl ?_); refine goL (some 141) Tryd.func48 #[.slice Ao pa.length co, .slice A1 l1.length c1] ?_; refine (bytes_Equal.calls _ _ pa _ _ l1 _ _ (by exact kC (Kd.Q_reads' HO.out).2.2) (Kd.Q_reads' HO.out).2.1 (by exact kC (Kd.C_below HR1.out HB.out)) HC1.out EQ.out).mono ?_; rintro e w' ⟨rfl, ⟨nd, rfl⟩⟩; refine ⟨_, rfl, ?_⟩) | (go_at_call 48; refine (bytes_Equal.calls _ _ pa _ _ l1 _ _ (by exact kC (Kd.Q_reads' HO.out).2.2) (Kd.Q_reads' HO.out).2.1 (by exact kC (Kd.C_below HR1.out HB.out)) HC1.out EQ.out).mono ?_; rintro e w' ⟨rfl, ⟨nd, rfl⟩⟩)))
          go_ret2
          exact ⟨rfl, bB⟩
        have cb : (pe != 0) = false := by simp at c; simp [c]
        have cc : (pe == 0) = true := by simp at c; simp [c]
        by_cases d : pt ≠ a0
        · rw [if_pos (Or.inr (Or.inl d))] at h_
          simp only [Option.some.injEq, Prod.mk.injEq] at h_
          obtain ⟨rfl, rfl⟩ := h_
          have db : (pt != a0) = true := bne_iff_ne.mpr d
          have dc : (pt == a0) = false := beq_eq_false_iff_ne.mpr d
          clear c d
          go_wp2_with (first | (go_at_call 82; (with_reducible refine (texts_day.calls _ _ _ _ _ (day_some _ _ _)).mono ?_); rintro e w' ⟨rfl, ⟨nd, rfl⟩⟩; (try first | exact ⟨rfl, _, World.drewN_drewN _ _ _⟩ | exact ⟨rfl, _, Eq.trans (World.drewN_drewN _ _ _) (congrArg (World.drewN _) (Nat.add_assoc _ _ _))⟩)) | ((with_reducible refine gC 83 rfl ?_); refine goL (some 127) Tryd.func83 #[.int .i64 (wrap64 (wrap64 (dayN (wrap64 (wrap64 (100 * f0) + f1)) f2 f3 * 86400) + wrap64 (wrap64 (wrap64 (3600 * f4) + wrap64 (60 * f5)) + f6)))] ?_; rw [HS.out]; refine (texts_PutTime.calls k sec pt pa pe _ PT.out).mono ?_; rintro e w' ⟨v1, rfl, ho0, hb⟩; refine ⟨_, rfl, ?_⟩; have HO := aZ (Kd.Q_lower ho0 (below_size bB)); replace HB := aZ (below_step bB hb); clear hb ho0; obtain ⟨Ao, co, eo, -⟩ := Kd.Q_slice HO.out; subst eo) | ((with_reducible refine gC 48 rfl ?_); refine goL (some 141) Tryd.func48 #[.slice Ao pa.length co, .slice A1 l1.length c1] ?_; refine (bytes_Equal.calls _ _ pa _ _ l1 _ _ (by exact kC (Kd.Q_reads' HO.out).2.2) (Kd.Q_reads' HO.out).2.1 (by exact kC (Kd.C_below HR1.out HB.out)) HC1.out EQ.out).mono ?_; rintro e w' ⟨rfl, ⟨nd, rfl⟩⟩; refine ⟨_, rfl, ?_⟩) | (go_at_call 48; refine (bytes_Equal.calls _ _ pa _ _ l1 _ _ (by exact kC (Kd.Q_reads' HO.out).2.2) (Kd.Q_reads' HO.out).2.1 (by exact kC (Kd.C_below HR1.out HB.out)) HC1.out EQ.out).mono ?_; rintro e w' ⟨rfl, ⟨nd, rfl⟩⟩))
          repeat (go_quiet ((go_at_call 82; (with_reducible refine (texts_day.calls _ _ _ _ _ (day_some _ _ _)).mono ?_); rintro e w' ⟨rfl, ⟨nd, rfl⟩⟩; (try first | exact ⟨rfl, _, World.drewN_drewN _ _ _⟩ | exact ⟨rfl, _, Eq.trans (World.drewN_drewN _ _ _) (congrArg (World.drewN _) (Nat.add_assoc _ _ _))⟩))); try go_wp2_with (first | (go_at_call 82; (with_reducible refine (texts_day.calls _ _ _ _ _ (day_some _ _ _)).mono ?_); rintro e w' ⟨rfl, ⟨nd, rfl⟩⟩; (try first | exact ⟨rfl, _, World.drewN_drewN _ _ _⟩ | exact ⟨rfl, _, Eq.trans (World.drewN_drewN _ _ _) (congrArg (World.drewN _) (Nat.add_assoc _ _ _))⟩)) | ((with_reducible refine gC 83 rfl ?_); refine goL (some 127) Tryd.func83 #[.int .i64 (wrap64 (wrap64 (dayN (wrap64 (wrap64 (100 * f0) + f1)) f2 f3 * 86400) + wrap64 (wrap64 (wrap64 (3600 * f4) + wrap64 (60 * f5)) + f6)))] ?_; rw [HS.out]; refine (texts_PutTime.calls k sec pt pa pe _ PT.out).mono ?_; rintro e w' ⟨v1, rfl, ho0, hb⟩; refine ⟨_, rfl, ?_⟩; have HO := aZ (Kd.Q_lower ho0 (below_size bB)); replace HB := aZ (below_step bB hb); clear hb ho0; obtain ⟨Ao, co, eo, -⟩ := Kd.Q_slice HO.out; subst eo) | ((with_reducible refine gC 48 rfl ?_); refine goL (some 141) Tryd.func48 #[.slice Ao pa.length co, .slice A1 l1.length c1] ?_; refine (bytes_Equal.calls _ _ pa _ _ l1 _ _ (by exact kC (Kd.Q_reads' HO.out).2.2) (Kd.Q_reads' HO.out).2.1 (by exact kC (Kd.C_below HR1.out HB.out)) HC1.out EQ.out).mono ?_; rintro e w' ⟨rfl, ⟨nd, rfl⟩⟩; refine ⟨_, rfl, ?_⟩) | (go_at_call 48; refine (bytes_Equal.calls _ _ pa _ _ l1 _ _ (by exact kC (Kd.Q_reads' HO.out).2.2) (Kd.Q_reads' HO.out).2.1 (by exact kC (Kd.C_below HR1.out HB.out)) HC1.out EQ.out).mono ?_; rintro e w' ⟨rfl, ⟨nd, rfl⟩⟩)))
          go_ret2
          exact ⟨rfl, bB⟩
        have db : (pt != a0) = false := by simp at d; simp [d]
        have dc : (pt == a0) = true := by simp at d; simp [d]
        cases eq with
        | false =>
          rw [if_pos (Or.inr (Or.inr rfl))] at h_
          simp only [Option.some.injEq, Prod.mk.injEq] at h_
          obtain ⟨rfl, rfl⟩ := h_
          clear c d
          go_wp2_with (first | (go_at_call 82; (with_reducible refine (texts_day.calls _ _ _ _ _ (day_some _ _ _)).mono ?_); rintro e w' ⟨rfl, ⟨nd, rfl⟩⟩; (try first | exact ⟨rfl, _, World.drewN_drewN _ _ _⟩ | exact ⟨rfl, _, Eq.trans (World.drewN_drewN _ _ _) (congrArg (World.drewN _) (Nat.add_assoc _ _ _))⟩)) | ((with_reducible refine gC 83 rfl ?_); refine goL (some 127) Tryd.func83 #[.int .i64 (wrap64 (wrap64 (dayN (wrap64 (wrap64 (100 * f0) + f1)) f2 f3 * 86400) + wrap64 (wrap64 (wrap64 (3600 * f4) + wrap64 (60 * f5)) + f6)))] ?_; rw [HS.out]; refine (texts_PutTime.calls k sec pt pa pe _ PT.out).mono ?_; rintro e w' ⟨v1, rfl, ho0, hb⟩; refine ⟨_, rfl, ?_⟩; have HO := aZ (Kd.Q_lower ho0 (below_size bB)); replace HB := aZ (below_step bB hb); clear hb ho0; obtain ⟨Ao, co, eo, -⟩ := Kd.Q_slice HO.out; subst eo) | ((with_reducible refine gC 48 rfl ?_); refine goL (some 141) Tryd.func48 #[.slice Ao pa.length co, .slice A1 l1.length c1] ?_; refine (bytes_Equal.calls _ _ pa _ _ l1 _ _ (by exact kC (Kd.Q_reads' HO.out).2.2) (Kd.Q_reads' HO.out).2.1 (by exact kC (Kd.C_below HR1.out HB.out)) HC1.out EQ.out).mono ?_; rintro e w' ⟨rfl, ⟨nd, rfl⟩⟩; refine ⟨_, rfl, ?_⟩) | (go_at_call 48; refine (bytes_Equal.calls _ _ pa _ _ l1 _ _ (by exact kC (Kd.Q_reads' HO.out).2.2) (Kd.Q_reads' HO.out).2.1 (by exact kC (Kd.C_below HR1.out HB.out)) HC1.out EQ.out).mono ?_; rintro e w' ⟨rfl, ⟨nd, rfl⟩⟩))
          repeat (go_quiet ((go_at_call 82; (with_reducible refine (texts_day.calls _ _ _ _ _ (day_some _ _ _)).mono ?_); rintro e w' ⟨rfl, ⟨nd, rfl⟩⟩; (try first | exact ⟨rfl, _, World.drewN_drewN _ _ _⟩ | exact ⟨rfl, _, Eq.trans (World.drewN_drewN _ _ _) (congrArg (World.drewN _) (Nat.add_assoc _ _ _))⟩))); try go_wp2_with (first | (go_at_call 82; (with_reducible refine (texts_day.calls _ _ _ _ _ (day_some _ _ _)).mono ?_); rintro e w' ⟨rfl, ⟨nd, rfl⟩⟩; (try first | exact ⟨rfl, _, World.drewN_drewN _ _ _⟩ | exact ⟨rfl, _, Eq.trans (World.drewN_drewN _ _ _) (congrArg (World.drewN _) (Nat.add_assoc _ _ _))⟩)) | ((with_reducible refine gC 83 rfl ?_); refine goL (some 127) Tryd.func83 #[.int .i64 (wrap64 (wrap64 (dayN (wrap64 (wrap64 (100 * f0) + f1)) f2 f3 * 86400) + wrap64 (wrap64 (wrap64 (3600 * f4) + wrap64 (60 * f5)) + f6)))] ?_; rw [HS.out]; refine (texts_PutTime.calls k sec pt pa pe _ PT.out).mono ?_; rintro e w' ⟨v1, rfl, ho0, hb⟩; refine ⟨_, rfl, ?_⟩; have HO := aZ (Kd.Q_lower ho0 (below_size bB)); replace HB := aZ (below_step bB hb); clear hb ho0; obtain ⟨Ao, co, eo, -⟩ := Kd.Q_slice HO.out; subst eo) | ((with_reducible refine gC 48 rfl ?_); refine goL (some 141) Tryd.func48 #[.slice Ao pa.length co, .slice A1 l1.length c1] ?_; refine (bytes_Equal.calls _ _ pa _ _ l1 _ _ (by exact kC (Kd.Q_reads' HO.out).2.2) (Kd.Q_reads' HO.out).2.1 (by exact kC (Kd.C_below HR1.out HB.out)) HC1.out EQ.out).mono ?_; rintro e w' ⟨rfl, ⟨nd, rfl⟩⟩; refine ⟨_, rfl, ?_⟩) | (go_at_call 48; refine (bytes_Equal.calls _ _ pa _ _ l1 _ _ (by exact kC (Kd.Q_reads' HO.out).2.2) (Kd.Q_reads' HO.out).2.1 (by exact kC (Kd.C_below HR1.out HB.out)) HC1.out EQ.out).mono ?_; rintro e w' ⟨rfl, ⟨nd, rfl⟩⟩)))
          go_ret2
          exact ⟨rfl, bB⟩
        | true =>
          rw [if_neg (fun x => by rcases x with x | x | x; exact c x; exact d x; cases x)] at h_
          simp only [Option.some.injEq, Prod.mk.injEq] at h_
          obtain ⟨rfl, rfl⟩ := h_
          clear c d
          go_wp2_with (first | (go_at_call 82; (with_reducible refine (texts_day.calls _ _ _ _ _ (day_some _ _ _)).mono ?_); rintro e w' ⟨rfl, ⟨nd, rfl⟩⟩; (try first | exact ⟨rfl, _, World.drewN_drewN _ _ _⟩ | exact ⟨rfl, _, Eq.trans (World.drewN_drewN _ _ _) (congrArg (World.drewN _) (Nat.add_assoc _ _ _))⟩)) | ((with_reducible refine gC 83 rfl ?_); refine goL (some 127) Tryd.func83 #[.int .i64 (wrap64 (wrap64 (dayN (wrap64 (wrap64 (100 * f0) + f1)) f2 f3 * 86400) + wrap64 (wrap64 (wrap64 (3600 * f4) + wrap64 (60 * f5)) + f6)))] ?_; rw [HS.out]; refine (texts_PutTime.calls k sec pt pa pe _ PT.out).mono ?_; rintro e w' ⟨v1, rfl, ho0, hb⟩; refine ⟨_, rfl, ?_⟩; have HO := aZ (Kd.Q_lower ho0 (below_size bB)); replace HB := aZ (below_step bB hb); clear hb ho0; obtain ⟨Ao, co, eo, -⟩ := Kd.Q_slice HO.out; subst eo) | ((with_reducible refine gC 48 rfl ?_); refine goL (some 141) Tryd.func48 #[.slice Ao pa.length co, .slice A1 l1.length c1] ?_; refine (bytes_Equal.calls _ _ pa _ _ l1 _ _ (by exact kC (Kd.Q_reads' HO.out).2.2) (Kd.Q_reads' HO.out).2.1 (by exact kC (Kd.C_below HR1.out HB.out)) HC1.out EQ.out).mono ?_; rintro e w' ⟨rfl, ⟨nd, rfl⟩⟩; refine ⟨_, rfl, ?_⟩) | (go_at_call 48; refine (bytes_Equal.calls _ _ pa _ _ l1 _ _ (by exact kC (Kd.Q_reads' HO.out).2.2) (Kd.Q_reads' HO.out).2.1 (by exact kC (Kd.C_below HR1.out HB.out)) HC1.out EQ.out).mono ?_; rintro e w' ⟨rfl, ⟨nd, rfl⟩⟩))
          repeat (go_quiet ((go_at_call 82; (with_reducible refine (texts_day.calls _ _ _ _ _ (day_some _ _ _)).mono ?_); rintro e w' ⟨rfl, ⟨nd, rfl⟩⟩; (try first | exact ⟨rfl, _, World.drewN_drewN _ _ _⟩ | exact ⟨rfl, _, Eq.trans (World.drewN_drewN _ _ _) (congrArg (World.drewN _) (Nat.add_assoc _ _ _))⟩))); try go_wp2_with (first | (go_at_call 82; (with_reducible refine (texts_day.calls _ _ _ _ _ (day_some _ _ _)).mono ?_); rintro e w' ⟨rfl, ⟨nd, rfl⟩⟩; (try first | exact ⟨rfl, _, World.drewN_drewN _ _ _⟩ | exact ⟨rfl, _, Eq.trans (World.drewN_drewN _ _ _) (congrArg (World.drewN _) (Nat.add_assoc _ _ _))⟩)) | ((with_reducible refine gC 83 rfl ?_); refine goL (some 127) Tryd.func83 #[.int .i64 (wrap64 (wrap64 (dayN (wrap64 (wrap64 (100 * f0) + f1)) f2 f3 * 86400) + wrap64 (wrap64 (wrap64 (3600 * f4) + wrap64 (60 * f5)) + f6)))] ?_; rw [HS.out]; refine (texts_PutTime.calls k sec pt pa pe _ PT.out).mono ?_; rintro e w' ⟨v1, rfl, ho0, hb⟩; refine ⟨_, rfl, ?_⟩; have HO := aZ (Kd.Q_lower ho0 (below_size bB)); replace HB := aZ (below_step bB hb); clear hb ho0; obtain ⟨Ao, co, eo, -⟩ := Kd.Q_slice HO.out; subst eo) | ((with_reducible refine gC 48 rfl ?_); refine goL (some 141) Tryd.func48 #[.slice Ao pa.length co, .slice A1 l1.length c1] ?_; refine (bytes_Equal.calls _ _ pa _ _ l1 _ _ (by exact kC (Kd.Q_reads' HO.out).2.2) (Kd.Q_reads' HO.out).2.1 (by exact kC (Kd.C_below HR1.out HB.out)) HC1.out EQ.out).mono ?_; rintro e w' ⟨rfl, ⟨nd, rfl⟩⟩; refine ⟨_, rfl, ?_⟩) | (go_at_call 48; refine (bytes_Equal.calls _ _ pa _ _ l1 _ _ (by exact kC (Kd.Q_reads' HO.out).2.2) (Kd.Q_reads' HO.out).2.1 (by exact kC (Kd.C_below HR1.out HB.out)) HC1.out EQ.out).mono ?_; rintro e w' ⟨rfl, ⟨nd, rfl⟩⟩)))
          go_ret2
          exact ⟨by first | rfl | (rw [← HS.out]) | simp, bB⟩
end Go.Proofs.YtkceebgncfggjaaDoor.PQ

