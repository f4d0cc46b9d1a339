/- NodesSets: words, printed functions and plain laws that the claim uses, laid by a program of this session's. No condition beside those in each theorem's own line. -/
import Derived.Test.YtkceebgncfggjaaDoorZS17
import Derived.Test.YtkceebgncfggjaaDoorZS20
import Derived.Test.YtkceebgncfggjaaDoorZS22
import Derived.Test.YtkceebgncfggjaaDoorZS27
set_option linter.unusedVariables false
set_option linter.unusedSimpArgs false
namespace Go.Proofs.YtkceebgncfggjaaDoorQ
open Go.RowKit Go.Proofs.YtkceebgncfggjaaDoorW.PrintWords Go.Proofs.YtkceebgncfggjaaDoorW.PrintLast Go.Proofs.YtkceebgncfggjaaDoorW.PrintMore Go.Proofs.YtkceebgncfggjaaDoorX Go.Proofs.YtkceebgncfggjaaDoor.PQ
theorem must_true {β : Type} (e p : Int) (f : Unit → Option (XR β)) : bindX (nodes_must.f true e p) f = f () := rfl
theorem must_false {β : Type} (e p : Int) (f : Unit → Option (XR β)) : bindX (nodes_must.f false e p) f = some (.error (e, p)) := rfl
theorem Ev_bindX {α β : Type} {g : Nat → Option (XR α)} {f : Nat → α → Option (XR β)} {a : α} {r : XR β} (h : Ev g (.ok a)) (k : Ev (fun n => f n a) r) : Ev (fun n => bindX (g n) (f n)) r := by
  obtain ⟨K, hK⟩ := h
  obtain ⟨M, hM⟩ := k
  refine ⟨max K M, fun n hn => ?_⟩
  have h1 := hK n (by omega)
  have h2 := hM n (by omega)
  show bindX (g n) (f n) = some r
  rw [h1]
  exact h2
theorem Ev_bindE {α β : Type} {g : Nat → Option (XR α)} {f : Nat → α → Option (XR β)} {e : Int × Int} (h : Ev g (.error e)) : Ev (fun n => bindX (g n) (f n)) (.error e) := by
  obtain ⟨K, hK⟩ := h
  refine ⟨K, fun n hn => ?_⟩
  show bindX (g n) (f n) = _
  rw [hK n hn]
  rfl
theorem index_ev (l : List Int) (t : Int) (hl : l.length < 4611686018427387904) (d : Nat) : ∀ i : Nat, i + d = l.length →
    ∃ r : Int, Ev (fun k => slices_Index_byte_byte.l0 k l t (l.length : Int) (i : Int)) r ∧ decide (r ≥ 0) = (l.drop i).contains t := by
  induction d with
  | zero =>
    intro i hi
    refine ⟨-1, Ev.step (f := fun _ => some (-1)) (fun k => ?_) (Ev.now _), ?_⟩
    · simp only [slices_Index_byte_byte.l0]
      rw [if_neg (by omega)]
    · rw [List.drop_of_length_le (by omega)]; rfl
  | succ d ih =>
    intro i hi
    have hlt : i < l.length := by omega
    obtain ⟨r, hr, he⟩ := ih (i + 1) (by omega)
    have e3 : wrap64 ((i : Int) + 1) = ((i + 1 : Nat) : Int) := by rw [w64 (by omega) (by omega)]; omega
    rw [drop_getD hlt, List.contains_cons]
    by_cases h : t = l.getD i 0
    · refine ⟨(i : Int), Ev.step (f := fun _ => some (i : Int)) (fun k => ?_) (Ev.now _), ?_⟩
      · simp only [slices_Index_byte_byte.l0]
        rw [if_pos (by omega), if_pos (by omega), if_pos (by omega), rd_nat, if_pos h]
      · rw [← h, beq_self_eq_true, Bool.true_or]; exact decide_eq_true (by omega)
    · refine ⟨r, Ev.step (fun k => ?_) hr, ?_⟩
      · simp only [slices_Index_byte_byte.l0]
        rw [if_pos (by omega), if_pos (by omega), if_pos (by omega), rd_nat, if_neg h, e3]
      · rw [he, beq_eq_false_iff_ne.mpr h, Bool.false_or]
theorem tagged_ev (t p : Int) : Ev (fun k => nodes_tagged.f k t p) (if tg t = 0 then .ok () else .error (tg t, p)) := by
  unfold tg
  by_cases h1 : Go.bits .and .u8 t 31 = 31
  · rw [if_pos h1, if_neg (by decide)]
    refine Ev.congr (f := fun _ => some (.error (11, p))) (fun k => ?_) (Ev.now _)
    unfold nodes_tagged.f
    rw [show (Go.bits .and .u8 t 31 != 31) = false by rw [h1]; rfl, must_false]
  · rw [if_neg h1]
    have e1 : (Go.bits .and .u8 t 31 != 31) = true := bne_iff_ne.mpr h1
    by_cases h2 : 64 ≤ t
    · rw [if_pos h2, if_pos rfl]
      refine Ev.congr (f := fun _ => some (.ok ())) (fun k => ?_) (Ev.now _)
      unfold nodes_tagged.f
      rw [e1, must_true, if_pos h2, must_true]
    · rw [if_neg h2]
      obtain ⟨r, hr, he⟩ := index_ev [1, 2, 3, 4, 5, 6, 12, 19, 22, 23, 24, 27, 48, 49] t (by decide) 14 0 rfl
      rw [List.drop_zero] at he
      have hr' : Ev (fun k => slices_Index_byte_byte.f k [1, 2, 3, 4, 5, 6, 12, 19, 22, 23, 24, 27, 48, 49] t) r := hr
      have hc : Ev (fun k => slices_Contains_byte_byte.f k [1, 2, 3, 4, 5, 6, 12, 19, 22, 23, 24, 27, 48, 49] t) (decide (r ≥ 0)) :=
        Ev.congr (fun k => by unfold slices_Contains_byte_byte.f; rfl) (Ev.bind hr' (Ev.now _))
      rw [he] at hc
      refine Ev.congr (f := fun k => (slices_Contains_byte_byte.f k [1, 2, 3, 4, 5, 6, 12, 19, 22, 23, 24, 27, 48, 49] t).bind fun b => bindX (nodes_must.f b 43 p) fun _ => some (.ok ())) (fun k => ?_) (Ev.bind hc ?_)
      · unfold nodes_tagged.f
        rw [e1, must_true, if_neg h2]
      · cases hb : ([1, 2, 3, 4, 5, 6, 12, 19, 22, 23, 24, 27, 48, 49] : List Int).contains t with
        | true => rw [if_pos rfl, if_pos rfl]; exact Ev.now _
        | false => rw [if_neg Bool.false_ne_true, if_neg (by decide)]; exact Ev.now _
theorem bytes_succ (c : UInt8) (z : List UInt8) (i : Nat) : (⟨(c :: z).toArray⟩ : ByteArray)[i + 1]! = (⟨z.toArray⟩ : ByteArray)[i]! := by
  have e1 : ∀ (l : List UInt8) (j : Nat), (⟨l.toArray⟩ : ByteArray)[j]! = l.getD j default := by
    intro l j
    rw [getElem!_def, getElem?_def]
    by_cases h : j < l.length
    · rw [dif_pos (show j < ByteArray.size ⟨l.toArray⟩ from h), List.getD_eq_getElem?_getD, List.getElem?_eq_getElem h]; rfl
    · rw [dif_neg (show ¬ j < ByteArray.size ⟨l.toArray⟩ from h), List.getD_eq_getElem?_getD, List.getElem?_eq_none (Nat.le_of_not_lt h)]; rfl
  rw [e1, e1]; rfl
theorem cmp_less : ∀ x y : List UInt8, decide (Extern.BytealgCompare.cmp ⟨x.toArray⟩ ⟨y.toArray⟩ < 0) = Op.bytesLess x y
  | [], [] => rfl
  | [], b :: y => by
    unfold Extern.BytealgCompare.cmp
    rw [show min (ByteArray.size ⟨([] : List UInt8).toArray⟩) (ByteArray.size ⟨(b :: y).toArray⟩) = 0 from Nat.zero_min _, List.range_zero, List.find?_nil]
    dsimp only
    rw [if_pos (show ByteArray.size ⟨([] : List UInt8).toArray⟩ < ByteArray.size ⟨(b :: y).toArray⟩ from Nat.succ_pos _)]
    rfl
  | a :: x, [] => by
    unfold Extern.BytealgCompare.cmp
    rw [show min (ByteArray.size ⟨(a :: x).toArray⟩) (ByteArray.size ⟨([] : List UInt8).toArray⟩) = 0 from Nat.min_zero _, List.range_zero, List.find?_nil]
    dsimp only
    rw [if_neg (show ¬ ByteArray.size ⟨(a :: x).toArray⟩ < ByteArray.size ⟨([] : List UInt8).toArray⟩ from Nat.not_lt_zero _), if_pos (show ByteArray.size ⟨(a :: x).toArray⟩ > ByteArray.size ⟨([] : List UInt8).toArray⟩ from Nat.succ_pos _)]
    rfl
  | a :: x, b :: y => by
    have ih := cmp_less x y
    unfold Extern.BytealgCompare.cmp at ih ⊢
    have g0 : ∀ (c : UInt8) (z : List UInt8), (⟨(c :: z).toArray⟩ : ByteArray)[0]! = c := fun c z => rfl
    have gs := bytes_succ
    have hs : ∀ (c : UInt8) (z : List UInt8), ByteArray.size ⟨(c :: z).toArray⟩ = ByteArray.size ⟨z.toArray⟩ + 1 := fun c z => rfl
    rw [hs, hs, Nat.succ_min_succ, List.range_succ_eq_map, List.find?_cons]
    rw [g0, g0, Op.bytesLess]
    by_cases h : a = b
    · subst h
      have hn : ¬ a < a := fun hh => by have := UInt8.lt_iff_toNat_lt.1 hh; omega
      rw [bne_self_eq_false]
      dsimp only
      rw [List.find?_map, beq_self_eq_true, decide_eq_false hn, Bool.false_or, Bool.true_and, ← ih]
      have hf : ((fun i => (⟨(a :: x).toArray⟩ : ByteArray)[i]! != (⟨(a :: y).toArray⟩ : ByteArray)[i]!) ∘ Nat.succ) = fun i => (⟨x.toArray⟩ : ByteArray)[i]! != (⟨y.toArray⟩ : ByteArray)[i]! := by
        funext i
        show ((⟨(a :: x).toArray⟩ : ByteArray)[i + 1]! != (⟨(a :: y).toArray⟩ : ByteArray)[i + 1]!) = _
        rw [gs, gs]
      rw [hf]
      cases (List.range (min (ByteArray.size ⟨x.toArray⟩) (ByteArray.size ⟨y.toArray⟩))).find? fun i => (⟨x.toArray⟩ : ByteArray)[i]! != (⟨y.toArray⟩ : ByteArray)[i]! with
      | none =>
        simp only [Option.map_none, Nat.succ_lt_succ_iff, gt_iff_lt, Nat.add_lt_add_iff_right]
      | some i =>
        simp only [Option.map_some, Nat.succ_eq_add_one, gs]
    · rw [show (a != b) = true from bne_iff_ne.mpr h]
      dsimp only
      simp only [g0]
      rw [beq_eq_false_iff_ne.mpr h, Bool.false_and, Bool.or_false]
      by_cases h3 : a < b
      · rw [if_pos h3, decide_eq_true h3]; rfl
      · rw [if_neg h3, decide_eq_false h3]; rfl
theorem compare_eq (a b : List Int) : ∃ c, bytes_Compare.f a b = some c ∧ decide (c < 0) = bl a b := by
  refine ⟨_, rfl, ?_⟩
  have h := cmp_less (Lib.bytesOf a) (Lib.bytesOf b)
  unfold bl
  rw [Lib.strOfNums_toList, Lib.strOfNums_toList]
  exact h
theorem srt_at : ∀ (l : List (List Int)), srt l = true ↔ ∀ j, 1 ≤ j → j < l.length → bl (l.getD j []) (l.getD (j - 1) []) = false
  | [] => ⟨fun _ j h1 h2 => absurd h2 (Nat.not_lt_zero _), fun _ => rfl⟩
  | [a] => ⟨fun _ j h1 h2 => by simp only [List.length_cons, List.length_nil] at h2; omega, fun _ => rfl⟩
  | a :: b :: l => by
    have ih := srt_at (b :: l)
    rw [srt, Bool.and_eq_true, ih]
    constructor
    · rintro ⟨h1, h2⟩ j hj hl
      by_cases e : j = 1
      · subst e; simpa using h1
      · obtain ⟨i, rfl⟩ : ∃ i, j = i + 2 := ⟨j - 2, by omega⟩
        have := h2 (i + 1) (by omega) (by simp only [List.length_cons] at hl ⊢; omega)
        exact this
    · intro h
      refine ⟨?_, fun j hj hl => ?_⟩
      · have := h 1 (Nat.le_refl _) (by simp only [List.length_cons]; omega)
        simpa using this
      · obtain ⟨i, rfl⟩ : ∃ i, j = i + 1 := ⟨j - 1, by omega⟩
        have := h (i + 2) (by omega) (by simp only [List.length_cons] at hl ⊢; omega)
        exact this
theorem rdL2_nat (xs : List (List Int)) (i : Nat) : rd_L2 xs (i : Int) = xs.getD i [] := by unfold rd_L2; rw [Int.toNat_natCast]
theorem sorted_ev (l : List (List Int)) (hl : l.length < 4611686018427387904) : Ev (fun k => slices_IsSortedFunc_byte_byte.f k l) (srt l) := by
  have key : ∀ i : Nat, i < l.length → (∀ j, i < j → j < l.length → bl (l.getD j []) (l.getD (j - 1) []) = false) → Ev (fun k => slices_IsSortedFunc_byte_byte.l0 k l (i : Int)) (srt l) := by
    intro i
    induction i with
    | zero =>
      intro _ h
      have e : srt l = true := (srt_at l).2 fun j h1 h2 => h j h1 h2
      rw [e]
      refine Ev.step (f := fun _ => some true) (fun k => ?_) (Ev.now _)
      simp only [slices_IsSortedFunc_byte_byte.l0]
      rw [if_neg (by omega)]
    | succ i ih =>
      intro hi h
      have e1 : wrap64 (((i + 1 : Nat) : Int) - 1) = (i : Int) := by rw [w64 (by omega) (by omega)]; omega
      obtain ⟨c, hc, he⟩ := compare_eq (l.getD (i + 1) []) (l.getD i [])
      cases hb : bl (l.getD (i + 1) []) (l.getD i []) with
      | true =>
        have e : srt l = false := by
          rw [← Bool.not_eq_true, srt_at]
          intro h2
          have := h2 (i + 1) (by omega) hi
          rw [Nat.add_sub_cancel, hb] at this
          cases this
        rw [e]
        refine Ev.step (f := fun _ => some false) (fun k => ?_) (Ev.now _)
        simp only [slices_IsSortedFunc_byte_byte.l0]
        rw [if_pos (by omega), if_pos (by omega), if_pos (by omega), e1, if_pos (by omega), if_pos (by omega), rdL2_nat, rdL2_nat, hc, Option.bind_some, if_pos (of_decide_eq_true (he.trans hb))]
      | false =>
        have h2 := ih (by omega) (fun j h1 h2 => by
          by_cases e : j = i + 1
          · subst e; rw [Nat.add_sub_cancel]; exact hb
          · exact h j (by omega) h2)
        refine Ev.step (fun k => ?_) h2
        simp only [slices_IsSortedFunc_byte_byte.l0]
        rw [if_pos (by omega), if_pos (by omega), if_pos (by omega), e1, if_pos (by omega), if_pos (by omega), rdL2_nat, rdL2_nat, hc, Option.bind_some, if_neg (of_decide_eq_false (he.trans hb))]
  by_cases h0 : l.length = 0
  · obtain rfl := List.length_eq_zero_iff.1 h0
    refine Ev.step (f := fun _ => some true) (fun k => ?_) (Ev.now _)
    simp only [slices_IsSortedFunc_byte_byte.f, slices_IsSortedFunc_byte_byte.l0]
    rw [if_neg (by show ¬ wrap64 (-1) > 0; unfold wrap64; decide)]
  · have e1 : wrap64 ((l.length : Int) - 1) = ((l.length - 1 : Nat) : Int) := by rw [w64 (by omega) (by omega)]; omega
    refine Ev.congr (fun k => ?_) (key (l.length - 1) (by omega) (fun j h1 h2 => by omega))
    unfold slices_IsSortedFunc_byte_byte.f
    rw [e1]
theorem rise_ev (t p : Int) (l : List (List Int)) (hl : l.length < 4611686018427387904) : Ev (fun k => nodes_rise.f k t l p) (if t = 49 ∧ srt l = false then .error (42, p) else .ok ()) := by
  by_cases ht : t = 49
  · refine Ev.congr (f := fun k => (slices_IsSortedFunc_byte_byte.f k l).bind fun b => bindX (nodes_must.f b 42 p) fun _ => some (.ok ())) (fun k => ?_) (Ev.bind (sorted_ev l hl) ?_)
    · unfold nodes_rise.f; rw [if_pos ht]
    · cases srt l with
      | true => rw [if_neg (by simp)]; exact Ev.now _
      | false => rw [if_pos ⟨ht, rfl⟩]; exact Ev.now _
  · rw [if_neg (fun h => ht h.1)]
    refine Ev.congr (f := fun k => some (.ok ())) (fun k => ?_) (Ev.now _)
    unfold nodes_rise.f
    rw [if_neg ht, must_true]
theorem put_eq {t : Int} {l : List Int} (ht : ¬ Go.bits .and .u8 t 31 = 31) : tlv_Put.f t l = some (match put t l with | .error e => ([], e) | .ok a => (a, 0)) := by
  unfold tlv_Put.f put
  rw [Option.bind_some, if_neg ht]
  by_cases h1 : l.length > 65535
  · rw [if_pos (by omega), if_pos h1]
  rw [if_neg (by omega), if_neg h1]
  dsimp only
  unfold putHd
  by_cases h2 : l.length > 255
  · rw [if_pos (by omega), Option.bind_some, if_pos (by simp only [List.length_cons, List.length_nil]; omega), if_pos h2]
    have e1 : (l.length : Int) / 256 % 256 = ((l.length / 256 : Nat) : Int) := by omega
    have e2 : (l.length : Int) % 256 = ((l.length % 256 : Nat) : Int) := by omega
    rw [e1, e2]
  rw [if_neg (by omega), if_neg h2]
  have e2 : (l.length : Int) % 256 = (l.length : Int) := by omega
  by_cases h3 : l.length > 127
  · rw [if_pos (by omega), Option.bind_some, if_pos (by simp only [List.length_cons, List.length_nil]; omega), if_pos h3, e2]
  · rw [if_neg (by omega), if_pos (by simp only [List.length_cons, List.length_nil]; omega), if_neg h3, e2]
end Go.Proofs.YtkceebgncfggjaaDoorQ

