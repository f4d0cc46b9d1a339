
/- Objects' bodies: what the printed functions PutOID (the program's and the reference's) answer, in plain mathematics. No condition beside those in each theorem's own line. -/
import Derived.Test.YtkceebgncfggjaaDoorPAx2
import Derived.Test.YtkceebgncfggjaaDoorPAx3
import Derived.Test.YtkceebgncfggjaaDoorPAx1
import Derived.Test.YtkceebgncfggjaaDoorPureNums
import Derived.Test.YtkceebgncfggjaaDoorPlainOids
set_option linter.unusedVariables false
set_option linter.unusedSimpArgs false
namespace Go.Proofs.YtkceebgncfggjaaDoorQ
open Go.RowKit Go.Proofs.YtkceebgncfggjaaDoorW.PrintWords Go.Proofs.YtkceebgncfggjaaDoorW.PrintLast Go.Proofs.YtkceebgncfggjaaDoorW.PrintMore Go.Proofs.YtkceebgncfggjaaDoor.PA

/-! ### An arc's digits, the program's -/
def shift (n : Int) : Int := if n < 128 then 0 else if n < 16384 then 7 else if n < 2097152 then 14 else 21
theorem shift_of {n t : Int} (h : (n < 128 → t ≤ 7) ∧ (128 ≤ n → n < 16384 → 8 ≤ t ∧ t ≤ 14) ∧ (16384 ≤ n → n < 2097152 → 15 ≤ t ∧ t ≤ 21) ∧ (2097152 ≤ n → 22 ≤ t ∧ t ≤ 28)) (h0 : 0 ≤ t) :
    wrap64 (wrap64 (mx (wrap64 (t - 1)) 0 / 7) * 7) = shift n := by
  have hb : t ≤ 28 := by omega
  have e1 : wrap64 (t - 1) = t - 1 := w64 (by omega) (by omega)
  rw [e1]
  have e2 : 0 ≤ mx (t - 1) 0 ∧ mx (t - 1) 0 ≤ 27 ∧ (1 ≤ t → mx (t - 1) 0 = t - 1) ∧ (t = 0 → mx (t - 1) 0 = 0) := by
    unfold mx; split <;> refine ⟨by omega, by omega, by omega, by omega⟩
  obtain ⟨a, b, c, d⟩ := e2
  rw [w64 (n := mx (t - 1) 0 / 7) (by omega) (by omega), w64 (by omega) (by omega)]
  unfold shift
  split
  · omega
  · split
    · omega
    · split <;> omega
theorem len_of {n : Int} (h0 : 0 ≤ n) (h : n ≤ 268435455) : ∃ t, (∀ k, bits_Len.f (k + 1) (IntKind.u64.wrap n) = some t) ∧ wrap64 (wrap64 (mx (wrap64 (t - 1)) 0 / 7) * 7) = shift n := by
  have hw : IntKind.u64.wrap n = n := by
    have : IntKind.u64.wrap n = n % 18446744073709551616 := by simp [IntKind.wrap, IntKind.bits, IntKind.signed]
    rw [this]; omega
  rw [hw]
  have hu : ∀ k, bits_Len.f (k + 1) n = (bits_Len64.j0 (0 + 1) n 0).bind fun t => some t := by
    intro k; unfold bits_Len.f bits_Len64.f; rw [if_neg (by omega)]; rfl
  suffices H : ∃ t, ((bits_Len64.j0 (0 + 1) n 0).bind fun t => some t) = some t ∧ wrap64 (wrap64 (mx (wrap64 (t - 1)) 0 / 7) * 7) = shift n by
    obtain ⟨t, h1, h2⟩ := H
    exact ⟨t, fun k => (hu k).trans h1, h2⟩
  rw [bits_Len64.j0]
  by_cases a : n ≥ 65536
  · rw [if_pos a]
    by_cases b : n / 65536 ≥ 256
    · have hi : n / 65536 / 256 % 256 = n / 16777216 := by omega
      have ht := T8_at (i := n / 16777216) (by omega) (by omega)
      rw [if_pos b, hi, if_pos (by omega), if_pos (by omega)]
      obtain ⟨q1, q2, q3, q4, q5, q6, q7⟩ := ht
      refine ⟨_, rfl, ?_⟩
      generalize bt T8 (n / 16777216) = t at *
      rw [w64 (n := t) (by omega) (by omega), w64 (n := (0 : Int) + 16) (by omega) (by omega), w64 (n := (0 : Int) + 16 + 8) (by omega) (by omega), w64 (n := 0 + 16 + 8 + t) (by omega) (by omega)]
      exact shift_of ⟨by omega, by omega, by omega, by omega⟩ (by omega)
    · have hi : n / 65536 % 256 = n / 65536 := by omega
      have ht := T8_at (i := n / 65536) (by omega) (by omega)
      rw [if_neg b, hi, if_pos (by omega), if_pos (by omega)]
      obtain ⟨q1, q2, q3, q4, q5, q6, q7⟩ := ht
      refine ⟨_, rfl, ?_⟩
      generalize bt T8 (n / 65536) = t at *
      rw [w64 (n := t) (by omega) (by omega), w64 (n := (0 : Int) + 16) (by omega) (by omega), w64 (n := 0 + 16 + t) (by omega) (by omega)]
      exact shift_of ⟨by omega, by omega, by omega, by omega⟩ (by omega)
  · rw [if_neg a]
    by_cases b : n ≥ 256
    · have hi : n / 256 % 256 = n / 256 := by omega
      have ht := T8_at (i := n / 256) (by omega) (by omega)
      rw [if_pos b, hi, if_pos (by omega), if_pos (by omega)]
      obtain ⟨q1, q2, q3, q4, q5, q6, q7⟩ := ht
      refine ⟨_, rfl, ?_⟩
      generalize bt T8 (n / 256) = t at *
      rw [w64 (n := t) (by omega) (by omega), w64 (n := (0 : Int) + 8) (by omega) (by omega), w64 (n := 0 + 8 + t) (by omega) (by omega)]
      exact shift_of ⟨by omega, by omega, by omega, by omega⟩ (by omega)
    · have hi : n % 256 = n := by omega
      have ht := T8_at (i := n) (by omega) (by omega)
      rw [if_neg b, hi, if_pos (by omega), if_pos (by omega)]
      obtain ⟨q1, q2, q3, q4, q5, q6, q7⟩ := ht
      refine ⟨_, rfl, ?_⟩
      generalize bt T8 n = t at *
      rw [w64 (n := t) (by omega) (by omega), w64 (n := 0 + t) (by omega) (by omega)]
      exact shift_of ⟨by omega, by omega, by omega, by omega⟩ (by omega)
theorem shr_at (n : Int) (s : Nat) (hs : s ≤ 64) : shr .i64 n (s : Int) = n / 2 ^ s := by
  unfold shr; rw [Int.toNat_natCast, Nat.min_eq_left (by exact hs)]
theorem arc0 (n : Int) (acc : List Int) (hl : acc.length < 1000) : Ev (fun k => ints_arc.l0 k n acc 0) (acc ++ [n % 128]) := by
  refine Ev.step (f := fun k => ints_arc.l0 k n (acc ++ [n % 128]) (-7)) (fun k => ?_) (Ev.step (f := fun _ => some (acc ++ [n % 128])) (fun k => ?_) (Ev.now _))
  · simp only [ints_arc.l0]
    rw [if_pos (by omega), if_pos (by omega), if_neg (by omega), if_pos (by omega), show shr .i64 n 0 = n from by have := shr_at n 0 (by omega); simpa using this,
      and127 (by omega) (by omega), show n % 256 % 128 = n % 128 by omega, w64 (n := 0 - 7) (by omega) (by omega)]
    rfl
  · simp only [ints_arc.l0]
    rw [if_neg (by omega)]
theorem arcs (n : Int) (s : Nat) (hs : 0 < s) (hs2 : s ≤ 21) (acc : List Int) (hl : acc.length < 1000) {r : List Int} (h : Ev (fun k => ints_arc.l0 k n (acc ++ [n / 2 ^ s % 128 + 128]) ((s : Int) - 7)) r) : Ev (fun k => ints_arc.l0 k n acc (s : Int)) r := by
  refine Ev.step (fun k => ?_) h
  simp only [ints_arc.l0]
  rw [if_pos (by omega), if_pos (by omega), if_pos (by omega), if_pos (by omega), shr_at n s (by omega), and127 (by omega) (by omega), or128 (by omega) (by omega),
    show n / 2 ^ s % 256 % 128 = n / 2 ^ s % 128 by omega, w64 (n := (s : Int) - 7) (by omega) (by omega)]
theorem prog_arc {n : Int} (h0 : 0 ≤ n) (h : n ≤ 268435455) : Ev (fun k => ints_arc.f k n) (dg n) := by
  obtain ⟨t, ht, hs⟩ := len_of h0 h
  refine Ev.bind (a := t) ⟨1, fun k hk => by obtain ⟨m, rfl⟩ : ∃ m, k = m + 1 := ⟨k - 1, by omega⟩; exact ht m⟩ ?_
  rw [hs]
  unfold shift dg
  by_cases a : n < 128
  · rw [if_pos a, if_pos a]
    have := arc0 n [] (by simp)
    rw [show n % 128 = n by omega] at this
    exact this
  · rw [if_neg a, if_neg a]
    by_cases b : n < 16384
    · rw [if_pos b, if_pos b]
      refine arcs n 7 (by omega) (by omega) [] (by simp) ?_
      have := arc0 n ([] ++ [n / 2 ^ 7 % 128 + 128]) (by simp)
      rw [show n / 2 ^ 7 % 128 = n / 128 by omega] at this ⊢
      exact this
    · rw [if_neg b, if_neg b]
      by_cases c : n < 2097152
      · rw [if_pos c, if_pos c]
        refine arcs n 14 (by omega) (by omega) [] (by simp) ?_
        refine arcs n 7 (by omega) (by omega) _ (by simp) ?_
        have := arc0 n ([] ++ [n / 2 ^ 14 % 128 + 128] ++ [n / 2 ^ 7 % 128 + 128]) (by simp)
        rw [show n / 2 ^ 14 % 128 = n / 16384 by omega, show n / 2 ^ 7 % 128 = n / 128 % 128 by omega] at this ⊢
        exact this
      · rw [if_neg c, if_neg c]
        refine arcs n 21 (by omega) (by omega) [] (by simp) ?_
        refine arcs n 14 (by omega) (by omega) _ (by simp) ?_
        refine arcs n 7 (by omega) (by omega) _ (by simp) ?_
        have := arc0 n ([] ++ [n / 2 ^ 21 % 128 + 128] ++ [n / 2 ^ 14 % 128 + 128] ++ [n / 2 ^ 7 % 128 + 128]) (by simp)
        rw [show n / 2 ^ 21 % 128 = n / 2097152 by omega, show n / 2 ^ 14 % 128 = n / 16384 % 128 by omega, show n / 2 ^ 7 % 128 = n / 128 % 128 by omega] at this ⊢
        exact this

/-! ### .. the reference's -/
theorem and127i {x : Int} (h0 : 0 ≤ x) (h1 : x < 9223372036854775808) : bits .and .i64 x 127 = x % 128 :=
  bits_mask .i64 63 (by decide) (fun n a b => by rw [IntKind.wrap_i64]; omega) 7 (by decide) x h0 (by omega)
/-! ### PutOID, the program's -/
/-- Any list's body, or the error. -/
def putOf (l : List Int) : List Int × Int := if IsObj l then (encO l, 0) else ([], 22)
theorem odd_of (n : Int) : ints_PutOID_1.f n = some (!decide (Arc n)) := by
  unfold ints_PutOID_1.f
  by_cases h : n < 0
  · rw [if_pos h, decide_eq_false (fun a => by have := a.1; omega)]; rfl
  · rw [if_neg h]
    by_cases h2 : n > 268435455
    · rw [decide_eq_true h2, decide_eq_false (fun a => by have := a.2; omega)]; rfl
    · rw [decide_eq_false h2, decide_eq_true ⟨by omega, by omega⟩]; rfl
theorem index_of (l : List Int) (hl : l.length < 1000) (d : Nat) : ∀ i : Nat, i + d = l.length →
    ∃ r, Ev (fun k => slices_IndexFunc_int_int.l0 k l l.length i) r ∧ (r ≥ 0 ↔ (l.drop i).any (fun x => !decide (Arc x)) = true) := by
  induction d with
  | zero =>
    intro i hi
    refine ⟨-1, Ev.step (f := fun _ => some (-1)) (fun k => ?_) (Ev.now _), ?_⟩
    · simp only [slices_IndexFunc_int_int.l0]; rw [if_neg (by omega)]
    · rw [List.drop_eq_nil_of_le (by omega)]; simp
  | succ d ih =>
    intro i hi
    have hlt : i < l.length := by omega
    obtain ⟨r, hr, hi2⟩ := ih (i + 1) (by omega)
    rw [drop_getD hlt]
    by_cases ha : Arc (l.getD i 0)
    · refine ⟨r, Ev.step (fun k => ?_) hr, ?_⟩
      · simp only [slices_IndexFunc_int_int.l0]
        rw [if_pos (by omega), if_pos (by omega), if_pos (by omega), rd_nat, odd_of, Option.bind_some, decide_eq_true ha, if_neg (by decide),
          show wrap64 ((i : Int) + 1) = ((i + 1 : Nat) : Int) by rw [w64 (by omega) (by omega)]; omega]
      · rw [hi2, List.any_cons, decide_eq_true ha]; simp
    · refine ⟨i, Ev.step (f := fun _ => some (i : Int)) (fun k => ?_) (Ev.now _), ?_⟩
      · simp only [slices_IndexFunc_int_int.l0]
        rw [if_pos (by omega), if_pos (by omega), if_pos (by omega), rd_nat, odd_of, Option.bind_some, decide_eq_false ha, if_pos (by decide)]
      · rw [List.any_cons, decide_eq_false ha]; simp
theorem contains_odd {l : List Int} (hl : l.length < 1000) : Ev (fun k => slices_ContainsFunc_int_int.f k l) (l.any (fun x => !decide (Arc x))) := by
  obtain ⟨r, hr, hi⟩ := index_of l hl l.length 0 (by omega)
  refine Ev.bind hr ?_
  rw [List.drop_zero] at hi
  have : decide (r ≥ 0) = l.any (fun x => !decide (Arc x)) := by rw [Bool.eq_iff_iff, decide_eq_true_iff]; exact hi
  rw [this]
  exact Ev.now _
theorem put_loop (r : List Int) (hr : ∀ x ∈ r, Arc x) (hl : r.length ≤ 16) (d : Nat) : ∀ (i : Nat) (acc : List Int), i + d = r.length → acc.length ≤ 4 + 4 * i →
    Ev (fun k => ints_PutOID.l0 k acc r r.length i) (acc ++ dgs (r.drop i), 0) := by
  induction d with
  | zero =>
    intro i acc hi _
    rw [List.drop_eq_nil_of_le (by omega)]
    refine Ev.step (f := fun _ => some (acc, 0)) (fun k => ?_) ?_
    · simp only [ints_PutOID.l0]; rw [if_neg (by omega)]
    · simp only [dgs, List.flatMap_nil, List.append_nil]; exact Ev.now _
  | succ d ih =>
    intro i acc hi hacc
    have hlt : i < r.length := by omega
    have hm : r.getD i 0 ∈ r := by rw [List.getD_eq_getElem?_getD, List.getElem?_eq_getElem hlt]; exact List.getElem_mem hlt
    have ha := hr _ hm
    have hg := dg_len (r.getD i 0)
    have := ih (i + 1) (acc ++ dg (r.getD i 0)) (by omega) (by rw [List.length_append]; omega)
    rw [drop_getD hlt, dgs_cons, ← List.append_assoc]
    refine Ev.step (f := fun k => (ints_arc.f k (r.getD i 0)).bind fun t => if acc.length + t.length < 140737488355328 then ints_PutOID.l0 k (acc ++ t) r r.length ((i + 1 : Nat) : Int) else none) (fun k => ?_) (Ev.bind (prog_arc ha.1 ha.2) (Ev_pos (by omega) this))
    simp only [ints_PutOID.l0]
    rw [if_pos (by omega), if_pos (by omega), if_pos (by omega), rd_nat, show wrap64 ((i : Int) + 1) = ((i + 1 : Nat) : Int) by rw [w64 (by omega) (by omega)]; omega]
theorem put_j0 {l : List Int} : Ev (fun k => ints_PutOID.j0 k l true) ([], 22) := by
  refine Ev.step (f := fun _ => some ([], 22)) (fun k => ?_) (Ev.now _)
  simp only [ints_PutOID.j0, if_true]
theorem put_j1 {l : List Int} : Ev (fun k => ints_PutOID.j1 k l true) ([], 22) := by
  refine Ev.step (f := fun _ => some ([], 22)) (fun k => ?_) (Ev.now _)
  simp only [ints_PutOID.j1, if_true]
theorem prog_put (l : List Int) : Ev (fun k => ints_PutOID.f k l) (putOf l) := by
  by_cases h2 : l.length < 2
  · rw [show putOf l = ([], 22) from if_neg fun h => by have := h.1; omega]
    refine Ev.congr (f := fun k => ints_PutOID.j0 k l true) (fun k => ?_) put_j0
    unfold ints_PutOID.f; rw [if_pos (by omega), decide_eq_true (by omega)]
  by_cases h16 : 16 < l.length
  · rw [show putOf l = ([], 22) from if_neg fun h => by have := h.2.1; omega]
    refine Ev.congr (f := fun k => ints_PutOID.j0 k l true) (fun k => ?_) put_j0
    unfold ints_PutOID.f; rw [if_neg (by omega), if_pos (by omega), decide_eq_true (by omega)]
  refine Ev.congr (f := fun k => (slices_ContainsFunc_int_int.f k l).bind fun t => ints_PutOID.j0 k l t) (fun k => ?_) (Ev.bind (contains_odd (by omega)) ?_)
  · unfold ints_PutOID.f; rw [if_neg (by omega), if_neg (by omega)]
  by_cases hall : ∀ x ∈ l, Arc x
  case neg =>
    have hodd : l.any (fun x => !decide (Arc x)) = true := by
      cases hc : l.any (fun x => !decide (Arc x)) with
      | true => rfl
      | false =>
        refine absurd (fun x hx => ?_) hall
        have := List.any_eq_false.mp hc x hx
        simpa using this
    rw [hodd, show putOf l = ([], 22) from if_neg fun h => hall h.2.2.1]
    exact put_j0
  have hodd : l.any (fun x => !decide (Arc x)) = false := List.any_eq_false.mpr fun x hx => by simp [hall x hx]
  rw [hodd]
  have h2' : 2 ≤ l.length := by omega
  match l, h2' with
  | a :: b :: r, _ =>
    have ha := hall a (by simp)
    have hb := hall b (by simp)
    have ga : (a :: b :: r).getD 0 0 = a := rfl
    have gb : (a :: b :: r).getD 1 0 = b := rfl
    have hlen : (1 : Int) < ((a :: b :: r).length : Int) := by simp <;> omega
    have w1 : wrap64 (wrap64 (40 * a) + b) = 40 * a + b := by
      have := ha.1; have := ha.2; have := hb.1; have := hb.2
      rw [w64 (n := 40 * a) (by omega) (by omega), w64 (by omega) (by omega)]
    by_cases ha2 : a ≤ 2
    · have hj : Ev (fun k => ints_PutOID.j1 k (a :: b :: r) (decide (a < 2 ∧ b > 39))) (putOf (a :: b :: r)) := by
        by_cases hb39 : a < 2 ∧ b > 39
        · rw [decide_eq_true hb39, show putOf (a :: b :: r) = ([], 22) from if_neg fun h => by have := h.2.2.2.2.1; rw [ga, gb] at this; have := this hb39.1; omega]
          exact put_j1
        · rw [decide_eq_false hb39]
          by_cases hs : Arc (40 * a + b)
          · have ho : IsObj (a :: b :: r) := ⟨by simp, by omega, hall, ha2, fun h => by rw [ga] at h; rw [gb]; omega, hs⟩
            rw [show putOf (a :: b :: r) = (encO (a :: b :: r), 0) from if_pos ho]
            have hp := put_loop r (fun x hx => hall x (by simp [hx])) (by simp at h16; omega) r.length 0 (dg (40 * a + b)) (by omega) (by have := (dg_len (40 * a + b)).2; omega)
            rw [List.drop_zero] at hp
            refine Ev.step (f := fun k => (ints_arc.f k (40 * a + b)).bind fun t => if 2 ≤ ((a :: b :: r).length : Int) then ints_PutOID.l0 k t r r.length 0 else none) (fun k => ?_) (Ev.bind (prog_arc hs.1 hs.2) (Ev_pos (by omega) hp))
            simp only [ints_PutOID.j1]
            rw [if_neg (by decide), if_pos (by omega), if_pos hlen, rd_zero, rd_one, w1, odd_of, Option.bind_some, decide_eq_true hs, if_neg (by decide)]
            rfl
          · rw [show putOf (a :: b :: r) = ([], 22) from if_neg fun h => hs h.2.2.2.2.2]
            refine Ev.step (f := fun _ => some ([], 22)) (fun k => ?_) (Ev.now _)
            simp only [ints_PutOID.j1]
            rw [if_neg (by decide), if_pos (by omega), if_pos hlen, rd_zero, rd_one, w1, odd_of, Option.bind_some, decide_eq_false hs, if_pos (by decide)]
      refine Ev.step (fun k => ?_) hj
      simp only [ints_PutOID.j0]
      rw [if_neg (by decide), if_pos (by omega), rd_zero, if_neg (by omega)]
      by_cases ha1 : a < 2
      · rw [if_pos ha1, if_pos hlen, rd_one]
        have : decide (b > 39) = decide (a < 2 ∧ b > 39) := decide_eq_decide.mpr ⟨fun h => ⟨ha1, h⟩, fun h => h.2⟩
        rw [this]
      · rw [if_neg ha1, decide_eq_false (by omega)]
    · rw [show putOf (a :: b :: r) = ([], 22) from if_neg fun h => ha2 h.2.2.2.1]
      refine Ev.step (f := fun _ => some ([], 22)) (fun k => ?_) (Ev.now _)
      simp only [ints_PutOID.j0]
      rw [if_neg (by decide), if_pos (by omega), rd_zero, if_pos (by omega)]

/-! ### PutOID, the reference's -/
end Go.Proofs.YtkceebgncfggjaaDoorQ
