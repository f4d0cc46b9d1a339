/- NodesSets: words, printed functions and plain laws that the claim uses, laid by a program of this session's. No condition beside those in each theorem's own line. -/
import Derived.Test.YtkceebgncfggjaaDoorZS13
import Derived.Test.YtkceebgncfggjaaDoorZS26
set_option linter.unusedVariables false
set_option linter.unusedSimpArgs false
namespace Go.Proofs.YtkceebgncfggjaaDoorQ
open Go.RowKit Go.Proofs.YtkceebgncfggjaaDoorW.PrintWords Go.Proofs.YtkceebgncfggjaaDoorW.PrintLast Go.Proofs.YtkceebgncfggjaaDoorW.PrintMore Go.Proofs.YtkceebgncfggjaaDoor.PQ
theorem rd_nat (xs : List Int) (i : Nat) : rd xs (i : Int) = xs.getD i 0 := by unfold rd; rw [Int.toNat_natCast]
theorem drop_getD {xs : List Int} {i : Nat} (h : i < xs.length) : xs.drop i = xs.getD i 0 :: xs.drop (i + 1) := by
  rw [List.drop_eq_getElem_cons h, List.getD_eq_getElem?_getD, List.getElem?_eq_getElem h]; rfl
theorem rd_zero (x : Int) (l : List Int) : rd (x :: l) 0 = x := rfl
theorem rd_one (x y : Int) (l : List Int) : rd (x :: y :: l) 1 = y := rfl
theorem bytes_getD {l : List Int} (h : Bytes l) {i : Nat} (hi : i < l.length) : 0 ≤ l.getD i 0 ∧ l.getD i 0 < 256 := by
  rw [List.getD_eq_getElem?_getD, List.getElem?_eq_getElem hi]
  exact h _ (List.getElem_mem hi)
theorem Ev_pos {α : Type} {c : Prop} [Decidable c] {f g : Nat → Option α} {r : α} (h : c) (k : Ev f r) : Ev (fun n => if c then f n else g n) r := Ev.congr (fun n => if_pos h) k
theorem Ev_neg {α : Type} {c : Prop} [Decidable c] {f g : Nat → Option α} {r : α} (h : ¬ c) (k : Ev g r) : Ev (fun n => if c then f n else g n) r := Ev.congr (fun n => if_neg h) k
theorem zeros_set (m s : Nat) (l : List Int) (v : Int) (h : m = s + 1) : (List.replicate m 0 ++ l).set s v = List.replicate s 0 ++ v :: l := by
  subst h
  rw [List.set_append_left _ _ (by simp)]
  rw [List.replicate_succ', List.set_append_right _ _ (by simp)]
  simp
theorem put_fill (n : Int) (s : Nat) (hs : 1 ≤ s) (h8 : s ≤ 8) (d : Nat) : ∀ i : Nat, i + d = s →
    Ev (fun k => ints_PutInt.l1 k n s (List.replicate (s - i) 0 ++ be i n) s i) (be s n) := by
  induction d with
  | zero =>
    intro i hi
    obtain rfl : i = s := by omega
    refine Ev.step (f := fun _ => some (be i n)) (fun k => ?_) (Ev.now _)
    simp only [ints_PutInt.l1]
    rw [if_neg (by omega)]
    simp
  | succ d ih =>
    intro i hi
    have hlt : i < s := by omega
    refine Ev.step (fun k => ?_) (ih (i + 1) (by omega))
    have e1 : wrap64 (8 * (i : Int)) = 8 * i := w64 (by omega) (by omega)
    have e2 : wrap64 (wrap64 ((s : Int) - 1) - i) = ((s - 1 - i : Nat) : Int) := by
      rw [w64 (n := (s : Int) - 1) (by omega) (by omega), w64 (by omega) (by omega)]; omega
    have e3 : wrap64 ((i : Int) + 1) = ((i + 1 : Nat) : Int) := by rw [w64 (by omega) (by omega)]; omega
    simp only [ints_PutInt.l1]
    rw [if_pos (by omega), e1, e2, e3, if_pos (by omega), if_pos (by omega), if_pos (by simp [be_length]; omega)]
    rw [Int.toNat_natCast, zeros_set (s - i) (s - 1 - i) _ _ (by omega)]
    have e4 : shr .i64 n (8 * (i : Int)) % 256 = (n / 256 ^ i) % 256 := by
      unfold shr
      rw [show min (8 * (i : Int)).toNat IntKind.i64.bits = 8 * i by
        rw [show (8 * (i : Int)).toNat = 8 * i by omega]; exact Nat.min_eq_left (by show 8 * i ≤ 64; omega)]
      rw [Int.pow_mul]; rfl
    rw [e4, ← be_cons, show s - 1 - i = s - (i + 1) by omega]
theorem put_size (n : Int) (k0 : Nat) : ∀ (m : Int) (x : Nat), Fits k0 m → x + k0 ≤ 8 → 1 ≤ x →
    Ev (fun k => ints_PutInt.l0 k n x m) (be (x + sz k0 m - 1) n) := by
  have small : ∀ (m : Int) (x : Nat), -128 ≤ m → m ≤ 127 → 1 ≤ x → x ≤ 8 → Ev (fun k => ints_PutInt.l0 k n x m) (be x n) := by
    intro m x h0 h1 hx h8
    refine Ev.step (f := fun k => ints_PutInt.l1 k n x (List.replicate (x - 0) 0 ++ be 0 n) x 0) (fun k => ?_) (put_fill n x hx h8 x 0 (by omega))
    simp only [ints_PutInt.l0]
    rw [if_neg (by omega), if_neg (by omega), if_pos (by omega), if_pos (by omega)]
    simp [be]
  induction k0 with
  | zero =>
    intro m x h h8 hx
    have := small m x h.1 h.2 hx (by omega)
    simpa [sz] using this
  | succ k0 ih =>
    intro m x h h8 hx
    by_cases hs : -128 ≤ m ∧ m ≤ 127
    · have := small m x hs.1 hs.2 hx (by omega)
      rw [show sz (k0 + 1) m = 1 by unfold sz; rw [if_neg (by omega), if_neg (by omega)]]
      simpa using this
    · have e : sz (k0 + 1) m = sz k0 (m / 256) + 1 := by
        rw [sz]
        by_cases hn : m < -128
        · rw [if_pos hn]
        · rw [if_neg hn, if_pos (by omega)]
      have hp := sz_pos k0 (m / 256)
      have := ih (m / 256) (x + 1) h (by omega) (by omega)
      rw [show x + 1 + sz k0 (m / 256) - 1 = x + sz (k0 + 1) m - 1 by omega] at this
      refine Ev.step (fun k => ?_) this
      have e3 : wrap64 ((x : Int) + 1) = ((x + 1 : Nat) : Int) := by rw [w64 (by omega) (by omega)]; omega
      simp only [ints_PutInt.l0]
      by_cases hn : m < -128
      · rw [if_pos hn, e3]
      · rw [if_neg hn, if_pos (by omega), e3]
theorem put_int {n : Int} (h : Fits 7 n) : Ev (fun k => ints_PutInt.f k n) (enc n) := by
  have h2 := put_size n 7 n 1 h (by omega) (by omega)
  rw [show 1 + sz 7 n - 1 = sz 7 n by omega, ← sz_fuel 7 8 h (by omega)] at h2
  exact h2
theorem sg_wrap {c : Int} (h0 : 0 ≤ c) (h1 : c < 256) : wrap64 (IntKind.i8.wrap c) = sg c := by
  have : IntKind.i8.wrap c = sg c := by
    have w8 : IntKind.i8.wrap c = (c + 128) % 256 - 128 := by
      simp [IntKind.wrap, IntKind.bits, IntKind.signed]
      split <;> omega
    rw [w8]; unfold sg; split <;> omega
  rw [this]
  have := sg_fits h0 h1
  exact w64 (by have := this.1; omega) (by have := this.2; omega)
theorem step_fits {j : Nat} {n c : Int} (hj : j ≤ 6) (h : Fits j n) (h0 : 0 ≤ c) (h1 : c < 256) :
    wrap64 (n * 256) = n * 256 ∧ wrap64 (n * 256 + c) = n * 256 + c ∧ wrap64 c = c ∧ Fits (j + 1) (n * 256 + c) := by
  have h2 : Fits (j + 1) (n * 256 + c) := by show Fits j ((n * 256 + c) / 256); rw [show (n * 256 + c) / 256 = n by omega]; exact h
  have h3 : Fits (j + 1) (n * 256) := by show Fits j (n * 256 / 256); rw [show n * 256 / 256 = n by omega]; exact h
  have r2 := fits_range (fits_mono (by omega) h2)
  have r3 := fits_range (fits_mono (by omega) h3)
  exact ⟨w64 r3.1 r3.2, w64 r2.1 r2.2, w64 (by omega) (by omega), h2⟩
theorem strict_int {b : List Int} (hb : Bytes b) {n : Int} (hf : Fits 7 n) (e : Int) :
    Ev (fun k => ints_strict_int64.f k b n e) (if enc n = b then (n, 0) else (0, e)) := by
  refine Ev.congr (f := fun k => (ints_PutInt.f k n).bind fun t => (bytes_Equal.f t b).bind fun q => if q = true then some (n, 0) else some (0, e)) (fun k => rfl) ?_
  refine Ev.bind (put_int hf) ?_
  simp only [bytes_Equal.f, Option.bind_some, strOf_eq (enc_bytes n) hb]
  by_cases h : enc n = b
  · rw [if_pos h]; simp only [h, decide_true, if_true]; exact Ev.now _
  · rw [if_neg h]; simp only [h, decide_false, Bool.false_eq_true, if_false]; exact Ev.now _
theorem int_loop (b r : List Int) (hb : Bytes b) (hr : Bytes r) (hl : r.length ≤ 7) (d : Nat) : ∀ (i j : Nat) (n : Int), i + d = r.length → Fits j n → j + d ≤ 7 →
    Ev (fun k => ints_Int.l0 k b n r r.length i) (if enc (more n (r.drop i)) = b then (more n (r.drop i), 0) else (0, 21)) := by
  induction d with
  | zero =>
    intro i j n hi hf hj
    rw [List.drop_eq_nil_of_le (by omega)]
    refine Ev.step (f := fun k => (ints_strict_int64.f k b n 21).bind fun t => some (t.1, t.2)) (fun k => ?_) ?_
    · simp only [ints_Int.l0]; rw [if_neg (by omega)]
    · exact Ev.bind (strict_int hb (fits_mono (by omega) hf) 21) (Ev.now _)
  | succ d ih =>
    intro i j n hi hf hj
    have hlt : i < r.length := by omega
    have hc := bytes_getD hr hlt
    obtain ⟨e1, e2, e3, hf2⟩ := step_fits (by omega) hf hc.1 hc.2
    have := ih (i + 1) (j + 1) (n * 256 + r.getD i 0) (by omega) hf2 (by omega)
    rw [drop_getD hlt, more_cons]
    refine Ev.step (fun k => ?_) this
    simp only [ints_Int.l0]
    rw [if_pos (by omega), if_pos (by omega), if_pos (by omega), rd_nat, e1, e3, e2, show wrap64 ((i : Int) + 1) = ((i + 1 : Nat) : Int) by rw [w64 (by omega) (by omega)]; omega]
def intOf (b : List Int) : Int × Int := if b.length = 0 ∨ 8 < b.length then (0, 21) else if enc (val b) = b then (val b, 0) else (0, 21)
theorem prog_int {b : List Int} (hb : Bytes b) : Ev (fun k => ints_Int.f k b) (intOf b) := by
  have bad : intOf b = (0, 21) → ((b.length : Int) = 0 ∨ (b.length : Int) > 8) → Ev (fun k => ints_Int.f k b) (intOf b) := by
    intro he h
    rw [he]
    refine Ev.congr (f := fun k => ints_Int.j0 k b true) (fun k => ?_) (Ev.step (f := fun _ => some (0, 21)) (fun k => ?_) (Ev.now _))
    · unfold ints_Int.f
      by_cases h0 : (b.length : Int) = 0
      · rw [if_pos h0]
      · rw [if_neg h0, decide_eq_true (by omega)]
    · simp only [ints_Int.j0, if_true]
  by_cases h0 : b.length = 0 ∨ 8 < b.length
  · refine bad (if_pos h0) (by omega)
  · cases b with
    | nil => simp at h0
    | cons c r =>
      have hc := hb.head
      have hl : (c :: r).length ≤ 8 := by omega
      have hl2 : r.length ≤ 7 := by simp at hl; omega
      have := int_loop (c :: r) r hb hb.tail hl2 r.length 0 0 (sg c) (by omega) (sg_fits hc.1 hc.2) (by omega)
      have e : intOf (c :: r) = if enc (more (sg c) (r.drop 0)) = c :: r then (more (sg c) (r.drop 0), 0) else (0, 21) := by
        unfold intOf; rw [if_neg h0]; rfl
      rw [e]
      refine Ev.congr (f := fun k => ints_Int.j0 k (c :: r) false) (fun k => ?_) (Ev.step (fun k => ?_) this)
      · unfold ints_Int.f
        rw [if_neg (by simp <;> omega), decide_eq_false (by omega)]
      · simp only [ints_Int.j0]
        rw [if_neg (by decide), if_pos (by simp <;> omega), if_pos (by simp <;> omega), rd_zero, sg_wrap hc.1 hc.2]
        rfl
end Go.Proofs.YtkceebgncfggjaaDoorQ

namespace Go.Proofs.YtkceebgncfggjaaDoorQ
open Go.RowKit Go.Proofs.YtkceebgncfggjaaDoorW.PrintWords Go.Proofs.YtkceebgncfggjaaDoorW.PrintLast Go.Proofs.YtkceebgncfggjaaDoorW.PrintMore Go.Proofs.YtkceebgncfggjaaDoor.PQ
def shift (n : Int) : Int := if n < 128 then 0 else if n < 16384 then 7 else if n < 2097152 then 14 else 21
theorem shift_of {n t : Int} (h : (n < 128 → t ≤ 7) ∧ (128 ≤ n → n < 16384 → 8 ≤ t ∧ t ≤ 14) ∧ (16384 ≤ n → n < 2097152 → 15 ≤ t ∧ t ≤ 21) ∧ (2097152 ≤ n → 22 ≤ t ∧ t ≤ 28)) (h0 : 0 ≤ t) :
    wrap64 (wrap64 (mx (wrap64 (t - 1)) 0 / 7) * 7) = shift n := by
  have hb : t ≤ 28 := by omega
  have e1 : wrap64 (t - 1) = t - 1 := w64 (by omega) (by omega)
  rw [e1]
  have e2 : 0 ≤ mx (t - 1) 0 ∧ mx (t - 1) 0 ≤ 27 ∧ (1 ≤ t → mx (t - 1) 0 = t - 1) ∧ (t = 0 → mx (t - 1) 0 = 0) := by
    unfold mx; split <;> refine ⟨by omega, by omega, by omega, by omega⟩
  obtain ⟨a, b, c, d⟩ := e2
  rw [w64 (n := mx (t - 1) 0 / 7) (by omega) (by omega), w64 (by omega) (by omega)]
  unfold shift
  split
  · omega
  · split
    · omega
    · split <;> omega
theorem len_of {n : Int} (h0 : 0 ≤ n) (h : n ≤ 268435455) : ∃ t, (∀ k, bits_Len.f (k + 1) (IntKind.u64.wrap n) = some t) ∧ wrap64 (wrap64 (mx (wrap64 (t - 1)) 0 / 7) * 7) = shift n := by
  have hw : IntKind.u64.wrap n = n := by
    have : IntKind.u64.wrap n = n % 18446744073709551616 := by simp [IntKind.wrap, IntKind.bits, IntKind.signed]
    rw [this]; omega
  rw [hw]
  have hu : ∀ k, bits_Len.f (k + 1) n = (bits_Len64.j0 (0 + 1) n 0).bind fun t => some t := by
    intro k; unfold bits_Len.f bits_Len64.f; rw [if_neg (by omega)]; rfl
  suffices H : ∃ t, ((bits_Len64.j0 (0 + 1) n 0).bind fun t => some t) = some t ∧ wrap64 (wrap64 (mx (wrap64 (t - 1)) 0 / 7) * 7) = shift n by
    obtain ⟨t, h1, h2⟩ := H
    exact ⟨t, fun k => (hu k).trans h1, h2⟩
  rw [bits_Len64.j0]
  by_cases a : n ≥ 65536
  · rw [if_pos a]
    by_cases b : n / 65536 ≥ 256
    · have hi : n / 65536 / 256 % 256 = n / 16777216 := by omega
      have ht := T8_at (i := n / 16777216) (by omega) (by omega)
      rw [if_pos b, hi, if_pos (by omega), if_pos (by omega)]
      obtain ⟨q1, q2, q3, q4, q5, q6, q7⟩ := ht
      refine ⟨_, rfl, ?_⟩
      generalize bt T8 (n / 16777216) = t at *
      rw [w64 (n := t) (by omega) (by omega), w64 (n := (0 : Int) + 16) (by omega) (by omega), w64 (n := (0 : Int) + 16 + 8) (by omega) (by omega), w64 (n := 0 + 16 + 8 + t) (by omega) (by omega)]
      exact shift_of ⟨by omega, by omega, by omega, by omega⟩ (by omega)
    · have hi : n / 65536 % 256 = n / 65536 := by omega
      have ht := T8_at (i := n / 65536) (by omega) (by omega)
      rw [if_neg b, hi, if_pos (by omega), if_pos (by omega)]
      obtain ⟨q1, q2, q3, q4, q5, q6, q7⟩ := ht
      refine ⟨_, rfl, ?_⟩
      generalize bt T8 (n / 65536) = t at *
      rw [w64 (n := t) (by omega) (by omega), w64 (n := (0 : Int) + 16) (by omega) (by omega), w64 (n := 0 + 16 + t) (by omega) (by omega)]
      exact shift_of ⟨by omega, by omega, by omega, by omega⟩ (by omega)
  · rw [if_neg a]
    by_cases b : n ≥ 256
    · have hi : n / 256 % 256 = n / 256 := by omega
      have ht := T8_at (i := n / 256) (by omega) (by omega)
      rw [if_pos b, hi, if_pos (by omega), if_pos (by omega)]
      obtain ⟨q1, q2, q3, q4, q5, q6, q7⟩ := ht
      refine ⟨_, rfl, ?_⟩
      generalize bt T8 (n / 256) = t at *
      rw [w64 (n := t) (by omega) (by omega), w64 (n := (0 : Int) + 8) (by omega) (by omega), w64 (n := 0 + 8 + t) (by omega) (by omega)]
      exact shift_of ⟨by omega, by omega, by omega, by omega⟩ (by omega)
    · have hi : n % 256 = n := by omega
      have ht := T8_at (i := n) (by omega) (by omega)
      rw [if_neg b, hi, if_pos (by omega), if_pos (by omega)]
      obtain ⟨q1, q2, q3, q4, q5, q6, q7⟩ := ht
      refine ⟨_, rfl, ?_⟩
      generalize bt T8 n = t at *
      rw [w64 (n := t) (by omega) (by omega), w64 (n := 0 + t) (by omega) (by omega)]
      exact shift_of ⟨by omega, by omega, by omega, by omega⟩ (by omega)
theorem shr_at (n : Int) (s : Nat) (hs : s ≤ 64) : shr .i64 n (s : Int) = n / 2 ^ s := by
  unfold shr; rw [Int.toNat_natCast, Nat.min_eq_left (by exact hs)]
theorem arc0 (n : Int) (acc : List Int) (hl : acc.length < 1000) : Ev (fun k => ints_arc.l0 k n acc 0) (acc ++ [n % 128]) := by
  refine Ev.step (f := fun k => ints_arc.l0 k n (acc ++ [n % 128]) (-7)) (fun k => ?_) (Ev.step (f := fun _ => some (acc ++ [n % 128])) (fun k => ?_) (Ev.now _))
  · simp only [ints_arc.l0]
    rw [if_pos (by omega), if_pos (by omega), if_neg (by omega), if_pos (by omega), show shr .i64 n 0 = n from by have := shr_at n 0 (by omega); simpa using this,
      and127 (by omega) (by omega), show n % 256 % 128 = n % 128 by omega, w64 (n := 0 - 7) (by omega) (by omega)]
    rfl
  · simp only [ints_arc.l0]
    rw [if_neg (by omega)]
theorem arcs (n : Int) (s : Nat) (hs : 0 < s) (hs2 : s ≤ 21) (acc : List Int) (hl : acc.length < 1000) {r : List Int} (h : Ev (fun k => ints_arc.l0 k n (acc ++ [n / 2 ^ s % 128 + 128]) ((s : Int) - 7)) r) : Ev (fun k => ints_arc.l0 k n acc (s : Int)) r := by
  refine Ev.step (fun k => ?_) h
  simp only [ints_arc.l0]
  rw [if_pos (by omega), if_pos (by omega), if_pos (by omega), if_pos (by omega), shr_at n s (by omega), and127 (by omega) (by omega), or128 (by omega) (by omega),
    show n / 2 ^ s % 256 % 128 = n / 2 ^ s % 128 by omega, w64 (n := (s : Int) - 7) (by omega) (by omega)]
theorem prog_arc {n : Int} (h0 : 0 ≤ n) (h : n ≤ 268435455) : Ev (fun k => ints_arc.f k n) (dg n) := by
  obtain ⟨t, ht, hs⟩ := len_of h0 h
  refine Ev.bind (a := t) ⟨1, fun k hk => by obtain ⟨m, rfl⟩ : ∃ m, k = m + 1 := ⟨k - 1, by omega⟩; exact ht m⟩ ?_
  rw [hs]
  unfold shift dg
  by_cases a : n < 128
  · rw [if_pos a, if_pos a]
    have := arc0 n [] (by simp)
    rw [show n % 128 = n by omega] at this
    exact this
  · rw [if_neg a, if_neg a]
    by_cases b : n < 16384
    · rw [if_pos b, if_pos b]
      refine arcs n 7 (by omega) (by omega) [] (by simp) ?_
      have := arc0 n ([] ++ [n / 2 ^ 7 % 128 + 128]) (by simp)
      rw [show n / 2 ^ 7 % 128 = n / 128 by omega] at this ⊢
      exact this
    · rw [if_neg b, if_neg b]
      by_cases c : n < 2097152
      · rw [if_pos c, if_pos c]
        refine arcs n 14 (by omega) (by omega) [] (by simp) ?_
        refine arcs n 7 (by omega) (by omega) _ (by simp) ?_
        have := arc0 n ([] ++ [n / 2 ^ 14 % 128 + 128] ++ [n / 2 ^ 7 % 128 + 128]) (by simp)
        rw [show n / 2 ^ 14 % 128 = n / 16384 by omega, show n / 2 ^ 7 % 128 = n / 128 % 128 by omega] at this ⊢
        exact this
      · rw [if_neg c, if_neg c]
        refine arcs n 21 (by omega) (by omega) [] (by simp) ?_
        refine arcs n 14 (by omega) (by omega) _ (by simp) ?_
        refine arcs n 7 (by omega) (by omega) _ (by simp) ?_
        have := arc0 n ([] ++ [n / 2 ^ 21 % 128 + 128] ++ [n / 2 ^ 14 % 128 + 128] ++ [n / 2 ^ 7 % 128 + 128]) (by simp)
        rw [show n / 2 ^ 21 % 128 = n / 2097152 by omega, show n / 2 ^ 14 % 128 = n / 16384 % 128 by omega, show n / 2 ^ 7 % 128 = n / 128 % 128 by omega] at this ⊢
        exact this
def putOf (l : List Int) : List Int × Int := if IsObj l then (encO l, 0) else ([], 22)
theorem odd_of (n : Int) : ints_PutOID_1.f n = some (!decide (Arc n)) := by
  unfold ints_PutOID_1.f
  by_cases h : n < 0
  · rw [if_pos h, decide_eq_false (fun a => by have := a.1; omega)]; rfl
  · rw [if_neg h]
    by_cases h2 : n > 268435455
    · rw [decide_eq_true h2, decide_eq_false (fun a => by have := a.2; omega)]; rfl
    · rw [decide_eq_false h2, decide_eq_true ⟨by omega, by omega⟩]; rfl
theorem index_of (l : List Int) (hl : l.length < 1000) (d : Nat) : ∀ i : Nat, i + d = l.length →
    ∃ r, Ev (fun k => slices_IndexFunc_int_int.l0 k l l.length i) r ∧ (r ≥ 0 ↔ (l.drop i).any (fun x => !decide (Arc x)) = true) := by
  induction d with
  | zero =>
    intro i hi
    refine ⟨-1, Ev.step (f := fun _ => some (-1)) (fun k => ?_) (Ev.now _), ?_⟩
    · simp only [slices_IndexFunc_int_int.l0]; rw [if_neg (by omega)]
    · rw [List.drop_eq_nil_of_le (by omega)]; simp
  | succ d ih =>
    intro i hi
    have hlt : i < l.length := by omega
    obtain ⟨r, hr, hi2⟩ := ih (i + 1) (by omega)
    rw [drop_getD hlt]
    by_cases ha : Arc (l.getD i 0)
    · refine ⟨r, Ev.step (fun k => ?_) hr, ?_⟩
      · simp only [slices_IndexFunc_int_int.l0]
        rw [if_pos (by omega), if_pos (by omega), if_pos (by omega), rd_nat, odd_of, Option.bind_some, decide_eq_true ha, if_neg (by decide),
          show wrap64 ((i : Int) + 1) = ((i + 1 : Nat) : Int) by rw [w64 (by omega) (by omega)]; omega]
      · rw [hi2, List.any_cons, decide_eq_true ha]; simp
    · refine ⟨i, Ev.step (f := fun _ => some (i : Int)) (fun k => ?_) (Ev.now _), ?_⟩
      · simp only [slices_IndexFunc_int_int.l0]
        rw [if_pos (by omega), if_pos (by omega), if_pos (by omega), rd_nat, odd_of, Option.bind_some, decide_eq_false ha, if_pos (by decide)]
      · rw [List.any_cons, decide_eq_false ha]; simp
theorem contains_odd {l : List Int} (hl : l.length < 1000) : Ev (fun k => slices_ContainsFunc_int_int.f k l) (l.any (fun x => !decide (Arc x))) := by
  obtain ⟨r, hr, hi⟩ := index_of l hl l.length 0 (by omega)
  refine Ev.bind hr ?_
  rw [List.drop_zero] at hi
  have : decide (r ≥ 0) = l.any (fun x => !decide (Arc x)) := by rw [Bool.eq_iff_iff, decide_eq_true_iff]; exact hi
  rw [this]
  exact Ev.now _
theorem put_loop (r : List Int) (hr : ∀ x ∈ r, Arc x) (hl : r.length ≤ 16) (d : Nat) : ∀ (i : Nat) (acc : List Int), i + d = r.length → acc.length ≤ 4 + 4 * i →
    Ev (fun k => ints_PutOID.l0 k acc r r.length i) (acc ++ dgs (r.drop i), 0) := by
  induction d with
  | zero =>
    intro i acc hi _
    rw [List.drop_eq_nil_of_le (by omega)]
    refine Ev.step (f := fun _ => some (acc, 0)) (fun k => ?_) ?_
    · simp only [ints_PutOID.l0]; rw [if_neg (by omega)]
    · simp only [dgs, List.flatMap_nil, List.append_nil]; exact Ev.now _
  | succ d ih =>
    intro i acc hi hacc
    have hlt : i < r.length := by omega
    have hm : r.getD i 0 ∈ r := by rw [List.getD_eq_getElem?_getD, List.getElem?_eq_getElem hlt]; exact List.getElem_mem hlt
    have ha := hr _ hm
    have hg := dg_len (r.getD i 0)
    have := ih (i + 1) (acc ++ dg (r.getD i 0)) (by omega) (by rw [List.length_append]; omega)
    rw [drop_getD hlt, dgs_cons, ← List.append_assoc]
    refine Ev.step (f := fun k => (ints_arc.f k (r.getD i 0)).bind fun t => if acc.length + t.length < 140737488355328 then ints_PutOID.l0 k (acc ++ t) r r.length ((i + 1 : Nat) : Int) else none) (fun k => ?_) (Ev.bind (prog_arc ha.1 ha.2) (Ev_pos (by omega) this))
    simp only [ints_PutOID.l0]
    rw [if_pos (by omega), if_pos (by omega), if_pos (by omega), rd_nat, show wrap64 ((i : Int) + 1) = ((i + 1 : Nat) : Int) by rw [w64 (by omega) (by omega)]; omega]
theorem put_j0 {l : List Int} : Ev (fun k => ints_PutOID.j0 k l true) ([], 22) := by
  refine Ev.step (f := fun _ => some ([], 22)) (fun k => ?_) (Ev.now _)
  simp only [ints_PutOID.j0, if_true]
theorem put_j1 {l : List Int} : Ev (fun k => ints_PutOID.j1 k l true) ([], 22) := by
  refine Ev.step (f := fun _ => some ([], 22)) (fun k => ?_) (Ev.now _)
  simp only [ints_PutOID.j1, if_true]
theorem prog_put (l : List Int) : Ev (fun k => ints_PutOID.f k l) (putOf l) := by
  by_cases h2 : l.length < 2
  · rw [show putOf l = ([], 22) from if_neg fun h => by have := h.1; omega]
    refine Ev.congr (f := fun k => ints_PutOID.j0 k l true) (fun k => ?_) put_j0
    unfold ints_PutOID.f; rw [if_pos (by omega), decide_eq_true (by omega)]
  by_cases h16 : 16 < l.length
  · rw [show putOf l = ([], 22) from if_neg fun h => by have := h.2.1; omega]
    refine Ev.congr (f := fun k => ints_PutOID.j0 k l true) (fun k => ?_) put_j0
    unfold ints_PutOID.f; rw [if_neg (by omega), if_pos (by omega), decide_eq_true (by omega)]
  refine Ev.congr (f := fun k => (slices_ContainsFunc_int_int.f k l).bind fun t => ints_PutOID.j0 k l t) (fun k => ?_) (Ev.bind (contains_odd (by omega)) ?_)
  · unfold ints_PutOID.f; rw [if_neg (by omega), if_neg (by omega)]
  by_cases hall : ∀ x ∈ l, Arc x
  case neg =>
    have hodd : l.any (fun x => !decide (Arc x)) = true := by
      cases hc : l.any (fun x => !decide (Arc x)) with
      | true => rfl
      | false =>
        refine absurd (fun x hx => ?_) hall
        have := List.any_eq_false.mp hc x hx
        simpa using this
    rw [hodd, show putOf l = ([], 22) from if_neg fun h => hall h.2.2.1]
    exact put_j0
  have hodd : l.any (fun x => !decide (Arc x)) = false := List.any_eq_false.mpr fun x hx => by simp [hall x hx]
  rw [hodd]
  have h2' : 2 ≤ l.length := by omega
  match l, h2' with
  | a :: b :: r, _ =>
    have ha := hall a (by simp)
    have hb := hall b (by simp)
    have ga : (a :: b :: r).getD 0 0 = a := rfl
    have gb : (a :: b :: r).getD 1 0 = b := rfl
    have hlen : (1 : Int) < ((a :: b :: r).length : Int) := by simp <;> omega
    have w1 : wrap64 (wrap64 (40 * a) + b) = 40 * a + b := by
      have := ha.1; have := ha.2; have := hb.1; have := hb.2
      rw [w64 (n := 40 * a) (by omega) (by omega), w64 (by omega) (by omega)]
    by_cases ha2 : a ≤ 2
    · have hj : Ev (fun k => ints_PutOID.j1 k (a :: b :: r) (decide (a < 2 ∧ b > 39))) (putOf (a :: b :: r)) := by
        by_cases hb39 : a < 2 ∧ b > 39
        · rw [decide_eq_true hb39, show putOf (a :: b :: r) = ([], 22) from if_neg fun h => by have := h.2.2.2.2.1; rw [ga, gb] at this; have := this hb39.1; omega]
          exact put_j1
        · rw [decide_eq_false hb39]
          by_cases hs : Arc (40 * a + b)
          · have ho : IsObj (a :: b :: r) := ⟨by simp, by omega, hall, ha2, fun h => by rw [ga] at h; rw [gb]; omega, hs⟩
            rw [show putOf (a :: b :: r) = (encO (a :: b :: r), 0) from if_pos ho]
            have hp := put_loop r (fun x hx => hall x (by simp [hx])) (by simp at h16; omega) r.length 0 (dg (40 * a + b)) (by omega) (by have := (dg_len (40 * a + b)).2; omega)
            rw [List.drop_zero] at hp
            refine Ev.step (f := fun k => (ints_arc.f k (40 * a + b)).bind fun t => if 2 ≤ ((a :: b :: r).length : Int) then ints_PutOID.l0 k t r r.length 0 else none) (fun k => ?_) (Ev.bind (prog_arc hs.1 hs.2) (Ev_pos (by omega) hp))
            simp only [ints_PutOID.j1]
            rw [if_neg (by decide), if_pos (by omega), if_pos hlen, rd_zero, rd_one, w1, odd_of, Option.bind_some, decide_eq_true hs, if_neg (by decide)]
            rfl
          · rw [show putOf (a :: b :: r) = ([], 22) from if_neg fun h => hs h.2.2.2.2.2]
            refine Ev.step (f := fun _ => some ([], 22)) (fun k => ?_) (Ev.now _)
            simp only [ints_PutOID.j1]
            rw [if_neg (by decide), if_pos (by omega), if_pos hlen, rd_zero, rd_one, w1, odd_of, Option.bind_some, decide_eq_false hs, if_pos (by decide)]
      refine Ev.step (fun k => ?_) hj
      simp only [ints_PutOID.j0]
      rw [if_neg (by decide), if_pos (by omega), rd_zero, if_neg (by omega)]
      by_cases ha1 : a < 2
      · rw [if_pos ha1, if_pos hlen, rd_one]
        have : decide (b > 39) = decide (a < 2 ∧ b > 39) := decide_eq_decide.mpr ⟨fun h => ⟨ha1, h⟩, fun h => h.2⟩
        rw [this]
      · rw [if_neg ha1, decide_eq_false (by omega)]
    · rw [show putOf (a :: b :: r) = ([], 22) from if_neg fun h => ha2 h.2.2.2.1]
      refine Ev.step (f := fun _ => some ([], 22)) (fun k => ?_) (Ev.now _)
      simp only [ints_PutOID.j0]
      rw [if_neg (by decide), if_pos (by omega), rd_zero, if_pos (by omega)]
end Go.Proofs.YtkceebgncfggjaaDoorQ

namespace Go.Proofs.YtkceebgncfggjaaDoorQ
open Go.RowKit Go.Proofs.YtkceebgncfggjaaDoorW.PrintWords Go.Proofs.YtkceebgncfggjaaDoorW.PrintLast Go.Proofs.YtkceebgncfggjaaDoorW.PrintMore Go.Proofs.YtkceebgncfggjaaDoor.PQ
def hdA (t : Int) : List Int → Except Int (Int × Nat × Nat)
  | [] => .error 12
  | x :: r => if x < 128 then .error 13 else if x ≤ r.length then .ok (t, 3, x.toNat) else .error 12
def hdB (t : Int) : List Int → Except Int (Int × Nat × Nat)
  | x :: y :: r => if x * 256 + y < 256 then .error 13 else if x * 256 + y ≤ r.length then .ok (t, 4, (x * 256 + y).toNat) else .error 12
  | _ => .error 12
def hdC (t : Int) : List Int → Except Int (Int × Nat × Nat)
  | [] => .error 12
  | n :: r => if n = 129 then hdA t r else if n = 130 then hdB t r else if n > 127 then .error 13 else if n ≤ r.length then .ok (t, 2, n.toNat) else .error 12
def hd : List Int → Except Int (Int × Nat × Nat)
  | [] => .error 12
  | t :: r => if Go.bits .and .u8 t 31 = 31 then .error 11 else hdC t r
def putHd (t : Int) (n : Nat) : List Int := if n > 255 then [t, 130, ((n / 256 : Nat) : Int), ((n % 256 : Nat) : Int)] else if n > 127 then [t, 129, (n : Int)] else [t, (n : Int)]
theorem putHd_len (t : Int) (n : Nat) : 2 ≤ (putHd t n).length ∧ (putHd t n).length ≤ 4 := by
  unfold putHd
  split
  · simp
  · split <;> simp
def tg (t : Int) : Int := if Go.bits .and .u8 t 31 = 31 then 11 else if 64 ≤ t then 0 else if ([1, 2, 3, 4, 5, 6, 12, 19, 22, 23, 24, 27, 48, 49] : List Int).contains t then 0 else 43
theorem tg_lo {t : Int} (h : tg t = 0) : ¬ Go.bits .and .u8 t 31 = 31 := by
  intro e
  unfold tg at h
  rw [if_pos e] at h
  cases h
def cp (t : Int) : Bool := Go.bits .and .u8 t 32 != 0
def bl (a b : List Int) : Bool := Op.bytesLess ((strOfNums a).toList) ((strOfNums b).toList)
def srt : List (List Int) → Bool
  | a :: b :: l => !bl b a && srt (b :: l)
  | _ => true
def put (t : Int) (b : List Int) : Except Int (List Int) := if b.length > 65535 then .error 2 else .ok (putHd t b.length ++ b)
def prs (f : S43 → Except Int (List Int)) : List S43 → Except Int (List (List Int))
  | [] => .ok []
  | n :: l => match f n with
    | .error e => .error e
    | .ok a => match prs f l with
      | .error e => .error e
      | .ok r => .ok (a :: r)
def pr (rt : Int → List Int → Bool) : Nat → S43 → Except Int (List Int)
  | 0, _ => .error 41
  | d + 1, n => if tg n.f0 = 0 then
      (if cp n.f0 = true then
        (if n.f1 = [] then
          match prs (pr rt d) n.f2 with
          | .error e => .error e
          | .ok l => if n.f0 = 49 ∧ srt l = false then .error 42 else put n.f0 l.flatten
        else .error 43)
      else if n.f2.length = 0 ∧ rt n.f0 n.f1 = true then put n.f0 n.f1 else .error 43)
    else .error (tg n.f0)
def pss (f : Nat → List Int → Except (Int × Nat) (S43 × Nat)) : Nat → Nat → List Int → Except (Int × Nat) (List S43 × List (List Int))
  | 0, _, _ => .ok ([], [])
  | m + 1, at_, s => if s.length = 0 then .ok ([], []) else match f at_ s with
    | .error e => .error e
    | .ok (n, j) => match pss f m (at_ + j) (s.drop j) with
      | .error e => .error e
      | .ok (ns, ps) => .ok (n :: ns, s.take j :: ps)
def ps (rt : Int → List Int → Bool) : Nat → Nat → List Int → Except (Int × Nat) (S43 × Nat)
  | 0, at_, s => match hd s with
    | .error e => .error (e, at_)
    | .ok _ => .error (41, at_)
  | d + 1, at_, s => match hd s with
    | .error e => .error (e, at_)
    | .ok (t, h, n) => if tg t = 0 then
        (if cp t = true then
          match pss (ps rt d) n (at_ + h) ((s.drop h).take n) with
          | .error e => .error e
          | .ok (ns, l) => if t = 49 ∧ srt l = false then .error (42, at_) else .ok (⟨t, [], ns⟩, h + n)
        else if rt t ((s.drop h).take n) = true then .ok (⟨t, (s.drop h).take n, []⟩, h + n) else .error (43, at_))
      else .error (tg t, at_)
theorem put_ok {t : Int} {b a : List Int} (h : put t b = .ok a) : b.length ≤ 65535 ∧ a = putHd t b.length ++ b := by
  unfold put at h
  by_cases hb : b.length > 65535
  · rw [if_pos hb] at h; cases h
  · rw [if_neg hb] at h; exact ⟨by omega, (Except.ok.inj h).symm⟩
theorem prs_ok {f : S43 → Except Int (List Int)} {n : S43} {l : List S43} {r : List (List Int)} (h : prs f (n :: l) = .ok r) : ∃ a r', f n = .ok a ∧ prs f l = .ok r' ∧ r = a :: r' := by
  unfold prs at h
  cases h1 : f n with
  | error e => rw [h1] at h; cases h
  | ok a =>
    rw [h1] at h
    cases h2 : prs f l with
    | error e => rw [h2] at h; cases h
    | ok r' => rw [h2] at h; exact ⟨a, r', rfl, rfl, (Except.ok.inj h).symm⟩
theorem pr_ok {rt : Int → List Int → Bool} {d : Nat} {n : S43} {a : List Int} (h : pr rt (d + 1) n = .ok a) : tg n.f0 = 0 ∧
    ((cp n.f0 = true ∧ n.f1 = [] ∧ ∃ l, prs (pr rt d) n.f2 = .ok l ∧ ¬ (n.f0 = 49 ∧ srt l = false) ∧ l.flatten.length ≤ 65535 ∧ a = putHd n.f0 l.flatten.length ++ l.flatten) ∨
     (cp n.f0 = false ∧ n.f2 = [] ∧ rt n.f0 n.f1 = true ∧ n.f1.length ≤ 65535 ∧ a = putHd n.f0 n.f1.length ++ n.f1)) := by
  unfold pr at h
  by_cases ht : tg n.f0 = 0
  · rw [if_pos ht] at h
    refine ⟨ht, ?_⟩
    by_cases hc : cp n.f0 = true
    · rw [if_pos hc] at h
      by_cases hb : n.f1 = []
      · rw [if_pos hb] at h
        cases hp : prs (pr rt d) n.f2 with
        | error e => rw [hp] at h; cases h
        | ok l =>
          rw [hp] at h
          dsimp only at h
          by_cases hs : n.f0 = 49 ∧ srt l = false
          · rw [if_pos hs] at h; cases h
          · rw [if_neg hs] at h
            have := put_ok h
            exact .inl ⟨hc, hb, l, rfl, hs, this.1, this.2⟩
      · rw [if_neg hb] at h; cases h
    · rw [if_neg hc] at h
      by_cases hb : n.f2.length = 0 ∧ rt n.f0 n.f1 = true
      · rw [if_pos hb] at h
        have := put_ok h
        exact .inr ⟨by simpa using hc, List.length_eq_zero_iff.1 hb.1, hb.2, this.1, this.2⟩
      · rw [if_neg hb] at h; cases h
  · rw [if_neg ht] at h; cases h
theorem pr_len {rt : Int → List Int → Bool} {d : Nat} {n : S43} {a : List Int} (h : pr rt d n = .ok a) : 2 ≤ a.length ∧ a.length ≤ 65539 := by
  cases d with
  | zero => cases h
  | succ d =>
    obtain ⟨_, ⟨_, _, l, _, _, hl, rfl⟩ | ⟨_, _, _, hl, rfl⟩⟩ := pr_ok h
    · have := putHd_len n.f0 l.flatten.length
      rw [List.length_append]; omega
    · have := putHd_len n.f0 n.f1.length
      rw [List.length_append]; omega
theorem prs_down {f g : S43 → Except Int (List Int)} (h : ∀ n a, g n = .ok a → f n = .ok a ∨ f n = .error 41) : ∀ (l : List S43) (r : List (List Int)), prs g l = .ok r → prs f l = .ok r ∨ prs f l = .error 41 := by
  intro l
  induction l with
  | nil => intro r hr; cases hr; exact .inl rfl
  | cons n l ih =>
    intro r hr
    obtain ⟨a, r', h1, h2, rfl⟩ := prs_ok hr
    rw [prs]
    rcases h n a h1 with h3 | h3
    · rw [h3]
      dsimp only
      rcases ih r' h2 with h4 | h4
      · rw [h4]; exact .inl rfl
      · rw [h4]; exact .inr rfl
    · rw [h3]; exact .inr rfl
theorem pr_down (rt : Int → List Int → Bool) : ∀ (d : Nat) (n : S43) (a : List Int), pr rt (d + 1) n = .ok a → pr rt d n = .ok a ∨ pr rt d n = .error 41 := by
  intro d
  induction d with
  | zero => intro n a h; exact .inr rfl
  | succ d ih =>
    intro n a h
    obtain ⟨ht, ⟨hc, hb, l, hp, hs, hl, rfl⟩ | ⟨hc, hb, hr, hl, rfl⟩⟩ := pr_ok h
    · rw [pr, if_pos ht, if_pos hc, if_pos hb]
      rcases prs_down ih _ _ hp with h1 | h1
      · rw [h1]
        dsimp only
        rw [if_neg hs, put, if_neg (by omega)]
        exact .inl rfl
      · rw [h1]; exact .inr rfl
    · rw [pr, if_pos ht, if_neg (by rw [hc]; exact Bool.false_ne_true), if_pos ⟨by rw [hb]; rfl, hr⟩, put, if_neg (by omega)]
      exact .inl rfl
end Go.Proofs.YtkceebgncfggjaaDoorQ

