
/- Numbers' bodies: what the printed functions PutInt and Int (the program's and the reference's) answer, in plain mathematics. No condition beside those in each theorem's own line. -/
import Derived.Test.YtkceebgncfggjaaDoorPAx1
import Derived.Test.YtkceebgncfggjaaDoorPlainInts
set_option linter.unusedVariables false
set_option linter.unusedSimpArgs false
namespace Go.Proofs.YtkceebgncfggjaaDoorQ
open Go.RowKit Go.Proofs.YtkceebgncfggjaaDoorW.PrintWords Go.Proofs.YtkceebgncfggjaaDoorW.PrintLast Go.Proofs.YtkceebgncfggjaaDoorW.PrintMore Go.Proofs.YtkceebgncfggjaaDoor.PA

/-! ### Small words -/
theorem rd_nat (xs : List Int) (i : Nat) : rd xs (i : Int) = xs.getD i 0 := by unfold rd; rw [Int.toNat_natCast]
theorem drop_getD {xs : List Int} {i : Nat} (h : i < xs.length) : xs.drop i = xs.getD i 0 :: xs.drop (i + 1) := by
  rw [List.drop_eq_getElem_cons h, List.getD_eq_getElem?_getD, List.getElem?_eq_getElem h]; rfl
theorem rd_zero (x : Int) (l : List Int) : rd (x :: l) 0 = x := rfl
theorem rd_one (x y : Int) (l : List Int) : rd (x :: y :: l) 1 = y := rfl
theorem bytes_getD {l : List Int} (h : Bytes l) {i : Nat} (hi : i < l.length) : 0 ≤ l.getD i 0 ∧ l.getD i 0 < 256 := by
  rw [List.getD_eq_getElem?_getD, List.getElem?_eq_getElem hi]
  exact h _ (List.getElem_mem hi)

theorem Ev_pos {α : Type} {c : Prop} [Decidable c] {f g : Nat → Option α} {r : α} (h : c) (k : Ev f r) : Ev (fun n => if c then f n else g n) r := Ev.congr (fun n => if_pos h) k
theorem Ev_neg {α : Type} {c : Prop} [Decidable c] {f g : Nat → Option α} {r : α} (h : ¬ c) (k : Ev g r) : Ev (fun n => if c then f n else g n) r := Ev.congr (fun n => if_neg h) k
theorem Ev_some {α β : Type} {x : α} {f : Nat → α → Option β} {r : β} (k : Ev (fun n => f n x) r) : Ev (fun n => (some x).bind (f n)) r := k

/-! ### PutInt -/
theorem zeros_set (m s : Nat) (l : List Int) (v : Int) (h : m = s + 1) : (List.replicate m 0 ++ l).set s v = List.replicate s 0 ++ v :: l := by
  subst h
  rw [List.set_append_left _ _ (by simp)]
  rw [List.replicate_succ', List.set_append_right _ _ (by simp)]
  simp
theorem put_fill (n : Int) (s : Nat) (hs : 1 ≤ s) (h8 : s ≤ 8) (d : Nat) : ∀ i : Nat, i + d = s →
    Ev (fun k => ints_PutInt.l1 k n s (List.replicate (s - i) 0 ++ be i n) s i) (be s n) := by
  induction d with
  | zero =>
    intro i hi
    obtain rfl : i = s := by omega
    refine Ev.step (f := fun _ => some (be i n)) (fun k => ?_) (Ev.now _)
    simp only [ints_PutInt.l1]
    rw [if_neg (by omega)]
    simp
  | succ d ih =>
    intro i hi
    have hlt : i < s := by omega
    refine Ev.step (fun k => ?_) (ih (i + 1) (by omega))
    have e1 : wrap64 (8 * (i : Int)) = 8 * i := w64 (by omega) (by omega)
    have e2 : wrap64 (wrap64 ((s : Int) - 1) - i) = ((s - 1 - i : Nat) : Int) := by
      rw [w64 (n := (s : Int) - 1) (by omega) (by omega), w64 (by omega) (by omega)]; omega
    have e3 : wrap64 ((i : Int) + 1) = ((i + 1 : Nat) : Int) := by rw [w64 (by omega) (by omega)]; omega
    simp only [ints_PutInt.l1]
    rw [if_pos (by omega), e1, e2, e3, if_pos (by omega), if_pos (by omega), if_pos (by simp [be_length]; omega)]
    rw [Int.toNat_natCast, zeros_set (s - i) (s - 1 - i) _ _ (by omega)]
    have e4 : shr .i64 n (8 * (i : Int)) % 256 = (n / 256 ^ i) % 256 := by
      unfold shr
      rw [show min (8 * (i : Int)).toNat IntKind.i64.bits = 8 * i by
        rw [show (8 * (i : Int)).toNat = 8 * i by omega]; exact Nat.min_eq_left (by show 8 * i ≤ 64; omega)]
      rw [Int.pow_mul]; rfl
    rw [e4, ← be_cons, show s - 1 - i = s - (i + 1) by omega]
theorem put_size (n : Int) (k0 : Nat) : ∀ (m : Int) (x : Nat), Fits k0 m → x + k0 ≤ 8 → 1 ≤ x →
    Ev (fun k => ints_PutInt.l0 k n x m) (be (x + sz k0 m - 1) n) := by
  have small : ∀ (m : Int) (x : Nat), -128 ≤ m → m ≤ 127 → 1 ≤ x → x ≤ 8 → Ev (fun k => ints_PutInt.l0 k n x m) (be x n) := by
    intro m x h0 h1 hx h8
    refine Ev.step (f := fun k => ints_PutInt.l1 k n x (List.replicate (x - 0) 0 ++ be 0 n) x 0) (fun k => ?_) (put_fill n x hx h8 x 0 (by omega))
    simp only [ints_PutInt.l0]
    rw [if_neg (by omega), if_neg (by omega), if_pos (by omega), if_pos (by omega)]
    simp [be]
  induction k0 with
  | zero =>
    intro m x h h8 hx
    have := small m x h.1 h.2 hx (by omega)
    simpa [sz] using this
  | succ k0 ih =>
    intro m x h h8 hx
    by_cases hs : -128 ≤ m ∧ m ≤ 127
    · have := small m x hs.1 hs.2 hx (by omega)
      rw [show sz (k0 + 1) m = 1 by unfold sz; rw [if_neg (by omega), if_neg (by omega)]]
      simpa using this
    · have e : sz (k0 + 1) m = sz k0 (m / 256) + 1 := by
        rw [sz]
        by_cases hn : m < -128
        · rw [if_pos hn]
        · rw [if_neg hn, if_pos (by omega)]
      have hp := sz_pos k0 (m / 256)
      have := ih (m / 256) (x + 1) h (by omega) (by omega)
      rw [show x + 1 + sz k0 (m / 256) - 1 = x + sz (k0 + 1) m - 1 by omega] at this
      refine Ev.step (fun k => ?_) this
      have e3 : wrap64 ((x : Int) + 1) = ((x + 1 : Nat) : Int) := by rw [w64 (by omega) (by omega)]; omega
      simp only [ints_PutInt.l0]
      by_cases hn : m < -128
      · rw [if_pos hn, e3]
      · rw [if_neg hn, if_pos (by omega), e3]
/-- The program's PutInt. -/
theorem put_int {n : Int} (h : Fits 7 n) : Ev (fun k => ints_PutInt.f k n) (enc n) := by
  have h2 := put_size n 7 n 1 h (by omega) (by omega)
  rw [show 1 + sz 7 n - 1 = sz 7 n by omega, ← sz_fuel 7 8 h (by omega)] at h2
  exact h2
/-! ### Int -/
theorem sg_wrap {c : Int} (h0 : 0 ≤ c) (h1 : c < 256) : wrap64 (IntKind.i8.wrap c) = sg c := by
  have : IntKind.i8.wrap c = sg c := by
    have w8 : IntKind.i8.wrap c = (c + 128) % 256 - 128 := by
      simp [IntKind.wrap, IntKind.bits, IntKind.signed]
      split <;> omega
    rw [w8]; unfold sg; split <;> omega
  rw [this]
  have := sg_fits h0 h1
  exact w64 (by have := this.1; omega) (by have := this.2; omega)
theorem step_fits {j : Nat} {n c : Int} (hj : j ≤ 6) (h : Fits j n) (h0 : 0 ≤ c) (h1 : c < 256) :
    wrap64 (n * 256) = n * 256 ∧ wrap64 (n * 256 + c) = n * 256 + c ∧ wrap64 c = c ∧ Fits (j + 1) (n * 256 + c) := by
  have h2 : Fits (j + 1) (n * 256 + c) := by show Fits j ((n * 256 + c) / 256); rw [show (n * 256 + c) / 256 = n by omega]; exact h
  have h3 : Fits (j + 1) (n * 256) := by show Fits j (n * 256 / 256); rw [show n * 256 / 256 = n by omega]; exact h
  have r2 := fits_range (fits_mono (by omega) h2)
  have r3 := fits_range (fits_mono (by omega) h3)
  exact ⟨w64 r3.1 r3.2, w64 r2.1 r2.2, w64 (by omega) (by omega), h2⟩
theorem strict_int {b : List Int} (hb : Bytes b) {n : Int} (hf : Fits 7 n) (e : Int) :
    Ev (fun k => ints_strict_int64.f k b n e) (if enc n = b then (n, 0) else (0, e)) := by
  refine Ev.congr (f := fun k => (ints_PutInt.f k n).bind fun t => (bytes_Equal.f t b).bind fun q => if q = true then some (n, 0) else some (0, e)) (fun k => rfl) ?_
  refine Ev.bind (put_int hf) ?_
  simp only [bytes_Equal.f, Option.bind_some, strOf_eq (enc_bytes n) hb]
  by_cases h : enc n = b
  · rw [if_pos h]; simp only [h, decide_true, if_true]; exact Ev.now _
  · rw [if_neg h]; simp only [h, decide_false, Bool.false_eq_true, if_false]; exact Ev.now _
theorem int_loop (b r : List Int) (hb : Bytes b) (hr : Bytes r) (hl : r.length ≤ 7) (d : Nat) : ∀ (i j : Nat) (n : Int), i + d = r.length → Fits j n → j + d ≤ 7 →
    Ev (fun k => ints_Int.l0 k b n r r.length i) (if enc (more n (r.drop i)) = b then (more n (r.drop i), 0) else (0, 21)) := by
  induction d with
  | zero =>
    intro i j n hi hf hj
    rw [List.drop_eq_nil_of_le (by omega)]
    refine Ev.step (f := fun k => (ints_strict_int64.f k b n 21).bind fun t => some (t.1, t.2)) (fun k => ?_) ?_
    · simp only [ints_Int.l0]; rw [if_neg (by omega)]
    · exact Ev.bind (strict_int hb (fits_mono (by omega) hf) 21) (Ev.now _)
  | succ d ih =>
    intro i j n hi hf hj
    have hlt : i < r.length := by omega
    have hc := bytes_getD hr hlt
    obtain ⟨e1, e2, e3, hf2⟩ := step_fits (by omega) hf hc.1 hc.2
    have := ih (i + 1) (j + 1) (n * 256 + r.getD i 0) (by omega) hf2 (by omega)
    rw [drop_getD hlt, more_cons]
    refine Ev.step (fun k => ?_) this
    simp only [ints_Int.l0]
    rw [if_pos (by omega), if_pos (by omega), if_pos (by omega), rd_nat, e1, e3, e2, show wrap64 ((i : Int) + 1) = ((i + 1 : Nat) : Int) by rw [w64 (by omega) (by omega)]; omega]
/-- What Int answers: the program's. -/
def intOf (b : List Int) : Int × Int := if b.length = 0 ∨ 8 < b.length then (0, 21) else if enc (val b) = b then (val b, 0) else (0, 21)
theorem prog_int {b : List Int} (hb : Bytes b) : Ev (fun k => ints_Int.f k b) (intOf b) := by
  have bad : intOf b = (0, 21) → ((b.length : Int) = 0 ∨ (b.length : Int) > 8) → Ev (fun k => ints_Int.f k b) (intOf b) := by
    intro he h
    rw [he]
    refine Ev.congr (f := fun k => ints_Int.j0 k b true) (fun k => ?_) (Ev.step (f := fun _ => some (0, 21)) (fun k => ?_) (Ev.now _))
    · unfold ints_Int.f
      by_cases h0 : (b.length : Int) = 0
      · rw [if_pos h0]
      · rw [if_neg h0, decide_eq_true (by omega)]
    · simp only [ints_Int.j0, if_true]
  by_cases h0 : b.length = 0 ∨ 8 < b.length
  · refine bad (if_pos h0) (by omega)
  · cases b with
    | nil => simp at h0
    | cons c r =>
      have hc := hb.head
      have hl : (c :: r).length ≤ 8 := by omega
      have hl2 : r.length ≤ 7 := by simp at hl; omega
      have := int_loop (c :: r) r hb hb.tail hl2 r.length 0 0 (sg c) (by omega) (sg_fits hc.1 hc.2) (by omega)
      have e : intOf (c :: r) = if enc (more (sg c) (r.drop 0)) = c :: r then (more (sg c) (r.drop 0), 0) else (0, 21) := by
        unfold intOf; rw [if_neg h0]; rfl
      rw [e]
      refine Ev.congr (f := fun k => ints_Int.j0 k (c :: r) false) (fun k => ?_) (Ev.step (fun k => ?_) this)
      · unfold ints_Int.f
        rw [if_neg (by simp <;> omega), decide_eq_false (by omega)]
      · simp only [ints_Int.j0]
        rw [if_neg (by decide), if_pos (by simp <;> omega), if_pos (by simp <;> omega), rd_zero, sg_wrap hc.1 hc.2]
        rfl
end Go.Proofs.YtkceebgncfggjaaDoorQ
