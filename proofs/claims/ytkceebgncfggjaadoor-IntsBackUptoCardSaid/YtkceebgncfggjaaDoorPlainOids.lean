/- Plain mathematics of objects' bodies: digits of seven bits. No condition beside those in each theorem's own line. -/
import Derived.Test.YtkceebgncfggjaaDoorPlainInts
import Derived.KernelRfl
set_option linter.unusedVariables false
set_option linter.unusedSimpArgs false
namespace Go.Proofs.YtkceebgncfggjaaDoorQ
open Go.RowKit Go.Proofs.YtkceebgncfggjaaDoorW.PrintWords Go.Proofs.YtkceebgncfggjaaDoorW.PrintLast Go.Proofs.YtkceebgncfggjaaDoorW.PrintMore

/-- The table of math/bits: how many bits a byte has. -/
abbrev T8 : ByteArray := ⟨#[0, 1, 2, 2, 3, 3, 3, 3, 4, 4, 4, 4, 4, 4, 4, 4, 5, 5, 5, 5, 5, 5, 5, 5, 5, 5, 5, 5, 5, 5, 5, 5, 6, 6, 6, 6, 6, 6, 6, 6, 6, 6, 6, 6, 6, 6, 6, 6, 6, 6, 6, 6, 6, 6, 6, 6, 6, 6, 6, 6, 6, 6, 6, 6, 7, 7, 7, 7, 7, 7, 7, 7, 7, 7, 7, 7, 7, 7, 7, 7, 7, 7, 7, 7, 7, 7, 7, 7, 7, 7, 7, 7, 7, 7, 7, 7, 7, 7, 7, 7, 7, 7, 7, 7, 7, 7, 7, 7, 7, 7, 7, 7, 7, 7, 7, 7, 7, 7, 7, 7, 7, 7, 7, 7, 7, 7, 7, 7, 8, 8, 8, 8, 8, 8, 8, 8, 8, 8, 8, 8, 8, 8, 8, 8, 8, 8, 8, 8, 8, 8, 8, 8, 8, 8, 8, 8, 8, 8, 8, 8, 8, 8, 8, 8, 8, 8, 8, 8, 8, 8, 8, 8, 8, 8, 8, 8, 8, 8, 8, 8, 8, 8, 8, 8, 8, 8, 8, 8, 8, 8, 8, 8, 8, 8, 8, 8, 8, 8, 8, 8, 8, 8, 8, 8, 8, 8, 8, 8, 8, 8, 8, 8, 8, 8, 8, 8, 8, 8, 8, 8, 8, 8, 8, 8, 8, 8, 8, 8, 8, 8, 8, 8, 8, 8, 8, 8, 8, 8, 8, 8, 8, 8, 8, 8, 8, 8, 8, 8, 8, 8, 8, 8, 8, 8, 8, 8]⟩
theorem T8_all : ∀ i : Fin 256, (bt T8 ((i.val : Nat) : Int) ≤ 7 ↔ i.val < 128) ∧ (bt T8 ((i.val : Nat) : Int) ≤ 6 ↔ i.val < 64) ∧ (bt T8 ((i.val : Nat) : Int) ≤ 5 ↔ i.val < 32) ∧ (bt T8 ((i.val : Nat) : Int) ≤ 4 ↔ i.val < 16) ∧
    (bt T8 ((i.val : Nat) : Int) = 0 ↔ i.val = 0) ∧ bt T8 ((i.val : Nat) : Int) ≤ 8 := by decide +kernel
theorem T8_at {i : Int} (h0 : 0 ≤ i) (h1 : i < 256) : (bt T8 i ≤ 7 ↔ i < 128) ∧ (bt T8 i ≤ 6 ↔ i < 64) ∧ (bt T8 i ≤ 5 ↔ i < 32) ∧ (bt T8 i ≤ 4 ↔ i < 16) ∧ (bt T8 i = 0 ↔ i = 0) ∧ bt T8 i ≤ 8 ∧ 0 ≤ bt T8 i := by
  obtain ⟨m, rfl⟩ := Int.eq_ofNat_of_zero_le h0
  have h := T8_all ⟨m, by omega⟩
  have hr := (bt_range T8 (m : Int)).1
  simp only at h
  obtain ⟨a, b, c, d, e, f⟩ := h
  refine ⟨?_, ?_, ?_, ?_, ?_, f, hr⟩
  · rw [a]; omega
  · rw [b]; omega
  · rw [c]; omega
  · rw [d]; omega
  · rw [e]; omega

/-- A number's digits of seven bits, as few as it may have. -/
def dg (n : Int) : List Int :=
  if n < 128 then [n] else if n < 16384 then [n / 128 + 128, n % 128] else if n < 2097152 then [n / 16384 + 128, n / 128 % 128 + 128, n % 128]
  else [n / 2097152 + 128, n / 16384 % 128 + 128, n / 128 % 128 + 128, n % 128]
/-- The digits with more to come. -/
def dgH (n : Int) : List Int :=
  if n < 128 then [n + 128] else if n < 16384 then [n / 128 + 128, n % 128 + 128] else if n < 2097152 then [n / 16384 + 128, n / 128 % 128 + 128, n % 128 + 128]
  else [n / 2097152 + 128, n / 16384 % 128 + 128, n / 128 % 128 + 128, n % 128 + 128]
theorem dgH_more {n c : Int} (h1 : 1 ≤ n) (h0 : 0 ≤ c) (hc : c < 128) (h : n * 128 + c ≤ 268435455) : dgH (n * 128 + c) = dgH n ++ [c + 128] := by
  unfold dgH
  by_cases a : n < 128
  · rw [if_pos a, if_neg (by omega), if_pos (by omega)]
    simp only [List.cons_append, List.nil_append, List.cons.injEq, and_true]
    exact ⟨by omega, by omega⟩
  · by_cases b : n < 16384
    · rw [if_neg a, if_pos b, if_neg (by omega), if_neg (by omega), if_pos (by omega)]
      simp only [List.cons_append, List.nil_append, List.cons.injEq, and_true]
      exact ⟨by omega, by omega, by omega⟩
    · rw [if_neg (show ¬ n * 128 + c < 128 by omega), if_neg (show ¬ n * 128 + c < 16384 by omega), if_neg (show ¬ n * 128 + c < 2097152 by omega), if_neg a, if_neg b, if_pos (show n < 2097152 by omega)]
      simp only [List.cons_append, List.nil_append, List.cons.injEq, and_true]
      exact ⟨by omega, by omega, by omega, by omega⟩
theorem dg_more {n c : Int} (h1 : 1 ≤ n) (h0 : 0 ≤ c) (hc : c < 128) (h : n * 128 + c ≤ 268435455) : dg (n * 128 + c) = dgH n ++ [c] := by
  unfold dg dgH
  by_cases a : n < 128
  · rw [if_pos a, if_neg (by omega), if_pos (by omega)]
    simp only [List.cons_append, List.nil_append, List.cons.injEq, and_true]
    exact ⟨by omega, by omega⟩
  · by_cases b : n < 16384
    · rw [if_neg a, if_pos b, if_neg (by omega), if_neg (by omega), if_pos (by omega)]
      simp only [List.cons_append, List.nil_append, List.cons.injEq, and_true]
      exact ⟨by omega, by omega, by omega⟩
    · rw [if_neg (show ¬ n * 128 + c < 128 by omega), if_neg (show ¬ n * 128 + c < 16384 by omega), if_neg (show ¬ n * 128 + c < 2097152 by omega), if_neg a, if_neg b, if_pos (show n < 2097152 by omega)]
      simp only [List.cons_append, List.nil_append, List.cons.injEq, and_true]
      exact ⟨by omega, by omega, by omega, by omega⟩
theorem dg_bytes {n : Int} (h0 : 0 ≤ n) (h : n ≤ 268435455) : Bytes (dg n) := by
  unfold dg
  split
  · exact Bytes.cons (by omega) (by omega) Bytes.nil
  · split
    · exact Bytes.cons (by omega) (by omega) (Bytes.cons (by omega) (by omega) Bytes.nil)
    · split
      · exact Bytes.cons (by omega) (by omega) (Bytes.cons (by omega) (by omega) (Bytes.cons (by omega) (by omega) Bytes.nil))
      · exact Bytes.cons (by omega) (by omega) (Bytes.cons (by omega) (by omega) (Bytes.cons (by omega) (by omega) (Bytes.cons (by omega) (by omega) Bytes.nil)))
theorem dg_len (n : Int) : 1 ≤ (dg n).length ∧ (dg n).length ≤ 4 := by
  unfold dg
  split
  · exact ⟨by simp, by simp⟩
  · split
    · exact ⟨by simp, by simp⟩
    · split
      · exact ⟨by simp, by simp⟩
      · exact ⟨by simp, by simp⟩

/-- An arc. -/
def Arc (x : Int) : Prop := 0 ≤ x ∧ x ≤ 268435455
instance (x : Int) : Decidable (Arc x) := inferInstanceAs (Decidable (_ ∧ _))
/-- An object. -/
def IsObj (l : List Int) : Prop := 2 ≤ l.length ∧ l.length ≤ 16 ∧ (∀ x ∈ l, Arc x) ∧ l.getD 0 0 ≤ 2 ∧ (l.getD 0 0 < 2 → l.getD 1 0 ≤ 39) ∧ Arc (40 * l.getD 0 0 + l.getD 1 0)
instance (l : List Int) : Decidable (IsObj l) := inferInstanceAs (Decidable (_ ∧ _))
/-- Many numbers' digits. -/
def dgs (l : List Int) : List Int := l.flatMap dg
theorem dgs_cons (x : Int) (l : List Int) : dgs (x :: l) = dg x ++ dgs l := by simp [dgs]
theorem dgs_append (l m : List Int) : dgs (l ++ m) = dgs l ++ dgs m := by simp [dgs]
theorem dgs_bytes {l : List Int} (h : ∀ x ∈ l, Arc x) : Bytes (dgs l) := by
  induction l with
  | nil => exact Bytes.nil
  | cons x l ih =>
    rw [dgs_cons]
    have hx := h x (List.mem_cons_self ..)
    exact (dg_bytes hx.1 hx.2).append (ih fun y hy => h y (List.mem_cons_of_mem _ hy))
/-- The numbers that an object's body tells: the first two arcs together. -/
def subs (l : List Int) : List Int := (40 * l.getD 0 0 + l.getD 1 0) :: l.drop 2
/-- An object's body. -/
def encO (l : List Int) : List Int := dgs (subs l)
theorem subs_snoc {l : List Int} (h : 2 ≤ l.length) (n : Int) : subs (l ++ [n]) = subs l ++ [n] := by
  match l, h with
  | a :: b :: l, _ => simp [subs]
theorem encO_snoc {l : List Int} (h : 2 ≤ l.length) (n : Int) : encO (l ++ [n]) = encO l ++ dg n := by
  unfold encO
  rw [subs_snoc h, dgs_append, dgs_cons]
  simp [dgs]
theorem IsObj.arcs {l : List Int} (h : IsObj l) : ∀ x ∈ subs l, Arc x := by
  intro x hx
  rcases List.mem_cons.1 hx with rfl | hx
  · exact h.2.2.2.2.2
  · exact h.2.2.1 x (List.mem_of_mem_drop hx)
theorem encO_bytes {l : List Int} (h : IsObj l) : Bytes (encO l) := dgs_bytes h.arcs
/-- The first two arcs out of the first number. -/
def fst2 (n : Int) : Int := if 2 < n / 40 then 2 else n / 40
def two (n : Int) : List Int := [fst2 n, n - 40 * fst2 n]
/-- The arcs, a number more. -/
def push (o : List Int) (n : Int) : List Int := if o = [] then two n else o ++ [n]
theorem two_obj {n : Int} (h : Arc n) : IsObj (two n) ∧ subs (two n) = [n] := by
  obtain ⟨h0, h1⟩ := h
  have hf : 0 ≤ fst2 n ∧ fst2 n ≤ 2 ∧ fst2 n * 40 ≤ n ∧ (fst2 n < 2 → fst2 n = n / 40) := by
    unfold fst2; split <;> refine ⟨by omega, by omega, by omega, by omega⟩
  obtain ⟨a, b, c, d⟩ := hf
  refine ⟨⟨by simp [two], by simp [two], ?_, b, fun h => ?_, ?_⟩, ?_⟩
  · intro x hx
    simp only [two, List.mem_cons, List.not_mem_nil, or_false] at hx
    rcases hx with rfl | rfl
    · exact ⟨a, by omega⟩
    · exact ⟨by omega, by omega⟩
  · have := d h
    show n - 40 * fst2 n ≤ 39
    omega
  · show Arc (40 * fst2 n + (n - 40 * fst2 n))
    rw [show 40 * fst2 n + (n - 40 * fst2 n) = n by omega]; exact ⟨h0, h1⟩
  · show [40 * fst2 n + (n - 40 * fst2 n)] = [n]
    rw [show 40 * fst2 n + (n - 40 * fst2 n) = n by omega]
theorem two_of {a b : Int} (h0 : 0 ≤ a) (h2 : a ≤ 2) (hb0 : 0 ≤ b) (h3 : a < 2 → b ≤ 39) : two (40 * a + b) = [a, b] := by
  have : fst2 (40 * a + b) = a := by unfold fst2; split <;> omega
  unfold two
  rw [this, show 40 * a + b - 40 * a = b by omega]
theorem push_snoc {o : List Int} (h : IsObj o) (hl : o.length < 16) {n : Int} (hn : Arc n) : IsObj (push o n) ∧ encO (push o n) = encO o ++ dg n := by
  have hne : o ≠ [] := by rintro rfl; exact absurd h.1 (by simp)
  unfold push
  rw [if_neg hne]
  refine ⟨?_, encO_snoc h.1 n⟩
  obtain ⟨h1, h2, h3, h4, h5, h6⟩ := h
  match o, h1 with
  | a :: b :: r, _ =>
    refine ⟨by simp, by simp at hl ⊢; omega, ?_, h4, h5, h6⟩
    intro x hx
    rcases List.mem_append.1 hx with hx | hx
    · exact h3 x hx
    · rw [List.mem_singleton.1 hx]; exact hn
theorem foldl_push_ne {l : List Int} : ∀ {o : List Int}, o ≠ [] → l.foldl push o = o ++ l := by
  induction l with
  | nil => intro o _; simp
  | cons x l ih =>
    intro o h
    rw [List.foldl_cons, show push o x = o ++ [x] by unfold push; rw [if_neg h], ih (by simp)]
    simp
/-- The arcs that an object's numbers tell are the object. -/
theorem foldl_subs {l : List Int} (h : IsObj l) : (subs l).foldl push [] = l := by
  obtain ⟨h1, h2, h3, h4, h5, h6⟩ := h
  match l, h1 with
  | a :: b :: r, _ =>
    have ha := h3 a (by simp)
    have hb := h3 b (by simp)
    show ((40 * a + b) :: r).foldl push [] = _
    rw [List.foldl_cons, show push [] (40 * a + b) = two (40 * a + b) from rfl, two_of ha.1 h4 hb.1 h5, foldl_push_ne (by simp)]
    rfl
end Go.Proofs.YtkceebgncfggjaaDoorQ
