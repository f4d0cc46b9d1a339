/- NodesSets: words, printed functions and plain laws that the claim uses, laid by a program of this session's. No condition beside those in each theorem's own line. -/
import Derived.Lib.Bytes
import Derived.Test.YtkceebgncfggjaaDoorZS3
set_option linter.unusedVariables false
set_option linter.unusedSimpArgs false
namespace Go.Proofs.YtkceebgncfggjaaDoorQ
open Go.RowKit Go.Proofs.YtkceebgncfggjaaDoorW.PrintWords Go.Proofs.YtkceebgncfggjaaDoorW.PrintLast Go.Proofs.YtkceebgncfggjaaDoorW.PrintMore
def Bytes (l : List Int) : Prop := ∀ x ∈ l, 0 ≤ x ∧ x < 256
theorem Bytes.nil : Bytes [] := by intro x hx; cases hx
theorem Bytes.cons {x : Int} {l : List Int} (h0 : 0 ≤ x) (h1 : x < 256) (h : Bytes l) : Bytes (x :: l) := by
  intro y hy
  rcases List.mem_cons.1 hy with rfl | hy
  · exact ⟨h0, h1⟩
  · exact h y hy
theorem Bytes.append {l m : List Int} (h : Bytes l) (h' : Bytes m) : Bytes (l ++ m) := by
  intro y hy
  rcases List.mem_append.1 hy with hy | hy
  · exact h y hy
  · exact h' y hy
theorem Bytes.tail {x : Int} {l : List Int} (h : Bytes (x :: l)) : Bytes l := fun y hy => h y (List.mem_cons_of_mem _ hy)
theorem Bytes.head {x : Int} {l : List Int} (h : Bytes (x :: l)) : 0 ≤ x ∧ x < 256 := h x (List.mem_cons_self ..)
theorem strOf_list (l : List Int) : (strOfNums l).toList = l.map (fun x => UInt8.ofNat x.toNat) := by
  rw [Lib.strOfNums_toList]; rfl
theorem strOf_inj {l m : List Int} (hl : Bytes l) (hm : Bytes m) (h : (strOfNums l).toList = (strOfNums m).toList) : l = m := by
  rw [strOf_list, strOf_list] at h
  induction l generalizing m with
  | nil => cases m with
    | nil => rfl
    | cons y m => simp at h
  | cons x l ih => cases m with
    | nil => simp at h
    | cons y m =>
      simp only [List.map_cons, List.cons.injEq] at h
      obtain ⟨h1, h2⟩ := h
      have a := hl.head
      have b := hm.head
      have e : x = y := by
        have h3 := congrArg UInt8.toNat h1
        simp only [UInt8.toNat_ofNat'] at h3
        omega
      rw [e, ih hl.tail hm.tail h2]
theorem strOf_eq {l m : List Int} (hl : Bytes l) (hm : Bytes m) : ((strOfNums l).toList == (strOfNums m).toList) = decide (l = m) := by
  by_cases e : l = m
  · subst e; simp
  · rw [decide_eq_false e]
    exact beq_eq_false_iff_ne.mpr fun h => e (strOf_inj hl hm h)
theorem w64 {n : Int} (h0 : -9223372036854775808 ≤ n) (h1 : n ≤ 9223372036854775807) : wrap64 n = n := by unfold wrap64; omega
theorem and127 {x : Int} (h0 : 0 ≤ x) (h1 : x < 256) : bits .and .u8 x 127 = x % 128 := bits_mask .u8 8 (by decide) wraps_u8 7 (by decide) x h0 h1
theorem or128 {x : Int} (h0 : 0 ≤ x) (h1 : x < 128) : bits .or .u8 x 128 = x + 128 := by
  obtain ⟨a, rfl⟩ := Int.eq_ofNat_of_zero_le h0
  have ha : a < 128 := by omega
  have := (bits_nat .u8 8 (by decide) wraps_u8 a 128 (by omega) (by omega)).2
  rw [show ((128 : Int)) = ((128 : Nat) : Int) from rfl, this]
  have e : a ||| 128 = 128 + a := by
    have := Nat.two_pow_add_eq_or_of_lt (show a < 2 ^ 7 by omega) 1
    rw [Nat.or_comm]; simpa using this.symm
  rw [e]; omega
def be : Nat → Int → List Int
  | 0, _ => []
  | s + 1, n => be s (n / 256) ++ [n % 256]
theorem be_length (s : Nat) : ∀ n, (be s n).length = s := by
  induction s with
  | zero => intro n; rfl
  | succ s ih => intro n; simp [be, ih]
theorem be_bytes (s : Nat) : ∀ n, Bytes (be s n) := by
  induction s with
  | zero => intro n; exact Bytes.nil
  | succ s ih => intro n; exact (ih _).append (Bytes.cons (by omega) (by omega) Bytes.nil)
theorem be_cons (s : Nat) : ∀ n, be (s + 1) n = (n / 256 ^ s) % 256 :: be s n := by
  induction s with
  | zero => intro n; simp [be]
  | succ s ih =>
    intro n
    rw [be, ih, be]
    rw [show n / 256 / 256 ^ s = n / 256 ^ (s + 1) by rw [Int.ediv_ediv_of_nonneg (by omega), Int.pow_succ, Int.mul_comm]]
    rfl
def sz : Nat → Int → Nat
  | 0, _ => 1
  | k + 1, n => if n < -128 then sz k (n / 256) + 1 else if n > 127 then sz k (n / 256) + 1 else 1
def enc (n : Int) : List Int := be (sz 8 n) n
def Fits : Nat → Int → Prop
  | 0, n => -128 ≤ n ∧ n ≤ 127
  | k + 1, n => Fits k (n / 256)
theorem fits_succ {k : Nat} : ∀ {n : Int}, Fits k n → Fits (k + 1) n := by
  induction k with
  | zero => intro n h; obtain ⟨h0, h1⟩ := h; exact ⟨by omega, by omega⟩
  | succ k ih => intro n h; exact ih h
theorem sz_pos (k : Nat) (n : Int) : 1 ≤ sz k n := by
  cases k with
  | zero => exact Nat.le_refl _
  | succ k =>
    unfold sz
    split
    · omega
    · split <;> omega
theorem sz_fuel (k : Nat) : ∀ {n : Int} (K : Nat), Fits k n → k ≤ K → sz K n = sz k n := by
  induction k with
  | zero =>
    intro n K h _
    obtain ⟨h0, h1⟩ := h
    cases K with
    | zero => rfl
    | succ K => unfold sz; rw [if_neg (by omega), if_neg (by omega)]
  | succ k ih =>
    intro n K h hk
    obtain ⟨K, rfl⟩ : ∃ m, K = m + 1 := ⟨K - 1, by omega⟩
    unfold sz
    rw [ih K h (by omega)]
theorem enc_bytes (n : Int) : Bytes (enc n) := be_bytes _ _
def sg (c : Int) : Int := if c < 128 then c else c - 256
def more (n : Int) (l : List Int) : Int := l.foldl (fun m c => m * 256 + c) n
theorem more_cons (n c : Int) (l : List Int) : more n (c :: l) = more (n * 256 + c) l := rfl
def val : List Int → Int
  | [] => 0
  | c :: l => more (sg c) l
def long : List Int → Prop
  | c :: d :: _ => c = 0 ∧ d < 128 ∨ c = 255 ∧ 128 ≤ d
  | _ => False
instance : (l : List Int) → Decidable (long l)
  | [] => inferInstanceAs (Decidable False)
  | [_] => inferInstanceAs (Decidable False)
  | c :: d :: _ => inferInstanceAs (Decidable (c = 0 ∧ d < 128 ∨ c = 255 ∧ 128 ≤ d))
theorem sg_fits {c : Int} (h0 : 0 ≤ c) (h1 : c < 256) : Fits 0 (sg c) := by
  unfold sg; split <;> exact ⟨by omega, by omega⟩
theorem fits_mono {k K : Nat} (hk : k ≤ K) {n : Int} (h : Fits k n) : Fits K n := by
  induction hk with
  | refl => exact h
  | step _ ih => exact fits_succ ih
theorem fits_range {n : Int} (h : Fits 7 n) : -9223372036854775808 ≤ n ∧ n ≤ 9223372036854775807 := by
  simp only [Fits] at h; omega
end Go.Proofs.YtkceebgncfggjaaDoorQ

namespace Go.Proofs.YtkceebgncfggjaaDoorQ
open Go.RowKit Go.Proofs.YtkceebgncfggjaaDoorW.PrintWords Go.Proofs.YtkceebgncfggjaaDoorW.PrintLast Go.Proofs.YtkceebgncfggjaaDoorW.PrintMore
abbrev T8 : ByteArray := ⟨#[0, 1, 2, 2, 3, 3, 3, 3, 4, 4, 4, 4, 4, 4, 4, 4, 5, 5, 5, 5, 5, 5, 5, 5, 5, 5, 5, 5, 5, 5, 5, 5, 6, 6, 6, 6, 6, 6, 6, 6, 6, 6, 6, 6, 6, 6, 6, 6, 6, 6, 6, 6, 6, 6, 6, 6, 6, 6, 6, 6, 6, 6, 6, 6, 7, 7, 7, 7, 7, 7, 7, 7, 7, 7, 7, 7, 7, 7, 7, 7, 7, 7, 7, 7, 7, 7, 7, 7, 7, 7, 7, 7, 7, 7, 7, 7, 7, 7, 7, 7, 7, 7, 7, 7, 7, 7, 7, 7, 7, 7, 7, 7, 7, 7, 7, 7, 7, 7, 7, 7, 7, 7, 7, 7, 7, 7, 7, 7, 8, 8, 8, 8, 8, 8, 8, 8, 8, 8, 8, 8, 8, 8, 8, 8, 8, 8, 8, 8, 8, 8, 8, 8, 8, 8, 8, 8, 8, 8, 8, 8, 8, 8, 8, 8, 8, 8, 8, 8, 8, 8, 8, 8, 8, 8, 8, 8, 8, 8, 8, 8, 8, 8, 8, 8, 8, 8, 8, 8, 8, 8, 8, 8, 8, 8, 8, 8, 8, 8, 8, 8, 8, 8, 8, 8, 8, 8, 8, 8, 8, 8, 8, 8, 8, 8, 8, 8, 8, 8, 8, 8, 8, 8, 8, 8, 8, 8, 8, 8, 8, 8, 8, 8, 8, 8, 8, 8, 8, 8, 8, 8, 8, 8, 8, 8, 8, 8, 8, 8, 8, 8, 8, 8, 8, 8, 8, 8]⟩
theorem T8_all : ∀ i : Fin 256, (bt T8 ((i.val : Nat) : Int) ≤ 7 ↔ i.val < 128) ∧ (bt T8 ((i.val : Nat) : Int) ≤ 6 ↔ i.val < 64) ∧ (bt T8 ((i.val : Nat) : Int) ≤ 5 ↔ i.val < 32) ∧ (bt T8 ((i.val : Nat) : Int) ≤ 4 ↔ i.val < 16) ∧
    (bt T8 ((i.val : Nat) : Int) = 0 ↔ i.val = 0) ∧ bt T8 ((i.val : Nat) : Int) ≤ 8 := by decide +kernel
theorem T8_at {i : Int} (h0 : 0 ≤ i) (h1 : i < 256) : (bt T8 i ≤ 7 ↔ i < 128) ∧ (bt T8 i ≤ 6 ↔ i < 64) ∧ (bt T8 i ≤ 5 ↔ i < 32) ∧ (bt T8 i ≤ 4 ↔ i < 16) ∧ (bt T8 i = 0 ↔ i = 0) ∧ bt T8 i ≤ 8 ∧ 0 ≤ bt T8 i := by
  obtain ⟨m, rfl⟩ := Int.eq_ofNat_of_zero_le h0
  have h := T8_all ⟨m, by omega⟩
  have hr := (bt_range T8 (m : Int)).1
  simp only at h
  obtain ⟨a, b, c, d, e, f⟩ := h
  refine ⟨?_, ?_, ?_, ?_, ?_, f, hr⟩
  · rw [a]; omega
  · rw [b]; omega
  · rw [c]; omega
  · rw [d]; omega
  · rw [e]; omega
def dg (n : Int) : List Int :=
  if n < 128 then [n] else if n < 16384 then [n / 128 + 128, n % 128] else if n < 2097152 then [n / 16384 + 128, n / 128 % 128 + 128, n % 128]
  else [n / 2097152 + 128, n / 16384 % 128 + 128, n / 128 % 128 + 128, n % 128]
theorem dg_bytes {n : Int} (h0 : 0 ≤ n) (h : n ≤ 268435455) : Bytes (dg n) := by
  unfold dg
  split
  · exact Bytes.cons (by omega) (by omega) Bytes.nil
  · split
    · exact Bytes.cons (by omega) (by omega) (Bytes.cons (by omega) (by omega) Bytes.nil)
    · split
      · exact Bytes.cons (by omega) (by omega) (Bytes.cons (by omega) (by omega) (Bytes.cons (by omega) (by omega) Bytes.nil))
      · exact Bytes.cons (by omega) (by omega) (Bytes.cons (by omega) (by omega) (Bytes.cons (by omega) (by omega) (Bytes.cons (by omega) (by omega) Bytes.nil)))
theorem dg_len (n : Int) : 1 ≤ (dg n).length ∧ (dg n).length ≤ 4 := by
  unfold dg
  split
  · exact ⟨by simp, by simp⟩
  · split
    · exact ⟨by simp, by simp⟩
    · split
      · exact ⟨by simp, by simp⟩
      · exact ⟨by simp, by simp⟩
def Arc (x : Int) : Prop := 0 ≤ x ∧ x ≤ 268435455
instance (x : Int) : Decidable (Arc x) := inferInstanceAs (Decidable (_ ∧ _))
def IsObj (l : List Int) : Prop := 2 ≤ l.length ∧ l.length ≤ 16 ∧ (∀ x ∈ l, Arc x) ∧ l.getD 0 0 ≤ 2 ∧ (l.getD 0 0 < 2 → l.getD 1 0 ≤ 39) ∧ Arc (40 * l.getD 0 0 + l.getD 1 0)
instance (l : List Int) : Decidable (IsObj l) := inferInstanceAs (Decidable (_ ∧ _))
def dgs (l : List Int) : List Int := l.flatMap dg
theorem dgs_cons (x : Int) (l : List Int) : dgs (x :: l) = dg x ++ dgs l := by simp [dgs]
theorem dgs_bytes {l : List Int} (h : ∀ x ∈ l, Arc x) : Bytes (dgs l) := by
  induction l with
  | nil => exact Bytes.nil
  | cons x l ih =>
    rw [dgs_cons]
    have hx := h x (List.mem_cons_self ..)
    exact (dg_bytes hx.1 hx.2).append (ih fun y hy => h y (List.mem_cons_of_mem _ hy))
def subs (l : List Int) : List Int := (40 * l.getD 0 0 + l.getD 1 0) :: l.drop 2
def encO (l : List Int) : List Int := dgs (subs l)
theorem IsObj.arcs {l : List Int} (h : IsObj l) : ∀ x ∈ subs l, Arc x := by
  intro x hx
  rcases List.mem_cons.1 hx with rfl | hx
  · exact h.2.2.2.2.2
  · exact h.2.2.1 x (List.mem_of_mem_drop hx)
theorem encO_bytes {l : List Int} (h : IsObj l) : Bytes (encO l) := dgs_bytes h.arcs
def fst2 (n : Int) : Int := if 2 < n / 40 then 2 else n / 40
def two (n : Int) : List Int := [fst2 n, n - 40 * fst2 n]
def push (o : List Int) (n : Int) : List Int := if o = [] then two n else o ++ [n]
theorem two_of {a b : Int} (h0 : 0 ≤ a) (h2 : a ≤ 2) (hb0 : 0 ≤ b) (h3 : a < 2 → b ≤ 39) : two (40 * a + b) = [a, b] := by
  have : fst2 (40 * a + b) = a := by unfold fst2; split <;> omega
  unfold two
  rw [this, show 40 * a + b - 40 * a = b by omega]
theorem foldl_push_ne {l : List Int} : ∀ {o : List Int}, o ≠ [] → l.foldl push o = o ++ l := by
  induction l with
  | nil => intro o _; simp
  | cons x l ih =>
    intro o h
    rw [List.foldl_cons, show push o x = o ++ [x] by unfold push; rw [if_neg h], ih (by simp)]
    simp
theorem foldl_subs {l : List Int} (h : IsObj l) : (subs l).foldl push [] = l := by
  obtain ⟨h1, h2, h3, h4, h5, h6⟩ := h
  match l, h1 with
  | a :: b :: r, _ =>
    have ha := h3 a (by simp)
    have hb := h3 b (by simp)
    show ((40 * a + b) :: r).foldl push [] = _
    rw [List.foldl_cons, show push [] (40 * a + b) = two (40 * a + b) from rfl, two_of ha.1 h4 hb.1 h5, foldl_push_ne (by simp)]
    rfl
end Go.Proofs.YtkceebgncfggjaaDoorQ

