/- Plain mathematics of numbers' and objects' bodies: lists of whole numbers alone, no program in sight. No condition beside those in each theorem's own line. -/
import Derived.Test.YtkceebgncfggjaaDoorWWords
import Derived.Test.YtkceebgncfggjaaDoorWLast
import Derived.Test.YtkceebgncfggjaaDoorWMore
import Derived.Laws.BitsLemmas
import Derived.Lib.Bytes
set_option linter.unusedVariables false
set_option linter.unusedSimpArgs false
namespace Go.Proofs.YtkceebgncfggjaaDoorQ
open Go.RowKit Go.Proofs.YtkceebgncfggjaaDoorW.PrintWords Go.Proofs.YtkceebgncfggjaaDoorW.PrintLast Go.Proofs.YtkceebgncfggjaaDoorW.PrintMore

/-- All are bytes. -/
def Bytes (l : List Int) : Prop := ∀ x ∈ l, 0 ≤ x ∧ x < 256
theorem Bytes.nil : Bytes [] := by intro x hx; cases hx
theorem Bytes.cons {x : Int} {l : List Int} (h0 : 0 ≤ x) (h1 : x < 256) (h : Bytes l) : Bytes (x :: l) := by
  intro y hy
  rcases List.mem_cons.1 hy with rfl | hy
  · exact ⟨h0, h1⟩
  · exact h y hy
theorem Bytes.append {l m : List Int} (h : Bytes l) (h' : Bytes m) : Bytes (l ++ m) := by
  intro y hy
  rcases List.mem_append.1 hy with hy | hy
  · exact h y hy
  · exact h' y hy
theorem Bytes.tail {x : Int} {l : List Int} (h : Bytes (x :: l)) : Bytes l := fun y hy => h y (List.mem_cons_of_mem _ hy)
theorem Bytes.head {x : Int} {l : List Int} (h : Bytes (x :: l)) : 0 ≤ x ∧ x < 256 := h x (List.mem_cons_self ..)
theorem Bytes.left {l m : List Int} (h : Bytes (l ++ m)) : Bytes l := fun y hy => h y (List.mem_append_left _ hy)
theorem Bytes.right {l m : List Int} (h : Bytes (l ++ m)) : Bytes m := fun y hy => h y (List.mem_append_right _ hy)
theorem Bytes.drop {l : List Int} (h : Bytes l) (n : Nat) : Bytes (l.drop n) := fun y hy => h y (List.mem_of_mem_drop hy)

/-- Strings of bytes are alike just if the bytes are. -/
theorem strOf_list (l : List Int) : (strOfNums l).toList = l.map (fun x => UInt8.ofNat x.toNat) := by
  rw [Lib.strOfNums_toList]; rfl
theorem strOf_inj {l m : List Int} (hl : Bytes l) (hm : Bytes m) (h : (strOfNums l).toList = (strOfNums m).toList) : l = m := by
  rw [strOf_list, strOf_list] at h
  induction l generalizing m with
  | nil => cases m with
    | nil => rfl
    | cons y m => simp at h
  | cons x l ih => cases m with
    | nil => simp at h
    | cons y m =>
      simp only [List.map_cons, List.cons.injEq] at h
      obtain ⟨h1, h2⟩ := h
      have a := hl.head
      have b := hm.head
      have e : x = y := by
        have h3 := congrArg UInt8.toNat h1
        simp only [UInt8.toNat_ofNat'] at h3
        omega
      rw [e, ih hl.tail hm.tail h2]
theorem strOf_eq {l m : List Int} (hl : Bytes l) (hm : Bytes m) : ((strOfNums l).toList == (strOfNums m).toList) = decide (l = m) := by
  by_cases e : l = m
  · subst e; simp
  · rw [decide_eq_false e]
    exact beq_eq_false_iff_ne.mpr fun h => e (strOf_inj hl hm h)

/-- wrap64 of what fits. -/
theorem w64 {n : Int} (h0 : -9223372036854775808 ≤ n) (h1 : n ≤ 9223372036854775807) : wrap64 n = n := by unfold wrap64; omega

/-! ### Bits -/
theorem and127 {x : Int} (h0 : 0 ≤ x) (h1 : x < 256) : bits .and .u8 x 127 = x % 128 := bits_mask .u8 8 (by decide) wraps_u8 7 (by decide) x h0 h1
theorem or128 {x : Int} (h0 : 0 ≤ x) (h1 : x < 128) : bits .or .u8 x 128 = x + 128 := by
  obtain ⟨a, rfl⟩ := Int.eq_ofNat_of_zero_le h0
  have ha : a < 128 := by omega
  have := (bits_nat .u8 8 (by decide) wraps_u8 a 128 (by omega) (by omega)).2
  rw [show ((128 : Int)) = ((128 : Nat) : Int) from rfl, this]
  have e : a ||| 128 = 128 + a := by
    have := Nat.two_pow_add_eq_or_of_lt (show a < 2 ^ 7 by omega) 1
    rw [Nat.or_comm]; simpa using this.symm
  rw [e]; omega
/-- 'or' of what has no low bits and of low bits alone is the sum. -/
theorem or_add (i : Nat) (hi : i ≤ 64) {x y : Int} (hx : x % 2 ^ i = 0) (h0 : 0 ≤ y) (h1 : y < 2 ^ i) : bits .or .i64 x y = wrap64 (x + y) := by
  obtain ⟨b, rfl⟩ := Int.eq_ofNat_of_zero_le h0
  have hb : b < 2 ^ i := by exact_mod_cast h1
  have hb' : b < 2 ^ 64 := Nat.lt_of_lt_of_le hb (Nat.pow_le_pow_right (by decide) hi)
  obtain ⟨a, ha⟩ := Int.eq_ofNat_of_zero_le (Int.emod_nonneg x (show (18446744073709551616 : Int) ≠ 0 by decide))
  have hal : a < 18446744073709551616 := by omega
  have hd : a % 2 ^ i = 0 := by
    have h2 : ((a : Int)) % 2 ^ i = 0 := by
      rw [← ha]
      have : ((2 : Int) ^ i) ∣ (18446744073709551616 : Int) := by
        refine ⟨2 ^ (64 - i), ?_⟩
        rw [← Int.pow_add, Nat.add_sub_cancel' hi]; rfl
      rw [Int.emod_emod_of_dvd _ this]; exact hx
    exact_mod_cast h2
  have hq : a = 2 ^ i * (a / 2 ^ i) := by have := Nat.div_add_mod a (2 ^ i); omega
  have ho : a ||| b = a + b := by
    rw [hq, ← Nat.two_pow_add_eq_or_of_lt hb (a / 2 ^ i)]
  have hX : (BitVec.ofInt 64 x).toNat = a := by rw [BitVec.toNat_ofInt]; show (x % 18446744073709551616).toNat = a; rw [ha]; rfl
  have hY : (BitVec.ofInt 64 (b : Int)).toNat = b := by rw [BitVec.ofInt_natCast, BitVec.toNat_ofNat]; exact Nat.mod_eq_of_lt hb'
  have hO : (BitVec.ofInt 64 x ||| BitVec.ofInt 64 (b : Int)).toNat = a + b := by rw [BitVec.toNat_or, hX, hY, ho]
  show IntKind.i64.wrap ((BitVec.ofInt 64 x ||| BitVec.ofInt 64 (b : Int)).toNat : Int) = _
  rw [hO, IntKind.wrap_i64]
  unfold wrap64
  push_cast
  omega

/-! ### Numbers -/
/-- s bytes of a number, the highest first. -/
def be : Nat → Int → List Int
  | 0, _ => []
  | s + 1, n => be s (n / 256) ++ [n % 256]
theorem be_length (s : Nat) : ∀ n, (be s n).length = s := by
  induction s with
  | zero => intro n; rfl
  | succ s ih => intro n; simp [be, ih]
theorem be_bytes (s : Nat) : ∀ n, Bytes (be s n) := by
  induction s with
  | zero => intro n; exact Bytes.nil
  | succ s ih => intro n; exact (ih _).append (Bytes.cons (by omega) (by omega) Bytes.nil)
theorem be_cons (s : Nat) : ∀ n, be (s + 1) n = (n / 256 ^ s) % 256 :: be s n := by
  induction s with
  | zero => intro n; simp [be]
  | succ s ih =>
    intro n
    rw [be, ih, be]
    rw [show n / 256 / 256 ^ s = n / 256 ^ (s + 1) by rw [Int.ediv_ediv_of_nonneg (by omega), Int.pow_succ, Int.mul_comm]]
    rfl
/-- How many bytes a number's body has (enough fuel: eight). -/
def sz : Nat → Int → Nat
  | 0, _ => 1
  | k + 1, n => if n < -128 then sz k (n / 256) + 1 else if n > 127 then sz k (n / 256) + 1 else 1
/-- A number's body. -/
def enc (n : Int) : List Int := be (sz 8 n) n
/-- n has at most k + 1 bytes. -/
def Fits : Nat → Int → Prop
  | 0, n => -128 ≤ n ∧ n ≤ 127
  | k + 1, n => Fits k (n / 256)
theorem fits_of {n : Int} (h0 : -9223372036854775808 ≤ n) (h1 : n ≤ 9223372036854775807) : Fits 7 n := by
  simp only [Fits]; omega
theorem fits_small {k : Nat} : ∀ {n : Int}, -128 ≤ n → n ≤ 127 → Fits k n := by
  induction k with
  | zero => intro n h0 h1; exact ⟨h0, h1⟩
  | succ k ih => intro n h0 h1; exact ih (by omega) (by omega)
theorem fits_succ {k : Nat} : ∀ {n : Int}, Fits k n → Fits (k + 1) n := by
  induction k with
  | zero => intro n h; obtain ⟨h0, h1⟩ := h; exact ⟨by omega, by omega⟩
  | succ k ih => intro n h; exact ih h
theorem sz_pos (k : Nat) (n : Int) : 1 ≤ sz k n := by
  cases k with
  | zero => exact Nat.le_refl _
  | succ k =>
    unfold sz
    split
    · omega
    · split <;> omega
theorem sz_le (k : Nat) : ∀ {n : Int} (K : Nat), Fits k n → sz K n ≤ k + 1 := by
  induction k with
  | zero =>
    intro n K h
    obtain ⟨h0, h1⟩ := h
    cases K with
    | zero => exact Nat.le_refl _
    | succ K => unfold sz; rw [if_neg (by omega), if_neg (by omega)]; exact Nat.le_refl _
  | succ k ih =>
    intro n K h
    cases K with
    | zero => exact Nat.le_add_left _ _
    | succ K =>
      have := ih K h
      unfold sz
      split
      · omega
      · split <;> omega
/-- More fuel changes nothing. -/
theorem sz_fuel (k : Nat) : ∀ {n : Int} (K : Nat), Fits k n → k ≤ K → sz K n = sz k n := by
  induction k with
  | zero =>
    intro n K h _
    obtain ⟨h0, h1⟩ := h
    cases K with
    | zero => rfl
    | succ K => unfold sz; rw [if_neg (by omega), if_neg (by omega)]
  | succ k ih =>
    intro n K h hk
    obtain ⟨K, rfl⟩ : ∃ m, K = m + 1 := ⟨K - 1, by omega⟩
    unfold sz
    rw [ih K h (by omega)]
theorem enc_small {n : Int} (h0 : -128 ≤ n) (h1 : n ≤ 127) : enc n = [n % 256] := by
  have : sz 8 n = 1 := by unfold sz; rw [if_neg (by omega), if_neg (by omega)]
  unfold enc; rw [this]; simp [be]
theorem enc_big {n : Int} (hf : Fits 7 n) (h : n < -128 ∨ 127 < n) : enc n = enc (n / 256) ++ [n % 256] := by
  have h2 : sz 8 n = sz 7 (n / 256) + 1 := by
    rw [sz]
    rcases h with h | h
    · rw [if_pos h]
    · rw [if_neg (by omega), if_pos h]
  have hf2 : Fits 7 (n / 256) := by simp only [Fits] at hf ⊢; omega
  have h3 : sz 8 (n / 256) = sz 7 (n / 256) := sz_fuel 7 8 hf2 (by omega)
  unfold enc; rw [h2, h3, be]
theorem enc_bytes (n : Int) : Bytes (enc n) := be_bytes _ _
theorem enc_length (n : Int) : (enc n).length = sz 8 n := be_length _ _
theorem enc_len_pos (n : Int) : 1 ≤ (enc n).length := by rw [enc_length]; exact sz_pos _ _
theorem enc_len_le {n : Int} (hf : Fits 7 n) : (enc n).length ≤ 8 := by rw [enc_length]; exact sz_le 7 8 hf

/-- A byte as a number with a sign. -/
def sg (c : Int) : Int := if c < 128 then c else c - 256
/-- On, by bytes. -/
def more (n : Int) (l : List Int) : Int := l.foldl (fun m c => m * 256 + c) n
theorem more_append (n : Int) (l : List Int) (c : Int) : more n (l ++ [c]) = more n l * 256 + c := by simp [more]
theorem more_cons (n c : Int) (l : List Int) : more n (c :: l) = more (n * 256 + c) l := rfl
/-- The number of a body, right or not. -/
def val : List Int → Int
  | [] => 0
  | c :: l => more (sg c) l
/-- A body that is not the shortest one. -/
def long : List Int → Prop
  | c :: d :: _ => c = 0 ∧ d < 128 ∨ c = 255 ∧ 128 ≤ d
  | _ => False
instance : (l : List Int) → Decidable (long l)
  | [] => inferInstanceAs (Decidable False)
  | [_] => inferInstanceAs (Decidable False)
  | c :: d :: _ => inferInstanceAs (Decidable (c = 0 ∧ d < 128 ∨ c = 255 ∧ 128 ≤ d))
theorem more_fits {k : Nat} : ∀ (l : List Int) {n : Int}, Bytes l → Fits k n → Fits (k + l.length) (more n l) := by
  intro l
  induction l generalizing k with
  | nil => intro n _ h; exact h
  | cons c l ih =>
    intro n hb h
    have hc := hb.head
    have : Fits (k + 1) (n * 256 + c) := by
      show Fits k ((n * 256 + c) / 256)
      rw [show (n * 256 + c) / 256 = n by omega]; exact h
    have := ih hb.tail this
    rw [more_cons, List.length_cons, show k + (l.length + 1) = k + 1 + l.length by omega]
    exact this
theorem sg_fits {c : Int} (h0 : 0 ≤ c) (h1 : c < 256) : Fits 0 (sg c) := by
  unfold sg; split <;> exact ⟨by omega, by omega⟩
theorem fits_mono {k K : Nat} (hk : k ≤ K) {n : Int} (h : Fits k n) : Fits K n := by
  induction hk with
  | refl => exact h
  | step _ ih => exact fits_succ ih
theorem fits_range {n : Int} (h : Fits 7 n) : -9223372036854775808 ≤ n ∧ n ≤ 9223372036854775807 := by
  simp only [Fits] at h; omega
/-- What is written of what is read: the body itself, just if it is the shortest one. -/
theorem enc_val (l : List Int) : ∀ (hb : Bytes l), 1 ≤ l.length → l.length ≤ 8 → (enc (val l) = l ↔ ¬ long l) := by
  suffices H : ∀ (m : Nat) (l : List Int), l.length = m → Bytes l → 1 ≤ l.length → l.length ≤ 8 → ((enc (val l) = l ↔ ¬ long l) ∧ Fits (l.length - 1) (val l)) from
    fun hb h0 h1 => (H _ l rfl hb h0 h1).1
  intro m
  induction m with
  | zero => intro l h _ h0; omega
  | succ m ih =>
    intro l hl hb h0 h8
    rcases List.eq_nil_or_concat l with rfl | ⟨r, c, rfl⟩
    · simp at h0
    rw [List.concat_eq_append] at hl hb h0 h8 ⊢
    have hc : 0 ≤ c ∧ c < 256 := hb.right.head
    cases r with
    | nil =>
      simp only [List.nil_append, val, more, List.foldl_nil, long, not_false_iff, iff_true]
      have hs := sg_fits hc.1 hc.2
      refine ⟨?_, hs⟩
      rw [enc_small hs.1 hs.2]
      have : sg c % 256 = c := by unfold sg; split <;> omega
      rw [this]
    | cons b r =>
      have hr := ih (b :: r) (by simp at hl ⊢; omega) hb.left (by simp) (by simp at h8 ⊢; omega)
      obtain ⟨hr1, hr2⟩ := hr
      have hv : val (b :: r ++ [c]) = val (b :: r) * 256 + c := by
        show more (sg b) (r ++ [c]) = _
        rw [more_append]; rfl
      have hd : (val (b :: r) * 256 + c) / 256 = val (b :: r) := by omega
      have hmod : (val (b :: r) * 256 + c) % 256 = c := by omega
      have hf : Fits ((b :: r ++ [c]).length - 1) (val (b :: r ++ [c])) := by
        rw [hv, show (b :: r ++ [c]).length - 1 = (b :: r).length - 1 + 1 by simp]
        show Fits _ ((val (b :: r) * 256 + c) / 256)
        rw [hd]; exact hr2
      refine ⟨?_, hf⟩
      have hf7 : Fits 7 (val (b :: r) * 256 + c) := by rw [← hv]; exact fits_mono (by simp at h8 ⊢; omega) hf
      rw [hv]
      have hb0 := hb.left.head
      by_cases hsm : -128 ≤ val (b :: r) * 256 + c ∧ val (b :: r) * 256 + c ≤ 127
      · -- the number is small: the body is too long
        rw [enc_small hsm.1 hsm.2, hmod]
        have hne : ¬ [c] = b :: r ++ [c] := by
          intro h; have := congrArg List.length h; simp at this
        have hlong : long (b :: r ++ [c]) := by
          cases r with
          | nil =>
            have hv1 : val [b] = sg b := rfl
            rw [hv1] at hsm
            show b = 0 ∧ c < 128 ∨ b = 255 ∧ 128 ≤ c
            unfold sg at hsm
            split at hsm <;> omega
          | cons d r =>
            have hl2 : long (b :: d :: r) := by
              by_cases hl2 : long (b :: d :: r)
              · exact hl2
              · have h2 := hr1.mpr hl2
                have : -128 ≤ val (b :: d :: r) ∧ val (b :: d :: r) ≤ 127 := by omega
                rw [enc_small this.1 this.2] at h2
                have := congrArg List.length h2
                simp at this
            exact hl2
        exact ⟨fun h => absurd h hne, fun h => absurd hlong h⟩
      · have hbig : val (b :: r) * 256 + c < -128 ∨ 127 < val (b :: r) * 256 + c := by omega
        rw [enc_big hf7 hbig, hd, hmod]
        have hiff : enc (val (b :: r)) ++ [c] = b :: r ++ [c] ↔ enc (val (b :: r)) = b :: r := by
          constructor
          · intro h; exact List.append_cancel_right h
          · intro h; rw [h]
        rw [hiff, hr1]
        cases r with
        | nil =>
          have hv1 : val [b] = sg b := rfl
          rw [hv1] at hbig
          have : ¬ long ([b] ++ [c]) := by
            show ¬ (b = 0 ∧ c < 128 ∨ b = 255 ∧ 128 ≤ c)
            unfold sg at hbig
            split at hbig <;> omega
          exact ⟨fun _ => this, fun _ => fun h => h⟩
        | cons d r => exact Iff.rfl
theorem val_fits (l : List Int) (hb : Bytes l) (h0 : 1 ≤ l.length) : Fits (l.length - 1) (val l) := by
  cases l with
  | nil => simp at h0
  | cons c l =>
    have := more_fits l hb.tail (sg_fits hb.head.1 hb.head.2)
    simpa [val] using this
/-- What is read of what is written. -/
theorem val_enc {n : Int} (hf : Fits 7 n) : val (enc n) = n := by
  suffices H : ∀ k n, Fits k n → k ≤ 7 → val (enc n) = n from H 7 n hf (by omega)
  intro k
  induction k with
  | zero =>
    intro n h _
    rw [enc_small h.1 h.2]
    show sg (n % 256) = n
    obtain ⟨h0, h1⟩ := h
    unfold sg; split <;> omega
  | succ k ih =>
    intro n h hk
    have hf7 : Fits 7 n := fits_mono hk h
    by_cases hs : -128 ≤ n ∧ n ≤ 127
    · rw [enc_small hs.1 hs.2]
      show sg (n % 256) = n
      unfold sg; split <;> omega
    · rw [enc_big hf7 (by omega)]
      have h2 := ih (n / 256) h (by omega)
      have hp := enc_len_pos (n / 256)
      cases he : enc (n / 256) with
      | nil => rw [he] at hp; simp at hp
      | cons c l =>
        rw [he] at h2
        show more (sg c) (l ++ [n % 256]) = n
        rw [more_append]
        have : more (sg c) l = n / 256 := h2
        rw [this]; omega
theorem enc_not_long {n : Int} (hf : Fits 7 n) : ¬ long (enc n) := by
  have := (enc_val (enc n) (enc_bytes n) (enc_len_pos n) (enc_len_le hf)).1
  rw [val_enc hf] at this
  exact this rfl

end Go.Proofs.YtkceebgncfggjaaDoorQ
