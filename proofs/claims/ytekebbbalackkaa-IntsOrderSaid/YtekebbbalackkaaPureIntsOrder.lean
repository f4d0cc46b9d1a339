/- IntsOrder: of two numbers that are not below 0, with bodies of alike length, the greater one's body stands behind the other one's; a shorter body is of a number nearer to 0: for all numbers of 64 bits. -/
import Derived.Test.YtekebbbalackkaaPAx10
import Derived.Test.YtekebbbalackkaaPureNums
import Derived.Test.YtekebbbalackkaaPureHead
set_option linter.unusedVariables false
set_option linter.unusedSimpArgs false
namespace Go.Proofs.Ytekebbbalackkaa.Pure
open Go.RowKit Go.Proofs.Ytekebbbalackkaa.PA Go.Proofs.YtekebbbalackkaaW.PrintWords Go.Proofs.YtekebbbalackkaaW.PrintLast Go.Proofs.YtekebbbalackkaaQ

theorem be_less (s : Nat) : ∀ (a b : Nat), Op.bytesLess ((be s (a : Int)).map (fun x => UInt8.ofNat x.toNat)) ((be s (b : Int)).map (fun x => UInt8.ofNat x.toNat)) = decide (a % 256 ^ s < b % 256 ^ s) := by
  induction s with
  | zero =>
    intro a b
    rw [decide_eq_false (by simp [Nat.mod_one])]
    rfl
  | succ s ih =>
    intro a b
    rw [be_cons, be_cons]
    have ea : ∀ m : Nat, ((m : Int) / 256 ^ s % 256) = ((m / 256 ^ s % 256 : Nat) : Int) := by intro m; rw [Int.natCast_emod, Int.natCast_ediv, Int.natCast_pow]; rfl
    rw [ea, ea, List.map_cons, List.map_cons, Op.bytesLess, ih]
    simp only [Int.toNat_natCast]
    have hP : 0 < 256 ^ s := Nat.pow_pos (by decide)
    have ha := Nat.mod_lt a hP
    have hb := Nat.mod_lt b hP
    have hqa := Nat.mod_lt (a / 256 ^ s) (show 0 < 256 by decide)
    have hqb := Nat.mod_lt (b / 256 ^ s) (show 0 < 256 by decide)
    rw [Nat.pow_succ, Nat.mod_mul, Nat.mod_mul]
    generalize a / 256 ^ s % 256 = qa at *
    generalize b / 256 ^ s % 256 = qb at *
    generalize a % 256 ^ s = ra at *
    generalize b % 256 ^ s = rb at *
    generalize 256 ^ s = P at *
    have hlt : (UInt8.ofNat qa < UInt8.ofNat qb) = (qa < qb) := by
      rw [UInt8.lt_iff_toNat_lt]; simp only [UInt8.toNat_ofNat', show qa % 2 ^ 8 = qa by omega, show qb % 2 ^ 8 = qb by omega]
    have heq : (UInt8.ofNat qa == UInt8.ofNat qb) = decide (qa = qb) := by
      by_cases h : qa = qb
      · subst h; simp
      · rw [decide_eq_false h]
        refine beq_eq_false_iff_ne.mpr fun h2 => h ?_
        have h3 := congrArg UInt8.toNat h2
        simp only [UInt8.toNat_ofNat'] at h3
        omega
    rw [heq]
    simp only [hlt]
    rcases Nat.lt_trichotomy qa qb with h | h | h
    · have : P * (qa + 1) ≤ P * qb := Nat.mul_le_mul_left _ h
      rw [Nat.mul_add, Nat.mul_one] at this
      rw [decide_eq_true h, decide_eq_true (show ra + P * qa < rb + P * qb by omega)]; rfl
    · subst h
      rw [decide_eq_false (Nat.lt_irrefl _), decide_eq_true rfl]
      simp only [Bool.false_or, Bool.true_and]
      by_cases hr : ra < rb
      · rw [decide_eq_true hr, decide_eq_true (by omega)]
      · rw [decide_eq_false hr, decide_eq_false (by omega)]
    · have : P * (qb + 1) ≤ P * qa := Nat.mul_le_mul_left _ h
      rw [Nat.mul_add, Nat.mul_one] at this
      rw [decide_eq_false (show ¬ qa < qb by omega), decide_eq_false (show ¬ qa = qb by omega), decide_eq_false (show ¬ ra + P * qa < rb + P * qb by omega)]; rfl
theorem fits_sz (k : Nat) : ∀ {n : Int}, Fits k n → Fits (sz k n - 1) n := by
  induction k with
  | zero => intro n h; exact h
  | succ k ih =>
    intro n h
    rw [sz]
    have hp := sz_pos k (n / 256)
    have h2 := ih (n := n / 256) h
    have h3 : Fits (sz k (n / 256) + 1 - 1) n := by
      rw [show sz k (n / 256) + 1 - 1 = (sz k (n / 256) - 1) + 1 by omega]; exact h2
    split
    · exact h3
    · split
      · exact h3
      · exact ⟨by omega, by omega⟩
theorem fits_lt (k : Nat) : ∀ {n : Int}, Fits k n → n < 256 ^ (k + 1) := by
  induction k with
  | zero => intro n h; have := h.2; omega
  | succ k ih =>
    intro n h
    have h2 := ih (n := n / 256) h
    rw [Int.pow_succ]
    generalize (256 : Int) ^ (k + 1) = P at *
    omega
theorem enc_less {a b : Int} (fa : Fits 7 a) (fb : Fits 7 b) (ha : 0 ≤ a) (hb : 0 ≤ b) (hl : (enc a).length = (enc b).length) :
    Op.bytesLess (strOfNums (enc a)).toList (strOfNums (enc b)).toList = decide (a < b) := by
  rw [strOf_list, strOf_list]
  have la := fits_lt _ (fits_sz 7 fa)
  have lb := fits_lt _ (fits_sz 7 fb)
  have pa := sz_pos 7 a
  have pb := sz_pos 7 b
  rw [show sz 7 a - 1 + 1 = sz 8 a by rw [sz_fuel 7 8 fa (by omega)]; omega] at la
  rw [show sz 7 b - 1 + 1 = sz 8 b by rw [sz_fuel 7 8 fb (by omega)]; omega] at lb
  rw [enc_length, enc_length] at hl
  unfold enc
  rw [hl] at la ⊢
  obtain ⟨m, rfl⟩ := Int.eq_ofNat_of_zero_le ha
  obtain ⟨n, rfl⟩ := Int.eq_ofNat_of_zero_le hb
  rw [be_less]
  have e : (256 : Int) ^ sz 8 (n : Int) = ((256 ^ sz 8 (n : Int) : Nat) : Int) := by rw [Int.natCast_pow]; rfl
  rw [e] at la lb
  have la' : m < 256 ^ sz 8 (n : Int) := Int.ofNat_lt.mp la
  have lb' : n < 256 ^ sz 8 (n : Int) := Int.ofNat_lt.mp lb
  rw [Nat.mod_eq_of_lt la', Nat.mod_eq_of_lt lb']
  by_cases h : m < n
  · rw [decide_eq_true h, decide_eq_true (by omega)]
  · rw [decide_eq_false h, decide_eq_false (by omega)]
theorem sz_up (k : Nat) : ∀ {a b : Int}, 0 ≤ a → a ≤ b → sz k a ≤ sz k b := by
  induction k with
  | zero => intro a b _ _; exact Nat.le_refl _
  | succ k ih =>
    intro a b h0 h
    have := ih (a := a / 256) (b := b / 256) (by omega) (by omega)
    rw [sz, sz]
    rw [if_neg (show ¬ a < -128 by omega), if_neg (show ¬ b < -128 by omega)]
    by_cases h1 : a > 127
    · rw [if_pos h1, if_pos (by omega)]; omega
    · rw [if_neg h1]; split <;> omega
theorem sz_down (k : Nat) : ∀ {a b : Int}, a ≤ b → b < 0 → sz k b ≤ sz k a := by
  induction k with
  | zero => intro a b _ _; exact Nat.le_refl _
  | succ k ih =>
    intro a b h h0
    have := ih (a := a / 256) (b := b / 256) (by omega) (by omega)
    rw [sz, sz]
    rw [if_neg (show ¬ a > 127 by omega), if_neg (show ¬ b > 127 by omega)]
    by_cases h1 : b < -128
    · rw [if_pos h1, if_pos (by omega)]; omega
    · rw [if_neg h1]; split <;> omega

theorem IntsOrder : warderlaw02_IntsOrder.Pure := by
  intro a b hna hnb
  have fa : Fits 7 a := by
    have h := hna
    simp only [Lit.wf, Bool.and_eq_true, decide_eq_true_eq] at h
    exact fits_of h.1 h.2
  have fb : Fits 7 b := by
    have h := hnb
    simp only [Lit.wf, Bool.and_eq_true, decide_eq_true_eq] at h
    exact fits_of h.1 h.2
  have a1 := enc_len_pos a
  have a8 := enc_len_le fa
  have b1 := enc_len_pos b
  have b8 := enc_len_le fb
  refine Ev.rounds (Ev.congr (fun k => by unfold warderlaw02_IntsOrder.f; rfl) ?_)
  refine Ev.bind head_true (Ev.bind (put_int fa) (Ev.bind (put_int fb) ?_))
  refine Ev_neg (by omega) (Ev_neg (by omega) (Ev_neg (by omega) ?_))
  rw [decide_eq_false (by omega)]
  refine Ev.step (f := fun _ => some true) (fun k => ?_) (Ev.now _)
  simp only [warderlaw02_IntsOrder.j0]
  rw [if_neg (by decide)]
  have up : 0 ≤ a → 0 ≤ b → (enc a).length < (enc b).length → a < b := by
    intro h0 h1 h
    rw [enc_length, enc_length] at h
    by_cases hle : b ≤ a
    · have := sz_up 8 h1 hle; omega
    · omega
  have down : a < 0 → b < 0 → (enc a).length < (enc b).length → b < a := by
    intro h0 h1 h
    rw [enc_length, enc_length] at h
    by_cases hle : a ≤ b
    · have := sz_down 8 hle h1; omega
    · omega
  by_cases ha : a ≥ 0
  · rw [if_pos ha]
    by_cases hb : b ≥ 0
    · rw [if_pos hb]
      by_cases hl : ((enc a).length : Int) = ((enc b).length : Int)
      · rw [if_pos hl, enc_less fa fb ha hb (by omega), if_neg (by simp), if_pos trivial, if_neg (by omega), if_neg (by omega)]; rfl
      · rw [if_neg hl, if_pos trivial]
        by_cases hlt : ((enc a).length : Int) < ((enc b).length : Int)
        · have := up ha hb (by omega)
          rw [if_pos hlt, if_neg (by omega), if_neg (by omega)]; rfl
        · rw [if_neg hlt, if_neg (by omega)]; rfl
    · rw [if_neg hb, if_pos trivial, if_neg (by omega)]; rfl
  · rw [if_neg ha, if_pos trivial, if_pos (by omega)]
    by_cases hb : b < 0
    · rw [if_pos hb]
      by_cases hlt : ((enc a).length : Int) < ((enc b).length : Int)
      · have := down (by omega) hb (by omega)
        rw [if_pos hlt, decide_eq_false (by omega)]; rfl
      · rw [if_neg hlt]; rfl
    · rw [if_neg hb]; rfl
end Go.Proofs.Ytekebbbalackkaa.Pure
