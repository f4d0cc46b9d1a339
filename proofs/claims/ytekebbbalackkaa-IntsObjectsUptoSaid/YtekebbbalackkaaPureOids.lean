/- Objects' bodies: what the printed functions OID (the program's and the reference's) answer, in plain mathematics: of bodies of at most 2^43 bytes. No condition beside those in each theorem's own line. -/
import Derived.Test.YtekebbbalackkaaPurePutOids
import Derived.Test.YtekebbbalackkaaPAx6
import Derived.Test.YtekebbbalackkaaHOID
import Derived.Test.YtekebbbalackkaaPAx1
set_option linter.unusedVariables false
set_option linter.unusedSimpArgs false
namespace Go.Proofs.YtekebbbalackkaaQ
open Go.RowKit Go.Proofs.YtekebbbalackkaaW.PrintWords Go.Proofs.YtekebbbalackkaaW.PrintLast Go.Proofs.YtekebbbalackkaaW.PrintMore Go.Proofs.Ytekebbbalackkaa.PA

/-- What is told of a body: nothing, or an object whose body it is. -/
def Tells (b : List Int) (r : List Int × Int) : Prop := r = ([], 22) ∨ ∃ o, r = (o, 0) ∧ IsObj o ∧ encO o = b
theorem push_len (o : List Int) (n : Int) : (push o n).length ≤ o.length + 2 := by
  unfold push two; split
  · simp
  · simp
theorem two_of_mn {n : Int} (h : Arc n) : [mn (wrap64 (Int.tdiv n 40)) 2, wrap64 (n - wrap64 (40 * mn (wrap64 (Int.tdiv n 40)) 2))] = two n := by
  obtain ⟨h0, h1⟩ := h
  have e : wrap64 (Int.tdiv n 40) = n / 40 := by rw [Int.tdiv_eq_ediv_of_nonneg h0, w64 (by omega) (by omega)]
  have e2 : mn (n / 40) 2 = fst2 n := rfl
  have hf : 0 ≤ fst2 n ∧ fst2 n ≤ 2 := by unfold fst2; split <;> omega
  rw [e, e2, w64 (n := 40 * fst2 n) (by omega) (by omega), w64 (by omega) (by omega)]
  rfl

/-! ### The program's -/
theorem prog_strict (b : List Int) (hb : Bytes b) (hl : b.length ≤ 8796093022208) (o : List Int) : Ev (fun k => ints_strict_int.f k b o 22) (if IsObj o ∧ encO o = b then (o, 0) else ([], 22)) := by
  by_cases ho : IsObj o
  · have e1 : putOf o = (encO o, 0) := if_pos ho
    have h1 : Ev (fun k => ints_OID_1.f k o b) (encO o) := by
      refine Ev.bind (prog_put o) ?_
      rw [e1]
      exact Ev_pos rfl (Ev.now _)
    refine Ev.bind h1 ?_
    rw [show bytes_Equal.f (encO o) b = some (decide (encO o = b)) by unfold bytes_Equal.f; rw [strOf_eq (encO_bytes ho) hb]]
    simp only [Option.bind_some]
    by_cases he : encO o = b
    · rw [decide_eq_true he, if_pos rfl, if_pos ⟨ho, he⟩]; exact Ev.now _
    · rw [decide_eq_false he, if_neg (by decide), if_neg (fun h => he h.2)]; exact Ev.now _
  · have e1 : putOf o = ([], 22) := if_neg ho
    have h1 : Ev (fun k => ints_OID_1.f k o b) (0 :: b) := by
      refine Ev.bind (prog_put o) ?_
      rw [e1]
      refine Ev_neg (by decide) ?_
      simp only [Option.bind_some]
      rw [if_pos (by simp; omega)]
      exact Ev.now _
    refine Ev.bind h1 ?_
    have hne : ¬ (0 :: b = b) := fun h => by have := congrArg List.length h; simp at this
    rw [show bytes_Equal.f (0 :: b) b = some (decide (0 :: b = b)) by unfold bytes_Equal.f; rw [strOf_eq (Bytes.cons (by omega) (by omega) hb) hb]]
    simp only [Option.bind_some]
    rw [decide_eq_false hne, if_neg (by decide), if_neg (fun h => ho h.1)]
    exact Ev.now _
theorem prog_end (b : List Int) (hb : Bytes b) (hl : b.length ≤ 8796093022208) (o : List Int) (n : Int) (i : Nat) (hi : b.length ≤ i) : Ev (fun k => ints_OID.l0 k b o n b b.length i) (if IsObj o ∧ encO o = b then (o, 0) else ([], 22)) := by
  refine Ev.step (f := fun k => (ints_strict_int.f k b o 22).bind fun t => some (t.1, t.2)) (fun k => ?_) (Ev.bind (prog_strict b hb hl o) (Ev.now _))
  simp only [ints_OID.l0]
  rw [if_neg (by omega)]
theorem prog_hi (b : List Int) (hb : Bytes b) (hl : b.length ≤ 8796093022208) (o : List Int) (n : Int) (i : Nat) (hi : i < b.length) (h128 : 128 ≤ b.getD i 0) (hn0 : 0 ≤ n) (hn : n ≤ 268435455) {r : List Int × Int}
    (h : if n * 128 + (b.getD i 0 - 128) > 268435455 then r = ([], 22) else Ev (fun k => ints_OID.l0 k b o (n * 128 + (b.getD i 0 - 128)) b b.length ((i + 1 : Nat) : Int)) r) : Ev (fun k => ints_OID.l0 k b o n b b.length i) r := by
  have hc := bytes_getD hb hi
  have e1 : wrap64 (wrap64 (n * 128) + wrap64 (bits .and .u8 (b.getD i 0) 127)) = n * 128 + (b.getD i 0 - 128) := by
    rw [and127 hc.1 hc.2, w64 (n := n * 128) (by omega) (by omega), w64 (n := b.getD i 0 % 128) (by omega) (by omega), w64 (by omega) (by omega)]; omega
  by_cases hbig : n * 128 + (b.getD i 0 - 128) > 268435455
  · rw [if_pos hbig] at h
    rw [h]
    refine Ev.step (f := fun _ => some ([], 22)) (fun k => ?_) (Ev.now _)
    simp only [ints_OID.l0]
    rw [if_pos (by omega), if_pos (by omega), if_pos (by omega), rd_nat, e1, if_pos hbig]
  · rw [if_neg hbig] at h
    refine Ev.step (fun k => ?_) h
    simp only [ints_OID.l0]
    rw [if_pos (by omega), if_pos (by omega), if_pos (by omega), rd_nat, e1, if_neg hbig, if_pos (by omega),
      show wrap64 ((i : Int) + 1) = ((i + 1 : Nat) : Int) by rw [w64 (by omega) (by omega)]; omega]
theorem prog_lo (b : List Int) (hb : Bytes b) (hl : b.length ≤ 8796093022208) (o : List Int) (n : Int) (i : Nat) (hi : i < b.length) (h128 : b.getD i 0 < 128) (hn0 : 0 ≤ n) (hn : n ≤ 268435455) (ho : o.length ≤ i + 1) {r : List Int × Int}
    (h : if n * 128 + b.getD i 0 > 268435455 then r = ([], 22) else Ev (fun k => ints_OID.l0 k b (push o (n * 128 + b.getD i 0)) 0 b b.length ((i + 1 : Nat) : Int)) r) : Ev (fun k => ints_OID.l0 k b o n b b.length i) r := by
  have hc := bytes_getD hb hi
  have e1 : wrap64 (wrap64 (n * 128) + wrap64 (bits .and .u8 (b.getD i 0) 127)) = n * 128 + b.getD i 0 := by
    rw [and127 hc.1 hc.2, w64 (n := n * 128) (by omega) (by omega), w64 (n := b.getD i 0 % 128) (by omega) (by omega), w64 (by omega) (by omega)]; omega
  by_cases hbig : n * 128 + b.getD i 0 > 268435455
  · rw [if_pos hbig] at h
    rw [h]
    refine Ev.step (f := fun _ => some ([], 22)) (fun k => ?_) (Ev.now _)
    simp only [ints_OID.l0]
    rw [if_pos (by omega), if_pos (by omega), if_pos (by omega), rd_nat, e1, if_pos hbig]
  · rw [if_neg hbig] at h
    refine Ev.step (fun k => ?_) h
    simp only [ints_OID.l0]
    rw [if_pos (by omega), if_pos (by omega), if_pos (by omega), rd_nat, e1, if_neg hbig, if_neg (by omega),
      show wrap64 ((i : Int) + 1) = ((i + 1 : Nat) : Int) by rw [w64 (by omega) (by omega)]; omega]
    by_cases h0 : o = []
    · subst h0
      rw [if_pos (by simp), two_of_mn ⟨by omega, by omega⟩, Option.bind_some, if_pos (by simp [two])]
      rfl
    · have : o.length ≠ 0 := fun h => h0 (List.length_eq_zero_iff.mp h)
      rw [if_neg (by omega), if_pos (by omega), show push o (n * 128 + b.getD i 0) = o ++ [n * 128 + b.getD i 0] by unfold push; rw [if_neg h0]]
/-- Whatever the body: an answer that tells it. -/
theorem prog_run (b : List Int) (hb : Bytes b) (hl : b.length ≤ 8796093022208) (d : Nat) : ∀ (i : Nat) (o : List Int) (n : Int), i + d = b.length → 0 ≤ n → n ≤ 268435455 → o.length ≤ i + 1 →
    ∃ r, Ev (fun k => ints_OID.l0 k b o n b b.length i) r ∧ Tells b r := by
  induction d with
  | zero =>
    intro i o n hi _ _ _
    refine ⟨_, prog_end b hb hl o n i (by omega), ?_⟩
    by_cases h : IsObj o ∧ encO o = b
    · rw [if_pos h]; exact Or.inr ⟨o, rfl, h.1, h.2⟩
    · rw [if_neg h]; exact Or.inl rfl
  | succ d ih =>
    intro i o n hi h0 h1 ho
    have hlt : i < b.length := by omega
    have hc := bytes_getD hb hlt
    by_cases h128 : 128 ≤ b.getD i 0
    · by_cases hbig : n * 128 + (b.getD i 0 - 128) > 268435455
      · exact ⟨([], 22), prog_hi b hb hl o n i hlt h128 h0 h1 (by rw [if_pos hbig]), Or.inl rfl⟩
      · obtain ⟨r, hr, ht⟩ := ih (i + 1) o (n * 128 + (b.getD i 0 - 128)) (by omega) (by omega) (by omega) (by omega)
        exact ⟨r, prog_hi b hb hl o n i hlt h128 h0 h1 (by rw [if_neg hbig]; exact hr), ht⟩
    · by_cases hbig : n * 128 + b.getD i 0 > 268435455
      · exact ⟨([], 22), prog_lo b hb hl o n i hlt (by omega) h0 h1 ho (by rw [if_pos hbig]), Or.inl rfl⟩
      · obtain ⟨r, hr, ht⟩ := ih (i + 1) (push o (n * 128 + b.getD i 0)) 0 (by omega) (by omega) (by omega) (by
          unfold push two; split
          · rename_i h; subst h; simp <;> omega
          · simp <;> omega)
        exact ⟨r, prog_lo b hb hl o n i hlt (by omega) h0 h1 ho (by rw [if_neg hbig]; exact hr), ht⟩
/-- One number's digits. -/
theorem prog_dg (b : List Int) (hb : Bytes b) (hl : b.length ≤ 8796093022208) (o : List Int) (n : Int) (hn : Arc n) (i : Nat) (rest : List Int) (hd : b.drop i = dg n ++ rest) (ho : o.length ≤ i + 1) {r : List Int × Int}
    (h : Ev (fun k => ints_OID.l0 k b (push o n) 0 b b.length ((i + (dg n).length : Nat) : Int)) r) : Ev (fun k => ints_OID.l0 k b o 0 b b.length i) r := by
  obtain ⟨h0, h1⟩ := hn
  have at_ : ∀ j : Nat, (dg n ++ rest).getD j 0 = b.getD (i + j) 0 := by
    intro j; rw [← hd, List.getD_eq_getElem?_getD, List.getElem?_drop, ← List.getD_eq_getElem?_getD]
  have hlen : b.length - i = (dg n).length + rest.length := by rw [← List.length_drop, hd, List.length_append]
  have hl1 := (dg_len n).1
  unfold dg at at_ hlen h hl1
  by_cases a : n < 128
  · rw [if_pos a] at at_ hlen h
    have g0 : b.getD i 0 = n := (at_ 0).symm
    simp only [List.length_cons, List.length_nil] at hlen h
    exact prog_lo b hb hl o 0 i (by omega) (by omega) (by omega) (by omega) ho (by rw [g0, if_neg (by omega), show (0 : Int) * 128 + n = n by omega]; exact h)
  · rw [if_neg a] at at_ hlen h
    by_cases bb : n < 16384
    · rw [if_pos bb] at at_ hlen h
      have g0 : b.getD i 0 = n / 128 + 128 := (at_ 0).symm
      have g1 : b.getD (i + 1) 0 = n % 128 := (at_ 1).symm
      simp only [List.length_cons, List.length_nil] at hlen h
      refine prog_hi b hb hl o 0 i (by omega) (by omega) (by omega) (by omega) ?_
      rw [g0, if_neg (by omega)]
      refine prog_lo b hb hl o _ (i + 1) (by omega) (by omega) (by omega) (by omega) (by omega) ?_
      rw [g1, if_neg (by omega), show (0 * 128 + (n / 128 + 128 - 128)) * 128 + n % 128 = n by omega]
      exact h
    · rw [if_neg bb] at at_ hlen h
      by_cases c : n < 2097152
      · rw [if_pos c] at at_ hlen h
        have g0 : b.getD i 0 = n / 16384 + 128 := (at_ 0).symm
        have g1 : b.getD (i + 1) 0 = n / 128 % 128 + 128 := (at_ 1).symm
        have g2 : b.getD (i + 1 + 1) 0 = n % 128 := (at_ 2).symm
        simp only [List.length_cons, List.length_nil] at hlen h
        refine prog_hi b hb hl o 0 i (by omega) (by omega) (by omega) (by omega) ?_
        rw [g0, if_neg (by omega)]
        refine prog_hi b hb hl o _ (i + 1) (by omega) (by omega) (by omega) (by omega) ?_
        rw [g1, if_neg (by omega)]
        refine prog_lo b hb hl o _ (i + 1 + 1) (by omega) (by omega) (by omega) (by omega) (by omega) ?_
        rw [g2, if_neg (by omega), show ((0 * 128 + (n / 16384 + 128 - 128)) * 128 + (n / 128 % 128 + 128 - 128)) * 128 + n % 128 = n by omega]
        exact h
      · rw [if_neg c] at at_ hlen h
        have g0 : b.getD i 0 = n / 2097152 + 128 := (at_ 0).symm
        have g1 : b.getD (i + 1) 0 = n / 16384 % 128 + 128 := (at_ 1).symm
        have g2 : b.getD (i + 1 + 1) 0 = n / 128 % 128 + 128 := (at_ 2).symm
        have g3 : b.getD (i + 1 + 1 + 1) 0 = n % 128 := (at_ 3).symm
        simp only [List.length_cons, List.length_nil] at hlen h
        refine prog_hi b hb hl o 0 i (by omega) (by omega) (by omega) (by omega) ?_
        rw [g0, if_neg (by omega)]
        refine prog_hi b hb hl o _ (i + 1) (by omega) (by omega) (by omega) (by omega) ?_
        rw [g1, if_neg (by omega)]
        refine prog_hi b hb hl o _ (i + 1 + 1) (by omega) (by omega) (by omega) (by omega) ?_
        rw [g2, if_neg (by omega)]
        refine prog_lo b hb hl o _ (i + 1 + 1 + 1) (by omega) (by omega) (by omega) (by omega) (by omega) ?_
        rw [g3, if_neg (by omega), show (((0 * 128 + (n / 2097152 + 128 - 128)) * 128 + (n / 16384 % 128 + 128 - 128)) * 128 + (n / 128 % 128 + 128 - 128)) * 128 + n % 128 = n by omega]
        exact h
theorem prog_dgs (b : List Int) (hb : Bytes b) (hl : b.length ≤ 8796093022208) (l : List Int) : ∀ (o : List Int) (i : Nat), (∀ x ∈ l, Arc x) → b.drop i = dgs l → o.length ≤ i + 1 →
    Ev (fun k => ints_OID.l0 k b o 0 b b.length i) (if IsObj (l.foldl push o) ∧ encO (l.foldl push o) = b then (l.foldl push o, 0) else ([], 22)) := by
  induction l with
  | nil =>
    intro o i _ hd _
    have : b.length ≤ i := by
      have h := congrArg List.length hd
      rw [List.length_drop] at h
      simp [dgs] at h
      omega
    exact prog_end b hb hl o 0 i this
  | cons n l ih =>
    intro o i ha hd ho
    rw [dgs_cons] at hd
    have hn := ha n (List.mem_cons_self ..)
    have hl1 := (dg_len n).1
    refine prog_dg b hb hl o n hn i _ hd ho ?_
    rw [List.foldl_cons]
    refine ih (push o n) (i + (dg n).length) (fun x hx => ha x (List.mem_cons_of_mem _ hx)) ?_ ?_
    · rw [← List.drop_drop, hd, List.drop_left]
    · unfold push two; split
      · rename_i h; subst h; simp <;> omega
      · simp <;> omega

/-! ### The reference's -/
theorem ref_end (b : List Int) (hb : Bytes b) (hl : b.length ≤ 8796093022208) (o : List Int) (i : Nat) (hi : b.length ≤ i) : Ev (fun k => warderref02_OID.l0 k b o i) (if o.length < 2 then ([], 22) else (o, 0)) := by
  refine Ev.step (f := fun _ => some (if o.length < 2 then ([], 22) else (o, 0))) (fun k => ?_) (Ev.now _)
  simp only [warderref02_OID.l0]
  rw [if_neg (by omega)]
  by_cases h : o.length < 2
  · rw [if_pos (by omega), if_pos h]
  · rw [if_neg (by omega), if_neg h]
theorem ref_first (b : List Int) (hb : Bytes b) (hl : b.length ≤ 8796093022208) (o : List Int) (i : Nat) (hi : i < b.length) {r : List Int × Int} (h : if b.getD i 0 = 128 then r = ([], 22) else Ev (fun k => warderref02_OID.l1 k b o i 0) r) : Ev (fun k => warderref02_OID.l0 k b o i) r := by
  by_cases h128 : b.getD i 0 = 128
  · rw [if_pos h128] at h
    rw [h]
    refine Ev.step (f := fun _ => some ([], 22)) (fun k => ?_) (Ev.now _)
    simp only [warderref02_OID.l0]
    rw [if_pos (by omega), if_pos (by omega), rd_nat, if_pos h128]
  · rw [if_neg h128] at h
    refine Ev.step (fun k => ?_) h
    simp only [warderref02_OID.l0]
    rw [if_pos (by omega), if_pos (by omega), rd_nat, if_neg h128]
theorem ref_hi (b : List Int) (hb : Bytes b) (hl : b.length ≤ 8796093022208) (o : List Int) (n : Int) (i : Nat) (hi : i < b.length) (h128 : 128 ≤ b.getD i 0) (hn0 : 0 ≤ n) (hn : n ≤ 268435455) {r : List Int × Int}
    (h : if n * 128 + (b.getD i 0 - 128) > 268435455 then r = ([], 22) else Ev (fun k => warderref02_OID.l1 k b o ((i + 1 : Nat) : Int) (n * 128 + (b.getD i 0 - 128))) r) : Ev (fun k => warderref02_OID.l1 k b o i n) r := by
  have hc := bytes_getD hb hi
  have e1 : bits .or .i64 (wrap64 (n * 128)) (wrap64 (bits .and .u8 (b.getD i 0) 127)) = n * 128 + (b.getD i 0 - 128) := by
    rw [and127 hc.1 hc.2, w64 (n := n * 128) (by omega) (by omega), w64 (n := b.getD i 0 % 128) (by omega) (by omega), or_add 7 (by decide) (by omega) (by omega) (by omega), w64 (by omega) (by omega)]; omega
  refine Ev.step (f := fun k => warderref02_OID.j2 k b o i n true) (fun k => ?_) ?_
  · simp only [warderref02_OID.l1]
    rw [if_pos (by omega), if_pos (by omega), rd_nat, decide_eq_true (by omega)]
  by_cases hbig : n * 128 + (b.getD i 0 - 128) > 268435455
  · rw [if_pos hbig] at h
    rw [h]
    refine Ev.step (f := fun _ => some ([], 22)) (fun k => ?_) (Ev.now _)
    simp only [warderref02_OID.j2]
    rw [if_pos trivial, if_pos (by omega), if_pos (by omega), rd_nat, e1, if_pos hbig]
  · rw [if_neg hbig] at h
    refine Ev.step (fun k => ?_) h
    simp only [warderref02_OID.j2]
    rw [if_pos trivial, if_pos (by omega), if_pos (by omega), rd_nat, e1, if_neg hbig, show wrap64 ((i : Int) + 1) = ((i + 1 : Nat) : Int) by rw [w64 (by omega) (by omega)]; omega]
theorem ref_out (b : List Int) (hb : Bytes b) (hl : b.length ≤ 8796093022208) (o : List Int) (n : Int) (i : Nat) (hi : b.length ≤ i) : Ev (fun k => warderref02_OID.l1 k b o i n) ([], 22) := by
  refine Ev.step (f := fun k => warderref02_OID.j2 k b o i n false) (fun k => ?_) (Ev.step (f := fun _ => some ([], 22)) (fun k => ?_) (Ev.now _))
  · simp only [warderref02_OID.l1]
    rw [if_neg (by omega)]
  · simp only [warderref02_OID.j2]
    rw [if_neg (by decide), if_pos (by omega)]
theorem ref_lo (b : List Int) (hb : Bytes b) (hl : b.length ≤ 8796093022208) (o : List Int) (n : Int) (i : Nat) (hi : i < b.length) (h128 : b.getD i 0 < 128) (hn0 : 0 ≤ n) (hn : n ≤ 268435455) {r : List Int × Int}
    (h : if n * 128 + b.getD i 0 > 268435455 ∨ 16 ≤ o.length then r = ([], 22) else Ev (fun k => warderref02_OID.l0 k b (push o (n * 128 + b.getD i 0)) ((i + 1 : Nat) : Int)) r) : Ev (fun k => warderref02_OID.l1 k b o i n) r := by
  have hc := bytes_getD hb hi
  have e1 : bits .or .i64 (wrap64 (n * 128)) (wrap64 (b.getD i 0)) = n * 128 + b.getD i 0 := by
    rw [w64 (n := n * 128) (by omega) (by omega), w64 (n := b.getD i 0) (by omega) (by omega), or_add 7 (by decide) (by omega) (by omega) (by omega), w64 (by omega) (by omega)]
  refine Ev.step (f := fun k => warderref02_OID.j2 k b o i n false) (fun k => ?_) ?_
  · simp only [warderref02_OID.l1]
    rw [if_pos (by omega), if_pos (by omega), rd_nat, decide_eq_false (by omega)]
  refine Ev.step (f := fun k => warderref02_OID.j3 k b o ((i + 1 : Nat) : Int) (n * 128 + b.getD i 0) (decide (n * 128 + b.getD i 0 > 268435455 ∨ 16 ≤ o.length))) (fun k => ?_) ?_
  · simp only [warderref02_OID.j2]
    rw [if_neg (by decide), if_neg (by omega), if_pos (by omega), if_pos (by omega), rd_nat, e1, show wrap64 ((i : Int) + 1) = ((i + 1 : Nat) : Int) by rw [w64 (by omega) (by omega)]; omega]
    by_cases hbig : n * 128 + b.getD i 0 > 268435455
    · rw [if_pos hbig, decide_eq_true (Or.inl hbig)]
    · rw [if_neg hbig]
      have : decide ((o.length : Int) ≥ 16) = decide (n * 128 + b.getD i 0 > 268435455 ∨ 16 ≤ o.length) := decide_eq_decide.mpr ⟨fun h => Or.inr (by omega), fun h => by rcases h with h | h <;> omega⟩
      rw [this]
  by_cases hbad : n * 128 + b.getD i 0 > 268435455 ∨ 16 ≤ o.length
  · rw [if_pos hbad] at h
    rw [h, decide_eq_true hbad]
    refine Ev.step (f := fun _ => some ([], 22)) (fun k => ?_) (Ev.now _)
    simp only [warderref02_OID.j3]
    rw [if_pos trivial]
  · rw [if_neg hbad] at h
    rw [decide_eq_false hbad]
    have hn1 : n * 128 + b.getD i 0 ≤ 268435455 := by
      by_cases h : n * 128 + b.getD i 0 > 268435455
      · exact absurd (Or.inl h) hbad
      · omega
    have hn2 : o.length < 16 := by
      by_cases h : 16 ≤ o.length
      · exact absurd (Or.inr h) hbad
      · omega
    refine Ev.step (fun k => ?_) h
    simp only [warderref02_OID.j3]
    rw [if_neg (by decide)]
    by_cases h0 : o = []
    · subst h0
      rw [if_neg (by simp), two_of_mn ⟨by omega, by omega⟩, Option.bind_some, if_pos (by simp [two])]
      rfl
    · have : o.length ≠ 0 := fun h => h0 (List.length_eq_zero_iff.mp h)
      rw [if_pos (by omega), if_pos (by omega), show push o (n * 128 + b.getD i 0) = o ++ [n * 128 + b.getD i 0] by unfold push; rw [if_neg h0]]
/-- The arcs that were read, with the bytes that were read. -/
def Read (b : List Int) (o : List Int) (i : Nat) : Prop := (o = [] ∧ i = 0) ∨ (IsObj o ∧ encO o = b.take i)
theorem read_more (b : List Int) (hb : Bytes b) (hl : b.length ≤ 8796093022208) {o : List Int} {i j : Nat} (hr : Read b o i) (hij : i ≤ j) (hj : j ≤ b.length) {n : Int} (hn : Arc n) (ho : o.length < 16) (hd : b.take j = b.take i ++ dg n) : Read b (push o n) j := by
  rcases hr with ⟨rfl, rfl⟩ | ⟨h1, h2⟩
  · refine Or.inr ⟨?_, ?_⟩
    · exact (two_obj hn).1
    · rw [hd]
      show dgs (subs (two n)) = _
      rw [(two_obj hn).2]; simp [dgs]
  · obtain ⟨h3, h4⟩ := push_snoc h1 ho hn
    exact Or.inr ⟨h3, by rw [h4, h2, hd]⟩
/-- Whatever the body: an answer that tells it. -/
theorem ref_run (b : List Int) (hb : Bytes b) (hl : b.length ≤ 8796093022208) (d : Nat) : (∀ (i : Nat) (o : List Int), i + d = b.length → Read b o i → ∃ r, Ev (fun k => warderref02_OID.l0 k b o i) r ∧ Tells b r) ∧
    (∀ (s i : Nat) (o : List Int) (n : Int), i + d = b.length → s ≤ i → Read b o s → Arc n → (n = 0 ∧ s = i ∧ b.getD i 0 ≠ 128 ∨ 1 ≤ n ∧ b.take i = b.take s ++ dgH n) → ∃ r, Ev (fun k => warderref02_OID.l1 k b o i n) r ∧ Tells b r) := by
  induction d with
  | zero =>
    refine ⟨?_, ?_⟩
    · intro i o hi hr
      refine ⟨_, ref_end b hb hl o i (by omega), ?_⟩
      by_cases h2 : o.length < 2
      · rw [if_pos h2]; exact Or.inl rfl
      · rw [if_neg h2]
        rcases hr with ⟨rfl, _⟩ | ⟨h1, h2⟩
        · simp at h2
        · refine Or.inr ⟨o, rfl, h1, ?_⟩
          rw [h2, List.take_of_length_le (by omega)]
    · intro s i o n hi _ _ _ _
      exact ⟨_, ref_out b hb hl o n i (by omega), Or.inl rfl⟩
  | succ d ih =>
    obtain ⟨ih0, ih1⟩ := ih
    have inner : ∀ (s i : Nat) (o : List Int) (n : Int), i + (d + 1) = b.length → s ≤ i → Read b o s → Arc n → (n = 0 ∧ s = i ∧ b.getD i 0 ≠ 128 ∨ 1 ≤ n ∧ b.take i = b.take s ++ dgH n) → ∃ r, Ev (fun k => warderref02_OID.l1 k b o i n) r ∧ Tells b r := by
      intro s i o n hi hs hr hn hst
      have hlt : i < b.length := by omega
      have hc := bytes_getD hb hlt
      have htake : b.take (i + 1) = b.take i ++ [b.getD i 0] := by
        rw [List.take_succ_eq_append_getElem hlt, List.getD_eq_getElem?_getD, List.getElem?_eq_getElem hlt]; rfl
      by_cases h128 : 128 ≤ b.getD i 0
      · by_cases hbig : n * 128 + (b.getD i 0 - 128) > 268435455
        · exact ⟨([], 22), ref_hi b hb hl o n i hlt h128 hn.1 hn.2 (by rw [if_pos hbig]), Or.inl rfl⟩
        · have hst2 : (n * 128 + (b.getD i 0 - 128) = 0 ∧ s = i + 1 ∧ b.getD (i + 1) 0 ≠ 128 ∨ 1 ≤ n * 128 + (b.getD i 0 - 128) ∧ b.take (i + 1) = b.take s ++ dgH (n * 128 + (b.getD i 0 - 128))) := by
            rcases hst with ⟨rfl, rfl, hne⟩ | ⟨h1, h2⟩
            · refine Or.inr ⟨by omega, ?_⟩
              rw [htake]
              have : dgH (0 * 128 + (b.getD s 0 - 128)) = [b.getD s 0] := by
                unfold dgH; rw [if_pos (by omega)]
                rw [show (0 : Int) * 128 + (b.getD s 0 - 128) + 128 = b.getD s 0 by omega]
              rw [this]
            · refine Or.inr ⟨by omega, ?_⟩
              rw [htake, h2, dgH_more h1 (by omega) (by omega) (by omega), List.append_assoc, show b.getD i 0 - 128 + 128 = b.getD i 0 by omega]
          obtain ⟨r, h3, h4⟩ := ih1 s (i + 1) o (n * 128 + (b.getD i 0 - 128)) (by omega) (by omega) hr ⟨by have := hn.1; omega, by omega⟩ hst2
          exact ⟨r, ref_hi b hb hl o n i hlt h128 hn.1 hn.2 (by rw [if_neg hbig]; exact h3), h4⟩
      · by_cases hbad : n * 128 + b.getD i 0 > 268435455 ∨ 16 ≤ o.length
        · exact ⟨([], 22), ref_lo b hb hl o n i hlt (by omega) hn.1 hn.2 (by rw [if_pos hbad]), Or.inl rfl⟩
        · have hn1 : n * 128 + b.getD i 0 ≤ 268435455 := by
            by_cases h : n * 128 + b.getD i 0 > 268435455
            · exact absurd (Or.inl h) hbad
            · omega
          have hn2 : o.length < 16 := by
            by_cases h : 16 ≤ o.length
            · exact absurd (Or.inr h) hbad
            · omega
          have hrd : Read b (push o (n * 128 + b.getD i 0)) (i + 1) := by
            refine read_more b hb hl hr (by omega) (by omega) ⟨by have := hn.1; omega, hn1⟩ hn2 ?_
            rw [htake]
            rcases hst with ⟨rfl, rfl, hne⟩ | ⟨h1, h2⟩
            · have : dg (0 * 128 + b.getD s 0) = [b.getD s 0] := by
                rw [show (0 : Int) * 128 + b.getD s 0 = b.getD s 0 by omega]
                unfold dg; rw [if_pos (by omega)]
              rw [this]
            · rw [h2, dg_more h1 (by omega) (by omega) hn1, List.append_assoc]
          obtain ⟨r, h3, h4⟩ := ih0 (i + 1) (push o (n * 128 + b.getD i 0)) (by omega) hrd
          exact ⟨r, ref_lo b hb hl o n i hlt (by omega) hn.1 hn.2 (by rw [if_neg hbad]; exact h3), h4⟩
    refine ⟨?_, inner⟩
    intro i o hi hr
    by_cases h128 : b.getD i 0 = 128
    · exact ⟨([], 22), ref_first b hb hl o i (by omega) (by rw [if_pos h128]), Or.inl rfl⟩
    · obtain ⟨r, h3, h4⟩ := inner i i o 0 hi (Nat.le_refl _) hr ⟨by omega, by omega⟩ (Or.inl ⟨rfl, rfl, h128⟩)
      exact ⟨r, ref_first b hb hl o i (by omega) (by rw [if_neg h128]; exact h3), h4⟩
/-- One number's digits. -/
theorem ref_dg (b : List Int) (hb : Bytes b) (hl : b.length ≤ 8796093022208) (o : List Int) (n : Int) (hn : Arc n) (i : Nat) (rest : List Int) (hd : b.drop i = dg n ++ rest) (ho : o.length < 16) {r : List Int × Int}
    (h : Ev (fun k => warderref02_OID.l0 k b (push o n) ((i + (dg n).length : Nat) : Int)) r) : Ev (fun k => warderref02_OID.l0 k b o i) r := by
  obtain ⟨h0, h1⟩ := hn
  have at_ : ∀ j : Nat, (dg n ++ rest).getD j 0 = b.getD (i + j) 0 := by
    intro j; rw [← hd, List.getD_eq_getElem?_getD, List.getElem?_drop, ← List.getD_eq_getElem?_getD]
  have hlen : b.length - i = (dg n).length + rest.length := by rw [← List.length_drop, hd, List.length_append]
  have hl1 := (dg_len n).1
  unfold dg at at_ hlen h hl1
  by_cases a : n < 128
  · rw [if_pos a] at at_ hlen h
    have g0 : b.getD i 0 = n := (at_ 0).symm
    simp only [List.length_cons, List.length_nil] at hlen h
    refine ref_first b hb hl o i (by omega) ?_
    rw [g0, if_neg (by omega)]
    exact ref_lo b hb hl o 0 i (by omega) (by omega) (by omega) (by omega) (by rw [g0, if_neg (by omega), show (0 : Int) * 128 + n = n by omega]; exact h)
  · rw [if_neg a] at at_ hlen h
    by_cases bb : n < 16384
    · rw [if_pos bb] at at_ hlen h
      have g0 : b.getD i 0 = n / 128 + 128 := (at_ 0).symm
      have g1 : b.getD (i + 1) 0 = n % 128 := (at_ 1).symm
      simp only [List.length_cons, List.length_nil] at hlen h
      refine ref_first b hb hl o i (by omega) ?_
      rw [g0, if_neg (by omega)]
      refine ref_hi b hb hl o 0 i (by omega) (by omega) (by omega) (by omega) ?_
      rw [g0, if_neg (by omega)]
      refine ref_lo b hb hl o _ (i + 1) (by omega) (by omega) (by omega) (by omega) ?_
      rw [g1, if_neg (by omega), show (0 * 128 + (n / 128 + 128 - 128)) * 128 + n % 128 = n by omega]
      exact h
    · rw [if_neg bb] at at_ hlen h
      by_cases c : n < 2097152
      · rw [if_pos c] at at_ hlen h
        have g0 : b.getD i 0 = n / 16384 + 128 := (at_ 0).symm
        have g1 : b.getD (i + 1) 0 = n / 128 % 128 + 128 := (at_ 1).symm
        have g2 : b.getD (i + 1 + 1) 0 = n % 128 := (at_ 2).symm
        simp only [List.length_cons, List.length_nil] at hlen h
        refine ref_first b hb hl o i (by omega) ?_
        rw [g0, if_neg (by omega)]
        refine ref_hi b hb hl o 0 i (by omega) (by omega) (by omega) (by omega) ?_
        rw [g0, if_neg (by omega)]
        refine ref_hi b hb hl o _ (i + 1) (by omega) (by omega) (by omega) (by omega) ?_
        rw [g1, if_neg (by omega)]
        refine ref_lo b hb hl o _ (i + 1 + 1) (by omega) (by omega) (by omega) (by omega) ?_
        rw [g2, if_neg (by omega), show ((0 * 128 + (n / 16384 + 128 - 128)) * 128 + (n / 128 % 128 + 128 - 128)) * 128 + n % 128 = n by omega]
        exact h
      · rw [if_neg c] at at_ hlen h
        have g0 : b.getD i 0 = n / 2097152 + 128 := (at_ 0).symm
        have g1 : b.getD (i + 1) 0 = n / 16384 % 128 + 128 := (at_ 1).symm
        have g2 : b.getD (i + 1 + 1) 0 = n / 128 % 128 + 128 := (at_ 2).symm
        have g3 : b.getD (i + 1 + 1 + 1) 0 = n % 128 := (at_ 3).symm
        simp only [List.length_cons, List.length_nil] at hlen h
        refine ref_first b hb hl o i (by omega) ?_
        rw [g0, if_neg (by omega)]
        refine ref_hi b hb hl o 0 i (by omega) (by omega) (by omega) (by omega) ?_
        rw [g0, if_neg (by omega)]
        refine ref_hi b hb hl o _ (i + 1) (by omega) (by omega) (by omega) (by omega) ?_
        rw [g1, if_neg (by omega)]
        refine ref_hi b hb hl o _ (i + 1 + 1) (by omega) (by omega) (by omega) (by omega) ?_
        rw [g2, if_neg (by omega)]
        refine ref_lo b hb hl o _ (i + 1 + 1 + 1) (by omega) (by omega) (by omega) (by omega) ?_
        rw [g3, if_neg (by omega), show (((0 * 128 + (n / 2097152 + 128 - 128)) * 128 + (n / 16384 % 128 + 128 - 128)) * 128 + (n / 128 % 128 + 128 - 128)) * 128 + n % 128 = n by omega]
        exact h
theorem ref_dgs (b : List Int) (hb : Bytes b) (hl : b.length ≤ 8796093022208) (l : List Int) : ∀ (o : List Int) (i : Nat), (∀ x ∈ l, Arc x) → b.drop i = dgs l → (o = [] ∧ l.length ≤ 15 ∨ o ≠ [] ∧ o.length + l.length ≤ 16) →
    Ev (fun k => warderref02_OID.l0 k b o i) (if (l.foldl push o).length < 2 then ([], 22) else (l.foldl push o, 0)) := by
  induction l with
  | nil =>
    intro o i _ hd _
    have : b.length ≤ i := by
      have h := congrArg List.length hd
      rw [List.length_drop] at h
      simp [dgs] at h
      omega
    exact ref_end b hb hl o i this
  | cons n l ih =>
    intro o i ha hd ho
    rw [dgs_cons] at hd
    have hn := ha n (List.mem_cons_self ..)
    have hl1 := (dg_len n).1
    refine ref_dg b hb hl o n hn i _ hd (by
      rcases ho with ⟨h1, h⟩ | ⟨_, h⟩
      · rw [h1]; exact Nat.zero_lt_succ _
      · rw [List.length_cons] at h; omega) ?_
    rw [List.foldl_cons]
    refine ih (push o n) (i + (dg n).length) (fun x hx => ha x (List.mem_cons_of_mem _ hx)) ?_ ?_
    · rw [← List.drop_drop, hd, List.drop_left]
    · rcases ho with ⟨rfl, h⟩ | ⟨h1, h⟩
      · refine Or.inr ⟨by simp [push, two], ?_⟩
        rw [List.length_cons] at h
        show 2 + l.length ≤ 16
        omega
      · rw [List.length_cons] at h
        have e : push o n = o ++ [n] := by unfold push; rw [if_neg h1]
        refine Or.inr ⟨by rw [e]; simp, ?_⟩
        rw [e, List.length_append, List.length_singleton]; omega
/-- What OID answers, of both. -/
theorem oid_same {b : List Int} (hb : Bytes b) (hl : b.length ≤ 8796093022208) :
    ∃ r, Ev (fun k => ints_OID.f k b) r ∧ Ev (fun k => warderref02_OID.f k b) r ∧ Tells b r ∧ (∀ o, IsObj o → encO o = b → r = (o, 0)) := by
  obtain ⟨r, hp, tp⟩ := prog_run b hb hl b.length 0 [] 0 (by omega) (by omega) (by omega) (by simp)
  obtain ⟨q, hq, tq⟩ := (ref_run b hb hl b.length).1 0 [] (by omega) (Or.inl ⟨rfl, rfl⟩)
  have uniq : ∀ {g : Nat → Option (List Int × Int)} {x y : List Int × Int}, Ev g x → Ev g y → x = y := by
    intro g x y ⟨K, h⟩ ⟨K', h'⟩
    have a := h (max K K') (Nat.le_max_left ..)
    have c := h' (max K K') (Nat.le_max_right ..)
    exact Option.some.inj (a.symm.trans c)
  have pdec : ∀ o, IsObj o → encO o = b → r = (o, 0) := by
    intro o ho he
    have := prog_dgs b hb hl (subs o) [] 0 ho.arcs (by rw [List.drop_zero, ← he]; rfl) (by simp)
    rw [foldl_subs ho, if_pos ⟨ho, he⟩] at this
    exact uniq hp this
  have qdec : ∀ o, IsObj o → encO o = b → q = (o, 0) := by
    intro o ho he
    have := ref_dgs b hb hl (subs o) [] 0 ho.arcs (by rw [List.drop_zero, ← he]; rfl) (Or.inl ⟨rfl, by have := ho.1; have := ho.2.1; simp [subs]; omega⟩)
    rw [foldl_subs ho, if_neg (by have := ho.1; omega)] at this
    exact uniq hq this
  have e : r = q := by
    rcases tp with h | ⟨o, h, ho, he⟩
    · rcases tq with h' | ⟨o, h', ho, he⟩
      · rw [h, h']
      · rw [h', pdec o ho he]
    · rw [h, qdec o ho he]
  refine ⟨r, ?_, ?_, tp, pdec⟩
  · exact hp
  · rw [e]; exact hq
end Go.Proofs.YtekebbbalackkaaQ
