/- NodesSets: words, printed functions and plain laws that the claim uses, laid by a program of this session's. No condition beside those in each theorem's own line. -/
import Derived.Test.YtkceebgncfggjaaDoorZS10
import Derived.Test.YtkceebgncfggjaaDoorZS27
set_option linter.unusedVariables false
set_option linter.unusedSimpArgs false
namespace Go.Proofs.YtkceebgncfggjaaDoorQ
open Go.RowKit Go.Proofs.YtkceebgncfggjaaDoorW.PrintWords Go.Proofs.YtkceebgncfggjaaDoorW.PrintLast Go.Proofs.YtkceebgncfggjaaDoorW.PrintMore Go.Proofs.YtkceebgncfggjaaDoor.PQ
def Tells (b : List Int) (r : List Int × Int) : Prop := r = ([], 22) ∨ ∃ o, r = (o, 0) ∧ IsObj o ∧ encO o = b
theorem two_of_mn {n : Int} (h : Arc n) : [mn (wrap64 (Int.tdiv n 40)) 2, wrap64 (n - wrap64 (40 * mn (wrap64 (Int.tdiv n 40)) 2))] = two n := by
  obtain ⟨h0, h1⟩ := h
  have e : wrap64 (Int.tdiv n 40) = n / 40 := by rw [Int.tdiv_eq_ediv_of_nonneg h0, w64 (by omega) (by omega)]
  have e2 : mn (n / 40) 2 = fst2 n := rfl
  have hf : 0 ≤ fst2 n ∧ fst2 n ≤ 2 := by unfold fst2; split <;> omega
  rw [e, e2, w64 (n := 40 * fst2 n) (by omega) (by omega), w64 (by omega) (by omega)]
  rfl
theorem prog_strict (b : List Int) (hb : Bytes b) (hl : b.length ≤ 8796093022208) (o : List Int) : Ev (fun k => ints_strict_int.f k b o 22) (if IsObj o ∧ encO o = b then (o, 0) else ([], 22)) := by
  by_cases ho : IsObj o
  · have e1 : putOf o = (encO o, 0) := if_pos ho
    have h1 : Ev (fun k => ints_OID_1.f k o b) (encO o) := by
      refine Ev.bind (prog_put o) ?_
      rw [e1]
      exact Ev_pos rfl (Ev.now _)
    refine Ev.bind h1 ?_
    rw [show bytes_Equal.f (encO o) b = some (decide (encO o = b)) by unfold bytes_Equal.f; rw [strOf_eq (encO_bytes ho) hb]]
    simp only [Option.bind_some]
    by_cases he : encO o = b
    · rw [decide_eq_true he, if_pos rfl, if_pos ⟨ho, he⟩]; exact Ev.now _
    · rw [decide_eq_false he, if_neg (by decide), if_neg (fun h => he h.2)]; exact Ev.now _
  · have e1 : putOf o = ([], 22) := if_neg ho
    have h1 : Ev (fun k => ints_OID_1.f k o b) (0 :: b) := by
      refine Ev.bind (prog_put o) ?_
      rw [e1]
      refine Ev_neg (by decide) ?_
      simp only [Option.bind_some]
      rw [if_pos (by simp; omega)]
      exact Ev.now _
    refine Ev.bind h1 ?_
    have hne : ¬ (0 :: b = b) := fun h => by have := congrArg List.length h; simp at this
    rw [show bytes_Equal.f (0 :: b) b = some (decide (0 :: b = b)) by unfold bytes_Equal.f; rw [strOf_eq (Bytes.cons (by omega) (by omega) hb) hb]]
    simp only [Option.bind_some]
    rw [decide_eq_false hne, if_neg (by decide), if_neg (fun h => ho h.1)]
    exact Ev.now _
theorem prog_end (b : List Int) (hb : Bytes b) (hl : b.length ≤ 8796093022208) (o : List Int) (n : Int) (i : Nat) (hi : b.length ≤ i) : Ev (fun k => ints_OID.l0 k b o n b b.length i) (if IsObj o ∧ encO o = b then (o, 0) else ([], 22)) := by
  refine Ev.step (f := fun k => (ints_strict_int.f k b o 22).bind fun t => some (t.1, t.2)) (fun k => ?_) (Ev.bind (prog_strict b hb hl o) (Ev.now _))
  simp only [ints_OID.l0]
  rw [if_neg (by omega)]
theorem prog_hi (b : List Int) (hb : Bytes b) (hl : b.length ≤ 8796093022208) (o : List Int) (n : Int) (i : Nat) (hi : i < b.length) (h128 : 128 ≤ b.getD i 0) (hn0 : 0 ≤ n) (hn : n ≤ 268435455) {r : List Int × Int}
    (h : if n * 128 + (b.getD i 0 - 128) > 268435455 then r = ([], 22) else Ev (fun k => ints_OID.l0 k b o (n * 128 + (b.getD i 0 - 128)) b b.length ((i + 1 : Nat) : Int)) r) : Ev (fun k => ints_OID.l0 k b o n b b.length i) r := by
  have hc := bytes_getD hb hi
  have e1 : wrap64 (wrap64 (n * 128) + wrap64 (bits .and .u8 (b.getD i 0) 127)) = n * 128 + (b.getD i 0 - 128) := by
    rw [and127 hc.1 hc.2, w64 (n := n * 128) (by omega) (by omega), w64 (n := b.getD i 0 % 128) (by omega) (by omega), w64 (by omega) (by omega)]; omega
  by_cases hbig : n * 128 + (b.getD i 0 - 128) > 268435455
  · rw [if_pos hbig] at h
    rw [h]
    refine Ev.step (f := fun _ => some ([], 22)) (fun k => ?_) (Ev.now _)
    simp only [ints_OID.l0]
    rw [if_pos (by omega), if_pos (by omega), if_pos (by omega), rd_nat, e1, if_pos hbig]
  · rw [if_neg hbig] at h
    refine Ev.step (fun k => ?_) h
    simp only [ints_OID.l0]
    rw [if_pos (by omega), if_pos (by omega), if_pos (by omega), rd_nat, e1, if_neg hbig, if_pos (by omega),
      show wrap64 ((i : Int) + 1) = ((i + 1 : Nat) : Int) by rw [w64 (by omega) (by omega)]; omega]
theorem prog_lo (b : List Int) (hb : Bytes b) (hl : b.length ≤ 8796093022208) (o : List Int) (n : Int) (i : Nat) (hi : i < b.length) (h128 : b.getD i 0 < 128) (hn0 : 0 ≤ n) (hn : n ≤ 268435455) (ho : o.length ≤ i + 1) {r : List Int × Int}
    (h : if n * 128 + b.getD i 0 > 268435455 then r = ([], 22) else Ev (fun k => ints_OID.l0 k b (push o (n * 128 + b.getD i 0)) 0 b b.length ((i + 1 : Nat) : Int)) r) : Ev (fun k => ints_OID.l0 k b o n b b.length i) r := by
  have hc := bytes_getD hb hi
  have e1 : wrap64 (wrap64 (n * 128) + wrap64 (bits .and .u8 (b.getD i 0) 127)) = n * 128 + b.getD i 0 := by
    rw [and127 hc.1 hc.2, w64 (n := n * 128) (by omega) (by omega), w64 (n := b.getD i 0 % 128) (by omega) (by omega), w64 (by omega) (by omega)]; omega
  by_cases hbig : n * 128 + b.getD i 0 > 268435455
  · rw [if_pos hbig] at h
    rw [h]
    refine Ev.step (f := fun _ => some ([], 22)) (fun k => ?_) (Ev.now _)
    simp only [ints_OID.l0]
    rw [if_pos (by omega), if_pos (by omega), if_pos (by omega), rd_nat, e1, if_pos hbig]
  · rw [if_neg hbig] at h
    refine Ev.step (fun k => ?_) h
    simp only [ints_OID.l0]
    rw [if_pos (by omega), if_pos (by omega), if_pos (by omega), rd_nat, e1, if_neg hbig, if_neg (by omega),
      show wrap64 ((i : Int) + 1) = ((i + 1 : Nat) : Int) by rw [w64 (by omega) (by omega)]; omega]
    by_cases h0 : o = []
    · subst h0
      rw [if_pos (by simp), two_of_mn ⟨by omega, by omega⟩, Option.bind_some, if_pos (by simp [two])]
      rfl
    · have : o.length ≠ 0 := fun h => h0 (List.length_eq_zero_iff.mp h)
      rw [if_neg (by omega), if_pos (by omega), show push o (n * 128 + b.getD i 0) = o ++ [n * 128 + b.getD i 0] by unfold push; rw [if_neg h0]]
theorem prog_run (b : List Int) (hb : Bytes b) (hl : b.length ≤ 8796093022208) (d : Nat) : ∀ (i : Nat) (o : List Int) (n : Int), i + d = b.length → 0 ≤ n → n ≤ 268435455 → o.length ≤ i + 1 →
    ∃ r, Ev (fun k => ints_OID.l0 k b o n b b.length i) r ∧ Tells b r := by
  induction d with
  | zero =>
    intro i o n hi _ _ _
    refine ⟨_, prog_end b hb hl o n i (by omega), ?_⟩
    by_cases h : IsObj o ∧ encO o = b
    · rw [if_pos h]; exact Or.inr ⟨o, rfl, h.1, h.2⟩
    · rw [if_neg h]; exact Or.inl rfl
  | succ d ih =>
    intro i o n hi h0 h1 ho
    have hlt : i < b.length := by omega
    have hc := bytes_getD hb hlt
    by_cases h128 : 128 ≤ b.getD i 0
    · by_cases hbig : n * 128 + (b.getD i 0 - 128) > 268435455
      · exact ⟨([], 22), prog_hi b hb hl o n i hlt h128 h0 h1 (by rw [if_pos hbig]), Or.inl rfl⟩
      · obtain ⟨r, hr, ht⟩ := ih (i + 1) o (n * 128 + (b.getD i 0 - 128)) (by omega) (by omega) (by omega) (by omega)
        exact ⟨r, prog_hi b hb hl o n i hlt h128 h0 h1 (by rw [if_neg hbig]; exact hr), ht⟩
    · by_cases hbig : n * 128 + b.getD i 0 > 268435455
      · exact ⟨([], 22), prog_lo b hb hl o n i hlt (by omega) h0 h1 ho (by rw [if_pos hbig]), Or.inl rfl⟩
      · obtain ⟨r, hr, ht⟩ := ih (i + 1) (push o (n * 128 + b.getD i 0)) 0 (by omega) (by omega) (by omega) (by
          unfold push two; split
          · rename_i h; subst h; simp <;> omega
          · simp <;> omega)
        exact ⟨r, prog_lo b hb hl o n i hlt (by omega) h0 h1 ho (by rw [if_neg hbig]; exact hr), ht⟩
theorem prog_dg (b : List Int) (hb : Bytes b) (hl : b.length ≤ 8796093022208) (o : List Int) (n : Int) (hn : Arc n) (i : Nat) (rest : List Int) (hd : b.drop i = dg n ++ rest) (ho : o.length ≤ i + 1) {r : List Int × Int}
    (h : Ev (fun k => ints_OID.l0 k b (push o n) 0 b b.length ((i + (dg n).length : Nat) : Int)) r) : Ev (fun k => ints_OID.l0 k b o 0 b b.length i) r := by
  obtain ⟨h0, h1⟩ := hn
  have at_ : ∀ j : Nat, (dg n ++ rest).getD j 0 = b.getD (i + j) 0 := by
    intro j; rw [← hd, List.getD_eq_getElem?_getD, List.getElem?_drop, ← List.getD_eq_getElem?_getD]
  have hlen : b.length - i = (dg n).length + rest.length := by rw [← List.length_drop, hd, List.length_append]
  have hl1 := (dg_len n).1
  unfold dg at at_ hlen h hl1
  by_cases a : n < 128
  · rw [if_pos a] at at_ hlen h
    have g0 : b.getD i 0 = n := (at_ 0).symm
    simp only [List.length_cons, List.length_nil] at hlen h
    exact prog_lo b hb hl o 0 i (by omega) (by omega) (by omega) (by omega) ho (by rw [g0, if_neg (by omega), show (0 : Int) * 128 + n = n by omega]; exact h)
  · rw [if_neg a] at at_ hlen h
    by_cases bb : n < 16384
    · rw [if_pos bb] at at_ hlen h
      have g0 : b.getD i 0 = n / 128 + 128 := (at_ 0).symm
      have g1 : b.getD (i + 1) 0 = n % 128 := (at_ 1).symm
      simp only [List.length_cons, List.length_nil] at hlen h
      refine prog_hi b hb hl o 0 i (by omega) (by omega) (by omega) (by omega) ?_
      rw [g0, if_neg (by omega)]
      refine prog_lo b hb hl o _ (i + 1) (by omega) (by omega) (by omega) (by omega) (by omega) ?_
      rw [g1, if_neg (by omega), show (0 * 128 + (n / 128 + 128 - 128)) * 128 + n % 128 = n by omega]
      exact h
    · rw [if_neg bb] at at_ hlen h
      by_cases c : n < 2097152
      · rw [if_pos c] at at_ hlen h
        have g0 : b.getD i 0 = n / 16384 + 128 := (at_ 0).symm
        have g1 : b.getD (i + 1) 0 = n / 128 % 128 + 128 := (at_ 1).symm
        have g2 : b.getD (i + 1 + 1) 0 = n % 128 := (at_ 2).symm
        simp only [List.length_cons, List.length_nil] at hlen h
        refine prog_hi b hb hl o 0 i (by omega) (by omega) (by omega) (by omega) ?_
        rw [g0, if_neg (by omega)]
        refine prog_hi b hb hl o _ (i + 1) (by omega) (by omega) (by omega) (by omega) ?_
        rw [g1, if_neg (by omega)]
        refine prog_lo b hb hl o _ (i + 1 + 1) (by omega) (by omega) (by omega) (by omega) (by omega) ?_
        rw [g2, if_neg (by omega), show ((0 * 128 + (n / 16384 + 128 - 128)) * 128 + (n / 128 % 128 + 128 - 128)) * 128 + n % 128 = n by omega]
        exact h
      · rw [if_neg c] at at_ hlen h
        have g0 : b.getD i 0 = n / 2097152 + 128 := (at_ 0).symm
        have g1 : b.getD (i + 1) 0 = n / 16384 % 128 + 128 := (at_ 1).symm
        have g2 : b.getD (i + 1 + 1) 0 = n / 128 % 128 + 128 := (at_ 2).symm
        have g3 : b.getD (i + 1 + 1 + 1) 0 = n % 128 := (at_ 3).symm
        simp only [List.length_cons, List.length_nil] at hlen h
        refine prog_hi b hb hl o 0 i (by omega) (by omega) (by omega) (by omega) ?_
        rw [g0, if_neg (by omega)]
        refine prog_hi b hb hl o _ (i + 1) (by omega) (by omega) (by omega) (by omega) ?_
        rw [g1, if_neg (by omega)]
        refine prog_hi b hb hl o _ (i + 1 + 1) (by omega) (by omega) (by omega) (by omega) ?_
        rw [g2, if_neg (by omega)]
        refine prog_lo b hb hl o _ (i + 1 + 1 + 1) (by omega) (by omega) (by omega) (by omega) (by omega) ?_
        rw [g3, if_neg (by omega), show (((0 * 128 + (n / 2097152 + 128 - 128)) * 128 + (n / 16384 % 128 + 128 - 128)) * 128 + (n / 128 % 128 + 128 - 128)) * 128 + n % 128 = n by omega]
        exact h
theorem prog_dgs (b : List Int) (hb : Bytes b) (hl : b.length ≤ 8796093022208) (l : List Int) : ∀ (o : List Int) (i : Nat), (∀ x ∈ l, Arc x) → b.drop i = dgs l → o.length ≤ i + 1 →
    Ev (fun k => ints_OID.l0 k b o 0 b b.length i) (if IsObj (l.foldl push o) ∧ encO (l.foldl push o) = b then (l.foldl push o, 0) else ([], 22)) := by
  induction l with
  | nil =>
    intro o i _ hd _
    have : b.length ≤ i := by
      have h := congrArg List.length hd
      rw [List.length_drop] at h
      simp [dgs] at h
      omega
    exact prog_end b hb hl o 0 i this
  | cons n l ih =>
    intro o i ha hd ho
    rw [dgs_cons] at hd
    have hn := ha n (List.mem_cons_self ..)
    have hl1 := (dg_len n).1
    refine prog_dg b hb hl o n hn i _ hd ho ?_
    rw [List.foldl_cons]
    refine ih (push o n) (i + (dg n).length) (fun x hx => ha x (List.mem_cons_of_mem _ hx)) ?_ ?_
    · rw [← List.drop_drop, hd, List.drop_left]
    · unfold push two; split
      · rename_i h; subst h; simp <;> omega
      · simp <;> omega
theorem oid_prog {b : List Int} (hb : Bytes b) (hl : b.length ≤ 8796093022208) :
    ∃ r, Ev (fun k => ints_OID.f k b) r ∧ Tells b r ∧ (∀ o, IsObj o → encO o = b → r = (o, 0)) := by
  obtain ⟨r, hp, tp⟩ := prog_run b hb hl b.length 0 [] 0 (by omega) (by omega) (by omega) (by simp)
  have uniq : ∀ {g : Nat → Option (List Int × Int)} {x y : List Int × Int}, Ev g x → Ev g y → x = y := by
    intro g x y ⟨K, h⟩ ⟨K', h'⟩
    have a := h (max K K') (Nat.le_max_left ..)
    have c := h' (max K K') (Nat.le_max_right ..)
    exact Option.some.inj (a.symm.trans c)
  have pdec : ∀ o, IsObj o → encO o = b → r = (o, 0) := by
    intro o ho he
    have := prog_dgs b hb hl (subs o) [] 0 ho.arcs (by rw [List.drop_zero, ← he]; rfl) (by simp)
    rw [foldl_subs ho, if_pos ⟨ho, he⟩] at this
    exact uniq hp this
  exact ⟨r, by exact hp, tp, pdec⟩
end Go.Proofs.YtkceebgncfggjaaDoorQ

