/- NodesSets: words, printed functions and plain laws that the claim uses, laid by a program of this session's. No condition beside those in each theorem's own line. -/
import Derived.Test.YtkceebgncfggjaaDoorZS25
import Derived.Test.YtkceebgncfggjaaDoorZS28
import Derived.Test.YtkceebgncfggjaaDoorZS29
set_option linter.unusedVariables false
set_option linter.unusedSimpArgs false
namespace Go.Proofs.YtkceebgncfggjaaDoorQ
open Go.RowKit Go.Proofs.YtkceebgncfggjaaDoorW.PrintWords Go.Proofs.YtkceebgncfggjaaDoorW.PrintLast Go.Proofs.YtkceebgncfggjaaDoorW.PrintMore Go.Proofs.YtkceebgncfggjaaDoorX Go.Proofs.YtkceebgncfggjaaDoor.PQ
def Rights (M : Nat) (rt : Int → List Int → Bool) : Prop := ∀ (t : Int) (l : List Int), 0 ≤ t → t < 256 → Bytes l → l.length ≤ M → Ev (fun k => nodes_right.f k t l) (rt t l)
theorem s43_eta (n : S43) : (⟨n.f0, n.f1, n.f2⟩ : S43) = n := by cases n; rfl
end Go.Proofs.YtkceebgncfggjaaDoorQ

namespace Go.Proofs.YtkceebgncfggjaaDoorQ
open Go.RowKit Go.Proofs.YtkceebgncfggjaaDoorW.PrintWords Go.Proofs.YtkceebgncfggjaaDoorW.PrintLast Go.Proofs.YtkceebgncfggjaaDoorW.PrintMore Go.Proofs.YtkceebgncfggjaaDoorX Go.Proofs.YtkceebgncfggjaaDoor.PQ
theorem flat_le : ∀ (l : List (List Int)) (B : Nat), (∀ x ∈ l, x.length ≤ B) → l.flatten.length ≤ l.length * B
  | [], B, _ => by simp
  | x :: l, B, h => by
    have h1 := h x (List.mem_cons_self ..)
    have h2 := flat_le l B fun y hy => h y (List.mem_cons_of_mem _ hy)
    rw [List.flatten_cons, List.length_append, List.length_cons, Nat.succ_mul]
    omega
theorem drop_getL {xs : List (List Int)} {i : Nat} (h : i < xs.length) : xs.drop i = xs.getD i [] :: xs.drop (i + 1) := by
  rw [List.drop_eq_getElem_cons h, List.getD_eq_getElem?_getD, List.getElem?_eq_getElem h]; rfl
theorem concat_fill (l : List (List Int)) (hl : l.flatten.length < 140737488355328) (hn : l.length < 4611686018427387904) (d : Nat) : ∀ i : Nat, i + d = l.length → ∀ out : List Int, out.length + (l.drop i).flatten.length = l.flatten.length →
    Ev (fun k => slices_Concat_byte_byte.l1 k out l (l.length : Int) (i : Int)) (out ++ (l.drop i).flatten) := by
  induction d with
  | zero =>
    intro i hi out ho
    refine Ev.step (f := fun _ => some out) (fun k => ?_) ?_
    · rw [slices_Concat_byte_byte.l1, if_neg (by omega)]
    · rw [List.drop_of_length_le (by omega), List.flatten_nil, List.append_nil]; exact Ev.now _
  | succ d ih =>
    intro i hi out ho
    have hlt : i < l.length := by omega
    have e3 : wrap64 ((i : Int) + 1) = ((i + 1 : Nat) : Int) := by rw [w64 (by omega) (by omega)]; omega
    rw [drop_getL hlt, List.flatten_cons, List.length_append] at ho
    have h2 := ih (i + 1) (by omega) (out ++ l.getD i []) (by rw [List.length_append]; omega)
    rw [List.append_assoc] at h2
    rw [drop_getL hlt, List.flatten_cons]
    refine Ev.step (fun k => ?_) h2
    rw [slices_Concat_byte_byte.l1, if_pos (by omega), if_pos (by omega), if_pos (by omega), rdL2_nat, if_pos (by omega), e3]
theorem concat_sum (l : List (List Int)) (hl : l.flatten.length < 140737488355328) (hn : l.length < 4611686018427387904) (d : Nat) : ∀ i : Nat, i + d = l.length → ∀ s : Nat, s + (l.drop i).flatten.length = l.flatten.length →
    Ev (fun k => slices_Concat_byte_byte.l0 k l (s : Int) l (l.length : Int) (i : Int)) l.flatten := by
  induction d with
  | zero =>
    intro i hi s hs
    have hf := concat_fill l hl hn l.length 0 (by omega) [] (by rw [List.drop_zero]; simp)
    rw [List.drop_zero, List.nil_append] at hf
    refine Ev.step (f := fun k => slices_Concat_byte_byte.l1 k [] l (l.length : Int) 0) (fun k => ?_) hf
    rw [slices_Concat_byte_byte.l0, if_neg (by omega)]
    unfold slices_Grow_byte_byte.f
    rw [if_pos (by omega), Option.bind_some]
  | succ d ih =>
    intro i hi s hs
    have hlt : i < l.length := by omega
    have e3 : wrap64 ((i : Int) + 1) = ((i + 1 : Nat) : Int) := by rw [w64 (by omega) (by omega)]; omega
    rw [drop_getL hlt, List.flatten_cons, List.length_append] at hs
    have e4 : wrap64 ((s : Int) + ((l.getD i []).length : Int)) = ((s + (l.getD i []).length : Nat) : Int) := by rw [w64 (by omega) (by omega)]; omega
    have h2 := ih (i + 1) (by omega) (s + (l.getD i []).length) (by omega)
    refine Ev.step (fun k => ?_) h2
    rw [slices_Concat_byte_byte.l0, if_pos (by omega), if_pos (by omega), if_pos (by omega), rdL2_nat, e4, if_neg (by omega), e3]
theorem concat_ev (l : List (List Int)) (hl : l.flatten.length < 140737488355328) (hn : l.length < 4611686018427387904) : Ev (fun k => slices_Concat_byte_byte.f k l) l.flatten :=
  Ev.congr (fun k => by unfold slices_Concat_byte_byte.f; rfl) (concat_sum l hl hn l.length 0 (by omega) 0 (by rw [List.drop_zero]; simp))
def okn (M : Nat) : Nat → S43 → Prop
  | 0, _ => True
  | d + 1, n => 0 ≤ n.f0 ∧ n.f0 < 256 ∧ Bytes n.f1 ∧ n.f1.length ≤ M ∧ n.f2.length ≤ M ∧ ∀ x ∈ n.f2, okn M d x
theorem rdT_nat (xs : List S43) (i : Nat) : rd_T43 xs (i : Int) = xs.getD i z43 := by unfold rd_T43; rw [Int.toNat_natCast]
theorem drop_getT {xs : List S43} {i : Nat} (h : i < xs.length) : xs.drop i = xs.getD i z43 :: xs.drop (i + 1) := by
  rw [List.drop_eq_getElem_cons h, List.getD_eq_getElem?_getD, List.getElem?_eq_getElem h]; rfl
theorem getD_mem {xs : List S43} {i : Nat} (h : i < xs.length) : xs.getD i z43 ∈ xs := by
  rw [List.getD_eq_getElem?_getD, List.getElem?_eq_getElem h]; exact List.getElem_mem h
def xp : Except Int (List Int) → XR (List Int)
  | .ok a => .ok a
  | .error e => .error (e, 0)
theorem put_codes {t : Int} {b : List Int} {e : Int} (h : put t b = .error e) : e ≠ 0 := by
  unfold put at h
  split at h
  · cases h; decide
  · cases h
theorem put_step {t : Int} {b : List Int} (ht : ¬ Go.bits .and .u8 t 31 = 31) : ((tlv_Put.f t b).bind fun bt => bindX (nodes_must.f (bt.2 == 0) bt.2 0) fun _ => some (.ok bt.1)) = some (xp (put t b)) := by
  rw [put_eq ht, Option.bind_some]
  cases h : put t b with
  | error e =>
    dsimp only
    rw [show (e == 0) = false from beq_eq_false_iff_ne.mpr (put_codes h), must_false]
    rfl
  | ok a => rfl
theorem print_loop {rt : Int → List Int → Bool} {M : Nat} (hM : M ≤ 1048576) {d : Nat} (hd32 : d + 1 ≤ 32)
    (ih : ∀ n : S43, okn M d n → Ev (fun k => nodes_printed.f k n.f0 n.f1 n.f2 ((32 - d : Nat) : Int)) (xp (pr rt d n)))
    (t : Int) (ht : tg t = 0) (b : List Int) (ks : List S43) (hks : ks.length ≤ M) (hok : ∀ x ∈ ks, okn M d x) (e : Nat) :
    ∀ (i : Nat) (parts : List (List Int)), i + e = ks.length → parts.length = i → (∀ x ∈ parts, x.length ≤ 65539) →
      Ev (fun k => nodes_printed.l0 k ((32 - (d + 1) : Nat) : Int) parts ks (ks.length : Int) (i : Int) t b ks)
        (match prs (pr rt d) (ks.drop i) with
          | .error c => .error (c, 0)
          | .ok q => if t = 49 ∧ srt (parts ++ q) = false then .error (42, 0) else xp (put t (parts ++ q).flatten)) := by
  induction e with
  | zero =>
    intro i parts hi hp hx
    rw [List.drop_of_length_le (by omega), prs]
    dsimp only
    rw [List.append_nil]
    have hfl := flat_le parts 65539 hx
    have hr := rise_ev t 0 parts (by omega)
    have hc := concat_ev parts (by have : parts.length * 65539 ≤ 1048576 * 65539 := Nat.mul_le_mul_right _ (by omega)
                                   omega) (by omega)
    refine Ev.step (f := fun k => bindX (nodes_rise.f k t parts 0) fun _ => (slices_Concat_byte_byte.f k parts).bind fun c => (tlv_Put.f t c).bind fun bt => bindX (nodes_must.f (bt.2 == 0) bt.2 0) fun _ => some (.ok bt.1)) (fun k => ?_) ?_
    · rw [nodes_printed.l0, if_neg (by omega)]
    · by_cases hs : t = 49 ∧ srt parts = false
      · rw [if_pos hs] at hr ⊢; exact Ev_bindE hr
      · rw [if_neg hs] at hr ⊢
        exact Ev_bindX hr (Ev.bind hc (Ev.congr (fun k => put_step (tg_lo ht)) (Ev.now _)))
  | succ e ihe =>
    intro i parts hi hp hx
    have hlt : i < ks.length := by omega
    have e3 : wrap64 ((i : Int) + 1) = ((i + 1 : Nat) : Int) := by rw [w64 (by omega) (by omega)]; omega
    have e1 : wrap64 (((32 - (d + 1) : Nat) : Int) + 1) = ((32 - d : Nat) : Int) := by rw [w64 (by omega) (by omega)]; omega
    have h1 := ih (ks.getD i z43) (hok _ (getD_mem hlt))
    rw [drop_getT hlt, prs]
    have hst : ∀ k, nodes_printed.l0 (k + 1) ((32 - (d + 1) : Nat) : Int) parts ks (ks.length : Int) (i : Int) t b ks = bindX (nodes_printed.f k (ks.getD i z43).f0 (ks.getD i z43).f1 (ks.getD i z43).f2 ((32 - d : Nat) : Int)) fun c => if parts.length < 5864062014805 then nodes_printed.l0 k ((32 - (d + 1) : Nat) : Int) (parts ++ [c]) ks (ks.length : Int) ((i + 1 : Nat) : Int) t b ks else none := by
      intro k
      rw [nodes_printed.l0, if_pos (by omega), if_pos (by omega), if_pos (by omega), e1, e3, rdT_nat]
    refine Ev.step hst ?_
    cases hq : pr rt d (ks.getD i z43) with
    | error c => rw [hq] at h1; exact Ev_bindE h1
    | ok a =>
      rw [hq] at h1
      refine Ev_bindX h1 (Ev.congr (fun k => if_pos (by omega)) ?_)
      have h2 := ihe (i + 1) (parts ++ [a]) (by omega) (by rw [List.length_append, List.length_singleton, hp]) (fun x hx2 => by
        rcases List.mem_append.1 hx2 with h | h
        · exact hx x h
        · obtain rfl := List.mem_singleton.1 h; exact (pr_len hq).2)
      cases hr : prs (pr rt d) (ks.drop (i + 1)) with
      | error c => rw [hr] at h2; exact h2
      | ok q =>
        rw [hr] at h2
        dsimp only at h2 ⊢
        rw [List.append_assoc] at h2
        exact h2
theorem print_ev {rt : Int → List Int → Bool} {M : Nat} (hM : M ≤ 1048576) (hrt : Rights M rt) : ∀ (d : Nat), d ≤ 32 → ∀ n : S43, okn M d n →
    Ev (fun k => nodes_printed.f k n.f0 n.f1 n.f2 ((32 - d : Nat) : Int)) (xp (pr rt d n)) := by
  intro d
  induction d with
  | zero =>
    intro _ n _
    refine Ev.step (f := fun _ => some (.error (41, 0))) (fun k => ?_) (Ev.now _)
    rw [nodes_printed.f, decide_eq_false (by omega), must_false]
  | succ d ih =>
    intro hd32 n hn
    obtain ⟨ht0, ht1, hB, hl1, hl2, hks⟩ := hn
    have hte := tagged_ev n.f0 0
    have hst : ∀ k, nodes_printed.f (k + 1) n.f0 n.f1 n.f2 ((32 - (d + 1) : Nat) : Int) = bindX (nodes_tagged.f k n.f0 0) fun _ => ((nodes_compound.f n.f0).bind fun c => (if c = true then (bindX (nodes_must.f ((n.f1.length : Int) == 0) 43 0) fun _ => (nodes_printed.l0 k ((32 - (d + 1) : Nat) : Int) ([] : List (List Int)) n.f2 (n.f2.length : Int) 0 n.f0 n.f1 n.f2)) else (if (n.f2.length : Int) = 0 then ((nodes_right.f k n.f0 n.f1).bind fun is => (bindX (nodes_must.f is 43 0) fun _ => ((tlv_Put.f n.f0 n.f1).bind fun bt => (bindX (nodes_must.f (bt.2 == 0) bt.2 0) fun _ => (some (.ok (bt.1))))))) else (bindX (nodes_must.f false 43 0) fun _ => ((tlv_Put.f n.f0 n.f1).bind fun bt => (bindX (nodes_must.f (bt.2 == 0) bt.2 0) fun _ => (some (.ok (bt.1))))))))) := by
      intro k
      rw [nodes_printed.f, decide_eq_true (by omega), must_true]
    refine Ev.step hst ?_
    rw [pr]
    by_cases ht : tg n.f0 = 0
    · rw [if_pos ht] at hte ⊢
      refine Ev_bindX hte ?_
      by_cases hc : cp n.f0 = true
      · rw [if_pos hc]
        have hcf : nodes_compound.f n.f0 = some true := congrArg some hc
        refine Ev.congr (fun k => by rw [hcf, Option.bind_some, if_pos rfl]) ?_
        by_cases hb : n.f1 = []
        · rw [if_pos hb]
          have e0 : ((n.f1.length : Int) == 0) = true := by rw [hb]; rfl
          have hL := print_loop hM hd32 (ih (by omega)) n.f0 ht n.f1 n.f2 hl2 hks n.f2.length 0 [] (by omega) rfl (fun x hx => by cases hx)
          rw [List.drop_zero] at hL
          refine Ev.congr (fun k => by rw [e0, must_true]) ?_
          cases hq : prs (pr rt d) n.f2 with
          | error c => rw [hq] at hL; exact hL
          | ok q =>
            rw [hq] at hL
            dsimp only at hL ⊢
            rw [List.nil_append] at hL
            by_cases hs : n.f0 = 49 ∧ srt q = false
            · rw [if_pos hs] at hL ⊢; exact hL
            · rw [if_neg hs] at hL ⊢; exact hL
        · rw [if_neg hb]
          have e0 : ((n.f1.length : Int) == 0) = false := beq_eq_false_iff_ne.mpr fun h => hb (List.length_eq_zero_iff.1 (by omega))
          exact Ev.congr (f := fun _ => some (.error (43, 0))) (fun k => by rw [e0, must_false]) (Ev.now _)
      · rw [if_neg hc]
        have hcf : nodes_compound.f n.f0 = some false := congrArg some (Bool.eq_false_iff.mpr hc)
        refine Ev.congr (fun k => by rw [hcf, Option.bind_some, if_neg Bool.false_ne_true]) ?_
        by_cases hk0 : n.f2.length = 0
        · have hr := hrt n.f0 n.f1 ht0 ht1 hB hl1
          refine Ev.congr (fun k => if_pos (by omega)) (Ev.bind hr ?_)
          by_cases hR : rt n.f0 n.f1 = true
          · rw [if_pos ⟨hk0, hR⟩, hR]
            exact Ev.congr (fun k => put_step (tg_lo ht)) (Ev.now _)
          · rw [if_neg (fun h => hR h.2), Bool.eq_false_iff.mpr hR]; exact Ev.now _
        · rw [if_neg (fun h => hk0 h.1)]
          exact Ev.congr (f := fun _ => some (.error (43, 0))) (fun k => by rw [if_neg (by omega), must_false]) (Ev.now _)
    · rw [if_neg ht] at hte ⊢
      exact Ev_bindE hte
def printed (rt : Int → List Int → Bool) (n : S43) : List Int × Int :=
  match pr rt 32 n with
  | .error e => ([], e)
  | .ok a => (a, 0)
theorem pr_err (rt : Int → List Int → Bool) : ∀ (d : Nat) (n : S43) (e : Int), pr rt d n = .error e → e ≠ 0 := by
  intro d
  induction d with
  | zero => intro n e h; cases h; decide
  | succ d ih =>
    have hk : ∀ (l : List S43) (e : Int), prs (pr rt d) l = .error e → e ≠ 0 := by
      intro l
      induction l with
      | nil => intro e h; cases h
      | cons n l ihl =>
        intro e h
        rw [prs] at h
        cases h1 : pr rt d n with
        | error c => rw [h1] at h; cases h; exact ih n _ h1
        | ok a =>
          rw [h1] at h
          dsimp only at h
          cases h2 : prs (pr rt d) l with
          | error c => rw [h2] at h; cases h; exact ihl _ h2
          | ok r => rw [h2] at h; cases h
    intro n e h
    rw [pr] at h
    by_cases ht : tg n.f0 = 0
    · rw [if_pos ht] at h
      by_cases hc : cp n.f0 = true
      · rw [if_pos hc] at h
        by_cases hb : n.f1 = []
        · rw [if_pos hb] at h
          cases hp : prs (pr rt d) n.f2 with
          | error c => rw [hp] at h; cases h; exact hk _ _ hp
          | ok l =>
            rw [hp] at h
            dsimp only at h
            by_cases hs : n.f0 = 49 ∧ srt l = false
            · rw [if_pos hs] at h; cases h; decide
            · rw [if_neg hs] at h; exact put_codes h
        · rw [if_neg hb] at h; cases h; decide
      · rw [if_neg hc] at h
        by_cases hb : n.f2.length = 0 ∧ rt n.f0 n.f1 = true
        · rw [if_pos hb] at h; exact put_codes h
        · rw [if_neg hb] at h; cases h; decide
    · rw [if_neg ht] at h; cases h; exact ht
theorem Print_ev {rt : Int → List Int → Bool} {M : Nat} (hM : M ≤ 1048576) (hrt : Rights M rt) {n : S43} (hn : okn M 32 n) : Ev (fun k => nodes_Print.f k n.f0 n.f1 n.f2) (printed rt n) := by
  obtain ⟨K, hK⟩ := print_ev hM hrt 32 (Nat.le_refl _) n hn
  refine ⟨K, fun k hk => ?_⟩
  have h1 : nodes_printed.f k n.f0 n.f1 n.f2 0 = some (xp (pr rt 32 n)) := hK k hk
  show nodes_Print.f k n.f0 n.f1 n.f2 = _
  unfold nodes_Print.f printed
  rw [h1]
  cases hp : pr rt 32 n with
  | error e =>
    show (if e = 0 then none else _) = _
    rw [if_neg (pr_err rt 32 n e hp)]
  | ok a => rfl
theorem parts_step (most c i k : Nat) (t : Int) (b : List Int) (ks : List S43) (hi : i < ks.length) (hl : ks.length ≤ 4611686018427387903) (hc : c ≤ most) (hm : most ≤ 1048576) :
    warderref04_Parts.l0 (k + 1) (most : Int) (c : Int) (i : Int) t b ks = (warderref04_Parts.f k (ks.getD i z43).f0 (ks.getD i z43).f1 (ks.getD i z43).f2 ((most - c : Nat) : Int)).bind fun r => warderref04_Parts.l0 k (most : Int) (wrap64 ((c : Int) + r)) ((i + 1 : Nat) : Int) t b ks := by
  have e1 : wrap64 ((most : Int) - c) = ((most - c : Nat) : Int) := by rw [w64 (by omega) (by omega)]; omega
  have e3 : wrap64 ((i : Int) + 1) = ((i + 1 : Nat) : Int) := by rw [w64 (by omega) (by omega)]; omega
  rw [warderref04_Parts.l0, if_pos (by omega), if_pos (by omega), if_pos (by omega), rdT_nat, e1, e3]
theorem parts_stop (most c i k : Nat) (t : Int) (b : List Int) (ks : List S43) (h : ks.length ≤ i ∨ most < c) : warderref04_Parts.l0 (k + 1) (most : Int) (c : Int) (i : Int) t b ks = some (c : Int) := by
  rw [warderref04_Parts.l0]
  by_cases hi : i < ks.length
  · rw [if_pos (by omega), if_neg (by omega)]
  · rw [if_neg (by omega)]
def PartsTo (most : Nat) (n : S43) : Prop := ∃ r : Nat, 1 ≤ r ∧ r ≤ most + 1 ∧ Ev (fun k => warderref04_Parts.f k n.f0 n.f1 n.f2 (most : Int)) (r : Int)
theorem parts_loop {most : Nat} (hm : most ≤ 1048576) (t : Int) (b : List Int) (ks : List S43) (hl : ks.length ≤ 4611686018427387903) (ih : ∀ m, m < most → ∀ n ∈ ks, PartsTo m n) :
    ∀ (e i c : Nat), i + e = ks.length → 1 ≤ c → c ≤ most + 1 → ∃ r : Nat, 1 ≤ r ∧ r ≤ most + 1 ∧ Ev (fun k => warderref04_Parts.l0 k (most : Int) (c : Int) (i : Int) t b ks) (r : Int) := by
  intro e
  induction e with
  | zero =>
    intro i c hi h1 h2
    exact ⟨c, h1, h2, Ev.step (f := fun _ => some (c : Int)) (fun k => parts_stop most c i k t b ks (.inl (by omega))) (Ev.now _)⟩
  | succ e ihe =>
    intro i c hi h1 h2
    have hlt : i < ks.length := by omega
    by_cases hc : c ≤ most
    · obtain ⟨r, hr1, hr2, hr⟩ := ih (most - c) (by omega) (ks.getD i z43) (getD_mem hlt)
      obtain ⟨q, hq1, hq2, hq⟩ := ihe (i + 1) (c + r) (by omega) (by omega) (by omega)
      have e2 : wrap64 ((c : Int) + r) = ((c + r : Nat) : Int) := by rw [w64 (by omega) (by omega)]; omega
      rw [← e2] at hq
      exact ⟨q, hq1, hq2, Ev.step (fun k => parts_step most c i k t b ks hlt hl hc hm) (Ev.bind hr hq)⟩
    · exact ⟨c, h1, h2, Ev.step (f := fun _ => some (c : Int)) (fun k => parts_stop most c i k t b ks (.inr (by omega))) (Ev.now _)⟩
theorem parts_ev {M : Nat} (hM : M ≤ 4611686018427387903) : ∀ (most : Nat), most ≤ 1048576 → ∀ (D : Nat), most < D → ∀ n : S43, okn M D n → PartsTo most n := by
  intro most
  induction most using Nat.strongRecOn with
  | _ most ih =>
    intro hm D hD n hn
    obtain ⟨D, rfl⟩ : ∃ z, D = z + 1 := ⟨D - 1, by omega⟩
    obtain ⟨_, _, _, _, hl2, hks⟩ := hn
    obtain ⟨r, h1, h2, hr⟩ := parts_loop hm n.f0 n.f1 n.f2 (by omega) (fun m h3 x hx => ih m h3 (by omega) D (by omega) x (hks x hx)) n.f2.length 0 1 (by omega) (Nat.le_refl _) (by omega)
    exact ⟨r, h1, h2, Ev.step (fun k => by rw [warderref04_Parts.f]; rfl) hr⟩
end Go.Proofs.YtkceebgncfggjaaDoorQ

namespace Go.Proofs.YtkceebgncfggjaaDoorQ
open Go.RowKit Go.Proofs.YtkceebgncfggjaaDoorW.PrintWords Go.Proofs.YtkceebgncfggjaaDoorW.PrintLast Go.Proofs.YtkceebgncfggjaaDoorW.PrintMore Go.Proofs.YtkceebgncfggjaaDoorX Go.Proofs.YtkceebgncfggjaaDoor.PQ
def up (x : Int) : Int := (x + 48) % 256
theorem rd_mid (l1 l2 : List Int) (x : Int) : rd (l1 ++ x :: l2) (l1.length : Int) = x := by
  rw [rd_nat, List.getD_eq_getElem?_getD, List.getElem?_append_right (Nat.le_refl _), Nat.sub_self]; rfl
theorem set_mid (l1 l2 : List Int) (x v : Int) : (l1 ++ x :: l2).set l1.length v = l1 ++ v :: l2 := by
  rw [List.set_append_right _ _ (Nat.le_refl _), Nat.sub_self]; rfl
theorem fill_ev (y : Int) : ∀ (l2 l1 : List Int), (l1 ++ l2).length ≤ 1000 → 1 ≤ (l1 ++ l2).length →
    Ev (fun k => texts_PutTime.l0 k y (l1 ++ l2) ((l1 ++ l2).length : Int) (l1.length : Int)) (if y < 2050 then (23, ((l1 ++ l2.map up) ++ [90]).drop 2, 0) else (24, (l1 ++ l2.map up) ++ [90], 0))
  | [], l1, h, h1 => by
    rw [List.append_nil] at h h1 ⊢
    refine Ev.step (f := fun _ => some (if y < 2050 then (23, ((l1 ++ ([] : List Int).map up) ++ [90]).drop 2, 0) else (24, (l1 ++ ([] : List Int).map up) ++ [90], 0))) (fun k => ?_) (Ev.now _)
    rw [texts_PutTime.l0, if_neg (by omega), if_pos (by omega), Option.bind_some, List.map_nil, List.append_nil]
    by_cases hy : y < 2050
    · rw [if_pos hy, if_pos hy, if_pos (by rw [List.length_append, List.length_singleton]; omega)]; rfl
    · rw [if_neg hy, if_neg hy]
  | x :: l2, l1, h, h1 => by
    have ih := fill_ev y l2 (l1 ++ [up x]) (by simp only [List.length_append, List.length_cons, List.length_nil] at h ⊢; omega) (by simp only [List.length_append, List.length_cons, List.length_nil]; omega)
    have hl1 : (l1 ++ [up x]).length = l1.length + 1 := by rw [List.length_append, List.length_singleton]
    have ha : ∀ z : List Int, (l1 ++ [up x]) ++ z = l1 ++ up x :: z := fun z => by rw [List.append_assoc, List.singleton_append]
    rw [hl1, ha l2, ha (l2.map up)] at ih
    have hlen : (l1 ++ up x :: l2).length = (l1 ++ x :: l2).length := by simp only [List.length_append, List.length_cons]
    rw [hlen] at ih
    have hb : (l1 ++ x :: l2).length = l1.length + l2.length + 1 := by simp only [List.length_append, List.length_cons]; omega
    have e3 : wrap64 ((l1.length : Int) + 1) = ((l1.length + 1 : Nat) : Int) := by rw [w64 (by omega) (by omega)]; omega
    refine Ev.step (fun k => ?_) ih
    rw [texts_PutTime.l0, if_pos (by omega), if_pos (by omega), if_pos (by omega), rd_mid, e3, Int.toNat_natCast, set_mid]
    rfl
def civ (a : Int) : Int × Int × Int := (texts_civil.f (wrap64 ((wrap64 (Int.tdiv (wrap64 (a + 631152000)) 86400)) - 7305))).getD (0, 0, 0)
theorem civ_some (a : Int) : texts_civil.f (wrap64 ((wrap64 (Int.tdiv (wrap64 (a + 631152000)) 86400)) - 7305)) = some (civ a) := by
  unfold civ
  generalize wrap64 ((wrap64 (Int.tdiv (wrap64 (a + 631152000)) 86400)) - 7305) = x
  unfold texts_civil.f
  split <;> rfl
def sod (a : Int) : Int := Int.tmod (wrap64 (a + 631152000)) 86400
def pt14 (c : Int × Int × Int) (s : Int) : List Int :=
  [(wrap64 (Int.tdiv c.1 1000)) % 256, (Int.tmod (wrap64 (Int.tdiv c.1 100)) 10) % 256, (wrap64 (Int.tdiv (Int.tmod c.1 100) 10)) % 256, (Int.tmod (Int.tmod c.1 100) 10) % 256,
   (wrap64 (Int.tdiv c.2.1 10)) % 256, (Int.tmod c.2.1 10) % 256, (wrap64 (Int.tdiv c.2.2 10)) % 256, (Int.tmod c.2.2 10) % 256,
   (wrap64 (Int.tdiv (wrap64 (Int.tdiv s 3600)) 10)) % 256, (Int.tmod (wrap64 (Int.tdiv s 3600)) 10) % 256,
   (wrap64 (Int.tdiv (Int.tmod (wrap64 (Int.tdiv s 60)) 60) 10)) % 256, (Int.tmod (Int.tmod (wrap64 (Int.tdiv s 60)) 60) 10) % 256,
   (wrap64 (Int.tdiv (Int.tmod s 60) 10)) % 256, (Int.tmod (Int.tmod s 60) 10) % 256]
def putTime (a : Int) : Int × List Int × Int :=
  if a < -631152000 ∨ a > 253402300799 then (0, [], 32)
  else if (civ a).1 < 2050 then (23, ((pt14 (civ a) (sod a)).map up ++ [90]).drop 2, 0) else (24, (pt14 (civ a) (sod a)).map up ++ [90], 0)
theorem putTime_ev (a : Int) : Ev (fun k => texts_PutTime.f k a) (putTime a) := by
  unfold putTime
  by_cases h1 : a < -631152000
  · rw [if_pos (.inl h1)]
    refine Ev.congr (f := fun k => texts_PutTime.j0 k a true) (fun k => ?_) (Ev.step (f := fun _ => some (0, [], 32)) (fun k => ?_) (Ev.now _))
    · unfold texts_PutTime.f; rw [if_pos h1]
    · rw [texts_PutTime.j0, if_pos rfl]
  by_cases h2 : a > 253402300799
  · rw [if_pos (.inr h2)]
    refine Ev.congr (f := fun k => texts_PutTime.j0 k a true) (fun k => ?_) (Ev.step (f := fun _ => some (0, [], 32)) (fun k => ?_) (Ev.now _))
    · unfold texts_PutTime.f; rw [if_neg h1, decide_eq_true h2]
    · rw [texts_PutTime.j0, if_pos rfl]
  rw [if_neg (fun h => h.elim h1 h2)]
  have hf := fill_ev (civ a).1 (pt14 (civ a) (sod a)) [] (show (14 : Nat) ≤ 1000 by decide) (show (1 : Nat) ≤ 14 by decide)
  refine Ev.congr (f := fun k => texts_PutTime.j0 k a false) (fun k => ?_) (Ev.step (f := fun k => texts_PutTime.l0 k (civ a).1 (pt14 (civ a) (sod a)) 14 0) (fun k => ?_) hf)
  · unfold texts_PutTime.f; rw [if_neg h1, decide_eq_false h2]
  · rw [texts_PutTime.j0, if_neg Bool.false_ne_true, civ_some, Option.bind_some]
    rfl
theorem time_ev (t : Int) (l : List Int) : ∃ r, Ev (fun k => texts_Time.f k t l) r := by
  unfold texts_Time.f
  split
  · exact ⟨_, Ev.now _⟩
  · unfold tmF
    split
    · unfold tmTail
      split
      · exact ⟨_, Ev.now _⟩
      · rename_i f0 f1 f2 f3 f4 f5 f6 _ _
        generalize wrap64 (wrap64 (dayN (wrap64 (wrap64 (100 * f0) + f1)) f2 f3 * 86400) + wrap64 (wrap64 (wrap64 (3600 * f4) + wrap64 (60 * f5)) + f6)) = s
        have hp := putTime_ev s
        by_cases hc : (putTime s).2.2 ≠ 0 ∨ (putTime s).1 ≠ t ∨ ((strOfNums (putTime s).2.1).toList == (strOfNums l).toList) = false
        · exact ⟨_, Ev.bind hp (Ev_pos hc (Ev.now _))⟩
        · exact ⟨_, Ev.bind hp (Ev_neg hc (Ev.now _))⟩
    · exact ⟨_, Ev.now _⟩
theorem text_ev (t : Int) {l : List Int} (hB : Bytes l) : ∃ r, Ev (fun k => texts_Right.f k t l) r := by
  unfold texts_Right.f utf8_Valid.f
  rw [if_pos (show InR l from hB)]
  split
  · exact ⟨_, Ev.now _⟩
  · split
    · exact ⟨_, Ev.now _⟩
    · split
      · exact ⟨_, Ev.now _⟩
      · split <;> exact ⟨_, Ev.now _⟩
theorem prog_bool_some (l : List Int) : ∃ r, ints_Bool.f l = some r := by
  have hs : ∀ v e, ∃ r, ints_strict_bool.f l v e = some r := by
    intro v e
    unfold ints_strict_bool.f ints_PutBool.f bytes_Equal.f
    cases v <;> (simp only [if_true, Bool.false_eq_true, if_false, Option.bind_some]; split <;> exact ⟨_, rfl⟩)
  unfold ints_Bool.f
  by_cases h : (l.length : Int) > 0
  · rw [if_pos h, if_pos (by omega)]
    obtain ⟨r, hr⟩ := hs (decide (rd l 0 > 0)) 23
    rw [hr]; exact ⟨_, rfl⟩
  · rw [if_neg h]
    obtain ⟨r, hr⟩ := hs false 23
    rw [hr]; exact ⟨_, rfl⟩
theorem right_some (t : Int) {l : List Int} (hB : Bytes l) (hl : l.length ≤ 8796093022208) : ∃ r, Ev (fun k => nodes_right.f k t l) r := by
  have j1f : ∃ r, Ev (fun k => nodes_right.j1 k t l 0 t false) r := by
    have hlast : ∀ i : Nat, i < l.length → 0 ≤ l.getD i 0 ∧ l.getD i 0 < 256 := fun i hi => bytes_getD hB hi
    by_cases h3 : t = 3
    · by_cases hl2 : l.length < 2
      · by_cases hl1 : l.length = 1
        · exact ⟨_, Ev.step (f := fun _ => some (rd l 0 == 0)) (fun k => by rw [nodes_right.j1, if_neg Bool.false_ne_true, if_pos h3, if_pos (by omega), if_pos (by omega), if_pos (by omega)]) (Ev.now _)⟩
        · exact ⟨_, Ev.step (f := fun _ => some false) (fun k => by rw [nodes_right.j1, if_neg Bool.false_ne_true, if_pos h3, if_pos (by omega), if_neg (by omega)]) (Ev.now _)⟩
      · by_cases h8 : rd l 0 < 8
        · have e1 : wrap64 ((l.length : Int) - 1) = ((l.length - 1 : Nat) : Int) := by rw [w64 (by omega) (by omega)]; omega
          exact ⟨_, Ev.step (f := fun _ => some (shl .u8 (rd l ((l.length - 1 : Nat) : Int)) ((8 - (rd l 0)) % 256) == 0)) (fun k => by rw [nodes_right.j1, if_neg Bool.false_ne_true, if_pos h3, if_neg (by omega), if_pos (by omega), if_pos h8, e1, if_pos (by omega), if_pos (by omega)]) (Ev.now _)⟩
        · exact ⟨_, Ev.step (f := fun _ => some false) (fun k => by rw [nodes_right.j1, if_neg Bool.false_ne_true, if_pos h3, if_neg (by omega), if_pos (by omega), if_neg h8]) (Ev.now _)⟩
    · exact ⟨_, Ev.step (f := fun _ => some ((0 : Int) == 0)) (fun k => by rw [nodes_right.j1, if_neg Bool.false_ne_true, if_neg h3]) (Ev.now _)⟩
  have j1 : ∀ b, ∃ r, Ev (fun k => nodes_right.j1 k t l 0 t b) r := by
    intro b
    cases b with
    | true =>
      obtain ⟨r, hr⟩ := text_ev t hB
      exact ⟨r, Ev.step (fun k => by rw [nodes_right.j1, if_pos rfl]) (Ev.bind hr (Ev.now _))⟩
    | false => exact j1f
  have j0 : ∀ b, ∃ r, Ev (fun k => nodes_right.j0 k t l 0 t b) r := by
    intro b
    cases b with
    | true =>
      obtain ⟨r, hr⟩ := time_ev t l
      exact ⟨_, Ev.step (fun k => by rw [nodes_right.j0, if_pos rfl]) (Ev.bind hr (Ev.now _))⟩
    | false =>
      by_cases h5 : t = 5
      · exact ⟨_, Ev.step (f := fun _ => some ((l.length : Int) == 0)) (fun k => by rw [nodes_right.j0, if_neg Bool.false_ne_true, if_pos h5]) (Ev.now _)⟩
      by_cases h12 : t = 12
      · obtain ⟨r, hr⟩ := j1 (t == 12)
        exact ⟨r, Ev.step (fun k => by rw [nodes_right.j0, if_neg Bool.false_ne_true, if_neg h5, if_pos h12]) hr⟩
      by_cases h19 : t = 19
      · obtain ⟨r, hr⟩ := j1 (t == 19)
        exact ⟨r, Ev.step (fun k => by rw [nodes_right.j0, if_neg Bool.false_ne_true, if_neg h5, if_neg h12, if_pos h19]) hr⟩
      by_cases h22 : t = 22
      · obtain ⟨r, hr⟩ := j1 (t == 22)
        exact ⟨r, Ev.step (fun k => by rw [nodes_right.j0, if_neg Bool.false_ne_true, if_neg h5, if_neg h12, if_neg h19, if_pos h22]) hr⟩
      obtain ⟨r, hr⟩ := j1 (t == 27)
      exact ⟨r, Ev.step (fun k => by rw [nodes_right.j0, if_neg Bool.false_ne_true, if_neg h5, if_neg h12, if_neg h19, if_neg h22]) hr⟩
  by_cases h1 : t = 1
  · have hb : ∃ r, ints_Bool.f l = some r := prog_bool_some l
    obtain ⟨r, hr⟩ := hb
    exact ⟨_, Ev.congr (f := fun _ => some (r.2 == 0)) (fun k => by unfold nodes_right.f; rw [if_pos h1, hr, Option.bind_some]) (Ev.now _)⟩
  by_cases h2 : t = 2
  · exact ⟨_, Ev.congr (fun k => by unfold nodes_right.f; rw [if_neg h1, if_pos h2]) (Ev.bind (prog_int hB) (Ev.now _))⟩
  by_cases h6 : t = 6
  · obtain ⟨r, hr, _⟩ := oid_prog hB hl
    exact ⟨_, Ev.congr (fun k => by unfold nodes_right.f; rw [if_neg h1, if_neg h2, if_pos h6]) (Ev.bind hr (Ev.now _))⟩
  by_cases h23 : t = 23
  · obtain ⟨r, hr⟩ := j0 (t == 23)
    exact ⟨r, Ev.congr (fun k => by unfold nodes_right.f; rw [if_neg h1, if_neg h2, if_neg h6, if_pos h23]) hr⟩
  obtain ⟨r, hr⟩ := j0 (t == 24)
  exact ⟨r, Ev.congr (fun k => by unfold nodes_right.f; rw [if_neg h1, if_neg h2, if_neg h6, if_neg h23]) hr⟩
noncomputable def rtP (t : Int) (l : List Int) : Bool := by
  classical
  exact if ∃ k, nodes_right.f k t l = some true then true else false
theorem rights {M : Nat} (hM : M ≤ 8796093022208) : Rights M rtP := by
  intro t l _ _ hB hl
  obtain ⟨r, hr⟩ := right_some t hB (Nat.le_trans hl hM)
  have e : rtP t l = r := by
    unfold rtP
    cases r with
    | true => exact if_pos hr.rounds
    | false =>
      refine if_neg ?_
      rintro ⟨k, hk⟩
      obtain ⟨K, hK⟩ := hr
      have h1 : nodes_right.f (max K k) t l = some false := hK (max K k) (by omega)
      have h2 := at_rounds (fun k => nodes_right.mono t l k) (show k ≤ max K k by omega) hk
      exact absurd (h1.symm.trans h2) (by decide)
  rw [e]
  exact hr
end Go.Proofs.YtkceebgncfggjaaDoorQ

namespace Go.Proofs.YtkceebgncfggjaaDoorQ
open Go.RowKit Go.Proofs.YtkceebgncfggjaaDoorW.PrintWords Go.Proofs.YtkceebgncfggjaaDoorW.PrintLast Go.Proofs.YtkceebgncfggjaaDoorW.PrintMore Go.Proofs.YtkceebgncfggjaaDoorX Go.Proofs.YtkceebgncfggjaaDoor.PQ
theorem nhead_true : Ev (fun k => warderlaw04_head.f k) true := Ev.of (fun k => warderlaw04_head.mono k) (k := 60) (by kernel_rfl)
theorem printed_of {rt : Int → List Int → Bool} {n : S43} {a : List Int} (h : pr rt 32 n = .ok a) : printed rt n = (a, 0) := by
  unfold printed
  rw [h]
abbrev MM : Nat := 1048576
theorem rights1 : Rights MM rtP := rights (by decide)
end Go.Proofs.YtkceebgncfggjaaDoorQ

namespace Go.Proofs.YtkceebgncfggjaaDoorQ
open Go.RowKit Go.Proofs.YtkceebgncfggjaaDoorW.PrintWords Go.Proofs.YtkceebgncfggjaaDoorW.PrintLast Go.Proofs.YtkceebgncfggjaaDoorW.PrintMore Go.Proofs.YtkceebgncfggjaaDoorX Go.Proofs.YtkceebgncfggjaaDoor.PQ
def setOf (x y : Except Int (List Int)) : Int :=
  match x with
  | .error e => e
  | .ok a => match y with
    | .error e => e
    | .ok b => if bl b a = true then 42 else 0
theorem set_code {m n : S43} {x y : List Int} (hx : pr rtP 32 m = .ok x) (hy : pr rtP 32 n = .ok y) (hl : x.length + y.length ≤ 30000) : (printed rtP ⟨49, [], [m, n]⟩).2 = setOf (pr rtP 31 m) (pr rtP 31 n) := by
  have e : pr rtP 32 ⟨49, [], [m, n]⟩ = match prs (pr rtP 31) [m, n] with
      | .error e => .error e
      | .ok l => if (49 : Int) = 49 ∧ srt l = false then .error 42 else put 49 l.flatten := by
    rw [pr, if_pos (show tg 49 = 0 by decide +kernel), if_pos (show cp 49 = true by decide +kernel), if_pos rfl]
    rfl
  unfold printed setOf
  rw [e, prs]
  rcases pr_down rtP 31 m x hx with h1 | h1
  · rw [h1]
    dsimp only
    rw [prs]
    rcases pr_down rtP 31 n y hy with h2 | h2
    · rw [h2]
      dsimp only
      rw [prs]
      dsimp only
      have hs : srt [x, y] = !bl y x := by
        rw [srt, srt, Bool.and_true]
        intro a b l h
        simp at h
      rw [hs]
      cases hb : bl y x with
      | true => rfl
      | false =>
        rw [if_neg (by simp), if_neg Bool.false_ne_true]
        have hp : put 49 [x, y].flatten = .ok (putHd 49 ([x, y].flatten).length ++ [x, y].flatten) := by
          unfold put
          rw [if_neg]
          simp
          omega
        rw [hp]
    · rw [h2]
  · rw [h1]
theorem setOf_cases {m n : S43} {x y : List Int} (hx : pr rtP 32 m = .ok x) (hy : pr rtP 32 n = .ok y) :
    (setOf (pr rtP 31 m) (pr rtP 31 n) = 41 ∧ setOf (pr rtP 31 n) (pr rtP 31 m) = 41) ∨ (setOf (pr rtP 31 m) (pr rtP 31 n) = (if bl y x = true then 42 else 0) ∧ setOf (pr rtP 31 n) (pr rtP 31 m) = (if bl x y = true then 42 else 0)) := by
  rcases pr_down rtP 31 m x hx with h1 | h1 <;> rcases pr_down rtP 31 n y hy with h2 | h2 <;> rw [h1, h2] <;> unfold setOf
  · exact .inr ⟨rfl, rfl⟩
  · exact .inl ⟨rfl, rfl⟩
  · exact .inl ⟨rfl, rfl⟩
  · exact .inl ⟨rfl, rfl⟩
theorem check_ev {n : S43} (hn : okn MM 32 n) : Ev (fun k => nodes_Check.f k n.f0 n.f1 n.f2) (printed rtP n).2 :=
  Ev.congr (fun k => by unfold nodes_Check.f; rfl) (Ev.bind (Print_ev (Nat.le_refl _) rights1 hn) (Ev.now _))
theorem sets_j0 {m n : S43} (hm : ∀ D, okn MM D m) (hn : ∀ D, okn MM D n) {x y : List Int} (hx : pr rtP 32 m = .ok x) (hy : pr rtP 32 n = .ok y) (hl : x.length + y.length ≤ 30000) :
    Ev (fun k => warderlaw04_NodesSets.j0 k true x y false m.f0 m.f1 m.f2 n.f0 n.f1 n.f2) true := by
  have two : ∀ (a b : S43), (∀ D, okn MM D a) → (∀ D, okn MM D b) → okn MM 32 ⟨49, [], [a, b]⟩ := by
    intro a b ha hb
    refine ⟨show (0 : Int) ≤ 49 by decide, show (49 : Int) < 256 by decide, Bytes.nil, Nat.zero_le _, (by decide : 2 ≤ 1048576), fun z hz => ?_⟩
    rcases List.mem_cons.1 hz with rfl | hz
    · exact ha 31
    · obtain rfl := List.mem_singleton.1 hz; exact hb 31
  have h1 := check_ev (two m n hm hn)
  have h2 := check_ev (two n m hn hm)
  rw [set_code hx hy hl] at h1
  rw [set_code hy hx (by omega)] at h2
  have hs : ∀ g h : Int, ((g = 41 ∧ h = 41) ∨ (g = (if bl y x = true then 42 else 0) ∧ h = (if bl x y = true then 42 else 0))) → Ev (fun k => nodes_Check.f k 49 [] [m, n]) g → Ev (fun k => nodes_Check.f k 49 [] [n, m]) h →
      Ev (fun k => warderlaw04_NodesSets.j0 k true x y false m.f0 m.f1 m.f2 n.f0 n.f1 n.f2) true := by
    intro g h hgh hg hh
    refine Ev.step (fun k => by rw [warderlaw04_NodesSets.j0, if_neg Bool.false_ne_true, s43_eta, s43_eta]) (Ev.bind hg (Ev.bind hh ?_))
    rcases hgh with ⟨rfl, rfl⟩ | ⟨rfl, rfl⟩
    · exact Ev_pos rfl (Ev_pos rfl (Ev.now _))
    · have e1 : Op.bytesLess ((strOfNums y).toList) ((strOfNums x).toList) = bl y x := rfl
      have e2 : Op.bytesLess ((strOfNums x).toList) ((strOfNums y).toList) = bl x y := rfl
      rw [e1, e2]
      cases bl y x <;> cases bl x y <;> exact Ev.now _
  exact hs _ _ (setOf_cases hx hy) h1 h2
theorem nodes_sets {m n : S43} (hm : ∀ D, okn MM D m) (hn : ∀ D, okn MM D n) : ∃ k, warderlaw04_NodesSets.f k m.f0 m.f1 m.f2 n.f0 n.f1 n.f2 = some true := by
  have hQ := Print_ev (Nat.le_refl _) rights1 (hm 32)
  have hR := Print_ev (Nat.le_refl _) rights1 (hn 32)
  obtain ⟨c, _, _, hc⟩ := parts_ev (M := MM) (by decide) 5000 (by decide) 5001 (by decide) m (hm _)
  obtain ⟨d, _, _, hd⟩ := parts_ev (M := MM) (by decide) 5000 (by decide) 5001 (by decide) n (hn _)
  have hstop : ∀ a b, Ev (fun k => warderlaw04_NodesSets.j0 k true a b true m.f0 m.f1 m.f2 n.f0 n.f1 n.f2) true := fun a b =>
    Ev.step (f := fun _ => some true) (fun k => by rw [warderlaw04_NodesSets.j0, if_pos rfl]) (Ev.now _)
  refine Ev.rounds (Ev.congr (fun k => by unfold warderlaw04_NodesSets.f; rfl) (Ev.bind nhead_true (Ev.bind hQ (Ev.bind hR (Ev.bind hc ?_)))))
  by_cases hbig : (c : Int) > 5000
  · exact Ev_pos hbig (hstop _ _)
  refine Ev_neg hbig (Ev.bind hd ?_)
  by_cases hbig2 : (d : Int) > 5000
  · exact Ev_pos hbig2 (hstop _ _)
  refine Ev_neg hbig2 ?_
  have hpm : ∀ p q : List Int × Int, printed rtP m = p → printed rtP n = q → Ev (fun k => if p.2 = 0 then (if q.2 = 0 then (warderlaw04_NodesSets.j0 k true p.1 q.1 (decide ((wrap64 ((p.1.length : Int) + (q.1.length : Int))) > 30000)) m.f0 m.f1 m.f2 n.f0 n.f1 n.f2) else (warderlaw04_NodesSets.j0 k true p.1 q.1 true m.f0 m.f1 m.f2 n.f0 n.f1 n.f2)) else (warderlaw04_NodesSets.j0 k true p.1 q.1 true m.f0 m.f1 m.f2 n.f0 n.f1 n.f2)) true := by
    intro p q ep eq
    cases hx : pr rtP 32 m with
    | error e =>
      rw [show printed rtP m = ([], e) by unfold printed; rw [hx]] at ep
      subst ep
      exact Ev_neg (pr_err rtP 32 m e hx) (hstop _ _)
    | ok x =>
      rw [printed_of hx] at ep
      subst ep
      refine Ev_pos rfl ?_
      cases hy : pr rtP 32 n with
      | error e =>
        rw [show printed rtP n = ([], e) by unfold printed; rw [hy]] at eq
        subst eq
        exact Ev_neg (pr_err rtP 32 n e hy) (hstop _ _)
      | ok y =>
        rw [printed_of hy] at eq
        subst eq
        refine Ev_pos rfl ?_
        have hlx := (pr_len hx).2
        have hly := (pr_len hy).2
        have ew : wrap64 ((x.length : Int) + (y.length : Int)) = (x.length : Int) + y.length := w64 (by omega) (by omega)
        dsimp only
        rw [ew]
        by_cases hl : x.length + y.length ≤ 30000
        · rw [decide_eq_false (by omega)]; exact sets_j0 hm hn hx hy hl
        · rw [decide_eq_true (by omega)]; exact hstop _ _
  exact hpm _ _ rfl rfl
end Go.Proofs.YtkceebgncfggjaaDoorQ

