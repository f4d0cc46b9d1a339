/- IntsBack over numbers and lists alone, of a body of at most 2^43 bytes: what is written is read as it was; what is read is written as it stood. -/
import Derived.Test.YtkceebgncfggjaaDoorPAx10
import Derived.Test.YtkceebgncfggjaaDoorPureBits
import Derived.Test.YtkceebgncfggjaaDoorPureOids
import Derived.Test.YtkceebgncfggjaaDoorPureSame
import Derived.Test.YtkceebgncfggjaaDoorPureHead
set_option linter.unusedVariables false
set_option linter.unusedSimpArgs false
namespace Go.Proofs.YtkceebgncfggjaaDoorQ
open Go.RowKit Go.Proofs.YtkceebgncfggjaaDoorW.PrintWords Go.Proofs.YtkceebgncfggjaaDoorW.PrintLast Go.Proofs.YtkceebgncfggjaaDoorW.PrintMore Go.Proofs.YtkceebgncfggjaaDoorX Go.Proofs.YtkceebgncfggjaaDoor.PA
attribute [local irreducible] R
theorem int_back {n : Int} (h : Fits 7 n) : intOf (enc n) = (n, 0) := by
  unfold intOf
  have h1 := enc_len_pos n
  have h2 := enc_len_le h
  rw [if_neg (by omega), val_enc h, if_pos rfl]
theorem back3 {b : List Int} (hB : Bytes b) (hb : b.length ≤ 8796093022208) : Ev (fun k => warderlaw02_IntsBack.j3 k b true false) true := by
  obtain ⟨r, hr, ht, _⟩ := oid_prog hB hb
  rcases ht with rfl | ⟨o, rfl, ho, he⟩
  · refine Ev.step (fun k => by rw [warderlaw02_IntsBack.j3, if_neg Bool.false_ne_true]) (Ev.bind hr (Ev_neg (show ¬ ((22 : Int) = 0) by decide) (Ev.now true)))
  · have hp := prog_put o
    unfold putOf at hp
    rw [if_pos ho, he] at hp
    refine Ev.step (fun k => by rw [warderlaw02_IntsBack.j3, if_neg Bool.false_ne_true]) (Ev.bind hr (Ev_pos rfl (Ev.bind hp (Ev_pos rfl (Ev_pos rfl ?_)))))
    rw [beq_self_eq_true]
    exact Ev.now _
theorem back2 {b : List Int} (hB : Bytes b) (hb : b.length ≤ 8796093022208) : Ev (fun k => warderlaw02_IntsBack.j2 k b true false) true := by
  have h3 := back3 hB hb
  have hr := mk_range b
  obtain ⟨M, hM⟩ := Int.eq_ofNat_of_zero_le hr.1
  by_cases h : pb (mk b).toNat = b
  · have e : bitsOf b = ((M : Int), 0) := by unfold bitsOf; rw [if_pos h, hM]
    rw [hM] at hr
    have hm : M < 65536 := by omega
    have hp : pb M = b := by rw [hM, Int.toNat_natCast] at h; exact h
    refine Ev.step (f := fun k => warderlaw02_IntsBack.j3 k b true false) (fun k => ?_) h3
    rw [warderlaw02_IntsBack.j2, if_neg Bool.false_ne_true, prog_bits hB (Nat.le_trans hb (by decide)), Option.bind_some, e, if_pos rfl, prog_putbits hm, Option.bind_some, hp, bne_self_eq_false]
  · have e : bitsOf b = (0, 24) := by unfold bitsOf; rw [if_neg h]
    refine Ev.step (f := fun k => warderlaw02_IntsBack.j3 k b true false) (fun k => ?_) h3
    rw [warderlaw02_IntsBack.j2, if_neg Bool.false_ne_true, prog_bits hB (Nat.le_trans hb (by decide)), Option.bind_some, e, if_neg (by decide)]
theorem back1 {b : List Int} (hB : Bytes b) (hb : b.length ≤ 8796093022208) : Ev (fun k => warderlaw02_IntsBack.j1 k b true false) true := by
  have h2 := back2 hB hb
  have hi := prog_int hB
  refine Ev.step (fun k => by rw [warderlaw02_IntsBack.j1, if_neg Bool.false_ne_true]) (Ev.bind hi ?_)
  unfold intOf
  by_cases h : b.length = 0 ∨ 8 < b.length
  · rw [if_pos h]
    exact Ev_neg (show ¬ ((21 : Int) = 0) by decide) h2
  · rw [if_neg h]
    by_cases h' : enc (val b) = b
    · rw [if_pos h']
      have hf : Fits 7 (val b) := fits_mono (by omega) (val_fits b hB (by omega))
      refine Ev_pos rfl (Ev.bind (put_int hf) ?_)
      rw [h', bne_self_eq_false]
      exact h2
    · rw [if_neg h']
      exact Ev_neg (show ¬ ((21 : Int) = 0) by decide) h2
theorem enc_short {l : List Int} (h : ∀ x ∈ l, Arc x) : (dgs l).length ≤ 4 * l.length := by
  induction l with
  | nil => exact Nat.zero_le _
  | cons x l ih =>
    have h1 := dg_len x
    have h2 := ih fun y hy => h y (List.mem_cons_of_mem _ hy)
    rw [dgs_cons, List.length_append, List.length_cons]
    omega
theorem back0 (l : List Int) {b : List Int} (hB : Bytes b) (hb : b.length ≤ 8796093022208) : Ev (fun k => warderlaw02_IntsBack.j0 k l b true false) true := by
  have h1 := back1 hB hb
  have hp := prog_put l
  unfold putOf at hp
  by_cases ho : IsObj l
  · rw [if_pos ho] at hp
    have hs := enc_short ho.arcs
    have hs2 : (subs l).length ≤ 16 := by have := ho.1; have := ho.2.1; simp [subs]; omega
    have hlen : (encO l).length ≤ 8796093022208 := by unfold encO; omega
    obtain ⟨r, hr, _, hd⟩ := oid_prog (encO_bytes ho) hlen
    rw [hd l ho rfl] at hr
    have hl := ho.2.1
    have hsame := same_self l (by omega)
    refine Ev.step (fun k => by rw [warderlaw02_IntsBack.j0, if_neg Bool.false_ne_true]) (Ev.bind hp (Ev.bind hr (Ev_pos rfl (Ev_pos rfl (Ev.bind hsame h1)))))
  · rw [if_neg ho] at hp
    obtain ⟨r, hr, _⟩ := oid_prog Bytes.nil (Nat.zero_le _)
    refine Ev.step (fun k => by rw [warderlaw02_IntsBack.j0, if_neg Bool.false_ne_true]) (Ev.bind hp (Ev.bind hr (Ev_neg (show ¬ ((22 : Int) = 0) by decide) h1)))
theorem ints_back {n : Int} (hn : Fits 7 n) (l : List Int) {m : Nat} (hm : m < 65536) {b : List Int} (hB : Bytes b) (hb : b.length ≤ 8796093022208) : ∃ k, warderlaw02_IntsBack.f k n l (m : Int) b = some true := by
  have h0 := back0 l hB hb
  have hpb : (pb m).length ≤ 8796093022208 := by have := pb_len m; omega
  have hi := prog_int (enc_bytes n)
  rw [int_back hn] at hi
  have two : ∀ {γ : Type} (g : Int × Int → Option γ), ((ints_PutBits.f (m : Int)).bind fun t => (ints_Bits.f t).bind g) = g ((m : Int), 0) := by
    intro γ g
    rw [prog_putbits hm, Option.bind_some, prog_bits (pb_bytes m) (Nat.le_trans hpb (by decide)), bits_pb hm, Option.bind_some]
  refine Ev.rounds (Ev.congr (fun k => by unfold warderlaw02_IntsBack.f; simp only [two]; rfl) ?_)
  refine Ev.bind head_true (Ev.bind (put_int hn) (Ev.bind hi (Ev_pos rfl (Ev_pos rfl (Ev_pos trivial ?_)))))
  rw [bne_self_eq_false]
  exact h0
end Go.Proofs.YtkceebgncfggjaaDoorQ
