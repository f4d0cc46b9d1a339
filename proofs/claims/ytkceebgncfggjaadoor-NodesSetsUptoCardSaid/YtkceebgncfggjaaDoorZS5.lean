/- NodesSets: words, printed functions and plain laws that the claim uses, laid by a program of this session's. No condition beside those in each theorem's own line. -/
import Derived.Lib.SlBytesConst
import Derived.Test.YtkceebgncfggjaaDoorZS3
set_option linter.unusedVariables false
set_option linter.unusedSimpArgs false
namespace Go.Proofs.YtkceebgncfggjaaDoorX
open Go.RowKit Go.Proofs.YtkceebgncfggjaaDoorW.PrintWords Go.Proofs.YtkceebgncfggjaaDoorW.PrintLast Go.Proofs.YtkceebgncfggjaaDoorW.PrintMore
section
variable {P : Program} {ops : Array Oper} {rest : List Oper} {o : Oper} {a : Act} {Q : Exit → Act → World → Prop} {W : World}
theorem conv_run {g n c : Nat} {C : Array Value} (t e : TypeId) (ht : P.underlying t = some (.slice e)) (he : P.underlying e = some (.int .u8)) (hg : W.heap[g]? = some (.cells C e (0, 0))) :
    (convert t t (.slice (some ⟨g, 0, none⟩) n c)).run P W = .ok (.slice (some ⟨g, 0, none⟩) n c) (W.freeze ⟨g, C.size, none⟩ 1) := by
  have hsh : W.shape? g = some (e, C.size) := by unfold World.shape?; rw [hg]
  simp [convert, run_underlying ht, run_underlying he, markStringish, hsh]
theorem conv_heap {g : Nat} {C : Array Value} {e : TypeId} (hg : W.heap[g]? = some (.cells C e (0, 0))) :
    (W.freeze ⟨g, C.size, none⟩ 1).heap[g]? = some (.cells C e (C.size, C.size + 1)) := by
  unfold World.freeze
  rw [if_neg (by decide)]
  simp [Array.getElem?_modify, hg]
theorem conv_below {g : Nat} {C : Array Value} {base : Nat} (hb : base ≤ g) : Below base W (W.freeze ⟨g, C.size, none⟩ 1) := by
  unfold World.freeze
  rw [if_neg (by decide)]
  refine ⟨rfl, rfl, rfl, by simp, fun k hk => ?_⟩
  simp only [Array.getElem?_modify]
  rw [if_neg (by omega)]
theorem conv_event {N : Tmp} {A : Option Addr} {n c s t e : Nat} {xs : List Int} {base : Nat} {ok : Nat → Prop} (hgd : o.guard = none) (_hd : o.dst = some N) (hop : o.op = .convert t t (.tmp s)) (hs : a.eval (.tmp s) = .slice A n c)
    (ht : P.underlying t = some (.slice e)) (he : P.underlying e = some (.int .u8)) (hR : (Kd.int .u8).R e W base ok (.slice A n c) xs) (hne : 0 < xs.length)
    (h : ∀ w1, Kd.V (Kd.int .u8) e w1 base (fun k_ => some k_ = (Value.slice A n c).ownBlock) (.slice A n c) xs → Below base W w1 → wpList P ops Q rest (a.put o.dst (.slice A n c)) w1) : wpList P ops Q (o :: rest) a W := by
  obtain ⟨g, cap, hv, hb, hlt, C, hg⟩ := Kd.R_form hR hne
  injection hv with h1 h2 h3
  subst h1
  subst h2
  subst h3
  have hrd := Kd.reads_of_C (d := (0 : Int)) (h1 := fun _ => rfl) (Kd.R_reads' hR).2.2
  refine wpList_plain hgd fun K hK => ?_
  have hrun : (execOp a.eval o).run P W = .ok (.value (.slice (some ⟨g, 0, none⟩) xs.length c)) (W.freeze ⟨g, C.size, none⟩ 1) := by
    unfold execOp
    simp only [hop, hs]
    simp [conv_run t e ht he hg]
  unfold Oper.wp
  rw [hrun]
  refine hK _ _ (h _ (Kd.V_mk (Kd.R_reads' hR).2.1 ?_) (conv_below hb))
  intro W2 h2
  refine Kd.C_of_reads (d := (0 : Int)) (h1 := fun _ => rfl) ⟨hrd.1, hrd.2.1, fun hn => ?_⟩
  obtain ⟨ad, e1, hc⟩ := hrd.2.2 hn
  refine ⟨ad, e1, fun j hj => ?_⟩
  have h3 := hc j hj
  injection e1 with e1
  subst e1
  have h4 : W2.heap[g]? = some (.cells C e (C.size, C.size + 1)) := (h2 g (by simp [Value.ownBlock]) ((Array.getElem?_eq_some_iff.1 (conv_heap hg)).1)).trans (conv_heap hg)
  have h5 : ∀ i, W2.cell? ⟨g, i, none⟩ = W.cell? ⟨g, i, none⟩ := fun i => (cell_of_row W2 g i C e _ h4).trans (cell_of_row W g i C e _ hg).symm
  have h6 : (Addr.add ⟨g, 0, none⟩ j) = ⟨g, 0 + j, none⟩ := by simp [Addr.add]; omega
  rw [h6] at h3 ⊢
  rw [h5]
  exact h3
end
end Go.Proofs.YtkceebgncfggjaaDoorX

