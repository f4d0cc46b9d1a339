/- NodesSets: words, printed functions and plain laws that the claim uses, laid by a program of this session's. No condition beside those in each theorem's own line. -/
import Derived.ChangeOld
import Derived.DataReads
import Derived.Lib.LaidU8T
import Derived.OpenShut
import Derived.ProofKit
import Derived.ShutString
import Derived.Test.YtkceebgncfggjaaDoorZS30
import Derived.Test.YtkceebgncfggjaaDoorZS31
set_option linter.unusedVariables false
set_option linter.unusedSimpArgs false
namespace Go.Proofs.YtkceebgncfggjaaDoor.opens
open Go.ChangeShapes Go.WideShapes Go.ChangeAt Go.RowKit Go.Proofs.YtkceebgncfggjaaDoorW.PrintWords Go.Proofs.YtkceebgncfggjaaDoorX Go.Proofs.YtkceebgncfggjaaDoor.PQ
theorem cells5 : Tryd.prog.cellsOf 5 = 1 := by kernel_rfl
theorem cells24 : Tryd.prog.cellsOf 24 = 1 := by kernel_rfl
theorem cells41 : Tryd.prog.cellsOf 41 = 1 := by kernel_rfl
theorem cells43 : Tryd.prog.cellsOf 43 = 3 := by kernel_rfl
theorem okn_mono {M M' : Nat} (h : M ≤ M') : ∀ {D : Nat} {n : S43}, YtkceebgncfggjaaDoorQ.okn M D n → YtkceebgncfggjaaDoorQ.okn M' D n
  | 0, _, _ => trivial
  | D + 1, n, ⟨h1, h2, h3, h4, h5, h6⟩ => ⟨h1, h2, h3, Nat.le_trans h4 h, Nat.le_trans h5 h, fun x hx => okn_mono h (h6 x hx)⟩
theorem bytes_wf {l : List Int} (hw : ∀ x ∈ l, (Lit.int .u8 x).wf = true) : YtkceebgncfggjaaDoorQ.Bytes l := by
  intro x hx
  have h := hw x hx
  simp only [Lit.wf, Bool.and_eq_true, decide_eq_true_eq] at h
  exact ⟨h.1, Int.lt_add_one_of_le h.2⟩
section
variable {H : Type} {enc : TypeId × Value → H} {W : World}
theorem cell_same {W W' : World} {p : Addr} (h : W'.heap[p.block]? = W.heap[p.block]?) : W'.cell? p = W.cell? p := by
  unfold World.cell?
  rw [h]
theorem cell_kept {W W' : World} {p : Addr} {v : Value} (h : ∀ k, True → k < W.heap.size → W'.heap[k]? = W.heap[k]?) (hc : W.cell? p = some v) : W'.cell? p = some v :=
  (cell_same (h p.block trivial (World.block_lt_of_cell? W p hc))).trans hc
abbrev Any (_ : Nat) : Prop := True
theorem open_body {fuel : Nat} {cs : List Value} {x : DataW H × List MemPlace} (h : DataW.trod enc Tryd.prog W 0 (fun _ => true) true fuel 24 cs = some x) :
    ∃ A c, ∃ l : List Int, cs = [.slice A l.length c] ∧ l.length ≤ c ∧ Kd.F (Kd.int .u8) W Any A l.length l ∧ YtkceebgncfggjaaDoorQ.Bytes l ∧ l.length ≤ Rows.uptoBulk x.1 := by
  rcases open_ints Tryd.underlying24 Tryd.underlying5 cells5 h with ⟨rfl, rfl⟩ | ⟨a, len, cap, zs, rfl, _, hl, hm, hz, rfl, hcell, hwz⟩
  · exact ⟨none, 0, [], rfl, Nat.le_refl _, fun W' _ => Kd.C_nil _ _, YtkceebgncfggjaaDoorQ.Bytes.nil, Nat.zero_le _⟩
  · have hz' : zs.length = cap := by simpa using hz
    have h4 : (lits (H := H) .u8 (zs.take len)).length = len := by
      unfold lits
      rw [List.length_map, List.length_take]; omega
    have h3 := bulks.slice_len (H := H) (lits .u8 (zs.take len)) (lits .u8 (zs.drop len))
    obtain ⟨l, rfl, hr, _, hw, hc⟩ := ReadsInt.ofRowC (w := W) (a := some a) (cap := cap) (.inr ⟨a, rfl, hl, hm, hz', hcell, hwz⟩)
    refine ⟨some a, cap, l, rfl, hc, fun W' hW => Kd.C_of_reads (d := (0 : Int)) (h1 := fun _ => rfl) ⟨hr.1, hr.2.1, fun hn => ?_⟩, bytes_wf hw, by dsimp only; omega⟩
    obtain ⟨ad, he, hcl⟩ := hr.2.2 hn
    exact ⟨ad, he, fun k hk => cell_kept hW (hcl k hk)⟩
theorem open_row {fuel : Nat} {cs : List Value} {x : DataW H × List MemPlace} (h : DataW.trod enc Tryd.prog W 0 (fun _ => true) true fuel 41 cs = some x)
    (each : ∀ m, m < fuel → ∀ cs d p, DataW.trod enc Tryd.prog W 0 (fun _ => true) true m 43 cs = some (d, p) → ∃ y : S43, Kd.FK k43 W Any y cs ∧ ∀ D, YtkceebgncfggjaaDoorQ.okn (Rows.uptoBulk d) D y) :
    ∃ A c, ∃ ks : List S43, cs = [.slice A ks.length c] ∧ ks.length ≤ c ∧ Kd.F k43 W Any A ks.length ks ∧ ks.length ≤ Rows.uptoBulk x.1 ∧ ∀ y ∈ ks, ∀ D, YtkceebgncfggjaaDoorQ.okn (Rows.uptoBulk x.1) D y := by
  rcases DataW.trod_slice Tryd.underlying41 h with ⟨rfl, rfl⟩ | ⟨a, len, cap, elems, rest, m, rfl, rfl, rfl, _, hl, hm, hlen, hel, _, _⟩
  · exact ⟨none, 0, [], rfl, Nat.le_refl _, fun W' _ => Kd.C_nil _ _, Nat.zero_le _, fun y hy => by cases hy⟩
  · have key : ∀ i, i < len → ∃ y : S43, (∃ c, c.length = 3 ∧ Kd.FK k43 W Any y c ∧ ∀ j u, c[j]? = some u → W.cell? (a.add (i * 3 + j)) = some u) ∧ ∀ D, YtkceebgncfggjaaDoorQ.okn (Rows.uptoBulk (.slice (elems.map (·.1)) (rest.map (·.1)) : DataW H)) D y := by
      intro i hi
      have h1 := hel i hi
      rw [cells43] at h1
      have hi2 : i < elems.length := by omega
      rw [List.getElem?_eq_getElem hi2] at h1
      obtain ⟨c, hc, ht⟩ := Option.bind_eq_some_iff.1 h1
      obtain ⟨y, hy, ho⟩ := each m (Nat.lt_succ_self _) c _ _ ht
      have hcl : c.length = 3 := k43.K_len (Kd.FK_now hy)
      refine ⟨y, ⟨c, hcl, hy, fun j u hu => ?_⟩, fun D => okn_mono ?_ (ho D)⟩
      · have hj : j < 3 := by have := (List.getElem?_eq_some_iff.1 hu).1; omega
        have := (World.cells?_some hc).2.2 j hj
        rw [Addr.add_add] at this
        rw [this, hu]
      · have h2 : (elems[i]'hi2).1 ∈ elems.map (·.1) := List.mem_map.2 ⟨_, List.getElem_mem hi2, rfl⟩
        have h3 := bulks.part_le h2
        show Rows.uptoBulk (elems[i]'hi2).1 ≤ _
        simp only [Rows.uptoBulk]
        omega
    have hn : ∃ ks : List S43, ks.length = len ∧ ∀ i y, ks[i]? = some y → (∃ c, c.length = 3 ∧ Kd.FK k43 W Any y c ∧ ∀ j u, c[j]? = some u → W.cell? (a.add (i * 3 + j)) = some u) ∧ ∀ D, YtkceebgncfggjaaDoorQ.okn (Rows.uptoBulk (.slice (elems.map (·.1)) (rest.map (·.1)) : DataW H)) D y := by
      classical
      refine ⟨(List.range len).map fun i => if hi : i < len then (key i hi).choose else z43, by simp, fun i y hy => ?_⟩
      have hi : i < len := by have := (List.getElem?_eq_some_iff.1 hy).1; simpa using this
      rw [List.getElem?_map, List.getElem?_range hi, Option.map_some, dif_pos hi] at hy
      obtain rfl := Option.some.inj hy
      exact (key i hi).choose_spec
    obtain ⟨ks, hkl, hks⟩ := hn
    have hb := bulks.slice_len (H := H) (elems.map (·.1)) (rest.map (·.1))
    rw [List.length_map] at hb
    subst hkl
    refine ⟨some a, cap, ks, rfl, hl, fun W' hW => ⟨rfl, by simp only [maxLen] at hm; omega, fun _ => ⟨a, rfl, fun j p hj => ?_⟩⟩, by dsimp only; omega, fun y hy D => ?_⟩
    · obtain ⟨c, h1, h2, h3⟩ := (hks j p hj).1
      exact ⟨c, h1, h2 W' hW, fun i u hu => cell_kept hW (h3 i u hu)⟩
    · obtain ⟨i, hi⟩ := List.getElem?_of_mem hy
      exact (hks i y hi).2 D
set_option maxRecDepth 100000 in
theorem open_node : ∀ (fuel : Nat) (cs : List Value) (d : DataW H) (p : List MemPlace), DataW.trod enc Tryd.prog W 0 (fun _ => true) true fuel 43 cs = some (d, p) → ∃ y : S43, Kd.FK k43 W Any y cs ∧ ∀ D, YtkceebgncfggjaaDoorQ.okn (Rows.uptoBulk d) D y := by
  intro fuel
  induction fuel using Nat.strongRecOn with
  | _ fuel ih =>
    intro cs d p h
    obtain ⟨xs, m, rfl, hx, hl, hxl, hall⟩ := DataW.trod_struct Tryd.underlying43 h
    rw [cells43] at hl
    have hxl' : xs.length = 3 := hxl
    match cs, hl with
    | [c0, c1, c2], _ =>
      match xs, hxl' with
      | [y0, y1, y2], _ =>
        have h0 : DataW.trod enc Tryd.prog W 0 (fun _ => true) true m 5 (([c0, c1, c2].drop 0).take (Tryd.prog.cellsOf 5)) = some y0 := hall 0 _ rfl
        have h1 : DataW.trod enc Tryd.prog W 0 (fun _ => true) true m 24 (([c0, c1, c2].drop 1).take (Tryd.prog.cellsOf 24)) = some y1 := hall 1 _ rfl
        have h2 : DataW.trod enc Tryd.prog W 0 (fun _ => true) true m 41 (([c0, c1, c2].drop 2).take (Tryd.prog.cellsOf 41)) = some y2 := hall 2 _ rfl
        rw [cells5] at h0
        rw [cells24] at h1
        rw [cells41] at h2
        obtain ⟨t, e0, hy0, hw0⟩ := DataW.trod_int Tryd.underlying5 h0
        obtain ⟨A1, q1, l1, e1, hl1, hC1, hB1, hb1⟩ := open_body h1
        obtain ⟨A2, q2, l2, e2, hl2, hC2, hb2, hks⟩ := open_row h2 fun m' hm' => ih m' (by omega)
        obtain rfl : c0 = .int .u8 t := by injection e0
        obtain rfl : c1 = .slice A1 l1.length q1 := by injection e1
        obtain rfl : c2 = .slice A2 l2.length q2 := by injection e2
        obtain ⟨rfl, rfl⟩ := Prod.mk.inj hx
        have hbulk : Rows.uptoBulk (.agg ([y0, y1, y2].map (·.1)) : DataW H) = Rows.uptoBulk y0.1 + (Rows.uptoBulk y1.1 + (Rows.uptoBulk y2.1 + 0)) + 1 := rfl
        refine ⟨⟨t, l1, l2⟩, k43_mkF W Any ⟨t, l1, l2⟩ hl1 hC1 hl2 hC2, fun D => ?_⟩
        cases D with
        | zero => trivial
        | succ D =>
          simp only [Lit.wf, Bool.and_eq_true, decide_eq_true_eq] at hw0
          refine ⟨hw0.1, Int.lt_add_one_of_le hw0.2, hB1, ?_, ?_, fun y hy => okn_mono ?_ (hks y hy D)⟩
          · show l1.length ≤ _; omega
          · show l2.length ≤ _; omega
          · omega
end
def rho : Go.Shelf.Ren := ⟨fun x => x, fun x => if x = 138 then 121 else if x = 139 then 122 else x, fun x => if x = 3 then 1 else 2⟩
theorem accept_same : (Rows.laid_unicode_utf8_acceptRanges : DataW Unit) = Lib.acceptData := by kernel_rfl
theorem first_same : (Rows.laid_unicode_utf8_first : DataW Unit) = Lib.firstData := by kernel_rfl
theorem tabs {W : World} {l : List (String × DataW Unit)} (h : laidMet Tryd.prog l W) (h1 : ("unicode/utf8.first", Rows.laid_unicode_utf8_first) ∈ l) (h2 : ("unicode/utf8.acceptRanges", Rows.laid_unicode_utf8_acceptRanges) ∈ l) : TabU W :=
  utf8Tabs_of_readsT (P := Tryd.prog) (ρ := rho) ⟨Tryd.underlying5, Tryd.underlying119, Tryd.underlying121, Tryd.underlying122⟩ ⟨by kernel_rfl, by kernel_rfl, by kernel_rfl, by kernel_rfl, by kernel_rfl, by kernel_rfl, by kernel_rfl⟩
    (first_same ▸ Lib.laidMet.reads h h1) (accept_same ▸ Lib.laidMet.reads h h2)
end Go.Proofs.YtkceebgncfggjaaDoor.opens

