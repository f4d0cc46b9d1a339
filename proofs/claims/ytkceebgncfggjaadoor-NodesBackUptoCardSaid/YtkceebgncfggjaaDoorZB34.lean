/- LawNodesBack: texts of this claim, laid one behind the other by a program of this session's (wip/bundle.py): words, printed functions and plain laws that its theorem uses. No condition beside those in each theorem's own line. -/
import Derived.Below
import Derived.ChangeOld
import Derived.ChangeSlices
import Derived.Deep.DeepHandedRow
import Derived.JoinedCond
import Derived.Lib.LaidTab
import Derived.OpenShut
import Derived.ProofKit
import Derived.ShutString
import Derived.SizedLaws
import Derived.Test.YtkceebgncfggjaaDoorCards
import Derived.Test.YtkceebgncfggjaaDoorTie
import Derived.Test.YtkceebgncfggjaaDoorZB1
import Derived.Test.YtkceebgncfggjaaDoorZB10
import Derived.Test.YtkceebgncfggjaaDoorZB11
import Derived.Test.YtkceebgncfggjaaDoorZB12
import Derived.Test.YtkceebgncfggjaaDoorZB13
import Derived.Test.YtkceebgncfggjaaDoorZB14
import Derived.Test.YtkceebgncfggjaaDoorZB15
import Derived.Test.YtkceebgncfggjaaDoorZB16
import Derived.Test.YtkceebgncfggjaaDoorZB17
import Derived.Test.YtkceebgncfggjaaDoorZB18
import Derived.Test.YtkceebgncfggjaaDoorZB19
import Derived.Test.YtkceebgncfggjaaDoorZB2
import Derived.Test.YtkceebgncfggjaaDoorZB20
import Derived.Test.YtkceebgncfggjaaDoorZB21
import Derived.Test.YtkceebgncfggjaaDoorZB22
import Derived.Test.YtkceebgncfggjaaDoorZB23
import Derived.Test.YtkceebgncfggjaaDoorZB24
import Derived.Test.YtkceebgncfggjaaDoorZB25
import Derived.Test.YtkceebgncfggjaaDoorZB26
import Derived.Test.YtkceebgncfggjaaDoorZB27
import Derived.Test.YtkceebgncfggjaaDoorZB28
import Derived.Test.YtkceebgncfggjaaDoorZB29
import Derived.Test.YtkceebgncfggjaaDoorZB3
import Derived.Test.YtkceebgncfggjaaDoorZB30
import Derived.Test.YtkceebgncfggjaaDoorZB31
import Derived.Test.YtkceebgncfggjaaDoorZB32
import Derived.Test.YtkceebgncfggjaaDoorZB33
import Derived.Test.YtkceebgncfggjaaDoorZB4
import Derived.Test.YtkceebgncfggjaaDoorZB5
import Derived.Test.YtkceebgncfggjaaDoorZB6
import Derived.Test.YtkceebgncfggjaaDoorZB7
import Derived.Test.YtkceebgncfggjaaDoorZB8
import Derived.Test.YtkceebgncfggjaaDoorZB9
import Derived.WalkKit
set_option linter.unusedVariables false
set_option linter.unusedSimpArgs false
namespace Go.Proofs.YtkceebgncfggjaaDoor.nodesBack
open Go.ChangeShapes Go.WideShapes Go.ChangeAt Go.RowKit Go.Proofs.YtkceebgncfggjaaDoorW.PrintWords Go.Proofs.YtkceebgncfggjaaDoorX Go.Proofs.YtkceebgncfggjaaDoor.PQ
theorem own : ownKnob Tryd.prog.godebug = none := by kernel_rfl
theorem laidOut : laidOutB Tryd.prog = true := by kernel_rfl
theorem tab {W : World} (h : laidMetH Tryd.prog Rows.nodesBackUptoRow.laid W) : TabU W := opens.tabs (l := Rows.nodesBackUptoRow.laid) h (by simp [Rows.nodesBackUptoRow]) (by simp [Rows.nodesBackUptoRow])
def IsRow (k : IntKind) (w : World) (a : Option Addr) (len cap : Nat) (zs : List Int) : Prop :=
  (a = none ∧ len = 0 ∧ cap = 0 ∧ zs = []) ∨
  ∃ x, a = some x ∧ len ≤ cap ∧ cap ≤ maxLen ∧ zs.length = cap ∧ (∀ i, i < zs.length → w.cell? (x.add i) = some (.int k (zs.getD i 0))) ∧ ∀ n ∈ zs, (Lit.int k n).wf = true
theorem bytes_wf {l : List Int} (hw : ∀ x ∈ l, (Lit.int .u8 x).wf = true) : YtkceebgncfggjaaDoorQ.Bytes l := by
  intro x hx
  have h := hw x hx
  simp only [Lit.wf, Bool.and_eq_true, decide_eq_true_eq] at h
  exact ⟨h.1, Int.lt_add_one_of_le h.2⟩
theorem walk (x0 : S43) (A0_1 : Option Addr) (c0_1 : Nat) (A0_2 : Option Addr) (c0_2 : Nat) (a1 : Option Addr) (len1 cap1 : Nat) (z1 : List Int) (w : World) (hT : TabU w) (q0_1 : x0.f1.length ≤ c0_1) (g0_1 : Kd.C (Kd.int .u8) w A0_1 x0.f1.length x0.f1) (q0_2 : x0.f2.length ≤ c0_2) (g0_2 : Kd.C k43 w A0_2 x0.f2.length x0.f2) (o0 : ∀ D, YtkceebgncfggjaaDoorQ.okn YtkceebgncfggjaaDoorQ.MM D x0) (w1 : IsRow .u8 w a1 len1 cap1 z1) (y1 : len1 ≤ 1048576) :
    Calls Tryd.prog 7 #[.agg #[.int .u8 x0.f0, .slice A0_1 x0.f1.length c0_1, .slice A0_2 x0.f2.length c0_2], .slice a1 len1 cap1] w fun e w' => e = .returned (.bool true) ∧ Below w.heap.size w w' := by
  obtain ⟨l1, rfl, hr1, hm1, hw1, hc1⟩ := ReadsInt.ofRowC w1
  have hB1 := bytes_wf hw1
  obtain ⟨k, h⟩ := YtkceebgncfggjaaDoorQ.nodes_back o0 hB1 y1
  refine (warderlaw04_NodesBack.calls k x0.f0 _ _ x0.f1 _ _ x0.f2 _ _ l1 true w hT g0_1 q0_1 g0_2 q0_2 (Kd.C_of_reads (d := (0 : Int)) (h1 := fun _ => rfl) hr1) hc1 h).mono ?_
  rintro e w' ⟨rfl, hd⟩
  exact ⟨rfl, hd⟩
def acceptZ : List Int := [128, 191, 160, 191, 128, 159, 144, 191, 128, 143, 0, 0, 0, 0, 0, 0, 0, 0, 0, 0, 0, 0, 0, 0, 0, 0, 0, 0, 0, 0, 0, 0]
def layU (cs : List Value) : Obj → Obj
  | .cells _ t frozen => .cells cs.toArray t frozen
  | o => o
noncomputable def laidWorld (os : Os) : World :=
  { World.holding Tryd.prog os ⟨#[], #[], []⟩ with heap := ((World.holding Tryd.prog os ⟨#[], #[], []⟩).heap.modify 1 (layU (Go.Pinned.utf8FirstZ.map fun (z : Nat) => Value.int .u8 (z : Int)))).modify 2 (layU (acceptZ.map fun z => Value.int .u8 z)) }
theorem laid_met (os : Os) : laidMet Tryd.prog Rows.nodesBackUptoRow.laid ((laidWorld os).forCall (fun _ _ => 0) ⟨#[], #[.agg #[.int .u8 0, .slice none 0 0, .slice none 0 0], .slice none 0 0], []⟩).memory :=
  laidMet_of_run' 8 (by kernel_rfl) (by kernel_rfl)
theorem reads (os : Os) {H : Type} (enc : TypeId × Value → H) : ∃ places, DataW.whole enc Tryd.prog ((laidWorld os).forCall (fun _ _ => 0) ⟨#[], #[.agg #[.int .u8 0, .slice none 0 0, .slice none 0 0], .slice none 0 0], []⟩).memory Tryd.f7.params.toList Rows.nodesBackSpec.vars false (#[.agg #[.int .u8 0, .slice none 0 0, .slice none 0 0], .slice none 0 0] : Array Value).toList 8 = some ([.agg [.lit (.int .u8 0), .nil, .nil], .nil], [], places) :=
  ⟨[], by kernel_rfl⟩
set_option maxRecDepth 100000 in
theorem lifted (os : Os) (started : os.Started) (H : Type) (enc : TypeId × Value → H) (F : Stop.Interp) :
    ReturnsInHanded {} Tryd.checked os 7 .any ((Rows.OpenSpec.upto Rows.nodesBackSpec).preRow enc Tryd.prog Tryd.f7 Rows.nodesBackUptoRow.domain false Rows.nodesBackUptoRow.laid) (((Rows.OpenSpec.upto Rows.nodesBackSpec).at F).post enc Tryd.prog Tryd.f7 false true false false) := by
  obtain ⟨places, hx⟩ := reads os enc
  refine returnsInHanded_of_row (C := Tryd.checked) (s := (Rows.OpenSpec.upto Rows.nodesBackSpec)) own started (by kernel_rfl) Tryd.func7
    (witness_row_at (enc := enc) (C := Tryd.checked) false (laidWorld os) #[.agg #[.int .u8 0, .slice none 0 0, .slice none 0 0], .slice none 0 0] rfl (by kernel_rfl) (by kernel_rfl) (by kernel_rfl)
      (OpenSpec.preRow_of_cond 8 hx (by kernel_rfl) (fun k hk => by cases hk; kernel_rfl) (by kernel_rfl) (laid_met os))) ?_
  intro W base args ds gs before hval0 hW _ hcond hsz0 hL _ _
  have hbulk := bulks.bound (hcond _ rfl)
  have hval : ∀ (j : Nat) t v, Tryd.f7.params[j]? = some t → args[j]? = some v → Value.okWide Tryd.prog W .any base t v := hval0
  have hW' := hW
  obtain ⟨p, q, hA0, hV, rfl, hfz, hnd⟩ := hW
  have hA : DataW.TrodAll enc Tryd.prog W 0 (fun _ => true) true Tryd.f7.params.toList args.toList ds p := hA0
  have hsz : (DataW.weightsEach Tryd.prog (Tryd.f7.params.toList ++ []) (ds ++ gs)).all (· ≤ reachBytes) = true := hsz0
  rw [Tryd.params7] at hA hval hsz
  obtain ⟨v0, vs0, d0, ds0, p0, q0, hargs, rfl, rfl, h0, r0⟩ := trodAll_cons hA
  obtain ⟨v1, vs1, d1, ds1, p1, q1, rfl, rfl, rfl, h1, r1⟩ := trodAll_cons r0
  obtain ⟨rfl, rfl, rfl⟩ := trodAll_nil r1
  obtain rfl : args = #[v0, v1] := by cases args; simp_all
  obtain ⟨rfl, rfl⟩ := trodVars_none hV
  obtain ⟨cs0, rfl, _⟩ := okWide_struct Tryd.underlying43 (hval 0 43 v0 rfl rfl)
  have k0 := h0
  have lt0 : ∀ x ∈ p0, x.block < W.heap.size := by obtain ⟨m, hm⟩ := k0; exact DataW.trod_lt m _ _ _ hm
  have b0 : Rows.uptoBulk d0 ≤ 1048576 := Nat.le_trans (bulks.part_le (by simp)) hbulk
  obtain ⟨x0, y0, o0⟩ : ∃ x : S43, k43.K W x cs0.toList ∧ ∀ D, YtkceebgncfggjaaDoorQ.okn (Rows.uptoBulk d0) D x := by
    obtain ⟨fuel, hf⟩ := h0
    exact opens.open_node fuel _ _ _ hf
  obtain ⟨A0_1, c0_1, A0_2, c0_2, e0, q0_1, g0_1, q0_2, g0_2⟩ := k43_open y0
  obtain rfl : cs0 = #[.int .u8 x0.f0, .slice A0_1 x0.f1.length c0_1, .slice A0_2 x0.f2.length c0_2] := Array.toList_inj.1 e0
  clear y0 e0
  obtain ⟨a1, len1, cap1, rfl⟩ := okWide_slice Tryd.underlying24 (hval 1 24 v1 rfl rfl)
  have k1 := h1
  have lt1 : ∀ x ∈ p1, x.block < W.heap.size := by obtain ⟨m, hm⟩ := k1; exact DataW.trod_lt m _ _ _ hm
  have b1 : Rows.uptoBulk d1 ≤ 1048576 := Nat.le_trans (bulks.part_le (by simp)) hbulk
  obtain ⟨z1, w1, y1⟩ : ∃ zs, IsRow .u8 W a1 len1 cap1 zs ∧ len1 ≤ Rows.uptoBulk d1 := by
    obtain ⟨fuel, hf⟩ := h1
    rcases open_ints Tryd.underlying24 Tryd.underlying5 (by kernel_rfl) hf with ⟨hcs, _⟩ | ⟨x, l, c, zs, hcs, _, hl, hm, hz, hx, hcell, hwz⟩
    · simp [Value.cells] at hcs
      obtain ⟨rfl, rfl, rfl⟩ := hcs
      exact ⟨[], .inl ⟨rfl, rfl, rfl, rfl⟩, Nat.zero_le _⟩
    · simp [Value.cells] at hcs
      obtain ⟨rfl, rfl, rfl⟩ := hcs
      have hz' : zs.length = cap1 := by simpa using hz
      refine ⟨zs, .inr ⟨_, rfl, hl, hm, hz', hcell, hwz⟩, ?_⟩
      obtain ⟨hd1, _⟩ := Prod.mk.inj hx
      rw [hd1]
      have h3 := bulks.slice_len (H := H) (lits .u8 (zs.take len1)) (lits .u8 (zs.drop len1))
      have h4 : (lits (H := H) .u8 (zs.take len1)).length = len1 := by
        unfold lits
        rw [List.length_map, List.length_take]; omega
      omega
  clear hA0 hval0
  refine (walk x0 A0_1 c0_1 A0_2 c0_2 a1 len1 cap1 z1 W (tab hL) q0_1 g0_1 q0_2 g0_2 (fun D => opens.okn_mono b0 (o0 D)) w1 (Nat.le_trans y1 b1)).mono fun e W' ⟨he, bel⟩ => ?_
  subst he
  exact ⟨_, rfl, _, _, _, [], _, [], hW', trodAll_mk1 (shut_bool Tryd.underlying4 _), (trodAll_cons_mk (Below.trod laidOut (by kernel_rfl) (of_decide_eq_true (by kernel_rfl)) k0 bel lt0) (trodAll_cons_mk (Below.trod laidOut (by kernel_rfl) (of_decide_eq_true (by kernel_rfl)) k1 bel lt1) trodAll_mk0)), rfl, bel.frame _, fun h => by cases h⟩
theorem said : Rows.NodesBackUptoSaid :=
  OpenClaim.holds_of_cond 7 Tryd.f7 rfl rfl rfl rfl rfl rfl rfl ⟨rfl, rfl, rfl, rfl, rfl⟩ rfl rfl rfl rfl rfl (by kernel_rfl) Tryd.func7 (by kernel_rfl)
    (of_decide_eq_true (by kernel_rfl)) (by unfold Func.isWrapper; first | (rw [if_pos (by decide +kernel)]; kernel_rfl) | (rw [if_neg (by decide +kernel)]; exact ⟨rfl, rfl⟩))
    (fun os started H enc _ F => by rw [OpenClaim.pre_eq_preRow]; exact lifted os started H enc F)
theorem plain (f : FuncId) (fn : Func) (hf : Tryd.pinned.checked.prog.funcNamed "warder/warderlaw04.NodesBack" = some f) (hfn : Tryd.pinned.checked.prog.funcs[f]? = some fn) :
    true = Tryd.pinned.checked.prog.looks [] ∧ ∀ (j : Nat) t, fn.params[j]? = some t → Tryd.pinned.checked.prog.wantsStandIn t = false := by
  obtain rfl : f = 7 := Option.some.inj ((show Tryd.prog.funcNamed "warder/warderlaw04.NodesBack" = some 7 by kernel_rfl).symm.trans hf) |>.symm
  obtain rfl : fn = Tryd.f7 := (Option.some.inj (Tryd.func7.symm.trans hfn)).symm
  refine ⟨by kernel_rfl, fun j t ht => ?_⟩
  rw [Tryd.params7] at ht
  have hm := Array.mem_of_getElem? ht
  have ht' : t = 43 ∨ t = 24 := by simpa using hm
  rcases ht' with rfl | rfl
  · exact (show Tryd.prog.wantsStandIn 43 = false by kernel_rfl)
  · exact (show Tryd.prog.wantsStandIn 24 = false by kernel_rfl)
theorem card : Rows.NodesBackUptoCardSaid :=
  Claim7.holds_tied_plain_at .later [] _ _ _ _ said (fun _ h => by cases h) (by kernel_rfl) (fun _ h => by cases h) nodesBackUpto_row_tie rfl ⟨rfl, rfl⟩ (by kernel_rfl) rfl plain (by kernel_rfl)
end Go.Proofs.YtkceebgncfggjaaDoor.nodesBack
namespace Go.Proofs.YtkceebgncfggjaaDoor
theorem nodesBack_upto_card_holds : Rows.NodesBackUptoCardSaid := nodesBack.card
end Go.Proofs.YtkceebgncfggjaaDoor

