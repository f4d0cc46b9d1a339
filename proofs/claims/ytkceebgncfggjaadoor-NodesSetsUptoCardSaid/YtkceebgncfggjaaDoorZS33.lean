/- NodesSets: words, printed functions and plain laws that the claim uses, laid by a program of this session's. No condition beside those in each theorem's own line. -/
import Derived.Deep.DeepHandedRow
import Derived.JoinedCond
import Derived.Lib.LaidTab
import Derived.Test.YtkceebgncfggjaaDoorCards
import Derived.Test.YtkceebgncfggjaaDoorTie
import Derived.Test.YtkceebgncfggjaaDoorZS32
set_option linter.unusedVariables false
set_option linter.unusedSimpArgs false
namespace Go.Proofs.YtkceebgncfggjaaDoor.nodesSets
open Go.ChangeShapes Go.WideShapes Go.ChangeAt Go.RowKit Go.Proofs.YtkceebgncfggjaaDoorW.PrintWords Go.Proofs.YtkceebgncfggjaaDoorX Go.Proofs.YtkceebgncfggjaaDoor.PQ
theorem own : ownKnob Tryd.prog.godebug = none := by kernel_rfl
theorem laidOut : laidOutB Tryd.prog = true := by kernel_rfl
theorem tab {W : World} (h : laidMetH Tryd.prog Rows.nodesSetsUptoRow.laid W) : TabU W := opens.tabs (l := Rows.nodesSetsUptoRow.laid) h (by simp [Rows.nodesSetsUptoRow]) (by simp [Rows.nodesSetsUptoRow])
theorem walk (x0 : S43) (A0_1 : Option Addr) (c0_1 : Nat) (A0_2 : Option Addr) (c0_2 : Nat) (x1 : S43) (A1_1 : Option Addr) (c1_1 : Nat) (A1_2 : Option Addr) (c1_2 : Nat) (w : World) (hT : TabU w) (q0_1 : x0.f1.length ≤ c0_1) (g0_1 : Kd.F (Kd.int .u8) w opens.Any A0_1 x0.f1.length x0.f1) (q0_2 : x0.f2.length ≤ c0_2) (g0_2 : Kd.F k43 w opens.Any A0_2 x0.f2.length x0.f2) (o0 : ∀ D, YtkceebgncfggjaaDoorQ.okn YtkceebgncfggjaaDoorQ.MM D x0) (q1_1 : x1.f1.length ≤ c1_1) (g1_1 : Kd.F (Kd.int .u8) w opens.Any A1_1 x1.f1.length x1.f1) (q1_2 : x1.f2.length ≤ c1_2) (g1_2 : Kd.F k43 w opens.Any A1_2 x1.f2.length x1.f2) (o1 : ∀ D, YtkceebgncfggjaaDoorQ.okn YtkceebgncfggjaaDoorQ.MM D x1) :
    Calls Tryd.prog 10 #[.agg #[.int .u8 x0.f0, .slice A0_1 x0.f1.length c0_1, .slice A0_2 x0.f2.length c0_2], .agg #[.int .u8 x1.f0, .slice A1_1 x1.f1.length c1_1, .slice A1_2 x1.f2.length c1_2]] w fun e w' => e = .returned (.bool true) ∧ Below w.heap.size w w' := by
  obtain ⟨k, h⟩ := YtkceebgncfggjaaDoorQ.nodes_sets o0 o1
  refine (warderlaw04_NodesSets.calls k x0.f0 opens.Any _ _ x0.f1 opens.Any _ _ x0.f2 x1.f0 opens.Any _ _ x1.f1 opens.Any _ _ x1.f2 true w hT (Kd.V_mk q0_1 g0_1) (Kd.V_mk q0_2 g0_2) (Kd.V_mk q1_1 g1_1) (Kd.V_mk q1_2 g1_2) h).mono ?_
  rintro e w' ⟨rfl, hd⟩
  exact ⟨rfl, hd⟩
def acceptZ : List Int := [128, 191, 160, 191, 128, 159, 144, 191, 128, 143, 0, 0, 0, 0, 0, 0, 0, 0, 0, 0, 0, 0, 0, 0, 0, 0, 0, 0, 0, 0, 0, 0]
def layU (cs : List Value) : Obj → Obj
  | .cells _ t frozen => .cells cs.toArray t frozen
  | o => o
noncomputable def laidWorld (os : Os) : World :=
  { World.holding Tryd.prog os ⟨#[], #[], []⟩ with heap := ((World.holding Tryd.prog os ⟨#[], #[], []⟩).heap.modify 1 (layU (Go.Pinned.utf8FirstZ.map fun (z : Nat) => Value.int .u8 (z : Int)))).modify 2 (layU (acceptZ.map fun z => Value.int .u8 z)) }
theorem laid_met (os : Os) : laidMet Tryd.prog Rows.nodesSetsUptoRow.laid ((laidWorld os).forCall (fun _ _ => 0) ⟨#[], #[.agg #[.int .u8 0, .slice none 0 0, .slice none 0 0], .agg #[.int .u8 0, .slice none 0 0, .slice none 0 0]], []⟩).memory :=
  laidMet_of_run' 8 (by kernel_rfl) (by kernel_rfl)
theorem reads (os : Os) {H : Type} (enc : TypeId × Value → H) : ∃ places, DataW.whole enc Tryd.prog ((laidWorld os).forCall (fun _ _ => 0) ⟨#[], #[.agg #[.int .u8 0, .slice none 0 0, .slice none 0 0], .agg #[.int .u8 0, .slice none 0 0, .slice none 0 0]], []⟩).memory Tryd.f10.params.toList Rows.nodesSetsSpec.vars false (#[.agg #[.int .u8 0, .slice none 0 0, .slice none 0 0], .agg #[.int .u8 0, .slice none 0 0, .slice none 0 0]] : Array Value).toList 8 = some ([.agg [.lit (.int .u8 0), .nil, .nil], .agg [.lit (.int .u8 0), .nil, .nil]], [], places) :=
  ⟨[], by kernel_rfl⟩
set_option maxRecDepth 100000 in
theorem lifted (os : Os) (started : os.Started) (H : Type) (enc : TypeId × Value → H) (F : Stop.Interp) :
    ReturnsInHanded {} Tryd.checked os 10 .any ((Rows.OpenSpec.upto Rows.nodesSetsSpec).preRow enc Tryd.prog Tryd.f10 Rows.nodesSetsUptoRow.domain false Rows.nodesSetsUptoRow.laid) (((Rows.OpenSpec.upto Rows.nodesSetsSpec).at F).post enc Tryd.prog Tryd.f10 false true false false) := by
  obtain ⟨places, hx⟩ := reads os enc
  refine returnsInHanded_of_row (C := Tryd.checked) (s := (Rows.OpenSpec.upto Rows.nodesSetsSpec)) own started (by kernel_rfl) Tryd.func10
    (witness_row_at (enc := enc) (C := Tryd.checked) false (laidWorld os) #[.agg #[.int .u8 0, .slice none 0 0, .slice none 0 0], .agg #[.int .u8 0, .slice none 0 0, .slice none 0 0]] rfl (by kernel_rfl) (by kernel_rfl) (by kernel_rfl)
      (OpenSpec.preRow_of_cond 8 hx (by kernel_rfl) (fun k hk => by cases hk; kernel_rfl) (by kernel_rfl) (laid_met os))) ?_
  intro W base args ds gs before hval0 hW _ hcond hsz0 hL _ _
  have hbulk := bulks.bound (hcond _ rfl)
  have hval : ∀ (j : Nat) t v, Tryd.f10.params[j]? = some t → args[j]? = some v → Value.okWide Tryd.prog W .any base t v := hval0
  have hW' := hW
  obtain ⟨p, q, hA0, hV, rfl, hfz, hnd⟩ := hW
  have hA : DataW.TrodAll enc Tryd.prog W 0 (fun _ => true) true Tryd.f10.params.toList args.toList ds p := hA0
  have hsz : (DataW.weightsEach Tryd.prog (Tryd.f10.params.toList ++ []) (ds ++ gs)).all (· ≤ reachBytes) = true := hsz0
  rw [Tryd.params10] at hA hval hsz
  obtain ⟨v0, vs0, d0, ds0, p0, q0, hargs, rfl, rfl, h0, r0⟩ := trodAll_cons hA
  obtain ⟨v1, vs1, d1, ds1, p1, q1, rfl, rfl, rfl, h1, r1⟩ := trodAll_cons r0
  obtain ⟨rfl, rfl, rfl⟩ := trodAll_nil r1
  obtain rfl : args = #[v0, v1] := by cases args; simp_all
  obtain ⟨rfl, rfl⟩ := trodVars_none hV
  obtain ⟨cs0, rfl, _⟩ := okWide_struct Tryd.underlying43 (hval 0 43 v0 rfl rfl)
  have k0 := h0
  have lt0 : ∀ x ∈ p0, x.block < W.heap.size := by obtain ⟨m, hm⟩ := k0; exact DataW.trod_lt m _ _ _ hm
  have b0 : Rows.uptoBulk d0 ≤ 1048576 := Nat.le_trans (bulks.part_le (by simp)) hbulk
  obtain ⟨x0, y0, o0⟩ : ∃ x : S43, Kd.FK k43 W opens.Any x cs0.toList ∧ ∀ D, YtkceebgncfggjaaDoorQ.okn (Rows.uptoBulk d0) D x := by
    obtain ⟨fuel, hf⟩ := h0
    exact opens.open_node fuel _ _ _ hf
  obtain ⟨A0_1, c0_1, A0_2, c0_2, e0, q0_1, g0_1, q0_2, g0_2⟩ := k43_openF y0
  obtain rfl : cs0 = #[.int .u8 x0.f0, .slice A0_1 x0.f1.length c0_1, .slice A0_2 x0.f2.length c0_2] := Array.toList_inj.1 e0
  clear y0 e0
  obtain ⟨cs1, rfl, _⟩ := okWide_struct Tryd.underlying43 (hval 1 43 v1 rfl rfl)
  have k1 := h1
  have lt1 : ∀ x ∈ p1, x.block < W.heap.size := by obtain ⟨m, hm⟩ := k1; exact DataW.trod_lt m _ _ _ hm
  have b1 : Rows.uptoBulk d1 ≤ 1048576 := Nat.le_trans (bulks.part_le (by simp)) hbulk
  obtain ⟨x1, y1, o1⟩ : ∃ x : S43, Kd.FK k43 W opens.Any x cs1.toList ∧ ∀ D, YtkceebgncfggjaaDoorQ.okn (Rows.uptoBulk d1) D x := by
    obtain ⟨fuel, hf⟩ := h1
    exact opens.open_node fuel _ _ _ hf
  obtain ⟨A1_1, c1_1, A1_2, c1_2, e1, q1_1, g1_1, q1_2, g1_2⟩ := k43_openF y1
  obtain rfl : cs1 = #[.int .u8 x1.f0, .slice A1_1 x1.f1.length c1_1, .slice A1_2 x1.f2.length c1_2] := Array.toList_inj.1 e1
  clear y1 e1
  clear hA0 hval0
  refine (walk x0 A0_1 c0_1 A0_2 c0_2 x1 A1_1 c1_1 A1_2 c1_2 W (tab hL) q0_1 g0_1 q0_2 g0_2 (fun D => opens.okn_mono b0 (o0 D)) q1_1 g1_1 q1_2 g1_2 (fun D => opens.okn_mono b1 (o1 D))).mono fun e W' ⟨he, bel⟩ => ?_
  subst he
  exact ⟨_, rfl, _, _, _, [], _, [], hW', trodAll_mk1 (shut_bool Tryd.underlying4 _), (trodAll_cons_mk (Below.trod laidOut (by kernel_rfl) (of_decide_eq_true (by kernel_rfl)) k0 bel lt0) (trodAll_cons_mk (Below.trod laidOut (by kernel_rfl) (of_decide_eq_true (by kernel_rfl)) k1 bel lt1) trodAll_mk0)), rfl, bel.frame _, fun h => by cases h⟩
theorem said : Rows.NodesSetsUptoSaid :=
  OpenClaim.holds_of_cond 10 Tryd.f10 rfl rfl rfl rfl rfl rfl rfl ⟨rfl, rfl, rfl, rfl, rfl⟩ rfl rfl rfl rfl rfl (by kernel_rfl) Tryd.func10 (by kernel_rfl)
    (of_decide_eq_true (by kernel_rfl)) (by unfold Func.isWrapper; first | (rw [if_pos (by decide +kernel)]; kernel_rfl) | (rw [if_neg (by decide +kernel)]; exact ⟨rfl, rfl⟩))
    (fun os started H enc _ F => by rw [OpenClaim.pre_eq_preRow]; exact lifted os started H enc F)
theorem plain (f : FuncId) (fn : Func) (hf : Tryd.pinned.checked.prog.funcNamed "warder/warderlaw04.NodesSets" = some f) (hfn : Tryd.pinned.checked.prog.funcs[f]? = some fn) :
    true = Tryd.pinned.checked.prog.looks [] ∧ ∀ (j : Nat) t, fn.params[j]? = some t → Tryd.pinned.checked.prog.wantsStandIn t = false := by
  obtain rfl : f = 10 := Option.some.inj ((show Tryd.prog.funcNamed "warder/warderlaw04.NodesSets" = some 10 by kernel_rfl).symm.trans hf) |>.symm
  obtain rfl : fn = Tryd.f10 := (Option.some.inj (Tryd.func10.symm.trans hfn)).symm
  refine ⟨by kernel_rfl, fun j t ht => ?_⟩
  rw [Tryd.params10] at ht
  have hm := Array.mem_of_getElem? ht
  have ht' : t = 43 := by simpa using hm
  rcases ht' with rfl
  · exact (show Tryd.prog.wantsStandIn 43 = false by kernel_rfl)
theorem card : Rows.NodesSetsUptoCardSaid :=
  Claim7.holds_tied_plain_at .later [] _ _ _ _ said (fun _ h => by cases h) (by kernel_rfl) (fun _ h => by cases h) nodesSetsUpto_row_tie rfl ⟨rfl, rfl⟩ (by kernel_rfl) rfl plain (by kernel_rfl)
end Go.Proofs.YtkceebgncfggjaaDoor.nodesSets
namespace Go.Proofs.YtkceebgncfggjaaDoor
theorem nodesSets_upto_card_holds : Rows.NodesSetsUptoCardSaid := nodesSets.card
end Go.Proofs.YtkceebgncfggjaaDoor

