/- LawNodesInner: texts of this claim, laid one behind the other by a program of this session's (wip/bundle.py): words, printed functions and plain laws that its theorem uses. No condition beside those in each theorem's own line. -/
import Derived.Below
import Derived.ChangeOld
import Derived.Deep.DeepHandedRow
import Derived.JoinedCond
import Derived.Lib.LaidTab
import Derived.OpenShut
import Derived.ProofKit
import Derived.ShutString
import Derived.Test.YtkceebgncfggjaaDoorCards
import Derived.Test.YtkceebgncfggjaaDoorTie
import Derived.Test.YtkceebgncfggjaaDoorZJ1
import Derived.Test.YtkceebgncfggjaaDoorZJ10
import Derived.Test.YtkceebgncfggjaaDoorZJ11
import Derived.Test.YtkceebgncfggjaaDoorZJ12
import Derived.Test.YtkceebgncfggjaaDoorZJ13
import Derived.Test.YtkceebgncfggjaaDoorZJ14
import Derived.Test.YtkceebgncfggjaaDoorZJ15
import Derived.Test.YtkceebgncfggjaaDoorZJ16
import Derived.Test.YtkceebgncfggjaaDoorZJ17
import Derived.Test.YtkceebgncfggjaaDoorZJ18
import Derived.Test.YtkceebgncfggjaaDoorZJ19
import Derived.Test.YtkceebgncfggjaaDoorZJ2
import Derived.Test.YtkceebgncfggjaaDoorZJ20
import Derived.Test.YtkceebgncfggjaaDoorZJ21
import Derived.Test.YtkceebgncfggjaaDoorZJ22
import Derived.Test.YtkceebgncfggjaaDoorZJ23
import Derived.Test.YtkceebgncfggjaaDoorZJ24
import Derived.Test.YtkceebgncfggjaaDoorZJ25
import Derived.Test.YtkceebgncfggjaaDoorZJ26
import Derived.Test.YtkceebgncfggjaaDoorZJ27
import Derived.Test.YtkceebgncfggjaaDoorZJ28
import Derived.Test.YtkceebgncfggjaaDoorZJ29
import Derived.Test.YtkceebgncfggjaaDoorZJ3
import Derived.Test.YtkceebgncfggjaaDoorZJ30
import Derived.Test.YtkceebgncfggjaaDoorZJ31
import Derived.Test.YtkceebgncfggjaaDoorZJ32
import Derived.Test.YtkceebgncfggjaaDoorZJ33
import Derived.Test.YtkceebgncfggjaaDoorZJ4
import Derived.Test.YtkceebgncfggjaaDoorZJ5
import Derived.Test.YtkceebgncfggjaaDoorZJ6
import Derived.Test.YtkceebgncfggjaaDoorZJ7
import Derived.Test.YtkceebgncfggjaaDoorZJ8
import Derived.Test.YtkceebgncfggjaaDoorZJ9
import Derived.WalkKit
set_option linter.unusedVariables false
set_option linter.unusedSimpArgs false
namespace Go.Proofs.YtkceebgncfggjaaDoor.nodesInner
open Go.ChangeShapes Go.WideShapes Go.ChangeAt Go.RowKit Go.Proofs.YtkceebgncfggjaaDoorW.PrintWords Go.Proofs.YtkceebgncfggjaaDoorX Go.Proofs.YtkceebgncfggjaaDoor.PQ
theorem own : ownKnob Tryd.prog.godebug = none := by kernel_rfl
theorem laidOut : laidOutB Tryd.prog = true := by kernel_rfl
theorem tab {W : World} (h : laidMetH Tryd.prog Rows.nodesInnerUptoRow.laid W) : TabU W := opens.tabs (l := Rows.nodesInnerUptoRow.laid) h (by simp [Rows.nodesInnerUptoRow]) (by simp [Rows.nodesInnerUptoRow])
theorem int_wf {k : IntKind} {x : Int} (hw : (Lit.int k x).wf = true) : k.min ≤ x ∧ x ≤ k.max := by
  simp only [Lit.wf, Bool.and_eq_true, decide_eq_true_eq] at hw
  exact hw
theorem walk (A0 : Option Addr) (c0 : Nat) (l0 : List S43) (a1 : Int) (a2 : Int) (w : World) (hT : TabU w) (q0 : l0.length ≤ c0) (g0 : Kd.C k43 w A0 l0.length l0) (m0 : l0.length ≤ YtkceebgncfggjaaDoorQ.MM) (o0 : ∀ y ∈ l0, ∀ D, YtkceebgncfggjaaDoorQ.okn YtkceebgncfggjaaDoorQ.MM D y) (w1 : (Lit.int .u8 a1).wf = true) (w2 : (Lit.int .u32 a2).wf = true) :
    Calls Tryd.prog 8 #[.slice A0 l0.length c0, .int .u8 a1, .int .u32 a2] w fun e w' => e = .returned (.bool true) ∧ Below w.heap.size w w' := by
  have g1 := int_wf w1
  have g1' : 0 ≤ a1 ∧ a1 ≤ 255 := g1
  obtain ⟨n1, rfl⟩ := Int.eq_ofNat_of_zero_le g1'.1
  have g2 := int_wf w2
  have g2' : 0 ≤ a2 ∧ a2 ≤ 4294967295 := g2
  obtain ⟨n2, rfl⟩ := Int.eq_ofNat_of_zero_le g2'.1
  obtain ⟨k, h⟩ := YtkceebgncfggjaaDoorQ.nodes_inner (tag := n1) (m := n2) m0 o0 (by omega) (by omega)
  refine (warderlaw04_NodesInner.calls k _ _ l0 (n1 : Int) (n2 : Int) true w hT g0 q0 h).mono ?_
  rintro e w' ⟨rfl, hd⟩
  exact ⟨rfl, hd⟩
def acceptZ : List Int := [128, 191, 160, 191, 128, 159, 144, 191, 128, 143, 0, 0, 0, 0, 0, 0, 0, 0, 0, 0, 0, 0, 0, 0, 0, 0, 0, 0, 0, 0, 0, 0]
def layU (cs : List Value) : Obj → Obj
  | .cells _ t frozen => .cells cs.toArray t frozen
  | o => o
noncomputable def laidWorld (os : Os) : World :=
  { World.holding Tryd.prog os ⟨#[], #[], []⟩ with heap := ((World.holding Tryd.prog os ⟨#[], #[], []⟩).heap.modify 1 (layU (Go.Pinned.utf8FirstZ.map fun (z : Nat) => Value.int .u8 (z : Int)))).modify 2 (layU (acceptZ.map fun z => Value.int .u8 z)) }
theorem laid_met (os : Os) : laidMet Tryd.prog Rows.nodesInnerUptoRow.laid ((laidWorld os).forCall (fun _ _ => 0) ⟨#[], #[.slice none 0 0, .int .u8 0, .int .u32 0], []⟩).memory :=
  laidMet_of_run' 8 (by kernel_rfl) (by kernel_rfl)
theorem reads (os : Os) {H : Type} (enc : TypeId × Value → H) : ∃ places, DataW.whole enc Tryd.prog ((laidWorld os).forCall (fun _ _ => 0) ⟨#[], #[.slice none 0 0, .int .u8 0, .int .u32 0], []⟩).memory Tryd.f8.params.toList Rows.nodesInnerSpec.vars false (#[.slice none 0 0, .int .u8 0, .int .u32 0] : Array Value).toList 8 = some ([.nil, .lit (.int .u8 0), .lit (.int .u32 0)], [], places) :=
  ⟨[], by kernel_rfl⟩
set_option maxRecDepth 100000 in
theorem lifted (os : Os) (started : os.Started) (H : Type) (enc : TypeId × Value → H) (F : Stop.Interp) :
    ReturnsInHanded {} Tryd.checked os 8 .any ((Rows.OpenSpec.upto Rows.nodesInnerSpec).preRow enc Tryd.prog Tryd.f8 Rows.nodesInnerUptoRow.domain false Rows.nodesInnerUptoRow.laid) (((Rows.OpenSpec.upto Rows.nodesInnerSpec).at F).post enc Tryd.prog Tryd.f8 false true false false) := by
  obtain ⟨places, hx⟩ := reads os enc
  refine returnsInHanded_of_row (C := Tryd.checked) (s := (Rows.OpenSpec.upto Rows.nodesInnerSpec)) own started (by kernel_rfl) Tryd.func8
    (witness_row_at (enc := enc) (C := Tryd.checked) false (laidWorld os) #[.slice none 0 0, .int .u8 0, .int .u32 0] rfl (by kernel_rfl) (by kernel_rfl) (by kernel_rfl)
      (OpenSpec.preRow_of_cond 8 hx (by kernel_rfl) (fun k hk => by cases hk; kernel_rfl) (by kernel_rfl) (laid_met os))) ?_
  intro W base args ds gs before hval0 hW _ hcond hsz0 hL _ _
  have hbulk := bulks.bound (hcond _ rfl)
  have hval : ∀ (j : Nat) t v, Tryd.f8.params[j]? = some t → args[j]? = some v → Value.okWide Tryd.prog W .any base t v := hval0
  have hW' := hW
  obtain ⟨p, q, hA0, hV, rfl, hfz, hnd⟩ := hW
  have hA : DataW.TrodAll enc Tryd.prog W 0 (fun _ => true) true Tryd.f8.params.toList args.toList ds p := hA0
  have hsz : (DataW.weightsEach Tryd.prog (Tryd.f8.params.toList ++ []) (ds ++ gs)).all (· ≤ reachBytes) = true := hsz0
  rw [Tryd.params8] at hA hval hsz
  obtain ⟨v0, vs0, d0, ds0, p0, q0, hargs, rfl, rfl, h0, r0⟩ := trodAll_cons hA
  obtain ⟨v1, vs1, d1, ds1, p1, q1, rfl, rfl, rfl, h1, r1⟩ := trodAll_cons r0
  obtain ⟨v2, vs2, d2, ds2, p2, q2, rfl, rfl, rfl, h2, r2⟩ := trodAll_cons r1
  obtain ⟨rfl, rfl, rfl⟩ := trodAll_nil r2
  obtain rfl : args = #[v0, v1, v2] := by cases args; simp_all
  obtain ⟨rfl, rfl⟩ := trodVars_none hV
  obtain ⟨a0, len0, cap0, rfl⟩ := okWide_slice Tryd.underlying41 (hval 0 41 v0 rfl rfl)
  have k0 := h0
  have lt0 : ∀ x ∈ p0, x.block < W.heap.size := by obtain ⟨m, hm⟩ := k0; exact DataW.trod_lt m _ _ _ hm
  have b0 : Rows.uptoBulk d0 ≤ 1048576 := Nat.le_trans (bulks.part_le (by simp)) hbulk
  obtain ⟨A0, c0, l0, e0, q0, g0, m0, o0⟩ : ∃ A c, ∃ ks : List S43, [Value.slice a0 len0 cap0] = [.slice A ks.length c] ∧ ks.length ≤ c ∧ k43.C W A ks.length ks ∧ ks.length ≤ Rows.uptoBulk d0 ∧ ∀ y ∈ ks, ∀ D, YtkceebgncfggjaaDoorQ.okn (Rows.uptoBulk d0) D y := by
    obtain ⟨fuel, hf⟩ := h0
    exact opens.open_row hf fun m _ => opens.open_node m
  obtain ⟨rfl, rfl, rfl⟩ : a0 = A0 ∧ len0 = l0.length ∧ cap0 = c0 := by simpa using e0
  clear e0
  obtain ⟨a1, rfl, rfl, rfl, w1⟩ := open_int Tryd.underlying5 (hval 1 5 v1 rfl rfl) h1
  obtain ⟨a2, rfl, rfl, rfl, w2⟩ := open_int Tryd.underlying51 (hval 2 51 v2 rfl rfl) h2
  clear hA0 hval0
  refine (walk _ _ l0 a1 a2 W (tab hL) q0 g0 (Nat.le_trans m0 b0) (fun y hy D => opens.okn_mono b0 (o0 y hy D)) w1 w2).mono fun e W' ⟨he, bel⟩ => ?_
  subst he
  exact ⟨_, rfl, _, _, _, [], _, [], hW', trodAll_mk1 (shut_bool Tryd.underlying4 _), (trodAll_cons_mk (Below.trod laidOut (by kernel_rfl) (of_decide_eq_true (by kernel_rfl)) k0 bel lt0) (trodAll_cons_mk (shut_int Tryd.underlying5 w1) (trodAll_cons_mk (shut_int Tryd.underlying51 w2) trodAll_mk0))), rfl, bel.frame _, fun h => by cases h⟩
theorem said : Rows.NodesInnerUptoSaid :=
  OpenClaim.holds_of_cond 8 Tryd.f8 rfl rfl rfl rfl rfl rfl rfl ⟨rfl, rfl, rfl, rfl, rfl⟩ rfl rfl rfl rfl rfl (by kernel_rfl) Tryd.func8 (by kernel_rfl)
    (of_decide_eq_true (by kernel_rfl)) (by unfold Func.isWrapper; first | (rw [if_pos (by decide +kernel)]; kernel_rfl) | (rw [if_neg (by decide +kernel)]; exact ⟨rfl, rfl⟩))
    (fun os started H enc _ F => by rw [OpenClaim.pre_eq_preRow]; exact lifted os started H enc F)
theorem plain (f : FuncId) (fn : Func) (hf : Tryd.pinned.checked.prog.funcNamed "warder/warderlaw04.NodesInner" = some f) (hfn : Tryd.pinned.checked.prog.funcs[f]? = some fn) :
    true = Tryd.pinned.checked.prog.looks [] ∧ ∀ (j : Nat) t, fn.params[j]? = some t → Tryd.pinned.checked.prog.wantsStandIn t = false := by
  obtain rfl : f = 8 := Option.some.inj ((show Tryd.prog.funcNamed "warder/warderlaw04.NodesInner" = some 8 by kernel_rfl).symm.trans hf) |>.symm
  obtain rfl : fn = Tryd.f8 := (Option.some.inj (Tryd.func8.symm.trans hfn)).symm
  refine ⟨by kernel_rfl, fun j t ht => ?_⟩
  rw [Tryd.params8] at ht
  have hm := Array.mem_of_getElem? ht
  have ht' : t = 41 ∨ t = 5 ∨ t = 51 := by simpa using hm
  rcases ht' with rfl | rfl | rfl
  · exact (show Tryd.prog.wantsStandIn 41 = false by kernel_rfl)
  · exact (show Tryd.prog.wantsStandIn 5 = false by kernel_rfl)
  · exact (show Tryd.prog.wantsStandIn 51 = false by kernel_rfl)
theorem card : Rows.NodesInnerUptoCardSaid :=
  Claim7.holds_tied_plain_at .later [] _ _ _ _ said (fun _ h => by cases h) (by kernel_rfl) (fun _ h => by cases h) nodesInnerUpto_row_tie rfl ⟨rfl, rfl⟩ (by kernel_rfl) rfl plain (by kernel_rfl)
end Go.Proofs.YtkceebgncfggjaaDoor.nodesInner
namespace Go.Proofs.YtkceebgncfggjaaDoor
theorem nodesInner_upto_card_holds : Rows.NodesInnerUptoCardSaid := nodesInner.card
end Go.Proofs.YtkceebgncfggjaaDoor

