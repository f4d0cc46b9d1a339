/-
  No cell of these rows narrows 'for every input' (looked for: loops, veiled, ifaces, maps, wideKeys, modest, calm, conditions, laid).
  DERIVED. THE GIVEN ROWS OF THIS SEAT. 6 by the template 'for every input the law returns true; each argument reads behind the call as it read before'; 0 by the template 'total and deterministic' (their statements: YtekebbbalackkaaTotals.lean).
  GIVEN WITH THE SEED: the statements are not yours to turn. If you find one false, say at which input.
  Laid BY PROGRAM, IN A SANDBOX (cutbox-rows.mjs): the forced cells as the released guide's own fill.sh prints them over the translation 184010c7d17a4d9f… (all of the seat's roots in one cut). By AI agents, Wed Nov 11 2026. No macro, syntax, notation, axiom, sorry.
-/
import Derived.Test.YtekebbbalackkaaChecked
import GoSem.Claim
import GoSem.ClaimJoined
import GoSem.ClaimMapViews
import Derived.JoinedTies
import Derived.KernelRfl
namespace Go.Proofs.Ytekebbbalackkaa
/- THE CELL 'sum', in the pinned program and in every row, IS THE sha256 OF THE DUMP (.gsa) THAT YtekebbbalackkaaProg.lean LOADS. Nothing in Lean hashes anything: it is a label: what it is worth is what the hold of that sum in a sandbox is worth. -/
noncomputable def Try.pinned : Pinned := { name := "ytekebbbalackkaa", sum := "184010c7d17a4d9f74aa8c69cebc1e9a882b99934ab21bfdadf8bcbb5d79590a", checked := Try.checked }
namespace Rows
def none {H : Type} : Left H := { results := [], args := [] }

/-- 'warderlaw02.IntsNumbers': WHATEVER THE INPUT: true; the input reads as it did. -/
def intsNumbersSpec : ChangeSpec := { name := "intsNumbers", fn := fun _ => fun
  | [d1, d2] => { results := [.lit (.bool true)], args := [d1, d2] }
  | _ => none }
def intsNumbersRow : OpenClaim := { program := "ytekebbbalackkaa", sum := "184010c7d17a4d9f74aa8c69cebc1e9a882b99934ab21bfdadf8bcbb5d79590a", func := "warder/warderlaw02.IntsNumbers", spec := "intsNumbers", unfollowed := true, recurses := true, apart := false }
def IntsNumbersSaid : Prop := intsNumbersRow.holds Try.pinned (OpenSpec.ofChange intsNumbersSpec)

/-- ITS FALSE NEIGHBOUR: 'it returns false'. Refute it at one input. -/
def intsNumbersWrong : ChangeSpec := { name := "intsNumbers", fn := fun _ => fun
  | [d1, d2] => { results := [.lit (.bool false)], args := [d1, d2] }
  | _ => none }
def IntsNumbersWrongFalsely : Prop := intsNumbersRow.holds Try.pinned (OpenSpec.ofChange intsNumbersWrong)

/-- 'warderlaw02.IntsObjects': WHATEVER THE INPUT: true; the input reads as it did. -/
def intsObjectsSpec : ChangeSpec := { name := "intsObjects", fn := fun _ => fun
  | [d1, d2] => { results := [.lit (.bool true)], args := [d1, d2] }
  | _ => none }
def intsObjectsRow : OpenClaim := { program := "ytekebbbalackkaa", sum := "184010c7d17a4d9f74aa8c69cebc1e9a882b99934ab21bfdadf8bcbb5d79590a", func := "warder/warderlaw02.IntsObjects", spec := "intsObjects", unfollowed := true, recurses := true, apart := false }
def IntsObjectsSaid : Prop := intsObjectsRow.holds Try.pinned (OpenSpec.ofChange intsObjectsSpec)

/-- ITS FALSE NEIGHBOUR: 'it returns false'. Refute it at one input. -/
def intsObjectsWrong : ChangeSpec := { name := "intsObjects", fn := fun _ => fun
  | [d1, d2] => { results := [.lit (.bool false)], args := [d1, d2] }
  | _ => none }
def IntsObjectsWrongFalsely : Prop := intsObjectsRow.holds Try.pinned (OpenSpec.ofChange intsObjectsWrong)

/-- 'warderlaw02.IntsOrder': WHATEVER THE INPUT: true; the input reads as it did. -/
def intsOrderSpec : ChangeSpec := { name := "intsOrder", fn := fun _ => fun
  | [d1, d2] => { results := [.lit (.bool true)], args := [d1, d2] }
  | _ => none }
def intsOrderRow : OpenClaim := { program := "ytekebbbalackkaa", sum := "184010c7d17a4d9f74aa8c69cebc1e9a882b99934ab21bfdadf8bcbb5d79590a", func := "warder/warderlaw02.IntsOrder", spec := "intsOrder", unfollowed := true, recurses := true, apart := false }
def IntsOrderSaid : Prop := intsOrderRow.holds Try.pinned (OpenSpec.ofChange intsOrderSpec)

/-- ITS FALSE NEIGHBOUR: 'it returns false'. Refute it at one input. -/
def intsOrderWrong : ChangeSpec := { name := "intsOrder", fn := fun _ => fun
  | [d1, d2] => { results := [.lit (.bool false)], args := [d1, d2] }
  | _ => none }
def IntsOrderWrongFalsely : Prop := intsOrderRow.holds Try.pinned (OpenSpec.ofChange intsOrderWrong)

/-- 'warderlaw02.IntsShort': WHATEVER THE INPUT: true; the input reads as it did. -/
def intsShortSpec : ChangeSpec := { name := "intsShort", fn := fun _ => fun
  | [d1, d2] => { results := [.lit (.bool true)], args := [d1, d2] }
  | _ => none }
def intsShortRow : OpenClaim := { program := "ytekebbbalackkaa", sum := "184010c7d17a4d9f74aa8c69cebc1e9a882b99934ab21bfdadf8bcbb5d79590a", func := "warder/warderlaw02.IntsShort", spec := "intsShort", unfollowed := true, recurses := true, apart := false }
def IntsShortSaid : Prop := intsShortRow.holds Try.pinned (OpenSpec.ofChange intsShortSpec)

/-- ITS FALSE NEIGHBOUR: 'it returns false'. Refute it at one input. -/
def intsShortWrong : ChangeSpec := { name := "intsShort", fn := fun _ => fun
  | [d1, d2] => { results := [.lit (.bool false)], args := [d1, d2] }
  | _ => none }
def IntsShortWrongFalsely : Prop := intsShortRow.holds Try.pinned (OpenSpec.ofChange intsShortWrong)

/-- 'warderlaw02.IntsArcs': WHATEVER THE INPUT: true; the input reads as it did. -/
def intsArcsSpec : ChangeSpec := { name := "intsArcs", fn := fun _ => fun
  | [d1, d2] => { results := [.lit (.bool true)], args := [d1, d2] }
  | _ => none }
def intsArcsRow : OpenClaim := { program := "ytekebbbalackkaa", sum := "184010c7d17a4d9f74aa8c69cebc1e9a882b99934ab21bfdadf8bcbb5d79590a", func := "warder/warderlaw02.IntsArcs", spec := "intsArcs", unfollowed := true, recurses := true, apart := false }
def IntsArcsSaid : Prop := intsArcsRow.holds Try.pinned (OpenSpec.ofChange intsArcsSpec)

/-- ITS FALSE NEIGHBOUR: 'it returns false'. Refute it at one input. -/
def intsArcsWrong : ChangeSpec := { name := "intsArcs", fn := fun _ => fun
  | [d1, d2] => { results := [.lit (.bool false)], args := [d1, d2] }
  | _ => none }
def IntsArcsWrongFalsely : Prop := intsArcsRow.holds Try.pinned (OpenSpec.ofChange intsArcsWrong)

/-- 'warderlaw02.IntsTruths': WHATEVER THE INPUT: true; the input reads as it did. -/
def intsTruthsSpec : ChangeSpec := { name := "intsTruths", fn := fun _ => fun
  | [d1, d2] => { results := [.lit (.bool true)], args := [d1, d2] }
  | _ => none }
def intsTruthsRow : OpenClaim := { program := "ytekebbbalackkaa", sum := "184010c7d17a4d9f74aa8c69cebc1e9a882b99934ab21bfdadf8bcbb5d79590a", func := "warder/warderlaw02.IntsTruths", spec := "intsTruths", unfollowed := true, recurses := true, apart := false }
def IntsTruthsSaid : Prop := intsTruthsRow.holds Try.pinned (OpenSpec.ofChange intsTruthsSpec)

/-- ITS FALSE NEIGHBOUR: 'it returns false'. Refute it at one input. -/
def intsTruthsWrong : ChangeSpec := { name := "intsTruths", fn := fun _ => fun
  | [d1, d2] => { results := [.lit (.bool false)], args := [d1, d2] }
  | _ => none }
def IntsTruthsWrongFalsely : Prop := intsTruthsRow.holds Try.pinned (OpenSpec.ofChange intsTruthsWrong)

/- THE SECOND FORM. 'bulk': how many values and letters a reading holds, each counted each time it is reached (what is shared counts as often as it is met; a slice's spare places count too). A statement '..UptoSaid' is the law's where the arguments, and the package variables that the reading takes, are together of bulk at most 1048576: NARROWER than '..Said'. Prove '..Said' where nothing that the law and all that it calls make is longer than what came in: it says more and counts as full. Else prove '..UptoSaid'. A law counts once. -/
mutual
def uptoBulk {H : Type} : DataW H → Nat
  | .lit (.string bytes) => bytes.length + 1
  | .lit _ => 1
  | .nil => 1
  | .ptr d => uptoBulk d + 1
  | .slice elems spare => uptoBulkAll elems + uptoBulkAll spare + 1
  | .agg parts => uptoBulkAll parts + 1
  | .iface _ d => uptoBulk d + 1
  | .map entries => uptoBulkEntries entries + 1
  | .held _ => 1
def uptoBulkAll {H : Type} : List (DataW H) → Nat
  | [] => 0
  | d :: r => uptoBulk d + uptoBulkAll r
def uptoBulkEntries {H : Type} : List (Lit × DataW H) → Nat
  | [] => 0
  | x :: r => uptoBulkEntry x + uptoBulkEntries r
def uptoBulkEntry {H : Type} : Lit × DataW H → Nat
  | (.string bytes, d) => bytes.length + uptoBulk d + 1
  | (_, d) => uptoBulk d + 1
 end
def uptoSmall : (H : Type) → List (DataW H) → Bool := fun _ ds => decide (uptoBulkAll ds ≤ 1048576)
def OpenSpec.upto (s : _root_.Go.ChangeSpec) : _root_.Go.OpenSpec := { _root_.Go.OpenSpec.ofChange s with cond := some uptoSmall }

/-- 'warderlaw02.IntsNumbers', WHERE WHAT IT READS IS OF BULK AT MOST 1048576: true; the input reads as it did. -/
def intsNumbersUptoRow : OpenClaim := { program := "ytekebbbalackkaa", sum := "184010c7d17a4d9f74aa8c69cebc1e9a882b99934ab21bfdadf8bcbb5d79590a", func := "warder/warderlaw02.IntsNumbers", spec := "intsNumbers", unfollowed := true, recurses := true, apart := false, narrowed := true }
def IntsNumbersUptoSaid : Prop := intsNumbersUptoRow.holds Try.pinned (OpenSpec.upto intsNumbersSpec)

/-- 'warderlaw02.IntsObjects', WHERE WHAT IT READS IS OF BULK AT MOST 1048576: true; the input reads as it did. -/
def intsObjectsUptoRow : OpenClaim := { program := "ytekebbbalackkaa", sum := "184010c7d17a4d9f74aa8c69cebc1e9a882b99934ab21bfdadf8bcbb5d79590a", func := "warder/warderlaw02.IntsObjects", spec := "intsObjects", unfollowed := true, recurses := true, apart := false, narrowed := true }
def IntsObjectsUptoSaid : Prop := intsObjectsUptoRow.holds Try.pinned (OpenSpec.upto intsObjectsSpec)

/-- 'warderlaw02.IntsOrder', WHERE WHAT IT READS IS OF BULK AT MOST 1048576: true; the input reads as it did. -/
def intsOrderUptoRow : OpenClaim := { program := "ytekebbbalackkaa", sum := "184010c7d17a4d9f74aa8c69cebc1e9a882b99934ab21bfdadf8bcbb5d79590a", func := "warder/warderlaw02.IntsOrder", spec := "intsOrder", unfollowed := true, recurses := true, apart := false, narrowed := true }
def IntsOrderUptoSaid : Prop := intsOrderUptoRow.holds Try.pinned (OpenSpec.upto intsOrderSpec)

/-- 'warderlaw02.IntsShort', WHERE WHAT IT READS IS OF BULK AT MOST 1048576: true; the input reads as it did. -/
def intsShortUptoRow : OpenClaim := { program := "ytekebbbalackkaa", sum := "184010c7d17a4d9f74aa8c69cebc1e9a882b99934ab21bfdadf8bcbb5d79590a", func := "warder/warderlaw02.IntsShort", spec := "intsShort", unfollowed := true, recurses := true, apart := false, narrowed := true }
def IntsShortUptoSaid : Prop := intsShortUptoRow.holds Try.pinned (OpenSpec.upto intsShortSpec)

/-- 'warderlaw02.IntsArcs', WHERE WHAT IT READS IS OF BULK AT MOST 1048576: true; the input reads as it did. -/
def intsArcsUptoRow : OpenClaim := { program := "ytekebbbalackkaa", sum := "184010c7d17a4d9f74aa8c69cebc1e9a882b99934ab21bfdadf8bcbb5d79590a", func := "warder/warderlaw02.IntsArcs", spec := "intsArcs", unfollowed := true, recurses := true, apart := false, narrowed := true }
def IntsArcsUptoSaid : Prop := intsArcsUptoRow.holds Try.pinned (OpenSpec.upto intsArcsSpec)

/-- 'warderlaw02.IntsTruths', WHERE WHAT IT READS IS OF BULK AT MOST 1048576: true; the input reads as it did. -/
def intsTruthsUptoRow : OpenClaim := { program := "ytekebbbalackkaa", sum := "184010c7d17a4d9f74aa8c69cebc1e9a882b99934ab21bfdadf8bcbb5d79590a", func := "warder/warderlaw02.IntsTruths", spec := "intsTruths", unfollowed := true, recurses := true, apart := false, narrowed := true }
def IntsTruthsUptoSaid : Prop := intsTruthsUptoRow.holds Try.pinned (OpenSpec.upto intsTruthsSpec)

end Rows
end Go.Proofs.Ytekebbbalackkaa
