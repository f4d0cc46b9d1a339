/-
  NARROWER THAN 'FOR EVERY INPUT', by the rows' own cells (each row's printed sentence says how): IntsMasks: laid · IntsBits: laid · IntsBack: laid · NodesParses: laid · NodesBack: loops, laid · NodesInner: loops, laid · NodesPrints: loops, laid · NodesSets: loops, laid · NodesDeep: laid.
  DERIVED. THE GIVEN ROWS OF THIS SEAT. 9 by the template 'for every input the law returns true; each argument reads behind the call as it read before'; 0 by the template 'total and deterministic' (their statements: YtkceebgncfggjaaDoorTotals.lean).
  GIVEN WITH THE SEED: the statements are not yours to turn. If you find one false, say at which input.
  Laid BY PROGRAM, IN A SANDBOX (cutbox-rows.mjs): the forced cells as the released guide's own fill.sh prints them over the translation 70df2f6cbb1e30f4… (all of the seat's roots in one cut). By AI agents, Wed Nov 11 2026. No macro, syntax, notation, axiom, sorry.
-/
import Derived.Test.YtkceebgncfggjaaDoorChecked
import GoSem.PinnedTables
import GoSem.Claim
import GoSem.ClaimJoined
import GoSem.ClaimMapViews
import Derived.JoinedTies
import Derived.KernelRfl
namespace Go.Proofs.YtkceebgncfggjaaDoor
/- THE CELL 'sum', in the pinned program and in every row, IS THE sha256 OF THE DUMP (.gsa) THAT YtkceebgncfggjaaDoorProg.lean LOADS. Nothing in Lean hashes anything: it is a label: what it is worth is what the hold of that sum in a sandbox is worth. -/
noncomputable def Tryd.pinned : Pinned := { name := "ytkceebgncfggjaadoor", sum := "70df2f6cbb1e30f4d8829a775dda4d7a1a65726b9166b7d958442ae3cd65ac3f", checked := Tryd.checked }
namespace Rows
def none {H : Type} : Left H := { results := [], args := [] }

/- WHAT THE LISTED PACKAGE-LEVEL VARIABLES READ AS WHEN THE CALL BEGINS. Each datum BY PROGRAM (the guide's laid-datum.mjs) off the statement by which the dump's own 'gosem.cut.vars' lays the variable. In a bare row this is a premise. The card (YtkceebgncfggjaaDoorCards.lean) ties it to the program's text. -/
def laid_math_bits_deBruijn32tab {H : Type} : DataW H := .agg [.lit (.int .u8 0), .lit (.int .u8 1), .lit (.int .u8 28), .lit (.int .u8 2), .lit (.int .u8 29), .lit (.int .u8 14), .lit (.int .u8 24), .lit (.int .u8 3), .lit (.int .u8 30), .lit (.int .u8 22), .lit (.int .u8 20), .lit (.int .u8 15), .lit (.int .u8 25), .lit (.int .u8 17), .lit (.int .u8 4), .lit (.int .u8 8), .lit (.int .u8 31), .lit (.int .u8 27), .lit (.int .u8 13), .lit (.int .u8 23), .lit (.int .u8 21), .lit (.int .u8 19), .lit (.int .u8 16), .lit (.int .u8 7), .lit (.int .u8 26), .lit (.int .u8 12), .lit (.int .u8 18), .lit (.int .u8 6), .lit (.int .u8 11), .lit (.int .u8 5), .lit (.int .u8 10), .lit (.int .u8 9)]
def laid_unicode_utf8_acceptRanges {H : Type} : DataW H := .agg [.agg [.lit (.int .u8 128), .lit (.int .u8 191)], .agg [.lit (.int .u8 160), .lit (.int .u8 191)], .agg [.lit (.int .u8 128), .lit (.int .u8 159)], .agg [.lit (.int .u8 144), .lit (.int .u8 191)], .agg [.lit (.int .u8 128), .lit (.int .u8 143)], .agg [.lit (.int .u8 0), .lit (.int .u8 0)], .agg [.lit (.int .u8 0), .lit (.int .u8 0)], .agg [.lit (.int .u8 0), .lit (.int .u8 0)], .agg [.lit (.int .u8 0), .lit (.int .u8 0)], .agg [.lit (.int .u8 0), .lit (.int .u8 0)], .agg [.lit (.int .u8 0), .lit (.int .u8 0)], .agg [.lit (.int .u8 0), .lit (.int .u8 0)], .agg [.lit (.int .u8 0), .lit (.int .u8 0)], .agg [.lit (.int .u8 0), .lit (.int .u8 0)], .agg [.lit (.int .u8 0), .lit (.int .u8 0)], .agg [.lit (.int .u8 0), .lit (.int .u8 0)]]
/-- One of Go's own tables, pinned by name: the form's constant. -/
def laid_unicode_utf8_first : DataW Unit := Go.Pinned.utf8First

/-- 'warderlaw02.IntsMasks': WHATEVER THE INPUT: true; the input reads as it did. -/
def intsMasksSpec : ChangeSpec := { name := "intsMasks", fn := fun _ => fun
  | [d1, d2] => { results := [.lit (.bool true)], args := [d1, d2] }
  | _ => none }
def intsMasksRow : OpenClaim := { program := "ytkceebgncfggjaadoor", sum := "70df2f6cbb1e30f4d8829a775dda4d7a1a65726b9166b7d958442ae3cd65ac3f", func := "warder/warderlaw02.IntsMasks", spec := "intsMasks", unfollowed := true, recurses := true, named := ["math/bits.deBruijn32tab"], apart := false, laid := [("math/bits.deBruijn32tab", laid_math_bits_deBruijn32tab)] }
def IntsMasksSaid : Prop := intsMasksRow.holds Tryd.pinned (OpenSpec.ofChange intsMasksSpec)

/-- ITS FALSE NEIGHBOUR: 'it returns false'. Refute it at one input. -/
def intsMasksWrong : ChangeSpec := { name := "intsMasks", fn := fun _ => fun
  | [d1, d2] => { results := [.lit (.bool false)], args := [d1, d2] }
  | _ => none }
def IntsMasksWrongFalsely : Prop := intsMasksRow.holds Tryd.pinned (OpenSpec.ofChange intsMasksWrong)

/-- 'warderlaw02.IntsBits': WHATEVER THE INPUT: true; the input reads as it did. -/
def intsBitsSpec : ChangeSpec := { name := "intsBits", fn := fun _ => fun
  | [d1, d2] => { results := [.lit (.bool true)], args := [d1, d2] }
  | _ => none }
def intsBitsRow : OpenClaim := { program := "ytkceebgncfggjaadoor", sum := "70df2f6cbb1e30f4d8829a775dda4d7a1a65726b9166b7d958442ae3cd65ac3f", func := "warder/warderlaw02.IntsBits", spec := "intsBits", unfollowed := true, recurses := true, named := ["math/bits.deBruijn32tab"], apart := false, laid := [("math/bits.deBruijn32tab", laid_math_bits_deBruijn32tab)] }
def IntsBitsSaid : Prop := intsBitsRow.holds Tryd.pinned (OpenSpec.ofChange intsBitsSpec)

/-- ITS FALSE NEIGHBOUR: 'it returns false'. Refute it at one input. -/
def intsBitsWrong : ChangeSpec := { name := "intsBits", fn := fun _ => fun
  | [d1, d2] => { results := [.lit (.bool false)], args := [d1, d2] }
  | _ => none }
def IntsBitsWrongFalsely : Prop := intsBitsRow.holds Tryd.pinned (OpenSpec.ofChange intsBitsWrong)

/-- 'warderlaw02.IntsBack': WHATEVER THE INPUT: true; the input reads as it did. -/
def intsBackSpec : ChangeSpec := { name := "intsBack", fn := fun _ => fun
  | [d1, d2, d3, d4] => { results := [.lit (.bool true)], args := [d1, d2, d3, d4] }
  | _ => none }
def intsBackRow : OpenClaim := { program := "ytkceebgncfggjaadoor", sum := "70df2f6cbb1e30f4d8829a775dda4d7a1a65726b9166b7d958442ae3cd65ac3f", func := "warder/warderlaw02.IntsBack", spec := "intsBack", unfollowed := true, recurses := true, named := ["math/bits.deBruijn32tab"], apart := false, laid := [("math/bits.deBruijn32tab", laid_math_bits_deBruijn32tab)] }
def IntsBackSaid : Prop := intsBackRow.holds Tryd.pinned (OpenSpec.ofChange intsBackSpec)

/-- ITS FALSE NEIGHBOUR: 'it returns false'. Refute it at one input. -/
def intsBackWrong : ChangeSpec := { name := "intsBack", fn := fun _ => fun
  | [d1, d2, d3, d4] => { results := [.lit (.bool false)], args := [d1, d2, d3, d4] }
  | _ => none }
def IntsBackWrongFalsely : Prop := intsBackRow.holds Tryd.pinned (OpenSpec.ofChange intsBackWrong)

/-- 'warderlaw04.NodesParses': WHATEVER THE INPUT: true; the input reads as it did. -/
def nodesParsesSpec : ChangeSpec := { name := "nodesParses", fn := fun _ => fun
  | [d] => { results := [.lit (.bool true)], args := [d] }
  | _ => none }
def nodesParsesRow : OpenClaim := { program := "ytkceebgncfggjaadoor", sum := "70df2f6cbb1e30f4d8829a775dda4d7a1a65726b9166b7d958442ae3cd65ac3f", func := "warder/warderlaw04.NodesParses", spec := "nodesParses", inPlace := ["internal/bytealg.IndexByteString", "internal/bytealg.Compare"], unfollowed := true, recurses := true, named := ["unicode/utf8.first", "unicode/utf8.acceptRanges"], apart := false, laid := [("unicode/utf8.acceptRanges", laid_unicode_utf8_acceptRanges), ("unicode/utf8.first", laid_unicode_utf8_first)] }
def NodesParsesSaid : Prop := nodesParsesRow.holds Tryd.pinned (OpenSpec.ofChange nodesParsesSpec)

/-- ITS FALSE NEIGHBOUR: 'it returns false'. Refute it at one input. -/
def nodesParsesWrong : ChangeSpec := { name := "nodesParses", fn := fun _ => fun
  | [d] => { results := [.lit (.bool false)], args := [d] }
  | _ => none }
def NodesParsesWrongFalsely : Prop := nodesParsesRow.holds Tryd.pinned (OpenSpec.ofChange nodesParsesWrong)

/-- 'warderlaw04.NodesBack': WHATEVER THE INPUT: true; the input reads as it did. -/
def nodesBackSpec : ChangeSpec := { name := "nodesBack", fn := fun _ => fun
  | [d1, d2] => { results := [.lit (.bool true)], args := [d1, d2] }
  | _ => none }
def nodesBackRow : OpenClaim := { program := "ytkceebgncfggjaadoor", sum := "70df2f6cbb1e30f4d8829a775dda4d7a1a65726b9166b7d958442ae3cd65ac3f", func := "warder/warderlaw04.NodesBack", spec := "nodesBack", inPlace := ["internal/bytealg.IndexByteString", "internal/bytealg.Compare"], unfollowed := true, recurses := true, named := ["unicode/utf8.first", "unicode/utf8.acceptRanges"], loops := true, apart := false, laid := [("unicode/utf8.acceptRanges", laid_unicode_utf8_acceptRanges), ("unicode/utf8.first", laid_unicode_utf8_first)] }
def NodesBackSaid : Prop := nodesBackRow.holds Tryd.pinned (OpenSpec.ofChange nodesBackSpec)

/-- ITS FALSE NEIGHBOUR: 'it returns false'. Refute it at one input. -/
def nodesBackWrong : ChangeSpec := { name := "nodesBack", fn := fun _ => fun
  | [d1, d2] => { results := [.lit (.bool false)], args := [d1, d2] }
  | _ => none }
def NodesBackWrongFalsely : Prop := nodesBackRow.holds Tryd.pinned (OpenSpec.ofChange nodesBackWrong)

/-- 'warderlaw04.NodesInner': WHATEVER THE INPUT: true; the input reads as it did. -/
def nodesInnerSpec : ChangeSpec := { name := "nodesInner", fn := fun _ => fun
  | [d1, d2, d3] => { results := [.lit (.bool true)], args := [d1, d2, d3] }
  | _ => none }
def nodesInnerRow : OpenClaim := { program := "ytkceebgncfggjaadoor", sum := "70df2f6cbb1e30f4d8829a775dda4d7a1a65726b9166b7d958442ae3cd65ac3f", func := "warder/warderlaw04.NodesInner", spec := "nodesInner", inPlace := ["internal/bytealg.IndexByteString", "internal/bytealg.Compare"], unfollowed := true, recurses := true, named := ["unicode/utf8.first", "unicode/utf8.acceptRanges"], loops := true, apart := false, laid := [("unicode/utf8.acceptRanges", laid_unicode_utf8_acceptRanges), ("unicode/utf8.first", laid_unicode_utf8_first)] }
def NodesInnerSaid : Prop := nodesInnerRow.holds Tryd.pinned (OpenSpec.ofChange nodesInnerSpec)

/-- ITS FALSE NEIGHBOUR: 'it returns false'. Refute it at one input. -/
def nodesInnerWrong : ChangeSpec := { name := "nodesInner", fn := fun _ => fun
  | [d1, d2, d3] => { results := [.lit (.bool false)], args := [d1, d2, d3] }
  | _ => none }
def NodesInnerWrongFalsely : Prop := nodesInnerRow.holds Tryd.pinned (OpenSpec.ofChange nodesInnerWrong)

/-- 'warderlaw04.NodesPrints': WHATEVER THE INPUT: true; the input reads as it did. -/
def nodesPrintsSpec : ChangeSpec := { name := "nodesPrints", fn := fun _ => fun
  | [d] => { results := [.lit (.bool true)], args := [d] }
  | _ => none }
def nodesPrintsRow : OpenClaim := { program := "ytkceebgncfggjaadoor", sum := "70df2f6cbb1e30f4d8829a775dda4d7a1a65726b9166b7d958442ae3cd65ac3f", func := "warder/warderlaw04.NodesPrints", spec := "nodesPrints", inPlace := ["internal/bytealg.IndexByteString", "internal/bytealg.Compare"], unfollowed := true, recurses := true, named := ["unicode/utf8.first", "unicode/utf8.acceptRanges"], loops := true, apart := false, laid := [("unicode/utf8.acceptRanges", laid_unicode_utf8_acceptRanges), ("unicode/utf8.first", laid_unicode_utf8_first)] }
def NodesPrintsSaid : Prop := nodesPrintsRow.holds Tryd.pinned (OpenSpec.ofChange nodesPrintsSpec)

/-- ITS FALSE NEIGHBOUR: 'it returns false'. Refute it at one input. -/
def nodesPrintsWrong : ChangeSpec := { name := "nodesPrints", fn := fun _ => fun
  | [d] => { results := [.lit (.bool false)], args := [d] }
  | _ => none }
def NodesPrintsWrongFalsely : Prop := nodesPrintsRow.holds Tryd.pinned (OpenSpec.ofChange nodesPrintsWrong)

/-- 'warderlaw04.NodesSets': WHATEVER THE INPUT: true; the input reads as it did. -/
def nodesSetsSpec : ChangeSpec := { name := "nodesSets", fn := fun _ => fun
  | [d1, d2] => { results := [.lit (.bool true)], args := [d1, d2] }
  | _ => none }
def nodesSetsRow : OpenClaim := { program := "ytkceebgncfggjaadoor", sum := "70df2f6cbb1e30f4d8829a775dda4d7a1a65726b9166b7d958442ae3cd65ac3f", func := "warder/warderlaw04.NodesSets", spec := "nodesSets", inPlace := ["internal/bytealg.IndexByteString", "internal/bytealg.Compare"], unfollowed := true, recurses := true, named := ["unicode/utf8.first", "unicode/utf8.acceptRanges"], loops := true, apart := false, laid := [("unicode/utf8.acceptRanges", laid_unicode_utf8_acceptRanges), ("unicode/utf8.first", laid_unicode_utf8_first)] }
def NodesSetsSaid : Prop := nodesSetsRow.holds Tryd.pinned (OpenSpec.ofChange nodesSetsSpec)

/-- ITS FALSE NEIGHBOUR: 'it returns false'. Refute it at one input. -/
def nodesSetsWrong : ChangeSpec := { name := "nodesSets", fn := fun _ => fun
  | [d1, d2] => { results := [.lit (.bool false)], args := [d1, d2] }
  | _ => none }
def NodesSetsWrongFalsely : Prop := nodesSetsRow.holds Tryd.pinned (OpenSpec.ofChange nodesSetsWrong)

/-- 'warderlaw04.NodesDeep': WHATEVER THE INPUT: true; the input reads as it did. -/
def nodesDeepSpec : ChangeSpec := { name := "nodesDeep", fn := fun _ => fun
  | [d1, d2] => { results := [.lit (.bool true)], args := [d1, d2] }
  | _ => none }
def nodesDeepRow : OpenClaim := { program := "ytkceebgncfggjaadoor", sum := "70df2f6cbb1e30f4d8829a775dda4d7a1a65726b9166b7d958442ae3cd65ac3f", func := "warder/warderlaw04.NodesDeep", spec := "nodesDeep", inPlace := ["internal/bytealg.IndexByteString", "internal/bytealg.Compare"], unfollowed := true, recurses := true, named := ["unicode/utf8.first", "unicode/utf8.acceptRanges"], apart := false, laid := [("unicode/utf8.acceptRanges", laid_unicode_utf8_acceptRanges), ("unicode/utf8.first", laid_unicode_utf8_first)] }
def NodesDeepSaid : Prop := nodesDeepRow.holds Tryd.pinned (OpenSpec.ofChange nodesDeepSpec)

/-- ITS FALSE NEIGHBOUR: 'it returns false'. Refute it at one input. -/
def nodesDeepWrong : ChangeSpec := { name := "nodesDeep", fn := fun _ => fun
  | [d1, d2] => { results := [.lit (.bool false)], args := [d1, d2] }
  | _ => none }
def NodesDeepWrongFalsely : Prop := nodesDeepRow.holds Tryd.pinned (OpenSpec.ofChange nodesDeepWrong)

/- THE SECOND FORM. 'bulk': how many values and letters a reading holds, each counted each time it is reached (what is shared counts as often as it is met; a slice's spare places count too). A statement '..UptoSaid' is the law's where the arguments, and the package variables that the reading takes, are together of bulk at most 1048576: NARROWER than '..Said'. Prove '..Said' where nothing that the law and all that it calls make is longer than what came in: it says more and counts as full. Else prove '..UptoSaid'. A law counts once. -/
mutual
def uptoBulk {H : Type} : DataW H → Nat
  | .lit (.string bytes) => bytes.length + 1
  | .lit _ => 1
  | .nil => 1
  | .ptr d => uptoBulk d + 1
  | .slice elems spare => uptoBulkAll elems + uptoBulkAll spare + 1
  | .agg parts => uptoBulkAll parts + 1
  | .iface _ d => uptoBulk d + 1
  | .map entries => uptoBulkEntries entries + 1
  | .held _ => 1
def uptoBulkAll {H : Type} : List (DataW H) → Nat
  | [] => 0
  | d :: r => uptoBulk d + uptoBulkAll r
def uptoBulkEntries {H : Type} : List (Lit × DataW H) → Nat
  | [] => 0
  | x :: r => uptoBulkEntry x + uptoBulkEntries r
def uptoBulkEntry {H : Type} : Lit × DataW H → Nat
  | (.string bytes, d) => bytes.length + uptoBulk d + 1
  | (_, d) => uptoBulk d + 1
 end
def uptoSmall : (H : Type) → List (DataW H) → Bool := fun _ ds => decide (uptoBulkAll ds ≤ 1048576)
def OpenSpec.upto (s : _root_.Go.ChangeSpec) : _root_.Go.OpenSpec := { _root_.Go.OpenSpec.ofChange s with cond := some uptoSmall }

/-- 'warderlaw02.IntsMasks', WHERE WHAT IT READS IS OF BULK AT MOST 1048576: true; the input reads as it did. -/
def intsMasksUptoRow : OpenClaim := { program := "ytkceebgncfggjaadoor", sum := "70df2f6cbb1e30f4d8829a775dda4d7a1a65726b9166b7d958442ae3cd65ac3f", func := "warder/warderlaw02.IntsMasks", spec := "intsMasks", unfollowed := true, recurses := true, named := ["math/bits.deBruijn32tab"], apart := false, laid := [("math/bits.deBruijn32tab", laid_math_bits_deBruijn32tab)], narrowed := true }
def IntsMasksUptoSaid : Prop := intsMasksUptoRow.holds Tryd.pinned (OpenSpec.upto intsMasksSpec)

/-- 'warderlaw02.IntsBits', WHERE WHAT IT READS IS OF BULK AT MOST 1048576: true; the input reads as it did. -/
def intsBitsUptoRow : OpenClaim := { program := "ytkceebgncfggjaadoor", sum := "70df2f6cbb1e30f4d8829a775dda4d7a1a65726b9166b7d958442ae3cd65ac3f", func := "warder/warderlaw02.IntsBits", spec := "intsBits", unfollowed := true, recurses := true, named := ["math/bits.deBruijn32tab"], apart := false, laid := [("math/bits.deBruijn32tab", laid_math_bits_deBruijn32tab)], narrowed := true }
def IntsBitsUptoSaid : Prop := intsBitsUptoRow.holds Tryd.pinned (OpenSpec.upto intsBitsSpec)

/-- 'warderlaw02.IntsBack', WHERE WHAT IT READS IS OF BULK AT MOST 1048576: true; the input reads as it did. -/
def intsBackUptoRow : OpenClaim := { program := "ytkceebgncfggjaadoor", sum := "70df2f6cbb1e30f4d8829a775dda4d7a1a65726b9166b7d958442ae3cd65ac3f", func := "warder/warderlaw02.IntsBack", spec := "intsBack", unfollowed := true, recurses := true, named := ["math/bits.deBruijn32tab"], apart := false, laid := [("math/bits.deBruijn32tab", laid_math_bits_deBruijn32tab)], narrowed := true }
def IntsBackUptoSaid : Prop := intsBackUptoRow.holds Tryd.pinned (OpenSpec.upto intsBackSpec)

/-- 'warderlaw04.NodesParses', WHERE WHAT IT READS IS OF BULK AT MOST 1048576: true; the input reads as it did. -/
def nodesParsesUptoRow : OpenClaim := { program := "ytkceebgncfggjaadoor", sum := "70df2f6cbb1e30f4d8829a775dda4d7a1a65726b9166b7d958442ae3cd65ac3f", func := "warder/warderlaw04.NodesParses", spec := "nodesParses", inPlace := ["internal/bytealg.IndexByteString", "internal/bytealg.Compare"], unfollowed := true, recurses := true, named := ["unicode/utf8.first", "unicode/utf8.acceptRanges"], apart := false, laid := [("unicode/utf8.acceptRanges", laid_unicode_utf8_acceptRanges), ("unicode/utf8.first", laid_unicode_utf8_first)], narrowed := true }
def NodesParsesUptoSaid : Prop := nodesParsesUptoRow.holds Tryd.pinned (OpenSpec.upto nodesParsesSpec)

/-- 'warderlaw04.NodesBack', WHERE WHAT IT READS IS OF BULK AT MOST 1048576: true; the input reads as it did. -/
def nodesBackUptoRow : OpenClaim := { program := "ytkceebgncfggjaadoor", sum := "70df2f6cbb1e30f4d8829a775dda4d7a1a65726b9166b7d958442ae3cd65ac3f", func := "warder/warderlaw04.NodesBack", spec := "nodesBack", inPlace := ["internal/bytealg.IndexByteString", "internal/bytealg.Compare"], unfollowed := true, recurses := true, named := ["unicode/utf8.first", "unicode/utf8.acceptRanges"], loops := true, apart := false, laid := [("unicode/utf8.acceptRanges", laid_unicode_utf8_acceptRanges), ("unicode/utf8.first", laid_unicode_utf8_first)], narrowed := true }
def NodesBackUptoSaid : Prop := nodesBackUptoRow.holds Tryd.pinned (OpenSpec.upto nodesBackSpec)

/-- 'warderlaw04.NodesInner', WHERE WHAT IT READS IS OF BULK AT MOST 1048576: true; the input reads as it did. -/
def nodesInnerUptoRow : OpenClaim := { program := "ytkceebgncfggjaadoor", sum := "70df2f6cbb1e30f4d8829a775dda4d7a1a65726b9166b7d958442ae3cd65ac3f", func := "warder/warderlaw04.NodesInner", spec := "nodesInner", inPlace := ["internal/bytealg.IndexByteString", "internal/bytealg.Compare"], unfollowed := true, recurses := true, named := ["unicode/utf8.first", "unicode/utf8.acceptRanges"], loops := true, apart := false, laid := [("unicode/utf8.acceptRanges", laid_unicode_utf8_acceptRanges), ("unicode/utf8.first", laid_unicode_utf8_first)], narrowed := true }
def NodesInnerUptoSaid : Prop := nodesInnerUptoRow.holds Tryd.pinned (OpenSpec.upto nodesInnerSpec)

/-- 'warderlaw04.NodesPrints', WHERE WHAT IT READS IS OF BULK AT MOST 1048576: true; the input reads as it did. -/
def nodesPrintsUptoRow : OpenClaim := { program := "ytkceebgncfggjaadoor", sum := "70df2f6cbb1e30f4d8829a775dda4d7a1a65726b9166b7d958442ae3cd65ac3f", func := "warder/warderlaw04.NodesPrints", spec := "nodesPrints", inPlace := ["internal/bytealg.IndexByteString", "internal/bytealg.Compare"], unfollowed := true, recurses := true, named := ["unicode/utf8.first", "unicode/utf8.acceptRanges"], loops := true, apart := false, laid := [("unicode/utf8.acceptRanges", laid_unicode_utf8_acceptRanges), ("unicode/utf8.first", laid_unicode_utf8_first)], narrowed := true }
def NodesPrintsUptoSaid : Prop := nodesPrintsUptoRow.holds Tryd.pinned (OpenSpec.upto nodesPrintsSpec)

/-- 'warderlaw04.NodesSets', WHERE WHAT IT READS IS OF BULK AT MOST 1048576: true; the input reads as it did. -/
def nodesSetsUptoRow : OpenClaim := { program := "ytkceebgncfggjaadoor", sum := "70df2f6cbb1e30f4d8829a775dda4d7a1a65726b9166b7d958442ae3cd65ac3f", func := "warder/warderlaw04.NodesSets", spec := "nodesSets", inPlace := ["internal/bytealg.IndexByteString", "internal/bytealg.Compare"], unfollowed := true, recurses := true, named := ["unicode/utf8.first", "unicode/utf8.acceptRanges"], loops := true, apart := false, laid := [("unicode/utf8.acceptRanges", laid_unicode_utf8_acceptRanges), ("unicode/utf8.first", laid_unicode_utf8_first)], narrowed := true }
def NodesSetsUptoSaid : Prop := nodesSetsUptoRow.holds Tryd.pinned (OpenSpec.upto nodesSetsSpec)

/-- 'warderlaw04.NodesDeep', WHERE WHAT IT READS IS OF BULK AT MOST 1048576: true; the input reads as it did. -/
def nodesDeepUptoRow : OpenClaim := { program := "ytkceebgncfggjaadoor", sum := "70df2f6cbb1e30f4d8829a775dda4d7a1a65726b9166b7d958442ae3cd65ac3f", func := "warder/warderlaw04.NodesDeep", spec := "nodesDeep", inPlace := ["internal/bytealg.IndexByteString", "internal/bytealg.Compare"], unfollowed := true, recurses := true, named := ["unicode/utf8.first", "unicode/utf8.acceptRanges"], apart := false, laid := [("unicode/utf8.acceptRanges", laid_unicode_utf8_acceptRanges), ("unicode/utf8.first", laid_unicode_utf8_first)], narrowed := true }
def NodesDeepUptoSaid : Prop := nodesDeepUptoRow.holds Tryd.pinned (OpenSpec.upto nodesDeepSpec)

end Rows
end Go.Proofs.YtkceebgncfggjaaDoor
