/-
  DERIVED. GIVEN WITH THE SEED: THE CARDS: each row of YtkceebgncfggjaaDoorRows.lean that lists a variable, with what it lists TIED to the program's text (the seventh form; the later family's looks); each row that meets fmt, with fmt's text TOLD by the authors' own Lean function (tested against real Go, not proved from fmt's source: count such statements apart). THE CARD IS WHAT COUNTS. Prove the row's statement (the work); the ties are given (YtkceebgncfggjaaDoorTie.lean); close each card by the builder's one call (the guide's Derived/Test/ToyasCard.lean, 'card_holds'). Laid BY PROGRAM, IN A SANDBOX (cutbox-door.mjs). By AI agents, Wed Nov 11 2026. No macro, syntax, notation, axiom, sorry.
-/
import Derived.Test.YtkceebgncfggjaaDoorRows
import GoSem.ClaimSeven
namespace Go.Proofs.YtkceebgncfggjaaDoor
namespace Rows

/-- THE TIED CARD OF 'warderlaw02.IntsMasks'. -/
def intsMasksCard : Claim7 := { stood := { row := intsMasksRow, standIns := [], harness := (true, "48ea7b9401053bd41cc44981d71892a1dade3c4f76430ef2f8886d8a16db9531"), looks := true }, kinds := [], alts := [], laidByText := true, laidKinds := [.data], laidTests := true, laidLooks := .later }
def IntsMasksCardSaid : Prop := Claim7.holds Tryd.pinned (.plain (OpenSpec.ofChange intsMasksSpec)) intsMasksCard

/-- THE TIED CARD OF 'warderlaw02.IntsBits'. -/
def intsBitsCard : Claim7 := { stood := { row := intsBitsRow, standIns := [], harness := (true, "48ea7b9401053bd41cc44981d71892a1dade3c4f76430ef2f8886d8a16db9531"), looks := true }, kinds := [], alts := [], laidByText := true, laidKinds := [.data], laidTests := true, laidLooks := .later }
def IntsBitsCardSaid : Prop := Claim7.holds Tryd.pinned (.plain (OpenSpec.ofChange intsBitsSpec)) intsBitsCard

/-- THE TIED CARD OF 'warderlaw02.IntsBack'. -/
def intsBackCard : Claim7 := { stood := { row := intsBackRow, standIns := [], harness := (true, "48ea7b9401053bd41cc44981d71892a1dade3c4f76430ef2f8886d8a16db9531"), looks := true }, kinds := [], alts := [], laidByText := true, laidKinds := [.data], laidTests := true, laidLooks := .later }
def IntsBackCardSaid : Prop := Claim7.holds Tryd.pinned (.plain (OpenSpec.ofChange intsBackSpec)) intsBackCard

/-- THE TIED CARD OF 'warderlaw04.NodesParses'. -/
def nodesParsesCard : Claim7 := { stood := { row := nodesParsesRow, standIns := [], harness := (true, "48ea7b9401053bd41cc44981d71892a1dade3c4f76430ef2f8886d8a16db9531"), looks := true }, kinds := [], alts := [], laidByText := true, laidKinds := [.data, .pinned], laidTests := true, laidLooks := .later }
def NodesParsesCardSaid : Prop := Claim7.holds Tryd.pinned (.plain (OpenSpec.ofChange nodesParsesSpec)) nodesParsesCard

/-- THE TIED CARD OF 'warderlaw04.NodesBack'. -/
def nodesBackCard : Claim7 := { stood := { row := nodesBackRow, standIns := [], harness := (true, "48ea7b9401053bd41cc44981d71892a1dade3c4f76430ef2f8886d8a16db9531"), looks := true }, kinds := [], alts := [], laidByText := true, laidKinds := [.data, .pinned], laidTests := true, laidLooks := .later }
def NodesBackCardSaid : Prop := Claim7.holds Tryd.pinned (.plain (OpenSpec.ofChange nodesBackSpec)) nodesBackCard

/-- THE TIED CARD OF 'warderlaw04.NodesInner'. -/
def nodesInnerCard : Claim7 := { stood := { row := nodesInnerRow, standIns := [], harness := (true, "48ea7b9401053bd41cc44981d71892a1dade3c4f76430ef2f8886d8a16db9531"), looks := true }, kinds := [], alts := [], laidByText := true, laidKinds := [.data, .pinned], laidTests := true, laidLooks := .later }
def NodesInnerCardSaid : Prop := Claim7.holds Tryd.pinned (.plain (OpenSpec.ofChange nodesInnerSpec)) nodesInnerCard

/-- THE TIED CARD OF 'warderlaw04.NodesPrints'. -/
def nodesPrintsCard : Claim7 := { stood := { row := nodesPrintsRow, standIns := [], harness := (true, "48ea7b9401053bd41cc44981d71892a1dade3c4f76430ef2f8886d8a16db9531"), looks := true }, kinds := [], alts := [], laidByText := true, laidKinds := [.data, .pinned], laidTests := true, laidLooks := .later }
def NodesPrintsCardSaid : Prop := Claim7.holds Tryd.pinned (.plain (OpenSpec.ofChange nodesPrintsSpec)) nodesPrintsCard

/-- THE TIED CARD OF 'warderlaw04.NodesSets'. -/
def nodesSetsCard : Claim7 := { stood := { row := nodesSetsRow, standIns := [], harness := (true, "48ea7b9401053bd41cc44981d71892a1dade3c4f76430ef2f8886d8a16db9531"), looks := true }, kinds := [], alts := [], laidByText := true, laidKinds := [.data, .pinned], laidTests := true, laidLooks := .later }
def NodesSetsCardSaid : Prop := Claim7.holds Tryd.pinned (.plain (OpenSpec.ofChange nodesSetsSpec)) nodesSetsCard

/-- THE TIED CARD OF 'warderlaw04.NodesDeep'. -/
def nodesDeepCard : Claim7 := { stood := { row := nodesDeepRow, standIns := [], harness := (true, "48ea7b9401053bd41cc44981d71892a1dade3c4f76430ef2f8886d8a16db9531"), looks := true }, kinds := [], alts := [], laidByText := true, laidKinds := [.data, .pinned], laidTests := true, laidLooks := .later }
def NodesDeepCardSaid : Prop := Claim7.holds Tryd.pinned (.plain (OpenSpec.ofChange nodesDeepSpec)) nodesDeepCard

/-- THE SECOND FORM's CARD OF 'warderlaw02.IntsMasks'. -/
def intsMasksUptoCard : Claim7 := { stood := { row := intsMasksUptoRow, standIns := [], harness := (true, "48ea7b9401053bd41cc44981d71892a1dade3c4f76430ef2f8886d8a16db9531"), looks := true }, kinds := [], alts := [], laidByText := true, laidKinds := [.data], laidTests := true, laidLooks := .later }
def IntsMasksUptoCardSaid : Prop := Claim7.holds Tryd.pinned (.plain (OpenSpec.upto intsMasksSpec)) intsMasksUptoCard

/-- THE SECOND FORM's CARD OF 'warderlaw02.IntsBits'. -/
def intsBitsUptoCard : Claim7 := { stood := { row := intsBitsUptoRow, standIns := [], harness := (true, "48ea7b9401053bd41cc44981d71892a1dade3c4f76430ef2f8886d8a16db9531"), looks := true }, kinds := [], alts := [], laidByText := true, laidKinds := [.data], laidTests := true, laidLooks := .later }
def IntsBitsUptoCardSaid : Prop := Claim7.holds Tryd.pinned (.plain (OpenSpec.upto intsBitsSpec)) intsBitsUptoCard

/-- THE SECOND FORM's CARD OF 'warderlaw02.IntsBack'. -/
def intsBackUptoCard : Claim7 := { stood := { row := intsBackUptoRow, standIns := [], harness := (true, "48ea7b9401053bd41cc44981d71892a1dade3c4f76430ef2f8886d8a16db9531"), looks := true }, kinds := [], alts := [], laidByText := true, laidKinds := [.data], laidTests := true, laidLooks := .later }
def IntsBackUptoCardSaid : Prop := Claim7.holds Tryd.pinned (.plain (OpenSpec.upto intsBackSpec)) intsBackUptoCard

/-- THE SECOND FORM's CARD OF 'warderlaw04.NodesParses'. -/
def nodesParsesUptoCard : Claim7 := { stood := { row := nodesParsesUptoRow, standIns := [], harness := (true, "48ea7b9401053bd41cc44981d71892a1dade3c4f76430ef2f8886d8a16db9531"), looks := true }, kinds := [], alts := [], laidByText := true, laidKinds := [.data, .pinned], laidTests := true, laidLooks := .later }
def NodesParsesUptoCardSaid : Prop := Claim7.holds Tryd.pinned (.plain (OpenSpec.upto nodesParsesSpec)) nodesParsesUptoCard

/-- THE SECOND FORM's CARD OF 'warderlaw04.NodesBack'. -/
def nodesBackUptoCard : Claim7 := { stood := { row := nodesBackUptoRow, standIns := [], harness := (true, "48ea7b9401053bd41cc44981d71892a1dade3c4f76430ef2f8886d8a16db9531"), looks := true }, kinds := [], alts := [], laidByText := true, laidKinds := [.data, .pinned], laidTests := true, laidLooks := .later }
def NodesBackUptoCardSaid : Prop := Claim7.holds Tryd.pinned (.plain (OpenSpec.upto nodesBackSpec)) nodesBackUptoCard

/-- THE SECOND FORM's CARD OF 'warderlaw04.NodesInner'. -/
def nodesInnerUptoCard : Claim7 := { stood := { row := nodesInnerUptoRow, standIns := [], harness := (true, "48ea7b9401053bd41cc44981d71892a1dade3c4f76430ef2f8886d8a16db9531"), looks := true }, kinds := [], alts := [], laidByText := true, laidKinds := [.data, .pinned], laidTests := true, laidLooks := .later }
def NodesInnerUptoCardSaid : Prop := Claim7.holds Tryd.pinned (.plain (OpenSpec.upto nodesInnerSpec)) nodesInnerUptoCard

/-- THE SECOND FORM's CARD OF 'warderlaw04.NodesPrints'. -/
def nodesPrintsUptoCard : Claim7 := { stood := { row := nodesPrintsUptoRow, standIns := [], harness := (true, "48ea7b9401053bd41cc44981d71892a1dade3c4f76430ef2f8886d8a16db9531"), looks := true }, kinds := [], alts := [], laidByText := true, laidKinds := [.data, .pinned], laidTests := true, laidLooks := .later }
def NodesPrintsUptoCardSaid : Prop := Claim7.holds Tryd.pinned (.plain (OpenSpec.upto nodesPrintsSpec)) nodesPrintsUptoCard

/-- THE SECOND FORM's CARD OF 'warderlaw04.NodesSets'. -/
def nodesSetsUptoCard : Claim7 := { stood := { row := nodesSetsUptoRow, standIns := [], harness := (true, "48ea7b9401053bd41cc44981d71892a1dade3c4f76430ef2f8886d8a16db9531"), looks := true }, kinds := [], alts := [], laidByText := true, laidKinds := [.data, .pinned], laidTests := true, laidLooks := .later }
def NodesSetsUptoCardSaid : Prop := Claim7.holds Tryd.pinned (.plain (OpenSpec.upto nodesSetsSpec)) nodesSetsUptoCard

/-- THE SECOND FORM's CARD OF 'warderlaw04.NodesDeep'. -/
def nodesDeepUptoCard : Claim7 := { stood := { row := nodesDeepUptoRow, standIns := [], harness := (true, "48ea7b9401053bd41cc44981d71892a1dade3c4f76430ef2f8886d8a16db9531"), looks := true }, kinds := [], alts := [], laidByText := true, laidKinds := [.data, .pinned], laidTests := true, laidLooks := .later }
def NodesDeepUptoCardSaid : Prop := Claim7.holds Tryd.pinned (.plain (OpenSpec.upto nodesDeepSpec)) nodesDeepUptoCard
end Rows
end Go.Proofs.YtkceebgncfggjaaDoor
