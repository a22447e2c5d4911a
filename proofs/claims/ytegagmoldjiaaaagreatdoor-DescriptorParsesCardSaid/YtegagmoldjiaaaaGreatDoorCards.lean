/-
  DERIVED. GIVEN WITH THE SEED: THE CARDS: each row of YtegagmoldjiaaaaGreatDoorRows.lean that lists a variable, with what it lists TIED to the program's text (the seventh form; the later family's looks); each row that meets fmt, with fmt's text TOLD by the authors' own Lean function (tested against real Go, not proved from fmt's source: count such statements apart). THE CARD IS WHAT COUNTS. Prove the row's statement (the work); the ties are given (YtegagmoldjiaaaaGreatDoorTie.lean); close each card by the builder's one call (the guide's Derived/Test/ToyasCard.lean, 'card_holds'). Laid BY PROGRAM, IN A SANDBOX (cutbox-door.mjs). By AI agents, Wed Nov 11 2026. No macro, syntax, notation, axiom, sorry.
-/
import Derived.Test.YtegagmoldjiaaaaGreatDoorRows
import GoSem.ClaimSeven
namespace Go.Proofs.YtegagmoldjiaaaaGreatDoor
namespace Rows

/-- THE TIED CARD OF 'lightclientlaw26.DescriptorTexts'. -/
def descriptorTextsCard : Claim7 := { stood := { row := descriptorTextsRow, standIns := [], harness := (true, "2704d3a08cb47fb35cce2ebd7ca26905aeca290e87b72d9789d3d7b58df1206f"), looks := true }, kinds := [], alts := [], laidByText := true, laidKinds := [.data, .data, .data, .data, .data], laidTests := true, laidLooks := .later }
def DescriptorTextsCardSaid : Prop := Claim7.holds Tryz.pinned (.plain (OpenSpec.ofChange descriptorTextsSpec)) descriptorTextsCard

/-- THE TIED CARD OF 'lightclientlaw26.DescriptorParses'. -/
def descriptorParsesCard : Claim7 := { stood := { row := descriptorParsesRow, standIns := [], harness := (true, "2704d3a08cb47fb35cce2ebd7ca26905aeca290e87b72d9789d3d7b58df1206f"), looks := true }, kinds := [], alts := [], laidByText := true, laidKinds := [.data, .data, .data, .data, .data, .sentinel, .sentinel], laidTests := true, laidLooks := .later }
def DescriptorParsesCardSaid : Prop := Claim7.holds Tryz.pinned (.plain (OpenSpec.ofChange descriptorParsesSpec)) descriptorParsesCard

/-- THE TIED CARD OF 'lightclientlaw26.DescriptorBack'. -/
def descriptorBackCard : Claim7 := { stood := { row := descriptorBackRow, standIns := [], harness := (true, "2704d3a08cb47fb35cce2ebd7ca26905aeca290e87b72d9789d3d7b58df1206f"), looks := true }, kinds := [], alts := [], laidByText := true, laidKinds := [.data, .data, .data, .data, .data, .sentinel, .sentinel], laidTests := true, laidLooks := .later }
def DescriptorBackCardSaid : Prop := Claim7.holds Tryz.pinned (.plain (OpenSpec.ofChange descriptorBackSpec)) descriptorBackCard

/-- THE SECOND FORM's CARD OF 'lightclientlaw26.DescriptorTexts'. -/
def descriptorTextsUptoCard : Claim7 := { stood := { row := descriptorTextsUptoRow, standIns := [], harness := (true, "2704d3a08cb47fb35cce2ebd7ca26905aeca290e87b72d9789d3d7b58df1206f"), looks := true }, kinds := [], alts := [], laidByText := true, laidKinds := [.data, .data, .data, .data, .data], laidTests := true, laidLooks := .later }
def DescriptorTextsUptoCardSaid : Prop := Claim7.holds Tryz.pinned (.plain (OpenSpec.upto descriptorTextsSpec)) descriptorTextsUptoCard

/-- THE SECOND FORM's CARD OF 'lightclientlaw26.DescriptorParses'. -/
def descriptorParsesUptoCard : Claim7 := { stood := { row := descriptorParsesUptoRow, standIns := [], harness := (true, "2704d3a08cb47fb35cce2ebd7ca26905aeca290e87b72d9789d3d7b58df1206f"), looks := true }, kinds := [], alts := [], laidByText := true, laidKinds := [.data, .data, .data, .data, .data, .sentinel, .sentinel], laidTests := true, laidLooks := .later }
def DescriptorParsesUptoCardSaid : Prop := Claim7.holds Tryz.pinned (.plain (OpenSpec.upto descriptorParsesSpec)) descriptorParsesUptoCard

/-- THE SECOND FORM's CARD OF 'lightclientlaw26.DescriptorBack'. -/
def descriptorBackUptoCard : Claim7 := { stood := { row := descriptorBackUptoRow, standIns := [], harness := (true, "2704d3a08cb47fb35cce2ebd7ca26905aeca290e87b72d9789d3d7b58df1206f"), looks := true }, kinds := [], alts := [], laidByText := true, laidKinds := [.data, .data, .data, .data, .data, .sentinel, .sentinel], laidTests := true, laidLooks := .later }
def DescriptorBackUptoCardSaid : Prop := Claim7.holds Tryz.pinned (.plain (OpenSpec.upto descriptorBackSpec)) descriptorBackUptoCard
end Rows
end Go.Proofs.YtegagmoldjiaaaaGreatDoor
