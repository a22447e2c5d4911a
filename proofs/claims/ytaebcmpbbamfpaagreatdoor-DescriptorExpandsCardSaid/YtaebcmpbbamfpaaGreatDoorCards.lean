/-
  DERIVED. GIVEN WITH THE SEED: THE CARDS: each row of YtaebcmpbbamfpaaGreatDoorRows.lean that lists a variable, with what it lists TIED to the program's text (the seventh form; the later family's looks); each row that meets fmt, with fmt's text TOLD by the authors' own Lean function (tested against real Go, not proved from fmt's source: count such statements apart). THE CARD IS WHAT COUNTS. Prove the row's statement (the work); the ties are given (YtaebcmpbbamfpaaGreatDoorTie.lean); close each card by the builder's one call (the guide's Derived/Test/ToyasCard.lean, 'card_holds'). Laid BY PROGRAM, IN A SANDBOX (cutbox-door.mjs). By AI agents, Wed Nov 11 2026. No macro, syntax, notation, axiom, sorry.
-/
import Derived.Test.YtaebcmpbbamfpaaGreatDoorRows
import GoSem.ClaimSeven
namespace Go.Proofs.YtaebcmpbbamfpaaGreatDoor
namespace Rows

/-- THE TIED CARD OF 'lightclientlaw26.DescriptorExpands'. -/
def descriptorExpandsCard : Claim7 := { stood := { row := descriptorExpandsRow, standIns := [], harness := (true, "a43dbffef8f0c7838fcfc23b7add7368b802a0991172885b7b6d0926ec8a7314"), looks := false }, kinds := [], alts := [], laidByText := true, laidKinds := [.data, .data], laidTests := true, laidLooks := .later }
def DescriptorExpandsCardSaid : Prop := Claim7.holds Tryz.pinned (.plain (OpenSpec.ofChange descriptorExpandsSpec)) descriptorExpandsCard

/-- THE TIED CARD OF 'lightclientlaw26.DescriptorPublic'. -/
def descriptorPublicCard : Claim7 := { stood := { row := descriptorPublicRow, standIns := [], harness := (true, "a43dbffef8f0c7838fcfc23b7add7368b802a0991172885b7b6d0926ec8a7314"), looks := false }, kinds := [], alts := [], laidByText := true, laidKinds := [.data, .data], laidTests := true, laidLooks := .later }
def DescriptorPublicCardSaid : Prop := Claim7.holds Tryz.pinned (.plain (OpenSpec.ofChange descriptorPublicSpec)) descriptorPublicCard

/-- THE SECOND FORM's CARD OF 'lightclientlaw26.DescriptorExpands'. -/
def descriptorExpandsUptoCard : Claim7 := { stood := { row := descriptorExpandsUptoRow, standIns := [], harness := (true, "a43dbffef8f0c7838fcfc23b7add7368b802a0991172885b7b6d0926ec8a7314"), looks := false }, kinds := [], alts := [], laidByText := true, laidKinds := [.data, .data], laidTests := true, laidLooks := .later }
def DescriptorExpandsUptoCardSaid : Prop := Claim7.holds Tryz.pinned (.plain (OpenSpec.upto descriptorExpandsSpec)) descriptorExpandsUptoCard

/-- THE SECOND FORM's CARD OF 'lightclientlaw26.DescriptorPublic'. -/
def descriptorPublicUptoCard : Claim7 := { stood := { row := descriptorPublicUptoRow, standIns := [], harness := (true, "a43dbffef8f0c7838fcfc23b7add7368b802a0991172885b7b6d0926ec8a7314"), looks := false }, kinds := [], alts := [], laidByText := true, laidKinds := [.data, .data], laidTests := true, laidLooks := .later }
def DescriptorPublicUptoCardSaid : Prop := Claim7.holds Tryz.pinned (.plain (OpenSpec.upto descriptorPublicSpec)) descriptorPublicUptoCard
end Rows
end Go.Proofs.YtaebcmpbbamfpaaGreatDoor
