/-
  DERIVED. GIVEN WITH THE SEED: THE CARDS: each row of YtjdhjkceahaegaaGreatDoorRows.lean that lists a variable, with what it lists TIED to the program's text (the seventh form; the later family's looks); each row that meets fmt, with fmt's text TOLD by the authors' own Lean function (tested against real Go, not proved from fmt's source: count such statements apart). THE CARD IS WHAT COUNTS. Prove the row's statement (the work); the ties are given (YtjdhjkceahaegaaGreatDoorTie.lean); close each card by the builder's one call (the guide's Derived/Test/ToyasCard.lean, 'card_holds'). Laid BY PROGRAM, IN A SANDBOX (cutbox-door.mjs). By AI agents, Wed Nov 11 2026. No macro, syntax, notation, axiom, sorry.
-/
import Derived.Test.YtjdhjkceahaegaaGreatDoorRows
import GoSem.ClaimSeven
namespace Go.Proofs.YtjdhjkceahaegaaGreatDoor
namespace Rows

/-- THE TIED CARD OF 'lightclientlaw25.KeytreeSteps'. -/
def keytreeStepsCard : Claim7 := { stood := { row := keytreeStepsRow, standIns := [], harness := (true, "cdfa69fc58e327ab1a2fcb6ab64b4e7d08218b418b066e67d72d813372d4a16b"), looks := false }, kinds := [], alts := [], laidByText := true, laidKinds := [.data, .data], laidTests := true, laidLooks := .later }
def KeytreeStepsCardSaid : Prop := Claim7.holds Tryz.pinned (.plain (OpenSpec.ofChange keytreeStepsSpec)) keytreeStepsCard

/-- THE TIED CARD OF 'lightclientlaw25.KeytreeWalks'. -/
def keytreeWalksCard : Claim7 := { stood := { row := keytreeWalksRow, standIns := [], harness := (true, "cdfa69fc58e327ab1a2fcb6ab64b4e7d08218b418b066e67d72d813372d4a16b"), looks := false }, kinds := [], alts := [], laidByText := true, laidKinds := [.data, .data], laidTests := true, laidLooks := .later }
def KeytreeWalksCardSaid : Prop := Claim7.holds Tryz.pinned (.plain (OpenSpec.ofChange keytreeWalksSpec)) keytreeWalksCard

/-- THE TIED CARD OF 'lightclientlaw25.KeytreeCodes'. -/
def keytreeCodesCard : Claim7 := { stood := { row := keytreeCodesRow, standIns := [], harness := (true, "cdfa69fc58e327ab1a2fcb6ab64b4e7d08218b418b066e67d72d813372d4a16b"), looks := false }, kinds := [], alts := [], laidByText := true, laidKinds := [.data, .data], laidTests := true, laidLooks := .later }
def KeytreeCodesCardSaid : Prop := Claim7.holds Tryz.pinned (.plain (OpenSpec.ofChange keytreeCodesSpec)) keytreeCodesCard

/-- THE SECOND FORM's CARD OF 'lightclientlaw25.KeytreeSteps'. -/
def keytreeStepsUptoCard : Claim7 := { stood := { row := keytreeStepsUptoRow, standIns := [], harness := (true, "cdfa69fc58e327ab1a2fcb6ab64b4e7d08218b418b066e67d72d813372d4a16b"), looks := false }, kinds := [], alts := [], laidByText := true, laidKinds := [.data, .data], laidTests := true, laidLooks := .later }
def KeytreeStepsUptoCardSaid : Prop := Claim7.holds Tryz.pinned (.plain (OpenSpec.upto keytreeStepsSpec)) keytreeStepsUptoCard

/-- THE SECOND FORM's CARD OF 'lightclientlaw25.KeytreeWalks'. -/
def keytreeWalksUptoCard : Claim7 := { stood := { row := keytreeWalksUptoRow, standIns := [], harness := (true, "cdfa69fc58e327ab1a2fcb6ab64b4e7d08218b418b066e67d72d813372d4a16b"), looks := false }, kinds := [], alts := [], laidByText := true, laidKinds := [.data, .data], laidTests := true, laidLooks := .later }
def KeytreeWalksUptoCardSaid : Prop := Claim7.holds Tryz.pinned (.plain (OpenSpec.upto keytreeWalksSpec)) keytreeWalksUptoCard

/-- THE SECOND FORM's CARD OF 'lightclientlaw25.KeytreeCodes'. -/
def keytreeCodesUptoCard : Claim7 := { stood := { row := keytreeCodesUptoRow, standIns := [], harness := (true, "cdfa69fc58e327ab1a2fcb6ab64b4e7d08218b418b066e67d72d813372d4a16b"), looks := false }, kinds := [], alts := [], laidByText := true, laidKinds := [.data, .data], laidTests := true, laidLooks := .later }
def KeytreeCodesUptoCardSaid : Prop := Claim7.holds Tryz.pinned (.plain (OpenSpec.upto keytreeCodesSpec)) keytreeCodesUptoCard
end Rows
end Go.Proofs.YtjdhjkceahaegaaGreatDoor
