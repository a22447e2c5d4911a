/-
  DERIVED. GIVEN WITH THE SEED: THE CARDS: each row of YtjdhjkceahaegaaDoorRows.lean that lists a variable, with what it lists TIED to the program's text (the seventh form; the later family's looks); each row that meets fmt, with fmt's text TOLD by the authors' own Lean function (tested against real Go, not proved from fmt's source: count such statements apart). THE CARD IS WHAT COUNTS. Prove the row's statement (the work); the ties are given (YtjdhjkceahaegaaDoorTie.lean); close each card by the builder's one call (the guide's Derived/Test/ToyasCard.lean, 'card_holds'). Laid BY PROGRAM, IN A SANDBOX (cutbox-door.mjs). By AI agents, Wed Nov 11 2026. No macro, syntax, notation, axiom, sorry.
-/
import Derived.Test.YtjdhjkceahaegaaDoorRows
import GoSem.ClaimSeven
namespace Go.Proofs.YtjdhjkceahaegaaDoor
namespace Rows

/-- THE TIED CARD OF 'lightclientlaw25.KeytreeSound'. -/
def keytreeSoundCard : Claim7 := { stood := { row := keytreeSoundRow, standIns := [], harness := (true, "3c982e3cc33186492eaaab2c28847d39cc691527d2c3de8eb8014453babb71dc"), looks := false }, kinds := [], alts := [], laidByText := true, laidKinds := [.data, .data], laidTests := true, laidLooks := .later }
def KeytreeSoundCardSaid : Prop := Claim7.holds Tryd.pinned (.plain (OpenSpec.ofChange keytreeSoundSpec)) keytreeSoundCard

/-- THE TIED CARD OF 'lightclientlaw25.KeytreeNeuters'. -/
def keytreeNeutersCard : Claim7 := { stood := { row := keytreeNeutersRow, standIns := [], harness := (true, "3c982e3cc33186492eaaab2c28847d39cc691527d2c3de8eb8014453babb71dc"), looks := false }, kinds := [], alts := [], laidByText := true, laidKinds := [.data, .data], laidTests := true, laidLooks := .later }
def KeytreeNeutersCardSaid : Prop := Claim7.holds Tryd.pinned (.plain (OpenSpec.ofChange keytreeNeutersSpec)) keytreeNeutersCard

/-- THE TIED CARD OF 'lightclientlaw25.KeytreeMasters'. -/
def keytreeMastersCard : Claim7 := { stood := { row := keytreeMastersRow, standIns := [], harness := (true, "3c982e3cc33186492eaaab2c28847d39cc691527d2c3de8eb8014453babb71dc"), looks := false }, kinds := [], alts := [], laidByText := true, laidKinds := [.data, .data], laidTests := true, laidLooks := .later }
def KeytreeMastersCardSaid : Prop := Claim7.holds Tryd.pinned (.plain (OpenSpec.ofChange keytreeMastersSpec)) keytreeMastersCard

/-- THE TIED CARD OF 'lightclientlaw25.KeytreeDivides'. -/
def keytreeDividesCard : Claim7 := { stood := { row := keytreeDividesRow, standIns := [], harness := (true, "3c982e3cc33186492eaaab2c28847d39cc691527d2c3de8eb8014453babb71dc"), looks := false }, kinds := [], alts := [], laidByText := true, laidKinds := [.data, .data], laidTests := true, laidLooks := .later }
def KeytreeDividesCardSaid : Prop := Claim7.holds Tryd.pinned (.plain (OpenSpec.ofChange keytreeDividesSpec)) keytreeDividesCard

/-- THE SECOND FORM's CARD OF 'lightclientlaw25.KeytreeSound'. -/
def keytreeSoundUptoCard : Claim7 := { stood := { row := keytreeSoundUptoRow, standIns := [], harness := (true, "3c982e3cc33186492eaaab2c28847d39cc691527d2c3de8eb8014453babb71dc"), looks := false }, kinds := [], alts := [], laidByText := true, laidKinds := [.data, .data], laidTests := true, laidLooks := .later }
def KeytreeSoundUptoCardSaid : Prop := Claim7.holds Tryd.pinned (.plain (OpenSpec.upto keytreeSoundSpec)) keytreeSoundUptoCard

/-- THE SECOND FORM's CARD OF 'lightclientlaw25.KeytreeNeuters'. -/
def keytreeNeutersUptoCard : Claim7 := { stood := { row := keytreeNeutersUptoRow, standIns := [], harness := (true, "3c982e3cc33186492eaaab2c28847d39cc691527d2c3de8eb8014453babb71dc"), looks := false }, kinds := [], alts := [], laidByText := true, laidKinds := [.data, .data], laidTests := true, laidLooks := .later }
def KeytreeNeutersUptoCardSaid : Prop := Claim7.holds Tryd.pinned (.plain (OpenSpec.upto keytreeNeutersSpec)) keytreeNeutersUptoCard

/-- THE SECOND FORM's CARD OF 'lightclientlaw25.KeytreeMasters'. -/
def keytreeMastersUptoCard : Claim7 := { stood := { row := keytreeMastersUptoRow, standIns := [], harness := (true, "3c982e3cc33186492eaaab2c28847d39cc691527d2c3de8eb8014453babb71dc"), looks := false }, kinds := [], alts := [], laidByText := true, laidKinds := [.data, .data], laidTests := true, laidLooks := .later }
def KeytreeMastersUptoCardSaid : Prop := Claim7.holds Tryd.pinned (.plain (OpenSpec.upto keytreeMastersSpec)) keytreeMastersUptoCard

/-- THE SECOND FORM's CARD OF 'lightclientlaw25.KeytreeDivides'. -/
def keytreeDividesUptoCard : Claim7 := { stood := { row := keytreeDividesUptoRow, standIns := [], harness := (true, "3c982e3cc33186492eaaab2c28847d39cc691527d2c3de8eb8014453babb71dc"), looks := false }, kinds := [], alts := [], laidByText := true, laidKinds := [.data, .data], laidTests := true, laidLooks := .later }
def KeytreeDividesUptoCardSaid : Prop := Claim7.holds Tryd.pinned (.plain (OpenSpec.upto keytreeDividesSpec)) keytreeDividesUptoCard
end Rows
end Go.Proofs.YtjdhjkceahaegaaDoor
