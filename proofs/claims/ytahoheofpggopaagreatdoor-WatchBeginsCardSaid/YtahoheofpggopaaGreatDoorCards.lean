/-
  DERIVED. GIVEN WITH THE SEED: THE CARDS: each row of YtahoheofpggopaaGreatDoorRows.lean that lists a variable, with what it lists TIED to the program's text (the seventh form; the later family's looks); each row that meets fmt, with fmt's text TOLD by the authors' own Lean function (tested against real Go, not proved from fmt's source: count such statements apart). THE CARD IS WHAT COUNTS. Prove the row's statement (the work); the ties are given (YtahoheofpggopaaGreatDoorTie.lean); close each card by the builder's one call (the guide's Derived/Test/ToyasCard.lean, 'card_holds'). Laid BY PROGRAM, IN A SANDBOX (cutbox-door.mjs). By AI agents, Wed Nov 11 2026. No macro, syntax, notation, axiom, sorry.
-/
import Derived.Test.YtahoheofpggopaaGreatDoorRows
import GoSem.ClaimSeven
namespace Go.Proofs.YtahoheofpggopaaGreatDoor
namespace Rows

/-- THE TIED CARD OF 'lightclientlaw28.WatchBegins'. -/
def watchBeginsCard : Claim7 := { stood := { row := watchBeginsRow, standIns := [], harness := (true, "b5e922500e40725749470a6866969fcfed273ae20294b956cf111c62f104a1ed"), looks := false }, kinds := [], alts := [], laidByText := true, laidKinds := [.data, .data], laidTests := true, laidLooks := .later }
def WatchBeginsCardSaid : Prop := Claim7.holds Tryz.pinned (.plain (OpenSpec.ofChange watchBeginsSpec)) watchBeginsCard

/-- THE TIED CARD OF 'lightclientlaw28.WatchNotes'. -/
def watchNotesCard : Claim7 := { stood := { row := watchNotesRow, standIns := [], harness := (true, "b5e922500e40725749470a6866969fcfed273ae20294b956cf111c62f104a1ed"), looks := false }, kinds := [], alts := [], laidByText := true, laidKinds := [.data, .data], laidTests := true, laidLooks := .later }
def WatchNotesCardSaid : Prop := Claim7.holds Tryz.pinned (.plain (OpenSpec.ofChange watchNotesSpec)) watchNotesCard

/-- THE TIED CARD OF 'lightclientlaw28.WatchOrder'. -/
def watchOrderCard : Claim7 := { stood := { row := watchOrderRow, standIns := [], harness := (true, "b5e922500e40725749470a6866969fcfed273ae20294b956cf111c62f104a1ed"), looks := false }, kinds := [], alts := [], laidByText := true, laidKinds := [.data, .data], laidTests := true, laidLooks := .later }
def WatchOrderCardSaid : Prop := Claim7.holds Tryz.pinned (.plain (OpenSpec.ofChange watchOrderSpec)) watchOrderCard

/-- THE TIED CARD OF 'lightclientlaw28.WatchAll'. -/
def watchAllCard : Claim7 := { stood := { row := watchAllRow, standIns := [], harness := (true, "b5e922500e40725749470a6866969fcfed273ae20294b956cf111c62f104a1ed"), looks := false }, kinds := [], alts := [], laidByText := true, laidKinds := [.data, .data], laidTests := true, laidLooks := .later }
def WatchAllCardSaid : Prop := Claim7.holds Tryz.pinned (.plain (OpenSpec.ofChange watchAllSpec)) watchAllCard

/-- THE SECOND FORM's CARD OF 'lightclientlaw28.WatchBegins'. -/
def watchBeginsUptoCard : Claim7 := { stood := { row := watchBeginsUptoRow, standIns := [], harness := (true, "b5e922500e40725749470a6866969fcfed273ae20294b956cf111c62f104a1ed"), looks := false }, kinds := [], alts := [], laidByText := true, laidKinds := [.data, .data], laidTests := true, laidLooks := .later }
def WatchBeginsUptoCardSaid : Prop := Claim7.holds Tryz.pinned (.plain (OpenSpec.upto watchBeginsSpec)) watchBeginsUptoCard

/-- THE SECOND FORM's CARD OF 'lightclientlaw28.WatchNotes'. -/
def watchNotesUptoCard : Claim7 := { stood := { row := watchNotesUptoRow, standIns := [], harness := (true, "b5e922500e40725749470a6866969fcfed273ae20294b956cf111c62f104a1ed"), looks := false }, kinds := [], alts := [], laidByText := true, laidKinds := [.data, .data], laidTests := true, laidLooks := .later }
def WatchNotesUptoCardSaid : Prop := Claim7.holds Tryz.pinned (.plain (OpenSpec.upto watchNotesSpec)) watchNotesUptoCard

/-- THE SECOND FORM's CARD OF 'lightclientlaw28.WatchOrder'. -/
def watchOrderUptoCard : Claim7 := { stood := { row := watchOrderUptoRow, standIns := [], harness := (true, "b5e922500e40725749470a6866969fcfed273ae20294b956cf111c62f104a1ed"), looks := false }, kinds := [], alts := [], laidByText := true, laidKinds := [.data, .data], laidTests := true, laidLooks := .later }
def WatchOrderUptoCardSaid : Prop := Claim7.holds Tryz.pinned (.plain (OpenSpec.upto watchOrderSpec)) watchOrderUptoCard

/-- THE SECOND FORM's CARD OF 'lightclientlaw28.WatchAll'. -/
def watchAllUptoCard : Claim7 := { stood := { row := watchAllUptoRow, standIns := [], harness := (true, "b5e922500e40725749470a6866969fcfed273ae20294b956cf111c62f104a1ed"), looks := false }, kinds := [], alts := [], laidByText := true, laidKinds := [.data, .data], laidTests := true, laidLooks := .later }
def WatchAllUptoCardSaid : Prop := Claim7.holds Tryz.pinned (.plain (OpenSpec.upto watchAllSpec)) watchAllUptoCard
end Rows
end Go.Proofs.YtahoheofpggopaaGreatDoor
