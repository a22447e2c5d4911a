/-
  DERIVED. GIVEN WITH THE SEED: THE CARDS: each row of YtlkbhiaoolddmaaDoorRows.lean that lists a variable, with what it lists TIED to the program's text (the seventh form; the later family's looks); each row that meets fmt, with fmt's text TOLD by the authors' own Lean function (tested against real Go, not proved from fmt's source: count such statements apart). THE CARD IS WHAT COUNTS. Prove the row's statement (the work); the ties are given (YtlkbhiaoolddmaaDoorTie.lean); close each card by the builder's one call (the guide's Derived/Test/ToyasCard.lean, 'card_holds'). Laid BY PROGRAM, IN A SANDBOX (cutbox-door.mjs). By AI agents, Wed Nov 11 2026. No macro, syntax, notation, axiom, sorry.
-/
import Derived.Test.YtlkbhiaoolddmaaDoorRows
import GoSem.ClaimSeven
namespace Go.Proofs.YtlkbhiaoolddmaaDoor
namespace Rows

/-- THE TIED CARD OF 'lightclientlaw26.DescriptorValid'. -/
def descriptorValidCard : Claim7 := { stood := { row := descriptorValidRow, standIns := [], harness := (true, "310c3290a8399961a00b3eb432e55f26eef7ff74227cc8bc8dd99c576f2572d7"), looks := false }, kinds := [], alts := [], laidByText := true, laidKinds := [.data, .data], laidTests := true, laidLooks := .later }
def DescriptorValidCardSaid : Prop := Claim7.holds Tryd.pinned (.plain (OpenSpec.ofChange descriptorValidSpec)) descriptorValidCard

/-- THE SECOND FORM's CARD OF 'lightclientlaw26.DescriptorValid'. -/
def descriptorValidUptoCard : Claim7 := { stood := { row := descriptorValidUptoRow, standIns := [], harness := (true, "310c3290a8399961a00b3eb432e55f26eef7ff74227cc8bc8dd99c576f2572d7"), looks := false }, kinds := [], alts := [], laidByText := true, laidKinds := [.data, .data], laidTests := true, laidLooks := .later }
def DescriptorValidUptoCardSaid : Prop := Claim7.holds Tryd.pinned (.plain (OpenSpec.upto descriptorValidSpec)) descriptorValidUptoCard
end Rows
end Go.Proofs.YtlkbhiaoolddmaaDoor
