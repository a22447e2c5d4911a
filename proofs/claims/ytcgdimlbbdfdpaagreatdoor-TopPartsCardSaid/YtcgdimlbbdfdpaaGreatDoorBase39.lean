/-
  What this statement needs, part 39: the texts of it, one behind the other.
-/
import Derived.Test.YtcgdimlbbdfdpaaGreatDoorRows
import Derived.SevenTiedAt
import Derived.WalkKit
set_option maxRecDepth 100000
set_option linter.all false
namespace Go.Proofs.YtcgdimlbbdfdpaaGreatDoor
open Go Go.RowKit
theorem jGoes : false = Rows.topPartsRow.goesBy Tryz.prog := by kernel_rfl
end Go.Proofs.YtcgdimlbbdfdpaaGreatDoor
