/-
  What this statement needs, part 12: the texts of it, one behind the other.
-/
import Derived.Test.YtcgdimlbbdfdpaaGreatDoorBase11
set_option maxRecDepth 100000
set_option linter.all false
namespace Go.Proofs.YtcgdimlbbdfdpaaGreatDoor
open Go Go.RowKit
theorem awake_run : okB (kD Tryz.prog aCT 100000 60 4 [] aH 64 []) = true := by kernel_rfl
end Go.Proofs.YtcgdimlbbdfdpaaGreatDoor
