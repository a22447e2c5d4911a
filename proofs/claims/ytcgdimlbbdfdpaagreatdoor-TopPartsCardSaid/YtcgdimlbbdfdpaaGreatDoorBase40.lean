/-
  What this statement needs, part 40: the texts of it, one behind the other.
-/
import Derived.Test.YtcgdimlbbdfdpaaGreatDoorRows
import Derived.SevenTiedAt
import Derived.WalkKit
set_option maxRecDepth 100000
set_option linter.all false
namespace Go.Proofs.YtcgdimlbbdfdpaaGreatDoor
open Go Go.RowKit
theorem jIn : (Rows.topPartsRow.inPlace == Tryz.prog.inPlace 3) = true := by kernel_rfl
theorem jUn : (Rows.topPartsRow.unfollowed == Tryz.prog.unfollowed 3) = true := by kernel_rfl
theorem jRe : (Rows.topPartsRow.recurses == Tryz.prog.recurses 3) = true := by kernel_rfl
theorem jNa : (Rows.topPartsRow.named == Tryz.prog.varsNamed 3) = true := by kernel_rfl
theorem jFacts : joinedFacts Tryz.prog 3 Tryz.f3 Rows.topPartsSpec Rows.topPartsRow = true := by
  unfold joinedFacts
  rw [jIn, jUn, jRe, jNa]
  kernel_rfl
theorem jLooks : false = Tryz.prog.looks [] := by kernel_rfl
end Go.Proofs.YtcgdimlbbdfdpaaGreatDoor
