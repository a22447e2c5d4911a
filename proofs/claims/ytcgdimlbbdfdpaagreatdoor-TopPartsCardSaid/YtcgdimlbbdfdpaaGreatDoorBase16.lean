/-
  What this statement needs, part 16: the texts of it, one behind the other.
-/
import Derived.Test.YtcgdimlbbdfdpaaGreatDoorBase14
set_option maxRecDepth 100000
set_option linter.all false
namespace Go.Proofs.YtcgdimlbbdfdpaaGreatDoor
open Go Go.RowKit
theorem con_c111 (q v x : Int) (o0 : List Int) (q0 w0 v0 x0 : Int) (o1 : List Int) (q1 w1 v1 x1 : Int) (o2 : List Int) (q2 w2 v2 x2 : Int) : mP (.cb q v x) [.sp1 o0 q0 w0 v0 x0, .sp1 o1 q1 w1 v1 x1, .sp1 o2 q2 w2 v2 x2] := fun tm W H M h tip cs o n hd => by kernel_rfl
theorem con_c112 (q v x : Int) (o0 : List Int) (q0 w0 v0 x0 : Int) (o1 : List Int) (q1 w1 v1 x1 : Int) (o2 : List Int) (q2 w2 v2 x2 y2 z2 : Int) : mP (.cb q v x) [.sp1 o0 q0 w0 v0 x0, .sp1 o1 q1 w1 v1 x1, .sp2 o2 q2 w2 v2 x2 y2 z2] := fun tm W H M h tip cs o n hd => by kernel_rfl
theorem con_c121 (q v x : Int) (o0 : List Int) (q0 w0 v0 x0 : Int) (o1 : List Int) (q1 w1 v1 x1 y1 z1 : Int) (o2 : List Int) (q2 w2 v2 x2 : Int) : mP (.cb q v x) [.sp1 o0 q0 w0 v0 x0, .sp2 o1 q1 w1 v1 x1 y1 z1, .sp1 o2 q2 w2 v2 x2] := fun tm W H M h tip cs o n hd => by kernel_rfl
theorem con_c122 (q v x : Int) (o0 : List Int) (q0 w0 v0 x0 : Int) (o1 : List Int) (q1 w1 v1 x1 y1 z1 : Int) (o2 : List Int) (q2 w2 v2 x2 y2 z2 : Int) : mP (.cb q v x) [.sp1 o0 q0 w0 v0 x0, .sp2 o1 q1 w1 v1 x1 y1 z1, .sp2 o2 q2 w2 v2 x2 y2 z2] := fun tm W H M h tip cs o n hd => by kernel_rfl
end Go.Proofs.YtcgdimlbbdfdpaaGreatDoor
