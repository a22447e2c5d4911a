/-
  What this statement needs, part 15: the texts of it, one behind the other.
-/
import Derived.Test.YtcgdimlbbdfdpaaGreatDoorBase14
set_option maxRecDepth 100000
set_option linter.all false
namespace Go.Proofs.YtcgdimlbbdfdpaaGreatDoor
open Go Go.RowKit
theorem con_c (q v x : Int) : mP (.cb q v x) [] := fun tm W H M h tip cs o n hd => by kernel_rfl
theorem con_c1 (q v x : Int) (o0 : List Int) (q0 w0 v0 x0 : Int) : mP (.cb q v x) [.sp1 o0 q0 w0 v0 x0] := fun tm W H M h tip cs o n hd => by kernel_rfl
theorem con_c2 (q v x : Int) (o0 : List Int) (q0 w0 v0 x0 y0 z0 : Int) : mP (.cb q v x) [.sp2 o0 q0 w0 v0 x0 y0 z0] := fun tm W H M h tip cs o n hd => by kernel_rfl
theorem con_c11 (q v x : Int) (o0 : List Int) (q0 w0 v0 x0 : Int) (o1 : List Int) (q1 w1 v1 x1 : Int) : mP (.cb q v x) [.sp1 o0 q0 w0 v0 x0, .sp1 o1 q1 w1 v1 x1] := fun tm W H M h tip cs o n hd => by kernel_rfl
theorem con_c12 (q v x : Int) (o0 : List Int) (q0 w0 v0 x0 : Int) (o1 : List Int) (q1 w1 v1 x1 y1 z1 : Int) : mP (.cb q v x) [.sp1 o0 q0 w0 v0 x0, .sp2 o1 q1 w1 v1 x1 y1 z1] := fun tm W H M h tip cs o n hd => by kernel_rfl
theorem con_c21 (q v x : Int) (o0 : List Int) (q0 w0 v0 x0 y0 z0 : Int) (o1 : List Int) (q1 w1 v1 x1 : Int) : mP (.cb q v x) [.sp2 o0 q0 w0 v0 x0 y0 z0, .sp1 o1 q1 w1 v1 x1] := fun tm W H M h tip cs o n hd => by kernel_rfl
theorem con_c22 (q v x : Int) (o0 : List Int) (q0 w0 v0 x0 y0 z0 : Int) (o1 : List Int) (q1 w1 v1 x1 y1 z1 : Int) : mP (.cb q v x) [.sp2 o0 q0 w0 v0 x0 y0 z0, .sp2 o1 q1 w1 v1 x1 y1 z1] := fun tm W H M h tip cs o n hd => by kernel_rfl
end Go.Proofs.YtcgdimlbbdfdpaaGreatDoor
