/-
  What this statement needs, part 36: the texts of it, one behind the other.
-/
import Derived.Test.YtcgdimlbbdfdpaaGreatDoorBase34
set_option maxRecDepth 100000
set_option linter.all false
namespace Go.Proofs.YtcgdimlbbdfdpaaGreatDoor
open Go Go.RowKit
def RtE (s : List Bool) : Prop := ∀ c : CV, rtW (rX (txsK s) c) = rootE (fuNs (rX (txsK s) c) (s.length + 1)) (s.length + 1)
theorem rtE_ : RtE [] := fun c => by kernel_rfl
theorem rtE_t : RtE [true] := fun c => by kernel_rfl
theorem rtE_f : RtE [false] := fun c => by kernel_rfl
theorem rtE_tt : RtE [true, true] := fun c => by kernel_rfl
theorem rtE_tf : RtE [true, false] := fun c => by kernel_rfl
theorem rtE_ft : RtE [false, true] := fun c => by kernel_rfl
theorem rtE_ff : RtE [false, false] := fun c => by kernel_rfl
theorem rtE_ttt : RtE [true, true, true] := fun c => by kernel_rfl
theorem rtE_ttf : RtE [true, true, false] := fun c => by kernel_rfl
theorem rtE_tft : RtE [true, false, true] := fun c => by kernel_rfl
theorem rtE_tff : RtE [true, false, false] := fun c => by kernel_rfl
theorem rtE_ftt : RtE [false, true, true] := fun c => by kernel_rfl
theorem rtE_ftf : RtE [false, true, false] := fun c => by kernel_rfl
theorem rtE_fft : RtE [false, false, true] := fun c => by kernel_rfl
theorem rtE_fff : RtE [false, false, false] := fun c => by kernel_rfl
theorem rtE_all : ∀ (s : List Bool), s.length ≤ 3 → RtE s
  | [], _ => rtE_
  | [true], _ => rtE_t
  | [false], _ => rtE_f
  | [true, true], _ => rtE_tt
  | [true, false], _ => rtE_tf
  | [false, true], _ => rtE_ft
  | [false, false], _ => rtE_ff
  | [true, true, true], _ => rtE_ttt
  | [true, true, false], _ => rtE_ttf
  | [true, false, true], _ => rtE_tft
  | [true, false, false], _ => rtE_tff
  | [false, true, true], _ => rtE_ftt
  | [false, true, false], _ => rtE_ftf
  | [false, false, true], _ => rtE_fft
  | [false, false, false], _ => rtE_fff
  | _ :: _ :: _ :: _ :: _, h => absurd h (by simp)
end Go.Proofs.YtcgdimlbbdfdpaaGreatDoor
