/-
  What this statement needs, part 32: the texts of it, one behind the other.
-/
import Derived.Test.YtcgdimlbbdfdpaaGreatDoorBase31
set_option maxRecDepth 100000
set_option linter.all false
namespace Go.Proofs.YtcgdimlbbdfdpaaGreatDoor
open Go Go.RowKit
theorem tp_0 (x : Nat → CV) (y : Nat → HO) : allB (qJ .b [.t (way 8)]) (iJ cTp 149 (kA (kNx 3 tpC)) (y5 (tpW 0) x y)) = true ∧ R.mq (fun a => yS (resV [.t (way 8)] a.2)) (iJ cTp 149 (kA (kNx 3 tpC)) (y5 (tpW 0) x y)) = R.mp (fun _ => true) (iJ cTp 149 (kA (kNx 3 tpC)) (y5 (tpW 0) x y)) := ⟨by kernel_rfl, by kernel_rfl⟩
noncomputable def tpR2 (n : Nat) (x : Nat → CV) (y : Nat → HO) : R (Ex × aP) := iJ cTp 149 (.seq (kA (kNx 3 tpC)) (kA (kNx 4 tpC))) (y5 (tpW n) x y)
def tpz (n : Nat) (x : Nat → CV) : Int := qE .i64 (dP .i64 (aS (x 2))) (n : Int)
def tpD2 (j : Nat) : List Bool := true :: (List.replicate j false ++ [true])
def tpC2 (n j : Nat) (x : Nat → CV) : List Bool := (decide (0 ≤ tpz n x) && decide (tpz n x < (n : Int))) :: (List.range (j + 1)).map (fun (q : Nat) => decide (tpz n x = (q : Int)))
noncomputable def tpN2 (s : aP) : List (Nat × Nat) := [(64, gx (fU s 10))]
def bkP (o : HO) : List Int × CV := (rtY o, unW (aT 68 (.agg (dU o))))
def Tp2 (n j : Nat) : Prop := ∀ (x : Nat → CV) (y : Nat → HO), WayR (tpR2 n x y) (tpD2 j) (tpC2 n j x) .nrm tpN2 tp0 (fun s => bkP (fC (tpN2 s) s 64)) ((wbB (.agg (dU (y 64))) n).getD j ([], .nils))
theorem tp2_all : ∀ (n j : Nat), n < 8 → j < n → Tp2 n j
  | 1, 0, _, _ => fun x y => ⟨by kernel_rfl, by kernel_rfl, by kernel_rfl, by kernel_rfl, by kernel_rfl⟩
  | 2, 0, _, _ => fun x y => ⟨by kernel_rfl, by kernel_rfl, by kernel_rfl, by kernel_rfl, by kernel_rfl⟩
  | 2, 1, _, _ => fun x y => ⟨by kernel_rfl, by kernel_rfl, by kernel_rfl, by kernel_rfl, by kernel_rfl⟩
  | 3, 0, _, _ => fun x y => ⟨by kernel_rfl, by kernel_rfl, by kernel_rfl, by kernel_rfl, by kernel_rfl⟩
  | 3, 1, _, _ => fun x y => ⟨by kernel_rfl, by kernel_rfl, by kernel_rfl, by kernel_rfl, by kernel_rfl⟩
  | 3, 2, _, _ => fun x y => ⟨by kernel_rfl, by kernel_rfl, by kernel_rfl, by kernel_rfl, by kernel_rfl⟩
  | 4, 0, _, _ => fun x y => ⟨by kernel_rfl, by kernel_rfl, by kernel_rfl, by kernel_rfl, by kernel_rfl⟩
  | 4, 1, _, _ => fun x y => ⟨by kernel_rfl, by kernel_rfl, by kernel_rfl, by kernel_rfl, by kernel_rfl⟩
  | 4, 2, _, _ => fun x y => ⟨by kernel_rfl, by kernel_rfl, by kernel_rfl, by kernel_rfl, by kernel_rfl⟩
  | 4, 3, _, _ => fun x y => ⟨by kernel_rfl, by kernel_rfl, by kernel_rfl, by kernel_rfl, by kernel_rfl⟩
  | 5, 0, _, _ => fun x y => ⟨by kernel_rfl, by kernel_rfl, by kernel_rfl, by kernel_rfl, by kernel_rfl⟩
  | 5, 1, _, _ => fun x y => ⟨by kernel_rfl, by kernel_rfl, by kernel_rfl, by kernel_rfl, by kernel_rfl⟩
  | 5, 2, _, _ => fun x y => ⟨by kernel_rfl, by kernel_rfl, by kernel_rfl, by kernel_rfl, by kernel_rfl⟩
  | 5, 3, _, _ => fun x y => ⟨by kernel_rfl, by kernel_rfl, by kernel_rfl, by kernel_rfl, by kernel_rfl⟩
  | 5, 4, _, _ => fun x y => ⟨by kernel_rfl, by kernel_rfl, by kernel_rfl, by kernel_rfl, by kernel_rfl⟩
  | 6, 0, _, _ => fun x y => ⟨by kernel_rfl, by kernel_rfl, by kernel_rfl, by kernel_rfl, by kernel_rfl⟩
  | 6, 1, _, _ => fun x y => ⟨by kernel_rfl, by kernel_rfl, by kernel_rfl, by kernel_rfl, by kernel_rfl⟩
  | 6, 2, _, _ => fun x y => ⟨by kernel_rfl, by kernel_rfl, by kernel_rfl, by kernel_rfl, by kernel_rfl⟩
  | 6, 3, _, _ => fun x y => ⟨by kernel_rfl, by kernel_rfl, by kernel_rfl, by kernel_rfl, by kernel_rfl⟩
  | 6, 4, _, _ => fun x y => ⟨by kernel_rfl, by kernel_rfl, by kernel_rfl, by kernel_rfl, by kernel_rfl⟩
  | 6, 5, _, _ => fun x y => ⟨by kernel_rfl, by kernel_rfl, by kernel_rfl, by kernel_rfl, by kernel_rfl⟩
  | 7, 0, _, _ => fun x y => ⟨by kernel_rfl, by kernel_rfl, by kernel_rfl, by kernel_rfl, by kernel_rfl⟩
  | 7, 1, _, _ => fun x y => ⟨by kernel_rfl, by kernel_rfl, by kernel_rfl, by kernel_rfl, by kernel_rfl⟩
  | 7, 2, _, _ => fun x y => ⟨by kernel_rfl, by kernel_rfl, by kernel_rfl, by kernel_rfl, by kernel_rfl⟩
  | 7, 3, _, _ => fun x y => ⟨by kernel_rfl, by kernel_rfl, by kernel_rfl, by kernel_rfl, by kernel_rfl⟩
  | 7, 4, _, _ => fun x y => ⟨by kernel_rfl, by kernel_rfl, by kernel_rfl, by kernel_rfl, by kernel_rfl⟩
  | 7, 5, _, _ => fun x y => ⟨by kernel_rfl, by kernel_rfl, by kernel_rfl, by kernel_rfl, by kernel_rfl⟩
  | 7, 6, _, _ => fun x y => ⟨by kernel_rfl, by kernel_rfl, by kernel_rfl, by kernel_rfl, by kernel_rfl⟩
  | n + 8, _, h, _ => absurd h (by omega)
  | 0, j + 0, _, h => absurd h (by omega)
  | 1, j + 1, _, h => absurd h (by omega)
  | 2, j + 2, _, h => absurd h (by omega)
  | 3, j + 3, _, h => absurd h (by omega)
  | 4, j + 4, _, h => absurd h (by omega)
  | 5, j + 5, _, h => absurd h (by omega)
  | 6, j + 6, _, h => absurd h (by omega)
  | 7, j + 7, _, h => absurd h (by omega)
end Go.Proofs.YtcgdimlbbdfdpaaGreatDoor
