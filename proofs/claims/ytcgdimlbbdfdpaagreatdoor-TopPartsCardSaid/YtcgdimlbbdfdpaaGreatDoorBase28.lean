/-
  What this statement needs, part 28: the texts of it, one behind the other.
-/
import Derived.Test.YtcgdimlbbdfdpaaGreatDoorBase26
set_option maxRecDepth 100000
set_option linter.all false
namespace Go.Proofs.YtcgdimlbbdfdpaaGreatDoor
open Go Go.RowKit
theorem wg_root : ∀ (n : Nat), n < 7 → ∀ (x : Nat → CV) (y : Nat → HO), bkB (wgRoot n x y) = (qZ (wgW y) (wgH y) (wgM y) && (decide (wgn n y ≤ 100000) && pG (wgH y) (eX .i64 (wgh n y) 1)))
  | 0, _, x, y => by kernel_rfl
  | 1, _, x, y => by kernel_rfl
  | 2, _, x, y => by kernel_rfl
  | 3, _, x, y => by kernel_rfl
  | 4, _, x, y => by kernel_rfl
  | 5, _, x, y => by kernel_rfl
  | 6, _, x, y => by kernel_rfl
  | n + 7, h, _, _ => absurd h (by omega)
def gdB (l : List (List Int × CV)) : Prop := ∀ p ∈ l, p.1 = rtW p.2 ∧ yO p.2
noncomputable def gwP : Code := kC (kC (kC (kC gwC)))
def fzL : CV → List CV
  | .fz l _ _ => l
  | _ => []
def gwK (n : Nat) : Sj := .agg (parL ++ [(match n with
  | 0 => .x .nils
  | n + 1 => .fz (rep (fun _ => blkL) (n + 1)) 0 (n + 1)), .wr, .wr, .wr])
noncomputable def gwRS : List RS := [.c (way 4) true 84]
def wbB (v : CV) : Nat → List (List Int × CV)
  | 0 => []
  | k + 1 => wbB v k ++ [((List.range 32).map (fun j => aS (aT (69 * k + 33 + j) (aT 80 v))), unW (aT (69 * k + 68) (aT 80 v)))]
noncomputable def gwE (n : Nat) (x : Nat → CV) (y : Nat → HO) : R (Ex × aP) := iJ cTn 112 gwP (y5 (gwT n) x y)
theorem gw_end : ∀ (n : Nat), n < 8 → ∀ (x : Nat → CV) (y : Nat → HO), allB (qJ (gwK n) gwRS) (gwE n x y) = true ∧ R.mq (fun a => wbB (resV gwRS a.2) n) (gwE n x y) = R.mp (fun _ => wgB (y 66) n) (gwE n x y)
  | 0, _, x, y => ⟨by kernel_rfl, by kernel_rfl⟩
  | 1, _, x, y => ⟨by kernel_rfl, by kernel_rfl⟩
  | 2, _, x, y => ⟨by kernel_rfl, by kernel_rfl⟩
  | 3, _, x, y => ⟨by kernel_rfl, by kernel_rfl⟩
  | 4, _, x, y => ⟨by kernel_rfl, by kernel_rfl⟩
  | 5, _, x, y => ⟨by kernel_rfl, by kernel_rfl⟩
  | 6, _, x, y => ⟨by kernel_rfl, by kernel_rfl⟩
  | 7, _, x, y => ⟨by kernel_rfl, by kernel_rfl⟩
  | n + 8, h, _, _ => absurd h (by omega)
end Go.Proofs.YtcgdimlbbdfdpaaGreatDoor
