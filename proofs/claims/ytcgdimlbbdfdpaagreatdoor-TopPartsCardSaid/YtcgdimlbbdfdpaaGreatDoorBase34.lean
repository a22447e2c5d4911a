/-
  What this statement needs, part 34: the texts of it, one behind the other.
-/
import Derived.Test.YtcgdimlbbdfdpaaGreatDoorBase31
set_option maxRecDepth 100000
set_option linter.all false
namespace Go.Proofs.YtcgdimlbbdfdpaaGreatDoor
open Go Go.RowKit
noncomputable def nodeI (a b : List Int) : List Int := (List.range 32).map fun j => aS (vJ j (((pr cTe 46 [.agg (a.map (CV.int true .u8)), .agg (b.map (CV.int true .u8))] aV).val).getD .nils))
def seg (l : List Int) (i : Nat) : List Int := (List.range 32).map fun j => l.getD (32 * i + j) 0
noncomputable def rootE (l : List Int) : Nat → List Int
  | 1 => seg l 0
  | 2 => nodeI (seg l 0) (seg l 1)
  | 3 => nodeI (nodeI (seg l 0) (seg l 1)) (seg l 2)
  | _ => nodeI (nodeI (seg l 0) (seg l 1)) (nodeI (seg l 2) (seg l 3))
def tpG (m : Nat) : SjT := ⟨[(10, .p 64 0), (12, .s 65 0 m m 32), (13, .s 66 0 m m 1)], [(64, .c (xH ++ [.wr]) 45 false), (65, .c (rep (fun _ => hshL) m) 26 true), (66, .c (List.replicate m .bs) 4 true)], 67⟩
noncomputable def yB (bs : List Bool) (y : Nat → HO) (n : Nat) : HO := match Nat.beq n 66 with
  | true => .cells (bs.map (CV.bool true)) 0 false
  | false => y n
noncomputable def tpR3 (m : Nat) (bs : List Bool) (x : Nat → CV) (y : Nat → HO) : R (Ex × aP) := iJ cTp 149 tlE (y5 (tpG m) x (yB bs y))
def eqR (a b : List Int) : Bool := (List.range 32).foldr (fun j r => (a.getD j 0 == b.getD j 0) && r) true
theorem eqR_self (a : List Int) : eqR a a = true := by
  unfold eqR
  generalize List.range 32 = l
  induction l with
  | nil => rfl
  | cons x l ih =>
    show ((a.getD x 0 == a.getD x 0) && _) = true
    rw [ih, beq_self_eq_true]; rfl
noncomputable def cdB (lv : List Int) : Nat → List Bool → List Bool
  | _, [] => []
  | i, true :: r => (!eqR (seg lv i) (seg lv i)) :: cdB lv (i + 1) r
  | i, false :: r => cdB lv (i + 1) r
noncomputable def cdT (m : Nat) (bs : List Bool) (y : Nat → HO) : List Bool := (!eqR (rootE (lvY (y 65) m) m) (rtY (y 64))) :: cdB (lvY (y 65) m) 0 bs
def dsB : List Bool → List Bool
  | [] => []
  | true :: r => false :: dsB r
  | false :: r => dsB r
def dsT (bs : List Bool) : List Bool := false :: dsB bs
theorem cdB_ok (lv : List Int) : ∀ (i : Nat) (bs : List Bool), cdB lv i bs = dsB bs
  | _, [] => rfl
  | i, true :: r => by
    unfold cdB dsB
    rw [eqR_self, cdB_ok lv (i + 1) r]; rfl
  | i, false :: r => by
    unfold cdB dsB
    exact cdB_ok lv (i + 1) r
noncomputable def tpE3 (m : Nat) (bs : List Bool) (x : Nat → CV) (y : Nat → HO) : Ex × aP := R.lfp (.nrm, dW) (dsT bs) (tpR3 m bs x y)
def wK (m : Nat) (bs : List Bool) : Prop := ∀ (x : Nat → CV) (y : Nat → HO), R.okp (dsT bs) (tpR3 m bs x y) = true ∧ R.cds (dsT bs) (tpR3 m bs x y) = cdT m bs y ∧ (tpE3 m bs x y).1 = .ret ∧ endB .b [.t (way 8)] (tpE3 m bs x y).2 = true ∧ yS (resV [.t (way 8)] (tpE3 m bs x y).2) = true
theorem t3_t : wK 1 [true] := fun x y => ⟨by kernel_rfl, by kernel_rfl, by kernel_rfl, by kernel_rfl, by kernel_rfl⟩
theorem t3_f : wK 1 [false] := fun x y => ⟨by kernel_rfl, by kernel_rfl, by kernel_rfl, by kernel_rfl, by kernel_rfl⟩
theorem t3_tt : wK 2 [true, true] := fun x y => ⟨by kernel_rfl, by kernel_rfl, by kernel_rfl, by kernel_rfl, by kernel_rfl⟩
theorem t3_tf : wK 2 [true, false] := fun x y => ⟨by kernel_rfl, by kernel_rfl, by kernel_rfl, by kernel_rfl, by kernel_rfl⟩
theorem t3_ft : wK 2 [false, true] := fun x y => ⟨by kernel_rfl, by kernel_rfl, by kernel_rfl, by kernel_rfl, by kernel_rfl⟩
theorem t3_ff : wK 2 [false, false] := fun x y => ⟨by kernel_rfl, by kernel_rfl, by kernel_rfl, by kernel_rfl, by kernel_rfl⟩
theorem t3_ttt : wK 3 [true, true, true] := fun x y => ⟨by kernel_rfl, by kernel_rfl, by kernel_rfl, by kernel_rfl, by kernel_rfl⟩
theorem t3_ttf : wK 3 [true, true, false] := fun x y => ⟨by kernel_rfl, by kernel_rfl, by kernel_rfl, by kernel_rfl, by kernel_rfl⟩
theorem t3_tft : wK 3 [true, false, true] := fun x y => ⟨by kernel_rfl, by kernel_rfl, by kernel_rfl, by kernel_rfl, by kernel_rfl⟩
theorem t3_tff : wK 3 [true, false, false] := fun x y => ⟨by kernel_rfl, by kernel_rfl, by kernel_rfl, by kernel_rfl, by kernel_rfl⟩
theorem t3_ftt : wK 3 [false, true, true] := fun x y => ⟨by kernel_rfl, by kernel_rfl, by kernel_rfl, by kernel_rfl, by kernel_rfl⟩
theorem t3_ftf : wK 3 [false, true, false] := fun x y => ⟨by kernel_rfl, by kernel_rfl, by kernel_rfl, by kernel_rfl, by kernel_rfl⟩
theorem t3_fft : wK 3 [false, false, true] := fun x y => ⟨by kernel_rfl, by kernel_rfl, by kernel_rfl, by kernel_rfl, by kernel_rfl⟩
theorem t3_fff : wK 3 [false, false, false] := fun x y => ⟨by kernel_rfl, by kernel_rfl, by kernel_rfl, by kernel_rfl, by kernel_rfl⟩
end Go.Proofs.YtcgdimlbbdfdpaaGreatDoor
