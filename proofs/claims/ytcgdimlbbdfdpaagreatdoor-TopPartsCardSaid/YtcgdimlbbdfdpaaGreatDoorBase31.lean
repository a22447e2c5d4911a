/-
  What this statement needs, part 31: the texts of it, one behind the other.
-/
import Derived.Test.YtcgdimlbbdfdpaaGreatDoorBase20
import Derived.Test.YtcgdimlbbdfdpaaGreatDoorBase29
import Derived.Test.YtcgdimlbbdfdpaaGreatDoorBase30
set_option maxRecDepth 100000
set_option linter.all false
namespace Go.Proofs.YtcgdimlbbdfdpaaGreatDoor
open Go Go.RowKit
noncomputable def cTp : bQ := bT (bT (bT cTo 4 awS) 8 fuS) 16 (jpx cTo 16)
theorem cTp_ok : gV Tryz.prog cTp := aG (aG (aG cTo_ok aw_pur) fu_pur) (nM cTo_ok (by kernel_rfl))
noncomputable def tpC : Code := lL Tryz.f3
noncomputable def kNx (n : Nat) (c : Code) : Code := Nat.rec c (fun _ ih => kC ih) n
theorem tpCode : tpC = .seq (kA tpC) (.seq (kA (kNx 1 tpC)) (.seq (kA (kNx 2 tpC)) (.seq (kA (kNx 3 tpC)) (.seq (kA (kNx 4 tpC)) (kNx 5 tpC))))) := by kernel_rfl
def WayR {β : Type} (r : R (Ex × aP)) (ds cs : List Bool) (e : Ex) (ren : aP → List (Nat × Nat)) (T : SjT) (f : aP → β) (v : β) : Prop := R.okp ds r = true ∧ R.cds ds r = cs ∧ (R.lfp (.nrm, dW) ds r).1 = e ∧ iR (ren (R.lfp (.nrm, dW) ds r).2) T (R.lfp (.nrm, dW) ds r).2 = true ∧ f (R.lfp (.nrm, dW) ds r).2 = v
theorem WayR.ok {β : Type} {CT : bQ} {N : Nat} {c : Code} {s : aP} {ds cs : List Bool} {e : Ex} {ren : aP → List (Nat × Nat)} {T : SjT} {f : aP → β} {v : β} (h : WayR (iJ CT N c s) ds cs e ren T f v) (hd : cs = ds) : ∃ s', (iJ CT N c s).val = some (e, s') ∧ iR (ren s') T s' = true ∧ f s' = v := by
  obtain ⟨h1, h2, h3, h4, h5⟩ := h
  exact ⟨_, R.val_pe _ h1 (h2.trans hd) h3, h4, h5⟩
def tpA : List Sj := [.i .u8, .fj .u8, .i .u8, .i .u8]
noncomputable def tpR1 (root : CV) : R (Ex × aP) := iJ cTp 149 (.seq (kA tpC) (.seq (kA (kNx 1 tpC)) (kA (kNx 2 tpC)))) (st0 (dO tpA root 0))
def tpW (n : Nat) : SjT := ⟨[(2, .i .u8), (3, .i .u8), (9, .p 64 0)], [(64, .c (gwK n).li 40 false)], 65⟩
noncomputable def tpN (s : aP) : List (Nat × Nat) := [(64, gx (fU s 9))]
section
variable (root : CV)
noncomputable def tpw0 : CV := match jn (pr cTo 16 [.int true .u8 (aS (aT 0 root))] aV) with
  | some (_, z) => z
  | none => .nils
def tpmn : Int := if 7 < ((gK (aT 1 root) : Nat) : Int) then 7 else ((gK (aT 1 root) : Nat) : Int)
noncomputable def tprt : CV := .agg [tpw0 root, .fy (.j .u8 (bsX (aT 1 root)) (rowI (aT 1 root))) (offX (aT 1 root)) ((tpmn root).toNat) true]
noncomputable def tpv0 : CV := endG cTn 112 gwC gwRS gwF (dO gwA (tprt root) 0) gwG
def tpWz : Int := eX .i64 3 (dP .i64 (qE .u8 (aS (aT 0 root)) 5))
def tpHz : Int := eX .i64 4 (dP .i64 (qE .u8 (aS (aT 0 root)) 3))
def tpMz : Int := dP .i64 (qE .u8 (aS (aT 0 root)) 3)
noncomputable def tpCd (i : Nat) : List Bool := [xsB (gK (aT 1 root)) none (some (tpmn root)) none, qZ (tpWz root) (tpHz root) (tpMz root) && qZ (tpWz root) (tpHz root) (tpMz root), gwCd (tprt root)] ++ (List.range (i + 1)).map (fun (j : Nat) => decide (aS (aT 0 (tpv0 root)) = (j : Int)))
end
def tpD (i : Nat) : List Bool := [true, true, true] ++ (List.replicate i false ++ [true])
theorem tp1W : ∀ (i : Nat), i < 8 → ∀ (root : CV), WayR (tpR1 root) (tpD i) (tpCd root i) .nrm tpN (tpW i) (fun s => (aS (fU s 2), wbB (.agg (dU (fC (tpN s) s 64))) i)) (aS (aT 2 root), wbB (aT 1 (tpv0 root)) i)
  | 0, _, root => ⟨by kernel_rfl, by kernel_rfl, by kernel_rfl, by kernel_rfl, by kernel_rfl⟩
  | 1, _, root => ⟨by kernel_rfl, by kernel_rfl, by kernel_rfl, by kernel_rfl, by kernel_rfl⟩
  | 2, _, root => ⟨by kernel_rfl, by kernel_rfl, by kernel_rfl, by kernel_rfl, by kernel_rfl⟩
  | 3, _, root => ⟨by kernel_rfl, by kernel_rfl, by kernel_rfl, by kernel_rfl, by kernel_rfl⟩
  | 4, _, root => ⟨by kernel_rfl, by kernel_rfl, by kernel_rfl, by kernel_rfl, by kernel_rfl⟩
  | 5, _, root => ⟨by kernel_rfl, by kernel_rfl, by kernel_rfl, by kernel_rfl, by kernel_rfl⟩
  | 6, _, root => ⟨by kernel_rfl, by kernel_rfl, by kernel_rfl, by kernel_rfl, by kernel_rfl⟩
  | 7, _, root => ⟨by kernel_rfl, by kernel_rfl, by kernel_rfl, by kernel_rfl, by kernel_rfl⟩
  | n + 8, h, _ => absurd h (by omega)
theorem tp_cd (root : CV) : gwCd (tprt root) = (qZ (tpWz root) (tpHz root) (tpMz root) && decide ((tpmn root).toNat ≤ 7)) := by kernel_rfl
def cbL : List Sj := [.x (.int false .u32 1), .fz (List.replicate 32 (.x (.int false .u8 0)) ++ [.x (.int false .u32 4294967295), .i .u32, .x .nils]) 0 1, .fz [.i .i64, scrK] 0 1, .x (.int false .u32 0)]
def txsK (s : List Bool) : Sj := .fz (cbL ++ outL s) 0 (s.length + 1)
noncomputable def tlC : Code := kNx 5 tpC
noncomputable def tlL : Code := kA (kNx 3 tlC)
noncomputable def tlB : Code := cIn (cIn (kC tlL))
noncomputable def tlE : Code := kNx 4 tlC
theorem tlCode : tlC = .seq (kA tlC) (.seq (kA (kNx 1 tlC)) (.seq (kA (kNx 2 tlC)) (.seq (.seq (kA tlL) (.block 0 (.loop tlB))) tlE))) := by kernel_rfl
def tp0 : SjT := ⟨[(3, .i .u8), (10, .p 64 0)], [(64, .c blkL 45 false)], 65⟩
def tp1 (s : List Bool) : SjT := ⟨[(3, .i .u8), (10, .p 64 0)], [(64, .c (xH ++ [.un (txsK s)]) 45 false)], 65⟩
def tpL (s : List Bool) (i : Nat) : SjT := ⟨[(10, .p 64 0), (11, scrK), (12, match i with
  | 0 => .x .nils
  | i + 1 => .s 65 0 (i + 1) (i + 1) 32), (13, match i with
  | 0 => .x .nils
  | i + 1 => .s 66 0 (i + 1) (i + 1) 1), (49, txsK s), (50, .x (.int false .i64 (.ofNat (s.length + 1)))), (51, .x (.int false .i64 (.ofNat i)))], (64, .c (xH ++ [.wr]) 45 false) :: (match i with
  | 0 => []
  | i + 1 => [(65, .c (rep (fun _ => hshL) (i + 1)) 26 true), (66, .c (List.replicate (i + 1) .b) 4 true)]), match i with
  | 0 => 65
  | _ => 67⟩
def tpF (m : Nat) : SjT := ⟨[(10, .p 64 0), (12, .s 65 0 m m 32), (13, .s 66 0 m m 1)], [(64, .c (xH ++ [.wr]) 45 false), (65, .c (rep (fun _ => hshL) m) 26 true), (66, .c (List.replicate m .b) 4 true)], 67⟩
def lvY (o : HO) (i : Nat) : List Int := (List.range (32 * i)).map fun j => aS (aT j (.agg (dU o)))
noncomputable def fuN (c : CV) (i : Nat) : List Int := (List.range 32).map fun q => aS (vJ q (resZ (pr cT0 136) [.agg (cut (fzL c) (4 * i) 4)]))
noncomputable def fuNs (c : CV) : Nat → List Int
  | 0 => []
  | i + 1 => fuNs c i ++ fuN c i
noncomputable def tlN (s : aP) : List (Nat × Nat) := [(65, gx (fU s 12)), (66, gx (fU s 13))]
noncomputable def tlP (s : List Bool) (x : Nat → CV) (y : Nat → HO) : R (Ex × aP) := iJ cTp 149 (.seq (kA tlC) (.seq (kA (kNx 1 tlC)) (.seq (kA (kNx 2 tlC)) (kA tlL)))) (y5 (tp1 s) x y)
noncomputable def tlR (s : List Bool) (i : Nat) (x : Nat → CV) (y : Nat → HO) : R (Ex × aP) := iJ cTp 149 tlB (y5 (tpL s i) x y)
noncomputable def nrmF (f : aP → Bool) (a : Ex × aP) : Bool := match a.1 with
  | .nrm => f a.2
  | _ => false
def TlP (s : List Bool) : Prop := ∀ (x : Nat → CV) (y : Nat → HO), allB (nrmF fun s' => iR [] (tpL s 0) s') (tlP s x y) = true ∧ R.mq (fun a => (rX (txsK s) (fU a.2 49), rtY (fC [] a.2 64))) (tlP s x y) = R.mp (fun _ => (rX (txsK s) (unW (aT 68 (.agg (dU (y 64))))), rtY (y 64))) (tlP s x y)
def TlR (s : List Bool) (i : Nat) : Prop := ∀ (x : Nat → CV) (y : Nat → HO), allB (nrmF fun s' => iR (tlN s') (tpL s (i + 1)) s') (tlR s i x y) = true ∧ R.mq (fun a => (rX (txsK s) (fU a.2 49), rtY (fC (tlN a.2) a.2 64), lvY (fC (tlN a.2) a.2 65) (i + 1))) (tlR s i x y) = R.mp (fun _ => (rX (txsK s) (x 49), rtY (y 64), lvY (y 65) i ++ fuN (rX (txsK s) (x 49)) i)) (tlR s i x y)
noncomputable def exF (f : aP → Bool) (a : Ex × aP) : Bool := match a.1 with
  | .exit 0 => f a.2
  | _ => false
def TlE (s : List Bool) : Prop := ∀ (x : Nat → CV) (y : Nat → HO), allB (exF fun s' => iR (tlN s') (tpF (s.length + 1)) s') (tlR s (s.length + 1) x y) = true ∧ R.mq (fun a => (rtY (fC (tlN a.2) a.2 64), lvY (fC (tlN a.2) a.2 65) (s.length + 1))) (tlR s (s.length + 1) x y) = R.mp (fun _ => (rtY (y 64), lvY (y 65) (s.length + 1))) (tlR s (s.length + 1) x y)
end Go.Proofs.YtcgdimlbbdfdpaaGreatDoor
