/-
  What this statement needs, part 26: the texts of it, one behind the other.
-/
import Derived.Test.YtcgdimlbbdfdpaaGreatDoorBase22
import Derived.Test.YtcgdimlbbdfdpaaGreatDoorBase23
import Derived.Test.YtcgdimlbbdfdpaaGreatDoorBase24
import Derived.Test.YtcgdimlbbdfdpaaGreatDoorBase25
set_option maxRecDepth 100000
set_option linter.all false
namespace Go.Proofs.YtcgdimlbbdfdpaaGreatDoor
open Go Go.RowKit
theorem bk_all : ∀ (h : Nat), h < 7 → ∀ (root : CV) (i : Nat), i < 15 → Bk h i root
  | 0, _, root, i, hi => bk_0 root i hi
  | 1, _, root, i, hi => bk_1 root i hi
  | 2, _, root, i, hi => bk_2 root i hi
  | 3, _, root, i, hi => bk_3 root i hi
  | 4, _, root, i, hi => bk_4 root i hi
  | 5, _, root, i, hi => bk_5 root i hi
  | 6, _, root, i, hi => bk_6 root i hi
  | n + 7, h, _, _, _ => absurd h (by omega)
def bkB (root : CV) : Bool := x9 root && (decide (gK (aT 33 (aT 1 root)) ≤ 100000) && pG (aS (aT 78 (aT 0 root))) (eX .i64 (aS (aT 0 (aT 1 root))) 1))
def bkCnd (l : List CV) : Cn := some (bkB (.agg l))
theorem bkCd_ok {i : Nat} {root : CV} (h1 : gK (aT 33 (aT 1 root)) ≤ 100000) (hz : bkZ root = (i : Int)) (h2 : pG (aS (aT 78 (aT 0 root))) (eX .i64 (aS (aT 0 (aT 1 root))) 1) = true) (h3 : x9 root = true) : bkCd i root = bkD i := by
  have e : (List.range (i + 1)).map (fun (j : Nat) => decide (bkZ root = (j : Int))) = List.replicate i false ++ [true] := by
    rw [List.range_succ, List.map_append, hz]
    congr 1
    · rw [List.eq_replicate_iff]
      refine ⟨by simp, fun b hb => ?_⟩
      obtain ⟨j, hj, rfl⟩ := List.mem_map.1 hb
      have := List.mem_range.1 hj
      exact decide_eq_false (by omega)
    · simp
  unfold bkCd bkD
  rw [e, h2, h3, decide_eq_true h1]
  simp
def bkG (v : CV) : Prop := rtC v = rtW (unW (aT 68 v)) ∧ ∃ t ts, lF t ts = true ∧ unW (aT 68 v) = nJ (t :: ts)
noncomputable def bkM (v : CV) : CV := .agg (hdM (rtW (unW (aT 68 v))) v ++ [.wr (unW (aT 68 v))])
theorem bkM_eq (v : CV) : .agg (hdM (rtC v) v ++ [.wr (unW (aT 68 v))]) = rX blkK v := by kernel_rfl
theorem bk_ends {h : Nat} (hh : h < 7) {root : CV} (hc : bkB root = true) : ∃ v0, bkG v0 ∧ Ends cTl 47 bkC (st0 (dO (bkA h) root 0)) bkRS (rX blkK v0) := by
  unfold bkB at hc
  simp only [Bool.and_eq_true, decide_eq_true_eq] at hc
  obtain ⟨i, hi, hz⟩ := tr_z (root := .agg [aT 0 root, aT 1 root, aT 3 root]) hc.2.1
  obtain ⟨h1, h2, h3, h4, h5, h6⟩ := bk_all h hh root i hi
  have hv : (bkR h root).val = some (.ret, (bkE h i root).2) := R.val_pe (e := Ex.ret) (Ex.nrm, dW) h1 (by rw [h2]; exact bkCd_ok hc.2.1 hz hc.2.2 hc.1) h3
  obtain ⟨q1, q2⟩ := sU h4
  obtain ⟨t, ts, w1, w2⟩ := ckTs_ok h5
  simp only [List.cons.injEq, and_true] at w2
  have w3 : unW (aT 68 (resV bkRS (bkE h i root).2)) = aT 68 (resV bkRS (bkE h i root).2) := by rw [w2]; rfl
  refine ⟨resV bkRS (bkE h i root).2, ⟨by rw [w3]; exact h6, t, ts, w1, by rw [w3]; exact w2⟩, .ret, _, .run (by kernel_rfl) hv, Or.inr rfl, q1, q2⟩
noncomputable def bkS : List CV → Acc → R CV := tgS cTl 47 bkC bkRS ((List.range 7).map fun h => (bkA h, blkK)) bkCnd (rX blkK) (fun _ v => bkG v) (fun _ v => .ok (bkM v))
theorem bk_pur : bM Tryz.prog 37 bkS := tg_pur cTl_ok Tryz.func37 (by kernel_rfl) (by kernel_rfl) (by kernel_rfl) (fun k hk root => by
  obtain ⟨h, hh, rfl⟩ := List.mem_map.1 hk
  have hh := List.mem_range.1 hh
  refine ⟨by rcases h with _ | _ | _ | _ | _ | _ | _ | h <;> first | omega | kernel_rfl, by show 4 ≤ 47; omega, fun hc => ?_⟩
  exact bk_ends hh (show bkB root = true from hc)) (fun k hk l v0 v hg hv => by
  obtain rfl := Option.some.inj hv
  unfold bkM
  rw [← hg.1, bkM_eq]
  exact l7.rfl_ _)
noncomputable def cTm : bQ := bT cTl 37 bkS
theorem cTm_ok : gV Tryz.prog cTm := aG cTl_ok bk_pur
noncomputable def bkV (h : Nat) (root : CV) : CV := endG cTl 47 bkC bkRS (rX blkK) (dO (bkA h) root 0) bkG
theorem bkV_ok {h : Nat} (hh : h < 7) {root : CV} (hc : bkB root = true) : bkG (bkV h root) := (Classical.epsilon_spec (bk_ends hh hc)).1
noncomputable def cTn : bQ := bT cTm 38 conW
theorem cTn_ok : gV Tryz.prog cTn := aG cTm_ok conW_pur
noncomputable def gwC : Code := lL Tryz.f15
def parL : List Sj := yQ.li
def rep {α : Type} (l : Nat → List α) : Nat → List α
  | 0 => []
  | n + 1 => rep l n ++ l n
def blkL : List Sj := xH ++ [.wr]
def wL (n : Nat) : List Sj := parL ++ [(match n with
  | 0 => .x .nils
  | n + 1 => .s 66 0 (n + 1) (n + 1) 69), .s 67 0 (n + 1) (n + 1) 34, .s 68 0 (n + 1) (n + 1) 36, (match n with
  | 0 => .x .nils
  | n + 1 => .s 69 0 (n + 1) (n + 1) 1)]
def zL : List Sj := [.i .u32] ++ List.replicate 64 (.i .u8) ++ [.i .u32, .i .u32, .i .u32, .i .u64, .i .u64, .i .u64, .i .u64, .i .i64, .i .u32, .i .u32, .i .u32, .x .nils, .i .i64, .i .i64, .i .i64, .x .nils, .x .nils, .x .nils, .x .nils]
def gwT (n : Nat) : SjT := ⟨[(2, .p 64 0), (4, .p 65 0), (29, .fj .u8), (30, .i .i64), (31, .i .i64)], [(64, .c (wL n) 40 false), (65, .c zL 40 false), (67, .c (rep (fun _ => ledL) (n + 1)) 76 true), (68, .c (rep (fun i => (ctxK i).li) (n + 1)) 107 true)] ++ (match n with
  | 0 => []
  | n + 1 => [(66, .c (rep (fun _ => blkL) (n + 1)) 45 true), (69, .c (rep (fun _ => [.fy]) (n + 1)) 114 true)]), 70⟩
noncomputable def gwL : Code := kA (kC (kC (kC gwC)))
noncomputable def gwB : Code := cIn (cIn (kC gwL))
theorem gwCode : gwC = .seq (kA gwC) (.seq (kA (kC gwC)) (.seq (kA (kC (kC gwC))) (.seq (.seq (kA gwL) (.block 0 (.loop gwB))) (kC (kC (kC (kC gwC))))))) := by kernel_rfl
noncomputable def gwR (n : Nat) (x : Nat → CV) (y : Nat → HO) : R (Ex × aP) := iJ cTn 112 gwB (y5 (gwT n) x y)
section
variable (n : Nat) (x : Nat → CV) (y : Nat → HO)
def wgP : CV := .agg (dU (y 64))
def wgL : CV := .agg (dU (y 67))
def wgI : Int := aS (x 31)
def wgW : Int := aS (aT 72 (wgP y))
def wgH : Int := aS (aT 78 (wgP y))
def wgM : Int := aS (aT 79 (wgP y))
def wgh : Int := aS (aT (34 * n) (wgL y))
def wgn : Nat := gK (aT (34 * n + 33) (wgL y))
def wgRoot : CV := .agg [.agg (dO parL (wgP y) 0), .agg (cut (dO (rep (fun _ => ledL) (n + 1)) (wgL y) 0) (34 * n) 34), .agg (cut (dO (rep (fun i => (ctxK i).li) (n + 1)) (.agg (dU (y 68))) 0) (36 * n) 36), .int true .u8 ((rowI (x 29)).getD (offX (x 29) + (wgI x).toNat) 0)]
noncomputable def wgBv : CV := bkV n (wgRoot n x y)
noncomputable def wgC : CV := unW (aT 68 (wgBv n x y))
noncomputable def wgHd : List Int := aS (aT 0 (wgBv n x y)) :: (((List.range 32).map (fun j => aS (aT (1 + j) (wgBv n x y))) ++ rtW (wgC n x y)) ++ [aS (aT 65 (wgBv n x y)), aS (aT 66 (wgBv n x y)), aS (aT 67 (wgBv n x y))])
noncomputable def wgV : CV := cwV (aS (aT 65 (wgP y))) (wgW y) (wgH y) (wgM y) (wgh n y) ((List.range 32).map fun j => aS (aT (34 * n + 1 + j) (wgL y))) (rowX (aT (34 * n + 33) (wgL y))) (offX (aT (34 * n + 33) (wgL y))) (wgn n y) (wgHd n x y) (wgC n x y)
noncomputable def wgD : List Bool := [decide (wgI x < aS (x 30)), decide (0 ≤ wgI x) && decide (wgI x < (gK (x 29) : Int)), bkB (wgRoot n x y), madeB (wgC n x y) && (pG (wgH y) (eX .i64 (wgh n y) 1) && decide (wgn n y ≤ 100000)), cwB (eX .i64 (wgh n y) 1) (wgV n x y)]
def wgB (o : HO) : Nat → List (List Int × CV)
  | 0 => []
  | k + 1 => wgB o k ++ [((List.range 32).map (fun j => aS (aT (69 * k + 33 + j) (.agg (dU o)))), unW (aT (69 * k + 68) (.agg (dU o))))]
noncomputable def wgE (ds : List Bool) : Ex × aP := R.lfp (.nrm, dW) ds (gwR n x y)
noncomputable def wgC6 : Bool := (R.cds [true, true, true, true, true, true, true] (gwR n x y)).getD 6 false
end
noncomputable def wgN (s : aP) : List (Nat × Nat) := [(66, gx ((dU (fC [] s 64)).getD 80 .nils)), (67, gx ((dU (fC [] s 64)).getD 81 .nils)), (68, gx ((dU (fC [] s 64)).getD 82 .nils)), (69, gx ((dU (fC [] s 64)).getD 83 .nils))]
noncomputable def wgKs (n : Nat) (x : Nat → CV) (y : Nat → HO) : (Int × Int × Nat) × (Int × Int × Int) × (Int × Nat) × List (List Int × CV) := ((wgI x, aS (x 30), gK (x 29)), (wgW y, wgH y, wgM y), (wgh n y, wgn n y), wgB (y 66) n)
noncomputable def wgK (ren : List (Nat × Nat)) (n : Nat) (s : aP) := wgKs n (fU s) (fC ren s)
def wgd1 : List Bool := [true, true, true, true, false, true]
def wgd2 : List Bool := [true, true, true, true, true, true, true]
def wgd3 : List Bool := [true, true, true, true, true, true, false, true]
def GwW {β : Type} (n m : Nat) (x : Nat → CV) (y : Nat → HO) (ds cs : List Bool) (e : Ex) (ren : aP → List (Nat × Nat)) (f : aP → β) (v : β) : Prop := R.okp ds (gwR n x y) = true ∧ R.cds ds (gwR n x y) = cs ∧ (wgE n x y ds).1 = e ∧ iR (ren (wgE n x y ds).2) (gwT m) (wgE n x y ds).2 = true ∧ f (wgE n x y ds).2 = v
noncomputable def wgNx (n : Nat) (x : Nat → CV) (y : Nat → HO) : (Int × Int × Nat) × (Int × Int × Int) × (Int × Nat) × List (List Int × CV) := ((eX .i64 (wgI x) 1, aS (x 30), gK (x 29)), (wgW y, wgH y, wgM y), (wgh n y, wgn n y), wgB (y 66) n)
noncomputable def wgNy (n : Nat) (x : Nat → CV) (y : Nat → HO) : (Int × Int × Nat) × (Int × Int × Int) × (Int × Nat) × List (List Int × CV) := ((eX .i64 (wgI x) 1, aS (x 30), gK (x 29)), (wgW y, wgH y, wgM y), (eX .i64 (wgh n y) 1, min (numN (wgV n x y)) 100000), wgB (y 66) n ++ [(rtW (wgC n x y), wgC n x y)])
def Gw (n : Nat) (x : Nat → CV) (y : Nat → HO) : Prop :=
  GwW n n x y [false] [decide (wgI x < aS (x 30))] (.exit 0) (fun _ => []) (wgK [] n) (wgKs n x y) ∧
  GwW n n x y wgd1 (wgD n x y ++ [!((sN zsV (wgV n x y)).getD 1 == 0)]) .nrm (fun _ => []) (wgK [] n) (wgNx n x y) ∧
  GwW n n x y wgd2 (wgD n x y ++ [qZ (wgW y) (wgH y) (wgM y), wgC6 n x y]) .nrm (fun _ => []) (wgK [] n) (wgNx n x y) ∧
  GwW n (n + 1) x y wgd3 (wgD n x y ++ [qZ (wgW y) (wgH y) (wgM y), wgC6 n x y, qZ (wgW y) (wgH y) (wgM y)]) .nrm wgN (fun s => wgK (wgN s) (n + 1) s) (wgNy n x y)
end Go.Proofs.YtcgdimlbbdfdpaaGreatDoor
