/-
  What the listed package variables give a walk.
-/
import Derived.Test.YtoibhbmcplhiaaaDoorShaBits
import Derived.Test.YtoibhbmcplhiaaaDoorRows
import Derived.ProofKit
import Derived.LaidMore
import Derived.LaidHandle
import Derived.MakeChecks
import Derived.Lib.LaidTab
import Derived.OpenShut
namespace Go.Proofs.YtoibhbmcplhiaaaDoor
open Go Go.ChangeShapes Go.WideShapes Go.RowKit

def shaLaid : List (String × DataW Unit) := [("lightclient/sha.k", Rows.laid_lightclient_sha_k), ("lightclient/sha.initial", Rows.laid_lightclient_sha_initial)]
def zsK : List Int := kL.map fun (x : Nat) => (x : Int)
def zsI : List Int := [1779033703, 3144134277, 1013904242, 2773480762, 1359893119, 2600822924, 528734635, 1541459225]
theorem kb_tab {W : World} {g : Nat} {zs : List Int} {C : Array Value} (hc : ∀ i, i < zs.length → W.cell? ⟨g, i, none⟩ = some (.int .u32 (zs.getD i 0))) (hC : C = (zs.map (Value.int .u32)).toArray) : Kb W g C := by
  intro i v hv
  rw [hC, List.getElem?_toArray, List.getElem?_map] at hv
  obtain ⟨z, hz, rfl⟩ := Option.map_eq_some_iff.1 hv
  have hi := (List.getElem?_eq_some_iff.1 hz).1
  rw [hc i hi]
  simp [List.getD, hz]
theorem laid_two {W : World} (h : laidMetH Tryd.prog shaLaid W) : Kb W 1 (rowK .u32 64 kN) ∧ Kb W 0 #[.int .u32 1779033703, .int .u32 3144134277, .int .u32 1013904242, .int .u32 2773480762, .int .u32 1359893119, .int .u32 2600822924, .int .u32 528734635, .int .u32 1541459225] := by
  rw [MakeChecks.laidMetH_plain _ _ _ (by kernel_rfl)] at h
  obtain ⟨ps, ⟨g0, t0, cs0, f0, p0, q0, hg0, ht0, hv0, hd0, ⟨g1, t1, cs1, f1, p1, q1, hg1, ht1, hv1, hd1, _, _⟩, _⟩, _, _⟩ := h
  have n0 : Tryd.prog.globalNamed "lightclient/sha.k" = some 1 := by kernel_rfl
  have n1 : Tryd.prog.globalNamed "lightclient/sha.initial" = some 0 := by kernel_rfl
  obtain rfl := Option.some.inj (n0.symm.trans hg0)
  obtain rfl := Option.some.inj (n1.symm.trans hg1)
  obtain rfl := Option.some.inj ((show (Tryd.prog.globals[1]?).map (·.type) = some 86 by kernel_rfl).symm.trans ht0)
  obtain rfl := Option.some.inj ((show (Tryd.prog.globals[0]?).map (·.type) = some 76 by kernel_rfl).symm.trans ht1)
  have d0 : (Rows.laid_lightclient_sha_k : DataW Unit) = Lib.tabData .u32 zsK := by kernel_rfl
  have d1 : (Rows.laid_lightclient_sha_initial : DataW Unit) = Lib.tabData .u32 zsI := by kernel_rfl
  rw [d0] at hd0
  rw [d1] at hd1
  have c0 := Lib.cells_of_tab Tryd.underlying86 Tryd.underlying75 (by kernel_rfl) (by kernel_rfl) hd0
  have c1 := Lib.cells_of_tab Tryd.underlying76 Tryd.underlying75 (by kernel_rfl) (by kernel_rfl) hd1
  have i0 : Lib.TabIs Tryd.prog W "lightclient/sha.k" .u32 zsK := by unfold Lib.TabIs; rw [hv0, ← c0]
  have i1 : Lib.TabIs Tryd.prog W "lightclient/sha.initial" .u32 zsI := by unfold Lib.TabIs; rw [hv1, ← c1]
  exact ⟨kb_tab (fun i hi => i0.cell n0 i hi) (by kernel_rfl), kb_tab (fun i hi => i1.cell n1 i hi) (by kernel_rfl)⟩
theorem door_met (os : Os) (args : Array Value) : laidMetH Tryd.prog shaLaid ((World.doorLaid Tryd.prog 400 os).forCall (fun _ _ => 0) ⟨#[], args, []⟩).memory :=
  laidMetH_of_parts3 (fuel := 8) (laidMet_of_run' 8 (by kernel_rfl) (by kernel_rfl)) (by kernel_rfl) (by kernel_rfl)
end Go.Proofs.YtoibhbmcplhiaaaDoor
