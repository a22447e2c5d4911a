/-
  The statement DescriptorParses: for every input the law returns true, and each argument reads behind the call as it read before. No condition.
-/
import Derived.Test.YtegagmoldjiaaaaGreatDoorBase6
import Derived.Test.YtegagmoldjiaaaaGreatDoorRows
import Derived.Test.YtegagmoldjiaaaaGreatDoorCards
import Derived.Test.YtegagmoldjiaaaaGreatDoorTie
import Derived.SevenTiedAt
import Derived.LaidMore
import Derived.LaidHandle
import Derived.Stop.Joined
import Derived.WalkKit
import Derived.ProofKit
import Derived.OpenShut
import Derived.SizedLaws
set_option maxRecDepth 100000
set_option linter.all false
namespace Go.Proofs.YtegagmoldjiaaaaGreatDoor
open Go Go.RowKit _root_.Go.Proofs.Tryz
section
namespace descriptorParses
open Go.ChangeShapes Go.WideShapes Go.ChangeAt Go.RowKit
set_option maxRecDepth 100000 in
theorem lifted (os : Os) (started : os.Started) (H : Type) (enc : TypeId × Value → H) :
    ReturnsInHanded {} Tryz.checked os 4 .any (fun w args => (Rows.descriptorParsesSpec.pre enc prog f4 Rows.descriptorParsesRow.domain false w args ∧ laidMetH prog rdLaid w) ∧ sizedMet enc prog f4 (OpenSpec.ofChange Rows.descriptorParsesSpec) false w args) (Rows.descriptorParsesSpec.post enc prog f4 false true false false) := by
  refine returnsInHanded_of_change_and (C := Tryz.checked) (X := fun w _ => laidMetH prog rdLaid w) (fun _ _ _ hh h => h.of_heap hh) own started (by kernel_rfl) func4
    (ChangeSpec.witness_shaped (enc := enc) (C := Tryz.checked) (os := os) (X := fun w _ => laidMetH prog rdLaid w) false (World.doorLaid prog 400 os) #[.slice none 0 0, .string ⟨#[]⟩, .int .i64 0, .int .i64 0, .bool false] 8 rfl (World.shaped_of_RefB (by kernel_rfl) (by kernel_rfl)) (by kernel_rfl) (by kernel_rfl) (by kernel_rfl) (door_rd os _)) ?_
  intro W base args ds gs before hval0 hW hcnd hsz hL _
  have hval : ∀ (j : Nat) t v, f4.params[j]? = some t → args[j]? = some v → Value.okWide prog W .any base t v := hval0
  have hW' := hW
  obtain ⟨p, q, hA0, hV, rfl, hfz, hnd⟩ := hW
  have hA : DataW.TrodAll enc prog W 0 (fun _ => true) true f4.params.toList args.toList ds p := hA0
  rw [Tryz.params4] at hA hval
  obtain ⟨v0, vs0, d0, ds0, p0, q0, hargs, rfl, rfl, h0, r0⟩ := trodAll_cons hA
  obtain ⟨v1, vs1, d1, ds1, p1, q1, rfl, rfl, rfl, h1, r1⟩ := trodAll_cons r0
  obtain ⟨v2, vs2, d2, ds2, p2, q2, rfl, rfl, rfl, h2, r2⟩ := trodAll_cons r1
  obtain ⟨v3, vs3, d3, ds3, p3, q3, rfl, rfl, rfl, h3, r3⟩ := trodAll_cons r2
  obtain ⟨v4, vs4, d4, ds4, p4, q4, rfl, rfl, rfl, h4, r4⟩ := trodAll_cons r3
  obtain ⟨rfl, rfl, rfl⟩ := trodAll_nil r4
  obtain rfl : args = #[v0, v1, v2, v3, v4] := by cases args; simp_all
  obtain ⟨rfl, rfl⟩ := trodVars_none hV
  have k0 := h0
  have lt0 : ∀ x ∈ p0, x.block < W.heap.size := by obtain ⟨m, hm⟩ := k0; exact DataW.trod_lt m _ _ _ hm
  have k1 := h1
  have lt1 : ∀ x ∈ p1, x.block < W.heap.size := by obtain ⟨m, hm⟩ := k1; exact DataW.trod_lt m _ _ _ hm
  have k2 := h2
  have lt2 : ∀ x ∈ p2, x.block < W.heap.size := by obtain ⟨m, hm⟩ := k2; exact DataW.trod_lt m _ _ _ hm
  have k3 := h3
  have lt3 : ∀ x ∈ p3, x.block < W.heap.size := by obtain ⟨m, hm⟩ := k3; exact DataW.trod_lt m _ _ _ hm
  have k4 := h4
  have lt4 : ∀ x ∈ p4, x.block < W.heap.size := by obtain ⟨m, hm⟩ := k4; exact DataW.trod_lt m _ _ _ hm
  have s0 : ∀ elems spare, d0 = .slice elems spare → elems.length + spare.length ≤ 140737488351232 := by
    intro elems spare hd
    have hb : Tryz.checked.prog.bytesOf 3 = 8 := by kernel_rfl
    have := sized_slice hsz (j := 0) (t := 22) (e := 3) (elems := elems) (spare := spare) (by kernel_rfl) (by rw [hd]; rfl) underlying22
    have hr : reachBytes = 140737488351232 := by kernel_rfl
    rw [hb, hr] at this
    omega
  obtain ⟨a0, c0, x0, rfl, w0, y0⟩ := open_ilist underlying22 underlying3 (by kernel_rfl) (hval 0 22 v0 rfl rfl) h0 s0
  have s1 : ∀ l, d1 = .lit (.string l) → l.length ≤ 140737488351232 := by
    intro l hd
    exact sized_string hsz (j := 1) (t := 9) (by kernel_rfl) (by rw [hd]; rfl)
  obtain ⟨x1, rfl, w1⟩ := open_str (hval 1 9 v1 rfl rfl) h1 s1
  obtain ⟨z2, rfl, rfl, rfl, y2⟩ := open_int underlying3 (hval 2 3 v2 rfl rfl) h2
  have w2 := i64_of y2
  obtain ⟨z3, rfl, rfl, rfl, y3⟩ := open_int underlying3 (hval 3 3 v3 rfl rfl) h3
  have w3 := i64_of y3
  obtain ⟨z4, rfl, rfl, rfl⟩ := open_bool underlying4 (hval 4 4 v4 rfl rfl) h4
  obtain ⟨hK, hI, hP, hE⟩ := laid_rd hL
  clear hA0 hval0
  refine (Ej a0 c0 x0 x1 z2 z3 z4 (fun z hz => i64_of (y0 z hz)) w2 w3 W hK hI w0 hP hE).mono fun e W' ⟨he, dM⟩ => ?_
  subst he
  exact ⟨_, rfl, _, _, _, [], _, [], hW', trodAll_mk1 (shut_bool underlying4 _), (trodAll_cons_mk (Below.trod Ig (by kernel_rfl) (of_decide_eq_true (by kernel_rfl)) k0 dM lt0) (trodAll_cons_mk (Below.trod Ig (by kernel_rfl) (of_decide_eq_true (by kernel_rfl)) k1 dM lt1) (trodAll_cons_mk (Below.trod Ig (by kernel_rfl) (of_decide_eq_true (by kernel_rfl)) k2 dM lt2) (trodAll_cons_mk (Below.trod Ig (by kernel_rfl) (of_decide_eq_true (by kernel_rfl)) k3 dM lt3) (trodAll_cons_mk (Below.trod Ig (by kernel_rfl) (of_decide_eq_true (by kernel_rfl)) k4 dM lt4) trodAll_mk0))))), rfl, dM.frame _, fun h => by cases h⟩
theorem over : Rows.descriptorParsesRow.holds Tryz.pinned (OpenSpec.ofChange Rows.descriptorParsesSpec) :=
  OpenClaim.holds_of_wide 4 f4 rfl rfl rfl rfl rfl rfl rfl ⟨rfl, rfl, rfl, rfl, rfl⟩ rfl rfl rfl rfl rfl (by kernel_rfl) func4 (by kernel_rfl)
    (of_decide_eq_true (by kernel_rfl)) (by unfold Func.isWrapper; first | (rw [if_pos (by decide +kernel)]; kernel_rfl) | (rw [if_neg (by decide +kernel)]; exact ⟨rfl, rfl⟩))
    (fun os started H enc _ => lifted os started H enc)
theorem proved : Rows.DescriptorParsesCardSaid :=
  Claim7.holds_tied_plain_at .later [] [.data, .data, .data, .data, .data, .sentinel, .sentinel] true (true, "2704d3a08cb47fb35cce2ebd7ca26905aeca290e87b72d9789d3d7b58df1206f") true
    over (fun _ h => by cases h) (by kernel_rfl) (fun _ h => by cases h) descriptorParses_row_tie rfl ⟨rfl, rfl⟩ (by kernel_rfl) rfl
    (fun f fn hf hfn => by
      obtain rfl : f = 4 := Option.some.inj ((show prog.funcNamed "lightclient/lightclientlaw26.DescriptorParses" = some 4 by kernel_rfl).symm.trans hf) |>.symm
      obtain rfl : fn = f4 := (Option.some.inj (func4.symm.trans hfn)).symm
      exact ⟨by kernel_rfl, fun j t ht => by
        rw [Tryz.params4] at ht
        rcases j with _ | _ | _ | _ | _ | j
        · have ht2 : t = 22 := by simpa using ht.symm
          subst ht2
          exact (show prog.wantsStandIn 22 = false by kernel_rfl)
        · have ht2 : t = 9 := by simpa using ht.symm
          subst ht2
          exact (show prog.wantsStandIn 9 = false by kernel_rfl)
        · have ht2 : t = 3 := by simpa using ht.symm
          subst ht2
          exact (show prog.wantsStandIn 3 = false by kernel_rfl)
        · have ht2 : t = 3 := by simpa using ht.symm
          subst ht2
          exact (show prog.wantsStandIn 3 = false by kernel_rfl)
        · have ht2 : t = 4 := by simpa using ht.symm
          subst ht2
          exact (show prog.wantsStandIn 4 = false by kernel_rfl)
        · simp at ht⟩)
    (by kernel_rfl)
#print axioms proved
end descriptorParses
end
end Go.Proofs.YtegagmoldjiaaaaGreatDoor
