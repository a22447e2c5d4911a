/-
  The statement DescriptorBack: for every input the law returns true, and each argument reads behind the call as it read before. No condition.
-/
import Derived.Test.YtegagmoldjiaaaaGreatDoorBase6
import Derived.Test.YtegagmoldjiaaaaGreatDoorRows
import Derived.Test.YtegagmoldjiaaaaGreatDoorCards
import Derived.Test.YtegagmoldjiaaaaGreatDoorTie
import Derived.SevenTiedAt
import Derived.LaidMore
import Derived.LaidHandle
import Derived.Stop.Joined
import Derived.WalkKit
import Derived.ProofKit
import Derived.OpenShut
import Derived.SizedLaws
set_option maxRecDepth 100000
namespace Go.Proofs.YtegagmoldjiaaaaGreatDoor
open Go Go.RowKit
theorem descriptorBack_any (a : Option Addr) (c : Nat) (zs : List Int) (hz : Z64 zs) (w0 : World) (hf0 : kJ w0) (hf1 : fU w0) (hf2 : Is w0 .i64 a c zs) (hf3 : xB w0) (hf4 : qI w0) : Calls Tryz.prog 5 #[(.slice a (zs).length c)] w0 (fun ε w' => ε = .returned (.bool true) ∧ Below w0.heap.size w0 w') := by
 refine Calls.of_ok (n := 55) (F := (fun w => kJ w ∧ fU w ∧ Is w .i64 a c zs ∧ xB w ∧ qI w ∧ True)) Tryz.func5 rfl rfl rfl (by simp) (hf0.pers0.and (hf1.pers0.and (hf2.pers0.and (hf3.pers0.and (hf4.pers0.and cO))))) ?_
 refine sS Tryz.f5 1 [0, 2] [] (fun _ => [(.bool false)]) (fun _ => []) (cR [[]] <| cN) (fun _ => ?_)
 refine aB ?_
 refine sS Tryz.f5 2 [0, 2, 11] [] (fun _ => [(.bool true), (.bool false)]) (fun _ => []) (cX (qC (fun _ _ w hG => dsane_any w hG.facts0.now.1 hG.facts0.now.2.1)) <| cR [[]] <| cN) (fun _ => ?_)
 refine oN ?_
 refine aG ?_
 refine aA ?_
 refine iZ Tryz.f5 4 [2, 3] [0] (fun ρ => [(.slice a (zs).length c), (pt (nb ρ 1)), (.slice (oa ρ 2) (ot ρ 2).length (nb ρ 2)), (.slice (oa ρ 2) (ot ρ 2).length (nb ρ 2))]) (fun ρ => [(1, (nw ρ 1 (cL #[(.slice a (zs).length c), (vn (pN zs 0))] 62))), (2, (bD 8 (nb ρ 1) (cL #[(.slice a (zs).length c), (vn (pN zs (aZ ρ 2)))] 62)))]) (fun ρ => [(2, fun w => TmN w (oa ρ 2) (nb ρ 2) (ot ρ 2))]) (fun ρ => (fun w => kJ w ∧ fU w ∧ Is w .i64 a c zs ∧ xB w ∧ qI w ∧ TmN w (oa ρ 2) (nb ρ 2) (ot ρ 2) ∧ True)) (fun _ => True) (fun _ _ hF hf => ⟨⟨hF.1, hF.2.1, hF.2.2.1, hF.2.2.2.1, hF.2.2.2.2.1, hf 2, trivial⟩, trivial⟩) (cR [[]] <| cX (o_callN _ 8 (fun _ => #[(.slice a (zs).length c)]) (fun _ ζ => (pt ζ)) (fun _ => (cL #[(.slice a (zs).length c), (vn (pN zs 0))] 62)) (fun _ _ => (by kernel_rfl)) (fun _ _ => (by kernel_rfl)) (fun _ _ => (by kernel_rfl)) (fun _ _ => trivial) (fun _ _ w hG => mnew_any a c zs w hG.facts0.now.2.2.1)) <| cX (o_callWT _ [8] 7 (fun ρ => #[(pt (nb ρ 1))]) (fun _ α κ τs => (.slice α (τs).length κ)) (fun ρ => [(nb ρ 1, (cL #[(.slice a (zs).length c), (vn (pN zs 0))] 62))]) (fun ρ j => [(nb ρ 1, (cL #[(.slice a (zs).length c), (vn (pN zs j))] 62))]) (fun ρ _ w hG hK => mterms_any (nb ρ 1) a c zs 0 hz w hK (hG.pK [8] (fun _ hF => ⟨hF.2.2.1, trivial⟩)) )) <| cR [[]] <| cN) (fun ρ3 _ => ?_)
 refine sS Tryz.f5 7 [2, 3, 4, 5] [] (fun _ => [(.slice (oa ρ3 2) (ot ρ3 2).length (nb ρ3 2)), (.tuple #[(.string (gY (wU (ot ρ3 2)))), (vi (xN (ot ρ3 2)))]), (.tuple #[(.string (gY (wU (ot ρ3 2)))), (vi (xN (ot ρ3 2)))]), (.string (gY (wU (ot ρ3 2)))), (vi (xN (ot ρ3 2))), (.string (gY (wU (ot ρ3 2)))), (vi (xN (ot ρ3 2)))]) (fun _ => []) (cR [[]] <| cX (qC (fun _ _ w hG => dtext_any (oa ρ3 2) (nb ρ3 2) (ot ρ3 2) w hG.facts0.now.2.2.2.2.2.1.1 hG.facts0.now.2.2.2.1 hG.facts0.now.1 hG.facts0.now.2.1)) <| cR [[], [], [], [], []] <| cN) (fun _ => ?_)
 refine aB ?_
 refine xAN (p := mP (ot ρ3 2) ∧ Soft (ot ρ3 2)) (fun w hF => ⟨hF.2.2.2.2.2.1.1.oks, hF.2.2.2.2.2.1.2.2.2⟩) (fun hso => ?_)
 refine sS Tryz.f5 2 [2, 3, 4, 5, 21] [] (fun _ => [(vi (xN (ot ρ3 2))), (.bool ((xN (ot ρ3 2)) != 0))]) (fun _ => []) (cR [[], []] <| cN) (fun _ => ?_)
 refine oC ((xN (ot ρ3 2)) != 0) (fun hb1 => ?_) (fun hb1 => ?_)
 ·
  rw [hb1]
  refine sS Tryz.f5 8 [2, 3, 4] [] (fun _ => [(vi (xN (ot ρ3 2))), (.bool true), (.bool true), (.slice (oa ρ3 2) (ot ρ3 2).length (nb ρ3 2)), (.bool false), (.bool true), (.bool true), (.bool true)]) (fun _ => []) (cR [[]] <| cA (fun _ => (.bool true)) (fun _ => congrArg Value.bool (beq_iff_eq.2 (bk_bad (iK hb1) hso.1 hso.2).1)) <| cR [[], []] <| cX (lN _ 18 (fun _ => #[(.slice (oa ρ3 2) (ot ρ3 2).length (nb ρ3 2))]) (fun _ => (.bool false)) (fun _ _ => (by kernel_rfl)) (fun _ => (by kernel_rfl)) (fun _ _ => (by kernel_rfl)) (fun _ _ => trivial) (fun _ _ w hG => (by as_aux_lemma => (have hcall := xCB (oa ρ3 2) (nb ρ3 2) (ot ρ3 2) w hG.facts0.now.2.2.2.2.2.1.1; rw [(bk_bad (iK hb1) hso.1 hso.2).2] at hcall; exact hcall)))) <| cR [[], [], []] <| cN) (fun _ => ?_)
  refine aF ?_
  refine aC ?_
  exact mR (v := (.bool true)) (fun _ hS => ⟨rfl, hS.bel⟩)
 ·
  rw [hb1]
  refine aG ?_
  refine aA ?_
  refine iZ Tryz.f5 7 [2, 3, 4, 6, 7] [] (fun ρ => [(.string (gY (wU (ot ρ3 2)))), (.tuple #[(.slice (oa ρ 1) (ot ρ 1).length (nb ρ 1)), (vi (prE (wU (ot ρ3 2))))]), (.tuple #[(.slice (oa ρ 1) (ot ρ 1).length (nb ρ 1)), (vi (prE (wU (ot ρ3 2))))]), (.slice (oa ρ 1) (ot ρ 1).length (nb ρ 1)), (vi (prE (wU (ot ρ3 2)))), (.slice (oa ρ 1) (ot ρ 1).length (nb ρ 1)), (vi (prE (wU (ot ρ3 2))))]) (fun _ => []) (fun ρ => [(1, fun w => (bM w (oa ρ 1) (nb ρ 1) (ot ρ 1) ∧ (ot ρ 1).map bW.er = prT (wU (ot ρ3 2))))]) (fun ρ => (fun w => kJ w ∧ fU w ∧ Is w .i64 a c zs ∧ xB w ∧ qI w ∧ TmN w (oa ρ3 2) (nb ρ3 2) (ot ρ3 2) ∧ bM w (oa ρ 1) (nb ρ 1) (ot ρ 1) ∧ True)) (fun ρ => (ot ρ 1).map bW.er = prT (wU (ot ρ3 2))) (fun _ _ hF hf => ⟨⟨hF.1, hF.2.1, hF.2.2.1, hF.2.2.2.1, hF.2.2.2.2.1, hF.2.2.2.2.2.1, (hf 1).1, trivial⟩, (hf 1).2⟩) (cR [[]] <| cX (qOr (fun _ τ w hG => dparse_any (wU (ot ρ3 2)) w hG.facts0.now.2.2.2.2.1 hG.facts0.now.2.2.2.1 hG.facts0.now.1 hG.facts0.now.2.1 τ hG.lt)) <| cR [[], [], [], [], []] <| cN) (fun ρ7 ap7_1 => ?_)
  refine sS Tryz.f5 7 [2, 3, 4, 6, 7, 8, 9] [] (fun _ => [(.slice (oa ρ7 1) (ot ρ7 1).length (nb ρ7 1)), (.tuple #[(.string (gY (wU (ot ρ7 1)))), (vi (xN (ot ρ7 1)))]), (.tuple #[(.string (gY (wU (ot ρ7 1)))), (vi (xN (ot ρ7 1)))]), (.string (gY (wU (ot ρ7 1)))), (vi (xN (ot ρ7 1))), (.string (gY (wU (ot ρ7 1)))), (vi (xN (ot ρ7 1)))]) (fun _ => []) (cR [[]] <| cX (qC (fun _ _ w hG => dtext_any (oa ρ7 1) (nb ρ7 1) (ot ρ7 1) w hG.facts0.now.2.2.2.2.2.2.1 hG.facts0.now.2.2.2.1 hG.facts0.now.1 hG.facts0.now.2.1)) <| cR [[], [], [], [], []] <| cN) (fun _ => ?_)
  refine lK [(2, (.bool false)), (3, (.slice (oa ρ3 2) (ot ρ3 2).length (nb ρ3 2))), (4, (.string (gY (wU (ot ρ3 2))))), (6, (.slice (oa ρ7 1) (ot ρ7 1).length (nb ρ7 1))), (7, (vi (prE (wU (ot ρ3 2))))), (8, (.string (gY (wU (ot ρ7 1))))), (9, (vi (xN (ot ρ7 1))))] [] ?_
  refine sS Tryz.f5 17 [2] [] (fun _ => [(vi (prE (wU (ot ρ3 2)))), (.bool true), (.bool true), (.slice (oa ρ3 2) (ot ρ3 2).length (nb ρ3 2)), (.slice (oa ρ7 1) (ot ρ7 1).length (nb ρ7 1)), (.bool true), (.bool true), (.bool true), (vi (xN (ot ρ7 1))), (.bool true), (.bool true), (.bool true), (.string (gY (wU (ot ρ7 1)))), (.string (gY (wU (ot ρ3 2)))), (.bool true), (.bool true), (.bool true)]) (fun _ => []) (cR [[]] <| cA (fun _ => (.bool true)) (fun _ => congrArg Value.bool (beq_iff_eq.2 (bk_go (dD hb1) hso.1).1)) <| cR [[], [], []] <| cX (qC (fun _ _ w hG => rsameG_any (oa ρ3 2) (nb ρ3 2) (ot ρ3 2) (oa ρ7 1) (nb ρ7 1) (ot ρ7 1) (bk_rd (dD hb1) hso.1 ap7_1) w hG.facts0.now.2.2.2.2.2.1.1 hG.facts0.now.2.2.2.2.2.2.1)) <| cR [[], [], []] <| cA (v := fun ρ => (.bool ((xN (ot ρ7 1)) == 0))) (fun _ => (.bool true)) (fun _ => congrArg Value.bool (beq_iff_eq.2 ((bk_tx (bk_rd (dD hb1) hso.1 ap7_1).symm).1.trans (dD hb1)))) <| cR [[], [], [], []] <| cB (a := fun ρ => (.string (gY (wU (ot ρ7 1))))) (b := fun ρ => (.string (gY (wU (ot ρ3 2))))) (v := fun ρ => (.bool true)) .eql 9 (fun _ w => (eql_str (wU (ot ρ7 1)) (wU (ot ρ3 2)) w).trans (by rw [show (decide (wU (ot ρ7 1) = wU (ot ρ3 2))) = true from (decide_eq_true (bk_tx (bk_rd (dD hb1) hso.1 ap7_1).symm).2)])) <| cR [[], []] <| cN) (fun _ => ?_)
  refine aF ?_
  exact mR (v := (.bool true)) (fun _ hS => ⟨rfl, hS.bel⟩)
namespace descriptorBack
open Go.ChangeShapes Go.WideShapes Go.ChangeAt Go.RowKit
set_option maxRecDepth 100000 in
theorem lifted (os : Os) (started : os.Started) (H : Type) (enc : TypeId × Value → H) :
    ReturnsInHanded {} Tryz.checked os 5 .any (fun w args => (Rows.descriptorBackSpec.pre enc Tryz.prog Tryz.f5 Rows.descriptorBackRow.domain false w args ∧ laidMetH Tryz.prog rdLaid w) ∧ sizedMet enc Tryz.prog Tryz.f5 (OpenSpec.ofChange Rows.descriptorBackSpec) false w args) (Rows.descriptorBackSpec.post enc Tryz.prog Tryz.f5 false true false false) := by
  refine returnsInHanded_of_change_and (C := Tryz.checked) (X := fun w _ => laidMetH Tryz.prog rdLaid w) (fun _ _ _ hh h => h.of_heap hh) own started (by kernel_rfl) Tryz.func5
    (ChangeSpec.witness_shaped (enc := enc) (C := Tryz.checked) (os := os) (X := fun w _ => laidMetH Tryz.prog rdLaid w) false (World.doorLaid Tryz.prog 400 os) #[.slice none 0 0] 8 rfl (World.shaped_of_RefB (by kernel_rfl) (by kernel_rfl)) (by kernel_rfl) (by kernel_rfl) (by kernel_rfl) (door_rd os _)) ?_
  intro W base args ds gs before hval0 hW hcnd hsz hL _
  have hval : ∀ (j : Nat) t v, Tryz.f5.params[j]? = some t → args[j]? = some v → Value.okWide Tryz.prog W .any base t v := hval0
  have hW' := hW
  obtain ⟨p, q, hA0, hV, rfl, hfz, hnd⟩ := hW
  have hA : DataW.TrodAll enc Tryz.prog W 0 (fun _ => true) true Tryz.f5.params.toList args.toList ds p := hA0
  rw [Tryz.params5] at hA hval
  obtain ⟨v0, vs0, d0, ds0, p0, q0, hargs, rfl, rfl, h0, r0⟩ := trodAll_cons hA
  obtain ⟨rfl, rfl, rfl⟩ := trodAll_nil r0
  obtain rfl : args = #[v0] := by cases args; simp_all
  obtain ⟨rfl, rfl⟩ := trodVars_none hV
  have k0 := h0
  have lt0 : ∀ x ∈ p0, x.block < W.heap.size := by obtain ⟨m, hm⟩ := k0; exact DataW.trod_lt m _ _ _ hm
  have s0 : ∀ elems spare, d0 = .slice elems spare → elems.length + spare.length ≤ 140737488351232 := by
    intro elems spare hd
    have hb : Tryz.checked.prog.bytesOf 3 = 8 := by kernel_rfl
    have := sized_slice hsz (j := 0) (t := 22) (e := 3) (elems := elems) (spare := spare) (by kernel_rfl) (by rw [hd]; rfl) Tryz.underlying22
    have hr : reachBytes = 140737488351232 := by kernel_rfl
    rw [hb, hr] at this
    omega
  obtain ⟨a0, c0, x0, rfl, w0, y0⟩ := open_ilist Tryz.underlying22 Tryz.underlying3 (by kernel_rfl) (hval 0 22 v0 rfl rfl) h0 s0
  obtain ⟨hK, hI, hP, hE⟩ := laid_rd hL
  clear hA0 hval0
  refine (descriptorBack_any a0 c0 x0 (fun z hz => i64_of (y0 z hz)) W hK hI w0 hP hE).mono fun e W' ⟨he, bel⟩ => ?_
  subst he
  exact ⟨_, rfl, _, _, _, [], _, [], hW', trodAll_mk1 (shut_bool Tryz.underlying4 _), (trodAll_cons_mk (Below.trod laidOut (by kernel_rfl) (of_decide_eq_true (by kernel_rfl)) k0 bel lt0) trodAll_mk0), rfl, bel.frame _, fun h => by cases h⟩
theorem over : Rows.descriptorBackRow.holds Tryz.pinned (OpenSpec.ofChange Rows.descriptorBackSpec) :=
  OpenClaim.holds_of_wide 5 Tryz.f5 rfl rfl rfl rfl rfl rfl rfl ⟨rfl, rfl, rfl, rfl, rfl⟩ rfl rfl rfl rfl rfl (by kernel_rfl) Tryz.func5 (by kernel_rfl)
    (of_decide_eq_true (by kernel_rfl)) (by unfold Func.isWrapper; first | (rw [if_pos (by decide +kernel)]; kernel_rfl) | (rw [if_neg (by decide +kernel)]; exact ⟨rfl, rfl⟩))
    (fun os started H enc _ => lifted os started H enc)
theorem proved : Rows.DescriptorBackCardSaid :=
  Claim7.holds_tied_plain_at .later [] [.data, .data, .data, .data, .data, .sentinel, .sentinel] true (true, "2704d3a08cb47fb35cce2ebd7ca26905aeca290e87b72d9789d3d7b58df1206f") true
    over (fun _ h => by cases h) (by kernel_rfl) (fun _ h => by cases h) descriptorBack_row_tie rfl ⟨rfl, rfl⟩ (by kernel_rfl) rfl
    (fun f fn hf hfn => by
      obtain rfl : f = 5 := Option.some.inj ((show Tryz.prog.funcNamed "lightclient/lightclientlaw26.DescriptorBack" = some 5 by kernel_rfl).symm.trans hf) |>.symm
      obtain rfl : fn = Tryz.f5 := (Option.some.inj (Tryz.func5.symm.trans hfn)).symm
      exact ⟨by kernel_rfl, fun j t ht => by
        rw [Tryz.params5] at ht
        rcases j with _ | j
        · have ht2 : t = 22 := by simpa using ht.symm
          subst ht2
          exact (show Tryz.prog.wantsStandIn 22 = false by kernel_rfl)
        · simp at ht⟩)
    (by kernel_rfl)
#print axioms proved
end descriptorBack
end Go.Proofs.YtegagmoldjiaaaaGreatDoor
