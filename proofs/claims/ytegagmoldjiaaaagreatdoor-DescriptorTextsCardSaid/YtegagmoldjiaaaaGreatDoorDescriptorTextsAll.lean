/-
  The statement DescriptorTexts: for every input the law returns true, and each argument reads behind the call as it read before. No condition.
-/
import Derived.Test.YtegagmoldjiaaaaGreatDoorBase5
import Derived.Test.YtegagmoldjiaaaaGreatDoorRows
import Derived.Test.YtegagmoldjiaaaaGreatDoorCards
import Derived.Test.YtegagmoldjiaaaaGreatDoorTie
import Derived.SevenTiedAt
import Derived.LaidMore
import Derived.LaidHandle
import Derived.Stop.Joined
import Derived.WalkKit
import Derived.ProofKit
import Derived.OpenShut
import Derived.SizedLaws
set_option maxRecDepth 100000
namespace Go.Proofs.YtegagmoldjiaaaaGreatDoor
open Go Go.RowKit
theorem descriptorTexts_any (a : Option Addr) (c : Nat) (zs : List Int) (S : List UInt8) (wh : Int) (ta : Int) (hz : Z64 zs) (hwh : -9223372036854775808 ≤ wh ∧ wh < 9223372036854775808) (hta : -9223372036854775808 ≤ ta ∧ ta < 9223372036854775808) (w0 : World) (hf0 : kJ w0) (hf1 : fU w0) (hf2 : Is w0 .i64 a c zs) (hf3 : qI w0) : Calls Tryz.prog 3 #[(.slice a (zs).length c), (.string (gY S)), (vi wh), (vi ta)] w0 (fun ε w' => ε = .returned (.bool true) ∧ Below w0.heap.size w0 w') := by
 refine Calls.of_ok (n := 59) (F := (fun w => kJ w ∧ fU w ∧ Is w .i64 a c zs ∧ qI w ∧ True)) Tryz.func3 rfl rfl rfl (by simp) (hf0.pers0.and (hf1.pers0.and (hf2.pers0.and (hf3.pers0.and cO)))) ?_
 refine sS Tryz.f3 1 [0, 1, 2, 3, 8] [] (fun _ => [(.bool false)]) (fun _ => []) (cR [[]] <| cN) (fun _ => ?_)
 refine aB ?_
 refine sS Tryz.f3 2 [0, 1, 2, 3, 8, 17] [] (fun _ => [(.bool true), (.bool false)]) (fun _ => []) (cX (qC (fun _ _ w hG => dsane_any w hG.facts0.now.1 hG.facts0.now.2.1)) <| cR [[]] <| cN) (fun _ => ?_)
 refine oN ?_
 refine aG ?_
 refine aA ?_
 refine aB ?_
 refine sS Tryz.f3 3 [0, 1, 2, 3, 8, 20] [] (fun _ => [(.string (gY S)), (vn (S).length), (.bool (decide (200 < (((S).length : Nat) : Int))))]) (fun _ => []) (cR [[], [], []] <| cN) (fun _ => ?_)
 refine oC (decide (200 < (((S).length : Nat) : Int))) (fun hb1 => ?_) (fun hb1 => ?_)
 ·
  rw [hb1]
  refine sS Tryz.f3 1 [0, 1, 2, 3, 8] [] (fun _ => [(.bool true)]) (fun _ => []) (cR [[]] <| cN) (fun _ => ?_)
  refine aF ?_
  refine aC ?_
  exact mR (v := (.bool true)) (fun _ hS => ⟨rfl, hS.bel⟩)
 ·
  rw [hb1]
  refine aG ?_
  refine aA ?_
  refine iZ Tryz.f3 4 [1, 2, 3, 8, 9] [0] (fun ρ => [(.slice a (zs).length c), (pt (nb ρ 1)), (.slice (oa ρ 2) (ot ρ 2).length (nb ρ 2)), (.slice (oa ρ 2) (ot ρ 2).length (nb ρ 2))]) (fun ρ => [(1, (nw ρ 1 (cL #[(.slice a (zs).length c), (vn (pN zs 0))] 62))), (2, (bD 8 (nb ρ 1) (cL #[(.slice a (zs).length c), (vn (pN zs (aZ ρ 2)))] 62)))]) (fun ρ => [(2, fun w => TmN w (oa ρ 2) (nb ρ 2) (ot ρ 2))]) (fun ρ => (fun w => kJ w ∧ fU w ∧ Is w .i64 a c zs ∧ qI w ∧ TmN w (oa ρ 2) (nb ρ 2) (ot ρ 2) ∧ True)) (fun _ => True) (fun _ _ hF hf => ⟨⟨hF.1, hF.2.1, hF.2.2.1, hF.2.2.2.1, hf 2, trivial⟩, trivial⟩) (cR [[]] <| cX (o_callN _ 8 (fun _ => #[(.slice a (zs).length c)]) (fun _ ζ => (pt ζ)) (fun _ => (cL #[(.slice a (zs).length c), (vn (pN zs 0))] 62)) (fun _ _ => (by kernel_rfl)) (fun _ _ => (by kernel_rfl)) (fun _ _ => (by kernel_rfl)) (fun _ _ => trivial) (fun _ _ w hG => mnew_any a c zs w hG.facts0.now.2.2.1)) <| cX (o_callWT _ [8] 7 (fun ρ => #[(pt (nb ρ 1))]) (fun _ α κ τs => (.slice α (τs).length κ)) (fun ρ => [(nb ρ 1, (cL #[(.slice a (zs).length c), (vn (pN zs 0))] 62))]) (fun ρ j => [(nb ρ 1, (cL #[(.slice a (zs).length c), (vn (pN zs j))] 62))]) (fun ρ _ w hG hK => mterms_any (nb ρ 1) a c zs 0 hz w hK (hG.pK [8] (fun _ hF => ⟨hF.2.2.1, trivial⟩)) )) <| cR [[]] <| cN) (fun ρ5 _ => ?_)
  refine aB ?_
  refine iZ Tryz.f3 8 [1, 8, 29, 30, 31] [] (fun ρ => [(.slice (oa ρ5 2) (ot ρ5 2).length (nb ρ5 2)), (.slice (oa ρ5 2) (ot ρ5 2).length (nb ρ5 2)), (vi wh), (vi ta), (.slice (oa ρ 4) (ot ρ 4).length (nb ρ 4)), (vs (nb ρ 5) 2 2), (vi 2), (vi 0)]) (fun ρ => [(5, (nw ρ 5 (cL #[(.slice (oa ρ5 2) (ot ρ5 2).length (nb ρ5 2)), (.slice (oa ρ 4) (ot ρ 4).length (nb ρ 4))] 24)))]) (fun ρ => [(4, fun w => bM w (oa ρ 4) (nb ρ 4) (ot ρ 4))]) (fun ρ => (fun w => kJ w ∧ fU w ∧ Is w .i64 a c zs ∧ qI w ∧ TmN w (oa ρ5 2) (nb ρ5 2) (ot ρ5 2) ∧ bM w (oa ρ 4) (nb ρ 4) (ot ρ 4) ∧ True)) (fun _ => True) (fun _ _ hF hf => ⟨⟨hF.1, hF.2.1, hF.2.2.1, hF.2.2.2.1, hF.2.2.2.2.1, hf 4, trivial⟩, trivial⟩) (cR [[], [], [], []] <| cX (o_callT _ 9 (fun _ => #[(.slice (oa ρ5 2) (ot ρ5 2).length (nb ρ5 2)), (vi wh), (vi ta)]) (fun _ α κ τs => (.slice α (τs).length κ)) (fun _ τ w hG => spoil_any (oa ρ5 2) (nb ρ5 2) (ot ρ5 2) wh ta hwh hta w hG.facts0.now.2.2.2.2.1 τ hG.lt (hG.facts0.mono (fun _ hF => hF.2.2.2.2.1.1)))) <| cR [[], [], []] <| cN) (fun ρ6 _ => ?_)
  refine aI ?_
  refine jY 3 ?_
  refine dI ?_
  refine sS Tryz.f3 1 [1, 8, 29, 30, 31, 32] [] (fun _ => [(.bool true)]) (fun _ => []) (cR [[]] <| cN) (fun _ => ?_)
  refine aB ?_
  refine oY ?_
  refine aG ?_
  refine aA ?_
  refine aB ?_
  refine aI ?_
  refine sS Tryz.f3 3 [1, 8, 11, 29, 30, 31, 32, 33, 34] [] (fun _ => [(pt (nb ρ6 5)), (.slice (oa ρ5 2) (ot ρ5 2).length (nb ρ5 2)), (.slice (oa ρ5 2) (ot ρ5 2).length (nb ρ5 2))]) (fun _ => []) (cR [[], [0], []] <| cN) (fun _ => ?_)
  refine lK [(1, (.string (gY S))), (8, (.bool false)), (11, (.slice (oa ρ5 2) (ot ρ5 2).length (nb ρ5 2))), (29, (vs (nb ρ6 5) 2 2)), (30, (vi 2)), (31, (vi 0)), (32, (.bool true)), (33, (pt (nb ρ6 5))), (34, (.slice (oa ρ5 2) (ot ρ5 2).length (nb ρ5 2)))] [(nb ρ6 5, (cL #[(.slice (oa ρ5 2) (ot ρ5 2).length (nb ρ5 2)), (.slice (oa ρ6 4) (ot ρ6 4).length (nb ρ6 4))] 24))] ?_
  refine sS Tryz.f3 7 [1, 8, 11, 12, 13, 29, 30, 31, 32, 33, 34, 35, 36, 37, 38, 39] [] (fun _ => [(.slice (oa ρ5 2) (ot ρ5 2).length (nb ρ5 2)), (.tuple #[(.string (gY (l7 (ot ρ5 2)))), (vi (lX (ot ρ5 2)))]), (.tuple #[(.string (gY (l7 (ot ρ5 2)))), (vi (lX (ot ρ5 2)))]), (.string (gY (l7 (ot ρ5 2)))), (vi (lX (ot ρ5 2))), (.string (gY (l7 (ot ρ5 2)))), (vi (lX (ot ρ5 2)))]) (fun _ => []) (cR [[]] <| cX (qC (fun _ _ w hG => dtext_any (oa ρ5 2) (nb ρ5 2) (ot ρ5 2) w hG.facts0.now.2.2.2.2.1.1 hG.facts0.now.2.2.2.1 hG.facts0.now.1 hG.facts0.now.2.1)) <| cR [[], [], [], [], []] <| cN) (fun _ => ?_)
  refine sS Tryz.f3 7 [1, 8, 11, 12, 13, 14, 15, 29, 30, 31, 32, 33, 34, 35, 36, 37, 38, 39, 40, 41, 42, 43, 44] [] (fun _ => [(.slice (oa ρ5 2) (ot ρ5 2).length (nb ρ5 2)), (.tuple #[(.string (gY (l7 (ot ρ5 2)))), (vi (lX (ot ρ5 2)))]), (.tuple #[(.string (gY (l7 (ot ρ5 2)))), (vi (lX (ot ρ5 2)))]), (.string (gY (l7 (ot ρ5 2)))), (vi (lX (ot ρ5 2))), (.string (gY (l7 (ot ρ5 2)))), (vi (lX (ot ρ5 2)))]) (fun _ => []) (cR [[]] <| cX (qC (fun _ _ w hG => rdtext_any (oa ρ5 2) (nb ρ5 2) (ot ρ5 2) w hG.facts0.now.2.2.2.2.1.1)) <| cR [[], [], [], [], []] <| cN) (fun _ => ?_)
  refine sS Tryz.f3 8 [1, 8, 11, 12, 13, 14, 15, 29, 30, 31, 32, 33, 34, 35, 36, 37, 38, 39, 40, 41, 42, 43, 44, 45, 46, 47, 48, 49, 50, 51, 52] [] (fun _ => [(.string (gY (l7 (ot ρ5 2)))), (.string (gY (l7 (ot ρ5 2)))), (.bool false), (.bool false), (vi (lX (ot ρ5 2))), (vi (lX (ot ρ5 2))), (.bool false), (.bool false)]) (fun _ => []) (cR [[], []] <| cB .neq 9 (fun _ w => qV (l7 (ot ρ5 2)) w) <| cR [[], [], []] <| cA (v := fun ρ => (.bool ((lX (ot ρ5 2)) != (lX (ot ρ5 2))))) (fun _ => (.bool false)) (fun _ => congrArg Value.bool (bne_self_eq_false _)) <| cR [[]] <| cN) (fun _ => ?_)
  refine oN ?_
  refine aG ?_
  refine aJ ?_
  refine aA ?_
  refine rS Tryz.f3 2 [1, 8, 11, 12, 13, 14, 15, 29, 30, 31, 32, 33, 34, 35, 36, 37, 38, 39, 40, 41, 42, 43, 44, 45, 46, 47, 48, 49, 50, 51, 52, 53] [] (fun _ => [(vi 1), (vi 1)]) (fun _ => []) (cR [[], []] <| cN) (fun _ => ?_)
  refine dV ?_
  refine dI ?_
  refine sS Tryz.f3 1 [1, 8, 11, 12, 13, 14, 15, 29, 30, 31, 32, 33, 34, 35, 36, 37, 38, 39, 40, 41, 42, 43, 44, 45, 46, 47, 48, 49, 50, 51, 52, 53] [] (fun _ => [(.bool true)]) (fun _ => []) (cR [[]] <| cN) (fun _ => ?_)
  refine aB ?_
  refine oY ?_
  refine aG ?_
  refine aA ?_
  refine aB ?_
  refine aI ?_
  refine sS Tryz.f3 3 [1, 8, 11, 12, 13, 14, 15, 29, 30, 31, 32, 33, 34, 35, 36, 37, 38, 39, 40, 41, 42, 43, 44, 45, 46, 47, 48, 49, 50, 51, 52, 53] [] (fun _ => [(.pointer (some ⟨nb ρ6 5, 1, none⟩)), (.slice (oa ρ6 4) (ot ρ6 4).length (nb ρ6 4)), (.slice (oa ρ6 4) (ot ρ6 4).length (nb ρ6 4))]) (fun _ => []) (cR [[], [0], []] <| cN) (fun _ => ?_)
  refine sS Tryz.f3 7 [1, 8, 11, 12, 13, 14, 15, 29, 30, 31, 32, 33, 34, 35, 36, 37, 38, 39, 40, 41, 42, 43, 44, 45, 46, 47, 48, 49, 50, 51, 52, 53] [] (fun _ => [(.slice (oa ρ6 4) (ot ρ6 4).length (nb ρ6 4)), (.tuple #[(.string (gY (l7 (ot ρ6 4)))), (vi (lX (ot ρ6 4)))]), (.tuple #[(.string (gY (l7 (ot ρ6 4)))), (vi (lX (ot ρ6 4)))]), (.string (gY (l7 (ot ρ6 4)))), (vi (lX (ot ρ6 4))), (.string (gY (l7 (ot ρ6 4)))), (vi (lX (ot ρ6 4)))]) (fun _ => []) (cR [[]] <| cX (qC (fun _ _ w hG => dtext_any (oa ρ6 4) (nb ρ6 4) (ot ρ6 4) w hG.facts0.now.2.2.2.2.2.1 hG.facts0.now.2.2.2.1 hG.facts0.now.1 hG.facts0.now.2.1)) <| cR [[], [], [], [], []] <| cN) (fun _ => ?_)
  refine lK [(1, (.string (gY S))), (8, (.bool false)), (11, (.slice (oa ρ6 4) (ot ρ6 4).length (nb ρ6 4))), (12, (.string (gY (l7 (ot ρ6 4))))), (13, (vi (lX (ot ρ6 4)))), (14, (.string (gY (l7 (ot ρ5 2))))), (15, (vi (lX (ot ρ5 2)))), (29, (vs (nb ρ6 5) 2 2)), (30, (vi 2)), (31, (vi 1)), (32, (.bool true)), (33, (.pointer (some ⟨nb ρ6 5, 1, none⟩))), (34, (.slice (oa ρ6 4) (ot ρ6 4).length (nb ρ6 4))), (35, (.tuple #[(.string (gY (l7 (ot ρ6 4)))), (vi (lX (ot ρ6 4)))])), (36, (.slice (oa ρ6 4) (ot ρ6 4).length (nb ρ6 4))), (37, (.tuple #[(.string (gY (l7 (ot ρ6 4)))), (vi (lX (ot ρ6 4)))])), (38, (.string (gY (l7 (ot ρ6 4))))), (39, (vi (lX (ot ρ6 4)))), (40, (.tuple #[(.string (gY (l7 (ot ρ5 2)))), (vi (lX (ot ρ5 2)))])), (41, (.slice (oa ρ5 2) (ot ρ5 2).length (nb ρ5 2))), (42, (.tuple #[(.string (gY (l7 (ot ρ5 2)))), (vi (lX (ot ρ5 2)))])), (43, (.string (gY (l7 (ot ρ5 2))))), (44, (vi (lX (ot ρ5 2)))), (45, (.string (gY (l7 (ot ρ5 2))))), (46, (.string (gY (l7 (ot ρ5 2))))), (47, (.bool false)), (48, (.bool false)), (49, (vi (lX (ot ρ5 2)))), (50, (vi (lX (ot ρ5 2)))), (51, (.bool false)), (52, (.bool false)), (53, (vi 1))] [(nb ρ6 5, (cL #[(.slice (oa ρ5 2) (ot ρ5 2).length (nb ρ5 2)), (.slice (oa ρ6 4) (ot ρ6 4).length (nb ρ6 4))] 24))] ?_
  refine sS Tryz.f3 7 [1, 8, 11, 12, 13, 14, 15, 29, 30, 31, 32, 33, 34, 35, 36, 37, 38, 39, 40, 41, 42, 43, 44, 45, 46, 47, 48, 49, 50, 51, 52, 53] [] (fun _ => [(.slice (oa ρ6 4) (ot ρ6 4).length (nb ρ6 4)), (.tuple #[(.string (gY (l7 (ot ρ6 4)))), (vi (lX (ot ρ6 4)))]), (.tuple #[(.string (gY (l7 (ot ρ6 4)))), (vi (lX (ot ρ6 4)))]), (.string (gY (l7 (ot ρ6 4)))), (vi (lX (ot ρ6 4))), (.string (gY (l7 (ot ρ6 4)))), (vi (lX (ot ρ6 4)))]) (fun _ => []) (cR [[]] <| cX (qC (fun _ _ w hG => rdtext_any (oa ρ6 4) (nb ρ6 4) (ot ρ6 4) w hG.facts0.now.2.2.2.2.2.1)) <| cR [[], [], [], [], []] <| cN) (fun _ => ?_)
  refine sS Tryz.f3 8 [1, 8, 11, 12, 13, 14, 15, 29, 30, 31, 32, 33, 34, 35, 36, 37, 38, 39, 40, 41, 42, 43, 44, 45, 46, 47, 48, 49, 50, 51, 52, 53] [] (fun _ => [(.string (gY (l7 (ot ρ6 4)))), (.string (gY (l7 (ot ρ6 4)))), (.bool false), (.bool false), (vi (lX (ot ρ6 4))), (vi (lX (ot ρ6 4))), (.bool false), (.bool false)]) (fun _ => []) (cR [[], []] <| cB .neq 9 (fun _ w => qV (l7 (ot ρ6 4)) w) <| cR [[], [], []] <| cA (v := fun ρ => (.bool ((lX (ot ρ6 4)) != (lX (ot ρ6 4))))) (fun _ => (.bool false)) (fun _ => congrArg Value.bool (bne_self_eq_false _)) <| cR [[]] <| cN) (fun _ => ?_)
  refine oN ?_
  refine aG ?_
  refine aJ ?_
  refine aA ?_
  refine rS Tryz.f3 2 [1, 8, 11, 12, 13, 14, 15, 29, 30, 31, 32, 33, 34, 35, 36, 37, 38, 39, 40, 41, 42, 43, 44, 45, 46, 47, 48, 49, 50, 51, 52, 53] [] (fun _ => [(vi 2), (vi 2)]) (fun _ => []) (cR [[], []] <| cN) (fun _ => ?_)
  refine dV ?_
  refine dI ?_
  refine sS Tryz.f3 1 [1, 8, 11, 12, 13, 14, 15, 29, 30, 31, 32, 33, 34, 35, 36, 37, 38, 39, 40, 41, 42, 43, 44, 45, 46, 47, 48, 49, 50, 51, 52, 53] [] (fun _ => [(.bool false)]) (fun _ => []) (cR [[]] <| cN) (fun _ => ?_)
  refine aB ?_
  refine oN ?_
  refine bF ?_
  refine aN ?_
  refine aN ?_
  refine aT ?_
  refine aA ?_
  refine sS Tryz.f3 6 [8] [0] (fun _ => [(.string (gY S)), (.string (gY (gX ((hL (lV kX S)).take 4)))), (.string (gY S)), (.string (gY (gX ((hL (lV kX S)).take 4)))), (.bool true), (.bool true)]) (fun _ => []) (cR [[]] <| cX (qC (fun _ _ w hG => dsum_any S (by have := yF hb1; omega) w hG.facts0.now.1 hG.facts0.now.2.1)) <| cR [[]] <| cC (fun _ w => rdsum_any S (by have := yF hb1; omega) w) <| cB .eql 9 (fun _ w => eql_str_same (gX ((hL (lV kX S)).take 4)) w) <| cR [[]] <| cN) (fun _ => ?_)
  refine aF ?_
  exact mR (v := (.bool true)) (fun _ hS => ⟨rfl, hS.bel⟩)
namespace descriptorTexts
open Go.ChangeShapes Go.WideShapes Go.ChangeAt Go.RowKit
set_option maxRecDepth 100000 in
theorem lifted (os : Os) (started : os.Started) (H : Type) (enc : TypeId × Value → H) :
    ReturnsInHanded {} Tryz.checked os 3 .any (fun w args => (Rows.descriptorTextsSpec.pre enc Tryz.prog Tryz.f3 Rows.descriptorTextsRow.domain false w args ∧ laidMetH Tryz.prog txLaid w) ∧ sizedMet enc Tryz.prog Tryz.f3 (OpenSpec.ofChange Rows.descriptorTextsSpec) false w args) (Rows.descriptorTextsSpec.post enc Tryz.prog Tryz.f3 false true false false) := by
  refine returnsInHanded_of_change_and (C := Tryz.checked) (X := fun w _ => laidMetH Tryz.prog txLaid w) (fun _ _ _ hh h => h.of_heap hh) own started (by kernel_rfl) Tryz.func3
    (ChangeSpec.witness_shaped (enc := enc) (C := Tryz.checked) (os := os) (X := fun w _ => laidMetH Tryz.prog txLaid w) false (World.doorLaid Tryz.prog 400 os) #[.slice none 0 0, .string ⟨#[]⟩, .int .i64 0, .int .i64 0] 8 rfl (World.shaped_of_RefB (by kernel_rfl) (by kernel_rfl)) (by kernel_rfl) (by kernel_rfl) (by kernel_rfl) (door_tx os _)) ?_
  intro W base args ds gs before hval0 hW hcnd hsz hL _
  have hval : ∀ (j : Nat) t v, Tryz.f3.params[j]? = some t → args[j]? = some v → Value.okWide Tryz.prog W .any base t v := hval0
  have hW' := hW
  obtain ⟨p, q, hA0, hV, rfl, hfz, hnd⟩ := hW
  have hA : DataW.TrodAll enc Tryz.prog W 0 (fun _ => true) true Tryz.f3.params.toList args.toList ds p := hA0
  rw [Tryz.params3] at hA hval
  obtain ⟨v0, vs0, d0, ds0, p0, q0, hargs, rfl, rfl, h0, r0⟩ := trodAll_cons hA
  obtain ⟨v1, vs1, d1, ds1, p1, q1, rfl, rfl, rfl, h1, r1⟩ := trodAll_cons r0
  obtain ⟨v2, vs2, d2, ds2, p2, q2, rfl, rfl, rfl, h2, r2⟩ := trodAll_cons r1
  obtain ⟨v3, vs3, d3, ds3, p3, q3, rfl, rfl, rfl, h3, r3⟩ := trodAll_cons r2
  obtain ⟨rfl, rfl, rfl⟩ := trodAll_nil r3
  obtain rfl : args = #[v0, v1, v2, v3] := by cases args; simp_all
  obtain ⟨rfl, rfl⟩ := trodVars_none hV
  have k0 := h0
  have lt0 : ∀ x ∈ p0, x.block < W.heap.size := by obtain ⟨m, hm⟩ := k0; exact DataW.trod_lt m _ _ _ hm
  have k1 := h1
  have lt1 : ∀ x ∈ p1, x.block < W.heap.size := by obtain ⟨m, hm⟩ := k1; exact DataW.trod_lt m _ _ _ hm
  have k2 := h2
  have lt2 : ∀ x ∈ p2, x.block < W.heap.size := by obtain ⟨m, hm⟩ := k2; exact DataW.trod_lt m _ _ _ hm
  have k3 := h3
  have lt3 : ∀ x ∈ p3, x.block < W.heap.size := by obtain ⟨m, hm⟩ := k3; exact DataW.trod_lt m _ _ _ hm
  have s0 : ∀ elems spare, d0 = .slice elems spare → elems.length + spare.length ≤ 140737488351232 := by
    intro elems spare hd
    have hb : Tryz.checked.prog.bytesOf 3 = 8 := by kernel_rfl
    have := sized_slice hsz (j := 0) (t := 22) (e := 3) (elems := elems) (spare := spare) (by kernel_rfl) (by rw [hd]; rfl) Tryz.underlying22
    have hr : reachBytes = 140737488351232 := by kernel_rfl
    rw [hb, hr] at this
    omega
  obtain ⟨a0, c0, x0, rfl, w0, y0⟩ := open_ilist Tryz.underlying22 Tryz.underlying3 (by kernel_rfl) (hval 0 22 v0 rfl rfl) h0 s0
  have s1 : ∀ l, d1 = .lit (.string l) → l.length ≤ 140737488351232 := by
    intro l hd
    exact sized_string hsz (j := 1) (t := 9) (by kernel_rfl) (by rw [hd]; rfl)
  obtain ⟨x1, rfl, w1⟩ := open_str (hval 1 9 v1 rfl rfl) h1 s1
  obtain ⟨z2, rfl, rfl, rfl, y2⟩ := open_int Tryz.underlying3 (hval 2 3 v2 rfl rfl) h2
  have w2 := i64_of y2
  obtain ⟨z3, rfl, rfl, rfl, y3⟩ := open_int Tryz.underlying3 (hval 3 3 v3 rfl rfl) h3
  have w3 := i64_of y3
  obtain ⟨hK, hI, hP⟩ := laid_tx hL
  clear hA0 hval0
  refine (descriptorTexts_any a0 c0 x0 x1 z2 z3 (fun z hz => i64_of (y0 z hz)) w2 w3 W hK hI w0 hP).mono fun e W' ⟨he, bel⟩ => ?_
  subst he
  exact ⟨_, rfl, _, _, _, [], _, [], hW', trodAll_mk1 (shut_bool Tryz.underlying4 _), (trodAll_cons_mk (Below.trod laidOut (by kernel_rfl) (of_decide_eq_true (by kernel_rfl)) k0 bel lt0) (trodAll_cons_mk (Below.trod laidOut (by kernel_rfl) (of_decide_eq_true (by kernel_rfl)) k1 bel lt1) (trodAll_cons_mk (Below.trod laidOut (by kernel_rfl) (of_decide_eq_true (by kernel_rfl)) k2 bel lt2) (trodAll_cons_mk (Below.trod laidOut (by kernel_rfl) (of_decide_eq_true (by kernel_rfl)) k3 bel lt3) trodAll_mk0)))), rfl, bel.frame _, fun h => by cases h⟩
theorem over : Rows.descriptorTextsRow.holds Tryz.pinned (OpenSpec.ofChange Rows.descriptorTextsSpec) :=
  OpenClaim.holds_of_wide 3 Tryz.f3 rfl rfl rfl rfl rfl rfl rfl ⟨rfl, rfl, rfl, rfl, rfl⟩ rfl rfl rfl rfl rfl (by kernel_rfl) Tryz.func3 (by kernel_rfl)
    (of_decide_eq_true (by kernel_rfl)) (by unfold Func.isWrapper; first | (rw [if_pos (by decide +kernel)]; kernel_rfl) | (rw [if_neg (by decide +kernel)]; exact ⟨rfl, rfl⟩))
    (fun os started H enc _ => lifted os started H enc)
theorem proved : Rows.DescriptorTextsCardSaid :=
  Claim7.holds_tied_plain_at .later [] [.data, .data, .data, .data, .data] true (true, "2704d3a08cb47fb35cce2ebd7ca26905aeca290e87b72d9789d3d7b58df1206f") true
    over (fun _ h => by cases h) (by kernel_rfl) (fun _ h => by cases h) descriptorTexts_row_tie rfl ⟨rfl, rfl⟩ (by kernel_rfl) rfl
    (fun f fn hf hfn => by
      obtain rfl : f = 3 := Option.some.inj ((show Tryz.prog.funcNamed "lightclient/lightclientlaw26.DescriptorTexts" = some 3 by kernel_rfl).symm.trans hf) |>.symm
      obtain rfl : fn = Tryz.f3 := (Option.some.inj (Tryz.func3.symm.trans hfn)).symm
      exact ⟨by kernel_rfl, fun j t ht => by
        rw [Tryz.params3] at ht
        rcases j with _ | _ | _ | _ | j
        · have ht2 : t = 22 := by simpa using ht.symm
          subst ht2
          exact (show Tryz.prog.wantsStandIn 22 = false by kernel_rfl)
        · have ht2 : t = 9 := by simpa using ht.symm
          subst ht2
          exact (show Tryz.prog.wantsStandIn 9 = false by kernel_rfl)
        · have ht2 : t = 3 := by simpa using ht.symm
          subst ht2
          exact (show Tryz.prog.wantsStandIn 3 = false by kernel_rfl)
        · have ht2 : t = 3 := by simpa using ht.symm
          subst ht2
          exact (show Tryz.prog.wantsStandIn 3 = false by kernel_rfl)
        · simp at ht⟩)
    (by kernel_rfl)
#print axioms proved
end descriptorTexts
end Go.Proofs.YtegagmoldjiaaaaGreatDoor
