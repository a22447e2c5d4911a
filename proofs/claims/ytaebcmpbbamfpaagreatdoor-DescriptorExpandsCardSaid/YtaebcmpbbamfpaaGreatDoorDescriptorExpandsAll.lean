/-
  The statement DescriptorExpands: for every input the law returns true, and each argument reads behind the call as it read before. No condition.
-/
import Derived.Test.YtaebcmpbbamfpaaGreatDoorBase6
import Derived.Test.YtaebcmpbbamfpaaGreatDoorRows
import Derived.Test.YtaebcmpbbamfpaaGreatDoorCards
import Derived.Test.YtaebcmpbbamfpaaGreatDoorTie
import Derived.SevenTiedAt
import Derived.LaidMore
import Derived.LaidHandle
import Derived.Stop.Joined
import Derived.WalkKit
import Derived.ProofKit
import Derived.OpenShut
import Derived.SizedLaws
set_option maxRecDepth 100000
namespace Go.Proofs.YtaebcmpbbamfpaaGreatDoor
open Go Go.RowKit
theorem descriptorExpands_any (a : Option Addr) (c : Nat) (zs : List Int) (ii : Int) (hz : Z64 zs) (hii : -9223372036854775808 ≤ ii ∧ ii < 9223372036854775808) (w0 : World) (hf0 : kJ w0) (hf1 : kX w0) (hf2 : Is w0 .i64 a c zs) : Calls Tryz.prog 3 #[(.slice a (zs).length c), (vi ii)] w0 (fun ε w' => ε = .returned (.bool true) ∧ Below w0.heap.size w0 w') := by
 refine Calls.of_ok (n := 91) (F := (fun w => kJ w ∧ kX w ∧ Is w .i64 a c zs ∧ True)) Tryz.func3 rfl rfl rfl (by simp) (hf0.pers0.and (hf1.pers0.and (hf2.pers0.and cO))) ?_
 refine sS Tryz.f3 1 [0, 1, 4] [] (fun _ => [(.bool false)]) (fun _ => []) (cR [[]] <| cN) (fun _ => ?_)
 refine aB ?_
 refine sS Tryz.f3 2 [0, 1, 4, 17] [] (fun _ => [(.bool true), (.bool false)]) (fun _ => []) (cX (qC (fun _ _ w hG => dsane_any w hG.facts0.now.1 hG.facts0.now.2.1)) <| cR [[]] <| cN) (fun _ => ?_)
 refine oN ?_
 refine aG ?_
 refine aA ?_
 refine iZ Tryz.f3 4 [1, 4, 5] [0] (fun ρ => [(.slice a (zs).length c), (pt (nb ρ 1)), (.slice (oa ρ 2) (ot ρ 2).length (nb ρ 2)), (.slice (oa ρ 2) (ot ρ 2).length (nb ρ 2))]) (fun ρ => [(1, (nw ρ 1 (cL #[(.slice a (zs).length c), (vn (pN zs 0))] 59))), (2, (bD 8 (nb ρ 1) (cL #[(.slice a (zs).length c), (vn (pN zs (aZ ρ 2)))] 59)))]) (fun ρ => [(2, fun w => TmN w (oa ρ 2) (nb ρ 2) (ot ρ 2))]) (fun ρ => (fun w => kJ w ∧ kX w ∧ Is w .i64 a c zs ∧ TmN w (oa ρ 2) (nb ρ 2) (ot ρ 2) ∧ True)) (fun _ => True) (fun _ _ hF hf => ⟨⟨hF.1, hF.2.1, hF.2.2.1, hf 2, trivial⟩, trivial⟩) (cR [[]] <| cX (o_callN _ 7 (fun _ => #[(.slice a (zs).length c)]) (fun _ ζ => (pt ζ)) (fun _ => (cL #[(.slice a (zs).length c), (vn (pN zs 0))] 59)) (fun _ _ => (by kernel_rfl)) (fun _ _ => (by kernel_rfl)) (fun _ _ => (by kernel_rfl)) (fun _ _ => trivial) (fun _ _ w hG => mnew_any a c zs w hG.facts0.now.2.2.1)) <| cX (o_callWT _ [8] 6 (fun ρ => #[(pt (nb ρ 1))]) (fun _ α κ τs => (.slice α (τs).length κ)) (fun ρ => [(nb ρ 1, (cL #[(.slice a (zs).length c), (vn (pN zs 0))] 59))]) (fun ρ j => [(nb ρ 1, (cL #[(.slice a (zs).length c), (vn (pN zs j))] 59))]) (fun ρ _ w hG hK => mterms_any (nb ρ 1) a c zs 0 hz w hK (hG.pK [8] (fun _ hF => ⟨hF.2.2.1, trivial⟩)) )) <| cR [[]] <| cN) (fun ρ3 _ => ?_)
 refine okPure (p := mP (ot ρ3 2)) (fun w hF => hF.2.2.2.1.1.oks) (fun ho => ?_)
 refine sS Tryz.f3 11 [4, 5, 6] [0] (fun ρ => [(vi ii), (vn (dm ii 5)), (vi ii), (vn (dm ii 1002)), (vi (((dm ii 1002 : Nat) : Int) - 1)), (vs (nb ρ 5) 2 2), (vi ii), (vn (dm ii 2)), (.pointer (some ⟨nb ρ 5, dm ii 2, none⟩)), (vi (fD ii)), (vi (fD ii))]) (fun ρ => [(5, (nw ρ 5 (cL #[(vn (dm ii 5)), (vi (((dm ii 1002 : Nat) : Int) - 1))] 3)))]) (cR [[]] <| cC (fun _ w => mod_any ii 5 (by decide) hii w) <| cR [[]] <| cC (fun _ w => mod_any ii 1002 (by decide) hii w) <| cA (v := fun ρ => (vi (IntKind.i64.wrap (((dm ii 1002 : Nat) : Int) - 1)))) (fun _ => (vi (((dm ii 1002 : Nat) : Int) - 1))) (fun _ => congrArg (Value.int .i64) (gZ (by have := dm_lt ii (n := 1002) (by decide); omega))) <| cR [[], []] <| cC (fun _ w => mod_any ii 2 (by decide) hii w) <| cX (qS (fun ρ w => sO (g := nb ρ 5) (c := 2) (k := .i64) Tryz.underlying22 Tryz.sizeOf3 ((show ((dm ii 2 : Nat) : Int) = ((dm ii 2 : Nat) : Int) ∧ dm ii 2 < 2 from ⟨rfl, dm_lt ii (by decide)⟩)).1 ((show ((dm ii 2 : Nat) : Int) = ((dm ii 2 : Nat) : Int) ∧ dm ii 2 < 2 from ⟨rfl, dm_lt ii (by decide)⟩)).2 w)) <| cX (kG _ 40 3 (fun ρ => nb ρ 5) (fun _ => dm ii 2) (fun _ => #[(vn (dm ii 5)), (vi (((dm ii 1002 : Nat) : Int) - 1))]) 3 (0, 0) (fun _ => (vi (fD ii))) (fun _ => by kernel_rfl) Tryz.isAgg3 (fun _ => exI_get ii)) <| cR [[]] <| cN) (fun _ => ?_)
 refine iZ Tryz.f3 8 [4, 5, 6, 7, 8] [] (fun ρ => [(.slice (oa ρ3 2) (ot ρ3 2).length (nb ρ3 2)), (vi (fD ii)), (.tuple #[(.slice (oa ρ 2) (gV (ot ρ3 2) (fD ii)).length (nb ρ 2)), (vi (kZ (ot ρ3 2) (fD ii)))]), (.tuple #[(.slice (oa ρ 2) (gV (ot ρ3 2) (fD ii)).length (nb ρ 2)), (vi (kZ (ot ρ3 2) (fD ii)))]), (.slice (oa ρ 2) (gV (ot ρ3 2) (fD ii)).length (nb ρ 2)), (vi (kZ (ot ρ3 2) (fD ii))), (.slice (oa ρ 2) (gV (ot ρ3 2) (fD ii)).length (nb ρ 2)), (vi (kZ (ot ρ3 2) (fD ii)))]) (fun _ => []) (fun ρ => [(2, fun w => Us w (oa ρ 2) (nb ρ 2) (gV (ot ρ3 2) (fD ii)))]) (fun ρ => (fun w => kJ w ∧ kX w ∧ Is w .i64 a c zs ∧ TmN w (oa ρ3 2) (nb ρ3 2) (ot ρ3 2) ∧ Us w (oa ρ 2) (nb ρ 2) (gV (ot ρ3 2) (fD ii)) ∧ True)) (fun _ => True) (fun _ _ hF hf => ⟨⟨hF.1, hF.2.1, hF.2.2.1, hF.2.2.2.1, hf 2, trivial⟩, trivial⟩) (cR [[], []] <| cX (qV (fun _ _ w hG => dkeys_any (oa ρ3 2) (nb ρ3 2) (ot ρ3 2) (fD ii) w hG.facts0.now.2.2.2.1.1 hG.facts0.now.1 hG.facts0.now.2.1)) <| cR [[], [], [], [], []] <| cN) (fun ρ5 _ => ?_)
 refine iZ Tryz.f3 8 [4, 5, 6, 7, 8, 9, 10] [] (fun ρ => [(.slice (oa ρ3 2) (ot ρ3 2).length (nb ρ3 2)), (vi (fD ii)), (.tuple #[(.slice (oa ρ 2) (gV (ot ρ3 2) (fD ii)).length (nb ρ 2)), (vi (kZ (ot ρ3 2) (fD ii)))]), (.tuple #[(.slice (oa ρ 2) (gV (ot ρ3 2) (fD ii)).length (nb ρ 2)), (vi (kZ (ot ρ3 2) (fD ii)))]), (.slice (oa ρ 2) (gV (ot ρ3 2) (fD ii)).length (nb ρ 2)), (vi (kZ (ot ρ3 2) (fD ii))), (.slice (oa ρ 2) (gV (ot ρ3 2) (fD ii)).length (nb ρ 2)), (vi (kZ (ot ρ3 2) (fD ii)))]) (fun _ => []) (fun ρ => [(2, fun w => Us w (oa ρ 2) (nb ρ 2) (gV (ot ρ3 2) (fD ii)))]) (fun ρ => (fun w => kJ w ∧ kX w ∧ Is w .i64 a c zs ∧ TmN w (oa ρ3 2) (nb ρ3 2) (ot ρ3 2) ∧ Us w (oa ρ5 2) (nb ρ5 2) (gV (ot ρ3 2) (fD ii)) ∧ Us w (oa ρ 2) (nb ρ 2) (gV (ot ρ3 2) (fD ii)) ∧ True)) (fun _ => True) (fun _ _ hF hf => ⟨⟨hF.1, hF.2.1, hF.2.2.1, hF.2.2.2.1, hF.2.2.2.2.1, hf 2, trivial⟩, trivial⟩) (cR [[], []] <| cX (qV (fun _ _ w hG => rdkeys_any (oa ρ3 2) (nb ρ3 2) (ot ρ3 2) (fD ii) w hG.facts0.now.2.2.2.1.1)) <| cR [[], [], [], [], []] <| cN) (fun ρ6 _ => ?_)
 refine iZ Tryz.f3 8 [4, 5, 6, 7, 8, 9, 10, 11, 12] [] (fun ρ => [(.slice (oa ρ3 2) (ot ρ3 2).length (nb ρ3 2)), (vi (fD ii)), (.tuple #[(.slice (oa ρ 2) (wG (ot ρ3 2) (fD ii)).length (nb ρ 2)), (vi (exE (ot ρ3 2) (fD ii)))]), (.tuple #[(.slice (oa ρ 2) (wG (ot ρ3 2) (fD ii)).length (nb ρ 2)), (vi (exE (ot ρ3 2) (fD ii)))]), (.slice (oa ρ 2) (wG (ot ρ3 2) (fD ii)).length (nb ρ 2)), (vi (exE (ot ρ3 2) (fD ii))), (.slice (oa ρ 2) (wG (ot ρ3 2) (fD ii)).length (nb ρ 2)), (vi (exE (ot ρ3 2) (fD ii)))]) (fun _ => []) (fun ρ => [(2, fun w => Fs w0 w (oa ρ 2) (nb ρ 2) (wG (ot ρ3 2) (fD ii)))]) (fun ρ => (fun w => kJ w ∧ kX w ∧ Is w .i64 a c zs ∧ TmN w (oa ρ3 2) (nb ρ3 2) (ot ρ3 2) ∧ Us w (oa ρ5 2) (nb ρ5 2) (gV (ot ρ3 2) (fD ii)) ∧ Us w (oa ρ6 2) (nb ρ6 2) (gV (ot ρ3 2) (fD ii)) ∧ Fs w0 w (oa ρ 2) (nb ρ 2) (wG (ot ρ3 2) (fD ii)) ∧ True)) (fun _ => True) (fun _ _ hF hf => ⟨⟨hF.1, hF.2.1, hF.2.2.1, hF.2.2.2.1, hF.2.2.2.2.1, hF.2.2.2.2.2.1, hf 2, trivial⟩, trivial⟩) (cR [[], []] <| cX (qB (fun _ _ w hG => dexpandN_any (oa ρ3 2) (nb ρ3 2) (ot ρ3 2) (fD ii) w hG.facts0.now.2.2.2.1 hG.facts0.now.1 hG.facts0.now.2.1)) <| cR [[], [], [], [], []] <| cN) (fun ρ7 _ => ?_)
 refine lK [(4, (.bool false)), (5, (.slice (oa ρ3 2) (ot ρ3 2).length (nb ρ3 2))), (6, (vi (fD ii))), (7, (.slice (oa ρ5 2) (gV (ot ρ3 2) (fD ii)).length (nb ρ5 2))), (8, (vi (kZ (ot ρ3 2) (fD ii)))), (9, (.slice (oa ρ6 2) (gV (ot ρ3 2) (fD ii)).length (nb ρ6 2))), (10, (vi (kZ (ot ρ3 2) (fD ii)))), (11, (.slice (oa ρ7 2) (wG (ot ρ3 2) (fD ii)).length (nb ρ7 2))), (12, (vi (exE (ot ρ3 2) (fD ii))))] [] ?_
 refine iZ Tryz.f3 8 [4, 7, 8, 9, 10, 11, 12, 13, 14] [] (fun ρ => [(.slice (oa ρ3 2) (ot ρ3 2).length (nb ρ3 2)), (vi (fD ii)), (.tuple #[(.slice (oa ρ 2) (wG (ot ρ3 2) (fD ii)).length (nb ρ 2)), (vi (exE (ot ρ3 2) (fD ii)))]), (.tuple #[(.slice (oa ρ 2) (wG (ot ρ3 2) (fD ii)).length (nb ρ 2)), (vi (exE (ot ρ3 2) (fD ii)))]), (.slice (oa ρ 2) (wG (ot ρ3 2) (fD ii)).length (nb ρ 2)), (vi (exE (ot ρ3 2) (fD ii))), (.slice (oa ρ 2) (wG (ot ρ3 2) (fD ii)).length (nb ρ 2)), (vi (exE (ot ρ3 2) (fD ii)))]) (fun _ => []) (fun ρ => [(2, fun w => Fs w0 w (oa ρ 2) (nb ρ 2) (wG (ot ρ3 2) (fD ii)))]) (fun ρ => (fun w => kJ w ∧ kX w ∧ Is w .i64 a c zs ∧ TmN w (oa ρ3 2) (nb ρ3 2) (ot ρ3 2) ∧ Us w (oa ρ5 2) (nb ρ5 2) (gV (ot ρ3 2) (fD ii)) ∧ Us w (oa ρ6 2) (nb ρ6 2) (gV (ot ρ3 2) (fD ii)) ∧ Fs w0 w (oa ρ7 2) (nb ρ7 2) (wG (ot ρ3 2) (fD ii)) ∧ Fs w0 w (oa ρ 2) (nb ρ 2) (wG (ot ρ3 2) (fD ii)) ∧ True)) (fun _ => True) (fun _ _ hF hf => ⟨⟨hF.1, hF.2.1, hF.2.2.1, hF.2.2.2.1, hF.2.2.2.2.1, hF.2.2.2.2.2.1, hF.2.2.2.2.2.2.1, hf 2, trivial⟩, trivial⟩) (cR [[], []] <| cX (qB (fun _ _ w hG => rdexpandN_any (oa ρ3 2) (nb ρ3 2) (ot ρ3 2) (fD ii) w hG.facts0.now.2.2.2.1)) <| cR [[], [], [], [], []] <| cN) (fun ρ8 _ => ?_)
 refine aB ?_
 refine sS Tryz.f3 21 [4, 7, 9, 75] [] (fun _ => [(vi (kZ (ot ρ3 2) (fD ii))), (vi (kZ (ot ρ3 2) (fD ii))), (.bool false), (.bool false), (.slice (oa ρ5 2) (gV (ot ρ3 2) (fD ii)).length (nb ρ5 2)), (vn ((gV (ot ρ3 2) (fD ii)).length)), (.slice (oa ρ6 2) (gV (ot ρ3 2) (fD ii)).length (nb ρ6 2)), (vn ((gV (ot ρ3 2) (fD ii)).length)), (.bool false), (.bool false), (.bool false), (vi (exE (ot ρ3 2) (fD ii))), (vi (exE (ot ρ3 2) (fD ii))), (.bool false), (.bool false), (.bool false), (.slice (oa ρ7 2) (wG (ot ρ3 2) (fD ii)).length (nb ρ7 2)), (.slice (oa ρ8 2) (wG (ot ρ3 2) (fD ii)).length (nb ρ8 2)), (.bool true), (.bool false), (.bool false)]) (fun _ => []) (cR [[], []] <| cA (v := fun ρ => (.bool ((kZ (ot ρ3 2) (fD ii)) != (kZ (ot ρ3 2) (fD ii))))) (fun _ => (.bool false)) (fun _ => congrArg Value.bool (bne_self_eq_false _)) <| cR [[], [], [], [], []] <| cA (v := fun ρ => (.bool ((((gV (ot ρ3 2) (fD ii)).length : Nat) : Int) != (((gV (ot ρ3 2) (fD ii)).length : Nat) : Int)))) (fun _ => (.bool false)) (fun _ => congrArg Value.bool (bne_self_eq_false _)) <| cR [[], [], [], []] <| cA (v := fun ρ => (.bool ((exE (ot ρ3 2) (fD ii)) != (exE (ot ρ3 2) (fD ii))))) (fun _ => (.bool false)) (fun _ => congrArg Value.bool (bne_self_eq_false _)) <| cR [[], [], [], []] <| cX (qC (fun _ _ w hG => same6_eq (oa ρ7 2) (nb ρ7 2) (wG (ot ρ3 2) (fD ii)) (oa ρ8 2) (nb ρ8 2) w hG.facts0.now.2.2.2.2.2.2.1.1 hG.facts0.now.2.2.2.2.2.2.2.1.1)) <| cR [[], []] <| cN) (fun _ => ?_)
 refine oN ?_
 refine aG ?_
 refine aA ?_
 refine aB ?_
 refine sS Tryz.f3 3 [4, 7, 9, 77, 78] [] (fun _ => [(.slice (oa ρ5 2) (gV (ot ρ3 2) (fD ii)).length (nb ρ5 2)), (vn ((gV (ot ρ3 2) (fD ii)).length)), (vi 0)]) (fun _ => []) (cR [[], [], []] <| cN) (fun _ => ?_)
 refine aI ?_
 refine oL (σ := Nat) (fun k => [(7, (.slice (oa ρ5 2) (gV (ot ρ3 2) (fD ii)).length (nb ρ5 2))), (9, (.slice (oa ρ6 2) (gV (ot ρ3 2) (fD ii)).length (nb ρ6 2))), (77, (vn ((gV (ot ρ3 2) (fD ii)).length))), (78, (vn k))]) (fun _ => []) (fun k => (gV (ot ρ3 2) (fD ii)).length - k)
   (fun k => (k ≤ (gV (ot ρ3 2) (fD ii)).length)) 0 (Nat.zero_le _) [] ?_
 rintro k hk
 change Ok Tryz.prog _ _ 91 [(7, (.slice (oa ρ5 2) (gV (ot ρ3 2) (fD ii)).length (nb ρ5 2))), (9, (.slice (oa ρ6 2) (gV (ot ρ3 2) (fD ii)).length (nb ρ6 2))), (77, (vn ((gV (ot ρ3 2) (fD ii)).length))), (78, (vn k))] _ [] (fun w => kJ w ∧ kX w ∧ Is w .i64 a c zs ∧ TmN w (oa ρ3 2) (nb ρ3 2) (ot ρ3 2) ∧ Us w (oa ρ5 2) (nb ρ5 2) (gV (ot ρ3 2) (fD ii)) ∧ Us w (oa ρ6 2) (nb ρ6 2) (gV (ot ρ3 2) (fD ii)) ∧ Fs w0 w (oa ρ7 2) (nb ρ7 2) (wG (ot ρ3 2) (fD ii)) ∧ Fs w0 w (oa ρ8 2) (nb ρ8 2) (wG (ot ρ3 2) (fD ii)) ∧ True)
 refine sS Tryz.f3 1 [7, 9, 77, 78, 79] [] (fun _ => [(.bool (decide (((k : Nat) : Int) < (((gV (ot ρ3 2) (fD ii)).length : Nat) : Int))))]) (fun _ => []) (cR [[]] <| cN) (fun _ => ?_)
 refine aB ?_
 refine oC (decide (((k : Nat) : Int) < (((gV (ot ρ3 2) (fD ii)).length : Nat) : Int))) (fun hb1 => ?_) (fun hb1 => ?_)
 ·
  rw [hb1]
  refine aG ?_
  refine aA ?_
  refine aB ?_
  refine aI ?_
  refine sS Tryz.f3 2 [7, 9, 15, 77, 78] [] (fun _ => [(vn k), (vn k)]) (fun _ => []) (cR [[], []] <| cN) (fun _ => ?_)
  refine sD Tryz.f3 [0, 0, 3, 7, 0, 0, 48, 112, 255] 9 [7, 9, 77, 78, 89] [] (fun _ => [(.slice (oa ρ5 2) (gV (ot ρ3 2) (fD ii)).length (nb ρ5 2)), (vn k), (.pointer (fK (oa ρ5 2) (k * 4))), (U (gU (gV (ot ρ3 2) (fD ii)) k)), (.slice (oa ρ6 2) (gV (ot ρ3 2) (fD ii)).length (nb ρ6 2)), (vn k), (.pointer (fK (oa ρ6 2) (k * 4))), (U (gU (gV (ot ρ3 2) (fD ii)) k)), (.bool false)]) (fun _ => []) (cR [[], []] <| cX (qF (fun _ _ _ hG => Us.idx (k := .i64) Tryz.underlying29 Tryz.sizeOf39 hG.facts0.now.2.2.2.2.1 rfl ((show ((k : Nat) : Int) = ((k : Nat) : Int) ∧ k < (gV (ot ρ3 2) (fD ii)).length from ⟨rfl, (by have := yT hb1; have := hk; have := oH (ot ρ3 2) (fD ii); omega)⟩)).1 ((show ((k : Nat) : Int) = ((k : Nat) : Int) ∧ k < (gV (ot ρ3 2) (fD ii)).length from ⟨rfl, (by have := yT hb1; have := hk; have := oH (ot ρ3 2) (fD ii); omega)⟩)).2)) <| cX (qF (fun _ _ _ hG => Us.ldA Tryz.isAgg39 Tryz.sizeOf39 hG.facts0.now.2.2.2.2.1 ((show ((k : Nat) : Int) = ((k : Nat) : Int) ∧ k < (gV (ot ρ3 2) (fD ii)).length from ⟨rfl, (by have := yT hb1; have := hk; have := oH (ot ρ3 2) (fD ii); omega)⟩)).2)) <| cR [[], []] <| cX (qF (fun _ _ _ hG => Us.idx (k := .i64) Tryz.underlying29 Tryz.sizeOf39 hG.facts0.now.2.2.2.2.2.1 rfl ((show ((k : Nat) : Int) = ((k : Nat) : Int) ∧ k < (gV (ot ρ3 2) (fD ii)).length from ⟨rfl, (by have := yT hb1; have := hk; have := oH (ot ρ3 2) (fD ii); omega)⟩)).1 ((show ((k : Nat) : Int) = ((k : Nat) : Int) ∧ k < (gV (ot ρ3 2) (fD ii)).length from ⟨rfl, (by have := yT hb1; have := hk; have := oH (ot ρ3 2) (fD ii); omega)⟩)).2)) <| cX (qF (fun _ _ _ hG => Us.ldA Tryz.isAgg39 Tryz.sizeOf39 hG.facts0.now.2.2.2.2.2.1 ((show ((k : Nat) : Int) = ((k : Nat) : Int) ∧ k < (gV (ot ρ3 2) (fD ii)).length from ⟨rfl, (by have := yT hb1; have := hk; have := oH (ot ρ3 2) (fD ii); omega)⟩)).2)) <| cB (a := fun ρ => (U (gU (gV (ot ρ3 2) (fD ii)) k))) (b := fun ρ => (U (gU (gV (ot ρ3 2) (fD ii)) k))) (v := fun ρ => (.bool false)) .neq 39 (fun _ _ => neqU_same (gU (gV (ot ρ3 2) (fD ii)) k) (gU_ok (kyN_ok ho _) k) _) <| cN) (fun _ => ?_)
  refine oN ?_
  refine aG ?_
  refine aJ ?_
  refine aA ?_
  refine rS Tryz.f3 2 [7, 9, 77, 78] [] (fun _ => [(vn (k + 1)), (vn (k + 1))]) (fun _ => []) (cA (v := fun ρ => (vi (IntKind.i64.wrap (((k : Nat) : Int) + 1)))) (fun _ => (vn (k + 1))) (fun _ => congrArg (Value.int .i64) (aW k 1 (by have := yT hb1; have := hk; have := oH (ot ρ3 2) (fD ii); omega))) <| cR [[]] <| cN) (fun _ => ?_)
  exact mN (k + 1) (by show (gV (ot ρ3 2) (fD ii)).length - (k + 1) < (gV (ot ρ3 2) (fD ii)).length - k; have := yT hb1; have := hk; have := oH (ot ρ3 2) (fD ii); omega) ((by have := yT hb1; have := hk; have := oH (ot ρ3 2) (fD ii); omega)) []
 ·
  rw [hb1]
  refine bF ?_
  refine aN ?_
  refine aN ?_
  refine aT ?_
  refine aA ?_
  refine sS Tryz.f3 1 [4] [] (fun _ => [(.bool true)]) (fun _ => []) (cR [[]] <| cN) (fun _ => ?_)
  refine aF ?_
  exact mR (v := (.bool true)) (fun _ hS => ⟨rfl, hS.bel⟩)
namespace descriptorExpands
open Go.ChangeShapes Go.WideShapes Go.ChangeAt Go.RowKit
set_option maxRecDepth 100000 in
theorem lifted (os : Os) (started : os.Started) (H : Type) (enc : TypeId × Value → H) :
    ReturnsInHanded {} Tryz.checked os 3 .any (fun w args => (Rows.descriptorExpandsSpec.pre enc Tryz.prog Tryz.f3 Rows.descriptorExpandsRow.domain false w args ∧ laidMetH Tryz.prog zK w) ∧ sizedMet enc Tryz.prog Tryz.f3 (OpenSpec.ofChange Rows.descriptorExpandsSpec) false w args) (Rows.descriptorExpandsSpec.post enc Tryz.prog Tryz.f3 false true false false) := by
  refine returnsInHanded_of_change_and (C := Tryz.checked) (X := fun w _ => laidMetH Tryz.prog zK w) (fun _ _ _ hh h => h.of_heap hh) own started (by kernel_rfl) Tryz.func3
    (ChangeSpec.witness_shaped (enc := enc) (C := Tryz.checked) (os := os) (X := fun w _ => laidMetH Tryz.prog zK w) false (World.doorLaid Tryz.prog 400 os) #[.slice none 0 0, .int .i64 0] 8 rfl (World.shaped_of_RefB (by kernel_rfl) (by kernel_rfl)) (by kernel_rfl) (by kernel_rfl) (by kernel_rfl) (door_met os _)) ?_
  intro W base args ds gs before hval0 hW hcnd hsz hL _
  have hval : ∀ (j : Nat) t v, Tryz.f3.params[j]? = some t → args[j]? = some v → Value.okWide Tryz.prog W .any base t v := hval0
  have hW' := hW
  obtain ⟨p, q, hA0, hV, rfl, hfz, hnd⟩ := hW
  have hA : DataW.TrodAll enc Tryz.prog W 0 (fun _ => true) true Tryz.f3.params.toList args.toList ds p := hA0
  rw [Tryz.params3] at hA hval
  obtain ⟨v0, vs0, d0, ds0, p0, q0, hargs, rfl, rfl, h0, r0⟩ := trodAll_cons hA
  obtain ⟨v1, vs1, d1, ds1, p1, q1, rfl, rfl, rfl, h1, r1⟩ := trodAll_cons r0
  obtain ⟨rfl, rfl, rfl⟩ := trodAll_nil r1
  obtain rfl : args = #[v0, v1] := by cases args; simp_all
  obtain ⟨rfl, rfl⟩ := trodVars_none hV
  have k0 := h0
  have lt0 : ∀ x ∈ p0, x.block < W.heap.size := by obtain ⟨m, hm⟩ := k0; exact DataW.trod_lt m _ _ _ hm
  have k1 := h1
  have lt1 : ∀ x ∈ p1, x.block < W.heap.size := by obtain ⟨m, hm⟩ := k1; exact DataW.trod_lt m _ _ _ hm
  have s0 : ∀ elems spare, d0 = .slice elems spare → elems.length + spare.length ≤ 140737488351232 := by
    intro elems spare hd
    have hb : Tryz.checked.prog.bytesOf 3 = 8 := by kernel_rfl
    have := sized_slice hsz (j := 0) (t := 22) (e := 3) (elems := elems) (spare := spare) (by kernel_rfl) (by rw [hd]; rfl) Tryz.underlying22
    have hr : reachBytes = 140737488351232 := by kernel_rfl
    rw [hb, hr] at this
    omega
  obtain ⟨a0, c0, x0, rfl, w0, y0⟩ := open_ilist Tryz.underlying22 Tryz.underlying3 (by kernel_rfl) (hval 0 22 v0 rfl rfl) h0 s0
  obtain ⟨z1, rfl, rfl, rfl, y1⟩ := open_int Tryz.underlying3 (hval 1 3 v1 rfl rfl) h1
  have w1 := i64_of y1
  obtain ⟨hK, hI⟩ := laid_two hL
  clear hA0 hval0
  refine (descriptorExpands_any a0 c0 x0 z1 (fun z hz => i64_of (y0 z hz)) w1 W hK hI w0).mono fun e W' ⟨he, bel⟩ => ?_
  subst he
  exact ⟨_, rfl, _, _, _, [], _, [], hW', trodAll_mk1 (shut_bool Tryz.underlying4 _), (trodAll_cons_mk (Below.trod laidOut (by kernel_rfl) (of_decide_eq_true (by kernel_rfl)) k0 bel lt0) (trodAll_cons_mk (Below.trod laidOut (by kernel_rfl) (of_decide_eq_true (by kernel_rfl)) k1 bel lt1) trodAll_mk0)), rfl, bel.frame _, fun h => by cases h⟩
theorem over : Rows.descriptorExpandsRow.holds Tryz.pinned (OpenSpec.ofChange Rows.descriptorExpandsSpec) :=
  OpenClaim.holds_of_wide 3 Tryz.f3 rfl rfl rfl rfl rfl rfl rfl ⟨rfl, rfl, rfl, rfl, rfl⟩ rfl rfl rfl rfl rfl (by kernel_rfl) Tryz.func3 (by kernel_rfl)
    (of_decide_eq_true (by kernel_rfl)) (by unfold Func.isWrapper; first | (rw [if_pos (by decide +kernel)]; kernel_rfl) | (rw [if_neg (by decide +kernel)]; exact ⟨rfl, rfl⟩))
    (fun os started H enc _ => lifted os started H enc)
theorem proved : Rows.DescriptorExpandsCardSaid :=
  Claim7.holds_tied_plain_at .later [] [.data, .data] true (true, "a43dbffef8f0c7838fcfc23b7add7368b802a0991172885b7b6d0926ec8a7314") false
    over (fun _ h => by cases h) (by kernel_rfl) (fun _ h => by cases h) descriptorExpands_row_tie rfl ⟨rfl, rfl⟩ (by kernel_rfl) rfl
    (fun f fn hf hfn => by
      obtain rfl : f = 3 := Option.some.inj ((show Tryz.prog.funcNamed "lightclient/lightclientlaw26.DescriptorExpands" = some 3 by kernel_rfl).symm.trans hf) |>.symm
      obtain rfl : fn = Tryz.f3 := (Option.some.inj (Tryz.func3.symm.trans hfn)).symm
      exact ⟨by kernel_rfl, fun j t ht => by
        rw [Tryz.params3] at ht
        rcases j with _ | _ | j
        · have ht2 : t = 22 := by simpa using ht.symm
          subst ht2
          exact (show Tryz.prog.wantsStandIn 22 = false by kernel_rfl)
        · have ht2 : t = 3 := by simpa using ht.symm
          subst ht2
          exact (show Tryz.prog.wantsStandIn 3 = false by kernel_rfl)
        · simp at ht⟩)
    (by kernel_rfl)
#print axioms proved
end descriptorExpands
end Go.Proofs.YtaebcmpbbamfpaaGreatDoor
