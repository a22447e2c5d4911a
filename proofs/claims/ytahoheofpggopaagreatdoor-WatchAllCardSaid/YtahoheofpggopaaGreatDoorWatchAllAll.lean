/-
  The statement WatchAll: for every input the law returns true, and each argument reads behind the call as it read before. No condition.
-/
import Derived.Test.YtahoheofpggopaaGreatDoorBase4
import Derived.Test.YtahoheofpggopaaGreatDoorRows
import Derived.Test.YtahoheofpggopaaGreatDoorCards
import Derived.Test.YtahoheofpggopaaGreatDoorTie
import Derived.SevenTiedAt
import Derived.LaidMore
import Derived.LaidHandle
import Derived.Stop.Joined
import Derived.WalkKit
import Derived.ProofKit
import Derived.OpenShut
import Derived.SizedLaws
set_option maxRecDepth 100000
namespace Go.Proofs.YtahoheofpggopaaGreatDoor
open Go Go.RowKit
theorem watchAll_any (a : Option Addr) (c : Nat) (L : List kF) (w0 : World) (hf0 : kJ w0) (hf1 : fD w0) (hf2 : LsF w0 a c L) : Calls Tryz.prog 6 #[(.slice a (L).length c)] w0 (fun ε w' => ε = .returned (.bool true) ∧ Below w0.heap.size w0 w') := by
 refine Calls.of_ok (n := 31) (F := (fun w => kJ w ∧ fD w ∧ LsF w a c L ∧ True)) Tryz.func6 rfl rfl rfl (by simp) (hf0.pers0.and (hf1.pers0.and (hf2.pers0.and cO))) ?_
 have hlen : (L).length ≤ 140737488351232 := hf2.max
 refine sS Tryz.f6 1 [0, 2] [] (fun _ => [(.bool false)]) (fun _ => []) (cR [[]] <| cN) (fun _ => ?_)
 refine aB ?_
 refine sS Tryz.f6 2 [0, 2, 7] [] (fun _ => [(.bool true), (.bool false)]) (fun _ => []) (cX (qC (fun _ _ w hG => wsane_any w hG.facts0.now.1 hG.facts0.now.2.1)) <| cR [[]] <| cN) (fun _ => ?_)
 refine oN ?_
 refine aG ?_
 refine aA ?_
 refine aB ?_
 refine sS Tryz.f6 3 [0, 2, 10] [] (fun _ => [(.slice a (L).length c), (vn (L).length), (.bool (decide (5 < (((L).length : Nat) : Int))))]) (fun _ => []) (cR [[], [], []] <| cN) (fun _ => ?_)
 refine oC (decide (5 < (((L).length : Nat) : Int))) (fun hb1 => ?_) (fun hb1 => ?_)
 ·
  rw [hb1]
  refine sS Tryz.f6 1 [0, 2] [] (fun _ => [(.bool true)]) (fun _ => []) (cR [[]] <| cN) (fun _ => ?_)
  refine aF ?_
  refine aC ?_
  exact mR (v := (.bool true)) (fun _ hS => ⟨rfl, hS.bel⟩)
 ·
  rw [hb1]
  refine aG ?_
  refine aA ?_
  refine sS Tryz.f6 1 [0, 2, 3] [] (fun _ => [(.slice none 0 0)]) (fun _ => []) (cR [[]] <| cN) (fun _ => ?_)
  refine aB ?_
  refine sS Tryz.f6 3 [2, 3, 11, 12, 13] [] (fun _ => [(.slice a (L).length c), (vn (L).length), (vi 0)]) (fun _ => []) (cR [[], [], []] <| cN) (fun _ => ?_)
  refine aI ?_
  refine oLF (σ := (Nat) ⊕ (Nat × Nat × (Array Value) × (List kF) × Nat)) (fun s => match s with | Sum.inl _ => (fun w => kJ w ∧ fD w ∧ LsF w a c L ∧ True) | Sum.inr ⟨_, _, _, _, _⟩ => (fun w => kJ w ∧ fD w ∧ LsF w a c L ∧ True)) (fun s => match s with | Sum.inl i => [(3, (.slice none 0 0)), (11, (.slice a (L).length c)), (12, (vn (L).length)), (13, (vn i))] | Sum.inr ⟨i, q, _, M, κ⟩ => [(3, (vs q (M).length κ)), (11, (.slice a (L).length c)), (12, (vn (L).length)), (13, (vn i))]) (fun s => match s with | Sum.inl _ => [] | Sum.inr ⟨_, q, C, _, _⟩ => [(q, (cL C 31))]) (fun s => match s with | Sum.inl i => (L).length - i | Sum.inr ⟨i, _, _, _, _⟩ => (L).length - i)
    (fun s => match s with | Sum.inl i => (i = 0) | Sum.inr ⟨i, _, C, M, κ⟩ => (i ≤ (L).length) ∧ (M = L.take i) ∧ (kV.A C M κ) ∧ (∀ x ∈ M, x.l.length ≤ 8)) (Sum.inl 0) (rfl) (fun w hF => hF) [] ?_
  rintro (i | ⟨i, q, C, M, κ⟩)
  ·
   rintro h0
   change Ok Tryz.prog _ _ 31 [(3, (.slice none 0 0)), (11, (.slice a (L).length c)), (12, (vn (L).length)), (13, (vn i))] _ [] (fun w => kJ w ∧ fD w ∧ LsF w a c L ∧ True)
   refine sS Tryz.f6 1 [3, 11, 12, 13, 14] [] (fun _ => [(.bool (decide (((i : Nat) : Int) < (((L).length : Nat) : Int))))]) (fun _ => []) (cR [[]] <| cN) (fun _ => ?_)
   refine aB ?_
   refine oC (decide (((i : Nat) : Int) < (((L).length : Nat) : Int))) (fun hb2 => ?_) (fun hb2 => ?_)
   ·
    rw [hb2]
    refine aG ?_
    refine aA ?_
    refine aB ?_
    refine aI ?_
    refine sS Tryz.f6 3 [3, 5, 11, 12, 13] [] (fun _ => [(.pointer (fK a i)), (.slice ((gW L i).a) ((gW L i).l).length ((gW L i).c)), (.slice ((gW L i).a) ((gW L i).l).length ((gW L i).c))]) (fun _ => []) (cX (qF (fun _ _ _ hG => LsF.idx (k := .i64) Tryz.underlying48 Tryz.sizeOf29 hG.facts0.now.2.2.1 rfl ((show ((i : Nat) : Int) = ((i : Nat) : Int) ∧ i < (L).length from ⟨rfl, (by have := yF hb1; have := yT hb2; have := hlen; have := h0; omega)⟩)).1 ((show ((i : Nat) : Int) = ((i : Nat) : Int) ∧ i < (L).length from ⟨rfl, (by have := yF hb1; have := yT hb2; have := hlen; have := h0; omega)⟩)).2)) <| cX (qF (fun _ _ _ hG => LsF.ld Tryz.isAgg29 hG.facts0.now.2.2.1 ((show ((i : Nat) : Int) = ((i : Nat) : Int) ∧ i < (L).length from ⟨rfl, (by have := yF hb1; have := yT hb2; have := hlen; have := h0; omega)⟩)).2)) <| cR [[]] <| cN) (fun _ => ?_)
    refine aB ?_
    refine sS Tryz.f6 3 [3, 5, 11, 12, 13, 19] [] (fun _ => [(.slice ((gW L i).a) ((gW L i).l).length ((gW L i).c)), (vn (((gW L i).l).length)), (.bool (decide (8 < ((((gW L i).l).length : Nat) : Int))))]) (fun _ => []) (cR [[], [], []] <| cN) (fun _ => ?_)
    refine oC (decide (8 < ((((gW L i).l).length : Nat) : Int))) (fun hb3 => ?_) (fun hb3 => ?_)
    ·
     rw [hb3]
     refine sS Tryz.f6 1 [2, 3, 5, 11, 12, 13] [] (fun _ => [(.bool true)]) (fun _ => []) (cR [[]] <| cN) (fun _ => ?_)
     refine aF ?_
     refine aC ?_
     refine aP ?_
     refine aC ?_
     refine aC ?_
     refine aP ?_
     refine aC ?_
     exact mR (v := (.bool true)) (fun _ hS => ⟨rfl, hS.bel⟩)
    ·
     rw [hb3]
     refine aG ?_
     refine aA ?_
     refine rS Tryz.f6 6 [3, 11, 12, 13] [0, 1] (fun ρ => [(.slice none 0 0), (.slice ((gW L i).a) ((gW L i).l).length ((gW L i).c)), (.agg #[(.slice none 0 0), (vi 0), (vi 0), (.slice ((gW L i).a) ((gW L i).l).length ((gW L i).c))]), (vs (nb ρ 3) 1 1), (vs (nb ρ 4) ([kF.mk ((gW L i).a) ((gW L i).c) ((gW L i).l)]).length (([kF.mk ((gW L i).a) ((gW L i).c) ((gW L i).l)]).length + aZ ρ 4)), (vs (nb ρ 4) ([kF.mk ((gW L i).a) ((gW L i).c) ((gW L i).l)]).length (([kF.mk ((gW L i).a) ((gW L i).c) ((gW L i).l)]).length + aZ ρ 4))]) (fun ρ => [(3, (nw ρ 3 (cL #[(.slice none 0 0), (vi 0), (vi 0), (.slice ((gW L i).a) ((gW L i).l).length ((gW L i).c))] 31))), (4, (nw ρ 4 (cL ((kV.r ([kF.mk ((gW L i).a) ((gW L i).c) ((gW L i).l)])).toArray ++ Builtin.zeroCells (Value.cells (.agg #[(.slice none 0 0), (vi 0), (vi 0), (.slice none 0 0)])) (aZ ρ 4)) 31)))]) (cR [[], [], [], []] <| cX (qN (fun _ ζ => (vs (ζ.headD 0) ([kF.mk ((gW L i).a) ((gW L i).c) ((gW L i).l)]).length (([kF.mk ((gW L i).a) ((gW L i).c) ((gW L i).l)]).length + ζ.tail.headD 0))) (fun _ ζ => (cL ((kV.r ([kF.mk ((gW L i).a) ((gW L i).c) ((gW L i).l)])).toArray ++ Builtin.zeroCells (Value.cells (.agg #[(.slice none 0 0), (vi 0), (vi 0), (.slice none 0 0)])) (ζ.tail.headD 0)) 31)) (fun ρ _ _ hG => pX (K := kV) (ty := 49) (us := [kF.mk ((gW L i).a) ((gW L i).c) ((gW L i).l)]) Tryz.underlying49 (dA (sz := 4) (b := 64) (z := (.agg #[(.slice none 0 0), (vi 0), (vi 0), (.slice none 0 0)])) (by kernel_rfl) rfl) (src_w1 Tryz.underlying49 rfl (hG.kn (g := nb ρ 3) (o := (cL #[(.slice none 0 0), (vi 0), (vi 0), (.slice ((gW L i).a) ((gW L i).l).length ((gW L i).c))] 31)) 24)) (Nat.le_of_ble_eq_true rfl) (Nat.le_of_ble_eq_true rfl) (by decide))) <| cR [[]] <| cN) (fun ρ11 => ?_)
     refine aJ ?_
     refine aA ?_
     refine rS Tryz.f6 2 [3, 11, 12, 13] [] (fun _ => [(vn (i + 1)), (vn (i + 1))]) (fun _ => []) (cA (v := fun ρ => (vi (IntKind.i64.wrap (((i : Nat) : Int) + 1)))) (fun _ => (vn (i + 1))) (fun _ => congrArg (Value.int .i64) (aW i 1 (by have := yF hb1; have := yT hb2; have := yF hb3; have := hlen; have := h0; omega))) <| cR [[]] <| cN) (fun _ => ?_)
     refine mD [(3, (vs (nb ρ11 4) ([kF.mk ((gW L i).a) ((gW L i).c) ((gW L i).l)]).length (([kF.mk ((gW L i).a) ((gW L i).c) ((gW L i).l)]).length + aZ ρ11 4))), (11, (.slice a (L).length c)), (12, (vn (L).length)), (13, (vn (i + 1)))] [(nb ρ11 4, (cL ((kV.r ([kF.mk ((gW L i).a) ((gW L i).c) ((gW L i).l)])).toArray ++ Builtin.zeroCells (Value.cells (.agg #[(.slice none 0 0), (vi 0), (vi 0), (.slice none 0 0)])) (aZ ρ11 4)) 31))] ?_
     exact mNF (Sum.inr (i + 1, nb ρ11 4, (kV.r ([kF.mk ((gW L i).a) ((gW L i).c) ((gW L i).l)])).toArray ++ Builtin.zeroCells (Value.cells (.agg #[(.slice none 0 0), (vi 0), (vi 0), (.slice none 0 0)])) (aZ ρ11 4), [kF.mk ((gW L i).a) ((gW L i).c) ((gW L i).l)], ([kF.mk ((gW L i).a) ((gW L i).c) ((gW L i).l)]).length + aZ ρ11 4)) (by show (L).length - (i + 1) < (L).length - i; have := yF hb1; have := yT hb2; have := yF hb3; have := hlen; have := h0; omega) (⟨(by have := yF hb1; have := yT hb2; have := yF hb3; have := hlen; have := h0; omega), (by have q := take_w (show i < L.length from (by have := yF hb1; have := yT hb2; have := yF hb3; have := hlen; have := h0; omega)); rw [show L.take i = [] by rw [h0]; rfl] at q; exact q), (RowK.A.fresh (K := kV) (z := (.agg #[(.slice none 0 0), (vi 0), (vi 0), (.slice none 0 0)])) rfl ([kF.mk ((gW L i).a) ((gW L i).c) ((gW L i).l)]) (aZ ρ11 4)), (fun x hx => by have h := (yF hb3); rw [List.mem_singleton.1 hx]; show (gW L i).l.length ≤ 8; omega)⟩) (fun w hS => hS.weaken (fun w hF => ⟨hF.1, hF.2.1, hF.2.2.1, trivial⟩))
   ·
    rw [hb2]
    refine bF ?_
    refine aN ?_
    refine aN ?_
    refine aT ?_
    refine aA ?_
    refine iZ Tryz.f6 6 [2] [] (fun ρ => [(.slice none 0 0), (.slice (oa ρ 1) (os ρ 1).length (nb ρ 1)), (.slice none 0 0), (.slice (oa ρ 3) (os ρ 3).length (nb ρ 3)), (.bool true), (.bool true)]) (fun _ => []) (fun ρ => [(1, fun w => (bU w (oa ρ 1) (nb ρ 1) (os ρ 1) ∧ sB (os ρ 1) = allB [] ∧ lW w0.heap.size (os ρ 1) ∧ fU w0.heap.size (oa ρ 1))), (3, fun w => (bU w (oa ρ 3) (nb ρ 3) (os ρ 3) ∧ sB (os ρ 3) = allB []))]) (fun ρ => (fun w => kJ w ∧ fD w ∧ LsF w a c L ∧ bU w (oa ρ 1) (nb ρ 1) (os ρ 1) ∧ bU w (oa ρ 3) (nb ρ 3) (os ρ 3) ∧ True)) (fun ρ => (sB (os ρ 1) = allB [] ∧ lW w0.heap.size (os ρ 1) ∧ fU w0.heap.size (oa ρ 1)) ∧ sB (os ρ 3) = allB []) (fun _ _ hF hf => ⟨⟨hF.1, hF.2.1, hF.2.2.1, (hf 1).1, (hf 3).1, trivial⟩, ⟨(hf 1).2, (hf 3).2⟩⟩) (cR [[]] <| cX (qE (fun _ τ w hG => wall_any none 0 [] (Nat.zero_le _) (fun _ h => absurd h (by simp)) w lX.nil τ hG.lt)) <| cR [[]] <| cX (qS3 (fun _ τ w hG => rwall_any none 0 [] (Nat.zero_le _) (fun _ h => absurd h (by simp)) w lX.nil τ hG.lt ((hG.facts0).mono (fun _ _ _ hx => absurd hx (by simp))))) <| cX (qC (fun ρ _ w hG => wsame_any (oa ρ 1) (nb ρ 1) (os ρ 1) (oa ρ 3) (nb ρ 3) (os ρ 3) ((show (bU w (oa ρ 1) (nb ρ 1) (os ρ 1) ∧ sB (os ρ 1) = allB [] ∧ lW w0.heap.size (os ρ 1) ∧ fU w0.heap.size (oa ρ 1)) from (hG.facts 1 rfl).now).2.1.trans (show (bU w (oa ρ 3) (nb ρ 3) (os ρ 3) ∧ sB (os ρ 3) = allB []) from (hG.facts 3 rfl).now).2.symm) w ((show (bU w (oa ρ 1) (nb ρ 1) (os ρ 1) ∧ sB (os ρ 1) = allB [] ∧ lW w0.heap.size (os ρ 1) ∧ fU w0.heap.size (oa ρ 1)) from (hG.facts 1 rfl).now).1) ((show (bU w (oa ρ 3) (nb ρ 3) (os ρ 3) ∧ sB (os ρ 3) = allB []) from (hG.facts 3 rfl).now).1))) <| cR [[]] <| cN) (fun _ ⟨ap13_1, ap13_3⟩ => ?_)
    refine aF ?_
    exact mR (v := (.bool true)) (fun _ hS => ⟨rfl, hS.bel⟩)
  ·
   rintro ⟨hi, hM, hA, h8⟩
   change Ok Tryz.prog _ _ 31 [(3, (vs q (M).length κ)), (11, (.slice a (L).length c)), (12, (vn (L).length)), (13, (vn i))] _ [(q, (cL C 31))] (fun w => kJ w ∧ fD w ∧ LsF w a c L ∧ True)
   refine sS Tryz.f6 1 [3, 11, 12, 13, 14] [] (fun _ => [(.bool (decide (((i : Nat) : Int) < (((L).length : Nat) : Int))))]) (fun _ => []) (cR [[]] <| cN) (fun _ => ?_)
   refine aB ?_
   refine oC (decide (((i : Nat) : Int) < (((L).length : Nat) : Int))) (fun hb4 => ?_) (fun hb4 => ?_)
   ·
    rw [hb4]
    refine aG ?_
    refine aA ?_
    refine aB ?_
    refine aI ?_
    refine sS Tryz.f6 3 [3, 5, 11, 12, 13] [] (fun _ => [(.pointer (fK a i)), (.slice ((gW L i).a) ((gW L i).l).length ((gW L i).c)), (.slice ((gW L i).a) ((gW L i).l).length ((gW L i).c))]) (fun _ => []) (cX (qF (fun _ _ _ hG => LsF.idx (k := .i64) Tryz.underlying48 Tryz.sizeOf29 hG.facts0.now.2.2.1 rfl ((show ((i : Nat) : Int) = ((i : Nat) : Int) ∧ i < (L).length from ⟨rfl, (by have := yF hb1; have := yT hb4; have := hlen; have := hi; omega)⟩)).1 ((show ((i : Nat) : Int) = ((i : Nat) : Int) ∧ i < (L).length from ⟨rfl, (by have := yF hb1; have := yT hb4; have := hlen; have := hi; omega)⟩)).2)) <| cX (qF (fun _ _ _ hG => LsF.ld Tryz.isAgg29 hG.facts0.now.2.2.1 ((show ((i : Nat) : Int) = ((i : Nat) : Int) ∧ i < (L).length from ⟨rfl, (by have := yF hb1; have := yT hb4; have := hlen; have := hi; omega)⟩)).2)) <| cR [[]] <| cN) (fun _ => ?_)
    refine aB ?_
    refine sS Tryz.f6 3 [3, 5, 11, 12, 13, 19] [] (fun _ => [(.slice ((gW L i).a) ((gW L i).l).length ((gW L i).c)), (vn (((gW L i).l).length)), (.bool (decide (8 < ((((gW L i).l).length : Nat) : Int))))]) (fun _ => []) (cR [[], [], []] <| cN) (fun _ => ?_)
    refine oC (decide (8 < ((((gW L i).l).length : Nat) : Int))) (fun hb5 => ?_) (fun hb5 => ?_)
    ·
     rw [hb5]
     refine sS Tryz.f6 1 [2, 3, 5, 11, 12, 13] [] (fun _ => [(.bool true)]) (fun _ => []) (cR [[]] <| cN) (fun _ => ?_)
     refine aF ?_
     refine aC ?_
     refine aP ?_
     refine aC ?_
     refine aC ?_
     refine aP ?_
     refine aC ?_
     exact mR (v := (.bool true)) (fun _ hS => ⟨rfl, hS.bel⟩)
    ·
     rw [hb5]
     refine aG ?_
     refine aA ?_
     refine rSf Tryz.f6 6 [3, 11, 12, 13] [1, 0] (fun ρ => [(vs q (M).length κ), (.slice ((gW L i).a) ((gW L i).l).length ((gW L i).c)), (.agg #[(.slice none 0 0), (vi 0), (vi 0), (.slice ((gW L i).a) ((gW L i).l).length ((gW L i).c))]), (vs (nb ρ 3) 1 1), (vs (nb ρ 4) (M ++ ([kF.mk ((gW L i).a) ((gW L i).c) ((gW L i).l)])).length (aZ ρ 4)), (vs (nb ρ 4) (M ++ ([kF.mk ((gW L i).a) ((gW L i).c) ((gW L i).l)])).length (aZ ρ 4))]) (fun ρ => [(3, (nw ρ 3 (cL #[(.slice none 0 0), (vi 0), (vi 0), (.slice ((gW L i).a) ((gW L i).l).length ((gW L i).c))] 31))), (4, (bD 0 (nb ρ 4) (cL (oc ρ 4) 31)))]) (fun ρ => [(4, fun w => kV.A (oc ρ 4) (M ++ ([kF.mk ((gW L i).a) ((gW L i).c) ((gW L i).l)])) (aZ ρ 4))]) (fun _ => (fun w => kJ w ∧ fD w ∧ LsF w a c L ∧ True)) (fun ρ => kV.A (oc ρ 4) (M ++ ([kF.mk ((gW L i).a) ((gW L i).c) ((gW L i).l)])) (aZ ρ 4)) (fun _ _ hF hf => ⟨hF, hf 4⟩) (cR [[], [], [], []] <| cX (qM 0 (fun ρ _ _ hG hg => wB (K := kV) (ty := 49) (g := q) (ts := M) (us := [kF.mk ((gW L i).a) ((gW L i).c) ((gW L i).l)]) Tryz.underlying49 (dA (sz := 4) (b := 64) (z := (.agg #[(.slice none 0 0), (vi 0), (vi 0), (.slice none 0 0)])) (by kernel_rfl) rfl) hA (src_w1 Tryz.underlying49 rfl (hG.kn (g := nb ρ 3) (o := (cL #[(.slice none 0 0), (vi 0), (vi 0), (.slice ((gW L i).a) ((gW L i).l).length ((gW L i).c))] 31)) 25)) (by have e := congrArg List.length hM; have f := @tY L i; rw [← e] at f; have := yF hb1; have := yT hb4; have := yF hb5; have := hlen; have := hi; simp only [List.length_cons, List.length_nil]; omega) (by decide) hg)) <| cR [[]] <| cN) (fun ρ18 ap18_4 => ?_)
     refine aJ ?_
     refine aA ?_
     refine rS Tryz.f6 2 [3, 11, 12, 13] [] (fun _ => [(vn (i + 1)), (vn (i + 1))]) (fun _ => []) (cA (v := fun ρ => (vi (IntKind.i64.wrap (((i : Nat) : Int) + 1)))) (fun _ => (vn (i + 1))) (fun _ => congrArg (Value.int .i64) (aW i 1 (by have := yF hb1; have := yT hb4; have := yF hb5; have := hlen; have := hi; omega))) <| cR [[]] <| cN) (fun _ => ?_)
     refine mD [(3, (vs (nb ρ18 4) (M ++ ([kF.mk ((gW L i).a) ((gW L i).c) ((gW L i).l)])).length (aZ ρ18 4))), (11, (.slice a (L).length c)), (12, (vn (L).length)), (13, (vn (i + 1)))] [(nb ρ18 4, (cL (oc ρ18 4) 31))] ?_
     exact mNF (Sum.inr (i + 1, nb ρ18 4, oc ρ18 4, M ++ ([kF.mk ((gW L i).a) ((gW L i).c) ((gW L i).l)]), aZ ρ18 4)) (by show (L).length - (i + 1) < (L).length - i; have := yF hb1; have := yT hb4; have := yF hb5; have := hlen; have := hi; omega) (⟨(by have := yF hb1; have := yT hb4; have := yF hb5; have := hlen; have := hi; omega), (by rw [hM]; exact take_w (show i < L.length from (by have := yF hb1; have := yT hb4; have := yF hb5; have := hlen; have := hi; omega))), ap18_4, (fun x hx => (List.mem_append.1 hx).elim (h8 x) (fun hx => by have h := (yF hb5); rw [List.mem_singleton.1 hx]; show (gW L i).l.length ≤ 8; omega))⟩) (fun w hS => hS.weaken (fun w hF => ⟨hF.1, hF.2.1, hF.2.2.1, trivial⟩))
   ·
    rw [hb4]
    refine bF ?_
    refine aN ?_
    refine aN ?_
    refine aT ?_
    refine aA ?_
    refine iZ Tryz.f6 6 [2] [0] (fun ρ => [(vs q (M).length κ), (.slice (oa ρ 1) (os ρ 1).length (nb ρ 1)), (vs q (M).length κ), (.slice (oa ρ 3) (os ρ 3).length (nb ρ 3)), (.bool true), (.bool true)]) (fun _ => []) (fun ρ => [(1, fun w => (bU w (oa ρ 1) (nb ρ 1) (os ρ 1) ∧ sB (os ρ 1) = allB M ∧ lW w0.heap.size (os ρ 1) ∧ fU w0.heap.size (oa ρ 1))), (3, fun w => (bU w (oa ρ 3) (nb ρ 3) (os ρ 3) ∧ sB (os ρ 3) = allB M))]) (fun ρ => (fun w => kJ w ∧ fD w ∧ LsF w a c L ∧ bU w (oa ρ 1) (nb ρ 1) (os ρ 1) ∧ bU w (oa ρ 3) (nb ρ 3) (os ρ 3) ∧ True)) (fun ρ => (sB (os ρ 1) = allB M ∧ lW w0.heap.size (os ρ 1) ∧ fU w0.heap.size (oa ρ 1)) ∧ sB (os ρ 3) = allB M) (fun _ _ hF hf => ⟨⟨hF.1, hF.2.1, hF.2.2.1, (hf 1).1, (hf 3).1, trivial⟩, ⟨(hf 1).2, (hf 3).2⟩⟩) (cR [[]] <| cX (qE (fun _ τ w hG => wall_any (some ⟨q, 0, none⟩) κ M (by have e := congrArg List.length hM; have f := @tY L i; rw [← e] at f; have := yF hb1; have := yF hb4; have := hlen; have := hi; omega) h8 w (lX.of_A (hG.kn (g := q) (o := (cL C 31)) 0) hA (by have e := congrArg List.length hM; have f := @tY L i; rw [← e] at f; have := yF hb1; have := yF hb4; have := hlen; have := hi; omega) (fun x hx => (hG.facts0.now.2.2.1).sub x (List.mem_of_mem_take (hM ▸ hx)))) τ hG.lt)) <| cR [[]] <| cX (qS3 (fun _ τ w hG => rwall_any (some ⟨q, 0, none⟩) κ M (by have e := congrArg List.length hM; have f := @tY L i; rw [← e] at f; have := yF hb1; have := yF hb4; have := hlen; have := hi; omega) h8 w (lX.of_A (hG.kn (g := q) (o := (cL C 31)) 0) hA (by have e := congrArg List.length hM; have f := @tY L i; rw [← e] at f; have := yF hb1; have := yF hb4; have := hlen; have := hi; omega) (fun x hx => (hG.facts0.now.2.2.1).sub x (List.mem_of_mem_take (hM ▸ hx)))) τ hG.lt ((hG.facts0).mono (fun _ hF x hx => hF.2.2.1.sub x (List.mem_of_mem_take (hM ▸ hx)))))) <| cX (qC (fun ρ _ w hG => wsame_any (oa ρ 1) (nb ρ 1) (os ρ 1) (oa ρ 3) (nb ρ 3) (os ρ 3) ((show (bU w (oa ρ 1) (nb ρ 1) (os ρ 1) ∧ sB (os ρ 1) = allB M ∧ lW w0.heap.size (os ρ 1) ∧ fU w0.heap.size (oa ρ 1)) from (hG.facts 1 rfl).now).2.1.trans (show (bU w (oa ρ 3) (nb ρ 3) (os ρ 3) ∧ sB (os ρ 3) = allB M) from (hG.facts 3 rfl).now).2.symm) w ((show (bU w (oa ρ 1) (nb ρ 1) (os ρ 1) ∧ sB (os ρ 1) = allB M ∧ lW w0.heap.size (os ρ 1) ∧ fU w0.heap.size (oa ρ 1)) from (hG.facts 1 rfl).now).1) ((show (bU w (oa ρ 3) (nb ρ 3) (os ρ 3) ∧ sB (os ρ 3) = allB M) from (hG.facts 3 rfl).now).1))) <| cR [[]] <| cN) (fun _ ⟨ap20_1, ap20_3⟩ => ?_)
    refine aF ?_
    exact mR (v := (.bool true)) (fun _ hS => ⟨rfl, hS.bel⟩)
namespace watchAll
open Go.ChangeShapes Go.WideShapes Go.ChangeAt Go.RowKit
set_option maxRecDepth 100000 in
theorem lifted (os : Os) (started : os.Started) (H : Type) (enc : TypeId × Value → H) :
    ReturnsInHanded {} Tryz.checked os 6 .any (fun w args => (Rows.watchAllSpec.pre enc Tryz.prog Tryz.f6 Rows.watchAllRow.domain false w args ∧ laidMetH Tryz.prog zK w) ∧ sizedMet enc Tryz.prog Tryz.f6 (OpenSpec.ofChange Rows.watchAllSpec) false w args) (Rows.watchAllSpec.post enc Tryz.prog Tryz.f6 false true false false) := by
  refine returnsInHanded_of_change_and (C := Tryz.checked) (X := fun w _ => laidMetH Tryz.prog zK w) (fun _ _ _ hh h => h.of_heap hh) own started (by kernel_rfl) Tryz.func6
    (ChangeSpec.witness_shaped (enc := enc) (C := Tryz.checked) (os := os) (X := fun w _ => laidMetH Tryz.prog zK w) false (World.doorLaid Tryz.prog 400 os) #[.slice none 0 0] 8 rfl (World.shaped_of_RefB (by kernel_rfl) (by kernel_rfl)) (by kernel_rfl) (by kernel_rfl) (by kernel_rfl) (door_met os _)) ?_
  intro W base args ds gs before hval0 hW hcnd hsz hL _
  have hval : ∀ (j : Nat) t v, Tryz.f6.params[j]? = some t → args[j]? = some v → Value.okWide Tryz.prog W .any base t v := hval0
  have hW' := hW
  obtain ⟨p, q, hA0, hV, rfl, hfz, hnd⟩ := hW
  have hA : DataW.TrodAll enc Tryz.prog W 0 (fun _ => true) true Tryz.f6.params.toList args.toList ds p := hA0
  rw [Tryz.params6] at hA hval
  obtain ⟨v0, vs0, d0, ds0, p0, q0, hargs, rfl, rfl, h0, r0⟩ := trodAll_cons hA
  obtain ⟨rfl, rfl, rfl⟩ := trodAll_nil r0
  obtain rfl : args = #[v0] := by cases args; simp_all
  obtain ⟨rfl, rfl⟩ := trodVars_none hV
  have k0 := h0
  have lt0 : ∀ x ∈ p0, x.block < W.heap.size := by obtain ⟨m, hm⟩ := k0; exact DataW.trod_lt m _ _ _ hm
  have s0 : SzOk 48 d0 := fun n hn => by
    have := List.all_eq_true.1 hsz _ (DataW.weights_mem_each (j := 0) (t := 48) (d := d0) (by kernel_rfl) rfl n hn)
    have hr : reachBytes = 140737488351232 := by kernel_rfl
    rw [← hr]
    exact of_decide_eq_true this
  obtain ⟨a0, c0, x0, rfl, w0⟩ := open_lss (hval 0 48 v0 rfl rfl) h0 s0
  obtain ⟨hK, hI⟩ := laid_two hL
  clear hA0 hval0
  refine (watchAll_any a0 c0 x0 W hK hI w0).mono fun e W' ⟨he, bel⟩ => ?_
  subst he
  exact ⟨_, rfl, _, _, _, [], _, [], hW', trodAll_mk1 (shut_bool Tryz.underlying4 _), (trodAll_cons_mk (Below.trod laidOut (by kernel_rfl) (of_decide_eq_true (by kernel_rfl)) k0 bel lt0) trodAll_mk0), rfl, bel.frame _, fun h => by cases h⟩
theorem over : Rows.watchAllRow.holds Tryz.pinned (OpenSpec.ofChange Rows.watchAllSpec) :=
  OpenClaim.holds_of_wide 6 Tryz.f6 rfl rfl rfl rfl rfl rfl rfl ⟨rfl, rfl, rfl, rfl, rfl⟩ rfl rfl rfl rfl rfl (by kernel_rfl) Tryz.func6 (by kernel_rfl)
    (of_decide_eq_true (by kernel_rfl)) (by unfold Func.isWrapper; first | (rw [if_pos (by decide +kernel)]; kernel_rfl) | (rw [if_neg (by decide +kernel)]; exact ⟨rfl, rfl⟩))
    (fun os started H enc _ => lifted os started H enc)
theorem proved : Rows.WatchAllCardSaid :=
  Claim7.holds_tied_plain_at .later [] [.data, .data] true (true, "b5e922500e40725749470a6866969fcfed273ae20294b956cf111c62f104a1ed") false
    over (fun _ h => by cases h) (by kernel_rfl) (fun _ h => by cases h) watchAll_row_tie rfl ⟨rfl, rfl⟩ (by kernel_rfl) rfl
    (fun f fn hf hfn => by
      obtain rfl : f = 6 := Option.some.inj ((show Tryz.prog.funcNamed "lightclient/lightclientlaw28.WatchAll" = some 6 by kernel_rfl).symm.trans hf) |>.symm
      obtain rfl : fn = Tryz.f6 := (Option.some.inj (Tryz.func6.symm.trans hfn)).symm
      exact ⟨by kernel_rfl, fun j t ht => by
        rw [Tryz.params6] at ht
        rcases j with _ | j
        · have ht2 : t = 48 := by simpa using ht.symm
          subst ht2
          exact (show Tryz.prog.wantsStandIn 48 = false by kernel_rfl)
        · simp at ht⟩)
    (by kernel_rfl)
#print axioms proved
end watchAll
end Go.Proofs.YtahoheofpggopaaGreatDoor
