/-
  What this statement needs, part 6: the texts of it, one behind the other.
-/
import Derived.Test.YtaebcmpbbamfpaaGreatDoorBase5
import Derived.ProofKit
import Derived.OpenShut
import Derived.Test.YtaebcmpbbamfpaaGreatDoorChecked
import Derived.SizedLaws
import Derived.ChangeSlices
import Derived.ChangeMaps5
import Derived.Test.YtaebcmpbbamfpaaGreatDoorRows
import Derived.LaidMore
import Derived.LaidHandle
import Derived.MakeChecks
import Derived.Lib.LaidTab
import Derived.ChangeArms
import Derived.WideShapes
set_option maxRecDepth 100000
namespace Go.Proofs.YtaebcmpbbamfpaaGreatDoor
open Go Go.RowKit
theorem dkeys_any (a : Option Addr) (c : Nat) (ts : List TmA) (z : Int) (w0 : World) (hf0 : TmF w0 a c ts) (hf1 : KbK w0) (hf2 : KbI w0) : Calls Tryz.prog 9 #[(.slice a (ts).length c), (vi z)] w0 (fun ε w' => ∃ α κ, ε = .returned (.tuple #[.slice α (kyN ts z).length κ, .int .i64 (kyE ts z)]) ∧ Below w0.heap.size w0 w' ∧ Pers (fun b => b < w0.heap.size) (fun w => Us w α κ (kyN ts z)) w') := by
 refine Calls.of_ok (n := 64) (F := (fun w => TmF w a c ts ∧ KbK w ∧ KbI w ∧ True)) Tryz.func9 rfl rfl rfl (by simp) (hf0.pers0.and (hf1.pers0.and (hf2.pers0.and persT))) ?_
 have hlen : ts.length ≤ 1000000 := hf0.max
 have ho : TsOk ts := hf0.oks
 refine sS Tryz.f9 2 [0, 1, 4, 5] [] (fun _ => [(.slice none 0 0), (vi 0)]) (fun _ => []) (cR [[], []] <| cN) (fun _ => ?_)
 refine ok_seq ?_
 refine sS Tryz.f9 3 [0, 1, 4, 5, 16] [] (fun _ => [(.slice a (ts).length c), (.bool (vlB ts)), (.bool (!(vlB ts)))]) (fun _ => []) (cR [[]] <| cX (qC (fun _ _ w hG => dvalid_any a c ts w hG.facts0.now.1)) <| cR [[]] <| cN) (fun _ => ?_)
 refine oC (!(vlB ts)) (fun hb1 => ?_) (fun hb1 => ?_)
 ·
  rw [hb1]
  refine sS Tryz.f9 2 [0, 1, 4, 5] [] (fun _ => [(.slice none 0 0), (vi 260)]) (fun _ => []) (cR [[], []] <| cN) (fun _ => ?_)
  refine ok_ret ?_
  refine mt_then_r ?_
  refine mD [(0, (.slice a (ts).length c)), (1, (vi z)), (4, (.slice none 0 0)), (5, (vi 260))] [] ?_
  exact mR (v := (.tuple #[(.slice none 0 0), (vi 260)])) (fun _ hS => (by rw [(ky_bad (z := z) (not_t hb1)).1, (ky_bad (z := z) (not_t hb1)).2]; exact ⟨none, 0, rfl, hS.bel, persTrue (fun _ => Us.nil)⟩))
 ·
  rw [hb1]
  refine ok_skip ?_
  refine mt_then ?_
  refine ok_seq ?_
  rcases Bool.eq_false_or_eq_true (decide (z < 0)) with hb2 | hb2
  ·
   refine sS Tryz.f9 6 [0, 1, 4, 5, 22] [] (fun _ => [(vi z), (.bool true), (.bool true), undef, undef, (.bool true)]) (fun _ => []) (cR [[]] <| cA (fun _ => (.bool true)) (fun _ => congrArg Value.bool hb2) <| cR [[], [], [], []] <| cN) (fun _ => ?_)
   refine oY ?_
   refine sS Tryz.f9 2 [0, 1, 4, 5] [] (fun _ => [(.slice none 0 0), (vi 5)]) (fun _ => []) (cR [[], []] <| cN) (fun _ => ?_)
   refine ok_ret ?_
   refine mt_then_r ?_
   refine mD [(0, (.slice a (ts).length c)), (1, (vi z)), (4, (.slice none 0 0)), (5, (vi 5))] [] ?_
   exact mR (v := (.tuple #[(.slice none 0 0), (vi 5)])) (fun _ hS => (by rw [(ky_rng (not_f hb1) (by have := yT hb2; have := hlen; omega)).1, (ky_rng (not_f hb1) (by have := yT hb2; have := hlen; omega)).2]; exact ⟨none, 0, rfl, hS.bel, persTrue (fun _ => Us.nil)⟩))
  ·
   refine sS Tryz.f9 6 [0, 1, 4, 5, 22] [] (fun _ => [(vi z), (.bool false), (.bool false), (vi z), (.bool (decide (1000 ≤ z))), (.bool (decide (1000 ≤ z)))]) (fun _ => []) (cR [[]] <| cA (fun _ => (.bool false)) (fun _ => congrArg Value.bool hb2) <| cR [[], [], [], []] <| cN) (fun _ => ?_)
   refine oC (decide (1000 ≤ z)) (fun hb3 => ?_) (fun hb3 => ?_)
   ·
    rw [hb3]
    refine sS Tryz.f9 2 [0, 1, 4, 5] [] (fun _ => [(.slice none 0 0), (vi 5)]) (fun _ => []) (cR [[], []] <| cN) (fun _ => ?_)
    refine ok_ret ?_
    refine mt_then_r ?_
    refine mD [(0, (.slice a (ts).length c)), (1, (vi z)), (4, (.slice none 0 0)), (5, (vi 5))] [] ?_
    exact mR (v := (.tuple #[(.slice none 0 0), (vi 5)])) (fun _ hS => (by rw [(ky_rng (not_f hb1) (by have := yF hb2; have := yT hb3; have := hlen; omega)).1, (ky_rng (not_f hb1) (by have := yF hb2; have := yT hb3; have := hlen; omega)).2]; exact ⟨none, 0, rfl, hS.bel, persTrue (fun _ => Us.nil)⟩))
   ·
    rw [hb3]
    refine ok_skip ?_
    refine mt_then ?_
    refine sS Tryz.f9 1 [0, 1, 4, 5, 6] [] (fun _ => [(.slice none 0 0)]) (fun _ => []) (cR [[]] <| cN) (fun _ => ?_)
    refine ok_seq ?_
    refine sS Tryz.f9 3 [1, 4, 5, 6, 23, 24, 25] [] (fun _ => [(.slice a (ts).length c), (vn (ts).length), (vi 0)]) (fun _ => []) (cR [[], [], []] <| cN) (fun _ => ?_)
    refine ok_block ?_
    refine oL (σ := (Nat) ⊕ (Nat × Nat × (List Nat) × (Array Value) × Nat)) (fun s => match s with | Sum.inl i => [(1, (vi z)), (6, (.slice none 0 0)), (23, (.slice a (ts).length c)), (24, (vn (ts).length)), (25, (vn i))] | Sum.inr ⟨i, q, N, _, κ⟩ => [(1, (vi z)), (6, (vs q (N).length κ)), (23, (.slice a (ts).length c)), (24, (vn (ts).length)), (25, (vn i))]) (fun s => match s with | Sum.inl _ => [] | Sum.inr ⟨_, q, _, C, _⟩ => [(q, (cL C 39))]) (fun s => match s with | Sum.inl i => ts.length - i | Sum.inr ⟨i, _, _, _, _⟩ => ts.length - i)
      (fun s => match s with | Sum.inl i => (i ≤ ts.length) ∧ (([] : List Nat) ++ ksN z.toNat (aK (ts.drop i)) = ksN z.toNat (aK ts)) ∧ (ksE z.toNat (aK (ts.drop i)) = ksE z.toNat (aK ts)) ∧ (True) | Sum.inr ⟨i, _, N, C, κ⟩ => (i ≤ ts.length) ∧ (N ++ ksN z.toNat (aK (ts.drop i)) = ksN z.toNat (aK ts)) ∧ (ksE z.toNat (aK (ts.drop i)) = ksE z.toNat (aK ts)) ∧ (kU.A C N κ) ∧ (∀ n ∈ N, n < M)) (Sum.inl 0) (⟨Nat.zero_le _, rfl, rfl, trivial⟩) [] ?_
    rintro (i | ⟨i, q, N, C, κ⟩)
    ·
     rintro ⟨hi, hN0, hE0, hnil0⟩
     change Ok Tryz.prog _ _ 64 [(1, (vi z)), (6, (.slice none 0 0)), (23, (.slice a (ts).length c)), (24, (vn (ts).length)), (25, (vn i))] _ [] (fun w => TmF w a c ts ∧ KbK w ∧ KbI w ∧ True)
     refine sS Tryz.f9 1 [1, 6, 23, 24, 25, 26] [] (fun _ => [(.bool (decide (((i : Nat) : Int) < (((ts).length : Nat) : Int))))]) (fun _ => []) (cR [[]] <| cN) (fun _ => ?_)
     refine ok_seq ?_
     refine oC (decide (((i : Nat) : Int) < (((ts).length : Nat) : Int))) (fun hb4 => ?_) (fun hb4 => ?_)
     ·
      rw [hb4]
      refine ok_skip ?_
      refine mt_then ?_
      refine ok_seq ?_
      refine ok_block ?_
      refine sS Tryz.f9 4 [1, 6, 8, 23, 24, 25] [] (fun ρ => [(.pointer (adr a (i * 36))), (.agg (TmA.row (gT ts i))), (pt (nb ρ 2)), undef]) (fun ρ => [(2, (nw ρ 2 (cL (tmV 0 0 0 0 (.slice none 0 0)) 46))), (3, (pwt 16 (nb ρ 2) (cL (TmA.row (gT ts i)) 46)))]) (cX (qF (fun _ _ _ hG => TmF.idx (k := .i64) Tryz.underlying24 Tryz.sizeOf46 hG.facts0.now.1 rfl ((show ((i : Nat) : Int) = ((i : Nat) : Int) ∧ i < (ts).length from ⟨rfl, (by have := yF hb2; have := yF hb3; have := yT hb4; have := hlen; have := hi; have := ho.klen hf0 i; omega)⟩)).1 ((show ((i : Nat) : Int) = ((i : Nat) : Int) ∧ i < (ts).length from ⟨rfl, (by have := yF hb2; have := yF hb3; have := yT hb4; have := hlen; have := hi; have := ho.klen hf0 i; omega)⟩)).2)) <| cX (qF (fun _ _ _ hG => TmF.ldA (i := i) Tryz.isAgg46 Tryz.sizeOf46 hG.facts0.now.1 ((show ((i : Nat) : Int) = ((i : Nat) : Int) ∧ i < (ts).length from ⟨rfl, (by have := yF hb2; have := yF hb3; have := yT hb4; have := hlen; have := hi; have := ho.klen hf0 i; omega)⟩)).2)) <| cR [[], [16]] <| cN) (fun ρ11 => ?_)
      refine sS Tryz.f9 4 [1, 6, 23, 24, 25, 30, 31, 32] [0] (fun _ => [(.pointer (some ⟨nb ρ11 2, 35, none⟩)), (.slice ((gT ts i).ka) ((gT ts i).ks).length ((gT ts i).kc)), (vn (((gT ts i).ks).length)), (vi 0)]) (fun _ => []) (cR [[], [0], [], []] <| cN) (fun _ => ?_)
      refine ok_block ?_
      refine oL (σ := (Nat) ⊕ (Nat × Nat × (List Nat) × (Array Value) × Nat)) (fun s => match s with | Sum.inl j => [(1, (vi z)), (6, (.slice none 0 0)), (23, (.slice a (ts).length c)), (24, (vn (ts).length)), (25, (vn i)), (30, (.slice ((gT ts i).ka) ((gT ts i).ks).length ((gT ts i).kc))), (31, (vn (((gT ts i).ks).length))), (32, (vn j))] | Sum.inr ⟨j, q, N, _, κ⟩ => [(1, (vi z)), (6, (vs q (N).length κ)), (23, (.slice a (ts).length c)), (24, (vn (ts).length)), (25, (vn i)), (30, (.slice ((gT ts i).ka) ((gT ts i).ks).length ((gT ts i).kc))), (31, (vn (((gT ts i).ks).length))), (32, (vn j))]) (fun s => match s with | Sum.inl _ => [] | Sum.inr ⟨_, q, _, C, _⟩ => [(q, (cL C 39))]) (fun s => match s with | Sum.inl j => (gT ts i).ks.length - j | Sum.inr ⟨j, _, _, _, _⟩ => (gT ts i).ks.length - j)
        (fun s => match s with | Sum.inl j => (j ≤ (gT ts i).ks.length) ∧ (([] : List Nat) ++ ksN z.toNat ((gT ts i).ks.drop j ++ aK (ts.drop (i + 1))) = ksN z.toNat (aK ts)) ∧ (ksE z.toNat ((gT ts i).ks.drop j ++ aK (ts.drop (i + 1))) = ksE z.toNat (aK ts)) ∧ (True) | Sum.inr ⟨j, _, N, C, κ⟩ => (j ≤ (gT ts i).ks.length) ∧ (N ++ ksN z.toNat ((gT ts i).ks.drop j ++ aK (ts.drop (i + 1))) = ksN z.toNat (aK ts)) ∧ (ksE z.toNat ((gT ts i).ks.drop j ++ aK (ts.drop (i + 1))) = ksE z.toNat (aK ts)) ∧ (kU.A C N κ) ∧ (∀ n ∈ N, n < M)) (Sum.inl 0) (⟨Nat.zero_le _, kn_in (show i < ts.length from (by have := yF hb2; have := yF hb3; have := yT hb4; have := hlen; have := hi; have := ho.klen hf0 i; omega)) hN0, ke_in (show i < ts.length from (by have := yF hb2; have := yF hb3; have := yT hb4; have := hlen; have := hi; have := ho.klen hf0 i; omega)) hE0, trivial⟩) [] ?_
      rintro (j | ⟨j, q, N, C, κ⟩)
      ·
       rintro ⟨hj, hN, hE, hnil⟩
       change Ok Tryz.prog _ _ 64 [(1, (vi z)), (6, (.slice none 0 0)), (23, (.slice a (ts).length c)), (24, (vn (ts).length)), (25, (vn i)), (30, (.slice ((gT ts i).ka) ((gT ts i).ks).length ((gT ts i).kc))), (31, (vn (((gT ts i).ks).length))), (32, (vn j))] _ [] (fun w => TmF w a c ts ∧ KbK w ∧ KbI w ∧ True)
       refine sS Tryz.f9 1 [1, 6, 23, 24, 25, 30, 31, 32, 33] [] (fun _ => [(.bool (decide (((j : Nat) : Int) < ((((gT ts i).ks).length : Nat) : Int))))]) (fun _ => []) (cR [[]] <| cN) (fun _ => ?_)
       refine ok_seq ?_
       refine oC (decide (((j : Nat) : Int) < ((((gT ts i).ks).length : Nat) : Int))) (fun hb5 => ?_) (fun hb5 => ?_)
       ·
        rw [hb5]
        refine ok_skip ?_
        refine mt_then ?_
        refine ok_seq ?_
        refine ok_block ?_
        refine sS Tryz.f9 4 [1, 6, 10, 23, 24, 25, 30, 31, 32] [] (fun ρ => [(.pointer (adr ((gT ts i).ka) (j * 45))), (.agg (KpA.row (gK ((gT ts i).ks) j))), (pt (nb ρ 2)), undef]) (fun ρ => [(2, (nw ρ 2 (cL (kpV 0 0 0 0 0 0 (.slice none 0 0) (.bool false)) 51))), (3, (pwt 16 (nb ρ 2) (cL (KpA.row (gK ((gT ts i).ks) j)) 51)))]) (cX (qF (fun _ _ _ hG => KpF.idx (k := .i64) Tryz.underlying44 Tryz.sizeOf51 ((hG.facts0.now.1).sub _ (gT_mem ((show ((i : Nat) : Int) = ((i : Nat) : Int) ∧ i < (ts).length from ⟨rfl, (by have := yF hb2; have := yF hb3; have := yT hb4; have := hlen; have := hi; have := ho.klen hf0 i; omega)⟩)).2)) rfl ((show ((j : Nat) : Int) = ((j : Nat) : Int) ∧ j < ((gT ts i).ks).length from ⟨rfl, (by have := yF hb2; have := yF hb3; have := yT hb4; have := yT hb5; have := hlen; have := hi; have := hj; have := ho.klen hf0 i; omega)⟩)).1 ((show ((j : Nat) : Int) = ((j : Nat) : Int) ∧ j < ((gT ts i).ks).length from ⟨rfl, (by have := yF hb2; have := yF hb3; have := yT hb4; have := yT hb5; have := hlen; have := hi; have := hj; have := ho.klen hf0 i; omega)⟩)).2)) <| cX (qF (fun _ _ _ hG => KpF.ldA (i := j) Tryz.isAgg51 Tryz.sizeOf51 ((hG.facts0.now.1).sub _ (gT_mem ((show ((i : Nat) : Int) = ((i : Nat) : Int) ∧ i < (ts).length from ⟨rfl, (by have := yF hb2; have := yF hb3; have := yT hb4; have := hlen; have := hi; have := ho.klen hf0 i; omega)⟩)).2)) ((show ((j : Nat) : Int) = ((j : Nat) : Int) ∧ j < ((gT ts i).ks).length from ⟨rfl, (by have := yF hb2; have := yF hb3; have := yT hb4; have := yT hb5; have := hlen; have := hi; have := hj; have := ho.klen hf0 i; omega)⟩)).2)) <| cR [[], [16]] <| cN) (fun ρ14 => ?_)
        refine okJ2 (σ := (Option Addr) × Nat × (List Nat)) (fun ⟨pa, pc, pq⟩ => [(1, (vi z)), (6, (.slice none 0 0)), (10, (pt (nb ρ14 2))), (11, (.slice pa (nI pq).length pc)), (23, (.slice a (ts).length c)), (24, (vn (ts).length)), (25, (vn i)), (30, (.slice ((gT ts i).ka) ((gT ts i).ks).length ((gT ts i).kc))), (31, (vn (((gT ts i).ks).length))), (32, (vn j))]) (fun ⟨_, _, _⟩ => [(nb ρ14 2, (cL (KpA.row (gK ((gT ts i).ks) j)) 51))]) (fun ⟨pa, pc, pq⟩ => (fun w => TmF w a c ts ∧ KbK w ∧ KbI w ∧ Is w .u32 pa pc (nI pq) ∧ True)) (fun ⟨_, _, pq⟩ => ((gK (gT ts i).ks j).ix z.toNat = pq) ∧ (∀ x ∈ pq, x < 4294967296)) ?_ ?_
        ·
         rintro ⟨pa, pc, pq⟩ ⟨hq, hq32⟩
         change Ok Tryz.prog _ _ 64 [(1, (vi z)), (6, (.slice none 0 0)), (10, (pt (nb ρ14 2))), (11, (.slice pa (nI pq).length pc)), (23, (.slice a (ts).length c)), (24, (vn (ts).length)), (25, (vn i)), (30, (.slice ((gT ts i).ka) ((gT ts i).ks).length ((gT ts i).kc))), (31, (vn (((gT ts i).ks).length))), (32, (vn j))] _ [(nb ρ14 2, (cL (KpA.row (gK ((gT ts i).ks) j)) 51))] (fun w => TmF w a c ts ∧ KbK w ∧ KbI w ∧ Is w .u32 pa pc (nI pq) ∧ True)
         refine sS Tryz.f9 10 [1, 6, 12, 13, 23, 24, 25, 30, 31, 32] [0, 1] (fun ρ => [(pt (nb ρ14 2)), (.agg (kY ((gK ((gT ts i).ks) j).k))), (.slice pa (nI pq).length pc), (.tuple #[(.agg (kY (drK (gK ((gT ts i).ks) j).k pq))), (vi (drE (gK ((gT ts i).ks) j).k pq))]), (.tuple #[(.agg (kY (drK (gK ((gT ts i).ks) j).k pq))), (vi (drE (gK ((gT ts i).ks) j).k pq))]), (.agg (kY (drK (gK ((gT ts i).ks) j).k pq))), (vi (drE (gK ((gT ts i).ks) j).k pq)), (pt (nb ρ 7)), undef, (vi (drE (gK ((gT ts i).ks) j).k pq))]) (fun ρ => [(7, (nw ρ 7 (cL (kC 0 0 0 0 0 0) 48))), (8, (pwt 57 (nb ρ 7) (cL (kY (drK (gK ((gT ts i).ks) j).k pq)) 48)))]) (cR [[], [0], []] <| cX (qC (fun _ _ w hG => derive_any (gK ((gT ts i).ks) j).k pa pc pq (ho.gK i j).k hq32 w hG.facts0.now.2.2.2.1 hG.facts0.now.2.1 hG.facts0.now.2.2.1)) <| cR [[], [], [], [], [57], []] <| cN) (fun ρ15 => ?_)
         refine ok_seq ?_
         refine sS Tryz.f9 2 [1, 6, 12, 13, 23, 24, 25, 30, 31, 32, 54] [] (fun _ => [(vi (drE (gK ((gT ts i).ks) j).k pq)), (.bool ((drE (gK ((gT ts i).ks) j).k pq) != 0))]) (fun _ => []) (cR [[], []] <| cN) (fun _ => ?_)
         refine oC ((drE (gK ((gT ts i).ks) j).k pq) != 0) (fun hb6 => ?_) (fun hb6 => ?_)
         ·
          rw [hb6]
          refine sS Tryz.f9 3 [1, 4, 5, 6, 12, 23, 24, 25, 30, 31, 32] [] (fun _ => [(vi (drE (gK ((gT ts i).ks) j).k pq)), (.slice none 0 0), (vi (drE (gK ((gT ts i).ks) j).k pq))]) (fun _ => []) (cR [[], [], []] <| cN) (fun _ => ?_)
          refine ok_ret ?_
          refine mt_then_r ?_
          refine mt_block_r ?_
          refine mt_then_r ?_
          refine mt_then_r ?_
          refine mt_block_r ?_
          refine mt_block_r ?_
          refine mt_then_r ?_
          refine mt_then_r ?_
          refine mt_block_r ?_
          refine mt_then_r ?_
          refine mD [(1, (vi z)), (4, (.slice none 0 0)), (5, (vi (drE (gK ((gT ts i).ks) j).k pq))), (6, (.slice none 0 0)), (12, (pt (nb ρ15 7))), (23, (.slice a (ts).length c)), (24, (vn (ts).length)), (25, (vn i)), (30, (.slice ((gT ts i).ka) ((gT ts i).ks).length ((gT ts i).kc))), (31, (vn (((gT ts i).ks).length))), (32, (vn j))] [(nb ρ15 7, (cL (kY (drK (gK ((gT ts i).ks) j).k pq)) 48))] ?_
          exact mR (v := (.tuple #[(.slice none 0 0), (vi (drE (gK ((gT ts i).ks) j).k pq))])) (fun _ hS => (by rw [(ky_err (not_f hb1) hb2 hb3 (ke_stop (show j < (gT ts i).ks.length from (by have := yF hb2; have := yF hb3; have := yT hb4; have := yT hb5; have := hlen; have := hi; have := hj; have := ho.klen hf0 i; omega)) hq hb6 hE) hb6).1, (ky_err (not_f hb1) hb2 hb3 (ke_stop (show j < (gT ts i).ks.length from (by have := yF hb2; have := yF hb3; have := yT hb4; have := yT hb5; have := hlen; have := hi; have := hj; have := ho.klen hf0 i; omega)) hq hb6 hE) hb6).2]; exact ⟨none, 0, rfl, hS.bel, persTrue (fun _ => Us.nil)⟩))
         ·
          rw [hb6]
          refine ok_skip ?_
          refine mt_then ?_
          refine rS Tryz.f9 6 [1, 6, 23, 24, 25, 30, 31, 32] [0, 0, 1] (fun ρ => [(.slice none 0 0), (.pointer (some ⟨nb ρ15 7, 4, none⟩)), (U ((drK (gK ((gT ts i).ks) j).k pq).p)), (vs (nb ρ 3) 1 1), (vs (nb ρ 4) ([(drK (gK ((gT ts i).ks) j).k pq).p]).length (([(drK (gK ((gT ts i).ks) j).k pq).p]).length + nb2 ρ 4)), (vs (nb ρ 4) ([(drK (gK ((gT ts i).ks) j).k pq).p]).length (([(drK (gK ((gT ts i).ks) j).k pq).p]).length + nb2 ρ 4))]) (fun ρ => [(3, (nw ρ 3 (cL (cU ((drK (gK ((gT ts i).ks) j).k pq).p)) 39))), (4, (nw ρ 4 (cL ((kU.r ([(drK (gK ((gT ts i).ks) j).k pq).p])).toArray ++ Builtin.zeroCells (Value.cells (U 0)) (nb2 ρ 4)) 39)))]) (cR [[], [], [0], []] <| cX (qN (fun _ ζ => (vs (ζ.headD 0) ([(drK (gK ((gT ts i).ks) j).k pq).p]).length (([(drK (gK ((gT ts i).ks) j).k pq).p]).length + ζ.tail.headD 0))) (fun _ ζ => (cL ((kU.r ([(drK (gK ((gT ts i).ks) j).k pq).p])).toArray ++ Builtin.zeroCells (Value.cells (U 0)) (ζ.tail.headD 0)) 39)) (fun ρ _ _ hG => appG_nil (K := kU) (ty := 29) (us := [(drK (gK ((gT ts i).ks) j).k pq).p]) Tryz.underlying29 (elike_of (sz := 4) (b := 32) (z := (U 0)) (by kernel_rfl) rfl) (src_u1 Tryz.underlying29 (hG.kn (g := nb ρ 3) (o := (cL (cU ((drK (gK ((gT ts i).ks) j).k pq).p)) 39)) 25)) (Nat.le_of_ble_eq_true rfl) (Nat.le_of_ble_eq_true rfl) (by decide))) <| cR [[]] <| cN) (fun ρ18 => ?_)
          refine mt_block_n ?_
          refine mt_then ?_
          refine rS Tryz.f9 2 [1, 6, 23, 24, 25, 30, 31, 32] [] (fun _ => [(vn (j + 1)), (vn (j + 1))]) (fun _ => []) (cA (v := fun ρ => (vi (IntKind.i64.wrap (((j : Nat) : Int) + 1)))) (fun _ => (vn (j + 1))) (fun _ => congrArg (Value.int .i64) (wrap_addN j 1 (by have := yF hb2; have := yF hb3; have := yT hb4; have := yT hb5; have := hlen; have := hi; have := hj; have := ho.klen hf0 i; omega))) <| cR [[]] <| cN) (fun _ => ?_)
          refine mt_facts (fun w => TmF w a c ts ∧ KbK w ∧ KbI w ∧ True) (fun w hF => ⟨hF.1, hF.2.1, hF.2.2.1, trivial⟩) ?_
          exact mN (Sum.inr (j + 1, nb ρ18 4, [(drK (gK ((gT ts i).ks) j).k pq).p], (kU.r ([(drK (gK ((gT ts i).ks) j).k pq).p])).toArray ++ Builtin.zeroCells (Value.cells (U 0)) (nb2 ρ18 4), ([(drK (gK ((gT ts i).ks) j).k pq).p]).length + nb2 ρ18 4)) (by show (gT ts i).ks.length - (j + 1) < (gT ts i).ks.length - j; have := yF hb2; have := yF hb3; have := yT hb4; have := yT hb5; have := hlen; have := hi; have := hj; have := ho.klen hf0 i; omega) (⟨(by have := yF hb2; have := yF hb3; have := yT hb4; have := yT hb5; have := hlen; have := hi; have := hj; have := ho.klen hf0 i; omega), kn_next (show j < (gT ts i).ks.length from (by have := yF hb2; have := yF hb3; have := yT hb4; have := yT hb5; have := hlen; have := hi; have := hj; have := ho.klen hf0 i; omega)) hq hN, ke_next (show j < (gT ts i).ks.length from (by have := yF hb2; have := yF hb3; have := yT hb4; have := yT hb5; have := hlen; have := hi; have := hj; have := ho.klen hf0 i; omega)) hq hb6 hE, (RowK.A.fresh (K := kU) (z := (U 0)) rfl ([(drK (gK ((gT ts i).ks) j).k pq).p]) (nb2 ρ18 4)), (fun n hn => by rw [List.mem_singleton.1 hn]; exact (drK_ok (ho.gK i j).k hq32).p)⟩) []
        ·
         intro J1
         rcases Bool.eq_false_or_eq_true (((gK ((gT ts i).ks) j).pa).isNone) with hb7 | hb7
         ·
          refine sS Tryz.f9 4 [1, 6, 10, 11, 23, 24, 25, 30, 31, 32] [] (fun _ => [(.pointer (some ⟨nb ρ14 2, 43, none⟩)), (.slice ((gK ((gT ts i).ks) j).pa) (nI (gK ((gT ts i).ks) j).ps).length ((gK ((gT ts i).ks) j).pc)), (.slice none 0 0), (.slice none 0 0)]) (fun _ => []) (cR [[], [0]] <| cX (qC (fun _ _ w hG => clone0_any ((gK ((gT ts i).ks) j).pa) ((gK ((gT ts i).ks) j).pc) ((gK ((gT ts i).ks) j).ps) hb7 w ((((hG.facts0.now.1).sub _ (gT_mem ((show ((i : Nat) : Int) = ((i : Nat) : Int) ∧ i < (ts).length from ⟨rfl, (by have := yF hb2; have := yF hb3; have := yT hb4; have := hlen; have := hi; have := ho.klen hf0 i; omega)⟩)).2))).sub _ (gK_mem ((show ((j : Nat) : Int) = ((j : Nat) : Int) ∧ j < ((gT ts i).ks).length from ⟨rfl, (by have := yF hb2; have := yF hb3; have := yT hb4; have := yT hb5; have := hlen; have := hi; have := hj; have := ho.klen hf0 i; omega)⟩)).2)))) <| cR [[]] <| cN) (fun _ => ?_)
          refine ok_seq ?_
          refine sS Tryz.f9 2 [1, 6, 10, 11, 23, 24, 25, 30, 31, 32, 40] [] (fun _ => [(.pointer (some ⟨nb ρ14 2, 44, none⟩)), (.bool ((gK ((gT ts i).ks) j).wd))]) (fun _ => []) (cR [[], [0]] <| cN) (fun _ => ?_)
          refine oC ((gK ((gT ts i).ks) j).wd) (fun hb8 => ?_) (fun hb8 => ?_)
          ·
           rw [hb8]
           refine rS Tryz.f9 6 [1, 6, 10, 11, 23, 24, 25, 30, 31, 32] [1, 0, 1] (fun ρ => [(.slice none 0 0), (vi z), (.int .u32 ((z.toNat : Nat) : Int)), (vs (nb ρ 3) 1 1), (vs (nb ρ 4) (nI ([z.toNat])).length ((nI ([z.toNat])).length + nb2 ρ 4)), (vs (nb ρ 4) (nI ([z.toNat])).length ((nI ([z.toNat])).length + nb2 ρ 4))]) (fun ρ => [(3, (nw ρ 3 (cL #[(.int .u32 ((z.toNat : Nat) : Int))] 41))), (4, (nw ρ 4 (cL ((kI.r ([z.toNat])).toArray ++ Builtin.zeroCells (Value.cells (.int .u32 0)) (nb2 ρ 4)) 41)))]) (cR [[], []] <| cA (fun _ => (.int .u32 ((z.toNat : Nat) : Int))) (fun _ => congrArg (Value.int .u32) (u32Z hb2 hb3)) <| cR [[]] <| cX (qN (fun _ ζ => (vs (ζ.headD 0) (nI ([z.toNat])).length ((nI ([z.toNat])).length + ζ.tail.headD 0))) (fun _ ζ => (cL ((kI.r ([z.toNat])).toArray ++ Builtin.zeroCells (Value.cells (.int .u32 0)) (ζ.tail.headD 0)) 41)) (fun ρ _ _ hG => appI_nil (ty := 49) (us := [z.toNat]) Tryz.underlying49 (elike_of (sz := 1) (b := 4) (z := (.int .u32 0)) (by kernel_rfl) rfl) (src_i1 Tryz.underlying49 (hG.kn (g := nb ρ 3) (o := (cL #[(.int .u32 ((z.toNat : Nat) : Int))] 41)) 25)) (Nat.le_of_ble_eq_true rfl) (Nat.le_of_ble_eq_true rfl) (by decide))) <| cR [[]] <| cN) (fun ρ22 => ?_)
           refine mt_then ?_
           refine dRs [(1, (vi z)), (6, (.slice none 0 0)), (10, (pt (nb ρ14 2))), (11, (vs (nb ρ22 4) (nI ([z.toNat])).length ((nI ([z.toNat])).length + nb2 ρ22 4))), (23, (.slice a (ts).length c)), (24, (vn (ts).length)), (25, (vn i)), (30, (.slice ((gT ts i).ka) ((gT ts i).ks).length ((gT ts i).kc))), (31, (vn (((gT ts i).ks).length))), (32, (vn j))] [(nb ρ14 2, (cL (KpA.row (gK ((gT ts i).ks) j)) 51)), (nb ρ22 4, (cL ((kI.r ([z.toNat])).toArray ++ Builtin.zeroCells (Value.cells (.int .u32 0)) (nb2 ρ22 4)) 41))] ?_
           exact okE J1 (some ⟨nb ρ22 4, 0, none⟩, (nI ([z.toNat])).length + nb2 ρ22 4, [z.toNat]) (⟨(ix_b hb8 (hf0.pathN (show i < ts.length from (by have := yF hb2; have := yF hb3; have := yT hb4; have := yT hb5; have := hlen; have := hi; have := hj; have := ho.klen hf0 i; omega)) (show j < (gT ts i).ks.length from (by have := yF hb2; have := yF hb3; have := yT hb4; have := yT hb5; have := hlen; have := hi; have := hj; have := ho.klen hf0 i; omega)) hb7)), (fun x hx => by rw [List.mem_singleton.1 hx]; exact (z32n hb2 hb3))⟩) (fun w hS => (hS.frozI (e := 41) (fr := (0, 0)) 1 (RowK.A.fresh (K := kI) (z := (.int .u32 0)) rfl ([z.toNat]) (nb2 ρ22 4)) (by have := vl_ps (not_f hb1) (show i < ts.length from (by have := yF hb2; have := yF hb3; have := yT hb4; have := yT hb5; have := hlen; have := hi; have := hj; have := ho.klen hf0 i; omega)) (show j < (gT ts i).ks.length from (by have := yF hb2; have := yF hb3; have := yT hb4; have := yT hb5; have := hlen; have := hi; have := hj; have := ho.klen hf0 i; omega)); simp only [List.length_cons, List.length_nil]; omega) []).weaken (fun w hF => ⟨hF.2.1, hF.2.2.1, hF.2.2.2.1, hF.1, trivial⟩))
          ·
           rw [hb8]
           refine ok_skip ?_
           refine mt_then ?_
           refine dRs [(1, (vi z)), (6, (.slice none 0 0)), (10, (pt (nb ρ14 2))), (11, (.slice none 0 0)), (23, (.slice a (ts).length c)), (24, (vn (ts).length)), (25, (vn i)), (30, (.slice ((gT ts i).ka) ((gT ts i).ks).length ((gT ts i).kc))), (31, (vn (((gT ts i).ks).length))), (32, (vn j)), (40, (.bool false))] [(nb ρ14 2, (cL (KpA.row (gK ((gT ts i).ks) j)) 51))] ?_
           exact okE J1 (none, 0, []) (⟨(ix_a hb8 (hf0.pathN (show i < ts.length from (by have := yF hb2; have := yF hb3; have := yT hb4; have := yT hb5; have := hlen; have := hi; have := hj; have := ho.klen hf0 i; omega)) (show j < (gT ts i).ks.length from (by have := yF hb2; have := yF hb3; have := yT hb4; have := yT hb5; have := hlen; have := hi; have := hj; have := ho.klen hf0 i; omega)) hb7)), (by simp)⟩) (fun w hS => (hS.frozN (k := .u32) (a := none) (c := 0) []).weaken (fun w hF => ⟨hF.2.1, hF.2.2.1, hF.2.2.2.1, hF.1, trivial⟩))
         ·
          refine sSf Tryz.f9 4 [1, 6, 10, 11, 23, 24, 25, 30, 31, 32] [] (fun ρ => [(.pointer (some ⟨nb ρ14 2, 43, none⟩)), (.slice ((gK ((gT ts i).ks) j).pa) (nI (gK ((gT ts i).ks) j).ps).length ((gK ((gT ts i).ks) j).pc)), (vs (nb ρ 2) (nI ((gK ((gT ts i).ks) j).ps)).length (nb2 ρ 2)), (vs (nb ρ 2) (nI ((gK ((gT ts i).ks) j).ps)).length (nb2 ρ 2))]) (fun ρ => [(2, (nw ρ 2 (cL (oc ρ 2) 41)))]) (fun ρ => [(2, fun w => kI.A (oc ρ 2) ((gK ((gT ts i).ks) j).ps) (nb2 ρ 2))]) (fun _ => (fun w => TmF w a c ts ∧ KbK w ∧ KbI w ∧ True)) (fun ρ => kI.A (oc ρ 2) ((gK ((gT ts i).ks) j).ps) (nb2 ρ 2)) (fun _ _ hF hf => ⟨hF, hf 2⟩) (cR [[], [0]] <| cX (o_callR _ 22 (fun _ => #[(.slice ((gK ((gT ts i).ks) j).pa) (nI (gK ((gT ts i).ks) j).ps).length ((gK ((gT ts i).ks) j).pc))]) (fun _ r => (vs (r.n.headD 0) (nI ((gK ((gT ts i).ks) j).ps)).length (r.n.tail.headD 0))) (fun _ r => (cL (orcC r) 41)) (fun _ r => kI.A (orcC r) ((gK ((gT ts i).ks) j).ps) (r.n.tail.headD 0)) (fun _ _ => (by kernel_rfl)) (fun _ _ => (by kernel_rfl)) (fun _ _ => (by kernel_rfl)) (fun _ _ => (by kernel_rfl)) (fun _ _ w hG => clone1_any ((gK ((gT ts i).ks) j).pa) ((gK ((gT ts i).ks) j).pc) ((gK ((gT ts i).ks) j).ps) hb7 (vl_ps (not_f hb1) (show i < ts.length from (by have := yF hb2; have := yF hb3; have := yT hb4; have := yT hb5; have := hlen; have := hi; have := hj; have := ho.klen hf0 i; omega)) (show j < (gT ts i).ks.length from (by have := yF hb2; have := yF hb3; have := yT hb4; have := yT hb5; have := hlen; have := hi; have := hj; have := ho.klen hf0 i; omega))) w ((((hG.facts0.now.1).sub _ (gT_mem ((show ((i : Nat) : Int) = ((i : Nat) : Int) ∧ i < (ts).length from ⟨rfl, (by have := yF hb2; have := yF hb3; have := yT hb4; have := hlen; have := hi; have := ho.klen hf0 i; omega)⟩)).2))).sub _ (gK_mem ((show ((j : Nat) : Int) = ((j : Nat) : Int) ∧ j < ((gT ts i).ks).length from ⟨rfl, (by have := yF hb2; have := yF hb3; have := yT hb4; have := yT hb5; have := hlen; have := hi; have := hj; have := ho.klen hf0 i; omega)⟩)).2)))) <| cR [[]] <| cN) (fun ρ23 ap23_2 => ?_)
          refine ok_seq ?_
          refine sS Tryz.f9 2 [1, 6, 10, 11, 23, 24, 25, 30, 31, 32, 40] [] (fun _ => [(.pointer (some ⟨nb ρ14 2, 44, none⟩)), (.bool ((gK ((gT ts i).ks) j).wd))]) (fun _ => []) (cR [[], [0]] <| cN) (fun _ => ?_)
          refine oC ((gK ((gT ts i).ks) j).wd) (fun hb9 => ?_) (fun hb9 => ?_)
          ·
           rw [hb9]
           refine rSf Tryz.f9 6 [1, 6, 10, 11, 23, 24, 25, 30, 31, 32] [1, 1, 0] (fun ρ => [(vs (nb ρ23 2) (nI ((gK ((gT ts i).ks) j).ps)).length (nb2 ρ23 2)), (vi z), (.int .u32 ((z.toNat : Nat) : Int)), (vs (nb ρ 3) 1 1), (vs (nb ρ 4) (nI (((gK ((gT ts i).ks) j).ps) ++ ([z.toNat]))).length (nb2 ρ 4)), (vs (nb ρ 4) (nI (((gK ((gT ts i).ks) j).ps) ++ ([z.toNat]))).length (nb2 ρ 4))]) (fun ρ => [(3, (nw ρ 3 (cL #[(.int .u32 ((z.toNat : Nat) : Int))] 41))), (4, (pwt 1 (nb ρ 4) (cL (oc ρ 4) 41)))]) (fun ρ => [(4, fun w => kI.A (oc ρ 4) (((gK ((gT ts i).ks) j).ps) ++ ([z.toNat])) (nb2 ρ 4))]) (fun _ => (fun w => TmF w a c ts ∧ KbK w ∧ KbI w ∧ True)) (fun ρ => kI.A (oc ρ 4) (((gK ((gT ts i).ks) j).ps) ++ ([z.toNat])) (nb2 ρ 4)) (fun _ _ hF hf => ⟨hF, hf 4⟩) (cR [[], []] <| cA (fun _ => (.int .u32 ((z.toNat : Nat) : Int))) (fun _ => congrArg (Value.int .u32) (u32Z hb2 hb3)) <| cR [[]] <| cX (qM 1 (fun ρ _ _ hG hg => appI_any (ty := 49) (g := nb ρ23 2) (ts := (gK ((gT ts i).ks) j).ps) (us := [z.toNat]) Tryz.underlying49 (elike_of (sz := 1) (b := 4) (z := (.int .u32 0)) (by kernel_rfl) rfl) ap23_2 (src_i1 Tryz.underlying49 (hG.kn (g := nb ρ 3) (o := (cL #[(.int .u32 ((z.toNat : Nat) : Int))] 41)) 26)) (by have := vl_ps (not_f hb1) (show i < ts.length from (by have := yF hb2; have := yF hb3; have := yT hb4; have := yT hb5; have := hlen; have := hi; have := hj; have := ho.klen hf0 i; omega)) (show j < (gT ts i).ks.length from (by have := yF hb2; have := yF hb3; have := yT hb4; have := yT hb5; have := hlen; have := hi; have := hj; have := ho.klen hf0 i; omega)); simp only [List.length_cons, List.length_nil]; omega) (by decide) hg)) <| cR [[]] <| cN) (fun ρ25 ap25_4 => ?_)
           refine mt_then ?_
           refine dRs [(1, (vi z)), (6, (.slice none 0 0)), (10, (pt (nb ρ14 2))), (11, (vs (nb ρ25 4) (nI (((gK ((gT ts i).ks) j).ps) ++ ([z.toNat]))).length (nb2 ρ25 4))), (23, (.slice a (ts).length c)), (24, (vn (ts).length)), (25, (vn i)), (30, (.slice ((gT ts i).ka) ((gT ts i).ks).length ((gT ts i).kc))), (31, (vn (((gT ts i).ks).length))), (32, (vn j))] [(nb ρ14 2, (cL (KpA.row (gK ((gT ts i).ks) j)) 51)), (nb ρ25 4, (cL (oc ρ25 4) 41))] ?_
           exact okE J1 (some ⟨nb ρ25 4, 0, none⟩, nb2 ρ25 4, (gK (gT ts i).ks j).ps ++ [z.toNat]) (⟨(ix_d hb9), (fun x hx => (List.mem_append.1 hx).elim ((ho.gK i j).ps x) (fun hx => by rw [List.mem_singleton.1 hx]; exact (z32n hb2 hb3)))⟩) (fun w hS => (hS.frozI (e := 41) (fr := (0, 0)) 1 ap25_4 (by have := vl_ps (not_f hb1) (show i < ts.length from (by have := yF hb2; have := yF hb3; have := yT hb4; have := yT hb5; have := hlen; have := hi; have := hj; have := ho.klen hf0 i; omega)) (show j < (gT ts i).ks.length from (by have := yF hb2; have := yF hb3; have := yT hb4; have := yT hb5; have := hlen; have := hi; have := hj; have := ho.klen hf0 i; omega)); simp only [List.length_append, List.length_cons, List.length_nil]; omega) []).weaken (fun w hF => ⟨hF.2.1, hF.2.2.1, hF.2.2.2.1, hF.1, trivial⟩))
          ·
           rw [hb9]
           refine ok_skip ?_
           refine mt_then ?_
           refine dRs [(1, (vi z)), (6, (.slice none 0 0)), (10, (pt (nb ρ14 2))), (11, (vs (nb ρ23 2) (nI ((gK ((gT ts i).ks) j).ps)).length (nb2 ρ23 2))), (23, (.slice a (ts).length c)), (24, (vn (ts).length)), (25, (vn i)), (30, (.slice ((gT ts i).ka) ((gT ts i).ks).length ((gT ts i).kc))), (31, (vn (((gT ts i).ks).length))), (32, (vn j)), (40, (.bool false))] [(nb ρ14 2, (cL (KpA.row (gK ((gT ts i).ks) j)) 51)), (nb ρ23 2, (cL (oc ρ23 2) 41))] ?_
           exact okE J1 (some ⟨nb ρ23 2, 0, none⟩, nb2 ρ23 2, (gK (gT ts i).ks j).ps) (⟨(ix_c hb9), (ho.gK i j).ps⟩) (fun w hS => (hS.frozI (e := 41) (fr := (0, 0)) 1 ap23_2 (by have := vl_ps (not_f hb1) (show i < ts.length from (by have := yF hb2; have := yF hb3; have := yT hb4; have := yT hb5; have := hlen; have := hi; have := hj; have := ho.klen hf0 i; omega)) (show j < (gT ts i).ks.length from (by have := yF hb2; have := yF hb3; have := yT hb4; have := yT hb5; have := hlen; have := hi; have := hj; have := ho.klen hf0 i; omega)); omega) []).weaken (fun w hF => ⟨hF.2.1, hF.2.2.1, hF.2.2.2.1, hF.1, trivial⟩))
       ·
        rw [hb5]
        refine ok_exit ?_
        refine mt_then_e ?_
        refine mt_then_e ?_
        refine mt_block_h ?_
        refine mt_block_n ?_
        refine mt_then ?_
        refine rS Tryz.f9 2 [1, 6, 23, 24, 25] [] (fun _ => [(vn (i + 1)), (vn (i + 1))]) (fun _ => []) (cA (v := fun ρ => (vi (IntKind.i64.wrap (((i : Nat) : Int) + 1)))) (fun _ => (vn (i + 1))) (fun _ => congrArg (Value.int .i64) (wrap_addN i 1 (by have := yF hb2; have := yF hb3; have := yT hb4; have := yF hb5; have := hlen; have := hi; have := hj; have := ho.klen hf0 i; omega))) <| cR [[]] <| cN) (fun _ => ?_)
        exact mN (Sum.inl (i + 1)) (by show ts.length - (i + 1) < ts.length - i; have := yF hb2; have := yF hb3; have := yT hb4; have := yF hb5; have := hlen; have := hi; have := hj; have := ho.klen hf0 i; omega) (⟨(by have := yF hb2; have := yF hb3; have := yT hb4; have := yF hb5; have := hlen; have := hi; have := hj; have := ho.klen hf0 i; omega), kn_out (by have := yF hb2; have := yF hb3; have := yT hb4; have := yF hb5; have := hlen; have := hi; have := hj; have := ho.klen hf0 i; omega) hN, ke_out (by have := yF hb2; have := yF hb3; have := yT hb4; have := yF hb5; have := hlen; have := hi; have := hj; have := ho.klen hf0 i; omega) hE, trivial⟩) []
      ·
       rintro ⟨hj, hN, hE, hA, hM⟩
       change Ok Tryz.prog _ _ 64 [(1, (vi z)), (6, (vs q (N).length κ)), (23, (.slice a (ts).length c)), (24, (vn (ts).length)), (25, (vn i)), (30, (.slice ((gT ts i).ka) ((gT ts i).ks).length ((gT ts i).kc))), (31, (vn (((gT ts i).ks).length))), (32, (vn j))] _ [(q, (cL C 39))] (fun w => TmF w a c ts ∧ KbK w ∧ KbI w ∧ True)
       refine sS Tryz.f9 1 [1, 6, 23, 24, 25, 30, 31, 32, 33] [] (fun _ => [(.bool (decide (((j : Nat) : Int) < ((((gT ts i).ks).length : Nat) : Int))))]) (fun _ => []) (cR [[]] <| cN) (fun _ => ?_)
       refine ok_seq ?_
       refine oC (decide (((j : Nat) : Int) < ((((gT ts i).ks).length : Nat) : Int))) (fun hb10 => ?_) (fun hb10 => ?_)
       ·
        rw [hb10]
        refine ok_skip ?_
        refine mt_then ?_
        refine ok_seq ?_
        refine ok_block ?_
        refine sS Tryz.f9 4 [1, 6, 10, 23, 24, 25, 30, 31, 32] [] (fun ρ => [(.pointer (adr ((gT ts i).ka) (j * 45))), (.agg (KpA.row (gK ((gT ts i).ks) j))), (pt (nb ρ 2)), undef]) (fun ρ => [(2, (nw ρ 2 (cL (kpV 0 0 0 0 0 0 (.slice none 0 0) (.bool false)) 51))), (3, (pwt 17 (nb ρ 2) (cL (KpA.row (gK ((gT ts i).ks) j)) 51)))]) (cX (qF (fun _ _ _ hG => KpF.idx (k := .i64) Tryz.underlying44 Tryz.sizeOf51 ((hG.facts0.now.1).sub _ (gT_mem ((show ((i : Nat) : Int) = ((i : Nat) : Int) ∧ i < (ts).length from ⟨rfl, (by have := yF hb2; have := yF hb3; have := yT hb4; have := hlen; have := hi; have := ho.klen hf0 i; omega)⟩)).2)) rfl ((show ((j : Nat) : Int) = ((j : Nat) : Int) ∧ j < ((gT ts i).ks).length from ⟨rfl, (by have := yF hb2; have := yF hb3; have := yT hb4; have := yT hb10; have := hlen; have := hi; have := hj; have := ho.klen hf0 i; omega)⟩)).1 ((show ((j : Nat) : Int) = ((j : Nat) : Int) ∧ j < ((gT ts i).ks).length from ⟨rfl, (by have := yF hb2; have := yF hb3; have := yT hb4; have := yT hb10; have := hlen; have := hi; have := hj; have := ho.klen hf0 i; omega)⟩)).2)) <| cX (qF (fun _ _ _ hG => KpF.ldA (i := j) Tryz.isAgg51 Tryz.sizeOf51 ((hG.facts0.now.1).sub _ (gT_mem ((show ((i : Nat) : Int) = ((i : Nat) : Int) ∧ i < (ts).length from ⟨rfl, (by have := yF hb2; have := yF hb3; have := yT hb4; have := hlen; have := hi; have := ho.klen hf0 i; omega)⟩)).2)) ((show ((j : Nat) : Int) = ((j : Nat) : Int) ∧ j < ((gT ts i).ks).length from ⟨rfl, (by have := yF hb2; have := yF hb3; have := yT hb4; have := yT hb10; have := hlen; have := hi; have := hj; have := ho.klen hf0 i; omega)⟩)).2)) <| cR [[], [17]] <| cN) (fun ρ28 => ?_)
        refine okJ2 (σ := (Option Addr) × Nat × (List Nat)) (fun ⟨pa, pc, pq⟩ => [(1, (vi z)), (6, (vs q (N).length κ)), (10, (pt (nb ρ28 2))), (11, (.slice pa (nI pq).length pc)), (23, (.slice a (ts).length c)), (24, (vn (ts).length)), (25, (vn i)), (30, (.slice ((gT ts i).ka) ((gT ts i).ks).length ((gT ts i).kc))), (31, (vn (((gT ts i).ks).length))), (32, (vn j))]) (fun ⟨_, _, _⟩ => [(q, (cL C 39)), (nb ρ28 2, (cL (KpA.row (gK ((gT ts i).ks) j)) 51))]) (fun ⟨pa, pc, pq⟩ => (fun w => TmF w a c ts ∧ KbK w ∧ KbI w ∧ Is w .u32 pa pc (nI pq) ∧ True)) (fun ⟨_, _, pq⟩ => ((gK (gT ts i).ks j).ix z.toNat = pq) ∧ (∀ x ∈ pq, x < 4294967296)) ?_ ?_
        ·
         rintro ⟨pa, pc, pq⟩ ⟨hq, hq32⟩
         change Ok Tryz.prog _ _ 64 [(1, (vi z)), (6, (vs q (N).length κ)), (10, (pt (nb ρ28 2))), (11, (.slice pa (nI pq).length pc)), (23, (.slice a (ts).length c)), (24, (vn (ts).length)), (25, (vn i)), (30, (.slice ((gT ts i).ka) ((gT ts i).ks).length ((gT ts i).kc))), (31, (vn (((gT ts i).ks).length))), (32, (vn j))] _ [(q, (cL C 39)), (nb ρ28 2, (cL (KpA.row (gK ((gT ts i).ks) j)) 51))] (fun w => TmF w a c ts ∧ KbK w ∧ KbI w ∧ Is w .u32 pa pc (nI pq) ∧ True)
         refine sS Tryz.f9 10 [1, 6, 12, 13, 23, 24, 25, 30, 31, 32] [1, 0, 1] (fun ρ => [(pt (nb ρ28 2)), (.agg (kY ((gK ((gT ts i).ks) j).k))), (.slice pa (nI pq).length pc), (.tuple #[(.agg (kY (drK (gK ((gT ts i).ks) j).k pq))), (vi (drE (gK ((gT ts i).ks) j).k pq))]), (.tuple #[(.agg (kY (drK (gK ((gT ts i).ks) j).k pq))), (vi (drE (gK ((gT ts i).ks) j).k pq))]), (.agg (kY (drK (gK ((gT ts i).ks) j).k pq))), (vi (drE (gK ((gT ts i).ks) j).k pq)), (pt (nb ρ 7)), undef, (vi (drE (gK ((gT ts i).ks) j).k pq))]) (fun ρ => [(7, (nw ρ 7 (cL (kC 0 0 0 0 0 0) 48))), (8, (pwt 58 (nb ρ 7) (cL (kY (drK (gK ((gT ts i).ks) j).k pq)) 48)))]) (cR [[], [1], []] <| cX (qC (fun _ _ w hG => derive_any (gK ((gT ts i).ks) j).k pa pc pq (ho.gK i j).k hq32 w hG.facts0.now.2.2.2.1 hG.facts0.now.2.1 hG.facts0.now.2.2.1)) <| cR [[], [], [], [], [58], []] <| cN) (fun ρ29 => ?_)
         refine ok_seq ?_
         refine sS Tryz.f9 2 [1, 6, 12, 13, 23, 24, 25, 30, 31, 32, 54] [] (fun _ => [(vi (drE (gK ((gT ts i).ks) j).k pq)), (.bool ((drE (gK ((gT ts i).ks) j).k pq) != 0))]) (fun _ => []) (cR [[], []] <| cN) (fun _ => ?_)
         refine oC ((drE (gK ((gT ts i).ks) j).k pq) != 0) (fun hb11 => ?_) (fun hb11 => ?_)
         ·
          rw [hb11]
          refine sS Tryz.f9 3 [1, 4, 5, 6, 12, 23, 24, 25, 30, 31, 32] [] (fun _ => [(vi (drE (gK ((gT ts i).ks) j).k pq)), (.slice none 0 0), (vi (drE (gK ((gT ts i).ks) j).k pq))]) (fun _ => []) (cR [[], [], []] <| cN) (fun _ => ?_)
          refine ok_ret ?_
          refine mt_then_r ?_
          refine mt_block_r ?_
          refine mt_then_r ?_
          refine mt_then_r ?_
          refine mt_block_r ?_
          refine mt_block_r ?_
          refine mt_then_r ?_
          refine mt_then_r ?_
          refine mt_block_r ?_
          refine mt_then_r ?_
          refine mD [(1, (vi z)), (4, (.slice none 0 0)), (5, (vi (drE (gK ((gT ts i).ks) j).k pq))), (6, (vs q (N).length κ)), (12, (pt (nb ρ29 7))), (23, (.slice a (ts).length c)), (24, (vn (ts).length)), (25, (vn i)), (30, (.slice ((gT ts i).ka) ((gT ts i).ks).length ((gT ts i).kc))), (31, (vn (((gT ts i).ks).length))), (32, (vn j))] [(q, (cL C 39)), (nb ρ29 7, (cL (kY (drK (gK ((gT ts i).ks) j).k pq)) 48))] ?_
          exact mR (v := (.tuple #[(.slice none 0 0), (vi (drE (gK ((gT ts i).ks) j).k pq))])) (fun _ hS => (by rw [(ky_err (not_f hb1) hb2 hb3 (ke_stop (show j < (gT ts i).ks.length from (by have := yF hb2; have := yF hb3; have := yT hb4; have := yT hb10; have := hlen; have := hi; have := hj; have := ho.klen hf0 i; omega)) hq hb11 hE) hb11).1, (ky_err (not_f hb1) hb2 hb3 (ke_stop (show j < (gT ts i).ks.length from (by have := yF hb2; have := yF hb3; have := yT hb4; have := yT hb10; have := hlen; have := hi; have := hj; have := ho.klen hf0 i; omega)) hq hb11 hE) hb11).2]; exact ⟨none, 0, rfl, hS.bel, persTrue (fun _ => Us.nil)⟩))
         ·
          rw [hb11]
          refine ok_skip ?_
          refine mt_then ?_
          refine rSf Tryz.f9 6 [1, 6, 23, 24, 25, 30, 31, 32] [1, 0, 0] (fun ρ => [(vs q (N).length κ), (.pointer (some ⟨nb ρ29 7, 4, none⟩)), (U ((drK (gK ((gT ts i).ks) j).k pq).p)), (vs (nb ρ 3) 1 1), (vs (nb ρ 4) (N ++ ([(drK (gK ((gT ts i).ks) j).k pq).p])).length (nb2 ρ 4)), (vs (nb ρ 4) (N ++ ([(drK (gK ((gT ts i).ks) j).k pq).p])).length (nb2 ρ 4))]) (fun ρ => [(3, (nw ρ 3 (cL (cU ((drK (gK ((gT ts i).ks) j).k pq).p)) 39))), (4, (pwt 0 (nb ρ 4) (cL (oc ρ 4) 39)))]) (fun ρ => [(4, fun w => kU.A (oc ρ 4) (N ++ ([(drK (gK ((gT ts i).ks) j).k pq).p])) (nb2 ρ 4))]) (fun _ => (fun w => TmF w a c ts ∧ KbK w ∧ KbI w ∧ Is w .u32 pa pc (nI pq) ∧ True)) (fun ρ => kU.A (oc ρ 4) (N ++ ([(drK (gK ((gT ts i).ks) j).k pq).p])) (nb2 ρ 4)) (fun _ _ hF hf => ⟨hF, hf 4⟩) (cR [[], [], [1], []] <| cX (qM 0 (fun ρ _ _ hG hg => appG_any (K := kU) (ty := 29) (g := q) (ts := N) (us := [(drK (gK ((gT ts i).ks) j).k pq).p]) Tryz.underlying29 (elike_of (sz := 4) (b := 32) (z := (U 0)) (by kernel_rfl) rfl) hA (src_u1 Tryz.underlying29 (hG.kn (g := nb ρ 3) (o := (cL (cU ((drK (gK ((gT ts i).ks) j).k pq).p)) 39)) 26)) (by have := kn_len (not_f hb1) hN; have := drop_app (R := aK (ts.drop (i + 1))) (show j < (gT ts i).ks.length from (by have := yF hb2; have := yF hb3; have := yT hb4; have := yT hb10; have := hlen; have := hi; have := hj; have := ho.klen hf0 i; omega)); simp only [List.length_cons, List.length_nil]; omega) (by decide) hg)) <| cR [[]] <| cN) (fun ρ32 ap32_4 => ?_)
          refine mt_block_n ?_
          refine mt_then ?_
          refine rS Tryz.f9 2 [1, 6, 23, 24, 25, 30, 31, 32] [] (fun _ => [(vn (j + 1)), (vn (j + 1))]) (fun _ => []) (cA (v := fun ρ => (vi (IntKind.i64.wrap (((j : Nat) : Int) + 1)))) (fun _ => (vn (j + 1))) (fun _ => congrArg (Value.int .i64) (wrap_addN j 1 (by have := yF hb2; have := yF hb3; have := yT hb4; have := yT hb10; have := hlen; have := hi; have := hj; have := ho.klen hf0 i; omega))) <| cR [[]] <| cN) (fun _ => ?_)
          refine mt_facts (fun w => TmF w a c ts ∧ KbK w ∧ KbI w ∧ True) (fun w hF => ⟨hF.1, hF.2.1, hF.2.2.1, trivial⟩) ?_
          exact mN (Sum.inr (j + 1, nb ρ32 4, N ++ ([(drK (gK ((gT ts i).ks) j).k pq).p]), oc ρ32 4, nb2 ρ32 4)) (by show (gT ts i).ks.length - (j + 1) < (gT ts i).ks.length - j; have := yF hb2; have := yF hb3; have := yT hb4; have := yT hb10; have := hlen; have := hi; have := hj; have := ho.klen hf0 i; omega) (⟨(by have := yF hb2; have := yF hb3; have := yT hb4; have := yT hb10; have := hlen; have := hi; have := hj; have := ho.klen hf0 i; omega), kn_next (show j < (gT ts i).ks.length from (by have := yF hb2; have := yF hb3; have := yT hb4; have := yT hb10; have := hlen; have := hi; have := hj; have := ho.klen hf0 i; omega)) hq hN, ke_next (show j < (gT ts i).ks.length from (by have := yF hb2; have := yF hb3; have := yT hb4; have := yT hb10; have := hlen; have := hi; have := hj; have := ho.klen hf0 i; omega)) hq hb11 hE, ap32_4, (fun n hn => (List.mem_append.1 hn).elim (hM n) (fun hn => by rw [List.mem_singleton.1 hn]; exact (drK_ok (ho.gK i j).k hq32).p))⟩) []
        ·
         intro J2
         rcases Bool.eq_false_or_eq_true (((gK ((gT ts i).ks) j).pa).isNone) with hb12 | hb12
         ·
          refine sS Tryz.f9 4 [1, 6, 10, 11, 23, 24, 25, 30, 31, 32] [] (fun _ => [(.pointer (some ⟨nb ρ28 2, 43, none⟩)), (.slice ((gK ((gT ts i).ks) j).pa) (nI (gK ((gT ts i).ks) j).ps).length ((gK ((gT ts i).ks) j).pc)), (.slice none 0 0), (.slice none 0 0)]) (fun _ => []) (cR [[], [1]] <| cX (qC (fun _ _ w hG => clone0_any ((gK ((gT ts i).ks) j).pa) ((gK ((gT ts i).ks) j).pc) ((gK ((gT ts i).ks) j).ps) hb12 w ((((hG.facts0.now.1).sub _ (gT_mem ((show ((i : Nat) : Int) = ((i : Nat) : Int) ∧ i < (ts).length from ⟨rfl, (by have := yF hb2; have := yF hb3; have := yT hb4; have := hlen; have := hi; have := ho.klen hf0 i; omega)⟩)).2))).sub _ (gK_mem ((show ((j : Nat) : Int) = ((j : Nat) : Int) ∧ j < ((gT ts i).ks).length from ⟨rfl, (by have := yF hb2; have := yF hb3; have := yT hb4; have := yT hb10; have := hlen; have := hi; have := hj; have := ho.klen hf0 i; omega)⟩)).2)))) <| cR [[]] <| cN) (fun _ => ?_)
          refine ok_seq ?_
          refine sS Tryz.f9 2 [1, 6, 10, 11, 23, 24, 25, 30, 31, 32, 40] [] (fun _ => [(.pointer (some ⟨nb ρ28 2, 44, none⟩)), (.bool ((gK ((gT ts i).ks) j).wd))]) (fun _ => []) (cR [[], [1]] <| cN) (fun _ => ?_)
          refine oC ((gK ((gT ts i).ks) j).wd) (fun hb13 => ?_) (fun hb13 => ?_)
          ·
           rw [hb13]
           refine rS Tryz.f9 6 [1, 6, 10, 11, 23, 24, 25, 30, 31, 32] [1, 1, 0, 1] (fun ρ => [(.slice none 0 0), (vi z), (.int .u32 ((z.toNat : Nat) : Int)), (vs (nb ρ 3) 1 1), (vs (nb ρ 4) (nI ([z.toNat])).length ((nI ([z.toNat])).length + nb2 ρ 4)), (vs (nb ρ 4) (nI ([z.toNat])).length ((nI ([z.toNat])).length + nb2 ρ 4))]) (fun ρ => [(3, (nw ρ 3 (cL #[(.int .u32 ((z.toNat : Nat) : Int))] 41))), (4, (nw ρ 4 (cL ((kI.r ([z.toNat])).toArray ++ Builtin.zeroCells (Value.cells (.int .u32 0)) (nb2 ρ 4)) 41)))]) (cR [[], []] <| cA (fun _ => (.int .u32 ((z.toNat : Nat) : Int))) (fun _ => congrArg (Value.int .u32) (u32Z hb2 hb3)) <| cR [[]] <| cX (qN (fun _ ζ => (vs (ζ.headD 0) (nI ([z.toNat])).length ((nI ([z.toNat])).length + ζ.tail.headD 0))) (fun _ ζ => (cL ((kI.r ([z.toNat])).toArray ++ Builtin.zeroCells (Value.cells (.int .u32 0)) (ζ.tail.headD 0)) 41)) (fun ρ _ _ hG => appI_nil (ty := 49) (us := [z.toNat]) Tryz.underlying49 (elike_of (sz := 1) (b := 4) (z := (.int .u32 0)) (by kernel_rfl) rfl) (src_i1 Tryz.underlying49 (hG.kn (g := nb ρ 3) (o := (cL #[(.int .u32 ((z.toNat : Nat) : Int))] 41)) 26)) (Nat.le_of_ble_eq_true rfl) (Nat.le_of_ble_eq_true rfl) (by decide))) <| cR [[]] <| cN) (fun ρ36 => ?_)
           refine mt_then ?_
           refine dRs [(1, (vi z)), (6, (vs q (N).length κ)), (10, (pt (nb ρ28 2))), (11, (vs (nb ρ36 4) (nI ([z.toNat])).length ((nI ([z.toNat])).length + nb2 ρ36 4))), (23, (.slice a (ts).length c)), (24, (vn (ts).length)), (25, (vn i)), (30, (.slice ((gT ts i).ka) ((gT ts i).ks).length ((gT ts i).kc))), (31, (vn (((gT ts i).ks).length))), (32, (vn j))] [(q, (cL C 39)), (nb ρ28 2, (cL (KpA.row (gK ((gT ts i).ks) j)) 51)), (nb ρ36 4, (cL ((kI.r ([z.toNat])).toArray ++ Builtin.zeroCells (Value.cells (.int .u32 0)) (nb2 ρ36 4)) 41))] ?_
           exact okE J2 (some ⟨nb ρ36 4, 0, none⟩, (nI ([z.toNat])).length + nb2 ρ36 4, [z.toNat]) (⟨(ix_b hb13 (hf0.pathN (show i < ts.length from (by have := yF hb2; have := yF hb3; have := yT hb4; have := yT hb10; have := hlen; have := hi; have := hj; have := ho.klen hf0 i; omega)) (show j < (gT ts i).ks.length from (by have := yF hb2; have := yF hb3; have := yT hb4; have := yT hb10; have := hlen; have := hi; have := hj; have := ho.klen hf0 i; omega)) hb12)), (fun x hx => by rw [List.mem_singleton.1 hx]; exact (z32n hb2 hb3))⟩) (fun w hS => (hS.frozI (e := 41) (fr := (0, 0)) 2 (RowK.A.fresh (K := kI) (z := (.int .u32 0)) rfl ([z.toNat]) (nb2 ρ36 4)) (by have := vl_ps (not_f hb1) (show i < ts.length from (by have := yF hb2; have := yF hb3; have := yT hb4; have := yT hb10; have := hlen; have := hi; have := hj; have := ho.klen hf0 i; omega)) (show j < (gT ts i).ks.length from (by have := yF hb2; have := yF hb3; have := yT hb4; have := yT hb10; have := hlen; have := hi; have := hj; have := ho.klen hf0 i; omega)); simp only [List.length_cons, List.length_nil]; omega) []).weaken (fun w hF => ⟨hF.2.1, hF.2.2.1, hF.2.2.2.1, hF.1, trivial⟩))
          ·
           rw [hb13]
           refine ok_skip ?_
           refine mt_then ?_
           refine dRs [(1, (vi z)), (6, (vs q (N).length κ)), (10, (pt (nb ρ28 2))), (11, (.slice none 0 0)), (23, (.slice a (ts).length c)), (24, (vn (ts).length)), (25, (vn i)), (30, (.slice ((gT ts i).ka) ((gT ts i).ks).length ((gT ts i).kc))), (31, (vn (((gT ts i).ks).length))), (32, (vn j)), (40, (.bool false))] [(q, (cL C 39)), (nb ρ28 2, (cL (KpA.row (gK ((gT ts i).ks) j)) 51))] ?_
           exact okE J2 (none, 0, []) (⟨(ix_a hb13 (hf0.pathN (show i < ts.length from (by have := yF hb2; have := yF hb3; have := yT hb4; have := yT hb10; have := hlen; have := hi; have := hj; have := ho.klen hf0 i; omega)) (show j < (gT ts i).ks.length from (by have := yF hb2; have := yF hb3; have := yT hb4; have := yT hb10; have := hlen; have := hi; have := hj; have := ho.klen hf0 i; omega)) hb12)), (by simp)⟩) (fun w hS => (hS.frozN (k := .u32) (a := none) (c := 0) []).weaken (fun w hF => ⟨hF.2.1, hF.2.2.1, hF.2.2.2.1, hF.1, trivial⟩))
         ·
          refine sSf Tryz.f9 4 [1, 6, 10, 11, 23, 24, 25, 30, 31, 32] [] (fun ρ => [(.pointer (some ⟨nb ρ28 2, 43, none⟩)), (.slice ((gK ((gT ts i).ks) j).pa) (nI (gK ((gT ts i).ks) j).ps).length ((gK ((gT ts i).ks) j).pc)), (vs (nb ρ 2) (nI ((gK ((gT ts i).ks) j).ps)).length (nb2 ρ 2)), (vs (nb ρ 2) (nI ((gK ((gT ts i).ks) j).ps)).length (nb2 ρ 2))]) (fun ρ => [(2, (nw ρ 2 (cL (oc ρ 2) 41)))]) (fun ρ => [(2, fun w => kI.A (oc ρ 2) ((gK ((gT ts i).ks) j).ps) (nb2 ρ 2))]) (fun _ => (fun w => TmF w a c ts ∧ KbK w ∧ KbI w ∧ True)) (fun ρ => kI.A (oc ρ 2) ((gK ((gT ts i).ks) j).ps) (nb2 ρ 2)) (fun _ _ hF hf => ⟨hF, hf 2⟩) (cR [[], [1]] <| cX (o_callR _ 22 (fun _ => #[(.slice ((gK ((gT ts i).ks) j).pa) (nI (gK ((gT ts i).ks) j).ps).length ((gK ((gT ts i).ks) j).pc))]) (fun _ r => (vs (r.n.headD 0) (nI ((gK ((gT ts i).ks) j).ps)).length (r.n.tail.headD 0))) (fun _ r => (cL (orcC r) 41)) (fun _ r => kI.A (orcC r) ((gK ((gT ts i).ks) j).ps) (r.n.tail.headD 0)) (fun _ _ => (by kernel_rfl)) (fun _ _ => (by kernel_rfl)) (fun _ _ => (by kernel_rfl)) (fun _ _ => (by kernel_rfl)) (fun _ _ w hG => clone1_any ((gK ((gT ts i).ks) j).pa) ((gK ((gT ts i).ks) j).pc) ((gK ((gT ts i).ks) j).ps) hb12 (vl_ps (not_f hb1) (show i < ts.length from (by have := yF hb2; have := yF hb3; have := yT hb4; have := yT hb10; have := hlen; have := hi; have := hj; have := ho.klen hf0 i; omega)) (show j < (gT ts i).ks.length from (by have := yF hb2; have := yF hb3; have := yT hb4; have := yT hb10; have := hlen; have := hi; have := hj; have := ho.klen hf0 i; omega))) w ((((hG.facts0.now.1).sub _ (gT_mem ((show ((i : Nat) : Int) = ((i : Nat) : Int) ∧ i < (ts).length from ⟨rfl, (by have := yF hb2; have := yF hb3; have := yT hb4; have := hlen; have := hi; have := ho.klen hf0 i; omega)⟩)).2))).sub _ (gK_mem ((show ((j : Nat) : Int) = ((j : Nat) : Int) ∧ j < ((gT ts i).ks).length from ⟨rfl, (by have := yF hb2; have := yF hb3; have := yT hb4; have := yT hb10; have := hlen; have := hi; have := hj; have := ho.klen hf0 i; omega)⟩)).2)))) <| cR [[]] <| cN) (fun ρ37 ap37_2 => ?_)
          refine ok_seq ?_
          refine sS Tryz.f9 2 [1, 6, 10, 11, 23, 24, 25, 30, 31, 32, 40] [] (fun _ => [(.pointer (some ⟨nb ρ28 2, 44, none⟩)), (.bool ((gK ((gT ts i).ks) j).wd))]) (fun _ => []) (cR [[], [1]] <| cN) (fun _ => ?_)
          refine oC ((gK ((gT ts i).ks) j).wd) (fun hb14 => ?_) (fun hb14 => ?_)
          ·
           rw [hb14]
           refine rSf Tryz.f9 6 [1, 6, 10, 11, 23, 24, 25, 30, 31, 32] [1, 1, 1, 0] (fun ρ => [(vs (nb ρ37 2) (nI ((gK ((gT ts i).ks) j).ps)).length (nb2 ρ37 2)), (vi z), (.int .u32 ((z.toNat : Nat) : Int)), (vs (nb ρ 3) 1 1), (vs (nb ρ 4) (nI (((gK ((gT ts i).ks) j).ps) ++ ([z.toNat]))).length (nb2 ρ 4)), (vs (nb ρ 4) (nI (((gK ((gT ts i).ks) j).ps) ++ ([z.toNat]))).length (nb2 ρ 4))]) (fun ρ => [(3, (nw ρ 3 (cL #[(.int .u32 ((z.toNat : Nat) : Int))] 41))), (4, (pwt 2 (nb ρ 4) (cL (oc ρ 4) 41)))]) (fun ρ => [(4, fun w => kI.A (oc ρ 4) (((gK ((gT ts i).ks) j).ps) ++ ([z.toNat])) (nb2 ρ 4))]) (fun _ => (fun w => TmF w a c ts ∧ KbK w ∧ KbI w ∧ True)) (fun ρ => kI.A (oc ρ 4) (((gK ((gT ts i).ks) j).ps) ++ ([z.toNat])) (nb2 ρ 4)) (fun _ _ hF hf => ⟨hF, hf 4⟩) (cR [[], []] <| cA (fun _ => (.int .u32 ((z.toNat : Nat) : Int))) (fun _ => congrArg (Value.int .u32) (u32Z hb2 hb3)) <| cR [[]] <| cX (qM 2 (fun ρ _ _ hG hg => appI_any (ty := 49) (g := nb ρ37 2) (ts := (gK ((gT ts i).ks) j).ps) (us := [z.toNat]) Tryz.underlying49 (elike_of (sz := 1) (b := 4) (z := (.int .u32 0)) (by kernel_rfl) rfl) ap37_2 (src_i1 Tryz.underlying49 (hG.kn (g := nb ρ 3) (o := (cL #[(.int .u32 ((z.toNat : Nat) : Int))] 41)) 27)) (by have := vl_ps (not_f hb1) (show i < ts.length from (by have := yF hb2; have := yF hb3; have := yT hb4; have := yT hb10; have := hlen; have := hi; have := hj; have := ho.klen hf0 i; omega)) (show j < (gT ts i).ks.length from (by have := yF hb2; have := yF hb3; have := yT hb4; have := yT hb10; have := hlen; have := hi; have := hj; have := ho.klen hf0 i; omega)); simp only [List.length_cons, List.length_nil]; omega) (by decide) hg)) <| cR [[]] <| cN) (fun ρ39 ap39_4 => ?_)
           refine mt_then ?_
           refine dRs [(1, (vi z)), (6, (vs q (N).length κ)), (10, (pt (nb ρ28 2))), (11, (vs (nb ρ39 4) (nI (((gK ((gT ts i).ks) j).ps) ++ ([z.toNat]))).length (nb2 ρ39 4))), (23, (.slice a (ts).length c)), (24, (vn (ts).length)), (25, (vn i)), (30, (.slice ((gT ts i).ka) ((gT ts i).ks).length ((gT ts i).kc))), (31, (vn (((gT ts i).ks).length))), (32, (vn j))] [(q, (cL C 39)), (nb ρ28 2, (cL (KpA.row (gK ((gT ts i).ks) j)) 51)), (nb ρ39 4, (cL (oc ρ39 4) 41))] ?_
           exact okE J2 (some ⟨nb ρ39 4, 0, none⟩, nb2 ρ39 4, (gK (gT ts i).ks j).ps ++ [z.toNat]) (⟨(ix_d hb14), (fun x hx => (List.mem_append.1 hx).elim ((ho.gK i j).ps x) (fun hx => by rw [List.mem_singleton.1 hx]; exact (z32n hb2 hb3)))⟩) (fun w hS => (hS.frozI (e := 41) (fr := (0, 0)) 2 ap39_4 (by have := vl_ps (not_f hb1) (show i < ts.length from (by have := yF hb2; have := yF hb3; have := yT hb4; have := yT hb10; have := hlen; have := hi; have := hj; have := ho.klen hf0 i; omega)) (show j < (gT ts i).ks.length from (by have := yF hb2; have := yF hb3; have := yT hb4; have := yT hb10; have := hlen; have := hi; have := hj; have := ho.klen hf0 i; omega)); simp only [List.length_append, List.length_cons, List.length_nil]; omega) []).weaken (fun w hF => ⟨hF.2.1, hF.2.2.1, hF.2.2.2.1, hF.1, trivial⟩))
          ·
           rw [hb14]
           refine ok_skip ?_
           refine mt_then ?_
           refine dRs [(1, (vi z)), (6, (vs q (N).length κ)), (10, (pt (nb ρ28 2))), (11, (vs (nb ρ37 2) (nI ((gK ((gT ts i).ks) j).ps)).length (nb2 ρ37 2))), (23, (.slice a (ts).length c)), (24, (vn (ts).length)), (25, (vn i)), (30, (.slice ((gT ts i).ka) ((gT ts i).ks).length ((gT ts i).kc))), (31, (vn (((gT ts i).ks).length))), (32, (vn j)), (40, (.bool false))] [(q, (cL C 39)), (nb ρ28 2, (cL (KpA.row (gK ((gT ts i).ks) j)) 51)), (nb ρ37 2, (cL (oc ρ37 2) 41))] ?_
           exact okE J2 (some ⟨nb ρ37 2, 0, none⟩, nb2 ρ37 2, (gK (gT ts i).ks j).ps) (⟨(ix_c hb14), (ho.gK i j).ps⟩) (fun w hS => (hS.frozI (e := 41) (fr := (0, 0)) 2 ap37_2 (by have := vl_ps (not_f hb1) (show i < ts.length from (by have := yF hb2; have := yF hb3; have := yT hb4; have := yT hb10; have := hlen; have := hi; have := hj; have := ho.klen hf0 i; omega)) (show j < (gT ts i).ks.length from (by have := yF hb2; have := yF hb3; have := yT hb4; have := yT hb10; have := hlen; have := hi; have := hj; have := ho.klen hf0 i; omega)); omega) []).weaken (fun w hF => ⟨hF.2.1, hF.2.2.1, hF.2.2.2.1, hF.1, trivial⟩))
       ·
        rw [hb10]
        refine ok_exit ?_
        refine mt_then_e ?_
        refine mt_then_e ?_
        refine mt_block_h ?_
        refine mt_block_n ?_
        refine mt_then ?_
        refine rS Tryz.f9 2 [1, 6, 23, 24, 25] [] (fun _ => [(vn (i + 1)), (vn (i + 1))]) (fun _ => []) (cA (v := fun ρ => (vi (IntKind.i64.wrap (((i : Nat) : Int) + 1)))) (fun _ => (vn (i + 1))) (fun _ => congrArg (Value.int .i64) (wrap_addN i 1 (by have := yF hb2; have := yF hb3; have := yT hb4; have := yF hb10; have := hlen; have := hi; have := hj; have := ho.klen hf0 i; omega))) <| cR [[]] <| cN) (fun _ => ?_)
        exact mN (Sum.inr (i + 1, q, N, C, κ)) (by show ts.length - (i + 1) < ts.length - i; have := yF hb2; have := yF hb3; have := yT hb4; have := yF hb10; have := hlen; have := hi; have := hj; have := ho.klen hf0 i; omega) (⟨(by have := yF hb2; have := yF hb3; have := yT hb4; have := yF hb10; have := hlen; have := hi; have := hj; have := ho.klen hf0 i; omega), kn_out (by have := yF hb2; have := yF hb3; have := yT hb4; have := yF hb10; have := hlen; have := hi; have := hj; have := ho.klen hf0 i; omega) hN, ke_out (by have := yF hb2; have := yF hb3; have := yT hb4; have := yF hb10; have := hlen; have := hi; have := hj; have := ho.klen hf0 i; omega) hE, hA, hM⟩) []
     ·
      rw [hb4]
      refine ok_exit ?_
      refine mt_then_e ?_
      refine mt_then_e ?_
      refine mt_block_h ?_
      refine mt_then ?_
      refine sS Tryz.f9 3 [4, 5] [] (fun _ => [(.slice none 0 0), (.slice none 0 0), (vi 0)]) (fun _ => []) (cR [[], [], []] <| cN) (fun _ => ?_)
      refine ok_ret ?_
      refine mD [(4, (.slice none 0 0)), (5, (vi 0))] [] ?_
      exact mR (v := (.tuple #[(.slice none 0 0), (vi 0)])) (fun _ hS => (by rw [(ky_ok (not_f hb1) hb2 hb3 (by have := yF hb2; have := yF hb3; have := yF hb4; have := hlen; have := hi; have := ho.klen hf0 i; omega) hE0 hN0).1, (ky_ok (not_f hb1) hb2 hb3 (by have := yF hb2; have := yF hb3; have := yF hb4; have := hlen; have := hi; have := ho.klen hf0 i; omega) hE0 hN0).2]; exact ⟨none, 0, rfl, hS.bel, persTrue (fun _ => Us.nil)⟩))
    ·
     rintro ⟨hi, hN0, hE0, hA, hM⟩
     change Ok Tryz.prog _ _ 64 [(1, (vi z)), (6, (vs q (N).length κ)), (23, (.slice a (ts).length c)), (24, (vn (ts).length)), (25, (vn i))] _ [(q, (cL C 39))] (fun w => TmF w a c ts ∧ KbK w ∧ KbI w ∧ True)
     refine sS Tryz.f9 1 [1, 6, 23, 24, 25, 26] [] (fun _ => [(.bool (decide (((i : Nat) : Int) < (((ts).length : Nat) : Int))))]) (fun _ => []) (cR [[]] <| cN) (fun _ => ?_)
     refine ok_seq ?_
     refine oC (decide (((i : Nat) : Int) < (((ts).length : Nat) : Int))) (fun hb15 => ?_) (fun hb15 => ?_)
     ·
      rw [hb15]
      refine ok_skip ?_
      refine mt_then ?_
      refine ok_seq ?_
      refine ok_block ?_
      refine sS Tryz.f9 4 [1, 6, 8, 23, 24, 25] [] (fun ρ => [(.pointer (adr a (i * 36))), (.agg (TmA.row (gT ts i))), (pt (nb ρ 2)), undef]) (fun ρ => [(2, (nw ρ 2 (cL (tmV 0 0 0 0 (.slice none 0 0)) 46))), (3, (pwt 17 (nb ρ 2) (cL (TmA.row (gT ts i)) 46)))]) (cX (qF (fun _ _ _ hG => TmF.idx (k := .i64) Tryz.underlying24 Tryz.sizeOf46 hG.facts0.now.1 rfl ((show ((i : Nat) : Int) = ((i : Nat) : Int) ∧ i < (ts).length from ⟨rfl, (by have := yF hb2; have := yF hb3; have := yT hb15; have := hlen; have := hi; have := ho.klen hf0 i; omega)⟩)).1 ((show ((i : Nat) : Int) = ((i : Nat) : Int) ∧ i < (ts).length from ⟨rfl, (by have := yF hb2; have := yF hb3; have := yT hb15; have := hlen; have := hi; have := ho.klen hf0 i; omega)⟩)).2)) <| cX (qF (fun _ _ _ hG => TmF.ldA (i := i) Tryz.isAgg46 Tryz.sizeOf46 hG.facts0.now.1 ((show ((i : Nat) : Int) = ((i : Nat) : Int) ∧ i < (ts).length from ⟨rfl, (by have := yF hb2; have := yF hb3; have := yT hb15; have := hlen; have := hi; have := ho.klen hf0 i; omega)⟩)).2)) <| cR [[], [17]] <| cN) (fun ρ43 => ?_)
      refine sS Tryz.f9 4 [1, 6, 23, 24, 25, 30, 31, 32] [1, 0] (fun _ => [(.pointer (some ⟨nb ρ43 2, 35, none⟩)), (.slice ((gT ts i).ka) ((gT ts i).ks).length ((gT ts i).kc)), (vn (((gT ts i).ks).length)), (vi 0)]) (fun _ => []) (cR [[], [1], [], []] <| cN) (fun _ => ?_)
      refine ok_block ?_
      refine oL (σ := (Nat × Nat × (List Nat) × (Array Value) × Nat)) (fun s => match s with |  ⟨j, q, N, _, κ⟩ => [(1, (vi z)), (6, (vs q (N).length κ)), (23, (.slice a (ts).length c)), (24, (vn (ts).length)), (25, (vn i)), (30, (.slice ((gT ts i).ka) ((gT ts i).ks).length ((gT ts i).kc))), (31, (vn (((gT ts i).ks).length))), (32, (vn j))]) (fun s => match s with |  ⟨_, q, _, C, _⟩ => [(q, (cL C 39))]) (fun s => match s with |  ⟨j, _, _, _, _⟩ => (gT ts i).ks.length - j)
        (fun s => match s with |  ⟨j, _, N, C, κ⟩ => (j ≤ (gT ts i).ks.length) ∧ (N ++ ksN z.toNat ((gT ts i).ks.drop j ++ aK (ts.drop (i + 1))) = ksN z.toNat (aK ts)) ∧ (ksE z.toNat ((gT ts i).ks.drop j ++ aK (ts.drop (i + 1))) = ksE z.toNat (aK ts)) ∧ (kU.A C N κ) ∧ (∀ n ∈ N, n < M)) ( (0, q, N, C, κ)) (⟨Nat.zero_le _, kn_in (show i < ts.length from (by have := yF hb2; have := yF hb3; have := yT hb15; have := hlen; have := hi; have := ho.klen hf0 i; omega)) hN0, ke_in (show i < ts.length from (by have := yF hb2; have := yF hb3; have := yT hb15; have := hlen; have := hi; have := ho.klen hf0 i; omega)) hE0, hA, hM⟩) [] ?_
      rintro ⟨j, q, N, C, κ⟩
      rintro ⟨hj, hN, hE, hA, hM⟩
      change Ok Tryz.prog _ _ 64 [(1, (vi z)), (6, (vs q (N).length κ)), (23, (.slice a (ts).length c)), (24, (vn (ts).length)), (25, (vn i)), (30, (.slice ((gT ts i).ka) ((gT ts i).ks).length ((gT ts i).kc))), (31, (vn (((gT ts i).ks).length))), (32, (vn j))] _ [(q, (cL C 39))] (fun w => TmF w a c ts ∧ KbK w ∧ KbI w ∧ True)
      refine sS Tryz.f9 1 [1, 6, 23, 24, 25, 30, 31, 32, 33] [] (fun _ => [(.bool (decide (((j : Nat) : Int) < ((((gT ts i).ks).length : Nat) : Int))))]) (fun _ => []) (cR [[]] <| cN) (fun _ => ?_)
      refine ok_seq ?_
      refine oC (decide (((j : Nat) : Int) < ((((gT ts i).ks).length : Nat) : Int))) (fun hb16 => ?_) (fun hb16 => ?_)
      ·
       rw [hb16]
       refine ok_skip ?_
       refine mt_then ?_
       refine ok_seq ?_
       refine ok_block ?_
       refine sS Tryz.f9 4 [1, 6, 10, 23, 24, 25, 30, 31, 32] [] (fun ρ => [(.pointer (adr ((gT ts i).ka) (j * 45))), (.agg (KpA.row (gK ((gT ts i).ks) j))), (pt (nb ρ 2)), undef]) (fun ρ => [(2, (nw ρ 2 (cL (kpV 0 0 0 0 0 0 (.slice none 0 0) (.bool false)) 51))), (3, (pwt 17 (nb ρ 2) (cL (KpA.row (gK ((gT ts i).ks) j)) 51)))]) (cX (qF (fun _ _ _ hG => KpF.idx (k := .i64) Tryz.underlying44 Tryz.sizeOf51 ((hG.facts0.now.1).sub _ (gT_mem ((show ((i : Nat) : Int) = ((i : Nat) : Int) ∧ i < (ts).length from ⟨rfl, (by have := yF hb2; have := yF hb3; have := yT hb15; have := hlen; have := hi; have := ho.klen hf0 i; omega)⟩)).2)) rfl ((show ((j : Nat) : Int) = ((j : Nat) : Int) ∧ j < ((gT ts i).ks).length from ⟨rfl, (by have := yF hb2; have := yF hb3; have := yT hb15; have := yT hb16; have := hlen; have := hi; have := hj; have := ho.klen hf0 i; omega)⟩)).1 ((show ((j : Nat) : Int) = ((j : Nat) : Int) ∧ j < ((gT ts i).ks).length from ⟨rfl, (by have := yF hb2; have := yF hb3; have := yT hb15; have := yT hb16; have := hlen; have := hi; have := hj; have := ho.klen hf0 i; omega)⟩)).2)) <| cX (qF (fun _ _ _ hG => KpF.ldA (i := j) Tryz.isAgg51 Tryz.sizeOf51 ((hG.facts0.now.1).sub _ (gT_mem ((show ((i : Nat) : Int) = ((i : Nat) : Int) ∧ i < (ts).length from ⟨rfl, (by have := yF hb2; have := yF hb3; have := yT hb15; have := hlen; have := hi; have := ho.klen hf0 i; omega)⟩)).2)) ((show ((j : Nat) : Int) = ((j : Nat) : Int) ∧ j < ((gT ts i).ks).length from ⟨rfl, (by have := yF hb2; have := yF hb3; have := yT hb15; have := yT hb16; have := hlen; have := hi; have := hj; have := ho.klen hf0 i; omega)⟩)).2)) <| cR [[], [17]] <| cN) (fun ρ46 => ?_)
       refine okJ2 (σ := (Option Addr) × Nat × (List Nat)) (fun ⟨pa, pc, pq⟩ => [(1, (vi z)), (6, (vs q (N).length κ)), (10, (pt (nb ρ46 2))), (11, (.slice pa (nI pq).length pc)), (23, (.slice a (ts).length c)), (24, (vn (ts).length)), (25, (vn i)), (30, (.slice ((gT ts i).ka) ((gT ts i).ks).length ((gT ts i).kc))), (31, (vn (((gT ts i).ks).length))), (32, (vn j))]) (fun ⟨_, _, _⟩ => [(q, (cL C 39)), (nb ρ46 2, (cL (KpA.row (gK ((gT ts i).ks) j)) 51))]) (fun ⟨pa, pc, pq⟩ => (fun w => TmF w a c ts ∧ KbK w ∧ KbI w ∧ Is w .u32 pa pc (nI pq) ∧ True)) (fun ⟨_, _, pq⟩ => ((gK (gT ts i).ks j).ix z.toNat = pq) ∧ (∀ x ∈ pq, x < 4294967296)) ?_ ?_
       ·
        rintro ⟨pa, pc, pq⟩ ⟨hq, hq32⟩
        change Ok Tryz.prog _ _ 64 [(1, (vi z)), (6, (vs q (N).length κ)), (10, (pt (nb ρ46 2))), (11, (.slice pa (nI pq).length pc)), (23, (.slice a (ts).length c)), (24, (vn (ts).length)), (25, (vn i)), (30, (.slice ((gT ts i).ka) ((gT ts i).ks).length ((gT ts i).kc))), (31, (vn (((gT ts i).ks).length))), (32, (vn j))] _ [(q, (cL C 39)), (nb ρ46 2, (cL (KpA.row (gK ((gT ts i).ks) j)) 51))] (fun w => TmF w a c ts ∧ KbK w ∧ KbI w ∧ Is w .u32 pa pc (nI pq) ∧ True)
        refine sS Tryz.f9 10 [1, 6, 12, 13, 23, 24, 25, 30, 31, 32] [1, 0, 1] (fun ρ => [(pt (nb ρ46 2)), (.agg (kY ((gK ((gT ts i).ks) j).k))), (.slice pa (nI pq).length pc), (.tuple #[(.agg (kY (drK (gK ((gT ts i).ks) j).k pq))), (vi (drE (gK ((gT ts i).ks) j).k pq))]), (.tuple #[(.agg (kY (drK (gK ((gT ts i).ks) j).k pq))), (vi (drE (gK ((gT ts i).ks) j).k pq))]), (.agg (kY (drK (gK ((gT ts i).ks) j).k pq))), (vi (drE (gK ((gT ts i).ks) j).k pq)), (pt (nb ρ 7)), undef, (vi (drE (gK ((gT ts i).ks) j).k pq))]) (fun ρ => [(7, (nw ρ 7 (cL (kC 0 0 0 0 0 0) 48))), (8, (pwt 58 (nb ρ 7) (cL (kY (drK (gK ((gT ts i).ks) j).k pq)) 48)))]) (cR [[], [1], []] <| cX (qC (fun _ _ w hG => derive_any (gK ((gT ts i).ks) j).k pa pc pq (ho.gK i j).k hq32 w hG.facts0.now.2.2.2.1 hG.facts0.now.2.1 hG.facts0.now.2.2.1)) <| cR [[], [], [], [], [58], []] <| cN) (fun ρ47 => ?_)
        refine ok_seq ?_
        refine sS Tryz.f9 2 [1, 6, 12, 13, 23, 24, 25, 30, 31, 32, 54] [] (fun _ => [(vi (drE (gK ((gT ts i).ks) j).k pq)), (.bool ((drE (gK ((gT ts i).ks) j).k pq) != 0))]) (fun _ => []) (cR [[], []] <| cN) (fun _ => ?_)
        refine oC ((drE (gK ((gT ts i).ks) j).k pq) != 0) (fun hb17 => ?_) (fun hb17 => ?_)
        ·
         rw [hb17]
         refine sS Tryz.f9 3 [1, 4, 5, 6, 12, 23, 24, 25, 30, 31, 32] [] (fun _ => [(vi (drE (gK ((gT ts i).ks) j).k pq)), (.slice none 0 0), (vi (drE (gK ((gT ts i).ks) j).k pq))]) (fun _ => []) (cR [[], [], []] <| cN) (fun _ => ?_)
         refine ok_ret ?_
         refine mt_then_r ?_
         refine mt_block_r ?_
         refine mt_then_r ?_
         refine mt_then_r ?_
         refine mt_block_r ?_
         refine mt_block_r ?_
         refine mt_then_r ?_
         refine mt_then_r ?_
         refine mt_block_r ?_
         refine mt_then_r ?_
         refine mD [(1, (vi z)), (4, (.slice none 0 0)), (5, (vi (drE (gK ((gT ts i).ks) j).k pq))), (6, (vs q (N).length κ)), (12, (pt (nb ρ47 7))), (23, (.slice a (ts).length c)), (24, (vn (ts).length)), (25, (vn i)), (30, (.slice ((gT ts i).ka) ((gT ts i).ks).length ((gT ts i).kc))), (31, (vn (((gT ts i).ks).length))), (32, (vn j))] [(q, (cL C 39)), (nb ρ47 7, (cL (kY (drK (gK ((gT ts i).ks) j).k pq)) 48))] ?_
         exact mR (v := (.tuple #[(.slice none 0 0), (vi (drE (gK ((gT ts i).ks) j).k pq))])) (fun _ hS => (by rw [(ky_err (not_f hb1) hb2 hb3 (ke_stop (show j < (gT ts i).ks.length from (by have := yF hb2; have := yF hb3; have := yT hb15; have := yT hb16; have := hlen; have := hi; have := hj; have := ho.klen hf0 i; omega)) hq hb17 hE) hb17).1, (ky_err (not_f hb1) hb2 hb3 (ke_stop (show j < (gT ts i).ks.length from (by have := yF hb2; have := yF hb3; have := yT hb15; have := yT hb16; have := hlen; have := hi; have := hj; have := ho.klen hf0 i; omega)) hq hb17 hE) hb17).2]; exact ⟨none, 0, rfl, hS.bel, persTrue (fun _ => Us.nil)⟩))
        ·
         rw [hb17]
         refine ok_skip ?_
         refine mt_then ?_
         refine rSf Tryz.f9 6 [1, 6, 23, 24, 25, 30, 31, 32] [1, 0, 0] (fun ρ => [(vs q (N).length κ), (.pointer (some ⟨nb ρ47 7, 4, none⟩)), (U ((drK (gK ((gT ts i).ks) j).k pq).p)), (vs (nb ρ 3) 1 1), (vs (nb ρ 4) (N ++ ([(drK (gK ((gT ts i).ks) j).k pq).p])).length (nb2 ρ 4)), (vs (nb ρ 4) (N ++ ([(drK (gK ((gT ts i).ks) j).k pq).p])).length (nb2 ρ 4))]) (fun ρ => [(3, (nw ρ 3 (cL (cU ((drK (gK ((gT ts i).ks) j).k pq).p)) 39))), (4, (pwt 0 (nb ρ 4) (cL (oc ρ 4) 39)))]) (fun ρ => [(4, fun w => kU.A (oc ρ 4) (N ++ ([(drK (gK ((gT ts i).ks) j).k pq).p])) (nb2 ρ 4))]) (fun _ => (fun w => TmF w a c ts ∧ KbK w ∧ KbI w ∧ Is w .u32 pa pc (nI pq) ∧ True)) (fun ρ => kU.A (oc ρ 4) (N ++ ([(drK (gK ((gT ts i).ks) j).k pq).p])) (nb2 ρ 4)) (fun _ _ hF hf => ⟨hF, hf 4⟩) (cR [[], [], [1], []] <| cX (qM 0 (fun ρ _ _ hG hg => appG_any (K := kU) (ty := 29) (g := q) (ts := N) (us := [(drK (gK ((gT ts i).ks) j).k pq).p]) Tryz.underlying29 (elike_of (sz := 4) (b := 32) (z := (U 0)) (by kernel_rfl) rfl) hA (src_u1 Tryz.underlying29 (hG.kn (g := nb ρ 3) (o := (cL (cU ((drK (gK ((gT ts i).ks) j).k pq).p)) 39)) 26)) (by have := kn_len (not_f hb1) hN; have := drop_app (R := aK (ts.drop (i + 1))) (show j < (gT ts i).ks.length from (by have := yF hb2; have := yF hb3; have := yT hb15; have := yT hb16; have := hlen; have := hi; have := hj; have := ho.klen hf0 i; omega)); simp only [List.length_cons, List.length_nil]; omega) (by decide) hg)) <| cR [[]] <| cN) (fun ρ50 ap50_4 => ?_)
         refine mt_block_n ?_
         refine mt_then ?_
         refine rS Tryz.f9 2 [1, 6, 23, 24, 25, 30, 31, 32] [] (fun _ => [(vn (j + 1)), (vn (j + 1))]) (fun _ => []) (cA (v := fun ρ => (vi (IntKind.i64.wrap (((j : Nat) : Int) + 1)))) (fun _ => (vn (j + 1))) (fun _ => congrArg (Value.int .i64) (wrap_addN j 1 (by have := yF hb2; have := yF hb3; have := yT hb15; have := yT hb16; have := hlen; have := hi; have := hj; have := ho.klen hf0 i; omega))) <| cR [[]] <| cN) (fun _ => ?_)
         refine mt_facts (fun w => TmF w a c ts ∧ KbK w ∧ KbI w ∧ True) (fun w hF => ⟨hF.1, hF.2.1, hF.2.2.1, trivial⟩) ?_
         exact mN ( (j + 1, nb ρ50 4, N ++ ([(drK (gK ((gT ts i).ks) j).k pq).p]), oc ρ50 4, nb2 ρ50 4)) (by show (gT ts i).ks.length - (j + 1) < (gT ts i).ks.length - j; have := yF hb2; have := yF hb3; have := yT hb15; have := yT hb16; have := hlen; have := hi; have := hj; have := ho.klen hf0 i; omega) (⟨(by have := yF hb2; have := yF hb3; have := yT hb15; have := yT hb16; have := hlen; have := hi; have := hj; have := ho.klen hf0 i; omega), kn_next (show j < (gT ts i).ks.length from (by have := yF hb2; have := yF hb3; have := yT hb15; have := yT hb16; have := hlen; have := hi; have := hj; have := ho.klen hf0 i; omega)) hq hN, ke_next (show j < (gT ts i).ks.length from (by have := yF hb2; have := yF hb3; have := yT hb15; have := yT hb16; have := hlen; have := hi; have := hj; have := ho.klen hf0 i; omega)) hq hb17 hE, ap50_4, (fun n hn => (List.mem_append.1 hn).elim (hM n) (fun hn => by rw [List.mem_singleton.1 hn]; exact (drK_ok (ho.gK i j).k hq32).p))⟩) []
       ·
        intro J3
        rcases Bool.eq_false_or_eq_true (((gK ((gT ts i).ks) j).pa).isNone) with hb18 | hb18
        ·
         refine sS Tryz.f9 4 [1, 6, 10, 11, 23, 24, 25, 30, 31, 32] [] (fun _ => [(.pointer (some ⟨nb ρ46 2, 43, none⟩)), (.slice ((gK ((gT ts i).ks) j).pa) (nI (gK ((gT ts i).ks) j).ps).length ((gK ((gT ts i).ks) j).pc)), (.slice none 0 0), (.slice none 0 0)]) (fun _ => []) (cR [[], [1]] <| cX (qC (fun _ _ w hG => clone0_any ((gK ((gT ts i).ks) j).pa) ((gK ((gT ts i).ks) j).pc) ((gK ((gT ts i).ks) j).ps) hb18 w ((((hG.facts0.now.1).sub _ (gT_mem ((show ((i : Nat) : Int) = ((i : Nat) : Int) ∧ i < (ts).length from ⟨rfl, (by have := yF hb2; have := yF hb3; have := yT hb15; have := hlen; have := hi; have := ho.klen hf0 i; omega)⟩)).2))).sub _ (gK_mem ((show ((j : Nat) : Int) = ((j : Nat) : Int) ∧ j < ((gT ts i).ks).length from ⟨rfl, (by have := yF hb2; have := yF hb3; have := yT hb15; have := yT hb16; have := hlen; have := hi; have := hj; have := ho.klen hf0 i; omega)⟩)).2)))) <| cR [[]] <| cN) (fun _ => ?_)
         refine ok_seq ?_
         refine sS Tryz.f9 2 [1, 6, 10, 11, 23, 24, 25, 30, 31, 32, 40] [] (fun _ => [(.pointer (some ⟨nb ρ46 2, 44, none⟩)), (.bool ((gK ((gT ts i).ks) j).wd))]) (fun _ => []) (cR [[], [1]] <| cN) (fun _ => ?_)
         refine oC ((gK ((gT ts i).ks) j).wd) (fun hb19 => ?_) (fun hb19 => ?_)
         ·
          rw [hb19]
          refine rS Tryz.f9 6 [1, 6, 10, 11, 23, 24, 25, 30, 31, 32] [1, 1, 0, 1] (fun ρ => [(.slice none 0 0), (vi z), (.int .u32 ((z.toNat : Nat) : Int)), (vs (nb ρ 3) 1 1), (vs (nb ρ 4) (nI ([z.toNat])).length ((nI ([z.toNat])).length + nb2 ρ 4)), (vs (nb ρ 4) (nI ([z.toNat])).length ((nI ([z.toNat])).length + nb2 ρ 4))]) (fun ρ => [(3, (nw ρ 3 (cL #[(.int .u32 ((z.toNat : Nat) : Int))] 41))), (4, (nw ρ 4 (cL ((kI.r ([z.toNat])).toArray ++ Builtin.zeroCells (Value.cells (.int .u32 0)) (nb2 ρ 4)) 41)))]) (cR [[], []] <| cA (fun _ => (.int .u32 ((z.toNat : Nat) : Int))) (fun _ => congrArg (Value.int .u32) (u32Z hb2 hb3)) <| cR [[]] <| cX (qN (fun _ ζ => (vs (ζ.headD 0) (nI ([z.toNat])).length ((nI ([z.toNat])).length + ζ.tail.headD 0))) (fun _ ζ => (cL ((kI.r ([z.toNat])).toArray ++ Builtin.zeroCells (Value.cells (.int .u32 0)) (ζ.tail.headD 0)) 41)) (fun ρ _ _ hG => appI_nil (ty := 49) (us := [z.toNat]) Tryz.underlying49 (elike_of (sz := 1) (b := 4) (z := (.int .u32 0)) (by kernel_rfl) rfl) (src_i1 Tryz.underlying49 (hG.kn (g := nb ρ 3) (o := (cL #[(.int .u32 ((z.toNat : Nat) : Int))] 41)) 26)) (Nat.le_of_ble_eq_true rfl) (Nat.le_of_ble_eq_true rfl) (by decide))) <| cR [[]] <| cN) (fun ρ54 => ?_)
          refine mt_then ?_
          refine dRs [(1, (vi z)), (6, (vs q (N).length κ)), (10, (pt (nb ρ46 2))), (11, (vs (nb ρ54 4) (nI ([z.toNat])).length ((nI ([z.toNat])).length + nb2 ρ54 4))), (23, (.slice a (ts).length c)), (24, (vn (ts).length)), (25, (vn i)), (30, (.slice ((gT ts i).ka) ((gT ts i).ks).length ((gT ts i).kc))), (31, (vn (((gT ts i).ks).length))), (32, (vn j))] [(q, (cL C 39)), (nb ρ46 2, (cL (KpA.row (gK ((gT ts i).ks) j)) 51)), (nb ρ54 4, (cL ((kI.r ([z.toNat])).toArray ++ Builtin.zeroCells (Value.cells (.int .u32 0)) (nb2 ρ54 4)) 41))] ?_
          exact okE J3 (some ⟨nb ρ54 4, 0, none⟩, (nI ([z.toNat])).length + nb2 ρ54 4, [z.toNat]) (⟨(ix_b hb19 (hf0.pathN (show i < ts.length from (by have := yF hb2; have := yF hb3; have := yT hb15; have := yT hb16; have := hlen; have := hi; have := hj; have := ho.klen hf0 i; omega)) (show j < (gT ts i).ks.length from (by have := yF hb2; have := yF hb3; have := yT hb15; have := yT hb16; have := hlen; have := hi; have := hj; have := ho.klen hf0 i; omega)) hb18)), (fun x hx => by rw [List.mem_singleton.1 hx]; exact (z32n hb2 hb3))⟩) (fun w hS => (hS.frozI (e := 41) (fr := (0, 0)) 2 (RowK.A.fresh (K := kI) (z := (.int .u32 0)) rfl ([z.toNat]) (nb2 ρ54 4)) (by have := vl_ps (not_f hb1) (show i < ts.length from (by have := yF hb2; have := yF hb3; have := yT hb15; have := yT hb16; have := hlen; have := hi; have := hj; have := ho.klen hf0 i; omega)) (show j < (gT ts i).ks.length from (by have := yF hb2; have := yF hb3; have := yT hb15; have := yT hb16; have := hlen; have := hi; have := hj; have := ho.klen hf0 i; omega)); simp only [List.length_cons, List.length_nil]; omega) []).weaken (fun w hF => ⟨hF.2.1, hF.2.2.1, hF.2.2.2.1, hF.1, trivial⟩))
         ·
          rw [hb19]
          refine ok_skip ?_
          refine mt_then ?_
          refine dRs [(1, (vi z)), (6, (vs q (N).length κ)), (10, (pt (nb ρ46 2))), (11, (.slice none 0 0)), (23, (.slice a (ts).length c)), (24, (vn (ts).length)), (25, (vn i)), (30, (.slice ((gT ts i).ka) ((gT ts i).ks).length ((gT ts i).kc))), (31, (vn (((gT ts i).ks).length))), (32, (vn j)), (40, (.bool false))] [(q, (cL C 39)), (nb ρ46 2, (cL (KpA.row (gK ((gT ts i).ks) j)) 51))] ?_
          exact okE J3 (none, 0, []) (⟨(ix_a hb19 (hf0.pathN (show i < ts.length from (by have := yF hb2; have := yF hb3; have := yT hb15; have := yT hb16; have := hlen; have := hi; have := hj; have := ho.klen hf0 i; omega)) (show j < (gT ts i).ks.length from (by have := yF hb2; have := yF hb3; have := yT hb15; have := yT hb16; have := hlen; have := hi; have := hj; have := ho.klen hf0 i; omega)) hb18)), (by simp)⟩) (fun w hS => (hS.frozN (k := .u32) (a := none) (c := 0) []).weaken (fun w hF => ⟨hF.2.1, hF.2.2.1, hF.2.2.2.1, hF.1, trivial⟩))
        ·
         refine sSf Tryz.f9 4 [1, 6, 10, 11, 23, 24, 25, 30, 31, 32] [] (fun ρ => [(.pointer (some ⟨nb ρ46 2, 43, none⟩)), (.slice ((gK ((gT ts i).ks) j).pa) (nI (gK ((gT ts i).ks) j).ps).length ((gK ((gT ts i).ks) j).pc)), (vs (nb ρ 2) (nI ((gK ((gT ts i).ks) j).ps)).length (nb2 ρ 2)), (vs (nb ρ 2) (nI ((gK ((gT ts i).ks) j).ps)).length (nb2 ρ 2))]) (fun ρ => [(2, (nw ρ 2 (cL (oc ρ 2) 41)))]) (fun ρ => [(2, fun w => kI.A (oc ρ 2) ((gK ((gT ts i).ks) j).ps) (nb2 ρ 2))]) (fun _ => (fun w => TmF w a c ts ∧ KbK w ∧ KbI w ∧ True)) (fun ρ => kI.A (oc ρ 2) ((gK ((gT ts i).ks) j).ps) (nb2 ρ 2)) (fun _ _ hF hf => ⟨hF, hf 2⟩) (cR [[], [1]] <| cX (o_callR _ 22 (fun _ => #[(.slice ((gK ((gT ts i).ks) j).pa) (nI (gK ((gT ts i).ks) j).ps).length ((gK ((gT ts i).ks) j).pc))]) (fun _ r => (vs (r.n.headD 0) (nI ((gK ((gT ts i).ks) j).ps)).length (r.n.tail.headD 0))) (fun _ r => (cL (orcC r) 41)) (fun _ r => kI.A (orcC r) ((gK ((gT ts i).ks) j).ps) (r.n.tail.headD 0)) (fun _ _ => (by kernel_rfl)) (fun _ _ => (by kernel_rfl)) (fun _ _ => (by kernel_rfl)) (fun _ _ => (by kernel_rfl)) (fun _ _ w hG => clone1_any ((gK ((gT ts i).ks) j).pa) ((gK ((gT ts i).ks) j).pc) ((gK ((gT ts i).ks) j).ps) hb18 (vl_ps (not_f hb1) (show i < ts.length from (by have := yF hb2; have := yF hb3; have := yT hb15; have := yT hb16; have := hlen; have := hi; have := hj; have := ho.klen hf0 i; omega)) (show j < (gT ts i).ks.length from (by have := yF hb2; have := yF hb3; have := yT hb15; have := yT hb16; have := hlen; have := hi; have := hj; have := ho.klen hf0 i; omega))) w ((((hG.facts0.now.1).sub _ (gT_mem ((show ((i : Nat) : Int) = ((i : Nat) : Int) ∧ i < (ts).length from ⟨rfl, (by have := yF hb2; have := yF hb3; have := yT hb15; have := hlen; have := hi; have := ho.klen hf0 i; omega)⟩)).2))).sub _ (gK_mem ((show ((j : Nat) : Int) = ((j : Nat) : Int) ∧ j < ((gT ts i).ks).length from ⟨rfl, (by have := yF hb2; have := yF hb3; have := yT hb15; have := yT hb16; have := hlen; have := hi; have := hj; have := ho.klen hf0 i; omega)⟩)).2)))) <| cR [[]] <| cN) (fun ρ55 ap55_2 => ?_)
         refine ok_seq ?_
         refine sS Tryz.f9 2 [1, 6, 10, 11, 23, 24, 25, 30, 31, 32, 40] [] (fun _ => [(.pointer (some ⟨nb ρ46 2, 44, none⟩)), (.bool ((gK ((gT ts i).ks) j).wd))]) (fun _ => []) (cR [[], [1]] <| cN) (fun _ => ?_)
         refine oC ((gK ((gT ts i).ks) j).wd) (fun hb20 => ?_) (fun hb20 => ?_)
         ·
          rw [hb20]
          refine rSf Tryz.f9 6 [1, 6, 10, 11, 23, 24, 25, 30, 31, 32] [1, 1, 1, 0] (fun ρ => [(vs (nb ρ55 2) (nI ((gK ((gT ts i).ks) j).ps)).length (nb2 ρ55 2)), (vi z), (.int .u32 ((z.toNat : Nat) : Int)), (vs (nb ρ 3) 1 1), (vs (nb ρ 4) (nI (((gK ((gT ts i).ks) j).ps) ++ ([z.toNat]))).length (nb2 ρ 4)), (vs (nb ρ 4) (nI (((gK ((gT ts i).ks) j).ps) ++ ([z.toNat]))).length (nb2 ρ 4))]) (fun ρ => [(3, (nw ρ 3 (cL #[(.int .u32 ((z.toNat : Nat) : Int))] 41))), (4, (pwt 2 (nb ρ 4) (cL (oc ρ 4) 41)))]) (fun ρ => [(4, fun w => kI.A (oc ρ 4) (((gK ((gT ts i).ks) j).ps) ++ ([z.toNat])) (nb2 ρ 4))]) (fun _ => (fun w => TmF w a c ts ∧ KbK w ∧ KbI w ∧ True)) (fun ρ => kI.A (oc ρ 4) (((gK ((gT ts i).ks) j).ps) ++ ([z.toNat])) (nb2 ρ 4)) (fun _ _ hF hf => ⟨hF, hf 4⟩) (cR [[], []] <| cA (fun _ => (.int .u32 ((z.toNat : Nat) : Int))) (fun _ => congrArg (Value.int .u32) (u32Z hb2 hb3)) <| cR [[]] <| cX (qM 2 (fun ρ _ _ hG hg => appI_any (ty := 49) (g := nb ρ55 2) (ts := (gK ((gT ts i).ks) j).ps) (us := [z.toNat]) Tryz.underlying49 (elike_of (sz := 1) (b := 4) (z := (.int .u32 0)) (by kernel_rfl) rfl) ap55_2 (src_i1 Tryz.underlying49 (hG.kn (g := nb ρ 3) (o := (cL #[(.int .u32 ((z.toNat : Nat) : Int))] 41)) 27)) (by have := vl_ps (not_f hb1) (show i < ts.length from (by have := yF hb2; have := yF hb3; have := yT hb15; have := yT hb16; have := hlen; have := hi; have := hj; have := ho.klen hf0 i; omega)) (show j < (gT ts i).ks.length from (by have := yF hb2; have := yF hb3; have := yT hb15; have := yT hb16; have := hlen; have := hi; have := hj; have := ho.klen hf0 i; omega)); simp only [List.length_cons, List.length_nil]; omega) (by decide) hg)) <| cR [[]] <| cN) (fun ρ57 ap57_4 => ?_)
          refine mt_then ?_
          refine dRs [(1, (vi z)), (6, (vs q (N).length κ)), (10, (pt (nb ρ46 2))), (11, (vs (nb ρ57 4) (nI (((gK ((gT ts i).ks) j).ps) ++ ([z.toNat]))).length (nb2 ρ57 4))), (23, (.slice a (ts).length c)), (24, (vn (ts).length)), (25, (vn i)), (30, (.slice ((gT ts i).ka) ((gT ts i).ks).length ((gT ts i).kc))), (31, (vn (((gT ts i).ks).length))), (32, (vn j))] [(q, (cL C 39)), (nb ρ46 2, (cL (KpA.row (gK ((gT ts i).ks) j)) 51)), (nb ρ57 4, (cL (oc ρ57 4) 41))] ?_
          exact okE J3 (some ⟨nb ρ57 4, 0, none⟩, nb2 ρ57 4, (gK (gT ts i).ks j).ps ++ [z.toNat]) (⟨(ix_d hb20), (fun x hx => (List.mem_append.1 hx).elim ((ho.gK i j).ps x) (fun hx => by rw [List.mem_singleton.1 hx]; exact (z32n hb2 hb3)))⟩) (fun w hS => (hS.frozI (e := 41) (fr := (0, 0)) 2 ap57_4 (by have := vl_ps (not_f hb1) (show i < ts.length from (by have := yF hb2; have := yF hb3; have := yT hb15; have := yT hb16; have := hlen; have := hi; have := hj; have := ho.klen hf0 i; omega)) (show j < (gT ts i).ks.length from (by have := yF hb2; have := yF hb3; have := yT hb15; have := yT hb16; have := hlen; have := hi; have := hj; have := ho.klen hf0 i; omega)); simp only [List.length_append, List.length_cons, List.length_nil]; omega) []).weaken (fun w hF => ⟨hF.2.1, hF.2.2.1, hF.2.2.2.1, hF.1, trivial⟩))
         ·
          rw [hb20]
          refine ok_skip ?_
          refine mt_then ?_
          refine dRs [(1, (vi z)), (6, (vs q (N).length κ)), (10, (pt (nb ρ46 2))), (11, (vs (nb ρ55 2) (nI ((gK ((gT ts i).ks) j).ps)).length (nb2 ρ55 2))), (23, (.slice a (ts).length c)), (24, (vn (ts).length)), (25, (vn i)), (30, (.slice ((gT ts i).ka) ((gT ts i).ks).length ((gT ts i).kc))), (31, (vn (((gT ts i).ks).length))), (32, (vn j)), (40, (.bool false))] [(q, (cL C 39)), (nb ρ46 2, (cL (KpA.row (gK ((gT ts i).ks) j)) 51)), (nb ρ55 2, (cL (oc ρ55 2) 41))] ?_
          exact okE J3 (some ⟨nb ρ55 2, 0, none⟩, nb2 ρ55 2, (gK (gT ts i).ks j).ps) (⟨(ix_c hb20), (ho.gK i j).ps⟩) (fun w hS => (hS.frozI (e := 41) (fr := (0, 0)) 2 ap55_2 (by have := vl_ps (not_f hb1) (show i < ts.length from (by have := yF hb2; have := yF hb3; have := yT hb15; have := yT hb16; have := hlen; have := hi; have := hj; have := ho.klen hf0 i; omega)) (show j < (gT ts i).ks.length from (by have := yF hb2; have := yF hb3; have := yT hb15; have := yT hb16; have := hlen; have := hi; have := hj; have := ho.klen hf0 i; omega)); omega) []).weaken (fun w hF => ⟨hF.2.1, hF.2.2.1, hF.2.2.2.1, hF.1, trivial⟩))
      ·
       rw [hb16]
       refine ok_exit ?_
       refine mt_then_e ?_
       refine mt_then_e ?_
       refine mt_block_h ?_
       refine mt_block_n ?_
       refine mt_then ?_
       refine rS Tryz.f9 2 [1, 6, 23, 24, 25] [] (fun _ => [(vn (i + 1)), (vn (i + 1))]) (fun _ => []) (cA (v := fun ρ => (vi (IntKind.i64.wrap (((i : Nat) : Int) + 1)))) (fun _ => (vn (i + 1))) (fun _ => congrArg (Value.int .i64) (wrap_addN i 1 (by have := yF hb2; have := yF hb3; have := yT hb15; have := yF hb16; have := hlen; have := hi; have := hj; have := ho.klen hf0 i; omega))) <| cR [[]] <| cN) (fun _ => ?_)
       exact mN (Sum.inr (i + 1, q, N, C, κ)) (by show ts.length - (i + 1) < ts.length - i; have := yF hb2; have := yF hb3; have := yT hb15; have := yF hb16; have := hlen; have := hi; have := hj; have := ho.klen hf0 i; omega) (⟨(by have := yF hb2; have := yF hb3; have := yT hb15; have := yF hb16; have := hlen; have := hi; have := hj; have := ho.klen hf0 i; omega), kn_out (by have := yF hb2; have := yF hb3; have := yT hb15; have := yF hb16; have := hlen; have := hi; have := hj; have := ho.klen hf0 i; omega) hN, ke_out (by have := yF hb2; have := yF hb3; have := yT hb15; have := yF hb16; have := hlen; have := hi; have := hj; have := ho.klen hf0 i; omega) hE, hA, hM⟩) []
     ·
      rw [hb15]
      refine ok_exit ?_
      refine mt_then_e ?_
      refine mt_then_e ?_
      refine mt_block_h ?_
      refine mt_then ?_
      refine sS Tryz.f9 3 [4, 5] [] (fun _ => [(vs q (N).length κ), (vs q (N).length κ), (vi 0)]) (fun _ => []) (cR [[], [], []] <| cN) (fun _ => ?_)
      refine ok_ret ?_
      refine mD [(4, (vs q (N).length κ)), (5, (vi 0))] [(q, (cL C 39))] ?_
      exact mR (v := (.tuple #[(vs q (N).length κ), (vi 0)])) (fun _ hS => (by rw [(ky_ok (not_f hb1) hb2 hb3 (by have := yF hb2; have := yF hb3; have := yF hb15; have := hlen; have := hi; have := ho.klen hf0 i; omega) hE0 hN0).1, (ky_ok (not_f hb1) hb2 hb3 (by have := yF hb2; have := yF hb3; have := yF hb15; have := hlen; have := hi; have := ho.klen hf0 i; omega) hE0 hN0).2]; exact ⟨some ⟨q, 0, none⟩, κ, rfl, hS.bel, Us.new (hS.newb (.head _)) hA (by have := kn_len (not_f hb1) hN0; omega) hM⟩))
theorem dexpand_any (a : Option Addr) (c : Nat) (ts : List TmA) (z : Int) (h2 : ∀ t ∈ ts, t.kd = 2 → t.ks.length = 2) (w0 : World) (hf0 : TmF w0 a c ts) (hf1 : KbK w0) (hf2 : KbI w0) : Calls Tryz.prog 11 #[(.slice a (ts).length c), (vi z)] w0 (fun ε w' => ∃ α κ, ε = .returned (.tuple #[(.slice α (exB ts z).length κ), (vi (exE ts z))]) ∧ Below w0.heap.size w0 w' ∧ Fs w0 w' α κ (exB ts z)) := by
 refine Calls.of_ok (n := 33) (F := (fun w => TmF w a c ts ∧ KbK w ∧ KbI w ∧ True)) Tryz.func11 rfl rfl rfl (by simp) (hf0.pers0.and (hf1.pers0.and (hf2.pers0.and persT))) ?_
 refine sS Tryz.f11 2 [0, 1, 4, 5] [] (fun _ => [(.slice none 0 0), (vi 0)]) (fun _ => []) (cR [[], []] <| cN) (fun _ => ?_)
 refine sSf Tryz.f11 8 [0, 4, 5, 6, 7] [] (fun ρ => [(.slice a (ts).length c), (vi z), (.tuple #[(.slice (oa ρ 2) (kyN ts z).length (nb ρ 2)), (vi (kyE ts z))]), (.tuple #[(.slice (oa ρ 2) (kyN ts z).length (nb ρ 2)), (vi (kyE ts z))]), (.slice (oa ρ 2) (kyN ts z).length (nb ρ 2)), (vi (kyE ts z)), (.slice (oa ρ 2) (kyN ts z).length (nb ρ 2)), (vi (kyE ts z))]) (fun _ => []) (fun ρ => [(2, fun w => Us w (oa ρ 2) (nb ρ 2) (kyN ts z))]) (fun ρ => (fun w => TmF w a c ts ∧ KbK w ∧ KbI w ∧ Us w (oa ρ 2) (nb ρ 2) (kyN ts z) ∧ True)) (fun _ => True) (fun _ _ hF hf => ⟨⟨hF.1, hF.2.1, hF.2.2.1, hf 2, trivial⟩, trivial⟩) (cR [[], []] <| cX (qV (fun _ _ w hG => dkeys_any a c ts z w hG.facts0.now.1 hG.facts0.now.2.1 hG.facts0.now.2.2.1)) <| cR [[], [], [], [], []] <| cN) (fun ρ2 _ => ?_)
 refine ok_seq ?_
 refine sS Tryz.f11 2 [0, 4, 5, 6, 7, 17] [] (fun _ => [(vi (kyE ts z)), (.bool ((kyE ts z) != 0))]) (fun _ => []) (cR [[], []] <| cN) (fun _ => ?_)
 refine oC ((kyE ts z) != 0) (fun hb1 => ?_) (fun hb1 => ?_)
 ·
  rw [hb1]
  refine sS Tryz.f11 3 [0, 4, 5, 6, 7] [] (fun _ => [(vi (kyE ts z)), (.slice none 0 0), (vi (kyE ts z))]) (fun _ => []) (cR [[], [], []] <| cN) (fun _ => ?_)
  refine ok_ret ?_
  refine mt_then_r ?_
  refine mD [(0, (.slice a (ts).length c)), (4, (.slice none 0 0)), (5, (vi (kyE ts z))), (6, (.slice (oa ρ2 2) (kyN ts z).length (nb ρ2 2))), (7, (vi (kyE ts z)))] [] ?_
  exact mR (v := (.tuple #[(.slice none 0 0), (vi (kyE ts z))])) (fun _ hS => ⟨none, 0, congrArg Ending.returned (by rw [(ex_err hb1).1, (ex_err hb1).2] <;> rfl), hS.bel, fs_eq ((ex_err hb1).2.symm) Fs.nil⟩)
 ·
  rw [hb1]
  refine ok_skip ?_
  refine mt_then ?_
  refine sS Tryz.f11 5 [4, 5, 7, 8] [] (fun ρ => [(.slice a (ts).length c), (.slice (oa ρ2 2) (kyN ts z).length (nb ρ2 2)), (.agg #[(.slice a (ts).length c), (.slice (oa ρ2 2) (kyN ts z).length (nb ρ2 2))]), (pt (nb ρ 3)), undef]) (fun ρ => [(3, (nw ρ 3 (cL #[(.slice none 0 0), (.slice none 0 0)] 64))), (4, (pwt 24 (nb ρ 3) (cL #[(.slice a (ts).length c), (.slice (oa ρ2 2) (kyN ts z).length (nb ρ2 2))] 64)))]) (cR [[], [], [], [], [24]] <| cN) (fun ρ5 => ?_)
  refine sSf Tryz.f11 6 [4, 5, 7, 9] [0] (fun ρ => [(.tuple #[(.slice (oa ρ 0) (exL ts z).length (nb ρ 0)), (vi 0)]), (.tuple #[(.slice (oa ρ 0) (exL ts z).length (nb ρ 0)), (vi 0)]), (.slice (oa ρ 0) (exL ts z).length (nb ρ 0)), (vi 0), (.slice (oa ρ 0) (exL ts z).length (nb ρ 0)), (vi 0)]) (fun _ => [(0, (pwt 0 (nb ρ5 3) (cL #[(.slice ((nxS (Mk.mk a c ts (oa ρ2 2) (nb ρ2 2) (kyN ts z))).ta) ((nxS (Mk.mk a c ts (oa ρ2 2) (nb ρ2 2) (kyN ts z))).ts).length ((nxS (Mk.mk a c ts (oa ρ2 2) (nb ρ2 2) (kyN ts z))).tc)), (.slice ((nxS (Mk.mk a c ts (oa ρ2 2) (nb ρ2 2) (kyN ts z))).ka) ((nxS (Mk.mk a c ts (oa ρ2 2) (nb ρ2 2) (kyN ts z))).ns).length ((nxS (Mk.mk a c ts (oa ρ2 2) (nb ρ2 2) (kyN ts z))).kc))] 64)))]) (fun ρ => [(0, fun w => Fs w0 w (oa ρ 0) (nb ρ 0) (exL ts z))]) (fun ρ => (fun w => TmF w a c ts ∧ KbK w ∧ KbI w ∧ Us w (oa ρ2 2) (nb ρ2 2) (kyN ts z) ∧ Fs w0 w (oa ρ 0) (nb ρ 0) (exL ts z) ∧ True)) (fun _ => True) (fun _ _ hF hf => ⟨⟨hF.1, hF.2.1, hF.2.2.1, hF.2.2.2.1, hf 0, trivial⟩, trivial⟩) (cX (qWB [0] (fun _ _ w hG hK => nextx_any (g := nb ρ5 3) (a := a) (c := c) (b := (oa ρ2 2)) (d := (nb ρ2 2)) hb1 h2 w hK (hG.pK [0] (fun _ hF => ⟨hF.1, hF.2.2.2.1, trivial⟩)) )) <| cR [[], [], [], [], []] <| cN) (fun ρ6 _ => ?_)
  refine ok_seq ?_
  refine sS Tryz.f11 2 [4, 5, 7, 9, 27] [] (fun _ => [(vi 0), (.bool false)]) (fun _ => []) (cR [[], []] <| cN) (fun _ => ?_)
  refine oN ?_
  refine ok_skip ?_
  refine mt_then ?_
  refine ok_seq ?_
  refine sS Tryz.f11 3 [4, 5, 9, 31] [] (fun _ => [(.slice (oa ρ6 0) (exL ts z).length (nb ρ6 0)), (vn ((exL ts z).length)), (.bool (decide (520 < (((exL ts z).length : Nat) : Int))))]) (fun _ => []) (cR [[], [], []] <| cN) (fun _ => ?_)
  refine dRs [(4, (.slice none 0 0)), (5, (vi 0)), (9, (.slice (oa ρ6 0) (exL ts z).length (nb ρ6 0))), (31, (.bool (decide (520 < (((exL ts z).length : Nat) : Int)))))] [] ?_
  refine oC (decide (520 < (((exL ts z).length : Nat) : Int))) (fun hb2 => ?_) (fun hb2 => ?_)
  ·
   rw [hb2]
   refine sS Tryz.f11 2 [4, 5, 9] [] (fun _ => [(.slice none 0 0), (vi 4)]) (fun _ => []) (cR [[], []] <| cN) (fun _ => ?_)
   refine ok_ret ?_
   refine mt_then_r ?_
   refine mD [(4, (.slice none 0 0)), (5, (vi 4)), (9, (.slice (oa ρ6 0) (exL ts z).length (nb ρ6 0)))] [] ?_
   exact mR (v := (.tuple #[(.slice none 0 0), (vi 4)])) (fun _ hS => ⟨none, 0, congrArg Ending.returned (by rw [(ex_long hb1 hb2).1, (ex_long hb1 hb2).2] <;> rfl), hS.bel, fs_eq ((ex_long hb1 hb2).2.symm) Fs.nil⟩)
  ·
   rw [hb2]
   refine ok_skip ?_
   refine mt_then ?_
   refine sS Tryz.f11 3 [4, 5] [] (fun _ => [(.slice (oa ρ6 0) (exL ts z).length (nb ρ6 0)), (.slice (oa ρ6 0) (exL ts z).length (nb ρ6 0)), (vi 0)]) (fun _ => []) (cR [[], [], []] <| cN) (fun _ => ?_)
   refine ok_ret ?_
   refine mD [(4, (.slice (oa ρ6 0) (exL ts z).length (nb ρ6 0))), (5, (vi 0))] [] ?_
   exact mR (v := (.tuple #[(.slice (oa ρ6 0) (exL ts z).length (nb ρ6 0)), (vi 0)])) (fun _ hS => ⟨oa ρ6 0, nb ρ6 0, congrArg Ending.returned (by rw [(ex_ok hb1 hb2).1, (ex_ok hb1 hb2).2] <;> rfl), hS.bel, fs_eq ((ex_ok hb1 hb2).2.symm) hS.facts.now.2.2.2.2.1⟩)
theorem dexpandN_any (a : Option Addr) (c : Nat) (ts : List TmA) (z : Int) (w0 : World) (hf0 : TmN w0 a c ts) (hf1 : KbK w0) (hf2 : KbI w0) : Calls Tryz.prog 11 #[(.slice a (ts).length c), (.int .i64 z)] w0 (fun ε w' => ∃ α κ, ε = .returned (.tuple #[.slice α (exB ts z).length κ, .int .i64 (exE ts z)]) ∧ Below w0.heap.size w0 w' ∧ Fs w0 w' α κ (exB ts z)) := dexpand_any a c ts z (fun t ht => (hf0.2.2.2 t ht).2.1) w0 hf0.1 hf1 hf2
theorem same6_any (a : Option Addr) (c : Nat) (B : List UInt8) (a2 : Option Addr) (c2 : Nat) (S : List UInt8) (w0 : World) (hf0 : Bs w0 a c B) (hf1 : Bs w0 a2 c2 S) : Calls Tryz.prog 13 #[(.slice a (B).length c), (.slice a2 (S).length c2)] w0 (fun ε w' => ε = .returned (.bool (decide (B = S))) ∧ Below w0.heap.size w0 w') := by
 refine Calls.of_ok (n := 10) (F := (fun w => Bs w a c B ∧ Bs w a2 c2 S ∧ True)) Tryz.func13 rfl rfl rfl (by simp) (hf0.pers0.and (hf1.pers0.and persT)) ?_
 refine sS Tryz.f13 1 [0, 1, 4] [] (fun _ => [(.bool false)]) (fun _ => []) (cR [[]] <| cN) (fun _ => ?_)
 refine sS Tryz.f13 6 [4] [] (fun _ => [(.slice a (B).length c), (.string (strB B)), (.slice a2 (S).length c2), (.string (strB S)), (.bool (decide (B = S))), (.bool (decide (B = S)))]) (fun _ => []) (cR [[]] <| cX (o_semF _ (fun _ => do pure (Next.value (← convert 33 9 (.slice a (B).length c)))) (fun _ => (.string (strB B))) (fun _ => (by kernel_rfl)) (fun _ => (by kernel_rfl)) (fun _ _ _ hG => str_bytes (xs := B) Tryz.underlying33 Tryz.underlying5 Tryz.underlying9 hG.facts0.now.1 rfl) (fun _ _ _ _ => persT)) <| cR [[]] <| cX (o_semF _ (fun _ => do pure (Next.value (← convert 33 9 (.slice a2 (S).length c2)))) (fun _ => (.string (strB S))) (fun _ => (by kernel_rfl)) (fun _ => (by kernel_rfl)) (fun _ _ _ hG => str_bytes (xs := S) Tryz.underlying33 Tryz.underlying5 Tryz.underlying9 hG.facts0.now.2.1 rfl) (fun _ _ _ _ => persT)) <| cB .eql 9 (fun _ w => eql_str B S w) <| cR [[]] <| cN) (fun _ => ?_)
 refine ok_ret ?_
 exact mR (v := (.bool (decide (B = S)))) (fun _ hS => ⟨rfl, hS.bel⟩)
open Go Go.ChangeShapes Go.WideShapes Go.RowKit
theorem laidOut : laidOutB Tryz.prog = true := by kernel_rfl
theorem own : ownKnob Tryz.prog.godebug = none := by kernel_rfl
theorem i64_of {x : Int} (h : (Lit.int .i64 x).wf = true) : -9223372036854775808 ≤ x ∧ x < 9223372036854775808 := by
  simp [Lit.wf, IntKind.min, IntKind.max, IntKind.signed, IntKind.bits] at h
  omega
def shaLaid : List (String × DataW Unit) := [("lightclient/sha.k", Rows.laid_lightclient_sha_k), ("lightclient/sha.initial", Rows.laid_lightclient_sha_initial)]
def zsK : List Int := kL.map fun (x : Nat) => (x : Int)
def zsI : List Int := [1779033703, 3144134277, 1013904242, 2773480762, 1359893119, 2600822924, 528734635, 1541459225]
theorem kb_tab {W : World} {g : Nat} {zs : List Int} {C : Array Value} (hc : ∀ i, i < zs.length → W.cell? ⟨g, i, none⟩ = some (.int .u32 (zs.getD i 0))) (hC : C = (zs.map (Value.int .u32)).toArray) : Kb W g C := by
  intro i v hv
  rw [hC, List.getElem?_toArray, List.getElem?_map] at hv
  obtain ⟨z, hz, rfl⟩ := Option.map_eq_some_iff.1 hv
  have hi := (List.getElem?_eq_some_iff.1 hz).1
  rw [hc i hi]
  simp [List.getD, hz]
theorem laid_two {W : World} (h : laidMetH Tryz.prog shaLaid W) : Kb W 1 (rowK .u32 64 kN) ∧ Kb W 0 #[.int .u32 1779033703, .int .u32 3144134277, .int .u32 1013904242, .int .u32 2773480762, .int .u32 1359893119, .int .u32 2600822924, .int .u32 528734635, .int .u32 1541459225] := by
  rw [MakeChecks.laidMetH_plain _ _ _ (by kernel_rfl)] at h
  obtain ⟨ps, ⟨g0, t0, cs0, f0, p0, q0, hg0, ht0, hv0, hd0, ⟨g1, t1, cs1, f1, p1, q1, hg1, ht1, hv1, hd1, _, _⟩, _⟩, _, _⟩ := h
  have n0 : Tryz.prog.globalNamed "lightclient/sha.k" = some 1 := by kernel_rfl
  have n1 : Tryz.prog.globalNamed "lightclient/sha.initial" = some 0 := by kernel_rfl
  obtain rfl := Option.some.inj (n0.symm.trans hg0)
  obtain rfl := Option.some.inj (n1.symm.trans hg1)
  obtain rfl := Option.some.inj ((show (Tryz.prog.globals[1]?).map (·.type) = some 115 by kernel_rfl).symm.trans ht0)
  obtain rfl := Option.some.inj ((show (Tryz.prog.globals[0]?).map (·.type) = some 104 by kernel_rfl).symm.trans ht1)
  have d0 : (Rows.laid_lightclient_sha_k : DataW Unit) = Lib.tabData .u32 zsK := by kernel_rfl
  have d1 : (Rows.laid_lightclient_sha_initial : DataW Unit) = Lib.tabData .u32 zsI := by kernel_rfl
  rw [d0] at hd0
  rw [d1] at hd1
  have c0 := Lib.cells_of_tab Tryz.underlying115 Tryz.underlying41 (by kernel_rfl) (by kernel_rfl) hd0
  have c1 := Lib.cells_of_tab Tryz.underlying104 Tryz.underlying41 (by kernel_rfl) (by kernel_rfl) hd1
  have i0 : Lib.TabIs Tryz.prog W "lightclient/sha.k" .u32 zsK := by unfold Lib.TabIs; rw [hv0, ← c0]
  have i1 : Lib.TabIs Tryz.prog W "lightclient/sha.initial" .u32 zsI := by unfold Lib.TabIs; rw [hv1, ← c1]
  exact ⟨kb_tab (fun i hi => i0.cell n0 i hi) (by kernel_rfl), kb_tab (fun i hi => i1.cell n1 i hi) (by kernel_rfl)⟩
theorem door_met (os : Os) (args : Array Value) : laidMetH Tryz.prog shaLaid ((World.doorLaid Tryz.prog 400 os).forCall (fun _ _ => 0) ⟨#[], args, []⟩).memory :=
  laidMetH_of_parts3 (fuel := 8) (laidMet_of_run' 8 (by kernel_rfl) (by kernel_rfl)) (by kernel_rfl) (by kernel_rfl)
section
variable {H : Type} {enc : TypeId × Value → H} {w : World} {base : Nat} {spare : Nat → Bool} {held : Bool} {fuel : Nat} {cs : List Value} {x : DataW H × List MemPlace}
end
theorem open_ilist {H : Type} {enc : TypeId × Value → H} {w : World} {r : Reach} {base base' : Nat} {held : Bool} {v : Value} {d : DataW H} {p : List MemPlace} {t e : TypeId} {k : IntKind} (ht : Tryz.prog.underlying t = some (.slice e)) (he : Tryz.prog.underlying e = some (.int k)) (hce : Tryz.prog.cellsOf e = 1)
    (hok : Value.okWide Tryz.prog w r base t v) (h : DataW.Trod enc Tryz.prog w base' (fun _ => true) held t v d p) (hs : ∀ elems spare, d = .slice elems spare → elems.length + spare.length ≤ 140737488351232) :
    ∃ a c zs, v = .slice a (List.length zs) c ∧ Is w k a c zs ∧ ∀ z ∈ zs, (Lit.int k z).wf = true := by
  obtain ⟨a0, len, cap, rfl⟩ := okWide_slice ht hok
  obtain ⟨fuel, hf⟩ := h
  rcases open_ints ht he hce hf with ⟨hcs, _⟩ | ⟨a, len', cap', zs, hcs, _, hle, _, hlen, hx, hcell, hwf⟩
  · simp [Value.cells] at hcs
    obtain ⟨rfl, rfl, rfl⟩ := hcs
    exact ⟨none, 0, [], rfl, Is.nil, by simp⟩
  · simp [Value.cells] at hcs
    obtain ⟨rfl, rfl, rfl⟩ := hcs
    simp only [if_true] at hlen
    have hd := congrArg Prod.fst hx
    have hsz := hs _ _ hd
    have hsz' : zs.length ≤ 140737488351232 := by simpa [lits, hlen, hle] using hsz
    refine ⟨some a, cap, zs.take len, ?_, ⟨?_, ?_, ?_⟩, fun z hz => hwf z (List.mem_of_mem_take hz)⟩
    · rw [List.length_take, Nat.min_eq_left (by omega)]
    · rw [List.length_take]; omega
    · rw [List.length_take]; omega
    · refine Or.inr ⟨a, rfl, ?_⟩
      intro i u hu
      unfold iv at hu
      rw [List.getElem?_map] at hu
      obtain ⟨z, hz, rfl⟩ := Option.map_eq_some_iff.1 hu
      have hi : i < zs.length := by
        have := (List.getElem?_eq_some_iff.1 hz).1
        rw [List.length_take] at this
        omega
      have hzi : zs.getD i 0 = z := by
        rw [List.getElem?_take] at hz
        split at hz
        · simp [List.getD, hz]
        · exact absurd hz (by simp)
      rw [hcell i hi, hzi]
end Go.Proofs.YtaebcmpbbamfpaaGreatDoor
