/-
  What the walks of this seat share, part 5: the texts of it, one behind the other.
-/
import Derived.Test.YtoibhbmcplhiaaaDoorBase4
import Derived.ProofKit
import Derived.OpenShut
import Derived.ChangeArms
import Derived.WideShapes
import Derived.Test.YtoibhbmcplhiaaaDoorChecked
import Derived.SizedLaws
import Derived.ChangeSlices
import Derived.ChangeMaps5
import Derived.Test.YtoibhbmcplhiaaaDoorRows
import Derived.LaidMore
import Derived.LaidHandle
import Derived.MakeChecks
import Derived.Lib.LaidTab
set_option maxRecDepth 100000

/-! Keys and signatures: the walks of the reference; signatures as bytes. -/
namespace Go.Proofs.YtoibhbmcplhiaaaDoor
open Go Go.RowKit

theorem rnumber_any (a : Nat) (_ha : a < M) (w0 : World) : Calls Tryd.prog 49 #[(U a)] w0 (fun ε w' => ∃ α κ, ε = .returned (.slice α (hL a).length κ) ∧ Below w0.heap.size w0 w' ∧ Fs w0 w' α κ (hL a)) := by
  refine Calls.of_ok (n := 7) (F := (fun _ => True)) Tryd.func49 rfl rfl rfl (by simp) (persTrue (fun _ => trivial)) ?_
  refine sS Tryd.f49 2 [1, 2] [] (fun ρ => [(pt (nb ρ 0)), (.slice none 0 0)]) (fun ρ => [(0, { news := [(nb ρ 0, (.cells (cU a) 24 (0, 0)))] })]) (cR [[], []] <| cN) (fun _ => ?_)
  refine sS Tryd.f49 4 [2, 3] [0, 1] (fun ρ => [(U a), (.agg (hB a)), (pt (nb ρ 2)), undef]) (fun ρ => [(2, { news := [(nb ρ 2, (.cells (hB 0) 26 (0, 0)))] }), (3, { puts := [(17, nb ρ 2, (.cells (hB a) 26 (0, 0)))] })]) (cR [[0]] <| cC (fun _ w => rbytes_any a w) <| cR [[], [17]] <| cN) (fun ρ2 => ?_)
  refine sS Tryd.f49 2 [2] [] (fun _ => [(.slice (some ⟨nb ρ2 2, 0, none⟩) (hL a).length 32), (.slice (some ⟨nb ρ2 2, 0, none⟩) (hL a).length 32)]) (fun _ => []) (cR [[], []] <| cN) (fun _ => ?_)
  refine ok_ret ?_
  refine mD [(2, (.slice (some ⟨nb ρ2 2, 0, none⟩) (hL a).length 32))] [(nb ρ2 2, (.cells (hB a) 26 (0, 0)))] ?_
  exact mR (v := (.slice (some ⟨nb ρ2 2, 0, none⟩) (hL a).length 32)) (fun _ hS => ⟨(some ⟨nb ρ2 2, 0, none⟩), 32, congrArg Ending.returned (rfl), hS.below, fs_eq (rfl) (hS.fresh (.head _) (hd_hB _) (by rw [hL_length]; decide) (by rw [hL_length]; decide))⟩)

theorem rnonce_any (x : Nat) (m : Nat) (hx : x < M) (_hm : m < M) (w0 : World) : Calls Tryd.prog 16 #[(U x), (.agg (hB m))] w0 (fun ε w' => ε = .returned (U (nonN x m)) ∧ Below w0.heap.size w0 w') := by
  refine Calls.of_ok (n := 17) (F := (fun _ => True)) Tryd.func16 rfl rfl rfl (by simp) (persTrue (fun _ => trivial)) ?_
  refine sS Tryd.f16 3 [2, 3, 4] [] (fun ρ => [(pt (nb ρ 0)), (pt (nb ρ 1)), (pt (nb ρ 2))]) (fun ρ => [(0, { news := [(nb ρ 0, (.cells (cU x) 24 (0, 0)))] }), (1, { news := [(nb ρ 1, (.cells (hB m) 26 (0, 0)))] }), (2, { news := [(nb ρ 2, (.cells (cU 0) 24 (0, 0)))] })]) (cR [[], [], []] <| cN) (fun ρ1 => ?_)
  refine sDf Tryd.f16 [0, 1, 0, 7, 15, 31, 63, 0, 255] 9 [4, 5] [0, 0, 1, 0, 1] (fun ρ => [(U x), (.slice (oa ρ 1) (hL x).length (nb ρ 1)), (.slice (some ⟨nb ρ1 1, 0, none⟩) (hL m).length 32), (.slice (some ⟨nb ρ 3, 0, none⟩) 2 2), (.slice (oa ρ 4) ((hL x) ++ (hL m)).length (nb ρ 4)), (.agg (hB (tagN tgN ((hL x) ++ (hL m))))), (U (addmN (tagN tgN ((hL x) ++ (hL m))) 0 qP)), (pt (nb ρ 7)), undef]) (fun ρ => [(3, { news := [(nb ρ 3, (.cells #[(.slice (oa ρ 1) (hL x).length (nb ρ 1)), (.slice (some ⟨nb ρ1 1, 0, none⟩) (hL m).length 32)] 46 (0, 0)))] }), (7, { news := [(nb ρ 7, (.cells (cU 0) 24 (0, 0)))] }), (8, { puts := [(59, nb ρ 7, (.cells (cU (addmN (tagN tgN ((hL x) ++ (hL m))) 0 qP)) 24 (0, 0)))] })]) (fun ρ => [(1, fun w => Fs w0 w (oa ρ 1) (nb ρ 1) (hL x)), (4, fun w => Fs w0 w (oa ρ 4) (nb ρ 4) ((hL x) ++ (hL m)))]) (fun ρ => (fun w => Fs w0 w (oa ρ 1) (nb ρ 1) (hL x) ∧ Fs w0 w (oa ρ 4) (nb ρ 4) ((hL x) ++ (hL m)) ∧ True)) (fun _ => True) (fun _ _ _ hf => ⟨⟨hf 1, hf 4, trivial⟩, trivial⟩) (cR [[0]] <| cX (o_callB _ 49 (fun _ => #[(U x)]) (fun _ α κ => (.slice α (hL x).length κ)) (fun _ => hL x) (fun _ _ => (by kernel_rfl)) (fun _ _ => (by kernel_rfl)) (fun _ _ => (by kernel_rfl)) (fun _ _ => (by kernel_rfl)) (fun _ _ w _ => rnumber_any x hx w )) <| cR [[], []] <| cX (o_callB _ 48 (fun ρ => #[(.slice (some ⟨nb ρ 3, 0, none⟩) 2 2)]) (fun _ α κ => (.slice α ((hL x) ++ (hL m)).length κ)) (fun _ => (hL x) ++ (hL m)) (fun _ _ => (by kernel_rfl)) (fun _ _ => (by kernel_rfl)) (fun _ _ => (by kernel_rfl)) (fun _ _ => (by kernel_rfl)) (fun ρ _ w hG => join2_any (nb ρ 3) (oa ρ 1) (nb ρ 1) (hL x) (some ⟨nb ρ1 1, 0, none⟩) 32 (hL m) (by simp only [hL_length]; omega) (by rw [hL_length]; decide) w (Kb.of_block (hG.known (g := nb ρ 3) (o := (.cells #[(.slice (oa ρ 1) (hL x).length (nb ρ 1)), (.slice (some ⟨nb ρ1 1, 0, none⟩) (hL m).length 32)] 46 (0, 0))) 27 (by kernel_rfl) (by kernel_rfl))) ((show Fs w0 w (oa ρ 1) (nb ρ 1) (hL x) from (hG.facts 1 rfl).now).1) (Bs.of_hd (c := 32) (hG.known (g := nb ρ1 1) (o := (.cells (hB m) 26 (0, 0))) 1 (by kernel_rfl) (by kernel_rfl)) (hd_hB _) (Nat.le_refl _) (Nat.le_of_ble_eq_true rfl)))) <| cX (o_callP _ 47 (fun ρ => #[(.string ⟨#[108, 105, 103, 104, 116, 99, 108, 105, 101, 110, 116, 47, 110, 111, 110, 99, 101]⟩), (.slice (oa ρ 4) ((hL x) ++ (hL m)).length (nb ρ 4))]) (fun _ => (.agg (hB (tagN tgN ((hL x) ++ (hL m)))))) (fun _ _ => (by kernel_rfl)) (fun _ => (by kernel_rfl)) (fun _ _ => (by kernel_rfl)) (fun _ _ => trivial) (fun ρ _ w hG => rtagged_any tgN (oa ρ 4) (nb ρ 4) ((hL x) ++ (hL m)) (by decide) (by simp only [List.length_append, hL_length]; omega) w ((show Fs w0 w (oa ρ 4) (nb ρ 4) ((hL x) ++ (hL m)) from (hG.facts 4 rfl).now).1))) <| cC (f := 23) (args := fun ρ => #[(.agg (hB (tagN tgN ((hL x) ++ (hL m)))))]) (v := fun ρ => (U (addmN (tagN tgN ((hL x) ++ (hL m))) 0 qP))) (fun _ w => (fun w => rgscalar_any (tagN tgN ((hL x) ++ (hL m))) w (tagN_lt _ _)) w) <| cR [[], [59]] <| cN) (fun _ _ => ?_)
  refine ok_seq ?_
  refine sS Tryd.f16 2 [4, 5, 14] [] (fun _ => [(U (addmN (tagN tgN ((hL x) ++ (hL m))) 0 qP)), (.bool (decide (addmN (tagN tgN ((hL x) ++ (hL m))) 0 qP = 0)))]) (fun _ => []) (cR [[1]] <| cC (f := 50) (args := fun ρ => #[(U (addmN (tagN tgN ((hL x) ++ (hL m))) 0 qP))]) (v := fun ρ => (.bool (decide (addmN (tagN tgN ((hL x) ++ (hL m))) 0 qP = 0)))) (fun _ w => (fun w => rzero_any (addmN (tagN tgN ((hL x) ++ (hL m))) 0 qP) w (addmN_lt _ _ qP_lt)) w) <| cN) (fun _ => ?_)
  refine oC (decide (addmN (tagN tgN ((hL x) ++ (hL m))) 0 qP = 0)) (fun hb1 => ?_) (fun hb1 => ?_)
  ·
    rw [hb1]
    refine sS Tryd.f16 2 [4, 5] [] (fun _ => [(U 1), undef]) (fun _ => [(1, { puts := [(0, nb ρ1 2, (.cells (cU 1) 24 (0, 0)))] })]) (cC (fun _ w => rfromuint_lit 1 w (by decide)) <| cR [[0]] <| cN) (fun _ => ?_)
    refine ok_ret ?_
    refine mt_then_r ?_
    exact mR (v := (U 1)) (fun _ hS => ⟨congrArg (fun x => Ending.returned (U x)) (non_0 hb1), hS.below⟩)
  ·
    rw [hb1]
    refine ok_skip ?_
    refine mt_then ?_
    refine sS Tryd.f16 2 [4] [1, 0] (fun _ => [(U (addmN (tagN tgN ((hL x) ++ (hL m))) 0 qP)), undef]) (fun _ => [(1, { puts := [(0, nb ρ1 2, (.cells (cU (addmN (tagN tgN ((hL x) ++ (hL m))) 0 qP)) 24 (0, 0)))] })]) (cR [[1], [0]] <| cN) (fun _ => ?_)
    refine ok_ret ?_
    exact mR (v := (U (addmN (tagN tgN ((hL x) ++ (hL m))) 0 qP))) (fun _ hS => ⟨congrArg (fun x => Ending.returned (U x)) (non_1 hb1), hS.below⟩)

theorem rchallenge_any (r : Nat) (p : Nat) (m : Nat) (hr : r < M) (hp : p < M) (_hm : m < M) (w0 : World) : Calls Tryd.prog 18 #[(U r), (U p), (.agg (hB m))] w0 (fun ε w' => ε = .returned (U (chaN r p m)) ∧ Below w0.heap.size w0 w') := by
  refine Calls.of_ok (n := 16) (F := (fun _ => True)) Tryd.func18 rfl rfl rfl (by simp) (persTrue (fun _ => trivial)) ?_
  refine sS Tryd.f18 4 [3, 4, 5, 6] [] (fun ρ => [(pt (nb ρ 0)), (pt (nb ρ 1)), (pt (nb ρ 2)), (pt (nb ρ 3))]) (fun ρ => [(0, { news := [(nb ρ 0, (.cells (cU r) 24 (0, 0)))] }), (1, { news := [(nb ρ 1, (.cells (cU p) 24 (0, 0)))] }), (2, { news := [(nb ρ 2, (.cells (hB m) 26 (0, 0)))] }), (3, { news := [(nb ρ 3, (.cells (cU 0) 24 (0, 0)))] })]) (cR [[], [], [], []] <| cN) (fun ρ1 => ?_)
  refine sDf Tryd.f18 [0, 1, 0, 7, 0, 31, 63, 127, 255, 511] 10 [6] [0, 0, 0, 1, 0] (fun ρ => [(U r), (.slice (oa ρ 1) (hL r).length (nb ρ 1)), (U p), (.slice (oa ρ 3) (hL p).length (nb ρ 3)), (.slice (some ⟨nb ρ1 2, 0, none⟩) (hL m).length 32), (.slice (some ⟨nb ρ 5, 0, none⟩) 3 3), (.slice (oa ρ 6) (((hL r) ++ (hL p)) ++ (hL m)).length (nb ρ 6)), (.agg (hB (tagN tgC (((hL r) ++ (hL p)) ++ (hL m))))), (U (addmN (tagN tgC (((hL r) ++ (hL p)) ++ (hL m))) 0 qP)), undef]) (fun ρ => [(5, { news := [(nb ρ 5, (.cells #[(.slice (oa ρ 1) (hL r).length (nb ρ 1)), (.slice (oa ρ 3) (hL p).length (nb ρ 3)), (.slice (some ⟨nb ρ1 2, 0, none⟩) (hL m).length 32)] 46 (0, 0)))] }), (9, { puts := [(3, nb ρ1 3, (.cells (cU (addmN (tagN tgC (((hL r) ++ (hL p)) ++ (hL m))) 0 qP)) 24 (0, 0)))] })]) (fun ρ => [(1, fun w => Fs w0 w (oa ρ 1) (nb ρ 1) (hL r)), (3, fun w => Fs w0 w (oa ρ 3) (nb ρ 3) (hL p)), (6, fun w => Fs w0 w (oa ρ 6) (nb ρ 6) (((hL r) ++ (hL p)) ++ (hL m)))]) (fun ρ => (fun w => Fs w0 w (oa ρ 1) (nb ρ 1) (hL r) ∧ Fs w0 w (oa ρ 3) (nb ρ 3) (hL p) ∧ Fs w0 w (oa ρ 6) (nb ρ 6) (((hL r) ++ (hL p)) ++ (hL m)) ∧ True)) (fun _ => True) (fun _ _ _ hf => ⟨⟨hf 1, hf 3, hf 6, trivial⟩, trivial⟩) (cR [[0]] <| cX (o_callB _ 49 (fun _ => #[(U r)]) (fun _ α κ => (.slice α (hL r).length κ)) (fun _ => hL r) (fun _ _ => (by kernel_rfl)) (fun _ _ => (by kernel_rfl)) (fun _ _ => (by kernel_rfl)) (fun _ _ => (by kernel_rfl)) (fun _ _ w _ => rnumber_any r hr w )) <| cR [[1]] <| cX (o_callB _ 49 (fun _ => #[(U p)]) (fun _ α κ => (.slice α (hL p).length κ)) (fun _ => hL p) (fun _ _ => (by kernel_rfl)) (fun _ _ => (by kernel_rfl)) (fun _ _ => (by kernel_rfl)) (fun _ _ => (by kernel_rfl)) (fun _ _ w _ => rnumber_any p hp w )) <| cR [[], []] <| cX (o_callB _ 48 (fun ρ => #[(.slice (some ⟨nb ρ 5, 0, none⟩) 3 3)]) (fun _ α κ => (.slice α (((hL r) ++ (hL p)) ++ (hL m)).length κ)) (fun _ => ((hL r) ++ (hL p)) ++ (hL m)) (fun _ _ => (by kernel_rfl)) (fun _ _ => (by kernel_rfl)) (fun _ _ => (by kernel_rfl)) (fun _ _ => (by kernel_rfl)) (fun ρ _ w hG => join3_any (nb ρ 5) (oa ρ 1) (nb ρ 1) (hL r) (oa ρ 3) (nb ρ 3) (hL p) (some ⟨nb ρ1 2, 0, none⟩) 32 (hL m) (by simp only [hL_length]; omega) (by rw [hL_length]; decide) w (Kb.of_block (hG.known (g := nb ρ 5) (o := (.cells #[(.slice (oa ρ 1) (hL r).length (nb ρ 1)), (.slice (oa ρ 3) (hL p).length (nb ρ 3)), (.slice (some ⟨nb ρ1 2, 0, none⟩) (hL m).length 32)] 46 (0, 0))) 44 (by kernel_rfl) (by kernel_rfl))) ((show Fs w0 w (oa ρ 1) (nb ρ 1) (hL r) from (hG.facts 1 rfl).now).1) ((show Fs w0 w (oa ρ 3) (nb ρ 3) (hL p) from (hG.facts 3 rfl).now).1) (Bs.of_hd (c := 32) (hG.known (g := nb ρ1 2) (o := (.cells (hB m) 26 (0, 0))) 2 (by kernel_rfl) (by kernel_rfl)) (hd_hB _) (Nat.le_refl _) (Nat.le_of_ble_eq_true rfl)))) <| cX (o_callP _ 47 (fun ρ => #[(.string ⟨#[108, 105, 103, 104, 116, 99, 108, 105, 101, 110, 116, 47, 99, 104, 97, 108, 108, 101, 110, 103, 101]⟩), (.slice (oa ρ 6) (((hL r) ++ (hL p)) ++ (hL m)).length (nb ρ 6))]) (fun _ => (.agg (hB (tagN tgC (((hL r) ++ (hL p)) ++ (hL m)))))) (fun _ _ => (by kernel_rfl)) (fun _ => (by kernel_rfl)) (fun _ _ => (by kernel_rfl)) (fun _ _ => trivial) (fun ρ _ w hG => rtagged_any tgC (oa ρ 6) (nb ρ 6) (((hL r) ++ (hL p)) ++ (hL m)) (by decide) (by simp only [List.length_append, hL_length]; omega) w ((show Fs w0 w (oa ρ 6) (nb ρ 6) (((hL r) ++ (hL p)) ++ (hL m)) from (hG.facts 6 rfl).now).1))) <| cC (f := 23) (args := fun ρ => #[(.agg (hB (tagN tgC (((hL r) ++ (hL p)) ++ (hL m)))))]) (v := fun ρ => (U (addmN (tagN tgC (((hL r) ++ (hL p)) ++ (hL m))) 0 qP))) (fun _ w => (fun w => rgscalar_any (tagN tgC (((hL r) ++ (hL p)) ++ (hL m))) w (tagN_lt _ _)) w) <| cR [[3]] <| cN) (fun _ _ => ?_)
  refine ok_ret ?_
  exact mR (v := (U (addmN (tagN tgC (((hL r) ++ (hL p)) ++ (hL m))) 0 qP))) (fun _ hS => ⟨congrArg (fun x => Ending.returned (U x)) ((cha_eq r p m)), hS.below⟩)

theorem rsignw_any (x : Nat) (m : Nat) (k : Nat) (p : Nat) (e : Nat) (hx : x < M) (hm : m < M) (hk : k < M) (hp : p < M) (he : e < M) (ek : nonN x m = k) (ep : pubV x = p) (ee : chaN (expmN 4 k pP) p m = e) (w0 : World) : Calls Tryd.prog 20 #[(U x), (.agg (hB m))] w0 (fun ε w' => ε = .returned (.tuple #[(.agg (cU (sigE x m) ++ cU (sigS x m))), (.int .i64 (pubE x))]) ∧ Below w0.heap.size w0 w') := by
  refine Calls.of_ok (n := 34) (F := (fun _ => True)) Tryd.func20 rfl rfl rfl (by simp) (persTrue (fun _ => trivial)) ?_
  refine sS Tryd.f20 4 [2, 3, 4, 5] [] (fun ρ => [(pt (nb ρ 0)), (pt (nb ρ 1)), (pt (nb ρ 2)), (.int .i64 0)]) (fun ρ => [(0, { news := [(nb ρ 0, (.cells (cU x) 24 (0, 0)))] }), (1, { news := [(nb ρ 1, (.cells (hB m) 26 (0, 0)))] }), (2, { news := [(nb ρ 2, (.cells (cU 0 ++ cU 0) 36 (0, 0)))] })]) (cR [[], [], [], []] <| cN) (fun ρ1 => ?_)
  refine sS Tryd.f20 8 [2, 3, 4, 5, 6, 7] [] (fun ρ => [(U x), (.tuple #[(U p), (.int .i64 (pubE x))]), (.tuple #[(U p), (.int .i64 (pubE x))]), (U p), (.int .i64 (pubE x)), (pt (nb ρ 5)), undef, (.int .i64 (pubE x))]) (fun ρ => [(5, { news := [(nb ρ 5, (.cells (cU 0) 24 (0, 0)))] }), (6, { puts := [(43, nb ρ 5, (.cells (cU p) 24 (0, 0)))] })]) (cR [[0]] <| cX (o_callP _ 11 (fun _ => #[(U x)]) (fun _ => (.tuple #[(U p), (.int .i64 (pubE x))])) (fun _ _ => (by kernel_rfl)) (fun _ => (by kernel_rfl)) (fun _ _ => (by kernel_rfl)) (fun _ _ => trivial) (fun _ _ w _ => (by as_aux_lemma => (have hcall := rpublic_any x hx w ; rw [ep] at hcall; exact hcall)))) <| cR [[], [], [], [], [43], []] <| cN) (fun _ => ?_)
  refine ok_seq ?_
  refine sS Tryd.f20 2 [2, 3, 4, 5, 6, 7, 16] [] (fun _ => [(.int .i64 (pubE x)), (.bool ((pubE x) != 0))]) (fun _ => []) (cR [[], []] <| cN) (fun _ => ?_)
  refine oC ((pubE x) != 0) (fun hb1 => ?_) (fun hb1 => ?_)
  ·
    rw [hb1]
    refine sS Tryd.f20 4 [2, 3, 4, 5, 6] [] (fun _ => [(.agg (cU 0 ++ cU 0)), (.int .i64 (pubE x)), undef, (.int .i64 (pubE x))]) (fun _ => [(2, { puts := [(2, nb ρ1 2, (.cells (cU 0 ++ cU 0) 36 (0, 0)))] })]) (cR [[], [], [2], []] <| cN) (fun _ => ?_)
    refine ok_ret ?_
    refine mt_then_r ?_
    exact mR (v := (.tuple #[(.agg (cU 0 ++ cU 0)), (.int .i64 (pubE x))])) (ps := [2,2,2,2,2,2,2,2]) (fun _ hS => ⟨by rw [(sig_no (pubE_no hb1)).1, (sig_no (pubE_no hb1)).2], hS.below⟩)
  ·
    rw [hb1]
    refine ok_skip ?_
    refine mt_then ?_
    refine sS Tryd.f20 5 [2, 3, 4, 5, 6, 8] [] (fun ρ => [(U x), (.agg (hB m)), (U k), (pt (nb ρ 3)), undef]) (fun ρ => [(3, { news := [(nb ρ 3, (.cells (cU 0) 24 (0, 0)))] }), (4, { puts := [(28, nb ρ 3, (.cells (cU k) 24 (0, 0)))] })]) (cR [[0], [1]] <| cX (o_callP _ 16 (fun _ => #[(U x), (.agg (hB m))]) (fun _ => (U k)) (fun _ _ => (by kernel_rfl)) (fun _ => (by kernel_rfl)) (fun _ _ => (by kernel_rfl)) (fun _ _ => trivial) (fun _ _ w _ => (by as_aux_lemma => (have hcall := rnonce_any x m hx hm w ; rw [ek] at hcall; exact hcall)))) <| cR [[], [28]] <| cN) (fun ρ5 => ?_)
    refine sD Tryd.f20 [0, 1, 0, 0, 15, 0, 63] 7 [2, 4, 5, 8, 9] [1, 0, 1, 0, 1, 1] (fun ρ => [(U k), (U (expmN 4 k pP)), (U p), (.agg (hB m)), (U e), (pt (nb ρ 5)), undef]) (fun ρ => [(5, { news := [(nb ρ 5, (.cells (cU 0) 24 (0, 0)))] }), (6, { puts := [(45, nb ρ 5, (.cells (cU e) 24 (0, 0)))] })]) (cR [[4]] <| cC (fun _ w => rgpower_any k w hk) <| cR [[3], [1]] <| cX (o_callP _ 18 (fun _ => #[(U (expmN 4 k pP)), (U p), (.agg (hB m))]) (fun _ => (U e)) (fun _ _ => (by kernel_rfl)) (fun _ => (by kernel_rfl)) (fun _ _ => (by kernel_rfl)) (fun _ _ => trivial) (fun _ _ w _ => (by as_aux_lemma => (have hcall := rchallenge_any (expmN 4 k pP) p m (expmN_lt _ _ pP_lt) hp hm w ; rw [ee] at hcall; exact hcall)))) <| cR [[], [45]] <| cN) (fun ρ6 => ?_)
    refine dRs [(2, (pt (nb ρ1 0))), (4, (pt (nb ρ1 2))), (5, (.int .i64 0)), (8, (pt (nb ρ5 3))), (9, (pt (nb ρ6 5)))] [(nb ρ1 0, (.cells (cU x) 24 (0, 0))), (nb ρ1 2, (.cells (cU 0 ++ cU 0) 36 (0, 0))), (nb ρ5 3, (.cells (cU k) 24 (0, 0))), (nb ρ6 5, (.cells (cU e) 24 (0, 0)))] ?_
    refine sD Tryd.f20 [0, 0, 0, 0, 12, 30, 63, 127, 255] 9 [4, 5] [0, 1, 0, 0] (fun _ => [(U e), (U k), (U e), (U x), (U (mulmN e x qP)), (U (addmN k (mulmN e x qP) qP)), (.agg (cU e ++ cU (addmN k (mulmN e x qP) qP))), undef, (.int .i64 0)]) (fun _ => [(7, { puts := [(1, nb ρ1 2, (.cells (cU e ++ cU (addmN k (mulmN e x qP) qP)) 36 (0, 0)))] })]) (cR [[3], [2], [3], [0]] <| cC (fun _ w => rgmulscalar_any e x w he hx) <| cC (f := 24) (args := fun ρ => #[(U k), (U (mulmN e x qP))]) (v := fun ρ => (U (addmN k (mulmN e x qP) qP))) (fun _ w => (fun w => rgaddscalar_any k (mulmN e x qP) w hk (mulmN_lt _ _ qP_lt)) w) <| cR [[], [1], []] <| cN) (fun _ => ?_)
    refine ok_ret ?_
    exact mR (v := (.tuple #[(.agg (cU e ++ cU (addmN k (mulmN e x qP) qP))), (.int .i64 0)])) (fun _ hS => ⟨by rw [(sig_yes (pubE_ok hb1)).1, (sig_yes (pubE_ok hb1)).2, (pub_yes (pubE_ok hb1)).2, ek, ep, ee], hS.below⟩)
theorem rsign_any (x m : Nat) (hx : x < M) (hm : m < M) (w0 : World) : Calls Tryd.prog 20 #[U x, .agg (hB m)] w0 (fun ε w' => ε = .returned (.tuple #[.agg (cU (sigE x m) ++ cU (sigS x m)), .int .i64 (pubE x)]) ∧ Below w0.heap.size w0 w') := rsignw_any x m _ _ _ hx hm (nonN_lt x m) (pubV_lt x) (chaN_lt _ _ m) rfl rfl rfl w0

theorem rverify_any (p : Nat) (m : Nat) (E : Nat) (S : Nat) (hp : p < M) (hm : m < M) (hE : E < M) (hS : S < M) (w0 : World) : Calls Tryd.prog 22 #[(U p), (.agg (hB m)), (.agg (cU E ++ cU S))] w0 (fun ε w' => ε = .returned (.bool (verB p m E S)) ∧ Below w0.heap.size w0 w') := by
  refine Calls.of_ok (n := 46) (F := (fun _ => True)) Tryd.func22 rfl rfl rfl (by simp) (persTrue (fun _ => trivial)) ?_
  refine sS Tryd.f22 4 [3, 4, 5, 6] [] (fun ρ => [(pt (nb ρ 0)), (pt (nb ρ 1)), (pt (nb ρ 2)), (.bool false)]) (fun ρ => [(0, { news := [(nb ρ 0, (.cells (cU p) 24 (0, 0)))] }), (1, { news := [(nb ρ 1, (.cells (hB m) 26 (0, 0)))] }), (2, { news := [(nb ρ 2, (.cells (cU E ++ cU S) 36 (0, 0)))] })]) (cR [[], [], [], []] <| cN) (fun ρ1 => ?_)
  refine ok_seq ?_
  rcases Bool.eq_false_or_eq_true (valB p) with hb1 | hb1
  ·
    rcases Bool.eq_false_or_eq_true (scB E) with hb2 | hb2
    ·
      refine sS Tryd.f22 15 [3, 4, 5, 6, 24] [] (fun _ => [(U p), (.bool true), (.bool false), (.bool false), (pt (nb ρ1 2)), (U E), (.bool true), (.bool false), (.bool false), (.bool false), (.pointer (some ⟨nb ρ1 2, 4, none⟩)), (U S), (.bool (scB S)), (.bool (!(scB S))), (.bool (!(scB S)))]) (fun _ => []) (cR [[0]] <| cC (f := 14) (args := fun ρ => #[(U p)]) (v := fun ρ => (.bool true)) (fun _ w => by as_aux_lemma => (have hcall := (fun w => rvalid_any p hp w) w; rw [hb1] at hcall; exact hcall)) <| cR [[], [], [], [2]] <| cC (f := 59) (args := fun ρ => #[(U E)]) (v := fun ρ => (.bool true)) (fun _ w => by as_aux_lemma => (have hcall := (fun w => rsmall_any E hE w) w; rw [hb2] at hcall; exact hcall)) <| cR [[], [], [], [], [2]] <| cC (fun _ w => rsmall_any S hS w) <| cR [[], []] <| cN) (fun _ => ?_)
      refine oC (!(scB S)) (fun hb3 => ?_) (fun hb3 => ?_)
      ·
        rw [hb3]
        refine sS Tryd.f22 1 [3, 4, 5, 6] [] (fun _ => [(.bool false)]) (fun _ => []) (cR [[]] <| cN) (fun _ => ?_)
        refine ok_ret ?_
        refine mt_then_r ?_
        exact mR (v := (.bool false)) (fun _ hS => ⟨congrArg (fun x => Ending.returned (.bool x)) (rver_3 hb1 hb2 (not_t hb3)), hS.below⟩)
      ·
        rw [hb3]
        refine ok_skip ?_
        refine mt_then ?_
        refine sD Tryd.f22 [0, 0, 2, 7, 15, 31, 31, 0, 191, 511] 10 [3, 4, 5, 6, 7] [] (fun ρ => [(U qP), (pt (nb ρ1 2)), (U E), (.tuple #[(U ((qP + M - E) % M)), (.bool (decide (qP < E)))]), (.tuple #[(U ((qP + M - E) % M)), (.bool (decide (qP < E)))]), (U ((qP + M - E) % M)), (.bool (decide (qP < E))), (pt (nb ρ 7)), undef, (.bool (decide (qP < E)))]) (fun ρ => [(7, { news := [(nb ρ 7, (.cells (cU 0) 24 (0, 0)))] }), (8, { puts := [(59, nb ρ 7, (.cells (cU ((qP + M - E) % M)) 24 (0, 0)))] })]) (cC (fun _ w => rgorder_any w) <| cR [[], [2]] <| cC (fun _ w => rsub_any qP E w qP_lt hE) <| cR [[], [], [], [], [59], []] <| cN) (fun _ => ?_)
        refine sD Tryd.f22 [0, 1, 3, 0, 0, 31, 63, 0, 255] 9 [3, 4, 5, 6, 9] [1, 1, 1, 0, 1] (fun ρ => [(.pointer (some ⟨nb ρ1 2, 4, none⟩)), (U S), (U (expmN 4 S pP)), (U p), (U ((qP + M - E) % M)), (U (expmN p ((qP + M - E) % M) pP)), (U (mulmN (expmN 4 S pP) (expmN p ((qP + M - E) % M) pP) pP)), (pt (nb ρ 7)), undef]) (fun ρ => [(7, { news := [(nb ρ 7, (.cells (cU 0) 24 (0, 0)))] }), (8, { puts := [(60, nb ρ 7, (.cells (cU (mulmN (expmN 4 S pP) (expmN p ((qP + M - E) % M) pP) pP)) 24 (0, 0)))] })]) (cR [[], [2]] <| cC (fun _ w => rgpower_any S w hS) <| cR [[0], [3]] <| cC (f := 63) (args := fun ρ => #[(U p), (U ((qP + M - E) % M))]) (v := fun ρ => (U (expmN p ((qP + M - E) % M) pP))) (fun _ w => (fun w => rgexp_any p ((qP + M - E) % M) w hp (modM_lt _)) w) <| cC (f := 62) (args := fun ρ => #[(U (expmN 4 S pP)), (U (expmN p ((qP + M - E) % M) pP))]) (v := fun ρ => (U (mulmN (expmN 4 S pP) (expmN p ((qP + M - E) % M) pP) pP))) (fun _ w => (fun w => rgmul_any (expmN 4 S pP) (expmN p ((qP + M - E) % M) pP) w (expmN_lt _ _ pP_lt) (expmN_lt _ _ pP_lt)) w) <| cR [[], [60]] <| cN) (fun _ => ?_)
        refine sD Tryd.f22 [0, 1, 0, 0, 0, 28, 63, 127] 8 [6] [0, 0, 0, 0] (fun _ => [(pt (nb ρ1 2)), (U E), (U (mulmN (expmN 4 S pP) (expmN p ((qP + M - E) % M) pP) pP)), (U p), (.agg (hB m)), (U (chaN (mulmN (expmN 4 S pP) (expmN p ((qP + M - E) % M) pP) pP) p m)), (.bool (decide (E = chaN (mulmN (expmN 4 S pP) (expmN p ((qP + M - E) % M) pP) pP) p m))), (.bool (decide (E = chaN (mulmN (expmN 4 S pP) (expmN p ((qP + M - E) % M) pP) pP) p m)))]) (fun _ => []) (cR [[], [2], [3], [0], [1]] <| cC (f := 18) (args := fun ρ => #[(U (mulmN (expmN 4 S pP) (expmN p ((qP + M - E) % M) pP) pP)), (U p), (.agg (hB m))]) (v := fun ρ => (U (chaN (mulmN (expmN 4 S pP) (expmN p ((qP + M - E) % M) pP) pP) p m))) (fun _ w => (fun w => rchallenge_any (mulmN (expmN 4 S pP) (expmN p ((qP + M - E) % M) pP) pP) p m (mulmN_lt _ _ pP_lt) hp hm w) w) <| cB (a := fun ρ => (U E)) (b := fun ρ => (U (chaN (mulmN (expmN 4 S pP) (expmN p ((qP + M - E) % M) pP) pP) p m))) (v := fun ρ => (.bool (decide (E = chaN (mulmN (expmN 4 S pP) (expmN p ((qP + M - E) % M) pP) pP) p m)))) .eql 24 (fun _ _ => eqlU E (chaN (mulmN (expmN 4 S pP) (expmN p ((qP + M - E) % M) pP) pP) p m) hE (chaN_lt _ _ _) _) <| cR [[]] <| cN) (fun _ => ?_)
        refine ok_ret ?_
        exact mR (v := (.bool (decide (E = chaN (mulmN (expmN 4 S pP) (expmN p ((qP + M - E) % M) pP) pP) p m)))) (fun _ hS => ⟨congrArg (fun x => Ending.returned (.bool x)) (rver_4 hb1 hb2 (not_f hb3)), hS.below⟩)
    ·
      refine sS Tryd.f22 15 [3, 4, 5, 6, 24] [] (fun _ => [(U p), (.bool true), (.bool false), (.bool false), (pt (nb ρ1 2)), (U E), (.bool false), (.bool true), (.bool true), (.bool true), undef, undef, undef, undef, (.bool true)]) (fun _ => []) (cR [[0]] <| cC (f := 14) (args := fun ρ => #[(U p)]) (v := fun ρ => (.bool true)) (fun _ w => by as_aux_lemma => (have hcall := (fun w => rvalid_any p hp w) w; rw [hb1] at hcall; exact hcall)) <| cR [[], [], [], [2]] <| cC (f := 59) (args := fun ρ => #[(U E)]) (v := fun ρ => (.bool false)) (fun _ w => by as_aux_lemma => (have hcall := (fun w => rsmall_any E hE w) w; rw [hb2] at hcall; exact hcall)) <| cR [[], [], [], [], [], [], [], []] <| cN) (fun _ => ?_)
      refine oY ?_
      refine sS Tryd.f22 1 [3, 4, 5, 6] [] (fun _ => [(.bool false)]) (fun _ => []) (cR [[]] <| cN) (fun _ => ?_)
      refine ok_ret ?_
      refine mt_then_r ?_
      exact mR (v := (.bool false)) (fun _ hS => ⟨congrArg (fun x => Ending.returned (.bool x)) (rver_2 hb1 hb2), hS.below⟩)
  ·
    refine sS Tryd.f22 15 [3, 4, 5, 6, 24] [] (fun _ => [(U p), (.bool false), (.bool true), (.bool true), undef, undef, undef, undef, (.bool true), (.bool true), undef, undef, undef, undef, (.bool true)]) (fun _ => []) (cR [[0]] <| cC (f := 14) (args := fun ρ => #[(U p)]) (v := fun ρ => (.bool false)) (fun _ w => by as_aux_lemma => (have hcall := (fun w => rvalid_any p hp w) w; rw [hb1] at hcall; exact hcall)) <| cR [[], [], [], [], [], [], [], [], [], [], [], [], []] <| cN) (fun _ => ?_)
    refine oY ?_
    refine sS Tryd.f22 1 [3, 4, 5, 6] [] (fun _ => [(.bool false)]) (fun _ => []) (cR [[]] <| cN) (fun _ => ?_)
    refine ok_ret ?_
    refine mt_then_r ?_
    exact mR (v := (.bool false)) (fun _ hS => ⟨congrArg (fun x => Ending.returned (.bool x)) (rver_1 hb1), hS.below⟩)

theorem encode_any (E : Nat) (S : Nat) (hE : E < M) (hS : S < M) (w0 : World) : Calls Tryd.prog 29 #[(.agg (cU E ++ cU S))] w0 (fun ε w' => ∃ α κ, ε = .returned (.slice α (hL E ++ hL S).length κ) ∧ Below w0.heap.size w0 w' ∧ Fs w0 w' α κ (hL E ++ hL S)) := by
  refine Calls.of_ok (n := 11) (F := (fun _ => True)) Tryd.func29 rfl rfl rfl (by simp) (persTrue (fun _ => trivial)) ?_
  refine sS Tryd.f29 2 [1, 2] [] (fun ρ => [(pt (nb ρ 0)), (.slice none 0 0)]) (fun ρ => [(0, { news := [(nb ρ 0, (.cells (cU E ++ cU S) 36 (0, 0)))] })]) (cR [[], []] <| cN) (fun ρ1 => ?_)
  refine sDf Tryd.f29 [0, 1, 3, 0, 8, 31, 63, 127, 255] 9 [2] [0, 0] (fun ρ => [(pt (nb ρ1 0)), (U E), (.agg (hB E)), (.pointer (some ⟨nb ρ1 0, 4, none⟩)), (U S), (.agg (hB S)), (.slice (some ⟨nb ρ 6, 0, none⟩) 2 2), (.slice (oa ρ 7) (hL E ++ hL S).length (nb ρ 7)), (.slice (oa ρ 7) (hL E ++ hL S).length (nb ρ 7))]) (fun ρ => [(6, { news := [(nb ρ 6, (.cells (hB E ++ hB S) 26 (0, 0)))] })]) (fun ρ => [(7, fun w => Fs w0 w (oa ρ 7) (nb ρ 7) (hL E ++ hL S))]) (fun ρ => (fun w => Fs w0 w (oa ρ 7) (nb ρ 7) (hL E ++ hL S) ∧ True)) (fun _ => True) (fun _ _ _ hf => ⟨⟨hf 7, trivial⟩, trivial⟩) (cR [[], [0]] <| cC (fun _ w => bytes_any E w) <| cR [[], [0]] <| cC (fun _ w => bytes_any S w) <| cR [[]] <| cX (o_callB _ 45 (fun ρ => #[(.slice (some ⟨nb ρ 6, 0, none⟩) 2 2)]) (fun _ α κ => (.slice α (hL E ++ hL S).length κ)) (fun _ => hL E ++ hL S) (fun _ _ => (by kernel_rfl)) (fun _ _ => (by kernel_rfl)) (fun _ _ => (by kernel_rfl)) (fun _ _ => (by kernel_rfl)) (fun ρ _ w hG => sgrow2_any (nb ρ 6) E S hE hS w (Kb.of_block (hG.known (g := nb ρ 6) (o := (.cells (hB E ++ hB S) 26 (0, 0))) 49 (by kernel_rfl) (by kernel_rfl))))) <| cR [[]] <| cN) (fun ρ2 _ => ?_)
  refine ok_ret ?_
  refine mD [(2, (.slice (oa ρ2 7) (hL E ++ hL S).length (nb ρ2 7)))] [] ?_
  exact mR (v := (.slice (oa ρ2 7) (hL E ++ hL S).length (nb ρ2 7))) (fun _ hS => ⟨oa ρ2 7, nb ρ2 7, congrArg Ending.returned (rfl), hS.below, fs_eq (rfl) hS.facts.now.1⟩)

theorem rencode_any (E : Nat) (S : Nat) (hE : E < M) (hS : S < M) (w0 : World) : Calls Tryd.prog 30 #[(.agg (cU E ++ cU S))] w0 (fun ε w' => ∃ α κ, ε = .returned (.slice α (hL E ++ hL S).length κ) ∧ Below w0.heap.size w0 w' ∧ Fs w0 w' α κ (hL E ++ hL S)) := by
  refine Calls.of_ok (n := 11) (F := (fun _ => True)) Tryd.func30 rfl rfl rfl (by simp) (persTrue (fun _ => trivial)) ?_
  refine sS Tryd.f30 2 [1, 2] [] (fun ρ => [(pt (nb ρ 0)), (.slice none 0 0)]) (fun ρ => [(0, { news := [(nb ρ 0, (.cells (cU E ++ cU S) 36 (0, 0)))] })]) (cR [[], []] <| cN) (fun ρ1 => ?_)
  refine sDf Tryd.f30 [0, 1, 3, 0, 8, 31, 63, 127, 255] 9 [2] [0, 0] (fun ρ => [(pt (nb ρ1 0)), (U E), (.slice (oa ρ 2) (hL E).length (nb ρ 2)), (.pointer (some ⟨nb ρ1 0, 4, none⟩)), (U S), (.slice (oa ρ 5) (hL S).length (nb ρ 5)), (.slice (some ⟨nb ρ 6, 0, none⟩) 2 2), (.slice (oa ρ 7) ((hL E) ++ (hL S)).length (nb ρ 7)), (.slice (oa ρ 7) ((hL E) ++ (hL S)).length (nb ρ 7))]) (fun ρ => [(6, { news := [(nb ρ 6, (.cells #[(.slice (oa ρ 2) (hL E).length (nb ρ 2)), (.slice (oa ρ 5) (hL S).length (nb ρ 5))] 46 (0, 0)))] })]) (fun ρ => [(2, fun w => Fs w0 w (oa ρ 2) (nb ρ 2) (hL E)), (5, fun w => Fs w0 w (oa ρ 5) (nb ρ 5) (hL S)), (7, fun w => Fs w0 w (oa ρ 7) (nb ρ 7) ((hL E) ++ (hL S)))]) (fun ρ => (fun w => Fs w0 w (oa ρ 2) (nb ρ 2) (hL E) ∧ Fs w0 w (oa ρ 5) (nb ρ 5) (hL S) ∧ Fs w0 w (oa ρ 7) (nb ρ 7) ((hL E) ++ (hL S)) ∧ True)) (fun _ => True) (fun _ _ _ hf => ⟨⟨hf 2, hf 5, hf 7, trivial⟩, trivial⟩) (cR [[], [0]] <| cX (o_callB _ 49 (fun _ => #[(U E)]) (fun _ α κ => (.slice α (hL E).length κ)) (fun _ => hL E) (fun _ _ => (by kernel_rfl)) (fun _ _ => (by kernel_rfl)) (fun _ _ => (by kernel_rfl)) (fun _ _ => (by kernel_rfl)) (fun _ _ w _ => rnumber_any E hE w )) <| cR [[], [0]] <| cX (o_callB _ 49 (fun _ => #[(U S)]) (fun _ α κ => (.slice α (hL S).length κ)) (fun _ => hL S) (fun _ _ => (by kernel_rfl)) (fun _ _ => (by kernel_rfl)) (fun _ _ => (by kernel_rfl)) (fun _ _ => (by kernel_rfl)) (fun _ _ w _ => rnumber_any S hS w )) <| cR [[]] <| cX (o_callB _ 48 (fun ρ => #[(.slice (some ⟨nb ρ 6, 0, none⟩) 2 2)]) (fun _ α κ => (.slice α ((hL E) ++ (hL S)).length κ)) (fun _ => (hL E) ++ (hL S)) (fun _ _ => (by kernel_rfl)) (fun _ _ => (by kernel_rfl)) (fun _ _ => (by kernel_rfl)) (fun _ _ => (by kernel_rfl)) (fun ρ _ w hG => join2_any (nb ρ 6) (oa ρ 2) (nb ρ 2) (hL E) (oa ρ 5) (nb ρ 5) (hL S) (by simp only [hL_length]; omega) (by rw [hL_length]; decide) w (Kb.of_block (hG.known (g := nb ρ 6) (o := (.cells #[(.slice (oa ρ 2) (hL E).length (nb ρ 2)), (.slice (oa ρ 5) (hL S).length (nb ρ 5))] 46 (0, 0))) 49 (by kernel_rfl) (by kernel_rfl))) ((show Fs w0 w (oa ρ 2) (nb ρ 2) (hL E) from (hG.facts 2 rfl).now).1) ((show Fs w0 w (oa ρ 5) (nb ρ 5) (hL S) from (hG.facts 5 rfl).now).1))) <| cR [[]] <| cN) (fun ρ2 _ => ?_)
  refine ok_ret ?_
  refine mD [(2, (.slice (oa ρ2 7) ((hL E) ++ (hL S)).length (nb ρ2 7)))] [] ?_
  exact mR (v := (.slice (oa ρ2 7) ((hL E) ++ (hL S)).length (nb ρ2 7))) (fun _ hS => ⟨oa ρ2 7, nb ρ2 7, congrArg Ending.returned (rfl), hS.below, fs_eq (rfl) hS.facts.now.2.2.1⟩)

theorem decode_any (a : Option Addr) (c : Nat) (B : List UInt8) (w0 : World) (hf0 : Bs w0 a c B) : Calls Tryd.prog 26 #[(.slice a (B).length c)] w0 (fun ε w' => ε = .returned (.tuple #[(.agg (cU (sdE B) ++ cU (sdS B))), (.int .i64 (sdX B))]) ∧ Below w0.heap.size w0 w') := by
  refine Calls.of_ok (n := 32) (F := (fun w => Bs w a c B ∧ True)) Tryd.func26 rfl rfl rfl (by simp) (hf0.pers0.and persT) ?_
  refine sS Tryd.f26 2 [0, 2, 3] [] (fun ρ => [(pt (nb ρ 0)), (.int .i64 0)]) (fun ρ => [(0, { news := [(nb ρ 0, (.cells (cU 0 ++ cU 0) 36 (0, 0)))] })]) (cR [[], []] <| cN) (fun ρ1 => ?_)
  refine ok_seq ?_
  refine sS Tryd.f26 3 [0, 2, 3, 7] [] (fun _ => [(.slice a (B).length c), (.int .i64 (((B).length : Nat) : Int)), (.bool ((((B).length : Nat) : Int) != 64))]) (fun _ => []) (cR [[], [], []] <| cN) (fun _ => ?_)
  refine oC ((((B).length : Nat) : Int) != 64) (fun hb1 => ?_) (fun hb1 => ?_)
  ·
    rw [hb1]
    refine sS Tryd.f26 3 [0, 2, 3] [] (fun _ => [(.agg (cU 0 ++ cU 0)), undef, (.int .i64 8)]) (fun _ => [(1, { puts := [(0, nb ρ1 0, (.cells (cU 0 ++ cU 0) 36 (0, 0)))] })]) (cR [[], [0], []] <| cN) (fun _ => ?_)
    refine ok_ret ?_
    refine mt_then_r ?_
    exact mR (v := (.tuple #[(.agg (cU 0 ++ cU 0)), (.int .i64 8)])) (fun _ hS => ⟨by rw [(sd_a hb1).1, (sd_a hb1).2.1, (sd_a hb1).2.2], hS.below⟩)
  ·
    rw [hb1]
    refine ok_skip ?_
    refine mt_then ?_
    refine sDf Tryd.f26 [0, 1, 3, 7, 15, 0, 32, 96, 224, 511, 1023, 0, 4095] 13 [2, 3, 4] [] (fun ρ => [(.slice a (B).length c), (.slice (sadr a 0 c) (mid B 0 32).length (c - 0)), (.pointer (sadr a 0 c)), (.agg (hB (nB ((mid B 0 32).take 32)))), (U (nB ((mid B 0 32).take 32))), (.slice a (B).length c), (.slice (sadr a 32 c) (mid B 32 B.length).length (c - 32)), (.pointer (sadr a 32 c)), (.agg (hB (nB ((mid B 32 B.length).take 32)))), (U (nB ((mid B 32 B.length).take 32))), (.agg (cU (nB ((mid B 0 32).take 32)) ++ cU (nB ((mid B 32 B.length).take 32)))), (pt (nb ρ 11)), undef]) (fun ρ => [(11, { news := [(nb ρ 11, (.cells (cU 0 ++ cU 0) 36 (0, 0)))] }), (12, { puts := [(89, nb ρ 11, (.cells (cU (nB ((mid B 0 32).take 32)) ++ cU (nB ((mid B 32 B.length).take 32))) 36 (0, 0)))] })]) (fun _ => [(1, fun w => Bs w (sadr a 0 c) (c - 0) (mid B 0 32)), (6, fun w => Bs w (sadr a 32 c) (c - 32) (mid B 32 B.length))]) (fun _ => (fun w => Bs w a c B ∧ Bs w (sadr a 0 c) (c - 0) (mid B 0 32) ∧ Bs w (sadr a 32 c) (c - 32) (mid B 32 B.length) ∧ True)) (fun _ => True) (fun _ _ hF hf => ⟨⟨hF.1, hf 1, hf 6, trivial⟩, trivial⟩) (cR [[]] <| cX (o_semF _ (fun _ => do pure (Next.value (← Instr.sliceAt 46 (.slice a (B).length c) none (some (.int .i64 32)) none))) (fun _ => (.slice (sadr a 0 c) (mid B 0 32).length (c - 0))) (fun _ => (by kernel_rfl)) (fun _ => (by kernel_rfl)) (fun _ _ _ hG => slice_bytes (l := 0) (k := 32) Tryd.underlying46 u8i hG.facts0.now.1 rfl (Or.inl ⟨rfl, rfl⟩) (Or.inr (congrArg (fun z => some (Value.int .i64 z)) (rfl))) ((by have := ne64 hb1; omega)) ((by have := ne64 hb1; omega))) (fun _ _ w hG => (hG.facts0).mono (fun _ hF => (hF).1.mid ((by have := ne64 hb1; omega)) ((by have := ne64 hb1; omega))))) <| cX (o_semF _ (fun _ => do pure (Next.value (← Instr.arrayAt 26 (.slice (sadr a 0 c) (mid B 0 32).length (c - 0))))) (fun _ => (.pointer (sadr a 0 c))) (fun _ => (by kernel_rfl)) (fun _ => (by kernel_rfl)) (fun _ _ _ _ => arr_bytes Tryd.underlying26 ((by have := ne64 hb1; rw [mid_length _ _ _ (by omega)]; omega))) (fun _ _ _ _ => persT)) <| cX (o_semF _ (fun _ => do pure (Next.value (← Instr.loadAt 26 (.pointer (sadr a 0 c))))) (fun _ => (.agg (hB (nB ((mid B 0 32).take 32))))) (fun _ => (by kernel_rfl)) (fun _ => (by kernel_rfl)) (fun _ _ w hG => ld_arrH Tryd.isAgg26 Tryd.sizeOf26 (show Bs w (sadr a 0 c) (c - 0) (mid B 0 32) from (hG.facts 1 rfl).now) ((by have := ne64 hb1; rw [mid_length _ _ _ (by omega)]; omega))) (fun _ _ _ _ => persT)) <| cC (fun _ w => frombytes_any (nB ((mid B 0 32).take 32)) w) <| cR [[]] <| cX (o_semF _ (fun _ => do pure (Next.value (← Instr.sliceAt 46 (.slice a (B).length c) (some (.int .i64 32)) none none))) (fun _ => (.slice (sadr a 32 c) (mid B 32 B.length).length (c - 32))) (fun _ => (by kernel_rfl)) (fun _ => (by kernel_rfl)) (fun _ _ _ hG => slice_bytes (l := 32) (k := B.length) Tryd.underlying46 u8i hG.facts0.now.1 rfl (Or.inr (congrArg (fun z => some (Value.int .i64 z)) (rfl))) (Or.inl ⟨rfl, rfl⟩) ((by have := ne64 hb1; omega)) ((by have := ne64 hb1; omega))) (fun _ _ w hG => (hG.facts0).mono (fun _ hF => (hF).1.mid ((by have := ne64 hb1; omega)) ((by have := ne64 hb1; omega))))) <| cX (o_semF _ (fun _ => do pure (Next.value (← Instr.arrayAt 26 (.slice (sadr a 32 c) (mid B 32 B.length).length (c - 32))))) (fun _ => (.pointer (sadr a 32 c))) (fun _ => (by kernel_rfl)) (fun _ => (by kernel_rfl)) (fun _ _ _ _ => arr_bytes Tryd.underlying26 ((by have := ne64 hb1; rw [mid_length _ _ _ (by omega)]; omega))) (fun _ _ _ _ => persT)) <| cX (o_semF _ (fun _ => do pure (Next.value (← Instr.loadAt 26 (.pointer (sadr a 32 c))))) (fun _ => (.agg (hB (nB ((mid B 32 B.length).take 32))))) (fun _ => (by kernel_rfl)) (fun _ => (by kernel_rfl)) (fun _ _ w hG => ld_arrH Tryd.isAgg26 Tryd.sizeOf26 (show Bs w (sadr a 32 c) (c - 32) (mid B 32 B.length) from (hG.facts 6 rfl).now) ((by have := ne64 hb1; rw [mid_length _ _ _ (by omega)]; omega))) (fun _ _ _ _ => persT)) <| cC (fun _ w => frombytes_any (nB ((mid B 32 B.length).take 32)) w) <| cR [[], [], [89]] <| cN) (fun ρ4 _ => ?_)
    refine ok_seq ?_
    rcases Bool.eq_false_or_eq_true (scB (nB ((mid B 0 32).take 32))) with hb2 | hb2
    ·
      refine sS Tryd.f26 10 [2, 3, 4, 29] [] (fun _ => [(pt (nb ρ4 11)), (U (nB ((mid B 0 32).take 32))), (.bool true), (.bool false), (.bool false), (.pointer (some ⟨nb ρ4 11, 4, none⟩)), (U (nB ((mid B 32 B.length).take 32))), (.bool (scB (nB ((mid B 32 B.length).take 32)))), (.bool (!(scB (nB ((mid B 32 B.length).take 32))))), (.bool (!(scB (nB ((mid B 32 B.length).take 32)))))]) (fun _ => []) (cR [[], [1]] <| cC (f := 54) (args := fun ρ => #[(U (nB ((mid B 0 32).take 32)))]) (v := fun ρ => (.bool true)) (fun _ w => by as_aux_lemma => (have hcall := (fun w => scalarb_any (nB ((mid B 0 32).take 32)) (nB_M (by rw [List.length_take]; exact Nat.min_eq_left ((by have := ne64 hb1; rw [mid_length _ _ _ (by omega)]; omega)))) w) w; rw [hb2] at hcall; exact hcall)) <| cR [[], [], [], [1]] <| cC (f := 54) (args := fun ρ => #[(U (nB ((mid B 32 B.length).take 32)))]) (v := fun ρ => (.bool (scB (nB ((mid B 32 B.length).take 32))))) (fun _ w => (fun w => scalarb_any (nB ((mid B 32 B.length).take 32)) (nB_M (by rw [List.length_take]; exact Nat.min_eq_left ((by have := ne64 hb1; rw [mid_length _ _ _ (by omega)]; omega)))) w) w) <| cR [[], []] <| cN) (fun _ => ?_)
      refine oC (!(scB (nB ((mid B 32 B.length).take 32)))) (fun hb3 => ?_) (fun hb3 => ?_)
      ·
        rw [hb3]
        refine sS Tryd.f26 3 [2, 3, 4] [] (fun _ => [(.agg (cU 0 ++ cU 0)), undef, (.int .i64 5)]) (fun _ => [(1, { puts := [(0, nb ρ1 0, (.cells (cU 0 ++ cU 0) 36 (0, 0)))] })]) (cR [[], [0], []] <| cN) (fun _ => ?_)
        refine ok_ret ?_
        refine mt_then_r ?_
        exact mR (v := (.tuple #[(.agg (cU 0 ++ cU 0)), (.int .i64 5)])) (fun _ hS => ⟨by rw [(sd_b2 (ne64 hb1) hb2 (not_t hb3)).1, (sd_b2 (ne64 hb1) hb2 (not_t hb3)).2.1, (sd_b2 (ne64 hb1) hb2 (not_t hb3)).2.2], hS.below⟩)
      ·
        rw [hb3]
        refine ok_skip ?_
        refine mt_then ?_
        refine sS Tryd.f26 3 [2, 3] [1, 0] (fun _ => [(.agg (cU (nB ((mid B 0 32).take 32)) ++ cU (nB ((mid B 32 B.length).take 32)))), undef, (.int .i64 0)]) (fun _ => [(1, { puts := [(0, nb ρ1 0, (.cells (cU (nB ((mid B 0 32).take 32)) ++ cU (nB ((mid B 32 B.length).take 32))) 36 (0, 0)))] })]) (cR [[1], [0], []] <| cN) (fun _ => ?_)
        refine ok_ret ?_
        exact mR (v := (.tuple #[(.agg (cU (nB ((mid B 0 32).take 32)) ++ cU (nB ((mid B 32 B.length).take 32)))), (.int .i64 0)])) (fun _ hS => ⟨by rw [(sd_c (ne64 hb1) hb2 (not_f hb3)).1, (sd_c (ne64 hb1) hb2 (not_f hb3)).2.1, (sd_c (ne64 hb1) hb2 (not_f hb3)).2.2], hS.below⟩)
    ·
      refine sS Tryd.f26 10 [2, 3, 4, 29] [] (fun _ => [(pt (nb ρ4 11)), (U (nB ((mid B 0 32).take 32))), (.bool false), (.bool true), (.bool true), undef, undef, undef, undef, (.bool true)]) (fun _ => []) (cR [[], [1]] <| cC (f := 54) (args := fun ρ => #[(U (nB ((mid B 0 32).take 32)))]) (v := fun ρ => (.bool false)) (fun _ w => by as_aux_lemma => (have hcall := (fun w => scalarb_any (nB ((mid B 0 32).take 32)) (nB_M (by rw [List.length_take]; exact Nat.min_eq_left ((by have := ne64 hb1; rw [mid_length _ _ _ (by omega)]; omega)))) w) w; rw [hb2] at hcall; exact hcall)) <| cR [[], [], [], [], [], [], []] <| cN) (fun _ => ?_)
      refine oY ?_
      refine sS Tryd.f26 3 [2, 3, 4] [] (fun _ => [(.agg (cU 0 ++ cU 0)), undef, (.int .i64 5)]) (fun _ => [(1, { puts := [(0, nb ρ1 0, (.cells (cU 0 ++ cU 0) 36 (0, 0)))] })]) (cR [[], [0], []] <| cN) (fun _ => ?_)
      refine ok_ret ?_
      refine mt_then_r ?_
      exact mR (v := (.tuple #[(.agg (cU 0 ++ cU 0)), (.int .i64 5)])) (fun _ hS => ⟨by rw [(sd_b1 (ne64 hb1) hb2).1, (sd_b1 (ne64 hb1) hb2).2.1, (sd_b1 (ne64 hb1) hb2).2.2], hS.below⟩)

theorem rdecode_any (a : Option Addr) (c : Nat) (B : List UInt8) (w0 : World) (hf0 : Bs w0 a c B) : Calls Tryd.prog 27 #[(.slice a (B).length c)] w0 (fun ε w' => ε = .returned (.tuple #[(.agg (cU (sdE B) ++ cU (sdS B))), (.int .i64 (sdX B))]) ∧ Below w0.heap.size w0 w') := by
  refine Calls.of_ok (n := 36) (F := (fun w => Bs w a c B ∧ True)) Tryd.func27 rfl rfl rfl (by simp) (hf0.pers0.and persT) ?_
  refine sS Tryd.f27 2 [0, 2, 3] [] (fun ρ => [(pt (nb ρ 0)), (.int .i64 0)]) (fun ρ => [(0, { news := [(nb ρ 0, (.cells (cU 0 ++ cU 0) 36 (0, 0)))] })]) (cR [[], []] <| cN) (fun ρ1 => ?_)
  refine ok_seq ?_
  refine sS Tryd.f27 3 [0, 2, 3, 9] [] (fun _ => [(.slice a (B).length c), (.int .i64 (((B).length : Nat) : Int)), (.bool ((((B).length : Nat) : Int) != 64))]) (fun _ => []) (cR [[], [], []] <| cN) (fun _ => ?_)
  refine oC ((((B).length : Nat) : Int) != 64) (fun hb1 => ?_) (fun hb1 => ?_)
  ·
    rw [hb1]
    refine sS Tryd.f27 3 [0, 2, 3] [] (fun _ => [(.agg (cU 0 ++ cU 0)), undef, (.int .i64 8)]) (fun _ => [(1, { puts := [(0, nb ρ1 0, (.cells (cU 0 ++ cU 0) 36 (0, 0)))] })]) (cR [[], [0], []] <| cN) (fun _ => ?_)
    refine ok_ret ?_
    refine mt_then_r ?_
    exact mR (v := (.tuple #[(.agg (cU 0 ++ cU 0)), (.int .i64 8)])) (fun _ hS => ⟨by rw [(sd_a hb1).1, (sd_a hb1).2.1, (sd_a hb1).2.2], hS.below⟩)
  ·
    rw [hb1]
    refine ok_skip ?_
    refine mt_then ?_
    refine sS Tryd.f27 2 [0, 2, 3, 4, 5] [] (fun ρ => [(pt (nb ρ 0)), (pt (nb ρ 1))]) (fun ρ => [(0, { news := [(nb ρ 0, (.cells (hB 0) 26 (0, 0)))] }), (1, { news := [(nb ρ 1, (.cells (hB 0) 26 (0, 0)))] })]) (cR [[], []] <| cN) (fun ρ4 => ?_)
    refine sDf Tryd.f27 [0, 0, 2, 7] 4 [0, 2, 3, 4, 5] [] (fun _ => [(.slice (some ⟨nb ρ4 0, 0, none⟩) (hL 0).length 32), (.slice a (B).length c), (.slice (sadr a 0 c) (mid B 0 32).length (c - 0)), (.int .i64 ((Nat.min (mid B 0 32).length 32 : Nat) : Int))]) (fun _ => [(3, { puts := [(1, nb ρ4 0, (.cells (hB (nB ((mid B 0 32).take 32))) 26 (0, 0)))] })]) (fun _ => [(2, fun w => Bs w (sadr a 0 c) (c - 0) (mid B 0 32))]) (fun _ => (fun w => Bs w a c B ∧ Bs w (sadr a 0 c) (c - 0) (mid B 0 32) ∧ True)) (fun _ => True) (fun _ _ hF hf => ⟨⟨hF.1, hf 2, trivial⟩, trivial⟩) (cR [[], []] <| cX (o_semF _ (fun _ => do pure (Next.value (← Instr.sliceAt 46 (.slice a (B).length c) none (some (.int .i64 32)) none))) (fun _ => (.slice (sadr a 0 c) (mid B 0 32).length (c - 0))) (fun _ => (by kernel_rfl)) (fun _ => (by kernel_rfl)) (fun _ _ _ hG => slice_bytes (l := 0) (k := 32) Tryd.underlying46 u8i hG.facts0.now.1 rfl (Or.inl ⟨rfl, rfl⟩) (Or.inr (congrArg (fun z => some (Value.int .i64 z)) (rfl))) ((by have := ne64 hb1; omega)) ((by have := ne64 hb1; omega))) (fun _ _ w hG => (hG.facts0).mono (fun _ hF => (hF).1.mid ((by have := ne64 hb1; omega)) ((by have := ne64 hb1; omega))))) <| cX (o_put1 _ 1 (fun _ => do pure (Next.value (← Builtin.copy_ #[46, 46] 3 #[(.slice (some ⟨nb ρ4 0, 0, none⟩) 32 32), (.slice (sadr a 0 c) (mid B 0 32).length (c - 0))]))) (fun _ => nb ρ4 0) (fun _ => (.cells (hB 0) 26 (0, 0))) (fun _ => (.cells (hB (nB ((mid B 0 32).take 32))) 26 (0, 0))) (fun _ => (.int .i64 ((Nat.min (mid B 0 32).length 32 : Nat) : Int))) (fun _ => (by kernel_rfl)) (fun _ => (by kernel_rfl)) (fun _ => (by kernel_rfl)) (fun _ => (by kernel_rfl)) (fun _ _ => trivial) (fun _ _ w hG hg => (by as_aux_lemma => (rw [← copy_hash ((by have := ne64 hb1; rw [mid_length _ _ _ (by omega)]; omega))]; exact copy_row Tryd.underlying46 u8i hg (show Bs w (sadr a 0 c) (c - 0) (mid B 0 32) from (hG.facts 2 rfl).now) rfl (by rw [hB_size]; exact Nat.le_refl _))))) <| cN) (fun _ _ => ?_)
    refine sDf Tryd.f27 [0, 0, 2, 7] 4 [2, 3, 4, 5] [] (fun _ => [(.slice (some ⟨nb ρ4 1, 0, none⟩) (hL 0).length 32), (.slice a (B).length c), (.slice (sadr a 32 c) (mid B 32 B.length).length (c - 32)), (.int .i64 ((Nat.min (mid B 32 B.length).length 32 : Nat) : Int))]) (fun _ => [(3, { puts := [(2, nb ρ4 1, (.cells (hB (nB ((mid B 32 B.length).take 32))) 26 (0, 0)))] })]) (fun _ => [(2, fun w => Bs w (sadr a 32 c) (c - 32) (mid B 32 B.length))]) (fun _ => (fun w => Bs w a c B ∧ Bs w (sadr a 0 c) (c - 0) (mid B 0 32) ∧ Bs w (sadr a 32 c) (c - 32) (mid B 32 B.length) ∧ True)) (fun _ => True) (fun _ _ hF hf => ⟨⟨hF.1, hF.2.1, hf 2, trivial⟩, trivial⟩) (cR [[], []] <| cX (o_semF _ (fun _ => do pure (Next.value (← Instr.sliceAt 46 (.slice a (B).length c) (some (.int .i64 32)) none none))) (fun _ => (.slice (sadr a 32 c) (mid B 32 B.length).length (c - 32))) (fun _ => (by kernel_rfl)) (fun _ => (by kernel_rfl)) (fun _ _ _ hG => slice_bytes (l := 32) (k := B.length) Tryd.underlying46 u8i hG.facts0.now.1 rfl (Or.inr (congrArg (fun z => some (Value.int .i64 z)) (rfl))) (Or.inl ⟨rfl, rfl⟩) ((by have := ne64 hb1; omega)) ((by have := ne64 hb1; omega))) (fun _ _ w hG => (hG.facts0).mono (fun _ hF => (hF).1.mid ((by have := ne64 hb1; omega)) ((by have := ne64 hb1; omega))))) <| cX (o_put1 _ 2 (fun _ => do pure (Next.value (← Builtin.copy_ #[46, 46] 3 #[(.slice (some ⟨nb ρ4 1, 0, none⟩) 32 32), (.slice (sadr a 32 c) (mid B 32 B.length).length (c - 32))]))) (fun _ => nb ρ4 1) (fun _ => (.cells (hB 0) 26 (0, 0))) (fun _ => (.cells (hB (nB ((mid B 32 B.length).take 32))) 26 (0, 0))) (fun _ => (.int .i64 ((Nat.min (mid B 32 B.length).length 32 : Nat) : Int))) (fun _ => (by kernel_rfl)) (fun _ => (by kernel_rfl)) (fun _ => (by kernel_rfl)) (fun _ => (by kernel_rfl)) (fun _ _ => trivial) (fun _ _ w hG hg => (by as_aux_lemma => (rw [← copy_hash ((by have := ne64 hb1; rw [mid_length _ _ _ (by omega)]; omega))]; exact copy_row Tryd.underlying46 u8i hg (show Bs w (sadr a 32 c) (c - 32) (mid B 32 B.length) from (hG.facts 2 rfl).now) rfl (by rw [hB_size]; exact Nat.le_refl _))))) <| cN) (fun _ _ => ?_)
    refine dRs [(2, (pt (nb ρ1 0))), (3, (.int .i64 0)), (4, (pt (nb ρ4 0))), (5, (pt (nb ρ4 1)))] [(nb ρ1 0, (.cells (cU 0 ++ cU 0) 36 (0, 0))), (nb ρ4 0, (.cells (hB (nB ((mid B 0 32).take 32))) 26 (0, 0))), (nb ρ4 1, (.cells (hB (nB ((mid B 32 B.length).take 32))) 26 (0, 0)))] ?_
    refine sD Tryd.f27 [0, 1, 0, 7, 15, 0, 63] 7 [2, 3, 6] [1, 0, 0, 1] (fun ρ => [(.agg (hB (nB ((mid B 0 32).take 32)))), (U (nB ((mid B 0 32).take 32))), (.agg (hB (nB ((mid B 32 B.length).take 32)))), (U (nB ((mid B 32 B.length).take 32))), (.agg (cU (nB ((mid B 0 32).take 32)) ++ cU (nB ((mid B 32 B.length).take 32)))), (pt (nb ρ 5)), undef]) (fun ρ => [(5, { news := [(nb ρ 5, (.cells (cU 0 ++ cU 0) 36 (0, 0)))] }), (6, { puts := [(43, nb ρ 5, (.cells (cU (nB ((mid B 0 32).take 32)) ++ cU (nB ((mid B 32 B.length).take 32))) 36 (0, 0)))] })]) (cR [[1]] <| cC (fun _ w => rfrombytes_any (nB ((mid B 0 32).take 32)) w) <| cR [[2]] <| cC (fun _ w => rfrombytes_any (nB ((mid B 32 B.length).take 32)) w) <| cR [[], [], [43]] <| cN) (fun ρ7 => ?_)
    refine ok_seq ?_
    rcases Bool.eq_false_or_eq_true (scB (nB ((mid B 0 32).take 32))) with hb2 | hb2
    ·
      refine sS Tryd.f27 10 [2, 3, 6, 33] [] (fun _ => [(pt (nb ρ7 5)), (U (nB ((mid B 0 32).take 32))), (.bool true), (.bool false), (.bool false), (.pointer (some ⟨nb ρ7 5, 4, none⟩)), (U (nB ((mid B 32 B.length).take 32))), (.bool (scB (nB ((mid B 32 B.length).take 32)))), (.bool (!(scB (nB ((mid B 32 B.length).take 32))))), (.bool (!(scB (nB ((mid B 32 B.length).take 32)))))]) (fun _ => []) (cR [[], [1]] <| cC (f := 59) (args := fun ρ => #[(U (nB ((mid B 0 32).take 32)))]) (v := fun ρ => (.bool true)) (fun _ w => by as_aux_lemma => (have hcall := (fun w => rsmall_any (nB ((mid B 0 32).take 32)) (nB_M (by rw [List.length_take]; exact Nat.min_eq_left ((by have := ne64 hb1; rw [mid_length _ _ _ (by omega)]; omega)))) w) w; rw [hb2] at hcall; exact hcall)) <| cR [[], [], [], [1]] <| cC (f := 59) (args := fun ρ => #[(U (nB ((mid B 32 B.length).take 32)))]) (v := fun ρ => (.bool (scB (nB ((mid B 32 B.length).take 32))))) (fun _ w => (fun w => rsmall_any (nB ((mid B 32 B.length).take 32)) (nB_M (by rw [List.length_take]; exact Nat.min_eq_left ((by have := ne64 hb1; rw [mid_length _ _ _ (by omega)]; omega)))) w) w) <| cR [[], []] <| cN) (fun _ => ?_)
      refine oC (!(scB (nB ((mid B 32 B.length).take 32)))) (fun hb3 => ?_) (fun hb3 => ?_)
      ·
        rw [hb3]
        refine sS Tryd.f27 3 [2, 3, 6] [] (fun _ => [(.agg (cU 0 ++ cU 0)), undef, (.int .i64 5)]) (fun _ => [(1, { puts := [(0, nb ρ1 0, (.cells (cU 0 ++ cU 0) 36 (0, 0)))] })]) (cR [[], [0], []] <| cN) (fun _ => ?_)
        refine ok_ret ?_
        refine mt_then_r ?_
        exact mR (v := (.tuple #[(.agg (cU 0 ++ cU 0)), (.int .i64 5)])) (fun _ hS => ⟨by rw [(sd_b2 (ne64 hb1) hb2 (not_t hb3)).1, (sd_b2 (ne64 hb1) hb2 (not_t hb3)).2.1, (sd_b2 (ne64 hb1) hb2 (not_t hb3)).2.2], hS.below⟩)
      ·
        rw [hb3]
        refine ok_skip ?_
        refine mt_then ?_
        refine sS Tryd.f27 3 [2, 3] [1, 0] (fun _ => [(.agg (cU (nB ((mid B 0 32).take 32)) ++ cU (nB ((mid B 32 B.length).take 32)))), undef, (.int .i64 0)]) (fun _ => [(1, { puts := [(0, nb ρ1 0, (.cells (cU (nB ((mid B 0 32).take 32)) ++ cU (nB ((mid B 32 B.length).take 32))) 36 (0, 0)))] })]) (cR [[1], [0], []] <| cN) (fun _ => ?_)
        refine ok_ret ?_
        exact mR (v := (.tuple #[(.agg (cU (nB ((mid B 0 32).take 32)) ++ cU (nB ((mid B 32 B.length).take 32)))), (.int .i64 0)])) (fun _ hS => ⟨by rw [(sd_c (ne64 hb1) hb2 (not_f hb3)).1, (sd_c (ne64 hb1) hb2 (not_f hb3)).2.1, (sd_c (ne64 hb1) hb2 (not_f hb3)).2.2], hS.below⟩)
    ·
      refine sS Tryd.f27 10 [2, 3, 6, 33] [] (fun _ => [(pt (nb ρ7 5)), (U (nB ((mid B 0 32).take 32))), (.bool false), (.bool true), (.bool true), undef, undef, undef, undef, (.bool true)]) (fun _ => []) (cR [[], [1]] <| cC (f := 59) (args := fun ρ => #[(U (nB ((mid B 0 32).take 32)))]) (v := fun ρ => (.bool false)) (fun _ w => by as_aux_lemma => (have hcall := (fun w => rsmall_any (nB ((mid B 0 32).take 32)) (nB_M (by rw [List.length_take]; exact Nat.min_eq_left ((by have := ne64 hb1; rw [mid_length _ _ _ (by omega)]; omega)))) w) w; rw [hb2] at hcall; exact hcall)) <| cR [[], [], [], [], [], [], []] <| cN) (fun _ => ?_)
      refine oY ?_
      refine sS Tryd.f27 3 [2, 3, 6] [] (fun _ => [(.agg (cU 0 ++ cU 0)), undef, (.int .i64 5)]) (fun _ => [(1, { puts := [(0, nb ρ1 0, (.cells (cU 0 ++ cU 0) 36 (0, 0)))] })]) (cR [[], [0], []] <| cN) (fun _ => ?_)
      refine ok_ret ?_
      refine mt_then_r ?_
      exact mR (v := (.tuple #[(.agg (cU 0 ++ cU 0)), (.int .i64 5)])) (fun _ hS => ⟨by rw [(sd_b1 (ne64 hb1) hb2).1, (sd_b1 (ne64 hb1) hb2).2.1, (sd_b1 (ne64 hb1) hb2).2.2], hS.below⟩)

theorem same6_any (a : Option Addr) (c : Nat) (B : List UInt8) (a2 : Option Addr) (c2 : Nat) (S : List UInt8) (w0 : World) (hf0 : Bs w0 a c B) (hf1 : Bs w0 a2 c2 S) : Calls Tryd.prog 28 #[(.slice a (B).length c), (.slice a2 (S).length c2)] w0 (fun ε w' => ε = .returned (.bool (decide (B = S))) ∧ Below w0.heap.size w0 w') := by
  refine Calls.of_ok (n := 10) (F := (fun w => Bs w a c B ∧ Bs w a2 c2 S ∧ True)) Tryd.func28 rfl rfl rfl (by simp) (hf0.pers0.and (hf1.pers0.and persT)) ?_
  refine sS Tryd.f28 1 [0, 1, 4] [] (fun _ => [(.bool false)]) (fun _ => []) (cR [[]] <| cN) (fun _ => ?_)
  refine sS Tryd.f28 6 [4] [] (fun _ => [(.slice a (B).length c), (.string (strB B)), (.slice a2 (S).length c2), (.string (strB S)), (.bool (decide (B = S))), (.bool (decide (B = S)))]) (fun _ => []) (cR [[]] <| cX (o_semF _ (fun _ => do pure (Next.value (← convert 46 9 (.slice a (B).length c)))) (fun _ => (.string (strB B))) (fun _ => (by kernel_rfl)) (fun _ => (by kernel_rfl)) (fun _ _ _ hG => str_bytes (xs := B) Tryd.underlying46 Tryd.underlying5 Tryd.underlying9 hG.facts0.now.1 rfl) (fun _ _ _ _ => persT)) <| cR [[]] <| cX (o_semF _ (fun _ => do pure (Next.value (← convert 46 9 (.slice a2 (S).length c2)))) (fun _ => (.string (strB S))) (fun _ => (by kernel_rfl)) (fun _ => (by kernel_rfl)) (fun _ _ _ hG => str_bytes (xs := S) Tryd.underlying46 Tryd.underlying5 Tryd.underlying9 hG.facts0.now.2.1 rfl) (fun _ _ _ _ => persT)) <| cB .eql 9 (fun _ w => eql_str B S w) <| cR [[]] <| cN) (fun _ => ?_)
  refine ok_ret ?_
  exact mR (v := (.bool (decide (B = S)))) (fun _ hS => ⟨rfl, hS.below⟩)
theorem same6_eq (a : Option Addr) (c : Nat) (B : List UInt8) (a2 : Option Addr) (c2 : Nat) (w0 : World) (h1 : Bs w0 a c B) (h2 : Bs w0 a2 c2 B) : Calls Tryd.prog 28 #[.slice a B.length c, .slice a2 B.length c2] w0 (fun ε w' => ε = .returned (.bool true) ∧ Below w0.heap.size w0 w') := (same6_any a c B a2 c2 B w0 h1 h2).mono fun ε w' ⟨h, hb⟩ => ⟨h.trans (by rw [decide_eq_true rfl]), hb⟩
end Go.Proofs.YtoibhbmcplhiaaaDoor

/-! How arguments of a law are opened: numbers of 256 bits, digests. -/
namespace Go.Proofs.YtoibhbmcplhiaaaDoor
open Go Go.ChangeShapes Go.WideShapes Go.RowKit

theorem okWide_array {P : Program} {w : World} {r : Reach} {base : Nat} {t : TypeId} {v : Value} {n : Nat} {e : TypeId} (ht : P.underlying t = some (.array n e)) (h : Value.okWide P w r base t v) : ∃ cs, v = .agg cs ∧ cs.size = P.cellsOf t := by
  simp only [Value.okWide, ht] at h
  obtain ⟨cs, h1, h2, _⟩ := h
  exact ⟨cs, h1, h2⟩
theorem bounds_of_u64 {n : Int} (h : (Lit.int .u64 n).wf = true) : Word n := by
  simp [Lit.wf, IntKind.min, IntKind.max, IntKind.signed, IntKind.bits] at h
  unfold Word; omega
theorem bounds_of_u8 {n : Int} (h : (Lit.int .u8 n).wf = true) : 0 ≤ n ∧ n < 256 := by
  simp [Lit.wf, IntKind.min, IntKind.max, IntKind.signed, IntKind.bits] at h
  omega
/-- The cells of a row of integers that was read. -/
theorem row_ints {H : Type} {enc : TypeId × Value → H} {P : Program} {w : World} {base : Nat} {spare : Nat → Bool} {held : Bool} {fuel : Nat} {t e : TypeId} {n : Nat} {k : IntKind} {cs : List Value} {x : DataW H × List MemPlace}
    (ht : P.underlying t = some (.array n e)) (he : P.underlying e = some (.int k)) (hce : P.cellsOf e = 1) (h : DataW.trod enc P w base spare held fuel t cs = some x) :
    ∀ i, i < n → ∃ z, cs[i]? = some (.int k z) ∧ (Lit.int k z).wf = true := by
  obtain ⟨xs, m, _, _, _, hl, hg⟩ := DataW.trod_array ht h
  intro i hi
  have h1 := hg i hi
  rw [hce, Nat.mul_one, List.getElem?_eq_getElem (by omega)] at h1
  obtain ⟨z, h2, _, h3⟩ := DataW.trod_int he h1
  refine ⟨z, ?_, h3⟩
  have h4 := congrArg (fun l => l[0]?) h2
  simp at h4
  exact h4
theorem open_U {H : Type} {enc : TypeId × Value → H} {w : World} {r : Reach} {base base' : Nat} {spare : Nat → Bool} {held : Bool} {v : Value} {d : DataW H} {p : List MemPlace}
    (hok : Value.okWide Tryd.prog w r base 24 v) (h : DataW.Trod enc Tryd.prog w base' spare held 24 v d p) : ∃ A, A < M ∧ v = U A := by
  obtain ⟨cs, rfl, hs⟩ := okWide_array Tryd.underlying24 hok
  have hs4 : cs.size = 4 := hs.trans (by kernel_rfl)
  obtain ⟨fuel, hf⟩ := h
  have g := row_ints Tryd.underlying24 Tryd.underlying22 (by kernel_rfl) hf
  obtain ⟨a, ga, wa⟩ := g 0 (by omega)
  obtain ⟨b, gb, wb⟩ := g 1 (by omega)
  obtain ⟨c, gc, wc⟩ := g 2 (by omega)
  obtain ⟨e, gd, wd'⟩ := g 3 (by omega)
  have Wa := bounds_of_u64 wa; have Wb := bounds_of_u64 wb; have Wc := bounds_of_u64 wc; have Wd := bounds_of_u64 wd'
  refine ⟨ofW a b c e, ofW_lt Wa Wb Wc Wd, ?_⟩
  have hcs : cs = #[.int .u64 a, .int .u64 b, .int .u64 c, .int .u64 e] := by
    simp only [Value.cells, Array.getElem?_toList] at ga gb gc gd
    apply Array.ext_getElem?
    intro i
    rcases (by omega : i = 0 ∨ i = 1 ∨ i = 2 ∨ i = 3 ∨ 4 ≤ i) with rfl | rfl | rfl | rfl | hi
    · rw [ga]; rfl
    · rw [gb]; rfl
    · rw [gc]; rfl
    · rw [gd]; rfl
    · rw [Array.getElem?_eq_none (by omega), Array.getElem?_eq_none (by simpa using hi)]
  rw [hcs]
  exact U_of_sum _ Wa Wb Wc Wd (ofW_sum Wa Wb Wc Wd)
/-- The number of a list of bytes, the highest first. -/
def ofBytes (f : Nat → Nat) : Nat → Nat
  | 0 => 0
  | n + 1 => ofBytes f n * 256 + f n
theorem ofBytes_lt (f : Nat → Nat) (hf : ∀ i, f i < 256) : ∀ n, ofBytes f n < 256 ^ n
  | 0 => by simp [ofBytes]
  | n + 1 => by
    have h := ofBytes_lt f hf n
    have := hf n
    rw [ofBytes, Nat.pow_succ]
    omega
theorem ofBytes_get (f : Nat → Nat) (hf : ∀ i, f i < 256) : ∀ n i, i < n → ofBytes f n / 256 ^ (n - 1 - i) % 256 = f i
  | 0, i, h => by omega
  | n + 1, i, h => by
    have hn := hf n
    by_cases e : i = n
    · subst e
      rw [ofBytes]; simp; omega
    · have ih := ofBytes_get f hf n i (by omega)
      have e1 : n + 1 - 1 - i = (n - 1 - i) + 1 := by omega
      rw [ofBytes, e1, Nat.pow_succ, Nat.mul_comm (256 ^ (n - 1 - i)) 256, ← Nat.div_div_eq_div_mul, show (ofBytes f n * 256 + f n) / 256 = ofBytes f n by omega]
      exact ih
theorem open_H {H : Type} {enc : TypeId × Value → H} {w : World} {r : Reach} {base base' : Nat} {spare : Nat → Bool} {held : Bool} {v : Value} {d : DataW H} {p : List MemPlace}
    (hok : Value.okWide Tryd.prog w r base 26 v) (h : DataW.Trod enc Tryd.prog w base' spare held 26 v d p) : ∃ A, A < M ∧ v = .agg (hB A) := by
  obtain ⟨cs, rfl, hs⟩ := okWide_array Tryd.underlying26 hok
  have hs4 : cs.size = 32 := hs.trans (by kernel_rfl)
  obtain ⟨fuel, hf⟩ := h
  have g := row_ints Tryd.underlying26 Tryd.underlying5 (by kernel_rfl) hf
  have g' : ∀ i, ∃ z : Nat, z < 256 ∧ (i < 32 → cs[i]? = some (.int .u8 z)) := by
    intro i
    by_cases hi : i < 32
    · obtain ⟨z, h1, h2⟩ := g i hi
      obtain ⟨b0, b1⟩ := bounds_of_u8 h2
      obtain ⟨z, rfl⟩ := Int.eq_ofNat_of_zero_le b0
      exact ⟨z, by omega, fun _ => by simpa [Value.cells] using h1⟩
    · exact ⟨0, by omega, fun h => absurd h hi⟩
  have hf1 := fun i => (Classical.choose_spec (g' i)).1
  have hf2 := fun i => (Classical.choose_spec (g' i)).2
  generalize (fun i => Classical.choose (g' i)) = f at *
  refine ⟨ofBytes (fun i => Classical.choose (g' i)) 32, ?_, ?_⟩
  · have := ofBytes_lt _ hf1 32
    rw [M_eq]; exact this
  · congr 1
    apply hB_ext hs4
    intro j hj
    rw [hf2 j hj]
    congr 2
    unfold byt
    rw [ofBytes_get _ hf1 32 j hj]
theorem laidOut : laidOutB Tryd.prog = true := by kernel_rfl
theorem own : ownKnob Tryd.prog.godebug = none := by kernel_rfl
end Go.Proofs.YtoibhbmcplhiaaaDoor

/-! How arguments of a law are opened: structs of numbers and digests. -/
namespace Go.Proofs.YtoibhbmcplhiaaaDoor
open Go Go.ChangeShapes Go.WideShapes Go.RowKit

section
variable {H : Type} {enc : TypeId × Value → H} {w : World} {base : Nat} {spare : Nat → Bool} {held : Bool} {fuel : Nat} {cs : List Value} {x : DataW H × List MemPlace}
theorem cells_U (h : DataW.trod enc Tryd.prog w base spare held fuel 24 cs = some x) : ∃ A, A < M ∧ cs = (cU A).toList := by
  have g := row_ints Tryd.underlying24 Tryd.underlying22 (by kernel_rfl) h
  obtain ⟨_, _, _, _, hl, _, _⟩ := DataW.trod_array Tryd.underlying24 h
  have hl4 : cs.length = 4 := hl.trans (by kernel_rfl)
  obtain ⟨a, ga, wa⟩ := g 0 (by omega)
  obtain ⟨b, gb, wb⟩ := g 1 (by omega)
  obtain ⟨c, gc, wc⟩ := g 2 (by omega)
  obtain ⟨e, gd, wd'⟩ := g 3 (by omega)
  have Wa := bounds_of_u64 wa; have Wb := bounds_of_u64 wb; have Wc := bounds_of_u64 wc; have Wd := bounds_of_u64 wd'
  refine ⟨ofW a b c e, ofW_lt Wa Wb Wc Wd, ?_⟩
  have hcs : cs = [.int .u64 a, .int .u64 b, .int .u64 c, .int .u64 e] := by
    match cs, hl4 with
    | [c0, c1, c2, c3], _ =>
      simp only [List.getElem?_cons_zero, List.getElem?_cons_succ, Option.some.injEq] at ga gb gc gd
      rw [ga, gb, gc, gd]
  rw [hcs]
  have hU := U_of_sum _ Wa Wb Wc Wd (ofW_sum Wa Wb Wc Wd)
  have h2 := congrArg (fun v : Value => v.cells.toList) hU
  exact h2
theorem cells_H (h : DataW.trod enc Tryd.prog w base spare held fuel 26 cs = some x) : ∃ A, A < M ∧ cs = (hB A).toList := by
  have g := row_ints Tryd.underlying26 Tryd.underlying5 (by kernel_rfl) h
  obtain ⟨_, _, _, _, hl, _, _⟩ := DataW.trod_array Tryd.underlying26 h
  have hl4 : cs.length = 32 := hl.trans (by kernel_rfl)
  have g' : ∀ i, ∃ z : Nat, z < 256 ∧ (i < 32 → cs[i]? = some (.int .u8 z)) := by
    intro i
    by_cases hi : i < 32
    · obtain ⟨z, h1, h2⟩ := g i hi
      obtain ⟨b0, b1⟩ := bounds_of_u8 h2
      obtain ⟨z, rfl⟩ := Int.eq_ofNat_of_zero_le b0
      exact ⟨z, by omega, fun _ => h1⟩
    · exact ⟨0, by omega, fun h => absurd h hi⟩
  have hf1 := fun i => (Classical.choose_spec (g' i)).1
  have hf2 := fun i => (Classical.choose_spec (g' i)).2
  refine ⟨ofBytes (fun i => Classical.choose (g' i)) 32, ?_, ?_⟩
  · have := ofBytes_lt _ hf1 32
    rw [M_eq]; exact this
  · have e : cs.toArray = hB (ofBytes (fun i => Classical.choose (g' i)) 32) := by
      apply hB_ext (by simpa using hl4)
      intro j hj
      rw [List.getElem?_toArray, hf2 j hj]
      congr 2
      unfold byt
      rw [ofBytes_get _ hf1 32 j hj]
    rw [← e]
theorem cells_int {t : TypeId} {k : IntKind} (ht : Tryd.prog.underlying t = some (.int k)) (h : DataW.trod enc Tryd.prog w base spare held fuel t cs = some x) : ∃ z, cs = [.int k z] ∧ (Lit.int k z).wf = true := by
  obtain ⟨z, h2, _, h3⟩ := DataW.trod_int ht h
  exact ⟨z, h2, h3⟩
theorem field_some {n i : Nat} {f : Field} {fs : Array Field} {xs : List (DataW H × List MemPlace)} (hl : xs.length = fs.size) (hf : fs[i]? = some f) (h : DataW.trod enc Tryd.prog w base spare held n f.type ((cs.drop f.offset).take (Tryd.prog.cellsOf f.type)) = xs[i]?) :
    ∃ y, DataW.trod enc Tryd.prog w base spare held n f.type ((cs.drop f.offset).take (Tryd.prog.cellsOf f.type)) = some y := by
  have hi : i < xs.length := by rw [hl]; exact (Array.getElem?_eq_some_iff.1 hf).1
  exact ⟨xs[i], by rw [h, List.getElem?_eq_getElem hi]⟩
end
theorem take_drop_all {α : Type} (l : List α) (a b : Nat) (h : l.length = a + b) : l = (l.drop 0).take a ++ (l.drop a).take b := by
  rw [List.drop_zero, List.take_of_length_le (i := b) (by rw [List.length_drop]; omega), List.take_append_drop]
theorem open_us {H : Type} {enc : TypeId × Value → H} {w : World} {r : Reach} {base base' : Nat} {spare : Nat → Bool} {held : Bool} {v : Value} {d : DataW H} {p : List MemPlace}
    (hok : Value.okWide Tryd.prog w r base 36 v) (h : DataW.Trod enc Tryd.prog w base' spare held 36 v d p) : ∃ E S, E < M ∧ S < M ∧ v = .agg (cU E ++ cU S) := by
  obtain ⟨fs, hu⟩ : ∃ fs, Tryd.prog.underlying 36 = some (.struct fs) := ⟨_, Tryd.underlying36⟩
  obtain ⟨cs, rfl, hs⟩ := okWide_struct hu hok
  obtain ⟨fuel, hf⟩ := h
  obtain ⟨xs, n, _, _, hl, hxl, hg⟩ := DataW.trod_struct Tryd.underlying36 hf
  obtain ⟨y0, h0⟩ := field_some hxl rfl (hg 0 _ rfl)
  obtain ⟨y1, h1⟩ := field_some hxl rfl (hg 1 _ rfl)
  obtain ⟨E, hE, e0⟩ := cells_U h0
  obtain ⟨S, hS, e1⟩ := cells_U h1
  refine ⟨E, S, hE, hS, ?_⟩
  congr 1
  apply Array.ext'
  have hlen : (Value.agg cs).cells.toList.length = 4 + 4 := hl.trans (by kernel_rfl)
  have := take_drop_all _ 4 4 hlen
  rw [show ((Value.agg cs).cells.toList.drop 0).take 4 = (cU E).toList from e0, show ((Value.agg cs).cells.toList.drop 4).take 4 = (cU S).toList from e1] at this
  exact this
end Go.Proofs.YtoibhbmcplhiaaaDoor

/-! How arguments of a law are opened: rows of bytes, strings, integers as naturals. -/
namespace Go.Proofs.YtoibhbmcplhiaaaDoor
open Go Go.ChangeShapes Go.WideShapes Go.RowKit

theorem nat_of_kind {k : IntKind} (hk : k.signed = false) {x : Int} (h : (Lit.int k x).wf = true) : ∃ n : Nat, x = (n : Int) ∧ n < 2 ^ k.bits := by
  have h0 : k.min ≤ x ∧ x ≤ k.max := by simpa [Lit.wf] using h
  have h1 : k.min = 0 := by cases k <;> first | rfl | exact absurd hk (by decide)
  have h2 : k.max = ((2 ^ k.bits : Nat) : Int) - 1 := by cases k <;> first | rfl | exact absurd hk (by decide)
  exact ⟨x.toNat, by omega, by omega⟩
theorem i64_of {x : Int} (h : (Lit.int .i64 x).wf = true) : -9223372036854775808 ≤ x ∧ x < 9223372036854775808 := by
  simp [Lit.wf, IntKind.min, IntKind.max, IntKind.signed, IntKind.bits] at h
  omega
/-- A slice of bytes that was read. -/
theorem open_bytes {H : Type} {enc : TypeId × Value → H} {w : World} {r : Reach} {base base' : Nat} {held : Bool} {v : Value} {d : DataW H} {p : List MemPlace}
    (hok : Value.okWide Tryd.prog w r base 46 v) (h : DataW.Trod enc Tryd.prog w base' (fun _ => true) held 46 v d p) (hs : ∀ elems spare, d = .slice elems spare → elems.length + spare.length ≤ 140737488351232) :
    ∃ a c xs, v = .slice a (List.length xs) c ∧ Bs w a c xs := by
  obtain ⟨a0, len, cap, rfl⟩ := okWide_slice Tryd.underlying46 hok
  obtain ⟨fuel, hf⟩ := h
  rcases open_ints Tryd.underlying46 Tryd.underlying5 (by kernel_rfl) hf with ⟨hcs, _⟩ | ⟨a, len', cap', zs, hcs, _, hle, _, hlen, hx, hcell, hwf⟩
  · simp [Value.cells] at hcs
    obtain ⟨rfl, rfl, rfl⟩ := hcs
    exact ⟨none, 0, [], rfl, Bs.nil⟩
  · simp [Value.cells] at hcs
    obtain ⟨rfl, rfl, rfl⟩ := hcs
    simp only [if_true] at hlen
    have hd := congrArg Prod.fst hx
    have hsz := hs _ _ hd
    have hsz' : zs.length ≤ 140737488351232 := by simpa [lits, hlen, hle] using hsz
    refine ⟨some a, cap, (zs.take len).map ob, ?_, ?_, ?_, ?_⟩
    · rw [List.length_map, List.length_take, Nat.min_eq_left (by omega)]
    · rw [List.length_map, List.length_take]; omega
    · rw [List.length_map, List.length_take]; omega
    · refine Or.inr ⟨a, rfl, ?_⟩
      intro i u hu
      obtain ⟨x, hx1, rfl⟩ := bs_get hu
      rw [List.getElem?_map] at hx1
      obtain ⟨z, hz, rfl⟩ := Option.map_eq_some_iff.1 hx1
      have hi : i < zs.length := by
        have := (List.getElem?_eq_some_iff.1 hz).1
        rw [List.length_take] at this
        omega
      have hzi : zs.getD i 0 = z := by
        rw [List.getElem?_take] at hz
        split at hz
        · simp [List.getD, hz]
        · exact absurd hz (by simp)
      rw [hcell i hi, hzi]
      have hm : z ∈ zs := by
        have := List.mem_of_getElem? hz
        exact List.mem_of_mem_take this
      have hw := hwf z hm
      simp [Lit.wf, IntKind.min, IntKind.max, IntKind.signed, IntKind.bits] at hw
      rw [bv_ob (by omega)]
theorem open_str {H : Type} {enc : TypeId × Value → H} {w : World} {r : Reach} {base base' : Nat} {sp : Nat → Bool} {held : Bool} {v : Value} {d : DataW H} {p : List MemPlace}
    (hok : Value.okWide Tryd.prog w r base 9 v) (h : DataW.Trod enc Tryd.prog w base' sp held 9 v d p) (hs : ∀ l, d = .lit (.string l) → l.length ≤ 140737488351232) :
    ∃ S, v = .string (strB S) ∧ S.length ≤ 140737488351232 := by
  obtain ⟨s, rfl, rfl, _, _⟩ := Go.ChangeMaps.open_string Tryd.underlying9 hok h
  exact ⟨s.data.toList, by rw [strB_self], hs _ rfl⟩
end Go.Proofs.YtoibhbmcplhiaaaDoor

/-! What the listed package variables give a walk. -/
namespace Go.Proofs.YtoibhbmcplhiaaaDoor
open Go Go.ChangeShapes Go.WideShapes Go.RowKit

def shaLaid : List (String × DataW Unit) := [("lightclient/sha.k", Rows.laid_lightclient_sha_k), ("lightclient/sha.initial", Rows.laid_lightclient_sha_initial)]
def zsK : List Int := kL.map fun (x : Nat) => (x : Int)
def zsI : List Int := [1779033703, 3144134277, 1013904242, 2773480762, 1359893119, 2600822924, 528734635, 1541459225]
theorem kb_tab {W : World} {g : Nat} {zs : List Int} {C : Array Value} (hc : ∀ i, i < zs.length → W.cell? ⟨g, i, none⟩ = some (.int .u32 (zs.getD i 0))) (hC : C = (zs.map (Value.int .u32)).toArray) : Kb W g C := by
  intro i v hv
  rw [hC, List.getElem?_toArray, List.getElem?_map] at hv
  obtain ⟨z, hz, rfl⟩ := Option.map_eq_some_iff.1 hv
  have hi := (List.getElem?_eq_some_iff.1 hz).1
  rw [hc i hi]
  simp [List.getD, hz]
theorem laid_two {W : World} (h : laidMetH Tryd.prog shaLaid W) : Kb W 1 (rowK .u32 64 kN) ∧ Kb W 0 #[.int .u32 1779033703, .int .u32 3144134277, .int .u32 1013904242, .int .u32 2773480762, .int .u32 1359893119, .int .u32 2600822924, .int .u32 528734635, .int .u32 1541459225] := by
  rw [MakeChecks.laidMetH_plain _ _ _ (by kernel_rfl)] at h
  obtain ⟨ps, ⟨g0, t0, cs0, f0, p0, q0, hg0, ht0, hv0, hd0, ⟨g1, t1, cs1, f1, p1, q1, hg1, ht1, hv1, hd1, _, _⟩, _⟩, _, _⟩ := h
  have n0 : Tryd.prog.globalNamed "lightclient/sha.k" = some 1 := by kernel_rfl
  have n1 : Tryd.prog.globalNamed "lightclient/sha.initial" = some 0 := by kernel_rfl
  obtain rfl := Option.some.inj (n0.symm.trans hg0)
  obtain rfl := Option.some.inj (n1.symm.trans hg1)
  obtain rfl := Option.some.inj ((show (Tryd.prog.globals[1]?).map (·.type) = some 86 by kernel_rfl).symm.trans ht0)
  obtain rfl := Option.some.inj ((show (Tryd.prog.globals[0]?).map (·.type) = some 76 by kernel_rfl).symm.trans ht1)
  have d0 : (Rows.laid_lightclient_sha_k : DataW Unit) = Lib.tabData .u32 zsK := by kernel_rfl
  have d1 : (Rows.laid_lightclient_sha_initial : DataW Unit) = Lib.tabData .u32 zsI := by kernel_rfl
  rw [d0] at hd0
  rw [d1] at hd1
  have c0 := Lib.cells_of_tab Tryd.underlying86 Tryd.underlying75 (by kernel_rfl) (by kernel_rfl) hd0
  have c1 := Lib.cells_of_tab Tryd.underlying76 Tryd.underlying75 (by kernel_rfl) (by kernel_rfl) hd1
  have i0 : Lib.TabIs Tryd.prog W "lightclient/sha.k" .u32 zsK := by unfold Lib.TabIs; rw [hv0, ← c0]
  have i1 : Lib.TabIs Tryd.prog W "lightclient/sha.initial" .u32 zsI := by unfold Lib.TabIs; rw [hv1, ← c1]
  exact ⟨kb_tab (fun i hi => i0.cell n0 i hi) (by kernel_rfl), kb_tab (fun i hi => i1.cell n1 i hi) (by kernel_rfl)⟩
theorem door_met (os : Os) (args : Array Value) : laidMetH Tryd.prog shaLaid ((World.doorLaid Tryd.prog 400 os).forCall (fun _ _ => 0) ⟨#[], args, []⟩).memory :=
  laidMetH_of_parts3 (fuel := 8) (laidMet_of_run' 8 (by kernel_rfl) (by kernel_rfl)) (by kernel_rfl) (by kernel_rfl)
end Go.Proofs.YtoibhbmcplhiaaaDoor
