/-
  What this statement needs, part 4: the texts of it, one behind the other.
-/
import Derived.Test.YtaebcmpbbamfpaaGreatDoorBase3
set_option maxRecDepth 100000
namespace Go.Proofs.YtaebcmpbbamfpaaGreatDoor
open Go Go.RowKit
theorem gmodulus_w  (w0 : World) : Calls Tryz.prog 118 #[] w0 (fun ε w' => ε = .returned (U pP) ∧ Below w0.heap.size w0 w') := by
 refine Calls.of_ok (n := 2) (F := (fun _ => True)) Tryz.func118 rfl rfl rfl (by simp) (persTrue (fun _ => trivial)) ?_
 refine sS Tryz.f118 1 [0] [] (fun ρ => [(pt (nb ρ 0))]) (fun ρ => [(0, (nw ρ 0 (cL (cU 0) 39)))]) (cR [[]] <| cN) (fun ρ1 => ?_)
 refine sS Tryz.f118 2 [0] [] (fun _ => [(U 115792089237316195423570985008687907853269984665640564039457584007913129603823), undef]) (fun _ => [(1, (pwt 0 (nb ρ1 0) (cL (cU 115792089237316195423570985008687907853269984665640564039457584007913129603823) 39)))]) (cR [[], [0]] <| cN) (fun _ => ?_)
 refine ok_ret ?_
 exact mR (v := (U 115792089237316195423570985008687907853269984665640564039457584007913129603823)) (fun _ hS => ⟨congrArg (fun x => Ending.returned (U x)) (by decide +kernel), hS.bel⟩)
theorem gmodulus_any (w0 : World)  : Calls Tryz.prog 118 #[] w0 (fun ε w' => ε = .returned (U pP) ∧ Below w0.heap.size w0 w') := gmodulus_w  w0
theorem gorder_w  (w0 : World) : Calls Tryz.prog 120 #[] w0 (fun ε w' => ε = .returned (U qP) ∧ Below w0.heap.size w0 w') := by
 refine Calls.of_ok (n := 2) (F := (fun _ => True)) Tryz.func120 rfl rfl rfl (by simp) (persTrue (fun _ => trivial)) ?_
 refine sS Tryz.f120 1 [0] [] (fun ρ => [(pt (nb ρ 0))]) (fun ρ => [(0, (nw ρ 0 (cL (cU 0) 39)))]) (cR [[]] <| cN) (fun ρ1 => ?_)
 refine sS Tryz.f120 2 [0] [] (fun _ => [(U 57896044618658097711785492504343953926634992332820282019728792003956564801911), undef]) (fun _ => [(1, (pwt 0 (nb ρ1 0) (cL (cU 57896044618658097711785492504343953926634992332820282019728792003956564801911) 39)))]) (cR [[], [0]] <| cN) (fun _ => ?_)
 refine ok_ret ?_
 exact mR (v := (U 57896044618658097711785492504343953926634992332820282019728792003956564801911)) (fun _ hS => ⟨congrArg (fun x => Ending.returned (U x)) (by decide +kernel), hS.bel⟩)
theorem gorder_any (w0 : World)  : Calls Tryz.prog 120 #[] w0 (fun ε w' => ε = .returned (U qP) ∧ Below w0.heap.size w0 w') := gorder_w  w0
theorem rgmodulus_w  (w0 : World) : Calls Tryz.prog 129 #[] w0 (fun ε w' => ε = .returned (U pP) ∧ Below w0.heap.size w0 w') := by
 refine Calls.of_ok (n := 10) (F := (fun _ => True)) Tryz.func129 rfl rfl rfl (by simp) (persTrue (fun _ => trivial)) ?_
 refine sS Tryz.f129 1 [0] [] (fun ρ => [(pt (nb ρ 0))]) (fun ρ => [(0, (nw ρ 0 (cL (cU 0) 39)))]) (cR [[]] <| cN) (fun ρ1 => ?_)
 refine sS Tryz.f129 9 [0, 1] [] (fun ρ => [(U 0), (U 36113), (.tuple #[(U ((0 + M - 36113) % M)), (.bool (decide (0 < 36113)))]), (.tuple #[(U ((0 + M - 36113) % M)), (.bool (decide (0 < 36113)))]), (U ((0 + M - 36113) % M)), (.bool (decide (0 < 36113))), (pt (nb ρ 6)), undef, (.bool (decide (0 < 36113)))]) (fun ρ => [(6, (nw ρ 6 (cL (cU 0) 39))), (7, (pwt 49 (nb ρ 6) (cL (cU ((0 + M - 36113) % M)) 39)))]) (cR [[]] <| cC (fun _ w => rfromuint_lit 36113 w (by decide)) <| cC (fun _ w => rsub_any 0 36113 w (by decide +kernel) (by decide +kernel)) <| cR [[], [], [], [], [49], []] <| cN) (fun _ => ?_)
 refine sS Tryz.f129 2 [0] [1, 0] (fun _ => [(U ((0 + M - 36113) % M)), undef]) (fun _ => [(1, (pwt 0 (nb ρ1 0) (cL (cU ((0 + M - 36113) % M)) 39)))]) (cR [[1], [0]] <| cN) (fun _ => ?_)
 refine ok_ret ?_
 exact mR (v := (U ((0 + M - 36113) % M))) (fun _ hS => ⟨congrArg (fun x => Ending.returned (U x)) (by decide +kernel), hS.bel⟩)
theorem rgmodulus_any (w0 : World)  : Calls Tryz.prog 129 #[] w0 (fun ε w' => ε = .returned (U pP) ∧ Below w0.heap.size w0 w') := rgmodulus_w  w0
theorem rgorder_w  (w0 : World) : Calls Tryz.prog 131 #[] w0 (fun ε w' => ε = .returned (U qP) ∧ Below w0.heap.size w0 w') := by
 refine Calls.of_ok (n := 3) (F := (fun _ => True)) Tryz.func131 rfl rfl rfl (by simp) (persTrue (fun _ => trivial)) ?_
 refine sS Tryz.f131 1 [0] [] (fun ρ => [(pt (nb ρ 0))]) (fun ρ => [(0, (nw ρ 0 (cL (cU 0) 39)))]) (cR [[]] <| cN) (fun ρ1 => ?_)
 refine sS Tryz.f131 3 [0] [] (fun _ => [(U pP), (U (shrZ pP 1)), undef]) (fun _ => [(2, (pwt 0 (nb ρ1 0) (cL (cU (shrZ pP 1)) 39)))]) (cC (fun _ w => rgmodulus_any w) <| cC (fun _ w => rshr_any pP 1 w pP_lt) <| cR [[0]] <| cN) (fun _ => ?_)
 refine ok_ret ?_
 exact mR (v := (U (shrZ pP 1))) (fun _ hS => ⟨congrArg (fun x => Ending.returned (U x)) (by decide +kernel), hS.bel⟩)
theorem rgorder_any (w0 : World)  : Calls Tryz.prog 131 #[] w0 (fun ε w' => ε = .returned (U qP) ∧ Below w0.heap.size w0 w') := rgorder_w  w0
theorem gmul_w (a : Nat) (b : Nat) (ha : a < M) (hb : b < M) (w0 : World) : Calls Tryz.prog 100 #[(U a), (U b)] w0 (fun ε w' => ε = .returned (U (mulmN a b pP)) ∧ Below w0.heap.size w0 w') := by
 refine Calls.of_ok (n := 9) (F := (fun _ => True)) Tryz.func100 rfl rfl rfl (by simp) (persTrue (fun _ => trivial)) ?_
 refine sS Tryz.f100 3 [2, 3, 4] [] (fun ρ => [(pt (nb ρ 0)), (pt (nb ρ 1)), (pt (nb ρ 2))]) (fun ρ => [(0, (nw ρ 0 (cL (cU a) 39))), (1, (nw ρ 1 (cL (cU b) 39))), (2, (nw ρ 2 (cL (cU 0) 39)))]) (cR [[], [], []] <| cN) (fun ρ1 => ?_)
 refine sD Tryz.f100 [0, 0, 0, 7, 15] 5 [4] [0, 0, 1] (fun _ => [(U a), (U b), (U pP), (U (mulmN a b pP)), undef]) (fun _ => [(4, (pwt 2 (nb ρ1 2) (cL (cU (mulmN a b pP)) 39)))]) (cR [[0], [1]] <| cC (fun _ w => gmodulus_any w) <| cC (fun _ w => mulmod_any a b pP w ha hb pP_lt) <| cR [[2]] <| cN) (fun _ => ?_)
 refine ok_ret ?_
 exact mR (v := (U (mulmN a b pP))) (fun _ hS => ⟨rfl, hS.bel⟩)
theorem gmul_any (a b : Nat) (w0 : World) (ha : a < M) (hb : b < M) : Calls Tryz.prog 100 #[(U a), (U b)] w0 (fun ε w' => ε = .returned (U (mulmN a b pP)) ∧ Below w0.heap.size w0 w') := gmul_w a b ha hb w0
theorem gexp_w (a : Nat) (e : Nat) (ha : a < M) (he : e < M) (w0 : World) : Calls Tryz.prog 119 #[(U a), (U e)] w0 (fun ε w' => ε = .returned (U (expmN a e pP)) ∧ Below w0.heap.size w0 w') := by
 refine Calls.of_ok (n := 37) (F := (fun _ => True)) Tryz.func119 rfl rfl rfl (by simp) (persTrue (fun _ => trivial)) ?_
 refine sS Tryz.f119 3 [2, 3, 4] [] (fun ρ => [(pt (nb ρ 0)), (pt (nb ρ 1)), (pt (nb ρ 2))]) (fun ρ => [(0, (nw ρ 0 (cL (cU a) 39))), (1, (nw ρ 1 (cL (cU e) 39))), (2, (nw ρ 2 (cL (cU 0) 39)))]) (cR [[], [], []] <| cN) (fun ρ1 => ?_)
 refine sS Tryz.f119 3 [2, 3, 4, 5] [] (fun ρ => [(U 1), (pt (nb ρ 1)), undef]) (fun ρ => [(1, (nw ρ 1 (cL (cU 0) 39))), (2, (pwt 11 (nb ρ 1) (cL (cU 1) 39)))]) (cC (fun _ w => fromuint_lit 1 w (by decide)) <| cR [[], [11]] <| cN) (fun ρ2 => ?_)
 refine sS Tryz.f119 3 [2, 3, 4, 5, 6] [] (fun _ => [(U e), (vn (lenN e)), (vn (lenN e))]) (fun _ => []) (cR [[1]] <| cC (fun _ w => len_any e w he) <| cR [[]] <| cN) (fun _ => ?_)
 refine ok_seq ?_
 refine sS Tryz.f119 2 [2, 3, 4, 5, 6, 12, 13] [] (fun _ => [(vn (lenN e)), (vi 0)]) (fun _ => []) (cR [[], []] <| cN) (fun _ => ?_)
 refine ok_block ?_
 refine oL (σ := Nat × Nat) (fun ⟨i, _⟩ => [(2, (pt (nb ρ1 0))), (3, (pt (nb ρ1 1))), (4, (pt (nb ρ1 2))), (5, (pt (nb ρ2 1))), (6, (vn (lenN e))), (12, (vn (lenN e))), (13, (vn i))]) (fun ⟨_, p⟩ => [(nb ρ1 0, (cL (cU a) 39)), (nb ρ1 1, (cL (cU e) 39)), (nb ρ1 2, (cL (cU 0) 39)), (nb ρ2 1, (cL (cU p) 39))]) (fun ⟨i, _⟩ => lenN e - i)
   (fun ⟨i, p⟩ => (i ≤ lenN e) ∧ (p = a ^ (e / 2 ^ (lenN e - i)) % pP)) (0, 1) (⟨Nat.zero_le _, exp_one a e⟩) [] ?_
 rintro ⟨i, p⟩ ⟨hi, hp⟩
 change Ok Tryz.prog _ _ 37 [(2, (pt (nb ρ1 0))), (3, (pt (nb ρ1 1))), (4, (pt (nb ρ1 2))), (5, (pt (nb ρ2 1))), (6, (vn (lenN e))), (12, (vn (lenN e))), (13, (vn i))] _ [(nb ρ1 0, (cL (cU a) 39)), (nb ρ1 1, (cL (cU e) 39)), (nb ρ1 2, (cL (cU 0) 39)), (nb ρ2 1, (cL (cU p) 39))] (fun _ => True)
 have hpM : p < M := gexp_lt hp
 refine sS Tryz.f119 1 [2, 3, 4, 5, 6, 12, 13, 14] [] (fun _ => [(.bool (decide (((i : Nat) : Int) < ((lenN e : Nat) : Int))))]) (fun _ => []) (cR [[]] <| cN) (fun _ => ?_)
 refine ok_seq ?_
 refine oC (decide (((i : Nat) : Int) < ((lenN e : Nat) : Int))) (fun hb1 => ?_) (fun hb1 => ?_)
 ·
  rw [hb1]
  refine ok_skip ?_
  refine mt_then ?_
  refine ok_seq ?_
  refine ok_block ?_
  refine sS Tryz.f119 2 [2, 3, 4, 5, 6, 7, 12, 13] [] (fun _ => [(vn i), (vn i)]) (fun _ => []) (cR [[], []] <| cN) (fun _ => ?_)
  refine sS Tryz.f119 5 [2, 3, 4, 5, 6, 8, 12, 13] [] (fun _ => [(vn (lenN e)), (vn (lenN e - 1)), (vn i), (vn (lenN e - 1 - i)), (vn (lenN e - 1 - i))]) (fun _ => []) (cR [[]] <| cA (v := fun ρ => (vi (IntKind.i64.wrap (((lenN e : Nat) : Int) - 1)))) (fun _ => (vn (lenN e - 1))) (fun _ => congrArg (Value.int .i64) (wrap_sub_nat (lenN e) 1 (by have h1 := yT hb1; have h2 := lenN_le e he; omega) (by have h1 := yT hb1; have h2 := lenN_le e he; omega))) <| cR [[]] <| cA (v := fun ρ => (vi (IntKind.i64.wrap (((lenN e - 1 : Nat) : Int) - ((i : Nat) : Int))))) (fun _ => (vn (lenN e - 1 - i))) (fun _ => congrArg (Value.int .i64) (wrap_sub_nat (lenN e - 1) i (by have h1 := yT hb1; have h2 := lenN_le e he; omega) (by have h1 := yT hb1; have h2 := lenN_le e he; omega))) <| cR [[]] <| cN) (fun _ => ?_)
  refine sS Tryz.f119 4 [2, 3, 4, 5, 6, 8, 12, 13] [] (fun _ => [(U p), (U p), (U (mulmN p p pP)), undef]) (fun _ => [(3, (pwt 3 (nb ρ2 1) (cL (cU (mulmN p p pP)) 39)))]) (cR [[3], [3]] <| cC (fun _ w => gmul_any p p w hpM hpM) <| cR [[3]] <| cN) (fun _ => ?_)
  refine sS Tryz.f119 9 [2, 3, 4, 5, 6, 12, 13, 31] [] (fun _ => [(vn (lenN e - 1 - i)), (vn ((lenN e - 1 - i) / 64)), (.pointer (some ⟨nb ρ1 1, (lenN e - 1 - i) / 64, none⟩)), (.int .u64 (wd e ((lenN e - 1 - i) / 64))), (vn (lenN e - 1 - i)), (vn ((lenN e - 1 - i) % 64)), (.int .u64 (shrW (wd e ((lenN e - 1 - i) / 64)) ((lenN e - 1 - i) % 64))), (.int .u64 (bits .and .u64 (shrW (wd e ((lenN e - 1 - i) / 64)) ((lenN e - 1 - i) % 64)) 1)), (.bool (bitN e (lenN e - 1 - i)))]) (fun _ => []) (cR [[]] <| cB (a := fun ρ => (vn (lenN e - 1 - i))) (b := fun ρ => (vi 64)) (v := fun ρ => (vn ((lenN e - 1 - i) / 64))) .quo 3 (fun _ w => run_quo_nat (lenN e - 1 - i) 64 ((lenN e - 1 - i) / 64) (by decide) (by have h1 := yT hb1; have h2 := lenN_le e he; omega) rfl w) <| cX (o_sem _ (fun _ => do pure (Next.value (← Instr.indexAt 39 (pt (nb ρ1 1)) (vn ((lenN e - 1 - i) / 64))))) (fun _ => (.pointer (some ⟨nb ρ1 1, (lenN e - 1 - i) / 64, none⟩))) (fun _ => by kernel_rfl) (fun _ => by kernel_rfl) (fun _ w => run_idx_nat (n := (((lenN e - 1 - i) / 64 : Nat) : Int)) (i := (lenN e - 1 - i) / 64) Tryz.underlying39 Tryz.sizeOf37 (⟨rfl, (by have h1 := yT hb1; have h2 := lenN_le e he; omega)⟩) w)) <| cX (o_ld _ 1 37 (fun _ => nb ρ1 1) (fun _ => (lenN e - 1 - i) / 64) (fun _ => (cU e)) 39 (0, 0) (fun _ => (.int .u64 (wd e ((lenN e - 1 - i) / 64)))) (fun _ => by kernel_rfl) Tryz.isAgg37 (fun _ => cU_get e ((lenN e - 1 - i) / 64) (by have h1 := yT hb1; have h2 := lenN_le e he; omega))) <| cR [[]] <| cB (a := fun ρ => (vn (lenN e - 1 - i))) (b := fun ρ => (vi 64)) (v := fun ρ => (vn ((lenN e - 1 - i) % 64))) .rem 3 (fun _ w => run_rem_nat (lenN e - 1 - i) 64 ((lenN e - 1 - i) % 64) (by decide) rfl w) <| cB (a := fun ρ => (.int .u64 (wd e ((lenN e - 1 - i) / 64)))) (b := fun ρ => (vn ((lenN e - 1 - i) % 64))) (v := fun ρ => (.int .u64 (shrW (wd e ((lenN e - 1 - i) / 64)) ((lenN e - 1 - i) % 64)))) .shr 37 (fun _ w => run_shr (wd e ((lenN e - 1 - i) / 64)) ((lenN e - 1 - i) % 64) w) <| cR [[]] <| cA (fun _ => (.bool (bitN e (lenN e - 1 - i)))) (fun _ => congrArg Value.bool (expbit e (lenN e - 1 - i))) <| cN) (fun _ => ?_)
  refine oC (bitN e (lenN e - 1 - i)) (fun hb2 => ?_) (fun hb2 => ?_)
  ·
   rw [hb2]
   refine rS Tryz.f119 4 [2, 3, 4, 5, 6, 12, 13] [] (fun _ => [(U (mulmN p p pP)), (U a), (U (mulmN (mulmN p p pP) a pP)), undef]) (fun _ => [(3, (pwt 3 (nb ρ2 1) (cL (cU (mulmN (mulmN p p pP) a pP)) 39)))]) (cR [[3], [0]] <| cC (f := 100) (args := fun ρ => #[(U (mulmN p p pP)), (U a)]) (v := fun ρ => (U (mulmN (mulmN p p pP) a pP))) (fun _ w => (fun w => gmul_any (mulmN p p pP) a w (mulmN_lt _ _ pP_lt) ha) w) <| cR [[3]] <| cN) (fun _ => ?_)
   refine mt_block_n ?_
   refine mt_then ?_
   refine rS Tryz.f119 2 [2, 3, 4, 5, 6, 12, 13] [] (fun _ => [(vn (i + 1)), (vn (i + 1))]) (fun _ => []) (cA (v := fun ρ => (vi (IntKind.i64.wrap (((i : Nat) : Int) + 1)))) (fun _ => (vn (i + 1))) (fun _ => congrArg (Value.int .i64) (wrap_add_nat i 1 (by have h1 := yT hb1; have h2 := lenN_le e he; omega))) <| cR [[]] <| cN) (fun _ => ?_)
   exact mN (i + 1, mulmN (mulmN p p pP) a pP) (by show lenN e - (i + 1) < lenN e - i; have h1 := yT hb1; have h2 := lenN_le e he; omega) (⟨by have h1 := yT hb1; have h2 := lenN_le e he; omega, by rw [exp_step1 hp (Nat.lt_trans Nat.zero_lt_one pP_pos), show lenN e - (i + 1) = (lenN e - i) - 1 by omega, ← half_odd (by have h1 := yT hb1; have h2 := lenN_le e he; omega) (by rw [show lenN e - i - 1 = lenN e - 1 - i by omega]; exact hb2)]⟩) []
  ·
   rw [hb2]
   refine ok_skip ?_
   refine mt_block_n ?_
   refine mt_then ?_
   refine rS Tryz.f119 2 [2, 3, 4, 5, 6, 12, 13] [] (fun _ => [(vn (i + 1)), (vn (i + 1))]) (fun _ => []) (cA (v := fun ρ => (vi (IntKind.i64.wrap (((i : Nat) : Int) + 1)))) (fun _ => (vn (i + 1))) (fun _ => congrArg (Value.int .i64) (wrap_add_nat i 1 (by have h1 := yT hb1; have h2 := lenN_le e he; omega))) <| cR [[]] <| cN) (fun _ => ?_)
   exact mN (i + 1, mulmN p p pP) (by show lenN e - (i + 1) < lenN e - i; have h1 := yT hb1; have h2 := lenN_le e he; omega) (⟨by have h1 := yT hb1; have h2 := lenN_le e he; omega, by rw [exp_step hp (Nat.lt_trans Nat.zero_lt_one pP_pos), show lenN e - (i + 1) = (lenN e - i) - 1 by omega, ← half_even (by have h1 := yT hb1; have h2 := lenN_le e he; omega) (by rw [show lenN e - i - 1 = lenN e - 1 - i by omega]; exact hb2)]⟩) []
 ·
  rw [hb1]
  refine ok_exit ?_
  refine mt_then_e ?_
  refine mt_then_e ?_
  refine mt_block_h ?_
  refine mt_then ?_
  refine sS Tryz.f119 2 [4] [0, 0, 1, 0] (fun _ => [(U p), undef]) (fun _ => [(1, (pwt 2 (nb ρ1 2) (cL (cU p) 39)))]) (cR [[3], [2]] <| cN) (fun _ => ?_)
  refine ok_ret ?_
  exact mR (v := (U p)) (fun _ hS => ⟨congrArg (fun x => Ending.returned (U x)) (gexp_end (i := i) (by have h1 := yF hb1; omega) hp), hS.bel⟩)
theorem gexp_any (a e : Nat) (w0 : World) (ha : a < M) (he : e < M) : Calls Tryz.prog 119 #[(U a), (U e)] w0 (fun ε w' => ε = .returned (U (expmN a e pP)) ∧ Below w0.heap.size w0 w') := gexp_w a e ha he w0
theorem rgexp_w (a : Nat) (e : Nat) (ha : a < M) (he : e < M) (w0 : World) : Calls Tryz.prog 130 #[(U a), (U e)] w0 (fun ε w' => ε = .returned (U (expmN a e pP)) ∧ Below w0.heap.size w0 w') := by
 refine Calls.of_ok (n := 9) (F := (fun _ => True)) Tryz.func130 rfl rfl rfl (by simp) (persTrue (fun _ => trivial)) ?_
 refine sS Tryz.f130 3 [2, 3, 4] [] (fun ρ => [(pt (nb ρ 0)), (pt (nb ρ 1)), (pt (nb ρ 2))]) (fun ρ => [(0, (nw ρ 0 (cL (cU a) 39))), (1, (nw ρ 1 (cL (cU e) 39))), (2, (nw ρ 2 (cL (cU 0) 39)))]) (cR [[], [], []] <| cN) (fun ρ1 => ?_)
 refine sD Tryz.f130 [0, 0, 0, 7, 15] 5 [4] [0, 0, 1] (fun _ => [(U a), (U e), (U pP), (U (expmN a e pP)), undef]) (fun _ => [(4, (pwt 2 (nb ρ1 2) (cL (cU (expmN a e pP)) 39)))]) (cR [[0], [1]] <| cC (fun _ w => rgmodulus_any w) <| cC (fun _ w => rexpmod_any a e pP w ha he pP_lt) <| cR [[2]] <| cN) (fun _ => ?_)
 refine ok_ret ?_
 exact mR (v := (U (expmN a e pP))) (fun _ hS => ⟨rfl, hS.bel⟩)
theorem rgexp_any (a e : Nat) (w0 : World) (ha : a < M) (he : e < M) : Calls Tryz.prog 130 #[(U a), (U e)] w0 (fun ε w' => ε = .returned (U (expmN a e pP)) ∧ Below w0.heap.size w0 w') := rgexp_w a e ha he w0
theorem gmember_w (a : Nat) (ha : a < M) (w0 : World) : Calls Tryz.prog 93 #[(U a)] w0 (fun ε w' => ε = .returned (.bool (memB a)) ∧ Below w0.heap.size w0 w') := by
 refine Calls.of_ok (n := 17) (F := (fun _ => True)) Tryz.func93 rfl rfl rfl (by simp) (persTrue (fun _ => trivial)) ?_
 refine sS Tryz.f93 2 [1, 2] [] (fun ρ => [(pt (nb ρ 0)), (.bool false)]) (fun ρ => [(0, (nw ρ 0 (cL (cU a) 39)))]) (cR [[], []] <| cN) (fun _ => ?_)
 refine ok_seq ?_
 rcases Bool.eq_false_or_eq_true (decide (a = 0)) with hb1 | hb1
 ·
  refine sD Tryz.f93 [0, 0, 3, 7, 15, 15, 63, 127, 255] 9 [1, 2, 11] [] (fun _ => [(U a), (U 0), (.bool true), (.bool true), undef, undef, undef, undef, (.bool true)]) (fun _ => []) (cR [[0], []] <| cB (a := fun ρ => (U a)) (b := fun ρ => (U 0)) (v := fun ρ => (.bool true)) .eql 39 (fun _ _ => (eqlU a 0 ha (by decide +kernel) _).trans (by rw [hb1]; try rfl)) <| cR [[], [], [], [], [], []] <| cN) (fun _ => ?_)
  refine oY ?_
  refine sS Tryz.f93 1 [1, 2] [] (fun _ => [(.bool false)]) (fun _ => []) (cR [[]] <| cN) (fun _ => ?_)
  refine ok_ret ?_
  refine mt_then_r ?_
  exact mR (v := (.bool false)) (fun _ hS => ⟨congrArg (fun x => Ending.returned (.bool x)) (mem_no1 hb1), hS.bel⟩)
 ·
  refine sD Tryz.f93 [0, 0, 3, 7, 15, 15, 63, 127, 255] 9 [1, 2, 11] [] (fun _ => [(U a), (U 0), (.bool false), (.bool false), (U a), (U pP), (vi (cmpN a pP)), (.bool (decide (0 ≤ (cmpN a pP)))), (.bool (decide (0 ≤ (cmpN a pP))))]) (fun _ => []) (cR [[0], []] <| cB (a := fun ρ => (U a)) (b := fun ρ => (U 0)) (v := fun ρ => (.bool false)) .eql 39 (fun _ _ => (eqlU a 0 ha (by decide +kernel) _).trans (by rw [hb1]; try rfl)) <| cR [[], [0]] <| cC (fun _ w => gmodulus_any w) <| cC (fun _ w => cmp_any a pP w ha pP_lt) <| cR [[], []] <| cN) (fun _ => ?_)
  refine oC (decide (0 ≤ (cmpN a pP))) (fun hb2 => ?_) (fun hb2 => ?_)
  ·
   rw [hb2]
   refine sS Tryz.f93 1 [1, 2] [] (fun _ => [(.bool false)]) (fun _ => []) (cR [[]] <| cN) (fun _ => ?_)
   refine ok_ret ?_
   refine mt_then_r ?_
   exact mR (v := (.bool false)) (fun _ hS => ⟨congrArg (fun x => Ending.returned (.bool x)) (mem_no2 hb2), hS.bel⟩)
  ·
   rw [hb2]
   refine ok_skip ?_
   refine mt_then ?_
   refine sD Tryz.f93 [0, 0, 3, 7, 15, 31] 6 [2] [0] (fun _ => [(U a), (U qP), (U (expmN a qP pP)), (U 1), (.bool (decide (expmN a qP pP = 1))), (.bool (decide (expmN a qP pP = 1)))]) (fun _ => []) (cR [[0]] <| cC (fun _ w => gorder_any w) <| cC (fun _ w => gexp_any a qP w ha qP_lt) <| cC (fun _ w => fromuint_lit 1 w (by decide)) <| cB (a := fun ρ => (U (expmN a qP pP))) (b := fun ρ => (U 1)) (v := fun ρ => (.bool (decide (expmN a qP pP = 1)))) .eql 39 (fun _ _ => eqlU (expmN a qP pP) 1 (expmN_lt _ _ pP_lt) (by decide +kernel) _) <| cR [[]] <| cN) (fun _ => ?_)
   refine ok_ret ?_
   exact mR (v := (.bool (decide (expmN a qP pP = 1)))) (fun _ hS => ⟨congrArg (fun x => Ending.returned (.bool x)) (mem_yes hb1 (by have := yF hb2; omega)), hS.bel⟩)
theorem gmember_any (a : Nat) (w0 : World) (ha : a < M) : Calls Tryz.prog 93 #[(U a)] w0 (fun ε w' => ε = .returned (.bool (memB a)) ∧ Below w0.heap.size w0 w') := gmember_w a ha w0
theorem gpower_w (e : Nat) (he : e < M) (w0 : World) : Calls Tryz.prog 95 #[(U e)] w0 (fun ε w' => ε = .returned (U (expmN 4 e pP)) ∧ Below w0.heap.size w0 w') := by
 refine Calls.of_ok (n := 6) (F := (fun _ => True)) Tryz.func95 rfl rfl rfl (by simp) (persTrue (fun _ => trivial)) ?_
 refine sS Tryz.f95 2 [1, 2] [] (fun ρ => [(pt (nb ρ 0)), (pt (nb ρ 1))]) (fun ρ => [(0, (nw ρ 0 (cL (cU e) 39))), (1, (nw ρ 1 (cL (cU 0) 39)))]) (cR [[], []] <| cN) (fun ρ1 => ?_)
 refine sD Tryz.f95 [0, 0, 3, 7] 4 [2] [0, 1] (fun _ => [(U 4), (U e), (U (expmN 4 e pP)), undef]) (fun _ => [(3, (pwt 1 (nb ρ1 1) (cL (cU (expmN 4 e pP)) 39)))]) (cC (fun _ w => fromuint_lit 4 w (by decide)) <| cR [[0]] <| cC (fun _ w => gexp_any 4 e w (by decide +kernel) he) <| cR [[1]] <| cN) (fun _ => ?_)
 refine ok_ret ?_
 exact mR (v := (U (expmN 4 e pP))) (fun _ hS => ⟨rfl, hS.bel⟩)
theorem gpower_any (e : Nat) (w0 : World) (he : e < M) : Calls Tryz.prog 95 #[(U e)] w0 (fun ε w' => ε = .returned (U (expmN 4 e pP)) ∧ Below w0.heap.size w0 w') := gpower_w e he w0
theorem gaddscalar_w (a : Nat) (b : Nat) (ha : a < M) (hb : b < M) (w0 : World) : Calls Tryz.prog 98 #[(U a), (U b)] w0 (fun ε w' => ε = .returned (U (addmN a b qP)) ∧ Below w0.heap.size w0 w') := by
 refine Calls.of_ok (n := 9) (F := (fun _ => True)) Tryz.func98 rfl rfl rfl (by simp) (persTrue (fun _ => trivial)) ?_
 refine sS Tryz.f98 3 [2, 3, 4] [] (fun ρ => [(pt (nb ρ 0)), (pt (nb ρ 1)), (pt (nb ρ 2))]) (fun ρ => [(0, (nw ρ 0 (cL (cU a) 39))), (1, (nw ρ 1 (cL (cU b) 39))), (2, (nw ρ 2 (cL (cU 0) 39)))]) (cR [[], [], []] <| cN) (fun ρ1 => ?_)
 refine sD Tryz.f98 [0, 0, 0, 7, 15] 5 [4] [0, 0, 1] (fun _ => [(U a), (U b), (U qP), (U (addmN a b qP)), undef]) (fun _ => [(4, (pwt 2 (nb ρ1 2) (cL (cU (addmN a b qP)) 39)))]) (cR [[0], [1]] <| cC (fun _ w => gorder_any w) <| cC (fun _ w => addmod_any a b qP w ha hb qP_lt) <| cR [[2]] <| cN) (fun _ => ?_)
 refine ok_ret ?_
 exact mR (v := (U (addmN a b qP))) (fun _ hS => ⟨rfl, hS.bel⟩)
theorem gaddscalar_any (a b : Nat) (w0 : World) (ha : a < M) (hb : b < M) : Calls Tryz.prog 98 #[(U a), (U b)] w0 (fun ε w' => ε = .returned (U (addmN a b qP)) ∧ Below w0.heap.size w0 w') := gaddscalar_w a b ha hb w0
theorem gscalar_w (h : Nat) (hh : h < M) (w0 : World) : Calls Tryz.prog 99 #[(.agg (hB h))] w0 (fun ε w' => ε = .returned (U (addmN h 0 qP)) ∧ Below w0.heap.size w0 w') := by
 refine Calls.of_ok (n := 7) (F := (fun _ => True)) Tryz.func99 rfl rfl rfl (by simp) (persTrue (fun _ => trivial)) ?_
 refine sS Tryz.f99 2 [1, 2] [] (fun ρ => [(pt (nb ρ 0)), (pt (nb ρ 1))]) (fun ρ => [(0, (nw ρ 0 (cL (hB h) 43))), (1, (nw ρ 1 (cL (cU 0) 39)))]) (cR [[], []] <| cN) (fun ρ1 => ?_)
 refine sS Tryz.f99 5 [2] [0, 1] (fun _ => [(.agg (hB h)), (U h), (U 0), (U (addmN h 0 qP)), undef]) (fun _ => [(4, (pwt 1 (nb ρ1 1) (cL (cU (addmN h 0 qP)) 39)))]) (cR [[0]] <| cC (fun _ w => frombytes_any h w) <| cR [[]] <| cC (fun _ w => gaddscalar_any h 0 w hh (by decide +kernel)) <| cR [[1]] <| cN) (fun _ => ?_)
 refine ok_ret ?_
 exact mR (v := (U (addmN h 0 qP))) (fun _ hS => ⟨rfl, hS.bel⟩)
theorem gscalar_any (h : Nat) (w0 : World) (hh : h < M) : Calls Tryz.prog 99 #[(.agg (hB h))] w0 (fun ε w' => ε = .returned (U (addmN h 0 qP)) ∧ Below w0.heap.size w0 w') := gscalar_w h hh w0
theorem rgpower_w (e : Nat) (he : e < M) (w0 : World) : Calls Tryz.prog 103 #[(U e)] w0 (fun ε w' => ε = .returned (U (expmN 4 e pP)) ∧ Below w0.heap.size w0 w') := by
 refine Calls.of_ok (n := 6) (F := (fun _ => True)) Tryz.func103 rfl rfl rfl (by simp) (persTrue (fun _ => trivial)) ?_
 refine sS Tryz.f103 2 [1, 2] [] (fun ρ => [(pt (nb ρ 0)), (pt (nb ρ 1))]) (fun ρ => [(0, (nw ρ 0 (cL (cU e) 39))), (1, (nw ρ 1 (cL (cU 0) 39)))]) (cR [[], []] <| cN) (fun ρ1 => ?_)
 refine sD Tryz.f103 [0, 0, 3, 7] 4 [2] [0, 1] (fun _ => [(U 4), (U e), (U (expmN 4 e pP)), undef]) (fun _ => [(3, (pwt 1 (nb ρ1 1) (cL (cU (expmN 4 e pP)) 39)))]) (cC (fun _ w => rfromuint_lit 4 w (by decide)) <| cR [[0]] <| cC (fun _ w => rgexp_any 4 e w (by decide +kernel) he) <| cR [[1]] <| cN) (fun _ => ?_)
 refine ok_ret ?_
 exact mR (v := (U (expmN 4 e pP))) (fun _ hS => ⟨rfl, hS.bel⟩)
theorem rgpower_any (e : Nat) (w0 : World) (he : e < M) : Calls Tryz.prog 103 #[(U e)] w0 (fun ε w' => ε = .returned (U (expmN 4 e pP)) ∧ Below w0.heap.size w0 w') := rgpower_w e he w0
theorem scalarb_any (a : Nat) (ha : a < M) (w0 : World) : Calls Tryz.prog 121 #[(U a)] w0 (fun ε w' => ε = .returned (.bool (scB a)) ∧ Below w0.heap.size w0 w') := by
 refine Calls.of_ok (n := 7) (F := (fun _ => True)) Tryz.func121 rfl rfl rfl (by simp) (persTrue (fun _ => trivial)) ?_
 refine sS Tryz.f121 2 [1, 2] [] (fun ρ => [(pt (nb ρ 0)), (.bool false)]) (fun ρ => [(0, (nw ρ 0 (cL (cU a) 39)))]) (cR [[], []] <| cN) (fun _ => ?_)
 refine sD Tryz.f121 [0, 0, 3, 7, 15] 5 [2] [0] (fun _ => [(U a), (U qP), (vi (cmpN a qP)), (.bool (decide ((cmpN a qP) < 0))), (.bool (decide ((cmpN a qP) < 0)))]) (fun _ => []) (cR [[0]] <| cC (fun _ w => gorder_any w) <| cC (fun _ w => cmp_any a qP w ha qP_lt) <| cR [[], []] <| cN) (fun _ => ?_)
 refine ok_ret ?_
 exact mR (v := (.bool (decide ((cmpN a qP) < 0)))) (fun _ hS => ⟨congrArg (fun x => Ending.returned (.bool x)) (sc_dec a), hS.bel⟩)
theorem secret_any (x : Nat) (hx : x < M) (w0 : World) : Calls Tryz.prog 94 #[(U x)] w0 (fun ε w' => ε = .returned (.bool (secB x)) ∧ Below w0.heap.size w0 w') := by
 refine Calls.of_ok (n := 10) (F := (fun _ => True)) Tryz.func94 rfl rfl rfl (by simp) (persTrue (fun _ => trivial)) ?_
 refine sS Tryz.f94 2 [1, 2] [] (fun ρ => [(pt (nb ρ 0)), (.bool false)]) (fun ρ => [(0, (nw ρ 0 (cL (cU x) 39)))]) (cR [[], []] <| cN) (fun _ => ?_)
 rcases Bool.eq_false_or_eq_true (decide (x = 0)) with hb1 | hb1
 ·
  refine sS Tryz.f94 8 [2] [0] (fun _ => [(U x), (U 0), (.bool false), (.bool false), undef, undef, (.bool false), (.bool false)]) (fun _ => []) (cR [[0], []] <| cB (a := fun ρ => (U x)) (b := fun ρ => (U 0)) (v := fun ρ => (.bool false)) .neq 39 (fun _ _ => (neqU x 0 hx (by decide +kernel) _).trans (by rw [hb1]; try rfl)) <| cR [[], [], [], [], []] <| cN) (fun _ => ?_)
  refine ok_ret ?_
  exact mR (v := (.bool false)) (fun _ hS => ⟨congrArg (fun x => Ending.returned (.bool x)) (sec_0 hb1), hS.bel⟩)
 ·
  refine sS Tryz.f94 8 [2] [0] (fun _ => [(U x), (U 0), (.bool true), (.bool true), (U x), (.bool (scB x)), (.bool (scB x)), (.bool (scB x))]) (fun _ => []) (cR [[0], []] <| cB (a := fun ρ => (U x)) (b := fun ρ => (U 0)) (v := fun ρ => (.bool true)) .neq 39 (fun _ _ => (neqU x 0 hx (by decide +kernel) _).trans (by rw [hb1]; try rfl)) <| cR [[], [0]] <| cC (fun _ w => scalarb_any x hx w) <| cR [[], []] <| cN) (fun _ => ?_)
  refine ok_ret ?_
  exact mR (v := (.bool (scB x))) (fun _ hS => ⟨congrArg (fun x => Ending.returned (.bool x)) (sec_1 hb1), hS.bel⟩)
theorem rsecret_any (x : Nat) (hx : x < M) (w0 : World) : Calls Tryz.prog 102 #[(U x)] w0 (fun ε w' => ε = .returned (.bool (secB x)) ∧ Below w0.heap.size w0 w') := by
 refine Calls.of_ok (n := 12) (F := (fun _ => True)) Tryz.func102 rfl rfl rfl (by simp) (persTrue (fun _ => trivial)) ?_
 refine sS Tryz.f102 2 [1, 2] [] (fun ρ => [(pt (nb ρ 0)), (.bool false)]) (fun ρ => [(0, (nw ρ 0 (cL (cU x) 39)))]) (cR [[], []] <| cN) (fun _ => ?_)
 rcases Bool.eq_false_or_eq_true (decide (x = 0)) with hb1 | hb1
 ·
  refine sD Tryz.f102 [0, 1, 3, 7, 15, 15, 63, 127, 255, 511] 10 [2] [0] (fun _ => [(U x), (.bool true), (.bool false), (.bool false), undef, undef, undef, undef, (.bool false), (.bool false)]) (fun _ => []) (cR [[0]] <| cC (f := 68) (args := fun ρ => #[(U x)]) (v := fun ρ => (.bool true)) (fun _ w => by as_aux_lemma => (have hcall := (fun w => rzero_any x w hx) w; rw [hb1] at hcall; exact hcall)) <| cR [[], [], [], [], [], [], [], []] <| cN) (fun _ => ?_)
  refine ok_ret ?_
  exact mR (v := (.bool false)) (fun _ hS => ⟨congrArg (fun x => Ending.returned (.bool x)) (sec_0 hb1), hS.bel⟩)
 ·
  refine sD Tryz.f102 [0, 1, 3, 7, 15, 15, 63, 127, 255, 511] 10 [2] [0] (fun _ => [(U x), (.bool false), (.bool true), (.bool true), (U x), (U qP), (vi (cmpN x qP)), (.bool (decide ((cmpN x qP) < 0))), (.bool (decide ((cmpN x qP) < 0))), (.bool (decide ((cmpN x qP) < 0)))]) (fun _ => []) (cR [[0]] <| cC (f := 68) (args := fun ρ => #[(U x)]) (v := fun ρ => (.bool false)) (fun _ w => by as_aux_lemma => (have hcall := (fun w => rzero_any x w hx) w; rw [hb1] at hcall; exact hcall)) <| cR [[], [], [0]] <| cC (fun _ w => rgorder_any w) <| cC (fun _ w => rcmp_any x qP w hx qP_lt) <| cR [[], [], []] <| cN) (fun _ => ?_)
  refine ok_ret ?_
  exact mR (v := (.bool (decide ((cmpN x qP) < 0)))) (fun _ hS => ⟨congrArg (fun x => Ending.returned (.bool x)) ((sc_dec x).trans (sec_1 hb1)), hS.bel⟩)
theorem public_any (x : Nat) (hx : x < M) (w0 : World) : Calls Tryz.prog 61 #[(U x)] w0 (fun ε w' => ε = .returned (.tuple #[(U (pubV x)), (vi (pubE x))]) ∧ Below w0.heap.size w0 w') := by
 refine Calls.of_ok (n := 10) (F := (fun _ => True)) Tryz.func61 rfl rfl rfl (by simp) (persTrue (fun _ => trivial)) ?_
 refine sS Tryz.f61 3 [1, 2, 3] [] (fun ρ => [(pt (nb ρ 0)), (pt (nb ρ 1)), (vi 0)]) (fun ρ => [(0, (nw ρ 0 (cL (cU x) 39))), (1, (nw ρ 1 (cL (cU 0) 39)))]) (cR [[], [], []] <| cN) (fun ρ1 => ?_)
 refine ok_seq ?_
 refine sS Tryz.f61 3 [1, 2, 3, 6] [] (fun _ => [(U x), (.bool (secB x)), (.bool (!(secB x)))]) (fun _ => []) (cR [[0]] <| cC (fun _ w => secret_any x hx w) <| cR [[]] <| cN) (fun _ => ?_)
 refine oC (!(secB x)) (fun hb1 => ?_) (fun hb1 => ?_)
 ·
  rw [hb1]
  refine sS Tryz.f61 3 [1, 2, 3] [] (fun _ => [(U 0), undef, (vi 60)]) (fun _ => [(1, (pwt 1 (nb ρ1 1) (cL (cU 0) 39)))]) (cR [[], [1], []] <| cN) (fun _ => ?_)
  refine ok_ret ?_
  refine mt_then_r ?_
  exact mR (v := (.tuple #[(U 0), (vi 60)])) (ps := [1,1,1,1]) (fun _ hS => ⟨by rw [(pub_no (not_t hb1)).1, (pub_no (not_t hb1)).2], hS.bel⟩)
 ·
  rw [hb1]
  refine ok_skip ?_
  refine mt_then ?_
  refine sS Tryz.f61 4 [2, 3] [0, 1] (fun _ => [(U x), (U (expmN 4 x pP)), undef, (vi 0)]) (fun _ => [(2, (pwt 1 (nb ρ1 1) (cL (cU (expmN 4 x pP)) 39)))]) (cR [[0]] <| cC (fun _ w => gpower_any x w hx) <| cR [[1], []] <| cN) (fun _ => ?_)
  refine ok_ret ?_
  exact mR (v := (.tuple #[(U (expmN 4 x pP)), (vi 0)])) (fun _ hS => ⟨by rw [(pub_yes (not_f hb1)).1, (pub_yes (not_f hb1)).2], hS.bel⟩)
theorem valid_any (p : Nat) (hp : p < M) (w0 : World) : Calls Tryz.prog 60 #[(U p)] w0 (fun ε w' => ε = .returned (.bool (valB p)) ∧ Below w0.heap.size w0 w') := by
 refine Calls.of_ok (n := 10) (F := (fun _ => True)) Tryz.func60 rfl rfl rfl (by simp) (persTrue (fun _ => trivial)) ?_
 refine sS Tryz.f60 2 [1, 2] [] (fun ρ => [(pt (nb ρ 0)), (.bool false)]) (fun ρ => [(0, (nw ρ 0 (cL (cU p) 39)))]) (cR [[], []] <| cN) (fun _ => ?_)
 rcases Bool.eq_false_or_eq_true (decide (p = 1)) with hb1 | hb1
 ·
  refine sD Tryz.f60 [0, 0, 3, 7, 15, 31, 63, 127] 8 [2] [0] (fun _ => [(U p), (U 1), (.bool false), (.bool false), undef, undef, (.bool false), (.bool false)]) (fun _ => []) (cR [[0]] <| cC (fun _ w => fromuint_lit 1 w (by decide)) <| cB (a := fun ρ => (U p)) (b := fun ρ => (U 1)) (v := fun ρ => (.bool false)) .neq 39 (fun _ _ => (neqU p 1 hp (by decide +kernel) _).trans (by rw [hb1]; try rfl)) <| cR [[], [], [], [], []] <| cN) (fun _ => ?_)
  refine ok_ret ?_
  exact mR (v := (.bool false)) (fun _ hS => ⟨congrArg (fun x => Ending.returned (.bool x)) (val_0 hb1), hS.bel⟩)
 ·
  refine sD Tryz.f60 [0, 0, 3, 7, 15, 31, 63, 127] 8 [2] [0] (fun _ => [(U p), (U 1), (.bool true), (.bool true), (U p), (.bool (memB p)), (.bool (memB p)), (.bool (memB p))]) (fun _ => []) (cR [[0]] <| cC (fun _ w => fromuint_lit 1 w (by decide)) <| cB (a := fun ρ => (U p)) (b := fun ρ => (U 1)) (v := fun ρ => (.bool true)) .neq 39 (fun _ _ => (neqU p 1 hp (by decide +kernel) _).trans (by rw [hb1]; try rfl)) <| cR [[], [0]] <| cC (fun _ w => gmember_any p w hp) <| cR [[], []] <| cN) (fun _ => ?_)
  refine ok_ret ?_
  exact mR (v := (.bool (memB p))) (fun _ hS => ⟨congrArg (fun x => Ending.returned (.bool x)) (val_1 hb1), hS.bel⟩)
theorem tweak_any (p : Nat) (t : Nat) (hp : p < M) (ht : t < M) (w0 : World) : Calls Tryz.prog 66 #[(U p), (.agg (hB t))] w0 (fun ε w' => ε = .returned (.tuple #[(U (twV p t)), (vi (twE p t))]) ∧ Below w0.heap.size w0 w') := by
 refine Calls.of_ok (n := 21) (F := (fun _ => True)) Tryz.func66 rfl rfl rfl (by simp) (persTrue (fun _ => trivial)) ?_
 refine sS Tryz.f66 4 [2, 3, 4, 5] [] (fun ρ => [(pt (nb ρ 0)), (pt (nb ρ 1)), (pt (nb ρ 2)), (vi 0)]) (fun ρ => [(0, (nw ρ 0 (cL (cU p) 39))), (1, (nw ρ 1 (cL (hB t) 43))), (2, (nw ρ 2 (cL (cU 0) 39)))]) (cR [[], [], [], []] <| cN) (fun ρ1 => ?_)
 refine ok_seq ?_
 refine sS Tryz.f66 3 [2, 3, 4, 5, 9] [] (fun _ => [(U p), (.bool (valB p)), (.bool (!(valB p)))]) (fun _ => []) (cR [[0]] <| cC (fun _ w => valid_any p hp w) <| cR [[]] <| cN) (fun _ => ?_)
 refine oC (!(valB p)) (fun hb1 => ?_) (fun hb1 => ?_)
 ·
  rw [hb1]
  refine sS Tryz.f66 3 [2, 3, 4, 5] [] (fun _ => [(U 0), undef, (vi 60)]) (fun _ => [(1, (pwt 2 (nb ρ1 2) (cL (cU 0) 39)))]) (cR [[], [2], []] <| cN) (fun _ => ?_)
  refine ok_ret ?_
  refine mt_then_r ?_
  exact mR (v := (.tuple #[(U 0), (vi 60)])) (ps := [2,2,2,2]) (fun _ hS => ⟨by rw [(tw_a (not_t hb1)).1, (tw_a (not_t hb1)).2], hS.bel⟩)
 ·
  rw [hb1]
  refine ok_skip ?_
  refine mt_then ?_
  refine sD Tryz.f66 [0, 0, 2, 6, 15, 0, 63] 7 [4, 5, 6] [0, 0, 1, 1] (fun ρ => [(U p), (.agg (hB t)), (U (addmN t 0 qP)), (U (expmN 4 (addmN t 0 qP) pP)), (U (mulmN p (expmN 4 (addmN t 0 qP) pP) pP)), (pt (nb ρ 5)), undef]) (fun ρ => [(5, (nw ρ 5 (cL (cU 0) 39))), (6, (pwt 43 (nb ρ 5) (cL (cU (mulmN p (expmN 4 (addmN t 0 qP) pP) pP)) 39)))]) (cR [[0], [1]] <| cC (fun _ w => gscalar_any t w ht) <| cC (f := 95) (args := fun ρ => #[(U (addmN t 0 qP))]) (v := fun ρ => (U (expmN 4 (addmN t 0 qP) pP))) (fun _ w => (fun w => gpower_any (addmN t 0 qP) w (addmN_lt _ _ qP_lt)) w) <| cC (f := 100) (args := fun ρ => #[(U p), (U (expmN 4 (addmN t 0 qP) pP))]) (v := fun ρ => (U (mulmN p (expmN 4 (addmN t 0 qP) pP) pP))) (fun _ w => (fun w => gmul_any p (expmN 4 (addmN t 0 qP) pP) w hp (expmN_lt _ _ pP_lt)) w) <| cR [[], [43]] <| cN) (fun _ => ?_)
  refine ok_seq ?_
  refine sD Tryz.f66 [0, 0, 3] 3 [4, 5, 6, 18] [] (fun _ => [(U (mulmN p (expmN 4 (addmN t 0 qP) pP) pP)), (U 1), (.bool (decide (mulmN p (expmN 4 (addmN t 0 qP) pP) pP = 1)))]) (fun _ => []) (cR [[1]] <| cC (fun _ w => fromuint_lit 1 w (by decide)) <| cB (a := fun ρ => (U (mulmN p (expmN 4 (addmN t 0 qP) pP) pP))) (b := fun ρ => (U 1)) (v := fun ρ => (.bool (decide (mulmN p (expmN 4 (addmN t 0 qP) pP) pP = 1)))) .eql 39 (fun _ _ => eqlU (mulmN p (expmN 4 (addmN t 0 qP) pP) pP) 1 (mulmN_lt _ _ pP_lt) (by decide +kernel) _) <| cN) (fun _ => ?_)
  refine oC (decide (mulmN p (expmN 4 (addmN t 0 qP) pP) pP = 1)) (fun hb2 => ?_) (fun hb2 => ?_)
  ·
   rw [hb2]
   refine sS Tryz.f66 3 [4, 5, 6] [] (fun _ => [(U 0), undef, (vi 5)]) (fun _ => [(1, (pwt 0 (nb ρ1 2) (cL (cU 0) 39)))]) (cR [[], [0], []] <| cN) (fun _ => ?_)
   refine ok_ret ?_
   refine mt_then_r ?_
   exact mR (v := (.tuple #[(U 0), (vi 5)])) (fun _ hS => ⟨by rw [(tw_b (t := t) (not_f hb1) (yT hb2)).1, (tw_b (t := t) (not_f hb1) (yT hb2)).2], hS.bel⟩)
  ·
   rw [hb2]
   refine ok_skip ?_
   refine mt_then ?_
   refine sS Tryz.f66 3 [4, 5] [1, 0] (fun _ => [(U (mulmN p (expmN 4 (addmN t 0 qP) pP) pP)), undef, (vi 0)]) (fun _ => [(1, (pwt 0 (nb ρ1 2) (cL (cU (mulmN p (expmN 4 (addmN t 0 qP) pP) pP)) 39)))]) (cR [[1], [0], []] <| cN) (fun _ => ?_)
   refine ok_ret ?_
   exact mR (v := (.tuple #[(U (mulmN p (expmN 4 (addmN t 0 qP) pP) pP)), (vi 0)])) (fun _ hS => ⟨by rw [(tw_c (t := t) (not_f hb1) (yF hb2)).1, (tw_c (t := t) (not_f hb1) (yF hb2)).2]; rfl, hS.bel⟩)
theorem tweaksecret_any (x : Nat) (t : Nat) (hx : x < M) (ht : t < M) (w0 : World) : Calls Tryz.prog 65 #[(U x), (.agg (hB t))] w0 (fun ε w' => ε = .returned (.tuple #[(U (tsV x t)), (vi (tsE x t))]) ∧ Below w0.heap.size w0 w') := by
 refine Calls.of_ok (n := 20) (F := (fun _ => True)) Tryz.func65 rfl rfl rfl (by simp) (persTrue (fun _ => trivial)) ?_
 refine sS Tryz.f65 4 [2, 3, 4, 5] [] (fun ρ => [(pt (nb ρ 0)), (pt (nb ρ 1)), (pt (nb ρ 2)), (vi 0)]) (fun ρ => [(0, (nw ρ 0 (cL (cU x) 39))), (1, (nw ρ 1 (cL (hB t) 43))), (2, (nw ρ 2 (cL (cU 0) 39)))]) (cR [[], [], [], []] <| cN) (fun ρ1 => ?_)
 refine ok_seq ?_
 refine sS Tryz.f65 3 [2, 3, 4, 5, 9] [] (fun _ => [(U x), (.bool (secB x)), (.bool (!(secB x)))]) (fun _ => []) (cR [[0]] <| cC (fun _ w => secret_any x hx w) <| cR [[]] <| cN) (fun _ => ?_)
 refine oC (!(secB x)) (fun hb1 => ?_) (fun hb1 => ?_)
 ·
  rw [hb1]
  refine sS Tryz.f65 3 [2, 3, 4, 5] [] (fun _ => [(U 0), undef, (vi 60)]) (fun _ => [(1, (pwt 2 (nb ρ1 2) (cL (cU 0) 39)))]) (cR [[], [2], []] <| cN) (fun _ => ?_)
  refine ok_ret ?_
  refine mt_then_r ?_
  exact mR (v := (.tuple #[(U 0), (vi 60)])) (ps := [2,2,2,2]) (fun _ hS => ⟨by rw [(ts_a (not_t hb1)).1, (ts_a (not_t hb1)).2], hS.bel⟩)
 ·
  rw [hb1]
  refine ok_skip ?_
  refine mt_then ?_
  refine sD Tryz.f65 [0, 0, 2, 7, 0, 31] 6 [4, 5, 6] [0, 0, 1, 1] (fun ρ => [(U x), (.agg (hB t)), (U (addmN t 0 qP)), (U (addmN x (addmN t 0 qP) qP)), (pt (nb ρ 4)), undef]) (fun ρ => [(4, (nw ρ 4 (cL (cU 0) 39))), (5, (pwt 35 (nb ρ 4) (cL (cU (addmN x (addmN t 0 qP) qP)) 39)))]) (cR [[0], [1]] <| cC (fun _ w => gscalar_any t w ht) <| cC (f := 98) (args := fun ρ => #[(U x), (U (addmN t 0 qP))]) (v := fun ρ => (U (addmN x (addmN t 0 qP) qP))) (fun _ w => (fun w => gaddscalar_any x (addmN t 0 qP) w hx (addmN_lt _ _ qP_lt)) w) <| cR [[], [35]] <| cN) (fun _ => ?_)
  refine ok_seq ?_
  refine sS Tryz.f65 3 [4, 5, 6, 17] [] (fun _ => [(U (addmN x (addmN t 0 qP) qP)), (U 0), (.bool (decide (addmN x (addmN t 0 qP) qP = 0)))]) (fun _ => []) (cR [[1], []] <| cB (a := fun ρ => (U (addmN x (addmN t 0 qP) qP))) (b := fun ρ => (U 0)) (v := fun ρ => (.bool (decide (addmN x (addmN t 0 qP) qP = 0)))) .eql 39 (fun _ _ => eqlU (addmN x (addmN t 0 qP) qP) 0 (addmN_lt _ _ qP_lt) (by decide +kernel) _) <| cN) (fun _ => ?_)
  refine oC (decide (addmN x (addmN t 0 qP) qP = 0)) (fun hb2 => ?_) (fun hb2 => ?_)
  ·
   rw [hb2]
   refine sS Tryz.f65 3 [4, 5, 6] [] (fun _ => [(U 0), undef, (vi 5)]) (fun _ => [(1, (pwt 0 (nb ρ1 2) (cL (cU 0) 39)))]) (cR [[], [0], []] <| cN) (fun _ => ?_)
   refine ok_ret ?_
   refine mt_then_r ?_
   exact mR (v := (.tuple #[(U 0), (vi 5)])) (fun _ hS => ⟨by rw [(ts_b (t := t) (not_f hb1) (yT hb2)).1, (ts_b (t := t) (not_f hb1) (yT hb2)).2], hS.bel⟩)
  ·
   rw [hb2]
   refine ok_skip ?_
   refine mt_then ?_
   refine sS Tryz.f65 3 [4, 5] [1, 0] (fun _ => [(U (addmN x (addmN t 0 qP) qP)), undef, (vi 0)]) (fun _ => [(1, (pwt 0 (nb ρ1 2) (cL (cU (addmN x (addmN t 0 qP) qP)) 39)))]) (cR [[1], [0], []] <| cN) (fun _ => ?_)
   refine ok_ret ?_
   exact mR (v := (.tuple #[(U (addmN x (addmN t 0 qP) qP)), (vi 0)])) (fun _ hS => ⟨by rw [(ts_c (t := t) (not_f hb1) (yF hb2)).1, (ts_c (t := t) (not_f hb1) (yF hb2)).2]; rfl, hS.bel⟩)
theorem rpublic_any (x : Nat) (hx : x < M) (w0 : World) : Calls Tryz.prog 70 #[(U x)] w0 (fun ε w' => ε = .returned (.tuple #[(U (pubV x)), (vi (pubE x))]) ∧ Below w0.heap.size w0 w') := by
 refine Calls.of_ok (n := 10) (F := (fun _ => True)) Tryz.func70 rfl rfl rfl (by simp) (persTrue (fun _ => trivial)) ?_
 refine sS Tryz.f70 3 [1, 2, 3] [] (fun ρ => [(pt (nb ρ 0)), (pt (nb ρ 1)), (vi 0)]) (fun ρ => [(0, (nw ρ 0 (cL (cU x) 39))), (1, (nw ρ 1 (cL (cU 0) 39)))]) (cR [[], [], []] <| cN) (fun ρ1 => ?_)
 refine ok_seq ?_
 refine sS Tryz.f70 3 [1, 2, 3, 6] [] (fun _ => [(U x), (.bool (secB x)), (.bool (!(secB x)))]) (fun _ => []) (cR [[0]] <| cC (fun _ w => rsecret_any x hx w) <| cR [[]] <| cN) (fun _ => ?_)
 refine oC (!(secB x)) (fun hb1 => ?_) (fun hb1 => ?_)
 ·
  rw [hb1]
  refine sS Tryz.f70 3 [1, 2, 3] [] (fun _ => [(U 0), undef, (vi 60)]) (fun _ => [(1, (pwt 1 (nb ρ1 1) (cL (cU 0) 39)))]) (cR [[], [1], []] <| cN) (fun _ => ?_)
  refine ok_ret ?_
  refine mt_then_r ?_
  exact mR (v := (.tuple #[(U 0), (vi 60)])) (ps := [1,1,1,1]) (fun _ hS => ⟨by rw [(pub_no (not_t hb1)).1, (pub_no (not_t hb1)).2], hS.bel⟩)
 ·
  rw [hb1]
  refine ok_skip ?_
  refine mt_then ?_
  refine sS Tryz.f70 4 [2, 3] [0, 1] (fun _ => [(U x), (U (expmN 4 x pP)), undef, (vi 0)]) (fun _ => [(2, (pwt 1 (nb ρ1 1) (cL (cU (expmN 4 x pP)) 39)))]) (cR [[0]] <| cC (fun _ w => rgpower_any x w hx) <| cR [[1], []] <| cN) (fun _ => ?_)
  refine ok_ret ?_
  exact mR (v := (.tuple #[(U (expmN 4 x pP)), (vi 0)])) (fun _ hS => ⟨by rw [(pub_yes (not_f hb1)).1, (pub_yes (not_f hb1)).2], hS.bel⟩)
theorem ksound_any (k : Ky) (hk : k.Ok) (w0 : World) : Calls Tryz.prog 35 #[(.agg (kY k))] w0 (fun ε w' => ε = .returned (.bool (sndB k)) ∧ Below w0.heap.size w0 w') := by
 refine Calls.of_ok (n := 37) (F := (fun _ => True)) Tryz.func35 rfl rfl rfl (by simp) (persTrue (fun _ => trivial)) ?_
 refine sS Tryz.f35 2 [1, 2] [] (fun ρ => [(pt (nb ρ 0)), (.bool false)]) (fun ρ => [(0, (nw ρ 0 (cL (kY k) 48)))]) (cR [[], []] <| cN) (fun ρ1 => ?_)
 refine ok_seq ?_
 rcases Bool.eq_false_or_eq_true (decide (k.d < 0)) with hb1 | hb1
 ·
  refine sS Tryz.f35 14 [1, 2, 18] [] (fun _ => [(.pointer (some ⟨nb ρ1 0, 40, none⟩)), (vi k.d), (.bool true), (.bool true), undef, undef, undef, (.bool true), (.bool true), undef, undef, undef, undef, (.bool true)]) (fun _ => []) (cR [[], [0]] <| cA (fun _ => (.bool true)) (fun _ => congrArg Value.bool hb1) <| cR [[], [], [], [], [], [], [], [], [], [], []] <| cN) (fun _ => ?_)
  refine oY ?_
  refine sS Tryz.f35 1 [1, 2] [] (fun _ => [(.bool false)]) (fun _ => []) (cR [[]] <| cN) (fun _ => ?_)
  refine ok_ret ?_
  refine mt_then_r ?_
  exact mR (v := (.bool false)) (fun _ hS => ⟨congrArg (fun x => Ending.returned (.bool x)) (snd_end1 hb1), hS.bel⟩)
 ·
  rcases Bool.eq_false_or_eq_true (decide (8 < k.d)) with hb2 | hb2
  ·
   refine sS Tryz.f35 14 [1, 2, 18] [] (fun _ => [(.pointer (some ⟨nb ρ1 0, 40, none⟩)), (vi k.d), (.bool false), (.bool false), (.pointer (some ⟨nb ρ1 0, 40, none⟩)), (vi k.d), (.bool true), (.bool true), (.bool true), undef, undef, undef, undef, (.bool true)]) (fun _ => []) (cR [[], [0]] <| cA (fun _ => (.bool false)) (fun _ => congrArg Value.bool hb1) <| cR [[], [], [0]] <| cA (fun _ => (.bool true)) (fun _ => congrArg Value.bool hb2) <| cR [[], [], [], [], [], [], []] <| cN) (fun _ => ?_)
   refine oY ?_
   refine sS Tryz.f35 1 [1, 2] [] (fun _ => [(.bool false)]) (fun _ => []) (cR [[]] <| cN) (fun _ => ?_)
   refine ok_ret ?_
   refine mt_then_r ?_
   exact mR (v := (.bool false)) (fun _ hS => ⟨congrArg (fun x => Ending.returned (.bool x)) (snd_end2 hb1 hb2), hS.bel⟩)
  ·
   refine sS Tryz.f35 14 [1, 2, 18] [] (fun _ => [(.pointer (some ⟨nb ρ1 0, 40, none⟩)), (vi k.d), (.bool false), (.bool false), (.pointer (some ⟨nb ρ1 0, 40, none⟩)), (vi k.d), (.bool false), (.bool false), (.bool false), (.pointer (some ⟨nb ρ1 0, 4, none⟩)), (U k.p), (.bool (valB k.p)), (.bool (!(valB k.p))), (.bool (!(valB k.p)))]) (fun _ => []) (cR [[], [0]] <| cA (fun _ => (.bool false)) (fun _ => congrArg Value.bool hb1) <| cR [[], [], [0]] <| cA (fun _ => (.bool false)) (fun _ => congrArg Value.bool hb2) <| cR [[], [], [], [0]] <| cC (fun _ w => valid_any k.p hk.p w) <| cR [[], []] <| cN) (fun _ => ?_)
   refine oC (!(valB k.p)) (fun hb3 => ?_) (fun hb3 => ?_)
   ·
    rw [hb3]
    refine sS Tryz.f35 1 [1, 2] [] (fun _ => [(.bool false)]) (fun _ => []) (cR [[]] <| cN) (fun _ => ?_)
    refine ok_ret ?_
    refine mt_then_r ?_
    exact mR (v := (.bool false)) (fun _ hS => ⟨congrArg (fun x => Ending.returned (.bool x)) (snd_end3 hb1 hb2 (not_t hb3)), hS.bel⟩)
   ·
    rw [hb3]
    refine ok_skip ?_
    refine mt_then ?_
    refine ok_seq ?_
    refine sS Tryz.f35 4 [1, 2, 22] [] (fun _ => [(pt (nb ρ1 0)), (U k.s), (U 0), (.bool (decide (k.s = 0)))]) (fun _ => []) (cR [[], [0], []] <| cB (a := fun ρ => (U k.s)) (b := fun ρ => (U 0)) (v := fun ρ => (.bool (decide (k.s = 0)))) .eql 39 (fun _ _ => eqlU k.s 0 hk.s (by decide +kernel) _) <| cN) (fun _ => ?_)
    refine oC (decide (k.s = 0)) (fun hb4 => ?_) (fun hb4 => ?_)
    ·
     rw [hb4]
     refine sS Tryz.f35 1 [1, 2] [] (fun _ => [(.bool true)]) (fun _ => []) (cR [[]] <| cN) (fun _ => ?_)
     refine ok_ret ?_
     refine mt_then_r ?_
     exact mR (v := (.bool true)) (fun _ hS => ⟨congrArg (fun x => Ending.returned (.bool x)) (snd_ok4 hb1 hb2 (not_f hb3) hb4), hS.bel⟩)
    ·
     rw [hb4]
     refine ok_skip ?_
     refine mt_then ?_
     refine sS Tryz.f35 9 [1, 2, 3, 4] [] (fun ρ => [(pt (nb ρ1 0)), (U k.s), (.tuple #[(U (pubV k.s)), (vi (pubE k.s))]), (.tuple #[(U (pubV k.s)), (vi (pubE k.s))]), (U (pubV k.s)), (vi (pubE k.s)), (pt (nb ρ 6)), undef, (vi (pubE k.s))]) (fun ρ => [(6, (nw ρ 6 (cL (cU 0) 39))), (7, (pwt 49 (nb ρ 6) (cL (cU (pubV k.s)) 39)))]) (cR [[], [0]] <| cC (fun _ w => public_any k.s hk.s w) <| cR [[], [], [], [], [49], []] <| cN) (fun _ => ?_)
     rcases Bool.eq_false_or_eq_true ((pubE k.s) == 0) with hb5 | hb5
     ·
      refine sS Tryz.f35 9 [2] [0, 0] (fun _ => [(vi (pubE k.s)), (.bool true), (.bool true), (U (pubV k.s)), (.pointer (some ⟨nb ρ1 0, 4, none⟩)), (U k.p), (.bool (decide (pubV k.s = k.p))), (.bool (decide (pubV k.s = k.p))), (.bool (decide (pubV k.s = k.p)))]) (fun _ => []) (cR [[]] <| cA (fun _ => (.bool true)) (fun _ => congrArg Value.bool hb5) <| cR [[], [1], [], [0]] <| cB (a := fun ρ => (U (pubV k.s))) (b := fun ρ => (U k.p)) (v := fun ρ => (.bool (decide (pubV k.s = k.p)))) .eql 39 (fun _ _ => eqlU (pubV k.s) k.p (pubV_lt _) hk.p _) <| cR [[], []] <| cN) (fun _ => ?_)
      refine ok_ret ?_
      exact mR (v := (.bool (decide (pubV k.s = k.p)))) (fun _ hS => ⟨congrArg (fun x => Ending.returned (.bool x)) (snd_ok5 hb1 hb2 (not_f hb3) hb4 hb5), hS.bel⟩)
     ·
      refine sS Tryz.f35 9 [2] [0, 0] (fun _ => [(vi (pubE k.s)), (.bool false), (.bool false), undef, undef, undef, undef, (.bool false), (.bool false)]) (fun _ => []) (cR [[]] <| cA (fun _ => (.bool false)) (fun _ => congrArg Value.bool hb5) <| cR [[], [], [], [], [], [], []] <| cN) (fun _ => ?_)
      refine ok_ret ?_
      exact mR (v := (.bool false)) (fun _ hS => ⟨congrArg (fun x => Ending.returned (.bool x)) (snd_end5 hb1 hb2 (not_f hb3) hb4 hb5), hS.bel⟩)
theorem run_remI {P : Program} {t : TypeId} {v : Int} {n : Nat} (hn : 0 < n) (w : World) : (binOp .rem t (.int .i64 v) (.int .i64 (n : Int))).run P w = .ok (.int .i64 (Int.tmod v (n : Int))) w := by
  simp only [binOp, Op.intDiv, ne_eq, not_true_eq_false, if_false, if_neg (by omega : ¬ (n : Int) = 0)]
  rfl
theorem mod_wrap {v : Int} {n : Nat} (hn : 0 < n ∧ n ≤ 1099511627776) (h : Int.tmod v n < 0) : IntKind.i64.wrap (Int.tmod v (n : Int) + (n : Int)) = ((dm v n : Nat) : Int) := by
  have h1 := mod_neg hn.1 h
  have h2 := dm_lt v hn.1
  rw [h1]
  exact i64N (by omega)
def Z64 (zs : List Int) : Prop := ∀ z ∈ zs, -9223372036854775808 ≤ z ∧ z < 9223372036854775808
theorem Z64.get {zs : List Int} (h : Z64 zs) (i : Nat) : -9223372036854775808 ≤ gI zs i ∧ gI zs i < 9223372036854775808 := by
  unfold gI
  by_cases hi : i < zs.length
  · rw [List.getD_eq_getElem?_getD, List.getElem?_eq_getElem hi]
    exact h _ (List.getElem_mem hi)
  · rw [List.getD_eq_getElem?_getD, List.getElem?_eq_none (by omega)]
    decide
theorem pN_wrap {zs : List Int} {j : Nat} (hl : zs.length ≤ 140737488351232) (h : ((pN zs j : Nat) : Int) < ((zs.length : Nat) : Int)) : IntKind.i64.wrap (((pN zs j : Nat) : Int) + 1) = ((pN zs (j + 1) : Nat) : Int) := by
  have h1 := pN_succ (zs := zs) (j := j) (by omega)
  rw [h1, i64N (by omega)]
  omega
theorem pN_back {zs : List Int} {j : Nat} (hl : zs.length ≤ 140737488351232) (h : ((pN zs j : Nat) : Int) < ((zs.length : Nat) : Int)) : IntKind.i64.wrap (((pN zs (j + 1) : Nat) : Int) - 1) = ((pN zs j : Nat) : Int) := by
  have h1 := pN_succ (zs := zs) (j := j) (by omega)
  rw [h1, i64N (by omega)]
  omega
theorem mod_any (v : Int) (n : Nat) (hn : 0 < n ∧ n ≤ 1099511627776) (__hv : -9223372036854775808 ≤ v ∧ v < 9223372036854775808) (w0 : World) : Calls Tryz.prog 8 #[(vi v), (vn n)] w0 (fun ε w' => ε = .returned (vn (dm v n)) ∧ Below w0.heap.size w0 w') := by
 refine Calls.of_ok (n := 15) (F := (fun _ => True)) Tryz.func8 rfl rfl rfl (by simp) (persTrue (fun _ => trivial)) ?_
 refine sS Tryz.f8 1 [0, 1, 4] [] (fun _ => [(vi 0)]) (fun _ => []) (cR [[]] <| cN) (fun _ => ?_)
 refine sS Tryz.f8 4 [1, 4, 5] [] (fun _ => [(vi v), (vn n), (vi (Int.tmod v ((n : Nat) : Int))), (vi (Int.tmod v ((n : Nat) : Int)))]) (fun _ => []) (cR [[], []] <| cB (a := fun ρ => (vi v)) (b := fun ρ => (vn n)) (v := fun ρ => (vi (Int.tmod v ((n : Nat) : Int)))) .rem 3 (fun _ w => run_remI hn.1 w) <| cR [[]] <| cN) (fun _ => ?_)
 refine ok_seq ?_
 refine sS Tryz.f8 2 [1, 4, 5, 10] [] (fun _ => [(vi (Int.tmod v ((n : Nat) : Int))), (.bool (decide ((Int.tmod v ((n : Nat) : Int)) < 0)))]) (fun _ => []) (cR [[], []] <| cN) (fun _ => ?_)
 refine oC (decide ((Int.tmod v ((n : Nat) : Int)) < 0)) (fun hb1 => ?_) (fun hb1 => ?_)
 ·
  rw [hb1]
  refine rS Tryz.f8 4 [4, 5] [] (fun _ => [(vi (Int.tmod v ((n : Nat) : Int))), (vn n), (vn (dm v n)), (vn (dm v n))]) (fun _ => []) (cR [[], []] <| cA (fun _ => (vn (dm v n))) (fun _ => congrArg (Value.int .i64) (mod_wrap hn (yT hb1))) <| cR [[]] <| cN) (fun _ => ?_)
  refine mt_then ?_
  refine sS Tryz.f8 2 [4] [] (fun _ => [(vn (dm v n)), (vn (dm v n))]) (fun _ => []) (cR [[], []] <| cN) (fun _ => ?_)
  refine ok_ret ?_
  exact mR (v := (vn (dm v n))) (fun _ hS => ⟨rfl, hS.bel⟩)
 ·
  rw [hb1]
  refine ok_skip ?_
  refine mt_then ?_
  refine sS Tryz.f8 2 [4] [] (fun _ => [(vi (Int.tmod v ((n : Nat) : Int))), (vi (Int.tmod v ((n : Nat) : Int)))]) (fun _ => []) (cR [[], []] <| cN) (fun _ => ?_)
  refine ok_ret ?_
  exact mR (v := (vi (Int.tmod v ((n : Nat) : Int)))) (fun _ hS => ⟨congrArg (fun x => Ending.returned (vi x)) (mod_pos (yF hb1)), hS.bel⟩)
theorem left_any (g : Nat) (a : Option Addr) (c : Nat) (zs : List Int) (j : Nat) (w0 : World) (hf0 : Kb w0 g #[(.slice a (zs).length c), (vn (pN zs j))]) : Calls Tryz.prog 30 #[(pt g)] w0 (fun ε w' => ε = .returned (.bool (decide (((pN zs j : Nat) : Int) < (((zs).length : Nat) : Int)))) ∧ Below w0.heap.size w0 w') := by
 refine Calls.of_ok (n := 13) (F := (fun w => Kb w g #[(.slice a (zs).length c), (vn (pN zs j))] ∧ True)) Tryz.func30 rfl rfl rfl (by simp) (hf0.pers0.and persT) ?_
 refine sS Tryz.f30 1 [0, 2] [] (fun _ => [(.bool false)]) (fun _ => []) (cR [[]] <| cN) (fun _ => ?_)
 refine sD Tryz.f30 [0, 1, 3, 7, 0, 16, 48, 112, 240, 511, 1023] 11 [2] [] (fun _ => [(pt g), (pt g), (.pointer (some ⟨g, 1, none⟩)), (vn (pN zs j)), (pt g), (pt g), (pt g), (.slice a (zs).length c), (vn (zs).length), (.bool (decide (((pN zs j : Nat) : Int) < (((zs).length : Nat) : Int)))), (.bool (decide (((pN zs j : Nat) : Int) < (((zs).length : Nat) : Int))))]) (fun _ => []) (cR [[], [], []] <| cX (qF (v := fun ρ => (vn (pN zs j))) (fun _ _ _ hG => ld_blk (off := 1) Tryz.isAgg3 (hG.facts0.now.1) (rfl))) <| cR [[], [], []] <| cX (qF (v := fun ρ => (.slice a (zs).length c)) (fun _ _ _ hG => ld_blk (off := 0) Tryz.isAgg22 (hG.facts0.now.1) (rfl))) <| cR [[], [], []] <| cN) (fun _ => ?_)
 refine ok_ret ?_
 exact mR (v := (.bool (decide (((pN zs j : Nat) : Int) < (((zs).length : Nat) : Int))))) (fun _ hS => ⟨rfl, hS.bel⟩)
theorem next_any (g : Nat) (a : Option Addr) (c : Nat) (zs : List Int) (j : Nat) (n : Nat) (hn : 0 < n ∧ n ≤ 1099511627776) (hz : Z64 zs) (w0 : World) (hK : Knows [(g, (cL #[(.slice a (zs).length c), (vn (pN zs j))] 59))] w0) (hP : Pers (fun b => b ∈ ([(g, (cL #[(.slice a (zs).length c), (vn (pN zs j))] 59))] : List (Nat × Obj)).map (·.1)) (fun w => Is w .i64 a c zs ∧ True) w0) : Calls Tryz.prog 17 #[(pt g), (vn n)] w0 (fun ε w' => ε = .returned (vn (dN zs j n)) ∧ Upd (fun b => b ∈ ([(g, (cL #[(.slice a (zs).length c), (vn (pN zs j))] 59))] : List (Nat × Obj)).map (·.1)) w0 w' ∧ Knows [(g, (cL #[(.slice a (zs).length c), (vn (pN zs (j + 1)))] 59))] w') := by
 refine Calls.of_okW (n := 28) (F := (fun w => Is w .i64 a c zs ∧ True)) [(g, (cL #[(.slice a (zs).length c), (vn (pN zs j))] 59))] Tryz.func17 rfl rfl rfl (by simp) hK (by simp) hP ?_
 have hlen : zs.length ≤ 140737488351232 := hP.now.1.max
 refine sS Tryz.f17 1 [0, 1, 4] [] (fun _ => [(vi 0)]) (fun _ => []) (cR [[]] <| cN) (fun _ => ?_)
 refine ok_seq ?_
 refine sS Tryz.f17 3 [0, 1, 4, 7] [] (fun _ => [(pt g), (.bool (decide (((pN zs j : Nat) : Int) < (((zs).length : Nat) : Int)))), (.bool (!(decide (((pN zs j : Nat) : Int) < (((zs).length : Nat) : Int)))))]) (fun _ => []) (cR [[]] <| cX (qC (fun _ _ w hG => left_any g a c zs j w (Kb.of_block (hG.kn (g := g) (o := (cL #[(.slice a (zs).length c), (vn (pN zs j))] 59)) 0)))) <| cR [[]] <| cN) (fun _ => ?_)
 refine oC (!(decide (((pN zs j : Nat) : Int) < (((zs).length : Nat) : Int)))) (fun hb1 => ?_) (fun hb1 => ?_)
 ·
  rw [hb1]
  refine sS Tryz.f17 1 [0, 1, 4] [] (fun _ => [(vi 0)]) (fun _ => []) (cR [[]] <| cN) (fun _ => ?_)
  refine ok_ret ?_
  refine mt_then_r ?_
  exact mR (v := (vi 0)) (fun _ hS => ⟨congrArg (fun x => Ending.returned (vi x)) (congrArg (fun z : Nat => (z : Int)) (dN_no (fun h => absurd (Int.ofNat_lt.2 h) (yF (not_t hb1))))), hS.below, (by rw [(pN_ge (fun h => absurd (Int.ofNat_lt.2 h) (yF (not_t hb1)))).2]; exact hS.knows [1])⟩)
 ·
  rw [hb1]
  refine ok_skip ?_
  refine mt_then ?_
  refine sS Tryz.f17 8 [0, 1, 4] [] (fun _ => [(pt g), (pt g), (.pointer (some ⟨g, 1, none⟩)), (vn (pN zs j)), (vn (pN zs (j + 1))), (pt g), (.pointer (some ⟨g, 1, none⟩)), undef]) (fun _ => [(7, (pwt 0 g (cL #[(.slice a (zs).length c), (vn (pN zs (j + 1)))] 59)))]) (cR [[], [], [], [0]] <| cA (fun _ => (vn (pN zs (j + 1)))) (fun _ => congrArg (Value.int .i64) (pN_wrap hlen (yT (not_f hb1)))) <| cR [[], [], [0]] <| cN) (fun _ => ?_)
  refine sD Tryz.f17 [0, 1, 3, 7, 0, 16, 48, 112, 240, 511, 1023, 0, 4095, 8191] 14 [4] [] (fun _ => [(pt g), (pt g), (pt g), (.slice a (zs).length c), (pt g), (pt g), (.pointer (some ⟨g, 1, none⟩)), (vn (pN zs (j + 1))), (vn (pN zs j)), (.pointer (adr a (pN zs j))), (vi (gI zs (pN zs j))), (vn n), (vn (dm (gI zs (pN zs j)) n)), (vn (dm (gI zs (pN zs j)) n))]) (fun _ => []) (cR [[], [], [], [0], [], [], [], [0]] <| cA (fun _ => (vn (pN zs j))) (fun _ => congrArg (Value.int .i64) (pN_back hlen (yT (not_f hb1)))) <| cX (qF (fun _ _ _ hG => idx_ints (k := .i64) Tryz.underlying22 Tryz.sizeOf3 hG.facts0.now.1 rfl ((show ((pN zs j : Nat) : Int) = ((pN zs j : Nat) : Int) ∧ pN zs j < (zs).length from ⟨rfl, (Int.ofNat_lt.1 (yT (not_f hb1)))⟩)).1 ((show ((pN zs j : Nat) : Int) = ((pN zs j : Nat) : Int) ∧ pN zs j < (zs).length from ⟨rfl, (Int.ofNat_lt.1 (yT (not_f hb1)))⟩)).2)) <| cX (qF (fun _ _ _ hG => ld_ints Tryz.isAgg3 hG.facts0.now.1 ((show ((pN zs j : Nat) : Int) = ((pN zs j : Nat) : Int) ∧ pN zs j < (zs).length from ⟨rfl, (Int.ofNat_lt.1 (yT (not_f hb1)))⟩)).2)) <| cR [[]] <| cC (f := 8) (args := fun ρ => #[(vi (gI zs (pN zs j))), (vn n)]) (v := fun ρ => (vn (dm (gI zs (pN zs j)) n))) (fun _ w => (fun w => mod_any (gI zs (pN zs j)) n hn (hz.get _) w) w) <| cR [[]] <| cN) (fun _ => ?_)
  refine ok_ret ?_
  exact mR (v := (vn (dm (gI zs (pN zs j)) n))) (fun _ hS => ⟨congrArg (fun x => Ending.returned (vi x)) (congrArg (fun z : Nat => (z : Int)) (dN_yes (Int.ofNat_lt.1 (yT (not_f hb1))))), hS.below, hS.knows [1]⟩)
theorem range_any (g : Nat) (a : Option Addr) (c : Nat) (zs : List Int) (j : Nat) (lo : Nat) (hi : Nat) (hlh : lo ≤ hi ∧ hi ≤ 1000000) (hz : Z64 zs) (w0 : World) (hK : Knows [(g, (cL #[(.slice a (zs).length c), (vn (pN zs j))] 59))] w0) (hP : Pers (fun b => b ∈ ([(g, (cL #[(.slice a (zs).length c), (vn (pN zs j))] 59))] : List (Nat × Obj)).map (·.1)) (fun w => Is w .i64 a c zs ∧ True) w0) : Calls Tryz.prog 20 #[(pt g), (vn lo), (vn hi)] w0 (fun ε w' => ε = .returned (vn (lo + dN zs j (hi - lo + 1))) ∧ Upd (fun b => b ∈ ([(g, (cL #[(.slice a (zs).length c), (vn (pN zs j))] 59))] : List (Nat × Obj)).map (·.1)) w0 w' ∧ Knows [(g, (cL #[(.slice a (zs).length c), (vn (pN zs (j + 1)))] 59))] w') := by
 refine Calls.of_okW (n := 15) (F := (fun w => Is w .i64 a c zs ∧ True)) [(g, (cL #[(.slice a (zs).length c), (vn (pN zs j))] 59))] Tryz.func20 rfl rfl rfl (by simp) hK (by simp) hP ?_
 refine sS Tryz.f20 1 [0, 1, 2, 6] [] (fun _ => [(vi 0)]) (fun _ => []) (cR [[]] <| cN) (fun _ => ?_)
 refine sS Tryz.f20 9 [6] [] (fun _ => [(vn lo), (pt g), (vn hi), (vn lo), (vn (hi - lo)), (vn (hi - lo + 1)), (vn (dN zs j (hi - lo + 1))), (vn (lo + dN zs j (hi - lo + 1))), (vn (lo + dN zs j (hi - lo + 1)))]) (fun _ => [(6, (pwt 0 g (cL #[(.slice a (zs).length c), (vn (pN zs (j + 1)))] 59)))]) (cR [[], [], [], []] <| cA (v := fun ρ => (vi (IntKind.i64.wrap (((hi : Nat) : Int) - ((lo : Nat) : Int))))) (fun _ => (vn (hi - lo))) (fun _ => congrArg (Value.int .i64) ((i64N (by have := hlh; omega)).trans (by have := hlh; omega))) <| cA (v := fun ρ => (vi (IntKind.i64.wrap (((hi - lo : Nat) : Int) + 1)))) (fun _ => (vn (hi - lo + 1))) (fun _ => congrArg (Value.int .i64) ((i64N (by have := hlh; omega)).trans (by omega))) <| cX (qW [0] (fun _ _ w hG hK => next_any g a c zs j (hi - lo + 1) (by have := hlh; omega) hz w hK (hG.pK [0] (fun _ hF => ⟨hF.1, trivial⟩)) )) <| cA (v := fun ρ => (vi (IntKind.i64.wrap (((lo : Nat) : Int) + ((dN zs j (hi - lo + 1) : Nat) : Int))))) (fun _ => (vn (lo + dN zs j (hi - lo + 1)))) (fun _ => congrArg (Value.int .i64) ((i64N (by have := hlh; have := dN_lt zs j (n := hi - lo + 1) (by omega); omega)).trans (by omega))) <| cR [[]] <| cN) (fun _ => ?_)
 refine ok_ret ?_
 exact mR (v := (vn (lo + dN zs j (hi - lo + 1)))) (fun _ hS => ⟨rfl, hS.below, hS.knows [1]⟩)
theorem msecret_any (g : Nat) (a : Option Addr) (c : Nat) (zs : List Int) (j : Nat) (hz : Z64 zs) (w0 : World) (hK : Knows [(g, (cL #[(.slice a (zs).length c), (vn (pN zs j))] 59))] w0) (hP : Pers (fun b => b ∈ ([(g, (cL #[(.slice a (zs).length c), (vn (pN zs j))] 59))] : List (Nat × Obj)).map (·.1)) (fun w => Is w .i64 a c zs ∧ True) w0) : Calls Tryz.prog 56 #[(pt g)] w0 (fun ε w' => ε = .returned (U (mkX zs j)) ∧ Upd (fun b => b ∈ ([(g, (cL #[(.slice a (zs).length c), (vn (pN zs j))] 59))] : List (Nat × Obj)).map (·.1)) w0 w' ∧ Knows [(g, (cL #[(.slice a (zs).length c), (vn (pN zs (j + 1)))] 59))] w') := by
 refine Calls.of_okW (n := 7) (F := (fun w => Is w .i64 a c zs ∧ True)) [(g, (cL #[(.slice a (zs).length c), (vn (pN zs j))] 59))] Tryz.func56 rfl rfl rfl (by simp) hK (by simp) hP ?_
 refine sS Tryz.f56 1 [0, 2] [] (fun ρ => [(pt (nb ρ 0))]) (fun ρ => [(0, (nw ρ 0 (cL (cU 0) 39)))]) (cR [[]] <| cN) (fun ρ1 => ?_)
 refine sS Tryz.f56 5 [2] [] (fun _ => [(pt g), (vn (1 + dN zs j 4)), (.int .u64 ((1 + dN zs j 4 : Nat) : Int)), (U (1 + dN zs j 4)), undef]) (fun _ => [(1, (pwt 0 g (cL #[(.slice a (zs).length c), (vn (pN zs (j + 1)))] 59))), (4, (pwt 1 (nb ρ1 0) (cL (cU (1 + dN zs j 4)) 39)))]) (cR [[]] <| cX (qW [0] (fun _ _ w hG hK => range_any g a c zs j 1 4 (by decide) hz w hK (hG.pK [0] (fun _ hF => ⟨hF.1, trivial⟩)) )) <| cA (v := fun ρ => (.int .u64 (IntKind.u64.wrap (((1 + dN zs j 4 : Nat) : Int))))) (fun _ => (.int .u64 ((1 + dN zs j 4 : Nat) : Int))) (fun _ => congrArg (Value.int .u64) (u64N (by have h := mkX_pos zs j; unfold mkX at h; omega))) <| cC (fun _ w => rfromuint_lit (1 + dN zs j 4) w (by have h := mkX_pos zs j; unfold mkX at h; omega)) <| cR [[1]] <| cN) (fun _ => ?_)
 refine ok_ret ?_
 exact mR (v := (U (1 + dN zs j 4))) (ps := [1,1,1,1]) (fun _ hS => ⟨rfl, hS.below, hS.knows [1, 0]⟩)
theorem mpublic_any (x : Nat) (hx : x < M) (w0 : World) : Calls Tryz.prog 57 #[(U x)] w0 (fun ε w' => ε = .returned (U (pubV x)) ∧ Below w0.heap.size w0 w') := by
 refine Calls.of_ok (n := 11) (F := (fun _ => True)) Tryz.func57 rfl rfl rfl (by simp) (persTrue (fun _ => trivial)) ?_
 refine sS Tryz.f57 2 [1, 2] [] (fun ρ => [(pt (nb ρ 0)), (pt (nb ρ 1))]) (fun ρ => [(0, (nw ρ 0 (cL (cU x) 39))), (1, (nw ρ 1 (cL (cU 0) 39)))]) (cR [[], []] <| cN) (fun ρ1 => ?_)
 refine sS Tryz.f57 8 [2, 3] [0, 1, 1] (fun ρ => [(U x), (.tuple #[(U (pubV x)), (vi (pubE x))]), (.tuple #[(U (pubV x)), (vi (pubE x))]), (U (pubV x)), (vi (pubE x)), (pt (nb ρ 5)), undef, (vi (pubE x))]) (fun ρ => [(5, (nw ρ 5 (cL (cU 0) 39))), (6, (pwt 42 (nb ρ 5) (cL (cU (pubV x)) 39)))]) (cR [[0]] <| cC (fun _ w => rpublic_any x hx w) <| cR [[], [], [], [], [42], []] <| cN) (fun _ => ?_)
 refine sS Tryz.f57 2 [2] [1, 0] (fun _ => [(U (pubV x)), undef]) (fun _ => [(1, (pwt 0 (nb ρ1 1) (cL (cU (pubV x)) 39)))]) (cR [[1], [0]] <| cN) (fun _ => ?_)
 refine ok_ret ?_
 exact mR (v := (U (pubV x))) (fun _ hS => ⟨rfl, hS.bel⟩)
theorem mhash_any (g : Nat) (a : Option Addr) (c : Nat) (zs : List Int) (j : Nat) (hz : Z64 zs) (w0 : World) (hK : Knows [(g, (cL #[(.slice a (zs).length c), (vn (pN zs j))] 59))] w0) (hP : Pers (fun b => b ∈ ([(g, (cL #[(.slice a (zs).length c), (vn (pN zs j))] 59))] : List (Nat × Obj)).map (·.1)) (fun w => Is w .i64 a c zs ∧ True) w0) : Calls Tryz.prog 18 #[(pt g)] w0 (fun ε w' => ε = .returned (.agg (hB (hs2 (dN zs j 5) (dN zs (j + 1) 7)))) ∧ Upd (fun b => b ∈ ([(g, (cL #[(.slice a (zs).length c), (vn (pN zs j))] 59))] : List (Nat × Obj)).map (·.1)) w0 w' ∧ Knows [(g, (cL #[(.slice a (zs).length c), (vn (pN zs (j + 2)))] 59))] w') := by
 refine Calls.of_okW (n := 10) (F := (fun w => Is w .i64 a c zs ∧ True)) [(g, (cL #[(.slice a (zs).length c), (vn (pN zs j))] 59))] Tryz.func18 rfl rfl rfl (by simp) hK (by simp) hP ?_
 refine sS Tryz.f18 1 [0, 2] [] (fun ρ => [(pt (nb ρ 0))]) (fun ρ => [(0, (nw ρ 0 (cL (hB 0) 43)))]) (cR [[]] <| cN) (fun ρ1 => ?_)
 refine sS Tryz.f18 8 [2] [] (fun _ => [(pt g), (vn (dN zs j 5)), (.int .u8 ((dN zs j 5 : Nat) : Int)), (pt g), (vn (dN zs (j + 1) 7)), (.int .u8 ((dN zs (j + 1) 7 : Nat) : Int)), (.agg (hB (hs2 (dN zs j 5) (dN zs (j + 1) 7)))), undef]) (fun _ => [(1, (pwt 0 g (cL #[(.slice a (zs).length c), (vn (pN zs (j + 1)))] 59))), (4, (pwt 0 g (cL #[(.slice a (zs).length c), (vn (pN zs (j + 2)))] 59))), (7, (pwt 1 (nb ρ1 0) (cL (hB (hs2 (dN zs j 5) (dN zs (j + 1) 7))) 43)))]) (cR [[]] <| cX (qW [0] (fun _ _ w hG hK => next_any g a c zs j 5 (by decide) hz w hK (hG.pK [0] (fun _ hF => ⟨hF.1, trivial⟩)) )) <| cA (v := fun ρ => (.int .u8 (IntKind.u8.wrap (((dN zs j 5 : Nat) : Int))))) (fun _ => (.int .u8 ((dN zs j 5 : Nat) : Int))) (fun _ => congrArg (Value.int .u8) (u8N (Nat.lt_of_lt_of_le (dN_lt zs j (by decide)) (by decide)))) <| cR [[]] <| cX (qW [0] (fun _ _ w hG hK => next_any g a c zs (j + 1) 7 (by decide) hz w hK (hG.pK [0] (fun _ hF => ⟨hF.1, trivial⟩)) )) <| cA (v := fun ρ => (.int .u8 (IntKind.u8.wrap (((dN zs (j + 1) 7 : Nat) : Int))))) (fun _ => (.int .u8 ((dN zs (j + 1) 7 : Nat) : Int))) (fun _ => congrArg (Value.int .u8) (u8N (Nat.lt_of_lt_of_le (dN_lt zs (j + 1) (by decide)) (by decide)))) <| cA (v := fun ρ => (.agg #[(.int .u8 ((dN zs j 5 : Nat) : Int)), (.int .u8 0), (.int .u8 0), (.int .u8 0), (.int .u8 0), (.int .u8 0), (.int .u8 0), (.int .u8 0), (.int .u8 0), (.int .u8 0), (.int .u8 0), (.int .u8 0), (.int .u8 0), (.int .u8 0), (.int .u8 0), (.int .u8 0), (.int .u8 0), (.int .u8 0), (.int .u8 0), (.int .u8 0), (.int .u8 0), (.int .u8 0), (.int .u8 0), (.int .u8 0), (.int .u8 0), (.int .u8 0), (.int .u8 0), (.int .u8 0), (.int .u8 0), (.int .u8 0), (.int .u8 0), (.int .u8 ((dN zs (j + 1) 7 : Nat) : Int))])) (fun _ => (.agg (hB (hs2 (dN zs j 5) (dN zs (j + 1) 7))))) (fun _ => hs2_agg (Nat.lt_of_lt_of_le (dN_lt zs j (by decide)) (by decide)) (Nat.lt_of_lt_of_le (dN_lt zs (j + 1) (by decide)) (by decide))) <| cR [[1]] <| cN) (fun _ => ?_)
 refine ok_ret ?_
 exact mR (v := (.agg (hB (hs2 (dN zs j 5) (dN zs (j + 1) 7))))) (ps := [1,1,1,1,1,1,1,1,1,1,1,1,1,1,1,1,1,1,1,1,1,1,1,1,1,1,1,1,1,1,1,1]) (fun _ hS => ⟨rfl, hS.below, hS.knows [1, 0]⟩)
theorem mkey_any (g : Nat) (a : Option Addr) (c : Nat) (zs : List Int) (j : Nat) (pv : Bool) (hz : Z64 zs) (w0 : World) (hK : Knows [(g, (cL #[(.slice a (zs).length c), (vn (pN zs j))] 59))] w0) (hP : Pers (fun b => b ∈ ([(g, (cL #[(.slice a (zs).length c), (vn (pN zs j))] 59))] : List (Nat × Obj)).map (·.1)) (fun w => Is w .i64 a c zs ∧ True) w0) : Calls Tryz.prog 31 #[(pt g), (.bool pv)] w0 (fun ε w' => ε = .returned (.agg (kY (mkK zs j pv))) ∧ Upd (fun b => b ∈ ([(g, (cL #[(.slice a (zs).length c), (vn (pN zs j))] 59))] : List (Nat × Obj)).map (·.1)) w0 w' ∧ Knows [(g, (cL #[(.slice a (zs).length c), (vn (pN zs (j + 6)))] 59))] w') := by
 refine Calls.of_okW (n := 26) (F := (fun w => Is w .i64 a c zs ∧ True)) [(g, (cL #[(.slice a (zs).length c), (vn (pN zs j))] 59))] Tryz.func31 rfl rfl rfl (by simp) hK (by simp) hP ?_
 refine sS Tryz.f31 1 [0, 1, 4] [] (fun ρ => [(pt (nb ρ 0))]) (fun ρ => [(0, (nw ρ 0 (cL (kC 0 0 0 0 0 0) 48)))]) (cR [[]] <| cN) (fun ρ1 => ?_)
 refine sS Tryz.f31 4 [0, 1, 4, 5] [] (fun ρ => [(pt g), (U (mkX zs j)), (pt (nb ρ 2)), undef]) (fun ρ => [(1, (pwt 0 g (cL #[(.slice a (zs).length c), (vn (pN zs (j + 1)))] 59))), (2, (nw ρ 2 (cL (cU 0) 39))), (3, (pwt 18 (nb ρ 2) (cL (cU (mkX zs j)) 39)))]) (cR [[]] <| cX (qW [0] (fun _ _ w hG hK => msecret_any g a c zs j  hz w hK (hG.pK [0] (fun _ hF => ⟨hF.1, trivial⟩)) )) <| cR [[], [18]] <| cN) (fun _ => ?_)
 refine sS Tryz.f31 15 [1, 4, 5, 6] [] (fun ρ => [(U (mkX zs j)), (U (pubV (mkX zs j))), (pt g), (.agg (hB (hs2 (dN zs (j + 1) 5) (dN zs (j + 2) 7)))), (pt g), (vn (dN zs (j + 3) 3)), (pt g), (vn (dN zs (j + 4) 5)), (.int .u32 ((dN zs (j + 4) 5 : Nat) : Int)), (pt g), (vn (dN zs (j + 5) 5)), (.int .u32 ((dN zs (j + 5) 5 : Nat) : Int)), (.agg (kC 0 (pubV (mkX zs j)) (hs2 (dN zs (j + 1) 5) (dN zs (j + 2) 7)) ((dN zs (j + 3) 3 : Nat) : Int) ((dN zs (j + 4) 5 : Nat) : Int) ((dN zs (j + 5) 5 : Nat) : Int))), (pt (nb ρ 13)), undef]) (fun ρ => [(3, (pwt 0 g (cL #[(.slice a (zs).length c), (vn (pN zs (j + 3)))] 59))), (5, (pwt 0 g (cL #[(.slice a (zs).length c), (vn (pN zs (j + 4)))] 59))), (7, (pwt 0 g (cL #[(.slice a (zs).length c), (vn (pN zs (j + 5)))] 59))), (10, (pwt 0 g (cL #[(.slice a (zs).length c), (vn (pN zs (j + 6)))] 59))), (13, (nw ρ 13 (cL (kC 0 0 0 0 0 0) 48))), (14, (pwt 107 (nb ρ 13) (cL (kC 0 (pubV (mkX zs j)) (hs2 (dN zs (j + 1) 5) (dN zs (j + 2) 7)) ((dN zs (j + 3) 3 : Nat) : Int) ((dN zs (j + 4) 5 : Nat) : Int) ((dN zs (j + 5) 5 : Nat) : Int)) 48)))]) (cR [[2]] <| cC (f := 57) (args := fun ρ => #[(U (mkX zs j))]) (v := fun ρ => (U (pubV (mkX zs j)))) (fun _ w => (fun w => mpublic_any (mkX zs j) (mkX_lt _ _) w) w) <| cR [[]] <| cX (qW [0] (fun _ _ w hG hK => mhash_any g a c zs (j + 1)  hz w hK (hG.pK [0] (fun _ hF => ⟨hF.1, trivial⟩)) )) <| cR [[]] <| cX (qW [0] (fun _ _ w hG hK => next_any g a c zs (j + 3) 3 (by decide) hz w hK (hG.pK [0] (fun _ hF => ⟨hF.1, trivial⟩)) )) <| cR [[]] <| cX (qW [0] (fun _ _ w hG hK => next_any g a c zs (j + 4) 5 (by decide) hz w hK (hG.pK [0] (fun _ hF => ⟨hF.1, trivial⟩)) )) <| cA (v := fun ρ => (.int .u32 (IntKind.u32.wrap (((dN zs (j + 4) 5 : Nat) : Int))))) (fun _ => (.int .u32 ((dN zs (j + 4) 5 : Nat) : Int))) (fun _ => congrArg (Value.int .u32) (u32N (Nat.lt_of_lt_of_le (dN_lt zs (j + 4) (by decide)) (by decide)))) <| cR [[]] <| cX (qW [0] (fun _ _ w hG hK => next_any g a c zs (j + 5) 5 (by decide) hz w hK (hG.pK [0] (fun _ hF => ⟨hF.1, trivial⟩)) )) <| cA (v := fun ρ => (.int .u32 (IntKind.u32.wrap (((dN zs (j + 5) 5 : Nat) : Int))))) (fun _ => (.int .u32 ((dN zs (j + 5) 5 : Nat) : Int))) (fun _ => congrArg (Value.int .u32) (u32N (Nat.lt_of_lt_of_le (dN_lt zs (j + 5) (by decide)) (by decide)))) <| cR [[], [], [107]] <| cN) (fun ρ3 => ?_)
 refine ok_seq ?_
 refine sS Tryz.f31 1 [4, 5, 6, 22] [] (fun _ => [(.bool pv)]) (fun _ => []) (cR [[]] <| cN) (fun _ => ?_)
 refine oC (pv) (fun hb1 => ?_) (fun hb1 => ?_)
 ·
  rw [hb1]
  refine rS Tryz.f31 3 [4, 6] [1, 1, 0, 1] (fun _ => [(U (mkX zs j)), (pt (nb ρ3 13)), undef]) (fun _ => [(2, (pwt 3 (nb ρ3 13) (cL (kC (mkX zs j) (pubV (mkX zs j)) (hs2 (dN zs (j + 1) 5) (dN zs (j + 2) 7)) ((dN zs (j + 3) 3 : Nat) : Int) ((dN zs (j + 4) 5 : Nat) : Int) ((dN zs (j + 5) 5 : Nat) : Int)) 48)))]) (cR [[2], [], [3]] <| cN) (fun _ => ?_)
  refine mt_then ?_
  refine sS Tryz.f31 2 [4] [1, 1, 0] (fun _ => [(.agg (kC (mkX zs j) (pubV (mkX zs j)) (hs2 (dN zs (j + 1) 5) (dN zs (j + 2) 7)) ((dN zs (j + 3) 3 : Nat) : Int) ((dN zs (j + 4) 5 : Nat) : Int) ((dN zs (j + 5) 5 : Nat) : Int))), undef]) (fun _ => [(1, (pwt 1 (nb ρ1 0) (cL (kC (mkX zs j) (pubV (mkX zs j)) (hs2 (dN zs (j + 1) 5) (dN zs (j + 2) 7)) ((dN zs (j + 3) 3 : Nat) : Int) ((dN zs (j + 4) 5 : Nat) : Int) ((dN zs (j + 5) 5 : Nat) : Int)) 48)))]) (cR [[2], [1]] <| cN) (fun _ => ?_)
  refine ok_ret ?_
  exact mR (v := (.agg (kC (mkX zs j) (pubV (mkX zs j)) (hs2 (dN zs (j + 1) 5) (dN zs (j + 2) 7)) ((dN zs (j + 3) 3 : Nat) : Int) ((dN zs (j + 4) 5 : Nat) : Int) ((dN zs (j + 5) 5 : Nat) : Int)))) (ps := [1,1,1,1,1,1,1,1,1,1,1,1,1,1,1,1,1,1,1,1,1,1,1,1,1,1,1,1,1,1,1,1,1,1,1,1,1,1,1,1,1,1,1]) (fun _ hS => ⟨rfl, hS.below, hS.knows [1, 0]⟩)
 ·
  rw [hb1]
  refine ok_skip ?_
  refine mt_then ?_
  refine sS Tryz.f31 2 [4] [1, 1, 0, 0] (fun _ => [(.agg (kC 0 (pubV (mkX zs j)) (hs2 (dN zs (j + 1) 5) (dN zs (j + 2) 7)) ((dN zs (j + 3) 3 : Nat) : Int) ((dN zs (j + 4) 5 : Nat) : Int) ((dN zs (j + 5) 5 : Nat) : Int))), undef]) (fun _ => [(1, (pwt 1 (nb ρ1 0) (cL (kC 0 (pubV (mkX zs j)) (hs2 (dN zs (j + 1) 5) (dN zs (j + 2) 7)) ((dN zs (j + 3) 3 : Nat) : Int) ((dN zs (j + 4) 5 : Nat) : Int) ((dN zs (j + 5) 5 : Nat) : Int)) 48)))]) (cR [[3], [1]] <| cN) (fun _ => ?_)
  refine ok_ret ?_
  exact mR (v := (.agg (kC 0 (pubV (mkX zs j)) (hs2 (dN zs (j + 1) 5) (dN zs (j + 2) 7)) ((dN zs (j + 3) 3 : Nat) : Int) ((dN zs (j + 4) 5 : Nat) : Int) ((dN zs (j + 5) 5 : Nat) : Int)))) (ps := [1,1,1,1,1,1,1,1,1,1,1,1,1,1,1,1,1,1,1,1,1,1,1,1,1,1,1,1,1,1,1,1,1,1,1,1,1,1,1,1,1,1,1]) (fun _ hS => ⟨rfl, hS.below, hS.knows [1, 0]⟩)
theorem mnew_any (a : Option Addr) (c : Nat) (zs : List Int) (w0 : World) (hf0 : Is w0 .i64 a c zs) : Calls Tryz.prog 7 #[(.slice a (zs).length c)] w0 (fun ε w' => ∃ g, ε = .returned (pt g) ∧ Below w0.heap.size w0 w' ∧ w0.heap.size ≤ g ∧ w'.heap[g]? = some (cL #[(.slice a (zs).length c), (vn (pN zs 0))] 59)) := by
 refine Calls.of_ok (n := 6) (F := (fun w => Is w .i64 a c zs ∧ True)) Tryz.func7 rfl rfl rfl (by simp) (hf0.pers0.and persT) ?_
 refine sS Tryz.f7 1 [0, 2] [] (fun _ => [(.pointer none)]) (fun _ => []) (cR [[]] <| cN) (fun _ => ?_)
 refine sS Tryz.f7 4 [2] [] (fun ρ => [(.slice a (zs).length c), (.agg #[(.slice a (zs).length c), (vi 0)]), (pt (nb ρ 2)), (pt (nb ρ 2))]) (fun ρ => [(2, (nw ρ 2 (cL #[(.slice a (zs).length c), (vi 0)] 59)))]) (cR [[], [], [], []] <| cN) (fun ρ2 => ?_)
 refine ok_ret ?_
 refine mD [(2, (pt (nb ρ2 2)))] [(nb ρ2 2, (cL #[(.slice a (zs).length c), (vi 0)] 59))] ?_
 exact mR (v := (pt (nb ρ2 2))) (fun _ hS => ⟨nb ρ2 2, rfl, hS.bel, (hS.newb (.head _)).1, (hS.newb (.head _)).2.trans (by rw [pN_zero]; rfl)⟩)
def ptn (zs : List Int) (j : Nat) : Nat := dN zs (j + 8) 2
def ptP (zs : List Int) (j : Nat) : List Nat := (List.range (ptn zs j)).map fun m => dN zs (j + 9 + m) 4
theorem ptn_0 {zs : List Int} {j : Nat} (h : decide (0 < ((dN zs (j + 8) 2 : Nat) : Int)) = false) : ptn zs j = 0 := by have := of_decide_eq_false h; unfold ptn; omega
theorem ptn_1 {zs : List Int} {j : Nat} (h : decide (0 < ((dN zs (j + 8) 2 : Nat) : Int)) = true) : ptn zs j = 1 := by
  have := of_decide_eq_true h; have := dN_lt zs (j + 8) (n := 2) (by decide); unfold ptn; omega
theorem ptP_0 {zs : List Int} {j : Nat} (h : ptn zs j = 0) : nI (ptP zs j) = [] := by unfold ptP; rw [h]; rfl
theorem ptP_1 {zs : List Int} {j : Nat} (h : ptn zs j = 1) : nI (ptP zs j) = [((dN zs (j + 9) 4 : Nat) : Int)] := by unfold ptP; rw [h]; rfl
theorem ptP_32 (zs : List Int) (j : Nat) : ∀ i ∈ ptP zs j, i < 4294967296 := by
  intro i hi
  obtain ⟨m, _, rfl⟩ := List.mem_map.1 hi
  exact Nat.lt_of_lt_of_le (dN_lt _ _ (by decide)) (by decide)
def ptB (zs : List Int) (j : Nat) : Bool := ((dN zs (j + 7) 2 : Nat) : Int) == 0
def ptK (zs : List Int) (j : Nat) : Ky := mkK zs (j + 1) (((dN zs j 3 : Nat) : Int) == 0)
theorem ptK_ok (zs : List Int) (j : Nat) : (ptK zs j).Ok := mkK_ok _ _ _
def ptA (zs : List Int) (j : Nat) (a : Option Addr) (c : Nat) : KpA := ⟨ptK zs j, ptP zs j, ptB zs j, a, c⟩
theorem ptA_ok (zs : List Int) (j : Nat) (a : Option Addr) (c : Nat) : (ptA zs j a c).Ok := ⟨ptK_ok zs j, by
  have := dN_lt zs (j + 1 + 3) (n := 3) (by decide)
  show rng ((dN zs (j + 1 + 3) 3 : Nat) : Int)
  unfold rng; omega, ptP_32 zs j⟩
theorem ptA_soft (zs : List Int) (j : Nat) (a : Option Addr) (c : Nat) : SoftK (ptA zs j a c) := ⟨mkK_snd _ _ _, fun i hi => by
  obtain ⟨m, _, rfl⟩ := List.mem_map.1 hi
  have := dN_lt zs (j + 9 + m) (n := 4) (by decide)
  exact decide_eq_false (by omega)⟩
def tN (kd : Int) (n : Nat) : TmA := ⟨kd, 0, n, 0, [], none, 0⟩
def tH (h : Nat) : TmA := ⟨5, 0, 0, h, [], none, 0⟩
def tE : TmA := ⟨6, 0, 0, 0, [], none, 0⟩
def tK (zs : List Int) (j : Nat) (a : Option Addr) (c g : Nat) : TmA := ⟨1, 0, 0, 0, [ptA zs j a c], some ⟨g, 0, none⟩, 1⟩
def tM (m : Nat) (zs : List Int) (j : Nat) (a : Option Addr) (c : Nat) (j2 : Nat) (a2 : Option Addr) (c2 g : Nat) : TmA := ⟨2, (m : Int), 0, 0, [ptA zs j a c, ptA zs j2 a2 c2], some ⟨g, 0, none⟩, 2⟩
theorem mpath_any (g : Nat) (a : Option Addr) (c : Nat) (zs : List Int) (j : Nat) (hz : Z64 zs) (w0 : World) (hK : Knows [(g, (cL #[(.slice a (zs).length c), (vn (pN zs j))] 59))] w0) (hP : Pers (fun b => b ∈ ([(g, (cL #[(.slice a (zs).length c), (vn (pN zs j))] 59))] : List (Nat × Obj)).map (·.1)) (fun w => Is w .i64 a c zs ∧ True) w0) : Calls Tryz.prog 19 #[(pt g)] w0 (fun ε w' => ∃ α κ, ε = .returned (.agg (kpV ((ptK zs j).s) ((ptK zs j).p) ((ptK zs j).c) ((ptK zs j).d) (((ptK zs j).i : Nat) : Int) (((ptK zs j).n : Nat) : Int) (.slice α (nI (ptP zs j)).length κ) (.bool (ptB zs j)))) ∧ Upd (fun b => b ∈ ([(g, (cL #[(.slice a (zs).length c), (vn (pN zs j))] 59))] : List (Nat × Obj)).map (·.1)) w0 w' ∧ Knows [(g, (cL #[(.slice a (zs).length c), (vn (pN zs (j + (9 + ptn zs j))))] 59))] w' ∧ Fi w0 w' .u32 α κ (nI (ptP zs j))) := by
 refine Calls.of_okW (n := 29) (F := (fun w => Is w .i64 a c zs ∧ True)) [(g, (cL #[(.slice a (zs).length c), (vn (pN zs j))] 59))] Tryz.func19 rfl rfl rfl (by simp) hK (by simp) hP ?_
 refine sS Tryz.f19 1 [0, 2] [] (fun ρ => [(pt (nb ρ 0))]) (fun ρ => [(0, (nw ρ 0 (cL (kpV 0 0 0 0 0 0 (.slice none 0 0) (.bool false)) 51)))]) (cR [[]] <| cN) (fun ρ1 => ?_)
 refine sS Tryz.f19 11 [0, 2, 3] [] (fun ρ => [(pt g), (pt g), (vn (dN zs j 3)), (.bool (((dN zs j 3 : Nat) : Int) == 0)), (.agg (kY (mkK zs (j + 1) (((dN zs j 3 : Nat) : Int) == 0)))), (pt g), (vn (dN zs (j + 7) 2)), (.bool (((dN zs (j + 7) 2 : Nat) : Int) == 0)), (.agg (kpV ((mkK zs (j + 1) (((dN zs j 3 : Nat) : Int) == 0)).s) ((mkK zs (j + 1) (((dN zs j 3 : Nat) : Int) == 0)).p) ((mkK zs (j + 1) (((dN zs j 3 : Nat) : Int) == 0)).c) ((mkK zs (j + 1) (((dN zs j 3 : Nat) : Int) == 0)).d) (((mkK zs (j + 1) (((dN zs j 3 : Nat) : Int) == 0)).i : Nat) : Int) (((mkK zs (j + 1) (((dN zs j 3 : Nat) : Int) == 0)).n : Nat) : Int) (.slice none 0 0) (.bool (((dN zs (j + 7) 2 : Nat) : Int) == 0)))), (pt (nb ρ 9)), undef]) (fun ρ => [(2, (pwt 0 g (cL #[(.slice a (zs).length c), (vn (pN zs (j + 1)))] 59))), (4, (pwt 0 g (cL #[(.slice a (zs).length c), (vn (pN zs (j + 7)))] 59))), (6, (pwt 0 g (cL #[(.slice a (zs).length c), (vn (pN zs (j + 8)))] 59))), (9, (nw ρ 9 (cL (kpV 0 0 0 0 0 0 (.slice none 0 0) (.bool false)) 51))), (10, (pwt 74 (nb ρ 9) (cL (kpV ((mkK zs (j + 1) (((dN zs j 3 : Nat) : Int) == 0)).s) ((mkK zs (j + 1) (((dN zs j 3 : Nat) : Int) == 0)).p) ((mkK zs (j + 1) (((dN zs j 3 : Nat) : Int) == 0)).c) ((mkK zs (j + 1) (((dN zs j 3 : Nat) : Int) == 0)).d) (((mkK zs (j + 1) (((dN zs j 3 : Nat) : Int) == 0)).i : Nat) : Int) (((mkK zs (j + 1) (((dN zs j 3 : Nat) : Int) == 0)).n : Nat) : Int) (.slice none 0 0) (.bool (((dN zs (j + 7) 2 : Nat) : Int) == 0))) 51)))]) (cR [[], []] <| cX (qW [0] (fun _ _ w hG hK => next_any g a c zs j 3 (by decide) hz w hK (hG.pK [0] (fun _ hF => ⟨hF.1, trivial⟩)) )) <| cR [[]] <| cX (qW [0] (fun _ _ w hG hK => mkey_any g a c zs (j + 1) (((dN zs j 3 : Nat) : Int) == 0) hz w hK (hG.pK [0] (fun _ hF => ⟨hF.1, trivial⟩)) )) <| cR [[]] <| cX (qW [0] (fun _ _ w hG hK => next_any g a c zs (j + 7) 2 (by decide) hz w hK (hG.pK [0] (fun _ hF => ⟨hF.1, trivial⟩)) )) <| cR [[], [], [], [74]] <| cN) (fun ρ2 => ?_)
 refine ok_seq ?_
 refine sS Tryz.f19 3 [0, 2, 3, 4] [] (fun _ => [(pt g), (vn (dN zs (j + 8) 2)), (vn (dN zs (j + 8) 2))]) (fun _ => [(1, (pwt 0 g (cL #[(.slice a (zs).length c), (vn (pN zs (j + 9)))] 59)))]) (cR [[]] <| cX (qW [0] (fun _ _ w hG hK => next_any g a c zs (j + 8) 2 (by decide) hz w hK (hG.pK [0] (fun _ hF => ⟨hF.1, trivial⟩)) )) <| cR [[]] <| cN) (fun _ => ?_)
 refine ok_block ?_
 refine ok_rounds 2 ?_
 refine okr_succ ?_
 refine ok_seq ?_
 refine sS Tryz.f19 2 [0, 2, 3, 4, 16, 17] [] (fun _ => [(vn (dN zs (j + 8) 2)), (.bool (decide (0 < ((dN zs (j + 8) 2 : Nat) : Int))))]) (fun _ => []) (cR [[], []] <| cN) (fun _ => ?_)
 refine oC (decide (0 < ((dN zs (j + 8) 2 : Nat) : Int))) (fun hb1 => ?_) (fun hb1 => ?_)
 ·
  rw [hb1]
  refine ok_skip ?_
  refine mt_then ?_
  refine ok_seq ?_
  refine ok_block ?_
  refine rD Tryz.f19 [0, 1, 0, 4, 12, 28, 63, 127, 255] 9 [0, 2, 3, 4, 16, 17, 20, 21, 22, 23, 24, 25, 26, 27] [] (fun ρ => [(.pointer (some ⟨nb ρ2 9, 43, none⟩)), (.slice none 0 0), (pt g), (vn (dN zs (j + 9) 4)), (.int .u32 ((dN zs (j + 9) 4 : Nat) : Int)), (vs (nb ρ 5) 1 1), (vs (nb ρ 6) 1 (1 + nb2 ρ 6)), (.pointer (some ⟨nb ρ2 9, 43, none⟩)), undef]) (fun ρ => [(3, (pwt 0 g (cL #[(.slice a (zs).length c), (vn (pN zs (j + 10)))] 59))), (5, (nw ρ 5 (cL #[(.int .u32 ((dN zs (j + 9) 4 : Nat) : Int))] 41))), (6, (nw ρ 6 (cL ([(.int .u32 ((dN zs (j + 9) 4 : Nat) : Int))].toArray ++ Builtin.zeroCells (Value.cells (.int .u32 0)) (nb2 ρ 6)) 41))), (8, (pwt 2 (nb ρ2 9) (cL (kpV ((mkK zs (j + 1) (((dN zs j 3 : Nat) : Int) == 0)).s) ((mkK zs (j + 1) (((dN zs j 3 : Nat) : Int) == 0)).p) ((mkK zs (j + 1) (((dN zs j 3 : Nat) : Int) == 0)).c) ((mkK zs (j + 1) (((dN zs j 3 : Nat) : Int) == 0)).d) (((mkK zs (j + 1) (((dN zs j 3 : Nat) : Int) == 0)).i : Nat) : Int) (((mkK zs (j + 1) (((dN zs j 3 : Nat) : Int) == 0)).n : Nat) : Int) (vs (nb ρ 6) 1 (1 + nb2 ρ 6)) (.bool (((dN zs (j + 7) 2 : Nat) : Int) == 0))) 51)))]) (cR [[], [2], []] <| cX (qW [0] (fun _ _ w hG hK => next_any g a c zs (j + 9) 4 (by decide) hz w hK (hG.pK [0] (fun _ hF => ⟨hF.1, trivial⟩)) )) <| cA (v := fun ρ => (.int .u32 (IntKind.u32.wrap (((dN zs (j + 9) 4 : Nat) : Int))))) (fun _ => (.int .u32 ((dN zs (j + 9) 4 : Nat) : Int))) (fun _ => congrArg (Value.int .u32) (u32N (Nat.lt_of_lt_of_le (dN_lt zs (j + 9) (by decide)) (by decide)))) <| cR [[]] <| cX (qN (fun _ ζ => (vs (ζ.headD 0) 1 (1 + ζ.tail.headD 0))) (fun _ ζ => (cL ([(.int .u32 ((dN zs (j + 9) 4 : Nat) : Int))].toArray ++ Builtin.zeroCells (Value.cells (.int .u32 0)) (ζ.tail.headD 0)) 41)) (fun ρ _ _ hG => appV_nil (ty := 49) Tryz.underlying49 (elike_of (sz := 1) (b := 4) (z := (.int .u32 0)) (by kernel_rfl) rfl) (src_blk (c := 1) (vs := [(.int .u32 ((dN zs (j + 9) 4 : Nat) : Int))]) Tryz.underlying49 (hG.kn (g := nb ρ 5) (o := (cL #[(.int .u32 ((dN zs (j + 9) 4 : Nat) : Int))] 41)) 43) rfl rfl) (by decide) (by decide) (by decide))) <| cR [[], [2]] <| cN) (fun ρ5 => ?_)
  refine mt_block_n ?_
  refine mt_then ?_
  refine rS Tryz.f19 3 [0, 2, 3, 4, 16, 17, 18, 19, 20, 21, 22, 23, 24, 25, 26, 27] [] (fun _ => [(vn (dN zs (j + 8) 2)), (vn (dN zs (j + 8) 2 - 1)), (vn (dN zs (j + 8) 2 - 1))]) (fun _ => []) (cR [[]] <| cA (v := fun ρ => (vi (IntKind.i64.wrap (((dN zs (j + 8) 2 : Nat) : Int) - 1)))) (fun _ => (vn (dN zs (j + 8) 2 - 1))) (fun _ => congrArg (Value.int .i64) ((i64N (by have := yT hb1; have := dN_lt zs (j + 8) (n := 2) (by decide); omega)).trans (by have := yT hb1; omega))) <| cR [[]] <| cN) (fun _ => ?_)
  refine mt_rounds ?_
  refine okr_succ ?_
  refine ok_seq ?_
  refine sS Tryz.f19 2 [0, 2, 3, 4, 16, 17, 18, 19, 20, 21, 22, 23, 24, 25, 26, 27] [] (fun _ => [(vn (dN zs (j + 8) 2 - 1)), (.bool false)]) (fun _ => []) (cR [[]] <| cA (v := fun ρ => (.bool (decide (0 < ((dN zs (j + 8) 2 - 1 : Nat) : Int))))) (fun _ => (.bool false)) (fun _ => congrArg Value.bool (decide_eq_false (by have := dN_lt zs (j + 8) (n := 2) (by decide); omega))) <| cN) (fun _ => ?_)
  refine dRs [(0, (pt g)), (2, (pt (nb ρ1 0))), (3, (pt (nb ρ2 9))), (4, (vn (dN zs (j + 8) 2 - 1))), (16, (vn (dN zs (j + 8) 2 - 1))), (17, (.bool false)), (18, (vn (dN zs (j + 8) 2))), (19, (vn (dN zs (j + 8) 2 - 1))), (20, (.pointer (some ⟨nb ρ2 9, 43, none⟩))), (21, (.slice none 0 0)), (22, (pt g)), (23, (vn (dN zs (j + 9) 4))), (24, (.int .u32 ((dN zs (j + 9) 4 : Nat) : Int))), (25, (vs (nb ρ5 5) 1 1)), (26, (vs (nb ρ5 6) 1 (1 + nb2 ρ5 6))), (27, (.pointer (some ⟨nb ρ2 9, 43, none⟩)))] [(g, (cL #[(.slice a (zs).length c), (vn (pN zs (j + 10)))] 59)), (nb ρ1 0, (cL (kpV 0 0 0 0 0 0 (.slice none 0 0) (.bool false)) 51)), (nb ρ2 9, (cL (kpV ((mkK zs (j + 1) (((dN zs j 3 : Nat) : Int) == 0)).s) ((mkK zs (j + 1) (((dN zs j 3 : Nat) : Int) == 0)).p) ((mkK zs (j + 1) (((dN zs j 3 : Nat) : Int) == 0)).c) ((mkK zs (j + 1) (((dN zs j 3 : Nat) : Int) == 0)).d) (((mkK zs (j + 1) (((dN zs j 3 : Nat) : Int) == 0)).i : Nat) : Int) (((mkK zs (j + 1) (((dN zs j 3 : Nat) : Int) == 0)).n : Nat) : Int) (vs (nb ρ5 6) 1 (1 + nb2 ρ5 6)) (.bool (((dN zs (j + 7) 2 : Nat) : Int) == 0))) 51)), (nb ρ5 5, (cL #[(.int .u32 ((dN zs (j + 9) 4 : Nat) : Int))] 41)), (nb ρ5 6, (cL ([(.int .u32 ((dN zs (j + 9) 4 : Nat) : Int))].toArray ++ Builtin.zeroCells (Value.cells (.int .u32 0)) (nb2 ρ5 6)) 41))] ?_
  refine oN ?_
  refine ok_exit ?_
  refine mt_then_e ?_
  refine mt_then_e ?_
  refine mt_block_h ?_
  refine mt_then ?_
  refine sS Tryz.f19 2 [2] [1, 1, 0, 0, 1] (fun _ => [(.agg (kpV ((mkK zs (j + 1) (((dN zs j 3 : Nat) : Int) == 0)).s) ((mkK zs (j + 1) (((dN zs j 3 : Nat) : Int) == 0)).p) ((mkK zs (j + 1) (((dN zs j 3 : Nat) : Int) == 0)).c) ((mkK zs (j + 1) (((dN zs j 3 : Nat) : Int) == 0)).d) (((mkK zs (j + 1) (((dN zs j 3 : Nat) : Int) == 0)).i : Nat) : Int) (((mkK zs (j + 1) (((dN zs j 3 : Nat) : Int) == 0)).n : Nat) : Int) (vs (nb ρ5 6) 1 (1 + nb2 ρ5 6)) (.bool (((dN zs (j + 7) 2 : Nat) : Int) == 0)))), undef]) (fun _ => [(1, (pwt 1 (nb ρ1 0) (cL (kpV ((mkK zs (j + 1) (((dN zs j 3 : Nat) : Int) == 0)).s) ((mkK zs (j + 1) (((dN zs j 3 : Nat) : Int) == 0)).p) ((mkK zs (j + 1) (((dN zs j 3 : Nat) : Int) == 0)).c) ((mkK zs (j + 1) (((dN zs j 3 : Nat) : Int) == 0)).d) (((mkK zs (j + 1) (((dN zs j 3 : Nat) : Int) == 0)).i : Nat) : Int) (((mkK zs (j + 1) (((dN zs j 3 : Nat) : Int) == 0)).n : Nat) : Int) (vs (nb ρ5 6) 1 (1 + nb2 ρ5 6)) (.bool (((dN zs (j + 7) 2 : Nat) : Int) == 0))) 51)))]) (cR [[2], [1]] <| cN) (fun _ => ?_)
  refine ok_ret ?_
  refine mD [(2, (pt (nb ρ1 0)))] [(g, (cL #[(.slice a (zs).length c), (vn (pN zs (j + 10)))] 59)), (nb ρ1 0, (cL (kpV ((mkK zs (j + 1) (((dN zs j 3 : Nat) : Int) == 0)).s) ((mkK zs (j + 1) (((dN zs j 3 : Nat) : Int) == 0)).p) ((mkK zs (j + 1) (((dN zs j 3 : Nat) : Int) == 0)).c) ((mkK zs (j + 1) (((dN zs j 3 : Nat) : Int) == 0)).d) (((mkK zs (j + 1) (((dN zs j 3 : Nat) : Int) == 0)).i : Nat) : Int) (((mkK zs (j + 1) (((dN zs j 3 : Nat) : Int) == 0)).n : Nat) : Int) (vs (nb ρ5 6) 1 (1 + nb2 ρ5 6)) (.bool (((dN zs (j + 7) 2 : Nat) : Int) == 0))) 51)), (nb ρ5 6, (cL ([(.int .u32 ((dN zs (j + 9) 4 : Nat) : Int))].toArray ++ Builtin.zeroCells (Value.cells (.int .u32 0)) (nb2 ρ5 6)) 41))] ?_
  exact mR (v := (.agg (kpV ((mkK zs (j + 1) (((dN zs j 3 : Nat) : Int) == 0)).s) ((mkK zs (j + 1) (((dN zs j 3 : Nat) : Int) == 0)).p) ((mkK zs (j + 1) (((dN zs j 3 : Nat) : Int) == 0)).c) ((mkK zs (j + 1) (((dN zs j 3 : Nat) : Int) == 0)).d) (((mkK zs (j + 1) (((dN zs j 3 : Nat) : Int) == 0)).i : Nat) : Int) (((mkK zs (j + 1) (((dN zs j 3 : Nat) : Int) == 0)).n : Nat) : Int) (vs (nb ρ5 6) 1 (1 + nb2 ρ5 6)) (.bool (((dN zs (j + 7) 2 : Nat) : Int) == 0))))) (ps := [1,1,1,1,1,1,1,1,1,1,1,1,1,1,1,1,1,1,1,1,1,1,1,1,1,1,1,1,1,1,1,1,1,1,1,1,1,1,1,1,1,1,1,1,1]) (fun _ hS => ⟨(some ⟨nb ρ5 6, 0, none⟩), 1 + nb2 ρ5 6, by rw [ptP_1 (ptn_1 hb1)]; rfl, hS.below, by rw [(ptn_1 hb1)]; exact hS.knows [1, 0, 0], by rw [ptP_1 (ptn_1 hb1)]; exact Fi.of_av (zs := [((dN zs (j + 9) 4 : Nat) : Int)]) (hS.new1 rfl rfl (.tail _ (.head _))) (Av.fresh (z := (.int .u32 0)) (m := 1) rfl (ys := [(.int .u32 ((dN zs (j + 9) 4 : Nat) : Int))]) rfl (nb2 ρ5 6)) (Nat.le_of_ble_eq_true rfl)⟩)
 ·
  rw [hb1]
  refine ok_exit ?_
  refine mt_then_e ?_
  refine mt_then_e ?_
  refine mt_block_h ?_
  refine mt_then ?_
  refine sS Tryz.f19 2 [2] [1, 1, 0] (fun _ => [(.agg (kpV ((mkK zs (j + 1) (((dN zs j 3 : Nat) : Int) == 0)).s) ((mkK zs (j + 1) (((dN zs j 3 : Nat) : Int) == 0)).p) ((mkK zs (j + 1) (((dN zs j 3 : Nat) : Int) == 0)).c) ((mkK zs (j + 1) (((dN zs j 3 : Nat) : Int) == 0)).d) (((mkK zs (j + 1) (((dN zs j 3 : Nat) : Int) == 0)).i : Nat) : Int) (((mkK zs (j + 1) (((dN zs j 3 : Nat) : Int) == 0)).n : Nat) : Int) (.slice none 0 0) (.bool (((dN zs (j + 7) 2 : Nat) : Int) == 0)))), undef]) (fun _ => [(1, (pwt 1 (nb ρ1 0) (cL (kpV ((mkK zs (j + 1) (((dN zs j 3 : Nat) : Int) == 0)).s) ((mkK zs (j + 1) (((dN zs j 3 : Nat) : Int) == 0)).p) ((mkK zs (j + 1) (((dN zs j 3 : Nat) : Int) == 0)).c) ((mkK zs (j + 1) (((dN zs j 3 : Nat) : Int) == 0)).d) (((mkK zs (j + 1) (((dN zs j 3 : Nat) : Int) == 0)).i : Nat) : Int) (((mkK zs (j + 1) (((dN zs j 3 : Nat) : Int) == 0)).n : Nat) : Int) (.slice none 0 0) (.bool (((dN zs (j + 7) 2 : Nat) : Int) == 0))) 51)))]) (cR [[2], [1]] <| cN) (fun _ => ?_)
  refine ok_ret ?_
  refine mD [(2, (pt (nb ρ1 0)))] [(g, (cL #[(.slice a (zs).length c), (vn (pN zs (j + 9)))] 59)), (nb ρ1 0, (cL (kpV ((mkK zs (j + 1) (((dN zs j 3 : Nat) : Int) == 0)).s) ((mkK zs (j + 1) (((dN zs j 3 : Nat) : Int) == 0)).p) ((mkK zs (j + 1) (((dN zs j 3 : Nat) : Int) == 0)).c) ((mkK zs (j + 1) (((dN zs j 3 : Nat) : Int) == 0)).d) (((mkK zs (j + 1) (((dN zs j 3 : Nat) : Int) == 0)).i : Nat) : Int) (((mkK zs (j + 1) (((dN zs j 3 : Nat) : Int) == 0)).n : Nat) : Int) (.slice none 0 0) (.bool (((dN zs (j + 7) 2 : Nat) : Int) == 0))) 51))] ?_
  exact mR (v := (.agg (kpV ((mkK zs (j + 1) (((dN zs j 3 : Nat) : Int) == 0)).s) ((mkK zs (j + 1) (((dN zs j 3 : Nat) : Int) == 0)).p) ((mkK zs (j + 1) (((dN zs j 3 : Nat) : Int) == 0)).c) ((mkK zs (j + 1) (((dN zs j 3 : Nat) : Int) == 0)).d) (((mkK zs (j + 1) (((dN zs j 3 : Nat) : Int) == 0)).i : Nat) : Int) (((mkK zs (j + 1) (((dN zs j 3 : Nat) : Int) == 0)).n : Nat) : Int) (.slice none 0 0) (.bool (((dN zs (j + 7) 2 : Nat) : Int) == 0))))) (ps := [1,1,1,1,1,1,1,1,1,1,1,1,1,1,1,1,1,1,1,1,1,1,1,1,1,1,1,1,1,1,1,1,1,1,1,1,1,1,1,1,1,1,1,1,1]) (fun _ hS => ⟨none, 0, by rw [ptP_0 (ptn_0 hb1)]; rfl, hS.below, by rw [(ptn_0 hb1)]; exact hS.knows [1, 0], by rw [ptP_0 (ptn_0 hb1)]; exact Fi.nil⟩)
set_option maxHeartbeats 4000000 in
theorem mtermsw_any (g : Nat) (a : Option Addr) (c : Nat) (zs : List Int) (j : Nat) (hv : Nat) (hz : Z64 zs) (hhv : hv < M) (ehv : hs2 (dN zs (j + 1) 5) (dN zs (j + 1 + 1) 7) = hv) (w0 : World) (hK : Knows [(g, (cL #[(.slice a (zs).length c), (vn (pN zs j))] 59))] w0) (hP : Pers (fun b => b ∈ ([(g, (cL #[(.slice a (zs).length c), (vn (pN zs j))] 59))] : List (Nat × Obj)).map (·.1)) (fun w => Is w .i64 a c zs ∧ True) w0) : Calls Tryz.prog 6 #[(pt g)] w0 (fun ε w' => ∃ α κ τs j', ε = .returned (.slice α (List.length τs) κ) ∧ Upd (fun b => b ∈ ([(g, (cL #[(.slice a (zs).length c), (vn (pN zs j))] 59))] : List (Nat × Obj)).map (·.1)) w0 w' ∧ Knows [(g, (cL #[(.slice a (zs).length c), (vn (pN zs j'))] 59))] w' ∧ Pers (fun b => b < w0.heap.size) (fun w => TmN w α κ τs) w') := by
 refine Calls.of_okW (n := 68) (F := (fun w => Is w .i64 a c zs ∧ True)) [(g, (cL #[(.slice a (zs).length c), (vn (pN zs j))] 59))] Tryz.func6 rfl rfl rfl (by simp) hK (by simp) hP ?_
 refine sS Tryz.f6 1 [0, 2] [] (fun _ => [(.slice none 0 0)]) (fun _ => []) (cR [[]] <| cN) (fun _ => ?_)
 refine sS Tryz.f6 1 [0, 2, 3] [] (fun _ => [(.slice none 0 0)]) (fun _ => []) (cR [[]] <| cN) (fun _ => ?_)
 refine ok_seq ?_
 refine sS Tryz.f6 2 [0, 2, 3, 5] [] (fun _ => [(pt g), (vn (dN zs j 6))]) (fun _ => [(1, (pwt 0 g (cL #[(.slice a (zs).length c), (vn (pN zs (j + 1)))] 59)))]) (cR [[]] <| cX (qW [0] (fun _ _ w hG hK => next_any g a c zs j 6 (by decide) hz w hK (hG.pK [0] (fun _ hF => ⟨hF.1, trivial⟩)) )) <| cN) (fun _ => ?_)
 refine ok_block ?_
 refine sS Tryz.f6 2 [0, 2, 3, 5, 6] [] (fun _ => [(.bool (((dN zs j 6 : Nat) : Int) == 0)), (.bool (((dN zs j 6 : Nat) : Int) == 0))]) (fun _ => []) (cR [[], []] <| cN) (fun _ => ?_)
 refine oC (((dN zs j 6 : Nat) : Int) == 0) (fun hb1 => ?_) (fun hb1 => ?_)
 ·
  rw [hb1]
  refine rS Tryz.f6 8 [0, 2, 3] [] (fun ρ => [(.slice none 0 0), (pt g), (vn (dN zs (j + 1) 300)), (.int .u32 ((dN zs (j + 1) 300 : Nat) : Int)), (.agg (tmV 3 0 ((dN zs (j + 1) 300 : Nat) : Int) 0 (.slice none 0 0))), (vs (nb ρ 5) 1 1), (vs (nb ρ 6) ([(tN 3 (dN zs (j + 1) 300))]).length (([(tN 3 (dN zs (j + 1) 300))]).length + nb2 ρ 6)), (vs (nb ρ 6) ([(tN 3 (dN zs (j + 1) 300))]).length (([(tN 3 (dN zs (j + 1) 300))]).length + nb2 ρ 6))]) (fun ρ => [(2, (pwt 0 g (cL #[(.slice a (zs).length c), (vn (pN zs (j + 2)))] 59))), (5, (nw ρ 5 (cL (tmV 3 0 ((dN zs (j + 1) 300 : Nat) : Int) 0 (.slice none 0 0)) 46))), (6, (nw ρ 6 (cL ((tmR ([(tN 3 (dN zs (j + 1) 300))])).toArray ++ Builtin.zeroCells (Value.cells zTm) (nb2 ρ 6)) 46)))]) (cR [[], []] <| cX (qW [0] (fun _ _ w hG hK => next_any g a c zs (j + 1) 300 (by decide) hz w hK (hG.pK [0] (fun _ hF => ⟨hF.1, trivial⟩)) )) <| cA (v := fun ρ => (.int .u32 (IntKind.u32.wrap (((dN zs (j + 1) 300 : Nat) : Int))))) (fun _ => (.int .u32 ((dN zs (j + 1) 300 : Nat) : Int))) (fun _ => congrArg (Value.int .u32) (u32N (Nat.lt_of_lt_of_le (dN_lt zs (j + 1) (by decide)) (by decide)))) <| cR [[], []] <| cX (qN (fun _ ζ => (vs (ζ.headD 0) ([(tN 3 (dN zs (j + 1) 300))]).length (([(tN 3 (dN zs (j + 1) 300))]).length + ζ.tail.headD 0))) (fun _ ζ => (cL ((tmR ([(tN 3 (dN zs (j + 1) 300))])).toArray ++ Builtin.zeroCells (Value.cells zTm) (ζ.tail.headD 0)) 46)) (fun ρ _ _ hG => appT_nil (ty := 24) (us := [(tN 3 (dN zs (j + 1) 300))]) Tryz.underlying24 (elike_of (sz := 36) (b := 80) (z := zTm) (by kernel_rfl) rfl) (src_t1 (x := (tN 3 (dN zs (j + 1) 300))) Tryz.underlying24 (hG.kn (g := nb ρ 5) (o := (cL (tmV 3 0 ((dN zs (j + 1) 300 : Nat) : Int) 0 (.slice none 0 0)) 46)) 41)) (Nat.le_of_ble_eq_true rfl) (Nat.le_of_ble_eq_true rfl) (by decide))) <| cR [[]] <| cN) (fun ρ5 => ?_)
  refine mt_block_n ?_
  refine mt_then ?_
  refine ok_seq ?_
  rcases Bool.eq_false_or_eq_true (((dN zs (j + 2) 4 : Nat) : Int) == 0) with hb2 | hb2
  ·
   refine sS Tryz.f6 8 [0, 2, 3, 49] [] (fun _ => [(pt g), (vn (dN zs (j + 2) 4)), (.bool true), (.bool true), (vs (nb ρ5 6) ([(tN 3 (dN zs (j + 1) 300))]).length (([(tN 3 (dN zs (j + 1) 300))]).length + nb2 ρ5 6)), (vi 1), (.bool true), (.bool true)]) (fun _ => [(1, (pwt 0 g (cL #[(.slice a (zs).length c), (vn (pN zs (j + 3)))] 59)))]) (cR [[]] <| cX (qW [0] (fun _ _ w hG hK => next_any g a c zs (j + 2) 4 (by decide) hz w hK (hG.pK [0] (fun _ hF => ⟨hF.1, trivial⟩)) )) <| cA (fun _ => (.bool true)) (fun _ => congrArg Value.bool hb2) <| cR [[], [], [], [], []] <| cN) (fun _ => ?_)
   refine oY ?_
   refine sSf Tryz.f6 12 [0, 2, 3] [] (fun ρ => [(vs (nb ρ5 6) ([(tN 3 (dN zs (j + 1) 300))]).length (([(tN 3 (dN zs (j + 1) 300))]).length + nb2 ρ5 6)), (pt g), (vn (1 + dN zs (j + 3) 2)), (pt g), (.agg (kpV ((ptK zs (j + 4)).s) ((ptK zs (j + 4)).p) ((ptK zs (j + 4)).c) ((ptK zs (j + 4)).d) (((ptK zs (j + 4)).i : Nat) : Int) (((ptK zs (j + 4)).n : Nat) : Int) (.slice (oa ρ 4) (nI (ptP zs (j + 4))).length (nb ρ 4)) (.bool (ptB zs (j + 4))))), (pt g), (.agg (kpV ((ptK zs (j + 4 + (9 + ptn zs (j + 4)))).s) ((ptK zs (j + 4 + (9 + ptn zs (j + 4)))).p) ((ptK zs (j + 4 + (9 + ptn zs (j + 4)))).c) ((ptK zs (j + 4 + (9 + ptn zs (j + 4)))).d) (((ptK zs (j + 4 + (9 + ptn zs (j + 4)))).i : Nat) : Int) (((ptK zs (j + 4 + (9 + ptn zs (j + 4)))).n : Nat) : Int) (.slice (oa ρ 6) (nI (ptP zs (j + 4 + (9 + ptn zs (j + 4))))).length (nb ρ 6)) (.bool (ptB zs (j + 4 + (9 + ptn zs (j + 4))))))), (vs (nb ρ 7) 2 2), (.agg (tmV 2 ((1 + dN zs (j + 3) 2 : Nat) : Int) 0 0 (vs (nb ρ 7) 2 2))), (vs (nb ρ 9) 1 1), (vs (nb ρ 10) (([(tN 3 (dN zs (j + 1) 300))]) ++ ([(tM (1 + dN zs (j + 3) 2) zs (j + 4) (oa ρ 4) (nb ρ 4) (j + 4 + (9 + ptn zs (j + 4))) (oa ρ 6) (nb ρ 6) (nb ρ 7))])).length (nb2 ρ 10)), (vs (nb ρ 10) (([(tN 3 (dN zs (j + 1) 300))]) ++ ([(tM (1 + dN zs (j + 3) 2) zs (j + 4) (oa ρ 4) (nb ρ 4) (j + 4 + (9 + ptn zs (j + 4))) (oa ρ 6) (nb ρ 6) (nb ρ 7))])).length (nb2 ρ 10))]) (fun ρ => [(2, (pwt 0 g (cL #[(.slice a (zs).length c), (vn (pN zs (j + 4)))] 59))), (4, (pwt 0 g (cL #[(.slice a (zs).length c), (vn (pN zs (j + 4 + (9 + ptn zs (j + 4)))))] 59))), (6, (pwt 0 g (cL #[(.slice a (zs).length c), (vn (pN zs (j + 4 + (9 + ptn zs (j + 4)) + (9 + ptn zs (j + 4 + (9 + ptn zs (j + 4)))))))] 59))), (7, (nw ρ 7 (cL ((kpV ((ptK zs (j + 4)).s) ((ptK zs (j + 4)).p) ((ptK zs (j + 4)).c) ((ptK zs (j + 4)).d) (((ptK zs (j + 4)).i : Nat) : Int) (((ptK zs (j + 4)).n : Nat) : Int) (.slice (oa ρ 4) (nI (ptP zs (j + 4))).length (nb ρ 4)) (.bool (ptB zs (j + 4)))) ++ (kpV ((ptK zs (j + 4 + (9 + ptn zs (j + 4)))).s) ((ptK zs (j + 4 + (9 + ptn zs (j + 4)))).p) ((ptK zs (j + 4 + (9 + ptn zs (j + 4)))).c) ((ptK zs (j + 4 + (9 + ptn zs (j + 4)))).d) (((ptK zs (j + 4 + (9 + ptn zs (j + 4)))).i : Nat) : Int) (((ptK zs (j + 4 + (9 + ptn zs (j + 4)))).n : Nat) : Int) (.slice (oa ρ 6) (nI (ptP zs (j + 4 + (9 + ptn zs (j + 4))))).length (nb ρ 6)) (.bool (ptB zs (j + 4 + (9 + ptn zs (j + 4))))))) 51))), (9, (nw ρ 9 (cL (tmV 2 ((1 + dN zs (j + 3) 2 : Nat) : Int) 0 0 (vs (nb ρ 7) 2 2)) 46))), (10, (pwt 2 (nb ρ 10) (cL (oc ρ 10) 46)))]) (fun ρ => [(4, fun w => Fi w0 w .u32 (oa ρ 4) (nb ρ 4) (nI (ptP zs (j + 4)))), (6, fun w => Fi w0 w .u32 (oa ρ 6) (nb ρ 6) (nI (ptP zs (j + 4 + (9 + ptn zs (j + 4)))))), (10, fun w => At (oc ρ 10) (([(tN 3 (dN zs (j + 1) 300))]) ++ ([(tM (1 + dN zs (j + 3) 2) zs (j + 4) (oa ρ 4) (nb ρ 4) (j + 4 + (9 + ptn zs (j + 4))) (oa ρ 6) (nb ρ 6) (nb ρ 7))])) (nb2 ρ 10))]) (fun ρ => (fun w => Is w .i64 a c zs ∧ Fi w0 w .u32 (oa ρ 4) (nb ρ 4) (nI (ptP zs (j + 4))) ∧ Fi w0 w .u32 (oa ρ 6) (nb ρ 6) (nI (ptP zs (j + 4 + (9 + ptn zs (j + 4))))) ∧ True)) (fun ρ => At (oc ρ 10) (([(tN 3 (dN zs (j + 1) 300))]) ++ ([(tM (1 + dN zs (j + 3) 2) zs (j + 4) (oa ρ 4) (nb ρ 4) (j + 4 + (9 + ptn zs (j + 4))) (oa ρ 6) (nb ρ 6) (nb ρ 7))])) (nb2 ρ 10)) (fun _ _ hF hf => ⟨⟨hF.1, hf 4, hf 6, trivial⟩, hf 10⟩) (cR [[], []] <| cX (qW [0] (fun _ _ w hG hK => range_any g a c zs (j + 3) 1 2 (by decide) hz w hK (hG.pK [0] (fun _ hF => ⟨hF.1, trivial⟩)) )) <| cR [[]] <| cX (qWJ [0] (fun _ _ w hG hK => mpath_any g a c zs (j + 4) hz w hK (hG.pK [0] (fun _ hF => ⟨hF.1, trivial⟩)) )) <| cR [[]] <| cX (qWJ [0] (fun _ _ w hG hK => mpath_any g a c zs (j + 4 + (9 + ptn zs (j + 4))) hz w hK (hG.pK [0] (fun _ hF => ⟨hF.1, trivial⟩)) )) <| cR [[], [], []] <| cX (qM 2 (fun ρ _ _ hG hg => appT_any (ty := 24) (g := nb ρ5 6) (ts := [(tN 3 (dN zs (j + 1) 300))]) (us := [(tM (1 + dN zs (j + 3) 2) zs (j + 4) (oa ρ 4) (nb ρ 4) (j + 4 + (9 + ptn zs (j + 4))) (oa ρ 6) (nb ρ 6) (nb ρ 7))]) Tryz.underlying24 (elike_of (sz := 36) (b := 80) (z := zTm) (by kernel_rfl) rfl) (At.fresh (z := zTm) rfl ([(tN 3 (dN zs (j + 1) 300))]) (nb2 ρ5 6)) (src_t1 (x := (tM (1 + dN zs (j + 3) 2) zs (j + 4) (oa ρ 4) (nb ρ 4) (j + 4 + (9 + ptn zs (j + 4))) (oa ρ 6) (nb ρ 6) (nb ρ 7))) Tryz.underlying24 (hG.kn (g := nb ρ 9) (o := (cL (tmV 2 ((1 + dN zs (j + 3) 2 : Nat) : Int) 0 0 (vs (nb ρ 7) 2 2)) 46)) 75)) (Nat.le_of_ble_eq_true rfl) (by decide) hg)) <| cR [[]] <| cN) (fun ρ7 ap7_10 => ?_)
   refine ok_ret ?_
   refine mt_then_r ?_
   refine mD [(0, (pt g)), (2, (vs (nb ρ7 10) (([(tN 3 (dN zs (j + 1) 300))]) ++ ([(tM (1 + dN zs (j + 3) 2) zs (j + 4) (oa ρ7 4) (nb ρ7 4) (j + 4 + (9 + ptn zs (j + 4))) (oa ρ7 6) (nb ρ7 6) (nb ρ7 7))])).length (nb2 ρ7 10))), (3, (vs (nb ρ5 6) ([(tN 3 (dN zs (j + 1) 300))]).length (([(tN 3 (dN zs (j + 1) 300))]).length + nb2 ρ5 6)))] [(g, (cL #[(.slice a (zs).length c), (vn (pN zs (j + 4 + (9 + ptn zs (j + 4)) + (9 + ptn zs (j + 4 + (9 + ptn zs (j + 4)))))))] 59)), (nb ρ5 5, (cL (tmV 3 0 ((dN zs (j + 1) 300 : Nat) : Int) 0 (.slice none 0 0)) 46)), (nb ρ7 10, (cL (oc ρ7 10) 46)), (nb ρ7 7, (cL ((kpV ((ptK zs (j + 4)).s) ((ptK zs (j + 4)).p) ((ptK zs (j + 4)).c) ((ptK zs (j + 4)).d) (((ptK zs (j + 4)).i : Nat) : Int) (((ptK zs (j + 4)).n : Nat) : Int) (.slice (oa ρ7 4) (nI (ptP zs (j + 4))).length (nb ρ7 4)) (.bool (ptB zs (j + 4)))) ++ (kpV ((ptK zs (j + 4 + (9 + ptn zs (j + 4)))).s) ((ptK zs (j + 4 + (9 + ptn zs (j + 4)))).p) ((ptK zs (j + 4 + (9 + ptn zs (j + 4)))).c) ((ptK zs (j + 4 + (9 + ptn zs (j + 4)))).d) (((ptK zs (j + 4 + (9 + ptn zs (j + 4)))).i : Nat) : Int) (((ptK zs (j + 4 + (9 + ptn zs (j + 4)))).n : Nat) : Int) (.slice (oa ρ7 6) (nI (ptP zs (j + 4 + (9 + ptn zs (j + 4))))).length (nb ρ7 6)) (.bool (ptB zs (j + 4 + (9 + ptn zs (j + 4))))))) 51)), (nb ρ7 9, (cL (tmV 2 ((1 + dN zs (j + 3) 2 : Nat) : Int) 0 0 (vs (nb ρ7 7) 2 2)) 46))] ?_
   exact mR (v := (vs (nb ρ7 10) (([(tN 3 (dN zs (j + 1) 300))]) ++ ([(tM (1 + dN zs (j + 3) 2) zs (j + 4) (oa ρ7 4) (nb ρ7 4) (j + 4 + (9 + ptn zs (j + 4))) (oa ρ7 6) (nb ρ7 6) (nb ρ7 7))])).length (nb2 ρ7 10))) (fun _ hS => ⟨_, _, ([(tN 3 (dN zs (j + 1) 300))]) ++ ([(tM (1 + dN zs (j + 3) 2) zs (j + 4) (oa ρ7 4) (nb ρ7 4) (j + 4 + (9 + ptn zs (j + 4))) (oa ρ7 6) (nb ρ7 6) (nb ρ7 7))]), (j + 4 + (9 + ptn zs (j + 4)) + (9 + ptn zs (j + 4 + (9 + ptn zs (j + 4))))), rfl, hS.below, hS.knows [1, 0, 0, 0, 0], made_all (fun b hb => hb) (hS.new1 rfl rfl (.tail _ (.head _))) ap7_10 (made_app (made_1 ⟨⟨(rng_lit (z := 3) (by decide)), (rng_lit (z := 0) (by decide)), (Nat.lt_of_lt_of_le (dN_lt zs (j + 1) (by decide)) (by decide)), zeroM⟩, persTrue (fun _ => KpF.nil), soft_0 rfl (show (3 : Int) ≠ 2 by decide)⟩) (made_1 ⟨⟨(rng_lit (z := 2) (by decide)), (rng_nat (by have := dN_lt zs (j + 3) (by decide : 0 < 2); omega)), (show (0 : Nat) < 4294967296 by decide), zeroM⟩, kf2 (fun b hb => hb) (hS.new1 rfl rfl (.tail _ (.tail _ (.head _)))) ((hS.facts.now.2.1).pers (fun b hb => hb)) (ptA_ok zs (j + 4) _ _) ((hS.facts.now.2.2.1).pers (fun b hb => hb)) (ptA_ok zs (j + 4 + (9 + ptn zs (j + 4))) _ _), soft_2 rfl (ptA_soft zs (j + 4) _ _) (ptA_soft zs (j + 4 + (9 + ptn zs (j + 4))) _ _)⟩)) (Nat.le_of_ble_eq_true rfl) (Nat.le_of_ble_eq_true rfl)⟩)
  ·
   refine sS Tryz.f6 8 [0, 2, 3, 49] [] (fun _ => [(pt g), (vn (dN zs (j + 2) 4)), (.bool false), (.bool false), undef, undef, undef, (.bool false)]) (fun _ => [(1, (pwt 0 g (cL #[(.slice a (zs).length c), (vn (pN zs (j + 3)))] 59)))]) (cR [[]] <| cX (qW [0] (fun _ _ w hG hK => next_any g a c zs (j + 2) 4 (by decide) hz w hK (hG.pK [0] (fun _ hF => ⟨hF.1, trivial⟩)) )) <| cA (fun _ => (.bool false)) (fun _ => congrArg Value.bool hb2) <| cR [[], [], [], [], []] <| cN) (fun _ => ?_)
   refine oN ?_
   refine ok_skip ?_
   refine mt_then ?_
   refine sSf Tryz.f6 8 [2] [] (fun ρ => [(vs (nb ρ5 6) ([(tN 3 (dN zs (j + 1) 300))]).length (([(tN 3 (dN zs (j + 1) 300))]).length + nb2 ρ5 6)), (pt g), (.agg (kpV ((ptK zs (j + 3)).s) ((ptK zs (j + 3)).p) ((ptK zs (j + 3)).c) ((ptK zs (j + 3)).d) (((ptK zs (j + 3)).i : Nat) : Int) (((ptK zs (j + 3)).n : Nat) : Int) (.slice (oa ρ 2) (nI (ptP zs (j + 3))).length (nb ρ 2)) (.bool (ptB zs (j + 3))))), (vs (nb ρ 3) 1 1), (.agg (tmV 1 0 0 0 (vs (nb ρ 3) 1 1))), (vs (nb ρ 5) 1 1), (vs (nb ρ 6) (([(tN 3 (dN zs (j + 1) 300))]) ++ ([(tK zs (j + 3) (oa ρ 2) (nb ρ 2) (nb ρ 3))])).length (nb2 ρ 6)), (vs (nb ρ 6) (([(tN 3 (dN zs (j + 1) 300))]) ++ ([(tK zs (j + 3) (oa ρ 2) (nb ρ 2) (nb ρ 3))])).length (nb2 ρ 6))]) (fun ρ => [(2, (pwt 0 g (cL #[(.slice a (zs).length c), (vn (pN zs (j + 3 + (9 + ptn zs (j + 3)))))] 59))), (3, (nw ρ 3 (cL (kpV ((ptK zs (j + 3)).s) ((ptK zs (j + 3)).p) ((ptK zs (j + 3)).c) ((ptK zs (j + 3)).d) (((ptK zs (j + 3)).i : Nat) : Int) (((ptK zs (j + 3)).n : Nat) : Int) (.slice (oa ρ 2) (nI (ptP zs (j + 3))).length (nb ρ 2)) (.bool (ptB zs (j + 3)))) 51))), (5, (nw ρ 5 (cL (tmV 1 0 0 0 (vs (nb ρ 3) 1 1)) 46))), (6, (pwt 2 (nb ρ 6) (cL (oc ρ 6) 46)))]) (fun ρ => [(2, fun w => Fi w0 w .u32 (oa ρ 2) (nb ρ 2) (nI (ptP zs (j + 3)))), (6, fun w => At (oc ρ 6) (([(tN 3 (dN zs (j + 1) 300))]) ++ ([(tK zs (j + 3) (oa ρ 2) (nb ρ 2) (nb ρ 3))])) (nb2 ρ 6))]) (fun ρ => (fun w => Is w .i64 a c zs ∧ Fi w0 w .u32 (oa ρ 2) (nb ρ 2) (nI (ptP zs (j + 3))) ∧ True)) (fun ρ => At (oc ρ 6) (([(tN 3 (dN zs (j + 1) 300))]) ++ ([(tK zs (j + 3) (oa ρ 2) (nb ρ 2) (nb ρ 3))])) (nb2 ρ 6)) (fun _ _ hF hf => ⟨⟨hF.1, hf 2, trivial⟩, hf 6⟩) (cR [[], []] <| cX (qWJ [0] (fun _ _ w hG hK => mpath_any g a c zs (j + 3) hz w hK (hG.pK [0] (fun _ hF => ⟨hF.1, trivial⟩)) )) <| cR [[], [], []] <| cX (qM 2 (fun ρ _ _ hG hg => appT_any (ty := 24) (g := nb ρ5 6) (ts := [(tN 3 (dN zs (j + 1) 300))]) (us := [(tK zs (j + 3) (oa ρ 2) (nb ρ 2) (nb ρ 3))]) Tryz.underlying24 (elike_of (sz := 36) (b := 80) (z := zTm) (by kernel_rfl) rfl) (At.fresh (z := zTm) rfl ([(tN 3 (dN zs (j + 1) 300))]) (nb2 ρ5 6)) (src_t1 (x := (tK zs (j + 3) (oa ρ 2) (nb ρ 2) (nb ρ 3))) Tryz.underlying24 (hG.kn (g := nb ρ 5) (o := (cL (tmV 1 0 0 0 (vs (nb ρ 3) 1 1)) 46)) 43)) (Nat.le_of_ble_eq_true rfl) (by decide) hg)) <| cR [[]] <| cN) (fun ρ9 ap9_6 => ?_)
   refine ok_ret ?_
   refine mD [(2, (vs (nb ρ9 6) (([(tN 3 (dN zs (j + 1) 300))]) ++ ([(tK zs (j + 3) (oa ρ9 2) (nb ρ9 2) (nb ρ9 3))])).length (nb2 ρ9 6)))] [(g, (cL #[(.slice a (zs).length c), (vn (pN zs (j + 3 + (9 + ptn zs (j + 3)))))] 59)), (nb ρ5 5, (cL (tmV 3 0 ((dN zs (j + 1) 300 : Nat) : Int) 0 (.slice none 0 0)) 46)), (nb ρ9 6, (cL (oc ρ9 6) 46)), (nb ρ9 3, (cL (kpV ((ptK zs (j + 3)).s) ((ptK zs (j + 3)).p) ((ptK zs (j + 3)).c) ((ptK zs (j + 3)).d) (((ptK zs (j + 3)).i : Nat) : Int) (((ptK zs (j + 3)).n : Nat) : Int) (.slice (oa ρ9 2) (nI (ptP zs (j + 3))).length (nb ρ9 2)) (.bool (ptB zs (j + 3)))) 51)), (nb ρ9 5, (cL (tmV 1 0 0 0 (vs (nb ρ9 3) 1 1)) 46))] ?_
   exact mR (v := (vs (nb ρ9 6) (([(tN 3 (dN zs (j + 1) 300))]) ++ ([(tK zs (j + 3) (oa ρ9 2) (nb ρ9 2) (nb ρ9 3))])).length (nb2 ρ9 6))) (fun _ hS => ⟨_, _, ([(tN 3 (dN zs (j + 1) 300))]) ++ ([(tK zs (j + 3) (oa ρ9 2) (nb ρ9 2) (nb ρ9 3))]), (j + 3 + (9 + ptn zs (j + 3))), rfl, hS.below, hS.knows [1, 0, 0, 0, 0], made_all (fun b hb => hb) (hS.new1 rfl rfl (.tail _ (.head _))) ap9_6 (made_app (made_1 ⟨⟨(rng_lit (z := 3) (by decide)), (rng_lit (z := 0) (by decide)), (Nat.lt_of_lt_of_le (dN_lt zs (j + 1) (by decide)) (by decide)), zeroM⟩, persTrue (fun _ => KpF.nil), soft_0 rfl (show (3 : Int) ≠ 2 by decide)⟩) (made_1 ⟨⟨(rng_lit (z := 1) (by decide)), (rng_lit (z := 0) (by decide)), (show (0 : Nat) < 4294967296 by decide), zeroM⟩, kf1 (fun b hb => hb) (hS.new1 rfl rfl (.tail _ (.tail _ (.head _)))) ((hS.facts.now.2.1).pers (fun b hb => hb)) (ptA_ok zs (j + 3) _ _), soft_1 rfl (show (1 : Int) ≠ 2 by decide) (ptA_soft zs (j + 3) _ _)⟩)) (Nat.le_of_ble_eq_true rfl) (Nat.le_of_ble_eq_true rfl)⟩)
 ·
  rw [hb1]
  refine sS Tryz.f6 2 [0, 2, 3, 5, 15] [] (fun _ => [(.bool (((dN zs j 6 : Nat) : Int) == 1)), (.bool (((dN zs j 6 : Nat) : Int) == 1))]) (fun _ => []) (cR [[], []] <| cN) (fun _ => ?_)
  refine oC (((dN zs j 6 : Nat) : Int) == 1) (fun hb3 => ?_) (fun hb3 => ?_)
  ·
   rw [hb3]
   refine rS Tryz.f6 8 [0, 2, 3] [] (fun ρ => [(.slice none 0 0), (pt g), (vn (dN zs (j + 1) 300)), (.int .u32 ((dN zs (j + 1) 300 : Nat) : Int)), (.agg (tmV 4 0 ((dN zs (j + 1) 300 : Nat) : Int) 0 (.slice none 0 0))), (vs (nb ρ 5) 1 1), (vs (nb ρ 6) ([(tN 4 (dN zs (j + 1) 300))]).length (([(tN 4 (dN zs (j + 1) 300))]).length + nb2 ρ 6)), (vs (nb ρ 6) ([(tN 4 (dN zs (j + 1) 300))]).length (([(tN 4 (dN zs (j + 1) 300))]).length + nb2 ρ 6))]) (fun ρ => [(2, (pwt 0 g (cL #[(.slice a (zs).length c), (vn (pN zs (j + 2)))] 59))), (5, (nw ρ 5 (cL (tmV 4 0 ((dN zs (j + 1) 300 : Nat) : Int) 0 (.slice none 0 0)) 46))), (6, (nw ρ 6 (cL ((tmR ([(tN 4 (dN zs (j + 1) 300))])).toArray ++ Builtin.zeroCells (Value.cells zTm) (nb2 ρ 6)) 46)))]) (cR [[], []] <| cX (qW [0] (fun _ _ w hG hK => next_any g a c zs (j + 1) 300 (by decide) hz w hK (hG.pK [0] (fun _ hF => ⟨hF.1, trivial⟩)) )) <| cA (v := fun ρ => (.int .u32 (IntKind.u32.wrap (((dN zs (j + 1) 300 : Nat) : Int))))) (fun _ => (.int .u32 ((dN zs (j + 1) 300 : Nat) : Int))) (fun _ => congrArg (Value.int .u32) (u32N (Nat.lt_of_lt_of_le (dN_lt zs (j + 1) (by decide)) (by decide)))) <| cR [[], []] <| cX (qN (fun _ ζ => (vs (ζ.headD 0) ([(tN 4 (dN zs (j + 1) 300))]).length (([(tN 4 (dN zs (j + 1) 300))]).length + ζ.tail.headD 0))) (fun _ ζ => (cL ((tmR ([(tN 4 (dN zs (j + 1) 300))])).toArray ++ Builtin.zeroCells (Value.cells zTm) (ζ.tail.headD 0)) 46)) (fun ρ _ _ hG => appT_nil (ty := 24) (us := [(tN 4 (dN zs (j + 1) 300))]) Tryz.underlying24 (elike_of (sz := 36) (b := 80) (z := zTm) (by kernel_rfl) rfl) (src_t1 (x := (tN 4 (dN zs (j + 1) 300))) Tryz.underlying24 (hG.kn (g := nb ρ 5) (o := (cL (tmV 4 0 ((dN zs (j + 1) 300 : Nat) : Int) 0 (.slice none 0 0)) 46)) 41)) (Nat.le_of_ble_eq_true rfl) (Nat.le_of_ble_eq_true rfl) (by decide))) <| cR [[]] <| cN) (fun ρ11 => ?_)
   refine mt_block_n ?_
   refine mt_then ?_
   refine ok_seq ?_
   rcases Bool.eq_false_or_eq_true (((dN zs (j + 2) 4 : Nat) : Int) == 0) with hb4 | hb4
   ·
    refine sS Tryz.f6 8 [0, 2, 3, 49] [] (fun _ => [(pt g), (vn (dN zs (j + 2) 4)), (.bool true), (.bool true), (vs (nb ρ11 6) ([(tN 4 (dN zs (j + 1) 300))]).length (([(tN 4 (dN zs (j + 1) 300))]).length + nb2 ρ11 6)), (vi 1), (.bool true), (.bool true)]) (fun _ => [(1, (pwt 0 g (cL #[(.slice a (zs).length c), (vn (pN zs (j + 3)))] 59)))]) (cR [[]] <| cX (qW [0] (fun _ _ w hG hK => next_any g a c zs (j + 2) 4 (by decide) hz w hK (hG.pK [0] (fun _ hF => ⟨hF.1, trivial⟩)) )) <| cA (fun _ => (.bool true)) (fun _ => congrArg Value.bool hb4) <| cR [[], [], [], [], []] <| cN) (fun _ => ?_)
    refine dRs [(0, (pt g)), (2, (.slice none 0 0)), (3, (vs (nb ρ11 6) ([(tN 4 (dN zs (j + 1) 300))]).length (([(tN 4 (dN zs (j + 1) 300))]).length + nb2 ρ11 6))), (49, (.bool true))] [(g, (cL #[(.slice a (zs).length c), (vn (pN zs (j + 3)))] 59)), (nb ρ11 5, (cL (tmV 4 0 ((dN zs (j + 1) 300 : Nat) : Int) 0 (.slice none 0 0)) 46)), (nb ρ11 6, (cL ((tmR ([(tN 4 (dN zs (j + 1) 300))])).toArray ++ Builtin.zeroCells (Value.cells zTm) (nb2 ρ11 6)) 46))] ?_
    refine oY ?_
    refine sSf Tryz.f6 12 [0, 2, 3] [] (fun ρ => [(vs (nb ρ11 6) ([(tN 4 (dN zs (j + 1) 300))]).length (([(tN 4 (dN zs (j + 1) 300))]).length + nb2 ρ11 6)), (pt g), (vn (1 + dN zs (j + 3) 2)), (pt g), (.agg (kpV ((ptK zs (j + 4)).s) ((ptK zs (j + 4)).p) ((ptK zs (j + 4)).c) ((ptK zs (j + 4)).d) (((ptK zs (j + 4)).i : Nat) : Int) (((ptK zs (j + 4)).n : Nat) : Int) (.slice (oa ρ 4) (nI (ptP zs (j + 4))).length (nb ρ 4)) (.bool (ptB zs (j + 4))))), (pt g), (.agg (kpV ((ptK zs (j + 4 + (9 + ptn zs (j + 4)))).s) ((ptK zs (j + 4 + (9 + ptn zs (j + 4)))).p) ((ptK zs (j + 4 + (9 + ptn zs (j + 4)))).c) ((ptK zs (j + 4 + (9 + ptn zs (j + 4)))).d) (((ptK zs (j + 4 + (9 + ptn zs (j + 4)))).i : Nat) : Int) (((ptK zs (j + 4 + (9 + ptn zs (j + 4)))).n : Nat) : Int) (.slice (oa ρ 6) (nI (ptP zs (j + 4 + (9 + ptn zs (j + 4))))).length (nb ρ 6)) (.bool (ptB zs (j + 4 + (9 + ptn zs (j + 4))))))), (vs (nb ρ 7) 2 2), (.agg (tmV 2 ((1 + dN zs (j + 3) 2 : Nat) : Int) 0 0 (vs (nb ρ 7) 2 2))), (vs (nb ρ 9) 1 1), (vs (nb ρ 10) (([(tN 4 (dN zs (j + 1) 300))]) ++ ([(tM (1 + dN zs (j + 3) 2) zs (j + 4) (oa ρ 4) (nb ρ 4) (j + 4 + (9 + ptn zs (j + 4))) (oa ρ 6) (nb ρ 6) (nb ρ 7))])).length (nb2 ρ 10)), (vs (nb ρ 10) (([(tN 4 (dN zs (j + 1) 300))]) ++ ([(tM (1 + dN zs (j + 3) 2) zs (j + 4) (oa ρ 4) (nb ρ 4) (j + 4 + (9 + ptn zs (j + 4))) (oa ρ 6) (nb ρ 6) (nb ρ 7))])).length (nb2 ρ 10))]) (fun ρ => [(2, (pwt 0 g (cL #[(.slice a (zs).length c), (vn (pN zs (j + 4)))] 59))), (4, (pwt 0 g (cL #[(.slice a (zs).length c), (vn (pN zs (j + 4 + (9 + ptn zs (j + 4)))))] 59))), (6, (pwt 0 g (cL #[(.slice a (zs).length c), (vn (pN zs (j + 4 + (9 + ptn zs (j + 4)) + (9 + ptn zs (j + 4 + (9 + ptn zs (j + 4)))))))] 59))), (7, (nw ρ 7 (cL ((kpV ((ptK zs (j + 4)).s) ((ptK zs (j + 4)).p) ((ptK zs (j + 4)).c) ((ptK zs (j + 4)).d) (((ptK zs (j + 4)).i : Nat) : Int) (((ptK zs (j + 4)).n : Nat) : Int) (.slice (oa ρ 4) (nI (ptP zs (j + 4))).length (nb ρ 4)) (.bool (ptB zs (j + 4)))) ++ (kpV ((ptK zs (j + 4 + (9 + ptn zs (j + 4)))).s) ((ptK zs (j + 4 + (9 + ptn zs (j + 4)))).p) ((ptK zs (j + 4 + (9 + ptn zs (j + 4)))).c) ((ptK zs (j + 4 + (9 + ptn zs (j + 4)))).d) (((ptK zs (j + 4 + (9 + ptn zs (j + 4)))).i : Nat) : Int) (((ptK zs (j + 4 + (9 + ptn zs (j + 4)))).n : Nat) : Int) (.slice (oa ρ 6) (nI (ptP zs (j + 4 + (9 + ptn zs (j + 4))))).length (nb ρ 6)) (.bool (ptB zs (j + 4 + (9 + ptn zs (j + 4))))))) 51))), (9, (nw ρ 9 (cL (tmV 2 ((1 + dN zs (j + 3) 2 : Nat) : Int) 0 0 (vs (nb ρ 7) 2 2)) 46))), (10, (pwt 2 (nb ρ 10) (cL (oc ρ 10) 46)))]) (fun ρ => [(4, fun w => Fi w0 w .u32 (oa ρ 4) (nb ρ 4) (nI (ptP zs (j + 4)))), (6, fun w => Fi w0 w .u32 (oa ρ 6) (nb ρ 6) (nI (ptP zs (j + 4 + (9 + ptn zs (j + 4)))))), (10, fun w => At (oc ρ 10) (([(tN 4 (dN zs (j + 1) 300))]) ++ ([(tM (1 + dN zs (j + 3) 2) zs (j + 4) (oa ρ 4) (nb ρ 4) (j + 4 + (9 + ptn zs (j + 4))) (oa ρ 6) (nb ρ 6) (nb ρ 7))])) (nb2 ρ 10))]) (fun ρ => (fun w => Is w .i64 a c zs ∧ Fi w0 w .u32 (oa ρ 4) (nb ρ 4) (nI (ptP zs (j + 4))) ∧ Fi w0 w .u32 (oa ρ 6) (nb ρ 6) (nI (ptP zs (j + 4 + (9 + ptn zs (j + 4))))) ∧ True)) (fun ρ => At (oc ρ 10) (([(tN 4 (dN zs (j + 1) 300))]) ++ ([(tM (1 + dN zs (j + 3) 2) zs (j + 4) (oa ρ 4) (nb ρ 4) (j + 4 + (9 + ptn zs (j + 4))) (oa ρ 6) (nb ρ 6) (nb ρ 7))])) (nb2 ρ 10)) (fun _ _ hF hf => ⟨⟨hF.1, hf 4, hf 6, trivial⟩, hf 10⟩) (cR [[], []] <| cX (qW [0] (fun _ _ w hG hK => range_any g a c zs (j + 3) 1 2 (by decide) hz w hK (hG.pK [0] (fun _ hF => ⟨hF.1, trivial⟩)) )) <| cR [[]] <| cX (qWJ [0] (fun _ _ w hG hK => mpath_any g a c zs (j + 4) hz w hK (hG.pK [0] (fun _ hF => ⟨hF.1, trivial⟩)) )) <| cR [[]] <| cX (qWJ [0] (fun _ _ w hG hK => mpath_any g a c zs (j + 4 + (9 + ptn zs (j + 4))) hz w hK (hG.pK [0] (fun _ hF => ⟨hF.1, trivial⟩)) )) <| cR [[], [], []] <| cX (qM 2 (fun ρ _ _ hG hg => appT_any (ty := 24) (g := nb ρ11 6) (ts := [(tN 4 (dN zs (j + 1) 300))]) (us := [(tM (1 + dN zs (j + 3) 2) zs (j + 4) (oa ρ 4) (nb ρ 4) (j + 4 + (9 + ptn zs (j + 4))) (oa ρ 6) (nb ρ 6) (nb ρ 7))]) Tryz.underlying24 (elike_of (sz := 36) (b := 80) (z := zTm) (by kernel_rfl) rfl) (At.fresh (z := zTm) rfl ([(tN 4 (dN zs (j + 1) 300))]) (nb2 ρ11 6)) (src_t1 (x := (tM (1 + dN zs (j + 3) 2) zs (j + 4) (oa ρ 4) (nb ρ 4) (j + 4 + (9 + ptn zs (j + 4))) (oa ρ 6) (nb ρ 6) (nb ρ 7))) Tryz.underlying24 (hG.kn (g := nb ρ 9) (o := (cL (tmV 2 ((1 + dN zs (j + 3) 2 : Nat) : Int) 0 0 (vs (nb ρ 7) 2 2)) 46)) 75)) (Nat.le_of_ble_eq_true rfl) (by decide) hg)) <| cR [[]] <| cN) (fun ρ13 ap13_10 => ?_)
    refine ok_ret ?_
    refine mt_then_r ?_
    refine mD [(0, (pt g)), (2, (vs (nb ρ13 10) (([(tN 4 (dN zs (j + 1) 300))]) ++ ([(tM (1 + dN zs (j + 3) 2) zs (j + 4) (oa ρ13 4) (nb ρ13 4) (j + 4 + (9 + ptn zs (j + 4))) (oa ρ13 6) (nb ρ13 6) (nb ρ13 7))])).length (nb2 ρ13 10))), (3, (vs (nb ρ11 6) ([(tN 4 (dN zs (j + 1) 300))]).length (([(tN 4 (dN zs (j + 1) 300))]).length + nb2 ρ11 6)))] [(g, (cL #[(.slice a (zs).length c), (vn (pN zs (j + 4 + (9 + ptn zs (j + 4)) + (9 + ptn zs (j + 4 + (9 + ptn zs (j + 4)))))))] 59)), (nb ρ11 5, (cL (tmV 4 0 ((dN zs (j + 1) 300 : Nat) : Int) 0 (.slice none 0 0)) 46)), (nb ρ13 10, (cL (oc ρ13 10) 46)), (nb ρ13 7, (cL ((kpV ((ptK zs (j + 4)).s) ((ptK zs (j + 4)).p) ((ptK zs (j + 4)).c) ((ptK zs (j + 4)).d) (((ptK zs (j + 4)).i : Nat) : Int) (((ptK zs (j + 4)).n : Nat) : Int) (.slice (oa ρ13 4) (nI (ptP zs (j + 4))).length (nb ρ13 4)) (.bool (ptB zs (j + 4)))) ++ (kpV ((ptK zs (j + 4 + (9 + ptn zs (j + 4)))).s) ((ptK zs (j + 4 + (9 + ptn zs (j + 4)))).p) ((ptK zs (j + 4 + (9 + ptn zs (j + 4)))).c) ((ptK zs (j + 4 + (9 + ptn zs (j + 4)))).d) (((ptK zs (j + 4 + (9 + ptn zs (j + 4)))).i : Nat) : Int) (((ptK zs (j + 4 + (9 + ptn zs (j + 4)))).n : Nat) : Int) (.slice (oa ρ13 6) (nI (ptP zs (j + 4 + (9 + ptn zs (j + 4))))).length (nb ρ13 6)) (.bool (ptB zs (j + 4 + (9 + ptn zs (j + 4))))))) 51)), (nb ρ13 9, (cL (tmV 2 ((1 + dN zs (j + 3) 2 : Nat) : Int) 0 0 (vs (nb ρ13 7) 2 2)) 46))] ?_
    exact mR (v := (vs (nb ρ13 10) (([(tN 4 (dN zs (j + 1) 300))]) ++ ([(tM (1 + dN zs (j + 3) 2) zs (j + 4) (oa ρ13 4) (nb ρ13 4) (j + 4 + (9 + ptn zs (j + 4))) (oa ρ13 6) (nb ρ13 6) (nb ρ13 7))])).length (nb2 ρ13 10))) (fun _ hS => ⟨_, _, ([(tN 4 (dN zs (j + 1) 300))]) ++ ([(tM (1 + dN zs (j + 3) 2) zs (j + 4) (oa ρ13 4) (nb ρ13 4) (j + 4 + (9 + ptn zs (j + 4))) (oa ρ13 6) (nb ρ13 6) (nb ρ13 7))]), (j + 4 + (9 + ptn zs (j + 4)) + (9 + ptn zs (j + 4 + (9 + ptn zs (j + 4))))), rfl, hS.below, hS.knows [1, 0, 0, 0, 0], made_all (fun b hb => hb) (hS.new1 rfl rfl (.tail _ (.head _))) ap13_10 (made_app (made_1 ⟨⟨(rng_lit (z := 4) (by decide)), (rng_lit (z := 0) (by decide)), (Nat.lt_of_lt_of_le (dN_lt zs (j + 1) (by decide)) (by decide)), zeroM⟩, persTrue (fun _ => KpF.nil), soft_0 rfl (show (4 : Int) ≠ 2 by decide)⟩) (made_1 ⟨⟨(rng_lit (z := 2) (by decide)), (rng_nat (by have := dN_lt zs (j + 3) (by decide : 0 < 2); omega)), (show (0 : Nat) < 4294967296 by decide), zeroM⟩, kf2 (fun b hb => hb) (hS.new1 rfl rfl (.tail _ (.tail _ (.head _)))) ((hS.facts.now.2.1).pers (fun b hb => hb)) (ptA_ok zs (j + 4) _ _) ((hS.facts.now.2.2.1).pers (fun b hb => hb)) (ptA_ok zs (j + 4 + (9 + ptn zs (j + 4))) _ _), soft_2 rfl (ptA_soft zs (j + 4) _ _) (ptA_soft zs (j + 4 + (9 + ptn zs (j + 4))) _ _)⟩)) (Nat.le_of_ble_eq_true rfl) (Nat.le_of_ble_eq_true rfl)⟩)
   ·
    refine sS Tryz.f6 8 [0, 2, 3, 49] [] (fun _ => [(pt g), (vn (dN zs (j + 2) 4)), (.bool false), (.bool false), undef, undef, undef, (.bool false)]) (fun _ => [(1, (pwt 0 g (cL #[(.slice a (zs).length c), (vn (pN zs (j + 3)))] 59)))]) (cR [[]] <| cX (qW [0] (fun _ _ w hG hK => next_any g a c zs (j + 2) 4 (by decide) hz w hK (hG.pK [0] (fun _ hF => ⟨hF.1, trivial⟩)) )) <| cA (fun _ => (.bool false)) (fun _ => congrArg Value.bool hb4) <| cR [[], [], [], [], []] <| cN) (fun _ => ?_)
    refine dRs [(0, (pt g)), (2, (.slice none 0 0)), (3, (vs (nb ρ11 6) ([(tN 4 (dN zs (j + 1) 300))]).length (([(tN 4 (dN zs (j + 1) 300))]).length + nb2 ρ11 6))), (49, (.bool false))] [(g, (cL #[(.slice a (zs).length c), (vn (pN zs (j + 3)))] 59)), (nb ρ11 5, (cL (tmV 4 0 ((dN zs (j + 1) 300 : Nat) : Int) 0 (.slice none 0 0)) 46)), (nb ρ11 6, (cL ((tmR ([(tN 4 (dN zs (j + 1) 300))])).toArray ++ Builtin.zeroCells (Value.cells zTm) (nb2 ρ11 6)) 46))] ?_
    refine oN ?_
    refine ok_skip ?_
    refine mt_then ?_
    refine sSf Tryz.f6 8 [2] [] (fun ρ => [(vs (nb ρ11 6) ([(tN 4 (dN zs (j + 1) 300))]).length (([(tN 4 (dN zs (j + 1) 300))]).length + nb2 ρ11 6)), (pt g), (.agg (kpV ((ptK zs (j + 3)).s) ((ptK zs (j + 3)).p) ((ptK zs (j + 3)).c) ((ptK zs (j + 3)).d) (((ptK zs (j + 3)).i : Nat) : Int) (((ptK zs (j + 3)).n : Nat) : Int) (.slice (oa ρ 2) (nI (ptP zs (j + 3))).length (nb ρ 2)) (.bool (ptB zs (j + 3))))), (vs (nb ρ 3) 1 1), (.agg (tmV 1 0 0 0 (vs (nb ρ 3) 1 1))), (vs (nb ρ 5) 1 1), (vs (nb ρ 6) (([(tN 4 (dN zs (j + 1) 300))]) ++ ([(tK zs (j + 3) (oa ρ 2) (nb ρ 2) (nb ρ 3))])).length (nb2 ρ 6)), (vs (nb ρ 6) (([(tN 4 (dN zs (j + 1) 300))]) ++ ([(tK zs (j + 3) (oa ρ 2) (nb ρ 2) (nb ρ 3))])).length (nb2 ρ 6))]) (fun ρ => [(2, (pwt 0 g (cL #[(.slice a (zs).length c), (vn (pN zs (j + 3 + (9 + ptn zs (j + 3)))))] 59))), (3, (nw ρ 3 (cL (kpV ((ptK zs (j + 3)).s) ((ptK zs (j + 3)).p) ((ptK zs (j + 3)).c) ((ptK zs (j + 3)).d) (((ptK zs (j + 3)).i : Nat) : Int) (((ptK zs (j + 3)).n : Nat) : Int) (.slice (oa ρ 2) (nI (ptP zs (j + 3))).length (nb ρ 2)) (.bool (ptB zs (j + 3)))) 51))), (5, (nw ρ 5 (cL (tmV 1 0 0 0 (vs (nb ρ 3) 1 1)) 46))), (6, (pwt 2 (nb ρ 6) (cL (oc ρ 6) 46)))]) (fun ρ => [(2, fun w => Fi w0 w .u32 (oa ρ 2) (nb ρ 2) (nI (ptP zs (j + 3)))), (6, fun w => At (oc ρ 6) (([(tN 4 (dN zs (j + 1) 300))]) ++ ([(tK zs (j + 3) (oa ρ 2) (nb ρ 2) (nb ρ 3))])) (nb2 ρ 6))]) (fun ρ => (fun w => Is w .i64 a c zs ∧ Fi w0 w .u32 (oa ρ 2) (nb ρ 2) (nI (ptP zs (j + 3))) ∧ True)) (fun ρ => At (oc ρ 6) (([(tN 4 (dN zs (j + 1) 300))]) ++ ([(tK zs (j + 3) (oa ρ 2) (nb ρ 2) (nb ρ 3))])) (nb2 ρ 6)) (fun _ _ hF hf => ⟨⟨hF.1, hf 2, trivial⟩, hf 6⟩) (cR [[], []] <| cX (qWJ [0] (fun _ _ w hG hK => mpath_any g a c zs (j + 3) hz w hK (hG.pK [0] (fun _ hF => ⟨hF.1, trivial⟩)) )) <| cR [[], [], []] <| cX (qM 2 (fun ρ _ _ hG hg => appT_any (ty := 24) (g := nb ρ11 6) (ts := [(tN 4 (dN zs (j + 1) 300))]) (us := [(tK zs (j + 3) (oa ρ 2) (nb ρ 2) (nb ρ 3))]) Tryz.underlying24 (elike_of (sz := 36) (b := 80) (z := zTm) (by kernel_rfl) rfl) (At.fresh (z := zTm) rfl ([(tN 4 (dN zs (j + 1) 300))]) (nb2 ρ11 6)) (src_t1 (x := (tK zs (j + 3) (oa ρ 2) (nb ρ 2) (nb ρ 3))) Tryz.underlying24 (hG.kn (g := nb ρ 5) (o := (cL (tmV 1 0 0 0 (vs (nb ρ 3) 1 1)) 46)) 43)) (Nat.le_of_ble_eq_true rfl) (by decide) hg)) <| cR [[]] <| cN) (fun ρ15 ap15_6 => ?_)
    refine ok_ret ?_
    refine mD [(2, (vs (nb ρ15 6) (([(tN 4 (dN zs (j + 1) 300))]) ++ ([(tK zs (j + 3) (oa ρ15 2) (nb ρ15 2) (nb ρ15 3))])).length (nb2 ρ15 6)))] [(g, (cL #[(.slice a (zs).length c), (vn (pN zs (j + 3 + (9 + ptn zs (j + 3)))))] 59)), (nb ρ11 5, (cL (tmV 4 0 ((dN zs (j + 1) 300 : Nat) : Int) 0 (.slice none 0 0)) 46)), (nb ρ15 6, (cL (oc ρ15 6) 46)), (nb ρ15 3, (cL (kpV ((ptK zs (j + 3)).s) ((ptK zs (j + 3)).p) ((ptK zs (j + 3)).c) ((ptK zs (j + 3)).d) (((ptK zs (j + 3)).i : Nat) : Int) (((ptK zs (j + 3)).n : Nat) : Int) (.slice (oa ρ15 2) (nI (ptP zs (j + 3))).length (nb ρ15 2)) (.bool (ptB zs (j + 3)))) 51)), (nb ρ15 5, (cL (tmV 1 0 0 0 (vs (nb ρ15 3) 1 1)) 46))] ?_
    exact mR (v := (vs (nb ρ15 6) (([(tN 4 (dN zs (j + 1) 300))]) ++ ([(tK zs (j + 3) (oa ρ15 2) (nb ρ15 2) (nb ρ15 3))])).length (nb2 ρ15 6))) (fun _ hS => ⟨_, _, ([(tN 4 (dN zs (j + 1) 300))]) ++ ([(tK zs (j + 3) (oa ρ15 2) (nb ρ15 2) (nb ρ15 3))]), (j + 3 + (9 + ptn zs (j + 3))), rfl, hS.below, hS.knows [1, 0, 0, 0, 0], made_all (fun b hb => hb) (hS.new1 rfl rfl (.tail _ (.head _))) ap15_6 (made_app (made_1 ⟨⟨(rng_lit (z := 4) (by decide)), (rng_lit (z := 0) (by decide)), (Nat.lt_of_lt_of_le (dN_lt zs (j + 1) (by decide)) (by decide)), zeroM⟩, persTrue (fun _ => KpF.nil), soft_0 rfl (show (4 : Int) ≠ 2 by decide)⟩) (made_1 ⟨⟨(rng_lit (z := 1) (by decide)), (rng_lit (z := 0) (by decide)), (show (0 : Nat) < 4294967296 by decide), zeroM⟩, kf1 (fun b hb => hb) (hS.new1 rfl rfl (.tail _ (.tail _ (.head _)))) ((hS.facts.now.2.1).pers (fun b hb => hb)) (ptA_ok zs (j + 3) _ _), soft_1 rfl (show (1 : Int) ≠ 2 by decide) (ptA_soft zs (j + 3) _ _)⟩)) (Nat.le_of_ble_eq_true rfl) (Nat.le_of_ble_eq_true rfl)⟩)
  ·
   rw [hb3]
   refine sS Tryz.f6 2 [0, 2, 3, 5, 24] [] (fun _ => [(.bool (((dN zs j 6 : Nat) : Int) == 2)), (.bool (((dN zs j 6 : Nat) : Int) == 2))]) (fun _ => []) (cR [[], []] <| cN) (fun _ => ?_)
   refine oC (((dN zs j 6 : Nat) : Int) == 2) (fun hb5 => ?_) (fun hb5 => ?_)
   ·
    rw [hb5]
    refine rS Tryz.f6 7 [0, 2, 3] [] (fun ρ => [(.slice none 0 0), (pt g), (.agg (hB hv)), (.agg (tmV 5 0 0 hv (.slice none 0 0))), (vs (nb ρ 4) 1 1), (vs (nb ρ 5) ([(tH hv)]).length (([(tH hv)]).length + nb2 ρ 5)), (vs (nb ρ 5) ([(tH hv)]).length (([(tH hv)]).length + nb2 ρ 5))]) (fun ρ => [(2, (pwt 0 g (cL #[(.slice a (zs).length c), (vn (pN zs (j + 3)))] 59))), (4, (nw ρ 4 (cL (tmV 5 0 0 hv (.slice none 0 0)) 46))), (5, (nw ρ 5 (cL ((tmR ([(tH hv)])).toArray ++ Builtin.zeroCells (Value.cells zTm) (nb2 ρ 5)) 46)))]) (cR [[], []] <| cX (o_callW _ [0] 18 (fun _ => #[(pt g)]) (fun _ => (.agg (hB hv))) (fun _ => [(g, (cL #[(.slice a (zs).length c), (vn (pN zs (j + 1)))] 59))]) (fun _ => [(g, (cL #[(.slice a (zs).length c), (vn (pN zs (j + 3)))] 59))]) (fun _ _ w hG hK => (by as_aux_lemma => (have hcall := mhash_any g a c zs (j + 1)  hz w hK (hG.pK [0] (fun _ hF => ⟨hF.1, trivial⟩)) ; rw [ehv] at hcall; exact hcall)))) <| cR [[], []] <| cX (qN (fun _ ζ => (vs (ζ.headD 0) ([(tH hv)]).length (([(tH hv)]).length + ζ.tail.headD 0))) (fun _ ζ => (cL ((tmR ([(tH hv)])).toArray ++ Builtin.zeroCells (Value.cells zTm) (ζ.tail.headD 0)) 46)) (fun ρ _ _ hG => appT_nil (ty := 24) (us := [(tH hv)]) Tryz.underlying24 (elike_of (sz := 36) (b := 80) (z := zTm) (by kernel_rfl) rfl) (src_t1 (x := (tH hv)) Tryz.underlying24 (hG.kn (g := nb ρ 4) (o := (cL (tmV 5 0 0 hv (.slice none 0 0)) 46)) 33)) (Nat.le_of_ble_eq_true rfl) (Nat.le_of_ble_eq_true rfl) (by decide))) <| cR [[]] <| cN) (fun ρ17 => ?_)
    refine mt_block_n ?_
    refine mt_then ?_
    refine ok_seq ?_
    rcases Bool.eq_false_or_eq_true (((dN zs (j + 3) 4 : Nat) : Int) == 0) with hb6 | hb6
    ·
     refine sS Tryz.f6 8 [0, 2, 3, 49] [] (fun _ => [(pt g), (vn (dN zs (j + 3) 4)), (.bool true), (.bool true), (vs (nb ρ17 5) ([(tH hv)]).length (([(tH hv)]).length + nb2 ρ17 5)), (vi 1), (.bool true), (.bool true)]) (fun _ => [(1, (pwt 0 g (cL #[(.slice a (zs).length c), (vn (pN zs (j + 4)))] 59)))]) (cR [[]] <| cX (qW [0] (fun _ _ w hG hK => next_any g a c zs (j + 3) 4 (by decide) hz w hK (hG.pK [0] (fun _ hF => ⟨hF.1, trivial⟩)) )) <| cA (fun _ => (.bool true)) (fun _ => congrArg Value.bool hb6) <| cR [[], [], [], [], []] <| cN) (fun _ => ?_)
     refine dRs [(0, (pt g)), (2, (.slice none 0 0)), (3, (vs (nb ρ17 5) ([(tH hv)]).length (([(tH hv)]).length + nb2 ρ17 5))), (49, (.bool true))] [(g, (cL #[(.slice a (zs).length c), (vn (pN zs (j + 4)))] 59)), (nb ρ17 4, (cL (tmV 5 0 0 hv (.slice none 0 0)) 46)), (nb ρ17 5, (cL ((tmR ([(tH hv)])).toArray ++ Builtin.zeroCells (Value.cells zTm) (nb2 ρ17 5)) 46))] ?_
     refine oY ?_
     refine sSf Tryz.f6 12 [0, 2, 3] [] (fun ρ => [(vs (nb ρ17 5) ([(tH hv)]).length (([(tH hv)]).length + nb2 ρ17 5)), (pt g), (vn (1 + dN zs (j + 4) 2)), (pt g), (.agg (kpV ((ptK zs (j + 5)).s) ((ptK zs (j + 5)).p) ((ptK zs (j + 5)).c) ((ptK zs (j + 5)).d) (((ptK zs (j + 5)).i : Nat) : Int) (((ptK zs (j + 5)).n : Nat) : Int) (.slice (oa ρ 4) (nI (ptP zs (j + 5))).length (nb ρ 4)) (.bool (ptB zs (j + 5))))), (pt g), (.agg (kpV ((ptK zs (j + 5 + (9 + ptn zs (j + 5)))).s) ((ptK zs (j + 5 + (9 + ptn zs (j + 5)))).p) ((ptK zs (j + 5 + (9 + ptn zs (j + 5)))).c) ((ptK zs (j + 5 + (9 + ptn zs (j + 5)))).d) (((ptK zs (j + 5 + (9 + ptn zs (j + 5)))).i : Nat) : Int) (((ptK zs (j + 5 + (9 + ptn zs (j + 5)))).n : Nat) : Int) (.slice (oa ρ 6) (nI (ptP zs (j + 5 + (9 + ptn zs (j + 5))))).length (nb ρ 6)) (.bool (ptB zs (j + 5 + (9 + ptn zs (j + 5))))))), (vs (nb ρ 7) 2 2), (.agg (tmV 2 ((1 + dN zs (j + 4) 2 : Nat) : Int) 0 0 (vs (nb ρ 7) 2 2))), (vs (nb ρ 9) 1 1), (vs (nb ρ 10) (([(tH hv)]) ++ ([(tM (1 + dN zs (j + 4) 2) zs (j + 5) (oa ρ 4) (nb ρ 4) (j + 5 + (9 + ptn zs (j + 5))) (oa ρ 6) (nb ρ 6) (nb ρ 7))])).length (nb2 ρ 10)), (vs (nb ρ 10) (([(tH hv)]) ++ ([(tM (1 + dN zs (j + 4) 2) zs (j + 5) (oa ρ 4) (nb ρ 4) (j + 5 + (9 + ptn zs (j + 5))) (oa ρ 6) (nb ρ 6) (nb ρ 7))])).length (nb2 ρ 10))]) (fun ρ => [(2, (pwt 0 g (cL #[(.slice a (zs).length c), (vn (pN zs (j + 5)))] 59))), (4, (pwt 0 g (cL #[(.slice a (zs).length c), (vn (pN zs (j + 5 + (9 + ptn zs (j + 5)))))] 59))), (6, (pwt 0 g (cL #[(.slice a (zs).length c), (vn (pN zs (j + 5 + (9 + ptn zs (j + 5)) + (9 + ptn zs (j + 5 + (9 + ptn zs (j + 5)))))))] 59))), (7, (nw ρ 7 (cL ((kpV ((ptK zs (j + 5)).s) ((ptK zs (j + 5)).p) ((ptK zs (j + 5)).c) ((ptK zs (j + 5)).d) (((ptK zs (j + 5)).i : Nat) : Int) (((ptK zs (j + 5)).n : Nat) : Int) (.slice (oa ρ 4) (nI (ptP zs (j + 5))).length (nb ρ 4)) (.bool (ptB zs (j + 5)))) ++ (kpV ((ptK zs (j + 5 + (9 + ptn zs (j + 5)))).s) ((ptK zs (j + 5 + (9 + ptn zs (j + 5)))).p) ((ptK zs (j + 5 + (9 + ptn zs (j + 5)))).c) ((ptK zs (j + 5 + (9 + ptn zs (j + 5)))).d) (((ptK zs (j + 5 + (9 + ptn zs (j + 5)))).i : Nat) : Int) (((ptK zs (j + 5 + (9 + ptn zs (j + 5)))).n : Nat) : Int) (.slice (oa ρ 6) (nI (ptP zs (j + 5 + (9 + ptn zs (j + 5))))).length (nb ρ 6)) (.bool (ptB zs (j + 5 + (9 + ptn zs (j + 5))))))) 51))), (9, (nw ρ 9 (cL (tmV 2 ((1 + dN zs (j + 4) 2 : Nat) : Int) 0 0 (vs (nb ρ 7) 2 2)) 46))), (10, (pwt 2 (nb ρ 10) (cL (oc ρ 10) 46)))]) (fun ρ => [(4, fun w => Fi w0 w .u32 (oa ρ 4) (nb ρ 4) (nI (ptP zs (j + 5)))), (6, fun w => Fi w0 w .u32 (oa ρ 6) (nb ρ 6) (nI (ptP zs (j + 5 + (9 + ptn zs (j + 5)))))), (10, fun w => At (oc ρ 10) (([(tH hv)]) ++ ([(tM (1 + dN zs (j + 4) 2) zs (j + 5) (oa ρ 4) (nb ρ 4) (j + 5 + (9 + ptn zs (j + 5))) (oa ρ 6) (nb ρ 6) (nb ρ 7))])) (nb2 ρ 10))]) (fun ρ => (fun w => Is w .i64 a c zs ∧ Fi w0 w .u32 (oa ρ 4) (nb ρ 4) (nI (ptP zs (j + 5))) ∧ Fi w0 w .u32 (oa ρ 6) (nb ρ 6) (nI (ptP zs (j + 5 + (9 + ptn zs (j + 5))))) ∧ True)) (fun ρ => At (oc ρ 10) (([(tH hv)]) ++ ([(tM (1 + dN zs (j + 4) 2) zs (j + 5) (oa ρ 4) (nb ρ 4) (j + 5 + (9 + ptn zs (j + 5))) (oa ρ 6) (nb ρ 6) (nb ρ 7))])) (nb2 ρ 10)) (fun _ _ hF hf => ⟨⟨hF.1, hf 4, hf 6, trivial⟩, hf 10⟩) (cR [[], []] <| cX (qW [0] (fun _ _ w hG hK => range_any g a c zs (j + 4) 1 2 (by decide) hz w hK (hG.pK [0] (fun _ hF => ⟨hF.1, trivial⟩)) )) <| cR [[]] <| cX (qWJ [0] (fun _ _ w hG hK => mpath_any g a c zs (j + 5) hz w hK (hG.pK [0] (fun _ hF => ⟨hF.1, trivial⟩)) )) <| cR [[]] <| cX (qWJ [0] (fun _ _ w hG hK => mpath_any g a c zs (j + 5 + (9 + ptn zs (j + 5))) hz w hK (hG.pK [0] (fun _ hF => ⟨hF.1, trivial⟩)) )) <| cR [[], [], []] <| cX (qM 2 (fun ρ _ _ hG hg => appT_any (ty := 24) (g := nb ρ17 5) (ts := [(tH hv)]) (us := [(tM (1 + dN zs (j + 4) 2) zs (j + 5) (oa ρ 4) (nb ρ 4) (j + 5 + (9 + ptn zs (j + 5))) (oa ρ 6) (nb ρ 6) (nb ρ 7))]) Tryz.underlying24 (elike_of (sz := 36) (b := 80) (z := zTm) (by kernel_rfl) rfl) (At.fresh (z := zTm) rfl ([(tH hv)]) (nb2 ρ17 5)) (src_t1 (x := (tM (1 + dN zs (j + 4) 2) zs (j + 5) (oa ρ 4) (nb ρ 4) (j + 5 + (9 + ptn zs (j + 5))) (oa ρ 6) (nb ρ 6) (nb ρ 7))) Tryz.underlying24 (hG.kn (g := nb ρ 9) (o := (cL (tmV 2 ((1 + dN zs (j + 4) 2 : Nat) : Int) 0 0 (vs (nb ρ 7) 2 2)) 46)) 75)) (Nat.le_of_ble_eq_true rfl) (by decide) hg)) <| cR [[]] <| cN) (fun ρ19 ap19_10 => ?_)
     refine ok_ret ?_
     refine mt_then_r ?_
     refine mD [(0, (pt g)), (2, (vs (nb ρ19 10) (([(tH hv)]) ++ ([(tM (1 + dN zs (j + 4) 2) zs (j + 5) (oa ρ19 4) (nb ρ19 4) (j + 5 + (9 + ptn zs (j + 5))) (oa ρ19 6) (nb ρ19 6) (nb ρ19 7))])).length (nb2 ρ19 10))), (3, (vs (nb ρ17 5) ([(tH hv)]).length (([(tH hv)]).length + nb2 ρ17 5)))] [(g, (cL #[(.slice a (zs).length c), (vn (pN zs (j + 5 + (9 + ptn zs (j + 5)) + (9 + ptn zs (j + 5 + (9 + ptn zs (j + 5)))))))] 59)), (nb ρ17 4, (cL (tmV 5 0 0 hv (.slice none 0 0)) 46)), (nb ρ19 10, (cL (oc ρ19 10) 46)), (nb ρ19 7, (cL ((kpV ((ptK zs (j + 5)).s) ((ptK zs (j + 5)).p) ((ptK zs (j + 5)).c) ((ptK zs (j + 5)).d) (((ptK zs (j + 5)).i : Nat) : Int) (((ptK zs (j + 5)).n : Nat) : Int) (.slice (oa ρ19 4) (nI (ptP zs (j + 5))).length (nb ρ19 4)) (.bool (ptB zs (j + 5)))) ++ (kpV ((ptK zs (j + 5 + (9 + ptn zs (j + 5)))).s) ((ptK zs (j + 5 + (9 + ptn zs (j + 5)))).p) ((ptK zs (j + 5 + (9 + ptn zs (j + 5)))).c) ((ptK zs (j + 5 + (9 + ptn zs (j + 5)))).d) (((ptK zs (j + 5 + (9 + ptn zs (j + 5)))).i : Nat) : Int) (((ptK zs (j + 5 + (9 + ptn zs (j + 5)))).n : Nat) : Int) (.slice (oa ρ19 6) (nI (ptP zs (j + 5 + (9 + ptn zs (j + 5))))).length (nb ρ19 6)) (.bool (ptB zs (j + 5 + (9 + ptn zs (j + 5))))))) 51)), (nb ρ19 9, (cL (tmV 2 ((1 + dN zs (j + 4) 2 : Nat) : Int) 0 0 (vs (nb ρ19 7) 2 2)) 46))] ?_
     exact mR (v := (vs (nb ρ19 10) (([(tH hv)]) ++ ([(tM (1 + dN zs (j + 4) 2) zs (j + 5) (oa ρ19 4) (nb ρ19 4) (j + 5 + (9 + ptn zs (j + 5))) (oa ρ19 6) (nb ρ19 6) (nb ρ19 7))])).length (nb2 ρ19 10))) (fun _ hS => ⟨_, _, ([(tH hv)]) ++ ([(tM (1 + dN zs (j + 4) 2) zs (j + 5) (oa ρ19 4) (nb ρ19 4) (j + 5 + (9 + ptn zs (j + 5))) (oa ρ19 6) (nb ρ19 6) (nb ρ19 7))]), (j + 5 + (9 + ptn zs (j + 5)) + (9 + ptn zs (j + 5 + (9 + ptn zs (j + 5))))), rfl, hS.below, hS.knows [1, 0, 0, 0, 0], made_all (fun b hb => hb) (hS.new1 rfl rfl (.tail _ (.head _))) ap19_10 (made_app (made_1 ⟨⟨(rng_lit (z := 5) (by decide)), (rng_lit (z := 0) (by decide)), (show (0 : Nat) < 4294967296 by decide), hhv⟩, persTrue (fun _ => KpF.nil), soft_0 rfl (show (5 : Int) ≠ 2 by decide)⟩) (made_1 ⟨⟨(rng_lit (z := 2) (by decide)), (rng_nat (by have := dN_lt zs (j + 4) (by decide : 0 < 2); omega)), (show (0 : Nat) < 4294967296 by decide), zeroM⟩, kf2 (fun b hb => hb) (hS.new1 rfl rfl (.tail _ (.tail _ (.head _)))) ((hS.facts.now.2.1).pers (fun b hb => hb)) (ptA_ok zs (j + 5) _ _) ((hS.facts.now.2.2.1).pers (fun b hb => hb)) (ptA_ok zs (j + 5 + (9 + ptn zs (j + 5))) _ _), soft_2 rfl (ptA_soft zs (j + 5) _ _) (ptA_soft zs (j + 5 + (9 + ptn zs (j + 5))) _ _)⟩)) (Nat.le_of_ble_eq_true rfl) (Nat.le_of_ble_eq_true rfl)⟩)
    ·
     refine sS Tryz.f6 8 [0, 2, 3, 49] [] (fun _ => [(pt g), (vn (dN zs (j + 3) 4)), (.bool false), (.bool false), undef, undef, undef, (.bool false)]) (fun _ => [(1, (pwt 0 g (cL #[(.slice a (zs).length c), (vn (pN zs (j + 4)))] 59)))]) (cR [[]] <| cX (qW [0] (fun _ _ w hG hK => next_any g a c zs (j + 3) 4 (by decide) hz w hK (hG.pK [0] (fun _ hF => ⟨hF.1, trivial⟩)) )) <| cA (fun _ => (.bool false)) (fun _ => congrArg Value.bool hb6) <| cR [[], [], [], [], []] <| cN) (fun _ => ?_)
     refine dRs [(0, (pt g)), (2, (.slice none 0 0)), (3, (vs (nb ρ17 5) ([(tH hv)]).length (([(tH hv)]).length + nb2 ρ17 5))), (49, (.bool false))] [(g, (cL #[(.slice a (zs).length c), (vn (pN zs (j + 4)))] 59)), (nb ρ17 4, (cL (tmV 5 0 0 hv (.slice none 0 0)) 46)), (nb ρ17 5, (cL ((tmR ([(tH hv)])).toArray ++ Builtin.zeroCells (Value.cells zTm) (nb2 ρ17 5)) 46))] ?_
     refine oN ?_
     refine ok_skip ?_
     refine mt_then ?_
     refine sSf Tryz.f6 8 [2] [] (fun ρ => [(vs (nb ρ17 5) ([(tH hv)]).length (([(tH hv)]).length + nb2 ρ17 5)), (pt g), (.agg (kpV ((ptK zs (j + 4)).s) ((ptK zs (j + 4)).p) ((ptK zs (j + 4)).c) ((ptK zs (j + 4)).d) (((ptK zs (j + 4)).i : Nat) : Int) (((ptK zs (j + 4)).n : Nat) : Int) (.slice (oa ρ 2) (nI (ptP zs (j + 4))).length (nb ρ 2)) (.bool (ptB zs (j + 4))))), (vs (nb ρ 3) 1 1), (.agg (tmV 1 0 0 0 (vs (nb ρ 3) 1 1))), (vs (nb ρ 5) 1 1), (vs (nb ρ 6) (([(tH hv)]) ++ ([(tK zs (j + 4) (oa ρ 2) (nb ρ 2) (nb ρ 3))])).length (nb2 ρ 6)), (vs (nb ρ 6) (([(tH hv)]) ++ ([(tK zs (j + 4) (oa ρ 2) (nb ρ 2) (nb ρ 3))])).length (nb2 ρ 6))]) (fun ρ => [(2, (pwt 0 g (cL #[(.slice a (zs).length c), (vn (pN zs (j + 4 + (9 + ptn zs (j + 4)))))] 59))), (3, (nw ρ 3 (cL (kpV ((ptK zs (j + 4)).s) ((ptK zs (j + 4)).p) ((ptK zs (j + 4)).c) ((ptK zs (j + 4)).d) (((ptK zs (j + 4)).i : Nat) : Int) (((ptK zs (j + 4)).n : Nat) : Int) (.slice (oa ρ 2) (nI (ptP zs (j + 4))).length (nb ρ 2)) (.bool (ptB zs (j + 4)))) 51))), (5, (nw ρ 5 (cL (tmV 1 0 0 0 (vs (nb ρ 3) 1 1)) 46))), (6, (pwt 2 (nb ρ 6) (cL (oc ρ 6) 46)))]) (fun ρ => [(2, fun w => Fi w0 w .u32 (oa ρ 2) (nb ρ 2) (nI (ptP zs (j + 4)))), (6, fun w => At (oc ρ 6) (([(tH hv)]) ++ ([(tK zs (j + 4) (oa ρ 2) (nb ρ 2) (nb ρ 3))])) (nb2 ρ 6))]) (fun ρ => (fun w => Is w .i64 a c zs ∧ Fi w0 w .u32 (oa ρ 2) (nb ρ 2) (nI (ptP zs (j + 4))) ∧ True)) (fun ρ => At (oc ρ 6) (([(tH hv)]) ++ ([(tK zs (j + 4) (oa ρ 2) (nb ρ 2) (nb ρ 3))])) (nb2 ρ 6)) (fun _ _ hF hf => ⟨⟨hF.1, hf 2, trivial⟩, hf 6⟩) (cR [[], []] <| cX (qWJ [0] (fun _ _ w hG hK => mpath_any g a c zs (j + 4) hz w hK (hG.pK [0] (fun _ hF => ⟨hF.1, trivial⟩)) )) <| cR [[], [], []] <| cX (qM 2 (fun ρ _ _ hG hg => appT_any (ty := 24) (g := nb ρ17 5) (ts := [(tH hv)]) (us := [(tK zs (j + 4) (oa ρ 2) (nb ρ 2) (nb ρ 3))]) Tryz.underlying24 (elike_of (sz := 36) (b := 80) (z := zTm) (by kernel_rfl) rfl) (At.fresh (z := zTm) rfl ([(tH hv)]) (nb2 ρ17 5)) (src_t1 (x := (tK zs (j + 4) (oa ρ 2) (nb ρ 2) (nb ρ 3))) Tryz.underlying24 (hG.kn (g := nb ρ 5) (o := (cL (tmV 1 0 0 0 (vs (nb ρ 3) 1 1)) 46)) 43)) (Nat.le_of_ble_eq_true rfl) (by decide) hg)) <| cR [[]] <| cN) (fun ρ21 ap21_6 => ?_)
     refine ok_ret ?_
     refine mD [(2, (vs (nb ρ21 6) (([(tH hv)]) ++ ([(tK zs (j + 4) (oa ρ21 2) (nb ρ21 2) (nb ρ21 3))])).length (nb2 ρ21 6)))] [(g, (cL #[(.slice a (zs).length c), (vn (pN zs (j + 4 + (9 + ptn zs (j + 4)))))] 59)), (nb ρ17 4, (cL (tmV 5 0 0 hv (.slice none 0 0)) 46)), (nb ρ21 6, (cL (oc ρ21 6) 46)), (nb ρ21 3, (cL (kpV ((ptK zs (j + 4)).s) ((ptK zs (j + 4)).p) ((ptK zs (j + 4)).c) ((ptK zs (j + 4)).d) (((ptK zs (j + 4)).i : Nat) : Int) (((ptK zs (j + 4)).n : Nat) : Int) (.slice (oa ρ21 2) (nI (ptP zs (j + 4))).length (nb ρ21 2)) (.bool (ptB zs (j + 4)))) 51)), (nb ρ21 5, (cL (tmV 1 0 0 0 (vs (nb ρ21 3) 1 1)) 46))] ?_
     exact mR (v := (vs (nb ρ21 6) (([(tH hv)]) ++ ([(tK zs (j + 4) (oa ρ21 2) (nb ρ21 2) (nb ρ21 3))])).length (nb2 ρ21 6))) (fun _ hS => ⟨_, _, ([(tH hv)]) ++ ([(tK zs (j + 4) (oa ρ21 2) (nb ρ21 2) (nb ρ21 3))]), (j + 4 + (9 + ptn zs (j + 4))), rfl, hS.below, hS.knows [1, 0, 0, 0, 0], made_all (fun b hb => hb) (hS.new1 rfl rfl (.tail _ (.head _))) ap21_6 (made_app (made_1 ⟨⟨(rng_lit (z := 5) (by decide)), (rng_lit (z := 0) (by decide)), (show (0 : Nat) < 4294967296 by decide), hhv⟩, persTrue (fun _ => KpF.nil), soft_0 rfl (show (5 : Int) ≠ 2 by decide)⟩) (made_1 ⟨⟨(rng_lit (z := 1) (by decide)), (rng_lit (z := 0) (by decide)), (show (0 : Nat) < 4294967296 by decide), zeroM⟩, kf1 (fun b hb => hb) (hS.new1 rfl rfl (.tail _ (.tail _ (.head _)))) ((hS.facts.now.2.1).pers (fun b hb => hb)) (ptA_ok zs (j + 4) _ _), soft_1 rfl (show (1 : Int) ≠ 2 by decide) (ptA_soft zs (j + 4) _ _)⟩)) (Nat.le_of_ble_eq_true rfl) (Nat.le_of_ble_eq_true rfl)⟩)
   ·
    rw [hb5]
    refine sS Tryz.f6 2 [0, 2, 3, 32] [] (fun _ => [(.bool (((dN zs j 6 : Nat) : Int) == 3)), (.bool (((dN zs j 6 : Nat) : Int) == 3))]) (fun _ => []) (cR [[], []] <| cN) (fun _ => ?_)
    refine dRs [(0, (pt g)), (2, (.slice none 0 0)), (3, (.slice none 0 0)), (32, (.bool (((dN zs j 6 : Nat) : Int) == 3)))] [(g, (cL #[(.slice a (zs).length c), (vn (pN zs (j + 1)))] 59))] ?_
    refine oC (((dN zs j 6 : Nat) : Int) == 3) (fun hb7 => ?_) (fun hb7 => ?_)
    ·
     rw [hb7]
     refine rSf Tryz.f6 9 [0, 2, 3] [] (fun ρ => [(.slice none 0 0), (.agg (tmV 6 0 0 0 (.slice none 0 0))), (pt g), (.agg (kpV ((ptK zs (j + 1)).s) ((ptK zs (j + 1)).p) ((ptK zs (j + 1)).c) ((ptK zs (j + 1)).d) (((ptK zs (j + 1)).i : Nat) : Int) (((ptK zs (j + 1)).n : Nat) : Int) (.slice (oa ρ 3) (nI (ptP zs (j + 1))).length (nb ρ 3)) (.bool (ptB zs (j + 1))))), (vs (nb ρ 4) 1 1), (.agg (tmV 1 0 0 0 (vs (nb ρ 4) 1 1))), (vs (nb ρ 6) 2 2), (vs (nb ρ 7) ([tE, (tK zs (j + 1) (oa ρ 3) (nb ρ 3) (nb ρ 4))]).length (([tE, (tK zs (j + 1) (oa ρ 3) (nb ρ 3) (nb ρ 4))]).length + nb2 ρ 7)), (vs (nb ρ 7) ([tE, (tK zs (j + 1) (oa ρ 3) (nb ρ 3) (nb ρ 4))]).length (([tE, (tK zs (j + 1) (oa ρ 3) (nb ρ 3) (nb ρ 4))]).length + nb2 ρ 7))]) (fun ρ => [(3, (pwt 0 g (cL #[(.slice a (zs).length c), (vn (pN zs (j + 1 + (9 + ptn zs (j + 1)))))] 59))), (4, (nw ρ 4 (cL (kpV ((ptK zs (j + 1)).s) ((ptK zs (j + 1)).p) ((ptK zs (j + 1)).c) ((ptK zs (j + 1)).d) (((ptK zs (j + 1)).i : Nat) : Int) (((ptK zs (j + 1)).n : Nat) : Int) (.slice (oa ρ 3) (nI (ptP zs (j + 1))).length (nb ρ 3)) (.bool (ptB zs (j + 1)))) 51))), (6, (nw ρ 6 (cL ((tmV 6 0 0 0 (.slice none 0 0)) ++ (tmV 1 0 0 0 (vs (nb ρ 4) 1 1))) 46))), (7, (nw ρ 7 (cL ((tmR ([tE, (tK zs (j + 1) (oa ρ 3) (nb ρ 3) (nb ρ 4))])).toArray ++ Builtin.zeroCells (Value.cells zTm) (nb2 ρ 7)) 46)))]) (fun ρ => [(3, fun w => Fi w0 w .u32 (oa ρ 3) (nb ρ 3) (nI (ptP zs (j + 1))))]) (fun ρ => (fun w => Is w .i64 a c zs ∧ Fi w0 w .u32 (oa ρ 3) (nb ρ 3) (nI (ptP zs (j + 1))) ∧ True)) (fun _ => True) (fun _ _ hF hf => ⟨⟨hF.1, hf 3, trivial⟩, trivial⟩) (cR [[], [], []] <| cX (qWJ [0] (fun _ _ w hG hK => mpath_any g a c zs (j + 1) hz w hK (hG.pK [0] (fun _ hF => ⟨hF.1, trivial⟩)) )) <| cR [[], [], []] <| cX (qN (fun ρ ζ => (vs (ζ.headD 0) ([tE, (tK zs (j + 1) (oa ρ 3) (nb ρ 3) (nb ρ 4))]).length (([tE, (tK zs (j + 1) (oa ρ 3) (nb ρ 3) (nb ρ 4))]).length + ζ.tail.headD 0))) (fun ρ ζ => (cL ((tmR ([tE, (tK zs (j + 1) (oa ρ 3) (nb ρ 3) (nb ρ 4))])).toArray ++ Builtin.zeroCells (Value.cells zTm) (ζ.tail.headD 0)) 46)) (fun ρ _ _ hG => appT_nil (ty := 24) (us := [tE, (tK zs (j + 1) (oa ρ 3) (nb ρ 3) (nb ρ 4))]) Tryz.underlying24 (elike_of (sz := 36) (b := 80) (z := zTm) (by kernel_rfl) rfl) (src_t2 (x := tE) (y := (tK zs (j + 1) (oa ρ 3) (nb ρ 3) (nb ρ 4))) Tryz.underlying24 (hG.kn (g := nb ρ 6) (o := (cL ((tmV 6 0 0 0 (.slice none 0 0)) ++ (tmV 1 0 0 0 (vs (nb ρ 4) 1 1))) 46)) 49)) (Nat.le_of_ble_eq_true rfl) (Nat.le_of_ble_eq_true rfl) (by decide))) <| cR [[]] <| cN) (fun ρ23 _ => ?_)
     refine mt_block_n ?_
     refine mt_then ?_
     refine ok_seq ?_
     rcases Bool.eq_false_or_eq_true (((dN zs (j + 1 + (9 + ptn zs (j + 1))) 4 : Nat) : Int) == 0) with hb8 | hb8
     ·
      refine sS Tryz.f6 8 [0, 2, 3, 49] [] (fun _ => [(pt g), (vn (dN zs (j + 1 + (9 + ptn zs (j + 1))) 4)), (.bool true), (.bool true), (vs (nb ρ23 7) ([tE, (tK zs (j + 1) (oa ρ23 3) (nb ρ23 3) (nb ρ23 4))]).length (([tE, (tK zs (j + 1) (oa ρ23 3) (nb ρ23 3) (nb ρ23 4))]).length + nb2 ρ23 7)), (vi 2), (.bool false), (.bool false)]) (fun _ => [(1, (pwt 0 g (cL #[(.slice a (zs).length c), (vn (pN zs (j + 1 + (9 + ptn zs (j + 1)) + 1)))] 59)))]) (cR [[]] <| cX (qW [0] (fun _ _ w hG hK => next_any g a c zs (j + 1 + (9 + ptn zs (j + 1))) 4 (by decide) hz w hK (hG.pK [0] (fun _ hF => ⟨hF.1, trivial⟩)) )) <| cA (fun _ => (.bool true)) (fun _ => congrArg Value.bool hb8) <| cR [[], [], [], [], []] <| cN) (fun _ => ?_)
      refine oN ?_
      refine ok_skip ?_
      refine mt_then ?_
      refine sSf Tryz.f6 8 [2] [] (fun ρ => [(vs (nb ρ23 7) ([tE, (tK zs (j + 1) (oa ρ23 3) (nb ρ23 3) (nb ρ23 4))]).length (([tE, (tK zs (j + 1) (oa ρ23 3) (nb ρ23 3) (nb ρ23 4))]).length + nb2 ρ23 7)), (pt g), (.agg (kpV ((ptK zs (j + 1 + (9 + ptn zs (j + 1)) + 1)).s) ((ptK zs (j + 1 + (9 + ptn zs (j + 1)) + 1)).p) ((ptK zs (j + 1 + (9 + ptn zs (j + 1)) + 1)).c) ((ptK zs (j + 1 + (9 + ptn zs (j + 1)) + 1)).d) (((ptK zs (j + 1 + (9 + ptn zs (j + 1)) + 1)).i : Nat) : Int) (((ptK zs (j + 1 + (9 + ptn zs (j + 1)) + 1)).n : Nat) : Int) (.slice (oa ρ 2) (nI (ptP zs (j + 1 + (9 + ptn zs (j + 1)) + 1))).length (nb ρ 2)) (.bool (ptB zs (j + 1 + (9 + ptn zs (j + 1)) + 1))))), (vs (nb ρ 3) 1 1), (.agg (tmV 1 0 0 0 (vs (nb ρ 3) 1 1))), (vs (nb ρ 5) 1 1), (vs (nb ρ 6) (([tE, (tK zs (j + 1) (oa ρ23 3) (nb ρ23 3) (nb ρ23 4))]) ++ ([(tK zs (j + 1 + (9 + ptn zs (j + 1)) + 1) (oa ρ 2) (nb ρ 2) (nb ρ 3))])).length (nb2 ρ 6)), (vs (nb ρ 6) (([tE, (tK zs (j + 1) (oa ρ23 3) (nb ρ23 3) (nb ρ23 4))]) ++ ([(tK zs (j + 1 + (9 + ptn zs (j + 1)) + 1) (oa ρ 2) (nb ρ 2) (nb ρ 3))])).length (nb2 ρ 6))]) (fun ρ => [(2, (pwt 0 g (cL #[(.slice a (zs).length c), (vn (pN zs (j + 1 + (9 + ptn zs (j + 1)) + 1 + (9 + ptn zs (j + 1 + (9 + ptn zs (j + 1)) + 1)))))] 59))), (3, (nw ρ 3 (cL (kpV ((ptK zs (j + 1 + (9 + ptn zs (j + 1)) + 1)).s) ((ptK zs (j + 1 + (9 + ptn zs (j + 1)) + 1)).p) ((ptK zs (j + 1 + (9 + ptn zs (j + 1)) + 1)).c) ((ptK zs (j + 1 + (9 + ptn zs (j + 1)) + 1)).d) (((ptK zs (j + 1 + (9 + ptn zs (j + 1)) + 1)).i : Nat) : Int) (((ptK zs (j + 1 + (9 + ptn zs (j + 1)) + 1)).n : Nat) : Int) (.slice (oa ρ 2) (nI (ptP zs (j + 1 + (9 + ptn zs (j + 1)) + 1))).length (nb ρ 2)) (.bool (ptB zs (j + 1 + (9 + ptn zs (j + 1)) + 1)))) 51))), (5, (nw ρ 5 (cL (tmV 1 0 0 0 (vs (nb ρ 3) 1 1)) 46))), (6, (pwt 3 (nb ρ 6) (cL (oc ρ 6) 46)))]) (fun ρ => [(2, fun w => Fi w0 w .u32 (oa ρ 2) (nb ρ 2) (nI (ptP zs (j + 1 + (9 + ptn zs (j + 1)) + 1)))), (6, fun w => At (oc ρ 6) (([tE, (tK zs (j + 1) (oa ρ23 3) (nb ρ23 3) (nb ρ23 4))]) ++ ([(tK zs (j + 1 + (9 + ptn zs (j + 1)) + 1) (oa ρ 2) (nb ρ 2) (nb ρ 3))])) (nb2 ρ 6))]) (fun ρ => (fun w => Is w .i64 a c zs ∧ Fi w0 w .u32 (oa ρ23 3) (nb ρ23 3) (nI (ptP zs (j + 1))) ∧ Fi w0 w .u32 (oa ρ 2) (nb ρ 2) (nI (ptP zs (j + 1 + (9 + ptn zs (j + 1)) + 1))) ∧ True)) (fun ρ => At (oc ρ 6) (([tE, (tK zs (j + 1) (oa ρ23 3) (nb ρ23 3) (nb ρ23 4))]) ++ ([(tK zs (j + 1 + (9 + ptn zs (j + 1)) + 1) (oa ρ 2) (nb ρ 2) (nb ρ 3))])) (nb2 ρ 6)) (fun _ _ hF hf => ⟨⟨hF.1, hF.2.1, hf 2, trivial⟩, hf 6⟩) (cR [[], []] <| cX (qWJ [0] (fun _ _ w hG hK => mpath_any g a c zs (j + 1 + (9 + ptn zs (j + 1)) + 1) hz w hK (hG.pK [0] (fun _ hF => ⟨hF.1, trivial⟩)) )) <| cR [[], [], []] <| cX (qM 3 (fun ρ _ _ hG hg => appT_any (ty := 24) (g := nb ρ23 7) (ts := [tE, (tK zs (j + 1) (oa ρ23 3) (nb ρ23 3) (nb ρ23 4))]) (us := [(tK zs (j + 1 + (9 + ptn zs (j + 1)) + 1) (oa ρ 2) (nb ρ 2) (nb ρ 3))]) Tryz.underlying24 (elike_of (sz := 36) (b := 80) (z := zTm) (by kernel_rfl) rfl) (At.fresh (z := zTm) rfl ([tE, (tK zs (j + 1) (oa ρ23 3) (nb ρ23 3) (nb ρ23 4))]) (nb2 ρ23 7)) (src_t1 (x := (tK zs (j + 1 + (9 + ptn zs (j + 1)) + 1) (oa ρ 2) (nb ρ 2) (nb ρ 3))) Tryz.underlying24 (hG.kn (g := nb ρ 5) (o := (cL (tmV 1 0 0 0 (vs (nb ρ 3) 1 1)) 46)) 44)) (Nat.le_of_ble_eq_true rfl) (by decide) hg)) <| cR [[]] <| cN) (fun ρ25 ap25_6 => ?_)
      refine ok_ret ?_
      refine mD [(2, (vs (nb ρ25 6) (([tE, (tK zs (j + 1) (oa ρ23 3) (nb ρ23 3) (nb ρ23 4))]) ++ ([(tK zs (j + 1 + (9 + ptn zs (j + 1)) + 1) (oa ρ25 2) (nb ρ25 2) (nb ρ25 3))])).length (nb2 ρ25 6)))] [(g, (cL #[(.slice a (zs).length c), (vn (pN zs (j + 1 + (9 + ptn zs (j + 1)) + 1 + (9 + ptn zs (j + 1 + (9 + ptn zs (j + 1)) + 1)))))] 59)), (nb ρ23 4, (cL (kpV ((ptK zs (j + 1)).s) ((ptK zs (j + 1)).p) ((ptK zs (j + 1)).c) ((ptK zs (j + 1)).d) (((ptK zs (j + 1)).i : Nat) : Int) (((ptK zs (j + 1)).n : Nat) : Int) (.slice (oa ρ23 3) (nI (ptP zs (j + 1))).length (nb ρ23 3)) (.bool (ptB zs (j + 1)))) 51)), (nb ρ23 6, (cL ((tmV 6 0 0 0 (.slice none 0 0)) ++ (tmV 1 0 0 0 (vs (nb ρ23 4) 1 1))) 46)), (nb ρ25 6, (cL (oc ρ25 6) 46)), (nb ρ25 3, (cL (kpV ((ptK zs (j + 1 + (9 + ptn zs (j + 1)) + 1)).s) ((ptK zs (j + 1 + (9 + ptn zs (j + 1)) + 1)).p) ((ptK zs (j + 1 + (9 + ptn zs (j + 1)) + 1)).c) ((ptK zs (j + 1 + (9 + ptn zs (j + 1)) + 1)).d) (((ptK zs (j + 1 + (9 + ptn zs (j + 1)) + 1)).i : Nat) : Int) (((ptK zs (j + 1 + (9 + ptn zs (j + 1)) + 1)).n : Nat) : Int) (.slice (oa ρ25 2) (nI (ptP zs (j + 1 + (9 + ptn zs (j + 1)) + 1))).length (nb ρ25 2)) (.bool (ptB zs (j + 1 + (9 + ptn zs (j + 1)) + 1)))) 51)), (nb ρ25 5, (cL (tmV 1 0 0 0 (vs (nb ρ25 3) 1 1)) 46))] ?_
      exact mR (v := (vs (nb ρ25 6) (([tE, (tK zs (j + 1) (oa ρ23 3) (nb ρ23 3) (nb ρ23 4))]) ++ ([(tK zs (j + 1 + (9 + ptn zs (j + 1)) + 1) (oa ρ25 2) (nb ρ25 2) (nb ρ25 3))])).length (nb2 ρ25 6))) (fun _ hS => ⟨_, _, ([tE, (tK zs (j + 1) (oa ρ23 3) (nb ρ23 3) (nb ρ23 4))]) ++ ([(tK zs (j + 1 + (9 + ptn zs (j + 1)) + 1) (oa ρ25 2) (nb ρ25 2) (nb ρ25 3))]), (j + 1 + (9 + ptn zs (j + 1)) + 1 + (9 + ptn zs (j + 1 + (9 + ptn zs (j + 1)) + 1))), rfl, hS.below, hS.knows [1, 0, 0, 0, 0, 0], made_all (fun b hb => hb) (hS.new1 rfl rfl (.tail _ (.tail _ (.head _)))) ap25_6 (made_app (made_2 ⟨⟨(rng_lit (z := 6) (by decide)), (rng_lit (z := 0) (by decide)), (show (0 : Nat) < 4294967296 by decide), zeroM⟩, persTrue (fun _ => KpF.nil), soft_0 rfl (show (6 : Int) ≠ 2 by decide)⟩ ⟨⟨(rng_lit (z := 1) (by decide)), (rng_lit (z := 0) (by decide)), (show (0 : Nat) < 4294967296 by decide), zeroM⟩, kf1 (fun b hb => hb) (hS.new1 rfl rfl (.head _)) ((hS.facts.now.2.1).pers (fun b hb => hb)) (ptA_ok zs (j + 1) _ _), soft_1 rfl (show (1 : Int) ≠ 2 by decide) (ptA_soft zs (j + 1) _ _)⟩) (made_1 ⟨⟨(rng_lit (z := 1) (by decide)), (rng_lit (z := 0) (by decide)), (show (0 : Nat) < 4294967296 by decide), zeroM⟩, kf1 (fun b hb => hb) (hS.new1 rfl rfl (.tail _ (.tail _ (.tail _ (.head _))))) ((hS.facts.now.2.2.1).pers (fun b hb => hb)) (ptA_ok zs (j + 1 + (9 + ptn zs (j + 1)) + 1) _ _), soft_1 rfl (show (1 : Int) ≠ 2 by decide) (ptA_soft zs (j + 1 + (9 + ptn zs (j + 1)) + 1) _ _)⟩)) (Nat.le_of_ble_eq_true rfl) (Nat.le_of_ble_eq_true rfl)⟩)
     ·
      refine sS Tryz.f6 8 [0, 2, 3, 49] [] (fun _ => [(pt g), (vn (dN zs (j + 1 + (9 + ptn zs (j + 1))) 4)), (.bool false), (.bool false), undef, undef, undef, (.bool false)]) (fun _ => [(1, (pwt 0 g (cL #[(.slice a (zs).length c), (vn (pN zs (j + 1 + (9 + ptn zs (j + 1)) + 1)))] 59)))]) (cR [[]] <| cX (qW [0] (fun _ _ w hG hK => next_any g a c zs (j + 1 + (9 + ptn zs (j + 1))) 4 (by decide) hz w hK (hG.pK [0] (fun _ hF => ⟨hF.1, trivial⟩)) )) <| cA (fun _ => (.bool false)) (fun _ => congrArg Value.bool hb8) <| cR [[], [], [], [], []] <| cN) (fun _ => ?_)
      refine oN ?_
      refine ok_skip ?_
      refine mt_then ?_
      refine sSf Tryz.f6 8 [2] [] (fun ρ => [(vs (nb ρ23 7) ([tE, (tK zs (j + 1) (oa ρ23 3) (nb ρ23 3) (nb ρ23 4))]).length (([tE, (tK zs (j + 1) (oa ρ23 3) (nb ρ23 3) (nb ρ23 4))]).length + nb2 ρ23 7)), (pt g), (.agg (kpV ((ptK zs (j + 1 + (9 + ptn zs (j + 1)) + 1)).s) ((ptK zs (j + 1 + (9 + ptn zs (j + 1)) + 1)).p) ((ptK zs (j + 1 + (9 + ptn zs (j + 1)) + 1)).c) ((ptK zs (j + 1 + (9 + ptn zs (j + 1)) + 1)).d) (((ptK zs (j + 1 + (9 + ptn zs (j + 1)) + 1)).i : Nat) : Int) (((ptK zs (j + 1 + (9 + ptn zs (j + 1)) + 1)).n : Nat) : Int) (.slice (oa ρ 2) (nI (ptP zs (j + 1 + (9 + ptn zs (j + 1)) + 1))).length (nb ρ 2)) (.bool (ptB zs (j + 1 + (9 + ptn zs (j + 1)) + 1))))), (vs (nb ρ 3) 1 1), (.agg (tmV 1 0 0 0 (vs (nb ρ 3) 1 1))), (vs (nb ρ 5) 1 1), (vs (nb ρ 6) (([tE, (tK zs (j + 1) (oa ρ23 3) (nb ρ23 3) (nb ρ23 4))]) ++ ([(tK zs (j + 1 + (9 + ptn zs (j + 1)) + 1) (oa ρ 2) (nb ρ 2) (nb ρ 3))])).length (nb2 ρ 6)), (vs (nb ρ 6) (([tE, (tK zs (j + 1) (oa ρ23 3) (nb ρ23 3) (nb ρ23 4))]) ++ ([(tK zs (j + 1 + (9 + ptn zs (j + 1)) + 1) (oa ρ 2) (nb ρ 2) (nb ρ 3))])).length (nb2 ρ 6))]) (fun ρ => [(2, (pwt 0 g (cL #[(.slice a (zs).length c), (vn (pN zs (j + 1 + (9 + ptn zs (j + 1)) + 1 + (9 + ptn zs (j + 1 + (9 + ptn zs (j + 1)) + 1)))))] 59))), (3, (nw ρ 3 (cL (kpV ((ptK zs (j + 1 + (9 + ptn zs (j + 1)) + 1)).s) ((ptK zs (j + 1 + (9 + ptn zs (j + 1)) + 1)).p) ((ptK zs (j + 1 + (9 + ptn zs (j + 1)) + 1)).c) ((ptK zs (j + 1 + (9 + ptn zs (j + 1)) + 1)).d) (((ptK zs (j + 1 + (9 + ptn zs (j + 1)) + 1)).i : Nat) : Int) (((ptK zs (j + 1 + (9 + ptn zs (j + 1)) + 1)).n : Nat) : Int) (.slice (oa ρ 2) (nI (ptP zs (j + 1 + (9 + ptn zs (j + 1)) + 1))).length (nb ρ 2)) (.bool (ptB zs (j + 1 + (9 + ptn zs (j + 1)) + 1)))) 51))), (5, (nw ρ 5 (cL (tmV 1 0 0 0 (vs (nb ρ 3) 1 1)) 46))), (6, (pwt 3 (nb ρ 6) (cL (oc ρ 6) 46)))]) (fun ρ => [(2, fun w => Fi w0 w .u32 (oa ρ 2) (nb ρ 2) (nI (ptP zs (j + 1 + (9 + ptn zs (j + 1)) + 1)))), (6, fun w => At (oc ρ 6) (([tE, (tK zs (j + 1) (oa ρ23 3) (nb ρ23 3) (nb ρ23 4))]) ++ ([(tK zs (j + 1 + (9 + ptn zs (j + 1)) + 1) (oa ρ 2) (nb ρ 2) (nb ρ 3))])) (nb2 ρ 6))]) (fun ρ => (fun w => Is w .i64 a c zs ∧ Fi w0 w .u32 (oa ρ23 3) (nb ρ23 3) (nI (ptP zs (j + 1))) ∧ Fi w0 w .u32 (oa ρ 2) (nb ρ 2) (nI (ptP zs (j + 1 + (9 + ptn zs (j + 1)) + 1))) ∧ True)) (fun ρ => At (oc ρ 6) (([tE, (tK zs (j + 1) (oa ρ23 3) (nb ρ23 3) (nb ρ23 4))]) ++ ([(tK zs (j + 1 + (9 + ptn zs (j + 1)) + 1) (oa ρ 2) (nb ρ 2) (nb ρ 3))])) (nb2 ρ 6)) (fun _ _ hF hf => ⟨⟨hF.1, hF.2.1, hf 2, trivial⟩, hf 6⟩) (cR [[], []] <| cX (qWJ [0] (fun _ _ w hG hK => mpath_any g a c zs (j + 1 + (9 + ptn zs (j + 1)) + 1) hz w hK (hG.pK [0] (fun _ hF => ⟨hF.1, trivial⟩)) )) <| cR [[], [], []] <| cX (qM 3 (fun ρ _ _ hG hg => appT_any (ty := 24) (g := nb ρ23 7) (ts := [tE, (tK zs (j + 1) (oa ρ23 3) (nb ρ23 3) (nb ρ23 4))]) (us := [(tK zs (j + 1 + (9 + ptn zs (j + 1)) + 1) (oa ρ 2) (nb ρ 2) (nb ρ 3))]) Tryz.underlying24 (elike_of (sz := 36) (b := 80) (z := zTm) (by kernel_rfl) rfl) (At.fresh (z := zTm) rfl ([tE, (tK zs (j + 1) (oa ρ23 3) (nb ρ23 3) (nb ρ23 4))]) (nb2 ρ23 7)) (src_t1 (x := (tK zs (j + 1 + (9 + ptn zs (j + 1)) + 1) (oa ρ 2) (nb ρ 2) (nb ρ 3))) Tryz.underlying24 (hG.kn (g := nb ρ 5) (o := (cL (tmV 1 0 0 0 (vs (nb ρ 3) 1 1)) 46)) 44)) (Nat.le_of_ble_eq_true rfl) (by decide) hg)) <| cR [[]] <| cN) (fun ρ27 ap27_6 => ?_)
      refine ok_ret ?_
      refine mD [(2, (vs (nb ρ27 6) (([tE, (tK zs (j + 1) (oa ρ23 3) (nb ρ23 3) (nb ρ23 4))]) ++ ([(tK zs (j + 1 + (9 + ptn zs (j + 1)) + 1) (oa ρ27 2) (nb ρ27 2) (nb ρ27 3))])).length (nb2 ρ27 6)))] [(g, (cL #[(.slice a (zs).length c), (vn (pN zs (j + 1 + (9 + ptn zs (j + 1)) + 1 + (9 + ptn zs (j + 1 + (9 + ptn zs (j + 1)) + 1)))))] 59)), (nb ρ23 4, (cL (kpV ((ptK zs (j + 1)).s) ((ptK zs (j + 1)).p) ((ptK zs (j + 1)).c) ((ptK zs (j + 1)).d) (((ptK zs (j + 1)).i : Nat) : Int) (((ptK zs (j + 1)).n : Nat) : Int) (.slice (oa ρ23 3) (nI (ptP zs (j + 1))).length (nb ρ23 3)) (.bool (ptB zs (j + 1)))) 51)), (nb ρ23 6, (cL ((tmV 6 0 0 0 (.slice none 0 0)) ++ (tmV 1 0 0 0 (vs (nb ρ23 4) 1 1))) 46)), (nb ρ27 6, (cL (oc ρ27 6) 46)), (nb ρ27 3, (cL (kpV ((ptK zs (j + 1 + (9 + ptn zs (j + 1)) + 1)).s) ((ptK zs (j + 1 + (9 + ptn zs (j + 1)) + 1)).p) ((ptK zs (j + 1 + (9 + ptn zs (j + 1)) + 1)).c) ((ptK zs (j + 1 + (9 + ptn zs (j + 1)) + 1)).d) (((ptK zs (j + 1 + (9 + ptn zs (j + 1)) + 1)).i : Nat) : Int) (((ptK zs (j + 1 + (9 + ptn zs (j + 1)) + 1)).n : Nat) : Int) (.slice (oa ρ27 2) (nI (ptP zs (j + 1 + (9 + ptn zs (j + 1)) + 1))).length (nb ρ27 2)) (.bool (ptB zs (j + 1 + (9 + ptn zs (j + 1)) + 1)))) 51)), (nb ρ27 5, (cL (tmV 1 0 0 0 (vs (nb ρ27 3) 1 1)) 46))] ?_
      exact mR (v := (vs (nb ρ27 6) (([tE, (tK zs (j + 1) (oa ρ23 3) (nb ρ23 3) (nb ρ23 4))]) ++ ([(tK zs (j + 1 + (9 + ptn zs (j + 1)) + 1) (oa ρ27 2) (nb ρ27 2) (nb ρ27 3))])).length (nb2 ρ27 6))) (fun _ hS => ⟨_, _, ([tE, (tK zs (j + 1) (oa ρ23 3) (nb ρ23 3) (nb ρ23 4))]) ++ ([(tK zs (j + 1 + (9 + ptn zs (j + 1)) + 1) (oa ρ27 2) (nb ρ27 2) (nb ρ27 3))]), (j + 1 + (9 + ptn zs (j + 1)) + 1 + (9 + ptn zs (j + 1 + (9 + ptn zs (j + 1)) + 1))), rfl, hS.below, hS.knows [1, 0, 0, 0, 0, 0], made_all (fun b hb => hb) (hS.new1 rfl rfl (.tail _ (.tail _ (.head _)))) ap27_6 (made_app (made_2 ⟨⟨(rng_lit (z := 6) (by decide)), (rng_lit (z := 0) (by decide)), (show (0 : Nat) < 4294967296 by decide), zeroM⟩, persTrue (fun _ => KpF.nil), soft_0 rfl (show (6 : Int) ≠ 2 by decide)⟩ ⟨⟨(rng_lit (z := 1) (by decide)), (rng_lit (z := 0) (by decide)), (show (0 : Nat) < 4294967296 by decide), zeroM⟩, kf1 (fun b hb => hb) (hS.new1 rfl rfl (.head _)) ((hS.facts.now.2.1).pers (fun b hb => hb)) (ptA_ok zs (j + 1) _ _), soft_1 rfl (show (1 : Int) ≠ 2 by decide) (ptA_soft zs (j + 1) _ _)⟩) (made_1 ⟨⟨(rng_lit (z := 1) (by decide)), (rng_lit (z := 0) (by decide)), (show (0 : Nat) < 4294967296 by decide), zeroM⟩, kf1 (fun b hb => hb) (hS.new1 rfl rfl (.tail _ (.tail _ (.tail _ (.head _))))) ((hS.facts.now.2.2.1).pers (fun b hb => hb)) (ptA_ok zs (j + 1 + (9 + ptn zs (j + 1)) + 1) _ _), soft_1 rfl (show (1 : Int) ≠ 2 by decide) (ptA_soft zs (j + 1 + (9 + ptn zs (j + 1)) + 1) _ _)⟩)) (Nat.le_of_ble_eq_true rfl) (Nat.le_of_ble_eq_true rfl)⟩)
    ·
     rw [hb7]
     refine ok_skip ?_
     refine mt_block_n ?_
     refine mt_then ?_
     refine ok_seq ?_
     rcases Bool.eq_false_or_eq_true (((dN zs (j + 1) 4 : Nat) : Int) == 0) with hb9 | hb9
     ·
      refine sS Tryz.f6 8 [0, 2, 3, 49] [] (fun _ => [(pt g), (vn (dN zs (j + 1) 4)), (.bool true), (.bool true), (.slice none 0 0), (vi 0), (.bool true), (.bool true)]) (fun _ => [(1, (pwt 0 g (cL #[(.slice a (zs).length c), (vn (pN zs (j + 2)))] 59)))]) (cR [[]] <| cX (qW [0] (fun _ _ w hG hK => next_any g a c zs (j + 1) 4 (by decide) hz w hK (hG.pK [0] (fun _ hF => ⟨hF.1, trivial⟩)) )) <| cA (fun _ => (.bool true)) (fun _ => congrArg Value.bool hb9) <| cR [[], [], [], [], []] <| cN) (fun _ => ?_)
      refine oY ?_
      refine sSf Tryz.f6 12 [0, 2, 3] [] (fun ρ => [(.slice none 0 0), (pt g), (vn (1 + dN zs (j + 2) 2)), (pt g), (.agg (kpV ((ptK zs (j + 3)).s) ((ptK zs (j + 3)).p) ((ptK zs (j + 3)).c) ((ptK zs (j + 3)).d) (((ptK zs (j + 3)).i : Nat) : Int) (((ptK zs (j + 3)).n : Nat) : Int) (.slice (oa ρ 4) (nI (ptP zs (j + 3))).length (nb ρ 4)) (.bool (ptB zs (j + 3))))), (pt g), (.agg (kpV ((ptK zs (j + 3 + (9 + ptn zs (j + 3)))).s) ((ptK zs (j + 3 + (9 + ptn zs (j + 3)))).p) ((ptK zs (j + 3 + (9 + ptn zs (j + 3)))).c) ((ptK zs (j + 3 + (9 + ptn zs (j + 3)))).d) (((ptK zs (j + 3 + (9 + ptn zs (j + 3)))).i : Nat) : Int) (((ptK zs (j + 3 + (9 + ptn zs (j + 3)))).n : Nat) : Int) (.slice (oa ρ 6) (nI (ptP zs (j + 3 + (9 + ptn zs (j + 3))))).length (nb ρ 6)) (.bool (ptB zs (j + 3 + (9 + ptn zs (j + 3))))))), (vs (nb ρ 7) 2 2), (.agg (tmV 2 ((1 + dN zs (j + 2) 2 : Nat) : Int) 0 0 (vs (nb ρ 7) 2 2))), (vs (nb ρ 9) 1 1), (vs (nb ρ 10) ([(tM (1 + dN zs (j + 2) 2) zs (j + 3) (oa ρ 4) (nb ρ 4) (j + 3 + (9 + ptn zs (j + 3))) (oa ρ 6) (nb ρ 6) (nb ρ 7))]).length (([(tM (1 + dN zs (j + 2) 2) zs (j + 3) (oa ρ 4) (nb ρ 4) (j + 3 + (9 + ptn zs (j + 3))) (oa ρ 6) (nb ρ 6) (nb ρ 7))]).length + nb2 ρ 10)), (vs (nb ρ 10) ([(tM (1 + dN zs (j + 2) 2) zs (j + 3) (oa ρ 4) (nb ρ 4) (j + 3 + (9 + ptn zs (j + 3))) (oa ρ 6) (nb ρ 6) (nb ρ 7))]).length (([(tM (1 + dN zs (j + 2) 2) zs (j + 3) (oa ρ 4) (nb ρ 4) (j + 3 + (9 + ptn zs (j + 3))) (oa ρ 6) (nb ρ 6) (nb ρ 7))]).length + nb2 ρ 10))]) (fun ρ => [(2, (pwt 0 g (cL #[(.slice a (zs).length c), (vn (pN zs (j + 3)))] 59))), (4, (pwt 0 g (cL #[(.slice a (zs).length c), (vn (pN zs (j + 3 + (9 + ptn zs (j + 3)))))] 59))), (6, (pwt 0 g (cL #[(.slice a (zs).length c), (vn (pN zs (j + 3 + (9 + ptn zs (j + 3)) + (9 + ptn zs (j + 3 + (9 + ptn zs (j + 3)))))))] 59))), (7, (nw ρ 7 (cL ((kpV ((ptK zs (j + 3)).s) ((ptK zs (j + 3)).p) ((ptK zs (j + 3)).c) ((ptK zs (j + 3)).d) (((ptK zs (j + 3)).i : Nat) : Int) (((ptK zs (j + 3)).n : Nat) : Int) (.slice (oa ρ 4) (nI (ptP zs (j + 3))).length (nb ρ 4)) (.bool (ptB zs (j + 3)))) ++ (kpV ((ptK zs (j + 3 + (9 + ptn zs (j + 3)))).s) ((ptK zs (j + 3 + (9 + ptn zs (j + 3)))).p) ((ptK zs (j + 3 + (9 + ptn zs (j + 3)))).c) ((ptK zs (j + 3 + (9 + ptn zs (j + 3)))).d) (((ptK zs (j + 3 + (9 + ptn zs (j + 3)))).i : Nat) : Int) (((ptK zs (j + 3 + (9 + ptn zs (j + 3)))).n : Nat) : Int) (.slice (oa ρ 6) (nI (ptP zs (j + 3 + (9 + ptn zs (j + 3))))).length (nb ρ 6)) (.bool (ptB zs (j + 3 + (9 + ptn zs (j + 3))))))) 51))), (9, (nw ρ 9 (cL (tmV 2 ((1 + dN zs (j + 2) 2 : Nat) : Int) 0 0 (vs (nb ρ 7) 2 2)) 46))), (10, (nw ρ 10 (cL ((tmR ([(tM (1 + dN zs (j + 2) 2) zs (j + 3) (oa ρ 4) (nb ρ 4) (j + 3 + (9 + ptn zs (j + 3))) (oa ρ 6) (nb ρ 6) (nb ρ 7))])).toArray ++ Builtin.zeroCells (Value.cells zTm) (nb2 ρ 10)) 46)))]) (fun ρ => [(4, fun w => Fi w0 w .u32 (oa ρ 4) (nb ρ 4) (nI (ptP zs (j + 3)))), (6, fun w => Fi w0 w .u32 (oa ρ 6) (nb ρ 6) (nI (ptP zs (j + 3 + (9 + ptn zs (j + 3))))))]) (fun ρ => (fun w => Is w .i64 a c zs ∧ Fi w0 w .u32 (oa ρ 4) (nb ρ 4) (nI (ptP zs (j + 3))) ∧ Fi w0 w .u32 (oa ρ 6) (nb ρ 6) (nI (ptP zs (j + 3 + (9 + ptn zs (j + 3))))) ∧ True)) (fun _ => True) (fun _ _ hF hf => ⟨⟨hF.1, hf 4, hf 6, trivial⟩, trivial⟩) (cR [[], []] <| cX (qW [0] (fun _ _ w hG hK => range_any g a c zs (j + 2) 1 2 (by decide) hz w hK (hG.pK [0] (fun _ hF => ⟨hF.1, trivial⟩)) )) <| cR [[]] <| cX (qWJ [0] (fun _ _ w hG hK => mpath_any g a c zs (j + 3) hz w hK (hG.pK [0] (fun _ hF => ⟨hF.1, trivial⟩)) )) <| cR [[]] <| cX (qWJ [0] (fun _ _ w hG hK => mpath_any g a c zs (j + 3 + (9 + ptn zs (j + 3))) hz w hK (hG.pK [0] (fun _ hF => ⟨hF.1, trivial⟩)) )) <| cR [[], [], []] <| cX (qN (fun ρ ζ => (vs (ζ.headD 0) ([(tM (1 + dN zs (j + 2) 2) zs (j + 3) (oa ρ 4) (nb ρ 4) (j + 3 + (9 + ptn zs (j + 3))) (oa ρ 6) (nb ρ 6) (nb ρ 7))]).length (([(tM (1 + dN zs (j + 2) 2) zs (j + 3) (oa ρ 4) (nb ρ 4) (j + 3 + (9 + ptn zs (j + 3))) (oa ρ 6) (nb ρ 6) (nb ρ 7))]).length + ζ.tail.headD 0))) (fun ρ ζ => (cL ((tmR ([(tM (1 + dN zs (j + 2) 2) zs (j + 3) (oa ρ 4) (nb ρ 4) (j + 3 + (9 + ptn zs (j + 3))) (oa ρ 6) (nb ρ 6) (nb ρ 7))])).toArray ++ Builtin.zeroCells (Value.cells zTm) (ζ.tail.headD 0)) 46)) (fun ρ _ _ hG => appT_nil (ty := 24) (us := [(tM (1 + dN zs (j + 2) 2) zs (j + 3) (oa ρ 4) (nb ρ 4) (j + 3 + (9 + ptn zs (j + 3))) (oa ρ 6) (nb ρ 6) (nb ρ 7))]) Tryz.underlying24 (elike_of (sz := 36) (b := 80) (z := zTm) (by kernel_rfl) rfl) (src_t1 (x := (tM (1 + dN zs (j + 2) 2) zs (j + 3) (oa ρ 4) (nb ρ 4) (j + 3 + (9 + ptn zs (j + 3))) (oa ρ 6) (nb ρ 6) (nb ρ 7))) Tryz.underlying24 (hG.kn (g := nb ρ 9) (o := (cL (tmV 2 ((1 + dN zs (j + 2) 2 : Nat) : Int) 0 0 (vs (nb ρ 7) 2 2)) 46)) 73)) (Nat.le_of_ble_eq_true rfl) (Nat.le_of_ble_eq_true rfl) (by decide))) <| cR [[]] <| cN) (fun ρ29 _ => ?_)
      refine ok_ret ?_
      refine mt_then_r ?_
      refine mD [(0, (pt g)), (2, (vs (nb ρ29 10) ([(tM (1 + dN zs (j + 2) 2) zs (j + 3) (oa ρ29 4) (nb ρ29 4) (j + 3 + (9 + ptn zs (j + 3))) (oa ρ29 6) (nb ρ29 6) (nb ρ29 7))]).length (([(tM (1 + dN zs (j + 2) 2) zs (j + 3) (oa ρ29 4) (nb ρ29 4) (j + 3 + (9 + ptn zs (j + 3))) (oa ρ29 6) (nb ρ29 6) (nb ρ29 7))]).length + nb2 ρ29 10))), (3, (.slice none 0 0))] [(g, (cL #[(.slice a (zs).length c), (vn (pN zs (j + 3 + (9 + ptn zs (j + 3)) + (9 + ptn zs (j + 3 + (9 + ptn zs (j + 3)))))))] 59)), (nb ρ29 7, (cL ((kpV ((ptK zs (j + 3)).s) ((ptK zs (j + 3)).p) ((ptK zs (j + 3)).c) ((ptK zs (j + 3)).d) (((ptK zs (j + 3)).i : Nat) : Int) (((ptK zs (j + 3)).n : Nat) : Int) (.slice (oa ρ29 4) (nI (ptP zs (j + 3))).length (nb ρ29 4)) (.bool (ptB zs (j + 3)))) ++ (kpV ((ptK zs (j + 3 + (9 + ptn zs (j + 3)))).s) ((ptK zs (j + 3 + (9 + ptn zs (j + 3)))).p) ((ptK zs (j + 3 + (9 + ptn zs (j + 3)))).c) ((ptK zs (j + 3 + (9 + ptn zs (j + 3)))).d) (((ptK zs (j + 3 + (9 + ptn zs (j + 3)))).i : Nat) : Int) (((ptK zs (j + 3 + (9 + ptn zs (j + 3)))).n : Nat) : Int) (.slice (oa ρ29 6) (nI (ptP zs (j + 3 + (9 + ptn zs (j + 3))))).length (nb ρ29 6)) (.bool (ptB zs (j + 3 + (9 + ptn zs (j + 3))))))) 51)), (nb ρ29 9, (cL (tmV 2 ((1 + dN zs (j + 2) 2 : Nat) : Int) 0 0 (vs (nb ρ29 7) 2 2)) 46)), (nb ρ29 10, (cL ((tmR ([(tM (1 + dN zs (j + 2) 2) zs (j + 3) (oa ρ29 4) (nb ρ29 4) (j + 3 + (9 + ptn zs (j + 3))) (oa ρ29 6) (nb ρ29 6) (nb ρ29 7))])).toArray ++ Builtin.zeroCells (Value.cells zTm) (nb2 ρ29 10)) 46))] ?_
      exact mR (v := (vs (nb ρ29 10) ([(tM (1 + dN zs (j + 2) 2) zs (j + 3) (oa ρ29 4) (nb ρ29 4) (j + 3 + (9 + ptn zs (j + 3))) (oa ρ29 6) (nb ρ29 6) (nb ρ29 7))]).length (([(tM (1 + dN zs (j + 2) 2) zs (j + 3) (oa ρ29 4) (nb ρ29 4) (j + 3 + (9 + ptn zs (j + 3))) (oa ρ29 6) (nb ρ29 6) (nb ρ29 7))]).length + nb2 ρ29 10))) (fun _ hS => ⟨_, _, [(tM (1 + dN zs (j + 2) 2) zs (j + 3) (oa ρ29 4) (nb ρ29 4) (j + 3 + (9 + ptn zs (j + 3))) (oa ρ29 6) (nb ρ29 6) (nb ρ29 7))], (j + 3 + (9 + ptn zs (j + 3)) + (9 + ptn zs (j + 3 + (9 + ptn zs (j + 3))))), rfl, hS.below, hS.knows [1, 0, 0, 0], made_all (fun b hb => hb) (hS.new1 rfl rfl (.tail _ (.tail _ (.head _)))) (At.fresh (z := zTm) rfl ([(tM (1 + dN zs (j + 2) 2) zs (j + 3) (oa ρ29 4) (nb ρ29 4) (j + 3 + (9 + ptn zs (j + 3))) (oa ρ29 6) (nb ρ29 6) (nb ρ29 7))]) (nb2 ρ29 10)) (made_1 ⟨⟨(rng_lit (z := 2) (by decide)), (rng_nat (by have := dN_lt zs (j + 2) (by decide : 0 < 2); omega)), (show (0 : Nat) < 4294967296 by decide), zeroM⟩, kf2 (fun b hb => hb) (hS.new1 rfl rfl (.head _)) ((hS.facts.now.2.1).pers (fun b hb => hb)) (ptA_ok zs (j + 3) _ _) ((hS.facts.now.2.2.1).pers (fun b hb => hb)) (ptA_ok zs (j + 3 + (9 + ptn zs (j + 3))) _ _), soft_2 rfl (ptA_soft zs (j + 3) _ _) (ptA_soft zs (j + 3 + (9 + ptn zs (j + 3))) _ _)⟩) (Nat.le_of_ble_eq_true rfl) (Nat.le_of_ble_eq_true rfl)⟩)
     ·
      refine sS Tryz.f6 8 [0, 2, 3, 49] [] (fun _ => [(pt g), (vn (dN zs (j + 1) 4)), (.bool false), (.bool false), undef, undef, undef, (.bool false)]) (fun _ => [(1, (pwt 0 g (cL #[(.slice a (zs).length c), (vn (pN zs (j + 2)))] 59)))]) (cR [[]] <| cX (qW [0] (fun _ _ w hG hK => next_any g a c zs (j + 1) 4 (by decide) hz w hK (hG.pK [0] (fun _ hF => ⟨hF.1, trivial⟩)) )) <| cA (fun _ => (.bool false)) (fun _ => congrArg Value.bool hb9) <| cR [[], [], [], [], []] <| cN) (fun _ => ?_)
      refine oN ?_
      refine ok_skip ?_
      refine mt_then ?_
      refine sSf Tryz.f6 8 [2] [] (fun ρ => [(.slice none 0 0), (pt g), (.agg (kpV ((ptK zs (j + 2)).s) ((ptK zs (j + 2)).p) ((ptK zs (j + 2)).c) ((ptK zs (j + 2)).d) (((ptK zs (j + 2)).i : Nat) : Int) (((ptK zs (j + 2)).n : Nat) : Int) (.slice (oa ρ 2) (nI (ptP zs (j + 2))).length (nb ρ 2)) (.bool (ptB zs (j + 2))))), (vs (nb ρ 3) 1 1), (.agg (tmV 1 0 0 0 (vs (nb ρ 3) 1 1))), (vs (nb ρ 5) 1 1), (vs (nb ρ 6) ([(tK zs (j + 2) (oa ρ 2) (nb ρ 2) (nb ρ 3))]).length (([(tK zs (j + 2) (oa ρ 2) (nb ρ 2) (nb ρ 3))]).length + nb2 ρ 6)), (vs (nb ρ 6) ([(tK zs (j + 2) (oa ρ 2) (nb ρ 2) (nb ρ 3))]).length (([(tK zs (j + 2) (oa ρ 2) (nb ρ 2) (nb ρ 3))]).length + nb2 ρ 6))]) (fun ρ => [(2, (pwt 0 g (cL #[(.slice a (zs).length c), (vn (pN zs (j + 2 + (9 + ptn zs (j + 2)))))] 59))), (3, (nw ρ 3 (cL (kpV ((ptK zs (j + 2)).s) ((ptK zs (j + 2)).p) ((ptK zs (j + 2)).c) ((ptK zs (j + 2)).d) (((ptK zs (j + 2)).i : Nat) : Int) (((ptK zs (j + 2)).n : Nat) : Int) (.slice (oa ρ 2) (nI (ptP zs (j + 2))).length (nb ρ 2)) (.bool (ptB zs (j + 2)))) 51))), (5, (nw ρ 5 (cL (tmV 1 0 0 0 (vs (nb ρ 3) 1 1)) 46))), (6, (nw ρ 6 (cL ((tmR ([(tK zs (j + 2) (oa ρ 2) (nb ρ 2) (nb ρ 3))])).toArray ++ Builtin.zeroCells (Value.cells zTm) (nb2 ρ 6)) 46)))]) (fun ρ => [(2, fun w => Fi w0 w .u32 (oa ρ 2) (nb ρ 2) (nI (ptP zs (j + 2))))]) (fun ρ => (fun w => Is w .i64 a c zs ∧ Fi w0 w .u32 (oa ρ 2) (nb ρ 2) (nI (ptP zs (j + 2))) ∧ True)) (fun _ => True) (fun _ _ hF hf => ⟨⟨hF.1, hf 2, trivial⟩, trivial⟩) (cR [[], []] <| cX (qWJ [0] (fun _ _ w hG hK => mpath_any g a c zs (j + 2) hz w hK (hG.pK [0] (fun _ hF => ⟨hF.1, trivial⟩)) )) <| cR [[], [], []] <| cX (qN (fun ρ ζ => (vs (ζ.headD 0) ([(tK zs (j + 2) (oa ρ 2) (nb ρ 2) (nb ρ 3))]).length (([(tK zs (j + 2) (oa ρ 2) (nb ρ 2) (nb ρ 3))]).length + ζ.tail.headD 0))) (fun ρ ζ => (cL ((tmR ([(tK zs (j + 2) (oa ρ 2) (nb ρ 2) (nb ρ 3))])).toArray ++ Builtin.zeroCells (Value.cells zTm) (ζ.tail.headD 0)) 46)) (fun ρ _ _ hG => appT_nil (ty := 24) (us := [(tK zs (j + 2) (oa ρ 2) (nb ρ 2) (nb ρ 3))]) Tryz.underlying24 (elike_of (sz := 36) (b := 80) (z := zTm) (by kernel_rfl) rfl) (src_t1 (x := (tK zs (j + 2) (oa ρ 2) (nb ρ 2) (nb ρ 3))) Tryz.underlying24 (hG.kn (g := nb ρ 5) (o := (cL (tmV 1 0 0 0 (vs (nb ρ 3) 1 1)) 46)) 41)) (Nat.le_of_ble_eq_true rfl) (Nat.le_of_ble_eq_true rfl) (by decide))) <| cR [[]] <| cN) (fun ρ31 _ => ?_)
      refine ok_ret ?_
      refine mD [(2, (vs (nb ρ31 6) ([(tK zs (j + 2) (oa ρ31 2) (nb ρ31 2) (nb ρ31 3))]).length (([(tK zs (j + 2) (oa ρ31 2) (nb ρ31 2) (nb ρ31 3))]).length + nb2 ρ31 6)))] [(g, (cL #[(.slice a (zs).length c), (vn (pN zs (j + 2 + (9 + ptn zs (j + 2)))))] 59)), (nb ρ31 3, (cL (kpV ((ptK zs (j + 2)).s) ((ptK zs (j + 2)).p) ((ptK zs (j + 2)).c) ((ptK zs (j + 2)).d) (((ptK zs (j + 2)).i : Nat) : Int) (((ptK zs (j + 2)).n : Nat) : Int) (.slice (oa ρ31 2) (nI (ptP zs (j + 2))).length (nb ρ31 2)) (.bool (ptB zs (j + 2)))) 51)), (nb ρ31 5, (cL (tmV 1 0 0 0 (vs (nb ρ31 3) 1 1)) 46)), (nb ρ31 6, (cL ((tmR ([(tK zs (j + 2) (oa ρ31 2) (nb ρ31 2) (nb ρ31 3))])).toArray ++ Builtin.zeroCells (Value.cells zTm) (nb2 ρ31 6)) 46))] ?_
      exact mR (v := (vs (nb ρ31 6) ([(tK zs (j + 2) (oa ρ31 2) (nb ρ31 2) (nb ρ31 3))]).length (([(tK zs (j + 2) (oa ρ31 2) (nb ρ31 2) (nb ρ31 3))]).length + nb2 ρ31 6))) (fun _ hS => ⟨_, _, [(tK zs (j + 2) (oa ρ31 2) (nb ρ31 2) (nb ρ31 3))], (j + 2 + (9 + ptn zs (j + 2))), rfl, hS.below, hS.knows [1, 0, 0, 0], made_all (fun b hb => hb) (hS.new1 rfl rfl (.tail _ (.tail _ (.head _)))) (At.fresh (z := zTm) rfl ([(tK zs (j + 2) (oa ρ31 2) (nb ρ31 2) (nb ρ31 3))]) (nb2 ρ31 6)) (made_1 ⟨⟨(rng_lit (z := 1) (by decide)), (rng_lit (z := 0) (by decide)), (show (0 : Nat) < 4294967296 by decide), zeroM⟩, kf1 (fun b hb => hb) (hS.new1 rfl rfl (.head _)) ((hS.facts.now.2.1).pers (fun b hb => hb)) (ptA_ok zs (j + 2) _ _), soft_1 rfl (show (1 : Int) ≠ 2 by decide) (ptA_soft zs (j + 2) _ _)⟩) (Nat.le_of_ble_eq_true rfl) (Nat.le_of_ble_eq_true rfl)⟩)
theorem mterms_any (g : Nat) (a : Option Addr) (c : Nat) (zs : List Int) (j : Nat) (hz : Z64 zs) (w0 : World) (hK : Knows [(g, (.cells #[(.slice a (zs).length c), (.int .i64 ((pN zs j : Nat) : Int))] 59 (0, 0)))] w0) (hP : Pers (fun b => b ∈ ([(g, (.cells #[(.slice a (zs).length c), (.int .i64 ((pN zs j : Nat) : Int))] 59 (0, 0)))] : List (Nat × Obj)).map (·.1)) (fun w => Is w .i64 a c zs ∧ True) w0) : Calls Tryz.prog 6 #[(pt g)] w0 (fun ε w' => ∃ α κ τs j', ε = .returned (.slice α (List.length τs) κ) ∧ Upd (fun b => b ∈ ([(g, (.cells #[(.slice a (zs).length c), (.int .i64 ((pN zs j : Nat) : Int))] 59 (0, 0)))] : List (Nat × Obj)).map (·.1)) w0 w' ∧ Knows [(g, (.cells #[(.slice a (zs).length c), (.int .i64 ((pN zs j' : Nat) : Int))] 59 (0, 0)))] w' ∧ Pers (fun b => b < w0.heap.size) (fun w => TmN w α κ τs) w') := mtermsw_any g a c zs j _ hz (hs2_lt (Nat.lt_of_lt_of_le (dN_lt _ _ (by decide)) (by decide)) (Nat.lt_of_lt_of_le (dN_lt _ _ (by decide)) (by decide))) rfl w0 hK hP
theorem allB4 {w : World} {a0 a1 a2 a3 : Option Addr} {c0 c1 c2 c3 : Nat} {B0 B1 B2 B3 : List UInt8} (h0 : Bs w a0 c0 B0) (h1 : Bs w a1 c1 B1) (h2 : Bs w a2 c2 B2) (h3 : Bs w a3 c3 B3) : AllB w 4 (fun k => [a0, a1, a2, a3].getD k none) (fun k => [c0, c1, c2, c3].getD k 0) (fun k => [B0, B1, B2, B3].getD k []) := by
  intro k hk
  rcases (by omega : k = 0 ∨ k = 1 ∨ k = 2 ∨ k = 3) with rfl | rfl | rfl | rfl
  · exact h0
  · exact h1
  · exact h2
  · exact h3
theorem allB5 {w : World} {a0 a1 a2 a3 a4 : Option Addr} {c0 c1 c2 c3 c4 : Nat} {B0 B1 B2 B3 B4 : List UInt8} (h0 : Bs w a0 c0 B0) (h1 : Bs w a1 c1 B1) (h2 : Bs w a2 c2 B2) (h3 : Bs w a3 c3 B3) (h4 : Bs w a4 c4 B4) : AllB w 5 (fun k => [a0, a1, a2, a3, a4].getD k none) (fun k => [c0, c1, c2, c3, c4].getD k 0) (fun k => [B0, B1, B2, B3, B4].getD k []) := by
  intro k hk
  rcases (by omega : k = 0 ∨ k = 1 ∨ k = 2 ∨ k = 3 ∨ k = 4) with rfl | rfl | rfl | rfl | rfl
  · exact h0
  · exact h1
  · exact h2
  · exact h3
  · exact h4
theorem hd3 {x y z : Int} (h : 0 ≤ x ∧ x < 256) (h' : 0 ≤ y ∧ y < 256) (h2 : 0 ≤ z ∧ z < 256) : Hd #[.int .u8 x, .int .u8 y, .int .u8 z] [ob x, ob y, ob z] := by
  simp [Hd, bs, bv_ob h, bv_ob h', bv_ob h2]
theorem psB_len (d : List UInt8) : (psB d).length = d.length + 2 := by unfold psB; rw [List.length_append, List.length_cons, List.length_cons, List.length_nil]; omega
theorem psB_pos (d : List UInt8) : 0 < (psB d).length := by rw [psB_len]; omega
theorem itF_len : ∀ f n : Nat, (itF f n).length ≤ f
  | 0, _ => Nat.le_refl _
  | f + 1, n => by
    unfold itF
    split
    · exact Nat.zero_le _
    · rw [List.length_cons]; exact Nat.succ_le_succ (itF_len f _)
theorem itF_pos {f n : Nat} (h : decide (0 < ((n : Nat) : Int)) = true) : itF (f + 1) n = ob ((n % 256 : Nat) : Int) :: itF f (n / 2 ^ 8) := by
  have := of_decide_eq_true h
  rw [itF, if_neg (by omega)]
theorem itF_z {f n : Nat} (h : decide (0 < ((n : Nat) : Int)) = false) : itF f n = [] := by
  have := of_decide_eq_false h
  cases f with
  | zero => rfl
  | succ f => rw [itF, if_pos (by omega)]
theorem it_lt {m : Nat} (h0 : decide (0 < ((m : Nat) : Int)) = true) : m / 2 ^ 8 < m := by
  have := of_decide_eq_true h0
  omega
theorem it_next {X T : List UInt8} {m : Nat} (h0 : decide (0 < ((m : Nat) : Int)) = true) (hX : X.length ≤ 4) (hb : m < 2 ^ (8 * (4 - X.length))) (hE : X ++ itF (4 - X.length) m = T) :
    (X ++ [ob ((m % 256 : Nat) : Int)]).length ≤ 4 ∧ m / 2 ^ 8 < 2 ^ (8 * (4 - (X ++ [ob ((m % 256 : Nat) : Int)]).length)) ∧ (X ++ [ob ((m % 256 : Nat) : Int)]) ++ itF (4 - (X ++ [ob ((m % 256 : Nat) : Int)]).length) (m / 2 ^ 8) = T := by
  have hp := of_decide_eq_true h0
  have hl : (X ++ [ob ((m % 256 : Nat) : Int)]).length = X.length + 1 := by rw [List.length_append]; rfl
  rcases Nat.lt_or_ge X.length 4 with h4 | h4
  · obtain ⟨f, hf⟩ : ∃ f, 4 - X.length = f + 1 := ⟨4 - X.length - 1, by omega⟩
    have hf' : 4 - (X.length + 1) = f := by omega
    rw [hf] at hb hE
    rw [hl, hf']
    refine ⟨by omega, ?_, ?_⟩
    · rw [Nat.mul_add, Nat.pow_add] at hb
      exact Nat.div_lt_of_lt_mul (by rw [Nat.mul_comm]; exact hb)
    · rw [← hE, itF_pos h0, List.append_assoc]; rfl
  · rw [show 4 - X.length = 0 by omega] at hb
    simp at hb
    omega
theorem it_32 {m k : Nat} (h : m < 2 ^ (8 * (4 - k))) : m < 4294967296 := by
  have h1 : 2 ^ (8 * (4 - k)) ≤ 2 ^ 32 := Nat.pow_le_pow_right (by decide) (by omega)
  have h2 : (2 : Nat) ^ 32 = 4294967296 := by decide
  omega
theorem itB_len (n : Nat) : (itB n).length ≤ 4 := itF_len 4 n
theorem sgB_len (p : Nat) : (sgB p).length = 35 := by unfold sgB; rw [List.length_append, psB_len, hL_length]; rfl
theorem mlB_len (m : Int) : ∀ ns : List Nat, (mlB m ns).length = 34 * ns.length + 3 := by
  intro ns
  unfold mlB
  rw [List.length_append]
  have : (ns.flatMap fun p => psB (hL p)).length = 34 * ns.length := by
    induction ns with
    | nil => rfl
    | cons n r ih => rw [List.flatMap_cons, List.length_append, ih, psB_len, hL_length, List.length_cons]; omega
  rw [this]; rfl
theorem nx_len : ∀ (f : Nat) (s : Mk) (b : List UInt8) (s' : Mk), nx f s = some (b, s') → b.length + 1000 ≤ 1000 * 2 ^ f
  | 0, _, _, _, h => by simp [nx] at h
  | f + 1, s, b, s', h => by
    have hp : 1000 * 2 ^ (f + 1) = 1000 * 2 ^ f + 1000 * 2 ^ f := by rw [Nat.pow_succ]; omega
    have h1 : 1000 ≤ 1000 * 2 ^ f := Nat.le_mul_of_pos_right _ (Nat.two_pow_pos f)
    unfold nx at h
    split at h
    · exact absurd h (by simp)
    rename_i hc
    have hc' : s.can = true := by simpa using hc
    split at h
    · simp only [Option.some.injEq, Prod.mk.injEq] at h; rw [← h.1, sgB_len]; omega
    split at h
    · rename_i hk2
      simp only [Option.some.injEq, Prod.mk.injEq] at h; rw [← h.1, mlB_len]
      unfold Mk.can at hc'
      simp only [Bool.and_eq_true] at hc'
      have := ((fd_iff _ _ _ _ _).1 hc'.2.1).2.2.2.2.1 hk2
      have h3 : (s.ns.take s.fst.ks.length).length ≤ s.fst.ks.length := by rw [List.length_take]; exact Nat.min_le_left _ _
      omega
    split at h
    · exact absurd h (by simp)
    rename_i a s1 e1
    have ha := nx_len f _ _ _ e1
    have hi := itB_len s.fst.nu
    have q1 : (afB s.fst.nu a).length ≤ a.length + 8 := by unfold afB; simp only [List.length_append, psB_len, List.length_cons, List.length_nil]; omega
    have q2 : (olB s.fst.nu a).length ≤ a.length + 8 := by unfold olB; simp only [List.length_append, psB_len, List.length_cons, List.length_nil]; omega
    have q3 : (hsB s.fst.h a).length = a.length + 37 := by unfold hsB; simp only [List.length_append, psB_len, hL_length, List.length_cons, List.length_nil]; omega
    split at h
    · simp only [Option.some.injEq, Prod.mk.injEq] at h; rw [← h.1]; omega
    split at h
    · simp only [Option.some.injEq, Prod.mk.injEq] at h; rw [← h.1]; omega
    split at h
    · simp only [Option.some.injEq, Prod.mk.injEq] at h; rw [← h.1]; omega
    split at h
    · split at h
      · exact absurd h (by simp)
      · rename_i b2 s2 e2
        have hb := nx_len f _ _ _ e2
        have q4 : (eiB a b2).length = a.length + b2.length + 3 := by unfold eiB; simp only [List.length_append, List.length_cons, List.length_nil]; omega
        simp only [Option.some.injEq, Prod.mk.injEq] at h; rw [← h.1, q4]; omega
    · exact absurd h (by simp)
theorem can_pos {s : Mk} (h : s.can = true) : 0 < s.ts.length := by
  unfold Mk.can at h
  simp only [Bool.and_eq_true, decide_eq_true_eq] at h
  exact h.1
theorem can_fd {s : Mk} (h : s.can = true) : FdP s.fst.kd s.fst.m s.fst.nu s.fst.h s.fst.ks.length := by
  unfold Mk.can at h
  simp only [Bool.and_eq_true] at h
  exact (fd_iff _ _ _ _ _).1 h.2.1
theorem can_ks {s : Mk} (h : s.can = true) : s.fst.ks.length ≤ s.ns.length := by
  unfold Mk.can at h
  simp only [Bool.and_eq_true, decide_eq_true_eq] at h
  exact h.2.2
theorem gU_take {ns : List Nat} {n : Nat} (h : 0 < n) : gU (ns.take n) 0 = ns.getD 0 0 := by
  cases ns with
  | nil => simp [gU]
  | cons x r => cases n with
    | zero => omega
    | succ n => rfl
theorem TmF.go {w : World} {s : Mk} (hc : s.can = true) (h : TmF w s.ta s.tc s.ts) : TmF w s.go.ta s.go.tc s.go.ts := h.tail (can_pos hc)
theorem Us.go {w : World} {s : Mk} (hc : s.can = true) (h : Us w s.ka s.kc s.ns) : Us w s.go.ka s.go.kc s.go.ns := h.drop (can_ks hc)
structure Left (s s' : Mk) : Prop where
  t : ∀ w, TmF w s.ta s.tc s.ts → TmF w s'.ta s'.tc s'.ts
  u : ∀ w, Us w s.ka s.kc s.ns → Us w s'.ka s'.kc s'.ns
  m : ∀ x ∈ s'.ts, x ∈ s.ts
theorem Left.go {s : Mk} (hc : s.can = true) : Left s s.go := ⟨fun _ => TmF.go hc, fun _ => Us.go hc, fun _ hx => List.mem_of_mem_tail hx⟩
theorem Left.trans {a b c : Mk} (h : Left a b) (k : Left b c) : Left a c := ⟨fun w x => k.t w (h.t w x), fun w x => k.u w (h.u w x), fun x hx => h.m x (k.m x hx)⟩
theorem nx_left : ∀ (f : Nat) (s : Mk) (b : List UInt8) (s' : Mk), nx f s = some (b, s') → Left s s'
  | 0, _, _, _, h => by simp [nx] at h
  | f + 1, s, b, s', h => by
    unfold nx at h
    split at h
    · exact absurd h (by simp)
    rename_i hc
    have hg := Left.go (s := s) (by simpa using hc)
    split at h
    · simp only [Option.some.injEq, Prod.mk.injEq] at h; rw [← h.2]; exact hg
    split at h
    · simp only [Option.some.injEq, Prod.mk.injEq] at h; rw [← h.2]; exact hg
    split at h
    · exact absurd h (by simp)
    rename_i a s1 e1
    have h1 := hg.trans (nx_left f _ _ _ e1)
    split at h
    · simp only [Option.some.injEq, Prod.mk.injEq] at h; rw [← h.2]; exact h1
    split at h
    · simp only [Option.some.injEq, Prod.mk.injEq] at h; rw [← h.2]; exact h1
    split at h
    · simp only [Option.some.injEq, Prod.mk.injEq] at h; rw [← h.2]; exact h1
    split at h
    · split at h
      · exact absurd h (by simp)
      · rename_i b2 s2 e2
        simp only [Option.some.injEq, Prod.mk.injEq] at h; rw [← h.2]; exact h1.trans (nx_left f _ _ _ e2)
    · exact absurd h (by simp)
def nxS (s : Mk) : Mk := ((nx 8 s).map (·.2)).getD s
theorem nxS_eq {s : Mk} {b : List UInt8} (h : ∃ s', nx 8 s = some (b, s')) : nx 8 s = some (b, nxS s) := by
  obtain ⟨s', h⟩ := h
  unfold nxS
  rw [h]; rfl
section
variable {ts : List TmA} {z : Int}
theorem ex_err (h : (kyE ts z != 0) = true) : exE ts z = kyE ts z ∧ exB ts z = [] := by
  have e : exE ts z = kyE ts z := by unfold exE; rw [if_neg (bneI h)]
  exact ⟨e, by unfold exB; rw [e, if_neg (bneI h)]⟩
theorem ex_long (h0 : (kyE ts z != 0) = false) (h : decide (520 < (((exL ts z).length : Nat) : Int)) = true) : exE ts z = 4 ∧ exB ts z = [] := by
  have := of_decide_eq_true h
  have e : exE ts z = 4 := by unfold exE; rw [if_pos (bneI0 h0), if_pos (by omega)]
  exact ⟨e, by unfold exB; rw [e]; rfl⟩
theorem ex_ok (h0 : (kyE ts z != 0) = false) (h : decide (520 < (((exL ts z).length : Nat) : Int)) = false) : exE ts z = 0 ∧ exB ts z = exL ts z := by
  have := of_decide_eq_false h
  have e : exE ts z = 0 := by unfold exE; rw [if_pos (bneI0 h0), if_neg (by omega)]
  exact ⟨e, by unfold exB; rw [if_pos e]⟩
end
theorem scrow_any (g : Nat) (n : Nat) (pa : Nat → Option Addr) (pc : Nat → Nat) (pB : Nat → List UInt8) (hn : n ≤ 16) (hl : (catB pB n).length ≤ 140737488351232) (h0 : 0 < (pB 0).length) (w0 : World) (hf0 : Kb w0 g (rowS n pa pc pB)) (hf1 : AllB w0 n pa pc pB) : Calls Tryz.prog 80 #[(vs g n n)] w0 (fun ε w' => ∃ α κ, ε = .returned (.slice α (catB pB n).length κ) ∧ Below w0.heap.size w0 w' ∧ Fs w0 w' α κ (catB pB n)) := by
 refine Calls.of_ok (n := 17) (F := (fun w => Kb w g (rowS n pa pc pB) ∧ AllB w n pa pc pB ∧ True)) Tryz.func80 rfl rfl rfl (by simp) (hf0.pers0.and (hf1.pers0.and persT)) ?_
 refine sS Tryz.f80 1 [0, 2] [] (fun _ => [(.slice none 0 0)]) (fun _ => []) (cR [[]] <| cN) (fun _ => ?_)
 refine sS Tryz.f80 1 [0, 2, 3] [] (fun _ => [(.slice none 0 0)]) (fun _ => []) (cR [[]] <| cN) (fun _ => ?_)
 refine ok_seq ?_
 refine sS Tryz.f80 3 [2, 3, 6, 7, 8] [] (fun _ => [(vs g n n), (vn n), (vi 0)]) (fun _ => []) (cR [[], [], []] <| cN) (fun _ => ?_)
 refine ok_block ?_
 refine oL (σ := (Nat) ⊕ (Nat × Nat × (List UInt8) × (Array Value) × Nat)) (fun s => match s with | Sum.inl i => [(2, (.slice none 0 0)), (3, (.slice none 0 0)), (6, (vs g n n)), (7, (vn n)), (8, (vn i))] | Sum.inr ⟨i, q, X, _, κ⟩ => [(2, (.slice none 0 0)), (3, (vs q (X).length κ)), (6, (vs g n n)), (7, (vn n)), (8, (vn i))]) (fun s => match s with | Sum.inl _ => [] | Sum.inr ⟨_, q, _, C, _⟩ => [(q, (cL C 5))]) (fun s => match s with | Sum.inl i => n - i | Sum.inr ⟨i, _, _, _, _⟩ => n - i)
   (fun s => match s with | Sum.inl i => (i ≤ n) ∧ (i = 0) | Sum.inr ⟨i, _, X, C, κ⟩ => (i ≤ n) ∧ (X = catB pB i) ∧ (Hd C X) ∧ (C.size = κ) ∧ (X.length ≤ κ)) (Sum.inl 0) (⟨Nat.zero_le _, rfl⟩) [] ?_
 rintro (i | ⟨i, q, X, C, κ⟩)
 ·
  rintro ⟨hi, h0i⟩
  change Ok Tryz.prog _ _ 17 [(2, (.slice none 0 0)), (3, (.slice none 0 0)), (6, (vs g n n)), (7, (vn n)), (8, (vn i))] _ [] (fun w => Kb w g (rowS n pa pc pB) ∧ AllB w n pa pc pB ∧ True)
  refine sS Tryz.f80 1 [2, 3, 6, 7, 8, 9] [] (fun _ => [(.bool (decide (((i : Nat) : Int) < ((n : Nat) : Int))))]) (fun _ => []) (cR [[]] <| cN) (fun _ => ?_)
  refine ok_seq ?_
  refine oC (decide (((i : Nat) : Int) < ((n : Nat) : Int))) (fun hb1 => ?_) (fun hb1 => ?_)
  ·
   rw [hb1]
   refine ok_skip ?_
   refine mt_then ?_
   refine ok_seq ?_
   refine ok_block ?_
   refine sS Tryz.f80 3 [2, 3, 5, 6, 7, 8] [] (fun _ => [(.pointer (some ⟨g, i, none⟩)), (.slice (pa i) (pB i).length (pc i)), (.slice (pa i) (pB i).length (pc i))]) (fun _ => []) (cX (qS (fun _ w => idx_rowS (g := g) (c := n) (k := .i64) Tryz.underlying107 Tryz.sizeOf33 ((show ((i : Nat) : Int) = ((i : Nat) : Int) ∧ i < n from ⟨rfl, (by have := yT hb1; have := hl; have := hn; have := hi; have := h0i; omega)⟩)).1 ((show ((i : Nat) : Int) = ((i : Nat) : Int) ∧ i < n from ⟨rfl, (by have := yT hb1; have := hl; have := hn; have := hi; have := h0i; omega)⟩)).2 w)) <| cX (qF (v := fun ρ => (.slice (pa i) (pB i).length (pc i))) (fun _ _ _ hG => ld_blk (off := i) Tryz.isAgg33 (hG.facts0.now.1) (rowS_get (by have := yT hb1; have := hl; have := hn; have := hi; have := h0i; omega)))) <| cR [[]] <| cN) (fun _ => ?_)
   refine rS Tryz.f80 4 [2, 3, 6, 7, 8] [] (fun ρ => [(.slice none 0 0), (.slice (pa i) (pB i).length (pc i)), (vs (nb ρ 2) (pB i).length ((pB i).length + nb2 ρ 2)), (vs (nb ρ 2) (pB i).length ((pB i).length + nb2 ρ 2))]) (fun ρ => [(2, (nw ρ 2 (cL ((bs (pB i)).toArray ++ zB (nb2 ρ 2)) 5)))]) (cR [[], []] <| cX (qN (fun _ ζ => (vs (ζ.headD 0) (pB i).length ((pB i).length + ζ.tail.headD 0))) (fun _ ζ => (cL ((bs (pB i)).toArray ++ zB (ζ.tail.headD 0)) 5)) (fun _ _ _ hG => app_nilL (ty := 33) Tryz.underlying33 u8i (Bs.src (tx := 33) Tryz.underlying33 (hG.facts0.now.2.1 i (by have := yT hb1; have := hl; have := hn; have := hi; have := h0i; omega))) ((by rw [h0i]; exact h0)) ((by have h1 := (catB_next pB (show i < n by have := yT hb1; have := hl; have := hn; have := hi; have := h0i; omega)); have := hl; omega)))) <| cR [[]] <| cN) (fun ρ6 => ?_)
   refine mt_block_n ?_
   refine mt_then ?_
   refine rS Tryz.f80 2 [2, 3, 6, 7, 8] [] (fun _ => [(vn (i + 1)), (vn (i + 1))]) (fun _ => []) (cA (v := fun ρ => (vi (IntKind.i64.wrap (((i : Nat) : Int) + 1)))) (fun _ => (vn (i + 1))) (fun _ => congrArg (Value.int .i64) (wrap_addN i 1 (by have := yT hb1; have := hl; have := hn; have := hi; have := h0i; omega))) <| cR [[]] <| cN) (fun _ => ?_)
   exact mN (Sum.inr (i + 1, nb ρ6 2, pB i, (bs (pB i)).toArray ++ zB (nb2 ρ6 2), (pB i).length + nb2 ρ6 2)) (by show n - (i + 1) < n - i; have := yT hb1; have := hl; have := hn; have := hi; have := h0i; omega) (⟨(by have := yT hb1; have := hl; have := hn; have := hi; have := h0i; omega), (by rw [h0i]; rfl), (Hd.fresh _ _), (fresh_size _ _), (Nat.le_add_right _ _)⟩) []
  ·
   rw [hb1]
   refine ok_exit ?_
   refine mt_then_e ?_
   refine mt_then_e ?_
   refine mt_block_h ?_
   refine mt_then ?_
   refine sS Tryz.f80 2 [2] [] (fun _ => [(.slice none 0 0), (.slice none 0 0)]) (fun _ => []) (cR [[], []] <| cN) (fun _ => ?_)
   refine ok_ret ?_
   refine mD [(2, (.slice none 0 0))] [] ?_
   exact mR (v := (.slice none 0 0)) (fun _ hS => ⟨none, 0, congrArg Ending.returned (by rw [← (show ([] : List UInt8) = catB pB n by rw [show n = 0 by have := yF hb1; have := hl; have := hn; have := hi; have := h0i; omega]; rfl)]; rfl), hS.bel, fs_eq ((show ([] : List UInt8) = catB pB n by rw [show n = 0 by have := yF hb1; have := hl; have := hn; have := hi; have := h0i; omega]; rfl)) Fs.nil⟩)
 ·
  rintro ⟨hi, hX, hC, hs, hle⟩
  change Ok Tryz.prog _ _ 17 [(2, (.slice none 0 0)), (3, (vs q (X).length κ)), (6, (vs g n n)), (7, (vn n)), (8, (vn i))] _ [(q, (cL C 5))] (fun w => Kb w g (rowS n pa pc pB) ∧ AllB w n pa pc pB ∧ True)
  refine sS Tryz.f80 1 [2, 3, 6, 7, 8, 9] [] (fun _ => [(.bool (decide (((i : Nat) : Int) < ((n : Nat) : Int))))]) (fun _ => []) (cR [[]] <| cN) (fun _ => ?_)
  refine ok_seq ?_
  refine oC (decide (((i : Nat) : Int) < ((n : Nat) : Int))) (fun hb2 => ?_) (fun hb2 => ?_)
  ·
   rw [hb2]
   refine ok_skip ?_
   refine mt_then ?_
   refine ok_seq ?_
   refine ok_block ?_
   refine sS Tryz.f80 3 [2, 3, 5, 6, 7, 8] [] (fun _ => [(.pointer (some ⟨g, i, none⟩)), (.slice (pa i) (pB i).length (pc i)), (.slice (pa i) (pB i).length (pc i))]) (fun _ => []) (cX (qS (fun _ w => idx_rowS (g := g) (c := n) (k := .i64) Tryz.underlying107 Tryz.sizeOf33 ((show ((i : Nat) : Int) = ((i : Nat) : Int) ∧ i < n from ⟨rfl, (by have := yT hb2; have := hl; have := hn; have := hi; omega)⟩)).1 ((show ((i : Nat) : Int) = ((i : Nat) : Int) ∧ i < n from ⟨rfl, (by have := yT hb2; have := hl; have := hn; have := hi; omega)⟩)).2 w)) <| cX (qF (v := fun ρ => (.slice (pa i) (pB i).length (pc i))) (fun _ _ _ hG => ld_blk (off := i) Tryz.isAgg33 (hG.facts0.now.1) (rowS_get (by have := yT hb2; have := hl; have := hn; have := hi; omega)))) <| cR [[]] <| cN) (fun _ => ?_)
   refine rSf Tryz.f80 4 [2, 3, 6, 7, 8] [] (fun ρ => [(vs q (X).length κ), (.slice (pa i) (pB i).length (pc i)), (vs (nb ρ 2) (X ++ (pB i)).length (nb2 ρ 2)), (vs (nb ρ 2) (X ++ (pB i)).length (nb2 ρ 2))]) (fun ρ => [(2, (pwt 0 (nb ρ 2) (cL (oc ρ 2) 5)))]) (fun ρ => [(2, fun w => Ap (oc ρ 2) (X ++ (pB i)) (nb2 ρ 2))]) (fun _ => (fun w => Kb w g (rowS n pa pc pB) ∧ AllB w n pa pc pB ∧ True)) (fun ρ => Ap (oc ρ 2) (X ++ (pB i)) (nb2 ρ 2)) (fun _ _ hF hf => ⟨hF, hf 2⟩) (cR [[], []] <| cX (qM 0 (fun _ _ _ hG hg => app_any (ty := 33) (g := q) (C := C) (c := κ) (xs := X) Tryz.underlying33 u8i (Ap.mk' hC hle (by rw [hX]; exact Nat.le_trans (catB_le pB hi) hl) hs) (Bs.src (tx := 33) Tryz.underlying33 (hG.facts0.now.2.1 i (by have := yT hb2; have := hl; have := hn; have := hi; omega))) ((by have h1 := (catB_next pB (show i < n by have := yT hb2; have := hl; have := hn; have := hi; omega)); rw [← hX] at h1; exact Nat.le_trans h1 hl)) hg)) <| cR [[]] <| cN) (fun ρ11 ap11_2 => ?_)
   refine mt_block_n ?_
   refine mt_then ?_
   refine rS Tryz.f80 2 [2, 3, 6, 7, 8] [] (fun _ => [(vn (i + 1)), (vn (i + 1))]) (fun _ => []) (cA (v := fun ρ => (vi (IntKind.i64.wrap (((i : Nat) : Int) + 1)))) (fun _ => (vn (i + 1))) (fun _ => congrArg (Value.int .i64) (wrap_addN i 1 (by have := yT hb2; have := hl; have := hn; have := hi; omega))) <| cR [[]] <| cN) (fun _ => ?_)
   exact mN (Sum.inr (i + 1, nb ρ11 2, X ++ (pB i), oc ρ11 2, nb2 ρ11 2)) (by show n - (i + 1) < n - i; have := yT hb2; have := hl; have := hn; have := hi; omega) (⟨(by have := yT hb2; have := hl; have := hn; have := hi; omega), (by rw [hX]; rfl), ap11_2.hd, ap11_2.size, ap11_2.le⟩) []
  ·
   rw [hb2]
   refine ok_exit ?_
   refine mt_then_e ?_
   refine mt_then_e ?_
   refine mt_block_h ?_
   refine mt_then ?_
   refine sS Tryz.f80 2 [2] [] (fun _ => [(vs q (X).length κ), (vs q (X).length κ)]) (fun _ => []) (cR [[], []] <| cN) (fun _ => ?_)
   refine ok_ret ?_
   refine mD [(2, (vs q (X).length κ))] [(q, (cL C 5))] ?_
   exact mR (v := (vs q (X).length κ)) (fun _ hS => ⟨(some ⟨q, 0, none⟩), κ, congrArg Ending.returned (by rw [← (show X = catB pB n from hX.trans (by rw [show i = n by have := yF hb2; have := hl; have := hn; have := hi; omega]))]), hS.bel, fs_eq ((show X = catB pB n from hX.trans (by rw [show i = n by have := yF hb2; have := hl; have := hn; have := hi; omega]))) (hS.fresh (.head _) hC hle (by rw [hX]; exact Nat.le_trans (catB_le pB hi) hl))⟩)
theorem scrow2_any (g : Nat) (a0 : Option Addr) (c0 : Nat) (B0 : List UInt8) (a1 : Option Addr) (c1 : Nat) (B1 : List UInt8) (hl : B0.length + B1.length ≤ 140737488351232) (h0 : 0 < B0.length) (w0 : World) (hf0 : Kb w0 g #[.slice a0 B0.length c0, .slice a1 B1.length c1]) (hf1 : Bs w0 a0 c0 B0) (hf2 : Bs w0 a1 c1 B1) : Calls Tryz.prog 80 #[.slice (some ⟨g, 0, none⟩) 2 2] w0 (fun ε w' => ∃ α κ, ε = .returned (.slice α (B0 ++ B1).length κ) ∧ Below w0.heap.size w0 w' ∧ Fs w0 w' α κ (B0 ++ B1)) := scrow_any g 2 (fun k => [a0, a1].getD k none) (fun k => [c0, c1].getD k 0) (fun k => [B0, B1].getD k []) (by decide) (by show (([] ++ B0) ++ B1).length ≤ _; simp only [List.length_append, List.length_nil]; omega) h0 w0 hf0 (allB2 hf1 hf2)
theorem scrow3_any (g : Nat) (a0 : Option Addr) (c0 : Nat) (B0 : List UInt8) (a1 : Option Addr) (c1 : Nat) (B1 : List UInt8) (a2 : Option Addr) (c2 : Nat) (B2 : List UInt8) (hl : B0.length + B1.length + B2.length ≤ 140737488351232) (h0 : 0 < B0.length) (w0 : World) (hf0 : Kb w0 g #[.slice a0 B0.length c0, .slice a1 B1.length c1, .slice a2 B2.length c2]) (hf1 : Bs w0 a0 c0 B0) (hf2 : Bs w0 a1 c1 B1) (hf3 : Bs w0 a2 c2 B2) : Calls Tryz.prog 80 #[.slice (some ⟨g, 0, none⟩) 3 3] w0 (fun ε w' => ∃ α κ, ε = .returned (.slice α ((B0 ++ B1) ++ B2).length κ) ∧ Below w0.heap.size w0 w' ∧ Fs w0 w' α κ ((B0 ++ B1) ++ B2)) := scrow_any g 3 (fun k => [a0, a1, a2].getD k none) (fun k => [c0, c1, c2].getD k 0) (fun k => [B0, B1, B2].getD k []) (by decide) (by show ((([] ++ B0) ++ B1) ++ B2).length ≤ _; simp only [List.length_append, List.length_nil]; omega) h0 w0 hf0 (allB3 hf1 hf2 hf3)
theorem scrow4_any (g : Nat) (a0 : Option Addr) (c0 : Nat) (B0 : List UInt8) (a1 : Option Addr) (c1 : Nat) (B1 : List UInt8) (a2 : Option Addr) (c2 : Nat) (B2 : List UInt8) (a3 : Option Addr) (c3 : Nat) (B3 : List UInt8) (hl : B0.length + B1.length + B2.length + B3.length ≤ 140737488351232) (h0 : 0 < B0.length) (w0 : World) (hf0 : Kb w0 g #[.slice a0 B0.length c0, .slice a1 B1.length c1, .slice a2 B2.length c2, .slice a3 B3.length c3]) (hf1 : Bs w0 a0 c0 B0) (hf2 : Bs w0 a1 c1 B1) (hf3 : Bs w0 a2 c2 B2) (hf4 : Bs w0 a3 c3 B3) : Calls Tryz.prog 80 #[.slice (some ⟨g, 0, none⟩) 4 4] w0 (fun ε w' => ∃ α κ, ε = .returned (.slice α (((B0 ++ B1) ++ B2) ++ B3).length κ) ∧ Below w0.heap.size w0 w' ∧ Fs w0 w' α κ (((B0 ++ B1) ++ B2) ++ B3)) := scrow_any g 4 (fun k => [a0, a1, a2, a3].getD k none) (fun k => [c0, c1, c2, c3].getD k 0) (fun k => [B0, B1, B2, B3].getD k []) (by decide) (by show (((([] ++ B0) ++ B1) ++ B2) ++ B3).length ≤ _; simp only [List.length_append, List.length_nil]; omega) h0 w0 hf0 (allB4 hf1 hf2 hf3 hf4)
theorem scrow5_any (g : Nat) (a0 : Option Addr) (c0 : Nat) (B0 : List UInt8) (a1 : Option Addr) (c1 : Nat) (B1 : List UInt8) (a2 : Option Addr) (c2 : Nat) (B2 : List UInt8) (a3 : Option Addr) (c3 : Nat) (B3 : List UInt8) (a4 : Option Addr) (c4 : Nat) (B4 : List UInt8) (hl : B0.length + B1.length + B2.length + B3.length + B4.length ≤ 140737488351232) (h0 : 0 < B0.length) (w0 : World) (hf0 : Kb w0 g #[.slice a0 B0.length c0, .slice a1 B1.length c1, .slice a2 B2.length c2, .slice a3 B3.length c3, .slice a4 B4.length c4]) (hf1 : Bs w0 a0 c0 B0) (hf2 : Bs w0 a1 c1 B1) (hf3 : Bs w0 a2 c2 B2) (hf4 : Bs w0 a3 c3 B3) (hf5 : Bs w0 a4 c4 B4) : Calls Tryz.prog 80 #[.slice (some ⟨g, 0, none⟩) 5 5] w0 (fun ε w' => ∃ α κ, ε = .returned (.slice α ((((B0 ++ B1) ++ B2) ++ B3) ++ B4).length κ) ∧ Below w0.heap.size w0 w' ∧ Fs w0 w' α κ ((((B0 ++ B1) ++ B2) ++ B3) ++ B4)) := scrow_any g 5 (fun k => [a0, a1, a2, a3, a4].getD k none) (fun k => [c0, c1, c2, c3, c4].getD k 0) (fun k => [B0, B1, B2, B3, B4].getD k []) (by decide) (by show ((((([] ++ B0) ++ B1) ++ B2) ++ B3) ++ B4).length ≤ _; simp only [List.length_append, List.length_nil]; omega) h0 w0 hf0 (allB5 hf1 hf2 hf3 hf4 hf5)
theorem push_any (a : Option Addr) (c : Nat) (B : List UInt8) (hl : B.length ≤ 255) (w0 : World) (hf0 : Bs w0 a c B) : Calls Tryz.prog 81 #[(.slice a (B).length c)] w0 (fun ε w' => ∃ α κ, ε = .returned (.slice α (psB B).length κ) ∧ Below w0.heap.size w0 w' ∧ Fs w0 w' α κ (psB B)) := by
 refine Calls.of_ok (n := 10) (F := (fun w => Bs w a c B ∧ True)) Tryz.func81 rfl rfl rfl (by simp) (hf0.pers0.and persT) ?_
 refine sS Tryz.f81 1 [0, 2] [] (fun _ => [(.slice none 0 0)]) (fun _ => []) (cR [[]] <| cN) (fun _ => ?_)
 refine sSf Tryz.f81 8 [2] [0, 0] (fun ρ => [(.slice a (B).length c), (vn (B).length), (.int .u8 (((B).length : Nat) : Int)), (vs (nb ρ 3) (([ob 1, ob (((B).length : Nat) : Int)] : List UInt8)).length 2), (.slice a (B).length c), (vs (nb ρ 5) 2 2), (.slice (oa ρ 6) (([ob 1, ob (((B).length : Nat) : Int)] : List UInt8) ++ B).length (nb ρ 6)), (.slice (oa ρ 6) (([ob 1, ob (((B).length : Nat) : Int)] : List UInt8) ++ B).length (nb ρ 6))]) (fun ρ => [(3, (nw ρ 3 (cL #[(.int .u8 1), (.int .u8 (((B).length : Nat) : Int))] 5))), (5, (nw ρ 5 (cL #[(vs (nb ρ 3) (([ob 1, ob (((B).length : Nat) : Int)] : List UInt8)).length 2), (.slice a (B).length c)] 33)))]) (fun ρ => [(6, fun w => Fs w0 w (oa ρ 6) (nb ρ 6) (([ob 1, ob (((B).length : Nat) : Int)] : List UInt8) ++ B))]) (fun ρ => (fun w => Bs w a c B ∧ Fs w0 w (oa ρ 6) (nb ρ 6) (([ob 1, ob (((B).length : Nat) : Int)] : List UInt8) ++ B) ∧ True)) (fun _ => True) (fun _ _ hF hf => ⟨⟨hF.1, hf 6, trivial⟩, trivial⟩) (cR [[], []] <| cA (v := fun ρ => (.int .u8 (IntKind.u8.wrap ((((B).length : Nat) : Int))))) (fun _ => (.int .u8 (((B).length : Nat) : Int))) (fun _ => congrArg (Value.int .u8) (u8N (by have := hl; omega))) <| cR [[], [], []] <| cX (qB (fun ρ _ w hG => scrow2_any (nb ρ 5) (some ⟨nb ρ 3, 0, none⟩) 2 ([ob 1, ob (((B).length : Nat) : Int)] : List UInt8) a c B (by simp only [List.length_cons, List.length_nil]; have := hl; omega) (Nat.zero_lt_succ _) w (Kb.of_block (hG.kn (g := nb ρ 5) (o := (cL #[(vs (nb ρ 3) (([ob 1, ob (((B).length : Nat) : Int)] : List UInt8)).length 2), (.slice a (B).length c)] 33)) 40)) (Bs.of_hd (hG.kn (g := nb ρ 3) (o := (cL #[(.int .u8 1), (.int .u8 (((B).length : Nat) : Int))] 5)) 24) (hd2 (by decide) ((by have := hl; omega))) (Nat.le_refl 2) (Nat.le_of_ble_eq_true rfl)) hG.facts0.now.1)) <| cR [[]] <| cN) (fun ρ2 _ => ?_)
 refine ok_ret ?_
 refine mD [(2, (.slice (oa ρ2 6) (([ob 1, ob (((B).length : Nat) : Int)] : List UInt8) ++ B).length (nb ρ2 6)))] [] ?_
 exact mR (v := (.slice (oa ρ2 6) (([ob 1, ob (((B).length : Nat) : Int)] : List UInt8) ++ B).length (nb ρ2 6))) (fun _ hS => ⟨oa ρ2 6, nb ρ2 6, congrArg Ending.returned (rfl), hS.bel, fs_eq (rfl) hS.facts.now.2.1⟩)
theorem item_any (n : Nat) (hn : n < 4294967296) (w0 : World) : Calls Tryz.prog 83 #[(.int .u32 ((n : Nat) : Int))] w0 (fun ε w' => ∃ α κ, ε = .returned (.slice α (itB n).length κ) ∧ Below w0.heap.size w0 w' ∧ Fs w0 w' α κ (itB n)) := by
 refine Calls.of_ok (n := 14) (F := (fun _ => True)) Tryz.func83 rfl rfl rfl (by simp) (persTrue (fun _ => trivial)) ?_
 refine sS Tryz.f83 1 [0, 2] [] (fun _ => [(.slice none 0 0)]) (fun _ => []) (cR [[]] <| cN) (fun _ => ?_)
 refine sS Tryz.f83 1 [0, 2, 3] [] (fun _ => [(.slice none 0 0)]) (fun _ => []) (cR [[]] <| cN) (fun _ => ?_)
 refine ok_seq ?_
 refine ok_block ?_
 refine oL (σ := (Nat) ⊕ (Nat × Nat × (List UInt8) × (Array Value) × Nat)) (fun s => match s with | Sum.inl m => [(0, (.int .u32 ((m : Nat) : Int))), (2, (.slice none 0 0)), (3, (.slice none 0 0))] | Sum.inr ⟨m, q, X, _, κ⟩ => [(0, (.int .u32 ((m : Nat) : Int))), (2, (.slice none 0 0)), (3, (vs q (X).length κ))]) (fun s => match s with | Sum.inl _ => [] | Sum.inr ⟨_, q, _, C, _⟩ => [(q, (cL C 5))]) (fun s => match s with | Sum.inl m => m | Sum.inr ⟨m, _, _, _, _⟩ => m)
   (fun s => match s with | Sum.inl m => (m = n) | Sum.inr ⟨m, _, X, C, κ⟩ => (X.length ≤ 4) ∧ (m < 2 ^ (8 * (4 - X.length))) ∧ (X ++ itF (4 - X.length) m = itB n) ∧ (Hd C X) ∧ (C.size = κ) ∧ (X.length ≤ κ)) (Sum.inl n) (rfl) [] ?_
 rintro (m | ⟨m, q, X, C, κ⟩)
 ·
  rintro hm0
  change Ok Tryz.prog _ _ 14 [(0, (.int .u32 ((m : Nat) : Int))), (2, (.slice none 0 0)), (3, (.slice none 0 0))] _ [] (fun _ => True)
  refine ok_seq ?_
  refine sS Tryz.f83 2 [0, 2, 3, 5] [] (fun _ => [(.int .u32 ((m : Nat) : Int)), (.bool (decide (0 < ((m : Nat) : Int))))]) (fun _ => []) (cR [[], []] <| cN) (fun _ => ?_)
  refine oC (decide (0 < ((m : Nat) : Int))) (fun hb1 => ?_) (fun hb1 => ?_)
  ·
   rw [hb1]
   refine ok_skip ?_
   refine mt_then ?_
   refine ok_seq ?_
   refine ok_block ?_
   refine rS Tryz.f83 6 [0, 2, 3] [0, 1] (fun ρ => [(.slice none 0 0), (.int .u32 ((m : Nat) : Int)), (.int .u8 ((m % 256 : Nat) : Int)), (vs (nb ρ 3) (([ob ((m % 256 : Nat) : Int)] : List UInt8)).length 1), (vs (nb ρ 4) (([ob ((m % 256 : Nat) : Int)] : List UInt8)).length ((([ob ((m % 256 : Nat) : Int)] : List UInt8)).length + nb2 ρ 4)), (vs (nb ρ 4) (([ob ((m % 256 : Nat) : Int)] : List UInt8)).length ((([ob ((m % 256 : Nat) : Int)] : List UInt8)).length + nb2 ρ 4))]) (fun ρ => [(3, (nw ρ 3 (cL #[(.int .u8 ((m % 256 : Nat) : Int))] 5))), (4, (nw ρ 4 (cL ((bs ([ob ((m % 256 : Nat) : Int)] : List UInt8)).toArray ++ zB (nb2 ρ 4)) 5)))]) (cR [[], []] <| cA (fun _ => (.int .u8 ((m % 256 : Nat) : Int))) (fun _ => congrArg (Value.int .u8) (u8M m)) <| cR [[]] <| cX (qN (fun _ ζ => (vs (ζ.headD 0) (([ob ((m % 256 : Nat) : Int)] : List UInt8)).length ((([ob ((m % 256 : Nat) : Int)] : List UInt8)).length + ζ.tail.headD 0))) (fun _ ζ => (cL ((bs ([ob ((m % 256 : Nat) : Int)] : List UInt8)).toArray ++ zB (ζ.tail.headD 0)) 5)) (fun ρ _ _ hG => app_nilL (ty := 33) Tryz.underlying33 u8i (Bs.src (tx := 33) Tryz.underlying33 (Bs.of_hd (hG.kn (g := nb ρ 3) (o := (cL #[(.int .u8 ((m % 256 : Nat) : Int))] 5)) 24) (hd1 ((by omega))) (Nat.le_refl 1) (Nat.le_of_ble_eq_true rfl))) ((Nat.zero_lt_succ _)) ((Nat.le_of_ble_eq_true rfl)))) <| cR [[]] <| cN) (fun ρ4 => ?_)
   refine mt_block_n ?_
   refine mt_then ?_
   refine rS Tryz.f83 3 [0, 2, 3] [] (fun _ => [(.int .u32 ((m : Nat) : Int)), (.int .u32 ((m / 2 ^ 8 : Nat) : Int)), (.int .u32 ((m / 2 ^ 8 : Nat) : Int))]) (fun _ => []) (cR [[]] <| cB (a := fun ρ => (.int .u32 ((m : Nat) : Int))) (b := fun ρ => (.int .u64 8)) (v := fun ρ => (.int .u32 ((m / 2 ^ 8 : Nat) : Int))) .shr 41 (fun _ w => run_shrU (k := .u32) (x := m) (c := 8) (by rw [hm0]; exact hn) w) <| cR [[]] <| cN) (fun _ => ?_)
   exact mN (Sum.inr (m / 2 ^ 8, nb ρ4 4, ([ob ((m % 256 : Nat) : Int)] : List UInt8), (bs ([ob ((m % 256 : Nat) : Int)] : List UInt8)).toArray ++ zB (nb2 ρ4 4), (([ob ((m % 256 : Nat) : Int)] : List UInt8)).length + nb2 ρ4 4)) (it_lt hb1) (⟨(it_next (X := []) hb1 (by decide) (by rw [hm0]; exact Nat.lt_of_lt_of_le hn (by decide)) (by rw [hm0] <;> rfl)).1, (it_next (X := []) hb1 (by decide) (by rw [hm0]; exact Nat.lt_of_lt_of_le hn (by decide)) (by rw [hm0] <;> rfl)).2.1, (it_next (X := []) hb1 (by decide) (by rw [hm0]; exact Nat.lt_of_lt_of_le hn (by decide)) (by rw [hm0] <;> rfl)).2.2, (Hd.fresh _ _), (fresh_size _ _), (Nat.le_add_right _ _)⟩) []
  ·
   rw [hb1]
   refine ok_exit ?_
   refine mt_then_e ?_
   refine mt_then_e ?_
   refine mt_block_h ?_
   refine mt_then ?_
   refine sS Tryz.f83 2 [2] [] (fun _ => [(.slice none 0 0), (.slice none 0 0)]) (fun _ => []) (cR [[], []] <| cN) (fun _ => ?_)
   refine ok_ret ?_
   refine mD [(2, (.slice none 0 0))] [] ?_
   exact mR (v := (.slice none 0 0)) (fun _ hS => ⟨none, 0, congrArg Ending.returned (by rw [← (show ([] : List UInt8) = itB n by rw [← hm0]; exact (itF_z hb1).symm)] <;> rfl), hS.bel, fs_eq ((show ([] : List UInt8) = itB n by rw [← hm0]; exact (itF_z hb1).symm)) Fs.nil⟩)
 ·
  rintro ⟨hX4, hmb, hE, hC, hs, hle⟩
  change Ok Tryz.prog _ _ 14 [(0, (.int .u32 ((m : Nat) : Int))), (2, (.slice none 0 0)), (3, (vs q (X).length κ))] _ [(q, (cL C 5))] (fun _ => True)
  refine ok_seq ?_
  refine sS Tryz.f83 2 [0, 2, 3, 5] [] (fun _ => [(.int .u32 ((m : Nat) : Int)), (.bool (decide (0 < ((m : Nat) : Int))))]) (fun _ => []) (cR [[], []] <| cN) (fun _ => ?_)
  refine oC (decide (0 < ((m : Nat) : Int))) (fun hb2 => ?_) (fun hb2 => ?_)
  ·
   rw [hb2]
   refine ok_skip ?_
   refine mt_then ?_
   refine ok_seq ?_
   refine ok_block ?_
   refine rSf Tryz.f83 6 [0, 2, 3] [1, 0] (fun ρ => [(vs q (X).length κ), (.int .u32 ((m : Nat) : Int)), (.int .u8 ((m % 256 : Nat) : Int)), (vs (nb ρ 3) (([ob ((m % 256 : Nat) : Int)] : List UInt8)).length 1), (vs (nb ρ 4) (X ++ ([ob ((m % 256 : Nat) : Int)] : List UInt8)).length (nb2 ρ 4)), (vs (nb ρ 4) (X ++ ([ob ((m % 256 : Nat) : Int)] : List UInt8)).length (nb2 ρ 4))]) (fun ρ => [(3, (nw ρ 3 (cL #[(.int .u8 ((m % 256 : Nat) : Int))] 5))), (4, (pwt 0 (nb ρ 4) (cL (oc ρ 4) 5)))]) (fun ρ => [(4, fun w => Ap (oc ρ 4) (X ++ ([ob ((m % 256 : Nat) : Int)] : List UInt8)) (nb2 ρ 4))]) (fun _ => (fun _ => True)) (fun ρ => Ap (oc ρ 4) (X ++ ([ob ((m % 256 : Nat) : Int)] : List UInt8)) (nb2 ρ 4)) (fun _ _ hF hf => ⟨hF, hf 4⟩) (cR [[], []] <| cA (fun _ => (.int .u8 ((m % 256 : Nat) : Int))) (fun _ => congrArg (Value.int .u8) (u8M m)) <| cR [[]] <| cX (qM 0 (fun ρ _ _ hG hg => app_any (ty := 33) (g := q) (C := C) (c := κ) (xs := X) Tryz.underlying33 u8i (Ap.mk' hC hle (Nat.le_trans hX4 (by decide)) hs) (Bs.src (tx := 33) Tryz.underlying33 (Bs.of_hd (hG.kn (g := nb ρ 3) (o := (cL #[(.int .u8 ((m % 256 : Nat) : Int))] 5)) 25) (hd1 ((by omega))) (Nat.le_refl 1) (Nat.le_of_ble_eq_true rfl))) ((by simp only [List.length_cons, List.length_nil]; have := hX4; omega)) hg)) <| cR [[]] <| cN) (fun ρ8 ap8_4 => ?_)
   refine mt_block_n ?_
   refine mt_then ?_
   refine rS Tryz.f83 3 [0, 2, 3] [] (fun _ => [(.int .u32 ((m : Nat) : Int)), (.int .u32 ((m / 2 ^ 8 : Nat) : Int)), (.int .u32 ((m / 2 ^ 8 : Nat) : Int))]) (fun _ => []) (cR [[]] <| cB (a := fun ρ => (.int .u32 ((m : Nat) : Int))) (b := fun ρ => (.int .u64 8)) (v := fun ρ => (.int .u32 ((m / 2 ^ 8 : Nat) : Int))) .shr 41 (fun _ w => run_shrU (k := .u32) (x := m) (c := 8) (it_32 hmb) w) <| cR [[]] <| cN) (fun _ => ?_)
   exact mN (Sum.inr (m / 2 ^ 8, nb ρ8 4, X ++ ([ob ((m % 256 : Nat) : Int)] : List UInt8), oc ρ8 4, nb2 ρ8 4)) (it_lt hb2) (⟨(it_next hb2 hX4 hmb hE).1, (it_next hb2 hX4 hmb hE).2.1, (it_next hb2 hX4 hmb hE).2.2, ap8_4.hd, ap8_4.size, ap8_4.le⟩) []
  ·
   rw [hb2]
   refine ok_exit ?_
   refine mt_then_e ?_
   refine mt_then_e ?_
   refine mt_block_h ?_
   refine mt_then ?_
   refine sS Tryz.f83 2 [2] [] (fun _ => [(vs q (X).length κ), (vs q (X).length κ)]) (fun _ => []) (cR [[], []] <| cN) (fun _ => ?_)
   refine ok_ret ?_
   refine mD [(2, (vs q (X).length κ))] [(q, (cL C 5))] ?_
   exact mR (v := (vs q (X).length κ)) (fun _ hS => ⟨(some ⟨q, 0, none⟩), κ, congrArg Ending.returned (by rw [← (show X = itB n by rw [← hE, itF_z hb2]; exact (List.append_nil X).symm)] <;> rfl), hS.bel, fs_eq ((show X = itB n by rw [← hE, itF_z hb2]; exact (List.append_nil X).symm)) (hS.fresh (.head _) hC hle (Nat.le_trans hX4 (by decide)))⟩)
theorem single_any (p : Nat) (_hp : p < M) (w0 : World) : Calls Tryz.prog 42 #[(U p)] w0 (fun ε w' => ∃ α κ, ε = .returned (.slice α (sgB p).length κ) ∧ Below w0.heap.size w0 w' ∧ Fs w0 w' α κ (sgB p)) := by
 refine Calls.of_ok (n := 11) (F := (fun _ => True)) Tryz.func42 rfl rfl rfl (by simp) (persTrue (fun _ => trivial)) ?_
 refine sS Tryz.f42 2 [1, 2] [] (fun ρ => [(pt (nb ρ 0)), (.slice none 0 0)]) (fun ρ => [(0, (nw ρ 0 (cL (cU p) 39)))]) (cR [[], []] <| cN) (fun _ => ?_)
 refine sS Tryz.f42 4 [2, 3] [0, 1] (fun ρ => [(U p), (.agg (hB p)), (pt (nb ρ 2)), undef]) (fun ρ => [(2, (nw ρ 2 (cL (hB 0) 43))), (3, (pwt 17 (nb ρ 2) (cL (hB p) 43)))]) (cR [[0]] <| cC (fun _ w => bytes_any p w) <| cR [[], [17]] <| cN) (fun ρ2 => ?_)
 refine sSf Tryz.f42 6 [2] [0, 0, 0] (fun ρ => [(vs (nb ρ2 2) (hL p).length 32), (.slice (oa ρ 1) (psB (hL p)).length (nb ρ 1)), (vs (nb ρ 2) (([10] : List UInt8)).length 1), (vs (nb ρ 3) 2 2), (.slice (oa ρ 4) ((psB (hL p)) ++ ([10] : List UInt8)).length (nb ρ 4)), (.slice (oa ρ 4) ((psB (hL p)) ++ ([10] : List UInt8)).length (nb ρ 4))]) (fun ρ => [(2, (nw ρ 2 (cL #[(.int .u8 10)] 5))), (3, (nw ρ 3 (cL #[(.slice (oa ρ 1) (psB (hL p)).length (nb ρ 1)), (vs (nb ρ 2) (([10] : List UInt8)).length 1)] 33)))]) (fun ρ => [(1, fun w => Fs w0 w (oa ρ 1) (nb ρ 1) (psB (hL p))), (4, fun w => Fs w0 w (oa ρ 4) (nb ρ 4) ((psB (hL p)) ++ ([10] : List UInt8)))]) (fun ρ => (fun w => Fs w0 w (oa ρ 1) (nb ρ 1) (psB (hL p)) ∧ Fs w0 w (oa ρ 4) (nb ρ 4) ((psB (hL p)) ++ ([10] : List UInt8)) ∧ True)) (fun _ => True) (fun _ _ _ hf => ⟨⟨hf 1, hf 4, trivial⟩, trivial⟩) (cR [[]] <| cX (qB (fun _ _ w hG => push_any (some ⟨nb ρ2 2, 0, none⟩) 32 (hL p) (by rw [hL_length]; decide) w (Bs.of_hd (c := 32) (hG.kn (g := nb ρ2 2) (o := (cL (hB p) 43)) 0) (hd_hB _) (Nat.le_refl _) (Nat.le_of_ble_eq_true rfl)))) <| cR [[], []] <| cX (qB (fun ρ _ w hG => scrow2_any (nb ρ 3) (oa ρ 1) (nb ρ 1) (psB (hL p)) (some ⟨nb ρ 2, 0, none⟩) 1 ([10] : List UInt8) (by simp only [List.length_cons, List.length_nil, psB_len, hL_length]; omega) (psB_pos _) w (Kb.of_block (hG.kn (g := nb ρ 3) (o := (cL #[(.slice (oa ρ 1) (psB (hL p)).length (nb ρ 1)), (vs (nb ρ 2) (([10] : List UInt8)).length 1)] 33)) 25)) ((show Fs w0 w (oa ρ 1) (nb ρ 1) (psB (hL p)) from (hG.facts 1 rfl).now).1) (Bs.of_hd (hG.kn (g := nb ρ 2) (o := (cL #[(.int .u8 10)] 5)) 17) (rfl : Hd #[(.int .u8 10)] ([10] : List UInt8)) (Nat.le_refl 1) (Nat.le_of_ble_eq_true rfl)))) <| cR [[]] <| cN) (fun ρ3 _ => ?_)
 refine ok_ret ?_
 refine mD [(2, (.slice (oa ρ3 4) ((psB (hL p)) ++ ([10] : List UInt8)).length (nb ρ3 4)))] [] ?_
 exact mR (v := (.slice (oa ρ3 4) ((psB (hL p)) ++ ([10] : List UInt8)).length (nb ρ3 4))) (fun _ hS => ⟨oa ρ3 4, nb ρ3 4, congrArg Ending.returned (rfl), hS.bel, fs_eq (rfl) hS.facts.now.2.1⟩)
theorem after_any (n : Nat) (a : Option Addr) (c : Nat) (B : List UInt8) (hn : n < 4294967296) (hl : B.length ≤ 1000000) (w0 : World) (hf0 : Bs w0 a c B) : Calls Tryz.prog 44 #[(.int .u32 ((n : Nat) : Int)), (.slice a (B).length c)] w0 (fun ε w' => ∃ α κ, ε = .returned (.slice α (afB n B).length κ) ∧ Below w0.heap.size w0 w' ∧ Fs w0 w' α κ (afB n B)) := by
 refine Calls.of_ok (n := 12) (F := (fun w => Bs w a c B ∧ True)) Tryz.func44 rfl rfl rfl (by simp) (hf0.pers0.and persT) ?_
 refine sS Tryz.f44 1 [0, 1, 4] [] (fun _ => [(.slice none 0 0)]) (fun _ => []) (cR [[]] <| cN) (fun _ => ?_)
 refine sSf Tryz.f44 8 [4] [0, 0] (fun ρ => [(.int .u32 ((n : Nat) : Int)), (.slice (oa ρ 1) (itB n).length (nb ρ 1)), (.slice (oa ρ 2) (psB (itB n)).length (nb ρ 2)), (vs (nb ρ 3) (([12, 3] : List UInt8)).length 2), (.slice a (B).length c), (vs (nb ρ 5) 3 3), (.slice (oa ρ 6) (((psB (itB n)) ++ ([12, 3] : List UInt8)) ++ B).length (nb ρ 6)), (.slice (oa ρ 6) (((psB (itB n)) ++ ([12, 3] : List UInt8)) ++ B).length (nb ρ 6))]) (fun ρ => [(3, (nw ρ 3 (cL #[(.int .u8 12), (.int .u8 3)] 5))), (5, (nw ρ 5 (cL #[(.slice (oa ρ 2) (psB (itB n)).length (nb ρ 2)), (vs (nb ρ 3) (([12, 3] : List UInt8)).length 2), (.slice a (B).length c)] 33)))]) (fun ρ => [(1, fun w => Fs w0 w (oa ρ 1) (nb ρ 1) (itB n)), (2, fun w => Fs w0 w (oa ρ 2) (nb ρ 2) (psB (itB n))), (6, fun w => Fs w0 w (oa ρ 6) (nb ρ 6) (((psB (itB n)) ++ ([12, 3] : List UInt8)) ++ B))]) (fun ρ => (fun w => Bs w a c B ∧ Fs w0 w (oa ρ 1) (nb ρ 1) (itB n) ∧ Fs w0 w (oa ρ 2) (nb ρ 2) (psB (itB n)) ∧ Fs w0 w (oa ρ 6) (nb ρ 6) (((psB (itB n)) ++ ([12, 3] : List UInt8)) ++ B) ∧ True)) (fun _ => True) (fun _ _ hF hf => ⟨⟨hF.1, hf 1, hf 2, hf 6, trivial⟩, trivial⟩) (cR [[]] <| cX (qB (fun _ _ w _ => item_any n hn w )) <| cX (qB (fun ρ _ w hG => push_any (oa ρ 1) (nb ρ 1) (itB n) (by have := itB_len n; omega) w ((show Fs w0 w (oa ρ 1) (nb ρ 1) (itB n) from (hG.facts 1 rfl).now).1))) <| cR [[], [], []] <| cX (qB (fun ρ _ w hG => scrow3_any (nb ρ 5) (oa ρ 2) (nb ρ 2) (psB (itB n)) (some ⟨nb ρ 3, 0, none⟩) 2 ([12, 3] : List UInt8) a c B (by simp only [List.length_cons, List.length_nil, psB_len]; have := hl; have := itB_len n; omega) (psB_pos _) w (Kb.of_block (hG.kn (g := nb ρ 5) (o := (cL #[(.slice (oa ρ 2) (psB (itB n)).length (nb ρ 2)), (vs (nb ρ 3) (([12, 3] : List UInt8)).length 2), (.slice a (B).length c)] 33)) 40)) ((show Fs w0 w (oa ρ 2) (nb ρ 2) (psB (itB n)) from (hG.facts 2 rfl).now).1) (Bs.of_hd (hG.kn (g := nb ρ 3) (o := (cL #[(.int .u8 12), (.int .u8 3)] 5)) 24) (rfl : Hd #[(.int .u8 12), (.int .u8 3)] ([12, 3] : List UInt8)) (Nat.le_refl 2) (Nat.le_of_ble_eq_true rfl)) hG.facts0.now.1)) <| cR [[]] <| cN) (fun ρ2 _ => ?_)
 refine ok_ret ?_
 refine mD [(4, (.slice (oa ρ2 6) (((psB (itB n)) ++ ([12, 3] : List UInt8)) ++ B).length (nb ρ2 6)))] [] ?_
 exact mR (v := (.slice (oa ρ2 6) (((psB (itB n)) ++ ([12, 3] : List UInt8)) ++ B).length (nb ρ2 6))) (fun _ hS => ⟨oa ρ2 6, nb ρ2 6, congrArg Ending.returned (rfl), hS.bel, fs_eq (rfl) hS.facts.now.2.2.2.1⟩)
theorem older_any (n : Nat) (a : Option Addr) (c : Nat) (B : List UInt8) (hn : n < 4294967296) (hl : B.length ≤ 1000000) (w0 : World) (hf0 : Bs w0 a c B) : Calls Tryz.prog 45 #[(.int .u32 ((n : Nat) : Int)), (.slice a (B).length c)] w0 (fun ε w' => ∃ α κ, ε = .returned (.slice α (olB n B).length κ) ∧ Below w0.heap.size w0 w' ∧ Fs w0 w' α κ (olB n B)) := by
 refine Calls.of_ok (n := 12) (F := (fun w => Bs w a c B ∧ True)) Tryz.func45 rfl rfl rfl (by simp) (hf0.pers0.and persT) ?_
 refine sS Tryz.f45 1 [0, 1, 4] [] (fun _ => [(.slice none 0 0)]) (fun _ => []) (cR [[]] <| cN) (fun _ => ?_)
 refine sSf Tryz.f45 8 [4] [0, 0] (fun ρ => [(.int .u32 ((n : Nat) : Int)), (.slice (oa ρ 1) (itB n).length (nb ρ 1)), (.slice (oa ρ 2) (psB (itB n)).length (nb ρ 2)), (vs (nb ρ 3) (([13, 3] : List UInt8)).length 2), (.slice a (B).length c), (vs (nb ρ 5) 3 3), (.slice (oa ρ 6) (((psB (itB n)) ++ ([13, 3] : List UInt8)) ++ B).length (nb ρ 6)), (.slice (oa ρ 6) (((psB (itB n)) ++ ([13, 3] : List UInt8)) ++ B).length (nb ρ 6))]) (fun ρ => [(3, (nw ρ 3 (cL #[(.int .u8 13), (.int .u8 3)] 5))), (5, (nw ρ 5 (cL #[(.slice (oa ρ 2) (psB (itB n)).length (nb ρ 2)), (vs (nb ρ 3) (([13, 3] : List UInt8)).length 2), (.slice a (B).length c)] 33)))]) (fun ρ => [(1, fun w => Fs w0 w (oa ρ 1) (nb ρ 1) (itB n)), (2, fun w => Fs w0 w (oa ρ 2) (nb ρ 2) (psB (itB n))), (6, fun w => Fs w0 w (oa ρ 6) (nb ρ 6) (((psB (itB n)) ++ ([13, 3] : List UInt8)) ++ B))]) (fun ρ => (fun w => Bs w a c B ∧ Fs w0 w (oa ρ 1) (nb ρ 1) (itB n) ∧ Fs w0 w (oa ρ 2) (nb ρ 2) (psB (itB n)) ∧ Fs w0 w (oa ρ 6) (nb ρ 6) (((psB (itB n)) ++ ([13, 3] : List UInt8)) ++ B) ∧ True)) (fun _ => True) (fun _ _ hF hf => ⟨⟨hF.1, hf 1, hf 2, hf 6, trivial⟩, trivial⟩) (cR [[]] <| cX (qB (fun _ _ w _ => item_any n hn w )) <| cX (qB (fun ρ _ w hG => push_any (oa ρ 1) (nb ρ 1) (itB n) (by have := itB_len n; omega) w ((show Fs w0 w (oa ρ 1) (nb ρ 1) (itB n) from (hG.facts 1 rfl).now).1))) <| cR [[], [], []] <| cX (qB (fun ρ _ w hG => scrow3_any (nb ρ 5) (oa ρ 2) (nb ρ 2) (psB (itB n)) (some ⟨nb ρ 3, 0, none⟩) 2 ([13, 3] : List UInt8) a c B (by simp only [List.length_cons, List.length_nil, psB_len]; have := hl; have := itB_len n; omega) (psB_pos _) w (Kb.of_block (hG.kn (g := nb ρ 5) (o := (cL #[(.slice (oa ρ 2) (psB (itB n)).length (nb ρ 2)), (vs (nb ρ 3) (([13, 3] : List UInt8)).length 2), (.slice a (B).length c)] 33)) 40)) ((show Fs w0 w (oa ρ 2) (nb ρ 2) (psB (itB n)) from (hG.facts 2 rfl).now).1) (Bs.of_hd (hG.kn (g := nb ρ 3) (o := (cL #[(.int .u8 13), (.int .u8 3)] 5)) 24) (rfl : Hd #[(.int .u8 13), (.int .u8 3)] ([13, 3] : List UInt8)) (Nat.le_refl 2) (Nat.le_of_ble_eq_true rfl)) hG.facts0.now.1)) <| cR [[]] <| cN) (fun ρ2 _ => ?_)
 refine ok_ret ?_
 refine mD [(4, (.slice (oa ρ2 6) (((psB (itB n)) ++ ([13, 3] : List UInt8)) ++ B).length (nb ρ2 6)))] [] ?_
 exact mR (v := (.slice (oa ρ2 6) (((psB (itB n)) ++ ([13, 3] : List UInt8)) ++ B).length (nb ρ2 6))) (fun _ hS => ⟨oa ρ2 6, nb ρ2 6, congrArg Ending.returned (rfl), hS.bel, fs_eq (rfl) hS.facts.now.2.2.2.1⟩)
theorem hashed_any (h : Nat) (a : Option Addr) (c : Nat) (B : List UInt8) (_hh : h < M) (hl : B.length ≤ 1000000) (w0 : World) (hf0 : Bs w0 a c B) : Calls Tryz.prog 46 #[(.agg (hB h)), (.slice a (B).length c)] w0 (fun ε w' => ∃ α κ, ε = .returned (.slice α (hsB h B).length κ) ∧ Below w0.heap.size w0 w' ∧ Fs w0 w' α κ (hsB h B)) := by
 refine Calls.of_ok (n := 12) (F := (fun w => Bs w a c B ∧ True)) Tryz.func46 rfl rfl rfl (by simp) (hf0.pers0.and persT) ?_
 refine sS Tryz.f46 2 [1, 2, 4] [] (fun ρ => [(pt (nb ρ 0)), (.slice none 0 0)]) (fun ρ => [(0, (nw ρ 0 (cL (hB h) 43)))]) (cR [[], []] <| cN) (fun ρ1 => ?_)
 refine sSf Tryz.f46 8 [4] [0, 0, 0, 0] (fun ρ => [(vs (nb ρ 0) (([8] : List UInt8)).length 1), (vs (nb ρ1 0) (hL h).length 32), (.slice (oa ρ 2) (psB (hL h)).length (nb ρ 2)), (vs (nb ρ 3) (([5, 7] : List UInt8)).length 2), (.slice a (B).length c), (vs (nb ρ 5) 4 4), (.slice (oa ρ 6) (((([8] : List UInt8) ++ (psB (hL h))) ++ ([5, 7] : List UInt8)) ++ B).length (nb ρ 6)), (.slice (oa ρ 6) (((([8] : List UInt8) ++ (psB (hL h))) ++ ([5, 7] : List UInt8)) ++ B).length (nb ρ 6))]) (fun ρ => [(0, (nw ρ 0 (cL #[(.int .u8 8)] 5))), (3, (nw ρ 3 (cL #[(.int .u8 5), (.int .u8 7)] 5))), (5, (nw ρ 5 (cL #[(vs (nb ρ 0) (([8] : List UInt8)).length 1), (.slice (oa ρ 2) (psB (hL h)).length (nb ρ 2)), (vs (nb ρ 3) (([5, 7] : List UInt8)).length 2), (.slice a (B).length c)] 33)))]) (fun ρ => [(2, fun w => Fs w0 w (oa ρ 2) (nb ρ 2) (psB (hL h))), (6, fun w => Fs w0 w (oa ρ 6) (nb ρ 6) (((([8] : List UInt8) ++ (psB (hL h))) ++ ([5, 7] : List UInt8)) ++ B))]) (fun ρ => (fun w => Bs w a c B ∧ Fs w0 w (oa ρ 2) (nb ρ 2) (psB (hL h)) ∧ Fs w0 w (oa ρ 6) (nb ρ 6) (((([8] : List UInt8) ++ (psB (hL h))) ++ ([5, 7] : List UInt8)) ++ B) ∧ True)) (fun _ => True) (fun _ _ hF hf => ⟨⟨hF.1, hf 2, hf 6, trivial⟩, trivial⟩) (cR [[], []] <| cX (qB (fun _ _ w hG => push_any (some ⟨nb ρ1 0, 0, none⟩) 32 (hL h) (by rw [hL_length]; decide) w (Bs.of_hd (c := 32) (hG.kn (g := nb ρ1 0) (o := (cL (hB h) 43)) 0) (hd_hB _) (Nat.le_refl _) (Nat.le_of_ble_eq_true rfl)))) <| cR [[], [], []] <| cX (qB (fun ρ _ w hG => scrow4_any (nb ρ 5) (some ⟨nb ρ 0, 0, none⟩) 1 ([8] : List UInt8) (oa ρ 2) (nb ρ 2) (psB (hL h)) (some ⟨nb ρ 3, 0, none⟩) 2 ([5, 7] : List UInt8) a c B (by simp only [List.length_cons, List.length_nil, psB_len, hL_length]; have := hl; omega) (Nat.zero_lt_succ _) w (Kb.of_block (hG.kn (g := nb ρ 5) (o := (cL #[(vs (nb ρ 0) (([8] : List UInt8)).length 1), (.slice (oa ρ 2) (psB (hL h)).length (nb ρ 2)), (vs (nb ρ 3) (([5, 7] : List UInt8)).length 2), (.slice a (B).length c)] 33)) 41)) (Bs.of_hd (hG.kn (g := nb ρ 0) (o := (cL #[(.int .u8 8)] 5)) 1) (rfl : Hd #[(.int .u8 8)] ([8] : List UInt8)) (Nat.le_refl 1) (Nat.le_of_ble_eq_true rfl)) ((show Fs w0 w (oa ρ 2) (nb ρ 2) (psB (hL h)) from (hG.facts 2 rfl).now).1) (Bs.of_hd (hG.kn (g := nb ρ 3) (o := (cL #[(.int .u8 5), (.int .u8 7)] 5)) 25) (rfl : Hd #[(.int .u8 5), (.int .u8 7)] ([5, 7] : List UInt8)) (Nat.le_refl 2) (Nat.le_of_ble_eq_true rfl)) hG.facts0.now.1)) <| cR [[]] <| cN) (fun ρ2 _ => ?_)
 refine ok_ret ?_
 refine mD [(4, (.slice (oa ρ2 6) (((([8] : List UInt8) ++ (psB (hL h))) ++ ([5, 7] : List UInt8)) ++ B).length (nb ρ2 6)))] [] ?_
 exact mR (v := (.slice (oa ρ2 6) (((([8] : List UInt8) ++ (psB (hL h))) ++ ([5, 7] : List UInt8)) ++ B).length (nb ρ2 6))) (fun _ hS => ⟨oa ρ2 6, nb ρ2 6, congrArg Ending.returned (rfl), hS.bel, fs_eq (rfl) hS.facts.now.2.2.1⟩)
theorem either_any (a : Option Addr) (c : Nat) (B : List UInt8) (a2 : Option Addr) (c2 : Nat) (S : List UInt8) (hl : B.length ≤ 1000000) (hl2 : S.length ≤ 1000000) (w0 : World) (hf0 : Bs w0 a c B) (hf1 : Bs w0 a2 c2 S) : Calls Tryz.prog 47 #[(.slice a (B).length c), (.slice a2 (S).length c2)] w0 (fun ε w' => ∃ α κ, ε = .returned (.slice α (eiB B S).length κ) ∧ Below w0.heap.size w0 w' ∧ Fs w0 w' α κ (eiB B S)) := by
 refine Calls.of_ok (n := 12) (F := (fun w => Bs w a c B ∧ Bs w a2 c2 S ∧ True)) Tryz.func47 rfl rfl rfl (by simp) (hf0.pers0.and (hf1.pers0.and persT)) ?_
 refine sS Tryz.f47 1 [0, 1, 4] [] (fun _ => [(.slice none 0 0)]) (fun _ => []) (cR [[]] <| cN) (fun _ => ?_)
 refine sSf Tryz.f47 8 [4] [0, 0, 0, 0] (fun ρ => [(vs (nb ρ 0) (([14] : List UInt8)).length 1), (.slice a (B).length c), (vs (nb ρ 2) (([15] : List UInt8)).length 1), (.slice a2 (S).length c2), (vs (nb ρ 4) (([16] : List UInt8)).length 1), (vs (nb ρ 5) 5 5), (.slice (oa ρ 6) ((((([14] : List UInt8) ++ B) ++ ([15] : List UInt8)) ++ S) ++ ([16] : List UInt8)).length (nb ρ 6)), (.slice (oa ρ 6) ((((([14] : List UInt8) ++ B) ++ ([15] : List UInt8)) ++ S) ++ ([16] : List UInt8)).length (nb ρ 6))]) (fun ρ => [(0, (nw ρ 0 (cL #[(.int .u8 14)] 5))), (2, (nw ρ 2 (cL #[(.int .u8 15)] 5))), (4, (nw ρ 4 (cL #[(.int .u8 16)] 5))), (5, (nw ρ 5 (cL #[(vs (nb ρ 0) (([14] : List UInt8)).length 1), (.slice a (B).length c), (vs (nb ρ 2) (([15] : List UInt8)).length 1), (.slice a2 (S).length c2), (vs (nb ρ 4) (([16] : List UInt8)).length 1)] 33)))]) (fun ρ => [(6, fun w => Fs w0 w (oa ρ 6) (nb ρ 6) ((((([14] : List UInt8) ++ B) ++ ([15] : List UInt8)) ++ S) ++ ([16] : List UInt8)))]) (fun ρ => (fun w => Bs w a c B ∧ Bs w a2 c2 S ∧ Fs w0 w (oa ρ 6) (nb ρ 6) ((((([14] : List UInt8) ++ B) ++ ([15] : List UInt8)) ++ S) ++ ([16] : List UInt8)) ∧ True)) (fun _ => True) (fun _ _ hF hf => ⟨⟨hF.1, hF.2.1, hf 6, trivial⟩, trivial⟩) (cR [[], [], [], [], [], []] <| cX (qB (fun ρ _ w hG => scrow5_any (nb ρ 5) (some ⟨nb ρ 0, 0, none⟩) 1 ([14] : List UInt8) a c B (some ⟨nb ρ 2, 0, none⟩) 1 ([15] : List UInt8) a2 c2 S (some ⟨nb ρ 4, 0, none⟩) 1 ([16] : List UInt8) (by simp only [List.length_cons, List.length_nil]; have := hl; have := hl2; omega) (Nat.zero_lt_succ _) w (Kb.of_block (hG.kn (g := nb ρ 5) (o := (cL #[(vs (nb ρ 0) (([14] : List UInt8)).length 1), (.slice a (B).length c), (vs (nb ρ 2) (([15] : List UInt8)).length 1), (.slice a2 (S).length c2), (vs (nb ρ 4) (([16] : List UInt8)).length 1)] 33)) 40)) (Bs.of_hd (hG.kn (g := nb ρ 0) (o := (cL #[(.int .u8 14)] 5)) 0) (rfl : Hd #[(.int .u8 14)] ([14] : List UInt8)) (Nat.le_refl 1) (Nat.le_of_ble_eq_true rfl)) hG.facts0.now.1 (Bs.of_hd (hG.kn (g := nb ρ 2) (o := (cL #[(.int .u8 15)] 5)) 16) (rfl : Hd #[(.int .u8 15)] ([15] : List UInt8)) (Nat.le_refl 1) (Nat.le_of_ble_eq_true rfl)) hG.facts0.now.2.1 (Bs.of_hd (hG.kn (g := nb ρ 4) (o := (cL #[(.int .u8 16)] 5)) 32) (rfl : Hd #[(.int .u8 16)] ([16] : List UInt8)) (Nat.le_refl 1) (Nat.le_of_ble_eq_true rfl)))) <| cR [[]] <| cN) (fun ρ2 _ => ?_)
 refine ok_ret ?_
 refine mD [(4, (.slice (oa ρ2 6) ((((([14] : List UInt8) ++ B) ++ ([15] : List UInt8)) ++ S) ++ ([16] : List UInt8)).length (nb ρ2 6)))] [] ?_
 exact mR (v := (.slice (oa ρ2 6) ((((([14] : List UInt8) ++ B) ++ ([15] : List UInt8)) ++ S) ++ ([16] : List UInt8)).length (nb ρ2 6))) (fun _ hS => ⟨oa ρ2 6, nb ρ2 6, congrArg Ending.returned (rfl), hS.bel, fs_eq (rfl) hS.facts.now.2.2.1⟩)
theorem known1_any  (w0 : World) : Calls Tryz.prog 139 #[(vi 1)] w0 (fun ε w' => ε = .returned (.bool true) ∧ Below w0.heap.size w0 w') := by
 refine Calls.of_ok (n := 9) (F := (fun _ => True)) Tryz.func139 rfl rfl rfl (by simp) (persTrue (fun _ => trivial)) ?_
 refine sS Tryz.f139 1 [0, 2] [] (fun _ => [(.bool false)]) (fun _ => []) (cR [[]] <| cN) (fun _ => ?_)
 refine sS Tryz.f139 7 [2] [] (fun _ => [(vi 1), (.bool true), (.bool true), (vi 1), (.bool true), (.bool true), (.bool true)]) (fun _ => []) (cR [[], [], [], [], [], [], []] <| cN) (fun _ => ?_)
 refine ok_ret ?_
 exact mR (v := (.bool true)) (fun _ hS => ⟨rfl, hS.bel⟩)
theorem known11_any  (w0 : World) : Calls Tryz.prog 139 #[(vi 11)] w0 (fun ε w' => ε = .returned (.bool true) ∧ Below w0.heap.size w0 w') := by
 refine Calls.of_ok (n := 9) (F := (fun _ => True)) Tryz.func139 rfl rfl rfl (by simp) (persTrue (fun _ => trivial)) ?_
 refine sS Tryz.f139 1 [0, 2] [] (fun _ => [(.bool false)]) (fun _ => []) (cR [[]] <| cN) (fun _ => ?_)
 refine sS Tryz.f139 7 [2] [] (fun _ => [(vi 11), (.bool true), (.bool true), (vi 11), (.bool true), (.bool true), (.bool true)]) (fun _ => []) (cR [[], [], [], [], [], [], []] <| cN) (fun _ => ?_)
 refine ok_ret ?_
 exact mR (v := (.bool true)) (fun _ hS => ⟨rfl, hS.bel⟩)
theorem inrange2 (m : Int) (hm : 1 ≤ m ∧ m ≤ 2) (w0 : World) : Calls Tryz.prog 140 #[(vi m), (vi 2)] w0 (fun ε w' => ε = .returned (.bool true) ∧ Below w0.heap.size w0 w') := by
 refine Calls.of_ok (n := 20) (F := (fun _ => True)) Tryz.func140 rfl rfl rfl (by simp) (persTrue (fun _ => trivial)) ?_
 refine sS Tryz.f140 1 [0, 1, 4] [] (fun _ => [(.bool false)]) (fun _ => []) (cR [[]] <| cN) (fun _ => ?_)
 refine sS Tryz.f140 16 [4] [] (fun _ => [(vi 2), (.bool true), (.bool true), (vi 2), (.bool true), (.bool true), (.bool true), (vi m), (.bool true), (.bool true), (.bool true), (vi m), (vi 2), (.bool true), (.bool true), (.bool true)]) (fun _ => []) (cR [[], [], [], [], [], [], [], []] <| cA (v := fun ρ => (.bool (decide (1 ≤ m)))) (fun _ => (.bool true)) (fun _ => congrArg Value.bool (decide_eq_true (by have := hm; omega))) <| cR [[], [], [], []] <| cA (v := fun ρ => (.bool (decide (m ≤ 2)))) (fun _ => (.bool true)) (fun _ => congrArg Value.bool (decide_eq_true (by have := hm; omega))) <| cR [[], []] <| cN) (fun _ => ?_)
 refine ok_ret ?_
 exact mR (v := (.bool true)) (fun _ hS => ⟨rfl, hS.bel⟩)
theorem checkm2 (m : Int) (hm : 1 ≤ m ∧ m ≤ 2) (w0 : World) : Calls Tryz.prog 111 #[(.agg #[(vi 11), (.slice none 0 0), (vi m), (vi 2)])] w0 (fun ε w' => ε = .returned (vi 0) ∧ Below w0.heap.size w0 w') := by
 refine Calls.of_ok (n := 49) (F := (fun _ => True)) Tryz.func111 rfl rfl rfl (by simp) (persTrue (fun _ => trivial)) ?_
 refine sS Tryz.f111 2 [1, 2] [] (fun ρ => [(pt (nb ρ 0)), (vi 0)]) (fun ρ => [(0, (nw ρ 0 (cL #[(vi 11), (.slice none 0 0), (vi m), (vi 2)] 100)))]) (cR [[], []] <| cN) (fun ρ1 => ?_)
 refine ok_seq ?_
 refine ok_block ?_
 refine sS Tryz.f111 5 [1, 2, 3] [] (fun _ => [(pt (nb ρ1 0)), (vi 11), (.bool true), (.bool false), (.bool false)]) (fun _ => []) (cR [[], [0]] <| cC (fun _ w => known11_any w) <| cR [[], []] <| cN) (fun _ => ?_)
 refine oN ?_
 refine sS Tryz.f111 10 [1, 2, 8] [] (fun _ => [(pt (nb ρ1 0)), (vi 11), (.bool true), (.bool true), (.pointer (some ⟨nb ρ1 0, 1, none⟩)), (.slice none 0 0), (vi 0), (.bool false), (.bool false), (.bool false)]) (fun _ => []) (cR [[], [0], [], [], [], [0], [], [], [], []] <| cN) (fun _ => ?_)
 refine oN ?_
 refine sS Tryz.f111 14 [1, 2, 18] [] (fun _ => [(pt (nb ρ1 0)), (vi 11), (.bool false), (.bool false), undef, undef, undef, undef, undef, undef, undef, undef, (.bool false), (.bool false)]) (fun _ => []) (cR [[], [0], [], [], [], [], [], [], [], [], [], [], [], []] <| cN) (fun _ => ?_)
 refine oN ?_
 refine sS Tryz.f111 5 [1, 2, 32] [] (fun _ => [(.pointer (some ⟨nb ρ1 0, 1, none⟩)), (.slice none 0 0), (vi 0), (.bool false), (.bool false)]) (fun _ => []) (cR [[], [0], [], [], []] <| cN) (fun _ => ?_)
 refine oN ?_
 refine sS Tryz.f111 12 [2, 37] [0] (fun _ => [(pt (nb ρ1 0)), (vi 11), (.bool true), (.bool true), (.pointer (some ⟨nb ρ1 0, 2, none⟩)), (vi m), (.pointer (some ⟨nb ρ1 0, 3, none⟩)), (vi 2), (.bool true), (.bool false), (.bool false), (.bool false)]) (fun _ => []) (cR [[], [0], [], [], [], [0], [], [0]] <| cC (fun _ w => inrange2 m hm w) <| cR [[], [], []] <| cN) (fun _ => ?_)
 refine oN ?_
 refine ok_skip ?_
 refine mt_block_n ?_
 refine mt_then ?_
 refine sS Tryz.f111 1 [2] [] (fun _ => [(vi 0)]) (fun _ => []) (cR [[]] <| cN) (fun _ => ?_)
 refine ok_ret ?_
 exact mR (v := (vi 0)) (fun _ hS => ⟨rfl, hS.bel⟩)
theorem encodem2 (m : Int) (hm : 1 ≤ m ∧ m ≤ 2) (w0 : World) : Calls Tryz.prog 112 #[(.agg #[(vi 11), (.slice none 0 0), (vi m), (vi 2)])] w0 (fun ε w' => ∃ α κ, ε = .returned (.slice α ([ob 11, ob m, ob 2]).length κ) ∧ Below w0.heap.size w0 w' ∧ Fs w0 w' α κ ([ob 11, ob m, ob 2])) := by
 refine Calls.of_ok (n := 23) (F := (fun _ => True)) Tryz.func112 rfl rfl rfl (by simp) (persTrue (fun _ => trivial)) ?_
 refine sS Tryz.f112 2 [1, 2] [] (fun ρ => [(pt (nb ρ 0)), (.slice none 0 0)]) (fun ρ => [(0, (nw ρ 0 (cL #[(vi 11), (.slice none 0 0), (vi m), (vi 2)] 100)))]) (cR [[], []] <| cN) (fun ρ1 => ?_)
 refine ok_seq ?_
 refine sS Tryz.f112 2 [1, 2, 4] [] (fun _ => [(pt (nb ρ1 0)), (vi 11)]) (fun _ => []) (cR [[], [0]] <| cN) (fun _ => ?_)
 refine ok_block ?_
 refine sS Tryz.f112 2 [1, 2, 4, 5] [] (fun _ => [(.bool false), (.bool false)]) (fun _ => []) (cR [[], []] <| cN) (fun _ => ?_)
 refine oN ?_
 refine sS Tryz.f112 2 [1, 2, 10] [] (fun _ => [(.bool true), (.bool true)]) (fun _ => []) (cR [[], []] <| cN) (fun _ => ?_)
 refine oY ?_
 refine sS Tryz.f112 8 [1, 2] [] (fun ρ => [(.pointer (some ⟨nb ρ1 0, 2, none⟩)), (vi m), (.int .u8 m), (.pointer (some ⟨nb ρ1 0, 3, none⟩)), (vi 2), (.int .u8 2), (vs (nb ρ 6) (([ob 11, ob m, ob 2] : List UInt8)).length 3), (vs (nb ρ 6) (([ob 11, ob m, ob 2] : List UInt8)).length 3)]) (fun ρ => [(6, (nw ρ 6 (cL #[(.int .u8 11), (.int .u8 m), (.int .u8 2)] 5)))]) (cR [[], [0]] <| cA (v := fun ρ => (.int .u8 (IntKind.u8.wrap (m)))) (fun _ => (.int .u8 m)) (fun _ => congrArg (Value.int .u8) (u8I (by have := hm; omega))) <| cR [[], [0], [], [], []] <| cN) (fun ρ5 => ?_)
 refine ok_ret ?_
 refine mt_block_r ?_
 refine mt_then_r ?_
 refine mD [(1, (pt (nb ρ1 0))), (2, (vs (nb ρ5 6) (([ob 11, ob m, ob 2] : List UInt8)).length 3))] [(nb ρ1 0, (cL #[(vi 11), (.slice none 0 0), (vi m), (vi 2)] 100)), (nb ρ5 6, (cL #[(.int .u8 11), (.int .u8 m), (.int .u8 2)] 5))] ?_
 exact mR (v := (vs (nb ρ5 6) (([ob 11, ob m, ob 2] : List UInt8)).length 3)) (fun _ hS => ⟨(some ⟨nb ρ5 6, 0, none⟩), 3, congrArg Ending.returned (rfl), hS.bel, fs_eq (rfl) (hS.fresh (.tail _ (.head _)) (hd3 (by decide) ((by have := hm; omega)) (by decide)) (Nat.le_refl 3) (Nat.le_of_ble_eq_true rfl))⟩)
theorem check1_any (a : Option Addr) (c : Nat) (B : List UInt8) (hl : B.length ≤ 255) (w0 : World) : Calls Tryz.prog 111 #[(.agg #[(vi 1), (.slice a (B).length c), (vi 0), (vi 0)])] w0 (fun ε w' => ε = .returned (vi 0) ∧ Below w0.heap.size w0 w') := by
 refine Calls.of_ok (n := 49) (F := (fun _ => True)) Tryz.func111 rfl rfl rfl (by simp) (persTrue (fun _ => trivial)) ?_
 refine sS Tryz.f111 2 [1, 2] [] (fun ρ => [(pt (nb ρ 0)), (vi 0)]) (fun ρ => [(0, (nw ρ 0 (cL #[(vi 1), (.slice a (B).length c), (vi 0), (vi 0)] 100)))]) (cR [[], []] <| cN) (fun ρ1 => ?_)
 refine ok_seq ?_
 refine ok_block ?_
 refine sS Tryz.f111 5 [1, 2, 3] [] (fun _ => [(pt (nb ρ1 0)), (vi 1), (.bool true), (.bool false), (.bool false)]) (fun _ => []) (cR [[], [0]] <| cC (fun _ w => known1_any w) <| cR [[], []] <| cN) (fun _ => ?_)
 refine oN ?_
 refine sS Tryz.f111 10 [1, 2, 8] [] (fun _ => [(pt (nb ρ1 0)), (vi 1), (.bool false), (.bool false), undef, undef, undef, undef, (.bool false), (.bool false)]) (fun _ => []) (cR [[], [0], [], [], [], [], [], [], [], []] <| cN) (fun _ => ?_)
 refine oN ?_
 refine sS Tryz.f111 14 [1, 2, 18] [] (fun _ => [(pt (nb ρ1 0)), (vi 1), (.bool true), (.bool true), (.pointer (some ⟨nb ρ1 0, 2, none⟩)), (vi 0), (.bool false), (.bool false), (.pointer (some ⟨nb ρ1 0, 3, none⟩)), (vi 0), (.bool false), (.bool false), (.bool false), (.bool false)]) (fun _ => []) (cR [[], [0], [], [], [], [0], [], [], [], [0], [], [], [], []] <| cN) (fun _ => ?_)
 refine oN ?_
 refine sS Tryz.f111 5 [1, 2, 32] [] (fun _ => [(.pointer (some ⟨nb ρ1 0, 1, none⟩)), (.slice a (B).length c), (vn (B).length), (.bool false), (.bool false)]) (fun _ => []) (cR [[], [0], []] <| cA (v := fun ρ => (.bool (decide (255 < (((B).length : Nat) : Int))))) (fun _ => (.bool false)) (fun _ => congrArg Value.bool (decide_eq_false (by have := hl; omega))) <| cR [[]] <| cN) (fun _ => ?_)
 refine oN ?_
 refine sS Tryz.f111 12 [2, 37] [0] (fun _ => [(pt (nb ρ1 0)), (vi 1), (.bool false), (.bool false), undef, undef, undef, undef, undef, undef, (.bool false), (.bool false)]) (fun _ => []) (cR [[], [0], [], [], [], [], [], [], [], [], [], []] <| cN) (fun _ => ?_)
 refine oN ?_
 refine ok_skip ?_
 refine mt_block_n ?_
 refine mt_then ?_
 refine sS Tryz.f111 1 [2] [] (fun _ => [(vi 0)]) (fun _ => []) (cR [[]] <| cN) (fun _ => ?_)
 refine ok_ret ?_
 exact mR (v := (vi 0)) (fun _ hS => ⟨rfl, hS.bel⟩)
theorem encode1_any (a : Option Addr) (c : Nat) (B : List UInt8) (hl : B.length ≤ 255) (w0 : World) (hf0 : Bs w0 a c B) : Calls Tryz.prog 112 #[(.agg #[(vi 1), (.slice a (B).length c), (vi 0), (vi 0)])] w0 (fun ε w' => ∃ α κ, ε = .returned (.slice α (psB B).length κ) ∧ Below w0.heap.size w0 w' ∧ Fs w0 w' α κ (psB B)) := by
 refine Calls.of_ok (n := 23) (F := (fun w => Bs w a c B ∧ True)) Tryz.func112 rfl rfl rfl (by simp) (hf0.pers0.and persT) ?_
 refine sS Tryz.f112 2 [1, 2] [] (fun ρ => [(pt (nb ρ 0)), (.slice none 0 0)]) (fun ρ => [(0, (nw ρ 0 (cL #[(vi 1), (.slice a (B).length c), (vi 0), (vi 0)] 100)))]) (cR [[], []] <| cN) (fun ρ1 => ?_)
 refine ok_seq ?_
 refine sS Tryz.f112 2 [1, 2, 4] [] (fun _ => [(pt (nb ρ1 0)), (vi 1)]) (fun _ => []) (cR [[], [0]] <| cN) (fun _ => ?_)
 refine ok_block ?_
 refine sS Tryz.f112 2 [1, 2, 4, 5] [] (fun _ => [(.bool true), (.bool true)]) (fun _ => []) (cR [[], []] <| cN) (fun _ => ?_)
 refine oY ?_
 refine sSf Tryz.f112 4 [1, 2] [] (fun ρ => [(.pointer (some ⟨nb ρ1 0, 1, none⟩)), (.slice a (B).length c), (.slice (oa ρ 2) (psB B).length (nb ρ 2)), (.slice (oa ρ 2) (psB B).length (nb ρ 2))]) (fun _ => []) (fun ρ => [(2, fun w => Fs w0 w (oa ρ 2) (nb ρ 2) (psB B))]) (fun ρ => (fun w => Bs w a c B ∧ Fs w0 w (oa ρ 2) (nb ρ 2) (psB B) ∧ True)) (fun _ => True) (fun _ _ hF hf => ⟨⟨hF.1, hf 2, trivial⟩, trivial⟩) (cR [[], [0]] <| cX (qB (fun _ _ w hG => push_any a c B hl w hG.facts0.now.1)) <| cR [[]] <| cN) (fun ρ4 _ => ?_)
 refine ok_ret ?_
 refine mt_block_r ?_
 refine mt_then_r ?_
 refine mD [(1, (pt (nb ρ1 0))), (2, (.slice (oa ρ4 2) (psB B).length (nb ρ4 2)))] [(nb ρ1 0, (cL #[(vi 1), (.slice a (B).length c), (vi 0), (vi 0)] 100))] ?_
 exact mR (v := (.slice (oa ρ4 2) (psB B).length (nb ρ4 2))) (fun _ hS => ⟨oa ρ4 2, nb ρ4 2, congrArg Ending.returned (rfl), hS.bel, fs_eq (rfl) hS.facts.now.2.1⟩)
theorem asm2 (g : Nat) (c : Nat) (a0 : Option Addr) (c0 : Nat) (p : Nat) (a1 : Option Addr) (c1 : Nat) (q : Nat) (m : Int) (hm : 1 ≤ m ∧ m ≤ 2) (w0 : World) (hf0 : Rs w0 (some ⟨g, 0, none⟩) [(vi 1), (.slice a0 (hL p).length c0), (vi 0), (vi 0), (vi 1), (.slice a1 (hL q).length c1), (vi 0), (vi 0), (vi 11), (.slice none 0 0), (vi m), (vi 2)]) (hf1 : Bs w0 a0 c0 (hL p)) (hf2 : Bs w0 a1 c1 (hL q)) : Calls Tryz.prog 82 #[(vs g 3 c)] w0 (fun ε w' => ∃ α κ, ε = .returned (.tuple #[(.slice α (((psB (hL p)) ++ (psB (hL q))) ++ ([ob 11, ob m, ob 2])).length κ), (vi 0)]) ∧ Below w0.heap.size w0 w' ∧ Fs w0 w' α κ (((psB (hL p)) ++ (psB (hL q))) ++ ([ob 11, ob m, ob 2]))) := by
 refine Calls.of_ok (n := 28) (F := (fun w => Rs w (some ⟨g, 0, none⟩) [(vi 1), (.slice a0 (hL p).length c0), (vi 0), (vi 0), (vi 1), (.slice a1 (hL q).length c1), (vi 0), (vi 0), (vi 11), (.slice none 0 0), (vi m), (vi 2)] ∧ Bs w a0 c0 (hL p) ∧ Bs w a1 c1 (hL q) ∧ True)) Tryz.func82 rfl rfl rfl (by simp) (hf0.pers0.and (hf1.pers0.and (hf2.pers0.and persT))) ?_
 refine sS Tryz.f82 2 [0, 2, 3] [] (fun _ => [(.slice none 0 0), (vi 0)]) (fun _ => []) (cR [[], []] <| cN) (fun _ => ?_)
 refine sS Tryz.f82 1 [0, 2, 3, 4] [] (fun _ => [(.slice none 0 0)]) (fun _ => []) (cR [[]] <| cN) (fun _ => ?_)
 refine ok_seq ?_
 refine sS Tryz.f82 3 [2, 3, 4, 8, 9, 10] [] (fun _ => [(vs g 3 c), (vi 3), (vi 0)]) (fun _ => []) (cR [[], [], []] <| cN) (fun _ => ?_)
 refine ok_block ?_
 refine ok_rounds 4 ?_
 refine okr_succ ?_
 refine sS Tryz.f82 1 [2, 3, 4, 8, 9, 10, 11] [] (fun _ => [(.bool true)]) (fun _ => []) (cR [[]] <| cN) (fun _ => ?_)
 refine ok_seq ?_
 refine oY ?_
 refine ok_skip ?_
 refine mt_then ?_
 refine ok_seq ?_
 refine ok_block ?_
 refine sS Tryz.f82 4 [2, 3, 4, 6, 8, 9, 10, 11, 12, 13] [] (fun ρ => [(pt g), (.agg #[(vi 1), (.slice a0 (hL p).length c0), (vi 0), (vi 0)]), (pt (nb ρ 2)), undef]) (fun ρ => [(2, (nw ρ 2 (cL #[(vi 0), (.slice none 0 0), (vi 0), (vi 0)] 100))), (3, (pwt 16 (nb ρ 2) (cL #[(vi 1), (.slice a0 (hL p).length c0), (vi 0), (vi 0)] 100)))]) (cR [[]] <| cX (qF (v := fun ρ => (.agg #[(vi 1), (.slice a0 (hL p).length c0), (vi 0), (vi 0)])) (fun _ _ _ hG => ld_rsA (us := [(vi 1), (.slice a0 (hL p).length c0), (vi 0), (vi 0)]) (k := 0) Tryz.isAgg100 Tryz.sizeOf100 (hG.facts0.now.1) rfl (by decide) (fun j hj => match j, hj with | 0, _ => rfl | 1, _ => rfl | 2, _ => rfl | 3, _ => rfl))) <| cR [[], [16]] <| cN) (fun ρ5 => ?_)
 refine ok_seq ?_
 refine sS Tryz.f82 3 [2, 3, 4, 6, 7, 8, 9, 10, 11, 12, 13, 14, 15] [] (fun _ => [(.agg #[(vi 1), (.slice a0 (hL p).length c0), (vi 0), (vi 0)]), (vi 0), (vi 0)]) (fun _ => []) (cR [[0]] <| cX (qC (fun _ _ w _ => check1_any a0 c0 (hL p) (by rw [hL_length]; decide) w )) <| cR [[]] <| cN) (fun _ => ?_)
 refine sS Tryz.f82 2 [2, 3, 4, 6, 7, 8, 9, 10, 11, 12, 13, 14, 15, 16, 17] [] (fun _ => [(vi 0), (.bool false)]) (fun _ => []) (cR [[], []] <| cN) (fun _ => ?_)
 refine dRs [(2, (.slice none 0 0)), (3, (vi 0)), (4, (.slice none 0 0)), (6, (pt (nb ρ5 2))), (7, (vi 0)), (8, (vs g 3 c)), (9, (vi 3)), (10, (vi 0)), (11, (.bool true)), (12, (pt g)), (13, (.agg #[(vi 1), (.slice a0 (hL p).length c0), (vi 0), (vi 0)])), (14, (.agg #[(vi 1), (.slice a0 (hL p).length c0), (vi 0), (vi 0)])), (15, (vi 0)), (16, (vi 0)), (17, (.bool false))] [(nb ρ5 2, (cL #[(vi 1), (.slice a0 (hL p).length c0), (vi 0), (vi 0)] 100))] ?_
 refine oN ?_
 refine ok_skip ?_
 refine mt_then ?_
 refine rSf Tryz.f82 5 [2, 3, 4, 6, 7, 8, 9, 10, 11, 12, 13, 14, 15, 16, 17, 19, 20, 21, 22] [] (fun ρ => [(.slice none 0 0), (.agg #[(vi 1), (.slice a0 (hL p).length c0), (vi 0), (vi 0)]), (.slice (oa ρ 2) (psB (hL p)).length (nb ρ 2)), (vs (nb ρ 3) (psB (hL p)).length ((psB (hL p)).length + nb2 ρ 3)), (vs (nb ρ 3) (psB (hL p)).length ((psB (hL p)).length + nb2 ρ 3))]) (fun ρ => [(3, (nw ρ 3 (cL ((bs (psB (hL p))).toArray ++ zB (nb2 ρ 3)) 5)))]) (fun ρ => [(2, fun w => Fs w0 w (oa ρ 2) (nb ρ 2) (psB (hL p)))]) (fun ρ => (fun w => Rs w (some ⟨g, 0, none⟩) [(vi 1), (.slice a0 (hL p).length c0), (vi 0), (vi 0), (vi 1), (.slice a1 (hL q).length c1), (vi 0), (vi 0), (vi 11), (.slice none 0 0), (vi m), (vi 2)] ∧ Bs w a0 c0 (hL p) ∧ Bs w a1 c1 (hL q) ∧ Fs w0 w (oa ρ 2) (nb ρ 2) (psB (hL p)) ∧ True)) (fun _ => True) (fun _ _ hF hf => ⟨⟨hF.1, hF.2.1, hF.2.2.1, hf 2, trivial⟩, trivial⟩) (cR [[], [0]] <| cX (qB (fun _ _ w hG => encode1_any a0 c0 (hL p) (by rw [hL_length]; decide) w hG.facts0.now.2.1)) <| cX (qN (fun _ ζ => (vs (ζ.headD 0) (psB (hL p)).length ((psB (hL p)).length + ζ.tail.headD 0))) (fun _ ζ => (cL ((bs (psB (hL p))).toArray ++ zB (ζ.tail.headD 0)) 5)) (fun ρ _ w hG => app_nilL (ty := 33) Tryz.underlying33 u8i (Bs.src (tx := 33) Tryz.underlying33 (show Fs w0 w (oa ρ 2) (nb ρ 2) (psB (hL p)) from (hG.facts 2 rfl).now).1) ((psB_pos _)) ((by rw [psB_len, hL_length]; decide)))) <| cR [[]] <| cN) (fun ρ8 _ => ?_)
 refine mt_block_n ?_
 refine mt_then ?_
 refine rS Tryz.f82 2 [2, 3, 4, 6, 7, 8, 9, 10, 11, 12, 13, 14, 15, 16, 17, 19, 20, 21, 22, 23] [] (fun _ => [(vi 1), (vi 1)]) (fun _ => []) (cR [[], []] <| cN) (fun _ => ?_)
 refine mt_rounds ?_
 refine okr_succ ?_
 refine sS Tryz.f82 1 [2, 3, 4, 6, 7, 8, 9, 10, 11, 12, 13, 14, 15, 16, 17, 19, 20, 21, 22, 23] [] (fun _ => [(.bool true)]) (fun _ => []) (cR [[]] <| cN) (fun _ => ?_)
 refine ok_seq ?_
 refine oY ?_
 refine ok_skip ?_
 refine mt_then ?_
 refine ok_seq ?_
 refine ok_block ?_
 refine sS Tryz.f82 4 [2, 3, 4, 6, 7, 8, 9, 10, 11, 12, 13, 14, 15, 16, 17, 19, 20, 21, 22, 23] [0, 1, 1] (fun ρ => [(.pointer (some ⟨g, 4, none⟩)), (.agg #[(vi 1), (.slice a1 (hL q).length c1), (vi 0), (vi 0)]), (pt (nb ρ 2)), undef]) (fun ρ => [(2, (nw ρ 2 (cL #[(vi 0), (.slice none 0 0), (vi 0), (vi 0)] 100))), (3, (pwt 18 (nb ρ 2) (cL #[(vi 1), (.slice a1 (hL q).length c1), (vi 0), (vi 0)] 100)))]) (cR [[]] <| cX (qF (v := fun ρ => (.agg #[(vi 1), (.slice a1 (hL q).length c1), (vi 0), (vi 0)])) (fun _ _ _ hG => ld_rsA (us := [(vi 1), (.slice a1 (hL q).length c1), (vi 0), (vi 0)]) (k := 4) Tryz.isAgg100 Tryz.sizeOf100 (hG.facts0.now.1) rfl (by decide) (fun j hj => match j, hj with | 0, _ => rfl | 1, _ => rfl | 2, _ => rfl | 3, _ => rfl))) <| cR [[], [18]] <| cN) (fun ρ11 => ?_)
 refine ok_seq ?_
 refine sS Tryz.f82 3 [2, 3, 4, 6, 7, 8, 9, 10, 11, 12, 13, 14, 15, 16, 17, 19, 20, 21, 22, 23] [] (fun _ => [(.agg #[(vi 1), (.slice a1 (hL q).length c1), (vi 0), (vi 0)]), (vi 0), (vi 0)]) (fun _ => []) (cR [[1]] <| cX (qC (fun _ _ w _ => check1_any a1 c1 (hL q) (by rw [hL_length]; decide) w )) <| cR [[]] <| cN) (fun _ => ?_)
 refine sS Tryz.f82 2 [2, 3, 4, 6, 7, 8, 9, 10, 11, 12, 13, 14, 15, 16, 17, 19, 20, 21, 22, 23] [] (fun _ => [(vi 0), (.bool false)]) (fun _ => []) (cR [[], []] <| cN) (fun _ => ?_)
 refine oN ?_
 refine ok_skip ?_
 refine mt_then ?_
 refine rSf Tryz.f82 5 [2, 3, 4, 6, 7, 8, 9, 10, 11, 12, 13, 14, 15, 16, 17, 19, 20, 21, 22, 23] [] (fun ρ => [(vs (nb ρ8 3) (psB (hL p)).length ((psB (hL p)).length + nb2 ρ8 3)), (.agg #[(vi 1), (.slice a1 (hL q).length c1), (vi 0), (vi 0)]), (.slice (oa ρ 2) (psB (hL q)).length (nb ρ 2)), (vs (nb ρ 3) ((psB (hL p)) ++ (psB (hL q))).length (nb2 ρ 3)), (vs (nb ρ 3) ((psB (hL p)) ++ (psB (hL q))).length (nb2 ρ 3))]) (fun ρ => [(3, (pwt 0 (nb ρ 3) (cL (oc ρ 3) 5)))]) (fun ρ => [(2, fun w => Fs w0 w (oa ρ 2) (nb ρ 2) (psB (hL q))), (3, fun w => Ap (oc ρ 3) ((psB (hL p)) ++ (psB (hL q))) (nb2 ρ 3))]) (fun ρ => (fun w => Rs w (some ⟨g, 0, none⟩) [(vi 1), (.slice a0 (hL p).length c0), (vi 0), (vi 0), (vi 1), (.slice a1 (hL q).length c1), (vi 0), (vi 0), (vi 11), (.slice none 0 0), (vi m), (vi 2)] ∧ Bs w a0 c0 (hL p) ∧ Bs w a1 c1 (hL q) ∧ Fs w0 w (oa ρ8 2) (nb ρ8 2) (psB (hL p)) ∧ Fs w0 w (oa ρ 2) (nb ρ 2) (psB (hL q)) ∧ True)) (fun ρ => Ap (oc ρ 3) ((psB (hL p)) ++ (psB (hL q))) (nb2 ρ 3)) (fun _ _ hF hf => ⟨⟨hF.1, hF.2.1, hF.2.2.1, hF.2.2.2.1, hf 2, trivial⟩, hf 3⟩) (cR [[], [1]] <| cX (qB (fun _ _ w hG => encode1_any a1 c1 (hL q) (by rw [hL_length]; decide) w hG.facts0.now.2.2.1)) <| cX (qM 0 (fun ρ _ w hG hg => app_any (ty := 33) (g := nb ρ8 3) (C := ((bs (psB (hL p))).toArray ++ zB (nb2 ρ8 3))) (c := (psB (hL p)).length + nb2 ρ8 3) (xs := psB (hL p)) Tryz.underlying33 u8i (Ap.mk' (Hd.fresh _ _) (Nat.le_add_right _ _) (by rw [psB_len, hL_length]; decide) (fresh_size _ _)) (Bs.src (tx := 33) Tryz.underlying33 (show Fs w0 w (oa ρ 2) (nb ρ 2) (psB (hL q)) from (hG.facts 2 rfl).now).1) ((by simp only [psB_len, hL_length]; omega)) hg)) <| cR [[]] <| cN) (fun ρ14 ap14_3 => ?_)
 refine mt_block_n ?_
 refine mt_then ?_
 refine rS Tryz.f82 2 [2, 3, 4, 6, 7, 8, 9, 10, 11, 12, 13, 14, 15, 16, 17, 19, 20, 21, 22, 23] [] (fun _ => [(vi 2), (vi 2)]) (fun _ => []) (cR [[], []] <| cN) (fun _ => ?_)
 refine mt_rounds ?_
 refine okr_succ ?_
 refine sS Tryz.f82 1 [2, 3, 4, 6, 7, 8, 9, 10, 11, 12, 13, 14, 15, 16, 17, 19, 20, 21, 22, 23] [] (fun _ => [(.bool true)]) (fun _ => []) (cR [[]] <| cN) (fun _ => ?_)
 refine dRs [(2, (.slice none 0 0)), (3, (vi 0)), (4, (vs (nb ρ14 3) ((psB (hL p)) ++ (psB (hL q))).length (nb2 ρ14 3))), (6, (pt (nb ρ11 2))), (7, (vi 0)), (8, (vs g 3 c)), (9, (vi 3)), (10, (vi 2)), (11, (.bool true)), (12, (.pointer (some ⟨g, 4, none⟩))), (13, (.agg #[(vi 1), (.slice a1 (hL q).length c1), (vi 0), (vi 0)])), (14, (.agg #[(vi 1), (.slice a1 (hL q).length c1), (vi 0), (vi 0)])), (15, (vi 0)), (16, (vi 0)), (17, (.bool false)), (19, (vs (nb ρ8 3) (psB (hL p)).length ((psB (hL p)).length + nb2 ρ8 3))), (20, (.agg #[(vi 1), (.slice a1 (hL q).length c1), (vi 0), (vi 0)])), (21, (.slice (oa ρ14 2) (psB (hL q)).length (nb ρ14 2))), (22, (vs (nb ρ14 3) ((psB (hL p)) ++ (psB (hL q))).length (nb2 ρ14 3))), (23, (vi 2))] [(nb ρ14 3, (cL (oc ρ14 3) 5)), (nb ρ11 2, (cL #[(vi 1), (.slice a1 (hL q).length c1), (vi 0), (vi 0)] 100))] ?_
 refine ok_seq ?_
 refine oY ?_
 refine ok_skip ?_
 refine mt_then ?_
 refine ok_seq ?_
 refine ok_block ?_
 refine sS Tryz.f82 4 [2, 3, 4, 6, 7, 8, 9, 10, 11, 12, 13, 14, 15, 16, 17, 19, 20, 21, 22, 23] [1, 0, 1] (fun ρ => [(.pointer (some ⟨g, 8, none⟩)), (.agg #[(vi 11), (.slice none 0 0), (vi m), (vi 2)]), (pt (nb ρ 2)), undef]) (fun ρ => [(2, (nw ρ 2 (cL #[(vi 0), (.slice none 0 0), (vi 0), (vi 0)] 100))), (3, (pwt 18 (nb ρ 2) (cL #[(vi 11), (.slice none 0 0), (vi m), (vi 2)] 100)))]) (cR [[]] <| cX (qF (v := fun ρ => (.agg #[(vi 11), (.slice none 0 0), (vi m), (vi 2)])) (fun _ _ _ hG => ld_rsA (us := [(vi 11), (.slice none 0 0), (vi m), (vi 2)]) (k := 8) Tryz.isAgg100 Tryz.sizeOf100 (hG.facts0.now.1) rfl (by decide) (fun j hj => match j, hj with | 0, _ => rfl | 1, _ => rfl | 2, _ => rfl | 3, _ => rfl))) <| cR [[], [18]] <| cN) (fun _ => ?_)
 refine ok_seq ?_
 refine sS Tryz.f82 3 [2, 3, 4, 6, 7, 8, 9, 10, 11, 12, 13, 14, 15, 16, 17, 19, 20, 21, 22, 23] [] (fun _ => [(.agg #[(vi 11), (.slice none 0 0), (vi m), (vi 2)]), (vi 0), (vi 0)]) (fun _ => []) (cR [[1]] <| cC (fun _ w => checkm2 m hm w) <| cR [[]] <| cN) (fun _ => ?_)
 refine sS Tryz.f82 2 [2, 3, 4, 6, 7, 8, 9, 10, 11, 12, 13, 14, 15, 16, 17, 19, 20, 21, 22, 23] [] (fun _ => [(vi 0), (.bool false)]) (fun _ => []) (cR [[], []] <| cN) (fun _ => ?_)
 refine oN ?_
 refine ok_skip ?_
 refine mt_then ?_
 refine rSf Tryz.f82 5 [2, 3, 4, 6, 7, 8, 9, 10, 11, 12, 13, 14, 15, 16, 17, 19, 20, 21, 22, 23] [] (fun ρ => [(vs (nb ρ14 3) ((psB (hL p)) ++ (psB (hL q))).length (nb2 ρ14 3)), (.agg #[(vi 11), (.slice none 0 0), (vi m), (vi 2)]), (.slice (oa ρ 2) ([ob 11, ob m, ob 2]).length (nb ρ 2)), (vs (nb ρ 3) (((psB (hL p)) ++ (psB (hL q))) ++ ([ob 11, ob m, ob 2])).length (nb2 ρ 3)), (vs (nb ρ 3) (((psB (hL p)) ++ (psB (hL q))) ++ ([ob 11, ob m, ob 2])).length (nb2 ρ 3))]) (fun ρ => [(3, (pwt 0 (nb ρ 3) (cL (oc ρ 3) 5)))]) (fun ρ => [(2, fun w => Fs w0 w (oa ρ 2) (nb ρ 2) ([ob 11, ob m, ob 2])), (3, fun w => Ap (oc ρ 3) (((psB (hL p)) ++ (psB (hL q))) ++ ([ob 11, ob m, ob 2])) (nb2 ρ 3))]) (fun ρ => (fun w => Rs w (some ⟨g, 0, none⟩) [(vi 1), (.slice a0 (hL p).length c0), (vi 0), (vi 0), (vi 1), (.slice a1 (hL q).length c1), (vi 0), (vi 0), (vi 11), (.slice none 0 0), (vi m), (vi 2)] ∧ Bs w a0 c0 (hL p) ∧ Bs w a1 c1 (hL q) ∧ Fs w0 w (oa ρ8 2) (nb ρ8 2) (psB (hL p)) ∧ Fs w0 w (oa ρ14 2) (nb ρ14 2) (psB (hL q)) ∧ Fs w0 w (oa ρ 2) (nb ρ 2) ([ob 11, ob m, ob 2]) ∧ True)) (fun ρ => Ap (oc ρ 3) (((psB (hL p)) ++ (psB (hL q))) ++ ([ob 11, ob m, ob 2])) (nb2 ρ 3)) (fun _ _ hF hf => ⟨⟨hF.1, hF.2.1, hF.2.2.1, hF.2.2.2.1, hF.2.2.2.2.1, hf 2, trivial⟩, hf 3⟩) (cR [[], [1]] <| cX (qB (fun _ _ w _ => encodem2 m hm w )) <| cX (qM 0 (fun ρ _ w hG hg => app_any (ty := 33) (g := nb ρ14 3) (C := (oc ρ14 3)) (c := nb2 ρ14 3) (xs := (psB (hL p)) ++ (psB (hL q))) Tryz.underlying33 u8i (Ap.mk' ap14_3.hd ap14_3.le ap14_3.max ap14_3.size) (Bs.src (tx := 33) Tryz.underlying33 (show Fs w0 w (oa ρ 2) (nb ρ 2) ([ob 11, ob m, ob 2]) from (hG.facts 2 rfl).now).1) ((by simp only [List.length_append, List.length_cons, List.length_nil, psB_len, hL_length]; omega)) hg)) <| cR [[]] <| cN) (fun ρ20 ap20_3 => ?_)
 refine mt_block_n ?_
 refine mt_then ?_
 refine rS Tryz.f82 2 [2, 3, 4, 6, 7, 8, 9, 10, 11, 12, 13, 14, 15, 16, 17, 19, 20, 21, 22, 23] [] (fun _ => [(vi 3), (vi 3)]) (fun _ => []) (cR [[], []] <| cN) (fun _ => ?_)
 refine mt_rounds ?_
 refine okr_succ ?_
 refine sS Tryz.f82 1 [2, 3, 4, 6, 7, 8, 9, 10, 11, 12, 13, 14, 15, 16, 17, 19, 20, 21, 22, 23] [] (fun _ => [(.bool false)]) (fun _ => []) (cR [[]] <| cN) (fun _ => ?_)
 refine ok_seq ?_
 refine oN ?_
 refine ok_exit ?_
 refine mt_then_e ?_
 refine mt_then_e ?_
 refine mt_block_h ?_
 refine mt_then ?_
 refine ok_seq ?_
 refine sS Tryz.f82 3 [2, 3, 4, 26] [1, 0] (fun _ => [(vs (nb ρ20 3) (((psB (hL p)) ++ (psB (hL q))) ++ ([ob 11, ob m, ob 2])).length (nb2 ρ20 3)), (vn ((((psB (hL p)) ++ (psB (hL q))) ++ ([ob 11, ob m, ob 2])).length)), (.bool false)]) (fun _ => []) (cR [[], []] <| cA (v := fun ρ => (.bool (decide (520 < (((((psB (hL p)) ++ (psB (hL q))) ++ ([ob 11, ob m, ob 2])).length : Nat) : Int))))) (fun _ => (.bool false)) (fun _ => congrArg Value.bool (decide_eq_false (by simp only [List.length_append, List.length_cons, List.length_nil, psB_len, hL_length]; omega))) <| cN) (fun _ => ?_)
 refine dRs [(2, (.slice none 0 0)), (3, (vi 0)), (4, (vs (nb ρ20 3) (((psB (hL p)) ++ (psB (hL q))) ++ ([ob 11, ob m, ob 2])).length (nb2 ρ20 3))), (26, (.bool false))] [(nb ρ20 3, (cL (oc ρ20 3) 5))] ?_
 refine oN ?_
 refine ok_skip ?_
 refine mt_then ?_
 refine sS Tryz.f82 3 [2, 3] [] (fun _ => [(vs (nb ρ20 3) (((psB (hL p)) ++ (psB (hL q))) ++ ([ob 11, ob m, ob 2])).length (nb2 ρ20 3)), (vs (nb ρ20 3) (((psB (hL p)) ++ (psB (hL q))) ++ ([ob 11, ob m, ob 2])).length (nb2 ρ20 3)), (vi 0)]) (fun _ => []) (cR [[], [], []] <| cN) (fun _ => ?_)
 refine ok_ret ?_
 refine mD [(2, (vs (nb ρ20 3) (((psB (hL p)) ++ (psB (hL q))) ++ ([ob 11, ob m, ob 2])).length (nb2 ρ20 3))), (3, (vi 0))] [(nb ρ20 3, (cL (oc ρ20 3) 5))] ?_
 exact mR (v := (.tuple #[(vs (nb ρ20 3) (((psB (hL p)) ++ (psB (hL q))) ++ ([ob 11, ob m, ob 2])).length (nb2 ρ20 3)), (vi 0)])) (fun _ hS => ⟨(some ⟨nb ρ20 3, 0, none⟩), nb2 ρ20 3, congrArg Ending.returned (rfl), hS.bel, fs_eq (rfl) (hS.fresh (.head _) ap20_3.hd ap20_3.le ap20_3.max)⟩)
theorem multi2 (m : Int) (a : Option Addr) (c : Nat) (p : Nat) (q : Nat) (_hp : p < M) (_hq : q < M) (hm : 1 ≤ m ∧ m ≤ 2) (w0 : World) (hf0 : Us w0 a c ([p, q])) : Calls Tryz.prog 43 #[(vi m), (.slice a ([p, q]).length c)] w0 (fun ε w' => ∃ α κ, ε = .returned (.tuple #[(.slice α (mlB m [p, q]).length κ), (vi 0)]) ∧ Below w0.heap.size w0 w' ∧ Fs w0 w' α κ (mlB m [p, q])) := by
 refine Calls.of_ok (n := 34) (F := (fun w => Us w a c ([p, q]) ∧ True)) Tryz.func43 rfl rfl rfl (by simp) (hf0.pers0.and persT) ?_
 refine sS Tryz.f43 2 [0, 1, 4, 5] [] (fun _ => [(.slice none 0 0), (vi 0)]) (fun _ => []) (cR [[], []] <| cN) (fun _ => ?_)
 refine sS Tryz.f43 1 [0, 1, 4, 5, 6] [] (fun _ => [(.slice none 0 0)]) (fun _ => []) (cR [[]] <| cN) (fun _ => ?_)
 refine ok_seq ?_
 refine sS Tryz.f43 3 [0, 1, 4, 5, 6, 10, 11, 12] [] (fun _ => [(.slice a ([p, q]).length c), (vi 2), (vi 0)]) (fun _ => []) (cR [[], [], []] <| cN) (fun _ => ?_)
 refine ok_block ?_
 refine ok_rounds 3 ?_
 refine okr_succ ?_
 refine sS Tryz.f43 1 [0, 1, 4, 5, 6, 10, 11, 12, 13] [] (fun _ => [(.bool true)]) (fun _ => []) (cR [[]] <| cN) (fun _ => ?_)
 refine ok_seq ?_
 refine oY ?_
 refine ok_skip ?_
 refine mt_then ?_
 refine ok_seq ?_
 refine ok_block ?_
 refine sS Tryz.f43 4 [0, 1, 4, 5, 6, 8, 10, 11, 12, 13, 14, 15] [] (fun ρ => [(.pointer (adr a (0 * 4))), (U p), (pt (nb ρ 2)), undef]) (fun ρ => [(2, (nw ρ 2 (cL (cU 0) 39))), (3, (pwt 16 (nb ρ 2) (cL (cU p) 39)))]) (cX (qF (fun _ _ _ hG => Us.idx (k := .i64) Tryz.underlying29 Tryz.sizeOf39 hG.facts0.now.1 rfl ((show (0 : Int) = ((0 : Nat) : Int) ∧ 0 < ([p, q]).length from ⟨rfl, Nat.le_of_ble_eq_true rfl⟩)).1 ((show (0 : Int) = ((0 : Nat) : Int) ∧ 0 < ([p, q]).length from ⟨rfl, Nat.le_of_ble_eq_true rfl⟩)).2)) <| cX (qF (fun _ _ _ hG => Us.ldA Tryz.isAgg39 Tryz.sizeOf39 hG.facts0.now.1 ((show (0 : Int) = ((0 : Nat) : Int) ∧ 0 < ([p, q]).length from ⟨rfl, Nat.le_of_ble_eq_true rfl⟩)).2)) <| cR [[], [16]] <| cN) (fun ρ5 => ?_)
 refine sS Tryz.f43 4 [0, 1, 4, 5, 6, 8, 9, 10, 11, 12, 13, 14, 15, 16, 17] [] (fun ρ => [(U p), (.agg (hB p)), (pt (nb ρ 2)), undef]) (fun ρ => [(2, (nw ρ 2 (cL (hB 0) 43))), (3, (pwt 17 (nb ρ 2) (cL (hB p) 43)))]) (cR [[0]] <| cC (fun _ w => bytes_any p w) <| cR [[], [17]] <| cN) (fun ρ6 => ?_)
 refine rS Tryz.f43 6 [0, 1, 4, 5, 6, 8, 9, 10, 11, 12, 13, 14, 15, 16, 17, 18, 19, 20, 21, 22] [] (fun ρ => [(.slice none 0 0), (vs (nb ρ6 2) (hL p).length 32), (.agg #[(vi 1), (vs (nb ρ6 2) (hL p).length 32), (vi 0), (vi 0)]), (vs (nb ρ 3) 1 1), (vs (nb ρ 4) 1 (1 + nb2 ρ 4)), (vs (nb ρ 4) 1 (1 + nb2 ρ 4))]) (fun ρ => [(3, (nw ρ 3 (cL #[(vi 1), (vs (nb ρ6 2) (hL p).length 32), (vi 0), (vi 0)] 100))), (4, (nw ρ 4 (cL ([(vi 1), (vs (nb ρ6 2) (hL p).length 32), (vi 0), (vi 0)].toArray ++ Builtin.zeroCells (Value.cells (.agg #[(vi 0), (.slice none 0 0), (vi 0), (vi 0)])) (nb2 ρ 4)) 100)))]) (cR [[], [], [], []] <| cX (qN (fun _ ζ => (vs (ζ.headD 0) 1 (1 + ζ.tail.headD 0))) (fun _ ζ => (cL ([(vi 1), (vs (nb ρ6 2) (hL p).length 32), (vi 0), (vi 0)].toArray ++ Builtin.zeroCells (Value.cells (.agg #[(vi 0), (.slice none 0 0), (vi 0), (vi 0)])) (ζ.tail.headD 0)) 100)) (fun ρ _ _ hG => appV_nil (ty := 98) Tryz.underlying98 (elike_of (sz := 4) (b := 48) (z := (.agg #[(vi 0), (.slice none 0 0), (vi 0), (vi 0)])) (by kernel_rfl) rfl) (src_blk (c := 1) (vs := [(vi 1), (vs (nb ρ6 2) (hL p).length 32), (vi 0), (vi 0)]) Tryz.underlying98 (hG.kn (g := nb ρ 3) (o := (cL #[(vi 1), (vs (nb ρ6 2) (hL p).length 32), (vi 0), (vi 0)] 100)) 26) rfl rfl) (by decide) (by decide) (by decide))) <| cR [[]] <| cN) (fun ρ7 => ?_)
 refine mt_block_n ?_
 refine mt_then ?_
 refine rS Tryz.f43 2 [0, 1, 4, 5, 6, 8, 9, 10, 11, 12, 13, 14, 15, 16, 17, 18, 19, 20, 21, 22, 23] [] (fun _ => [(vi 1), (vi 1)]) (fun _ => []) (cR [[], []] <| cN) (fun _ => ?_)
 refine mt_rounds ?_
 refine okr_succ ?_
 refine sS Tryz.f43 1 [0, 1, 4, 5, 6, 8, 9, 10, 11, 12, 13, 14, 15, 16, 17, 18, 19, 20, 21, 22, 23] [] (fun _ => [(.bool true)]) (fun _ => []) (cR [[]] <| cN) (fun _ => ?_)
 refine dRs [(0, (vi m)), (1, (.slice a ([p, q]).length c)), (4, (.slice none 0 0)), (5, (vi 0)), (6, (vs (nb ρ7 4) 1 (1 + nb2 ρ7 4))), (8, (pt (nb ρ5 2))), (9, (pt (nb ρ6 2))), (10, (.slice a ([p, q]).length c)), (11, (vi 2)), (12, (vi 1)), (13, (.bool true)), (14, (.pointer (adr a (0 * 4)))), (15, (U p)), (16, (U p)), (17, (.agg (hB p))), (18, (.slice none 0 0)), (19, (vs (nb ρ6 2) (hL p).length 32)), (20, (.agg #[(vi 1), (vs (nb ρ6 2) (hL p).length 32), (vi 0), (vi 0)])), (21, (vs (nb ρ7 3) 1 1)), (22, (vs (nb ρ7 4) 1 (1 + nb2 ρ7 4))), (23, (vi 1))] [(nb ρ5 2, (cL (cU p) 39)), (nb ρ6 2, (cL (hB p) 43)), (nb ρ7 3, (cL #[(vi 1), (vs (nb ρ6 2) (hL p).length 32), (vi 0), (vi 0)] 100)), (nb ρ7 4, (cL ([(vi 1), (vs (nb ρ6 2) (hL p).length 32), (vi 0), (vi 0)].toArray ++ Builtin.zeroCells (Value.cells (.agg #[(vi 0), (.slice none 0 0), (vi 0), (vi 0)])) (nb2 ρ7 4)) 100))] ?_
 refine ok_seq ?_
 refine oY ?_
 refine ok_skip ?_
 refine mt_then ?_
 refine ok_seq ?_
 refine ok_block ?_
 refine sS Tryz.f43 4 [0, 1, 4, 5, 6, 8, 9, 10, 11, 12, 13, 14, 15, 16, 17, 18, 19, 20, 21, 22, 23] [] (fun ρ => [(.pointer (adr a (1 * 4))), (U q), (pt (nb ρ 2)), undef]) (fun ρ => [(2, (nw ρ 2 (cL (cU 0) 39))), (3, (pwt 20 (nb ρ 2) (cL (cU q) 39)))]) (cX (qF (fun _ _ _ hG => Us.idx (k := .i64) Tryz.underlying29 Tryz.sizeOf39 hG.facts0.now.1 rfl ((show (1 : Int) = ((1 : Nat) : Int) ∧ 1 < ([p, q]).length from ⟨rfl, Nat.le_of_ble_eq_true rfl⟩)).1 ((show (1 : Int) = ((1 : Nat) : Int) ∧ 1 < ([p, q]).length from ⟨rfl, Nat.le_of_ble_eq_true rfl⟩)).2)) <| cX (qF (fun _ _ _ hG => Us.ldA Tryz.isAgg39 Tryz.sizeOf39 hG.facts0.now.1 ((show (1 : Int) = ((1 : Nat) : Int) ∧ 1 < ([p, q]).length from ⟨rfl, Nat.le_of_ble_eq_true rfl⟩)).2)) <| cR [[], [20]] <| cN) (fun ρ10 => ?_)
 refine sS Tryz.f43 4 [0, 1, 4, 5, 6, 8, 9, 10, 11, 12, 13, 14, 15, 16, 17, 18, 19, 20, 21, 22, 23] [] (fun ρ => [(U q), (.agg (hB q)), (pt (nb ρ 2)), undef]) (fun ρ => [(2, (nw ρ 2 (cL (hB 0) 43))), (3, (pwt 21 (nb ρ 2) (cL (hB q) 43)))]) (cR [[4]] <| cC (fun _ w => bytes_any q w) <| cR [[], [21]] <| cN) (fun ρ11 => ?_)
 refine rSf Tryz.f43 6 [0, 1, 4, 5, 6, 8, 9, 10, 11, 12, 13, 14, 15, 16, 17, 18, 19, 20, 21, 22, 23] [] (fun ρ => [(vs (nb ρ7 4) 1 (1 + nb2 ρ7 4)), (vs (nb ρ11 2) (hL q).length 32), (.agg #[(vi 1), (vs (nb ρ11 2) (hL q).length 32), (vi 0), (vi 0)]), (vs (nb ρ 3) 1 1), (vs (nb ρ 4) 2 (nb2 ρ 4)), (vs (nb ρ 4) 2 (nb2 ρ 4))]) (fun ρ => [(3, (nw ρ 3 (cL #[(vi 1), (vs (nb ρ11 2) (hL q).length 32), (vi 0), (vi 0)] 100))), (4, (pwt 3 (nb ρ 4) (cL (oc ρ 4) 100)))]) (fun ρ => [(4, fun w => Av (oc ρ 4) 4 2 [(vi 1), (vs (nb ρ6 2) (hL p).length 32), (vi 0), (vi 0), (vi 1), (vs (nb ρ11 2) (hL q).length 32), (vi 0), (vi 0)] (nb2 ρ 4))]) (fun _ => (fun w => Us w a c ([p, q]) ∧ True)) (fun ρ => Av (oc ρ 4) 4 2 [(vi 1), (vs (nb ρ6 2) (hL p).length 32), (vi 0), (vi 0), (vi 1), (vs (nb ρ11 2) (hL q).length 32), (vi 0), (vi 0)] (nb2 ρ 4)) (fun _ _ hF hf => ⟨hF, hf 4⟩) (cR [[], [], [], []] <| cX (qM 3 (fun ρ _ _ hG hg => appV_any (ty := 98) (g := nb ρ7 4) Tryz.underlying98 (elike_of (sz := 4) (b := 48) (z := (.agg #[(vi 0), (.slice none 0 0), (vi 0), (vi 0)])) (by kernel_rfl) rfl) (Av.fresh (z := (.agg #[(vi 0), (.slice none 0 0), (vi 0), (vi 0)])) (m := 1) rfl (ys := [(vi 1), (vs (nb ρ6 2) (hL p).length 32), (vi 0), (vi 0)]) rfl (nb2 ρ7 4)) (src_blk (c := 1) (vs := [(vi 1), (vs (nb ρ11 2) (hL q).length 32), (vi 0), (vi 0)]) Tryz.underlying98 (hG.kn (g := nb ρ 3) (o := (cL #[(vi 1), (vs (nb ρ11 2) (hL q).length 32), (vi 0), (vi 0)] 100)) 30) rfl rfl) (by decide) (by decide) hg)) <| cR [[]] <| cN) (fun ρ12 ap12_4 => ?_)
 refine mt_block_n ?_
 refine mt_then ?_
 refine rS Tryz.f43 2 [0, 1, 4, 5, 6, 8, 9, 10, 11, 12, 13, 14, 15, 16, 17, 18, 19, 20, 21, 22, 23] [] (fun _ => [(vi 2), (vi 2)]) (fun _ => []) (cR [[], []] <| cN) (fun _ => ?_)
 refine mt_rounds ?_
 refine okr_succ ?_
 refine sS Tryz.f43 1 [0, 1, 4, 5, 6, 8, 9, 10, 11, 12, 13, 14, 15, 16, 17, 18, 19, 20, 21, 22, 23] [] (fun _ => [(.bool false)]) (fun _ => []) (cR [[]] <| cN) (fun _ => ?_)
 refine ok_seq ?_
 refine oN ?_
 refine ok_exit ?_
 refine mt_then_e ?_
 refine mt_then_e ?_
 refine mt_block_h ?_
 refine mt_then ?_
 refine sSf Tryz.f43 12 [4, 5] [] (fun ρ => [(vs (nb ρ12 4) 2 (nb2 ρ12 4)), (vi m), (.slice a ([p, q]).length c), (vi 2), (.agg #[(vi 11), (.slice none 0 0), (vi m), (vi 2)]), (vs (nb ρ 5) 1 1), (vs (nb ρ 6) 3 (nb2 ρ 6)), (.tuple #[(.slice (oa ρ 7) (((psB (hL p)) ++ (psB (hL q))) ++ ([ob 11, ob m, ob 2])).length (nb ρ 7)), (vi 0)]), (.slice (oa ρ 7) (((psB (hL p)) ++ (psB (hL q))) ++ ([ob 11, ob m, ob 2])).length (nb ρ 7)), (vi 0), (.slice (oa ρ 7) (((psB (hL p)) ++ (psB (hL q))) ++ ([ob 11, ob m, ob 2])).length (nb ρ 7)), (vi 0)]) (fun ρ => [(5, (nw ρ 5 (cL #[(vi 11), (.slice none 0 0), (vi m), (vi 2)] 100))), (6, (pwt 3 (nb ρ 6) (cL (oc ρ 6) 100)))]) (fun ρ => [(6, fun w => Av (oc ρ 6) 4 3 [(vi 1), (vs (nb ρ6 2) (hL p).length 32), (vi 0), (vi 0), (vi 1), (vs (nb ρ11 2) (hL q).length 32), (vi 0), (vi 0), (vi 11), (.slice none 0 0), (vi m), (vi 2)] (nb2 ρ 6)), (7, fun w => Fs w0 w (oa ρ 7) (nb ρ 7) (((psB (hL p)) ++ (psB (hL q))) ++ ([ob 11, ob m, ob 2])))]) (fun ρ => (fun w => Us w a c ([p, q]) ∧ Fs w0 w (oa ρ 7) (nb ρ 7) (((psB (hL p)) ++ (psB (hL q))) ++ ([ob 11, ob m, ob 2])) ∧ True)) (fun ρ => Av (oc ρ 6) 4 3 [(vi 1), (vs (nb ρ6 2) (hL p).length 32), (vi 0), (vi 0), (vi 1), (vs (nb ρ11 2) (hL q).length 32), (vi 0), (vi 0), (vi 11), (.slice none 0 0), (vi m), (vi 2)] (nb2 ρ 6)) (fun _ _ hF hf => ⟨⟨hF.1, hf 7, trivial⟩, hf 6⟩) (cR [[], [], [], [], [], []] <| cX (qM 3 (fun ρ _ _ hG hg => appV_any (ty := 98) (g := nb ρ12 4) Tryz.underlying98 (elike_of (sz := 4) (b := 48) (z := (.agg #[(vi 0), (.slice none 0 0), (vi 0), (vi 0)])) (by kernel_rfl) rfl) ap12_4 (src_blk (c := 1) (vs := [(vi 11), (.slice none 0 0), (vi m), (vi 2)]) Tryz.underlying98 (hG.kn (g := nb ρ 5) (o := (cL #[(vi 11), (.slice none 0 0), (vi m), (vi 2)] 100)) 47) rfl rfl) (by decide) (by decide) hg)) <| cX (qB (fun ρ _ w hG => asm2 (nb ρ 6) (nb2 ρ 6) (some ⟨nb ρ6 2, 0, none⟩) 32 p (some ⟨nb ρ11 2, 0, none⟩) 32 q m hm w (Rs.of_av (hG.kn (g := nb ρ 6) (o := (cL (oc ρ 6) 100)) 3) (show Av (oc ρ 6) 4 3 [(vi 1), (vs (nb ρ6 2) (hL p).length 32), (vi 0), (vi 0), (vi 1), (vs (nb ρ11 2) (hL q).length 32), (vi 0), (vi 0), (vi 11), (.slice none 0 0), (vi m), (vi 2)] (nb2 ρ 6) from (hG.facts 6 rfl).now)) (Bs.of_hd (c := 32) (hG.kn (g := nb ρ6 2) (o := (cL (hB p) 43)) 1) (hd_hB _) (Nat.le_refl _) (Nat.le_of_ble_eq_true rfl)) (Bs.of_hd (c := 32) (hG.kn (g := nb ρ11 2) (o := (cL (hB q) 43)) 5) (hd_hB _) (Nat.le_refl _) (Nat.le_of_ble_eq_true rfl)))) <| cR [[], [], [], []] <| cN) (fun ρ15 ap15_6 => ?_)
 refine ok_ret ?_
 refine mD [(4, (.slice (oa ρ15 7) (((psB (hL p)) ++ (psB (hL q))) ++ ([ob 11, ob m, ob 2])).length (nb ρ15 7))), (5, (vi 0))] [(nb ρ5 2, (cL (cU p) 39)), (nb ρ6 2, (cL (hB p) 43)), (nb ρ7 3, (cL #[(vi 1), (vs (nb ρ6 2) (hL p).length 32), (vi 0), (vi 0)] 100)), (nb ρ15 6, (cL (oc ρ15 6) 100)), (nb ρ10 2, (cL (cU q) 39)), (nb ρ11 2, (cL (hB q) 43)), (nb ρ12 3, (cL #[(vi 1), (vs (nb ρ11 2) (hL q).length 32), (vi 0), (vi 0)] 100)), (nb ρ15 5, (cL #[(vi 11), (.slice none 0 0), (vi m), (vi 2)] 100))] ?_
 exact mR (v := (.tuple #[(.slice (oa ρ15 7) (((psB (hL p)) ++ (psB (hL q))) ++ ([ob 11, ob m, ob 2])).length (nb ρ15 7)), (vi 0)])) (fun _ hS => ⟨oa ρ15 7, nb ρ15 7, congrArg Ending.returned (rfl), hS.bel, fs_eq (rfl) hS.facts.now.2.1⟩)
theorem multi_any (m : Int) (a : Option Addr) (c : Nat) (ns : List Nat) (hU : ∀ n ∈ ns, n < M) (hl : ns.length = 2) (hm : 1 ≤ m ∧ m ≤ ns.length) (w0 : World) (hf0 : Us w0 a c ns) : Calls Tryz.prog 43 #[(.int .i64 m), (.slice a (ns).length c)] w0 (fun ε w' => ∃ α κ, ε = .returned (.tuple #[(.slice α (mlB m ns).length κ), (.int .i64 0)]) ∧ Below w0.heap.size w0 w' ∧ Fs w0 w' α κ (mlB m ns)) := by
  match ns, hl with
  | [p, q], _ => exact multi2 m a c p q (hU p (by simp)) (hU q (by simp)) hm w0 hf0
  | [], h => simp at h
  | [_], h => simp at h
  | _ :: _ :: _ :: _, h => simp at h
end Go.Proofs.YtaebcmpbbamfpaaGreatDoor
