/-
  The group: the walks.
-/
import Derived.Test.YtoibhbmcplhiaaaDoorWModular
import Derived.Test.YtoibhbmcplhiaaaDoorWShift
import Derived.Test.YtoibhbmcplhiaaaDoorWExp
import Derived.Test.YtoibhbmcplhiaaaDoorGroupNum
import Derived.Test.YtoibhbmcplhiaaaDoorRBytes
import Derived.Test.YtoibhbmcplhiaaaDoorBytes
namespace Go.Proofs.YtoibhbmcplhiaaaDoor
open Go Go.RowKit
set_option maxRecDepth 100000
theorem gmodulus_w_r1  (w0 : World) (F : World → Prop) : Reg Tryd.prog 0 (regOps Tryd.f70 0) false 2 [] w0 [] F
    (fun ρ => [(0, (pt (nb ρ 0)))])
    (fun ρ => [(nb ρ 0, (.cells (cU 0) 24 (0, 0)))]) := by
  refine reg_seq [0] [0] 1
    (fun ρ ι => ([(pt (nb ρ 0))] : List Value).getD ι undef)
    (fun ρ ι => ([{ news := [(nb ρ 0, (.cells (cU 0) 24 (0, 0)))] }] : List Eff).getD ι {})
    (by kernel_rfl) (by kernel_rfl) (fun _ => by kernel_rfl) (fun _ => by kernel_rfl) ⟨trivial, ?_⟩
  · exact o_run 0 [] [] (fun _ _ => []) (fun _ _ => by kernel_rfl)
theorem gmodulus_w_r2 (ρ1 : Nat → Orc) (w0 : World) (F : World → Prop) : Reg Tryd.prog 1 (regOps Tryd.f70 1) false 2 [(0, (pt (nb ρ1 0)))] w0 [(nb ρ1 0, (.cells (cU 0) 24 (0, 0)))] F
    (fun _ => [(0, (pt (nb ρ1 0)))])
    (fun _ => [(nb ρ1 0, (.cells (cU 115792089237316195423570985008687907853269984665640564039457584007913129603823) 24 (0, 0)))]) := by
  refine reg_seq [0, 1] [0] 2
    (fun _ ι => ([(U 115792089237316195423570985008687907853269984665640564039457584007913129603823), undef] : List Value).getD ι undef)
    (fun _ ι => ([{}, { puts := [(0, (.cells (cU 115792089237316195423570985008687907853269984665640564039457584007913129603823) 24 (0, 0)))] }] : List Eff).getD ι {})
    (by kernel_rfl) (by kernel_rfl) (fun _ => by kernel_rfl) (fun _ => by kernel_rfl) ⟨⟨trivial, ?_⟩, ?_⟩
  · exact o_run 0 [] [] (fun _ _ => []) (fun _ _ => by kernel_rfl)
  · exact o_run 1 [0] [] (fun _ _ => [nb ρ1 0, nb ρ1 0, nb ρ1 0, nb ρ1 0]) (fun _ _ => by kernel_rfl)
theorem gmodulus_w  (w0 : World) : Calls Tryd.prog 70 #[] w0 (fun ε w' => ε = .returned (U pP) ∧ Below w0.heap.size w0 w') := by
  refine Calls.of_ok (n := 2) (F := (fun _ => True)) Tryd.func70 rfl rfl rfl (by simp) (persTrue (fun _ => trivial)) ?_
  refine ok_seq_r (by kernel_rfl) (gmodulus_w_r1 _ _) (fun ρ1 => ?_)
  refine ok_seq_r (by kernel_rfl) (gmodulus_w_r2 ρ1 _ _) (fun _ => ?_)
  refine ok_ret ?_
  exact meets_ret (v := (U 115792089237316195423570985008687907853269984665640564039457584007913129603823)) [0, 0, 0, 0] (dup [nb ρ1 0, nb ρ1 0, nb ρ1 0, nb ρ1 0]) (by kernel_rfl) (by kernel_rfl) (eqs_dup _) (fun _ hS => ⟨congrArg (fun x => Ending.returned (U x)) (by decide +kernel), hS.below⟩)
theorem gmodulus_any (w0 : World)  : Calls Tryd.prog 70 #[] w0 (fun ε w' => ε = .returned (U pP) ∧ Below w0.heap.size w0 w') := gmodulus_w  w0
theorem gorder_w_r1  (w0 : World) (F : World → Prop) : Reg Tryd.prog 0 (regOps Tryd.f56 0) false 2 [] w0 [] F
    (fun ρ => [(0, (pt (nb ρ 0)))])
    (fun ρ => [(nb ρ 0, (.cells (cU 0) 24 (0, 0)))]) := by
  refine reg_seq [0] [0] 1
    (fun ρ ι => ([(pt (nb ρ 0))] : List Value).getD ι undef)
    (fun ρ ι => ([{ news := [(nb ρ 0, (.cells (cU 0) 24 (0, 0)))] }] : List Eff).getD ι {})
    (by kernel_rfl) (by kernel_rfl) (fun _ => by kernel_rfl) (fun _ => by kernel_rfl) ⟨trivial, ?_⟩
  · exact o_run 0 [] [] (fun _ _ => []) (fun _ _ => by kernel_rfl)
theorem gorder_w_r2 (ρ1 : Nat → Orc) (w0 : World) (F : World → Prop) : Reg Tryd.prog 1 (regOps Tryd.f56 1) false 2 [(0, (pt (nb ρ1 0)))] w0 [(nb ρ1 0, (.cells (cU 0) 24 (0, 0)))] F
    (fun _ => [(0, (pt (nb ρ1 0)))])
    (fun _ => [(nb ρ1 0, (.cells (cU 57896044618658097711785492504343953926634992332820282019728792003956564801911) 24 (0, 0)))]) := by
  refine reg_seq [0, 1] [0] 2
    (fun _ ι => ([(U 57896044618658097711785492504343953926634992332820282019728792003956564801911), undef] : List Value).getD ι undef)
    (fun _ ι => ([{}, { puts := [(0, (.cells (cU 57896044618658097711785492504343953926634992332820282019728792003956564801911) 24 (0, 0)))] }] : List Eff).getD ι {})
    (by kernel_rfl) (by kernel_rfl) (fun _ => by kernel_rfl) (fun _ => by kernel_rfl) ⟨⟨trivial, ?_⟩, ?_⟩
  · exact o_run 0 [] [] (fun _ _ => []) (fun _ _ => by kernel_rfl)
  · exact o_run 1 [0] [] (fun _ _ => [nb ρ1 0, nb ρ1 0, nb ρ1 0, nb ρ1 0]) (fun _ _ => by kernel_rfl)
theorem gorder_w  (w0 : World) : Calls Tryd.prog 56 #[] w0 (fun ε w' => ε = .returned (U qP) ∧ Below w0.heap.size w0 w') := by
  refine Calls.of_ok (n := 2) (F := (fun _ => True)) Tryd.func56 rfl rfl rfl (by simp) (persTrue (fun _ => trivial)) ?_
  refine ok_seq_r (by kernel_rfl) (gorder_w_r1 _ _) (fun ρ1 => ?_)
  refine ok_seq_r (by kernel_rfl) (gorder_w_r2 ρ1 _ _) (fun _ => ?_)
  refine ok_ret ?_
  exact meets_ret (v := (U 57896044618658097711785492504343953926634992332820282019728792003956564801911)) [0, 0, 0, 0] (dup [nb ρ1 0, nb ρ1 0, nb ρ1 0, nb ρ1 0]) (by kernel_rfl) (by kernel_rfl) (eqs_dup _) (fun _ hS => ⟨congrArg (fun x => Ending.returned (U x)) (by decide +kernel), hS.below⟩)
theorem gorder_any (w0 : World)  : Calls Tryd.prog 56 #[] w0 (fun ε w' => ε = .returned (U qP) ∧ Below w0.heap.size w0 w') := gorder_w  w0
theorem rgmodulus_w_r1  (w0 : World) (F : World → Prop) : Reg Tryd.prog 0 (regOps Tryd.f71 0) false 10 [] w0 [] F
    (fun ρ => [(0, (pt (nb ρ 0)))])
    (fun ρ => [(nb ρ 0, (.cells (cU 0) 24 (0, 0)))]) := by
  refine reg_seq [0] [0] 1
    (fun ρ ι => ([(pt (nb ρ 0))] : List Value).getD ι undef)
    (fun ρ ι => ([{ news := [(nb ρ 0, (.cells (cU 0) 24 (0, 0)))] }] : List Eff).getD ι {})
    (by kernel_rfl) (by kernel_rfl) (fun _ => by kernel_rfl) (fun _ => by kernel_rfl) ⟨trivial, ?_⟩
  · exact o_run 0 [] [] (fun _ _ => []) (fun _ _ => by kernel_rfl)
theorem rgmodulus_w_r2 (ρ1 : Nat → Orc) (w0 : World) (F : World → Prop) : Reg Tryd.prog 1 (regOps Tryd.f71 1) false 10 [(0, (pt (nb ρ1 0)))] w0 [(nb ρ1 0, (.cells (cU 0) 24 (0, 0)))] F
    (fun ρ => [(0, (pt (nb ρ1 0))), (1, (pt (nb ρ 6)))])
    (fun ρ => [(nb ρ1 0, (.cells (cU 0) 24 (0, 0))), (nb ρ 6, (.cells (cU ((0 + M - 36113) % M)) 24 (0, 0)))]) := by
  refine reg_seq [0, 1, 3, 7, 15, 31, 63, 127, 255] [0, 1] 9
    (fun ρ ι => ([(U 0), (U 36113), (.tuple #[(U ((0 + M - 36113) % M)), (.bool (decide (0 < 36113)))]), (.tuple #[(U ((0 + M - 36113) % M)), (.bool (decide (0 < 36113)))]), (U ((0 + M - 36113) % M)), (.bool (decide (0 < 36113))), (pt (nb ρ 6)), undef, (.bool (decide (0 < 36113)))] : List Value).getD ι undef)
    (fun ρ ι => ([{}, {}, {}, {}, {}, {}, { news := [(nb ρ 6, (.cells (cU 0) 24 (0, 0)))] }, { puts := [(49, (.cells (cU ((0 + M - 36113) % M)) 24 (0, 0)))] }, {}] : List Eff).getD ι {})
    (by kernel_rfl) (by kernel_rfl) (fun _ => by kernel_rfl) (fun _ => by kernel_rfl) ⟨⟨⟨⟨⟨⟨⟨⟨⟨trivial, ?_⟩, ?_⟩, ?_⟩, ?_⟩, ?_⟩, ?_⟩, ?_⟩, ?_⟩, ?_⟩
  · exact o_run 0 [] [] (fun _ _ => []) (fun _ _ => by kernel_rfl)
  · exact o_call 1 41 (fun _ => #[(.int .u64 36113)]) (fun _ => (U 36113)) (fun _ _ => by kernel_rfl) (fun _ w => (fun w => rfromuint_lit 36113 w (by decide)) w)
  · exact o_call 2 60 (fun _ => #[(U 0), (U 36113)]) (fun _ => (.tuple #[(U ((0 + M - 36113) % M)), (.bool (decide (0 < 36113)))])) (fun _ _ => by kernel_rfl) (fun _ w => (fun w => rsub_any 0 36113 w (by decide +kernel) (by decide +kernel)) w)
  · exact o_run 3 [] [] (fun _ _ => []) (fun _ _ => by kernel_rfl)
  · exact o_run 4 [] [] (fun _ _ => []) (fun _ _ => by kernel_rfl)
  · exact o_run 5 [] [] (fun _ _ => []) (fun _ _ => by kernel_rfl)
  · exact o_run 6 [] [] (fun _ _ => []) (fun _ _ => by kernel_rfl)
  · exact o_run 7 [49] [] (fun ρ _ => [nb ρ 6, nb ρ 6, nb ρ 6, nb ρ 6]) (fun _ _ => by kernel_rfl)
  · exact o_run 8 [] [] (fun _ _ => []) (fun _ _ => by kernel_rfl)
theorem rgmodulus_w_r3 (ρ1 : Nat → Orc) (ρ2 : Nat → Orc) (w0 : World) (F : World → Prop) : Reg Tryd.prog 2 (regOps Tryd.f71 2) false 10 [(0, (pt (nb ρ1 0))), (1, (pt (nb ρ2 6)))] w0 [(nb ρ1 0, (.cells (cU 0) 24 (0, 0))), (nb ρ2 6, (.cells (cU ((0 + M - 36113) % M)) 24 (0, 0)))] F
    (fun _ => [(0, (pt (nb ρ1 0)))])
    (fun _ => [(nb ρ1 0, (.cells (cU ((0 + M - 36113) % M)) 24 (0, 0))), (nb ρ2 6, (.cells (cU ((0 + M - 36113) % M)) 24 (0, 0)))]) := by
  refine reg_seq [0, 1] [0] 2
    (fun _ ι => ([(U ((0 + M - 36113) % M)), undef] : List Value).getD ι undef)
    (fun _ ι => ([{}, { puts := [(0, (.cells (cU ((0 + M - 36113) % M)) 24 (0, 0)))] }] : List Eff).getD ι {})
    (by kernel_rfl) (by kernel_rfl) (fun _ => by kernel_rfl) (fun _ => by kernel_rfl) ⟨⟨trivial, ?_⟩, ?_⟩
  · exact o_run 0 [1] [] (fun _ _ => [nb ρ2 6, nb ρ2 6, nb ρ2 6, nb ρ2 6]) (fun _ _ => by kernel_rfl)
  · exact o_run 1 [0] [] (fun _ _ => [nb ρ1 0, nb ρ1 0, nb ρ1 0, nb ρ1 0]) (fun _ _ => by kernel_rfl)
theorem rgmodulus_w  (w0 : World) : Calls Tryd.prog 71 #[] w0 (fun ε w' => ε = .returned (U pP) ∧ Below w0.heap.size w0 w') := by
  refine Calls.of_ok (n := 10) (F := (fun _ => True)) Tryd.func71 rfl rfl rfl (by simp) (persTrue (fun _ => trivial)) ?_
  refine ok_seq_r (by kernel_rfl) (rgmodulus_w_r1 _ _) (fun ρ1 => ?_)
  refine ok_seq_r (by kernel_rfl) (rgmodulus_w_r2 ρ1 _ _) (fun ρ2 => ?_)
  refine ok_seq_r (by kernel_rfl) (rgmodulus_w_r3 ρ1 ρ2 _ _) (fun _ => ?_)
  refine ok_ret ?_
  exact meets_ret (v := (U ((0 + M - 36113) % M))) [0, 0, 0, 0] (dup [nb ρ1 0, nb ρ1 0, nb ρ1 0, nb ρ1 0]) (by kernel_rfl) (by kernel_rfl) (eqs_dup _) (fun _ hS => ⟨congrArg (fun x => Ending.returned (U x)) (by decide +kernel), hS.below⟩)
theorem rgmodulus_any (w0 : World)  : Calls Tryd.prog 71 #[] w0 (fun ε w' => ε = .returned (U pP) ∧ Below w0.heap.size w0 w') := rgmodulus_w  w0
theorem rgorder_w_r1  (w0 : World) (F : World → Prop) : Reg Tryd.prog 0 (regOps Tryd.f61 0) false 3 [] w0 [] F
    (fun ρ => [(0, (pt (nb ρ 0)))])
    (fun ρ => [(nb ρ 0, (.cells (cU 0) 24 (0, 0)))]) := by
  refine reg_seq [0] [0] 1
    (fun ρ ι => ([(pt (nb ρ 0))] : List Value).getD ι undef)
    (fun ρ ι => ([{ news := [(nb ρ 0, (.cells (cU 0) 24 (0, 0)))] }] : List Eff).getD ι {})
    (by kernel_rfl) (by kernel_rfl) (fun _ => by kernel_rfl) (fun _ => by kernel_rfl) ⟨trivial, ?_⟩
  · exact o_run 0 [] [] (fun _ _ => []) (fun _ _ => by kernel_rfl)
theorem rgorder_w_r2 (ρ1 : Nat → Orc) (w0 : World) (F : World → Prop) : Reg Tryd.prog 1 (regOps Tryd.f61 1) false 3 [(0, (pt (nb ρ1 0)))] w0 [(nb ρ1 0, (.cells (cU 0) 24 (0, 0)))] F
    (fun _ => [(0, (pt (nb ρ1 0)))])
    (fun _ => [(nb ρ1 0, (.cells (cU (shrZ pP 1)) 24 (0, 0)))]) := by
  refine reg_seq [0, 1, 3] [0] 3
    (fun _ ι => ([(U pP), (U (shrZ pP 1)), undef] : List Value).getD ι undef)
    (fun _ ι => ([{}, {}, { puts := [(0, (.cells (cU (shrZ pP 1)) 24 (0, 0)))] }] : List Eff).getD ι {})
    (by kernel_rfl) (by kernel_rfl) (fun _ => by kernel_rfl) (fun _ => by kernel_rfl) ⟨⟨⟨trivial, ?_⟩, ?_⟩, ?_⟩
  · exact o_call 0 71 (fun _ => #[]) (fun _ => (U pP)) (fun _ _ => by kernel_rfl) (fun _ w => (fun w => rgmodulus_any w) w)
  · exact o_call 1 83 (fun _ => #[(U pP), (.int .i64 1)]) (fun _ => (U (shrZ pP 1))) (fun _ _ => by kernel_rfl) (fun _ w => (fun w => rshr_any pP 1 w pP_lt) w)
  · exact o_run 2 [0] [] (fun _ _ => [nb ρ1 0, nb ρ1 0, nb ρ1 0, nb ρ1 0]) (fun _ _ => by kernel_rfl)
theorem rgorder_w  (w0 : World) : Calls Tryd.prog 61 #[] w0 (fun ε w' => ε = .returned (U qP) ∧ Below w0.heap.size w0 w') := by
  refine Calls.of_ok (n := 3) (F := (fun _ => True)) Tryd.func61 rfl rfl rfl (by simp) (persTrue (fun _ => trivial)) ?_
  refine ok_seq_r (by kernel_rfl) (rgorder_w_r1 _ _) (fun ρ1 => ?_)
  refine ok_seq_r (by kernel_rfl) (rgorder_w_r2 ρ1 _ _) (fun _ => ?_)
  refine ok_ret ?_
  exact meets_ret (v := (U (shrZ pP 1))) [0, 0, 0, 0] (dup [nb ρ1 0, nb ρ1 0, nb ρ1 0, nb ρ1 0]) (by kernel_rfl) (by kernel_rfl) (eqs_dup _) (fun _ hS => ⟨congrArg (fun x => Ending.returned (U x)) (by decide +kernel), hS.below⟩)
theorem rgorder_any (w0 : World)  : Calls Tryd.prog 61 #[] w0 (fun ε w' => ε = .returned (U qP) ∧ Below w0.heap.size w0 w') := rgorder_w  w0
theorem rgone_w_r1  (w0 : World) (F : World → Prop) : Reg Tryd.prog 0 (regOps Tryd.f72 0) false 2 [] w0 [] F
    (fun ρ => [(0, (pt (nb ρ 0)))])
    (fun ρ => [(nb ρ 0, (.cells (cU 0) 24 (0, 0)))]) := by
  refine reg_seq [0] [0] 1
    (fun ρ ι => ([(pt (nb ρ 0))] : List Value).getD ι undef)
    (fun ρ ι => ([{ news := [(nb ρ 0, (.cells (cU 0) 24 (0, 0)))] }] : List Eff).getD ι {})
    (by kernel_rfl) (by kernel_rfl) (fun _ => by kernel_rfl) (fun _ => by kernel_rfl) ⟨trivial, ?_⟩
  · exact o_run 0 [] [] (fun _ _ => []) (fun _ _ => by kernel_rfl)
theorem rgone_w_r2 (ρ1 : Nat → Orc) (w0 : World) (F : World → Prop) : Reg Tryd.prog 1 (regOps Tryd.f72 1) false 2 [(0, (pt (nb ρ1 0)))] w0 [(nb ρ1 0, (.cells (cU 0) 24 (0, 0)))] F
    (fun _ => [(0, (pt (nb ρ1 0)))])
    (fun _ => [(nb ρ1 0, (.cells (cU 1) 24 (0, 0)))]) := by
  refine reg_seq [0, 1] [0] 2
    (fun _ ι => ([(U 1), undef] : List Value).getD ι undef)
    (fun _ ι => ([{}, { puts := [(0, (.cells (cU 1) 24 (0, 0)))] }] : List Eff).getD ι {})
    (by kernel_rfl) (by kernel_rfl) (fun _ => by kernel_rfl) (fun _ => by kernel_rfl) ⟨⟨trivial, ?_⟩, ?_⟩
  · exact o_call 0 41 (fun _ => #[(.int .u64 1)]) (fun _ => (U 1)) (fun _ _ => by kernel_rfl) (fun _ w => (fun w => rfromuint_lit 1 w (by decide)) w)
  · exact o_run 1 [0] [] (fun _ _ => [nb ρ1 0, nb ρ1 0, nb ρ1 0, nb ρ1 0]) (fun _ _ => by kernel_rfl)
theorem rgone_w  (w0 : World) : Calls Tryd.prog 72 #[] w0 (fun ε w' => ε = .returned (U 1) ∧ Below w0.heap.size w0 w') := by
  refine Calls.of_ok (n := 2) (F := (fun _ => True)) Tryd.func72 rfl rfl rfl (by simp) (persTrue (fun _ => trivial)) ?_
  refine ok_seq_r (by kernel_rfl) (rgone_w_r1 _ _) (fun ρ1 => ?_)
  refine ok_seq_r (by kernel_rfl) (rgone_w_r2 ρ1 _ _) (fun _ => ?_)
  refine ok_ret ?_
  exact meets_ret (v := (U 1)) [0, 0, 0, 0] (dup [nb ρ1 0, nb ρ1 0, nb ρ1 0, nb ρ1 0]) (by kernel_rfl) (by kernel_rfl) (eqs_dup _) (fun _ hS => ⟨rfl, hS.below⟩)
theorem rgone_any (w0 : World)  : Calls Tryd.prog 72 #[] w0 (fun ε w' => ε = .returned (U 1) ∧ Below w0.heap.size w0 w') := rgone_w  w0
theorem gmul_w_r1 (a : Nat) (b : Nat) (w0 : World) (F : World → Prop) : Reg Tryd.prog 0 (regOps Tryd.f57 0) false 9 [(0, (U a)), (1, (U b))] w0 [] F
    (fun ρ => [(2, (pt (nb ρ 0))), (3, (pt (nb ρ 1))), (4, (pt (nb ρ 2)))])
    (fun ρ => [(nb ρ 0, (.cells (cU a) 24 (0, 0))), (nb ρ 1, (.cells (cU b) 24 (0, 0))), (nb ρ 2, (.cells (cU 0) 24 (0, 0)))]) := by
  refine reg_seq [0, 1, 3] [2, 3, 4] 3
    (fun ρ ι => ([(pt (nb ρ 0)), (pt (nb ρ 1)), (pt (nb ρ 2))] : List Value).getD ι undef)
    (fun ρ ι => ([{ news := [(nb ρ 0, (.cells (cU a) 24 (0, 0)))] }, { news := [(nb ρ 1, (.cells (cU b) 24 (0, 0)))] }, { news := [(nb ρ 2, (.cells (cU 0) 24 (0, 0)))] }] : List Eff).getD ι {})
    (by kernel_rfl) (by kernel_rfl) (fun _ => by kernel_rfl) (fun _ => by kernel_rfl) ⟨⟨⟨trivial, ?_⟩, ?_⟩, ?_⟩
  · exact o_run 0 [] [] (fun _ _ => []) (fun _ _ => by kernel_rfl)
  · exact o_run 1 [] [] (fun _ _ => []) (fun _ _ => by kernel_rfl)
  · exact o_run 2 [] [] (fun _ _ => []) (fun _ _ => by kernel_rfl)
theorem gmul_w_r2 (a : Nat) (b : Nat) (ha : a < M) (hb : b < M) (ρ1 : Nat → Orc) (w0 : World) (F : World → Prop) : Reg Tryd.prog 1 (regOps Tryd.f57 1) true 9 [(2, (pt (nb ρ1 0))), (3, (pt (nb ρ1 1))), (4, (pt (nb ρ1 2)))] w0 [(nb ρ1 0, (.cells (cU a) 24 (0, 0))), (nb ρ1 1, (.cells (cU b) 24 (0, 0))), (nb ρ1 2, (.cells (cU 0) 24 (0, 0)))] F
    (fun _ => [(4, (pt (nb ρ1 2)))])
    (fun _ => [(nb ρ1 0, (.cells (cU a) 24 (0, 0))), (nb ρ1 1, (.cells (cU b) 24 (0, 0))), (nb ρ1 2, (.cells (cU (mulmN a b pP)) 24 (0, 0)))]) := by
  refine reg_drawn [0, 0, 0, 7, 15] [4] 5
    (fun _ ι => ([(U a), (U b), (U pP), (U (mulmN a b pP)), undef] : List Value).getD ι undef)
    (fun _ ι => ([{}, {}, {}, {}, { puts := [(2, (.cells (cU (mulmN a b pP)) 24 (0, 0)))] }] : List Eff).getD ι {})
    (by kernel_rfl) (by kernel_rfl) (by kernel_rfl) (fun _ => by kernel_rfl) (fun _ => by kernel_rfl) ⟨⟨⟨⟨⟨trivial, ?_⟩, ?_⟩, ?_⟩, ?_⟩, ?_⟩
  · exact o_run 0 [0] [] (fun _ _ => [nb ρ1 0, nb ρ1 0, nb ρ1 0, nb ρ1 0]) (fun _ _ => by kernel_rfl)
  · exact o_run 1 [1] [] (fun _ _ => [nb ρ1 1, nb ρ1 1, nb ρ1 1, nb ρ1 1]) (fun _ _ => by kernel_rfl)
  · exact o_call 2 70 (fun _ => #[]) (fun _ => (U pP)) (fun _ _ => by kernel_rfl) (fun _ w => (fun w => gmodulus_any w) w)
  · exact o_call 3 79 (fun _ => #[(U a), (U b), (U pP)]) (fun _ => (U (mulmN a b pP))) (fun _ _ => by kernel_rfl) (fun _ w => (fun w => mulmod_any a b pP w ha hb pP_lt) w)
  · exact o_run 4 [2] [] (fun _ _ => [nb ρ1 2, nb ρ1 2, nb ρ1 2, nb ρ1 2]) (fun _ _ => by kernel_rfl)
theorem gmul_w (a : Nat) (b : Nat) (ha : a < M) (hb : b < M) (w0 : World) : Calls Tryd.prog 57 #[(U a), (U b)] w0 (fun ε w' => ε = .returned (U (mulmN a b pP)) ∧ Below w0.heap.size w0 w') := by
  refine Calls.of_ok (n := 9) (F := (fun _ => True)) Tryd.func57 rfl rfl rfl (by simp) (persTrue (fun _ => trivial)) ?_
  refine ok_seq_r (by kernel_rfl) (gmul_w_r1 a b _ _) (fun ρ1 => ?_)
  refine ok_seq_r (by kernel_rfl) (gmul_w_r2 a b ha hb ρ1 _ _) (fun _ => ?_)
  refine ok_ret ?_
  exact meets_ret (v := (U (mulmN a b pP))) [2, 2, 2, 2] (dup [nb ρ1 2, nb ρ1 2, nb ρ1 2, nb ρ1 2]) (by kernel_rfl) (by kernel_rfl) (eqs_dup _) (fun _ hS => ⟨rfl, hS.below⟩)
theorem gmul_any (a b : Nat) (w0 : World) (ha : a < M) (hb : b < M) : Calls Tryd.prog 57 #[(U a), (U b)] w0 (fun ε w' => ε = .returned (U (mulmN a b pP)) ∧ Below w0.heap.size w0 w') := gmul_w a b ha hb w0
theorem rgmul_w_r1 (a : Nat) (b : Nat) (w0 : World) (F : World → Prop) : Reg Tryd.prog 0 (regOps Tryd.f62 0) false 9 [(0, (U a)), (1, (U b))] w0 [] F
    (fun ρ => [(2, (pt (nb ρ 0))), (3, (pt (nb ρ 1))), (4, (pt (nb ρ 2)))])
    (fun ρ => [(nb ρ 0, (.cells (cU a) 24 (0, 0))), (nb ρ 1, (.cells (cU b) 24 (0, 0))), (nb ρ 2, (.cells (cU 0) 24 (0, 0)))]) := by
  refine reg_seq [0, 1, 3] [2, 3, 4] 3
    (fun ρ ι => ([(pt (nb ρ 0)), (pt (nb ρ 1)), (pt (nb ρ 2))] : List Value).getD ι undef)
    (fun ρ ι => ([{ news := [(nb ρ 0, (.cells (cU a) 24 (0, 0)))] }, { news := [(nb ρ 1, (.cells (cU b) 24 (0, 0)))] }, { news := [(nb ρ 2, (.cells (cU 0) 24 (0, 0)))] }] : List Eff).getD ι {})
    (by kernel_rfl) (by kernel_rfl) (fun _ => by kernel_rfl) (fun _ => by kernel_rfl) ⟨⟨⟨trivial, ?_⟩, ?_⟩, ?_⟩
  · exact o_run 0 [] [] (fun _ _ => []) (fun _ _ => by kernel_rfl)
  · exact o_run 1 [] [] (fun _ _ => []) (fun _ _ => by kernel_rfl)
  · exact o_run 2 [] [] (fun _ _ => []) (fun _ _ => by kernel_rfl)
theorem rgmul_w_r2 (a : Nat) (b : Nat) (ha : a < M) (hb : b < M) (ρ1 : Nat → Orc) (w0 : World) (F : World → Prop) : Reg Tryd.prog 1 (regOps Tryd.f62 1) true 9 [(2, (pt (nb ρ1 0))), (3, (pt (nb ρ1 1))), (4, (pt (nb ρ1 2)))] w0 [(nb ρ1 0, (.cells (cU a) 24 (0, 0))), (nb ρ1 1, (.cells (cU b) 24 (0, 0))), (nb ρ1 2, (.cells (cU 0) 24 (0, 0)))] F
    (fun _ => [(4, (pt (nb ρ1 2)))])
    (fun _ => [(nb ρ1 0, (.cells (cU a) 24 (0, 0))), (nb ρ1 1, (.cells (cU b) 24 (0, 0))), (nb ρ1 2, (.cells (cU (mulmN a b pP)) 24 (0, 0)))]) := by
  refine reg_drawn [0, 0, 0, 7, 15] [4] 5
    (fun _ ι => ([(U a), (U b), (U pP), (U (mulmN a b pP)), undef] : List Value).getD ι undef)
    (fun _ ι => ([{}, {}, {}, {}, { puts := [(2, (.cells (cU (mulmN a b pP)) 24 (0, 0)))] }] : List Eff).getD ι {})
    (by kernel_rfl) (by kernel_rfl) (by kernel_rfl) (fun _ => by kernel_rfl) (fun _ => by kernel_rfl) ⟨⟨⟨⟨⟨trivial, ?_⟩, ?_⟩, ?_⟩, ?_⟩, ?_⟩
  · exact o_run 0 [0] [] (fun _ _ => [nb ρ1 0, nb ρ1 0, nb ρ1 0, nb ρ1 0]) (fun _ _ => by kernel_rfl)
  · exact o_run 1 [1] [] (fun _ _ => [nb ρ1 1, nb ρ1 1, nb ρ1 1, nb ρ1 1]) (fun _ _ => by kernel_rfl)
  · exact o_call 2 71 (fun _ => #[]) (fun _ => (U pP)) (fun _ _ => by kernel_rfl) (fun _ w => (fun w => rgmodulus_any w) w)
  · exact o_call 3 80 (fun _ => #[(U a), (U b), (U pP)]) (fun _ => (U (mulmN a b pP))) (fun _ _ => by kernel_rfl) (fun _ w => (fun w => rmulmod_any a b pP w ha hb pP_lt) w)
  · exact o_run 4 [2] [] (fun _ _ => [nb ρ1 2, nb ρ1 2, nb ρ1 2, nb ρ1 2]) (fun _ _ => by kernel_rfl)
theorem rgmul_w (a : Nat) (b : Nat) (ha : a < M) (hb : b < M) (w0 : World) : Calls Tryd.prog 62 #[(U a), (U b)] w0 (fun ε w' => ε = .returned (U (mulmN a b pP)) ∧ Below w0.heap.size w0 w') := by
  refine Calls.of_ok (n := 9) (F := (fun _ => True)) Tryd.func62 rfl rfl rfl (by simp) (persTrue (fun _ => trivial)) ?_
  refine ok_seq_r (by kernel_rfl) (rgmul_w_r1 a b _ _) (fun ρ1 => ?_)
  refine ok_seq_r (by kernel_rfl) (rgmul_w_r2 a b ha hb ρ1 _ _) (fun _ => ?_)
  refine ok_ret ?_
  exact meets_ret (v := (U (mulmN a b pP))) [2, 2, 2, 2] (dup [nb ρ1 2, nb ρ1 2, nb ρ1 2, nb ρ1 2]) (by kernel_rfl) (by kernel_rfl) (eqs_dup _) (fun _ hS => ⟨rfl, hS.below⟩)
theorem rgmul_any (a b : Nat) (w0 : World) (ha : a < M) (hb : b < M) : Calls Tryd.prog 62 #[(U a), (U b)] w0 (fun ε w' => ε = .returned (U (mulmN a b pP)) ∧ Below w0.heap.size w0 w') := rgmul_w a b ha hb w0
theorem gexp_w_r1 (a : Nat) (e : Nat) (w0 : World) (F : World → Prop) : Reg Tryd.prog 0 (regOps Tryd.f58 0) false 37 [(0, (U a)), (1, (U e))] w0 [] F
    (fun ρ => [(2, (pt (nb ρ 0))), (3, (pt (nb ρ 1))), (4, (pt (nb ρ 2)))])
    (fun ρ => [(nb ρ 0, (.cells (cU a) 24 (0, 0))), (nb ρ 1, (.cells (cU e) 24 (0, 0))), (nb ρ 2, (.cells (cU 0) 24 (0, 0)))]) := by
  refine reg_seq [0, 1, 3] [2, 3, 4] 3
    (fun ρ ι => ([(pt (nb ρ 0)), (pt (nb ρ 1)), (pt (nb ρ 2))] : List Value).getD ι undef)
    (fun ρ ι => ([{ news := [(nb ρ 0, (.cells (cU a) 24 (0, 0)))] }, { news := [(nb ρ 1, (.cells (cU e) 24 (0, 0)))] }, { news := [(nb ρ 2, (.cells (cU 0) 24 (0, 0)))] }] : List Eff).getD ι {})
    (by kernel_rfl) (by kernel_rfl) (fun _ => by kernel_rfl) (fun _ => by kernel_rfl) ⟨⟨⟨trivial, ?_⟩, ?_⟩, ?_⟩
  · exact o_run 0 [] [] (fun _ _ => []) (fun _ _ => by kernel_rfl)
  · exact o_run 1 [] [] (fun _ _ => []) (fun _ _ => by kernel_rfl)
  · exact o_run 2 [] [] (fun _ _ => []) (fun _ _ => by kernel_rfl)
theorem gexp_w_r2 (a : Nat) (e : Nat) (ρ1 : Nat → Orc) (w0 : World) (F : World → Prop) : Reg Tryd.prog 1 (regOps Tryd.f58 1) false 37 [(2, (pt (nb ρ1 0))), (3, (pt (nb ρ1 1))), (4, (pt (nb ρ1 2)))] w0 [(nb ρ1 0, (.cells (cU a) 24 (0, 0))), (nb ρ1 1, (.cells (cU e) 24 (0, 0))), (nb ρ1 2, (.cells (cU 0) 24 (0, 0)))] F
    (fun ρ => [(2, (pt (nb ρ1 0))), (3, (pt (nb ρ1 1))), (4, (pt (nb ρ1 2))), (5, (pt (nb ρ 1)))])
    (fun ρ => [(nb ρ1 0, (.cells (cU a) 24 (0, 0))), (nb ρ1 1, (.cells (cU e) 24 (0, 0))), (nb ρ1 2, (.cells (cU 0) 24 (0, 0))), (nb ρ 1, (.cells (cU 1) 24 (0, 0)))]) := by
  refine reg_seq [0, 1, 3] [2, 3, 4, 5] 3
    (fun ρ ι => ([(U 1), (pt (nb ρ 1)), undef] : List Value).getD ι undef)
    (fun ρ ι => ([{}, { news := [(nb ρ 1, (.cells (cU 0) 24 (0, 0)))] }, { puts := [(11, (.cells (cU 1) 24 (0, 0)))] }] : List Eff).getD ι {})
    (by kernel_rfl) (by kernel_rfl) (fun _ => by kernel_rfl) (fun _ => by kernel_rfl) ⟨⟨⟨trivial, ?_⟩, ?_⟩, ?_⟩
  · exact o_call 0 39 (fun _ => #[(.int .u64 1)]) (fun _ => (U 1)) (fun _ _ => by kernel_rfl) (fun _ w => (fun w => fromuint_lit 1 w (by decide)) w)
  · exact o_run 1 [] [] (fun _ _ => []) (fun _ _ => by kernel_rfl)
  · exact o_run 2 [11] [] (fun ρ _ => [nb ρ 1, nb ρ 1, nb ρ 1, nb ρ 1]) (fun _ _ => by kernel_rfl)
theorem gexp_w_r3 (a : Nat) (e : Nat) (he : e < M) (ρ1 : Nat → Orc) (ρ2 : Nat → Orc) (w0 : World) (F : World → Prop) : Reg Tryd.prog 2 (regOps Tryd.f58 2) false 37 [(2, (pt (nb ρ1 0))), (3, (pt (nb ρ1 1))), (4, (pt (nb ρ1 2))), (5, (pt (nb ρ2 1)))] w0 [(nb ρ1 0, (.cells (cU a) 24 (0, 0))), (nb ρ1 1, (.cells (cU e) 24 (0, 0))), (nb ρ1 2, (.cells (cU 0) 24 (0, 0))), (nb ρ2 1, (.cells (cU 1) 24 (0, 0)))] F
    (fun _ => [(2, (pt (nb ρ1 0))), (3, (pt (nb ρ1 1))), (4, (pt (nb ρ1 2))), (5, (pt (nb ρ2 1))), (6, (.int .i64 ((lenN e : Nat) : Int)))])
    (fun _ => [(nb ρ1 0, (.cells (cU a) 24 (0, 0))), (nb ρ1 1, (.cells (cU e) 24 (0, 0))), (nb ρ1 2, (.cells (cU 0) 24 (0, 0))), (nb ρ2 1, (.cells (cU 1) 24 (0, 0)))]) := by
  refine reg_seq [0, 1, 3] [2, 3, 4, 5, 6] 3
    (fun _ ι => ([(U e), (.int .i64 ((lenN e : Nat) : Int)), (.int .i64 ((lenN e : Nat) : Int))] : List Value).getD ι undef)
    (fun _ ι => ([{}, {}, {}] : List Eff).getD ι {})
    (by kernel_rfl) (by kernel_rfl) (fun _ => by kernel_rfl) (fun _ => by kernel_rfl) ⟨⟨⟨trivial, ?_⟩, ?_⟩, ?_⟩
  · exact o_run 0 [1] [] (fun _ _ => [nb ρ1 1, nb ρ1 1, nb ρ1 1, nb ρ1 1]) (fun _ _ => by kernel_rfl)
  · exact o_call 1 82 (fun _ => #[(U e)]) (fun _ => (.int .i64 ((lenN e : Nat) : Int))) (fun _ _ => by kernel_rfl) (fun _ w => (fun w => len_any e w he) w)
  · exact o_run 2 [] [] (fun _ _ => []) (fun _ _ => by kernel_rfl)
theorem gexp_w_r4 (a : Nat) (e : Nat) (ρ1 : Nat → Orc) (ρ2 : Nat → Orc) (w0 : World) (F : World → Prop) : Reg Tryd.prog 3 (regOps Tryd.f58 3) false 37 [(2, (pt (nb ρ1 0))), (3, (pt (nb ρ1 1))), (4, (pt (nb ρ1 2))), (5, (pt (nb ρ2 1))), (6, (.int .i64 ((lenN e : Nat) : Int)))] w0 [(nb ρ1 0, (.cells (cU a) 24 (0, 0))), (nb ρ1 1, (.cells (cU e) 24 (0, 0))), (nb ρ1 2, (.cells (cU 0) 24 (0, 0))), (nb ρ2 1, (.cells (cU 1) 24 (0, 0)))] F
    (fun _ => [(2, (pt (nb ρ1 0))), (3, (pt (nb ρ1 1))), (4, (pt (nb ρ1 2))), (5, (pt (nb ρ2 1))), (6, (.int .i64 ((lenN e : Nat) : Int))), (12, (.int .i64 ((lenN e : Nat) : Int))), (13, (.int .i64 0))])
    (fun _ => [(nb ρ1 0, (.cells (cU a) 24 (0, 0))), (nb ρ1 1, (.cells (cU e) 24 (0, 0))), (nb ρ1 2, (.cells (cU 0) 24 (0, 0))), (nb ρ2 1, (.cells (cU 1) 24 (0, 0)))]) := by
  refine reg_seq [0, 1] [2, 3, 4, 5, 6, 12, 13] 2
    (fun _ ι => ([(.int .i64 ((lenN e : Nat) : Int)), (.int .i64 0)] : List Value).getD ι undef)
    (fun _ ι => ([{}, {}] : List Eff).getD ι {})
    (by kernel_rfl) (by kernel_rfl) (fun _ => by kernel_rfl) (fun _ => by kernel_rfl) ⟨⟨trivial, ?_⟩, ?_⟩
  · exact o_run 0 [] [] (fun _ _ => []) (fun _ _ => by kernel_rfl)
  · exact o_run 1 [] [] (fun _ _ => []) (fun _ _ => by kernel_rfl)
theorem gexp_w_r5 (a : Nat) (e : Nat) (i : Nat) (p : Nat) (ρ1 : Nat → Orc) (ρ2 : Nat → Orc) (w0 : World) (F : World → Prop) : Reg Tryd.prog 4 (regOps Tryd.f58 4) false 37 [(2, (pt (nb ρ1 0))), (3, (pt (nb ρ1 1))), (4, (pt (nb ρ1 2))), (5, (pt (nb ρ2 1))), (6, (.int .i64 ((lenN e : Nat) : Int))), (12, (.int .i64 ((lenN e : Nat) : Int))), (13, (.int .i64 ((i : Nat) : Int)))] w0 [(nb ρ1 0, (.cells (cU a) 24 (0, 0))), (nb ρ1 1, (.cells (cU e) 24 (0, 0))), (nb ρ1 2, (.cells (cU 0) 24 (0, 0))), (nb ρ2 1, (.cells (cU p) 24 (0, 0)))] F
    (fun _ => [(2, (pt (nb ρ1 0))), (3, (pt (nb ρ1 1))), (4, (pt (nb ρ1 2))), (5, (pt (nb ρ2 1))), (6, (.int .i64 ((lenN e : Nat) : Int))), (12, (.int .i64 ((lenN e : Nat) : Int))), (13, (.int .i64 ((i : Nat) : Int))), (14, (.bool (decide (((i : Nat) : Int) < ((lenN e : Nat) : Int)))))])
    (fun _ => [(nb ρ1 0, (.cells (cU a) 24 (0, 0))), (nb ρ1 1, (.cells (cU e) 24 (0, 0))), (nb ρ1 2, (.cells (cU 0) 24 (0, 0))), (nb ρ2 1, (.cells (cU p) 24 (0, 0)))]) := by
  refine reg_seq [0] [2, 3, 4, 5, 6, 12, 13, 14] 1
    (fun _ ι => ([(.bool (decide (((i : Nat) : Int) < ((lenN e : Nat) : Int))))] : List Value).getD ι undef)
    (fun _ ι => ([{}] : List Eff).getD ι {})
    (by kernel_rfl) (by kernel_rfl) (fun _ => by kernel_rfl) (fun _ => by kernel_rfl) ⟨trivial, ?_⟩
  · exact o_run 0 [] [] (fun _ _ => []) (fun _ _ => by kernel_rfl)
theorem gexp_w_r6 (a : Nat) (e : Nat) (i : Nat) (p : Nat) (ρ1 : Nat → Orc) (ρ2 : Nat → Orc) (w0 : World) (F : World → Prop) : Reg Tryd.prog 5 (regOps Tryd.f58 5) false 37 [(2, (pt (nb ρ1 0))), (3, (pt (nb ρ1 1))), (4, (pt (nb ρ1 2))), (5, (pt (nb ρ2 1))), (6, (.int .i64 ((lenN e : Nat) : Int))), (12, (.int .i64 ((lenN e : Nat) : Int))), (13, (.int .i64 ((i : Nat) : Int))), (14, (.bool true))] w0 [(nb ρ1 0, (.cells (cU a) 24 (0, 0))), (nb ρ1 1, (.cells (cU e) 24 (0, 0))), (nb ρ1 2, (.cells (cU 0) 24 (0, 0))), (nb ρ2 1, (.cells (cU p) 24 (0, 0)))] F
    (fun _ => [(2, (pt (nb ρ1 0))), (3, (pt (nb ρ1 1))), (4, (pt (nb ρ1 2))), (5, (pt (nb ρ2 1))), (6, (.int .i64 ((lenN e : Nat) : Int))), (7, (.int .i64 ((i : Nat) : Int))), (12, (.int .i64 ((lenN e : Nat) : Int))), (13, (.int .i64 ((i : Nat) : Int)))])
    (fun _ => [(nb ρ1 0, (.cells (cU a) 24 (0, 0))), (nb ρ1 1, (.cells (cU e) 24 (0, 0))), (nb ρ1 2, (.cells (cU 0) 24 (0, 0))), (nb ρ2 1, (.cells (cU p) 24 (0, 0)))]) := by
  refine reg_seq [0, 1] [2, 3, 4, 5, 6, 7, 12, 13] 2
    (fun _ ι => ([(.int .i64 ((i : Nat) : Int)), (.int .i64 ((i : Nat) : Int))] : List Value).getD ι undef)
    (fun _ ι => ([{}, {}] : List Eff).getD ι {})
    (by kernel_rfl) (by kernel_rfl) (fun _ => by kernel_rfl) (fun _ => by kernel_rfl) ⟨⟨trivial, ?_⟩, ?_⟩
  · exact o_run 0 [] [] (fun _ _ => []) (fun _ _ => by kernel_rfl)
  · exact o_run 1 [] [] (fun _ _ => []) (fun _ _ => by kernel_rfl)
theorem gexp_w_r7 (a : Nat) (e : Nat) (he : e < M) (i : Nat) (p : Nat) (hb1 : (decide (((i : Nat) : Int) < ((lenN e : Nat) : Int))) = true) (ρ1 : Nat → Orc) (ρ2 : Nat → Orc) (w0 : World) (F : World → Prop) : Reg Tryd.prog 6 (regOps Tryd.f58 6) false 37 [(2, (pt (nb ρ1 0))), (3, (pt (nb ρ1 1))), (4, (pt (nb ρ1 2))), (5, (pt (nb ρ2 1))), (6, (.int .i64 ((lenN e : Nat) : Int))), (7, (.int .i64 ((i : Nat) : Int))), (12, (.int .i64 ((lenN e : Nat) : Int))), (13, (.int .i64 ((i : Nat) : Int)))] w0 [(nb ρ1 0, (.cells (cU a) 24 (0, 0))), (nb ρ1 1, (.cells (cU e) 24 (0, 0))), (nb ρ1 2, (.cells (cU 0) 24 (0, 0))), (nb ρ2 1, (.cells (cU p) 24 (0, 0)))] F
    (fun _ => [(2, (pt (nb ρ1 0))), (3, (pt (nb ρ1 1))), (4, (pt (nb ρ1 2))), (5, (pt (nb ρ2 1))), (6, (.int .i64 ((lenN e : Nat) : Int))), (8, (.int .i64 ((lenN e - 1 - i : Nat) : Int))), (12, (.int .i64 ((lenN e : Nat) : Int))), (13, (.int .i64 ((i : Nat) : Int)))])
    (fun _ => [(nb ρ1 0, (.cells (cU a) 24 (0, 0))), (nb ρ1 1, (.cells (cU e) 24 (0, 0))), (nb ρ1 2, (.cells (cU 0) 24 (0, 0))), (nb ρ2 1, (.cells (cU p) 24 (0, 0)))]) := by
  refine reg_seq [0, 1, 3, 7, 15] [2, 3, 4, 5, 6, 8, 12, 13] 5
    (fun _ ι => ([(.int .i64 ((lenN e : Nat) : Int)), (.int .i64 ((lenN e - 1 : Nat) : Int)), (.int .i64 ((i : Nat) : Int)), (.int .i64 ((lenN e - 1 - i : Nat) : Int)), (.int .i64 ((lenN e - 1 - i : Nat) : Int))] : List Value).getD ι undef)
    (fun _ ι => ([{}, {}, {}, {}, {}] : List Eff).getD ι {})
    (by kernel_rfl) (by kernel_rfl) (fun _ => by kernel_rfl) (fun _ => by kernel_rfl) ⟨⟨⟨⟨⟨trivial, ?_⟩, ?_⟩, ?_⟩, ?_⟩, ?_⟩
  · exact o_run 0 [] [] (fun _ _ => []) (fun _ _ => by kernel_rfl)
  · exact o_as 1 (fun _ => (.int .i64 (IntKind.i64.wrap (((lenN e : Nat) : Int) - 1)))) (fun _ => (.int .i64 ((lenN e - 1 : Nat) : Int))) (fun _ _ => by kernel_rfl) (fun _ => congrArg (Value.int .i64) (wrap_sub_nat (lenN e) 1 (by have h1 := of_decide_eq_true hb1; have h2 := lenN_le e he; omega) (by have h1 := of_decide_eq_true hb1; have h2 := lenN_le e he; omega)))
  · exact o_run 2 [] [] (fun _ _ => []) (fun _ _ => by kernel_rfl)
  · exact o_as 3 (fun _ => (.int .i64 (IntKind.i64.wrap (((lenN e - 1 : Nat) : Int) - ((i : Nat) : Int))))) (fun _ => (.int .i64 ((lenN e - 1 - i : Nat) : Int))) (fun _ _ => by kernel_rfl) (fun _ => congrArg (Value.int .i64) (wrap_sub_nat (lenN e - 1) i (by have h1 := of_decide_eq_true hb1; have h2 := lenN_le e he; omega) (by have h1 := of_decide_eq_true hb1; have h2 := lenN_le e he; omega)))
  · exact o_run 4 [] [] (fun _ _ => []) (fun _ _ => by kernel_rfl)
theorem gexp_w_r8 (a : Nat) (e : Nat) (i : Nat) (p : Nat) (hpM : p < M) (ρ1 : Nat → Orc) (ρ2 : Nat → Orc) (w0 : World) (F : World → Prop) : Reg Tryd.prog 7 (regOps Tryd.f58 7) false 37 [(2, (pt (nb ρ1 0))), (3, (pt (nb ρ1 1))), (4, (pt (nb ρ1 2))), (5, (pt (nb ρ2 1))), (6, (.int .i64 ((lenN e : Nat) : Int))), (8, (.int .i64 ((lenN e - 1 - i : Nat) : Int))), (12, (.int .i64 ((lenN e : Nat) : Int))), (13, (.int .i64 ((i : Nat) : Int)))] w0 [(nb ρ1 0, (.cells (cU a) 24 (0, 0))), (nb ρ1 1, (.cells (cU e) 24 (0, 0))), (nb ρ1 2, (.cells (cU 0) 24 (0, 0))), (nb ρ2 1, (.cells (cU p) 24 (0, 0)))] F
    (fun _ => [(2, (pt (nb ρ1 0))), (3, (pt (nb ρ1 1))), (4, (pt (nb ρ1 2))), (5, (pt (nb ρ2 1))), (6, (.int .i64 ((lenN e : Nat) : Int))), (8, (.int .i64 ((lenN e - 1 - i : Nat) : Int))), (12, (.int .i64 ((lenN e : Nat) : Int))), (13, (.int .i64 ((i : Nat) : Int)))])
    (fun _ => [(nb ρ1 0, (.cells (cU a) 24 (0, 0))), (nb ρ1 1, (.cells (cU e) 24 (0, 0))), (nb ρ1 2, (.cells (cU 0) 24 (0, 0))), (nb ρ2 1, (.cells (cU (mulmN p p pP)) 24 (0, 0)))]) := by
  refine reg_seq [0, 1, 3, 7] [2, 3, 4, 5, 6, 8, 12, 13] 4
    (fun _ ι => ([(U p), (U p), (U (mulmN p p pP)), undef] : List Value).getD ι undef)
    (fun _ ι => ([{}, {}, {}, { puts := [(3, (.cells (cU (mulmN p p pP)) 24 (0, 0)))] }] : List Eff).getD ι {})
    (by kernel_rfl) (by kernel_rfl) (fun _ => by kernel_rfl) (fun _ => by kernel_rfl) ⟨⟨⟨⟨trivial, ?_⟩, ?_⟩, ?_⟩, ?_⟩
  · exact o_run 0 [3] [] (fun _ _ => [nb ρ2 1, nb ρ2 1, nb ρ2 1, nb ρ2 1]) (fun _ _ => by kernel_rfl)
  · exact o_run 1 [3] [] (fun _ _ => [nb ρ2 1, nb ρ2 1, nb ρ2 1, nb ρ2 1]) (fun _ _ => by kernel_rfl)
  · exact o_call 2 57 (fun _ => #[(U p), (U p)]) (fun _ => (U (mulmN p p pP))) (fun _ _ => by kernel_rfl) (fun _ w => (fun w => gmul_any p p w hpM hpM) w)
  · exact o_run 3 [3] [] (fun _ _ => [nb ρ2 1, nb ρ2 1, nb ρ2 1, nb ρ2 1]) (fun _ _ => by kernel_rfl)
theorem gexp_w_r9 (a : Nat) (e : Nat) (he : e < M) (i : Nat) (p : Nat) (hb1 : (decide (((i : Nat) : Int) < ((lenN e : Nat) : Int))) = true) (ρ1 : Nat → Orc) (ρ2 : Nat → Orc) (w0 : World) (F : World → Prop) : Reg Tryd.prog 8 (regOps Tryd.f58 8) false 37 [(2, (pt (nb ρ1 0))), (3, (pt (nb ρ1 1))), (4, (pt (nb ρ1 2))), (5, (pt (nb ρ2 1))), (6, (.int .i64 ((lenN e : Nat) : Int))), (8, (.int .i64 ((lenN e - 1 - i : Nat) : Int))), (12, (.int .i64 ((lenN e : Nat) : Int))), (13, (.int .i64 ((i : Nat) : Int)))] w0 [(nb ρ1 0, (.cells (cU a) 24 (0, 0))), (nb ρ1 1, (.cells (cU e) 24 (0, 0))), (nb ρ1 2, (.cells (cU 0) 24 (0, 0))), (nb ρ2 1, (.cells (cU (mulmN p p pP)) 24 (0, 0)))] F
    (fun _ => [(2, (pt (nb ρ1 0))), (3, (pt (nb ρ1 1))), (4, (pt (nb ρ1 2))), (5, (pt (nb ρ2 1))), (6, (.int .i64 ((lenN e : Nat) : Int))), (12, (.int .i64 ((lenN e : Nat) : Int))), (13, (.int .i64 ((i : Nat) : Int))), (31, (.bool (bitN e (lenN e - 1 - i))))])
    (fun _ => [(nb ρ1 0, (.cells (cU a) 24 (0, 0))), (nb ρ1 1, (.cells (cU e) 24 (0, 0))), (nb ρ1 2, (.cells (cU 0) 24 (0, 0))), (nb ρ2 1, (.cells (cU (mulmN p p pP)) 24 (0, 0)))]) := by
  refine reg_seq [0, 1, 3, 7, 15, 31, 63, 127, 255] [2, 3, 4, 5, 6, 12, 13, 31] 9
    (fun _ ι => ([(.int .i64 ((lenN e - 1 - i : Nat) : Int)), (.int .i64 (((lenN e - 1 - i) / 64 : Nat) : Int)), (.pointer (some ⟨nb ρ1 1, (lenN e - 1 - i) / 64, none⟩)), (.int .u64 (wd e ((lenN e - 1 - i) / 64))), (.int .i64 ((lenN e - 1 - i : Nat) : Int)), (.int .i64 (((lenN e - 1 - i) % 64 : Nat) : Int)), (.int .u64 (shrW (wd e ((lenN e - 1 - i) / 64)) ((lenN e - 1 - i) % 64))), (.int .u64 (bits .and .u64 (shrW (wd e ((lenN e - 1 - i) / 64)) ((lenN e - 1 - i) % 64)) 1)), (.bool (bitN e (lenN e - 1 - i)))] : List Value).getD ι undef)
    (fun _ ι => ([{}, {}, {}, {}, {}, {}, {}, {}, {}] : List Eff).getD ι {})
    (by kernel_rfl) (by kernel_rfl) (fun _ => by kernel_rfl) (fun _ => by kernel_rfl) ⟨⟨⟨⟨⟨⟨⟨⟨⟨trivial, ?_⟩, ?_⟩, ?_⟩, ?_⟩, ?_⟩, ?_⟩, ?_⟩, ?_⟩, ?_⟩
  · exact o_run 0 [] [] (fun _ _ => []) (fun _ _ => by kernel_rfl)
  · exact o_bin 1 .quo 3 (fun _ => (.int .i64 ((lenN e - 1 - i : Nat) : Int))) (fun _ => (.int .i64 64)) (fun _ => (.int .i64 (((lenN e - 1 - i) / 64 : Nat) : Int))) (fun _ => by kernel_rfl) (fun _ _ _ _ => by kernel_rfl) (fun _ w => run_quo_nat (lenN e - 1 - i) 64 ((lenN e - 1 - i) / 64) (by decide) (by have h1 := of_decide_eq_true hb1; have h2 := lenN_le e he; omega) rfl w)
  · exact o_sem 2 (fun _ => do pure (Next.value (← Instr.indexAt 24 (pt (nb ρ1 1)) (.int .i64 (((lenN e - 1 - i) / 64 : Nat) : Int))))) (fun _ => (.pointer (some ⟨nb ρ1 1, (lenN e - 1 - i) / 64, none⟩))) (fun _ => by kernel_rfl) (fun _ => by kernel_rfl) (fun _ w => run_idx_nat (n := (((lenN e - 1 - i) / 64 : Nat) : Int)) (i := (lenN e - 1 - i) / 64) Tryd.underlying24 Tryd.sizeOf22 (⟨rfl, (by have h1 := of_decide_eq_true hb1; have h2 := lenN_le e he; omega)⟩) w)
  · exact o_ld 3 1 22 (fun _ => nb ρ1 1) (fun _ => (lenN e - 1 - i) / 64) (fun _ => (cU e)) 24 (0, 0) (fun _ => (.int .u64 (wd e ((lenN e - 1 - i) / 64)))) (fun _ => by kernel_rfl) Tryd.isAgg22 (fun _ => cU_get e ((lenN e - 1 - i) / 64) (by have h1 := of_decide_eq_true hb1; have h2 := lenN_le e he; omega))
  · exact o_run 4 [] [] (fun _ _ => []) (fun _ _ => by kernel_rfl)
  · exact o_bin 5 .rem 3 (fun _ => (.int .i64 ((lenN e - 1 - i : Nat) : Int))) (fun _ => (.int .i64 64)) (fun _ => (.int .i64 (((lenN e - 1 - i) % 64 : Nat) : Int))) (fun _ => by kernel_rfl) (fun _ _ _ _ => by kernel_rfl) (fun _ w => run_rem_nat (lenN e - 1 - i) 64 ((lenN e - 1 - i) % 64) (by decide) rfl w)
  · exact o_bin 6 .shr 22 (fun _ => (.int .u64 (wd e ((lenN e - 1 - i) / 64)))) (fun _ => (.int .i64 (((lenN e - 1 - i) % 64 : Nat) : Int))) (fun _ => (.int .u64 (shrW (wd e ((lenN e - 1 - i) / 64)) ((lenN e - 1 - i) % 64)))) (fun _ => by kernel_rfl) (fun _ _ _ _ => by kernel_rfl) (fun _ w => run_shr (wd e ((lenN e - 1 - i) / 64)) ((lenN e - 1 - i) % 64) w)
  · exact o_run 7 [] [] (fun _ _ => []) (fun _ _ => by kernel_rfl)
  · exact o_as 8 (fun _ => (.bool ((bits .and .u64 (shrW (wd e ((lenN e - 1 - i) / 64)) ((lenN e - 1 - i) % 64)) 1) == 1))) (fun _ => (.bool (bitN e (lenN e - 1 - i)))) (fun _ _ => by kernel_rfl) (fun _ => congrArg Value.bool (expbit e (lenN e - 1 - i)))
theorem gexp_w_r10 (a : Nat) (e : Nat) (ha : a < M) (i : Nat) (p : Nat) (ρ1 : Nat → Orc) (ρ2 : Nat → Orc) (w0 : World) (F : World → Prop) : Reg Tryd.prog 9 (regOps Tryd.f58 9) false 37 [(2, (pt (nb ρ1 0))), (3, (pt (nb ρ1 1))), (4, (pt (nb ρ1 2))), (5, (pt (nb ρ2 1))), (6, (.int .i64 ((lenN e : Nat) : Int))), (12, (.int .i64 ((lenN e : Nat) : Int))), (13, (.int .i64 ((i : Nat) : Int))), (31, (.bool true))] w0 [(nb ρ1 0, (.cells (cU a) 24 (0, 0))), (nb ρ1 1, (.cells (cU e) 24 (0, 0))), (nb ρ1 2, (.cells (cU 0) 24 (0, 0))), (nb ρ2 1, (.cells (cU (mulmN p p pP)) 24 (0, 0)))] F
    (fun _ => [(2, (pt (nb ρ1 0))), (3, (pt (nb ρ1 1))), (4, (pt (nb ρ1 2))), (5, (pt (nb ρ2 1))), (6, (.int .i64 ((lenN e : Nat) : Int))), (12, (.int .i64 ((lenN e : Nat) : Int))), (13, (.int .i64 ((i : Nat) : Int)))])
    (fun _ => [(nb ρ1 0, (.cells (cU a) 24 (0, 0))), (nb ρ1 1, (.cells (cU e) 24 (0, 0))), (nb ρ1 2, (.cells (cU 0) 24 (0, 0))), (nb ρ2 1, (.cells (cU (mulmN (mulmN p p pP) a pP)) 24 (0, 0)))]) := by
  refine reg_seq [0, 1, 3, 7] [2, 3, 4, 5, 6, 12, 13] 4
    (fun _ ι => ([(U (mulmN p p pP)), (U a), (U (mulmN (mulmN p p pP) a pP)), undef] : List Value).getD ι undef)
    (fun _ ι => ([{}, {}, {}, { puts := [(3, (.cells (cU (mulmN (mulmN p p pP) a pP)) 24 (0, 0)))] }] : List Eff).getD ι {})
    (by kernel_rfl) (by kernel_rfl) (fun _ => by kernel_rfl) (fun _ => by kernel_rfl) ⟨⟨⟨⟨trivial, ?_⟩, ?_⟩, ?_⟩, ?_⟩
  · exact o_run 0 [3] [] (fun _ _ => [nb ρ2 1, nb ρ2 1, nb ρ2 1, nb ρ2 1]) (fun _ _ => by kernel_rfl)
  · exact o_run 1 [0] [] (fun _ _ => [nb ρ1 0, nb ρ1 0, nb ρ1 0, nb ρ1 0]) (fun _ _ => by kernel_rfl)
  · exact o_call 2 57 (fun _ => #[(U (mulmN p p pP)), (U a)]) (fun _ => (U (mulmN (mulmN p p pP) a pP))) (fun _ _ => by kernel_rfl) (fun _ w => (fun w => gmul_any (mulmN p p pP) a w (mulmN_lt _ _ pP_lt) ha) w)
  · exact o_run 3 [3] [] (fun _ _ => [nb ρ2 1, nb ρ2 1, nb ρ2 1, nb ρ2 1]) (fun _ _ => by kernel_rfl)
theorem gexp_w_r11 (a : Nat) (e : Nat) (he : e < M) (i : Nat) (p : Nat) (hb1 : (decide (((i : Nat) : Int) < ((lenN e : Nat) : Int))) = true) (ρ1 : Nat → Orc) (ρ2 : Nat → Orc) (w0 : World) (F : World → Prop) : Reg Tryd.prog 10 (regOps Tryd.f58 10) false 37 [(2, (pt (nb ρ1 0))), (3, (pt (nb ρ1 1))), (4, (pt (nb ρ1 2))), (5, (pt (nb ρ2 1))), (6, (.int .i64 ((lenN e : Nat) : Int))), (12, (.int .i64 ((lenN e : Nat) : Int))), (13, (.int .i64 ((i : Nat) : Int)))] w0 [(nb ρ1 0, (.cells (cU a) 24 (0, 0))), (nb ρ1 1, (.cells (cU e) 24 (0, 0))), (nb ρ1 2, (.cells (cU 0) 24 (0, 0))), (nb ρ2 1, (.cells (cU (mulmN (mulmN p p pP) a pP)) 24 (0, 0)))] F
    (fun _ => [(2, (pt (nb ρ1 0))), (3, (pt (nb ρ1 1))), (4, (pt (nb ρ1 2))), (5, (pt (nb ρ2 1))), (6, (.int .i64 ((lenN e : Nat) : Int))), (12, (.int .i64 ((lenN e : Nat) : Int))), (13, (.int .i64 ((i + 1 : Nat) : Int)))])
    (fun _ => [(nb ρ1 0, (.cells (cU a) 24 (0, 0))), (nb ρ1 1, (.cells (cU e) 24 (0, 0))), (nb ρ1 2, (.cells (cU 0) 24 (0, 0))), (nb ρ2 1, (.cells (cU (mulmN (mulmN p p pP) a pP)) 24 (0, 0)))]) := by
  refine reg_seq [0, 1] [2, 3, 4, 5, 6, 12, 13] 2
    (fun _ ι => ([(.int .i64 ((i + 1 : Nat) : Int)), (.int .i64 ((i + 1 : Nat) : Int))] : List Value).getD ι undef)
    (fun _ ι => ([{}, {}] : List Eff).getD ι {})
    (by kernel_rfl) (by kernel_rfl) (fun _ => by kernel_rfl) (fun _ => by kernel_rfl) ⟨⟨trivial, ?_⟩, ?_⟩
  · exact o_as 0 (fun _ => (.int .i64 (IntKind.i64.wrap (((i : Nat) : Int) + 1)))) (fun _ => (.int .i64 ((i + 1 : Nat) : Int))) (fun _ _ => by kernel_rfl) (fun _ => congrArg (Value.int .i64) (wrap_add_nat i 1 (by have h1 := of_decide_eq_true hb1; have h2 := lenN_le e he; omega)))
  · exact o_run 1 [] [] (fun _ _ => []) (fun _ _ => by kernel_rfl)
theorem gexp_w_r12 (a : Nat) (e : Nat) (he : e < M) (i : Nat) (p : Nat) (hb1 : (decide (((i : Nat) : Int) < ((lenN e : Nat) : Int))) = true) (ρ1 : Nat → Orc) (ρ2 : Nat → Orc) (w0 : World) (F : World → Prop) : Reg Tryd.prog 10 (regOps Tryd.f58 10) false 37 [(2, (pt (nb ρ1 0))), (3, (pt (nb ρ1 1))), (4, (pt (nb ρ1 2))), (5, (pt (nb ρ2 1))), (6, (.int .i64 ((lenN e : Nat) : Int))), (12, (.int .i64 ((lenN e : Nat) : Int))), (13, (.int .i64 ((i : Nat) : Int))), (31, (.bool false))] w0 [(nb ρ1 0, (.cells (cU a) 24 (0, 0))), (nb ρ1 1, (.cells (cU e) 24 (0, 0))), (nb ρ1 2, (.cells (cU 0) 24 (0, 0))), (nb ρ2 1, (.cells (cU (mulmN p p pP)) 24 (0, 0)))] F
    (fun _ => [(2, (pt (nb ρ1 0))), (3, (pt (nb ρ1 1))), (4, (pt (nb ρ1 2))), (5, (pt (nb ρ2 1))), (6, (.int .i64 ((lenN e : Nat) : Int))), (12, (.int .i64 ((lenN e : Nat) : Int))), (13, (.int .i64 ((i + 1 : Nat) : Int)))])
    (fun _ => [(nb ρ1 0, (.cells (cU a) 24 (0, 0))), (nb ρ1 1, (.cells (cU e) 24 (0, 0))), (nb ρ1 2, (.cells (cU 0) 24 (0, 0))), (nb ρ2 1, (.cells (cU (mulmN p p pP)) 24 (0, 0)))]) := by
  refine reg_seq [0, 1] [2, 3, 4, 5, 6, 12, 13] 2
    (fun _ ι => ([(.int .i64 ((i + 1 : Nat) : Int)), (.int .i64 ((i + 1 : Nat) : Int))] : List Value).getD ι undef)
    (fun _ ι => ([{}, {}] : List Eff).getD ι {})
    (by kernel_rfl) (by kernel_rfl) (fun _ => by kernel_rfl) (fun _ => by kernel_rfl) ⟨⟨trivial, ?_⟩, ?_⟩
  · exact o_as 0 (fun _ => (.int .i64 (IntKind.i64.wrap (((i : Nat) : Int) + 1)))) (fun _ => (.int .i64 ((i + 1 : Nat) : Int))) (fun _ _ => by kernel_rfl) (fun _ => congrArg (Value.int .i64) (wrap_add_nat i 1 (by have h1 := of_decide_eq_true hb1; have h2 := lenN_le e he; omega)))
  · exact o_run 1 [] [] (fun _ _ => []) (fun _ _ => by kernel_rfl)
theorem gexp_w_r13 (a : Nat) (e : Nat) (i : Nat) (p : Nat) (ρ1 : Nat → Orc) (ρ2 : Nat → Orc) (w0 : World) (F : World → Prop) : Reg Tryd.prog 11 (regOps Tryd.f58 11) false 37 [(2, (pt (nb ρ1 0))), (3, (pt (nb ρ1 1))), (4, (pt (nb ρ1 2))), (5, (pt (nb ρ2 1))), (6, (.int .i64 ((lenN e : Nat) : Int))), (12, (.int .i64 ((lenN e : Nat) : Int))), (13, (.int .i64 ((i : Nat) : Int))), (14, (.bool false))] w0 [(nb ρ1 0, (.cells (cU a) 24 (0, 0))), (nb ρ1 1, (.cells (cU e) 24 (0, 0))), (nb ρ1 2, (.cells (cU 0) 24 (0, 0))), (nb ρ2 1, (.cells (cU p) 24 (0, 0)))] F
    (fun _ => [(4, (pt (nb ρ1 2)))])
    (fun _ => [(nb ρ1 0, (.cells (cU a) 24 (0, 0))), (nb ρ1 1, (.cells (cU e) 24 (0, 0))), (nb ρ1 2, (.cells (cU p) 24 (0, 0))), (nb ρ2 1, (.cells (cU p) 24 (0, 0)))]) := by
  refine reg_seq [0, 1] [4] 2
    (fun _ ι => ([(U p), undef] : List Value).getD ι undef)
    (fun _ ι => ([{}, { puts := [(2, (.cells (cU p) 24 (0, 0)))] }] : List Eff).getD ι {})
    (by kernel_rfl) (by kernel_rfl) (fun _ => by kernel_rfl) (fun _ => by kernel_rfl) ⟨⟨trivial, ?_⟩, ?_⟩
  · exact o_run 0 [3] [] (fun _ _ => [nb ρ2 1, nb ρ2 1, nb ρ2 1, nb ρ2 1]) (fun _ _ => by kernel_rfl)
  · exact o_run 1 [2] [] (fun _ _ => [nb ρ1 2, nb ρ1 2, nb ρ1 2, nb ρ1 2]) (fun _ _ => by kernel_rfl)
theorem gexp_w (a : Nat) (e : Nat) (ha : a < M) (he : e < M) (w0 : World) : Calls Tryd.prog 58 #[(U a), (U e)] w0 (fun ε w' => ε = .returned (U (expmN a e pP)) ∧ Below w0.heap.size w0 w') := by
  refine Calls.of_ok (n := 37) (F := (fun _ => True)) Tryd.func58 rfl rfl rfl (by simp) (persTrue (fun _ => trivial)) ?_
  refine ok_seq_r (by kernel_rfl) (gexp_w_r1 a e _ _) (fun ρ1 => ?_)
  refine ok_seq_r (by kernel_rfl) (gexp_w_r2 a e ρ1 _ _) (fun ρ2 => ?_)
  refine ok_seq_r (by kernel_rfl) (gexp_w_r3 a e he ρ1 ρ2 _ _) (fun _ => ?_)
  refine ok_seq ?_
  refine ok_seq_r (by kernel_rfl) (gexp_w_r4 a e ρ1 ρ2 _ _) (fun _ => ?_)
  refine ok_block ?_
  refine ok_loop (σ := Nat × Nat) (fun ⟨i, _⟩ => [(2, (pt (nb ρ1 0))), (3, (pt (nb ρ1 1))), (4, (pt (nb ρ1 2))), (5, (pt (nb ρ2 1))), (6, (.int .i64 ((lenN e : Nat) : Int))), (12, (.int .i64 ((lenN e : Nat) : Int))), (13, (.int .i64 ((i : Nat) : Int)))]) (fun ⟨_, p⟩ => [(nb ρ1 0, (.cells (cU a) 24 (0, 0))), (nb ρ1 1, (.cells (cU e) 24 (0, 0))), (nb ρ1 2, (.cells (cU 0) 24 (0, 0))), (nb ρ2 1, (.cells (cU p) 24 (0, 0)))]) (fun ⟨i, _⟩ => lenN e - i)
    (fun ⟨i, p⟩ => (i ≤ lenN e) ∧ (p = a ^ (e / 2 ^ (lenN e - i)) % pP)) (0, 1) (⟨Nat.zero_le _, exp_one a e⟩) (by kernel_rfl) (.cons_cons _ (.cons_cons _ (.cons_cons _ (.cons_cons _ .slnil)))) ?_
  rintro ⟨i, p⟩ ⟨hi, hp⟩
  change Ok Tryd.prog _ _ 37 [(2, (pt (nb ρ1 0))), (3, (pt (nb ρ1 1))), (4, (pt (nb ρ1 2))), (5, (pt (nb ρ2 1))), (6, (.int .i64 ((lenN e : Nat) : Int))), (12, (.int .i64 ((lenN e : Nat) : Int))), (13, (.int .i64 ((i : Nat) : Int)))] _ [(nb ρ1 0, (.cells (cU a) 24 (0, 0))), (nb ρ1 1, (.cells (cU e) 24 (0, 0))), (nb ρ1 2, (.cells (cU 0) 24 (0, 0))), (nb ρ2 1, (.cells (cU p) 24 (0, 0)))] (fun _ => True)
  have hpM : p < M := gexp_lt hp
  refine ok_seq_r (by kernel_rfl) (gexp_w_r5 a e i p ρ1 ρ2 _ _) (fun _ => ?_)
  refine ok_seq ?_
  refine ok_cond (b := decide (((i : Nat) : Int) < ((lenN e : Nat) : Int))) (by kernel_rfl) (fun hb1 => ?_) (fun hb1 => ?_)
  ·
    rw [hb1]
    refine ok_skip ?_
    refine mt_then ?_
    refine ok_seq ?_
    refine ok_block ?_
    refine ok_seq_r (by kernel_rfl) (gexp_w_r6 a e i p ρ1 ρ2 _ _) (fun _ => ?_)
    refine ok_seq_r (by kernel_rfl) (gexp_w_r7 a e he i p hb1 ρ1 ρ2 _ _) (fun _ => ?_)
    refine ok_seq_r (by kernel_rfl) (gexp_w_r8 a e i p hpM ρ1 ρ2 _ _) (fun _ => ?_)
    refine ok_seq_r (by kernel_rfl) (gexp_w_r9 a e he i p hb1 ρ1 ρ2 _ _) (fun _ => ?_)
    refine ok_cond (b := bitN e (lenN e - 1 - i)) (by kernel_rfl) (fun hb2 => ?_) (fun hb2 => ?_)
    ·
      rw [hb2]
      refine ok_r (by kernel_rfl) (gexp_w_r10 a e ha i p ρ1 ρ2 _ _) (fun _ => ?_)
      refine mt_block_n ?_
      refine mt_then ?_
      refine ok_r (by kernel_rfl) (gexp_w_r11 a e he i p hb1 ρ1 ρ2 _ _) (fun _ => ?_)
      exact mt_round (i + 1, mulmN (mulmN p p pP) a pP) (by show lenN e - (i + 1) < lenN e - i; have h1 := of_decide_eq_true hb1; have h2 := lenN_le e he; omega) (⟨by have h1 := of_decide_eq_true hb1; have h2 := lenN_le e he; omega, by rw [exp_step1 hp (Nat.lt_trans Nat.zero_lt_one pP_pos), show lenN e - (i + 1) = (lenN e - i) - 1 by omega, ← half_odd (by have h1 := of_decide_eq_true hb1; have h2 := lenN_le e he; omega) (by rw [show lenN e - i - 1 = lenN e - 1 - i by omega]; exact hb2)]⟩) (by kernel_rfl) (.cons_cons _ (.cons_cons _ (.cons_cons _ (.cons_cons _ .slnil))))
    ·
      rw [hb2]
      refine ok_skip ?_
      refine mt_block_n ?_
      refine mt_then ?_
      refine ok_r (by kernel_rfl) (gexp_w_r12 a e he i p hb1 ρ1 ρ2 _ _) (fun _ => ?_)
      exact mt_round (i + 1, mulmN p p pP) (by show lenN e - (i + 1) < lenN e - i; have h1 := of_decide_eq_true hb1; have h2 := lenN_le e he; omega) (⟨by have h1 := of_decide_eq_true hb1; have h2 := lenN_le e he; omega, by rw [exp_step hp (Nat.lt_trans Nat.zero_lt_one pP_pos), show lenN e - (i + 1) = (lenN e - i) - 1 by omega, ← half_even (by have h1 := of_decide_eq_true hb1; have h2 := lenN_le e he; omega) (by rw [show lenN e - i - 1 = lenN e - 1 - i by omega]; exact hb2)]⟩) (by kernel_rfl) (.cons_cons _ (.cons_cons _ (.cons_cons _ (.cons_cons _ .slnil))))
  ·
    rw [hb1]
    refine ok_exit ?_
    refine mt_then_e ?_
    refine mt_then_e ?_
    refine mt_block_h ?_
    refine mt_then ?_
    refine ok_seq_r (by kernel_rfl) (gexp_w_r13 a e i p ρ1 ρ2 _ _) (fun _ => ?_)
    refine ok_ret ?_
    exact meets_ret (v := (U p)) [2, 2, 2, 2] (dup [nb ρ1 2, nb ρ1 2, nb ρ1 2, nb ρ1 2]) (by kernel_rfl) (by kernel_rfl) (eqs_dup _) (fun _ hS => ⟨congrArg (fun x => Ending.returned (U x)) (gexp_end (i := i) (by have h1 := of_decide_eq_false hb1; omega) hp), hS.below⟩)
theorem gexp_any (a e : Nat) (w0 : World) (ha : a < M) (he : e < M) : Calls Tryd.prog 58 #[(U a), (U e)] w0 (fun ε w' => ε = .returned (U (expmN a e pP)) ∧ Below w0.heap.size w0 w') := gexp_w a e ha he w0
theorem rgexp_w_r1 (a : Nat) (e : Nat) (w0 : World) (F : World → Prop) : Reg Tryd.prog 0 (regOps Tryd.f63 0) false 9 [(0, (U a)), (1, (U e))] w0 [] F
    (fun ρ => [(2, (pt (nb ρ 0))), (3, (pt (nb ρ 1))), (4, (pt (nb ρ 2)))])
    (fun ρ => [(nb ρ 0, (.cells (cU a) 24 (0, 0))), (nb ρ 1, (.cells (cU e) 24 (0, 0))), (nb ρ 2, (.cells (cU 0) 24 (0, 0)))]) := by
  refine reg_seq [0, 1, 3] [2, 3, 4] 3
    (fun ρ ι => ([(pt (nb ρ 0)), (pt (nb ρ 1)), (pt (nb ρ 2))] : List Value).getD ι undef)
    (fun ρ ι => ([{ news := [(nb ρ 0, (.cells (cU a) 24 (0, 0)))] }, { news := [(nb ρ 1, (.cells (cU e) 24 (0, 0)))] }, { news := [(nb ρ 2, (.cells (cU 0) 24 (0, 0)))] }] : List Eff).getD ι {})
    (by kernel_rfl) (by kernel_rfl) (fun _ => by kernel_rfl) (fun _ => by kernel_rfl) ⟨⟨⟨trivial, ?_⟩, ?_⟩, ?_⟩
  · exact o_run 0 [] [] (fun _ _ => []) (fun _ _ => by kernel_rfl)
  · exact o_run 1 [] [] (fun _ _ => []) (fun _ _ => by kernel_rfl)
  · exact o_run 2 [] [] (fun _ _ => []) (fun _ _ => by kernel_rfl)
theorem rgexp_w_r2 (a : Nat) (e : Nat) (ha : a < M) (he : e < M) (ρ1 : Nat → Orc) (w0 : World) (F : World → Prop) : Reg Tryd.prog 1 (regOps Tryd.f63 1) true 9 [(2, (pt (nb ρ1 0))), (3, (pt (nb ρ1 1))), (4, (pt (nb ρ1 2)))] w0 [(nb ρ1 0, (.cells (cU a) 24 (0, 0))), (nb ρ1 1, (.cells (cU e) 24 (0, 0))), (nb ρ1 2, (.cells (cU 0) 24 (0, 0)))] F
    (fun _ => [(4, (pt (nb ρ1 2)))])
    (fun _ => [(nb ρ1 0, (.cells (cU a) 24 (0, 0))), (nb ρ1 1, (.cells (cU e) 24 (0, 0))), (nb ρ1 2, (.cells (cU (expmN a e pP)) 24 (0, 0)))]) := by
  refine reg_drawn [0, 0, 0, 7, 15] [4] 5
    (fun _ ι => ([(U a), (U e), (U pP), (U (expmN a e pP)), undef] : List Value).getD ι undef)
    (fun _ ι => ([{}, {}, {}, {}, { puts := [(2, (.cells (cU (expmN a e pP)) 24 (0, 0)))] }] : List Eff).getD ι {})
    (by kernel_rfl) (by kernel_rfl) (by kernel_rfl) (fun _ => by kernel_rfl) (fun _ => by kernel_rfl) ⟨⟨⟨⟨⟨trivial, ?_⟩, ?_⟩, ?_⟩, ?_⟩, ?_⟩
  · exact o_run 0 [0] [] (fun _ _ => [nb ρ1 0, nb ρ1 0, nb ρ1 0, nb ρ1 0]) (fun _ _ => by kernel_rfl)
  · exact o_run 1 [1] [] (fun _ _ => [nb ρ1 1, nb ρ1 1, nb ρ1 1, nb ρ1 1]) (fun _ _ => by kernel_rfl)
  · exact o_call 2 71 (fun _ => #[]) (fun _ => (U pP)) (fun _ _ => by kernel_rfl) (fun _ w => (fun w => rgmodulus_any w) w)
  · exact o_call 3 84 (fun _ => #[(U a), (U e), (U pP)]) (fun _ => (U (expmN a e pP))) (fun _ _ => by kernel_rfl) (fun _ w => (fun w => rexpmod_any a e pP w ha he pP_lt) w)
  · exact o_run 4 [2] [] (fun _ _ => [nb ρ1 2, nb ρ1 2, nb ρ1 2, nb ρ1 2]) (fun _ _ => by kernel_rfl)
theorem rgexp_w (a : Nat) (e : Nat) (ha : a < M) (he : e < M) (w0 : World) : Calls Tryd.prog 63 #[(U a), (U e)] w0 (fun ε w' => ε = .returned (U (expmN a e pP)) ∧ Below w0.heap.size w0 w') := by
  refine Calls.of_ok (n := 9) (F := (fun _ => True)) Tryd.func63 rfl rfl rfl (by simp) (persTrue (fun _ => trivial)) ?_
  refine ok_seq_r (by kernel_rfl) (rgexp_w_r1 a e _ _) (fun ρ1 => ?_)
  refine ok_seq_r (by kernel_rfl) (rgexp_w_r2 a e ha he ρ1 _ _) (fun _ => ?_)
  refine ok_ret ?_
  exact meets_ret (v := (U (expmN a e pP))) [2, 2, 2, 2] (dup [nb ρ1 2, nb ρ1 2, nb ρ1 2, nb ρ1 2]) (by kernel_rfl) (by kernel_rfl) (eqs_dup _) (fun _ hS => ⟨rfl, hS.below⟩)
theorem rgexp_any (a e : Nat) (w0 : World) (ha : a < M) (he : e < M) : Calls Tryd.prog 63 #[(U a), (U e)] w0 (fun ε w' => ε = .returned (U (expmN a e pP)) ∧ Below w0.heap.size w0 w') := rgexp_w a e ha he w0
theorem gmember_w_r1 (a : Nat) (w0 : World) (F : World → Prop) : Reg Tryd.prog 0 (regOps Tryd.f40 0) false 17 [(0, (U a))] w0 [] F
    (fun ρ => [(1, (pt (nb ρ 0))), (2, (.bool false))])
    (fun ρ => [(nb ρ 0, (.cells (cU a) 24 (0, 0)))]) := by
  refine reg_seq [0, 1] [1, 2] 2
    (fun ρ ι => ([(pt (nb ρ 0)), (.bool false)] : List Value).getD ι undef)
    (fun ρ ι => ([{ news := [(nb ρ 0, (.cells (cU a) 24 (0, 0)))] }, {}] : List Eff).getD ι {})
    (by kernel_rfl) (by kernel_rfl) (fun _ => by kernel_rfl) (fun _ => by kernel_rfl) ⟨⟨trivial, ?_⟩, ?_⟩
  · exact o_run 0 [] [] (fun _ _ => []) (fun _ _ => by kernel_rfl)
  · exact o_run 1 [] [] (fun _ _ => []) (fun _ _ => by kernel_rfl)
theorem gmember_w_r2 (a : Nat) (ha : a < M) (hb1 : (decide (a = 0)) = true) (ρ1 : Nat → Orc) (w0 : World) (F : World → Prop) : Reg Tryd.prog 1 (regOps Tryd.f40 1) true 17 [(1, (pt (nb ρ1 0))), (2, (.bool false))] w0 [(nb ρ1 0, (.cells (cU a) 24 (0, 0)))] F
    (fun _ => [(1, (pt (nb ρ1 0))), (2, (.bool false)), (11, (.bool true))])
    (fun _ => [(nb ρ1 0, (.cells (cU a) 24 (0, 0)))]) := by
  refine reg_drawn [0, 0, 3, 7, 15, 15, 63, 127, 255] [1, 2, 11] 9
    (fun _ ι => ([(U a), (U 0), (.bool true), (.bool true), undef, undef, undef, undef, (.bool true)] : List Value).getD ι undef)
    (fun _ ι => ([{}, {}, {}, {}, {}, {}, {}, {}, {}] : List Eff).getD ι {})
    (by kernel_rfl) (by kernel_rfl) (by kernel_rfl) (fun _ => by kernel_rfl) (fun _ => by kernel_rfl) ⟨⟨⟨⟨⟨⟨⟨⟨⟨trivial, ?_⟩, ?_⟩, ?_⟩, ?_⟩, ?_⟩, ?_⟩, ?_⟩, ?_⟩, ?_⟩
  · exact o_run 0 [0] [] (fun _ _ => [nb ρ1 0, nb ρ1 0, nb ρ1 0, nb ρ1 0]) (fun _ _ => by kernel_rfl)
  · exact o_run 1 [] [] (fun _ _ => []) (fun _ _ => by kernel_rfl)
  · exact o_bin 2 .eql 24 (fun _ => (U a)) (fun _ => (U 0)) (fun _ => (.bool true)) (fun _ => by kernel_rfl) (fun _ _ _ _ => by kernel_rfl) (fun _ _ => (eqlU a 0 ha (by decide +kernel) _).trans (by rw [hb1]; try rfl))
  · exact o_run 3 [] [] (fun _ _ => []) (fun _ _ => by kernel_rfl)
  · exact o_skip 4 (fun _ => by kernel_rfl)
  · exact o_skip 5 (fun _ => by kernel_rfl)
  · exact o_skip 6 (fun _ => by kernel_rfl)
  · exact o_skip 7 (fun _ => by kernel_rfl)
  · exact o_run 8 [] [] (fun _ _ => []) (fun _ _ => by kernel_rfl)
theorem gmember_w_r3 (a : Nat) (ρ1 : Nat → Orc) (w0 : World) (F : World → Prop) : Reg Tryd.prog 2 (regOps Tryd.f40 2) false 17 [(1, (pt (nb ρ1 0))), (2, (.bool false)), (11, (.bool true))] w0 [(nb ρ1 0, (.cells (cU a) 24 (0, 0)))] F
    (fun _ => [(1, (pt (nb ρ1 0))), (2, (.bool false))])
    (fun _ => [(nb ρ1 0, (.cells (cU a) 24 (0, 0)))]) := by
  refine reg_seq [0] [1, 2] 1
    (fun _ ι => ([(.bool false)] : List Value).getD ι undef)
    (fun _ ι => ([{}] : List Eff).getD ι {})
    (by kernel_rfl) (by kernel_rfl) (fun _ => by kernel_rfl) (fun _ => by kernel_rfl) ⟨trivial, ?_⟩
  · exact o_run 0 [] [] (fun _ _ => []) (fun _ _ => by kernel_rfl)
theorem gmember_w_r4 (a : Nat) (ha : a < M) (hb1 : (decide (a = 0)) = false) (ρ1 : Nat → Orc) (w0 : World) (F : World → Prop) : Reg Tryd.prog 1 (regOps Tryd.f40 1) true 17 [(1, (pt (nb ρ1 0))), (2, (.bool false))] w0 [(nb ρ1 0, (.cells (cU a) 24 (0, 0)))] F
    (fun _ => [(1, (pt (nb ρ1 0))), (2, (.bool false)), (11, (.bool (decide (0 ≤ (cmpN a pP)))))])
    (fun _ => [(nb ρ1 0, (.cells (cU a) 24 (0, 0)))]) := by
  refine reg_drawn [0, 0, 3, 7, 15, 15, 63, 127, 255] [1, 2, 11] 9
    (fun _ ι => ([(U a), (U 0), (.bool false), (.bool false), (U a), (U pP), (.int .i64 (cmpN a pP)), (.bool (decide (0 ≤ (cmpN a pP)))), (.bool (decide (0 ≤ (cmpN a pP))))] : List Value).getD ι undef)
    (fun _ ι => ([{}, {}, {}, {}, {}, {}, {}, {}, {}] : List Eff).getD ι {})
    (by kernel_rfl) (by kernel_rfl) (by kernel_rfl) (fun _ => by kernel_rfl) (fun _ => by kernel_rfl) ⟨⟨⟨⟨⟨⟨⟨⟨⟨trivial, ?_⟩, ?_⟩, ?_⟩, ?_⟩, ?_⟩, ?_⟩, ?_⟩, ?_⟩, ?_⟩
  · exact o_run 0 [0] [] (fun _ _ => [nb ρ1 0, nb ρ1 0, nb ρ1 0, nb ρ1 0]) (fun _ _ => by kernel_rfl)
  · exact o_run 1 [] [] (fun _ _ => []) (fun _ _ => by kernel_rfl)
  · exact o_bin 2 .eql 24 (fun _ => (U a)) (fun _ => (U 0)) (fun _ => (.bool false)) (fun _ => by kernel_rfl) (fun _ _ _ _ => by kernel_rfl) (fun _ _ => (eqlU a 0 ha (by decide +kernel) _).trans (by rw [hb1]; try rfl))
  · exact o_run 3 [] [] (fun _ _ => []) (fun _ _ => by kernel_rfl)
  · exact o_run 4 [0] [] (fun _ _ => [nb ρ1 0, nb ρ1 0, nb ρ1 0, nb ρ1 0]) (fun _ _ => by kernel_rfl)
  · exact o_call 5 70 (fun _ => #[]) (fun _ => (U pP)) (fun _ _ => by kernel_rfl) (fun _ w => (fun w => gmodulus_any w) w)
  · exact o_call 6 69 (fun _ => #[(U a), (U pP)]) (fun _ => (.int .i64 (cmpN a pP))) (fun _ _ => by kernel_rfl) (fun _ w => (fun w => cmp_any a pP w ha pP_lt) w)
  · exact o_run 7 [] [] (fun _ _ => []) (fun _ _ => by kernel_rfl)
  · exact o_run 8 [] [] (fun _ _ => []) (fun _ _ => by kernel_rfl)
theorem gmember_w_r5 (a : Nat) (ρ1 : Nat → Orc) (w0 : World) (F : World → Prop) : Reg Tryd.prog 2 (regOps Tryd.f40 2) false 17 [(1, (pt (nb ρ1 0))), (2, (.bool false)), (11, (.bool true))] w0 [(nb ρ1 0, (.cells (cU a) 24 (0, 0)))] F
    (fun _ => [(1, (pt (nb ρ1 0))), (2, (.bool false))])
    (fun _ => [(nb ρ1 0, (.cells (cU a) 24 (0, 0)))]) := by
  refine reg_seq [0] [1, 2] 1
    (fun _ ι => ([(.bool false)] : List Value).getD ι undef)
    (fun _ ι => ([{}] : List Eff).getD ι {})
    (by kernel_rfl) (by kernel_rfl) (fun _ => by kernel_rfl) (fun _ => by kernel_rfl) ⟨trivial, ?_⟩
  · exact o_run 0 [] [] (fun _ _ => []) (fun _ _ => by kernel_rfl)
theorem gmember_w_r6 (a : Nat) (ha : a < M) (ρ1 : Nat → Orc) (w0 : World) (F : World → Prop) : Reg Tryd.prog 3 (regOps Tryd.f40 3) true 17 [(1, (pt (nb ρ1 0))), (2, (.bool false)), (11, (.bool false))] w0 [(nb ρ1 0, (.cells (cU a) 24 (0, 0)))] F
    (fun _ => [(2, (.bool (decide (expmN a qP pP = 1))))])
    (fun _ => [(nb ρ1 0, (.cells (cU a) 24 (0, 0)))]) := by
  refine reg_drawn [0, 0, 3, 7, 15, 31] [2] 6
    (fun _ ι => ([(U a), (U qP), (U (expmN a qP pP)), (U 1), (.bool (decide (expmN a qP pP = 1))), (.bool (decide (expmN a qP pP = 1)))] : List Value).getD ι undef)
    (fun _ ι => ([{}, {}, {}, {}, {}, {}] : List Eff).getD ι {})
    (by kernel_rfl) (by kernel_rfl) (by kernel_rfl) (fun _ => by kernel_rfl) (fun _ => by kernel_rfl) ⟨⟨⟨⟨⟨⟨trivial, ?_⟩, ?_⟩, ?_⟩, ?_⟩, ?_⟩, ?_⟩
  · exact o_run 0 [0] [] (fun _ _ => [nb ρ1 0, nb ρ1 0, nb ρ1 0, nb ρ1 0]) (fun _ _ => by kernel_rfl)
  · exact o_call 1 56 (fun _ => #[]) (fun _ => (U qP)) (fun _ _ => by kernel_rfl) (fun _ w => (fun w => gorder_any w) w)
  · exact o_call 2 58 (fun _ => #[(U a), (U qP)]) (fun _ => (U (expmN a qP pP))) (fun _ _ => by kernel_rfl) (fun _ w => (fun w => gexp_any a qP w ha qP_lt) w)
  · exact o_call 3 39 (fun _ => #[(.int .u64 1)]) (fun _ => (U 1)) (fun _ _ => by kernel_rfl) (fun _ w => (fun w => fromuint_lit 1 w (by decide)) w)
  · exact o_bin 4 .eql 24 (fun _ => (U (expmN a qP pP))) (fun _ => (U 1)) (fun _ => (.bool (decide (expmN a qP pP = 1)))) (fun _ => by kernel_rfl) (fun _ _ _ _ => by kernel_rfl) (fun _ _ => eqlU (expmN a qP pP) 1 (expmN_lt _ _ pP_lt) (by decide +kernel) _)
  · exact o_run 5 [] [] (fun _ _ => []) (fun _ _ => by kernel_rfl)
theorem gmember_w (a : Nat) (ha : a < M) (w0 : World) : Calls Tryd.prog 40 #[(U a)] w0 (fun ε w' => ε = .returned (.bool (memB a)) ∧ Below w0.heap.size w0 w') := by
  refine Calls.of_ok (n := 17) (F := (fun _ => True)) Tryd.func40 rfl rfl rfl (by simp) (persTrue (fun _ => trivial)) ?_
  refine ok_seq_r (by kernel_rfl) (gmember_w_r1 a _ _) (fun ρ1 => ?_)
  refine ok_seq ?_
  rcases Bool.eq_false_or_eq_true (decide (a = 0)) with hb1 | hb1
  ·
    refine ok_seq_r (by kernel_rfl) (gmember_w_r2 a ha hb1 ρ1 _ _) (fun _ => ?_)
    refine ok_yes (by kernel_rfl) ?_
    refine ok_seq_r (by kernel_rfl) (gmember_w_r3 a ρ1 _ _) (fun _ => ?_)
    refine ok_ret ?_
    refine mt_then_r ?_
    exact meets_ret (v := (.bool false)) [] (dup []) (by kernel_rfl) (by kernel_rfl) (eqs_dup _) (fun _ hS => ⟨congrArg (fun x => Ending.returned (.bool x)) (mem_no1 hb1), hS.below⟩)
  ·
    refine ok_seq_r (by kernel_rfl) (gmember_w_r4 a ha hb1 ρ1 _ _) (fun _ => ?_)
    refine ok_cond (b := decide (0 ≤ (cmpN a pP))) (by kernel_rfl) (fun hb2 => ?_) (fun hb2 => ?_)
    ·
      rw [hb2]
      refine ok_seq_r (by kernel_rfl) (gmember_w_r5 a ρ1 _ _) (fun _ => ?_)
      refine ok_ret ?_
      refine mt_then_r ?_
      exact meets_ret (v := (.bool false)) [] (dup []) (by kernel_rfl) (by kernel_rfl) (eqs_dup _) (fun _ hS => ⟨congrArg (fun x => Ending.returned (.bool x)) (mem_no2 hb2), hS.below⟩)
    ·
      rw [hb2]
      refine ok_skip ?_
      refine mt_then ?_
      refine ok_seq_r (by kernel_rfl) (gmember_w_r6 a ha ρ1 _ _) (fun _ => ?_)
      refine ok_ret ?_
      exact meets_ret (v := (.bool (decide (expmN a qP pP = 1)))) [] (dup []) (by kernel_rfl) (by kernel_rfl) (eqs_dup _) (fun _ hS => ⟨congrArg (fun x => Ending.returned (.bool x)) (mem_yes hb1 (by have := of_decide_eq_false hb2; omega)), hS.below⟩)
theorem gmember_any (a : Nat) (w0 : World) (ha : a < M) : Calls Tryd.prog 40 #[(U a)] w0 (fun ε w' => ε = .returned (.bool (memB a)) ∧ Below w0.heap.size w0 w') := gmember_w a ha w0
theorem gpower_w_r1 (e : Nat) (w0 : World) (F : World → Prop) : Reg Tryd.prog 0 (regOps Tryd.f36 0) false 6 [(0, (U e))] w0 [] F
    (fun ρ => [(1, (pt (nb ρ 0))), (2, (pt (nb ρ 1)))])
    (fun ρ => [(nb ρ 0, (.cells (cU e) 24 (0, 0))), (nb ρ 1, (.cells (cU 0) 24 (0, 0)))]) := by
  refine reg_seq [0, 1] [1, 2] 2
    (fun ρ ι => ([(pt (nb ρ 0)), (pt (nb ρ 1))] : List Value).getD ι undef)
    (fun ρ ι => ([{ news := [(nb ρ 0, (.cells (cU e) 24 (0, 0)))] }, { news := [(nb ρ 1, (.cells (cU 0) 24 (0, 0)))] }] : List Eff).getD ι {})
    (by kernel_rfl) (by kernel_rfl) (fun _ => by kernel_rfl) (fun _ => by kernel_rfl) ⟨⟨trivial, ?_⟩, ?_⟩
  · exact o_run 0 [] [] (fun _ _ => []) (fun _ _ => by kernel_rfl)
  · exact o_run 1 [] [] (fun _ _ => []) (fun _ _ => by kernel_rfl)
theorem gpower_w_r2 (e : Nat) (he : e < M) (ρ1 : Nat → Orc) (w0 : World) (F : World → Prop) : Reg Tryd.prog 1 (regOps Tryd.f36 1) true 6 [(1, (pt (nb ρ1 0))), (2, (pt (nb ρ1 1)))] w0 [(nb ρ1 0, (.cells (cU e) 24 (0, 0))), (nb ρ1 1, (.cells (cU 0) 24 (0, 0)))] F
    (fun _ => [(2, (pt (nb ρ1 1)))])
    (fun _ => [(nb ρ1 0, (.cells (cU e) 24 (0, 0))), (nb ρ1 1, (.cells (cU (expmN 4 e pP)) 24 (0, 0)))]) := by
  refine reg_drawn [0, 0, 3, 7] [2] 4
    (fun _ ι => ([(U 4), (U e), (U (expmN 4 e pP)), undef] : List Value).getD ι undef)
    (fun _ ι => ([{}, {}, {}, { puts := [(1, (.cells (cU (expmN 4 e pP)) 24 (0, 0)))] }] : List Eff).getD ι {})
    (by kernel_rfl) (by kernel_rfl) (by kernel_rfl) (fun _ => by kernel_rfl) (fun _ => by kernel_rfl) ⟨⟨⟨⟨trivial, ?_⟩, ?_⟩, ?_⟩, ?_⟩
  · exact o_call 0 39 (fun _ => #[(.int .u64 4)]) (fun _ => (U 4)) (fun _ _ => by kernel_rfl) (fun _ w => (fun w => fromuint_lit 4 w (by decide)) w)
  · exact o_run 1 [0] [] (fun _ _ => [nb ρ1 0, nb ρ1 0, nb ρ1 0, nb ρ1 0]) (fun _ _ => by kernel_rfl)
  · exact o_call 2 58 (fun _ => #[(U 4), (U e)]) (fun _ => (U (expmN 4 e pP))) (fun _ _ => by kernel_rfl) (fun _ w => (fun w => gexp_any 4 e w (by decide +kernel) he) w)
  · exact o_run 3 [1] [] (fun _ _ => [nb ρ1 1, nb ρ1 1, nb ρ1 1, nb ρ1 1]) (fun _ _ => by kernel_rfl)
theorem gpower_w (e : Nat) (he : e < M) (w0 : World) : Calls Tryd.prog 36 #[(U e)] w0 (fun ε w' => ε = .returned (U (expmN 4 e pP)) ∧ Below w0.heap.size w0 w') := by
  refine Calls.of_ok (n := 6) (F := (fun _ => True)) Tryd.func36 rfl rfl rfl (by simp) (persTrue (fun _ => trivial)) ?_
  refine ok_seq_r (by kernel_rfl) (gpower_w_r1 e _ _) (fun ρ1 => ?_)
  refine ok_seq_r (by kernel_rfl) (gpower_w_r2 e he ρ1 _ _) (fun _ => ?_)
  refine ok_ret ?_
  exact meets_ret (v := (U (expmN 4 e pP))) [1, 1, 1, 1] (dup [nb ρ1 1, nb ρ1 1, nb ρ1 1, nb ρ1 1]) (by kernel_rfl) (by kernel_rfl) (eqs_dup _) (fun _ hS => ⟨rfl, hS.below⟩)
theorem gpower_any (e : Nat) (w0 : World) (he : e < M) : Calls Tryd.prog 36 #[(U e)] w0 (fun ε w' => ε = .returned (U (expmN 4 e pP)) ∧ Below w0.heap.size w0 w') := gpower_w e he w0
theorem gaddscalar_w_r1 (a : Nat) (b : Nat) (w0 : World) (F : World → Prop) : Reg Tryd.prog 0 (regOps Tryd.f51 0) false 9 [(0, (U a)), (1, (U b))] w0 [] F
    (fun ρ => [(2, (pt (nb ρ 0))), (3, (pt (nb ρ 1))), (4, (pt (nb ρ 2)))])
    (fun ρ => [(nb ρ 0, (.cells (cU a) 24 (0, 0))), (nb ρ 1, (.cells (cU b) 24 (0, 0))), (nb ρ 2, (.cells (cU 0) 24 (0, 0)))]) := by
  refine reg_seq [0, 1, 3] [2, 3, 4] 3
    (fun ρ ι => ([(pt (nb ρ 0)), (pt (nb ρ 1)), (pt (nb ρ 2))] : List Value).getD ι undef)
    (fun ρ ι => ([{ news := [(nb ρ 0, (.cells (cU a) 24 (0, 0)))] }, { news := [(nb ρ 1, (.cells (cU b) 24 (0, 0)))] }, { news := [(nb ρ 2, (.cells (cU 0) 24 (0, 0)))] }] : List Eff).getD ι {})
    (by kernel_rfl) (by kernel_rfl) (fun _ => by kernel_rfl) (fun _ => by kernel_rfl) ⟨⟨⟨trivial, ?_⟩, ?_⟩, ?_⟩
  · exact o_run 0 [] [] (fun _ _ => []) (fun _ _ => by kernel_rfl)
  · exact o_run 1 [] [] (fun _ _ => []) (fun _ _ => by kernel_rfl)
  · exact o_run 2 [] [] (fun _ _ => []) (fun _ _ => by kernel_rfl)
theorem gaddscalar_w_r2 (a : Nat) (b : Nat) (ha : a < M) (hb : b < M) (ρ1 : Nat → Orc) (w0 : World) (F : World → Prop) : Reg Tryd.prog 1 (regOps Tryd.f51 1) true 9 [(2, (pt (nb ρ1 0))), (3, (pt (nb ρ1 1))), (4, (pt (nb ρ1 2)))] w0 [(nb ρ1 0, (.cells (cU a) 24 (0, 0))), (nb ρ1 1, (.cells (cU b) 24 (0, 0))), (nb ρ1 2, (.cells (cU 0) 24 (0, 0)))] F
    (fun _ => [(4, (pt (nb ρ1 2)))])
    (fun _ => [(nb ρ1 0, (.cells (cU a) 24 (0, 0))), (nb ρ1 1, (.cells (cU b) 24 (0, 0))), (nb ρ1 2, (.cells (cU (addmN a b qP)) 24 (0, 0)))]) := by
  refine reg_drawn [0, 0, 0, 7, 15] [4] 5
    (fun _ ι => ([(U a), (U b), (U qP), (U (addmN a b qP)), undef] : List Value).getD ι undef)
    (fun _ ι => ([{}, {}, {}, {}, { puts := [(2, (.cells (cU (addmN a b qP)) 24 (0, 0)))] }] : List Eff).getD ι {})
    (by kernel_rfl) (by kernel_rfl) (by kernel_rfl) (fun _ => by kernel_rfl) (fun _ => by kernel_rfl) ⟨⟨⟨⟨⟨trivial, ?_⟩, ?_⟩, ?_⟩, ?_⟩, ?_⟩
  · exact o_run 0 [0] [] (fun _ _ => [nb ρ1 0, nb ρ1 0, nb ρ1 0, nb ρ1 0]) (fun _ _ => by kernel_rfl)
  · exact o_run 1 [1] [] (fun _ _ => [nb ρ1 1, nb ρ1 1, nb ρ1 1, nb ρ1 1]) (fun _ _ => by kernel_rfl)
  · exact o_call 2 56 (fun _ => #[]) (fun _ => (U qP)) (fun _ _ => by kernel_rfl) (fun _ w => (fun w => gorder_any w) w)
  · exact o_call 3 78 (fun _ => #[(U a), (U b), (U qP)]) (fun _ => (U (addmN a b qP))) (fun _ _ => by kernel_rfl) (fun _ w => (fun w => addmod_any a b qP w ha hb qP_lt) w)
  · exact o_run 4 [2] [] (fun _ _ => [nb ρ1 2, nb ρ1 2, nb ρ1 2, nb ρ1 2]) (fun _ _ => by kernel_rfl)
theorem gaddscalar_w (a : Nat) (b : Nat) (ha : a < M) (hb : b < M) (w0 : World) : Calls Tryd.prog 51 #[(U a), (U b)] w0 (fun ε w' => ε = .returned (U (addmN a b qP)) ∧ Below w0.heap.size w0 w') := by
  refine Calls.of_ok (n := 9) (F := (fun _ => True)) Tryd.func51 rfl rfl rfl (by simp) (persTrue (fun _ => trivial)) ?_
  refine ok_seq_r (by kernel_rfl) (gaddscalar_w_r1 a b _ _) (fun ρ1 => ?_)
  refine ok_seq_r (by kernel_rfl) (gaddscalar_w_r2 a b ha hb ρ1 _ _) (fun _ => ?_)
  refine ok_ret ?_
  exact meets_ret (v := (U (addmN a b qP))) [2, 2, 2, 2] (dup [nb ρ1 2, nb ρ1 2, nb ρ1 2, nb ρ1 2]) (by kernel_rfl) (by kernel_rfl) (eqs_dup _) (fun _ hS => ⟨rfl, hS.below⟩)
theorem gaddscalar_any (a b : Nat) (w0 : World) (ha : a < M) (hb : b < M) : Calls Tryd.prog 51 #[(U a), (U b)] w0 (fun ε w' => ε = .returned (U (addmN a b qP)) ∧ Below w0.heap.size w0 w') := gaddscalar_w a b ha hb w0
theorem gmulscalar_w_r1 (a : Nat) (b : Nat) (w0 : World) (F : World → Prop) : Reg Tryd.prog 0 (regOps Tryd.f52 0) false 9 [(0, (U a)), (1, (U b))] w0 [] F
    (fun ρ => [(2, (pt (nb ρ 0))), (3, (pt (nb ρ 1))), (4, (pt (nb ρ 2)))])
    (fun ρ => [(nb ρ 0, (.cells (cU a) 24 (0, 0))), (nb ρ 1, (.cells (cU b) 24 (0, 0))), (nb ρ 2, (.cells (cU 0) 24 (0, 0)))]) := by
  refine reg_seq [0, 1, 3] [2, 3, 4] 3
    (fun ρ ι => ([(pt (nb ρ 0)), (pt (nb ρ 1)), (pt (nb ρ 2))] : List Value).getD ι undef)
    (fun ρ ι => ([{ news := [(nb ρ 0, (.cells (cU a) 24 (0, 0)))] }, { news := [(nb ρ 1, (.cells (cU b) 24 (0, 0)))] }, { news := [(nb ρ 2, (.cells (cU 0) 24 (0, 0)))] }] : List Eff).getD ι {})
    (by kernel_rfl) (by kernel_rfl) (fun _ => by kernel_rfl) (fun _ => by kernel_rfl) ⟨⟨⟨trivial, ?_⟩, ?_⟩, ?_⟩
  · exact o_run 0 [] [] (fun _ _ => []) (fun _ _ => by kernel_rfl)
  · exact o_run 1 [] [] (fun _ _ => []) (fun _ _ => by kernel_rfl)
  · exact o_run 2 [] [] (fun _ _ => []) (fun _ _ => by kernel_rfl)
theorem gmulscalar_w_r2 (a : Nat) (b : Nat) (ha : a < M) (hb : b < M) (ρ1 : Nat → Orc) (w0 : World) (F : World → Prop) : Reg Tryd.prog 1 (regOps Tryd.f52 1) true 9 [(2, (pt (nb ρ1 0))), (3, (pt (nb ρ1 1))), (4, (pt (nb ρ1 2)))] w0 [(nb ρ1 0, (.cells (cU a) 24 (0, 0))), (nb ρ1 1, (.cells (cU b) 24 (0, 0))), (nb ρ1 2, (.cells (cU 0) 24 (0, 0)))] F
    (fun _ => [(4, (pt (nb ρ1 2)))])
    (fun _ => [(nb ρ1 0, (.cells (cU a) 24 (0, 0))), (nb ρ1 1, (.cells (cU b) 24 (0, 0))), (nb ρ1 2, (.cells (cU (mulmN a b qP)) 24 (0, 0)))]) := by
  refine reg_drawn [0, 0, 0, 7, 15] [4] 5
    (fun _ ι => ([(U a), (U b), (U qP), (U (mulmN a b qP)), undef] : List Value).getD ι undef)
    (fun _ ι => ([{}, {}, {}, {}, { puts := [(2, (.cells (cU (mulmN a b qP)) 24 (0, 0)))] }] : List Eff).getD ι {})
    (by kernel_rfl) (by kernel_rfl) (by kernel_rfl) (fun _ => by kernel_rfl) (fun _ => by kernel_rfl) ⟨⟨⟨⟨⟨trivial, ?_⟩, ?_⟩, ?_⟩, ?_⟩, ?_⟩
  · exact o_run 0 [0] [] (fun _ _ => [nb ρ1 0, nb ρ1 0, nb ρ1 0, nb ρ1 0]) (fun _ _ => by kernel_rfl)
  · exact o_run 1 [1] [] (fun _ _ => [nb ρ1 1, nb ρ1 1, nb ρ1 1, nb ρ1 1]) (fun _ _ => by kernel_rfl)
  · exact o_call 2 56 (fun _ => #[]) (fun _ => (U qP)) (fun _ _ => by kernel_rfl) (fun _ w => (fun w => gorder_any w) w)
  · exact o_call 3 79 (fun _ => #[(U a), (U b), (U qP)]) (fun _ => (U (mulmN a b qP))) (fun _ _ => by kernel_rfl) (fun _ w => (fun w => mulmod_any a b qP w ha hb qP_lt) w)
  · exact o_run 4 [2] [] (fun _ _ => [nb ρ1 2, nb ρ1 2, nb ρ1 2, nb ρ1 2]) (fun _ _ => by kernel_rfl)
theorem gmulscalar_w (a : Nat) (b : Nat) (ha : a < M) (hb : b < M) (w0 : World) : Calls Tryd.prog 52 #[(U a), (U b)] w0 (fun ε w' => ε = .returned (U (mulmN a b qP)) ∧ Below w0.heap.size w0 w') := by
  refine Calls.of_ok (n := 9) (F := (fun _ => True)) Tryd.func52 rfl rfl rfl (by simp) (persTrue (fun _ => trivial)) ?_
  refine ok_seq_r (by kernel_rfl) (gmulscalar_w_r1 a b _ _) (fun ρ1 => ?_)
  refine ok_seq_r (by kernel_rfl) (gmulscalar_w_r2 a b ha hb ρ1 _ _) (fun _ => ?_)
  refine ok_ret ?_
  exact meets_ret (v := (U (mulmN a b qP))) [2, 2, 2, 2] (dup [nb ρ1 2, nb ρ1 2, nb ρ1 2, nb ρ1 2]) (by kernel_rfl) (by kernel_rfl) (eqs_dup _) (fun _ hS => ⟨rfl, hS.below⟩)
theorem gmulscalar_any (a b : Nat) (w0 : World) (ha : a < M) (hb : b < M) : Calls Tryd.prog 52 #[(U a), (U b)] w0 (fun ε w' => ε = .returned (U (mulmN a b qP)) ∧ Below w0.heap.size w0 w') := gmulscalar_w a b ha hb w0
theorem gscalar_w_r1 (h : Nat) (w0 : World) (F : World → Prop) : Reg Tryd.prog 0 (regOps Tryd.f43 0) false 7 [(0, (.agg (hB h)))] w0 [] F
    (fun ρ => [(1, (pt (nb ρ 0))), (2, (pt (nb ρ 1)))])
    (fun ρ => [(nb ρ 0, (.cells (hB h) 26 (0, 0))), (nb ρ 1, (.cells (cU 0) 24 (0, 0)))]) := by
  refine reg_seq [0, 1] [1, 2] 2
    (fun ρ ι => ([(pt (nb ρ 0)), (pt (nb ρ 1))] : List Value).getD ι undef)
    (fun ρ ι => ([{ news := [(nb ρ 0, (.cells (hB h) 26 (0, 0)))] }, { news := [(nb ρ 1, (.cells (cU 0) 24 (0, 0)))] }] : List Eff).getD ι {})
    (by kernel_rfl) (by kernel_rfl) (fun _ => by kernel_rfl) (fun _ => by kernel_rfl) ⟨⟨trivial, ?_⟩, ?_⟩
  · exact o_run 0 [] [] (fun _ _ => []) (fun _ _ => by kernel_rfl)
  · exact o_run 1 [] [] (fun _ _ => []) (fun _ _ => by kernel_rfl)
theorem gscalar_w_r2 (h : Nat) (hh : h < M) (ρ1 : Nat → Orc) (w0 : World) (F : World → Prop) : Reg Tryd.prog 1 (regOps Tryd.f43 1) false 7 [(1, (pt (nb ρ1 0))), (2, (pt (nb ρ1 1)))] w0 [(nb ρ1 0, (.cells (hB h) 26 (0, 0))), (nb ρ1 1, (.cells (cU 0) 24 (0, 0)))] F
    (fun _ => [(2, (pt (nb ρ1 1)))])
    (fun _ => [(nb ρ1 0, (.cells (hB h) 26 (0, 0))), (nb ρ1 1, (.cells (cU (addmN h 0 qP)) 24 (0, 0)))]) := by
  refine reg_seq [0, 1, 3, 7, 15] [2] 5
    (fun _ ι => ([(.agg (hB h)), (U h), (U 0), (U (addmN h 0 qP)), undef] : List Value).getD ι undef)
    (fun _ ι => ([{}, {}, {}, {}, { puts := [(1, (.cells (cU (addmN h 0 qP)) 24 (0, 0)))] }] : List Eff).getD ι {})
    (by kernel_rfl) (by kernel_rfl) (fun _ => by kernel_rfl) (fun _ => by kernel_rfl) ⟨⟨⟨⟨⟨trivial, ?_⟩, ?_⟩, ?_⟩, ?_⟩, ?_⟩
  · exact o_run 0 [0] [] (fun _ _ => [nb ρ1 0, nb ρ1 0, nb ρ1 0, nb ρ1 0, nb ρ1 0, nb ρ1 0, nb ρ1 0, nb ρ1 0, nb ρ1 0, nb ρ1 0, nb ρ1 0, nb ρ1 0, nb ρ1 0, nb ρ1 0, nb ρ1 0, nb ρ1 0, nb ρ1 0, nb ρ1 0, nb ρ1 0, nb ρ1 0, nb ρ1 0, nb ρ1 0, nb ρ1 0, nb ρ1 0, nb ρ1 0, nb ρ1 0, nb ρ1 0, nb ρ1 0, nb ρ1 0, nb ρ1 0, nb ρ1 0, nb ρ1 0]) (fun _ _ => by kernel_rfl)
  · exact o_call 1 67 (fun _ => #[(.agg (hB h))]) (fun _ => (U h)) (fun _ _ => by kernel_rfl) (fun _ w => (fun w => frombytes_any h w) w)
  · exact o_run 2 [] [] (fun _ _ => []) (fun _ _ => by kernel_rfl)
  · exact o_call 3 51 (fun _ => #[(U h), (U 0)]) (fun _ => (U (addmN h 0 qP))) (fun _ _ => by kernel_rfl) (fun _ w => (fun w => gaddscalar_any h 0 w hh (by decide +kernel)) w)
  · exact o_run 4 [1] [] (fun _ _ => [nb ρ1 1, nb ρ1 1, nb ρ1 1, nb ρ1 1]) (fun _ _ => by kernel_rfl)
theorem gscalar_w (h : Nat) (hh : h < M) (w0 : World) : Calls Tryd.prog 43 #[(.agg (hB h))] w0 (fun ε w' => ε = .returned (U (addmN h 0 qP)) ∧ Below w0.heap.size w0 w') := by
  refine Calls.of_ok (n := 7) (F := (fun _ => True)) Tryd.func43 rfl rfl rfl (by simp) (persTrue (fun _ => trivial)) ?_
  refine ok_seq_r (by kernel_rfl) (gscalar_w_r1 h _ _) (fun ρ1 => ?_)
  refine ok_seq_r (by kernel_rfl) (gscalar_w_r2 h hh ρ1 _ _) (fun _ => ?_)
  refine ok_ret ?_
  exact meets_ret (v := (U (addmN h 0 qP))) [1, 1, 1, 1] (dup [nb ρ1 1, nb ρ1 1, nb ρ1 1, nb ρ1 1]) (by kernel_rfl) (by kernel_rfl) (eqs_dup _) (fun _ hS => ⟨rfl, hS.below⟩)
theorem gscalar_any (h : Nat) (w0 : World) (hh : h < M) : Calls Tryd.prog 43 #[(.agg (hB h))] w0 (fun ε w' => ε = .returned (U (addmN h 0 qP)) ∧ Below w0.heap.size w0 w') := gscalar_w h hh w0
theorem rgmember_w_r1 (a : Nat) (w0 : World) (F : World → Prop) : Reg Tryd.prog 0 (regOps Tryd.f42 0) false 19 [(0, (U a))] w0 [] F
    (fun ρ => [(1, (pt (nb ρ 0))), (2, (.bool false))])
    (fun ρ => [(nb ρ 0, (.cells (cU a) 24 (0, 0)))]) := by
  refine reg_seq [0, 1] [1, 2] 2
    (fun ρ ι => ([(pt (nb ρ 0)), (.bool false)] : List Value).getD ι undef)
    (fun ρ ι => ([{ news := [(nb ρ 0, (.cells (cU a) 24 (0, 0)))] }, {}] : List Eff).getD ι {})
    (by kernel_rfl) (by kernel_rfl) (fun _ => by kernel_rfl) (fun _ => by kernel_rfl) ⟨⟨trivial, ?_⟩, ?_⟩
  · exact o_run 0 [] [] (fun _ _ => []) (fun _ _ => by kernel_rfl)
  · exact o_run 1 [] [] (fun _ _ => []) (fun _ _ => by kernel_rfl)
theorem rgmember_w_r2 (a : Nat) (ha : a < M) (hb1 : (decide (a = 0)) = true) (ρ1 : Nat → Orc) (w0 : World) (F : World → Prop) : Reg Tryd.prog 1 (regOps Tryd.f42 1) true 19 [(1, (pt (nb ρ1 0))), (2, (.bool false))] w0 [(nb ρ1 0, (.cells (cU a) 24 (0, 0)))] F
    (fun _ => [(2, (.bool false))])
    (fun _ => [(nb ρ1 0, (.cells (cU a) 24 (0, 0)))]) := by
  refine reg_drawn [0, 1, 3, 7, 15, 15, 63, 127, 255, 511, 1023, 1023, 4095, 8191, 16383, 32767, 65535] [2] 17
    (fun _ ι => ([(U a), (.bool true), (.bool false), (.bool false), undef, undef, undef, undef, (.bool false), (.bool false), undef, undef, undef, undef, undef, (.bool false), (.bool false)] : List Value).getD ι undef)
    (fun _ ι => ([{}, {}, {}, {}, {}, {}, {}, {}, {}, {}, {}, {}, {}, {}, {}, {}, {}] : List Eff).getD ι {})
    (by kernel_rfl) (by kernel_rfl) (by kernel_rfl) (fun _ => by kernel_rfl) (fun _ => by kernel_rfl) ⟨⟨⟨⟨⟨⟨⟨⟨⟨⟨⟨⟨⟨⟨⟨⟨⟨trivial, ?_⟩, ?_⟩, ?_⟩, ?_⟩, ?_⟩, ?_⟩, ?_⟩, ?_⟩, ?_⟩, ?_⟩, ?_⟩, ?_⟩, ?_⟩, ?_⟩, ?_⟩, ?_⟩, ?_⟩
  · exact o_run 0 [0] [] (fun _ _ => [nb ρ1 0, nb ρ1 0, nb ρ1 0, nb ρ1 0]) (fun _ _ => by kernel_rfl)
  · exact o_call 1 50 (fun _ => #[(U a)]) (fun _ => (.bool true)) (fun _ _ => by kernel_rfl) (fun _ w => by as_aux_lemma => (have hcall := (fun w => rzero_any a w ha) w; rw [hb1] at hcall; exact hcall))
  · exact o_run 2 [] [] (fun _ _ => []) (fun _ _ => by kernel_rfl)
  · exact o_run 3 [] [] (fun _ _ => []) (fun _ _ => by kernel_rfl)
  · exact o_skip 4 (fun _ => by kernel_rfl)
  · exact o_skip 5 (fun _ => by kernel_rfl)
  · exact o_skip 6 (fun _ => by kernel_rfl)
  · exact o_skip 7 (fun _ => by kernel_rfl)
  · exact o_run 8 [] [] (fun _ _ => []) (fun _ _ => by kernel_rfl)
  · exact o_run 9 [] [] (fun _ _ => []) (fun _ _ => by kernel_rfl)
  · exact o_skip 10 (fun _ => by kernel_rfl)
  · exact o_skip 11 (fun _ => by kernel_rfl)
  · exact o_skip 12 (fun _ => by kernel_rfl)
  · exact o_skip 13 (fun _ => by kernel_rfl)
  · exact o_skip 14 (fun _ => by kernel_rfl)
  · exact o_run 15 [] [] (fun _ _ => []) (fun _ _ => by kernel_rfl)
  · exact o_run 16 [] [] (fun _ _ => []) (fun _ _ => by kernel_rfl)
theorem rgmember_w_r3 (a : Nat) (ha : a < M) (hb1 : (decide (a = 0)) = false) (hb2 : (decide ((cmpN a pP) < 0)) = true) (ρ1 : Nat → Orc) (w0 : World) (F : World → Prop) : Reg Tryd.prog 1 (regOps Tryd.f42 1) true 19 [(1, (pt (nb ρ1 0))), (2, (.bool false))] w0 [(nb ρ1 0, (.cells (cU a) 24 (0, 0)))] F
    (fun _ => [(2, (.bool (decide (expmN a qP pP = 1))))])
    (fun _ => [(nb ρ1 0, (.cells (cU a) 24 (0, 0)))]) := by
  refine reg_drawn [0, 1, 3, 7, 15, 15, 63, 127, 255, 511, 1023, 1023, 4095, 8191, 16383, 32767, 65535] [2] 17
    (fun _ ι => ([(U a), (.bool false), (.bool true), (.bool true), (U a), (U pP), (.int .i64 (cmpN a pP)), (.bool true), (.bool true), (.bool true), (U a), (U qP), (U (expmN a qP pP)), (U 1), (.bool (decide (expmN a qP pP = 1))), (.bool (decide (expmN a qP pP = 1))), (.bool (decide (expmN a qP pP = 1)))] : List Value).getD ι undef)
    (fun _ ι => ([{}, {}, {}, {}, {}, {}, {}, {}, {}, {}, {}, {}, {}, {}, {}, {}, {}] : List Eff).getD ι {})
    (by kernel_rfl) (by kernel_rfl) (by kernel_rfl) (fun _ => by kernel_rfl) (fun _ => by kernel_rfl) ⟨⟨⟨⟨⟨⟨⟨⟨⟨⟨⟨⟨⟨⟨⟨⟨⟨trivial, ?_⟩, ?_⟩, ?_⟩, ?_⟩, ?_⟩, ?_⟩, ?_⟩, ?_⟩, ?_⟩, ?_⟩, ?_⟩, ?_⟩, ?_⟩, ?_⟩, ?_⟩, ?_⟩, ?_⟩
  · exact o_run 0 [0] [] (fun _ _ => [nb ρ1 0, nb ρ1 0, nb ρ1 0, nb ρ1 0]) (fun _ _ => by kernel_rfl)
  · exact o_call 1 50 (fun _ => #[(U a)]) (fun _ => (.bool false)) (fun _ _ => by kernel_rfl) (fun _ w => by as_aux_lemma => (have hcall := (fun w => rzero_any a w ha) w; rw [hb1] at hcall; exact hcall))
  · exact o_run 2 [] [] (fun _ _ => []) (fun _ _ => by kernel_rfl)
  · exact o_run 3 [] [] (fun _ _ => []) (fun _ _ => by kernel_rfl)
  · exact o_run 4 [0] [] (fun _ _ => [nb ρ1 0, nb ρ1 0, nb ρ1 0, nb ρ1 0]) (fun _ _ => by kernel_rfl)
  · exact o_call 5 71 (fun _ => #[]) (fun _ => (U pP)) (fun _ _ => by kernel_rfl) (fun _ w => (fun w => rgmodulus_any w) w)
  · exact o_call 6 68 (fun _ => #[(U a), (U pP)]) (fun _ => (.int .i64 (cmpN a pP))) (fun _ _ => by kernel_rfl) (fun _ w => (fun w => rcmp_any a pP w ha pP_lt) w)
  · exact o_as 7 (fun _ => (.bool (decide ((cmpN a pP) < 0)))) (fun _ => (.bool true)) (fun _ _ => by kernel_rfl) (fun _ => congrArg Value.bool hb2)
  · exact o_run 8 [] [] (fun _ _ => []) (fun _ _ => by kernel_rfl)
  · exact o_run 9 [] [] (fun _ _ => []) (fun _ _ => by kernel_rfl)
  · exact o_run 10 [0] [] (fun _ _ => [nb ρ1 0, nb ρ1 0, nb ρ1 0, nb ρ1 0]) (fun _ _ => by kernel_rfl)
  · exact o_call 11 61 (fun _ => #[]) (fun _ => (U qP)) (fun _ _ => by kernel_rfl) (fun _ w => (fun w => rgorder_any w) w)
  · exact o_call 12 63 (fun _ => #[(U a), (U qP)]) (fun _ => (U (expmN a qP pP))) (fun _ _ => by kernel_rfl) (fun _ w => (fun w => rgexp_any a qP w ha qP_lt) w)
  · exact o_call 13 72 (fun _ => #[]) (fun _ => (U 1)) (fun _ _ => by kernel_rfl) (fun _ w => (fun w => rgone_any w) w)
  · exact o_bin 14 .eql 24 (fun _ => (U (expmN a qP pP))) (fun _ => (U 1)) (fun _ => (.bool (decide (expmN a qP pP = 1)))) (fun _ => by kernel_rfl) (fun _ _ _ _ => by kernel_rfl) (fun _ _ => eqlU (expmN a qP pP) 1 (expmN_lt _ _ pP_lt) (by decide +kernel) _)
  · exact o_run 15 [] [] (fun _ _ => []) (fun _ _ => by kernel_rfl)
  · exact o_run 16 [] [] (fun _ _ => []) (fun _ _ => by kernel_rfl)
theorem rgmember_w_r4 (a : Nat) (ha : a < M) (hb1 : (decide (a = 0)) = false) (hb2 : (decide ((cmpN a pP) < 0)) = false) (ρ1 : Nat → Orc) (w0 : World) (F : World → Prop) : Reg Tryd.prog 1 (regOps Tryd.f42 1) true 19 [(1, (pt (nb ρ1 0))), (2, (.bool false))] w0 [(nb ρ1 0, (.cells (cU a) 24 (0, 0)))] F
    (fun _ => [(2, (.bool false))])
    (fun _ => [(nb ρ1 0, (.cells (cU a) 24 (0, 0)))]) := by
  refine reg_drawn [0, 1, 3, 7, 15, 15, 63, 127, 255, 511, 1023, 1023, 4095, 8191, 16383, 32767, 65535] [2] 17
    (fun _ ι => ([(U a), (.bool false), (.bool true), (.bool true), (U a), (U pP), (.int .i64 (cmpN a pP)), (.bool false), (.bool false), (.bool false), undef, undef, undef, undef, undef, (.bool false), (.bool false)] : List Value).getD ι undef)
    (fun _ ι => ([{}, {}, {}, {}, {}, {}, {}, {}, {}, {}, {}, {}, {}, {}, {}, {}, {}] : List Eff).getD ι {})
    (by kernel_rfl) (by kernel_rfl) (by kernel_rfl) (fun _ => by kernel_rfl) (fun _ => by kernel_rfl) ⟨⟨⟨⟨⟨⟨⟨⟨⟨⟨⟨⟨⟨⟨⟨⟨⟨trivial, ?_⟩, ?_⟩, ?_⟩, ?_⟩, ?_⟩, ?_⟩, ?_⟩, ?_⟩, ?_⟩, ?_⟩, ?_⟩, ?_⟩, ?_⟩, ?_⟩, ?_⟩, ?_⟩, ?_⟩
  · exact o_run 0 [0] [] (fun _ _ => [nb ρ1 0, nb ρ1 0, nb ρ1 0, nb ρ1 0]) (fun _ _ => by kernel_rfl)
  · exact o_call 1 50 (fun _ => #[(U a)]) (fun _ => (.bool false)) (fun _ _ => by kernel_rfl) (fun _ w => by as_aux_lemma => (have hcall := (fun w => rzero_any a w ha) w; rw [hb1] at hcall; exact hcall))
  · exact o_run 2 [] [] (fun _ _ => []) (fun _ _ => by kernel_rfl)
  · exact o_run 3 [] [] (fun _ _ => []) (fun _ _ => by kernel_rfl)
  · exact o_run 4 [0] [] (fun _ _ => [nb ρ1 0, nb ρ1 0, nb ρ1 0, nb ρ1 0]) (fun _ _ => by kernel_rfl)
  · exact o_call 5 71 (fun _ => #[]) (fun _ => (U pP)) (fun _ _ => by kernel_rfl) (fun _ w => (fun w => rgmodulus_any w) w)
  · exact o_call 6 68 (fun _ => #[(U a), (U pP)]) (fun _ => (.int .i64 (cmpN a pP))) (fun _ _ => by kernel_rfl) (fun _ w => (fun w => rcmp_any a pP w ha pP_lt) w)
  · exact o_as 7 (fun _ => (.bool (decide ((cmpN a pP) < 0)))) (fun _ => (.bool false)) (fun _ _ => by kernel_rfl) (fun _ => congrArg Value.bool hb2)
  · exact o_run 8 [] [] (fun _ _ => []) (fun _ _ => by kernel_rfl)
  · exact o_run 9 [] [] (fun _ _ => []) (fun _ _ => by kernel_rfl)
  · exact o_skip 10 (fun _ => by kernel_rfl)
  · exact o_skip 11 (fun _ => by kernel_rfl)
  · exact o_skip 12 (fun _ => by kernel_rfl)
  · exact o_skip 13 (fun _ => by kernel_rfl)
  · exact o_skip 14 (fun _ => by kernel_rfl)
  · exact o_run 15 [] [] (fun _ _ => []) (fun _ _ => by kernel_rfl)
  · exact o_run 16 [] [] (fun _ _ => []) (fun _ _ => by kernel_rfl)
theorem rgmember_w (a : Nat) (ha : a < M) (w0 : World) : Calls Tryd.prog 42 #[(U a)] w0 (fun ε w' => ε = .returned (.bool (memB a)) ∧ Below w0.heap.size w0 w') := by
  refine Calls.of_ok (n := 19) (F := (fun _ => True)) Tryd.func42 rfl rfl rfl (by simp) (persTrue (fun _ => trivial)) ?_
  refine ok_seq_r (by kernel_rfl) (rgmember_w_r1 a _ _) (fun ρ1 => ?_)
  rcases Bool.eq_false_or_eq_true (decide (a = 0)) with hb1 | hb1
  ·
    refine ok_seq_r (by kernel_rfl) (rgmember_w_r2 a ha hb1 ρ1 _ _) (fun _ => ?_)
    refine ok_ret ?_
    exact meets_ret (v := (.bool false)) [] (dup []) (by kernel_rfl) (by kernel_rfl) (eqs_dup _) (fun _ hS => ⟨congrArg (fun x => Ending.returned (.bool x)) (mem_no1 hb1), hS.below⟩)
  ·
    rcases Bool.eq_false_or_eq_true (decide ((cmpN a pP) < 0)) with hb2 | hb2
    ·
      refine ok_seq_r (by kernel_rfl) (rgmember_w_r3 a ha hb1 hb2 ρ1 _ _) (fun _ => ?_)
      refine ok_ret ?_
      exact meets_ret (v := (.bool (decide (expmN a qP pP = 1)))) [] (dup []) (by kernel_rfl) (by kernel_rfl) (eqs_dup _) (fun _ hS => ⟨congrArg (fun x => Ending.returned (.bool x)) (mem_yes hb1 (by have := of_decide_eq_true hb2; omega)), hS.below⟩)
    ·
      refine ok_seq_r (by kernel_rfl) (rgmember_w_r4 a ha hb1 hb2 ρ1 _ _) (fun _ => ?_)
      refine ok_ret ?_
      exact meets_ret (v := (.bool false)) [] (dup []) (by kernel_rfl) (by kernel_rfl) (eqs_dup _) (fun _ hS => ⟨congrArg (fun x => Ending.returned (.bool x)) (mem_no3 hb2), hS.below⟩)
theorem rgmember_any (a : Nat) (w0 : World) (ha : a < M) : Calls Tryd.prog 42 #[(U a)] w0 (fun ε w' => ε = .returned (.bool (memB a)) ∧ Below w0.heap.size w0 w') := rgmember_w a ha w0
theorem rgpower_w_r1 (e : Nat) (w0 : World) (F : World → Prop) : Reg Tryd.prog 0 (regOps Tryd.f38 0) false 6 [(0, (U e))] w0 [] F
    (fun ρ => [(1, (pt (nb ρ 0))), (2, (pt (nb ρ 1)))])
    (fun ρ => [(nb ρ 0, (.cells (cU e) 24 (0, 0))), (nb ρ 1, (.cells (cU 0) 24 (0, 0)))]) := by
  refine reg_seq [0, 1] [1, 2] 2
    (fun ρ ι => ([(pt (nb ρ 0)), (pt (nb ρ 1))] : List Value).getD ι undef)
    (fun ρ ι => ([{ news := [(nb ρ 0, (.cells (cU e) 24 (0, 0)))] }, { news := [(nb ρ 1, (.cells (cU 0) 24 (0, 0)))] }] : List Eff).getD ι {})
    (by kernel_rfl) (by kernel_rfl) (fun _ => by kernel_rfl) (fun _ => by kernel_rfl) ⟨⟨trivial, ?_⟩, ?_⟩
  · exact o_run 0 [] [] (fun _ _ => []) (fun _ _ => by kernel_rfl)
  · exact o_run 1 [] [] (fun _ _ => []) (fun _ _ => by kernel_rfl)
theorem rgpower_w_r2 (e : Nat) (he : e < M) (ρ1 : Nat → Orc) (w0 : World) (F : World → Prop) : Reg Tryd.prog 1 (regOps Tryd.f38 1) true 6 [(1, (pt (nb ρ1 0))), (2, (pt (nb ρ1 1)))] w0 [(nb ρ1 0, (.cells (cU e) 24 (0, 0))), (nb ρ1 1, (.cells (cU 0) 24 (0, 0)))] F
    (fun _ => [(2, (pt (nb ρ1 1)))])
    (fun _ => [(nb ρ1 0, (.cells (cU e) 24 (0, 0))), (nb ρ1 1, (.cells (cU (expmN 4 e pP)) 24 (0, 0)))]) := by
  refine reg_drawn [0, 0, 3, 7] [2] 4
    (fun _ ι => ([(U 4), (U e), (U (expmN 4 e pP)), undef] : List Value).getD ι undef)
    (fun _ ι => ([{}, {}, {}, { puts := [(1, (.cells (cU (expmN 4 e pP)) 24 (0, 0)))] }] : List Eff).getD ι {})
    (by kernel_rfl) (by kernel_rfl) (by kernel_rfl) (fun _ => by kernel_rfl) (fun _ => by kernel_rfl) ⟨⟨⟨⟨trivial, ?_⟩, ?_⟩, ?_⟩, ?_⟩
  · exact o_call 0 41 (fun _ => #[(.int .u64 4)]) (fun _ => (U 4)) (fun _ _ => by kernel_rfl) (fun _ w => (fun w => rfromuint_lit 4 w (by decide)) w)
  · exact o_run 1 [0] [] (fun _ _ => [nb ρ1 0, nb ρ1 0, nb ρ1 0, nb ρ1 0]) (fun _ _ => by kernel_rfl)
  · exact o_call 2 63 (fun _ => #[(U 4), (U e)]) (fun _ => (U (expmN 4 e pP))) (fun _ _ => by kernel_rfl) (fun _ w => (fun w => rgexp_any 4 e w (by decide +kernel) he) w)
  · exact o_run 3 [1] [] (fun _ _ => [nb ρ1 1, nb ρ1 1, nb ρ1 1, nb ρ1 1]) (fun _ _ => by kernel_rfl)
theorem rgpower_w (e : Nat) (he : e < M) (w0 : World) : Calls Tryd.prog 38 #[(U e)] w0 (fun ε w' => ε = .returned (U (expmN 4 e pP)) ∧ Below w0.heap.size w0 w') := by
  refine Calls.of_ok (n := 6) (F := (fun _ => True)) Tryd.func38 rfl rfl rfl (by simp) (persTrue (fun _ => trivial)) ?_
  refine ok_seq_r (by kernel_rfl) (rgpower_w_r1 e _ _) (fun ρ1 => ?_)
  refine ok_seq_r (by kernel_rfl) (rgpower_w_r2 e he ρ1 _ _) (fun _ => ?_)
  refine ok_ret ?_
  exact meets_ret (v := (U (expmN 4 e pP))) [1, 1, 1, 1] (dup [nb ρ1 1, nb ρ1 1, nb ρ1 1, nb ρ1 1]) (by kernel_rfl) (by kernel_rfl) (eqs_dup _) (fun _ hS => ⟨rfl, hS.below⟩)
theorem rgpower_any (e : Nat) (w0 : World) (he : e < M) : Calls Tryd.prog 38 #[(U e)] w0 (fun ε w' => ε = .returned (U (expmN 4 e pP)) ∧ Below w0.heap.size w0 w') := rgpower_w e he w0
theorem rgaddscalar_w_r1 (a : Nat) (b : Nat) (w0 : World) (F : World → Prop) : Reg Tryd.prog 0 (regOps Tryd.f24 0) false 9 [(0, (U a)), (1, (U b))] w0 [] F
    (fun ρ => [(2, (pt (nb ρ 0))), (3, (pt (nb ρ 1))), (4, (pt (nb ρ 2)))])
    (fun ρ => [(nb ρ 0, (.cells (cU a) 24 (0, 0))), (nb ρ 1, (.cells (cU b) 24 (0, 0))), (nb ρ 2, (.cells (cU 0) 24 (0, 0)))]) := by
  refine reg_seq [0, 1, 3] [2, 3, 4] 3
    (fun ρ ι => ([(pt (nb ρ 0)), (pt (nb ρ 1)), (pt (nb ρ 2))] : List Value).getD ι undef)
    (fun ρ ι => ([{ news := [(nb ρ 0, (.cells (cU a) 24 (0, 0)))] }, { news := [(nb ρ 1, (.cells (cU b) 24 (0, 0)))] }, { news := [(nb ρ 2, (.cells (cU 0) 24 (0, 0)))] }] : List Eff).getD ι {})
    (by kernel_rfl) (by kernel_rfl) (fun _ => by kernel_rfl) (fun _ => by kernel_rfl) ⟨⟨⟨trivial, ?_⟩, ?_⟩, ?_⟩
  · exact o_run 0 [] [] (fun _ _ => []) (fun _ _ => by kernel_rfl)
  · exact o_run 1 [] [] (fun _ _ => []) (fun _ _ => by kernel_rfl)
  · exact o_run 2 [] [] (fun _ _ => []) (fun _ _ => by kernel_rfl)
theorem rgaddscalar_w_r2 (a : Nat) (b : Nat) (ha : a < M) (hb : b < M) (ρ1 : Nat → Orc) (w0 : World) (F : World → Prop) : Reg Tryd.prog 1 (regOps Tryd.f24 1) true 9 [(2, (pt (nb ρ1 0))), (3, (pt (nb ρ1 1))), (4, (pt (nb ρ1 2)))] w0 [(nb ρ1 0, (.cells (cU a) 24 (0, 0))), (nb ρ1 1, (.cells (cU b) 24 (0, 0))), (nb ρ1 2, (.cells (cU 0) 24 (0, 0)))] F
    (fun _ => [(4, (pt (nb ρ1 2)))])
    (fun _ => [(nb ρ1 0, (.cells (cU a) 24 (0, 0))), (nb ρ1 1, (.cells (cU b) 24 (0, 0))), (nb ρ1 2, (.cells (cU (addmN a b qP)) 24 (0, 0)))]) := by
  refine reg_drawn [0, 0, 0, 7, 15] [4] 5
    (fun _ ι => ([(U a), (U b), (U qP), (U (addmN a b qP)), undef] : List Value).getD ι undef)
    (fun _ ι => ([{}, {}, {}, {}, { puts := [(2, (.cells (cU (addmN a b qP)) 24 (0, 0)))] }] : List Eff).getD ι {})
    (by kernel_rfl) (by kernel_rfl) (by kernel_rfl) (fun _ => by kernel_rfl) (fun _ => by kernel_rfl) ⟨⟨⟨⟨⟨trivial, ?_⟩, ?_⟩, ?_⟩, ?_⟩, ?_⟩
  · exact o_run 0 [0] [] (fun _ _ => [nb ρ1 0, nb ρ1 0, nb ρ1 0, nb ρ1 0]) (fun _ _ => by kernel_rfl)
  · exact o_run 1 [1] [] (fun _ _ => [nb ρ1 1, nb ρ1 1, nb ρ1 1, nb ρ1 1]) (fun _ _ => by kernel_rfl)
  · exact o_call 2 61 (fun _ => #[]) (fun _ => (U qP)) (fun _ _ => by kernel_rfl) (fun _ w => (fun w => rgorder_any w) w)
  · exact o_call 3 65 (fun _ => #[(U a), (U b), (U qP)]) (fun _ => (U (addmN a b qP))) (fun _ _ => by kernel_rfl) (fun _ w => (fun w => raddmod_any a b qP w ha hb qP_lt) w)
  · exact o_run 4 [2] [] (fun _ _ => [nb ρ1 2, nb ρ1 2, nb ρ1 2, nb ρ1 2]) (fun _ _ => by kernel_rfl)
theorem rgaddscalar_w (a : Nat) (b : Nat) (ha : a < M) (hb : b < M) (w0 : World) : Calls Tryd.prog 24 #[(U a), (U b)] w0 (fun ε w' => ε = .returned (U (addmN a b qP)) ∧ Below w0.heap.size w0 w') := by
  refine Calls.of_ok (n := 9) (F := (fun _ => True)) Tryd.func24 rfl rfl rfl (by simp) (persTrue (fun _ => trivial)) ?_
  refine ok_seq_r (by kernel_rfl) (rgaddscalar_w_r1 a b _ _) (fun ρ1 => ?_)
  refine ok_seq_r (by kernel_rfl) (rgaddscalar_w_r2 a b ha hb ρ1 _ _) (fun _ => ?_)
  refine ok_ret ?_
  exact meets_ret (v := (U (addmN a b qP))) [2, 2, 2, 2] (dup [nb ρ1 2, nb ρ1 2, nb ρ1 2, nb ρ1 2]) (by kernel_rfl) (by kernel_rfl) (eqs_dup _) (fun _ hS => ⟨rfl, hS.below⟩)
theorem rgaddscalar_any (a b : Nat) (w0 : World) (ha : a < M) (hb : b < M) : Calls Tryd.prog 24 #[(U a), (U b)] w0 (fun ε w' => ε = .returned (U (addmN a b qP)) ∧ Below w0.heap.size w0 w') := rgaddscalar_w a b ha hb w0
theorem rgmulscalar_w_r1 (a : Nat) (b : Nat) (w0 : World) (F : World → Prop) : Reg Tryd.prog 0 (regOps Tryd.f53 0) false 9 [(0, (U a)), (1, (U b))] w0 [] F
    (fun ρ => [(2, (pt (nb ρ 0))), (3, (pt (nb ρ 1))), (4, (pt (nb ρ 2)))])
    (fun ρ => [(nb ρ 0, (.cells (cU a) 24 (0, 0))), (nb ρ 1, (.cells (cU b) 24 (0, 0))), (nb ρ 2, (.cells (cU 0) 24 (0, 0)))]) := by
  refine reg_seq [0, 1, 3] [2, 3, 4] 3
    (fun ρ ι => ([(pt (nb ρ 0)), (pt (nb ρ 1)), (pt (nb ρ 2))] : List Value).getD ι undef)
    (fun ρ ι => ([{ news := [(nb ρ 0, (.cells (cU a) 24 (0, 0)))] }, { news := [(nb ρ 1, (.cells (cU b) 24 (0, 0)))] }, { news := [(nb ρ 2, (.cells (cU 0) 24 (0, 0)))] }] : List Eff).getD ι {})
    (by kernel_rfl) (by kernel_rfl) (fun _ => by kernel_rfl) (fun _ => by kernel_rfl) ⟨⟨⟨trivial, ?_⟩, ?_⟩, ?_⟩
  · exact o_run 0 [] [] (fun _ _ => []) (fun _ _ => by kernel_rfl)
  · exact o_run 1 [] [] (fun _ _ => []) (fun _ _ => by kernel_rfl)
  · exact o_run 2 [] [] (fun _ _ => []) (fun _ _ => by kernel_rfl)
theorem rgmulscalar_w_r2 (a : Nat) (b : Nat) (ha : a < M) (hb : b < M) (ρ1 : Nat → Orc) (w0 : World) (F : World → Prop) : Reg Tryd.prog 1 (regOps Tryd.f53 1) true 9 [(2, (pt (nb ρ1 0))), (3, (pt (nb ρ1 1))), (4, (pt (nb ρ1 2)))] w0 [(nb ρ1 0, (.cells (cU a) 24 (0, 0))), (nb ρ1 1, (.cells (cU b) 24 (0, 0))), (nb ρ1 2, (.cells (cU 0) 24 (0, 0)))] F
    (fun _ => [(4, (pt (nb ρ1 2)))])
    (fun _ => [(nb ρ1 0, (.cells (cU a) 24 (0, 0))), (nb ρ1 1, (.cells (cU b) 24 (0, 0))), (nb ρ1 2, (.cells (cU (mulmN a b qP)) 24 (0, 0)))]) := by
  refine reg_drawn [0, 0, 0, 7, 15] [4] 5
    (fun _ ι => ([(U a), (U b), (U qP), (U (mulmN a b qP)), undef] : List Value).getD ι undef)
    (fun _ ι => ([{}, {}, {}, {}, { puts := [(2, (.cells (cU (mulmN a b qP)) 24 (0, 0)))] }] : List Eff).getD ι {})
    (by kernel_rfl) (by kernel_rfl) (by kernel_rfl) (fun _ => by kernel_rfl) (fun _ => by kernel_rfl) ⟨⟨⟨⟨⟨trivial, ?_⟩, ?_⟩, ?_⟩, ?_⟩, ?_⟩
  · exact o_run 0 [0] [] (fun _ _ => [nb ρ1 0, nb ρ1 0, nb ρ1 0, nb ρ1 0]) (fun _ _ => by kernel_rfl)
  · exact o_run 1 [1] [] (fun _ _ => [nb ρ1 1, nb ρ1 1, nb ρ1 1, nb ρ1 1]) (fun _ _ => by kernel_rfl)
  · exact o_call 2 61 (fun _ => #[]) (fun _ => (U qP)) (fun _ _ => by kernel_rfl) (fun _ w => (fun w => rgorder_any w) w)
  · exact o_call 3 80 (fun _ => #[(U a), (U b), (U qP)]) (fun _ => (U (mulmN a b qP))) (fun _ _ => by kernel_rfl) (fun _ w => (fun w => rmulmod_any a b qP w ha hb qP_lt) w)
  · exact o_run 4 [2] [] (fun _ _ => [nb ρ1 2, nb ρ1 2, nb ρ1 2, nb ρ1 2]) (fun _ _ => by kernel_rfl)
theorem rgmulscalar_w (a : Nat) (b : Nat) (ha : a < M) (hb : b < M) (w0 : World) : Calls Tryd.prog 53 #[(U a), (U b)] w0 (fun ε w' => ε = .returned (U (mulmN a b qP)) ∧ Below w0.heap.size w0 w') := by
  refine Calls.of_ok (n := 9) (F := (fun _ => True)) Tryd.func53 rfl rfl rfl (by simp) (persTrue (fun _ => trivial)) ?_
  refine ok_seq_r (by kernel_rfl) (rgmulscalar_w_r1 a b _ _) (fun ρ1 => ?_)
  refine ok_seq_r (by kernel_rfl) (rgmulscalar_w_r2 a b ha hb ρ1 _ _) (fun _ => ?_)
  refine ok_ret ?_
  exact meets_ret (v := (U (mulmN a b qP))) [2, 2, 2, 2] (dup [nb ρ1 2, nb ρ1 2, nb ρ1 2, nb ρ1 2]) (by kernel_rfl) (by kernel_rfl) (eqs_dup _) (fun _ hS => ⟨rfl, hS.below⟩)
theorem rgmulscalar_any (a b : Nat) (w0 : World) (ha : a < M) (hb : b < M) : Calls Tryd.prog 53 #[(U a), (U b)] w0 (fun ε w' => ε = .returned (U (mulmN a b qP)) ∧ Below w0.heap.size w0 w') := rgmulscalar_w a b ha hb w0
theorem rgnegscalar_w_r1 (a : Nat) (w0 : World) (F : World → Prop) : Reg Tryd.prog 0 (regOps Tryd.f66 0) false 7 [(0, (U a))] w0 [] F
    (fun ρ => [(1, (pt (nb ρ 0))), (2, (pt (nb ρ 1)))])
    (fun ρ => [(nb ρ 0, (.cells (cU a) 24 (0, 0))), (nb ρ 1, (.cells (cU 0) 24 (0, 0)))]) := by
  refine reg_seq [0, 1] [1, 2] 2
    (fun ρ ι => ([(pt (nb ρ 0)), (pt (nb ρ 1))] : List Value).getD ι undef)
    (fun ρ ι => ([{ news := [(nb ρ 0, (.cells (cU a) 24 (0, 0)))] }, { news := [(nb ρ 1, (.cells (cU 0) 24 (0, 0)))] }] : List Eff).getD ι {})
    (by kernel_rfl) (by kernel_rfl) (fun _ => by kernel_rfl) (fun _ => by kernel_rfl) ⟨⟨trivial, ?_⟩, ?_⟩
  · exact o_run 0 [] [] (fun _ _ => []) (fun _ _ => by kernel_rfl)
  · exact o_run 1 [] [] (fun _ _ => []) (fun _ _ => by kernel_rfl)
theorem rgnegscalar_w_r2 (a : Nat) (ha : a < M) (ρ1 : Nat → Orc) (w0 : World) (F : World → Prop) : Reg Tryd.prog 1 (regOps Tryd.f66 1) true 7 [(1, (pt (nb ρ1 0))), (2, (pt (nb ρ1 1)))] w0 [(nb ρ1 0, (.cells (cU a) 24 (0, 0))), (nb ρ1 1, (.cells (cU 0) 24 (0, 0)))] F
    (fun _ => [(2, (pt (nb ρ1 1)))])
    (fun _ => [(nb ρ1 0, (.cells (cU a) 24 (0, 0))), (nb ρ1 1, (.cells (cU (submN 0 a qP)) 24 (0, 0)))]) := by
  refine reg_drawn [0, 0, 0, 7, 15] [2] 5
    (fun _ ι => ([(U 0), (U a), (U qP), (U (submN 0 a qP)), undef] : List Value).getD ι undef)
    (fun _ ι => ([{}, {}, {}, {}, { puts := [(1, (.cells (cU (submN 0 a qP)) 24 (0, 0)))] }] : List Eff).getD ι {})
    (by kernel_rfl) (by kernel_rfl) (by kernel_rfl) (fun _ => by kernel_rfl) (fun _ => by kernel_rfl) ⟨⟨⟨⟨⟨trivial, ?_⟩, ?_⟩, ?_⟩, ?_⟩, ?_⟩
  · exact o_run 0 [] [] (fun _ _ => []) (fun _ _ => by kernel_rfl)
  · exact o_run 1 [0] [] (fun _ _ => [nb ρ1 0, nb ρ1 0, nb ρ1 0, nb ρ1 0]) (fun _ _ => by kernel_rfl)
  · exact o_call 2 61 (fun _ => #[]) (fun _ => (U qP)) (fun _ _ => by kernel_rfl) (fun _ w => (fun w => rgorder_any w) w)
  · exact o_call 3 87 (fun _ => #[(U 0), (U a), (U qP)]) (fun _ => (U (submN 0 a qP))) (fun _ _ => by kernel_rfl) (fun _ w => (fun w => rsubmod_any 0 a qP w (by decide +kernel) ha qP_lt) w)
  · exact o_run 4 [1] [] (fun _ _ => [nb ρ1 1, nb ρ1 1, nb ρ1 1, nb ρ1 1]) (fun _ _ => by kernel_rfl)
theorem rgnegscalar_w (a : Nat) (ha : a < M) (w0 : World) : Calls Tryd.prog 66 #[(U a)] w0 (fun ε w' => ε = .returned (U (submN 0 a qP)) ∧ Below w0.heap.size w0 w') := by
  refine Calls.of_ok (n := 7) (F := (fun _ => True)) Tryd.func66 rfl rfl rfl (by simp) (persTrue (fun _ => trivial)) ?_
  refine ok_seq_r (by kernel_rfl) (rgnegscalar_w_r1 a _ _) (fun ρ1 => ?_)
  refine ok_seq_r (by kernel_rfl) (rgnegscalar_w_r2 a ha ρ1 _ _) (fun _ => ?_)
  refine ok_ret ?_
  exact meets_ret (v := (U (submN 0 a qP))) [1, 1, 1, 1] (dup [nb ρ1 1, nb ρ1 1, nb ρ1 1, nb ρ1 1]) (by kernel_rfl) (by kernel_rfl) (eqs_dup _) (fun _ hS => ⟨rfl, hS.below⟩)
theorem rgnegscalar_any (a : Nat) (w0 : World) (ha : a < M) : Calls Tryd.prog 66 #[(U a)] w0 (fun ε w' => ε = .returned (U (submN 0 a qP)) ∧ Below w0.heap.size w0 w') := rgnegscalar_w a ha w0
theorem rgscalar_w_r1 (h : Nat) (w0 : World) (F : World → Prop) : Reg Tryd.prog 0 (regOps Tryd.f23 0) false 7 [(0, (.agg (hB h)))] w0 [] F
    (fun ρ => [(1, (pt (nb ρ 0))), (2, (pt (nb ρ 1)))])
    (fun ρ => [(nb ρ 0, (.cells (hB h) 26 (0, 0))), (nb ρ 1, (.cells (cU 0) 24 (0, 0)))]) := by
  refine reg_seq [0, 1] [1, 2] 2
    (fun ρ ι => ([(pt (nb ρ 0)), (pt (nb ρ 1))] : List Value).getD ι undef)
    (fun ρ ι => ([{ news := [(nb ρ 0, (.cells (hB h) 26 (0, 0)))] }, { news := [(nb ρ 1, (.cells (cU 0) 24 (0, 0)))] }] : List Eff).getD ι {})
    (by kernel_rfl) (by kernel_rfl) (fun _ => by kernel_rfl) (fun _ => by kernel_rfl) ⟨⟨trivial, ?_⟩, ?_⟩
  · exact o_run 0 [] [] (fun _ _ => []) (fun _ _ => by kernel_rfl)
  · exact o_run 1 [] [] (fun _ _ => []) (fun _ _ => by kernel_rfl)
theorem rgscalar_w_r2 (h : Nat) (hh : h < M) (ρ1 : Nat → Orc) (w0 : World) (F : World → Prop) : Reg Tryd.prog 1 (regOps Tryd.f23 1) false 7 [(1, (pt (nb ρ1 0))), (2, (pt (nb ρ1 1)))] w0 [(nb ρ1 0, (.cells (hB h) 26 (0, 0))), (nb ρ1 1, (.cells (cU 0) 24 (0, 0)))] F
    (fun _ => [(2, (pt (nb ρ1 1)))])
    (fun _ => [(nb ρ1 0, (.cells (hB h) 26 (0, 0))), (nb ρ1 1, (.cells (cU (addmN h 0 qP)) 24 (0, 0)))]) := by
  refine reg_seq [0, 1, 3, 7, 15] [2] 5
    (fun _ ι => ([(.agg (hB h)), (U h), (U 0), (U (addmN h 0 qP)), undef] : List Value).getD ι undef)
    (fun _ ι => ([{}, {}, {}, {}, { puts := [(1, (.cells (cU (addmN h 0 qP)) 24 (0, 0)))] }] : List Eff).getD ι {})
    (by kernel_rfl) (by kernel_rfl) (fun _ => by kernel_rfl) (fun _ => by kernel_rfl) ⟨⟨⟨⟨⟨trivial, ?_⟩, ?_⟩, ?_⟩, ?_⟩, ?_⟩
  · exact o_run 0 [0] [] (fun _ _ => [nb ρ1 0, nb ρ1 0, nb ρ1 0, nb ρ1 0, nb ρ1 0, nb ρ1 0, nb ρ1 0, nb ρ1 0, nb ρ1 0, nb ρ1 0, nb ρ1 0, nb ρ1 0, nb ρ1 0, nb ρ1 0, nb ρ1 0, nb ρ1 0, nb ρ1 0, nb ρ1 0, nb ρ1 0, nb ρ1 0, nb ρ1 0, nb ρ1 0, nb ρ1 0, nb ρ1 0, nb ρ1 0, nb ρ1 0, nb ρ1 0, nb ρ1 0, nb ρ1 0, nb ρ1 0, nb ρ1 0, nb ρ1 0]) (fun _ _ => by kernel_rfl)
  · exact o_call 1 64 (fun _ => #[(.agg (hB h))]) (fun _ => (U h)) (fun _ _ => by kernel_rfl) (fun _ w => (fun w => rfrombytes_any h w) w)
  · exact o_run 2 [] [] (fun _ _ => []) (fun _ _ => by kernel_rfl)
  · exact o_call 3 24 (fun _ => #[(U h), (U 0)]) (fun _ => (U (addmN h 0 qP))) (fun _ _ => by kernel_rfl) (fun _ w => (fun w => rgaddscalar_any h 0 w hh (by decide +kernel)) w)
  · exact o_run 4 [1] [] (fun _ _ => [nb ρ1 1, nb ρ1 1, nb ρ1 1, nb ρ1 1]) (fun _ _ => by kernel_rfl)
theorem rgscalar_w (h : Nat) (hh : h < M) (w0 : World) : Calls Tryd.prog 23 #[(.agg (hB h))] w0 (fun ε w' => ε = .returned (U (addmN h 0 qP)) ∧ Below w0.heap.size w0 w') := by
  refine Calls.of_ok (n := 7) (F := (fun _ => True)) Tryd.func23 rfl rfl rfl (by simp) (persTrue (fun _ => trivial)) ?_
  refine ok_seq_r (by kernel_rfl) (rgscalar_w_r1 h _ _) (fun ρ1 => ?_)
  refine ok_seq_r (by kernel_rfl) (rgscalar_w_r2 h hh ρ1 _ _) (fun _ => ?_)
  refine ok_ret ?_
  exact meets_ret (v := (U (addmN h 0 qP))) [1, 1, 1, 1] (dup [nb ρ1 1, nb ρ1 1, nb ρ1 1, nb ρ1 1]) (by kernel_rfl) (by kernel_rfl) (eqs_dup _) (fun _ hS => ⟨rfl, hS.below⟩)
theorem rgscalar_any (h : Nat) (w0 : World) (hh : h < M) : Calls Tryd.prog 23 #[(.agg (hB h))] w0 (fun ε w' => ε = .returned (U (addmN h 0 qP)) ∧ Below w0.heap.size w0 w') := rgscalar_w h hh w0
end Go.Proofs.YtoibhbmcplhiaaaDoor
