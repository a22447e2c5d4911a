/-
  Numbers modulo a number: reduce.
-/
import Derived.Test.YtoibhbmcplhiaaaDoorGhost5
import Derived.Test.YtoibhbmcplhiaaaDoorGNum
import Derived.Test.YtoibhbmcplhiaaaDoorDivAny
import Derived.Test.YtoibhbmcplhiaaaDoorEq
import Derived.Test.YtoibhbmcplhiaaaDoorRLen
namespace Go.Proofs.YtoibhbmcplhiaaaDoor
open Go Go.RowKit
set_option maxRecDepth 100000
theorem reduce_w_r1 (a : Nat) (m : Nat) (w0 : World) (F : World → Prop) : Reg Tryd.prog 0 (regOps Tryd.f94 0) false 22 [(0, (U a)), (1, (U m))] w0 [] F
    (fun ρ => [(2, (pt (nb ρ 0))), (3, (pt (nb ρ 1))), (4, (pt (nb ρ 2)))])
    (fun ρ => [(nb ρ 0, (.cells (cU a) 24 (0, 0))), (nb ρ 1, (.cells (cU m) 24 (0, 0))), (nb ρ 2, (.cells (cU 0) 24 (0, 0)))]) := by
  refine reg_seq [0, 1, 3] [2, 3, 4] 3
    (fun ρ ι => ([(pt (nb ρ 0)), (pt (nb ρ 1)), (pt (nb ρ 2))] : List Value).getD ι undef)
    (fun ρ ι => ([{ news := [(nb ρ 0, (.cells (cU a) 24 (0, 0)))] }, { news := [(nb ρ 1, (.cells (cU m) 24 (0, 0)))] }, { news := [(nb ρ 2, (.cells (cU 0) 24 (0, 0)))] }] : List Eff).getD ι {})
    (by kernel_rfl) (by kernel_rfl) (fun _ => by kernel_rfl) (fun _ => by kernel_rfl) ⟨⟨⟨trivial, ?_⟩, ?_⟩, ?_⟩
  · exact o_run 0 [] [] (fun _ _ => []) (fun _ _ => by kernel_rfl)
  · exact o_run 1 [] [] (fun _ _ => []) (fun _ _ => by kernel_rfl)
  · exact o_run 2 [] [] (fun _ _ => []) (fun _ _ => by kernel_rfl)
theorem reduce_w_r2 (a : Nat) (m : Nat) (ha : a < M) (hm : m < M) (ρ1 : Nat → Orc) (w0 : World) (F : World → Prop) : Reg Tryd.prog 1 (regOps Tryd.f94 1) false 22 [(2, (pt (nb ρ1 0))), (3, (pt (nb ρ1 1))), (4, (pt (nb ρ1 2)))] w0 [(nb ρ1 0, (.cells (cU a) 24 (0, 0))), (nb ρ1 1, (.cells (cU m) 24 (0, 0))), (nb ρ1 2, (.cells (cU 0) 24 (0, 0)))] F
    (fun _ => [(2, (pt (nb ρ1 0))), (3, (pt (nb ρ1 1))), (4, (pt (nb ρ1 2))), (11, (.bool (decide ((cmpN a m) < 0))))])
    (fun _ => [(nb ρ1 0, (.cells (cU a) 24 (0, 0))), (nb ρ1 1, (.cells (cU m) 24 (0, 0))), (nb ρ1 2, (.cells (cU 0) 24 (0, 0)))]) := by
  refine reg_seq [0, 1, 3, 7] [2, 3, 4, 11] 4
    (fun _ ι => ([(U a), (U m), (.int .i64 (cmpN a m)), (.bool (decide ((cmpN a m) < 0)))] : List Value).getD ι undef)
    (fun _ ι => ([{}, {}, {}, {}] : List Eff).getD ι {})
    (by kernel_rfl) (by kernel_rfl) (fun _ => by kernel_rfl) (fun _ => by kernel_rfl) ⟨⟨⟨⟨trivial, ?_⟩, ?_⟩, ?_⟩, ?_⟩
  · exact o_run 0 [0] [] (fun _ _ => [nb ρ1 0, nb ρ1 0, nb ρ1 0, nb ρ1 0]) (fun _ _ => by kernel_rfl)
  · exact o_run 1 [1] [] (fun _ _ => [nb ρ1 1, nb ρ1 1, nb ρ1 1, nb ρ1 1]) (fun _ _ => by kernel_rfl)
  · exact o_call 2 69 (fun _ => #[(U a), (U m)]) (fun _ => (.int .i64 (cmpN a m))) (fun _ _ => by kernel_rfl) (fun _ w => (fun w => cmp_any a m w ha hm) w)
  · exact o_run 3 [] [] (fun _ _ => []) (fun _ _ => by kernel_rfl)
theorem reduce_w_r3 (a : Nat) (m : Nat) (ρ1 : Nat → Orc) (w0 : World) (F : World → Prop) : Reg Tryd.prog 2 (regOps Tryd.f94 2) false 22 [(2, (pt (nb ρ1 0))), (3, (pt (nb ρ1 1))), (4, (pt (nb ρ1 2))), (11, (.bool true))] w0 [(nb ρ1 0, (.cells (cU a) 24 (0, 0))), (nb ρ1 1, (.cells (cU m) 24 (0, 0))), (nb ρ1 2, (.cells (cU 0) 24 (0, 0)))] F
    (fun _ => [(2, (pt (nb ρ1 0))), (3, (pt (nb ρ1 1))), (4, (pt (nb ρ1 2)))])
    (fun _ => [(nb ρ1 0, (.cells (cU a) 24 (0, 0))), (nb ρ1 1, (.cells (cU m) 24 (0, 0))), (nb ρ1 2, (.cells (cU a) 24 (0, 0)))]) := by
  refine reg_seq [0, 1] [2, 3, 4] 2
    (fun _ ι => ([(U a), undef] : List Value).getD ι undef)
    (fun _ ι => ([{}, { puts := [(2, (.cells (cU a) 24 (0, 0)))] }] : List Eff).getD ι {})
    (by kernel_rfl) (by kernel_rfl) (fun _ => by kernel_rfl) (fun _ => by kernel_rfl) ⟨⟨trivial, ?_⟩, ?_⟩
  · exact o_run 0 [0] [] (fun _ _ => [nb ρ1 0, nb ρ1 0, nb ρ1 0, nb ρ1 0]) (fun _ _ => by kernel_rfl)
  · exact o_run 1 [2] [] (fun _ _ => [nb ρ1 2, nb ρ1 2, nb ρ1 2, nb ρ1 2]) (fun _ _ => by kernel_rfl)
theorem reduce_w_r4 (a : Nat) (m : Nat) (ha : a < M) (hm : m < M) (ρ1 : Nat → Orc) (w0 : World) (F : World → Prop) : Reg Tryd.prog 3 (regOps Tryd.f94 3) false 22 [(2, (pt (nb ρ1 0))), (3, (pt (nb ρ1 1))), (4, (pt (nb ρ1 2))), (11, (.bool false))] w0 [(nb ρ1 0, (.cells (cU a) 24 (0, 0))), (nb ρ1 1, (.cells (cU m) 24 (0, 0))), (nb ρ1 2, (.cells (cU 0) 24 (0, 0)))] F
    (fun ρ => [(4, (pt (nb ρ1 2))), (6, (pt (nb ρ 9)))])
    (fun ρ => [(nb ρ1 0, (.cells (cU a) 24 (0, 0))), (nb ρ1 1, (.cells (cU m) 24 (0, 0))), (nb ρ1 2, (.cells (cU 0) 24 (0, 0))), (nb ρ 8, (.cells (cU (divQ 0 a m)) 24 (0, 0))), (nb ρ 9, (.cells (cU (divR 0 a m)) 24 (0, 0)))]) := by
  refine reg_seq [0, 1, 3, 7, 15, 31, 63, 127, 255, 511, 1023, 2047, 4095] [4, 6] 13
    (fun ρ ι => ([(U 0), (U a), (U m), (.tuple #[(U (divQ 0 a m)), (U (divR 0 a m)), (.bool (decide (0 < m)))]), (.tuple #[(U (divQ 0 a m)), (U (divR 0 a m)), (.bool (decide (0 < m)))]), (U (divQ 0 a m)), (U (divR 0 a m)), (.bool (decide (0 < m))), (pt (nb ρ 8)), (pt (nb ρ 9)), undef, undef, (.bool (decide (0 < m)))] : List Value).getD ι undef)
    (fun ρ ι => ([{}, {}, {}, {}, {}, {}, {}, {}, { news := [(nb ρ 8, (.cells (cU 0) 24 (0, 0)))] }, { news := [(nb ρ 9, (.cells (cU 0) 24 (0, 0)))] }, { puts := [(67, (.cells (cU (divQ 0 a m)) 24 (0, 0)))] }, { puts := [(75, (.cells (cU (divR 0 a m)) 24 (0, 0)))] }, {}] : List Eff).getD ι {})
    (by kernel_rfl) (by kernel_rfl) (fun _ => by kernel_rfl) (fun _ => by kernel_rfl) ⟨⟨⟨⟨⟨⟨⟨⟨⟨⟨⟨⟨⟨trivial, ?_⟩, ?_⟩, ?_⟩, ?_⟩, ?_⟩, ?_⟩, ?_⟩, ?_⟩, ?_⟩, ?_⟩, ?_⟩, ?_⟩, ?_⟩
  · exact o_run 0 [] [] (fun _ _ => []) (fun _ _ => by kernel_rfl)
  · exact o_run 1 [0] [] (fun _ _ => [nb ρ1 0, nb ρ1 0, nb ρ1 0, nb ρ1 0]) (fun _ _ => by kernel_rfl)
  · exact o_run 2 [1] [] (fun _ _ => [nb ρ1 1, nb ρ1 1, nb ρ1 1, nb ρ1 1]) (fun _ _ => by kernel_rfl)
  · exact o_call 3 96 (fun _ => #[(U 0), (U a), (U m)]) (fun _ => (.tuple #[(U (divQ 0 a m)), (U (divR 0 a m)), (.bool (decide (0 < m)))])) (fun _ _ => by kernel_rfl) (fun _ w => (fun w => div_any 0 a m w (by decide +kernel) ha hm) w)
  · exact o_run 4 [] [] (fun _ _ => []) (fun _ _ => by kernel_rfl)
  · exact o_run 5 [] [] (fun _ _ => []) (fun _ _ => by kernel_rfl)
  · exact o_run 6 [] [] (fun _ _ => []) (fun _ _ => by kernel_rfl)
  · exact o_run 7 [] [] (fun _ _ => []) (fun _ _ => by kernel_rfl)
  · exact o_run 8 [] [] (fun _ _ => []) (fun _ _ => by kernel_rfl)
  · exact o_run 9 [] [] (fun _ _ => []) (fun _ _ => by kernel_rfl)
  · exact o_run 10 [67] [] (fun ρ _ => [nb ρ 8, nb ρ 8, nb ρ 8, nb ρ 8]) (fun _ _ => by kernel_rfl)
  · exact o_run 11 [75] [] (fun ρ _ => [nb ρ 9, nb ρ 9, nb ρ 9, nb ρ 9]) (fun _ _ => by kernel_rfl)
  · exact o_run 12 [] [] (fun _ _ => []) (fun _ _ => by kernel_rfl)
theorem reduce_w_r5 (a : Nat) (m : Nat) (ρ1 : Nat → Orc) (ρ4 : Nat → Orc) (w0 : World) (F : World → Prop) : Reg Tryd.prog 4 (regOps Tryd.f94 4) false 22 [(4, (pt (nb ρ1 2))), (6, (pt (nb ρ4 9)))] w0 [(nb ρ1 0, (.cells (cU a) 24 (0, 0))), (nb ρ1 1, (.cells (cU m) 24 (0, 0))), (nb ρ1 2, (.cells (cU 0) 24 (0, 0))), (nb ρ4 8, (.cells (cU (divQ 0 a m)) 24 (0, 0))), (nb ρ4 9, (.cells (cU (divR 0 a m)) 24 (0, 0)))] F
    (fun _ => [(4, (pt (nb ρ1 2)))])
    (fun _ => [(nb ρ1 0, (.cells (cU a) 24 (0, 0))), (nb ρ1 1, (.cells (cU m) 24 (0, 0))), (nb ρ1 2, (.cells (cU (divR 0 a m)) 24 (0, 0))), (nb ρ4 8, (.cells (cU (divQ 0 a m)) 24 (0, 0))), (nb ρ4 9, (.cells (cU (divR 0 a m)) 24 (0, 0)))]) := by
  refine reg_seq [0, 1] [4] 2
    (fun _ ι => ([(U (divR 0 a m)), undef] : List Value).getD ι undef)
    (fun _ ι => ([{}, { puts := [(2, (.cells (cU (divR 0 a m)) 24 (0, 0)))] }] : List Eff).getD ι {})
    (by kernel_rfl) (by kernel_rfl) (fun _ => by kernel_rfl) (fun _ => by kernel_rfl) ⟨⟨trivial, ?_⟩, ?_⟩
  · exact o_run 0 [4] [] (fun _ _ => [nb ρ4 9, nb ρ4 9, nb ρ4 9, nb ρ4 9]) (fun _ _ => by kernel_rfl)
  · exact o_run 1 [2] [] (fun _ _ => [nb ρ1 2, nb ρ1 2, nb ρ1 2, nb ρ1 2]) (fun _ _ => by kernel_rfl)
theorem reduce_w (a : Nat) (m : Nat) (ha : a < M) (hm : m < M) (w0 : World) : Calls Tryd.prog 94 #[(U a), (U m)] w0 (fun ε w' => ε = .returned (U (redN a m)) ∧ Below w0.heap.size w0 w') := by
  refine Calls.of_ok (n := 22) (F := (fun _ => True)) Tryd.func94 rfl rfl rfl (by simp) (persTrue (fun _ => trivial)) ?_
  refine ok_seq_r (by kernel_rfl) (reduce_w_r1 a m _ _) (fun ρ1 => ?_)
  refine ok_seq ?_
  refine ok_seq_r (by kernel_rfl) (reduce_w_r2 a m ha hm ρ1 _ _) (fun _ => ?_)
  refine ok_cond (b := decide ((cmpN a m) < 0)) (by kernel_rfl) (fun hb1 => ?_) (fun hb1 => ?_)
  ·
    rw [hb1]
    refine ok_seq_r (by kernel_rfl) (reduce_w_r3 a m ρ1 _ _) (fun _ => ?_)
    refine ok_ret ?_
    refine mt_then_r ?_
    exact meets_ret (v := (U a)) [2, 2, 2, 2] (dup [nb ρ1 2, nb ρ1 2, nb ρ1 2, nb ρ1 2]) (by kernel_rfl) (by kernel_rfl) (eqs_dup _) (fun _ hS => ⟨congrArg (fun x => Ending.returned (U x)) (red_lt hb1), hS.below⟩)
  ·
    rw [hb1]
    refine ok_skip ?_
    refine mt_then ?_
    refine ok_seq_r (by kernel_rfl) (reduce_w_r4 a m ha hm ρ1 _ _) (fun ρ4 => ?_)
    refine ok_seq_r (by kernel_rfl) (reduce_w_r5 a m ρ1 ρ4 _ _) (fun _ => ?_)
    refine ok_ret ?_
    exact meets_ret (v := (U (divR 0 a m))) [2, 2, 2, 2] (dup [nb ρ1 2, nb ρ1 2, nb ρ1 2, nb ρ1 2]) (by kernel_rfl) (by kernel_rfl) (eqs_dup _) (fun _ hS => ⟨congrArg (fun x => Ending.returned (U x)) (red_div hb1), hS.below⟩)
theorem reduce_any (a m : Nat) (w0 : World) (ha : a < M) (hm : m < M) : Calls Tryd.prog 94 #[U a, U m] w0 (fun ε w' => ε = .returned (U (redN a m)) ∧ Below w0.heap.size w0 w') := reduce_w a m ha hm w0
theorem rreduce_w_r1 (a : Nat) (m : Nat) (w0 : World) (F : World → Prop) : Reg Tryd.prog 0 (regOps Tryd.f85 0) false 17 [(0, (U a)), (1, (U m))] w0 [] F
    (fun ρ => [(2, (pt (nb ρ 0))), (3, (pt (nb ρ 1))), (4, (pt (nb ρ 2)))])
    (fun ρ => [(nb ρ 0, (.cells (cU a) 24 (0, 0))), (nb ρ 1, (.cells (cU m) 24 (0, 0))), (nb ρ 2, (.cells (cU 0) 24 (0, 0)))]) := by
  refine reg_seq [0, 1, 3] [2, 3, 4] 3
    (fun ρ ι => ([(pt (nb ρ 0)), (pt (nb ρ 1)), (pt (nb ρ 2))] : List Value).getD ι undef)
    (fun ρ ι => ([{ news := [(nb ρ 0, (.cells (cU a) 24 (0, 0)))] }, { news := [(nb ρ 1, (.cells (cU m) 24 (0, 0)))] }, { news := [(nb ρ 2, (.cells (cU 0) 24 (0, 0)))] }] : List Eff).getD ι {})
    (by kernel_rfl) (by kernel_rfl) (fun _ => by kernel_rfl) (fun _ => by kernel_rfl) ⟨⟨⟨trivial, ?_⟩, ?_⟩, ?_⟩
  · exact o_run 0 [] [] (fun _ _ => []) (fun _ _ => by kernel_rfl)
  · exact o_run 1 [] [] (fun _ _ => []) (fun _ _ => by kernel_rfl)
  · exact o_run 2 [] [] (fun _ _ => []) (fun _ _ => by kernel_rfl)
theorem rreduce_w_r2 (a : Nat) (m : Nat) (ha : a < M) (hm : m < M) (ρ1 : Nat → Orc) (w0 : World) (F : World → Prop) : Reg Tryd.prog 1 (regOps Tryd.f85 1) false 17 [(2, (pt (nb ρ1 0))), (3, (pt (nb ρ1 1))), (4, (pt (nb ρ1 2)))] w0 [(nb ρ1 0, (.cells (cU a) 24 (0, 0))), (nb ρ1 1, (.cells (cU m) 24 (0, 0))), (nb ρ1 2, (.cells (cU 0) 24 (0, 0)))] F
    (fun ρ => [(4, (pt (nb ρ1 2))), (6, (pt (nb ρ 9)))])
    (fun ρ => [(nb ρ1 0, (.cells (cU a) 24 (0, 0))), (nb ρ1 1, (.cells (cU m) 24 (0, 0))), (nb ρ1 2, (.cells (cU 0) 24 (0, 0))), (nb ρ 8, (.cells (cU (divQ 0 a m)) 24 (0, 0))), (nb ρ 9, (.cells (cU (divR 0 a m)) 24 (0, 0)))]) := by
  refine reg_seq [0, 1, 3, 7, 15, 31, 63, 127, 255, 511, 1023, 2047, 4095] [4, 6] 13
    (fun ρ ι => ([(U 0), (U a), (U m), (.tuple #[(U (divQ 0 a m)), (U (divR 0 a m)), (.bool (decide (0 < m)))]), (.tuple #[(U (divQ 0 a m)), (U (divR 0 a m)), (.bool (decide (0 < m)))]), (U (divQ 0 a m)), (U (divR 0 a m)), (.bool (decide (0 < m))), (pt (nb ρ 8)), (pt (nb ρ 9)), undef, undef, (.bool (decide (0 < m)))] : List Value).getD ι undef)
    (fun ρ ι => ([{}, {}, {}, {}, {}, {}, {}, {}, { news := [(nb ρ 8, (.cells (cU 0) 24 (0, 0)))] }, { news := [(nb ρ 9, (.cells (cU 0) 24 (0, 0)))] }, { puts := [(67, (.cells (cU (divQ 0 a m)) 24 (0, 0)))] }, { puts := [(75, (.cells (cU (divR 0 a m)) 24 (0, 0)))] }, {}] : List Eff).getD ι {})
    (by kernel_rfl) (by kernel_rfl) (fun _ => by kernel_rfl) (fun _ => by kernel_rfl) ⟨⟨⟨⟨⟨⟨⟨⟨⟨⟨⟨⟨⟨trivial, ?_⟩, ?_⟩, ?_⟩, ?_⟩, ?_⟩, ?_⟩, ?_⟩, ?_⟩, ?_⟩, ?_⟩, ?_⟩, ?_⟩, ?_⟩
  · exact o_run 0 [] [] (fun _ _ => []) (fun _ _ => by kernel_rfl)
  · exact o_run 1 [0] [] (fun _ _ => [nb ρ1 0, nb ρ1 0, nb ρ1 0, nb ρ1 0]) (fun _ _ => by kernel_rfl)
  · exact o_run 2 [1] [] (fun _ _ => [nb ρ1 1, nb ρ1 1, nb ρ1 1, nb ρ1 1]) (fun _ _ => by kernel_rfl)
  · exact o_call 3 98 (fun _ => #[(U 0), (U a), (U m)]) (fun _ => (.tuple #[(U (divQ 0 a m)), (U (divR 0 a m)), (.bool (decide (0 < m)))])) (fun _ _ => by kernel_rfl) (fun _ w => (fun w => rdiv_any 0 a m w (by decide +kernel) ha hm) w)
  · exact o_run 4 [] [] (fun _ _ => []) (fun _ _ => by kernel_rfl)
  · exact o_run 5 [] [] (fun _ _ => []) (fun _ _ => by kernel_rfl)
  · exact o_run 6 [] [] (fun _ _ => []) (fun _ _ => by kernel_rfl)
  · exact o_run 7 [] [] (fun _ _ => []) (fun _ _ => by kernel_rfl)
  · exact o_run 8 [] [] (fun _ _ => []) (fun _ _ => by kernel_rfl)
  · exact o_run 9 [] [] (fun _ _ => []) (fun _ _ => by kernel_rfl)
  · exact o_run 10 [67] [] (fun ρ _ => [nb ρ 8, nb ρ 8, nb ρ 8, nb ρ 8]) (fun _ _ => by kernel_rfl)
  · exact o_run 11 [75] [] (fun ρ _ => [nb ρ 9, nb ρ 9, nb ρ 9, nb ρ 9]) (fun _ _ => by kernel_rfl)
  · exact o_run 12 [] [] (fun _ _ => []) (fun _ _ => by kernel_rfl)
theorem rreduce_w_r3 (a : Nat) (m : Nat) (ρ1 : Nat → Orc) (ρ2 : Nat → Orc) (w0 : World) (F : World → Prop) : Reg Tryd.prog 2 (regOps Tryd.f85 2) false 17 [(4, (pt (nb ρ1 2))), (6, (pt (nb ρ2 9)))] w0 [(nb ρ1 0, (.cells (cU a) 24 (0, 0))), (nb ρ1 1, (.cells (cU m) 24 (0, 0))), (nb ρ1 2, (.cells (cU 0) 24 (0, 0))), (nb ρ2 8, (.cells (cU (divQ 0 a m)) 24 (0, 0))), (nb ρ2 9, (.cells (cU (divR 0 a m)) 24 (0, 0)))] F
    (fun _ => [(4, (pt (nb ρ1 2)))])
    (fun _ => [(nb ρ1 0, (.cells (cU a) 24 (0, 0))), (nb ρ1 1, (.cells (cU m) 24 (0, 0))), (nb ρ1 2, (.cells (cU (divR 0 a m)) 24 (0, 0))), (nb ρ2 8, (.cells (cU (divQ 0 a m)) 24 (0, 0))), (nb ρ2 9, (.cells (cU (divR 0 a m)) 24 (0, 0)))]) := by
  refine reg_seq [0, 1] [4] 2
    (fun _ ι => ([(U (divR 0 a m)), undef] : List Value).getD ι undef)
    (fun _ ι => ([{}, { puts := [(2, (.cells (cU (divR 0 a m)) 24 (0, 0)))] }] : List Eff).getD ι {})
    (by kernel_rfl) (by kernel_rfl) (fun _ => by kernel_rfl) (fun _ => by kernel_rfl) ⟨⟨trivial, ?_⟩, ?_⟩
  · exact o_run 0 [4] [] (fun _ _ => [nb ρ2 9, nb ρ2 9, nb ρ2 9, nb ρ2 9]) (fun _ _ => by kernel_rfl)
  · exact o_run 1 [2] [] (fun _ _ => [nb ρ1 2, nb ρ1 2, nb ρ1 2, nb ρ1 2]) (fun _ _ => by kernel_rfl)
theorem rreduce_w (a : Nat) (m : Nat) (ha : a < M) (hm : m < M) (w0 : World) : Calls Tryd.prog 85 #[(U a), (U m)] w0 (fun ε w' => ε = .returned (U (redN a m)) ∧ Below w0.heap.size w0 w') := by
  refine Calls.of_ok (n := 17) (F := (fun _ => True)) Tryd.func85 rfl rfl rfl (by simp) (persTrue (fun _ => trivial)) ?_
  refine ok_seq_r (by kernel_rfl) (rreduce_w_r1 a m _ _) (fun ρ1 => ?_)
  refine ok_seq_r (by kernel_rfl) (rreduce_w_r2 a m ha hm ρ1 _ _) (fun ρ2 => ?_)
  refine ok_seq_r (by kernel_rfl) (rreduce_w_r3 a m ρ1 ρ2 _ _) (fun _ => ?_)
  refine ok_ret ?_
  exact meets_ret (v := (U (divR 0 a m))) [2, 2, 2, 2] (dup [nb ρ1 2, nb ρ1 2, nb ρ1 2, nb ρ1 2]) (by kernel_rfl) (by kernel_rfl) (eqs_dup _) (fun _ hS => ⟨congrArg (fun x => Ending.returned (U x)) (red_div0 a m), hS.below⟩)
theorem rreduce_any (a m : Nat) (w0 : World) (ha : a < M) (hm : m < M) : Calls Tryd.prog 85 #[U a, U m] w0 (fun ε w' => ε = .returned (U (redN a m)) ∧ Below w0.heap.size w0 w') := rreduce_w a m ha hm w0
end Go.Proofs.YtoibhbmcplhiaaaDoor
