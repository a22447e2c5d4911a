/-
  Shifts: the walks.
-/
import Derived.Test.YtoibhbmcplhiaaaDoorGhost6
import Derived.Test.YtoibhbmcplhiaaaDoorShiftNum
import Derived.Test.YtoibhbmcplhiaaaDoorRLen
namespace Go.Proofs.YtoibhbmcplhiaaaDoor
open Go Go.RowKit
set_option maxRecDepth 100000
theorem rshr_neg_r1 (a : Nat) (n : Int) (w0 : World) (F : World → Prop) : Reg Tryd.prog 0 (regOps Tryd.f83 0) false 34 [(0, (U a)), (1, (.int .i64 n))] w0 [] F
    (fun ρ => [(1, (.int .i64 n)), (2, (pt (nb ρ 0))), (4, (pt (nb ρ 1)))])
    (fun ρ => [(nb ρ 0, (.cells (cU a) 24 (0, 0))), (nb ρ 1, (.cells (cU 0) 24 (0, 0)))]) := by
  refine reg_seq [0, 1] [1, 2, 4] 2
    (fun ρ ι => ([(pt (nb ρ 0)), (pt (nb ρ 1))] : List Value).getD ι undef)
    (fun ρ ι => ([{ news := [(nb ρ 0, (.cells (cU a) 24 (0, 0)))] }, { news := [(nb ρ 1, (.cells (cU 0) 24 (0, 0)))] }] : List Eff).getD ι {})
    (by kernel_rfl) (by kernel_rfl) (fun _ => by kernel_rfl) (fun _ => by kernel_rfl) ⟨⟨trivial, ?_⟩, ?_⟩
  · exact o_run 0 [] [] (fun _ _ => []) (fun _ _ => by kernel_rfl)
  · exact o_run 1 [] [] (fun _ _ => []) (fun _ _ => by kernel_rfl)
theorem rshr_neg_r2 (a : Nat) (n : Int) (hk0 : decide (n ≤ 0) = true) (ρ1 : Nat → Orc) (w0 : World) (F : World → Prop) : Reg Tryd.prog 1 (regOps Tryd.f83 1) false 34 [(1, (.int .i64 n)), (2, (pt (nb ρ1 0))), (4, (pt (nb ρ1 1)))] w0 [(nb ρ1 0, (.cells (cU a) 24 (0, 0))), (nb ρ1 1, (.cells (cU 0) 24 (0, 0)))] F
    (fun _ => [(1, (.int .i64 n)), (2, (pt (nb ρ1 0))), (4, (pt (nb ρ1 1))), (8, (.bool true))])
    (fun _ => [(nb ρ1 0, (.cells (cU a) 24 (0, 0))), (nb ρ1 1, (.cells (cU 0) 24 (0, 0)))]) := by
  refine reg_seq [0, 1] [1, 2, 4, 8] 2
    (fun _ ι => ([(.int .i64 n), (.bool true)] : List Value).getD ι undef)
    (fun _ ι => ([{}, {}] : List Eff).getD ι {})
    (by kernel_rfl) (by kernel_rfl) (fun _ => by kernel_rfl) (fun _ => by kernel_rfl) ⟨⟨trivial, ?_⟩, ?_⟩
  · exact o_run 0 [] [] (fun _ _ => []) (fun _ _ => by kernel_rfl)
  · exact o_as 1 (fun _ => (.bool (decide (n ≤ 0)))) (fun _ => (.bool true)) (fun _ _ => by kernel_rfl) (fun _ => congrArg Value.bool hk0)
theorem rshr_neg_r3 (a : Nat) (n : Int) (ρ1 : Nat → Orc) (w0 : World) (F : World → Prop) : Reg Tryd.prog 2 (regOps Tryd.f83 2) false 34 [(1, (.int .i64 n)), (2, (pt (nb ρ1 0))), (4, (pt (nb ρ1 1))), (8, (.bool true))] w0 [(nb ρ1 0, (.cells (cU a) 24 (0, 0))), (nb ρ1 1, (.cells (cU 0) 24 (0, 0)))] F
    (fun _ => [(1, (.int .i64 n)), (2, (pt (nb ρ1 0))), (4, (pt (nb ρ1 1)))])
    (fun _ => [(nb ρ1 0, (.cells (cU a) 24 (0, 0))), (nb ρ1 1, (.cells (cU a) 24 (0, 0)))]) := by
  refine reg_seq [0, 1] [1, 2, 4] 2
    (fun _ ι => ([(U a), undef] : List Value).getD ι undef)
    (fun _ ι => ([{}, { puts := [(1, (.cells (cU a) 24 (0, 0)))] }] : List Eff).getD ι {})
    (by kernel_rfl) (by kernel_rfl) (fun _ => by kernel_rfl) (fun _ => by kernel_rfl) ⟨⟨trivial, ?_⟩, ?_⟩
  · exact o_run 0 [0] [] (fun _ _ => [nb ρ1 0, nb ρ1 0, nb ρ1 0, nb ρ1 0]) (fun _ _ => by kernel_rfl)
  · exact o_run 1 [1] [] (fun _ _ => [nb ρ1 1, nb ρ1 1, nb ρ1 1, nb ρ1 1]) (fun _ _ => by kernel_rfl)
theorem rshr_neg (a : Nat) (n : Int) (hn : n ≤ 0) (w0 : World) : Calls Tryd.prog 83 #[(U a), (.int .i64 n)] w0 (fun ε w' => ε = .returned (U a) ∧ Below w0.heap.size w0 w') := by
  refine Calls.of_ok (n := 34) (F := (fun _ => True)) Tryd.func83 rfl rfl rfl (by simp) (persTrue (fun _ => trivial)) ?_
  have hk0 : decide (n ≤ 0) = true := decide_eq_true hn
  refine ok_seq_r (by kernel_rfl) (rshr_neg_r1 a n _ _) (fun ρ1 => ?_)
  refine ok_seq ?_
  refine ok_seq_r (by kernel_rfl) (rshr_neg_r2 a n hk0 ρ1 _ _) (fun _ => ?_)
  refine ok_yes (by kernel_rfl) ?_
  refine ok_seq_r (by kernel_rfl) (rshr_neg_r3 a n ρ1 _ _) (fun _ => ?_)
  refine ok_ret ?_
  refine mt_then_r ?_
  exact meets_ret (v := (U a)) [1, 1, 1, 1] (dup [nb ρ1 1, nb ρ1 1, nb ρ1 1, nb ρ1 1]) (by kernel_rfl) (by kernel_rfl) (eqs_dup _) (fun _ hS => ⟨rfl, hS.below⟩)
theorem rshr_big_r1 (a : Nat) (n : Int) (w0 : World) (F : World → Prop) : Reg Tryd.prog 0 (regOps Tryd.f83 0) false 34 [(0, (U a)), (1, (.int .i64 n))] w0 [] F
    (fun ρ => [(1, (.int .i64 n)), (2, (pt (nb ρ 0))), (4, (pt (nb ρ 1)))])
    (fun ρ => [(nb ρ 0, (.cells (cU a) 24 (0, 0))), (nb ρ 1, (.cells (cU 0) 24 (0, 0)))]) := by
  refine reg_seq [0, 1] [1, 2, 4] 2
    (fun ρ ι => ([(pt (nb ρ 0)), (pt (nb ρ 1))] : List Value).getD ι undef)
    (fun ρ ι => ([{ news := [(nb ρ 0, (.cells (cU a) 24 (0, 0)))] }, { news := [(nb ρ 1, (.cells (cU 0) 24 (0, 0)))] }] : List Eff).getD ι {})
    (by kernel_rfl) (by kernel_rfl) (fun _ => by kernel_rfl) (fun _ => by kernel_rfl) ⟨⟨trivial, ?_⟩, ?_⟩
  · exact o_run 0 [] [] (fun _ _ => []) (fun _ _ => by kernel_rfl)
  · exact o_run 1 [] [] (fun _ _ => []) (fun _ _ => by kernel_rfl)
theorem rshr_big_r2 (a : Nat) (n : Int) (hk0 : decide (n ≤ 0) = false) (ρ1 : Nat → Orc) (w0 : World) (F : World → Prop) : Reg Tryd.prog 1 (regOps Tryd.f83 1) false 34 [(1, (.int .i64 n)), (2, (pt (nb ρ1 0))), (4, (pt (nb ρ1 1)))] w0 [(nb ρ1 0, (.cells (cU a) 24 (0, 0))), (nb ρ1 1, (.cells (cU 0) 24 (0, 0)))] F
    (fun _ => [(1, (.int .i64 n)), (2, (pt (nb ρ1 0))), (4, (pt (nb ρ1 1))), (8, (.bool false))])
    (fun _ => [(nb ρ1 0, (.cells (cU a) 24 (0, 0))), (nb ρ1 1, (.cells (cU 0) 24 (0, 0)))]) := by
  refine reg_seq [0, 1] [1, 2, 4, 8] 2
    (fun _ ι => ([(.int .i64 n), (.bool false)] : List Value).getD ι undef)
    (fun _ ι => ([{}, {}] : List Eff).getD ι {})
    (by kernel_rfl) (by kernel_rfl) (fun _ => by kernel_rfl) (fun _ => by kernel_rfl) ⟨⟨trivial, ?_⟩, ?_⟩
  · exact o_run 0 [] [] (fun _ _ => []) (fun _ _ => by kernel_rfl)
  · exact o_as 1 (fun _ => (.bool (decide (n ≤ 0)))) (fun _ => (.bool false)) (fun _ _ => by kernel_rfl) (fun _ => congrArg Value.bool hk0)
theorem rshr_big_r3 (a : Nat) (n : Int) (hk1 : decide (256 ≤ n) = true) (ρ1 : Nat → Orc) (w0 : World) (F : World → Prop) : Reg Tryd.prog 3 (regOps Tryd.f83 3) false 34 [(1, (.int .i64 n)), (2, (pt (nb ρ1 0))), (4, (pt (nb ρ1 1))), (8, (.bool false))] w0 [(nb ρ1 0, (.cells (cU a) 24 (0, 0))), (nb ρ1 1, (.cells (cU 0) 24 (0, 0)))] F
    (fun _ => [(1, (.int .i64 n)), (2, (pt (nb ρ1 0))), (4, (pt (nb ρ1 1))), (11, (.bool true))])
    (fun _ => [(nb ρ1 0, (.cells (cU a) 24 (0, 0))), (nb ρ1 1, (.cells (cU 0) 24 (0, 0)))]) := by
  refine reg_seq [0, 1] [1, 2, 4, 11] 2
    (fun _ ι => ([(.int .i64 n), (.bool true)] : List Value).getD ι undef)
    (fun _ ι => ([{}, {}] : List Eff).getD ι {})
    (by kernel_rfl) (by kernel_rfl) (fun _ => by kernel_rfl) (fun _ => by kernel_rfl) ⟨⟨trivial, ?_⟩, ?_⟩
  · exact o_run 0 [] [] (fun _ _ => []) (fun _ _ => by kernel_rfl)
  · exact o_as 1 (fun _ => (.bool (decide (256 ≤ n)))) (fun _ => (.bool true)) (fun _ _ => by kernel_rfl) (fun _ => congrArg Value.bool hk1)
theorem rshr_big_r4 (a : Nat) (n : Int) (ρ1 : Nat → Orc) (w0 : World) (F : World → Prop) : Reg Tryd.prog 4 (regOps Tryd.f83 4) false 34 [(1, (.int .i64 n)), (2, (pt (nb ρ1 0))), (4, (pt (nb ρ1 1))), (11, (.bool true))] w0 [(nb ρ1 0, (.cells (cU a) 24 (0, 0))), (nb ρ1 1, (.cells (cU 0) 24 (0, 0)))] F
    (fun _ => [(1, (.int .i64 n)), (2, (pt (nb ρ1 0))), (4, (pt (nb ρ1 1)))])
    (fun _ => [(nb ρ1 0, (.cells (cU a) 24 (0, 0))), (nb ρ1 1, (.cells (cU 0) 24 (0, 0)))]) := by
  refine reg_seq [0, 1] [1, 2, 4] 2
    (fun _ ι => ([(U 0), undef] : List Value).getD ι undef)
    (fun _ ι => ([{}, { puts := [(1, (.cells (cU 0) 24 (0, 0)))] }] : List Eff).getD ι {})
    (by kernel_rfl) (by kernel_rfl) (fun _ => by kernel_rfl) (fun _ => by kernel_rfl) ⟨⟨trivial, ?_⟩, ?_⟩
  · exact o_run 0 [] [] (fun _ _ => []) (fun _ _ => by kernel_rfl)
  · exact o_run 1 [1] [] (fun _ _ => [nb ρ1 1, nb ρ1 1, nb ρ1 1, nb ρ1 1]) (fun _ _ => by kernel_rfl)
theorem rshr_big (a : Nat) (n : Int) (hn : 256 ≤ n) (w0 : World) : Calls Tryd.prog 83 #[(U a), (.int .i64 n)] w0 (fun ε w' => ε = .returned (U 0) ∧ Below w0.heap.size w0 w') := by
  refine Calls.of_ok (n := 34) (F := (fun _ => True)) Tryd.func83 rfl rfl rfl (by simp) (persTrue (fun _ => trivial)) ?_
  have hk0 : decide (n ≤ 0) = false := decide_eq_false (by omega)
  have hk1 : decide (256 ≤ n) = true := decide_eq_true hn
  refine ok_seq_r (by kernel_rfl) (rshr_big_r1 a n _ _) (fun ρ1 => ?_)
  refine ok_seq ?_
  refine ok_seq_r (by kernel_rfl) (rshr_big_r2 a n hk0 ρ1 _ _) (fun _ => ?_)
  refine ok_no (by kernel_rfl) ?_
  refine ok_skip ?_
  refine mt_then ?_
  refine ok_seq ?_
  refine ok_seq_r (by kernel_rfl) (rshr_big_r3 a n hk1 ρ1 _ _) (fun _ => ?_)
  refine ok_yes (by kernel_rfl) ?_
  refine ok_seq_r (by kernel_rfl) (rshr_big_r4 a n ρ1 _ _) (fun _ => ?_)
  refine ok_ret ?_
  refine mt_then_r ?_
  exact meets_ret (v := (U 0)) [1, 1, 1, 1] (dup [nb ρ1 1, nb ρ1 1, nb ρ1 1, nb ρ1 1]) (by kernel_rfl) (by kernel_rfl) (eqs_dup _) (fun _ hS => ⟨rfl, hS.below⟩)
theorem run_shl1 {P : Program} {t : TypeId} (k : Nat) (h : k < 64) (w : World) : (binOp .shl t (.int .u64 1) (.int .i64 (k : Int))).run P w = .ok (.int .u64 (2 ^ k)) w := by
  rw [run_shl]
  unfold shlW
  rw [Nat.min_eq_left (by omega), Int.one_mul, pow_in k h]
theorem rshr_mid_r1 (a : Nat) (m : Nat) (w0 : World) (F : World → Prop) : Reg Tryd.prog 0 (regOps Tryd.f83 0) false 34 [(0, (U a)), (1, (.int .i64 ((m : Nat) : Int)))] w0 [] F
    (fun ρ => [(1, (.int .i64 ((m : Nat) : Int))), (2, (pt (nb ρ 0))), (4, (pt (nb ρ 1)))])
    (fun ρ => [(nb ρ 0, (.cells (cU a) 24 (0, 0))), (nb ρ 1, (.cells (cU 0) 24 (0, 0)))]) := by
  refine reg_seq [0, 1] [1, 2, 4] 2
    (fun ρ ι => ([(pt (nb ρ 0)), (pt (nb ρ 1))] : List Value).getD ι undef)
    (fun ρ ι => ([{ news := [(nb ρ 0, (.cells (cU a) 24 (0, 0)))] }, { news := [(nb ρ 1, (.cells (cU 0) 24 (0, 0)))] }] : List Eff).getD ι {})
    (by kernel_rfl) (by kernel_rfl) (fun _ => by kernel_rfl) (fun _ => by kernel_rfl) ⟨⟨trivial, ?_⟩, ?_⟩
  · exact o_run 0 [] [] (fun _ _ => []) (fun _ _ => by kernel_rfl)
  · exact o_run 1 [] [] (fun _ _ => []) (fun _ _ => by kernel_rfl)
theorem rshr_mid_r2 (a : Nat) (m : Nat) (hk0 : decide (((m : Nat) : Int) ≤ 0) = false) (ρ1 : Nat → Orc) (w0 : World) (F : World → Prop) : Reg Tryd.prog 1 (regOps Tryd.f83 1) false 34 [(1, (.int .i64 ((m : Nat) : Int))), (2, (pt (nb ρ1 0))), (4, (pt (nb ρ1 1)))] w0 [(nb ρ1 0, (.cells (cU a) 24 (0, 0))), (nb ρ1 1, (.cells (cU 0) 24 (0, 0)))] F
    (fun _ => [(1, (.int .i64 ((m : Nat) : Int))), (2, (pt (nb ρ1 0))), (4, (pt (nb ρ1 1))), (8, (.bool false))])
    (fun _ => [(nb ρ1 0, (.cells (cU a) 24 (0, 0))), (nb ρ1 1, (.cells (cU 0) 24 (0, 0)))]) := by
  refine reg_seq [0, 1] [1, 2, 4, 8] 2
    (fun _ ι => ([(.int .i64 ((m : Nat) : Int)), (.bool false)] : List Value).getD ι undef)
    (fun _ ι => ([{}, {}] : List Eff).getD ι {})
    (by kernel_rfl) (by kernel_rfl) (fun _ => by kernel_rfl) (fun _ => by kernel_rfl) ⟨⟨trivial, ?_⟩, ?_⟩
  · exact o_run 0 [] [] (fun _ _ => []) (fun _ _ => by kernel_rfl)
  · exact o_as 1 (fun _ => (.bool (decide (((m : Nat) : Int) ≤ 0)))) (fun _ => (.bool false)) (fun _ _ => by kernel_rfl) (fun _ => congrArg Value.bool hk0)
theorem rshr_mid_r3 (a : Nat) (m : Nat) (hk1 : decide (256 ≤ ((m : Nat) : Int)) = false) (ρ1 : Nat → Orc) (w0 : World) (F : World → Prop) : Reg Tryd.prog 3 (regOps Tryd.f83 3) false 34 [(1, (.int .i64 ((m : Nat) : Int))), (2, (pt (nb ρ1 0))), (4, (pt (nb ρ1 1))), (8, (.bool false))] w0 [(nb ρ1 0, (.cells (cU a) 24 (0, 0))), (nb ρ1 1, (.cells (cU 0) 24 (0, 0)))] F
    (fun _ => [(1, (.int .i64 ((m : Nat) : Int))), (2, (pt (nb ρ1 0))), (4, (pt (nb ρ1 1))), (11, (.bool false))])
    (fun _ => [(nb ρ1 0, (.cells (cU a) 24 (0, 0))), (nb ρ1 1, (.cells (cU 0) 24 (0, 0)))]) := by
  refine reg_seq [0, 1] [1, 2, 4, 11] 2
    (fun _ ι => ([(.int .i64 ((m : Nat) : Int)), (.bool false)] : List Value).getD ι undef)
    (fun _ ι => ([{}, {}] : List Eff).getD ι {})
    (by kernel_rfl) (by kernel_rfl) (fun _ => by kernel_rfl) (fun _ => by kernel_rfl) ⟨⟨trivial, ?_⟩, ?_⟩
  · exact o_run 0 [] [] (fun _ _ => []) (fun _ _ => by kernel_rfl)
  · exact o_as 1 (fun _ => (.bool (decide (256 ≤ ((m : Nat) : Int))))) (fun _ => (.bool false)) (fun _ _ => by kernel_rfl) (fun _ => congrArg Value.bool hk1)
theorem rshr_mid_r4 (a : Nat) (m : Nat) (ρ1 : Nat → Orc) (w0 : World) (F : World → Prop) : Reg Tryd.prog 5 (regOps Tryd.f83 5) false 34 [(1, (.int .i64 ((m : Nat) : Int))), (2, (pt (nb ρ1 0))), (4, (pt (nb ρ1 1))), (11, (.bool false))] w0 [(nb ρ1 0, (.cells (cU a) 24 (0, 0))), (nb ρ1 1, (.cells (cU 0) 24 (0, 0)))] F
    (fun ρ => [(1, (.int .i64 ((m : Nat) : Int))), (2, (pt (nb ρ1 0))), (4, (pt (nb ρ1 1))), (5, (pt (nb ρ 0)))])
    (fun ρ => [(nb ρ1 0, (.cells (cU a) 24 (0, 0))), (nb ρ1 1, (.cells (cU 0) 24 (0, 0))), (nb ρ 0, (.cells (cU 0) 24 (0, 0)))]) := by
  refine reg_seq [0] [1, 2, 4, 5] 1
    (fun ρ ι => ([(pt (nb ρ 0))] : List Value).getD ι undef)
    (fun ρ ι => ([{ news := [(nb ρ 0, (.cells (cU 0) 24 (0, 0)))] }] : List Eff).getD ι {})
    (by kernel_rfl) (by kernel_rfl) (fun _ => by kernel_rfl) (fun _ => by kernel_rfl) ⟨trivial, ?_⟩
  · exact o_run 0 [] [] (fun _ _ => []) (fun _ _ => by kernel_rfl)
theorem rshr_mid_r5 (a : Nat) (m : Nat) (ρ1 : Nat → Orc) (ρ4 : Nat → Orc) (w0 : World) (F : World → Prop) : Reg Tryd.prog 6 (regOps Tryd.f83 6) false 34 [(1, (.int .i64 ((m : Nat) : Int))), (2, (pt (nb ρ1 0))), (4, (pt (nb ρ1 1))), (5, (pt (nb ρ4 0)))] w0 [(nb ρ1 0, (.cells (cU a) 24 (0, 0))), (nb ρ1 1, (.cells (cU 0) 24 (0, 0))), (nb ρ4 0, (.cells (cU 0) 24 (0, 0)))] F
    (fun _ => [(1, (.int .i64 ((m : Nat) : Int))), (2, (pt (nb ρ1 0))), (4, (pt (nb ρ1 1))), (5, (pt (nb ρ4 0))), (6, (.int .i64 0))])
    (fun _ => [(nb ρ1 0, (.cells (cU a) 24 (0, 0))), (nb ρ1 1, (.cells (cU 0) 24 (0, 0))), (nb ρ4 0, (.cells (cU 0) 24 (0, 0)))]) := by
  refine reg_seq [0] [1, 2, 4, 5, 6] 1
    (fun _ ι => ([(.int .i64 0)] : List Value).getD ι undef)
    (fun _ ι => ([{}] : List Eff).getD ι {})
    (by kernel_rfl) (by kernel_rfl) (fun _ => by kernel_rfl) (fun _ => by kernel_rfl) ⟨trivial, ?_⟩
  · exact o_run 0 [] [] (fun _ _ => []) (fun _ _ => by kernel_rfl)
theorem rshr_mid_r6 (a : Nat) (m : Nat) (i : Nat) (b : Nat) (hi : i + m ≤ 256) (ρ1 : Nat → Orc) (ρ4 : Nat → Orc) (w0 : World) (F : World → Prop) : Reg Tryd.prog 7 (regOps Tryd.f83 7) false 34 [(1, (.int .i64 ((m : Nat) : Int))), (2, (pt (nb ρ1 0))), (4, (pt (nb ρ1 1))), (5, (pt (nb ρ4 0))), (6, (.int .i64 ((i : Nat) : Int)))] w0 [(nb ρ1 0, (.cells (cU a) 24 (0, 0))), (nb ρ1 1, (.cells (cU 0) 24 (0, 0))), (nb ρ4 0, (.cells (cU b) 24 (0, 0)))] F
    (fun _ => [(1, (.int .i64 ((m : Nat) : Int))), (2, (pt (nb ρ1 0))), (4, (pt (nb ρ1 1))), (5, (pt (nb ρ4 0))), (6, (.int .i64 ((i : Nat) : Int))), (16, (.bool (decide (((i + m : Nat) : Int) < 256))))])
    (fun _ => [(nb ρ1 0, (.cells (cU a) 24 (0, 0))), (nb ρ1 1, (.cells (cU 0) 24 (0, 0))), (nb ρ4 0, (.cells (cU b) 24 (0, 0)))]) := by
  refine reg_seq [0, 1, 3, 7] [1, 2, 4, 5, 6, 16] 4
    (fun _ ι => ([(.int .i64 ((i : Nat) : Int)), (.int .i64 ((m : Nat) : Int)), (.int .i64 ((i + m : Nat) : Int)), (.bool (decide (((i + m : Nat) : Int) < 256)))] : List Value).getD ι undef)
    (fun _ ι => ([{}, {}, {}, {}] : List Eff).getD ι {})
    (by kernel_rfl) (by kernel_rfl) (fun _ => by kernel_rfl) (fun _ => by kernel_rfl) ⟨⟨⟨⟨trivial, ?_⟩, ?_⟩, ?_⟩, ?_⟩
  · exact o_run 0 [] [] (fun _ _ => []) (fun _ _ => by kernel_rfl)
  · exact o_run 1 [] [] (fun _ _ => []) (fun _ _ => by kernel_rfl)
  · exact o_as 2 (fun _ => (.int .i64 (IntKind.i64.wrap (((i : Nat) : Int) + ((m : Nat) : Int))))) (fun _ => (.int .i64 ((i + m : Nat) : Int))) (fun _ _ => by kernel_rfl) (fun _ => congrArg (Value.int .i64) (wrap_add_nat i m (by have := hi; omega)))
  · exact o_run 3 [] [] (fun _ _ => []) (fun _ _ => by kernel_rfl)
theorem rshr_mid_r7 (a : Nat) (m : Nat) (i : Nat) (b : Nat) (hi : i + m ≤ 256) (hb1 : (decide (((i + m : Nat) : Int) < 256)) = true) (ρ1 : Nat → Orc) (ρ4 : Nat → Orc) (w0 : World) (F : World → Prop) : Reg Tryd.prog 9 (regOps Tryd.f83 9) false 34 [(1, (.int .i64 ((m : Nat) : Int))), (2, (pt (nb ρ1 0))), (4, (pt (nb ρ1 1))), (5, (pt (nb ρ4 0))), (6, (.int .i64 ((i : Nat) : Int))), (16, (.bool true))] w0 [(nb ρ1 0, (.cells (cU a) 24 (0, 0))), (nb ρ1 1, (.cells (cU 0) 24 (0, 0))), (nb ρ4 0, (.cells (cU b) 24 (0, 0)))] F
    (fun _ => [(1, (.int .i64 ((m : Nat) : Int))), (2, (pt (nb ρ1 0))), (4, (pt (nb ρ1 1))), (5, (pt (nb ρ4 0))), (6, (.int .i64 ((i : Nat) : Int))), (23, (.bool (bitN a (i + m))))])
    (fun _ => [(nb ρ1 0, (.cells (cU a) 24 (0, 0))), (nb ρ1 1, (.cells (cU 0) 24 (0, 0))), (nb ρ4 0, (.cells (cU b) 24 (0, 0)))]) := by
  refine reg_seq [0, 1, 3, 7, 15] [1, 2, 4, 5, 6, 23] 5
    (fun _ ι => ([(U a), (.int .i64 ((i : Nat) : Int)), (.int .i64 ((m : Nat) : Int)), (.int .i64 ((i + m : Nat) : Int)), (.bool (bitN a (i + m)))] : List Value).getD ι undef)
    (fun _ ι => ([{}, {}, {}, {}, {}] : List Eff).getD ι {})
    (by kernel_rfl) (by kernel_rfl) (fun _ => by kernel_rfl) (fun _ => by kernel_rfl) ⟨⟨⟨⟨⟨trivial, ?_⟩, ?_⟩, ?_⟩, ?_⟩, ?_⟩
  · exact o_run 0 [0] [] (fun _ _ => [nb ρ1 0, nb ρ1 0, nb ρ1 0, nb ρ1 0]) (fun _ _ => by kernel_rfl)
  · exact o_run 1 [] [] (fun _ _ => []) (fun _ _ => by kernel_rfl)
  · exact o_run 2 [] [] (fun _ _ => []) (fun _ _ => by kernel_rfl)
  · exact o_as 3 (fun _ => (.int .i64 (IntKind.i64.wrap (((i : Nat) : Int) + ((m : Nat) : Int))))) (fun _ => (.int .i64 ((i + m : Nat) : Int))) (fun _ _ => by kernel_rfl) (fun _ => congrArg (Value.int .i64) (wrap_add_nat i m (by have := hi; omega)))
  · exact o_call 4 100 (fun _ => #[(U a), (.int .i64 ((i + m : Nat) : Int))]) (fun _ => (.bool (bitN a (i + m)))) (fun _ _ => by kernel_rfl) (fun _ w => (fun w => rbit_any a (i + m) w (by have := of_decide_eq_true hb1; omega)) w)
theorem rshr_mid_r8 (a : Nat) (m : Nat) (i : Nat) (b : Nat) (hi : i + m ≤ 256) (hb : b = a / 2 ^ m % 2 ^ i) (hb1 : (decide (((i + m : Nat) : Int) < 256)) = true) (ρ1 : Nat → Orc) (ρ4 : Nat → Orc) (w0 : World) (F : World → Prop) : Reg Tryd.prog 10 (regOps Tryd.f83 10) true 34 [(1, (.int .i64 ((m : Nat) : Int))), (2, (pt (nb ρ1 0))), (4, (pt (nb ρ1 1))), (5, (pt (nb ρ4 0))), (6, (.int .i64 ((i : Nat) : Int))), (23, (.bool true))] w0 [(nb ρ1 0, (.cells (cU a) 24 (0, 0))), (nb ρ1 1, (.cells (cU 0) 24 (0, 0))), (nb ρ4 0, (.cells (cU b) 24 (0, 0)))] F
    (fun _ => [(1, (.int .i64 ((m : Nat) : Int))), (2, (pt (nb ρ1 0))), (4, (pt (nb ρ1 1))), (5, (pt (nb ρ4 0))), (6, (.int .i64 ((i : Nat) : Int)))])
    (fun _ => [(nb ρ1 0, (.cells (cU a) 24 (0, 0))), (nb ρ1 1, (.cells (cU 0) 24 (0, 0))), (nb ρ4 0, (.cells (cU (b + 2 ^ (64 * (i / 64) + i % 64))) 24 (0, 0)))]) := by
  refine reg_drawn [0, 1, 3, 7, 0, 16, 48, 127, 255, 511] [1, 2, 4, 5, 6] 10
    (fun _ ι => ([(.int .i64 ((i : Nat) : Int)), (.int .i64 ((i / 64 : Nat) : Int)), (.pointer (some ⟨nb ρ4 0, i / 64, none⟩)), (.int .u64 (wd b (i / 64))), (.int .i64 ((i : Nat) : Int)), (.int .i64 ((i % 64 : Nat) : Int)), (.int .u64 ((2 : Int) ^ (i % 64))), (.int .u64 (bits .or .u64 (wd b (i / 64)) ((2 : Int) ^ (i % 64)))), (.pointer (some ⟨nb ρ4 0, i / 64, none⟩)), undef] : List Value).getD ι undef)
    (fun _ ι => ([{}, {}, {}, {}, {}, {}, {}, {}, {}, { puts := [(2, (.cells (cU (b + 2 ^ (64 * (i / 64) + i % 64))) 24 (0, 0)))] }] : List Eff).getD ι {})
    (by kernel_rfl) (by kernel_rfl) (by kernel_rfl) (fun _ => by kernel_rfl) (fun _ => by kernel_rfl) ⟨⟨⟨⟨⟨⟨⟨⟨⟨⟨trivial, ?_⟩, ?_⟩, ?_⟩, ?_⟩, ?_⟩, ?_⟩, ?_⟩, ?_⟩, ?_⟩, ?_⟩
  · exact o_run 0 [] [] (fun _ _ => []) (fun _ _ => by kernel_rfl)
  · exact o_bin 1 .quo 3 (fun _ => (.int .i64 ((i : Nat) : Int))) (fun _ => (.int .i64 64)) (fun _ => (.int .i64 ((i / 64 : Nat) : Int))) (fun _ => by kernel_rfl) (fun _ _ _ _ => by kernel_rfl) (fun _ w => run_quo_nat i 64 (i / 64) (by decide) (by have := hi; omega) rfl w)
  · exact o_sem 2 (fun _ => do pure (Next.value (← Instr.indexAt 24 (pt (nb ρ4 0)) (.int .i64 ((i / 64 : Nat) : Int))))) (fun _ => (.pointer (some ⟨nb ρ4 0, i / 64, none⟩))) (fun _ => by kernel_rfl) (fun _ => by kernel_rfl) (fun _ w => run_idx_nat (n := ((i / 64 : Nat) : Int)) (i := i / 64) Tryd.underlying24 Tryd.sizeOf22 (⟨rfl, by have := of_decide_eq_true hb1; omega⟩) w)
  · exact o_ld 3 2 22 (fun _ => nb ρ4 0) (fun _ => i / 64) (fun _ => (cU b)) 24 (0, 0) (fun _ => (.int .u64 (wd b (i / 64)))) (fun _ => by kernel_rfl) Tryd.isAgg22 (fun _ => cU_get b (i / 64) (by have := of_decide_eq_true hb1; omega))
  · exact o_run 4 [] [] (fun _ _ => []) (fun _ _ => by kernel_rfl)
  · exact o_bin 5 .rem 3 (fun _ => (.int .i64 ((i : Nat) : Int))) (fun _ => (.int .i64 64)) (fun _ => (.int .i64 ((i % 64 : Nat) : Int))) (fun _ => by kernel_rfl) (fun _ _ _ _ => by kernel_rfl) (fun _ w => run_rem_nat i 64 (i % 64) (by decide) rfl w)
  · exact o_bin 6 .shl 22 (fun _ => (.int .u64 1)) (fun _ => (.int .i64 ((i % 64 : Nat) : Int))) (fun _ => (.int .u64 ((2 : Int) ^ (i % 64)))) (fun _ => by kernel_rfl) (fun _ _ _ _ => by kernel_rfl) (fun _ w => run_shl1 (i % 64) (by omega) w)
  · exact o_run 7 [] [] (fun _ _ => []) (fun _ _ => by kernel_rfl)
  · exact o_sem 8 (fun _ => do pure (Next.value (← Instr.indexAt 24 (pt (nb ρ4 0)) (.int .i64 ((i / 64 : Nat) : Int))))) (fun _ => (.pointer (some ⟨nb ρ4 0, i / 64, none⟩))) (fun _ => by kernel_rfl) (fun _ => by kernel_rfl) (fun _ w => run_idx_nat (n := ((i / 64 : Nat) : Int)) (i := i / 64) Tryd.underlying24 Tryd.sizeOf22 (⟨rfl, by have := of_decide_eq_true hb1; omega⟩) w)
  · exact o_st 9 2 22 (fun _ => nb ρ4 0) (fun _ => i / 64) (fun _ => (cU b)) (fun _ => (cU (b + 2 ^ (64 * (i / 64) + i % 64)))) 24 (fun _ => (.int .u64 (bits .or .u64 (wd b (i / 64)) ((2 : Int) ^ (i % 64))))) (fun _ => by kernel_rfl) Tryd.sizeOf22 (fun _ => rfl) (fun _ => (show _ < 4 from by have := of_decide_eq_true hb1; omega)) (fun _ => setlow_row b (i / 64) (i % 64) (by have := of_decide_eq_true hb1; omega) (by omega) (by rw [hb, show 64 * (i / 64) + i % 64 = i by omega]; exact Nat.mod_lt _ (Nat.pow_pos (by decide))))
theorem rshr_mid_r9 (a : Nat) (m : Nat) (i : Nat) (b : Nat) (hi : i + m ≤ 256) (ρ1 : Nat → Orc) (ρ4 : Nat → Orc) (w0 : World) (F : World → Prop) : Reg Tryd.prog 8 (regOps Tryd.f83 8) false 34 [(1, (.int .i64 ((m : Nat) : Int))), (2, (pt (nb ρ1 0))), (4, (pt (nb ρ1 1))), (5, (pt (nb ρ4 0))), (6, (.int .i64 ((i : Nat) : Int)))] w0 [(nb ρ1 0, (.cells (cU a) 24 (0, 0))), (nb ρ1 1, (.cells (cU 0) 24 (0, 0))), (nb ρ4 0, (.cells (cU (b + 2 ^ (64 * (i / 64) + i % 64))) 24 (0, 0)))] F
    (fun _ => [(1, (.int .i64 ((m : Nat) : Int))), (2, (pt (nb ρ1 0))), (4, (pt (nb ρ1 1))), (5, (pt (nb ρ4 0))), (6, (.int .i64 ((i + 1 : Nat) : Int)))])
    (fun _ => [(nb ρ1 0, (.cells (cU a) 24 (0, 0))), (nb ρ1 1, (.cells (cU 0) 24 (0, 0))), (nb ρ4 0, (.cells (cU (b + 2 ^ (64 * (i / 64) + i % 64))) 24 (0, 0)))]) := by
  refine reg_seq [0, 1, 3] [1, 2, 4, 5, 6] 3
    (fun _ ι => ([(.int .i64 ((i : Nat) : Int)), (.int .i64 ((i + 1 : Nat) : Int)), (.int .i64 ((i + 1 : Nat) : Int))] : List Value).getD ι undef)
    (fun _ ι => ([{}, {}, {}] : List Eff).getD ι {})
    (by kernel_rfl) (by kernel_rfl) (fun _ => by kernel_rfl) (fun _ => by kernel_rfl) ⟨⟨⟨trivial, ?_⟩, ?_⟩, ?_⟩
  · exact o_run 0 [] [] (fun _ _ => []) (fun _ _ => by kernel_rfl)
  · exact o_as 1 (fun _ => (.int .i64 (IntKind.i64.wrap (((i : Nat) : Int) + 1)))) (fun _ => (.int .i64 ((i + 1 : Nat) : Int))) (fun _ _ => by kernel_rfl) (fun _ => congrArg (Value.int .i64) (wrap_add_nat i 1 (by have := hi; omega)))
  · exact o_run 2 [] [] (fun _ _ => []) (fun _ _ => by kernel_rfl)
theorem rshr_mid_r10 (a : Nat) (m : Nat) (i : Nat) (b : Nat) (hi : i + m ≤ 256) (ρ1 : Nat → Orc) (ρ4 : Nat → Orc) (w0 : World) (F : World → Prop) : Reg Tryd.prog 8 (regOps Tryd.f83 8) false 34 [(1, (.int .i64 ((m : Nat) : Int))), (2, (pt (nb ρ1 0))), (4, (pt (nb ρ1 1))), (5, (pt (nb ρ4 0))), (6, (.int .i64 ((i : Nat) : Int))), (23, (.bool false))] w0 [(nb ρ1 0, (.cells (cU a) 24 (0, 0))), (nb ρ1 1, (.cells (cU 0) 24 (0, 0))), (nb ρ4 0, (.cells (cU b) 24 (0, 0)))] F
    (fun _ => [(1, (.int .i64 ((m : Nat) : Int))), (2, (pt (nb ρ1 0))), (4, (pt (nb ρ1 1))), (5, (pt (nb ρ4 0))), (6, (.int .i64 ((i + 1 : Nat) : Int)))])
    (fun _ => [(nb ρ1 0, (.cells (cU a) 24 (0, 0))), (nb ρ1 1, (.cells (cU 0) 24 (0, 0))), (nb ρ4 0, (.cells (cU b) 24 (0, 0)))]) := by
  refine reg_seq [0, 1, 3] [1, 2, 4, 5, 6] 3
    (fun _ ι => ([(.int .i64 ((i : Nat) : Int)), (.int .i64 ((i + 1 : Nat) : Int)), (.int .i64 ((i + 1 : Nat) : Int))] : List Value).getD ι undef)
    (fun _ ι => ([{}, {}, {}] : List Eff).getD ι {})
    (by kernel_rfl) (by kernel_rfl) (fun _ => by kernel_rfl) (fun _ => by kernel_rfl) ⟨⟨⟨trivial, ?_⟩, ?_⟩, ?_⟩
  · exact o_run 0 [] [] (fun _ _ => []) (fun _ _ => by kernel_rfl)
  · exact o_as 1 (fun _ => (.int .i64 (IntKind.i64.wrap (((i : Nat) : Int) + 1)))) (fun _ => (.int .i64 ((i + 1 : Nat) : Int))) (fun _ _ => by kernel_rfl) (fun _ => congrArg (Value.int .i64) (wrap_add_nat i 1 (by have := hi; omega)))
  · exact o_run 2 [] [] (fun _ _ => []) (fun _ _ => by kernel_rfl)
theorem rshr_mid_r11 (a : Nat) (m : Nat) (i : Nat) (b : Nat) (ρ1 : Nat → Orc) (ρ4 : Nat → Orc) (w0 : World) (F : World → Prop) : Reg Tryd.prog 11 (regOps Tryd.f83 11) false 34 [(1, (.int .i64 ((m : Nat) : Int))), (2, (pt (nb ρ1 0))), (4, (pt (nb ρ1 1))), (5, (pt (nb ρ4 0))), (6, (.int .i64 ((i : Nat) : Int))), (16, (.bool false))] w0 [(nb ρ1 0, (.cells (cU a) 24 (0, 0))), (nb ρ1 1, (.cells (cU 0) 24 (0, 0))), (nb ρ4 0, (.cells (cU b) 24 (0, 0)))] F
    (fun _ => [(4, (pt (nb ρ1 1)))])
    (fun _ => [(nb ρ1 0, (.cells (cU a) 24 (0, 0))), (nb ρ1 1, (.cells (cU b) 24 (0, 0))), (nb ρ4 0, (.cells (cU b) 24 (0, 0)))]) := by
  refine reg_seq [0, 1] [4] 2
    (fun _ ι => ([(U b), undef] : List Value).getD ι undef)
    (fun _ ι => ([{}, { puts := [(1, (.cells (cU b) 24 (0, 0)))] }] : List Eff).getD ι {})
    (by kernel_rfl) (by kernel_rfl) (fun _ => by kernel_rfl) (fun _ => by kernel_rfl) ⟨⟨trivial, ?_⟩, ?_⟩
  · exact o_run 0 [2] [] (fun _ _ => [nb ρ4 0, nb ρ4 0, nb ρ4 0, nb ρ4 0]) (fun _ _ => by kernel_rfl)
  · exact o_run 1 [1] [] (fun _ _ => [nb ρ1 1, nb ρ1 1, nb ρ1 1, nb ρ1 1]) (fun _ _ => by kernel_rfl)
theorem rshr_mid (a : Nat) (m : Nat) (ha : a < M) (_h0 : 0 < m) (_hm : m < 256) (w0 : World) : Calls Tryd.prog 83 #[(U a), (.int .i64 ((m : Nat) : Int))] w0 (fun ε w' => ε = .returned (U (a / 2 ^ m)) ∧ Below w0.heap.size w0 w') := by
  refine Calls.of_ok (n := 34) (F := (fun _ => True)) Tryd.func83 rfl rfl rfl (by simp) (persTrue (fun _ => trivial)) ?_
  have hk0 : decide (((m : Nat) : Int) ≤ 0) = false := decide_eq_false (by omega)
  have hk1 : decide (256 ≤ ((m : Nat) : Int)) = false := decide_eq_false (by omega)
  refine ok_seq_r (by kernel_rfl) (rshr_mid_r1 a m _ _) (fun ρ1 => ?_)
  refine ok_seq ?_
  refine ok_seq_r (by kernel_rfl) (rshr_mid_r2 a m hk0 ρ1 _ _) (fun _ => ?_)
  refine ok_no (by kernel_rfl) ?_
  refine ok_skip ?_
  refine mt_then ?_
  refine ok_seq ?_
  refine ok_seq_r (by kernel_rfl) (rshr_mid_r3 a m hk1 ρ1 _ _) (fun _ => ?_)
  refine ok_no (by kernel_rfl) ?_
  refine ok_skip ?_
  refine mt_then ?_
  refine ok_seq_r (by kernel_rfl) (rshr_mid_r4 a m ρ1 _ _) (fun ρ4 => ?_)
  refine ok_seq ?_
  refine ok_seq_r (by kernel_rfl) (rshr_mid_r5 a m ρ1 ρ4 _ _) (fun _ => ?_)
  refine ok_block ?_
  refine ok_loop (σ := Nat × Nat) (fun ⟨i, _⟩ => [(1, (.int .i64 ((m : Nat) : Int))), (2, (pt (nb ρ1 0))), (4, (pt (nb ρ1 1))), (5, (pt (nb ρ4 0))), (6, (.int .i64 ((i : Nat) : Int)))]) (fun ⟨_, b⟩ => [(nb ρ1 0, (.cells (cU a) 24 (0, 0))), (nb ρ1 1, (.cells (cU 0) 24 (0, 0))), (nb ρ4 0, (.cells (cU b) 24 (0, 0)))]) (fun ⟨i, _⟩ => 256 - i)
    (fun ⟨i, b⟩ => (i + m ≤ 256) ∧ (b = a / 2 ^ m % 2 ^ i)) (0, 0) (⟨by omega, by simp [Nat.mod_one]⟩) (by kernel_rfl) (.cons_cons _ (.cons_cons _ (.cons_cons _ .slnil))) ?_
  rintro ⟨i, b⟩ ⟨hi, hb⟩
  change Ok Tryd.prog _ _ 34 [(1, (.int .i64 ((m : Nat) : Int))), (2, (pt (nb ρ1 0))), (4, (pt (nb ρ1 1))), (5, (pt (nb ρ4 0))), (6, (.int .i64 ((i : Nat) : Int)))] _ [(nb ρ1 0, (.cells (cU a) 24 (0, 0))), (nb ρ1 1, (.cells (cU 0) 24 (0, 0))), (nb ρ4 0, (.cells (cU b) 24 (0, 0)))] (fun _ => True)
  refine ok_seq ?_
  refine ok_seq_r (by kernel_rfl) (rshr_mid_r6 a m i b hi ρ1 ρ4 _ _) (fun _ => ?_)
  refine ok_cond (b := decide (((i + m : Nat) : Int) < 256)) (by kernel_rfl) (fun hb1 => ?_) (fun hb1 => ?_)
  ·
    rw [hb1]
    refine ok_skip ?_
    refine mt_then ?_
    refine ok_seq ?_
    refine ok_block ?_
    refine ok_seq_r (by kernel_rfl) (rshr_mid_r7 a m i b hi hb1 ρ1 ρ4 _ _) (fun _ => ?_)
    refine ok_cond (b := bitN a (i + m)) (by kernel_rfl) (fun hb2 => ?_) (fun hb2 => ?_)
    ·
      rw [hb2]
      refine ok_r (by kernel_rfl) (rshr_mid_r8 a m i b hi hb hb1 ρ1 ρ4 _ _) (fun _ => ?_)
      refine mt_block_n ?_
      refine mt_then ?_
      refine ok_r (by kernel_rfl) (rshr_mid_r9 a m i b hi ρ1 ρ4 _ _) (fun _ => ?_)
      exact mt_round (i + 1, b + 2 ^ (64 * (i / 64) + i % 64)) (by show 256 - (i + 1) < 256 - i; have := of_decide_eq_true hb1; omega) (⟨by have := of_decide_eq_true hb1; omega, by rw [low_next, hb]; have h2 := hb2; unfold bitN at h2; rw [shr_bit] at h2; rw [if_pos (of_decide_eq_true h2), show 64 * (i / 64) + i % 64 = i by omega]⟩) (by kernel_rfl) (.cons_cons _ (.cons_cons _ (.cons_cons _ .slnil)))
    ·
      rw [hb2]
      refine ok_skip ?_
      refine mt_block_n ?_
      refine mt_then ?_
      refine ok_r (by kernel_rfl) (rshr_mid_r10 a m i b hi ρ1 ρ4 _ _) (fun _ => ?_)
      exact mt_round (i + 1, b) (by show 256 - (i + 1) < 256 - i; have := of_decide_eq_true hb1; omega) (⟨by have := of_decide_eq_true hb1; omega, by rw [low_next, hb]; have h2 := hb2; unfold bitN at h2; rw [shr_bit] at h2; rw [if_neg (of_decide_eq_false h2), Nat.add_zero]⟩) (by kernel_rfl) (.cons_cons _ (.cons_cons _ (.cons_cons _ .slnil)))
  ·
    rw [hb1]
    refine ok_exit ?_
    refine mt_then_e ?_
    refine mt_then_e ?_
    refine mt_block_h ?_
    refine mt_then ?_
    refine ok_seq_r (by kernel_rfl) (rshr_mid_r11 a m i b ρ1 ρ4 _ _) (fun _ => ?_)
    refine ok_ret ?_
    exact meets_ret (v := (U b)) [1, 1, 1, 1] (dup [nb ρ1 1, nb ρ1 1, nb ρ1 1, nb ρ1 1]) (by kernel_rfl) (by kernel_rfl) (eqs_dup _) (fun _ hS => ⟨congrArg (fun x => Ending.returned (U x)) (by rw [hb]; exact shr_all ha (by have := of_decide_eq_false hb1; omega)), hS.below⟩)
theorem rshr_any (a : Nat) (n : Int) (w0 : World) (ha : a < M) : Calls Tryd.prog 83 #[U a, .int .i64 n] w0 (fun ε w' => ε = .returned (U (shrZ a n)) ∧ Below w0.heap.size w0 w') := by
  unfold shrZ
  by_cases h0 : n < 0
  · rw [if_pos h0]; exact rshr_neg a n (by omega) w0
  · rw [if_neg h0]
    by_cases h1 : 256 ≤ n
    · rw [shrN_big ha (by omega)]; exact rshr_big a n h1 w0
    · obtain ⟨k, rfl⟩ := Int.eq_ofNat_of_zero_le (by omega : 0 ≤ n)
      rw [Int.toNat_natCast]
      by_cases hk : k = 0
      · subst hk; rw [Nat.pow_zero, Nat.div_one]; exact rshr_neg a _ (by omega) w0
      · exact rshr_mid a k ha (by omega) (by omega) w0
end Go.Proofs.YtoibhbmcplhiaaaDoor
