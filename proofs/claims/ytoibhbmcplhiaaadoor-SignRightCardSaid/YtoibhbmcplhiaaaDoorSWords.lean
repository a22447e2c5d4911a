/-
  SHA-256: rotations, the schedule: the walks.
-/
import Derived.Test.YtoibhbmcplhiaaaDoorShaBits
namespace Go.Proofs.YtoibhbmcplhiaaaDoor
open Go Go.RowKit
set_option maxRecDepth 100000
theorem rotl_any_r1 (x : Nat) (n : Nat) (w0 : World) (F : World → Prop) : Reg Tryd.prog 0 (regOps Tryd.f110 0) false 17 [(0, (.int .u32 ((x : Nat) : Int))), (1, (.int .i64 (0 - ((n : Nat) : Int))))] w0 [] F
    (fun _ => [(0, (.int .u32 ((x : Nat) : Int))), (1, (.int .i64 (0 - ((n : Nat) : Int)))), (4, (.int .u32 0))])
    (fun _ => []) := by
  refine reg_seq [0] [0, 1, 4] 1
    (fun _ ι => ([(.int .u32 0)] : List Value).getD ι undef)
    (fun _ ι => ([{}] : List Eff).getD ι {})
    (by kernel_rfl) (by kernel_rfl) (fun _ => by kernel_rfl) (fun _ => by kernel_rfl) ⟨trivial, ?_⟩
  · exact o_run 0 [] [] (fun _ _ => []) (fun _ _ => by kernel_rfl)
theorem rotl_any_r2 (x : Nat) (n : Nat) (hn : 0 < n ∧ n < 32) (w0 : World) (F : World → Prop) : Reg Tryd.prog 1 (regOps Tryd.f110 1) false 17 [(0, (.int .u32 ((x : Nat) : Int))), (1, (.int .i64 (0 - ((n : Nat) : Int)))), (4, (.int .u32 0))] w0 [] F
    (fun _ => [(0, (.int .u32 ((x : Nat) : Int))), (4, (.int .u32 0)), (5, (.int .u64 ((32 - n : Nat) : Int)))])
    (fun _ => []) := by
  refine reg_seq [0, 1, 3, 7] [0, 4, 5] 4
    (fun _ ι => ([(.int .i64 (0 - ((n : Nat) : Int))), (.int .u64 ((18446744073709551616 - n : Nat) : Int)), (.int .u64 ((32 - n : Nat) : Int)), (.int .u64 ((32 - n : Nat) : Int))] : List Value).getD ι undef)
    (fun _ ι => ([{}, {}, {}, {}] : List Eff).getD ι {})
    (by kernel_rfl) (by kernel_rfl) (fun _ => by kernel_rfl) (fun _ => by kernel_rfl) ⟨⟨⟨⟨trivial, ?_⟩, ?_⟩, ?_⟩, ?_⟩
  · exact o_run 0 [] [] (fun _ _ => []) (fun _ _ => by kernel_rfl)
  · exact o_as 1 (fun _ => (.int .u64 (IntKind.u64.wrap (0 - ((n : Nat) : Int))))) (fun _ => (.int .u64 ((18446744073709551616 - n : Nat) : Int))) (fun _ _ => by kernel_rfl) (fun _ => congrArg (Value.int .u64) (u64_neg hn.1 hn.2))
  · exact o_as 2 (fun _ => (.int .u64 (bits .and .u64 ((18446744073709551616 - n : Nat) : Int) 31))) (fun _ => (.int .u64 ((32 - n : Nat) : Int))) (fun _ _ => by kernel_rfl) (fun _ => congrArg (Value.int .u64) (and31 hn.1 hn.2))
  · exact o_run 3 [] [] (fun _ _ => []) (fun _ _ => by kernel_rfl)
theorem rotl_any_r3 (x : Nat) (n : Nat) (hx : x < 4294967296) (hn : 0 < n ∧ n < 32) (w0 : World) (F : World → Prop) : Reg Tryd.prog 2 (regOps Tryd.f110 2) false 17 [(0, (.int .u32 ((x : Nat) : Int))), (4, (.int .u32 0)), (5, (.int .u64 ((32 - n : Nat) : Int)))] w0 [] F
    (fun _ => [(4, (.int .u32 ((rot32 x n : Nat) : Int)))])
    (fun _ => []) := by
  refine reg_seq [0, 1, 3, 7, 15, 31, 63, 127, 255] [4] 9
    (fun _ ι => ([(.int .u32 ((x : Nat) : Int)), (.int .u64 ((32 - n : Nat) : Int)), (.int .u32 ((x * 2 ^ (32 - n) % 4294967296 : Nat) : Int)), (.int .u32 ((x : Nat) : Int)), (.int .u64 ((32 - n : Nat) : Int)), (.int .u64 ((n : Nat) : Int)), (.int .u32 ((x / 2 ^ n : Nat) : Int)), (.int .u32 ((rot32 x n : Nat) : Int)), (.int .u32 ((rot32 x n : Nat) : Int))] : List Value).getD ι undef)
    (fun _ ι => ([{}, {}, {}, {}, {}, {}, {}, {}, {}] : List Eff).getD ι {})
    (by kernel_rfl) (by kernel_rfl) (fun _ => by kernel_rfl) (fun _ => by kernel_rfl) ⟨⟨⟨⟨⟨⟨⟨⟨⟨trivial, ?_⟩, ?_⟩, ?_⟩, ?_⟩, ?_⟩, ?_⟩, ?_⟩, ?_⟩, ?_⟩
  · exact o_run 0 [] [] (fun _ _ => []) (fun _ _ => by kernel_rfl)
  · exact o_run 1 [] [] (fun _ _ => []) (fun _ _ => by kernel_rfl)
  · exact o_bin 2 .shl 75 (fun _ => (.int .u32 ((x : Nat) : Int))) (fun _ => (.int .u64 ((32 - n : Nat) : Int))) (fun _ => (.int .u32 ((x * 2 ^ (32 - n) % 4294967296 : Nat) : Int))) (fun _ => by kernel_rfl) (fun _ _ _ _ => by kernel_rfl) (fun _ w => run_shlM (by omega) w)
  · exact o_run 3 [] [] (fun _ _ => []) (fun _ _ => by kernel_rfl)
  · exact o_run 4 [] [] (fun _ _ => []) (fun _ _ => by kernel_rfl)
  · exact o_as 5 (fun _ => (.int .u64 (IntKind.u64.wrap (32 - ((32 - n : Nat) : Int))))) (fun _ => (.int .u64 ((n : Nat) : Int))) (fun _ _ => by kernel_rfl) (fun _ => congrArg (Value.int .u64) (u64_32 hn.1 hn.2))
  · exact o_bin 6 .shr 75 (fun _ => (.int .u32 ((x : Nat) : Int))) (fun _ => (.int .u64 ((n : Nat) : Int))) (fun _ => (.int .u32 ((x / 2 ^ n : Nat) : Int))) (fun _ => by kernel_rfl) (fun _ _ _ _ => by kernel_rfl) (fun _ w => run_shrU (k := .u32) hx w)
  · exact o_as 7 (fun _ => (.int .u32 (bits .or .u32 ((x * 2 ^ (32 - n) % 4294967296 : Nat) : Int) ((x / 2 ^ n : Nat) : Int)))) (fun _ => (.int .u32 ((rot32 x n : Nat) : Int))) (fun _ _ => by kernel_rfl) (fun _ => congrArg (Value.int .u32) (or_rot hx))
  · exact o_run 8 [] [] (fun _ _ => []) (fun _ _ => by kernel_rfl)
theorem rotl_any (x : Nat) (n : Nat) (hx : x < 4294967296) (hn : 0 < n ∧ n < 32) (w0 : World) : Calls Tryd.prog 110 #[(.int .u32 ((x : Nat) : Int)), (.int .i64 (0 - ((n : Nat) : Int)))] w0 (fun ε w' => ε = .returned (.int .u32 ((rot32 x n : Nat) : Int)) ∧ Below w0.heap.size w0 w') := by
  refine Calls.of_ok (n := 17) (F := (fun _ => True)) Tryd.func110 rfl rfl rfl (by simp) (persTrue (fun _ => trivial)) ?_
  refine ok_seq_r (by kernel_rfl) (rotl_any_r1 x n _ _) (fun _ => ?_)
  refine ok_seq_r (by kernel_rfl) (rotl_any_r2 x n hn _ _) (fun _ => ?_)
  refine ok_seq_r (by kernel_rfl) (rotl_any_r3 x n hx hn _ _) (fun _ => ?_)
  refine ok_ret ?_
  exact meets_ret (v := (.int .u32 ((rot32 x n : Nat) : Int))) [] (dup []) (by kernel_rfl) (by kernel_rfl) (eqs_dup _) (fun _ hS => ⟨rfl, hS.below⟩)
theorem rotr_any_r1 (x : Nat) (n : Nat) (w0 : World) (F : World → Prop) : Reg Tryd.prog 0 (regOps Tryd.f104 0) false 9 [(0, (.int .u32 ((x : Nat) : Int))), (1, (.int .i64 ((n : Nat) : Int)))] w0 [] F
    (fun _ => [(0, (.int .u32 ((x : Nat) : Int))), (1, (.int .i64 ((n : Nat) : Int))), (4, (.int .u32 0))])
    (fun _ => []) := by
  refine reg_seq [0] [0, 1, 4] 1
    (fun _ ι => ([(.int .u32 0)] : List Value).getD ι undef)
    (fun _ ι => ([{}] : List Eff).getD ι {})
    (by kernel_rfl) (by kernel_rfl) (fun _ => by kernel_rfl) (fun _ => by kernel_rfl) ⟨trivial, ?_⟩
  · exact o_run 0 [] [] (fun _ _ => []) (fun _ _ => by kernel_rfl)
theorem rotr_any_r2 (x : Nat) (n : Nat) (hx : x < 4294967296) (hn : 0 < n ∧ n < 32) (w0 : World) (F : World → Prop) : Reg Tryd.prog 1 (regOps Tryd.f104 1) false 9 [(0, (.int .u32 ((x : Nat) : Int))), (1, (.int .i64 ((n : Nat) : Int))), (4, (.int .u32 0))] w0 [] F
    (fun _ => [(4, (.int .u32 ((rot32 x n : Nat) : Int)))])
    (fun _ => []) := by
  refine reg_seq [0, 1, 3, 7, 15] [4] 5
    (fun _ ι => ([(.int .u32 ((x : Nat) : Int)), (.int .i64 ((n : Nat) : Int)), (.int .i64 (0 - ((n : Nat) : Int))), (.int .u32 ((rot32 x n : Nat) : Int)), (.int .u32 ((rot32 x n : Nat) : Int))] : List Value).getD ι undef)
    (fun _ ι => ([{}, {}, {}, {}, {}] : List Eff).getD ι {})
    (by kernel_rfl) (by kernel_rfl) (fun _ => by kernel_rfl) (fun _ => by kernel_rfl) ⟨⟨⟨⟨⟨trivial, ?_⟩, ?_⟩, ?_⟩, ?_⟩, ?_⟩
  · exact o_run 0 [] [] (fun _ _ => []) (fun _ _ => by kernel_rfl)
  · exact o_run 1 [] [] (fun _ _ => []) (fun _ _ => by kernel_rfl)
  · exact o_as 2 (fun _ => (.int .i64 (IntKind.i64.wrap (0 - ((n : Nat) : Int))))) (fun _ => (.int .i64 (0 - ((n : Nat) : Int)))) (fun _ _ => by kernel_rfl) (fun _ => congrArg (Value.int .i64) (i64N (by have := hn; omega)))
  · exact o_call 3 110 (fun _ => #[(.int .u32 ((x : Nat) : Int)), (.int .i64 (0 - ((n : Nat) : Int)))]) (fun _ => (.int .u32 ((rot32 x n : Nat) : Int))) (fun _ _ => by kernel_rfl) (fun _ w => (fun w => rotl_any x n hx hn w) w)
  · exact o_run 4 [] [] (fun _ _ => []) (fun _ _ => by kernel_rfl)
theorem rotr_any (x : Nat) (n : Nat) (hx : x < 4294967296) (hn : 0 < n ∧ n < 32) (w0 : World) : Calls Tryd.prog 104 #[(.int .u32 ((x : Nat) : Int)), (.int .i64 ((n : Nat) : Int))] w0 (fun ε w' => ε = .returned (.int .u32 ((rot32 x n : Nat) : Int)) ∧ Below w0.heap.size w0 w') := by
  refine Calls.of_ok (n := 9) (F := (fun _ => True)) Tryd.func104 rfl rfl rfl (by simp) (persTrue (fun _ => trivial)) ?_
  refine ok_seq_r (by kernel_rfl) (rotr_any_r1 x n _ _) (fun _ => ?_)
  refine ok_seq_r (by kernel_rfl) (rotr_any_r2 x n hx hn _ _) (fun _ => ?_)
  refine ok_ret ?_
  exact meets_ret (v := (.int .u32 ((rot32 x n : Nat) : Int))) [] (dup []) (by kernel_rfl) (by kernel_rfl) (eqs_dup _) (fun _ hS => ⟨rfl, hS.below⟩)
theorem zrow_sc (X : List UInt8) : rowK .u32 64 (fun _ => 0) = rowK .u32 64 (sc X 0 0) := rowK_congr fun m _ => (sc_zero X m).symm
theorem sched_any_r1 (X : List UInt8) (w0 : World) (F : World → Prop) : Reg Tryd.prog 0 (regOps Tryd.f103 0) false 85 [(0, (.agg ((bs X).toArray)))] w0 [] F
    (fun ρ => [(1, (pt (nb ρ 0))), (2, (pt (nb ρ 1)))])
    (fun ρ => [(nb ρ 0, (.cells ((bs X).toArray) 78 (0, 0))), (nb ρ 1, (.cells (rowK .u32 64 (fun _ => 0)) 86 (0, 0)))]) := by
  refine reg_seq [0, 1] [1, 2] 2
    (fun ρ ι => ([(pt (nb ρ 0)), (pt (nb ρ 1))] : List Value).getD ι undef)
    (fun ρ ι => ([{ news := [(nb ρ 0, (.cells ((bs X).toArray) 78 (0, 0)))] }, { news := [(nb ρ 1, (.cells (rowK .u32 64 (fun _ => 0)) 86 (0, 0)))] }] : List Eff).getD ι {})
    (by kernel_rfl) (by kernel_rfl) (fun _ => by kernel_rfl) (fun _ => by kernel_rfl) ⟨⟨trivial, ?_⟩, ?_⟩
  · exact o_run 0 [] [] (fun _ _ => []) (fun _ _ => by kernel_rfl)
  · exact o_run 1 [] [] (fun _ _ => []) (fun _ _ => by kernel_rfl)
theorem sched_any_r2 (X : List UInt8) (ρ1 : Nat → Orc) (w0 : World) (F : World → Prop) : Reg Tryd.prog 1 (regOps Tryd.f103 1) false 85 [(1, (pt (nb ρ1 0))), (2, (pt (nb ρ1 1)))] w0 [(nb ρ1 0, (.cells ((bs X).toArray) 78 (0, 0))), (nb ρ1 1, (.cells (rowK .u32 64 (fun _ => 0)) 86 (0, 0)))] F
    (fun ρ => [(1, (pt (nb ρ1 0))), (2, (pt (nb ρ1 1))), (3, (pt (nb ρ 0)))])
    (fun ρ => [(nb ρ1 0, (.cells ((bs X).toArray) 78 (0, 0))), (nb ρ1 1, (.cells (rowK .u32 64 (fun _ => 0)) 86 (0, 0))), (nb ρ 0, (.cells (rowK .u32 64 (fun _ => 0)) 86 (0, 0)))]) := by
  refine reg_seq [0] [1, 2, 3] 1
    (fun ρ ι => ([(pt (nb ρ 0))] : List Value).getD ι undef)
    (fun ρ ι => ([{ news := [(nb ρ 0, (.cells (rowK .u32 64 (fun _ => 0)) 86 (0, 0)))] }] : List Eff).getD ι {})
    (by kernel_rfl) (by kernel_rfl) (fun _ => by kernel_rfl) (fun _ => by kernel_rfl) ⟨trivial, ?_⟩
  · exact o_run 0 [] [] (fun _ _ => []) (fun _ _ => by kernel_rfl)
theorem sched_any_r3 (X : List UInt8) (ρ1 : Nat → Orc) (ρ2 : Nat → Orc) (w0 : World) (F : World → Prop) : Reg Tryd.prog 2 (regOps Tryd.f103 2) false 85 [(1, (pt (nb ρ1 0))), (2, (pt (nb ρ1 1))), (3, (pt (nb ρ2 0)))] w0 [(nb ρ1 0, (.cells ((bs X).toArray) 78 (0, 0))), (nb ρ1 1, (.cells (rowK .u32 64 (fun _ => 0)) 86 (0, 0))), (nb ρ2 0, (.cells (rowK .u32 64 (fun _ => 0)) 86 (0, 0)))] F
    (fun _ => [(1, (pt (nb ρ1 0))), (2, (pt (nb ρ1 1))), (3, (pt (nb ρ2 0))), (9, (.int .i64 0))])
    (fun _ => [(nb ρ1 0, (.cells ((bs X).toArray) 78 (0, 0))), (nb ρ1 1, (.cells (rowK .u32 64 (fun _ => 0)) 86 (0, 0))), (nb ρ2 0, (.cells (rowK .u32 64 (fun _ => 0)) 86 (0, 0)))]) := by
  refine reg_seq [0] [1, 2, 3, 9] 1
    (fun _ ι => ([(.int .i64 0)] : List Value).getD ι undef)
    (fun _ ι => ([{}] : List Eff).getD ι {})
    (by kernel_rfl) (by kernel_rfl) (fun _ => by kernel_rfl) (fun _ => by kernel_rfl) ⟨trivial, ?_⟩
  · exact o_run 0 [] [] (fun _ _ => []) (fun _ _ => by kernel_rfl)
theorem sched_any_r4 (X : List UInt8) (i : Nat) (C : Array Value) (ρ1 : Nat → Orc) (ρ2 : Nat → Orc) (w0 : World) (F : World → Prop) : Reg Tryd.prog 3 (regOps Tryd.f103 3) false 85 [(1, (pt (nb ρ1 0))), (2, (pt (nb ρ1 1))), (3, (pt (nb ρ2 0))), (9, (.int .i64 ((i : Nat) : Int)))] w0 [(nb ρ1 0, (.cells ((bs X).toArray) 78 (0, 0))), (nb ρ1 1, (.cells (rowK .u32 64 (fun _ => 0)) 86 (0, 0))), (nb ρ2 0, (.cells C 86 (0, 0)))] F
    (fun _ => [(1, (pt (nb ρ1 0))), (2, (pt (nb ρ1 1))), (3, (pt (nb ρ2 0))), (9, (.int .i64 ((i : Nat) : Int))), (10, (.bool (decide (((i : Nat) : Int) < 16))))])
    (fun _ => [(nb ρ1 0, (.cells ((bs X).toArray) 78 (0, 0))), (nb ρ1 1, (.cells (rowK .u32 64 (fun _ => 0)) 86 (0, 0))), (nb ρ2 0, (.cells C 86 (0, 0)))]) := by
  refine reg_seq [0] [1, 2, 3, 9, 10] 1
    (fun _ ι => ([(.bool (decide (((i : Nat) : Int) < 16)))] : List Value).getD ι undef)
    (fun _ ι => ([{}] : List Eff).getD ι {})
    (by kernel_rfl) (by kernel_rfl) (fun _ => by kernel_rfl) (fun _ => by kernel_rfl) ⟨trivial, ?_⟩
  · exact o_run 0 [] [] (fun _ _ => []) (fun _ _ => by kernel_rfl)
theorem sched_any_r5 (X : List UInt8) (i : Nat) (C : Array Value) (ρ1 : Nat → Orc) (ρ2 : Nat → Orc) (w0 : World) (F : World → Prop) : Reg Tryd.prog 4 (regOps Tryd.f103 4) false 85 [(1, (pt (nb ρ1 0))), (2, (pt (nb ρ1 1))), (3, (pt (nb ρ2 0))), (9, (.int .i64 ((i : Nat) : Int))), (10, (.bool true))] w0 [(nb ρ1 0, (.cells ((bs X).toArray) 78 (0, 0))), (nb ρ1 1, (.cells (rowK .u32 64 (fun _ => 0)) 86 (0, 0))), (nb ρ2 0, (.cells C 86 (0, 0)))] F
    (fun _ => [(1, (pt (nb ρ1 0))), (2, (pt (nb ρ1 1))), (3, (pt (nb ρ2 0))), (4, (.int .i64 ((i : Nat) : Int))), (9, (.int .i64 ((i : Nat) : Int)))])
    (fun _ => [(nb ρ1 0, (.cells ((bs X).toArray) 78 (0, 0))), (nb ρ1 1, (.cells (rowK .u32 64 (fun _ => 0)) 86 (0, 0))), (nb ρ2 0, (.cells C 86 (0, 0)))]) := by
  refine reg_seq [0, 1] [1, 2, 3, 4, 9] 2
    (fun _ ι => ([(.int .i64 ((i : Nat) : Int)), (.int .i64 ((i : Nat) : Int))] : List Value).getD ι undef)
    (fun _ ι => ([{}, {}] : List Eff).getD ι {})
    (by kernel_rfl) (by kernel_rfl) (fun _ => by kernel_rfl) (fun _ => by kernel_rfl) ⟨⟨trivial, ?_⟩, ?_⟩
  · exact o_run 0 [] [] (fun _ _ => []) (fun _ _ => by kernel_rfl)
  · exact o_run 1 [] [] (fun _ _ => []) (fun _ _ => by kernel_rfl)
theorem sched_any_r6 (X : List UInt8) (i : Nat) (C : Array Value) (ρ1 : Nat → Orc) (ρ2 : Nat → Orc) (w0 : World) (F : World → Prop) : Reg Tryd.prog 5 (regOps Tryd.f103 5) false 85 [(1, (pt (nb ρ1 0))), (2, (pt (nb ρ1 1))), (3, (pt (nb ρ2 0))), (4, (.int .i64 ((i : Nat) : Int))), (9, (.int .i64 ((i : Nat) : Int)))] w0 [(nb ρ1 0, (.cells ((bs X).toArray) 78 (0, 0))), (nb ρ1 1, (.cells (rowK .u32 64 (fun _ => 0)) 86 (0, 0))), (nb ρ2 0, (.cells C 86 (0, 0)))] F
    (fun _ => [(1, (pt (nb ρ1 0))), (2, (pt (nb ρ1 1))), (3, (pt (nb ρ2 0))), (4, (.int .i64 ((i : Nat) : Int))), (9, (.int .i64 ((i : Nat) : Int))), (12, (.int .i64 0))])
    (fun _ => [(nb ρ1 0, (.cells ((bs X).toArray) 78 (0, 0))), (nb ρ1 1, (.cells (rowK .u32 64 (fun _ => 0)) 86 (0, 0))), (nb ρ2 0, (.cells C 86 (0, 0)))]) := by
  refine reg_seq [0] [1, 2, 3, 4, 9, 12] 1
    (fun _ ι => ([(.int .i64 0)] : List Value).getD ι undef)
    (fun _ ι => ([{}] : List Eff).getD ι {})
    (by kernel_rfl) (by kernel_rfl) (fun _ => by kernel_rfl) (fun _ => by kernel_rfl) ⟨trivial, ?_⟩
  · exact o_run 0 [] [] (fun _ _ => []) (fun _ _ => by kernel_rfl)
theorem sched_any_r7 (X : List UInt8) (i : Nat) (j : Nat) (C2 : Array Value) (ρ1 : Nat → Orc) (ρ2 : Nat → Orc) (w0 : World) (F : World → Prop) : Reg Tryd.prog 6 (regOps Tryd.f103 6) false 85 [(1, (pt (nb ρ1 0))), (2, (pt (nb ρ1 1))), (3, (pt (nb ρ2 0))), (4, (.int .i64 ((i : Nat) : Int))), (9, (.int .i64 ((i : Nat) : Int))), (12, (.int .i64 ((j : Nat) : Int)))] w0 [(nb ρ1 0, (.cells ((bs X).toArray) 78 (0, 0))), (nb ρ1 1, (.cells (rowK .u32 64 (fun _ => 0)) 86 (0, 0))), (nb ρ2 0, (.cells C2 86 (0, 0)))] F
    (fun _ => [(1, (pt (nb ρ1 0))), (2, (pt (nb ρ1 1))), (3, (pt (nb ρ2 0))), (4, (.int .i64 ((i : Nat) : Int))), (9, (.int .i64 ((i : Nat) : Int))), (12, (.int .i64 ((j : Nat) : Int))), (13, (.bool (decide (((j : Nat) : Int) < 4))))])
    (fun _ => [(nb ρ1 0, (.cells ((bs X).toArray) 78 (0, 0))), (nb ρ1 1, (.cells (rowK .u32 64 (fun _ => 0)) 86 (0, 0))), (nb ρ2 0, (.cells C2 86 (0, 0)))]) := by
  refine reg_seq [0] [1, 2, 3, 4, 9, 12, 13] 1
    (fun _ ι => ([(.bool (decide (((j : Nat) : Int) < 4)))] : List Value).getD ι undef)
    (fun _ ι => ([{}] : List Eff).getD ι {})
    (by kernel_rfl) (by kernel_rfl) (fun _ => by kernel_rfl) (fun _ => by kernel_rfl) ⟨trivial, ?_⟩
  · exact o_run 0 [] [] (fun _ _ => []) (fun _ _ => by kernel_rfl)
theorem sched_any_r8 (X : List UInt8) (i : Nat) (j : Nat) (C2 : Array Value) (ρ1 : Nat → Orc) (ρ2 : Nat → Orc) (w0 : World) (F : World → Prop) : Reg Tryd.prog 7 (regOps Tryd.f103 7) false 85 [(1, (pt (nb ρ1 0))), (2, (pt (nb ρ1 1))), (3, (pt (nb ρ2 0))), (4, (.int .i64 ((i : Nat) : Int))), (9, (.int .i64 ((i : Nat) : Int))), (12, (.int .i64 ((j : Nat) : Int))), (13, (.bool true))] w0 [(nb ρ1 0, (.cells ((bs X).toArray) 78 (0, 0))), (nb ρ1 1, (.cells (rowK .u32 64 (fun _ => 0)) 86 (0, 0))), (nb ρ2 0, (.cells C2 86 (0, 0)))] F
    (fun _ => [(1, (pt (nb ρ1 0))), (2, (pt (nb ρ1 1))), (3, (pt (nb ρ2 0))), (4, (.int .i64 ((i : Nat) : Int))), (5, (.int .i64 ((j : Nat) : Int))), (9, (.int .i64 ((i : Nat) : Int))), (12, (.int .i64 ((j : Nat) : Int)))])
    (fun _ => [(nb ρ1 0, (.cells ((bs X).toArray) 78 (0, 0))), (nb ρ1 1, (.cells (rowK .u32 64 (fun _ => 0)) 86 (0, 0))), (nb ρ2 0, (.cells C2 86 (0, 0)))]) := by
  refine reg_seq [0, 1] [1, 2, 3, 4, 5, 9, 12] 2
    (fun _ ι => ([(.int .i64 ((j : Nat) : Int)), (.int .i64 ((j : Nat) : Int))] : List Value).getD ι undef)
    (fun _ ι => ([{}, {}] : List Eff).getD ι {})
    (by kernel_rfl) (by kernel_rfl) (fun _ => by kernel_rfl) (fun _ => by kernel_rfl) ⟨⟨trivial, ?_⟩, ?_⟩
  · exact o_run 0 [] [] (fun _ _ => []) (fun _ _ => by kernel_rfl)
  · exact o_run 1 [] [] (fun _ _ => []) (fun _ _ => by kernel_rfl)
theorem sched_any_r9 (X : List UInt8) (hX : X.length = 64) (i : Nat) (hi : i ≤ 16) (hb1 : (decide (((i : Nat) : Int) < 16)) = true) (j : Nat) (C2 : Array Value) (hj : j ≤ 4) (hC2 : C2 = rowK .u32 64 (sc X i j)) (hb2 : (decide (((j : Nat) : Int) < 4)) = true) (ρ1 : Nat → Orc) (ρ2 : Nat → Orc) (w0 : World) (F : World → Prop) : Reg Tryd.prog 8 (regOps Tryd.f103 8) true 85 [(1, (pt (nb ρ1 0))), (2, (pt (nb ρ1 1))), (3, (pt (nb ρ2 0))), (4, (.int .i64 ((i : Nat) : Int))), (5, (.int .i64 ((j : Nat) : Int))), (9, (.int .i64 ((i : Nat) : Int))), (12, (.int .i64 ((j : Nat) : Int)))] w0 [(nb ρ1 0, (.cells ((bs X).toArray) 78 (0, 0))), (nb ρ1 1, (.cells (rowK .u32 64 (fun _ => 0)) 86 (0, 0))), (nb ρ2 0, (.cells C2 86 (0, 0)))] F
    (fun _ => [(1, (pt (nb ρ1 0))), (2, (pt (nb ρ1 1))), (3, (pt (nb ρ2 0))), (4, (.int .i64 ((i : Nat) : Int))), (9, (.int .i64 ((i : Nat) : Int))), (12, (.int .i64 ((j : Nat) : Int)))])
    (fun _ => [(nb ρ1 0, (.cells ((bs X).toArray) 78 (0, 0))), (nb ρ1 1, (.cells (rowK .u32 64 (fun _ => 0)) 86 (0, 0))), (nb ρ2 0, (.cells (C2.setIfInBounds i (.int .u32 ((pwb X i (j + 1) : Nat) : Int))) 86 (0, 0)))]) := by
  refine reg_drawn [0, 0, 2, 6, 14, 0, 32, 0, 224, 480, 992, 2016, 4094, 8191, 16383] [1, 2, 3, 4, 9, 12] 15
    (fun _ ι => ([(.int .i64 ((i : Nat) : Int)), (.int .i64 ((i : Nat) : Int)), (.pointer (some ⟨nb ρ2 0, i, none⟩)), (.int .u32 ((pwb X i j : Nat) : Int)), (.int .u32 ((pwb X i j * 256 : Nat) : Int)), (.int .i64 ((i : Nat) : Int)), (.int .i64 ((4 * i : Nat) : Int)), (.int .i64 ((j : Nat) : Int)), (.int .i64 (((4 * i) + j : Nat) : Int)), (.pointer (some ⟨nb ρ1 0, (4 * i) + j, none⟩)), (.int .u8 ((gB X ((4 * i) + j) : Nat) : Int)), (.int .u32 ((gB X ((4 * i) + j) : Nat) : Int)), (.int .u32 ((pwb X i (j + 1) : Nat) : Int)), (.pointer (some ⟨nb ρ2 0, i, none⟩)), undef] : List Value).getD ι undef)
    (fun _ ι => ([{}, {}, {}, {}, {}, {}, {}, {}, {}, {}, {}, {}, {}, {}, { puts := [(2, (.cells (C2.setIfInBounds i (.int .u32 ((pwb X i (j + 1) : Nat) : Int))) 86 (0, 0)))] }] : List Eff).getD ι {})
    (by kernel_rfl) (by kernel_rfl) (by kernel_rfl) (fun _ => by kernel_rfl) (fun _ => by kernel_rfl) ⟨⟨⟨⟨⟨⟨⟨⟨⟨⟨⟨⟨⟨⟨⟨trivial, ?_⟩, ?_⟩, ?_⟩, ?_⟩, ?_⟩, ?_⟩, ?_⟩, ?_⟩, ?_⟩, ?_⟩, ?_⟩, ?_⟩, ?_⟩, ?_⟩, ?_⟩
  · exact o_run 0 [] [] (fun _ _ => []) (fun _ _ => by kernel_rfl)
  · exact o_run 1 [] [] (fun _ _ => []) (fun _ _ => by kernel_rfl)
  · exact o_sem 2 (fun _ => do pure (Next.value (← Instr.indexAt 86 (pt (nb ρ2 0)) (.int .i64 ((i : Nat) : Int))))) (fun _ => (.pointer (some ⟨nb ρ2 0, i, none⟩))) (fun _ => by kernel_rfl) (fun _ => by kernel_rfl) (fun _ w => run_idx_nat (n := ((i : Nat) : Int)) (i := i) Tryd.underlying86 Tryd.sizeOf75 ((by have := of_decide_eq_true hb1; have := of_decide_eq_true hb2; have := hX; have := hi; have := hj; omega)) w)
  · exact o_ld 3 2 75 (fun _ => nb ρ2 0) (fun _ => i) (fun _ => C2) 86 (0, 0) (fun _ => (.int .u32 ((pwb X i j : Nat) : Int))) (fun _ => by kernel_rfl) Tryd.isAgg75 (fun _ => (by rw [hC2, rowK_get (by have := of_decide_eq_true hb1; have := of_decide_eq_true hb2; have := hX; have := hi; have := hj; omega), sc_at]))
  · exact o_bin 4 .shl 75 (fun _ => (.int .u32 ((pwb X i j : Nat) : Int))) (fun _ => (.int .u64 8)) (fun _ => (.int .u32 ((pwb X i j * 256 : Nat) : Int))) (fun _ => by kernel_rfl) (fun _ _ _ _ => by kernel_rfl) (fun _ w => run_pw8 (by have := of_decide_eq_true hb1; have := of_decide_eq_true hb2; have := hX; have := hi; have := hj; omega) w)
  · exact o_run 5 [] [] (fun _ _ => []) (fun _ _ => by kernel_rfl)
  · exact o_as 6 (fun _ => (.int .i64 (IntKind.i64.wrap (4 * ((i : Nat) : Int))))) (fun _ => (.int .i64 ((4 * i : Nat) : Int))) (fun _ _ => by kernel_rfl) (fun _ => congrArg (Value.int .i64) (wrap_mulN 4 i (by have := of_decide_eq_true hb1; have := of_decide_eq_true hb2; have := hX; have := hi; have := hj; omega)))
  · exact o_run 7 [] [] (fun _ _ => []) (fun _ _ => by kernel_rfl)
  · exact o_as 8 (fun _ => (.int .i64 (IntKind.i64.wrap (((4 * i : Nat) : Int) + ((j : Nat) : Int))))) (fun _ => (.int .i64 (((4 * i) + j : Nat) : Int))) (fun _ _ => by kernel_rfl) (fun _ => congrArg (Value.int .i64) (wrap_addN (4 * i) j (by have := of_decide_eq_true hb1; have := of_decide_eq_true hb2; have := hX; have := hi; have := hj; omega)))
  · exact o_sem 9 (fun _ => do pure (Next.value (← Instr.indexAt 78 (pt (nb ρ1 0)) (.int .i64 (((4 * i) + j : Nat) : Int))))) (fun _ => (.pointer (some ⟨nb ρ1 0, (4 * i) + j, none⟩))) (fun _ => by kernel_rfl) (fun _ => by kernel_rfl) (fun _ w => run_idx_nat (n := (((4 * i) + j : Nat) : Int)) (i := (4 * i) + j) Tryd.underlying78 Tryd.sizeOf5 ((by have := of_decide_eq_true hb1; have := of_decide_eq_true hb2; have := hX; have := hi; have := hj; omega)) w)
  · exact o_ld 10 0 5 (fun _ => nb ρ1 0) (fun _ => (4 * i) + j) (fun _ => ((bs X).toArray)) 78 (0, 0) (fun _ => (.int .u8 ((gB X ((4 * i) + j) : Nat) : Int))) (fun _ => by kernel_rfl) Tryd.isAgg5 (fun _ => (bsA_get (by rw [hX]; have := of_decide_eq_true hb1; have := of_decide_eq_true hb2; have := hX; have := hi; have := hj; omega)))
  · exact o_as 11 (fun _ => (.int .u32 (IntKind.u32.wrap (((gB X ((4 * i) + j) : Nat) : Int))))) (fun _ => (.int .u32 ((gB X ((4 * i) + j) : Nat) : Int))) (fun _ _ => by kernel_rfl) (fun _ => congrArg (Value.int .u32) (u32N (Nat.lt_of_lt_of_le (gB_lt _ _) (by decide))))
  · exact o_as 12 (fun _ => (.int .u32 (bits .or .u32 ((pwb X i j * 256 : Nat) : Int) ((gB X ((4 * i) + j) : Nat) : Int)))) (fun _ => (.int .u32 ((pwb X i (j + 1) : Nat) : Int))) (fun _ _ => by kernel_rfl) (fun _ => congrArg (Value.int .u32) (or_pw (by have := of_decide_eq_true hb1; have := of_decide_eq_true hb2; have := hX; have := hi; have := hj; omega)))
  · exact o_sem 13 (fun _ => do pure (Next.value (← Instr.indexAt 86 (pt (nb ρ2 0)) (.int .i64 ((i : Nat) : Int))))) (fun _ => (.pointer (some ⟨nb ρ2 0, i, none⟩))) (fun _ => by kernel_rfl) (fun _ => by kernel_rfl) (fun _ w => run_idx_nat (n := ((i : Nat) : Int)) (i := i) Tryd.underlying86 Tryd.sizeOf75 ((by have := of_decide_eq_true hb1; have := of_decide_eq_true hb2; have := hX; have := hi; have := hj; omega)) w)
  · exact o_st 14 2 75 (fun _ => nb ρ2 0) (fun _ => i) (fun _ => C2) (fun _ => (C2.setIfInBounds i (.int .u32 ((pwb X i (j + 1) : Nat) : Int)))) 86 (fun _ => (.int .u32 ((pwb X i (j + 1) : Nat) : Int))) (fun _ => by kernel_rfl) Tryd.sizeOf75 (fun _ => rfl) (fun _ => (by rw [hC2, rowK_size]; have := of_decide_eq_true hb1; have := of_decide_eq_true hb2; have := hX; have := hi; have := hj; omega)) (fun _ => rfl)
theorem sched_any_r10 (X : List UInt8) (hX : X.length = 64) (i : Nat) (hi : i ≤ 16) (hb1 : (decide (((i : Nat) : Int) < 16)) = true) (j : Nat) (C2 : Array Value) (hj : j ≤ 4) (hb2 : (decide (((j : Nat) : Int) < 4)) = true) (ρ1 : Nat → Orc) (ρ2 : Nat → Orc) (w0 : World) (F : World → Prop) : Reg Tryd.prog 9 (regOps Tryd.f103 9) false 85 [(1, (pt (nb ρ1 0))), (2, (pt (nb ρ1 1))), (3, (pt (nb ρ2 0))), (4, (.int .i64 ((i : Nat) : Int))), (9, (.int .i64 ((i : Nat) : Int))), (12, (.int .i64 ((j : Nat) : Int)))] w0 [(nb ρ1 0, (.cells ((bs X).toArray) 78 (0, 0))), (nb ρ1 1, (.cells (rowK .u32 64 (fun _ => 0)) 86 (0, 0))), (nb ρ2 0, (.cells (C2.setIfInBounds i (.int .u32 ((pwb X i (j + 1) : Nat) : Int))) 86 (0, 0)))] F
    (fun _ => [(1, (pt (nb ρ1 0))), (2, (pt (nb ρ1 1))), (3, (pt (nb ρ2 0))), (4, (.int .i64 ((i : Nat) : Int))), (9, (.int .i64 ((i : Nat) : Int))), (12, (.int .i64 ((j + 1 : Nat) : Int)))])
    (fun _ => [(nb ρ1 0, (.cells ((bs X).toArray) 78 (0, 0))), (nb ρ1 1, (.cells (rowK .u32 64 (fun _ => 0)) 86 (0, 0))), (nb ρ2 0, (.cells (C2.setIfInBounds i (.int .u32 ((pwb X i (j + 1) : Nat) : Int))) 86 (0, 0)))]) := by
  refine reg_seq [0, 1] [1, 2, 3, 4, 9, 12] 2
    (fun _ ι => ([(.int .i64 ((j + 1 : Nat) : Int)), (.int .i64 ((j + 1 : Nat) : Int))] : List Value).getD ι undef)
    (fun _ ι => ([{}, {}] : List Eff).getD ι {})
    (by kernel_rfl) (by kernel_rfl) (fun _ => by kernel_rfl) (fun _ => by kernel_rfl) ⟨⟨trivial, ?_⟩, ?_⟩
  · exact o_as 0 (fun _ => (.int .i64 (IntKind.i64.wrap (((j : Nat) : Int) + 1)))) (fun _ => (.int .i64 ((j + 1 : Nat) : Int))) (fun _ _ => by kernel_rfl) (fun _ => congrArg (Value.int .i64) (wrap_addN j 1 (by have := of_decide_eq_true hb1; have := of_decide_eq_true hb2; have := hX; have := hi; have := hj; omega)))
  · exact o_run 1 [] [] (fun _ _ => []) (fun _ _ => by kernel_rfl)
theorem sched_any_r11 (X : List UInt8) (hX : X.length = 64) (i : Nat) (hi : i ≤ 16) (hb1 : (decide (((i : Nat) : Int) < 16)) = true) (j : Nat) (C2 : Array Value) (hj : j ≤ 4) (hb2 : (decide (((j : Nat) : Int) < 4)) = false) (ρ1 : Nat → Orc) (ρ2 : Nat → Orc) (w0 : World) (F : World → Prop) : Reg Tryd.prog 10 (regOps Tryd.f103 10) false 85 [(1, (pt (nb ρ1 0))), (2, (pt (nb ρ1 1))), (3, (pt (nb ρ2 0))), (4, (.int .i64 ((i : Nat) : Int))), (9, (.int .i64 ((i : Nat) : Int))), (12, (.int .i64 ((j : Nat) : Int))), (13, (.bool false))] w0 [(nb ρ1 0, (.cells ((bs X).toArray) 78 (0, 0))), (nb ρ1 1, (.cells (rowK .u32 64 (fun _ => 0)) 86 (0, 0))), (nb ρ2 0, (.cells C2 86 (0, 0)))] F
    (fun _ => [(1, (pt (nb ρ1 0))), (2, (pt (nb ρ1 1))), (3, (pt (nb ρ2 0))), (9, (.int .i64 ((i + 1 : Nat) : Int)))])
    (fun _ => [(nb ρ1 0, (.cells ((bs X).toArray) 78 (0, 0))), (nb ρ1 1, (.cells (rowK .u32 64 (fun _ => 0)) 86 (0, 0))), (nb ρ2 0, (.cells C2 86 (0, 0)))]) := by
  refine reg_seq [0, 1] [1, 2, 3, 9] 2
    (fun _ ι => ([(.int .i64 ((i + 1 : Nat) : Int)), (.int .i64 ((i + 1 : Nat) : Int))] : List Value).getD ι undef)
    (fun _ ι => ([{}, {}] : List Eff).getD ι {})
    (by kernel_rfl) (by kernel_rfl) (fun _ => by kernel_rfl) (fun _ => by kernel_rfl) ⟨⟨trivial, ?_⟩, ?_⟩
  · exact o_as 0 (fun _ => (.int .i64 (IntKind.i64.wrap (((i : Nat) : Int) + 1)))) (fun _ => (.int .i64 ((i + 1 : Nat) : Int))) (fun _ _ => by kernel_rfl) (fun _ => congrArg (Value.int .i64) (wrap_addN i 1 (by have := of_decide_eq_true hb1; have := of_decide_eq_false hb2; have := hX; have := hi; have := hj; omega)))
  · exact o_run 1 [] [] (fun _ _ => []) (fun _ _ => by kernel_rfl)
theorem sched_any_r12 (X : List UInt8) (i : Nat) (C : Array Value) (ρ1 : Nat → Orc) (ρ2 : Nat → Orc) (w0 : World) (F : World → Prop) : Reg Tryd.prog 11 (regOps Tryd.f103 11) false 85 [(1, (pt (nb ρ1 0))), (2, (pt (nb ρ1 1))), (3, (pt (nb ρ2 0))), (9, (.int .i64 ((i : Nat) : Int))), (10, (.bool false))] w0 [(nb ρ1 0, (.cells ((bs X).toArray) 78 (0, 0))), (nb ρ1 1, (.cells (rowK .u32 64 (fun _ => 0)) 86 (0, 0))), (nb ρ2 0, (.cells C 86 (0, 0)))] F
    (fun _ => [(2, (pt (nb ρ1 1))), (3, (pt (nb ρ2 0))), (6, (.int .i64 16))])
    (fun _ => [(nb ρ1 0, (.cells ((bs X).toArray) 78 (0, 0))), (nb ρ1 1, (.cells (rowK .u32 64 (fun _ => 0)) 86 (0, 0))), (nb ρ2 0, (.cells C 86 (0, 0)))]) := by
  refine reg_seq [0] [2, 3, 6] 1
    (fun _ ι => ([(.int .i64 16)] : List Value).getD ι undef)
    (fun _ ι => ([{}] : List Eff).getD ι {})
    (by kernel_rfl) (by kernel_rfl) (fun _ => by kernel_rfl) (fun _ => by kernel_rfl) ⟨trivial, ?_⟩
  · exact o_run 0 [] [] (fun _ _ => []) (fun _ _ => by kernel_rfl)
theorem sched_any_r13 (X : List UInt8) (k : Nat) (C3 : Array Value) (ρ1 : Nat → Orc) (ρ2 : Nat → Orc) (w0 : World) (F : World → Prop) : Reg Tryd.prog 12 (regOps Tryd.f103 12) false 85 [(2, (pt (nb ρ1 1))), (3, (pt (nb ρ2 0))), (6, (.int .i64 ((k : Nat) : Int)))] w0 [(nb ρ1 0, (.cells ((bs X).toArray) 78 (0, 0))), (nb ρ1 1, (.cells (rowK .u32 64 (fun _ => 0)) 86 (0, 0))), (nb ρ2 0, (.cells C3 86 (0, 0)))] F
    (fun _ => [(2, (pt (nb ρ1 1))), (3, (pt (nb ρ2 0))), (6, (.int .i64 ((k : Nat) : Int))), (32, (.bool (decide (((k : Nat) : Int) < 64))))])
    (fun _ => [(nb ρ1 0, (.cells ((bs X).toArray) 78 (0, 0))), (nb ρ1 1, (.cells (rowK .u32 64 (fun _ => 0)) 86 (0, 0))), (nb ρ2 0, (.cells C3 86 (0, 0)))]) := by
  refine reg_seq [0, 1] [2, 3, 6, 32] 2
    (fun _ ι => ([(.int .i64 ((k : Nat) : Int)), (.bool (decide (((k : Nat) : Int) < 64)))] : List Value).getD ι undef)
    (fun _ ι => ([{}, {}] : List Eff).getD ι {})
    (by kernel_rfl) (by kernel_rfl) (fun _ => by kernel_rfl) (fun _ => by kernel_rfl) ⟨⟨trivial, ?_⟩, ?_⟩
  · exact o_run 0 [] [] (fun _ _ => []) (fun _ _ => by kernel_rfl)
  · exact o_run 1 [] [] (fun _ _ => []) (fun _ _ => by kernel_rfl)
theorem sched_any_r14 (X : List UInt8) (hX : X.length = 64) (i : Nat) (hi : i ≤ 16) (hb1 : (decide (((i : Nat) : Int) < 16)) = false) (k : Nat) (C3 : Array Value) (hk : 16 ≤ k ∧ k ≤ 64) (hC3 : C3 = rowK .u32 64 (tc X k)) (hb3 : (decide (((k : Nat) : Int) < 64)) = true) (ρ1 : Nat → Orc) (ρ2 : Nat → Orc) (w0 : World) (F : World → Prop) : Reg Tryd.prog 14 (regOps Tryd.f103 14) true 85 [(2, (pt (nb ρ1 1))), (3, (pt (nb ρ2 0))), (6, (.int .i64 ((k : Nat) : Int))), (32, (.bool true))] w0 [(nb ρ1 0, (.cells ((bs X).toArray) 78 (0, 0))), (nb ρ1 1, (.cells (rowK .u32 64 (fun _ => 0)) 86 (0, 0))), (nb ρ2 0, (.cells C3 86 (0, 0)))] F
    (fun _ => [(2, (pt (nb ρ1 1))), (3, (pt (nb ρ2 0))), (6, (.int .i64 ((k : Nat) : Int))), (7, (.int .u32 ((((rot32 (wN X (k - 15)) 7) ^^^ (rot32 (wN X (k - 15)) 18)) ^^^ ((wN X (k - 15)) / 2 ^ 3) : Nat) : Int)))])
    (fun _ => [(nb ρ1 0, (.cells ((bs X).toArray) 78 (0, 0))), (nb ρ1 1, (.cells (rowK .u32 64 (fun _ => 0)) 86 (0, 0))), (nb ρ2 0, (.cells C3 86 (0, 0)))]) := by
  refine reg_drawn [0, 1, 3, 7, 15, 0, 32, 96, 224, 511, 1023, 0, 2048, 6144, 14336, 30720, 65535, 131071] [2, 3, 6, 7] 18
    (fun _ ι => ([(.int .i64 ((k : Nat) : Int)), (.int .i64 (((k : Nat) : Int) - 15)), (.pointer (some ⟨nb ρ2 0, k - 15, none⟩)), (.int .u32 ((wN X (k - 15) : Nat) : Int)), (.int .u32 ((rot32 (wN X (k - 15)) 7 : Nat) : Int)), (.int .i64 ((k : Nat) : Int)), (.int .i64 (((k : Nat) : Int) - 15)), (.pointer (some ⟨nb ρ2 0, k - 15, none⟩)), (.int .u32 ((wN X (k - 15) : Nat) : Int)), (.int .u32 ((rot32 (wN X (k - 15)) 18 : Nat) : Int)), (.int .u32 (((rot32 (wN X (k - 15)) 7) ^^^ (rot32 (wN X (k - 15)) 18) : Nat) : Int)), (.int .i64 ((k : Nat) : Int)), (.int .i64 (((k : Nat) : Int) - 15)), (.pointer (some ⟨nb ρ2 0, k - 15, none⟩)), (.int .u32 ((wN X (k - 15) : Nat) : Int)), (.int .u32 (((wN X (k - 15)) / 2 ^ 3 : Nat) : Int)), (.int .u32 ((((rot32 (wN X (k - 15)) 7) ^^^ (rot32 (wN X (k - 15)) 18)) ^^^ ((wN X (k - 15)) / 2 ^ 3) : Nat) : Int)), (.int .u32 ((((rot32 (wN X (k - 15)) 7) ^^^ (rot32 (wN X (k - 15)) 18)) ^^^ ((wN X (k - 15)) / 2 ^ 3) : Nat) : Int))] : List Value).getD ι undef)
    (fun _ ι => ([{}, {}, {}, {}, {}, {}, {}, {}, {}, {}, {}, {}, {}, {}, {}, {}, {}, {}] : List Eff).getD ι {})
    (by kernel_rfl) (by kernel_rfl) (by kernel_rfl) (fun _ => by kernel_rfl) (fun _ => by kernel_rfl) ⟨⟨⟨⟨⟨⟨⟨⟨⟨⟨⟨⟨⟨⟨⟨⟨⟨⟨trivial, ?_⟩, ?_⟩, ?_⟩, ?_⟩, ?_⟩, ?_⟩, ?_⟩, ?_⟩, ?_⟩, ?_⟩, ?_⟩, ?_⟩, ?_⟩, ?_⟩, ?_⟩, ?_⟩, ?_⟩, ?_⟩
  · exact o_run 0 [] [] (fun _ _ => []) (fun _ _ => by kernel_rfl)
  · exact o_as 1 (fun _ => (.int .i64 (IntKind.i64.wrap (((k : Nat) : Int) - 15)))) (fun _ => (.int .i64 (((k : Nat) : Int) - 15))) (fun _ _ => by kernel_rfl) (fun _ => congrArg (Value.int .i64) (i64N (by have := of_decide_eq_false hb1; have := of_decide_eq_true hb3; have := hX; have := hi; have := hk; omega)))
  · exact o_sem 2 (fun _ => do pure (Next.value (← Instr.indexAt 86 (pt (nb ρ2 0)) (.int .i64 (((k : Nat) : Int) - 15))))) (fun _ => (.pointer (some ⟨nb ρ2 0, k - 15, none⟩))) (fun _ => by kernel_rfl) (fun _ => by kernel_rfl) (fun _ w => run_idx_nat (n := ((k : Nat) : Int) - 15) (i := k - 15) Tryd.underlying86 Tryd.sizeOf75 ((by have := of_decide_eq_false hb1; have := of_decide_eq_true hb3; have := hX; have := hi; have := hk; omega)) w)
  · exact o_ld 3 2 75 (fun _ => nb ρ2 0) (fun _ => k - 15) (fun _ => C3) 86 (0, 0) (fun _ => (.int .u32 ((wN X (k - 15) : Nat) : Int))) (fun _ => by kernel_rfl) Tryd.isAgg75 (fun _ => (by rw [hC3]; exact tc_get (by have := of_decide_eq_false hb1; have := of_decide_eq_true hb3; have := hX; have := hi; have := hk; omega) (by have := of_decide_eq_false hb1; have := of_decide_eq_true hb3; have := hX; have := hi; have := hk; omega)))
  · exact o_call 4 104 (fun _ => #[(.int .u32 ((wN X (k - 15) : Nat) : Int)), (.int .i64 7)]) (fun _ => (.int .u32 ((rot32 (wN X (k - 15)) 7 : Nat) : Int))) (fun _ _ => by kernel_rfl) (fun _ w => (fun w => rotr_any (wN X (k - 15)) 7 (wN_lt _ _) (by decide) w) w)
  · exact o_run 5 [] [] (fun _ _ => []) (fun _ _ => by kernel_rfl)
  · exact o_as 6 (fun _ => (.int .i64 (IntKind.i64.wrap (((k : Nat) : Int) - 15)))) (fun _ => (.int .i64 (((k : Nat) : Int) - 15))) (fun _ _ => by kernel_rfl) (fun _ => congrArg (Value.int .i64) (i64N (by have := of_decide_eq_false hb1; have := of_decide_eq_true hb3; have := hX; have := hi; have := hk; omega)))
  · exact o_sem 7 (fun _ => do pure (Next.value (← Instr.indexAt 86 (pt (nb ρ2 0)) (.int .i64 (((k : Nat) : Int) - 15))))) (fun _ => (.pointer (some ⟨nb ρ2 0, k - 15, none⟩))) (fun _ => by kernel_rfl) (fun _ => by kernel_rfl) (fun _ w => run_idx_nat (n := ((k : Nat) : Int) - 15) (i := k - 15) Tryd.underlying86 Tryd.sizeOf75 ((by have := of_decide_eq_false hb1; have := of_decide_eq_true hb3; have := hX; have := hi; have := hk; omega)) w)
  · exact o_ld 8 2 75 (fun _ => nb ρ2 0) (fun _ => k - 15) (fun _ => C3) 86 (0, 0) (fun _ => (.int .u32 ((wN X (k - 15) : Nat) : Int))) (fun _ => by kernel_rfl) Tryd.isAgg75 (fun _ => (by rw [hC3]; exact tc_get (by have := of_decide_eq_false hb1; have := of_decide_eq_true hb3; have := hX; have := hi; have := hk; omega) (by have := of_decide_eq_false hb1; have := of_decide_eq_true hb3; have := hX; have := hi; have := hk; omega)))
  · exact o_call 9 104 (fun _ => #[(.int .u32 ((wN X (k - 15) : Nat) : Int)), (.int .i64 18)]) (fun _ => (.int .u32 ((rot32 (wN X (k - 15)) 18 : Nat) : Int))) (fun _ _ => by kernel_rfl) (fun _ w => (fun w => rotr_any (wN X (k - 15)) 18 (wN_lt _ _) (by decide) w) w)
  · exact o_as 10 (fun _ => (.int .u32 (bits .xor .u32 ((rot32 (wN X (k - 15)) 7 : Nat) : Int) ((rot32 (wN X (k - 15)) 18 : Nat) : Int)))) (fun _ => (.int .u32 (((rot32 (wN X (k - 15)) 7) ^^^ (rot32 (wN X (k - 15)) 18) : Nat) : Int))) (fun _ _ => by kernel_rfl) (fun _ => congrArg (Value.int .u32) (xor32 (rot32_lt _ (wN_lt _ _)) (rot32_lt _ (wN_lt _ _))))
  · exact o_run 11 [] [] (fun _ _ => []) (fun _ _ => by kernel_rfl)
  · exact o_as 12 (fun _ => (.int .i64 (IntKind.i64.wrap (((k : Nat) : Int) - 15)))) (fun _ => (.int .i64 (((k : Nat) : Int) - 15))) (fun _ _ => by kernel_rfl) (fun _ => congrArg (Value.int .i64) (i64N (by have := of_decide_eq_false hb1; have := of_decide_eq_true hb3; have := hX; have := hi; have := hk; omega)))
  · exact o_sem 13 (fun _ => do pure (Next.value (← Instr.indexAt 86 (pt (nb ρ2 0)) (.int .i64 (((k : Nat) : Int) - 15))))) (fun _ => (.pointer (some ⟨nb ρ2 0, k - 15, none⟩))) (fun _ => by kernel_rfl) (fun _ => by kernel_rfl) (fun _ w => run_idx_nat (n := ((k : Nat) : Int) - 15) (i := k - 15) Tryd.underlying86 Tryd.sizeOf75 ((by have := of_decide_eq_false hb1; have := of_decide_eq_true hb3; have := hX; have := hi; have := hk; omega)) w)
  · exact o_ld 14 2 75 (fun _ => nb ρ2 0) (fun _ => k - 15) (fun _ => C3) 86 (0, 0) (fun _ => (.int .u32 ((wN X (k - 15) : Nat) : Int))) (fun _ => by kernel_rfl) Tryd.isAgg75 (fun _ => (by rw [hC3]; exact tc_get (by have := of_decide_eq_false hb1; have := of_decide_eq_true hb3; have := hX; have := hi; have := hk; omega) (by have := of_decide_eq_false hb1; have := of_decide_eq_true hb3; have := hX; have := hi; have := hk; omega)))
  · exact o_bin 15 .shr 75 (fun _ => (.int .u32 ((wN X (k - 15) : Nat) : Int))) (fun _ => (.int .u64 3)) (fun _ => (.int .u32 (((wN X (k - 15)) / 2 ^ 3 : Nat) : Int))) (fun _ => by kernel_rfl) (fun _ _ _ _ => by kernel_rfl) (fun _ w => run_shrU (k := .u32) (x := (wN X (k - 15))) (c := 3) (wN_lt _ _) w)
  · exact o_as 16 (fun _ => (.int .u32 (bits .xor .u32 (((rot32 (wN X (k - 15)) 7) ^^^ (rot32 (wN X (k - 15)) 18) : Nat) : Int) (((wN X (k - 15)) / 2 ^ 3 : Nat) : Int)))) (fun _ => (.int .u32 ((((rot32 (wN X (k - 15)) 7) ^^^ (rot32 (wN X (k - 15)) 18)) ^^^ ((wN X (k - 15)) / 2 ^ 3) : Nat) : Int))) (fun _ _ => by kernel_rfl) (fun _ => congrArg (Value.int .u32) (xor32 (xor32_lt (rot32_lt _ (wN_lt _ _)) (rot32_lt _ (wN_lt _ _))) (shr32_lt _ (wN_lt _ _))))
  · exact o_run 17 [] [] (fun _ _ => []) (fun _ _ => by kernel_rfl)
theorem sched_any_r15 (X : List UInt8) (hX : X.length = 64) (i : Nat) (hi : i ≤ 16) (hb1 : (decide (((i : Nat) : Int) < 16)) = false) (k : Nat) (C3 : Array Value) (hk : 16 ≤ k ∧ k ≤ 64) (hC3 : C3 = rowK .u32 64 (tc X k)) (hb3 : (decide (((k : Nat) : Int) < 64)) = true) (ρ1 : Nat → Orc) (ρ2 : Nat → Orc) (w0 : World) (F : World → Prop) : Reg Tryd.prog 15 (regOps Tryd.f103 15) true 85 [(2, (pt (nb ρ1 1))), (3, (pt (nb ρ2 0))), (6, (.int .i64 ((k : Nat) : Int))), (7, (.int .u32 ((((rot32 (wN X (k - 15)) 7) ^^^ (rot32 (wN X (k - 15)) 18)) ^^^ ((wN X (k - 15)) / 2 ^ 3) : Nat) : Int)))] w0 [(nb ρ1 0, (.cells ((bs X).toArray) 78 (0, 0))), (nb ρ1 1, (.cells (rowK .u32 64 (fun _ => 0)) 86 (0, 0))), (nb ρ2 0, (.cells C3 86 (0, 0)))] F
    (fun _ => [(2, (pt (nb ρ1 1))), (3, (pt (nb ρ2 0))), (6, (.int .i64 ((k : Nat) : Int))), (7, (.int .u32 ((((rot32 (wN X (k - 15)) 7) ^^^ (rot32 (wN X (k - 15)) 18)) ^^^ ((wN X (k - 15)) / 2 ^ 3) : Nat) : Int))), (8, (.int .u32 ((((rot32 (wN X (k - 2)) 17) ^^^ (rot32 (wN X (k - 2)) 19)) ^^^ ((wN X (k - 2)) / 2 ^ 10) : Nat) : Int)))])
    (fun _ => [(nb ρ1 0, (.cells ((bs X).toArray) 78 (0, 0))), (nb ρ1 1, (.cells (rowK .u32 64 (fun _ => 0)) 86 (0, 0))), (nb ρ2 0, (.cells C3 86 (0, 0)))]) := by
  refine reg_drawn [0, 1, 3, 7, 15, 0, 32, 96, 224, 511, 1023, 0, 2048, 6144, 14336, 30720, 65535, 131071] [2, 3, 6, 7, 8] 18
    (fun _ ι => ([(.int .i64 ((k : Nat) : Int)), (.int .i64 (((k : Nat) : Int) - 2)), (.pointer (some ⟨nb ρ2 0, k - 2, none⟩)), (.int .u32 ((wN X (k - 2) : Nat) : Int)), (.int .u32 ((rot32 (wN X (k - 2)) 17 : Nat) : Int)), (.int .i64 ((k : Nat) : Int)), (.int .i64 (((k : Nat) : Int) - 2)), (.pointer (some ⟨nb ρ2 0, k - 2, none⟩)), (.int .u32 ((wN X (k - 2) : Nat) : Int)), (.int .u32 ((rot32 (wN X (k - 2)) 19 : Nat) : Int)), (.int .u32 (((rot32 (wN X (k - 2)) 17) ^^^ (rot32 (wN X (k - 2)) 19) : Nat) : Int)), (.int .i64 ((k : Nat) : Int)), (.int .i64 (((k : Nat) : Int) - 2)), (.pointer (some ⟨nb ρ2 0, k - 2, none⟩)), (.int .u32 ((wN X (k - 2) : Nat) : Int)), (.int .u32 (((wN X (k - 2)) / 2 ^ 10 : Nat) : Int)), (.int .u32 ((((rot32 (wN X (k - 2)) 17) ^^^ (rot32 (wN X (k - 2)) 19)) ^^^ ((wN X (k - 2)) / 2 ^ 10) : Nat) : Int)), (.int .u32 ((((rot32 (wN X (k - 2)) 17) ^^^ (rot32 (wN X (k - 2)) 19)) ^^^ ((wN X (k - 2)) / 2 ^ 10) : Nat) : Int))] : List Value).getD ι undef)
    (fun _ ι => ([{}, {}, {}, {}, {}, {}, {}, {}, {}, {}, {}, {}, {}, {}, {}, {}, {}, {}] : List Eff).getD ι {})
    (by kernel_rfl) (by kernel_rfl) (by kernel_rfl) (fun _ => by kernel_rfl) (fun _ => by kernel_rfl) ⟨⟨⟨⟨⟨⟨⟨⟨⟨⟨⟨⟨⟨⟨⟨⟨⟨⟨trivial, ?_⟩, ?_⟩, ?_⟩, ?_⟩, ?_⟩, ?_⟩, ?_⟩, ?_⟩, ?_⟩, ?_⟩, ?_⟩, ?_⟩, ?_⟩, ?_⟩, ?_⟩, ?_⟩, ?_⟩, ?_⟩
  · exact o_run 0 [] [] (fun _ _ => []) (fun _ _ => by kernel_rfl)
  · exact o_as 1 (fun _ => (.int .i64 (IntKind.i64.wrap (((k : Nat) : Int) - 2)))) (fun _ => (.int .i64 (((k : Nat) : Int) - 2))) (fun _ _ => by kernel_rfl) (fun _ => congrArg (Value.int .i64) (i64N (by have := of_decide_eq_false hb1; have := of_decide_eq_true hb3; have := hX; have := hi; have := hk; omega)))
  · exact o_sem 2 (fun _ => do pure (Next.value (← Instr.indexAt 86 (pt (nb ρ2 0)) (.int .i64 (((k : Nat) : Int) - 2))))) (fun _ => (.pointer (some ⟨nb ρ2 0, k - 2, none⟩))) (fun _ => by kernel_rfl) (fun _ => by kernel_rfl) (fun _ w => run_idx_nat (n := ((k : Nat) : Int) - 2) (i := k - 2) Tryd.underlying86 Tryd.sizeOf75 ((by have := of_decide_eq_false hb1; have := of_decide_eq_true hb3; have := hX; have := hi; have := hk; omega)) w)
  · exact o_ld 3 2 75 (fun _ => nb ρ2 0) (fun _ => k - 2) (fun _ => C3) 86 (0, 0) (fun _ => (.int .u32 ((wN X (k - 2) : Nat) : Int))) (fun _ => by kernel_rfl) Tryd.isAgg75 (fun _ => (by rw [hC3]; exact tc_get (by have := of_decide_eq_false hb1; have := of_decide_eq_true hb3; have := hX; have := hi; have := hk; omega) (by have := of_decide_eq_false hb1; have := of_decide_eq_true hb3; have := hX; have := hi; have := hk; omega)))
  · exact o_call 4 104 (fun _ => #[(.int .u32 ((wN X (k - 2) : Nat) : Int)), (.int .i64 17)]) (fun _ => (.int .u32 ((rot32 (wN X (k - 2)) 17 : Nat) : Int))) (fun _ _ => by kernel_rfl) (fun _ w => (fun w => rotr_any (wN X (k - 2)) 17 (wN_lt _ _) (by decide) w) w)
  · exact o_run 5 [] [] (fun _ _ => []) (fun _ _ => by kernel_rfl)
  · exact o_as 6 (fun _ => (.int .i64 (IntKind.i64.wrap (((k : Nat) : Int) - 2)))) (fun _ => (.int .i64 (((k : Nat) : Int) - 2))) (fun _ _ => by kernel_rfl) (fun _ => congrArg (Value.int .i64) (i64N (by have := of_decide_eq_false hb1; have := of_decide_eq_true hb3; have := hX; have := hi; have := hk; omega)))
  · exact o_sem 7 (fun _ => do pure (Next.value (← Instr.indexAt 86 (pt (nb ρ2 0)) (.int .i64 (((k : Nat) : Int) - 2))))) (fun _ => (.pointer (some ⟨nb ρ2 0, k - 2, none⟩))) (fun _ => by kernel_rfl) (fun _ => by kernel_rfl) (fun _ w => run_idx_nat (n := ((k : Nat) : Int) - 2) (i := k - 2) Tryd.underlying86 Tryd.sizeOf75 ((by have := of_decide_eq_false hb1; have := of_decide_eq_true hb3; have := hX; have := hi; have := hk; omega)) w)
  · exact o_ld 8 2 75 (fun _ => nb ρ2 0) (fun _ => k - 2) (fun _ => C3) 86 (0, 0) (fun _ => (.int .u32 ((wN X (k - 2) : Nat) : Int))) (fun _ => by kernel_rfl) Tryd.isAgg75 (fun _ => (by rw [hC3]; exact tc_get (by have := of_decide_eq_false hb1; have := of_decide_eq_true hb3; have := hX; have := hi; have := hk; omega) (by have := of_decide_eq_false hb1; have := of_decide_eq_true hb3; have := hX; have := hi; have := hk; omega)))
  · exact o_call 9 104 (fun _ => #[(.int .u32 ((wN X (k - 2) : Nat) : Int)), (.int .i64 19)]) (fun _ => (.int .u32 ((rot32 (wN X (k - 2)) 19 : Nat) : Int))) (fun _ _ => by kernel_rfl) (fun _ w => (fun w => rotr_any (wN X (k - 2)) 19 (wN_lt _ _) (by decide) w) w)
  · exact o_as 10 (fun _ => (.int .u32 (bits .xor .u32 ((rot32 (wN X (k - 2)) 17 : Nat) : Int) ((rot32 (wN X (k - 2)) 19 : Nat) : Int)))) (fun _ => (.int .u32 (((rot32 (wN X (k - 2)) 17) ^^^ (rot32 (wN X (k - 2)) 19) : Nat) : Int))) (fun _ _ => by kernel_rfl) (fun _ => congrArg (Value.int .u32) (xor32 (rot32_lt _ (wN_lt _ _)) (rot32_lt _ (wN_lt _ _))))
  · exact o_run 11 [] [] (fun _ _ => []) (fun _ _ => by kernel_rfl)
  · exact o_as 12 (fun _ => (.int .i64 (IntKind.i64.wrap (((k : Nat) : Int) - 2)))) (fun _ => (.int .i64 (((k : Nat) : Int) - 2))) (fun _ _ => by kernel_rfl) (fun _ => congrArg (Value.int .i64) (i64N (by have := of_decide_eq_false hb1; have := of_decide_eq_true hb3; have := hX; have := hi; have := hk; omega)))
  · exact o_sem 13 (fun _ => do pure (Next.value (← Instr.indexAt 86 (pt (nb ρ2 0)) (.int .i64 (((k : Nat) : Int) - 2))))) (fun _ => (.pointer (some ⟨nb ρ2 0, k - 2, none⟩))) (fun _ => by kernel_rfl) (fun _ => by kernel_rfl) (fun _ w => run_idx_nat (n := ((k : Nat) : Int) - 2) (i := k - 2) Tryd.underlying86 Tryd.sizeOf75 ((by have := of_decide_eq_false hb1; have := of_decide_eq_true hb3; have := hX; have := hi; have := hk; omega)) w)
  · exact o_ld 14 2 75 (fun _ => nb ρ2 0) (fun _ => k - 2) (fun _ => C3) 86 (0, 0) (fun _ => (.int .u32 ((wN X (k - 2) : Nat) : Int))) (fun _ => by kernel_rfl) Tryd.isAgg75 (fun _ => (by rw [hC3]; exact tc_get (by have := of_decide_eq_false hb1; have := of_decide_eq_true hb3; have := hX; have := hi; have := hk; omega) (by have := of_decide_eq_false hb1; have := of_decide_eq_true hb3; have := hX; have := hi; have := hk; omega)))
  · exact o_bin 15 .shr 75 (fun _ => (.int .u32 ((wN X (k - 2) : Nat) : Int))) (fun _ => (.int .u64 10)) (fun _ => (.int .u32 (((wN X (k - 2)) / 2 ^ 10 : Nat) : Int))) (fun _ => by kernel_rfl) (fun _ _ _ _ => by kernel_rfl) (fun _ w => run_shrU (k := .u32) (x := (wN X (k - 2))) (c := 10) (wN_lt _ _) w)
  · exact o_as 16 (fun _ => (.int .u32 (bits .xor .u32 (((rot32 (wN X (k - 2)) 17) ^^^ (rot32 (wN X (k - 2)) 19) : Nat) : Int) (((wN X (k - 2)) / 2 ^ 10 : Nat) : Int)))) (fun _ => (.int .u32 ((((rot32 (wN X (k - 2)) 17) ^^^ (rot32 (wN X (k - 2)) 19)) ^^^ ((wN X (k - 2)) / 2 ^ 10) : Nat) : Int))) (fun _ _ => by kernel_rfl) (fun _ => congrArg (Value.int .u32) (xor32 (xor32_lt (rot32_lt _ (wN_lt _ _)) (rot32_lt _ (wN_lt _ _))) (shr32_lt _ (wN_lt _ _))))
  · exact o_run 17 [] [] (fun _ _ => []) (fun _ _ => by kernel_rfl)
theorem sched_any_r16 (X : List UInt8) (hX : X.length = 64) (i : Nat) (hi : i ≤ 16) (hb1 : (decide (((i : Nat) : Int) < 16)) = false) (k : Nat) (C3 : Array Value) (hk : 16 ≤ k ∧ k ≤ 64) (hC3 : C3 = rowK .u32 64 (tc X k)) (hb3 : (decide (((k : Nat) : Int) < 64)) = true) (ρ1 : Nat → Orc) (ρ2 : Nat → Orc) (w0 : World) (F : World → Prop) : Reg Tryd.prog 16 (regOps Tryd.f103 16) true 85 [(2, (pt (nb ρ1 1))), (3, (pt (nb ρ2 0))), (6, (.int .i64 ((k : Nat) : Int))), (7, (.int .u32 ((((rot32 (wN X (k - 15)) 7) ^^^ (rot32 (wN X (k - 15)) 18)) ^^^ ((wN X (k - 15)) / 2 ^ 3) : Nat) : Int))), (8, (.int .u32 ((((rot32 (wN X (k - 2)) 17) ^^^ (rot32 (wN X (k - 2)) 19)) ^^^ ((wN X (k - 2)) / 2 ^ 10) : Nat) : Int)))] w0 [(nb ρ1 0, (.cells ((bs X).toArray) 78 (0, 0))), (nb ρ1 1, (.cells (rowK .u32 64 (fun _ => 0)) 86 (0, 0))), (nb ρ2 0, (.cells C3 86 (0, 0)))] F
    (fun _ => [(2, (pt (nb ρ1 1))), (3, (pt (nb ρ2 0))), (6, (.int .i64 ((k : Nat) : Int)))])
    (fun _ => [(nb ρ1 0, (.cells ((bs X).toArray) 78 (0, 0))), (nb ρ1 1, (.cells (rowK .u32 64 (fun _ => 0)) 86 (0, 0))), (nb ρ2 0, (.cells (C3.setIfInBounds k (.int .u32 ((add32 (add32 (add32 (wN X (k - 16)) (((rot32 (wN X (k - 15)) 7) ^^^ (rot32 (wN X (k - 15)) 18)) ^^^ ((wN X (k - 15)) / 2 ^ 3))) (wN X (k - 7))) (((rot32 (wN X (k - 2)) 17) ^^^ (rot32 (wN X (k - 2)) 19)) ^^^ ((wN X (k - 2)) / 2 ^ 10)) : Nat) : Int))) 86 (0, 0)))]) := by
  refine reg_drawn [0, 0, 2, 6, 14, 0, 62, 0, 128, 384, 896, 2046, 0, 8190, 16383, 32767] [2, 3, 6] 16
    (fun _ ι => ([(.int .i64 ((k : Nat) : Int)), (.int .i64 ((k : Nat) : Int)), (.int .i64 (((k : Nat) : Int) - 16)), (.pointer (some ⟨nb ρ2 0, k - 16, none⟩)), (.int .u32 ((wN X (k - 16) : Nat) : Int)), (.int .u32 ((((rot32 (wN X (k - 15)) 7) ^^^ (rot32 (wN X (k - 15)) 18)) ^^^ ((wN X (k - 15)) / 2 ^ 3) : Nat) : Int)), (.int .u32 ((add32 (wN X (k - 16)) (((rot32 (wN X (k - 15)) 7) ^^^ (rot32 (wN X (k - 15)) 18)) ^^^ ((wN X (k - 15)) / 2 ^ 3)) : Nat) : Int)), (.int .i64 ((k : Nat) : Int)), (.int .i64 (((k : Nat) : Int) - 7)), (.pointer (some ⟨nb ρ2 0, k - 7, none⟩)), (.int .u32 ((wN X (k - 7) : Nat) : Int)), (.int .u32 ((add32 (add32 (wN X (k - 16)) (((rot32 (wN X (k - 15)) 7) ^^^ (rot32 (wN X (k - 15)) 18)) ^^^ ((wN X (k - 15)) / 2 ^ 3))) (wN X (k - 7)) : Nat) : Int)), (.int .u32 ((((rot32 (wN X (k - 2)) 17) ^^^ (rot32 (wN X (k - 2)) 19)) ^^^ ((wN X (k - 2)) / 2 ^ 10) : Nat) : Int)), (.int .u32 ((add32 (add32 (add32 (wN X (k - 16)) (((rot32 (wN X (k - 15)) 7) ^^^ (rot32 (wN X (k - 15)) 18)) ^^^ ((wN X (k - 15)) / 2 ^ 3))) (wN X (k - 7))) (((rot32 (wN X (k - 2)) 17) ^^^ (rot32 (wN X (k - 2)) 19)) ^^^ ((wN X (k - 2)) / 2 ^ 10)) : Nat) : Int)), (.pointer (some ⟨nb ρ2 0, k, none⟩)), undef] : List Value).getD ι undef)
    (fun _ ι => ([{}, {}, {}, {}, {}, {}, {}, {}, {}, {}, {}, {}, {}, {}, {}, { puts := [(2, (.cells (C3.setIfInBounds k (.int .u32 ((add32 (add32 (add32 (wN X (k - 16)) (((rot32 (wN X (k - 15)) 7) ^^^ (rot32 (wN X (k - 15)) 18)) ^^^ ((wN X (k - 15)) / 2 ^ 3))) (wN X (k - 7))) (((rot32 (wN X (k - 2)) 17) ^^^ (rot32 (wN X (k - 2)) 19)) ^^^ ((wN X (k - 2)) / 2 ^ 10)) : Nat) : Int))) 86 (0, 0)))] }] : List Eff).getD ι {})
    (by kernel_rfl) (by kernel_rfl) (by kernel_rfl) (fun _ => by kernel_rfl) (fun _ => by kernel_rfl) ⟨⟨⟨⟨⟨⟨⟨⟨⟨⟨⟨⟨⟨⟨⟨⟨trivial, ?_⟩, ?_⟩, ?_⟩, ?_⟩, ?_⟩, ?_⟩, ?_⟩, ?_⟩, ?_⟩, ?_⟩, ?_⟩, ?_⟩, ?_⟩, ?_⟩, ?_⟩, ?_⟩
  · exact o_run 0 [] [] (fun _ _ => []) (fun _ _ => by kernel_rfl)
  · exact o_run 1 [] [] (fun _ _ => []) (fun _ _ => by kernel_rfl)
  · exact o_as 2 (fun _ => (.int .i64 (IntKind.i64.wrap (((k : Nat) : Int) - 16)))) (fun _ => (.int .i64 (((k : Nat) : Int) - 16))) (fun _ _ => by kernel_rfl) (fun _ => congrArg (Value.int .i64) (i64N (by have := of_decide_eq_false hb1; have := of_decide_eq_true hb3; have := hX; have := hi; have := hk; omega)))
  · exact o_sem 3 (fun _ => do pure (Next.value (← Instr.indexAt 86 (pt (nb ρ2 0)) (.int .i64 (((k : Nat) : Int) - 16))))) (fun _ => (.pointer (some ⟨nb ρ2 0, k - 16, none⟩))) (fun _ => by kernel_rfl) (fun _ => by kernel_rfl) (fun _ w => run_idx_nat (n := ((k : Nat) : Int) - 16) (i := k - 16) Tryd.underlying86 Tryd.sizeOf75 ((by have := of_decide_eq_false hb1; have := of_decide_eq_true hb3; have := hX; have := hi; have := hk; omega)) w)
  · exact o_ld 4 2 75 (fun _ => nb ρ2 0) (fun _ => k - 16) (fun _ => C3) 86 (0, 0) (fun _ => (.int .u32 ((wN X (k - 16) : Nat) : Int))) (fun _ => by kernel_rfl) Tryd.isAgg75 (fun _ => (by rw [hC3]; exact tc_get (by have := of_decide_eq_false hb1; have := of_decide_eq_true hb3; have := hX; have := hi; have := hk; omega) (by have := of_decide_eq_false hb1; have := of_decide_eq_true hb3; have := hX; have := hi; have := hk; omega)))
  · exact o_run 5 [] [] (fun _ _ => []) (fun _ _ => by kernel_rfl)
  · exact o_as 6 (fun _ => (.int .u32 (IntKind.u32.wrap (((wN X (k - 16) : Nat) : Int) + ((((rot32 (wN X (k - 15)) 7) ^^^ (rot32 (wN X (k - 15)) 18)) ^^^ ((wN X (k - 15)) / 2 ^ 3) : Nat) : Int))))) (fun _ => (.int .u32 ((add32 (wN X (k - 16)) (((rot32 (wN X (k - 15)) 7) ^^^ (rot32 (wN X (k - 15)) 18)) ^^^ ((wN X (k - 15)) / 2 ^ 3)) : Nat) : Int))) (fun _ _ => by kernel_rfl) (fun _ => congrArg (Value.int .u32) (wrap_add32 (wN X (k - 16)) (((rot32 (wN X (k - 15)) 7) ^^^ (rot32 (wN X (k - 15)) 18)) ^^^ ((wN X (k - 15)) / 2 ^ 3))))
  · exact o_run 7 [] [] (fun _ _ => []) (fun _ _ => by kernel_rfl)
  · exact o_as 8 (fun _ => (.int .i64 (IntKind.i64.wrap (((k : Nat) : Int) - 7)))) (fun _ => (.int .i64 (((k : Nat) : Int) - 7))) (fun _ _ => by kernel_rfl) (fun _ => congrArg (Value.int .i64) (i64N (by have := of_decide_eq_false hb1; have := of_decide_eq_true hb3; have := hX; have := hi; have := hk; omega)))
  · exact o_sem 9 (fun _ => do pure (Next.value (← Instr.indexAt 86 (pt (nb ρ2 0)) (.int .i64 (((k : Nat) : Int) - 7))))) (fun _ => (.pointer (some ⟨nb ρ2 0, k - 7, none⟩))) (fun _ => by kernel_rfl) (fun _ => by kernel_rfl) (fun _ w => run_idx_nat (n := ((k : Nat) : Int) - 7) (i := k - 7) Tryd.underlying86 Tryd.sizeOf75 ((by have := of_decide_eq_false hb1; have := of_decide_eq_true hb3; have := hX; have := hi; have := hk; omega)) w)
  · exact o_ld 10 2 75 (fun _ => nb ρ2 0) (fun _ => k - 7) (fun _ => C3) 86 (0, 0) (fun _ => (.int .u32 ((wN X (k - 7) : Nat) : Int))) (fun _ => by kernel_rfl) Tryd.isAgg75 (fun _ => (by rw [hC3]; exact tc_get (by have := of_decide_eq_false hb1; have := of_decide_eq_true hb3; have := hX; have := hi; have := hk; omega) (by have := of_decide_eq_false hb1; have := of_decide_eq_true hb3; have := hX; have := hi; have := hk; omega)))
  · exact o_as 11 (fun _ => (.int .u32 (IntKind.u32.wrap (((add32 (wN X (k - 16)) (((rot32 (wN X (k - 15)) 7) ^^^ (rot32 (wN X (k - 15)) 18)) ^^^ ((wN X (k - 15)) / 2 ^ 3)) : Nat) : Int) + ((wN X (k - 7) : Nat) : Int))))) (fun _ => (.int .u32 ((add32 (add32 (wN X (k - 16)) (((rot32 (wN X (k - 15)) 7) ^^^ (rot32 (wN X (k - 15)) 18)) ^^^ ((wN X (k - 15)) / 2 ^ 3))) (wN X (k - 7)) : Nat) : Int))) (fun _ _ => by kernel_rfl) (fun _ => congrArg (Value.int .u32) (wrap_add32 (add32 (wN X (k - 16)) (((rot32 (wN X (k - 15)) 7) ^^^ (rot32 (wN X (k - 15)) 18)) ^^^ ((wN X (k - 15)) / 2 ^ 3))) (wN X (k - 7))))
  · exact o_run 12 [] [] (fun _ _ => []) (fun _ _ => by kernel_rfl)
  · exact o_as 13 (fun _ => (.int .u32 (IntKind.u32.wrap (((add32 (add32 (wN X (k - 16)) (((rot32 (wN X (k - 15)) 7) ^^^ (rot32 (wN X (k - 15)) 18)) ^^^ ((wN X (k - 15)) / 2 ^ 3))) (wN X (k - 7)) : Nat) : Int) + ((((rot32 (wN X (k - 2)) 17) ^^^ (rot32 (wN X (k - 2)) 19)) ^^^ ((wN X (k - 2)) / 2 ^ 10) : Nat) : Int))))) (fun _ => (.int .u32 ((add32 (add32 (add32 (wN X (k - 16)) (((rot32 (wN X (k - 15)) 7) ^^^ (rot32 (wN X (k - 15)) 18)) ^^^ ((wN X (k - 15)) / 2 ^ 3))) (wN X (k - 7))) (((rot32 (wN X (k - 2)) 17) ^^^ (rot32 (wN X (k - 2)) 19)) ^^^ ((wN X (k - 2)) / 2 ^ 10)) : Nat) : Int))) (fun _ _ => by kernel_rfl) (fun _ => congrArg (Value.int .u32) (wrap_add32 (add32 (add32 (wN X (k - 16)) (((rot32 (wN X (k - 15)) 7) ^^^ (rot32 (wN X (k - 15)) 18)) ^^^ ((wN X (k - 15)) / 2 ^ 3))) (wN X (k - 7))) (((rot32 (wN X (k - 2)) 17) ^^^ (rot32 (wN X (k - 2)) 19)) ^^^ ((wN X (k - 2)) / 2 ^ 10))))
  · exact o_sem 14 (fun _ => do pure (Next.value (← Instr.indexAt 86 (pt (nb ρ2 0)) (.int .i64 ((k : Nat) : Int))))) (fun _ => (.pointer (some ⟨nb ρ2 0, k, none⟩))) (fun _ => by kernel_rfl) (fun _ => by kernel_rfl) (fun _ w => run_idx_nat (n := ((k : Nat) : Int)) (i := k) Tryd.underlying86 Tryd.sizeOf75 ((by have := of_decide_eq_false hb1; have := of_decide_eq_true hb3; have := hX; have := hi; have := hk; omega)) w)
  · exact o_st 15 2 75 (fun _ => nb ρ2 0) (fun _ => k) (fun _ => C3) (fun _ => (C3.setIfInBounds k (.int .u32 ((add32 (add32 (add32 (wN X (k - 16)) (((rot32 (wN X (k - 15)) 7) ^^^ (rot32 (wN X (k - 15)) 18)) ^^^ ((wN X (k - 15)) / 2 ^ 3))) (wN X (k - 7))) (((rot32 (wN X (k - 2)) 17) ^^^ (rot32 (wN X (k - 2)) 19)) ^^^ ((wN X (k - 2)) / 2 ^ 10)) : Nat) : Int)))) 86 (fun _ => (.int .u32 ((add32 (add32 (add32 (wN X (k - 16)) (((rot32 (wN X (k - 15)) 7) ^^^ (rot32 (wN X (k - 15)) 18)) ^^^ ((wN X (k - 15)) / 2 ^ 3))) (wN X (k - 7))) (((rot32 (wN X (k - 2)) 17) ^^^ (rot32 (wN X (k - 2)) 19)) ^^^ ((wN X (k - 2)) / 2 ^ 10)) : Nat) : Int))) (fun _ => by kernel_rfl) Tryd.sizeOf75 (fun _ => rfl) (fun _ => (by rw [hC3, rowK_size]; have := of_decide_eq_false hb1; have := of_decide_eq_true hb3; have := hX; have := hi; have := hk; omega)) (fun _ => rfl)
theorem sched_any_r17 (X : List UInt8) (hX : X.length = 64) (i : Nat) (hi : i ≤ 16) (hb1 : (decide (((i : Nat) : Int) < 16)) = false) (k : Nat) (C3 : Array Value) (hk : 16 ≤ k ∧ k ≤ 64) (hb3 : (decide (((k : Nat) : Int) < 64)) = true) (ρ1 : Nat → Orc) (ρ2 : Nat → Orc) (w0 : World) (F : World → Prop) : Reg Tryd.prog 13 (regOps Tryd.f103 13) false 85 [(2, (pt (nb ρ1 1))), (3, (pt (nb ρ2 0))), (6, (.int .i64 ((k : Nat) : Int)))] w0 [(nb ρ1 0, (.cells ((bs X).toArray) 78 (0, 0))), (nb ρ1 1, (.cells (rowK .u32 64 (fun _ => 0)) 86 (0, 0))), (nb ρ2 0, (.cells (C3.setIfInBounds k (.int .u32 ((add32 (add32 (add32 (wN X (k - 16)) (((rot32 (wN X (k - 15)) 7) ^^^ (rot32 (wN X (k - 15)) 18)) ^^^ ((wN X (k - 15)) / 2 ^ 3))) (wN X (k - 7))) (((rot32 (wN X (k - 2)) 17) ^^^ (rot32 (wN X (k - 2)) 19)) ^^^ ((wN X (k - 2)) / 2 ^ 10)) : Nat) : Int))) 86 (0, 0)))] F
    (fun _ => [(2, (pt (nb ρ1 1))), (3, (pt (nb ρ2 0))), (6, (.int .i64 ((k + 1 : Nat) : Int)))])
    (fun _ => [(nb ρ1 0, (.cells ((bs X).toArray) 78 (0, 0))), (nb ρ1 1, (.cells (rowK .u32 64 (fun _ => 0)) 86 (0, 0))), (nb ρ2 0, (.cells (C3.setIfInBounds k (.int .u32 ((add32 (add32 (add32 (wN X (k - 16)) (((rot32 (wN X (k - 15)) 7) ^^^ (rot32 (wN X (k - 15)) 18)) ^^^ ((wN X (k - 15)) / 2 ^ 3))) (wN X (k - 7))) (((rot32 (wN X (k - 2)) 17) ^^^ (rot32 (wN X (k - 2)) 19)) ^^^ ((wN X (k - 2)) / 2 ^ 10)) : Nat) : Int))) 86 (0, 0)))]) := by
  refine reg_seq [0, 1, 3] [2, 3, 6] 3
    (fun _ ι => ([(.int .i64 ((k : Nat) : Int)), (.int .i64 ((k + 1 : Nat) : Int)), (.int .i64 ((k + 1 : Nat) : Int))] : List Value).getD ι undef)
    (fun _ ι => ([{}, {}, {}] : List Eff).getD ι {})
    (by kernel_rfl) (by kernel_rfl) (fun _ => by kernel_rfl) (fun _ => by kernel_rfl) ⟨⟨⟨trivial, ?_⟩, ?_⟩, ?_⟩
  · exact o_run 0 [] [] (fun _ _ => []) (fun _ _ => by kernel_rfl)
  · exact o_as 1 (fun _ => (.int .i64 (IntKind.i64.wrap (((k : Nat) : Int) + 1)))) (fun _ => (.int .i64 ((k + 1 : Nat) : Int))) (fun _ _ => by kernel_rfl) (fun _ => congrArg (Value.int .i64) (wrap_addN k 1 (by have := of_decide_eq_false hb1; have := of_decide_eq_true hb3; have := hX; have := hi; have := hk; omega)))
  · exact o_run 2 [] [] (fun _ _ => []) (fun _ _ => by kernel_rfl)
theorem sched_any_r18 (X : List UInt8) (k : Nat) (ρ1 : Nat → Orc) (ρ2 : Nat → Orc) (w0 : World) (F : World → Prop) : Reg Tryd.prog 17 (regOps Tryd.f103 17) false 85 [(2, (pt (nb ρ1 1))), (3, (pt (nb ρ2 0))), (6, (.int .i64 ((k : Nat) : Int))), (32, (.bool false))] w0 [(nb ρ1 0, (.cells ((bs X).toArray) 78 (0, 0))), (nb ρ1 1, (.cells (rowK .u32 64 (fun _ => 0)) 86 (0, 0))), (nb ρ2 0, (.cells (rowK .u32 64 (tc X k)) 86 (0, 0)))] F
    (fun _ => [(2, (pt (nb ρ1 1)))])
    (fun _ => [(nb ρ1 0, (.cells ((bs X).toArray) 78 (0, 0))), (nb ρ1 1, (.cells (rowK .u32 64 (tc X k)) 86 (0, 0))), (nb ρ2 0, (.cells (rowK .u32 64 (tc X k)) 86 (0, 0)))]) := by
  refine reg_seq [0, 1] [2] 2
    (fun _ ι => ([(.agg (rowK .u32 64 (tc X k))), undef] : List Value).getD ι undef)
    (fun _ ι => ([{}, { puts := [(1, (.cells (rowK .u32 64 (tc X k)) 86 (0, 0)))] }] : List Eff).getD ι {})
    (by kernel_rfl) (by kernel_rfl) (fun _ => by kernel_rfl) (fun _ => by kernel_rfl) ⟨⟨trivial, ?_⟩, ?_⟩
  · exact o_run 0 [2] [] (fun _ _ => [nb ρ2 0, nb ρ2 0, nb ρ2 0, nb ρ2 0, nb ρ2 0, nb ρ2 0, nb ρ2 0, nb ρ2 0, nb ρ2 0, nb ρ2 0, nb ρ2 0, nb ρ2 0, nb ρ2 0, nb ρ2 0, nb ρ2 0, nb ρ2 0, nb ρ2 0, nb ρ2 0, nb ρ2 0, nb ρ2 0, nb ρ2 0, nb ρ2 0, nb ρ2 0, nb ρ2 0, nb ρ2 0, nb ρ2 0, nb ρ2 0, nb ρ2 0, nb ρ2 0, nb ρ2 0, nb ρ2 0, nb ρ2 0, nb ρ2 0, nb ρ2 0, nb ρ2 0, nb ρ2 0, nb ρ2 0, nb ρ2 0, nb ρ2 0, nb ρ2 0, nb ρ2 0, nb ρ2 0, nb ρ2 0, nb ρ2 0, nb ρ2 0, nb ρ2 0, nb ρ2 0, nb ρ2 0, nb ρ2 0, nb ρ2 0, nb ρ2 0, nb ρ2 0, nb ρ2 0, nb ρ2 0, nb ρ2 0, nb ρ2 0, nb ρ2 0, nb ρ2 0, nb ρ2 0, nb ρ2 0, nb ρ2 0, nb ρ2 0, nb ρ2 0, nb ρ2 0]) (fun _ _ => by kernel_rfl)
  · exact o_run 1 [1] [] (fun _ _ => [nb ρ1 1, nb ρ1 1, nb ρ1 1, nb ρ1 1, nb ρ1 1, nb ρ1 1, nb ρ1 1, nb ρ1 1, nb ρ1 1, nb ρ1 1, nb ρ1 1, nb ρ1 1, nb ρ1 1, nb ρ1 1, nb ρ1 1, nb ρ1 1, nb ρ1 1, nb ρ1 1, nb ρ1 1, nb ρ1 1, nb ρ1 1, nb ρ1 1, nb ρ1 1, nb ρ1 1, nb ρ1 1, nb ρ1 1, nb ρ1 1, nb ρ1 1, nb ρ1 1, nb ρ1 1, nb ρ1 1, nb ρ1 1, nb ρ1 1, nb ρ1 1, nb ρ1 1, nb ρ1 1, nb ρ1 1, nb ρ1 1, nb ρ1 1, nb ρ1 1, nb ρ1 1, nb ρ1 1, nb ρ1 1, nb ρ1 1, nb ρ1 1, nb ρ1 1, nb ρ1 1, nb ρ1 1, nb ρ1 1, nb ρ1 1, nb ρ1 1, nb ρ1 1, nb ρ1 1, nb ρ1 1, nb ρ1 1, nb ρ1 1, nb ρ1 1, nb ρ1 1, nb ρ1 1, nb ρ1 1, nb ρ1 1, nb ρ1 1, nb ρ1 1, nb ρ1 1]) (fun _ _ => by kernel_rfl)
theorem sched_any (X : List UInt8) (hX : X.length = 64) (w0 : World) : Calls Tryd.prog 103 #[(.agg ((bs X).toArray))] w0 (fun ε w' => ε = .returned (.agg (rowK .u32 64 (wN X))) ∧ Below w0.heap.size w0 w') := by
  refine Calls.of_ok (n := 85) (F := (fun _ => True)) Tryd.func103 rfl rfl rfl (by simp) (persTrue (fun _ => trivial)) ?_
  refine ok_seq_r (by kernel_rfl) (sched_any_r1 X _ _) (fun ρ1 => ?_)
  refine ok_seq_r (by kernel_rfl) (sched_any_r2 X ρ1 _ _) (fun ρ2 => ?_)
  refine ok_seq ?_
  refine ok_seq_r (by kernel_rfl) (sched_any_r3 X ρ1 ρ2 _ _) (fun _ => ?_)
  refine ok_block ?_
  refine ok_loop (σ := Nat × (Array Value)) (fun ⟨i, _⟩ => [(1, (pt (nb ρ1 0))), (2, (pt (nb ρ1 1))), (3, (pt (nb ρ2 0))), (9, (.int .i64 ((i : Nat) : Int)))]) (fun ⟨_, C⟩ => [(nb ρ1 0, (.cells ((bs X).toArray) 78 (0, 0))), (nb ρ1 1, (.cells (rowK .u32 64 (fun _ => 0)) 86 (0, 0))), (nb ρ2 0, (.cells C 86 (0, 0)))]) (fun ⟨i, _⟩ => 16 - i)
    (fun ⟨i, C⟩ => (i ≤ 16) ∧ (C = rowK .u32 64 (sc X i 0))) (0, rowK .u32 64 (fun _ => 0)) (⟨by decide, zrow_sc X⟩) (by kernel_rfl) (.cons_cons _ (.cons_cons _ (.cons_cons _ .slnil))) ?_
  rintro ⟨i, C⟩ ⟨hi, hC⟩
  change Ok Tryd.prog _ _ 85 [(1, (pt (nb ρ1 0))), (2, (pt (nb ρ1 1))), (3, (pt (nb ρ2 0))), (9, (.int .i64 ((i : Nat) : Int)))] _ [(nb ρ1 0, (.cells ((bs X).toArray) 78 (0, 0))), (nb ρ1 1, (.cells (rowK .u32 64 (fun _ => 0)) 86 (0, 0))), (nb ρ2 0, (.cells C 86 (0, 0)))] (fun _ => True)
  refine ok_seq_r (by kernel_rfl) (sched_any_r4 X i C ρ1 ρ2 _ _) (fun _ => ?_)
  refine ok_seq ?_
  refine ok_cond (b := decide (((i : Nat) : Int) < 16)) (by kernel_rfl) (fun hb1 => ?_) (fun hb1 => ?_)
  ·
    rw [hb1]
    refine ok_skip ?_
    refine mt_then ?_
    refine ok_seq ?_
    refine ok_block ?_
    refine ok_seq_r (by kernel_rfl) (sched_any_r5 X i C ρ1 ρ2 _ _) (fun _ => ?_)
    refine ok_seq_r (by kernel_rfl) (sched_any_r6 X i C ρ1 ρ2 _ _) (fun _ => ?_)
    refine ok_block ?_
    refine ok_loop (σ := Nat × (Array Value)) (fun ⟨j, _⟩ => [(1, (pt (nb ρ1 0))), (2, (pt (nb ρ1 1))), (3, (pt (nb ρ2 0))), (4, (.int .i64 ((i : Nat) : Int))), (9, (.int .i64 ((i : Nat) : Int))), (12, (.int .i64 ((j : Nat) : Int)))]) (fun ⟨_, C2⟩ => [(nb ρ1 0, (.cells ((bs X).toArray) 78 (0, 0))), (nb ρ1 1, (.cells (rowK .u32 64 (fun _ => 0)) 86 (0, 0))), (nb ρ2 0, (.cells C2 86 (0, 0)))]) (fun ⟨j, _⟩ => 4 - j)
      (fun ⟨j, C2⟩ => (j ≤ 4) ∧ (C2 = rowK .u32 64 (sc X i j))) (0, C) (⟨by decide, hC⟩) (by kernel_rfl) (.cons_cons _ (.cons_cons _ (.cons_cons _ .slnil))) ?_
    rintro ⟨j, C2⟩ ⟨hj, hC2⟩
    change Ok Tryd.prog _ _ 85 [(1, (pt (nb ρ1 0))), (2, (pt (nb ρ1 1))), (3, (pt (nb ρ2 0))), (4, (.int .i64 ((i : Nat) : Int))), (9, (.int .i64 ((i : Nat) : Int))), (12, (.int .i64 ((j : Nat) : Int)))] _ [(nb ρ1 0, (.cells ((bs X).toArray) 78 (0, 0))), (nb ρ1 1, (.cells (rowK .u32 64 (fun _ => 0)) 86 (0, 0))), (nb ρ2 0, (.cells C2 86 (0, 0)))] (fun _ => True)
    refine ok_seq_r (by kernel_rfl) (sched_any_r7 X i j C2 ρ1 ρ2 _ _) (fun _ => ?_)
    refine ok_seq ?_
    refine ok_cond (b := decide (((j : Nat) : Int) < 4)) (by kernel_rfl) (fun hb2 => ?_) (fun hb2 => ?_)
    ·
      rw [hb2]
      refine ok_skip ?_
      refine mt_then ?_
      refine ok_seq ?_
      refine ok_block ?_
      refine ok_seq_r (by kernel_rfl) (sched_any_r8 X i j C2 ρ1 ρ2 _ _) (fun _ => ?_)
      refine ok_r (by kernel_rfl) (sched_any_r9 X hX i hi hb1 j C2 hj hC2 hb2 ρ1 ρ2 _ _) (fun _ => ?_)
      refine mt_block_n ?_
      refine mt_then ?_
      refine ok_r (by kernel_rfl) (sched_any_r10 X hX i hi hb1 j C2 hj hb2 ρ1 ρ2 _ _) (fun _ => ?_)
      exact mt_round (j + 1, C2.setIfInBounds i (.int .u32 ((pwb X i (j + 1) : Nat) : Int))) (by show 4 - (j + 1) < 4 - j; have := of_decide_eq_true hb1; have := of_decide_eq_true hb2; have := hX; have := hi; have := hj; omega) (⟨(by have := of_decide_eq_true hb1; have := of_decide_eq_true hb2; have := hX; have := hi; have := hj; omega), by rw [hC2]; exact sc_set⟩) (by kernel_rfl) (.cons_cons _ (.cons_cons _ (.cons_cons _ .slnil)))
    ·
      rw [hb2]
      refine ok_exit ?_
      refine mt_then_e ?_
      refine mt_then_e ?_
      refine mt_block_h ?_
      refine mt_block_n ?_
      refine mt_then ?_
      refine ok_r (by kernel_rfl) (sched_any_r11 X hX i hi hb1 j C2 hj hb2 ρ1 ρ2 _ _) (fun _ => ?_)
      exact mt_round (i + 1, C2) (by show 16 - (i + 1) < 16 - i; have := of_decide_eq_true hb1; have := of_decide_eq_false hb2; have := hX; have := hi; have := hj; omega) (⟨(by have := of_decide_eq_true hb1; have := of_decide_eq_false hb2; have := hX; have := hi; have := hj; omega), hC2.trans (by rw [show j = 4 by have := of_decide_eq_true hb1; have := of_decide_eq_false hb2; have := hX; have := hi; have := hj; omega]; exact sc_next X i)⟩) (by kernel_rfl) (.cons_cons _ (.cons_cons _ (.cons_cons _ .slnil)))
  ·
    rw [hb1]
    refine ok_exit ?_
    refine mt_then_e ?_
    refine mt_then_e ?_
    refine mt_block_h ?_
    refine mt_then ?_
    refine ok_seq ?_
    refine ok_seq_r (by kernel_rfl) (sched_any_r12 X i C ρ1 ρ2 _ _) (fun _ => ?_)
    refine ok_block ?_
    refine ok_loop (σ := Nat × (Array Value)) (fun ⟨k, _⟩ => [(2, (pt (nb ρ1 1))), (3, (pt (nb ρ2 0))), (6, (.int .i64 ((k : Nat) : Int)))]) (fun ⟨_, C3⟩ => [(nb ρ1 0, (.cells ((bs X).toArray) 78 (0, 0))), (nb ρ1 1, (.cells (rowK .u32 64 (fun _ => 0)) 86 (0, 0))), (nb ρ2 0, (.cells C3 86 (0, 0)))]) (fun ⟨k, _⟩ => 64 - k)
      (fun ⟨k, C3⟩ => (16 ≤ k ∧ k ≤ 64) ∧ (C3 = rowK .u32 64 (tc X k))) (16, C) (⟨by decide, hC.trans (by rw [show i = 16 by have := of_decide_eq_false hb1; have := hX; have := hi; omega]; exact sc_tc X)⟩) (by kernel_rfl) (.cons_cons _ (.cons_cons _ (.cons_cons _ .slnil))) ?_
    rintro ⟨k, C3⟩ ⟨hk, hC3⟩
    change Ok Tryd.prog _ _ 85 [(2, (pt (nb ρ1 1))), (3, (pt (nb ρ2 0))), (6, (.int .i64 ((k : Nat) : Int)))] _ [(nb ρ1 0, (.cells ((bs X).toArray) 78 (0, 0))), (nb ρ1 1, (.cells (rowK .u32 64 (fun _ => 0)) 86 (0, 0))), (nb ρ2 0, (.cells C3 86 (0, 0)))] (fun _ => True)
    refine ok_seq ?_
    refine ok_seq_r (by kernel_rfl) (sched_any_r13 X k C3 ρ1 ρ2 _ _) (fun _ => ?_)
    refine ok_cond (b := decide (((k : Nat) : Int) < 64)) (by kernel_rfl) (fun hb3 => ?_) (fun hb3 => ?_)
    ·
      rw [hb3]
      refine ok_skip ?_
      refine mt_then ?_
      refine ok_seq ?_
      refine ok_block ?_
      refine ok_seq_r (by kernel_rfl) (sched_any_r14 X hX i hi hb1 k C3 hk hC3 hb3 ρ1 ρ2 _ _) (fun _ => ?_)
      refine ok_seq_r (by kernel_rfl) (sched_any_r15 X hX i hi hb1 k C3 hk hC3 hb3 ρ1 ρ2 _ _) (fun _ => ?_)
      refine ok_r (by kernel_rfl) (sched_any_r16 X hX i hi hb1 k C3 hk hC3 hb3 ρ1 ρ2 _ _) (fun _ => ?_)
      refine mt_block_n ?_
      refine mt_then ?_
      refine ok_r (by kernel_rfl) (sched_any_r17 X hX i hi hb1 k C3 hk hb3 ρ1 ρ2 _ _) (fun _ => ?_)
      exact mt_round (k + 1, C3.setIfInBounds k (.int .u32 ((add32 (add32 (add32 (wN X (k - 16)) (((rot32 (wN X (k - 15)) 7) ^^^ (rot32 (wN X (k - 15)) 18)) ^^^ ((wN X (k - 15)) / 2 ^ 3))) (wN X (k - 7))) (((rot32 (wN X (k - 2)) 17) ^^^ (rot32 (wN X (k - 2)) 19)) ^^^ ((wN X (k - 2)) / 2 ^ 10)) : Nat) : Int))) (by show 64 - (k + 1) < 64 - k; have := of_decide_eq_false hb1; have := of_decide_eq_true hb3; have := hX; have := hi; have := hk; omega) (⟨(by have := of_decide_eq_false hb1; have := of_decide_eq_true hb3; have := hX; have := hi; have := hk; omega), by rw [hC3]; exact tc_set (wN_more hk.1).symm⟩) (by kernel_rfl) (.cons_cons _ (.cons_cons _ (.cons_cons _ .slnil)))
    ·
      rw [hb3]
      refine ok_exit ?_
      refine mt_then_e ?_
      refine mt_then_e ?_
      refine mt_block_h ?_
      rw [hC3]
      refine mt_then ?_
      refine ok_seq_r (by kernel_rfl) (sched_any_r18 X k ρ1 ρ2 _ _) (fun _ => ?_)
      refine ok_ret ?_
      exact meets_ret (v := (.agg (rowK .u32 64 (tc X k)))) [1, 1, 1, 1, 1, 1, 1, 1, 1, 1, 1, 1, 1, 1, 1, 1, 1, 1, 1, 1, 1, 1, 1, 1, 1, 1, 1, 1, 1, 1, 1, 1, 1, 1, 1, 1, 1, 1, 1, 1, 1, 1, 1, 1, 1, 1, 1, 1, 1, 1, 1, 1, 1, 1, 1, 1, 1, 1, 1, 1, 1, 1, 1, 1] (dup [nb ρ1 1, nb ρ1 1, nb ρ1 1, nb ρ1 1, nb ρ1 1, nb ρ1 1, nb ρ1 1, nb ρ1 1, nb ρ1 1, nb ρ1 1, nb ρ1 1, nb ρ1 1, nb ρ1 1, nb ρ1 1, nb ρ1 1, nb ρ1 1, nb ρ1 1, nb ρ1 1, nb ρ1 1, nb ρ1 1, nb ρ1 1, nb ρ1 1, nb ρ1 1, nb ρ1 1, nb ρ1 1, nb ρ1 1, nb ρ1 1, nb ρ1 1, nb ρ1 1, nb ρ1 1, nb ρ1 1, nb ρ1 1, nb ρ1 1, nb ρ1 1, nb ρ1 1, nb ρ1 1, nb ρ1 1, nb ρ1 1, nb ρ1 1, nb ρ1 1, nb ρ1 1, nb ρ1 1, nb ρ1 1, nb ρ1 1, nb ρ1 1, nb ρ1 1, nb ρ1 1, nb ρ1 1, nb ρ1 1, nb ρ1 1, nb ρ1 1, nb ρ1 1, nb ρ1 1, nb ρ1 1, nb ρ1 1, nb ρ1 1, nb ρ1 1, nb ρ1 1, nb ρ1 1, nb ρ1 1, nb ρ1 1, nb ρ1 1, nb ρ1 1, nb ρ1 1]) (by kernel_rfl) (by kernel_rfl) (eqs_dup _) (fun _ hS => ⟨congrArg Ending.returned (congrArg Value.agg (tc_end (by have := of_decide_eq_false hb1; have := of_decide_eq_false hb3; have := hX; have := hi; have := hk; omega))), hS.below⟩)
end Go.Proofs.YtoibhbmcplhiaaaDoor
