/-
  Products: the walks.
-/
import Derived.Test.YtlgjdejlnelndaaGhost6
import Derived.Test.YtlgjdejlnelndaaMulNum
import Derived.Test.YtlgjdejlnelndaaShelf
namespace Go.Proofs.Ytlgjdejlnelndaa
open Go Go.RowKit
set_option maxRecDepth 100000
theorem mul64_any (x y : Int) (hx : Word x) (hy : Word y) (w : World) : Calls Try.prog 56 #[.int .u64 x, .int .u64 y] w fun ε w' => ε = .returned (.tuple #[.int .u64 (mulHi x y), .int .u64 (mulLo x y)]) ∧ Below w.heap.size w w' := by
  obtain ⟨x, rfl⟩ := Int.eq_ofNat_of_zero_le hx.1
  obtain ⟨y, rfl⟩ := Int.eq_ofNat_of_zero_le hy.1
  refine (mul64_nat x y (by have := hx.2; omega) (by have := hy.2; omega) w).mono ?_
  rintro e w' ⟨rfl, rfl⟩
  refine ⟨?_, Below.refl _ _⟩
  unfold mulHi mulLo
  rw [Int.natCast_ediv, Int.natCast_emod, Int.natCast_mul]; rfl
theorem word_lit (n : Nat) (h : n < 18446744073709551616) : Word (n : Int) := ⟨by omega, by omega⟩
theorem mul_w_r1 (a : Nat) (b : Nat) (w0 : World) (F : World → Prop) : Reg Try.prog 0 (regOps Try.f35 0) false 69 [(0, (U a)), (1, (U b))] w0 [] F
    (fun ρ => [(2, (pt (nb ρ 0))), (3, (pt (nb ρ 1))), (4, (pt (nb ρ 2))), (5, (pt (nb ρ 3)))])
    (fun ρ => [(nb ρ 0, (.cells (cU a) 24 (0, 0))), (nb ρ 1, (.cells (cU b) 24 (0, 0))), (nb ρ 2, (.cells (cU 0) 24 (0, 0))), (nb ρ 3, (.cells (cU 0) 24 (0, 0)))]) := by
  refine reg_seq [0, 1, 3, 7] [2, 3, 4, 5] 4
    (fun ρ ι => ([(pt (nb ρ 0)), (pt (nb ρ 1)), (pt (nb ρ 2)), (pt (nb ρ 3))] : List Value).getD ι undef)
    (fun ρ ι => ([{ news := [(nb ρ 0, (.cells (cU a) 24 (0, 0)))] }, { news := [(nb ρ 1, (.cells (cU b) 24 (0, 0)))] }, { news := [(nb ρ 2, (.cells (cU 0) 24 (0, 0)))] }, { news := [(nb ρ 3, (.cells (cU 0) 24 (0, 0)))] }] : List Eff).getD ι {})
    (by kernel_rfl) (by kernel_rfl) (fun _ => by kernel_rfl) (fun _ => by kernel_rfl) ⟨⟨⟨⟨trivial, ?_⟩, ?_⟩, ?_⟩, ?_⟩
  · exact o_run 0 [] [] (fun _ _ => []) (fun _ _ => by kernel_rfl)
  · exact o_run 1 [] [] (fun _ _ => []) (fun _ _ => by kernel_rfl)
  · exact o_run 2 [] [] (fun _ _ => []) (fun _ _ => by kernel_rfl)
  · exact o_run 3 [] [] (fun _ _ => []) (fun _ _ => by kernel_rfl)
theorem mul_w_r2 (a : Nat) (b : Nat) (ρ1 : Nat → Orc) (w0 : World) (F : World → Prop) : Reg Try.prog 1 (regOps Try.f35 1) false 69 [(2, (pt (nb ρ1 0))), (3, (pt (nb ρ1 1))), (4, (pt (nb ρ1 2))), (5, (pt (nb ρ1 3)))] w0 [(nb ρ1 0, (.cells (cU a) 24 (0, 0))), (nb ρ1 1, (.cells (cU b) 24 (0, 0))), (nb ρ1 2, (.cells (cU 0) 24 (0, 0))), (nb ρ1 3, (.cells (cU 0) 24 (0, 0)))] F
    (fun ρ => [(2, (pt (nb ρ1 0))), (3, (pt (nb ρ1 1))), (4, (pt (nb ρ1 2))), (5, (pt (nb ρ1 3))), (6, (pt (nb ρ 0)))])
    (fun ρ => [(nb ρ1 0, (.cells (cU a) 24 (0, 0))), (nb ρ1 1, (.cells (cU b) 24 (0, 0))), (nb ρ1 2, (.cells (cU 0) 24 (0, 0))), (nb ρ1 3, (.cells (cU 0) 24 (0, 0))), (nb ρ 0, (.cells #[(.int .u64 0), (.int .u64 0), (.int .u64 0), (.int .u64 0), (.int .u64 0), (.int .u64 0), (.int .u64 0), (.int .u64 0)] 60 (0, 0)))]) := by
  refine reg_seq [0] [2, 3, 4, 5, 6] 1
    (fun ρ ι => ([(pt (nb ρ 0))] : List Value).getD ι undef)
    (fun ρ ι => ([{ news := [(nb ρ 0, (.cells #[(.int .u64 0), (.int .u64 0), (.int .u64 0), (.int .u64 0), (.int .u64 0), (.int .u64 0), (.int .u64 0), (.int .u64 0)] 60 (0, 0)))] }] : List Eff).getD ι {})
    (by kernel_rfl) (by kernel_rfl) (fun _ => by kernel_rfl) (fun _ => by kernel_rfl) ⟨trivial, ?_⟩
  · exact o_run 0 [] [] (fun _ _ => []) (fun _ _ => by kernel_rfl)
theorem mul_w_r3 (a : Nat) (b : Nat) (ρ1 : Nat → Orc) (ρ2 : Nat → Orc) (w0 : World) (F : World → Prop) : Reg Try.prog 2 (regOps Try.f35 2) false 69 [(2, (pt (nb ρ1 0))), (3, (pt (nb ρ1 1))), (4, (pt (nb ρ1 2))), (5, (pt (nb ρ1 3))), (6, (pt (nb ρ2 0)))] w0 [(nb ρ1 0, (.cells (cU a) 24 (0, 0))), (nb ρ1 1, (.cells (cU b) 24 (0, 0))), (nb ρ1 2, (.cells (cU 0) 24 (0, 0))), (nb ρ1 3, (.cells (cU 0) 24 (0, 0))), (nb ρ2 0, (.cells #[(.int .u64 0), (.int .u64 0), (.int .u64 0), (.int .u64 0), (.int .u64 0), (.int .u64 0), (.int .u64 0), (.int .u64 0)] 60 (0, 0)))] F
    (fun _ => [(2, (pt (nb ρ1 0))), (3, (pt (nb ρ1 1))), (4, (pt (nb ρ1 2))), (5, (pt (nb ρ1 3))), (6, (pt (nb ρ2 0))), (14, (.int .i64 0))])
    (fun _ => [(nb ρ1 0, (.cells (cU a) 24 (0, 0))), (nb ρ1 1, (.cells (cU b) 24 (0, 0))), (nb ρ1 2, (.cells (cU 0) 24 (0, 0))), (nb ρ1 3, (.cells (cU 0) 24 (0, 0))), (nb ρ2 0, (.cells #[(.int .u64 0), (.int .u64 0), (.int .u64 0), (.int .u64 0), (.int .u64 0), (.int .u64 0), (.int .u64 0), (.int .u64 0)] 60 (0, 0)))]) := by
  refine reg_seq [0] [2, 3, 4, 5, 6, 14] 1
    (fun _ ι => ([(.int .i64 0)] : List Value).getD ι undef)
    (fun _ ι => ([{}] : List Eff).getD ι {})
    (by kernel_rfl) (by kernel_rfl) (fun _ => by kernel_rfl) (fun _ => by kernel_rfl) ⟨trivial, ?_⟩
  · exact o_run 0 [] [] (fun _ _ => []) (fun _ _ => by kernel_rfl)
theorem mul_w_r4 (a : Nat) (b : Nat) (i : Nat) (f : Nat → Int) (ρ1 : Nat → Orc) (ρ2 : Nat → Orc) (w0 : World) (F : World → Prop) : Reg Try.prog 3 (regOps Try.f35 3) false 69 [(2, (pt (nb ρ1 0))), (3, (pt (nb ρ1 1))), (4, (pt (nb ρ1 2))), (5, (pt (nb ρ1 3))), (6, (pt (nb ρ2 0))), (14, (.int .i64 ((i : Nat) : Int)))] w0 [(nb ρ1 0, (.cells (cU a) 24 (0, 0))), (nb ρ1 1, (.cells (cU b) 24 (0, 0))), (nb ρ1 2, (.cells (cU 0) 24 (0, 0))), (nb ρ1 3, (.cells (cU 0) 24 (0, 0))), (nb ρ2 0, (.cells (c8 f) 60 (0, 0)))] F
    (fun _ => [(2, (pt (nb ρ1 0))), (3, (pt (nb ρ1 1))), (4, (pt (nb ρ1 2))), (5, (pt (nb ρ1 3))), (6, (pt (nb ρ2 0))), (14, (.int .i64 ((i : Nat) : Int))), (15, (.bool (decide (((i : Nat) : Int) < 4))))])
    (fun _ => [(nb ρ1 0, (.cells (cU a) 24 (0, 0))), (nb ρ1 1, (.cells (cU b) 24 (0, 0))), (nb ρ1 2, (.cells (cU 0) 24 (0, 0))), (nb ρ1 3, (.cells (cU 0) 24 (0, 0))), (nb ρ2 0, (.cells (c8 f) 60 (0, 0)))]) := by
  refine reg_seq [0] [2, 3, 4, 5, 6, 14, 15] 1
    (fun _ ι => ([(.bool (decide (((i : Nat) : Int) < 4)))] : List Value).getD ι undef)
    (fun _ ι => ([{}] : List Eff).getD ι {})
    (by kernel_rfl) (by kernel_rfl) (fun _ => by kernel_rfl) (fun _ => by kernel_rfl) ⟨trivial, ?_⟩
  · exact o_run 0 [] [] (fun _ _ => []) (fun _ _ => by kernel_rfl)
theorem mul_w_r5 (a : Nat) (b : Nat) (i : Nat) (f : Nat → Int) (ρ1 : Nat → Orc) (ρ2 : Nat → Orc) (w0 : World) (F : World → Prop) : Reg Try.prog 4 (regOps Try.f35 4) false 69 [(2, (pt (nb ρ1 0))), (3, (pt (nb ρ1 1))), (4, (pt (nb ρ1 2))), (5, (pt (nb ρ1 3))), (6, (pt (nb ρ2 0))), (14, (.int .i64 ((i : Nat) : Int))), (15, (.bool true))] w0 [(nb ρ1 0, (.cells (cU a) 24 (0, 0))), (nb ρ1 1, (.cells (cU b) 24 (0, 0))), (nb ρ1 2, (.cells (cU 0) 24 (0, 0))), (nb ρ1 3, (.cells (cU 0) 24 (0, 0))), (nb ρ2 0, (.cells (c8 f) 60 (0, 0)))] F
    (fun _ => [(2, (pt (nb ρ1 0))), (3, (pt (nb ρ1 1))), (4, (pt (nb ρ1 2))), (5, (pt (nb ρ1 3))), (6, (pt (nb ρ2 0))), (7, (.int .i64 ((i : Nat) : Int))), (14, (.int .i64 ((i : Nat) : Int)))])
    (fun _ => [(nb ρ1 0, (.cells (cU a) 24 (0, 0))), (nb ρ1 1, (.cells (cU b) 24 (0, 0))), (nb ρ1 2, (.cells (cU 0) 24 (0, 0))), (nb ρ1 3, (.cells (cU 0) 24 (0, 0))), (nb ρ2 0, (.cells (c8 f) 60 (0, 0)))]) := by
  refine reg_seq [0, 1] [2, 3, 4, 5, 6, 7, 14] 2
    (fun _ ι => ([(.int .i64 ((i : Nat) : Int)), (.int .i64 ((i : Nat) : Int))] : List Value).getD ι undef)
    (fun _ ι => ([{}, {}] : List Eff).getD ι {})
    (by kernel_rfl) (by kernel_rfl) (fun _ => by kernel_rfl) (fun _ => by kernel_rfl) ⟨⟨trivial, ?_⟩, ?_⟩
  · exact o_run 0 [] [] (fun _ _ => []) (fun _ _ => by kernel_rfl)
  · exact o_run 1 [] [] (fun _ _ => []) (fun _ _ => by kernel_rfl)
theorem mul_w_r6 (a : Nat) (b : Nat) (i : Nat) (f : Nat → Int) (ρ1 : Nat → Orc) (ρ2 : Nat → Orc) (w0 : World) (F : World → Prop) : Reg Try.prog 5 (regOps Try.f35 5) false 69 [(2, (pt (nb ρ1 0))), (3, (pt (nb ρ1 1))), (4, (pt (nb ρ1 2))), (5, (pt (nb ρ1 3))), (6, (pt (nb ρ2 0))), (7, (.int .i64 ((i : Nat) : Int))), (14, (.int .i64 ((i : Nat) : Int)))] w0 [(nb ρ1 0, (.cells (cU a) 24 (0, 0))), (nb ρ1 1, (.cells (cU b) 24 (0, 0))), (nb ρ1 2, (.cells (cU 0) 24 (0, 0))), (nb ρ1 3, (.cells (cU 0) 24 (0, 0))), (nb ρ2 0, (.cells (c8 f) 60 (0, 0)))] F
    (fun _ => [(2, (pt (nb ρ1 0))), (3, (pt (nb ρ1 1))), (4, (pt (nb ρ1 2))), (5, (pt (nb ρ1 3))), (6, (pt (nb ρ2 0))), (7, (.int .i64 ((i : Nat) : Int))), (8, (.int .u64 0)), (14, (.int .i64 ((i : Nat) : Int)))])
    (fun _ => [(nb ρ1 0, (.cells (cU a) 24 (0, 0))), (nb ρ1 1, (.cells (cU b) 24 (0, 0))), (nb ρ1 2, (.cells (cU 0) 24 (0, 0))), (nb ρ1 3, (.cells (cU 0) 24 (0, 0))), (nb ρ2 0, (.cells (c8 f) 60 (0, 0)))]) := by
  refine reg_seq [0] [2, 3, 4, 5, 6, 7, 8, 14] 1
    (fun _ ι => ([(.int .u64 0)] : List Value).getD ι undef)
    (fun _ ι => ([{}] : List Eff).getD ι {})
    (by kernel_rfl) (by kernel_rfl) (fun _ => by kernel_rfl) (fun _ => by kernel_rfl) ⟨trivial, ?_⟩
  · exact o_run 0 [] [] (fun _ _ => []) (fun _ _ => by kernel_rfl)
theorem mul_w_r7 (a : Nat) (b : Nat) (i : Nat) (f : Nat → Int) (ρ1 : Nat → Orc) (ρ2 : Nat → Orc) (w0 : World) (F : World → Prop) : Reg Try.prog 6 (regOps Try.f35 6) false 69 [(2, (pt (nb ρ1 0))), (3, (pt (nb ρ1 1))), (4, (pt (nb ρ1 2))), (5, (pt (nb ρ1 3))), (6, (pt (nb ρ2 0))), (7, (.int .i64 ((i : Nat) : Int))), (8, (.int .u64 0)), (14, (.int .i64 ((i : Nat) : Int)))] w0 [(nb ρ1 0, (.cells (cU a) 24 (0, 0))), (nb ρ1 1, (.cells (cU b) 24 (0, 0))), (nb ρ1 2, (.cells (cU 0) 24 (0, 0))), (nb ρ1 3, (.cells (cU 0) 24 (0, 0))), (nb ρ2 0, (.cells (c8 f) 60 (0, 0)))] F
    (fun _ => [(2, (pt (nb ρ1 0))), (3, (pt (nb ρ1 1))), (4, (pt (nb ρ1 2))), (5, (pt (nb ρ1 3))), (6, (pt (nb ρ2 0))), (7, (.int .i64 ((i : Nat) : Int))), (8, (.int .u64 0)), (14, (.int .i64 ((i : Nat) : Int))), (17, (.int .i64 0))])
    (fun _ => [(nb ρ1 0, (.cells (cU a) 24 (0, 0))), (nb ρ1 1, (.cells (cU b) 24 (0, 0))), (nb ρ1 2, (.cells (cU 0) 24 (0, 0))), (nb ρ1 3, (.cells (cU 0) 24 (0, 0))), (nb ρ2 0, (.cells (c8 f) 60 (0, 0)))]) := by
  refine reg_seq [0] [2, 3, 4, 5, 6, 7, 8, 14, 17] 1
    (fun _ ι => ([(.int .i64 0)] : List Value).getD ι undef)
    (fun _ ι => ([{}] : List Eff).getD ι {})
    (by kernel_rfl) (by kernel_rfl) (fun _ => by kernel_rfl) (fun _ => by kernel_rfl) ⟨trivial, ?_⟩
  · exact o_run 0 [] [] (fun _ _ => []) (fun _ _ => by kernel_rfl)
theorem mul_w_r8 (a : Nat) (b : Nat) (i : Nat) (j : Nat) (u : Nat → Int) (c : Int) (ρ1 : Nat → Orc) (ρ2 : Nat → Orc) (w0 : World) (F : World → Prop) : Reg Try.prog 7 (regOps Try.f35 7) false 69 [(2, (pt (nb ρ1 0))), (3, (pt (nb ρ1 1))), (4, (pt (nb ρ1 2))), (5, (pt (nb ρ1 3))), (6, (pt (nb ρ2 0))), (7, (.int .i64 ((i : Nat) : Int))), (8, (.int .u64 c)), (14, (.int .i64 ((i : Nat) : Int))), (17, (.int .i64 ((j : Nat) : Int)))] w0 [(nb ρ1 0, (.cells (cU a) 24 (0, 0))), (nb ρ1 1, (.cells (cU b) 24 (0, 0))), (nb ρ1 2, (.cells (cU 0) 24 (0, 0))), (nb ρ1 3, (.cells (cU 0) 24 (0, 0))), (nb ρ2 0, (.cells (c8 u) 60 (0, 0)))] F
    (fun _ => [(2, (pt (nb ρ1 0))), (3, (pt (nb ρ1 1))), (4, (pt (nb ρ1 2))), (5, (pt (nb ρ1 3))), (6, (pt (nb ρ2 0))), (7, (.int .i64 ((i : Nat) : Int))), (8, (.int .u64 c)), (14, (.int .i64 ((i : Nat) : Int))), (17, (.int .i64 ((j : Nat) : Int))), (18, (.bool (decide (((j : Nat) : Int) < 4))))])
    (fun _ => [(nb ρ1 0, (.cells (cU a) 24 (0, 0))), (nb ρ1 1, (.cells (cU b) 24 (0, 0))), (nb ρ1 2, (.cells (cU 0) 24 (0, 0))), (nb ρ1 3, (.cells (cU 0) 24 (0, 0))), (nb ρ2 0, (.cells (c8 u) 60 (0, 0)))]) := by
  refine reg_seq [0] [2, 3, 4, 5, 6, 7, 8, 14, 17, 18] 1
    (fun _ ι => ([(.bool (decide (((j : Nat) : Int) < 4)))] : List Value).getD ι undef)
    (fun _ ι => ([{}] : List Eff).getD ι {})
    (by kernel_rfl) (by kernel_rfl) (fun _ => by kernel_rfl) (fun _ => by kernel_rfl) ⟨trivial, ?_⟩
  · exact o_run 0 [] [] (fun _ _ => []) (fun _ _ => by kernel_rfl)
theorem mul_w_r9 (a : Nat) (b : Nat) (i : Nat) (j : Nat) (u : Nat → Int) (c : Int) (ρ1 : Nat → Orc) (ρ2 : Nat → Orc) (w0 : World) (F : World → Prop) : Reg Try.prog 8 (regOps Try.f35 8) false 69 [(2, (pt (nb ρ1 0))), (3, (pt (nb ρ1 1))), (4, (pt (nb ρ1 2))), (5, (pt (nb ρ1 3))), (6, (pt (nb ρ2 0))), (7, (.int .i64 ((i : Nat) : Int))), (8, (.int .u64 c)), (14, (.int .i64 ((i : Nat) : Int))), (17, (.int .i64 ((j : Nat) : Int))), (18, (.bool true))] w0 [(nb ρ1 0, (.cells (cU a) 24 (0, 0))), (nb ρ1 1, (.cells (cU b) 24 (0, 0))), (nb ρ1 2, (.cells (cU 0) 24 (0, 0))), (nb ρ1 3, (.cells (cU 0) 24 (0, 0))), (nb ρ2 0, (.cells (c8 u) 60 (0, 0)))] F
    (fun _ => [(2, (pt (nb ρ1 0))), (3, (pt (nb ρ1 1))), (4, (pt (nb ρ1 2))), (5, (pt (nb ρ1 3))), (6, (pt (nb ρ2 0))), (7, (.int .i64 ((i : Nat) : Int))), (8, (.int .u64 c)), (9, (.int .i64 ((j : Nat) : Int))), (14, (.int .i64 ((i : Nat) : Int))), (17, (.int .i64 ((j : Nat) : Int)))])
    (fun _ => [(nb ρ1 0, (.cells (cU a) 24 (0, 0))), (nb ρ1 1, (.cells (cU b) 24 (0, 0))), (nb ρ1 2, (.cells (cU 0) 24 (0, 0))), (nb ρ1 3, (.cells (cU 0) 24 (0, 0))), (nb ρ2 0, (.cells (c8 u) 60 (0, 0)))]) := by
  refine reg_seq [0, 1] [2, 3, 4, 5, 6, 7, 8, 9, 14, 17] 2
    (fun _ ι => ([(.int .i64 ((j : Nat) : Int)), (.int .i64 ((j : Nat) : Int))] : List Value).getD ι undef)
    (fun _ ι => ([{}, {}] : List Eff).getD ι {})
    (by kernel_rfl) (by kernel_rfl) (fun _ => by kernel_rfl) (fun _ => by kernel_rfl) ⟨⟨trivial, ?_⟩, ?_⟩
  · exact o_run 0 [] [] (fun _ _ => []) (fun _ _ => by kernel_rfl)
  · exact o_run 1 [] [] (fun _ _ => []) (fun _ _ => by kernel_rfl)
theorem mul_w_r10 (a : Nat) (b : Nat) (i : Nat) (hb1 : (decide (((i : Nat) : Int) < 4)) = true) (j : Nat) (u : Nat → Int) (c : Int) (hb2 : (decide (((j : Nat) : Int) < 4)) = true) (ρ1 : Nat → Orc) (ρ2 : Nat → Orc) (w0 : World) (F : World → Prop) : Reg Try.prog 9 (regOps Try.f35 9) true 69 [(2, (pt (nb ρ1 0))), (3, (pt (nb ρ1 1))), (4, (pt (nb ρ1 2))), (5, (pt (nb ρ1 3))), (6, (pt (nb ρ2 0))), (7, (.int .i64 ((i : Nat) : Int))), (8, (.int .u64 c)), (9, (.int .i64 ((j : Nat) : Int))), (14, (.int .i64 ((i : Nat) : Int))), (17, (.int .i64 ((j : Nat) : Int)))] w0 [(nb ρ1 0, (.cells (cU a) 24 (0, 0))), (nb ρ1 1, (.cells (cU b) 24 (0, 0))), (nb ρ1 2, (.cells (cU 0) 24 (0, 0))), (nb ρ1 3, (.cells (cU 0) 24 (0, 0))), (nb ρ2 0, (.cells (c8 u) 60 (0, 0)))] F
    (fun _ => [(2, (pt (nb ρ1 0))), (3, (pt (nb ρ1 1))), (4, (pt (nb ρ1 2))), (5, (pt (nb ρ1 3))), (6, (pt (nb ρ2 0))), (7, (.int .i64 ((i : Nat) : Int))), (8, (.int .u64 c)), (9, (.int .i64 ((j : Nat) : Int))), (10, (.int .u64 (mulHi (wd a i) (wd b j)))), (11, (.int .u64 (mulLo (wd a i) (wd b j)))), (14, (.int .i64 ((i : Nat) : Int))), (17, (.int .i64 ((j : Nat) : Int)))])
    (fun _ => [(nb ρ1 0, (.cells (cU a) 24 (0, 0))), (nb ρ1 1, (.cells (cU b) 24 (0, 0))), (nb ρ1 2, (.cells (cU 0) 24 (0, 0))), (nb ρ1 3, (.cells (cU 0) 24 (0, 0))), (nb ρ2 0, (.cells (c8 u) 60 (0, 0)))]) := by
  refine reg_drawn [0, 1, 3, 0, 8, 24, 63, 127, 255, 255, 511, 2047] [2, 3, 4, 5, 6, 7, 8, 9, 10, 11, 14, 17] 12
    (fun _ ι => ([(.int .i64 ((i : Nat) : Int)), (.pointer (some ⟨nb ρ1 0, i, none⟩)), (.int .u64 (wd a i)), (.int .i64 ((j : Nat) : Int)), (.pointer (some ⟨nb ρ1 1, j, none⟩)), (.int .u64 (wd b j)), (.tuple #[(.int .u64 (mulHi (wd a i) (wd b j))), (.int .u64 (mulLo (wd a i) (wd b j)))]), (.tuple #[(.int .u64 (mulHi (wd a i) (wd b j))), (.int .u64 (mulLo (wd a i) (wd b j)))]), (.int .u64 (mulHi (wd a i) (wd b j))), (.int .u64 (mulLo (wd a i) (wd b j))), (.int .u64 (mulHi (wd a i) (wd b j))), (.int .u64 (mulLo (wd a i) (wd b j)))] : List Value).getD ι undef)
    (fun _ ι => ([{}, {}, {}, {}, {}, {}, {}, {}, {}, {}, {}, {}] : List Eff).getD ι {})
    (by kernel_rfl) (by kernel_rfl) (by kernel_rfl) (fun _ => by kernel_rfl) (fun _ => by kernel_rfl) ⟨⟨⟨⟨⟨⟨⟨⟨⟨⟨⟨⟨trivial, ?_⟩, ?_⟩, ?_⟩, ?_⟩, ?_⟩, ?_⟩, ?_⟩, ?_⟩, ?_⟩, ?_⟩, ?_⟩, ?_⟩
  · exact o_run 0 [] [] (fun _ _ => []) (fun _ _ => by kernel_rfl)
  · exact o_sem 1 (fun _ => do pure (Next.value (← Instr.indexAt 24 (pt (nb ρ1 0)) (.int .i64 ((i : Nat) : Int))))) (fun _ => (.pointer (some ⟨nb ρ1 0, i, none⟩))) (fun _ => by kernel_rfl) (fun _ => by kernel_rfl) (fun _ w => run_idx_nat (n := ((i : Nat) : Int)) (i := i) Try.underlying24 Try.sizeOf22 (⟨rfl, by have := of_decide_eq_true hb1; omega⟩) w)
  · exact o_ld 2 0 22 (fun _ => nb ρ1 0) (fun _ => i) (fun _ => (cU a)) 24 (0, 0) (fun _ => (.int .u64 (wd a i))) (fun _ => by kernel_rfl) Try.isAgg22 (fun _ => cU_get a i (by have := of_decide_eq_true hb1; omega))
  · exact o_run 3 [] [] (fun _ _ => []) (fun _ _ => by kernel_rfl)
  · exact o_sem 4 (fun _ => do pure (Next.value (← Instr.indexAt 24 (pt (nb ρ1 1)) (.int .i64 ((j : Nat) : Int))))) (fun _ => (.pointer (some ⟨nb ρ1 1, j, none⟩))) (fun _ => by kernel_rfl) (fun _ => by kernel_rfl) (fun _ w => run_idx_nat (n := ((j : Nat) : Int)) (i := j) Try.underlying24 Try.sizeOf22 (⟨rfl, by have := of_decide_eq_true hb2; omega⟩) w)
  · exact o_ld 5 1 22 (fun _ => nb ρ1 1) (fun _ => j) (fun _ => (cU b)) 24 (0, 0) (fun _ => (.int .u64 (wd b j))) (fun _ => by kernel_rfl) Try.isAgg22 (fun _ => cU_get b j (by have := of_decide_eq_true hb2; omega))
  · exact o_call 6 56 (fun _ => #[(.int .u64 (wd a i)), (.int .u64 (wd b j))]) (fun _ => (.tuple #[(.int .u64 (mulHi (wd a i) (wd b j))), (.int .u64 (mulLo (wd a i) (wd b j)))])) (fun _ _ => by kernel_rfl) (fun _ w => (fun w => mul64_any (wd a i) (wd b j) (wd_word a i) (wd_word b j) w) w)
  · exact o_run 7 [] [] (fun _ _ => []) (fun _ _ => by kernel_rfl)
  · exact o_run 8 [] [] (fun _ _ => []) (fun _ _ => by kernel_rfl)
  · exact o_run 9 [] [] (fun _ _ => []) (fun _ _ => by kernel_rfl)
  · exact o_run 10 [] [] (fun _ _ => []) (fun _ _ => by kernel_rfl)
  · exact o_run 11 [] [] (fun _ _ => []) (fun _ _ => by kernel_rfl)
theorem mul_w_r11 (a : Nat) (b : Nat) (i : Nat) (hb1 : (decide (((i : Nat) : Int) < 4)) = true) (j : Nat) (u : Nat → Int) (c : Int) (hM : MulI a b i j u c) (hb2 : (decide (((j : Nat) : Int) < 4)) = true) (ρ1 : Nat → Orc) (ρ2 : Nat → Orc) (w0 : World) (F : World → Prop) : Reg Try.prog 10 (regOps Try.f35 10) false 69 [(2, (pt (nb ρ1 0))), (3, (pt (nb ρ1 1))), (4, (pt (nb ρ1 2))), (5, (pt (nb ρ1 3))), (6, (pt (nb ρ2 0))), (7, (.int .i64 ((i : Nat) : Int))), (8, (.int .u64 c)), (9, (.int .i64 ((j : Nat) : Int))), (10, (.int .u64 (mulHi (wd a i) (wd b j)))), (11, (.int .u64 (mulLo (wd a i) (wd b j)))), (14, (.int .i64 ((i : Nat) : Int))), (17, (.int .i64 ((j : Nat) : Int)))] w0 [(nb ρ1 0, (.cells (cU a) 24 (0, 0))), (nb ρ1 1, (.cells (cU b) 24 (0, 0))), (nb ρ1 2, (.cells (cU 0) 24 (0, 0))), (nb ρ1 3, (.cells (cU 0) 24 (0, 0))), (nb ρ2 0, (.cells (c8 u) 60 (0, 0)))] F
    (fun _ => [(2, (pt (nb ρ1 0))), (3, (pt (nb ρ1 1))), (4, (pt (nb ρ1 2))), (5, (pt (nb ρ1 3))), (6, (pt (nb ρ2 0))), (7, (.int .i64 ((i : Nat) : Int))), (8, (.int .u64 c)), (9, (.int .i64 ((j : Nat) : Int))), (10, (.int .u64 (mulHi (wd a i) (wd b j)))), (12, (.int .u64 (addLo (mulLo (wd a i) (wd b j)) (u (i + j)) 0))), (13, (.int .u64 (addHi (mulLo (wd a i) (wd b j)) (u (i + j)) 0))), (14, (.int .i64 ((i : Nat) : Int))), (17, (.int .i64 ((j : Nat) : Int)))])
    (fun _ => [(nb ρ1 0, (.cells (cU a) 24 (0, 0))), (nb ρ1 1, (.cells (cU b) 24 (0, 0))), (nb ρ1 2, (.cells (cU 0) 24 (0, 0))), (nb ρ1 3, (.cells (cU 0) 24 (0, 0))), (nb ρ2 0, (.cells (c8 u) 60 (0, 0)))]) := by
  refine reg_seq [0, 1, 3, 7, 15, 31, 63, 127, 255, 511, 1023, 2047] [2, 3, 4, 5, 6, 7, 8, 9, 10, 12, 13, 14, 17] 12
    (fun _ ι => ([(.int .u64 (mulLo (wd a i) (wd b j))), (.int .i64 ((i : Nat) : Int)), (.int .i64 ((j : Nat) : Int)), (.int .i64 ((i + j : Nat) : Int)), (.pointer (some ⟨nb ρ2 0, i + j, none⟩)), (.int .u64 (u (i + j))), (.tuple #[(.int .u64 (addLo (mulLo (wd a i) (wd b j)) (u (i + j)) 0)), (.int .u64 (addHi (mulLo (wd a i) (wd b j)) (u (i + j)) 0))]), (.tuple #[(.int .u64 (addLo (mulLo (wd a i) (wd b j)) (u (i + j)) 0)), (.int .u64 (addHi (mulLo (wd a i) (wd b j)) (u (i + j)) 0))]), (.int .u64 (addLo (mulLo (wd a i) (wd b j)) (u (i + j)) 0)), (.int .u64 (addHi (mulLo (wd a i) (wd b j)) (u (i + j)) 0)), (.int .u64 (addLo (mulLo (wd a i) (wd b j)) (u (i + j)) 0)), (.int .u64 (addHi (mulLo (wd a i) (wd b j)) (u (i + j)) 0))] : List Value).getD ι undef)
    (fun _ ι => ([{}, {}, {}, {}, {}, {}, {}, {}, {}, {}, {}, {}] : List Eff).getD ι {})
    (by kernel_rfl) (by kernel_rfl) (fun _ => by kernel_rfl) (fun _ => by kernel_rfl) ⟨⟨⟨⟨⟨⟨⟨⟨⟨⟨⟨⟨trivial, ?_⟩, ?_⟩, ?_⟩, ?_⟩, ?_⟩, ?_⟩, ?_⟩, ?_⟩, ?_⟩, ?_⟩, ?_⟩, ?_⟩
  · exact o_run 0 [] [] (fun _ _ => []) (fun _ _ => by kernel_rfl)
  · exact o_run 1 [] [] (fun _ _ => []) (fun _ _ => by kernel_rfl)
  · exact o_run 2 [] [] (fun _ _ => []) (fun _ _ => by kernel_rfl)
  · exact o_as 3 (fun _ => (.int .i64 (IntKind.i64.wrap (((i : Nat) : Int) + ((j : Nat) : Int))))) (fun _ => (.int .i64 ((i + j : Nat) : Int))) (fun _ _ => by kernel_rfl) (fun _ => congrArg (Value.int .i64) (wrap_add_nat i j (by have := of_decide_eq_true hb1; have := of_decide_eq_true hb2; omega)))
  · exact o_sem 4 (fun _ => do pure (Next.value (← Instr.indexAt 60 (pt (nb ρ2 0)) (.int .i64 ((i + j : Nat) : Int))))) (fun _ => (.pointer (some ⟨nb ρ2 0, i + j, none⟩))) (fun _ => by kernel_rfl) (fun _ => by kernel_rfl) (fun _ w => run_idx_nat (n := ((i + j : Nat) : Int)) (i := i + j) Try.underlying60 Try.sizeOf22 (⟨rfl, by have := of_decide_eq_true hb1; have := of_decide_eq_true hb2; omega⟩) w)
  · exact o_ld 5 4 22 (fun _ => nb ρ2 0) (fun _ => i + j) (fun _ => (c8 u)) 60 (0, 0) (fun _ => (.int .u64 (u (i + j)))) (fun _ => by kernel_rfl) Try.isAgg22 (fun _ => c8_get u (i + j) (by have := of_decide_eq_true hb1; have := of_decide_eq_true hb2; omega))
  · exact o_sem 6 (fun _ => callFunc 55 #[(.int .u64 (mulLo (wd a i) (wd b j))), (.int .u64 (u (i + j))), (.int .u64 0)]) (fun _ => (.tuple #[(.int .u64 (addLo (mulLo (wd a i) (wd b j)) (u (i + j)) 0)), (.int .u64 (addHi (mulLo (wd a i) (wd b j)) (u (i + j)) 0))])) (fun _ => by kernel_rfl) (fun _ => by kernel_rfl) (fun _ w => (add64 (mulLo (wd a i) (wd b j)) (u (i + j)) 0 (word_mulLo _ _) (hM.word _) bit_zero) w)
  · exact o_run 7 [] [] (fun _ _ => []) (fun _ _ => by kernel_rfl)
  · exact o_run 8 [] [] (fun _ _ => []) (fun _ _ => by kernel_rfl)
  · exact o_run 9 [] [] (fun _ _ => []) (fun _ _ => by kernel_rfl)
  · exact o_run 10 [] [] (fun _ _ => []) (fun _ _ => by kernel_rfl)
  · exact o_run 11 [] [] (fun _ _ => []) (fun _ _ => by kernel_rfl)
theorem mul_w_r12 (a : Nat) (b : Nat) (i : Nat) (j : Nat) (u : Nat → Int) (c : Int) (ρ1 : Nat → Orc) (ρ2 : Nat → Orc) (w0 : World) (F : World → Prop) : Reg Try.prog 11 (regOps Try.f35 11) false 69 [(2, (pt (nb ρ1 0))), (3, (pt (nb ρ1 1))), (4, (pt (nb ρ1 2))), (5, (pt (nb ρ1 3))), (6, (pt (nb ρ2 0))), (7, (.int .i64 ((i : Nat) : Int))), (8, (.int .u64 c)), (9, (.int .i64 ((j : Nat) : Int))), (10, (.int .u64 (mulHi (wd a i) (wd b j)))), (12, (.int .u64 (addLo (mulLo (wd a i) (wd b j)) (u (i + j)) 0))), (13, (.int .u64 (addHi (mulLo (wd a i) (wd b j)) (u (i + j)) 0))), (14, (.int .i64 ((i : Nat) : Int))), (17, (.int .i64 ((j : Nat) : Int)))] w0 [(nb ρ1 0, (.cells (cU a) 24 (0, 0))), (nb ρ1 1, (.cells (cU b) 24 (0, 0))), (nb ρ1 2, (.cells (cU 0) 24 (0, 0))), (nb ρ1 3, (.cells (cU 0) 24 (0, 0))), (nb ρ2 0, (.cells (c8 u) 60 (0, 0)))] F
    (fun _ => [(2, (pt (nb ρ1 0))), (3, (pt (nb ρ1 1))), (4, (pt (nb ρ1 2))), (5, (pt (nb ρ1 3))), (6, (pt (nb ρ2 0))), (7, (.int .i64 ((i : Nat) : Int))), (8, (.int .u64 c)), (9, (.int .i64 ((j : Nat) : Int))), (10, (.int .u64 (IntKind.u64.wrap ((mulHi (wd a i) (wd b j)) + (addHi (mulLo (wd a i) (wd b j)) (u (i + j)) 0))))), (12, (.int .u64 (addLo (mulLo (wd a i) (wd b j)) (u (i + j)) 0))), (13, (.int .u64 (addHi (mulLo (wd a i) (wd b j)) (u (i + j)) 0))), (14, (.int .i64 ((i : Nat) : Int))), (17, (.int .i64 ((j : Nat) : Int)))])
    (fun _ => [(nb ρ1 0, (.cells (cU a) 24 (0, 0))), (nb ρ1 1, (.cells (cU b) 24 (0, 0))), (nb ρ1 2, (.cells (cU 0) 24 (0, 0))), (nb ρ1 3, (.cells (cU 0) 24 (0, 0))), (nb ρ2 0, (.cells (c8 u) 60 (0, 0)))]) := by
  refine reg_seq [0, 1, 3, 7] [2, 3, 4, 5, 6, 7, 8, 9, 10, 12, 13, 14, 17] 4
    (fun _ ι => ([(.int .u64 (mulHi (wd a i) (wd b j))), (.int .u64 (addHi (mulLo (wd a i) (wd b j)) (u (i + j)) 0)), (.int .u64 (IntKind.u64.wrap ((mulHi (wd a i) (wd b j)) + (addHi (mulLo (wd a i) (wd b j)) (u (i + j)) 0)))), (.int .u64 (IntKind.u64.wrap ((mulHi (wd a i) (wd b j)) + (addHi (mulLo (wd a i) (wd b j)) (u (i + j)) 0))))] : List Value).getD ι undef)
    (fun _ ι => ([{}, {}, {}, {}] : List Eff).getD ι {})
    (by kernel_rfl) (by kernel_rfl) (fun _ => by kernel_rfl) (fun _ => by kernel_rfl) ⟨⟨⟨⟨trivial, ?_⟩, ?_⟩, ?_⟩, ?_⟩
  · exact o_run 0 [] [] (fun _ _ => []) (fun _ _ => by kernel_rfl)
  · exact o_run 1 [] [] (fun _ _ => []) (fun _ _ => by kernel_rfl)
  · exact o_run 2 [] [] (fun _ _ => []) (fun _ _ => by kernel_rfl)
  · exact o_run 3 [] [] (fun _ _ => []) (fun _ _ => by kernel_rfl)
theorem mul_w_r13 (a : Nat) (b : Nat) (i : Nat) (j : Nat) (u : Nat → Int) (c : Int) (hM : MulI a b i j u c) (ρ1 : Nat → Orc) (ρ2 : Nat → Orc) (w0 : World) (F : World → Prop) : Reg Try.prog 12 (regOps Try.f35 12) false 69 [(2, (pt (nb ρ1 0))), (3, (pt (nb ρ1 1))), (4, (pt (nb ρ1 2))), (5, (pt (nb ρ1 3))), (6, (pt (nb ρ2 0))), (7, (.int .i64 ((i : Nat) : Int))), (8, (.int .u64 c)), (9, (.int .i64 ((j : Nat) : Int))), (10, (.int .u64 (IntKind.u64.wrap ((mulHi (wd a i) (wd b j)) + (addHi (mulLo (wd a i) (wd b j)) (u (i + j)) 0))))), (12, (.int .u64 (addLo (mulLo (wd a i) (wd b j)) (u (i + j)) 0))), (13, (.int .u64 (addHi (mulLo (wd a i) (wd b j)) (u (i + j)) 0))), (14, (.int .i64 ((i : Nat) : Int))), (17, (.int .i64 ((j : Nat) : Int)))] w0 [(nb ρ1 0, (.cells (cU a) 24 (0, 0))), (nb ρ1 1, (.cells (cU b) 24 (0, 0))), (nb ρ1 2, (.cells (cU 0) 24 (0, 0))), (nb ρ1 3, (.cells (cU 0) 24 (0, 0))), (nb ρ2 0, (.cells (c8 u) 60 (0, 0)))] F
    (fun _ => [(2, (pt (nb ρ1 0))), (3, (pt (nb ρ1 1))), (4, (pt (nb ρ1 2))), (5, (pt (nb ρ1 3))), (6, (pt (nb ρ2 0))), (7, (.int .i64 ((i : Nat) : Int))), (8, (.int .u64 c)), (9, (.int .i64 ((j : Nat) : Int))), (10, (.int .u64 (IntKind.u64.wrap ((mulHi (wd a i) (wd b j)) + (addHi (mulLo (wd a i) (wd b j)) (u (i + j)) 0))))), (12, (.int .u64 (addLo (addLo (mulLo (wd a i) (wd b j)) (u (i + j)) 0) c 0))), (13, (.int .u64 (addHi (addLo (mulLo (wd a i) (wd b j)) (u (i + j)) 0) c 0))), (14, (.int .i64 ((i : Nat) : Int))), (17, (.int .i64 ((j : Nat) : Int)))])
    (fun _ => [(nb ρ1 0, (.cells (cU a) 24 (0, 0))), (nb ρ1 1, (.cells (cU b) 24 (0, 0))), (nb ρ1 2, (.cells (cU 0) 24 (0, 0))), (nb ρ1 3, (.cells (cU 0) 24 (0, 0))), (nb ρ2 0, (.cells (c8 u) 60 (0, 0)))]) := by
  refine reg_seq [0, 1, 3, 7, 15, 31, 63, 127] [2, 3, 4, 5, 6, 7, 8, 9, 10, 12, 13, 14, 17] 8
    (fun _ ι => ([(.int .u64 (addLo (mulLo (wd a i) (wd b j)) (u (i + j)) 0)), (.int .u64 c), (.tuple #[(.int .u64 (addLo (addLo (mulLo (wd a i) (wd b j)) (u (i + j)) 0) c 0)), (.int .u64 (addHi (addLo (mulLo (wd a i) (wd b j)) (u (i + j)) 0) c 0))]), (.tuple #[(.int .u64 (addLo (addLo (mulLo (wd a i) (wd b j)) (u (i + j)) 0) c 0)), (.int .u64 (addHi (addLo (mulLo (wd a i) (wd b j)) (u (i + j)) 0) c 0))]), (.int .u64 (addLo (addLo (mulLo (wd a i) (wd b j)) (u (i + j)) 0) c 0)), (.int .u64 (addHi (addLo (mulLo (wd a i) (wd b j)) (u (i + j)) 0) c 0)), (.int .u64 (addLo (addLo (mulLo (wd a i) (wd b j)) (u (i + j)) 0) c 0)), (.int .u64 (addHi (addLo (mulLo (wd a i) (wd b j)) (u (i + j)) 0) c 0))] : List Value).getD ι undef)
    (fun _ ι => ([{}, {}, {}, {}, {}, {}, {}, {}] : List Eff).getD ι {})
    (by kernel_rfl) (by kernel_rfl) (fun _ => by kernel_rfl) (fun _ => by kernel_rfl) ⟨⟨⟨⟨⟨⟨⟨⟨trivial, ?_⟩, ?_⟩, ?_⟩, ?_⟩, ?_⟩, ?_⟩, ?_⟩, ?_⟩
  · exact o_run 0 [] [] (fun _ _ => []) (fun _ _ => by kernel_rfl)
  · exact o_run 1 [] [] (fun _ _ => []) (fun _ _ => by kernel_rfl)
  · exact o_sem 2 (fun _ => callFunc 55 #[(.int .u64 (addLo (mulLo (wd a i) (wd b j)) (u (i + j)) 0)), (.int .u64 c), (.int .u64 0)]) (fun _ => (.tuple #[(.int .u64 (addLo (addLo (mulLo (wd a i) (wd b j)) (u (i + j)) 0) c 0)), (.int .u64 (addHi (addLo (mulLo (wd a i) (wd b j)) (u (i + j)) 0) c 0))])) (fun _ => by kernel_rfl) (fun _ => by kernel_rfl) (fun _ w => (add64 (addLo (mulLo (wd a i) (wd b j)) (u (i + j)) 0) c 0 (word_addLo _ _ _) hM.car bit_zero) w)
  · exact o_run 3 [] [] (fun _ _ => []) (fun _ _ => by kernel_rfl)
  · exact o_run 4 [] [] (fun _ _ => []) (fun _ _ => by kernel_rfl)
  · exact o_run 5 [] [] (fun _ _ => []) (fun _ _ => by kernel_rfl)
  · exact o_run 6 [] [] (fun _ _ => []) (fun _ _ => by kernel_rfl)
  · exact o_run 7 [] [] (fun _ _ => []) (fun _ _ => by kernel_rfl)
theorem mul_w_r14 (a : Nat) (b : Nat) (i : Nat) (hb1 : (decide (((i : Nat) : Int) < 4)) = true) (j : Nat) (u : Nat → Int) (c : Int) (hb2 : (decide (((j : Nat) : Int) < 4)) = true) (ρ1 : Nat → Orc) (ρ2 : Nat → Orc) (w0 : World) (F : World → Prop) : Reg Try.prog 13 (regOps Try.f35 13) false 69 [(2, (pt (nb ρ1 0))), (3, (pt (nb ρ1 1))), (4, (pt (nb ρ1 2))), (5, (pt (nb ρ1 3))), (6, (pt (nb ρ2 0))), (7, (.int .i64 ((i : Nat) : Int))), (8, (.int .u64 c)), (9, (.int .i64 ((j : Nat) : Int))), (10, (.int .u64 (IntKind.u64.wrap ((mulHi (wd a i) (wd b j)) + (addHi (mulLo (wd a i) (wd b j)) (u (i + j)) 0))))), (12, (.int .u64 (addLo (addLo (mulLo (wd a i) (wd b j)) (u (i + j)) 0) c 0))), (13, (.int .u64 (addHi (addLo (mulLo (wd a i) (wd b j)) (u (i + j)) 0) c 0))), (14, (.int .i64 ((i : Nat) : Int))), (17, (.int .i64 ((j : Nat) : Int)))] w0 [(nb ρ1 0, (.cells (cU a) 24 (0, 0))), (nb ρ1 1, (.cells (cU b) 24 (0, 0))), (nb ρ1 2, (.cells (cU 0) 24 (0, 0))), (nb ρ1 3, (.cells (cU 0) 24 (0, 0))), (nb ρ2 0, (.cells (c8 u) 60 (0, 0)))] F
    (fun _ => [(2, (pt (nb ρ1 0))), (3, (pt (nb ρ1 1))), (4, (pt (nb ρ1 2))), (5, (pt (nb ρ1 3))), (6, (pt (nb ρ2 0))), (7, (.int .i64 ((i : Nat) : Int))), (8, (.int .u64 (IntKind.u64.wrap ((IntKind.u64.wrap ((mulHi (wd a i) (wd b j)) + (addHi (mulLo (wd a i) (wd b j)) (u (i + j)) 0))) + (addHi (addLo (mulLo (wd a i) (wd b j)) (u (i + j)) 0) c 0))))), (14, (.int .i64 ((i : Nat) : Int))), (17, (.int .i64 ((j : Nat) : Int)))])
    (fun _ => [(nb ρ1 0, (.cells (cU a) 24 (0, 0))), (nb ρ1 1, (.cells (cU b) 24 (0, 0))), (nb ρ1 2, (.cells (cU 0) 24 (0, 0))), (nb ρ1 3, (.cells (cU 0) 24 (0, 0))), (nb ρ2 0, (.cells (c8 (updf u (i + j) (addLo (addLo (mulLo (wd a i) (wd b j)) (u (i + j)) 0) c 0))) 60 (0, 0)))]) := by
  refine reg_seq [0, 1, 3, 7, 15, 31, 63, 127, 255, 511] [2, 3, 4, 5, 6, 7, 8, 14, 17] 10
    (fun _ ι => ([(.int .i64 ((i : Nat) : Int)), (.int .i64 ((j : Nat) : Int)), (.int .i64 ((i + j : Nat) : Int)), (.int .u64 (addLo (addLo (mulLo (wd a i) (wd b j)) (u (i + j)) 0) c 0)), (.int .u64 (IntKind.u64.wrap ((mulHi (wd a i) (wd b j)) + (addHi (mulLo (wd a i) (wd b j)) (u (i + j)) 0)))), (.int .u64 (addHi (addLo (mulLo (wd a i) (wd b j)) (u (i + j)) 0) c 0)), (.int .u64 (IntKind.u64.wrap ((IntKind.u64.wrap ((mulHi (wd a i) (wd b j)) + (addHi (mulLo (wd a i) (wd b j)) (u (i + j)) 0))) + (addHi (addLo (mulLo (wd a i) (wd b j)) (u (i + j)) 0) c 0)))), (.pointer (some ⟨nb ρ2 0, i + j, none⟩)), undef, (.int .u64 (IntKind.u64.wrap ((IntKind.u64.wrap ((mulHi (wd a i) (wd b j)) + (addHi (mulLo (wd a i) (wd b j)) (u (i + j)) 0))) + (addHi (addLo (mulLo (wd a i) (wd b j)) (u (i + j)) 0) c 0))))] : List Value).getD ι undef)
    (fun _ ι => ([{}, {}, {}, {}, {}, {}, {}, {}, { puts := [(4, (.cells (c8 (updf u (i + j) (addLo (addLo (mulLo (wd a i) (wd b j)) (u (i + j)) 0) c 0))) 60 (0, 0)))] }, {}] : List Eff).getD ι {})
    (by kernel_rfl) (by kernel_rfl) (fun _ => by kernel_rfl) (fun _ => by kernel_rfl) ⟨⟨⟨⟨⟨⟨⟨⟨⟨⟨trivial, ?_⟩, ?_⟩, ?_⟩, ?_⟩, ?_⟩, ?_⟩, ?_⟩, ?_⟩, ?_⟩, ?_⟩
  · exact o_run 0 [] [] (fun _ _ => []) (fun _ _ => by kernel_rfl)
  · exact o_run 1 [] [] (fun _ _ => []) (fun _ _ => by kernel_rfl)
  · exact o_as 2 (fun _ => (.int .i64 (IntKind.i64.wrap (((i : Nat) : Int) + ((j : Nat) : Int))))) (fun _ => (.int .i64 ((i + j : Nat) : Int))) (fun _ _ => by kernel_rfl) (fun _ => congrArg (Value.int .i64) (wrap_add_nat i j (by have := of_decide_eq_true hb1; have := of_decide_eq_true hb2; omega)))
  · exact o_run 3 [] [] (fun _ _ => []) (fun _ _ => by kernel_rfl)
  · exact o_run 4 [] [] (fun _ _ => []) (fun _ _ => by kernel_rfl)
  · exact o_run 5 [] [] (fun _ _ => []) (fun _ _ => by kernel_rfl)
  · exact o_run 6 [] [] (fun _ _ => []) (fun _ _ => by kernel_rfl)
  · exact o_sem 7 (fun _ => do pure (Next.value (← Instr.indexAt 60 (pt (nb ρ2 0)) (.int .i64 ((i + j : Nat) : Int))))) (fun _ => (.pointer (some ⟨nb ρ2 0, i + j, none⟩))) (fun _ => by kernel_rfl) (fun _ => by kernel_rfl) (fun _ w => run_idx_nat (n := ((i + j : Nat) : Int)) (i := i + j) Try.underlying60 Try.sizeOf22 (⟨rfl, by have := of_decide_eq_true hb1; have := of_decide_eq_true hb2; omega⟩) w)
  · exact o_st 8 4 22 (fun _ => nb ρ2 0) (fun _ => i + j) (fun _ => (c8 u)) (fun _ => (c8 (updf u (i + j) (addLo (addLo (mulLo (wd a i) (wd b j)) (u (i + j)) 0) c 0)))) 60 (fun _ => (.int .u64 (addLo (addLo (mulLo (wd a i) (wd b j)) (u (i + j)) 0) c 0))) (fun _ => by kernel_rfl) Try.sizeOf22 (fun _ => rfl) (fun _ => (show _ < 8 from (by have := of_decide_eq_true hb1; have := of_decide_eq_true hb2; omega))) (fun _ => c8_set u (i + j) (addLo (addLo (mulLo (wd a i) (wd b j)) (u (i + j)) 0) c 0) (by have := of_decide_eq_true hb1; have := of_decide_eq_true hb2; omega))
  · exact o_run 9 [] [] (fun _ _ => []) (fun _ _ => by kernel_rfl)
theorem mul_w_r15 (a : Nat) (b : Nat) (i : Nat) (hb1 : (decide (((i : Nat) : Int) < 4)) = true) (j : Nat) (u : Nat → Int) (c : Int) (hb2 : (decide (((j : Nat) : Int) < 4)) = true) (ρ1 : Nat → Orc) (ρ2 : Nat → Orc) (w0 : World) (F : World → Prop) : Reg Try.prog 14 (regOps Try.f35 14) false 69 [(2, (pt (nb ρ1 0))), (3, (pt (nb ρ1 1))), (4, (pt (nb ρ1 2))), (5, (pt (nb ρ1 3))), (6, (pt (nb ρ2 0))), (7, (.int .i64 ((i : Nat) : Int))), (8, (.int .u64 (IntKind.u64.wrap ((IntKind.u64.wrap ((mulHi (wd a i) (wd b j)) + (addHi (mulLo (wd a i) (wd b j)) (u (i + j)) 0))) + (addHi (addLo (mulLo (wd a i) (wd b j)) (u (i + j)) 0) c 0))))), (14, (.int .i64 ((i : Nat) : Int))), (17, (.int .i64 ((j : Nat) : Int)))] w0 [(nb ρ1 0, (.cells (cU a) 24 (0, 0))), (nb ρ1 1, (.cells (cU b) 24 (0, 0))), (nb ρ1 2, (.cells (cU 0) 24 (0, 0))), (nb ρ1 3, (.cells (cU 0) 24 (0, 0))), (nb ρ2 0, (.cells (c8 (updf u (i + j) (addLo (addLo (mulLo (wd a i) (wd b j)) (u (i + j)) 0) c 0))) 60 (0, 0)))] F
    (fun _ => [(2, (pt (nb ρ1 0))), (3, (pt (nb ρ1 1))), (4, (pt (nb ρ1 2))), (5, (pt (nb ρ1 3))), (6, (pt (nb ρ2 0))), (7, (.int .i64 ((i : Nat) : Int))), (8, (.int .u64 (IntKind.u64.wrap ((IntKind.u64.wrap ((mulHi (wd a i) (wd b j)) + (addHi (mulLo (wd a i) (wd b j)) (u (i + j)) 0))) + (addHi (addLo (mulLo (wd a i) (wd b j)) (u (i + j)) 0) c 0))))), (14, (.int .i64 ((i : Nat) : Int))), (17, (.int .i64 ((j + 1 : Nat) : Int)))])
    (fun _ => [(nb ρ1 0, (.cells (cU a) 24 (0, 0))), (nb ρ1 1, (.cells (cU b) 24 (0, 0))), (nb ρ1 2, (.cells (cU 0) 24 (0, 0))), (nb ρ1 3, (.cells (cU 0) 24 (0, 0))), (nb ρ2 0, (.cells (c8 (updf u (i + j) (addLo (addLo (mulLo (wd a i) (wd b j)) (u (i + j)) 0) c 0))) 60 (0, 0)))]) := by
  refine reg_seq [0, 1] [2, 3, 4, 5, 6, 7, 8, 14, 17] 2
    (fun _ ι => ([(.int .i64 ((j + 1 : Nat) : Int)), (.int .i64 ((j + 1 : Nat) : Int))] : List Value).getD ι undef)
    (fun _ ι => ([{}, {}] : List Eff).getD ι {})
    (by kernel_rfl) (by kernel_rfl) (fun _ => by kernel_rfl) (fun _ => by kernel_rfl) ⟨⟨trivial, ?_⟩, ?_⟩
  · exact o_as 0 (fun _ => (.int .i64 (IntKind.i64.wrap (((j : Nat) : Int) + 1)))) (fun _ => (.int .i64 ((j + 1 : Nat) : Int))) (fun _ _ => by kernel_rfl) (fun _ => congrArg (Value.int .i64) (wrap_add_nat j 1 (by have := of_decide_eq_true hb1; have := of_decide_eq_true hb2; omega)))
  · exact o_run 1 [] [] (fun _ _ => []) (fun _ _ => by kernel_rfl)
theorem mul_w_r16 (a : Nat) (b : Nat) (i : Nat) (hb1 : (decide (((i : Nat) : Int) < 4)) = true) (j : Nat) (u : Nat → Int) (c : Int) (ρ1 : Nat → Orc) (ρ2 : Nat → Orc) (w0 : World) (F : World → Prop) : Reg Try.prog 15 (regOps Try.f35 15) false 69 [(2, (pt (nb ρ1 0))), (3, (pt (nb ρ1 1))), (4, (pt (nb ρ1 2))), (5, (pt (nb ρ1 3))), (6, (pt (nb ρ2 0))), (7, (.int .i64 ((i : Nat) : Int))), (8, (.int .u64 c)), (14, (.int .i64 ((i : Nat) : Int))), (17, (.int .i64 ((j : Nat) : Int))), (18, (.bool false))] w0 [(nb ρ1 0, (.cells (cU a) 24 (0, 0))), (nb ρ1 1, (.cells (cU b) 24 (0, 0))), (nb ρ1 2, (.cells (cU 0) 24 (0, 0))), (nb ρ1 3, (.cells (cU 0) 24 (0, 0))), (nb ρ2 0, (.cells (c8 u) 60 (0, 0)))] F
    (fun _ => [(2, (pt (nb ρ1 0))), (3, (pt (nb ρ1 1))), (4, (pt (nb ρ1 2))), (5, (pt (nb ρ1 3))), (6, (pt (nb ρ2 0))), (14, (.int .i64 ((i : Nat) : Int)))])
    (fun _ => [(nb ρ1 0, (.cells (cU a) 24 (0, 0))), (nb ρ1 1, (.cells (cU b) 24 (0, 0))), (nb ρ1 2, (.cells (cU 0) 24 (0, 0))), (nb ρ1 3, (.cells (cU 0) 24 (0, 0))), (nb ρ2 0, (.cells (c8 (updf u (i + 4) c)) 60 (0, 0)))]) := by
  refine reg_seq [0, 1, 3, 7, 15] [2, 3, 4, 5, 6, 14] 5
    (fun _ ι => ([(.int .i64 ((i : Nat) : Int)), (.int .i64 ((i + 4 : Nat) : Int)), (.int .u64 c), (.pointer (some ⟨nb ρ2 0, i + 4, none⟩)), undef] : List Value).getD ι undef)
    (fun _ ι => ([{}, {}, {}, {}, { puts := [(4, (.cells (c8 (updf u (i + 4) c)) 60 (0, 0)))] }] : List Eff).getD ι {})
    (by kernel_rfl) (by kernel_rfl) (fun _ => by kernel_rfl) (fun _ => by kernel_rfl) ⟨⟨⟨⟨⟨trivial, ?_⟩, ?_⟩, ?_⟩, ?_⟩, ?_⟩
  · exact o_run 0 [] [] (fun _ _ => []) (fun _ _ => by kernel_rfl)
  · exact o_as 1 (fun _ => (.int .i64 (IntKind.i64.wrap (((i : Nat) : Int) + 4)))) (fun _ => (.int .i64 ((i + 4 : Nat) : Int))) (fun _ _ => by kernel_rfl) (fun _ => congrArg (Value.int .i64) (wrap_add_nat i 4 (by have := of_decide_eq_true hb1; omega)))
  · exact o_run 2 [] [] (fun _ _ => []) (fun _ _ => by kernel_rfl)
  · exact o_sem 3 (fun _ => do pure (Next.value (← Instr.indexAt 60 (pt (nb ρ2 0)) (.int .i64 ((i + 4 : Nat) : Int))))) (fun _ => (.pointer (some ⟨nb ρ2 0, i + 4, none⟩))) (fun _ => by kernel_rfl) (fun _ => by kernel_rfl) (fun _ w => run_idx_nat (n := ((i + 4 : Nat) : Int)) (i := i + 4) Try.underlying60 Try.sizeOf22 (⟨rfl, by have := of_decide_eq_true hb1; omega⟩) w)
  · exact o_st 4 4 22 (fun _ => nb ρ2 0) (fun _ => i + 4) (fun _ => (c8 u)) (fun _ => (c8 (updf u (i + 4) c))) 60 (fun _ => (.int .u64 c)) (fun _ => by kernel_rfl) Try.sizeOf22 (fun _ => rfl) (fun _ => (show _ < 8 from (by have := of_decide_eq_true hb1; omega))) (fun _ => c8_set u (i + 4) c (by have := of_decide_eq_true hb1; omega))
theorem mul_w_r17 (a : Nat) (b : Nat) (i : Nat) (hb1 : (decide (((i : Nat) : Int) < 4)) = true) (u : Nat → Int) (c : Int) (ρ1 : Nat → Orc) (ρ2 : Nat → Orc) (w0 : World) (F : World → Prop) : Reg Try.prog 16 (regOps Try.f35 16) false 69 [(2, (pt (nb ρ1 0))), (3, (pt (nb ρ1 1))), (4, (pt (nb ρ1 2))), (5, (pt (nb ρ1 3))), (6, (pt (nb ρ2 0))), (14, (.int .i64 ((i : Nat) : Int)))] w0 [(nb ρ1 0, (.cells (cU a) 24 (0, 0))), (nb ρ1 1, (.cells (cU b) 24 (0, 0))), (nb ρ1 2, (.cells (cU 0) 24 (0, 0))), (nb ρ1 3, (.cells (cU 0) 24 (0, 0))), (nb ρ2 0, (.cells (c8 (updf u (i + 4) c)) 60 (0, 0)))] F
    (fun _ => [(2, (pt (nb ρ1 0))), (3, (pt (nb ρ1 1))), (4, (pt (nb ρ1 2))), (5, (pt (nb ρ1 3))), (6, (pt (nb ρ2 0))), (14, (.int .i64 ((i + 1 : Nat) : Int)))])
    (fun _ => [(nb ρ1 0, (.cells (cU a) 24 (0, 0))), (nb ρ1 1, (.cells (cU b) 24 (0, 0))), (nb ρ1 2, (.cells (cU 0) 24 (0, 0))), (nb ρ1 3, (.cells (cU 0) 24 (0, 0))), (nb ρ2 0, (.cells (c8 (updf u (i + 4) c)) 60 (0, 0)))]) := by
  refine reg_seq [0, 1] [2, 3, 4, 5, 6, 14] 2
    (fun _ ι => ([(.int .i64 ((i + 1 : Nat) : Int)), (.int .i64 ((i + 1 : Nat) : Int))] : List Value).getD ι undef)
    (fun _ ι => ([{}, {}] : List Eff).getD ι {})
    (by kernel_rfl) (by kernel_rfl) (fun _ => by kernel_rfl) (fun _ => by kernel_rfl) ⟨⟨trivial, ?_⟩, ?_⟩
  · exact o_as 0 (fun _ => (.int .i64 (IntKind.i64.wrap (((i : Nat) : Int) + 1)))) (fun _ => (.int .i64 ((i + 1 : Nat) : Int))) (fun _ _ => by kernel_rfl) (fun _ => congrArg (Value.int .i64) (wrap_add_nat i 1 (by have := of_decide_eq_true hb1; omega)))
  · exact o_run 1 [] [] (fun _ _ => []) (fun _ _ => by kernel_rfl)
theorem mul_w_r18 (a : Nat) (b : Nat) (i : Nat) (f : Nat → Int) (ρ1 : Nat → Orc) (ρ2 : Nat → Orc) (w0 : World) (F : World → Prop) : Reg Try.prog 17 (regOps Try.f35 17) true 69 [(2, (pt (nb ρ1 0))), (3, (pt (nb ρ1 1))), (4, (pt (nb ρ1 2))), (5, (pt (nb ρ1 3))), (6, (pt (nb ρ2 0))), (14, (.int .i64 ((i : Nat) : Int))), (15, (.bool false))] w0 [(nb ρ1 0, (.cells (cU a) 24 (0, 0))), (nb ρ1 1, (.cells (cU b) 24 (0, 0))), (nb ρ1 2, (.cells (cU 0) 24 (0, 0))), (nb ρ1 3, (.cells (cU 0) 24 (0, 0))), (nb ρ2 0, (.cells (c8 f) 60 (0, 0)))] F
    (fun _ => [(4, (pt (nb ρ1 2))), (5, (pt (nb ρ1 3)))])
    (fun _ => [(nb ρ1 0, (.cells (cU a) 24 (0, 0))), (nb ρ1 1, (.cells (cU b) 24 (0, 0))), (nb ρ1 2, (.cells #[(.int .u64 (f 4)), (.int .u64 (f 5)), (.int .u64 (f 6)), (.int .u64 (f 7))] 24 (0, 0))), (nb ρ1 3, (.cells #[(.int .u64 (f 0)), (.int .u64 (f 1)), (.int .u64 (f 2)), (.int .u64 (f 3))] 24 (0, 0))), (nb ρ2 0, (.cells (c8 f) 60 (0, 0)))]) := by
  refine reg_drawn [0, 1, 3, 0, 8, 24, 7, 127] [4, 5] 8
    (fun _ ι => ([(.slice (some ⟨nb ρ2 0, 4, none⟩) 4 4), (.pointer (some ⟨nb ρ2 0, 4, none⟩)), (.agg #[(.int .u64 (f 4)), (.int .u64 (f 5)), (.int .u64 (f 6)), (.int .u64 (f 7))]), (.slice (some ⟨nb ρ2 0, 0, none⟩) 4 8), (pt (nb ρ2 0)), (.agg #[(.int .u64 (f 0)), (.int .u64 (f 1)), (.int .u64 (f 2)), (.int .u64 (f 3))]), undef, undef] : List Value).getD ι undef)
    (fun _ ι => ([{}, {}, {}, {}, {}, {}, { puts := [(2, (.cells #[(.int .u64 (f 4)), (.int .u64 (f 5)), (.int .u64 (f 6)), (.int .u64 (f 7))] 24 (0, 0)))] }, { puts := [(3, (.cells #[(.int .u64 (f 0)), (.int .u64 (f 1)), (.int .u64 (f 2)), (.int .u64 (f 3))] 24 (0, 0)))] }] : List Eff).getD ι {})
    (by kernel_rfl) (by kernel_rfl) (by kernel_rfl) (fun _ => by kernel_rfl) (fun _ => by kernel_rfl) ⟨⟨⟨⟨⟨⟨⟨⟨trivial, ?_⟩, ?_⟩, ?_⟩, ?_⟩, ?_⟩, ?_⟩, ?_⟩, ?_⟩
  · exact o_run 0 [] [] (fun _ _ => []) (fun _ _ => by kernel_rfl)
  · exact o_run 1 [] [] (fun _ _ => []) (fun _ _ => by kernel_rfl)
  · exact o_run 2 [4] [] (fun _ _ => [nb ρ2 0, nb ρ2 0, nb ρ2 0, nb ρ2 0]) (fun _ _ => by kernel_rfl)
  · exact o_run 3 [] [] (fun _ _ => []) (fun _ _ => by kernel_rfl)
  · exact o_run 4 [] [] (fun _ _ => []) (fun _ _ => by kernel_rfl)
  · exact o_run 5 [4] [] (fun _ _ => [nb ρ2 0, nb ρ2 0, nb ρ2 0, nb ρ2 0]) (fun _ _ => by kernel_rfl)
  · exact o_run 6 [2] [] (fun _ _ => [nb ρ1 2, nb ρ1 2, nb ρ1 2, nb ρ1 2]) (fun _ _ => by kernel_rfl)
  · exact o_run 7 [3] [] (fun _ _ => [nb ρ1 3, nb ρ1 3, nb ρ1 3, nb ρ1 3]) (fun _ _ => by kernel_rfl)
theorem mul_w (a : Nat) (b : Nat) (ha : a < M) (hb : b < M) (w0 : World) : Calls Try.prog 35 #[(U a), (U b)] w0 (fun ε w' => ε = .returned (.tuple #[(U (a * b / M)), (U (a * b % M))]) ∧ Below w0.heap.size w0 w') := by
  refine Calls.of_ok (n := 69) (F := (fun _ => True)) Try.func35 rfl rfl rfl (by simp) (persTrue (fun _ => trivial)) ?_
  refine ok_seq_r (by kernel_rfl) (mul_w_r1 a b _ _) (fun ρ1 => ?_)
  refine ok_seq_r (by kernel_rfl) (mul_w_r2 a b ρ1 _ _) (fun ρ2 => ?_)
  refine ok_seq ?_
  refine ok_seq_r (by kernel_rfl) (mul_w_r3 a b ρ1 ρ2 _ _) (fun _ => ?_)
  refine ok_block ?_
  refine ok_loop (σ := Nat × (Nat → Int)) (fun ⟨i, _⟩ => [(2, (pt (nb ρ1 0))), (3, (pt (nb ρ1 1))), (4, (pt (nb ρ1 2))), (5, (pt (nb ρ1 3))), (6, (pt (nb ρ2 0))), (14, (.int .i64 ((i : Nat) : Int)))]) (fun ⟨_, f⟩ => [(nb ρ1 0, (.cells (cU a) 24 (0, 0))), (nb ρ1 1, (.cells (cU b) 24 (0, 0))), (nb ρ1 2, (.cells (cU 0) 24 (0, 0))), (nb ρ1 3, (.cells (cU 0) 24 (0, 0))), (nb ρ2 0, (.cells (c8 f) 60 (0, 0)))]) (fun ⟨i, _⟩ => 4 - i)
    (fun ⟨i, f⟩ => (i ≤ 4) ∧ (MulO a b i f)) (0, (fun _ => 0)) (⟨by omega, mulO_zero a b⟩) (by kernel_rfl) (.cons_cons _ (.cons_cons _ (.cons_cons _ (.cons_cons _ (.cons_cons _ .slnil))))) ?_
  rintro ⟨i, f⟩ ⟨hi, hO⟩
  change Ok Try.prog _ _ 69 [(2, (pt (nb ρ1 0))), (3, (pt (nb ρ1 1))), (4, (pt (nb ρ1 2))), (5, (pt (nb ρ1 3))), (6, (pt (nb ρ2 0))), (14, (.int .i64 ((i : Nat) : Int)))] _ [(nb ρ1 0, (.cells (cU a) 24 (0, 0))), (nb ρ1 1, (.cells (cU b) 24 (0, 0))), (nb ρ1 2, (.cells (cU 0) 24 (0, 0))), (nb ρ1 3, (.cells (cU 0) 24 (0, 0))), (nb ρ2 0, (.cells (c8 f) 60 (0, 0)))] (fun _ => True)
  refine ok_seq_r (by kernel_rfl) (mul_w_r4 a b i f ρ1 ρ2 _ _) (fun _ => ?_)
  refine ok_seq ?_
  refine ok_cond (b := decide (((i : Nat) : Int) < 4)) (by kernel_rfl) (fun hb1 => ?_) (fun hb1 => ?_)
  ·
    rw [hb1]
    refine ok_skip ?_
    refine mt_then ?_
    refine ok_seq ?_
    refine ok_block ?_
    refine ok_seq_r (by kernel_rfl) (mul_w_r5 a b i f ρ1 ρ2 _ _) (fun _ => ?_)
    refine ok_seq_r (by kernel_rfl) (mul_w_r6 a b i f ρ1 ρ2 _ _) (fun _ => ?_)
    refine ok_seq ?_
    refine ok_seq_r (by kernel_rfl) (mul_w_r7 a b i f ρ1 ρ2 _ _) (fun _ => ?_)
    refine ok_block ?_
    refine ok_loop (σ := Nat × (Nat → Int) × Int) (fun ⟨j, _, c⟩ => [(2, (pt (nb ρ1 0))), (3, (pt (nb ρ1 1))), (4, (pt (nb ρ1 2))), (5, (pt (nb ρ1 3))), (6, (pt (nb ρ2 0))), (7, (.int .i64 ((i : Nat) : Int))), (8, (.int .u64 c)), (14, (.int .i64 ((i : Nat) : Int))), (17, (.int .i64 ((j : Nat) : Int)))]) (fun ⟨_, u, _⟩ => [(nb ρ1 0, (.cells (cU a) 24 (0, 0))), (nb ρ1 1, (.cells (cU b) 24 (0, 0))), (nb ρ1 2, (.cells (cU 0) 24 (0, 0))), (nb ρ1 3, (.cells (cU 0) 24 (0, 0))), (nb ρ2 0, (.cells (c8 u) 60 (0, 0)))]) (fun ⟨j, _, _⟩ => 4 - j)
      (fun ⟨j, u, c⟩ => (j ≤ 4) ∧ (MulI a b i j u c)) (0, f, 0) (⟨by omega, mulO_begin hO⟩) (by kernel_rfl) (.cons_cons _ (.cons_cons _ (.cons_cons _ (.cons_cons _ (.cons_cons _ .slnil))))) ?_
    rintro ⟨j, u, c⟩ ⟨hj, hM⟩
    change Ok Try.prog _ _ 69 [(2, (pt (nb ρ1 0))), (3, (pt (nb ρ1 1))), (4, (pt (nb ρ1 2))), (5, (pt (nb ρ1 3))), (6, (pt (nb ρ2 0))), (7, (.int .i64 ((i : Nat) : Int))), (8, (.int .u64 c)), (14, (.int .i64 ((i : Nat) : Int))), (17, (.int .i64 ((j : Nat) : Int)))] _ [(nb ρ1 0, (.cells (cU a) 24 (0, 0))), (nb ρ1 1, (.cells (cU b) 24 (0, 0))), (nb ρ1 2, (.cells (cU 0) 24 (0, 0))), (nb ρ1 3, (.cells (cU 0) 24 (0, 0))), (nb ρ2 0, (.cells (c8 u) 60 (0, 0)))] (fun _ => True)
    refine ok_seq_r (by kernel_rfl) (mul_w_r8 a b i j u c ρ1 ρ2 _ _) (fun _ => ?_)
    refine ok_seq ?_
    refine ok_cond (b := decide (((j : Nat) : Int) < 4)) (by kernel_rfl) (fun hb2 => ?_) (fun hb2 => ?_)
    ·
      rw [hb2]
      refine ok_skip ?_
      refine mt_then ?_
      refine ok_seq ?_
      refine ok_block ?_
      refine ok_seq_r (by kernel_rfl) (mul_w_r9 a b i j u c ρ1 ρ2 _ _) (fun _ => ?_)
      refine ok_seq_r (by kernel_rfl) (mul_w_r10 a b i hb1 j u c hb2 ρ1 ρ2 _ _) (fun _ => ?_)
      refine ok_seq_r (by kernel_rfl) (mul_w_r11 a b i hb1 j u c hM hb2 ρ1 ρ2 _ _) (fun _ => ?_)
      refine ok_seq_r (by kernel_rfl) (mul_w_r12 a b i j u c ρ1 ρ2 _ _) (fun _ => ?_)
      refine ok_seq_r (by kernel_rfl) (mul_w_r13 a b i j u c hM ρ1 ρ2 _ _) (fun _ => ?_)
      refine ok_r (by kernel_rfl) (mul_w_r14 a b i hb1 j u c hb2 ρ1 ρ2 _ _) (fun _ => ?_)
      refine mt_block_n ?_
      refine mt_then ?_
      refine ok_r (by kernel_rfl) (mul_w_r15 a b i hb1 j u c hb2 ρ1 ρ2 _ _) (fun _ => ?_)
      exact mt_round (j + 1, updf u (i + j) (addLo (addLo (mulLo (wd a i) (wd b j)) (u (i + j)) 0) c 0), IntKind.u64.wrap ((IntKind.u64.wrap ((mulHi (wd a i) (wd b j)) + (addHi (mulLo (wd a i) (wd b j)) (u (i + j)) 0))) + (addHi (addLo (mulLo (wd a i) (wd b j)) (u (i + j)) 0) c 0))) (by show 4 - (j + 1) < 4 - j; have := of_decide_eq_true hb2; omega) (⟨by have := of_decide_eq_true hb2; omega, mulI_next (by have := of_decide_eq_true hb1; omega) (by have := of_decide_eq_true hb2; omega) hM (word_addLo _ _ _) (mul_step (wd_word a i) (wd_word b j) (hM.word _) hM.car).2 (mul_step (wd_word a i) (wd_word b j) (hM.word _) hM.car).1⟩) (by kernel_rfl) (.cons_cons _ (.cons_cons _ (.cons_cons _ (.cons_cons _ (.cons_cons _ .slnil)))))
    ·
      rw [hb2]
      refine ok_exit ?_
      refine mt_then_e ?_
      refine mt_then_e ?_
      refine mt_block_h ?_
      refine mt_then ?_
      refine ok_r (by kernel_rfl) (mul_w_r16 a b i hb1 j u c ρ1 ρ2 _ _) (fun _ => ?_)
      refine mt_block_n ?_
      refine mt_then ?_
      refine ok_r (by kernel_rfl) (mul_w_r17 a b i hb1 u c ρ1 ρ2 _ _) (fun _ => ?_)
      exact mt_round (i + 1, updf u (i + 4) c) (by show 4 - (i + 1) < 4 - i; have := of_decide_eq_true hb1; omega) (⟨by have := of_decide_eq_true hb1; omega, mulI_end (by have := of_decide_eq_true hb1; omega) (by have : j = 4 := (by have := of_decide_eq_false hb2; omega); subst this; exact hM)⟩) (by kernel_rfl) (.cons_cons _ (.cons_cons _ (.cons_cons _ (.cons_cons _ (.cons_cons _ .slnil)))))
  ·
    rw [hb1]
    refine ok_exit ?_
    refine mt_then_e ?_
    refine mt_then_e ?_
    refine mt_block_h ?_
    refine mt_then ?_
    refine ok_seq_r (by kernel_rfl) (mul_w_r18 a b i f ρ1 ρ2 _ _) (fun _ => ?_)
    refine ok_ret ?_
    exact meets_ret (v := (.tuple #[(.agg #[(.int .u64 (f 4)), (.int .u64 (f 5)), (.int .u64 (f 6)), (.int .u64 (f 7))]), (.agg #[(.int .u64 (f 0)), (.int .u64 (f 1)), (.int .u64 (f 2)), (.int .u64 (f 3))])])) [2, 2, 2, 2, 3, 3, 3, 3] (dup [nb ρ1 2, nb ρ1 2, nb ρ1 2, nb ρ1 2, nb ρ1 3, nb ρ1 3, nb ρ1 3, nb ρ1 3]) (by kernel_rfl) (by kernel_rfl) (eqs_dup _) (fun _ hS => ⟨mul_end ha hb (by have : i = 4 := (by have := of_decide_eq_false hb1; omega); subst this; exact hO), hS.below⟩)
theorem mul_any (a b : Nat) (w0 : World) (ha : a < M) (hb : b < M) : Calls Try.prog 35 #[U a, U b] w0 (fun ε w' => ε = .returned (.tuple #[(U (a * b / M)), (U (a * b % M))]) ∧ Below w0.heap.size w0 w') := mul_w a b ha hb w0
theorem rmul_w_r1 (a : Nat) (b : Nat) (w0 : World) (F : World → Prop) : Reg Try.prog 0 (regOps Try.f36 0) false 71 [(0, (U a)), (1, (U b))] w0 [] F
    (fun ρ => [(2, (pt (nb ρ 0))), (3, (pt (nb ρ 1))), (4, (pt (nb ρ 2))), (5, (pt (nb ρ 3)))])
    (fun ρ => [(nb ρ 0, (.cells (cU a) 24 (0, 0))), (nb ρ 1, (.cells (cU b) 24 (0, 0))), (nb ρ 2, (.cells (cU 0) 24 (0, 0))), (nb ρ 3, (.cells (cU 0) 24 (0, 0)))]) := by
  refine reg_seq [0, 1, 3, 7] [2, 3, 4, 5] 4
    (fun ρ ι => ([(pt (nb ρ 0)), (pt (nb ρ 1)), (pt (nb ρ 2)), (pt (nb ρ 3))] : List Value).getD ι undef)
    (fun ρ ι => ([{ news := [(nb ρ 0, (.cells (cU a) 24 (0, 0)))] }, { news := [(nb ρ 1, (.cells (cU b) 24 (0, 0)))] }, { news := [(nb ρ 2, (.cells (cU 0) 24 (0, 0)))] }, { news := [(nb ρ 3, (.cells (cU 0) 24 (0, 0)))] }] : List Eff).getD ι {})
    (by kernel_rfl) (by kernel_rfl) (fun _ => by kernel_rfl) (fun _ => by kernel_rfl) ⟨⟨⟨⟨trivial, ?_⟩, ?_⟩, ?_⟩, ?_⟩
  · exact o_run 0 [] [] (fun _ _ => []) (fun _ _ => by kernel_rfl)
  · exact o_run 1 [] [] (fun _ _ => []) (fun _ _ => by kernel_rfl)
  · exact o_run 2 [] [] (fun _ _ => []) (fun _ _ => by kernel_rfl)
  · exact o_run 3 [] [] (fun _ _ => []) (fun _ _ => by kernel_rfl)
theorem rmul_w_r2 (a : Nat) (b : Nat) (ρ1 : Nat → Orc) (w0 : World) (F : World → Prop) : Reg Try.prog 1 (regOps Try.f36 1) false 71 [(2, (pt (nb ρ1 0))), (3, (pt (nb ρ1 1))), (4, (pt (nb ρ1 2))), (5, (pt (nb ρ1 3)))] w0 [(nb ρ1 0, (.cells (cU a) 24 (0, 0))), (nb ρ1 1, (.cells (cU b) 24 (0, 0))), (nb ρ1 2, (.cells (cU 0) 24 (0, 0))), (nb ρ1 3, (.cells (cU 0) 24 (0, 0)))] F
    (fun ρ => [(2, (pt (nb ρ1 0))), (3, (pt (nb ρ1 1))), (4, (pt (nb ρ1 2))), (5, (pt (nb ρ1 3))), (6, (pt (nb ρ 0)))])
    (fun ρ => [(nb ρ1 0, (.cells (cU a) 24 (0, 0))), (nb ρ1 1, (.cells (cU b) 24 (0, 0))), (nb ρ1 2, (.cells (cU 0) 24 (0, 0))), (nb ρ1 3, (.cells (cU 0) 24 (0, 0))), (nb ρ 0, (.cells #[(.int .u64 0), (.int .u64 0), (.int .u64 0), (.int .u64 0), (.int .u64 0), (.int .u64 0), (.int .u64 0), (.int .u64 0)] 60 (0, 0)))]) := by
  refine reg_seq [0] [2, 3, 4, 5, 6] 1
    (fun ρ ι => ([(pt (nb ρ 0))] : List Value).getD ι undef)
    (fun ρ ι => ([{ news := [(nb ρ 0, (.cells #[(.int .u64 0), (.int .u64 0), (.int .u64 0), (.int .u64 0), (.int .u64 0), (.int .u64 0), (.int .u64 0), (.int .u64 0)] 60 (0, 0)))] }] : List Eff).getD ι {})
    (by kernel_rfl) (by kernel_rfl) (fun _ => by kernel_rfl) (fun _ => by kernel_rfl) ⟨trivial, ?_⟩
  · exact o_run 0 [] [] (fun _ _ => []) (fun _ _ => by kernel_rfl)
theorem rmul_w_r3 (a : Nat) (b : Nat) (ρ1 : Nat → Orc) (ρ2 : Nat → Orc) (w0 : World) (F : World → Prop) : Reg Try.prog 2 (regOps Try.f36 2) false 71 [(2, (pt (nb ρ1 0))), (3, (pt (nb ρ1 1))), (4, (pt (nb ρ1 2))), (5, (pt (nb ρ1 3))), (6, (pt (nb ρ2 0)))] w0 [(nb ρ1 0, (.cells (cU a) 24 (0, 0))), (nb ρ1 1, (.cells (cU b) 24 (0, 0))), (nb ρ1 2, (.cells (cU 0) 24 (0, 0))), (nb ρ1 3, (.cells (cU 0) 24 (0, 0))), (nb ρ2 0, (.cells #[(.int .u64 0), (.int .u64 0), (.int .u64 0), (.int .u64 0), (.int .u64 0), (.int .u64 0), (.int .u64 0), (.int .u64 0)] 60 (0, 0)))] F
    (fun _ => [(2, (pt (nb ρ1 0))), (3, (pt (nb ρ1 1))), (4, (pt (nb ρ1 2))), (5, (pt (nb ρ1 3))), (6, (pt (nb ρ2 0))), (15, (.int .i64 0))])
    (fun _ => [(nb ρ1 0, (.cells (cU a) 24 (0, 0))), (nb ρ1 1, (.cells (cU b) 24 (0, 0))), (nb ρ1 2, (.cells (cU 0) 24 (0, 0))), (nb ρ1 3, (.cells (cU 0) 24 (0, 0))), (nb ρ2 0, (.cells #[(.int .u64 0), (.int .u64 0), (.int .u64 0), (.int .u64 0), (.int .u64 0), (.int .u64 0), (.int .u64 0), (.int .u64 0)] 60 (0, 0)))]) := by
  refine reg_seq [0] [2, 3, 4, 5, 6, 15] 1
    (fun _ ι => ([(.int .i64 0)] : List Value).getD ι undef)
    (fun _ ι => ([{}] : List Eff).getD ι {})
    (by kernel_rfl) (by kernel_rfl) (fun _ => by kernel_rfl) (fun _ => by kernel_rfl) ⟨trivial, ?_⟩
  · exact o_run 0 [] [] (fun _ _ => []) (fun _ _ => by kernel_rfl)
theorem rmul_w_r4 (a : Nat) (b : Nat) (i : Nat) (f : Nat → Int) (ρ1 : Nat → Orc) (ρ2 : Nat → Orc) (w0 : World) (F : World → Prop) : Reg Try.prog 3 (regOps Try.f36 3) false 71 [(2, (pt (nb ρ1 0))), (3, (pt (nb ρ1 1))), (4, (pt (nb ρ1 2))), (5, (pt (nb ρ1 3))), (6, (pt (nb ρ2 0))), (15, (.int .i64 ((i : Nat) : Int)))] w0 [(nb ρ1 0, (.cells (cU a) 24 (0, 0))), (nb ρ1 1, (.cells (cU b) 24 (0, 0))), (nb ρ1 2, (.cells (cU 0) 24 (0, 0))), (nb ρ1 3, (.cells (cU 0) 24 (0, 0))), (nb ρ2 0, (.cells (c8 f) 60 (0, 0)))] F
    (fun _ => [(2, (pt (nb ρ1 0))), (3, (pt (nb ρ1 1))), (4, (pt (nb ρ1 2))), (5, (pt (nb ρ1 3))), (6, (pt (nb ρ2 0))), (15, (.int .i64 ((i : Nat) : Int))), (16, (.bool (decide (((i : Nat) : Int) < 4))))])
    (fun _ => [(nb ρ1 0, (.cells (cU a) 24 (0, 0))), (nb ρ1 1, (.cells (cU b) 24 (0, 0))), (nb ρ1 2, (.cells (cU 0) 24 (0, 0))), (nb ρ1 3, (.cells (cU 0) 24 (0, 0))), (nb ρ2 0, (.cells (c8 f) 60 (0, 0)))]) := by
  refine reg_seq [0] [2, 3, 4, 5, 6, 15, 16] 1
    (fun _ ι => ([(.bool (decide (((i : Nat) : Int) < 4)))] : List Value).getD ι undef)
    (fun _ ι => ([{}] : List Eff).getD ι {})
    (by kernel_rfl) (by kernel_rfl) (fun _ => by kernel_rfl) (fun _ => by kernel_rfl) ⟨trivial, ?_⟩
  · exact o_run 0 [] [] (fun _ _ => []) (fun _ _ => by kernel_rfl)
theorem rmul_w_r5 (a : Nat) (b : Nat) (i : Nat) (f : Nat → Int) (ρ1 : Nat → Orc) (ρ2 : Nat → Orc) (w0 : World) (F : World → Prop) : Reg Try.prog 4 (regOps Try.f36 4) false 71 [(2, (pt (nb ρ1 0))), (3, (pt (nb ρ1 1))), (4, (pt (nb ρ1 2))), (5, (pt (nb ρ1 3))), (6, (pt (nb ρ2 0))), (15, (.int .i64 ((i : Nat) : Int))), (16, (.bool true))] w0 [(nb ρ1 0, (.cells (cU a) 24 (0, 0))), (nb ρ1 1, (.cells (cU b) 24 (0, 0))), (nb ρ1 2, (.cells (cU 0) 24 (0, 0))), (nb ρ1 3, (.cells (cU 0) 24 (0, 0))), (nb ρ2 0, (.cells (c8 f) 60 (0, 0)))] F
    (fun _ => [(2, (pt (nb ρ1 0))), (3, (pt (nb ρ1 1))), (4, (pt (nb ρ1 2))), (5, (pt (nb ρ1 3))), (6, (pt (nb ρ2 0))), (7, (.int .i64 ((i : Nat) : Int))), (15, (.int .i64 ((i : Nat) : Int)))])
    (fun _ => [(nb ρ1 0, (.cells (cU a) 24 (0, 0))), (nb ρ1 1, (.cells (cU b) 24 (0, 0))), (nb ρ1 2, (.cells (cU 0) 24 (0, 0))), (nb ρ1 3, (.cells (cU 0) 24 (0, 0))), (nb ρ2 0, (.cells (c8 f) 60 (0, 0)))]) := by
  refine reg_seq [0, 1] [2, 3, 4, 5, 6, 7, 15] 2
    (fun _ ι => ([(.int .i64 ((i : Nat) : Int)), (.int .i64 ((i : Nat) : Int))] : List Value).getD ι undef)
    (fun _ ι => ([{}, {}] : List Eff).getD ι {})
    (by kernel_rfl) (by kernel_rfl) (fun _ => by kernel_rfl) (fun _ => by kernel_rfl) ⟨⟨trivial, ?_⟩, ?_⟩
  · exact o_run 0 [] [] (fun _ _ => []) (fun _ _ => by kernel_rfl)
  · exact o_run 1 [] [] (fun _ _ => []) (fun _ _ => by kernel_rfl)
theorem rmul_w_r6 (a : Nat) (b : Nat) (i : Nat) (f : Nat → Int) (ρ1 : Nat → Orc) (ρ2 : Nat → Orc) (w0 : World) (F : World → Prop) : Reg Try.prog 5 (regOps Try.f36 5) false 71 [(2, (pt (nb ρ1 0))), (3, (pt (nb ρ1 1))), (4, (pt (nb ρ1 2))), (5, (pt (nb ρ1 3))), (6, (pt (nb ρ2 0))), (7, (.int .i64 ((i : Nat) : Int))), (15, (.int .i64 ((i : Nat) : Int)))] w0 [(nb ρ1 0, (.cells (cU a) 24 (0, 0))), (nb ρ1 1, (.cells (cU b) 24 (0, 0))), (nb ρ1 2, (.cells (cU 0) 24 (0, 0))), (nb ρ1 3, (.cells (cU 0) 24 (0, 0))), (nb ρ2 0, (.cells (c8 f) 60 (0, 0)))] F
    (fun _ => [(2, (pt (nb ρ1 0))), (3, (pt (nb ρ1 1))), (4, (pt (nb ρ1 2))), (5, (pt (nb ρ1 3))), (6, (pt (nb ρ2 0))), (7, (.int .i64 ((i : Nat) : Int))), (8, (.int .u64 0)), (15, (.int .i64 ((i : Nat) : Int)))])
    (fun _ => [(nb ρ1 0, (.cells (cU a) 24 (0, 0))), (nb ρ1 1, (.cells (cU b) 24 (0, 0))), (nb ρ1 2, (.cells (cU 0) 24 (0, 0))), (nb ρ1 3, (.cells (cU 0) 24 (0, 0))), (nb ρ2 0, (.cells (c8 f) 60 (0, 0)))]) := by
  refine reg_seq [0] [2, 3, 4, 5, 6, 7, 8, 15] 1
    (fun _ ι => ([(.int .u64 0)] : List Value).getD ι undef)
    (fun _ ι => ([{}] : List Eff).getD ι {})
    (by kernel_rfl) (by kernel_rfl) (fun _ => by kernel_rfl) (fun _ => by kernel_rfl) ⟨trivial, ?_⟩
  · exact o_run 0 [] [] (fun _ _ => []) (fun _ _ => by kernel_rfl)
theorem rmul_w_r7 (a : Nat) (b : Nat) (i : Nat) (f : Nat → Int) (ρ1 : Nat → Orc) (ρ2 : Nat → Orc) (w0 : World) (F : World → Prop) : Reg Try.prog 6 (regOps Try.f36 6) false 71 [(2, (pt (nb ρ1 0))), (3, (pt (nb ρ1 1))), (4, (pt (nb ρ1 2))), (5, (pt (nb ρ1 3))), (6, (pt (nb ρ2 0))), (7, (.int .i64 ((i : Nat) : Int))), (8, (.int .u64 0)), (15, (.int .i64 ((i : Nat) : Int)))] w0 [(nb ρ1 0, (.cells (cU a) 24 (0, 0))), (nb ρ1 1, (.cells (cU b) 24 (0, 0))), (nb ρ1 2, (.cells (cU 0) 24 (0, 0))), (nb ρ1 3, (.cells (cU 0) 24 (0, 0))), (nb ρ2 0, (.cells (c8 f) 60 (0, 0)))] F
    (fun _ => [(2, (pt (nb ρ1 0))), (3, (pt (nb ρ1 1))), (4, (pt (nb ρ1 2))), (5, (pt (nb ρ1 3))), (6, (pt (nb ρ2 0))), (7, (.int .i64 ((i : Nat) : Int))), (8, (.int .u64 0)), (15, (.int .i64 ((i : Nat) : Int))), (18, (.int .i64 0))])
    (fun _ => [(nb ρ1 0, (.cells (cU a) 24 (0, 0))), (nb ρ1 1, (.cells (cU b) 24 (0, 0))), (nb ρ1 2, (.cells (cU 0) 24 (0, 0))), (nb ρ1 3, (.cells (cU 0) 24 (0, 0))), (nb ρ2 0, (.cells (c8 f) 60 (0, 0)))]) := by
  refine reg_seq [0] [2, 3, 4, 5, 6, 7, 8, 15, 18] 1
    (fun _ ι => ([(.int .i64 0)] : List Value).getD ι undef)
    (fun _ ι => ([{}] : List Eff).getD ι {})
    (by kernel_rfl) (by kernel_rfl) (fun _ => by kernel_rfl) (fun _ => by kernel_rfl) ⟨trivial, ?_⟩
  · exact o_run 0 [] [] (fun _ _ => []) (fun _ _ => by kernel_rfl)
theorem rmul_w_r8 (a : Nat) (b : Nat) (i : Nat) (j : Nat) (u : Nat → Int) (c : Int) (ρ1 : Nat → Orc) (ρ2 : Nat → Orc) (w0 : World) (F : World → Prop) : Reg Try.prog 7 (regOps Try.f36 7) false 71 [(2, (pt (nb ρ1 0))), (3, (pt (nb ρ1 1))), (4, (pt (nb ρ1 2))), (5, (pt (nb ρ1 3))), (6, (pt (nb ρ2 0))), (7, (.int .i64 ((i : Nat) : Int))), (8, (.int .u64 c)), (15, (.int .i64 ((i : Nat) : Int))), (18, (.int .i64 ((j : Nat) : Int)))] w0 [(nb ρ1 0, (.cells (cU a) 24 (0, 0))), (nb ρ1 1, (.cells (cU b) 24 (0, 0))), (nb ρ1 2, (.cells (cU 0) 24 (0, 0))), (nb ρ1 3, (.cells (cU 0) 24 (0, 0))), (nb ρ2 0, (.cells (c8 u) 60 (0, 0)))] F
    (fun _ => [(2, (pt (nb ρ1 0))), (3, (pt (nb ρ1 1))), (4, (pt (nb ρ1 2))), (5, (pt (nb ρ1 3))), (6, (pt (nb ρ2 0))), (7, (.int .i64 ((i : Nat) : Int))), (8, (.int .u64 c)), (15, (.int .i64 ((i : Nat) : Int))), (18, (.int .i64 ((j : Nat) : Int))), (19, (.bool (decide (((j : Nat) : Int) < 4))))])
    (fun _ => [(nb ρ1 0, (.cells (cU a) 24 (0, 0))), (nb ρ1 1, (.cells (cU b) 24 (0, 0))), (nb ρ1 2, (.cells (cU 0) 24 (0, 0))), (nb ρ1 3, (.cells (cU 0) 24 (0, 0))), (nb ρ2 0, (.cells (c8 u) 60 (0, 0)))]) := by
  refine reg_seq [0] [2, 3, 4, 5, 6, 7, 8, 15, 18, 19] 1
    (fun _ ι => ([(.bool (decide (((j : Nat) : Int) < 4)))] : List Value).getD ι undef)
    (fun _ ι => ([{}] : List Eff).getD ι {})
    (by kernel_rfl) (by kernel_rfl) (fun _ => by kernel_rfl) (fun _ => by kernel_rfl) ⟨trivial, ?_⟩
  · exact o_run 0 [] [] (fun _ _ => []) (fun _ _ => by kernel_rfl)
theorem rmul_w_r9 (a : Nat) (b : Nat) (i : Nat) (j : Nat) (u : Nat → Int) (c : Int) (ρ1 : Nat → Orc) (ρ2 : Nat → Orc) (w0 : World) (F : World → Prop) : Reg Try.prog 8 (regOps Try.f36 8) false 71 [(2, (pt (nb ρ1 0))), (3, (pt (nb ρ1 1))), (4, (pt (nb ρ1 2))), (5, (pt (nb ρ1 3))), (6, (pt (nb ρ2 0))), (7, (.int .i64 ((i : Nat) : Int))), (8, (.int .u64 c)), (15, (.int .i64 ((i : Nat) : Int))), (18, (.int .i64 ((j : Nat) : Int))), (19, (.bool true))] w0 [(nb ρ1 0, (.cells (cU a) 24 (0, 0))), (nb ρ1 1, (.cells (cU b) 24 (0, 0))), (nb ρ1 2, (.cells (cU 0) 24 (0, 0))), (nb ρ1 3, (.cells (cU 0) 24 (0, 0))), (nb ρ2 0, (.cells (c8 u) 60 (0, 0)))] F
    (fun _ => [(2, (pt (nb ρ1 0))), (3, (pt (nb ρ1 1))), (4, (pt (nb ρ1 2))), (5, (pt (nb ρ1 3))), (6, (pt (nb ρ2 0))), (7, (.int .i64 ((i : Nat) : Int))), (8, (.int .u64 c)), (9, (.int .i64 ((j : Nat) : Int))), (15, (.int .i64 ((i : Nat) : Int))), (18, (.int .i64 ((j : Nat) : Int)))])
    (fun _ => [(nb ρ1 0, (.cells (cU a) 24 (0, 0))), (nb ρ1 1, (.cells (cU b) 24 (0, 0))), (nb ρ1 2, (.cells (cU 0) 24 (0, 0))), (nb ρ1 3, (.cells (cU 0) 24 (0, 0))), (nb ρ2 0, (.cells (c8 u) 60 (0, 0)))]) := by
  refine reg_seq [0, 1] [2, 3, 4, 5, 6, 7, 8, 9, 15, 18] 2
    (fun _ ι => ([(.int .i64 ((j : Nat) : Int)), (.int .i64 ((j : Nat) : Int))] : List Value).getD ι undef)
    (fun _ ι => ([{}, {}] : List Eff).getD ι {})
    (by kernel_rfl) (by kernel_rfl) (fun _ => by kernel_rfl) (fun _ => by kernel_rfl) ⟨⟨trivial, ?_⟩, ?_⟩
  · exact o_run 0 [] [] (fun _ _ => []) (fun _ _ => by kernel_rfl)
  · exact o_run 1 [] [] (fun _ _ => []) (fun _ _ => by kernel_rfl)
theorem rmul_w_r10 (a : Nat) (b : Nat) (i : Nat) (hb1 : (decide (((i : Nat) : Int) < 4)) = true) (j : Nat) (u : Nat → Int) (c : Int) (hb2 : (decide (((j : Nat) : Int) < 4)) = true) (ρ1 : Nat → Orc) (ρ2 : Nat → Orc) (w0 : World) (F : World → Prop) : Reg Try.prog 9 (regOps Try.f36 9) true 71 [(2, (pt (nb ρ1 0))), (3, (pt (nb ρ1 1))), (4, (pt (nb ρ1 2))), (5, (pt (nb ρ1 3))), (6, (pt (nb ρ2 0))), (7, (.int .i64 ((i : Nat) : Int))), (8, (.int .u64 c)), (9, (.int .i64 ((j : Nat) : Int))), (15, (.int .i64 ((i : Nat) : Int))), (18, (.int .i64 ((j : Nat) : Int)))] w0 [(nb ρ1 0, (.cells (cU a) 24 (0, 0))), (nb ρ1 1, (.cells (cU b) 24 (0, 0))), (nb ρ1 2, (.cells (cU 0) 24 (0, 0))), (nb ρ1 3, (.cells (cU 0) 24 (0, 0))), (nb ρ2 0, (.cells (c8 u) 60 (0, 0)))] F
    (fun _ => [(2, (pt (nb ρ1 0))), (3, (pt (nb ρ1 1))), (4, (pt (nb ρ1 2))), (5, (pt (nb ρ1 3))), (6, (pt (nb ρ2 0))), (7, (.int .i64 ((i : Nat) : Int))), (8, (.int .u64 c)), (9, (.int .i64 ((j : Nat) : Int))), (10, (.int .u64 (mulHi (wd a i) (wd b j)))), (11, (.int .u64 (mulLo (wd a i) (wd b j)))), (15, (.int .i64 ((i : Nat) : Int))), (18, (.int .i64 ((j : Nat) : Int)))])
    (fun _ => [(nb ρ1 0, (.cells (cU a) 24 (0, 0))), (nb ρ1 1, (.cells (cU b) 24 (0, 0))), (nb ρ1 2, (.cells (cU 0) 24 (0, 0))), (nb ρ1 3, (.cells (cU 0) 24 (0, 0))), (nb ρ2 0, (.cells (c8 u) 60 (0, 0)))]) := by
  refine reg_drawn [0, 1, 3, 0, 8, 24, 63, 127, 255, 255, 511, 2047] [2, 3, 4, 5, 6, 7, 8, 9, 10, 11, 15, 18] 12
    (fun _ ι => ([(.int .i64 ((i : Nat) : Int)), (.pointer (some ⟨nb ρ1 0, i, none⟩)), (.int .u64 (wd a i)), (.int .i64 ((j : Nat) : Int)), (.pointer (some ⟨nb ρ1 1, j, none⟩)), (.int .u64 (wd b j)), (.tuple #[(.int .u64 (mulHi (wd a i) (wd b j))), (.int .u64 (mulLo (wd a i) (wd b j)))]), (.tuple #[(.int .u64 (mulHi (wd a i) (wd b j))), (.int .u64 (mulLo (wd a i) (wd b j)))]), (.int .u64 (mulHi (wd a i) (wd b j))), (.int .u64 (mulLo (wd a i) (wd b j))), (.int .u64 (mulHi (wd a i) (wd b j))), (.int .u64 (mulLo (wd a i) (wd b j)))] : List Value).getD ι undef)
    (fun _ ι => ([{}, {}, {}, {}, {}, {}, {}, {}, {}, {}, {}, {}] : List Eff).getD ι {})
    (by kernel_rfl) (by kernel_rfl) (by kernel_rfl) (fun _ => by kernel_rfl) (fun _ => by kernel_rfl) ⟨⟨⟨⟨⟨⟨⟨⟨⟨⟨⟨⟨trivial, ?_⟩, ?_⟩, ?_⟩, ?_⟩, ?_⟩, ?_⟩, ?_⟩, ?_⟩, ?_⟩, ?_⟩, ?_⟩, ?_⟩
  · exact o_run 0 [] [] (fun _ _ => []) (fun _ _ => by kernel_rfl)
  · exact o_sem 1 (fun _ => do pure (Next.value (← Instr.indexAt 24 (pt (nb ρ1 0)) (.int .i64 ((i : Nat) : Int))))) (fun _ => (.pointer (some ⟨nb ρ1 0, i, none⟩))) (fun _ => by kernel_rfl) (fun _ => by kernel_rfl) (fun _ w => run_idx_nat (n := ((i : Nat) : Int)) (i := i) Try.underlying24 Try.sizeOf22 (⟨rfl, by have := of_decide_eq_true hb1; omega⟩) w)
  · exact o_ld 2 0 22 (fun _ => nb ρ1 0) (fun _ => i) (fun _ => (cU a)) 24 (0, 0) (fun _ => (.int .u64 (wd a i))) (fun _ => by kernel_rfl) Try.isAgg22 (fun _ => cU_get a i (by have := of_decide_eq_true hb1; omega))
  · exact o_run 3 [] [] (fun _ _ => []) (fun _ _ => by kernel_rfl)
  · exact o_sem 4 (fun _ => do pure (Next.value (← Instr.indexAt 24 (pt (nb ρ1 1)) (.int .i64 ((j : Nat) : Int))))) (fun _ => (.pointer (some ⟨nb ρ1 1, j, none⟩))) (fun _ => by kernel_rfl) (fun _ => by kernel_rfl) (fun _ w => run_idx_nat (n := ((j : Nat) : Int)) (i := j) Try.underlying24 Try.sizeOf22 (⟨rfl, by have := of_decide_eq_true hb2; omega⟩) w)
  · exact o_ld 5 1 22 (fun _ => nb ρ1 1) (fun _ => j) (fun _ => (cU b)) 24 (0, 0) (fun _ => (.int .u64 (wd b j))) (fun _ => by kernel_rfl) Try.isAgg22 (fun _ => cU_get b j (by have := of_decide_eq_true hb2; omega))
  · exact o_call 6 56 (fun _ => #[(.int .u64 (wd a i)), (.int .u64 (wd b j))]) (fun _ => (.tuple #[(.int .u64 (mulHi (wd a i) (wd b j))), (.int .u64 (mulLo (wd a i) (wd b j)))])) (fun _ _ => by kernel_rfl) (fun _ w => (fun w => mul64_any (wd a i) (wd b j) (wd_word a i) (wd_word b j) w) w)
  · exact o_run 7 [] [] (fun _ _ => []) (fun _ _ => by kernel_rfl)
  · exact o_run 8 [] [] (fun _ _ => []) (fun _ _ => by kernel_rfl)
  · exact o_run 9 [] [] (fun _ _ => []) (fun _ _ => by kernel_rfl)
  · exact o_run 10 [] [] (fun _ _ => []) (fun _ _ => by kernel_rfl)
  · exact o_run 11 [] [] (fun _ _ => []) (fun _ _ => by kernel_rfl)
theorem rmul_w_r11 (a : Nat) (b : Nat) (i : Nat) (hb1 : (decide (((i : Nat) : Int) < 4)) = true) (j : Nat) (u : Nat → Int) (c : Int) (hM : MulI a b i j u c) (hb2 : (decide (((j : Nat) : Int) < 4)) = true) (ρ1 : Nat → Orc) (ρ2 : Nat → Orc) (w0 : World) (F : World → Prop) : Reg Try.prog 10 (regOps Try.f36 10) false 71 [(2, (pt (nb ρ1 0))), (3, (pt (nb ρ1 1))), (4, (pt (nb ρ1 2))), (5, (pt (nb ρ1 3))), (6, (pt (nb ρ2 0))), (7, (.int .i64 ((i : Nat) : Int))), (8, (.int .u64 c)), (9, (.int .i64 ((j : Nat) : Int))), (10, (.int .u64 (mulHi (wd a i) (wd b j)))), (11, (.int .u64 (mulLo (wd a i) (wd b j)))), (15, (.int .i64 ((i : Nat) : Int))), (18, (.int .i64 ((j : Nat) : Int)))] w0 [(nb ρ1 0, (.cells (cU a) 24 (0, 0))), (nb ρ1 1, (.cells (cU b) 24 (0, 0))), (nb ρ1 2, (.cells (cU 0) 24 (0, 0))), (nb ρ1 3, (.cells (cU 0) 24 (0, 0))), (nb ρ2 0, (.cells (c8 u) 60 (0, 0)))] F
    (fun _ => [(2, (pt (nb ρ1 0))), (3, (pt (nb ρ1 1))), (4, (pt (nb ρ1 2))), (5, (pt (nb ρ1 3))), (6, (pt (nb ρ2 0))), (7, (.int .i64 ((i : Nat) : Int))), (8, (.int .u64 c)), (9, (.int .i64 ((j : Nat) : Int))), (10, (.int .u64 (mulHi (wd a i) (wd b j)))), (12, (.int .u64 (addLo (u (i + j)) (mulLo (wd a i) (wd b j)) 0))), (13, (.int .u64 (addHi (u (i + j)) (mulLo (wd a i) (wd b j)) 0))), (15, (.int .i64 ((i : Nat) : Int))), (18, (.int .i64 ((j : Nat) : Int)))])
    (fun _ => [(nb ρ1 0, (.cells (cU a) 24 (0, 0))), (nb ρ1 1, (.cells (cU b) 24 (0, 0))), (nb ρ1 2, (.cells (cU 0) 24 (0, 0))), (nb ρ1 3, (.cells (cU 0) 24 (0, 0))), (nb ρ2 0, (.cells (c8 u) 60 (0, 0)))]) := by
  refine reg_seq [0, 1, 3, 7, 15, 31, 63, 127, 255, 511, 1023, 2047] [2, 3, 4, 5, 6, 7, 8, 9, 10, 12, 13, 15, 18] 12
    (fun _ ι => ([(.int .i64 ((i : Nat) : Int)), (.int .i64 ((j : Nat) : Int)), (.int .i64 ((i + j : Nat) : Int)), (.pointer (some ⟨nb ρ2 0, i + j, none⟩)), (.int .u64 (u (i + j))), (.int .u64 (mulLo (wd a i) (wd b j))), (.tuple #[(.int .u64 (addLo (u (i + j)) (mulLo (wd a i) (wd b j)) 0)), (.int .u64 (addHi (u (i + j)) (mulLo (wd a i) (wd b j)) 0))]), (.tuple #[(.int .u64 (addLo (u (i + j)) (mulLo (wd a i) (wd b j)) 0)), (.int .u64 (addHi (u (i + j)) (mulLo (wd a i) (wd b j)) 0))]), (.int .u64 (addLo (u (i + j)) (mulLo (wd a i) (wd b j)) 0)), (.int .u64 (addHi (u (i + j)) (mulLo (wd a i) (wd b j)) 0)), (.int .u64 (addLo (u (i + j)) (mulLo (wd a i) (wd b j)) 0)), (.int .u64 (addHi (u (i + j)) (mulLo (wd a i) (wd b j)) 0))] : List Value).getD ι undef)
    (fun _ ι => ([{}, {}, {}, {}, {}, {}, {}, {}, {}, {}, {}, {}] : List Eff).getD ι {})
    (by kernel_rfl) (by kernel_rfl) (fun _ => by kernel_rfl) (fun _ => by kernel_rfl) ⟨⟨⟨⟨⟨⟨⟨⟨⟨⟨⟨⟨trivial, ?_⟩, ?_⟩, ?_⟩, ?_⟩, ?_⟩, ?_⟩, ?_⟩, ?_⟩, ?_⟩, ?_⟩, ?_⟩, ?_⟩
  · exact o_run 0 [] [] (fun _ _ => []) (fun _ _ => by kernel_rfl)
  · exact o_run 1 [] [] (fun _ _ => []) (fun _ _ => by kernel_rfl)
  · exact o_as 2 (fun _ => (.int .i64 (IntKind.i64.wrap (((i : Nat) : Int) + ((j : Nat) : Int))))) (fun _ => (.int .i64 ((i + j : Nat) : Int))) (fun _ _ => by kernel_rfl) (fun _ => congrArg (Value.int .i64) (wrap_add_nat i j (by have := of_decide_eq_true hb1; have := of_decide_eq_true hb2; omega)))
  · exact o_sem 3 (fun _ => do pure (Next.value (← Instr.indexAt 60 (pt (nb ρ2 0)) (.int .i64 ((i + j : Nat) : Int))))) (fun _ => (.pointer (some ⟨nb ρ2 0, i + j, none⟩))) (fun _ => by kernel_rfl) (fun _ => by kernel_rfl) (fun _ w => run_idx_nat (n := ((i + j : Nat) : Int)) (i := i + j) Try.underlying60 Try.sizeOf22 (⟨rfl, by have := of_decide_eq_true hb1; have := of_decide_eq_true hb2; omega⟩) w)
  · exact o_ld 4 4 22 (fun _ => nb ρ2 0) (fun _ => i + j) (fun _ => (c8 u)) 60 (0, 0) (fun _ => (.int .u64 (u (i + j)))) (fun _ => by kernel_rfl) Try.isAgg22 (fun _ => c8_get u (i + j) (by have := of_decide_eq_true hb1; have := of_decide_eq_true hb2; omega))
  · exact o_run 5 [] [] (fun _ _ => []) (fun _ _ => by kernel_rfl)
  · exact o_sem 6 (fun _ => callFunc 55 #[(.int .u64 (u (i + j))), (.int .u64 (mulLo (wd a i) (wd b j))), (.int .u64 0)]) (fun _ => (.tuple #[(.int .u64 (addLo (u (i + j)) (mulLo (wd a i) (wd b j)) 0)), (.int .u64 (addHi (u (i + j)) (mulLo (wd a i) (wd b j)) 0))])) (fun _ => by kernel_rfl) (fun _ => by kernel_rfl) (fun _ w => (add64 (u (i + j)) (mulLo (wd a i) (wd b j)) 0 (hM.word _) (word_mulLo _ _) bit_zero) w)
  · exact o_run 7 [] [] (fun _ _ => []) (fun _ _ => by kernel_rfl)
  · exact o_run 8 [] [] (fun _ _ => []) (fun _ _ => by kernel_rfl)
  · exact o_run 9 [] [] (fun _ _ => []) (fun _ _ => by kernel_rfl)
  · exact o_run 10 [] [] (fun _ _ => []) (fun _ _ => by kernel_rfl)
  · exact o_run 11 [] [] (fun _ _ => []) (fun _ _ => by kernel_rfl)
theorem rmul_w_r12 (a : Nat) (b : Nat) (i : Nat) (j : Nat) (u : Nat → Int) (c : Int) (hM : MulI a b i j u c) (ρ1 : Nat → Orc) (ρ2 : Nat → Orc) (w0 : World) (F : World → Prop) : Reg Try.prog 11 (regOps Try.f36 11) false 71 [(2, (pt (nb ρ1 0))), (3, (pt (nb ρ1 1))), (4, (pt (nb ρ1 2))), (5, (pt (nb ρ1 3))), (6, (pt (nb ρ2 0))), (7, (.int .i64 ((i : Nat) : Int))), (8, (.int .u64 c)), (9, (.int .i64 ((j : Nat) : Int))), (10, (.int .u64 (mulHi (wd a i) (wd b j)))), (12, (.int .u64 (addLo (u (i + j)) (mulLo (wd a i) (wd b j)) 0))), (13, (.int .u64 (addHi (u (i + j)) (mulLo (wd a i) (wd b j)) 0))), (15, (.int .i64 ((i : Nat) : Int))), (18, (.int .i64 ((j : Nat) : Int)))] w0 [(nb ρ1 0, (.cells (cU a) 24 (0, 0))), (nb ρ1 1, (.cells (cU b) 24 (0, 0))), (nb ρ1 2, (.cells (cU 0) 24 (0, 0))), (nb ρ1 3, (.cells (cU 0) 24 (0, 0))), (nb ρ2 0, (.cells (c8 u) 60 (0, 0)))] F
    (fun _ => [(2, (pt (nb ρ1 0))), (3, (pt (nb ρ1 1))), (4, (pt (nb ρ1 2))), (5, (pt (nb ρ1 3))), (6, (pt (nb ρ2 0))), (7, (.int .i64 ((i : Nat) : Int))), (8, (.int .u64 c)), (9, (.int .i64 ((j : Nat) : Int))), (10, (.int .u64 (mulHi (wd a i) (wd b j)))), (12, (.int .u64 (addLo (addLo (u (i + j)) (mulLo (wd a i) (wd b j)) 0) c 0))), (13, (.int .u64 (addHi (u (i + j)) (mulLo (wd a i) (wd b j)) 0))), (14, (.int .u64 (addHi (addLo (u (i + j)) (mulLo (wd a i) (wd b j)) 0) c 0))), (15, (.int .i64 ((i : Nat) : Int))), (18, (.int .i64 ((j : Nat) : Int)))])
    (fun _ => [(nb ρ1 0, (.cells (cU a) 24 (0, 0))), (nb ρ1 1, (.cells (cU b) 24 (0, 0))), (nb ρ1 2, (.cells (cU 0) 24 (0, 0))), (nb ρ1 3, (.cells (cU 0) 24 (0, 0))), (nb ρ2 0, (.cells (c8 u) 60 (0, 0)))]) := by
  refine reg_seq [0, 1, 3, 7, 15, 31, 63, 127] [2, 3, 4, 5, 6, 7, 8, 9, 10, 12, 13, 14, 15, 18] 8
    (fun _ ι => ([(.int .u64 (addLo (u (i + j)) (mulLo (wd a i) (wd b j)) 0)), (.int .u64 c), (.tuple #[(.int .u64 (addLo (addLo (u (i + j)) (mulLo (wd a i) (wd b j)) 0) c 0)), (.int .u64 (addHi (addLo (u (i + j)) (mulLo (wd a i) (wd b j)) 0) c 0))]), (.tuple #[(.int .u64 (addLo (addLo (u (i + j)) (mulLo (wd a i) (wd b j)) 0) c 0)), (.int .u64 (addHi (addLo (u (i + j)) (mulLo (wd a i) (wd b j)) 0) c 0))]), (.int .u64 (addLo (addLo (u (i + j)) (mulLo (wd a i) (wd b j)) 0) c 0)), (.int .u64 (addHi (addLo (u (i + j)) (mulLo (wd a i) (wd b j)) 0) c 0)), (.int .u64 (addLo (addLo (u (i + j)) (mulLo (wd a i) (wd b j)) 0) c 0)), (.int .u64 (addHi (addLo (u (i + j)) (mulLo (wd a i) (wd b j)) 0) c 0))] : List Value).getD ι undef)
    (fun _ ι => ([{}, {}, {}, {}, {}, {}, {}, {}] : List Eff).getD ι {})
    (by kernel_rfl) (by kernel_rfl) (fun _ => by kernel_rfl) (fun _ => by kernel_rfl) ⟨⟨⟨⟨⟨⟨⟨⟨trivial, ?_⟩, ?_⟩, ?_⟩, ?_⟩, ?_⟩, ?_⟩, ?_⟩, ?_⟩
  · exact o_run 0 [] [] (fun _ _ => []) (fun _ _ => by kernel_rfl)
  · exact o_run 1 [] [] (fun _ _ => []) (fun _ _ => by kernel_rfl)
  · exact o_sem 2 (fun _ => callFunc 55 #[(.int .u64 (addLo (u (i + j)) (mulLo (wd a i) (wd b j)) 0)), (.int .u64 c), (.int .u64 0)]) (fun _ => (.tuple #[(.int .u64 (addLo (addLo (u (i + j)) (mulLo (wd a i) (wd b j)) 0) c 0)), (.int .u64 (addHi (addLo (u (i + j)) (mulLo (wd a i) (wd b j)) 0) c 0))])) (fun _ => by kernel_rfl) (fun _ => by kernel_rfl) (fun _ w => (add64 (addLo (u (i + j)) (mulLo (wd a i) (wd b j)) 0) c 0 (word_addLo _ _ _) hM.car bit_zero) w)
  · exact o_run 3 [] [] (fun _ _ => []) (fun _ _ => by kernel_rfl)
  · exact o_run 4 [] [] (fun _ _ => []) (fun _ _ => by kernel_rfl)
  · exact o_run 5 [] [] (fun _ _ => []) (fun _ _ => by kernel_rfl)
  · exact o_run 6 [] [] (fun _ _ => []) (fun _ _ => by kernel_rfl)
  · exact o_run 7 [] [] (fun _ _ => []) (fun _ _ => by kernel_rfl)
theorem rmul_w_r13 (a : Nat) (b : Nat) (i : Nat) (hb1 : (decide (((i : Nat) : Int) < 4)) = true) (j : Nat) (u : Nat → Int) (c : Int) (hb2 : (decide (((j : Nat) : Int) < 4)) = true) (ρ1 : Nat → Orc) (ρ2 : Nat → Orc) (w0 : World) (F : World → Prop) : Reg Try.prog 12 (regOps Try.f36 12) false 71 [(2, (pt (nb ρ1 0))), (3, (pt (nb ρ1 1))), (4, (pt (nb ρ1 2))), (5, (pt (nb ρ1 3))), (6, (pt (nb ρ2 0))), (7, (.int .i64 ((i : Nat) : Int))), (8, (.int .u64 c)), (9, (.int .i64 ((j : Nat) : Int))), (10, (.int .u64 (mulHi (wd a i) (wd b j)))), (12, (.int .u64 (addLo (addLo (u (i + j)) (mulLo (wd a i) (wd b j)) 0) c 0))), (13, (.int .u64 (addHi (u (i + j)) (mulLo (wd a i) (wd b j)) 0))), (14, (.int .u64 (addHi (addLo (u (i + j)) (mulLo (wd a i) (wd b j)) 0) c 0))), (15, (.int .i64 ((i : Nat) : Int))), (18, (.int .i64 ((j : Nat) : Int)))] w0 [(nb ρ1 0, (.cells (cU a) 24 (0, 0))), (nb ρ1 1, (.cells (cU b) 24 (0, 0))), (nb ρ1 2, (.cells (cU 0) 24 (0, 0))), (nb ρ1 3, (.cells (cU 0) 24 (0, 0))), (nb ρ2 0, (.cells (c8 u) 60 (0, 0)))] F
    (fun _ => [(2, (pt (nb ρ1 0))), (3, (pt (nb ρ1 1))), (4, (pt (nb ρ1 2))), (5, (pt (nb ρ1 3))), (6, (pt (nb ρ2 0))), (7, (.int .i64 ((i : Nat) : Int))), (8, (.int .u64 (IntKind.u64.wrap ((IntKind.u64.wrap ((mulHi (wd a i) (wd b j)) + (addHi (u (i + j)) (mulLo (wd a i) (wd b j)) 0))) + (addHi (addLo (u (i + j)) (mulLo (wd a i) (wd b j)) 0) c 0))))), (15, (.int .i64 ((i : Nat) : Int))), (18, (.int .i64 ((j : Nat) : Int)))])
    (fun _ => [(nb ρ1 0, (.cells (cU a) 24 (0, 0))), (nb ρ1 1, (.cells (cU b) 24 (0, 0))), (nb ρ1 2, (.cells (cU 0) 24 (0, 0))), (nb ρ1 3, (.cells (cU 0) 24 (0, 0))), (nb ρ2 0, (.cells (c8 (updf u (i + j) (addLo (addLo (u (i + j)) (mulLo (wd a i) (wd b j)) 0) c 0))) 60 (0, 0)))]) := by
  refine reg_seq [0, 1, 3, 7, 15, 31, 63, 127, 255, 511, 1023, 2047] [2, 3, 4, 5, 6, 7, 8, 15, 18] 12
    (fun _ ι => ([(.int .i64 ((i : Nat) : Int)), (.int .i64 ((j : Nat) : Int)), (.int .i64 ((i + j : Nat) : Int)), (.int .u64 (addLo (addLo (u (i + j)) (mulLo (wd a i) (wd b j)) 0) c 0)), (.int .u64 (mulHi (wd a i) (wd b j))), (.int .u64 (addHi (u (i + j)) (mulLo (wd a i) (wd b j)) 0)), (.int .u64 (IntKind.u64.wrap ((mulHi (wd a i) (wd b j)) + (addHi (u (i + j)) (mulLo (wd a i) (wd b j)) 0)))), (.int .u64 (addHi (addLo (u (i + j)) (mulLo (wd a i) (wd b j)) 0) c 0)), (.int .u64 (IntKind.u64.wrap ((IntKind.u64.wrap ((mulHi (wd a i) (wd b j)) + (addHi (u (i + j)) (mulLo (wd a i) (wd b j)) 0))) + (addHi (addLo (u (i + j)) (mulLo (wd a i) (wd b j)) 0) c 0)))), (.pointer (some ⟨nb ρ2 0, i + j, none⟩)), undef, (.int .u64 (IntKind.u64.wrap ((IntKind.u64.wrap ((mulHi (wd a i) (wd b j)) + (addHi (u (i + j)) (mulLo (wd a i) (wd b j)) 0))) + (addHi (addLo (u (i + j)) (mulLo (wd a i) (wd b j)) 0) c 0))))] : List Value).getD ι undef)
    (fun _ ι => ([{}, {}, {}, {}, {}, {}, {}, {}, {}, {}, { puts := [(4, (.cells (c8 (updf u (i + j) (addLo (addLo (u (i + j)) (mulLo (wd a i) (wd b j)) 0) c 0))) 60 (0, 0)))] }, {}] : List Eff).getD ι {})
    (by kernel_rfl) (by kernel_rfl) (fun _ => by kernel_rfl) (fun _ => by kernel_rfl) ⟨⟨⟨⟨⟨⟨⟨⟨⟨⟨⟨⟨trivial, ?_⟩, ?_⟩, ?_⟩, ?_⟩, ?_⟩, ?_⟩, ?_⟩, ?_⟩, ?_⟩, ?_⟩, ?_⟩, ?_⟩
  · exact o_run 0 [] [] (fun _ _ => []) (fun _ _ => by kernel_rfl)
  · exact o_run 1 [] [] (fun _ _ => []) (fun _ _ => by kernel_rfl)
  · exact o_as 2 (fun _ => (.int .i64 (IntKind.i64.wrap (((i : Nat) : Int) + ((j : Nat) : Int))))) (fun _ => (.int .i64 ((i + j : Nat) : Int))) (fun _ _ => by kernel_rfl) (fun _ => congrArg (Value.int .i64) (wrap_add_nat i j (by have := of_decide_eq_true hb1; have := of_decide_eq_true hb2; omega)))
  · exact o_run 3 [] [] (fun _ _ => []) (fun _ _ => by kernel_rfl)
  · exact o_run 4 [] [] (fun _ _ => []) (fun _ _ => by kernel_rfl)
  · exact o_run 5 [] [] (fun _ _ => []) (fun _ _ => by kernel_rfl)
  · exact o_run 6 [] [] (fun _ _ => []) (fun _ _ => by kernel_rfl)
  · exact o_run 7 [] [] (fun _ _ => []) (fun _ _ => by kernel_rfl)
  · exact o_run 8 [] [] (fun _ _ => []) (fun _ _ => by kernel_rfl)
  · exact o_sem 9 (fun _ => do pure (Next.value (← Instr.indexAt 60 (pt (nb ρ2 0)) (.int .i64 ((i + j : Nat) : Int))))) (fun _ => (.pointer (some ⟨nb ρ2 0, i + j, none⟩))) (fun _ => by kernel_rfl) (fun _ => by kernel_rfl) (fun _ w => run_idx_nat (n := ((i + j : Nat) : Int)) (i := i + j) Try.underlying60 Try.sizeOf22 (⟨rfl, by have := of_decide_eq_true hb1; have := of_decide_eq_true hb2; omega⟩) w)
  · exact o_st 10 4 22 (fun _ => nb ρ2 0) (fun _ => i + j) (fun _ => (c8 u)) (fun _ => (c8 (updf u (i + j) (addLo (addLo (u (i + j)) (mulLo (wd a i) (wd b j)) 0) c 0)))) 60 (fun _ => (.int .u64 (addLo (addLo (u (i + j)) (mulLo (wd a i) (wd b j)) 0) c 0))) (fun _ => by kernel_rfl) Try.sizeOf22 (fun _ => rfl) (fun _ => (show _ < 8 from (by have := of_decide_eq_true hb1; have := of_decide_eq_true hb2; omega))) (fun _ => c8_set u (i + j) (addLo (addLo (u (i + j)) (mulLo (wd a i) (wd b j)) 0) c 0) (by have := of_decide_eq_true hb1; have := of_decide_eq_true hb2; omega))
  · exact o_run 11 [] [] (fun _ _ => []) (fun _ _ => by kernel_rfl)
theorem rmul_w_r14 (a : Nat) (b : Nat) (i : Nat) (hb1 : (decide (((i : Nat) : Int) < 4)) = true) (j : Nat) (u : Nat → Int) (c : Int) (hb2 : (decide (((j : Nat) : Int) < 4)) = true) (ρ1 : Nat → Orc) (ρ2 : Nat → Orc) (w0 : World) (F : World → Prop) : Reg Try.prog 13 (regOps Try.f36 13) false 71 [(2, (pt (nb ρ1 0))), (3, (pt (nb ρ1 1))), (4, (pt (nb ρ1 2))), (5, (pt (nb ρ1 3))), (6, (pt (nb ρ2 0))), (7, (.int .i64 ((i : Nat) : Int))), (8, (.int .u64 (IntKind.u64.wrap ((IntKind.u64.wrap ((mulHi (wd a i) (wd b j)) + (addHi (u (i + j)) (mulLo (wd a i) (wd b j)) 0))) + (addHi (addLo (u (i + j)) (mulLo (wd a i) (wd b j)) 0) c 0))))), (15, (.int .i64 ((i : Nat) : Int))), (18, (.int .i64 ((j : Nat) : Int)))] w0 [(nb ρ1 0, (.cells (cU a) 24 (0, 0))), (nb ρ1 1, (.cells (cU b) 24 (0, 0))), (nb ρ1 2, (.cells (cU 0) 24 (0, 0))), (nb ρ1 3, (.cells (cU 0) 24 (0, 0))), (nb ρ2 0, (.cells (c8 (updf u (i + j) (addLo (addLo (u (i + j)) (mulLo (wd a i) (wd b j)) 0) c 0))) 60 (0, 0)))] F
    (fun _ => [(2, (pt (nb ρ1 0))), (3, (pt (nb ρ1 1))), (4, (pt (nb ρ1 2))), (5, (pt (nb ρ1 3))), (6, (pt (nb ρ2 0))), (7, (.int .i64 ((i : Nat) : Int))), (8, (.int .u64 (IntKind.u64.wrap ((IntKind.u64.wrap ((mulHi (wd a i) (wd b j)) + (addHi (u (i + j)) (mulLo (wd a i) (wd b j)) 0))) + (addHi (addLo (u (i + j)) (mulLo (wd a i) (wd b j)) 0) c 0))))), (15, (.int .i64 ((i : Nat) : Int))), (18, (.int .i64 ((j + 1 : Nat) : Int)))])
    (fun _ => [(nb ρ1 0, (.cells (cU a) 24 (0, 0))), (nb ρ1 1, (.cells (cU b) 24 (0, 0))), (nb ρ1 2, (.cells (cU 0) 24 (0, 0))), (nb ρ1 3, (.cells (cU 0) 24 (0, 0))), (nb ρ2 0, (.cells (c8 (updf u (i + j) (addLo (addLo (u (i + j)) (mulLo (wd a i) (wd b j)) 0) c 0))) 60 (0, 0)))]) := by
  refine reg_seq [0, 1] [2, 3, 4, 5, 6, 7, 8, 15, 18] 2
    (fun _ ι => ([(.int .i64 ((j + 1 : Nat) : Int)), (.int .i64 ((j + 1 : Nat) : Int))] : List Value).getD ι undef)
    (fun _ ι => ([{}, {}] : List Eff).getD ι {})
    (by kernel_rfl) (by kernel_rfl) (fun _ => by kernel_rfl) (fun _ => by kernel_rfl) ⟨⟨trivial, ?_⟩, ?_⟩
  · exact o_as 0 (fun _ => (.int .i64 (IntKind.i64.wrap (((j : Nat) : Int) + 1)))) (fun _ => (.int .i64 ((j + 1 : Nat) : Int))) (fun _ _ => by kernel_rfl) (fun _ => congrArg (Value.int .i64) (wrap_add_nat j 1 (by have := of_decide_eq_true hb1; have := of_decide_eq_true hb2; omega)))
  · exact o_run 1 [] [] (fun _ _ => []) (fun _ _ => by kernel_rfl)
theorem rmul_w_r15 (a : Nat) (b : Nat) (i : Nat) (hb1 : (decide (((i : Nat) : Int) < 4)) = true) (j : Nat) (u : Nat → Int) (c : Int) (ρ1 : Nat → Orc) (ρ2 : Nat → Orc) (w0 : World) (F : World → Prop) : Reg Try.prog 14 (regOps Try.f36 14) false 71 [(2, (pt (nb ρ1 0))), (3, (pt (nb ρ1 1))), (4, (pt (nb ρ1 2))), (5, (pt (nb ρ1 3))), (6, (pt (nb ρ2 0))), (7, (.int .i64 ((i : Nat) : Int))), (8, (.int .u64 c)), (15, (.int .i64 ((i : Nat) : Int))), (18, (.int .i64 ((j : Nat) : Int))), (19, (.bool false))] w0 [(nb ρ1 0, (.cells (cU a) 24 (0, 0))), (nb ρ1 1, (.cells (cU b) 24 (0, 0))), (nb ρ1 2, (.cells (cU 0) 24 (0, 0))), (nb ρ1 3, (.cells (cU 0) 24 (0, 0))), (nb ρ2 0, (.cells (c8 u) 60 (0, 0)))] F
    (fun _ => [(2, (pt (nb ρ1 0))), (3, (pt (nb ρ1 1))), (4, (pt (nb ρ1 2))), (5, (pt (nb ρ1 3))), (6, (pt (nb ρ2 0))), (15, (.int .i64 ((i : Nat) : Int)))])
    (fun _ => [(nb ρ1 0, (.cells (cU a) 24 (0, 0))), (nb ρ1 1, (.cells (cU b) 24 (0, 0))), (nb ρ1 2, (.cells (cU 0) 24 (0, 0))), (nb ρ1 3, (.cells (cU 0) 24 (0, 0))), (nb ρ2 0, (.cells (c8 (updf u (i + 4) c)) 60 (0, 0)))]) := by
  refine reg_seq [0, 1, 3, 7, 15] [2, 3, 4, 5, 6, 15] 5
    (fun _ ι => ([(.int .i64 ((i : Nat) : Int)), (.int .i64 ((i + 4 : Nat) : Int)), (.int .u64 c), (.pointer (some ⟨nb ρ2 0, i + 4, none⟩)), undef] : List Value).getD ι undef)
    (fun _ ι => ([{}, {}, {}, {}, { puts := [(4, (.cells (c8 (updf u (i + 4) c)) 60 (0, 0)))] }] : List Eff).getD ι {})
    (by kernel_rfl) (by kernel_rfl) (fun _ => by kernel_rfl) (fun _ => by kernel_rfl) ⟨⟨⟨⟨⟨trivial, ?_⟩, ?_⟩, ?_⟩, ?_⟩, ?_⟩
  · exact o_run 0 [] [] (fun _ _ => []) (fun _ _ => by kernel_rfl)
  · exact o_as 1 (fun _ => (.int .i64 (IntKind.i64.wrap (((i : Nat) : Int) + 4)))) (fun _ => (.int .i64 ((i + 4 : Nat) : Int))) (fun _ _ => by kernel_rfl) (fun _ => congrArg (Value.int .i64) (wrap_add_nat i 4 (by have := of_decide_eq_true hb1; omega)))
  · exact o_run 2 [] [] (fun _ _ => []) (fun _ _ => by kernel_rfl)
  · exact o_sem 3 (fun _ => do pure (Next.value (← Instr.indexAt 60 (pt (nb ρ2 0)) (.int .i64 ((i + 4 : Nat) : Int))))) (fun _ => (.pointer (some ⟨nb ρ2 0, i + 4, none⟩))) (fun _ => by kernel_rfl) (fun _ => by kernel_rfl) (fun _ w => run_idx_nat (n := ((i + 4 : Nat) : Int)) (i := i + 4) Try.underlying60 Try.sizeOf22 (⟨rfl, by have := of_decide_eq_true hb1; omega⟩) w)
  · exact o_st 4 4 22 (fun _ => nb ρ2 0) (fun _ => i + 4) (fun _ => (c8 u)) (fun _ => (c8 (updf u (i + 4) c))) 60 (fun _ => (.int .u64 c)) (fun _ => by kernel_rfl) Try.sizeOf22 (fun _ => rfl) (fun _ => (show _ < 8 from (by have := of_decide_eq_true hb1; omega))) (fun _ => c8_set u (i + 4) c (by have := of_decide_eq_true hb1; omega))
theorem rmul_w_r16 (a : Nat) (b : Nat) (i : Nat) (hb1 : (decide (((i : Nat) : Int) < 4)) = true) (u : Nat → Int) (c : Int) (ρ1 : Nat → Orc) (ρ2 : Nat → Orc) (w0 : World) (F : World → Prop) : Reg Try.prog 15 (regOps Try.f36 15) false 71 [(2, (pt (nb ρ1 0))), (3, (pt (nb ρ1 1))), (4, (pt (nb ρ1 2))), (5, (pt (nb ρ1 3))), (6, (pt (nb ρ2 0))), (15, (.int .i64 ((i : Nat) : Int)))] w0 [(nb ρ1 0, (.cells (cU a) 24 (0, 0))), (nb ρ1 1, (.cells (cU b) 24 (0, 0))), (nb ρ1 2, (.cells (cU 0) 24 (0, 0))), (nb ρ1 3, (.cells (cU 0) 24 (0, 0))), (nb ρ2 0, (.cells (c8 (updf u (i + 4) c)) 60 (0, 0)))] F
    (fun _ => [(2, (pt (nb ρ1 0))), (3, (pt (nb ρ1 1))), (4, (pt (nb ρ1 2))), (5, (pt (nb ρ1 3))), (6, (pt (nb ρ2 0))), (15, (.int .i64 ((i + 1 : Nat) : Int)))])
    (fun _ => [(nb ρ1 0, (.cells (cU a) 24 (0, 0))), (nb ρ1 1, (.cells (cU b) 24 (0, 0))), (nb ρ1 2, (.cells (cU 0) 24 (0, 0))), (nb ρ1 3, (.cells (cU 0) 24 (0, 0))), (nb ρ2 0, (.cells (c8 (updf u (i + 4) c)) 60 (0, 0)))]) := by
  refine reg_seq [0, 1] [2, 3, 4, 5, 6, 15] 2
    (fun _ ι => ([(.int .i64 ((i + 1 : Nat) : Int)), (.int .i64 ((i + 1 : Nat) : Int))] : List Value).getD ι undef)
    (fun _ ι => ([{}, {}] : List Eff).getD ι {})
    (by kernel_rfl) (by kernel_rfl) (fun _ => by kernel_rfl) (fun _ => by kernel_rfl) ⟨⟨trivial, ?_⟩, ?_⟩
  · exact o_as 0 (fun _ => (.int .i64 (IntKind.i64.wrap (((i : Nat) : Int) + 1)))) (fun _ => (.int .i64 ((i + 1 : Nat) : Int))) (fun _ _ => by kernel_rfl) (fun _ => congrArg (Value.int .i64) (wrap_add_nat i 1 (by have := of_decide_eq_true hb1; omega)))
  · exact o_run 1 [] [] (fun _ _ => []) (fun _ _ => by kernel_rfl)
theorem rmul_w_r17 (a : Nat) (b : Nat) (i : Nat) (f : Nat → Int) (ρ1 : Nat → Orc) (ρ2 : Nat → Orc) (w0 : World) (F : World → Prop) : Reg Try.prog 16 (regOps Try.f36 16) true 71 [(2, (pt (nb ρ1 0))), (3, (pt (nb ρ1 1))), (4, (pt (nb ρ1 2))), (5, (pt (nb ρ1 3))), (6, (pt (nb ρ2 0))), (15, (.int .i64 ((i : Nat) : Int))), (16, (.bool false))] w0 [(nb ρ1 0, (.cells (cU a) 24 (0, 0))), (nb ρ1 1, (.cells (cU b) 24 (0, 0))), (nb ρ1 2, (.cells (cU 0) 24 (0, 0))), (nb ρ1 3, (.cells (cU 0) 24 (0, 0))), (nb ρ2 0, (.cells (c8 f) 60 (0, 0)))] F
    (fun _ => [(4, (pt (nb ρ1 2))), (5, (pt (nb ρ1 3))), (6, (pt (nb ρ2 0)))])
    (fun _ => [(nb ρ1 0, (.cells (cU a) 24 (0, 0))), (nb ρ1 1, (.cells (cU b) 24 (0, 0))), (nb ρ1 2, (.cells (cU 0) 24 (0, 0))), (nb ρ1 3, (.cells #[(.int .u64 (f 0)), (.int .u64 (f 1)), (.int .u64 (f 2)), (.int .u64 (f 3))] 24 (0, 0))), (nb ρ2 0, (.cells (c8 f) 60 (0, 0)))]) := by
  refine reg_drawn [0, 0, 3] [4, 5, 6] 3
    (fun _ ι => ([(.slice (some ⟨nb ρ1 3, 0, none⟩) 4 4), (.slice (some ⟨nb ρ2 0, 0, none⟩) 4 8), (.int .i64 4)] : List Value).getD ι undef)
    (fun _ ι => ([{}, {}, { puts := [(3, (.cells #[(.int .u64 (f 0)), (.int .u64 (f 1)), (.int .u64 (f 2)), (.int .u64 (f 3))] 24 (0, 0)))] }] : List Eff).getD ι {})
    (by kernel_rfl) (by kernel_rfl) (by kernel_rfl) (fun _ => by kernel_rfl) (fun _ => by kernel_rfl) ⟨⟨⟨trivial, ?_⟩, ?_⟩, ?_⟩
  · exact o_run 0 [] [] (fun _ _ => []) (fun _ _ => by kernel_rfl)
  · exact o_run 1 [] [] (fun _ _ => []) (fun _ _ => by kernel_rfl)
  · exact o_run 2 [3, 4] [1, 1, 1, 1, 0, 0, 0, 0] (fun _ _ => [nb ρ2 0, nb ρ2 0, nb ρ2 0, nb ρ2 0, nb ρ1 3, nb ρ1 3, nb ρ1 3, nb ρ1 3]) (fun _ _ => by kernel_rfl)
theorem rmul_w_r18 (a : Nat) (b : Nat) (f : Nat → Int) (ρ1 : Nat → Orc) (ρ2 : Nat → Orc) (w0 : World) (F : World → Prop) : Reg Try.prog 17 (regOps Try.f36 17) true 71 [(4, (pt (nb ρ1 2))), (5, (pt (nb ρ1 3))), (6, (pt (nb ρ2 0)))] w0 [(nb ρ1 0, (.cells (cU a) 24 (0, 0))), (nb ρ1 1, (.cells (cU b) 24 (0, 0))), (nb ρ1 2, (.cells (cU 0) 24 (0, 0))), (nb ρ1 3, (.cells #[(.int .u64 (f 0)), (.int .u64 (f 1)), (.int .u64 (f 2)), (.int .u64 (f 3))] 24 (0, 0))), (nb ρ2 0, (.cells (c8 f) 60 (0, 0)))] F
    (fun _ => [(4, (pt (nb ρ1 2))), (5, (pt (nb ρ1 3)))])
    (fun _ => [(nb ρ1 0, (.cells (cU a) 24 (0, 0))), (nb ρ1 1, (.cells (cU b) 24 (0, 0))), (nb ρ1 2, (.cells #[(.int .u64 (f 4)), (.int .u64 (f 5)), (.int .u64 (f 6)), (.int .u64 (f 7))] 24 (0, 0))), (nb ρ1 3, (.cells #[(.int .u64 (f 0)), (.int .u64 (f 1)), (.int .u64 (f 2)), (.int .u64 (f 3))] 24 (0, 0))), (nb ρ2 0, (.cells (c8 f) 60 (0, 0)))]) := by
  refine reg_drawn [0, 0, 3] [4, 5] 3
    (fun _ ι => ([(.slice (some ⟨nb ρ1 2, 0, none⟩) 4 4), (.slice (some ⟨nb ρ2 0, 4, none⟩) 4 4), (.int .i64 4)] : List Value).getD ι undef)
    (fun _ ι => ([{}, {}, { puts := [(2, (.cells #[(.int .u64 (f 4)), (.int .u64 (f 5)), (.int .u64 (f 6)), (.int .u64 (f 7))] 24 (0, 0)))] }] : List Eff).getD ι {})
    (by kernel_rfl) (by kernel_rfl) (by kernel_rfl) (fun _ => by kernel_rfl) (fun _ => by kernel_rfl) ⟨⟨⟨trivial, ?_⟩, ?_⟩, ?_⟩
  · exact o_run 0 [] [] (fun _ _ => []) (fun _ _ => by kernel_rfl)
  · exact o_run 1 [] [] (fun _ _ => []) (fun _ _ => by kernel_rfl)
  · exact o_run 2 [2, 4] [1, 1, 1, 1, 0, 0, 0, 0] (fun _ _ => [nb ρ2 0, nb ρ2 0, nb ρ2 0, nb ρ2 0, nb ρ1 2, nb ρ1 2, nb ρ1 2, nb ρ1 2]) (fun _ _ => by kernel_rfl)
theorem rmul_w_r19 (a : Nat) (b : Nat) (f : Nat → Int) (ρ1 : Nat → Orc) (ρ2 : Nat → Orc) (w0 : World) (F : World → Prop) : Reg Try.prog 18 (regOps Try.f36 18) false 71 [(4, (pt (nb ρ1 2))), (5, (pt (nb ρ1 3)))] w0 [(nb ρ1 0, (.cells (cU a) 24 (0, 0))), (nb ρ1 1, (.cells (cU b) 24 (0, 0))), (nb ρ1 2, (.cells #[(.int .u64 (f 4)), (.int .u64 (f 5)), (.int .u64 (f 6)), (.int .u64 (f 7))] 24 (0, 0))), (nb ρ1 3, (.cells #[(.int .u64 (f 0)), (.int .u64 (f 1)), (.int .u64 (f 2)), (.int .u64 (f 3))] 24 (0, 0))), (nb ρ2 0, (.cells (c8 f) 60 (0, 0)))] F
    (fun _ => [(4, (pt (nb ρ1 2))), (5, (pt (nb ρ1 3)))])
    (fun _ => [(nb ρ1 0, (.cells (cU a) 24 (0, 0))), (nb ρ1 1, (.cells (cU b) 24 (0, 0))), (nb ρ1 2, (.cells #[(.int .u64 (f 4)), (.int .u64 (f 5)), (.int .u64 (f 6)), (.int .u64 (f 7))] 24 (0, 0))), (nb ρ1 3, (.cells #[(.int .u64 (f 0)), (.int .u64 (f 1)), (.int .u64 (f 2)), (.int .u64 (f 3))] 24 (0, 0))), (nb ρ2 0, (.cells (c8 f) 60 (0, 0)))]) := by
  refine reg_seq [0, 1, 3, 7] [4, 5] 4
    (fun _ ι => ([(.agg #[(.int .u64 (f 4)), (.int .u64 (f 5)), (.int .u64 (f 6)), (.int .u64 (f 7))]), (.agg #[(.int .u64 (f 0)), (.int .u64 (f 1)), (.int .u64 (f 2)), (.int .u64 (f 3))]), undef, undef] : List Value).getD ι undef)
    (fun _ ι => ([{}, {}, { puts := [(2, (.cells #[(.int .u64 (f 4)), (.int .u64 (f 5)), (.int .u64 (f 6)), (.int .u64 (f 7))] 24 (0, 0)))] }, { puts := [(3, (.cells #[(.int .u64 (f 0)), (.int .u64 (f 1)), (.int .u64 (f 2)), (.int .u64 (f 3))] 24 (0, 0)))] }] : List Eff).getD ι {})
    (by kernel_rfl) (by kernel_rfl) (fun _ => by kernel_rfl) (fun _ => by kernel_rfl) ⟨⟨⟨⟨trivial, ?_⟩, ?_⟩, ?_⟩, ?_⟩
  · exact o_run 0 [2] [] (fun _ _ => [nb ρ1 2, nb ρ1 2, nb ρ1 2, nb ρ1 2]) (fun _ _ => by kernel_rfl)
  · exact o_run 1 [3] [] (fun _ _ => [nb ρ1 3, nb ρ1 3, nb ρ1 3, nb ρ1 3]) (fun _ _ => by kernel_rfl)
  · exact o_run 2 [2] [] (fun _ _ => [nb ρ1 2, nb ρ1 2, nb ρ1 2, nb ρ1 2]) (fun _ _ => by kernel_rfl)
  · exact o_run 3 [3] [] (fun _ _ => [nb ρ1 3, nb ρ1 3, nb ρ1 3, nb ρ1 3]) (fun _ _ => by kernel_rfl)
theorem rmul_w (a : Nat) (b : Nat) (ha : a < M) (hb : b < M) (w0 : World) : Calls Try.prog 36 #[(U a), (U b)] w0 (fun ε w' => ε = .returned (.tuple #[(U (a * b / M)), (U (a * b % M))]) ∧ Below w0.heap.size w0 w') := by
  refine Calls.of_ok (n := 71) (F := (fun _ => True)) Try.func36 rfl rfl rfl (by simp) (persTrue (fun _ => trivial)) ?_
  refine ok_seq_r (by kernel_rfl) (rmul_w_r1 a b _ _) (fun ρ1 => ?_)
  refine ok_seq_r (by kernel_rfl) (rmul_w_r2 a b ρ1 _ _) (fun ρ2 => ?_)
  refine ok_seq ?_
  refine ok_seq_r (by kernel_rfl) (rmul_w_r3 a b ρ1 ρ2 _ _) (fun _ => ?_)
  refine ok_block ?_
  refine ok_loop (σ := Nat × (Nat → Int)) (fun ⟨i, _⟩ => [(2, (pt (nb ρ1 0))), (3, (pt (nb ρ1 1))), (4, (pt (nb ρ1 2))), (5, (pt (nb ρ1 3))), (6, (pt (nb ρ2 0))), (15, (.int .i64 ((i : Nat) : Int)))]) (fun ⟨_, f⟩ => [(nb ρ1 0, (.cells (cU a) 24 (0, 0))), (nb ρ1 1, (.cells (cU b) 24 (0, 0))), (nb ρ1 2, (.cells (cU 0) 24 (0, 0))), (nb ρ1 3, (.cells (cU 0) 24 (0, 0))), (nb ρ2 0, (.cells (c8 f) 60 (0, 0)))]) (fun ⟨i, _⟩ => 4 - i)
    (fun ⟨i, f⟩ => (i ≤ 4) ∧ (MulO a b i f)) (0, (fun _ => 0)) (⟨by omega, mulO_zero a b⟩) (by kernel_rfl) (.cons_cons _ (.cons_cons _ (.cons_cons _ (.cons_cons _ (.cons_cons _ .slnil))))) ?_
  rintro ⟨i, f⟩ ⟨hi, hO⟩
  change Ok Try.prog _ _ 71 [(2, (pt (nb ρ1 0))), (3, (pt (nb ρ1 1))), (4, (pt (nb ρ1 2))), (5, (pt (nb ρ1 3))), (6, (pt (nb ρ2 0))), (15, (.int .i64 ((i : Nat) : Int)))] _ [(nb ρ1 0, (.cells (cU a) 24 (0, 0))), (nb ρ1 1, (.cells (cU b) 24 (0, 0))), (nb ρ1 2, (.cells (cU 0) 24 (0, 0))), (nb ρ1 3, (.cells (cU 0) 24 (0, 0))), (nb ρ2 0, (.cells (c8 f) 60 (0, 0)))] (fun _ => True)
  refine ok_seq_r (by kernel_rfl) (rmul_w_r4 a b i f ρ1 ρ2 _ _) (fun _ => ?_)
  refine ok_seq ?_
  refine ok_cond (b := decide (((i : Nat) : Int) < 4)) (by kernel_rfl) (fun hb1 => ?_) (fun hb1 => ?_)
  ·
    rw [hb1]
    refine ok_skip ?_
    refine mt_then ?_
    refine ok_seq ?_
    refine ok_block ?_
    refine ok_seq_r (by kernel_rfl) (rmul_w_r5 a b i f ρ1 ρ2 _ _) (fun _ => ?_)
    refine ok_seq_r (by kernel_rfl) (rmul_w_r6 a b i f ρ1 ρ2 _ _) (fun _ => ?_)
    refine ok_seq ?_
    refine ok_seq_r (by kernel_rfl) (rmul_w_r7 a b i f ρ1 ρ2 _ _) (fun _ => ?_)
    refine ok_block ?_
    refine ok_loop (σ := Nat × (Nat → Int) × Int) (fun ⟨j, _, c⟩ => [(2, (pt (nb ρ1 0))), (3, (pt (nb ρ1 1))), (4, (pt (nb ρ1 2))), (5, (pt (nb ρ1 3))), (6, (pt (nb ρ2 0))), (7, (.int .i64 ((i : Nat) : Int))), (8, (.int .u64 c)), (15, (.int .i64 ((i : Nat) : Int))), (18, (.int .i64 ((j : Nat) : Int)))]) (fun ⟨_, u, _⟩ => [(nb ρ1 0, (.cells (cU a) 24 (0, 0))), (nb ρ1 1, (.cells (cU b) 24 (0, 0))), (nb ρ1 2, (.cells (cU 0) 24 (0, 0))), (nb ρ1 3, (.cells (cU 0) 24 (0, 0))), (nb ρ2 0, (.cells (c8 u) 60 (0, 0)))]) (fun ⟨j, _, _⟩ => 4 - j)
      (fun ⟨j, u, c⟩ => (j ≤ 4) ∧ (MulI a b i j u c)) (0, f, 0) (⟨by omega, mulO_begin hO⟩) (by kernel_rfl) (.cons_cons _ (.cons_cons _ (.cons_cons _ (.cons_cons _ (.cons_cons _ .slnil))))) ?_
    rintro ⟨j, u, c⟩ ⟨hj, hM⟩
    change Ok Try.prog _ _ 71 [(2, (pt (nb ρ1 0))), (3, (pt (nb ρ1 1))), (4, (pt (nb ρ1 2))), (5, (pt (nb ρ1 3))), (6, (pt (nb ρ2 0))), (7, (.int .i64 ((i : Nat) : Int))), (8, (.int .u64 c)), (15, (.int .i64 ((i : Nat) : Int))), (18, (.int .i64 ((j : Nat) : Int)))] _ [(nb ρ1 0, (.cells (cU a) 24 (0, 0))), (nb ρ1 1, (.cells (cU b) 24 (0, 0))), (nb ρ1 2, (.cells (cU 0) 24 (0, 0))), (nb ρ1 3, (.cells (cU 0) 24 (0, 0))), (nb ρ2 0, (.cells (c8 u) 60 (0, 0)))] (fun _ => True)
    refine ok_seq_r (by kernel_rfl) (rmul_w_r8 a b i j u c ρ1 ρ2 _ _) (fun _ => ?_)
    refine ok_seq ?_
    refine ok_cond (b := decide (((j : Nat) : Int) < 4)) (by kernel_rfl) (fun hb2 => ?_) (fun hb2 => ?_)
    ·
      rw [hb2]
      refine ok_skip ?_
      refine mt_then ?_
      refine ok_seq ?_
      refine ok_block ?_
      refine ok_seq_r (by kernel_rfl) (rmul_w_r9 a b i j u c ρ1 ρ2 _ _) (fun _ => ?_)
      refine ok_seq_r (by kernel_rfl) (rmul_w_r10 a b i hb1 j u c hb2 ρ1 ρ2 _ _) (fun _ => ?_)
      refine ok_seq_r (by kernel_rfl) (rmul_w_r11 a b i hb1 j u c hM hb2 ρ1 ρ2 _ _) (fun _ => ?_)
      refine ok_seq_r (by kernel_rfl) (rmul_w_r12 a b i j u c hM ρ1 ρ2 _ _) (fun _ => ?_)
      refine ok_r (by kernel_rfl) (rmul_w_r13 a b i hb1 j u c hb2 ρ1 ρ2 _ _) (fun _ => ?_)
      refine mt_block_n ?_
      refine mt_then ?_
      refine ok_r (by kernel_rfl) (rmul_w_r14 a b i hb1 j u c hb2 ρ1 ρ2 _ _) (fun _ => ?_)
      exact mt_round (j + 1, updf u (i + j) (addLo (addLo (u (i + j)) (mulLo (wd a i) (wd b j)) 0) c 0), IntKind.u64.wrap ((IntKind.u64.wrap ((mulHi (wd a i) (wd b j)) + (addHi (u (i + j)) (mulLo (wd a i) (wd b j)) 0))) + (addHi (addLo (u (i + j)) (mulLo (wd a i) (wd b j)) 0) c 0))) (by show 4 - (j + 1) < 4 - j; have := of_decide_eq_true hb2; omega) (⟨by have := of_decide_eq_true hb2; omega, mulI_next (by have := of_decide_eq_true hb1; omega) (by have := of_decide_eq_true hb2; omega) hM (word_addLo _ _ _) (rmul_step (wd_word a i) (wd_word b j) (hM.word _) hM.car).2 (rmul_step (wd_word a i) (wd_word b j) (hM.word _) hM.car).1⟩) (by kernel_rfl) (.cons_cons _ (.cons_cons _ (.cons_cons _ (.cons_cons _ (.cons_cons _ .slnil)))))
    ·
      rw [hb2]
      refine ok_exit ?_
      refine mt_then_e ?_
      refine mt_then_e ?_
      refine mt_block_h ?_
      refine mt_then ?_
      refine ok_r (by kernel_rfl) (rmul_w_r15 a b i hb1 j u c ρ1 ρ2 _ _) (fun _ => ?_)
      refine mt_block_n ?_
      refine mt_then ?_
      refine ok_r (by kernel_rfl) (rmul_w_r16 a b i hb1 u c ρ1 ρ2 _ _) (fun _ => ?_)
      exact mt_round (i + 1, updf u (i + 4) c) (by show 4 - (i + 1) < 4 - i; have := of_decide_eq_true hb1; omega) (⟨by have := of_decide_eq_true hb1; omega, mulI_end (by have := of_decide_eq_true hb1; omega) (by have : j = 4 := (by have := of_decide_eq_false hb2; omega); subst this; exact hM)⟩) (by kernel_rfl) (.cons_cons _ (.cons_cons _ (.cons_cons _ (.cons_cons _ (.cons_cons _ .slnil)))))
  ·
    rw [hb1]
    refine ok_exit ?_
    refine mt_then_e ?_
    refine mt_then_e ?_
    refine mt_block_h ?_
    refine mt_then ?_
    refine ok_seq_r (by kernel_rfl) (rmul_w_r17 a b i f ρ1 ρ2 _ _) (fun _ => ?_)
    refine ok_seq_r (by kernel_rfl) (rmul_w_r18 a b f ρ1 ρ2 _ _) (fun _ => ?_)
    refine ok_seq_r (by kernel_rfl) (rmul_w_r19 a b f ρ1 ρ2 _ _) (fun _ => ?_)
    refine ok_ret ?_
    exact meets_ret (v := (.tuple #[(.agg #[(.int .u64 (f 4)), (.int .u64 (f 5)), (.int .u64 (f 6)), (.int .u64 (f 7))]), (.agg #[(.int .u64 (f 0)), (.int .u64 (f 1)), (.int .u64 (f 2)), (.int .u64 (f 3))])])) [2, 2, 2, 2, 3, 3, 3, 3] (dup [nb ρ1 2, nb ρ1 2, nb ρ1 2, nb ρ1 2, nb ρ1 3, nb ρ1 3, nb ρ1 3, nb ρ1 3]) (by kernel_rfl) (by kernel_rfl) (eqs_dup _) (fun _ hS => ⟨mul_end ha hb (by have : i = 4 := (by have := of_decide_eq_false hb1; omega); subst this; exact hO), hS.below⟩)
theorem rmul_any (a b : Nat) (w0 : World) (ha : a < M) (hb : b < M) : Calls Try.prog 36 #[U a, U b] w0 (fun ε w' => ε = .returned (.tuple #[(U (a * b / M)), (U (a * b % M))]) ∧ Below w0.heap.size w0 w') := rmul_w a b ha hb w0
end Go.Proofs.Ytlgjdejlnelndaa
