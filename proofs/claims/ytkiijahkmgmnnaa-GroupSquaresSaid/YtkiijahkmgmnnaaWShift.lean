/-
  Shifts: the walks.
-/
import Derived.Test.YtkiijahkmgmnnaaGhost6
import Derived.Test.YtkiijahkmgmnnaaShiftNum
import Derived.Test.YtkiijahkmgmnnaaRLen
namespace Go.Proofs.Ytkiijahkmgmnnaa
open Go Go.RowKit
set_option maxRecDepth 100000
theorem shl_neg_r1 (a : Nat) (n : Int) (w0 : World) : Reg Try.prog 0 (regOps Try.f88 0) false 51 [(0, (U a)), (1, (.int .i64 n))] w0 [] (fun _ => True)
    (fun ρ => [(1, (.int .i64 n)), (2, (.pointer (some ⟨nb ρ 0, 0, none⟩))), (4, (.pointer (some ⟨nb ρ 1, 0, none⟩)))])
    (fun ρ => [(nb ρ 0, (.cells (cU a) 24 (0, 0))), (nb ρ 1, (.cells (cU 0) 24 (0, 0)))]) := by
  refine reg_seq [0, 1] [1, 2, 4] 2
    (fun ρ ι => ([(.pointer (some ⟨nb ρ 0, 0, none⟩)), (.pointer (some ⟨nb ρ 1, 0, none⟩))] : List Value).getD ι undef)
    (fun ρ ι => ([{ news := [(nb ρ 0, (.cells (cU a) 24 (0, 0)))] }, { news := [(nb ρ 1, (.cells (cU 0) 24 (0, 0)))] }] : List Eff).getD ι {})
    (by as_aux_lemma => kernel_rfl) (by as_aux_lemma => kernel_rfl) (fun _ => by as_aux_lemma => kernel_rfl) (fun _ => by as_aux_lemma => kernel_rfl) ⟨⟨trivial, ?_⟩, ?_⟩
  · exact o_run 0 [] [] (fun _ _ => []) (fun _ _ => by as_aux_lemma => kernel_rfl)
  · exact o_run 1 [] [] (fun _ _ => []) (fun _ _ => by as_aux_lemma => kernel_rfl)
theorem shl_neg_r2 (a : Nat) (n : Int) (hk0 : decide (n < 0) = true) (ρ1 : Nat → Orc) (w0 : World) : Reg Try.prog 1 (regOps Try.f88 1) false 51 [(1, (.int .i64 n)), (2, (.pointer (some ⟨nb ρ1 0, 0, none⟩))), (4, (.pointer (some ⟨nb ρ1 1, 0, none⟩)))] w0 [(nb ρ1 0, (.cells (cU a) 24 (0, 0))), (nb ρ1 1, (.cells (cU 0) 24 (0, 0)))] (fun _ => True)
    (fun _ => [(1, (.int .i64 n)), (2, (.pointer (some ⟨nb ρ1 0, 0, none⟩))), (4, (.pointer (some ⟨nb ρ1 1, 0, none⟩))), (10, (.bool true))])
    (fun _ => [(nb ρ1 0, (.cells (cU a) 24 (0, 0))), (nb ρ1 1, (.cells (cU 0) 24 (0, 0)))]) := by
  refine reg_seq [0, 1] [1, 2, 4, 10] 2
    (fun _ ι => ([(.int .i64 n), (.bool true)] : List Value).getD ι undef)
    (fun _ ι => ([{}, {}] : List Eff).getD ι {})
    (by as_aux_lemma => kernel_rfl) (by as_aux_lemma => kernel_rfl) (fun _ => by as_aux_lemma => kernel_rfl) (fun _ => by as_aux_lemma => kernel_rfl) ⟨⟨trivial, ?_⟩, ?_⟩
  · exact o_run 0 [] [] (fun _ _ => []) (fun _ _ => by as_aux_lemma => kernel_rfl)
  · exact o_as 1 (fun _ => (.bool (decide (n < 0)))) (fun _ => (.bool true)) (fun _ _ => by as_aux_lemma => kernel_rfl) (fun _ => congrArg Value.bool hk0)
theorem shl_neg_r3 (a : Nat) (n : Int) (ρ1 : Nat → Orc) (w0 : World) : Reg Try.prog 2 (regOps Try.f88 2) false 51 [(1, (.int .i64 n)), (2, (.pointer (some ⟨nb ρ1 0, 0, none⟩))), (4, (.pointer (some ⟨nb ρ1 1, 0, none⟩))), (10, (.bool true))] w0 [(nb ρ1 0, (.cells (cU a) 24 (0, 0))), (nb ρ1 1, (.cells (cU 0) 24 (0, 0)))] (fun _ => True)
    (fun _ => [(1, (.int .i64 n)), (2, (.pointer (some ⟨nb ρ1 0, 0, none⟩))), (4, (.pointer (some ⟨nb ρ1 1, 0, none⟩)))])
    (fun _ => [(nb ρ1 0, (.cells (cU a) 24 (0, 0))), (nb ρ1 1, (.cells (cU a) 24 (0, 0)))]) := by
  refine reg_seq [0, 1] [1, 2, 4] 2
    (fun _ ι => ([(U a), undef] : List Value).getD ι undef)
    (fun _ ι => ([{}, { puts := [(1, (.cells (cU a) 24 (0, 0)))] }] : List Eff).getD ι {})
    (by as_aux_lemma => kernel_rfl) (by as_aux_lemma => kernel_rfl) (fun _ => by as_aux_lemma => kernel_rfl) (fun _ => by as_aux_lemma => kernel_rfl) ⟨⟨trivial, ?_⟩, ?_⟩
  · exact o_run 0 [0] [] (fun _ _ => [nb ρ1 0, nb ρ1 0, nb ρ1 0, nb ρ1 0]) (fun _ _ => by as_aux_lemma => kernel_rfl)
  · exact o_run 1 [1] [] (fun _ _ => [nb ρ1 1, nb ρ1 1, nb ρ1 1, nb ρ1 1]) (fun _ _ => by as_aux_lemma => kernel_rfl)
theorem shl_neg (a : Nat) (n : Int) (hn : n < 0) (w0 : World) : Calls Try.prog 88 #[(U a), (.int .i64 n)] w0 (fun ε w' => ε = .returned (U a) ∧ Below w0.heap.size w0 w') := by
  refine Calls.of_ok (n := 51) (F := fun _ => True) Try.func88 rfl rfl rfl (by simp) (persTrue (fun _ => trivial)) ?_
  have hk0 : decide (n < 0) = true := decide_eq_true hn
  refine ok_seq_r (by as_aux_lemma => kernel_rfl) (shl_neg_r1 a n _) (fun ρ1 => ?_)
  refine ok_seq ?_
  refine ok_seq_r (by as_aux_lemma => kernel_rfl) (shl_neg_r2 a n hk0 ρ1 _) (fun _ => ?_)
  refine ok_yes (by as_aux_lemma => kernel_rfl) ?_
  refine ok_seq_r (by as_aux_lemma => kernel_rfl) (shl_neg_r3 a n ρ1 _) (fun _ => ?_)
  refine ok_ret ?_
  refine mt_then_r ?_
  exact meets_ret (v := (U a)) [1, 1, 1, 1] (dup [nb ρ1 1, nb ρ1 1, nb ρ1 1, nb ρ1 1]) (by as_aux_lemma => kernel_rfl) (by as_aux_lemma => kernel_rfl) (eqs_dup _) (fun _ hS => ⟨rfl, hS.below⟩)
theorem shl_big_r1 (a : Nat) (n : Int) (w0 : World) : Reg Try.prog 0 (regOps Try.f88 0) false 51 [(0, (U a)), (1, (.int .i64 n))] w0 [] (fun _ => True)
    (fun ρ => [(1, (.int .i64 n)), (2, (.pointer (some ⟨nb ρ 0, 0, none⟩))), (4, (.pointer (some ⟨nb ρ 1, 0, none⟩)))])
    (fun ρ => [(nb ρ 0, (.cells (cU a) 24 (0, 0))), (nb ρ 1, (.cells (cU 0) 24 (0, 0)))]) := by
  refine reg_seq [0, 1] [1, 2, 4] 2
    (fun ρ ι => ([(.pointer (some ⟨nb ρ 0, 0, none⟩)), (.pointer (some ⟨nb ρ 1, 0, none⟩))] : List Value).getD ι undef)
    (fun ρ ι => ([{ news := [(nb ρ 0, (.cells (cU a) 24 (0, 0)))] }, { news := [(nb ρ 1, (.cells (cU 0) 24 (0, 0)))] }] : List Eff).getD ι {})
    (by as_aux_lemma => kernel_rfl) (by as_aux_lemma => kernel_rfl) (fun _ => by as_aux_lemma => kernel_rfl) (fun _ => by as_aux_lemma => kernel_rfl) ⟨⟨trivial, ?_⟩, ?_⟩
  · exact o_run 0 [] [] (fun _ _ => []) (fun _ _ => by as_aux_lemma => kernel_rfl)
  · exact o_run 1 [] [] (fun _ _ => []) (fun _ _ => by as_aux_lemma => kernel_rfl)
theorem shl_big_r2 (a : Nat) (n : Int) (hk0 : decide (n < 0) = false) (ρ1 : Nat → Orc) (w0 : World) : Reg Try.prog 1 (regOps Try.f88 1) false 51 [(1, (.int .i64 n)), (2, (.pointer (some ⟨nb ρ1 0, 0, none⟩))), (4, (.pointer (some ⟨nb ρ1 1, 0, none⟩)))] w0 [(nb ρ1 0, (.cells (cU a) 24 (0, 0))), (nb ρ1 1, (.cells (cU 0) 24 (0, 0)))] (fun _ => True)
    (fun _ => [(1, (.int .i64 n)), (2, (.pointer (some ⟨nb ρ1 0, 0, none⟩))), (4, (.pointer (some ⟨nb ρ1 1, 0, none⟩))), (10, (.bool false))])
    (fun _ => [(nb ρ1 0, (.cells (cU a) 24 (0, 0))), (nb ρ1 1, (.cells (cU 0) 24 (0, 0)))]) := by
  refine reg_seq [0, 1] [1, 2, 4, 10] 2
    (fun _ ι => ([(.int .i64 n), (.bool false)] : List Value).getD ι undef)
    (fun _ ι => ([{}, {}] : List Eff).getD ι {})
    (by as_aux_lemma => kernel_rfl) (by as_aux_lemma => kernel_rfl) (fun _ => by as_aux_lemma => kernel_rfl) (fun _ => by as_aux_lemma => kernel_rfl) ⟨⟨trivial, ?_⟩, ?_⟩
  · exact o_run 0 [] [] (fun _ _ => []) (fun _ _ => by as_aux_lemma => kernel_rfl)
  · exact o_as 1 (fun _ => (.bool (decide (n < 0)))) (fun _ => (.bool false)) (fun _ _ => by as_aux_lemma => kernel_rfl) (fun _ => congrArg Value.bool hk0)
theorem shl_big_r3 (a : Nat) (n : Int) (ρ1 : Nat → Orc) (w0 : World) : Reg Try.prog 3 (regOps Try.f88 3) false 51 [(1, (.int .i64 n)), (2, (.pointer (some ⟨nb ρ1 0, 0, none⟩))), (4, (.pointer (some ⟨nb ρ1 1, 0, none⟩))), (10, (.bool false))] w0 [(nb ρ1 0, (.cells (cU a) 24 (0, 0))), (nb ρ1 1, (.cells (cU 0) 24 (0, 0)))] (fun _ => True)
    (fun ρ => [(1, (.int .i64 n)), (2, (.pointer (some ⟨nb ρ1 0, 0, none⟩))), (4, (.pointer (some ⟨nb ρ1 1, 0, none⟩))), (5, (.pointer (some ⟨nb ρ 0, 0, none⟩)))])
    (fun ρ => [(nb ρ1 0, (.cells (cU a) 24 (0, 0))), (nb ρ1 1, (.cells (cU 0) 24 (0, 0))), (nb ρ 0, (.cells (cU 0) 24 (0, 0)))]) := by
  refine reg_seq [0] [1, 2, 4, 5] 1
    (fun ρ ι => ([(.pointer (some ⟨nb ρ 0, 0, none⟩))] : List Value).getD ι undef)
    (fun ρ ι => ([{ news := [(nb ρ 0, (.cells (cU 0) 24 (0, 0)))] }] : List Eff).getD ι {})
    (by as_aux_lemma => kernel_rfl) (by as_aux_lemma => kernel_rfl) (fun _ => by as_aux_lemma => kernel_rfl) (fun _ => by as_aux_lemma => kernel_rfl) ⟨trivial, ?_⟩
  · exact o_run 0 [] [] (fun _ _ => []) (fun _ _ => by as_aux_lemma => kernel_rfl)
theorem shl_big_r4 (a : Nat) (n : Int) (hk1 : decide (256 ≤ n) = true) (ρ1 : Nat → Orc) (ρ3 : Nat → Orc) (w0 : World) : Reg Try.prog 4 (regOps Try.f88 4) false 51 [(1, (.int .i64 n)), (2, (.pointer (some ⟨nb ρ1 0, 0, none⟩))), (4, (.pointer (some ⟨nb ρ1 1, 0, none⟩))), (5, (.pointer (some ⟨nb ρ3 0, 0, none⟩)))] w0 [(nb ρ1 0, (.cells (cU a) 24 (0, 0))), (nb ρ1 1, (.cells (cU 0) 24 (0, 0))), (nb ρ3 0, (.cells (cU 0) 24 (0, 0)))] (fun _ => True)
    (fun _ => [(1, (.int .i64 n)), (2, (.pointer (some ⟨nb ρ1 0, 0, none⟩))), (4, (.pointer (some ⟨nb ρ1 1, 0, none⟩))), (5, (.pointer (some ⟨nb ρ3 0, 0, none⟩))), (13, (.bool true))])
    (fun _ => [(nb ρ1 0, (.cells (cU a) 24 (0, 0))), (nb ρ1 1, (.cells (cU 0) 24 (0, 0))), (nb ρ3 0, (.cells (cU 0) 24 (0, 0)))]) := by
  refine reg_seq [0, 1] [1, 2, 4, 5, 13] 2
    (fun _ ι => ([(.int .i64 n), (.bool true)] : List Value).getD ι undef)
    (fun _ ι => ([{}, {}] : List Eff).getD ι {})
    (by as_aux_lemma => kernel_rfl) (by as_aux_lemma => kernel_rfl) (fun _ => by as_aux_lemma => kernel_rfl) (fun _ => by as_aux_lemma => kernel_rfl) ⟨⟨trivial, ?_⟩, ?_⟩
  · exact o_run 0 [] [] (fun _ _ => []) (fun _ _ => by as_aux_lemma => kernel_rfl)
  · exact o_as 1 (fun _ => (.bool (decide (256 ≤ n)))) (fun _ => (.bool true)) (fun _ _ => by as_aux_lemma => kernel_rfl) (fun _ => congrArg Value.bool hk1)
theorem shl_big_r5 (a : Nat) (n : Int) (ρ1 : Nat → Orc) (ρ3 : Nat → Orc) (w0 : World) : Reg Try.prog 5 (regOps Try.f88 5) false 51 [(1, (.int .i64 n)), (2, (.pointer (some ⟨nb ρ1 0, 0, none⟩))), (4, (.pointer (some ⟨nb ρ1 1, 0, none⟩))), (5, (.pointer (some ⟨nb ρ3 0, 0, none⟩))), (13, (.bool true))] w0 [(nb ρ1 0, (.cells (cU a) 24 (0, 0))), (nb ρ1 1, (.cells (cU 0) 24 (0, 0))), (nb ρ3 0, (.cells (cU 0) 24 (0, 0)))] (fun _ => True)
    (fun _ => [(1, (.int .i64 n)), (2, (.pointer (some ⟨nb ρ1 0, 0, none⟩))), (4, (.pointer (some ⟨nb ρ1 1, 0, none⟩))), (5, (.pointer (some ⟨nb ρ3 0, 0, none⟩)))])
    (fun _ => [(nb ρ1 0, (.cells (cU a) 24 (0, 0))), (nb ρ1 1, (.cells (cU 0) 24 (0, 0))), (nb ρ3 0, (.cells (cU 0) 24 (0, 0)))]) := by
  refine reg_seq [0, 1] [1, 2, 4, 5] 2
    (fun _ ι => ([(U 0), undef] : List Value).getD ι undef)
    (fun _ ι => ([{}, { puts := [(1, (.cells (cU 0) 24 (0, 0)))] }] : List Eff).getD ι {})
    (by as_aux_lemma => kernel_rfl) (by as_aux_lemma => kernel_rfl) (fun _ => by as_aux_lemma => kernel_rfl) (fun _ => by as_aux_lemma => kernel_rfl) ⟨⟨trivial, ?_⟩, ?_⟩
  · exact o_run 0 [2] [] (fun _ _ => [nb ρ3 0, nb ρ3 0, nb ρ3 0, nb ρ3 0]) (fun _ _ => by as_aux_lemma => kernel_rfl)
  · exact o_run 1 [1] [] (fun _ _ => [nb ρ1 1, nb ρ1 1, nb ρ1 1, nb ρ1 1]) (fun _ _ => by as_aux_lemma => kernel_rfl)
theorem shl_big (a : Nat) (n : Int) (hn : 256 ≤ n) (w0 : World) : Calls Try.prog 88 #[(U a), (.int .i64 n)] w0 (fun ε w' => ε = .returned (U 0) ∧ Below w0.heap.size w0 w') := by
  refine Calls.of_ok (n := 51) (F := fun _ => True) Try.func88 rfl rfl rfl (by simp) (persTrue (fun _ => trivial)) ?_
  have hk0 : decide (n < 0) = false := decide_eq_false (by omega)
  have hk1 : decide (256 ≤ n) = true := decide_eq_true hn
  refine ok_seq_r (by as_aux_lemma => kernel_rfl) (shl_big_r1 a n _) (fun ρ1 => ?_)
  refine ok_seq ?_
  refine ok_seq_r (by as_aux_lemma => kernel_rfl) (shl_big_r2 a n hk0 ρ1 _) (fun _ => ?_)
  refine ok_no (by as_aux_lemma => kernel_rfl) ?_
  refine ok_skip ?_
  refine mt_then ?_
  refine ok_seq_r (by as_aux_lemma => kernel_rfl) (shl_big_r3 a n ρ1 _) (fun ρ3 => ?_)
  refine ok_seq ?_
  refine ok_seq_r (by as_aux_lemma => kernel_rfl) (shl_big_r4 a n hk1 ρ1 ρ3 _) (fun _ => ?_)
  refine ok_yes (by as_aux_lemma => kernel_rfl) ?_
  refine ok_seq_r (by as_aux_lemma => kernel_rfl) (shl_big_r5 a n ρ1 ρ3 _) (fun _ => ?_)
  refine ok_ret ?_
  refine mt_then_r ?_
  exact meets_ret (v := (U 0)) [1, 1, 1, 1] (dup [nb ρ1 1, nb ρ1 1, nb ρ1 1, nb ρ1 1]) (by as_aux_lemma => kernel_rfl) (by as_aux_lemma => kernel_rfl) (eqs_dup _) (fun _ hS => ⟨rfl, hS.below⟩)
theorem shl_mid_r1 (a : Nat) (q : Nat) (r : Nat) (w0 : World) : Reg Try.prog 0 (regOps Try.f88 0) false 51 [(0, (U a)), (1, (.int .i64 ((64 * q + r : Nat) : Int)))] w0 [] (fun _ => True)
    (fun ρ => [(1, (.int .i64 ((64 * q + r : Nat) : Int))), (2, (.pointer (some ⟨nb ρ 0, 0, none⟩))), (4, (.pointer (some ⟨nb ρ 1, 0, none⟩)))])
    (fun ρ => [(nb ρ 0, (.cells (cU a) 24 (0, 0))), (nb ρ 1, (.cells (cU 0) 24 (0, 0)))]) := by
  refine reg_seq [0, 1] [1, 2, 4] 2
    (fun ρ ι => ([(.pointer (some ⟨nb ρ 0, 0, none⟩)), (.pointer (some ⟨nb ρ 1, 0, none⟩))] : List Value).getD ι undef)
    (fun ρ ι => ([{ news := [(nb ρ 0, (.cells (cU a) 24 (0, 0)))] }, { news := [(nb ρ 1, (.cells (cU 0) 24 (0, 0)))] }] : List Eff).getD ι {})
    (by as_aux_lemma => kernel_rfl) (by as_aux_lemma => kernel_rfl) (fun _ => by as_aux_lemma => kernel_rfl) (fun _ => by as_aux_lemma => kernel_rfl) ⟨⟨trivial, ?_⟩, ?_⟩
  · exact o_run 0 [] [] (fun _ _ => []) (fun _ _ => by as_aux_lemma => kernel_rfl)
  · exact o_run 1 [] [] (fun _ _ => []) (fun _ _ => by as_aux_lemma => kernel_rfl)
theorem shl_mid_r2 (a : Nat) (q : Nat) (r : Nat) (hk0 : decide (((64 * q + r : Nat) : Int) < 0) = false) (ρ1 : Nat → Orc) (w0 : World) : Reg Try.prog 1 (regOps Try.f88 1) false 51 [(1, (.int .i64 ((64 * q + r : Nat) : Int))), (2, (.pointer (some ⟨nb ρ1 0, 0, none⟩))), (4, (.pointer (some ⟨nb ρ1 1, 0, none⟩)))] w0 [(nb ρ1 0, (.cells (cU a) 24 (0, 0))), (nb ρ1 1, (.cells (cU 0) 24 (0, 0)))] (fun _ => True)
    (fun _ => [(1, (.int .i64 ((64 * q + r : Nat) : Int))), (2, (.pointer (some ⟨nb ρ1 0, 0, none⟩))), (4, (.pointer (some ⟨nb ρ1 1, 0, none⟩))), (10, (.bool false))])
    (fun _ => [(nb ρ1 0, (.cells (cU a) 24 (0, 0))), (nb ρ1 1, (.cells (cU 0) 24 (0, 0)))]) := by
  refine reg_seq [0, 1] [1, 2, 4, 10] 2
    (fun _ ι => ([(.int .i64 ((64 * q + r : Nat) : Int)), (.bool false)] : List Value).getD ι undef)
    (fun _ ι => ([{}, {}] : List Eff).getD ι {})
    (by as_aux_lemma => kernel_rfl) (by as_aux_lemma => kernel_rfl) (fun _ => by as_aux_lemma => kernel_rfl) (fun _ => by as_aux_lemma => kernel_rfl) ⟨⟨trivial, ?_⟩, ?_⟩
  · exact o_run 0 [] [] (fun _ _ => []) (fun _ _ => by as_aux_lemma => kernel_rfl)
  · exact o_as 1 (fun _ => (.bool (decide (((64 * q + r : Nat) : Int) < 0)))) (fun _ => (.bool false)) (fun _ _ => by as_aux_lemma => kernel_rfl) (fun _ => congrArg Value.bool hk0)
theorem shl_mid_r3 (a : Nat) (q : Nat) (r : Nat) (ρ1 : Nat → Orc) (w0 : World) : Reg Try.prog 3 (regOps Try.f88 3) false 51 [(1, (.int .i64 ((64 * q + r : Nat) : Int))), (2, (.pointer (some ⟨nb ρ1 0, 0, none⟩))), (4, (.pointer (some ⟨nb ρ1 1, 0, none⟩))), (10, (.bool false))] w0 [(nb ρ1 0, (.cells (cU a) 24 (0, 0))), (nb ρ1 1, (.cells (cU 0) 24 (0, 0)))] (fun _ => True)
    (fun ρ => [(1, (.int .i64 ((64 * q + r : Nat) : Int))), (2, (.pointer (some ⟨nb ρ1 0, 0, none⟩))), (4, (.pointer (some ⟨nb ρ1 1, 0, none⟩))), (5, (.pointer (some ⟨nb ρ 0, 0, none⟩)))])
    (fun ρ => [(nb ρ1 0, (.cells (cU a) 24 (0, 0))), (nb ρ1 1, (.cells (cU 0) 24 (0, 0))), (nb ρ 0, (.cells (cU 0) 24 (0, 0)))]) := by
  refine reg_seq [0] [1, 2, 4, 5] 1
    (fun ρ ι => ([(.pointer (some ⟨nb ρ 0, 0, none⟩))] : List Value).getD ι undef)
    (fun ρ ι => ([{ news := [(nb ρ 0, (.cells (cU 0) 24 (0, 0)))] }] : List Eff).getD ι {})
    (by as_aux_lemma => kernel_rfl) (by as_aux_lemma => kernel_rfl) (fun _ => by as_aux_lemma => kernel_rfl) (fun _ => by as_aux_lemma => kernel_rfl) ⟨trivial, ?_⟩
  · exact o_run 0 [] [] (fun _ _ => []) (fun _ _ => by as_aux_lemma => kernel_rfl)
theorem shl_mid_r4 (a : Nat) (q : Nat) (r : Nat) (hk1 : decide (256 ≤ ((64 * q + r : Nat) : Int)) = false) (ρ1 : Nat → Orc) (ρ3 : Nat → Orc) (w0 : World) : Reg Try.prog 4 (regOps Try.f88 4) false 51 [(1, (.int .i64 ((64 * q + r : Nat) : Int))), (2, (.pointer (some ⟨nb ρ1 0, 0, none⟩))), (4, (.pointer (some ⟨nb ρ1 1, 0, none⟩))), (5, (.pointer (some ⟨nb ρ3 0, 0, none⟩)))] w0 [(nb ρ1 0, (.cells (cU a) 24 (0, 0))), (nb ρ1 1, (.cells (cU 0) 24 (0, 0))), (nb ρ3 0, (.cells (cU 0) 24 (0, 0)))] (fun _ => True)
    (fun _ => [(1, (.int .i64 ((64 * q + r : Nat) : Int))), (2, (.pointer (some ⟨nb ρ1 0, 0, none⟩))), (4, (.pointer (some ⟨nb ρ1 1, 0, none⟩))), (5, (.pointer (some ⟨nb ρ3 0, 0, none⟩))), (13, (.bool false))])
    (fun _ => [(nb ρ1 0, (.cells (cU a) 24 (0, 0))), (nb ρ1 1, (.cells (cU 0) 24 (0, 0))), (nb ρ3 0, (.cells (cU 0) 24 (0, 0)))]) := by
  refine reg_seq [0, 1] [1, 2, 4, 5, 13] 2
    (fun _ ι => ([(.int .i64 ((64 * q + r : Nat) : Int)), (.bool false)] : List Value).getD ι undef)
    (fun _ ι => ([{}, {}] : List Eff).getD ι {})
    (by as_aux_lemma => kernel_rfl) (by as_aux_lemma => kernel_rfl) (fun _ => by as_aux_lemma => kernel_rfl) (fun _ => by as_aux_lemma => kernel_rfl) ⟨⟨trivial, ?_⟩, ?_⟩
  · exact o_run 0 [] [] (fun _ _ => []) (fun _ _ => by as_aux_lemma => kernel_rfl)
  · exact o_as 1 (fun _ => (.bool (decide (256 ≤ ((64 * q + r : Nat) : Int))))) (fun _ => (.bool false)) (fun _ _ => by as_aux_lemma => kernel_rfl) (fun _ => congrArg Value.bool hk1)
theorem shl_mid_r5 (a : Nat) (q : Nat) (r : Nat) (hq : q < 4) (hr : r < 64) (ρ1 : Nat → Orc) (ρ3 : Nat → Orc) (w0 : World) : Reg Try.prog 6 (regOps Try.f88 6) false 51 [(1, (.int .i64 ((64 * q + r : Nat) : Int))), (2, (.pointer (some ⟨nb ρ1 0, 0, none⟩))), (4, (.pointer (some ⟨nb ρ1 1, 0, none⟩))), (5, (.pointer (some ⟨nb ρ3 0, 0, none⟩))), (13, (.bool false))] w0 [(nb ρ1 0, (.cells (cU a) 24 (0, 0))), (nb ρ1 1, (.cells (cU 0) 24 (0, 0))), (nb ρ3 0, (.cells (cU 0) 24 (0, 0)))] (fun _ => True)
    (fun _ => [(2, (.pointer (some ⟨nb ρ1 0, 0, none⟩))), (4, (.pointer (some ⟨nb ρ1 1, 0, none⟩))), (5, (.pointer (some ⟨nb ρ3 0, 0, none⟩))), (6, (.int .i64 ((q : Nat) : Int))), (7, (.int .i64 ((r : Nat) : Int)))])
    (fun _ => [(nb ρ1 0, (.cells (cU a) 24 (0, 0))), (nb ρ1 1, (.cells (cU 0) 24 (0, 0))), (nb ρ3 0, (.cells (cU 0) 24 (0, 0)))]) := by
  refine reg_seq [0, 1, 3, 7, 15, 31] [2, 4, 5, 6, 7] 6
    (fun _ ι => ([(.int .i64 ((64 * q + r : Nat) : Int)), (.int .i64 ((q : Nat) : Int)), (.int .i64 ((64 * q + r : Nat) : Int)), (.int .i64 ((r : Nat) : Int)), (.int .i64 ((q : Nat) : Int)), (.int .i64 ((r : Nat) : Int))] : List Value).getD ι undef)
    (fun _ ι => ([{}, {}, {}, {}, {}, {}] : List Eff).getD ι {})
    (by as_aux_lemma => kernel_rfl) (by as_aux_lemma => kernel_rfl) (fun _ => by as_aux_lemma => kernel_rfl) (fun _ => by as_aux_lemma => kernel_rfl) ⟨⟨⟨⟨⟨⟨trivial, ?_⟩, ?_⟩, ?_⟩, ?_⟩, ?_⟩, ?_⟩
  · exact o_run 0 [] [] (fun _ _ => []) (fun _ _ => by as_aux_lemma => kernel_rfl)
  · exact o_bin 1 .quo 3 (fun _ => (.int .i64 ((64 * q + r : Nat) : Int))) (fun _ => (.int .i64 64)) (fun _ => (.int .i64 ((q : Nat) : Int))) (fun _ => by as_aux_lemma => kernel_rfl) (fun _ _ _ _ => by as_aux_lemma => kernel_rfl) (fun _ w => run_quo_nat (64 * q + r) 64 q (by decide) (by have := hr; have := hq; omega) (by have := hr; have := hq; omega) w)
  · exact o_run 2 [] [] (fun _ _ => []) (fun _ _ => by as_aux_lemma => kernel_rfl)
  · exact o_bin 3 .rem 3 (fun _ => (.int .i64 ((64 * q + r : Nat) : Int))) (fun _ => (.int .i64 64)) (fun _ => (.int .i64 ((r : Nat) : Int))) (fun _ => by as_aux_lemma => kernel_rfl) (fun _ _ _ _ => by as_aux_lemma => kernel_rfl) (fun _ w => run_rem_nat (64 * q + r) 64 r (by decide) (by have := hr; omega) w)
  · exact o_run 4 [] [] (fun _ _ => []) (fun _ _ => by as_aux_lemma => kernel_rfl)
  · exact o_run 5 [] [] (fun _ _ => []) (fun _ _ => by as_aux_lemma => kernel_rfl)
theorem shl_mid_r6 (a : Nat) (q : Nat) (r : Nat) (ρ1 : Nat → Orc) (ρ3 : Nat → Orc) (w0 : World) : Reg Try.prog 7 (regOps Try.f88 7) false 51 [(2, (.pointer (some ⟨nb ρ1 0, 0, none⟩))), (4, (.pointer (some ⟨nb ρ1 1, 0, none⟩))), (5, (.pointer (some ⟨nb ρ3 0, 0, none⟩))), (6, (.int .i64 ((q : Nat) : Int))), (7, (.int .i64 ((r : Nat) : Int)))] w0 [(nb ρ1 0, (.cells (cU a) 24 (0, 0))), (nb ρ1 1, (.cells (cU 0) 24 (0, 0))), (nb ρ3 0, (.cells (cU 0) 24 (0, 0)))] (fun _ => True)
    (fun _ => [(2, (.pointer (some ⟨nb ρ1 0, 0, none⟩))), (4, (.pointer (some ⟨nb ρ1 1, 0, none⟩))), (5, (.pointer (some ⟨nb ρ3 0, 0, none⟩))), (6, (.int .i64 ((q : Nat) : Int))), (7, (.int .i64 ((r : Nat) : Int))), (8, (.int .i64 ((q : Nat) : Int)))])
    (fun _ => [(nb ρ1 0, (.cells (cU a) 24 (0, 0))), (nb ρ1 1, (.cells (cU 0) 24 (0, 0))), (nb ρ3 0, (.cells (cU 0) 24 (0, 0)))]) := by
  refine reg_seq [0, 1] [2, 4, 5, 6, 7, 8] 2
    (fun _ ι => ([(.int .i64 ((q : Nat) : Int)), (.int .i64 ((q : Nat) : Int))] : List Value).getD ι undef)
    (fun _ ι => ([{}, {}] : List Eff).getD ι {})
    (by as_aux_lemma => kernel_rfl) (by as_aux_lemma => kernel_rfl) (fun _ => by as_aux_lemma => kernel_rfl) (fun _ => by as_aux_lemma => kernel_rfl) ⟨⟨trivial, ?_⟩, ?_⟩
  · exact o_run 0 [] [] (fun _ _ => []) (fun _ _ => by as_aux_lemma => kernel_rfl)
  · exact o_run 1 [] [] (fun _ _ => []) (fun _ _ => by as_aux_lemma => kernel_rfl)
theorem shl_mid_r7 (a : Nat) (q : Nat) (r : Nat) (i : Nat) (f : Nat → Int) (ρ1 : Nat → Orc) (ρ3 : Nat → Orc) (w0 : World) : Reg Try.prog 8 (regOps Try.f88 8) false 51 [(2, (.pointer (some ⟨nb ρ1 0, 0, none⟩))), (4, (.pointer (some ⟨nb ρ1 1, 0, none⟩))), (5, (.pointer (some ⟨nb ρ3 0, 0, none⟩))), (6, (.int .i64 ((q : Nat) : Int))), (7, (.int .i64 ((r : Nat) : Int))), (8, (.int .i64 ((i : Nat) : Int)))] w0 [(nb ρ1 0, (.cells (cU a) 24 (0, 0))), (nb ρ1 1, (.cells (cU 0) 24 (0, 0))), (nb ρ3 0, (.cells (c4 f) 24 (0, 0)))] (fun _ => True)
    (fun _ => [(2, (.pointer (some ⟨nb ρ1 0, 0, none⟩))), (4, (.pointer (some ⟨nb ρ1 1, 0, none⟩))), (5, (.pointer (some ⟨nb ρ3 0, 0, none⟩))), (6, (.int .i64 ((q : Nat) : Int))), (7, (.int .i64 ((r : Nat) : Int))), (8, (.int .i64 ((i : Nat) : Int))), (21, (.bool (decide (((i : Nat) : Int) < 4))))])
    (fun _ => [(nb ρ1 0, (.cells (cU a) 24 (0, 0))), (nb ρ1 1, (.cells (cU 0) 24 (0, 0))), (nb ρ3 0, (.cells (c4 f) 24 (0, 0)))]) := by
  refine reg_seq [0, 1] [2, 4, 5, 6, 7, 8, 21] 2
    (fun _ ι => ([(.int .i64 ((i : Nat) : Int)), (.bool (decide (((i : Nat) : Int) < 4)))] : List Value).getD ι undef)
    (fun _ ι => ([{}, {}] : List Eff).getD ι {})
    (by as_aux_lemma => kernel_rfl) (by as_aux_lemma => kernel_rfl) (fun _ => by as_aux_lemma => kernel_rfl) (fun _ => by as_aux_lemma => kernel_rfl) ⟨⟨trivial, ?_⟩, ?_⟩
  · exact o_run 0 [] [] (fun _ _ => []) (fun _ _ => by as_aux_lemma => kernel_rfl)
  · exact o_run 1 [] [] (fun _ _ => []) (fun _ _ => by as_aux_lemma => kernel_rfl)
theorem shl_mid_r8 (a : Nat) (q : Nat) (r : Nat) (hq : q < 4) (i : Nat) (f : Nat → Int) (hi : q ≤ i ∧ i ≤ 4) (hb1 : (decide (((i : Nat) : Int) < 4)) = true) (ρ1 : Nat → Orc) (ρ3 : Nat → Orc) (w0 : World) : Reg Try.prog 10 (regOps Try.f88 10) false 51 [(2, (.pointer (some ⟨nb ρ1 0, 0, none⟩))), (4, (.pointer (some ⟨nb ρ1 1, 0, none⟩))), (5, (.pointer (some ⟨nb ρ3 0, 0, none⟩))), (6, (.int .i64 ((q : Nat) : Int))), (7, (.int .i64 ((r : Nat) : Int))), (8, (.int .i64 ((i : Nat) : Int))), (21, (.bool true))] w0 [(nb ρ1 0, (.cells (cU a) 24 (0, 0))), (nb ρ1 1, (.cells (cU 0) 24 (0, 0))), (nb ρ3 0, (.cells (c4 f) 24 (0, 0)))] (fun _ => True)
    (fun _ => [(2, (.pointer (some ⟨nb ρ1 0, 0, none⟩))), (4, (.pointer (some ⟨nb ρ1 1, 0, none⟩))), (5, (.pointer (some ⟨nb ρ3 0, 0, none⟩))), (6, (.int .i64 ((q : Nat) : Int))), (7, (.int .i64 ((r : Nat) : Int))), (8, (.int .i64 ((i : Nat) : Int)))])
    (fun _ => [(nb ρ1 0, (.cells (cU a) 24 (0, 0))), (nb ρ1 1, (.cells (cU 0) 24 (0, 0))), (nb ρ3 0, (.cells (c4 (updf f i (shlW (wd a (i - q)) r))) 24 (0, 0)))]) := by
  refine reg_seq [0, 1, 3, 7, 15, 31, 63, 127, 255, 511] [2, 4, 5, 6, 7, 8] 10
    (fun _ ι => ([(.int .i64 ((i : Nat) : Int)), (.int .i64 ((i : Nat) : Int)), (.int .i64 ((q : Nat) : Int)), (.int .i64 ((i - q : Nat) : Int)), (.pointer (some ⟨nb ρ1 0, i - q, none⟩)), (.int .u64 (wd a (i - q))), (.int .i64 ((r : Nat) : Int)), (.int .u64 (shlW (wd a (i - q)) r)), (.pointer (some ⟨nb ρ3 0, i, none⟩)), undef] : List Value).getD ι undef)
    (fun _ ι => ([{}, {}, {}, {}, {}, {}, {}, {}, {}, { puts := [(2, (.cells (c4 (updf f i (shlW (wd a (i - q)) r))) 24 (0, 0)))] }] : List Eff).getD ι {})
    (by as_aux_lemma => kernel_rfl) (by as_aux_lemma => kernel_rfl) (fun _ => by as_aux_lemma => kernel_rfl) (fun _ => by as_aux_lemma => kernel_rfl) ⟨⟨⟨⟨⟨⟨⟨⟨⟨⟨trivial, ?_⟩, ?_⟩, ?_⟩, ?_⟩, ?_⟩, ?_⟩, ?_⟩, ?_⟩, ?_⟩, ?_⟩
  · exact o_run 0 [] [] (fun _ _ => []) (fun _ _ => by as_aux_lemma => kernel_rfl)
  · exact o_run 1 [] [] (fun _ _ => []) (fun _ _ => by as_aux_lemma => kernel_rfl)
  · exact o_run 2 [] [] (fun _ _ => []) (fun _ _ => by as_aux_lemma => kernel_rfl)
  · exact o_as 3 (fun _ => (.int .i64 (IntKind.i64.wrap (((i : Nat) : Int) - ((q : Nat) : Int))))) (fun _ => (.int .i64 ((i - q : Nat) : Int))) (fun _ _ => by as_aux_lemma => kernel_rfl) (fun _ => congrArg (Value.int .i64) (wrap_sub_nat i q (by have h1 := of_decide_eq_true hb1; have h2 := hi; have h4 := hq; omega) (by have h1 := of_decide_eq_true hb1; have h2 := hi; have h4 := hq; omega)))
  · exact o_sem 4 (fun _ => do pure (Next.value (← Instr.indexAt 24 (.pointer (some ⟨nb ρ1 0, 0, none⟩)) (.int .i64 ((i - q : Nat) : Int))))) (fun _ => (.pointer (some ⟨nb ρ1 0, i - q, none⟩))) (fun _ => by as_aux_lemma => kernel_rfl) (fun _ => by as_aux_lemma => kernel_rfl) (fun _ w => run_idx_nat (n := ((i - q : Nat) : Int)) (i := i - q) Try.underlying24 Try.sizeOf22 (⟨rfl, (by have h1 := of_decide_eq_true hb1; have h2 := hi; have h4 := hq; omega)⟩) w)
  · exact o_ld 5 0 22 (fun _ => nb ρ1 0) (fun _ => i - q) (fun _ => (cU a)) 24 (0, 0) (fun _ => (.int .u64 (wd a (i - q)))) (fun _ => by as_aux_lemma => kernel_rfl) Try.isAgg22 (fun _ => cU_get a (i - q) (by have h1 := of_decide_eq_true hb1; have h2 := hi; have h4 := hq; omega))
  · exact o_run 6 [] [] (fun _ _ => []) (fun _ _ => by as_aux_lemma => kernel_rfl)
  · exact o_bin 7 .shl 22 (fun _ => (.int .u64 (wd a (i - q)))) (fun _ => (.int .i64 ((r : Nat) : Int))) (fun _ => (.int .u64 (shlW (wd a (i - q)) r))) (fun _ => by as_aux_lemma => kernel_rfl) (fun _ _ _ _ => by as_aux_lemma => kernel_rfl) (fun _ w => run_shl (wd a (i - q)) r w)
  · exact o_sem 8 (fun _ => do pure (Next.value (← Instr.indexAt 24 (.pointer (some ⟨nb ρ3 0, 0, none⟩)) (.int .i64 ((i : Nat) : Int))))) (fun _ => (.pointer (some ⟨nb ρ3 0, i, none⟩))) (fun _ => by as_aux_lemma => kernel_rfl) (fun _ => by as_aux_lemma => kernel_rfl) (fun _ w => run_idx_nat (n := ((i : Nat) : Int)) (i := i) Try.underlying24 Try.sizeOf22 (⟨rfl, (by have h1 := of_decide_eq_true hb1; have h2 := hi; have h4 := hq; omega)⟩) w)
  · exact o_st 9 2 22 (fun _ => nb ρ3 0) (fun _ => i) (fun _ => (c4 f)) (fun _ => (c4 (updf f i (shlW (wd a (i - q)) r)))) 24 (fun _ => (.int .u64 (shlW (wd a (i - q)) r))) (fun _ => by as_aux_lemma => kernel_rfl) Try.sizeOf22 (fun _ => rfl) (fun _ => (show _ < 4 from (by have h1 := of_decide_eq_true hb1; have h2 := hi; have h4 := hq; omega))) (fun _ => c4_set f i (shlW (wd a (i - q)) r) (by have h1 := of_decide_eq_true hb1; have h2 := hi; have h4 := hq; omega))
theorem shl_mid_r9 (a : Nat) (q : Nat) (r : Nat) (i : Nat) (f : Nat → Int) (ρ1 : Nat → Orc) (ρ3 : Nat → Orc) (w0 : World) : Reg Try.prog 11 (regOps Try.f88 11) false 51 [(2, (.pointer (some ⟨nb ρ1 0, 0, none⟩))), (4, (.pointer (some ⟨nb ρ1 1, 0, none⟩))), (5, (.pointer (some ⟨nb ρ3 0, 0, none⟩))), (6, (.int .i64 ((q : Nat) : Int))), (7, (.int .i64 ((r : Nat) : Int))), (8, (.int .i64 ((i : Nat) : Int)))] w0 [(nb ρ1 0, (.cells (cU a) 24 (0, 0))), (nb ρ1 1, (.cells (cU 0) 24 (0, 0))), (nb ρ3 0, (.cells (c4 (updf f i (shlW (wd a (i - q)) r))) 24 (0, 0)))] (fun _ => True)
    (fun _ => [(2, (.pointer (some ⟨nb ρ1 0, 0, none⟩))), (4, (.pointer (some ⟨nb ρ1 1, 0, none⟩))), (5, (.pointer (some ⟨nb ρ3 0, 0, none⟩))), (6, (.int .i64 ((q : Nat) : Int))), (7, (.int .i64 ((r : Nat) : Int))), (8, (.int .i64 ((i : Nat) : Int))), (35, (.bool (decide (((q : Nat) : Int) < ((i : Nat) : Int)))))])
    (fun _ => [(nb ρ1 0, (.cells (cU a) 24 (0, 0))), (nb ρ1 1, (.cells (cU 0) 24 (0, 0))), (nb ρ3 0, (.cells (c4 (updf f i (shlW (wd a (i - q)) r))) 24 (0, 0)))]) := by
  refine reg_seq [0, 1, 3] [2, 4, 5, 6, 7, 8, 35] 3
    (fun _ ι => ([(.int .i64 ((i : Nat) : Int)), (.int .i64 ((q : Nat) : Int)), (.bool (decide (((q : Nat) : Int) < ((i : Nat) : Int))))] : List Value).getD ι undef)
    (fun _ ι => ([{}, {}, {}] : List Eff).getD ι {})
    (by as_aux_lemma => kernel_rfl) (by as_aux_lemma => kernel_rfl) (fun _ => by as_aux_lemma => kernel_rfl) (fun _ => by as_aux_lemma => kernel_rfl) ⟨⟨⟨trivial, ?_⟩, ?_⟩, ?_⟩
  · exact o_run 0 [] [] (fun _ _ => []) (fun _ _ => by as_aux_lemma => kernel_rfl)
  · exact o_run 1 [] [] (fun _ _ => []) (fun _ _ => by as_aux_lemma => kernel_rfl)
  · exact o_run 2 [] [] (fun _ _ => []) (fun _ _ => by as_aux_lemma => kernel_rfl)
theorem shl_mid_r10 (a : Nat) (q : Nat) (r : Nat) (hq : q < 4) (hr : r < 64) (i : Nat) (f : Nat → Int) (hi : q ≤ i ∧ i ≤ 4) (hb1 : (decide (((i : Nat) : Int) < 4)) = true) (hb2 : (decide (((q : Nat) : Int) < ((i : Nat) : Int))) = true) (ρ1 : Nat → Orc) (ρ3 : Nat → Orc) (w0 : World) : Reg Try.prog 12 (regOps Try.f88 12) true 51 [(2, (.pointer (some ⟨nb ρ1 0, 0, none⟩))), (4, (.pointer (some ⟨nb ρ1 1, 0, none⟩))), (5, (.pointer (some ⟨nb ρ3 0, 0, none⟩))), (6, (.int .i64 ((q : Nat) : Int))), (7, (.int .i64 ((r : Nat) : Int))), (8, (.int .i64 ((i : Nat) : Int))), (35, (.bool true))] w0 [(nb ρ1 0, (.cells (cU a) 24 (0, 0))), (nb ρ1 1, (.cells (cU 0) 24 (0, 0))), (nb ρ3 0, (.cells (c4 (updf f i (shlW (wd a (i - q)) r))) 24 (0, 0)))] (fun _ => True)
    (fun _ => [(2, (.pointer (some ⟨nb ρ1 0, 0, none⟩))), (4, (.pointer (some ⟨nb ρ1 1, 0, none⟩))), (5, (.pointer (some ⟨nb ρ3 0, 0, none⟩))), (6, (.int .i64 ((q : Nat) : Int))), (7, (.int .i64 ((r : Nat) : Int))), (8, (.int .i64 ((i : Nat) : Int)))])
    (fun _ => [(nb ρ1 0, (.cells (cU a) 24 (0, 0))), (nb ρ1 1, (.cells (cU 0) 24 (0, 0))), (nb ρ3 0, (.cells (c4 (updf (updf f i (shlW (wd a (i - q)) r)) i (bits .or .u64 (shlW (wd a (i - q)) r) (shrW (wd a (i - q - 1)) (64 - r))))) 24 (0, 0)))]) := by
  refine reg_drawn [0, 1, 3, 0, 0, 24, 56, 120, 248, 0, 512, 2040, 4095, 8191, 16383] [2, 4, 5, 6, 7, 8] 15
    (fun _ ι => ([(.int .i64 ((i : Nat) : Int)), (.pointer (some ⟨nb ρ3 0, i, none⟩)), (.int .u64 (shlW (wd a (i - q)) r)), (.int .i64 ((i : Nat) : Int)), (.int .i64 ((q : Nat) : Int)), (.int .i64 ((i - q : Nat) : Int)), (.int .i64 ((i - q - 1 : Nat) : Int)), (.pointer (some ⟨nb ρ1 0, i - q - 1, none⟩)), (.int .u64 (wd a (i - q - 1))), (.int .i64 ((r : Nat) : Int)), (.int .i64 ((64 - r : Nat) : Int)), (.int .u64 (shrW (wd a (i - q - 1)) (64 - r))), (.int .u64 (bits .or .u64 (shlW (wd a (i - q)) r) (shrW (wd a (i - q - 1)) (64 - r)))), (.pointer (some ⟨nb ρ3 0, i, none⟩)), undef] : List Value).getD ι undef)
    (fun _ ι => ([{}, {}, {}, {}, {}, {}, {}, {}, {}, {}, {}, {}, {}, {}, { puts := [(2, (.cells (c4 (updf (updf f i (shlW (wd a (i - q)) r)) i (bits .or .u64 (shlW (wd a (i - q)) r) (shrW (wd a (i - q - 1)) (64 - r))))) 24 (0, 0)))] }] : List Eff).getD ι {})
    (by as_aux_lemma => kernel_rfl) (by as_aux_lemma => kernel_rfl) (by as_aux_lemma => kernel_rfl) (fun _ => by as_aux_lemma => kernel_rfl) (fun _ => by as_aux_lemma => kernel_rfl) ⟨⟨⟨⟨⟨⟨⟨⟨⟨⟨⟨⟨⟨⟨⟨trivial, ?_⟩, ?_⟩, ?_⟩, ?_⟩, ?_⟩, ?_⟩, ?_⟩, ?_⟩, ?_⟩, ?_⟩, ?_⟩, ?_⟩, ?_⟩, ?_⟩, ?_⟩
  · exact o_run 0 [] [] (fun _ _ => []) (fun _ _ => by as_aux_lemma => kernel_rfl)
  · exact o_sem 1 (fun _ => do pure (Next.value (← Instr.indexAt 24 (.pointer (some ⟨nb ρ3 0, 0, none⟩)) (.int .i64 ((i : Nat) : Int))))) (fun _ => (.pointer (some ⟨nb ρ3 0, i, none⟩))) (fun _ => by as_aux_lemma => kernel_rfl) (fun _ => by as_aux_lemma => kernel_rfl) (fun _ w => run_idx_nat (n := ((i : Nat) : Int)) (i := i) Try.underlying24 Try.sizeOf22 (⟨rfl, (by have h1 := of_decide_eq_true hb1; have h2 := hi; have h4 := hq; have h3 := of_decide_eq_true hb2; omega)⟩) w)
  · exact o_ld 2 2 22 (fun _ => nb ρ3 0) (fun _ => i) (fun _ => (c4 (updf f i (shlW (wd a (i - q)) r)))) 24 (0, 0) (fun _ => (.int .u64 (shlW (wd a (i - q)) r))) (fun _ => by as_aux_lemma => kernel_rfl) Try.isAgg22 (fun _ => c4_get_upd f i _ (by have h1 := of_decide_eq_true hb1; have h2 := hi; have h4 := hq; have h3 := of_decide_eq_true hb2; omega))
  · exact o_run 3 [] [] (fun _ _ => []) (fun _ _ => by as_aux_lemma => kernel_rfl)
  · exact o_run 4 [] [] (fun _ _ => []) (fun _ _ => by as_aux_lemma => kernel_rfl)
  · exact o_as 5 (fun _ => (.int .i64 (IntKind.i64.wrap (((i : Nat) : Int) - ((q : Nat) : Int))))) (fun _ => (.int .i64 ((i - q : Nat) : Int))) (fun _ _ => by as_aux_lemma => kernel_rfl) (fun _ => congrArg (Value.int .i64) (wrap_sub_nat i q (by have h1 := of_decide_eq_true hb1; have h2 := hi; have h4 := hq; have h3 := of_decide_eq_true hb2; omega) (by have h1 := of_decide_eq_true hb1; have h2 := hi; have h4 := hq; have h3 := of_decide_eq_true hb2; omega)))
  · exact o_as 6 (fun _ => (.int .i64 (IntKind.i64.wrap (((i - q : Nat) : Int) - 1)))) (fun _ => (.int .i64 ((i - q - 1 : Nat) : Int))) (fun _ _ => by as_aux_lemma => kernel_rfl) (fun _ => congrArg (Value.int .i64) (wrap_sub_nat (i - q) 1 (by have h1 := of_decide_eq_true hb1; have h2 := hi; have h4 := hq; have h3 := of_decide_eq_true hb2; omega) (by have h1 := of_decide_eq_true hb1; have h2 := hi; have h4 := hq; have h3 := of_decide_eq_true hb2; omega)))
  · exact o_sem 7 (fun _ => do pure (Next.value (← Instr.indexAt 24 (.pointer (some ⟨nb ρ1 0, 0, none⟩)) (.int .i64 ((i - q - 1 : Nat) : Int))))) (fun _ => (.pointer (some ⟨nb ρ1 0, i - q - 1, none⟩))) (fun _ => by as_aux_lemma => kernel_rfl) (fun _ => by as_aux_lemma => kernel_rfl) (fun _ w => run_idx_nat (n := ((i - q - 1 : Nat) : Int)) (i := i - q - 1) Try.underlying24 Try.sizeOf22 (⟨rfl, (by have h1 := of_decide_eq_true hb1; have h2 := hi; have h4 := hq; have h3 := of_decide_eq_true hb2; omega)⟩) w)
  · exact o_ld 8 0 22 (fun _ => nb ρ1 0) (fun _ => i - q - 1) (fun _ => (cU a)) 24 (0, 0) (fun _ => (.int .u64 (wd a (i - q - 1)))) (fun _ => by as_aux_lemma => kernel_rfl) Try.isAgg22 (fun _ => cU_get a (i - q - 1) (by have h1 := of_decide_eq_true hb1; have h2 := hi; have h4 := hq; have h3 := of_decide_eq_true hb2; omega))
  · exact o_run 9 [] [] (fun _ _ => []) (fun _ _ => by as_aux_lemma => kernel_rfl)
  · exact o_as 10 (fun _ => (.int .i64 (IntKind.i64.wrap (64 - ((r : Nat) : Int))))) (fun _ => (.int .i64 ((64 - r : Nat) : Int))) (fun _ _ => by as_aux_lemma => kernel_rfl) (fun _ => congrArg (Value.int .i64) (wrap_sub_nat 64 r (by have := hr; omega) (by have := hr; omega)))
  · exact o_bin 11 .shr 22 (fun _ => (.int .u64 (wd a (i - q - 1)))) (fun _ => (.int .i64 ((64 - r : Nat) : Int))) (fun _ => (.int .u64 (shrW (wd a (i - q - 1)) (64 - r)))) (fun _ => by as_aux_lemma => kernel_rfl) (fun _ _ _ _ => by as_aux_lemma => kernel_rfl) (fun _ w => run_shr (wd a (i - q - 1)) (64 - r) w)
  · exact o_run 12 [] [] (fun _ _ => []) (fun _ _ => by as_aux_lemma => kernel_rfl)
  · exact o_sem 13 (fun _ => do pure (Next.value (← Instr.indexAt 24 (.pointer (some ⟨nb ρ3 0, 0, none⟩)) (.int .i64 ((i : Nat) : Int))))) (fun _ => (.pointer (some ⟨nb ρ3 0, i, none⟩))) (fun _ => by as_aux_lemma => kernel_rfl) (fun _ => by as_aux_lemma => kernel_rfl) (fun _ w => run_idx_nat (n := ((i : Nat) : Int)) (i := i) Try.underlying24 Try.sizeOf22 (⟨rfl, (by have h1 := of_decide_eq_true hb1; have h2 := hi; have h4 := hq; have h3 := of_decide_eq_true hb2; omega)⟩) w)
  · exact o_st 14 2 22 (fun _ => nb ρ3 0) (fun _ => i) (fun _ => (c4 (updf f i (shlW (wd a (i - q)) r)))) (fun _ => (c4 (updf (updf f i (shlW (wd a (i - q)) r)) i (bits .or .u64 (shlW (wd a (i - q)) r) (shrW (wd a (i - q - 1)) (64 - r)))))) 24 (fun _ => (.int .u64 (bits .or .u64 (shlW (wd a (i - q)) r) (shrW (wd a (i - q - 1)) (64 - r))))) (fun _ => by as_aux_lemma => kernel_rfl) Try.sizeOf22 (fun _ => rfl) (fun _ => (show _ < 4 from (by have h1 := of_decide_eq_true hb1; have h2 := hi; have h4 := hq; have h3 := of_decide_eq_true hb2; omega))) (fun _ => c4_set (updf f i (shlW (wd a (i - q)) r)) i (bits .or .u64 (shlW (wd a (i - q)) r) (shrW (wd a (i - q - 1)) (64 - r))) (by have h1 := of_decide_eq_true hb1; have h2 := hi; have h4 := hq; have h3 := of_decide_eq_true hb2; omega))
theorem shl_mid_r11 (a : Nat) (q : Nat) (r : Nat) (hq : q < 4) (i : Nat) (f : Nat → Int) (hi : q ≤ i ∧ i ≤ 4) (hb1 : (decide (((i : Nat) : Int) < 4)) = true) (hb2 : (decide (((q : Nat) : Int) < ((i : Nat) : Int))) = true) (ρ1 : Nat → Orc) (ρ3 : Nat → Orc) (w0 : World) : Reg Try.prog 9 (regOps Try.f88 9) false 51 [(2, (.pointer (some ⟨nb ρ1 0, 0, none⟩))), (4, (.pointer (some ⟨nb ρ1 1, 0, none⟩))), (5, (.pointer (some ⟨nb ρ3 0, 0, none⟩))), (6, (.int .i64 ((q : Nat) : Int))), (7, (.int .i64 ((r : Nat) : Int))), (8, (.int .i64 ((i : Nat) : Int)))] w0 [(nb ρ1 0, (.cells (cU a) 24 (0, 0))), (nb ρ1 1, (.cells (cU 0) 24 (0, 0))), (nb ρ3 0, (.cells (c4 (updf (updf f i (shlW (wd a (i - q)) r)) i (bits .or .u64 (shlW (wd a (i - q)) r) (shrW (wd a (i - q - 1)) (64 - r))))) 24 (0, 0)))] (fun _ => True)
    (fun _ => [(2, (.pointer (some ⟨nb ρ1 0, 0, none⟩))), (4, (.pointer (some ⟨nb ρ1 1, 0, none⟩))), (5, (.pointer (some ⟨nb ρ3 0, 0, none⟩))), (6, (.int .i64 ((q : Nat) : Int))), (7, (.int .i64 ((r : Nat) : Int))), (8, (.int .i64 ((i + 1 : Nat) : Int)))])
    (fun _ => [(nb ρ1 0, (.cells (cU a) 24 (0, 0))), (nb ρ1 1, (.cells (cU 0) 24 (0, 0))), (nb ρ3 0, (.cells (c4 (updf (updf f i (shlW (wd a (i - q)) r)) i (bits .or .u64 (shlW (wd a (i - q)) r) (shrW (wd a (i - q - 1)) (64 - r))))) 24 (0, 0)))]) := by
  refine reg_seq [0, 1, 3] [2, 4, 5, 6, 7, 8] 3
    (fun _ ι => ([(.int .i64 ((i : Nat) : Int)), (.int .i64 ((i + 1 : Nat) : Int)), (.int .i64 ((i + 1 : Nat) : Int))] : List Value).getD ι undef)
    (fun _ ι => ([{}, {}, {}] : List Eff).getD ι {})
    (by as_aux_lemma => kernel_rfl) (by as_aux_lemma => kernel_rfl) (fun _ => by as_aux_lemma => kernel_rfl) (fun _ => by as_aux_lemma => kernel_rfl) ⟨⟨⟨trivial, ?_⟩, ?_⟩, ?_⟩
  · exact o_run 0 [] [] (fun _ _ => []) (fun _ _ => by as_aux_lemma => kernel_rfl)
  · exact o_as 1 (fun _ => (.int .i64 (IntKind.i64.wrap (((i : Nat) : Int) + 1)))) (fun _ => (.int .i64 ((i + 1 : Nat) : Int))) (fun _ _ => by as_aux_lemma => kernel_rfl) (fun _ => congrArg (Value.int .i64) (wrap_add_nat i 1 (by have h1 := of_decide_eq_true hb1; have h2 := hi; have h4 := hq; have h3 := of_decide_eq_true hb2; omega)))
  · exact o_run 2 [] [] (fun _ _ => []) (fun _ _ => by as_aux_lemma => kernel_rfl)
theorem shl_mid_r12 (a : Nat) (q : Nat) (r : Nat) (hq : q < 4) (i : Nat) (f : Nat → Int) (hi : q ≤ i ∧ i ≤ 4) (hb1 : (decide (((i : Nat) : Int) < 4)) = true) (ρ1 : Nat → Orc) (ρ3 : Nat → Orc) (w0 : World) : Reg Try.prog 9 (regOps Try.f88 9) false 51 [(2, (.pointer (some ⟨nb ρ1 0, 0, none⟩))), (4, (.pointer (some ⟨nb ρ1 1, 0, none⟩))), (5, (.pointer (some ⟨nb ρ3 0, 0, none⟩))), (6, (.int .i64 ((q : Nat) : Int))), (7, (.int .i64 ((r : Nat) : Int))), (8, (.int .i64 ((i : Nat) : Int))), (35, (.bool false))] w0 [(nb ρ1 0, (.cells (cU a) 24 (0, 0))), (nb ρ1 1, (.cells (cU 0) 24 (0, 0))), (nb ρ3 0, (.cells (c4 (updf f i (shlW (wd a (i - q)) r))) 24 (0, 0)))] (fun _ => True)
    (fun _ => [(2, (.pointer (some ⟨nb ρ1 0, 0, none⟩))), (4, (.pointer (some ⟨nb ρ1 1, 0, none⟩))), (5, (.pointer (some ⟨nb ρ3 0, 0, none⟩))), (6, (.int .i64 ((q : Nat) : Int))), (7, (.int .i64 ((r : Nat) : Int))), (8, (.int .i64 ((i + 1 : Nat) : Int)))])
    (fun _ => [(nb ρ1 0, (.cells (cU a) 24 (0, 0))), (nb ρ1 1, (.cells (cU 0) 24 (0, 0))), (nb ρ3 0, (.cells (c4 (updf f i (shlW (wd a (i - q)) r))) 24 (0, 0)))]) := by
  refine reg_seq [0, 1, 3] [2, 4, 5, 6, 7, 8] 3
    (fun _ ι => ([(.int .i64 ((i : Nat) : Int)), (.int .i64 ((i + 1 : Nat) : Int)), (.int .i64 ((i + 1 : Nat) : Int))] : List Value).getD ι undef)
    (fun _ ι => ([{}, {}, {}] : List Eff).getD ι {})
    (by as_aux_lemma => kernel_rfl) (by as_aux_lemma => kernel_rfl) (fun _ => by as_aux_lemma => kernel_rfl) (fun _ => by as_aux_lemma => kernel_rfl) ⟨⟨⟨trivial, ?_⟩, ?_⟩, ?_⟩
  · exact o_run 0 [] [] (fun _ _ => []) (fun _ _ => by as_aux_lemma => kernel_rfl)
  · exact o_as 1 (fun _ => (.int .i64 (IntKind.i64.wrap (((i : Nat) : Int) + 1)))) (fun _ => (.int .i64 ((i + 1 : Nat) : Int))) (fun _ _ => by as_aux_lemma => kernel_rfl) (fun _ => congrArg (Value.int .i64) (wrap_add_nat i 1 (by have h1 := of_decide_eq_true hb1; have h2 := hi; have h4 := hq; omega)))
  · exact o_run 2 [] [] (fun _ _ => []) (fun _ _ => by as_aux_lemma => kernel_rfl)
theorem shl_mid_r13 (a : Nat) (q : Nat) (r : Nat) (i : Nat) (f : Nat → Int) (ρ1 : Nat → Orc) (ρ3 : Nat → Orc) (w0 : World) : Reg Try.prog 13 (regOps Try.f88 13) false 51 [(2, (.pointer (some ⟨nb ρ1 0, 0, none⟩))), (4, (.pointer (some ⟨nb ρ1 1, 0, none⟩))), (5, (.pointer (some ⟨nb ρ3 0, 0, none⟩))), (6, (.int .i64 ((q : Nat) : Int))), (7, (.int .i64 ((r : Nat) : Int))), (8, (.int .i64 ((i : Nat) : Int))), (21, (.bool false))] w0 [(nb ρ1 0, (.cells (cU a) 24 (0, 0))), (nb ρ1 1, (.cells (cU 0) 24 (0, 0))), (nb ρ3 0, (.cells (c4 f) 24 (0, 0)))] (fun _ => True)
    (fun _ => [(4, (.pointer (some ⟨nb ρ1 1, 0, none⟩)))])
    (fun _ => [(nb ρ1 0, (.cells (cU a) 24 (0, 0))), (nb ρ1 1, (.cells (c4 f) 24 (0, 0))), (nb ρ3 0, (.cells (c4 f) 24 (0, 0)))]) := by
  refine reg_seq [0, 1] [4] 2
    (fun _ ι => ([(.agg (c4 f)), undef] : List Value).getD ι undef)
    (fun _ ι => ([{}, { puts := [(1, (.cells (c4 f) 24 (0, 0)))] }] : List Eff).getD ι {})
    (by as_aux_lemma => kernel_rfl) (by as_aux_lemma => kernel_rfl) (fun _ => by as_aux_lemma => kernel_rfl) (fun _ => by as_aux_lemma => kernel_rfl) ⟨⟨trivial, ?_⟩, ?_⟩
  · exact o_run 0 [2] [] (fun _ _ => [nb ρ3 0, nb ρ3 0, nb ρ3 0, nb ρ3 0]) (fun _ _ => by as_aux_lemma => kernel_rfl)
  · exact o_run 1 [1] [] (fun _ _ => [nb ρ1 1, nb ρ1 1, nb ρ1 1, nb ρ1 1]) (fun _ _ => by as_aux_lemma => kernel_rfl)
theorem shl_mid (a : Nat) (q : Nat) (r : Nat) (ha : a < M) (hq : q < 4) (hr : r < 64) (w0 : World) : Calls Try.prog 88 #[(U a), (.int .i64 ((64 * q + r : Nat) : Int))] w0 (fun ε w' => ε = .returned (U (shlN a (64 * q + r))) ∧ Below w0.heap.size w0 w') := by
  refine Calls.of_ok (n := 51) (F := fun _ => True) Try.func88 rfl rfl rfl (by simp) (persTrue (fun _ => trivial)) ?_
  have hk0 : decide (((64 * q + r : Nat) : Int) < 0) = false := decide_eq_false (by omega)
  have hk1 : decide (256 ≤ ((64 * q + r : Nat) : Int)) = false := decide_eq_false (by omega)
  refine ok_seq_r (by as_aux_lemma => kernel_rfl) (shl_mid_r1 a q r _) (fun ρ1 => ?_)
  refine ok_seq ?_
  refine ok_seq_r (by as_aux_lemma => kernel_rfl) (shl_mid_r2 a q r hk0 ρ1 _) (fun _ => ?_)
  refine ok_no (by as_aux_lemma => kernel_rfl) ?_
  refine ok_skip ?_
  refine mt_then ?_
  refine ok_seq_r (by as_aux_lemma => kernel_rfl) (shl_mid_r3 a q r ρ1 _) (fun ρ3 => ?_)
  refine ok_seq ?_
  refine ok_seq_r (by as_aux_lemma => kernel_rfl) (shl_mid_r4 a q r hk1 ρ1 ρ3 _) (fun _ => ?_)
  refine ok_no (by as_aux_lemma => kernel_rfl) ?_
  refine ok_skip ?_
  refine mt_then ?_
  refine ok_seq_r (by as_aux_lemma => kernel_rfl) (shl_mid_r5 a q r hq hr ρ1 ρ3 _) (fun _ => ?_)
  refine ok_seq ?_
  refine ok_seq_r (by as_aux_lemma => kernel_rfl) (shl_mid_r6 a q r ρ1 ρ3 _) (fun _ => ?_)
  refine ok_block ?_
  refine ok_loop (σ := Nat × (Nat → Int)) (fun ⟨i, _⟩ => [(2, (.pointer (some ⟨nb ρ1 0, 0, none⟩))), (4, (.pointer (some ⟨nb ρ1 1, 0, none⟩))), (5, (.pointer (some ⟨nb ρ3 0, 0, none⟩))), (6, (.int .i64 ((q : Nat) : Int))), (7, (.int .i64 ((r : Nat) : Int))), (8, (.int .i64 ((i : Nat) : Int)))]) (fun ⟨_, f⟩ => [(nb ρ1 0, (.cells (cU a) 24 (0, 0))), (nb ρ1 1, (.cells (cU 0) 24 (0, 0))), (nb ρ3 0, (.cells (c4 f) 24 (0, 0)))]) (fun ⟨i, _⟩ => 4 - i)
    (fun ⟨i, f⟩ => (q ≤ i ∧ i ≤ 4) ∧ (shlR a q r i f)) (q, (fun _ => 0)) (⟨by omega, shl_start a q r⟩) (by as_aux_lemma => kernel_rfl) (.cons_cons _ (.cons_cons _ (.cons_cons _ .slnil))) ?_
  rintro ⟨i, f⟩ ⟨hi, hf⟩
  change Ok Try.prog _ _ 51 [(2, (.pointer (some ⟨nb ρ1 0, 0, none⟩))), (4, (.pointer (some ⟨nb ρ1 1, 0, none⟩))), (5, (.pointer (some ⟨nb ρ3 0, 0, none⟩))), (6, (.int .i64 ((q : Nat) : Int))), (7, (.int .i64 ((r : Nat) : Int))), (8, (.int .i64 ((i : Nat) : Int)))] _ [(nb ρ1 0, (.cells (cU a) 24 (0, 0))), (nb ρ1 1, (.cells (cU 0) 24 (0, 0))), (nb ρ3 0, (.cells (c4 f) 24 (0, 0)))] (fun _ => True)
  refine ok_seq ?_
  refine ok_seq_r (by as_aux_lemma => kernel_rfl) (shl_mid_r7 a q r i f ρ1 ρ3 _) (fun _ => ?_)
  refine ok_cond (b := decide (((i : Nat) : Int) < 4)) (by as_aux_lemma => kernel_rfl) (fun hb1 => ?_) (fun hb1 => ?_)
  ·
    rw [hb1]
    refine ok_skip ?_
    refine mt_then ?_
    refine ok_seq ?_
    refine ok_block ?_
    refine ok_seq_r (by as_aux_lemma => kernel_rfl) (shl_mid_r8 a q r hq i f hi hb1 ρ1 ρ3 _) (fun _ => ?_)
    refine ok_seq_r (by as_aux_lemma => kernel_rfl) (shl_mid_r9 a q r i f ρ1 ρ3 _) (fun _ => ?_)
    refine ok_cond (b := decide (((q : Nat) : Int) < ((i : Nat) : Int))) (by as_aux_lemma => kernel_rfl) (fun hb2 => ?_) (fun hb2 => ?_)
    ·
      rw [hb2]
      refine ok_r (by as_aux_lemma => kernel_rfl) (shl_mid_r10 a q r hq hr i f hi hb1 hb2 ρ1 ρ3 _) (fun _ => ?_)
      refine mt_block_n ?_
      refine mt_then ?_
      refine ok_r (by as_aux_lemma => kernel_rfl) (shl_mid_r11 a q r hq i f hi hb1 hb2 ρ1 ρ3 _) (fun _ => ?_)
      exact mt_round (i + 1, updf (updf f i (shlW (wd a (i - q)) r)) i (bits .or .u64 (shlW (wd a (i - q)) r) (shrW (wd a (i - q - 1)) (64 - r)))) (by show 4 - (i + 1) < 4 - i; have h1 := of_decide_eq_true hb1; have h2 := hi; have h4 := hq; omega) (⟨by have h1 := of_decide_eq_true hb1; have h2 := hi; have h4 := hq; omega, by exact shl_yes hf (of_decide_eq_true hb2)⟩) (by as_aux_lemma => kernel_rfl) (.cons_cons _ (.cons_cons _ (.cons_cons _ .slnil)))
    ·
      rw [hb2]
      refine ok_skip ?_
      refine mt_block_n ?_
      refine mt_then ?_
      refine ok_r (by as_aux_lemma => kernel_rfl) (shl_mid_r12 a q r hq i f hi hb1 ρ1 ρ3 _) (fun _ => ?_)
      exact mt_round (i + 1, updf f i (shlW (wd a (i - q)) r)) (by show 4 - (i + 1) < 4 - i; have h1 := of_decide_eq_true hb1; have h2 := hi; have h4 := hq; omega) (⟨by have h1 := of_decide_eq_true hb1; have h2 := hi; have h4 := hq; omega, by exact shl_no hf hi.1 (of_decide_eq_false hb2)⟩) (by as_aux_lemma => kernel_rfl) (.cons_cons _ (.cons_cons _ (.cons_cons _ .slnil)))
  ·
    rw [hb1]
    refine ok_exit ?_
    refine mt_then_e ?_
    refine mt_then_e ?_
    refine mt_block_h ?_
    refine mt_then ?_
    refine ok_seq_r (by as_aux_lemma => kernel_rfl) (shl_mid_r13 a q r i f ρ1 ρ3 _) (fun _ => ?_)
    refine ok_ret ?_
    exact meets_ret (v := (.agg (c4 f))) [1, 1, 1, 1] (dup [nb ρ1 1, nb ρ1 1, nb ρ1 1, nb ρ1 1]) (by as_aux_lemma => kernel_rfl) (by as_aux_lemma => kernel_rfl) (eqs_dup _) (fun _ hS => ⟨congrArg Ending.returned (shl_end ha hq hr (by have h1 := of_decide_eq_false hb1; have h2 := hi; omega) hf), hS.below⟩)
theorem shl_any (a : Nat) (n : Int) (w0 : World) (ha : a < M) : Calls Try.prog 88 #[U a, .int .i64 n] w0 (fun ε w' => ε = .returned (U (shlZ a n)) ∧ Below w0.heap.size w0 w') := by
  unfold shlZ
  by_cases h0 : n < 0
  · rw [if_pos h0]; exact shl_neg a n h0 w0
  · rw [if_neg h0]
    by_cases h1 : 256 ≤ n
    · rw [shlN_big a (by omega)]; exact shl_big a n h1 w0
    · obtain ⟨k, rfl⟩ := Int.eq_ofNat_of_zero_le (by omega : 0 ≤ n)
      rw [Int.toNat_natCast]
      have e : k = 64 * (k / 64) + k % 64 := by omega
      have h := shl_mid a (k / 64) (k % 64) ha (by omega) (by omega) w0
      rw [← e] at h
      exact h
theorem shr_neg_r1 (a : Nat) (n : Int) (w0 : World) : Reg Try.prog 0 (regOps Try.f87 0) false 53 [(0, (U a)), (1, (.int .i64 n))] w0 [] (fun _ => True)
    (fun ρ => [(1, (.int .i64 n)), (2, (.pointer (some ⟨nb ρ 0, 0, none⟩))), (4, (.pointer (some ⟨nb ρ 1, 0, none⟩)))])
    (fun ρ => [(nb ρ 0, (.cells (cU a) 24 (0, 0))), (nb ρ 1, (.cells (cU 0) 24 (0, 0)))]) := by
  refine reg_seq [0, 1] [1, 2, 4] 2
    (fun ρ ι => ([(.pointer (some ⟨nb ρ 0, 0, none⟩)), (.pointer (some ⟨nb ρ 1, 0, none⟩))] : List Value).getD ι undef)
    (fun ρ ι => ([{ news := [(nb ρ 0, (.cells (cU a) 24 (0, 0)))] }, { news := [(nb ρ 1, (.cells (cU 0) 24 (0, 0)))] }] : List Eff).getD ι {})
    (by as_aux_lemma => kernel_rfl) (by as_aux_lemma => kernel_rfl) (fun _ => by as_aux_lemma => kernel_rfl) (fun _ => by as_aux_lemma => kernel_rfl) ⟨⟨trivial, ?_⟩, ?_⟩
  · exact o_run 0 [] [] (fun _ _ => []) (fun _ _ => by as_aux_lemma => kernel_rfl)
  · exact o_run 1 [] [] (fun _ _ => []) (fun _ _ => by as_aux_lemma => kernel_rfl)
theorem shr_neg_r2 (a : Nat) (n : Int) (hk0 : decide (n < 0) = true) (ρ1 : Nat → Orc) (w0 : World) : Reg Try.prog 1 (regOps Try.f87 1) false 53 [(1, (.int .i64 n)), (2, (.pointer (some ⟨nb ρ1 0, 0, none⟩))), (4, (.pointer (some ⟨nb ρ1 1, 0, none⟩)))] w0 [(nb ρ1 0, (.cells (cU a) 24 (0, 0))), (nb ρ1 1, (.cells (cU 0) 24 (0, 0)))] (fun _ => True)
    (fun _ => [(1, (.int .i64 n)), (2, (.pointer (some ⟨nb ρ1 0, 0, none⟩))), (4, (.pointer (some ⟨nb ρ1 1, 0, none⟩))), (10, (.bool true))])
    (fun _ => [(nb ρ1 0, (.cells (cU a) 24 (0, 0))), (nb ρ1 1, (.cells (cU 0) 24 (0, 0)))]) := by
  refine reg_seq [0, 1] [1, 2, 4, 10] 2
    (fun _ ι => ([(.int .i64 n), (.bool true)] : List Value).getD ι undef)
    (fun _ ι => ([{}, {}] : List Eff).getD ι {})
    (by as_aux_lemma => kernel_rfl) (by as_aux_lemma => kernel_rfl) (fun _ => by as_aux_lemma => kernel_rfl) (fun _ => by as_aux_lemma => kernel_rfl) ⟨⟨trivial, ?_⟩, ?_⟩
  · exact o_run 0 [] [] (fun _ _ => []) (fun _ _ => by as_aux_lemma => kernel_rfl)
  · exact o_as 1 (fun _ => (.bool (decide (n < 0)))) (fun _ => (.bool true)) (fun _ _ => by as_aux_lemma => kernel_rfl) (fun _ => congrArg Value.bool hk0)
theorem shr_neg_r3 (a : Nat) (n : Int) (ρ1 : Nat → Orc) (w0 : World) : Reg Try.prog 2 (regOps Try.f87 2) false 53 [(1, (.int .i64 n)), (2, (.pointer (some ⟨nb ρ1 0, 0, none⟩))), (4, (.pointer (some ⟨nb ρ1 1, 0, none⟩))), (10, (.bool true))] w0 [(nb ρ1 0, (.cells (cU a) 24 (0, 0))), (nb ρ1 1, (.cells (cU 0) 24 (0, 0)))] (fun _ => True)
    (fun _ => [(1, (.int .i64 n)), (2, (.pointer (some ⟨nb ρ1 0, 0, none⟩))), (4, (.pointer (some ⟨nb ρ1 1, 0, none⟩)))])
    (fun _ => [(nb ρ1 0, (.cells (cU a) 24 (0, 0))), (nb ρ1 1, (.cells (cU a) 24 (0, 0)))]) := by
  refine reg_seq [0, 1] [1, 2, 4] 2
    (fun _ ι => ([(U a), undef] : List Value).getD ι undef)
    (fun _ ι => ([{}, { puts := [(1, (.cells (cU a) 24 (0, 0)))] }] : List Eff).getD ι {})
    (by as_aux_lemma => kernel_rfl) (by as_aux_lemma => kernel_rfl) (fun _ => by as_aux_lemma => kernel_rfl) (fun _ => by as_aux_lemma => kernel_rfl) ⟨⟨trivial, ?_⟩, ?_⟩
  · exact o_run 0 [0] [] (fun _ _ => [nb ρ1 0, nb ρ1 0, nb ρ1 0, nb ρ1 0]) (fun _ _ => by as_aux_lemma => kernel_rfl)
  · exact o_run 1 [1] [] (fun _ _ => [nb ρ1 1, nb ρ1 1, nb ρ1 1, nb ρ1 1]) (fun _ _ => by as_aux_lemma => kernel_rfl)
theorem shr_neg (a : Nat) (n : Int) (hn : n < 0) (w0 : World) : Calls Try.prog 87 #[(U a), (.int .i64 n)] w0 (fun ε w' => ε = .returned (U a) ∧ Below w0.heap.size w0 w') := by
  refine Calls.of_ok (n := 53) (F := fun _ => True) Try.func87 rfl rfl rfl (by simp) (persTrue (fun _ => trivial)) ?_
  have hk0 : decide (n < 0) = true := decide_eq_true hn
  refine ok_seq_r (by as_aux_lemma => kernel_rfl) (shr_neg_r1 a n _) (fun ρ1 => ?_)
  refine ok_seq ?_
  refine ok_seq_r (by as_aux_lemma => kernel_rfl) (shr_neg_r2 a n hk0 ρ1 _) (fun _ => ?_)
  refine ok_yes (by as_aux_lemma => kernel_rfl) ?_
  refine ok_seq_r (by as_aux_lemma => kernel_rfl) (shr_neg_r3 a n ρ1 _) (fun _ => ?_)
  refine ok_ret ?_
  refine mt_then_r ?_
  exact meets_ret (v := (U a)) [1, 1, 1, 1] (dup [nb ρ1 1, nb ρ1 1, nb ρ1 1, nb ρ1 1]) (by as_aux_lemma => kernel_rfl) (by as_aux_lemma => kernel_rfl) (eqs_dup _) (fun _ hS => ⟨rfl, hS.below⟩)
theorem shr_big_r1 (a : Nat) (n : Int) (w0 : World) : Reg Try.prog 0 (regOps Try.f87 0) false 53 [(0, (U a)), (1, (.int .i64 n))] w0 [] (fun _ => True)
    (fun ρ => [(1, (.int .i64 n)), (2, (.pointer (some ⟨nb ρ 0, 0, none⟩))), (4, (.pointer (some ⟨nb ρ 1, 0, none⟩)))])
    (fun ρ => [(nb ρ 0, (.cells (cU a) 24 (0, 0))), (nb ρ 1, (.cells (cU 0) 24 (0, 0)))]) := by
  refine reg_seq [0, 1] [1, 2, 4] 2
    (fun ρ ι => ([(.pointer (some ⟨nb ρ 0, 0, none⟩)), (.pointer (some ⟨nb ρ 1, 0, none⟩))] : List Value).getD ι undef)
    (fun ρ ι => ([{ news := [(nb ρ 0, (.cells (cU a) 24 (0, 0)))] }, { news := [(nb ρ 1, (.cells (cU 0) 24 (0, 0)))] }] : List Eff).getD ι {})
    (by as_aux_lemma => kernel_rfl) (by as_aux_lemma => kernel_rfl) (fun _ => by as_aux_lemma => kernel_rfl) (fun _ => by as_aux_lemma => kernel_rfl) ⟨⟨trivial, ?_⟩, ?_⟩
  · exact o_run 0 [] [] (fun _ _ => []) (fun _ _ => by as_aux_lemma => kernel_rfl)
  · exact o_run 1 [] [] (fun _ _ => []) (fun _ _ => by as_aux_lemma => kernel_rfl)
theorem shr_big_r2 (a : Nat) (n : Int) (hk0 : decide (n < 0) = false) (ρ1 : Nat → Orc) (w0 : World) : Reg Try.prog 1 (regOps Try.f87 1) false 53 [(1, (.int .i64 n)), (2, (.pointer (some ⟨nb ρ1 0, 0, none⟩))), (4, (.pointer (some ⟨nb ρ1 1, 0, none⟩)))] w0 [(nb ρ1 0, (.cells (cU a) 24 (0, 0))), (nb ρ1 1, (.cells (cU 0) 24 (0, 0)))] (fun _ => True)
    (fun _ => [(1, (.int .i64 n)), (2, (.pointer (some ⟨nb ρ1 0, 0, none⟩))), (4, (.pointer (some ⟨nb ρ1 1, 0, none⟩))), (10, (.bool false))])
    (fun _ => [(nb ρ1 0, (.cells (cU a) 24 (0, 0))), (nb ρ1 1, (.cells (cU 0) 24 (0, 0)))]) := by
  refine reg_seq [0, 1] [1, 2, 4, 10] 2
    (fun _ ι => ([(.int .i64 n), (.bool false)] : List Value).getD ι undef)
    (fun _ ι => ([{}, {}] : List Eff).getD ι {})
    (by as_aux_lemma => kernel_rfl) (by as_aux_lemma => kernel_rfl) (fun _ => by as_aux_lemma => kernel_rfl) (fun _ => by as_aux_lemma => kernel_rfl) ⟨⟨trivial, ?_⟩, ?_⟩
  · exact o_run 0 [] [] (fun _ _ => []) (fun _ _ => by as_aux_lemma => kernel_rfl)
  · exact o_as 1 (fun _ => (.bool (decide (n < 0)))) (fun _ => (.bool false)) (fun _ _ => by as_aux_lemma => kernel_rfl) (fun _ => congrArg Value.bool hk0)
theorem shr_big_r3 (a : Nat) (n : Int) (ρ1 : Nat → Orc) (w0 : World) : Reg Try.prog 3 (regOps Try.f87 3) false 53 [(1, (.int .i64 n)), (2, (.pointer (some ⟨nb ρ1 0, 0, none⟩))), (4, (.pointer (some ⟨nb ρ1 1, 0, none⟩))), (10, (.bool false))] w0 [(nb ρ1 0, (.cells (cU a) 24 (0, 0))), (nb ρ1 1, (.cells (cU 0) 24 (0, 0)))] (fun _ => True)
    (fun ρ => [(1, (.int .i64 n)), (2, (.pointer (some ⟨nb ρ1 0, 0, none⟩))), (4, (.pointer (some ⟨nb ρ1 1, 0, none⟩))), (5, (.pointer (some ⟨nb ρ 0, 0, none⟩)))])
    (fun ρ => [(nb ρ1 0, (.cells (cU a) 24 (0, 0))), (nb ρ1 1, (.cells (cU 0) 24 (0, 0))), (nb ρ 0, (.cells (cU 0) 24 (0, 0)))]) := by
  refine reg_seq [0] [1, 2, 4, 5] 1
    (fun ρ ι => ([(.pointer (some ⟨nb ρ 0, 0, none⟩))] : List Value).getD ι undef)
    (fun ρ ι => ([{ news := [(nb ρ 0, (.cells (cU 0) 24 (0, 0)))] }] : List Eff).getD ι {})
    (by as_aux_lemma => kernel_rfl) (by as_aux_lemma => kernel_rfl) (fun _ => by as_aux_lemma => kernel_rfl) (fun _ => by as_aux_lemma => kernel_rfl) ⟨trivial, ?_⟩
  · exact o_run 0 [] [] (fun _ _ => []) (fun _ _ => by as_aux_lemma => kernel_rfl)
theorem shr_big_r4 (a : Nat) (n : Int) (hk1 : decide (256 ≤ n) = true) (ρ1 : Nat → Orc) (ρ3 : Nat → Orc) (w0 : World) : Reg Try.prog 4 (regOps Try.f87 4) false 53 [(1, (.int .i64 n)), (2, (.pointer (some ⟨nb ρ1 0, 0, none⟩))), (4, (.pointer (some ⟨nb ρ1 1, 0, none⟩))), (5, (.pointer (some ⟨nb ρ3 0, 0, none⟩)))] w0 [(nb ρ1 0, (.cells (cU a) 24 (0, 0))), (nb ρ1 1, (.cells (cU 0) 24 (0, 0))), (nb ρ3 0, (.cells (cU 0) 24 (0, 0)))] (fun _ => True)
    (fun _ => [(1, (.int .i64 n)), (2, (.pointer (some ⟨nb ρ1 0, 0, none⟩))), (4, (.pointer (some ⟨nb ρ1 1, 0, none⟩))), (5, (.pointer (some ⟨nb ρ3 0, 0, none⟩))), (13, (.bool true))])
    (fun _ => [(nb ρ1 0, (.cells (cU a) 24 (0, 0))), (nb ρ1 1, (.cells (cU 0) 24 (0, 0))), (nb ρ3 0, (.cells (cU 0) 24 (0, 0)))]) := by
  refine reg_seq [0, 1] [1, 2, 4, 5, 13] 2
    (fun _ ι => ([(.int .i64 n), (.bool true)] : List Value).getD ι undef)
    (fun _ ι => ([{}, {}] : List Eff).getD ι {})
    (by as_aux_lemma => kernel_rfl) (by as_aux_lemma => kernel_rfl) (fun _ => by as_aux_lemma => kernel_rfl) (fun _ => by as_aux_lemma => kernel_rfl) ⟨⟨trivial, ?_⟩, ?_⟩
  · exact o_run 0 [] [] (fun _ _ => []) (fun _ _ => by as_aux_lemma => kernel_rfl)
  · exact o_as 1 (fun _ => (.bool (decide (256 ≤ n)))) (fun _ => (.bool true)) (fun _ _ => by as_aux_lemma => kernel_rfl) (fun _ => congrArg Value.bool hk1)
theorem shr_big_r5 (a : Nat) (n : Int) (ρ1 : Nat → Orc) (ρ3 : Nat → Orc) (w0 : World) : Reg Try.prog 5 (regOps Try.f87 5) false 53 [(1, (.int .i64 n)), (2, (.pointer (some ⟨nb ρ1 0, 0, none⟩))), (4, (.pointer (some ⟨nb ρ1 1, 0, none⟩))), (5, (.pointer (some ⟨nb ρ3 0, 0, none⟩))), (13, (.bool true))] w0 [(nb ρ1 0, (.cells (cU a) 24 (0, 0))), (nb ρ1 1, (.cells (cU 0) 24 (0, 0))), (nb ρ3 0, (.cells (cU 0) 24 (0, 0)))] (fun _ => True)
    (fun _ => [(1, (.int .i64 n)), (2, (.pointer (some ⟨nb ρ1 0, 0, none⟩))), (4, (.pointer (some ⟨nb ρ1 1, 0, none⟩))), (5, (.pointer (some ⟨nb ρ3 0, 0, none⟩)))])
    (fun _ => [(nb ρ1 0, (.cells (cU a) 24 (0, 0))), (nb ρ1 1, (.cells (cU 0) 24 (0, 0))), (nb ρ3 0, (.cells (cU 0) 24 (0, 0)))]) := by
  refine reg_seq [0, 1] [1, 2, 4, 5] 2
    (fun _ ι => ([(U 0), undef] : List Value).getD ι undef)
    (fun _ ι => ([{}, { puts := [(1, (.cells (cU 0) 24 (0, 0)))] }] : List Eff).getD ι {})
    (by as_aux_lemma => kernel_rfl) (by as_aux_lemma => kernel_rfl) (fun _ => by as_aux_lemma => kernel_rfl) (fun _ => by as_aux_lemma => kernel_rfl) ⟨⟨trivial, ?_⟩, ?_⟩
  · exact o_run 0 [2] [] (fun _ _ => [nb ρ3 0, nb ρ3 0, nb ρ3 0, nb ρ3 0]) (fun _ _ => by as_aux_lemma => kernel_rfl)
  · exact o_run 1 [1] [] (fun _ _ => [nb ρ1 1, nb ρ1 1, nb ρ1 1, nb ρ1 1]) (fun _ _ => by as_aux_lemma => kernel_rfl)
theorem shr_big (a : Nat) (n : Int) (hn : 256 ≤ n) (w0 : World) : Calls Try.prog 87 #[(U a), (.int .i64 n)] w0 (fun ε w' => ε = .returned (U 0) ∧ Below w0.heap.size w0 w') := by
  refine Calls.of_ok (n := 53) (F := fun _ => True) Try.func87 rfl rfl rfl (by simp) (persTrue (fun _ => trivial)) ?_
  have hk0 : decide (n < 0) = false := decide_eq_false (by omega)
  have hk1 : decide (256 ≤ n) = true := decide_eq_true hn
  refine ok_seq_r (by as_aux_lemma => kernel_rfl) (shr_big_r1 a n _) (fun ρ1 => ?_)
  refine ok_seq ?_
  refine ok_seq_r (by as_aux_lemma => kernel_rfl) (shr_big_r2 a n hk0 ρ1 _) (fun _ => ?_)
  refine ok_no (by as_aux_lemma => kernel_rfl) ?_
  refine ok_skip ?_
  refine mt_then ?_
  refine ok_seq_r (by as_aux_lemma => kernel_rfl) (shr_big_r3 a n ρ1 _) (fun ρ3 => ?_)
  refine ok_seq ?_
  refine ok_seq_r (by as_aux_lemma => kernel_rfl) (shr_big_r4 a n hk1 ρ1 ρ3 _) (fun _ => ?_)
  refine ok_yes (by as_aux_lemma => kernel_rfl) ?_
  refine ok_seq_r (by as_aux_lemma => kernel_rfl) (shr_big_r5 a n ρ1 ρ3 _) (fun _ => ?_)
  refine ok_ret ?_
  refine mt_then_r ?_
  exact meets_ret (v := (U 0)) [1, 1, 1, 1] (dup [nb ρ1 1, nb ρ1 1, nb ρ1 1, nb ρ1 1]) (by as_aux_lemma => kernel_rfl) (by as_aux_lemma => kernel_rfl) (eqs_dup _) (fun _ hS => ⟨rfl, hS.below⟩)
theorem shr_mid_r1 (a : Nat) (q : Nat) (r : Nat) (w0 : World) : Reg Try.prog 0 (regOps Try.f87 0) false 53 [(0, (U a)), (1, (.int .i64 ((64 * q + r : Nat) : Int)))] w0 [] (fun _ => True)
    (fun ρ => [(1, (.int .i64 ((64 * q + r : Nat) : Int))), (2, (.pointer (some ⟨nb ρ 0, 0, none⟩))), (4, (.pointer (some ⟨nb ρ 1, 0, none⟩)))])
    (fun ρ => [(nb ρ 0, (.cells (cU a) 24 (0, 0))), (nb ρ 1, (.cells (cU 0) 24 (0, 0)))]) := by
  refine reg_seq [0, 1] [1, 2, 4] 2
    (fun ρ ι => ([(.pointer (some ⟨nb ρ 0, 0, none⟩)), (.pointer (some ⟨nb ρ 1, 0, none⟩))] : List Value).getD ι undef)
    (fun ρ ι => ([{ news := [(nb ρ 0, (.cells (cU a) 24 (0, 0)))] }, { news := [(nb ρ 1, (.cells (cU 0) 24 (0, 0)))] }] : List Eff).getD ι {})
    (by as_aux_lemma => kernel_rfl) (by as_aux_lemma => kernel_rfl) (fun _ => by as_aux_lemma => kernel_rfl) (fun _ => by as_aux_lemma => kernel_rfl) ⟨⟨trivial, ?_⟩, ?_⟩
  · exact o_run 0 [] [] (fun _ _ => []) (fun _ _ => by as_aux_lemma => kernel_rfl)
  · exact o_run 1 [] [] (fun _ _ => []) (fun _ _ => by as_aux_lemma => kernel_rfl)
theorem shr_mid_r2 (a : Nat) (q : Nat) (r : Nat) (hk0 : decide (((64 * q + r : Nat) : Int) < 0) = false) (ρ1 : Nat → Orc) (w0 : World) : Reg Try.prog 1 (regOps Try.f87 1) false 53 [(1, (.int .i64 ((64 * q + r : Nat) : Int))), (2, (.pointer (some ⟨nb ρ1 0, 0, none⟩))), (4, (.pointer (some ⟨nb ρ1 1, 0, none⟩)))] w0 [(nb ρ1 0, (.cells (cU a) 24 (0, 0))), (nb ρ1 1, (.cells (cU 0) 24 (0, 0)))] (fun _ => True)
    (fun _ => [(1, (.int .i64 ((64 * q + r : Nat) : Int))), (2, (.pointer (some ⟨nb ρ1 0, 0, none⟩))), (4, (.pointer (some ⟨nb ρ1 1, 0, none⟩))), (10, (.bool false))])
    (fun _ => [(nb ρ1 0, (.cells (cU a) 24 (0, 0))), (nb ρ1 1, (.cells (cU 0) 24 (0, 0)))]) := by
  refine reg_seq [0, 1] [1, 2, 4, 10] 2
    (fun _ ι => ([(.int .i64 ((64 * q + r : Nat) : Int)), (.bool false)] : List Value).getD ι undef)
    (fun _ ι => ([{}, {}] : List Eff).getD ι {})
    (by as_aux_lemma => kernel_rfl) (by as_aux_lemma => kernel_rfl) (fun _ => by as_aux_lemma => kernel_rfl) (fun _ => by as_aux_lemma => kernel_rfl) ⟨⟨trivial, ?_⟩, ?_⟩
  · exact o_run 0 [] [] (fun _ _ => []) (fun _ _ => by as_aux_lemma => kernel_rfl)
  · exact o_as 1 (fun _ => (.bool (decide (((64 * q + r : Nat) : Int) < 0)))) (fun _ => (.bool false)) (fun _ _ => by as_aux_lemma => kernel_rfl) (fun _ => congrArg Value.bool hk0)
theorem shr_mid_r3 (a : Nat) (q : Nat) (r : Nat) (ρ1 : Nat → Orc) (w0 : World) : Reg Try.prog 3 (regOps Try.f87 3) false 53 [(1, (.int .i64 ((64 * q + r : Nat) : Int))), (2, (.pointer (some ⟨nb ρ1 0, 0, none⟩))), (4, (.pointer (some ⟨nb ρ1 1, 0, none⟩))), (10, (.bool false))] w0 [(nb ρ1 0, (.cells (cU a) 24 (0, 0))), (nb ρ1 1, (.cells (cU 0) 24 (0, 0)))] (fun _ => True)
    (fun ρ => [(1, (.int .i64 ((64 * q + r : Nat) : Int))), (2, (.pointer (some ⟨nb ρ1 0, 0, none⟩))), (4, (.pointer (some ⟨nb ρ1 1, 0, none⟩))), (5, (.pointer (some ⟨nb ρ 0, 0, none⟩)))])
    (fun ρ => [(nb ρ1 0, (.cells (cU a) 24 (0, 0))), (nb ρ1 1, (.cells (cU 0) 24 (0, 0))), (nb ρ 0, (.cells (cU 0) 24 (0, 0)))]) := by
  refine reg_seq [0] [1, 2, 4, 5] 1
    (fun ρ ι => ([(.pointer (some ⟨nb ρ 0, 0, none⟩))] : List Value).getD ι undef)
    (fun ρ ι => ([{ news := [(nb ρ 0, (.cells (cU 0) 24 (0, 0)))] }] : List Eff).getD ι {})
    (by as_aux_lemma => kernel_rfl) (by as_aux_lemma => kernel_rfl) (fun _ => by as_aux_lemma => kernel_rfl) (fun _ => by as_aux_lemma => kernel_rfl) ⟨trivial, ?_⟩
  · exact o_run 0 [] [] (fun _ _ => []) (fun _ _ => by as_aux_lemma => kernel_rfl)
theorem shr_mid_r4 (a : Nat) (q : Nat) (r : Nat) (hk1 : decide (256 ≤ ((64 * q + r : Nat) : Int)) = false) (ρ1 : Nat → Orc) (ρ3 : Nat → Orc) (w0 : World) : Reg Try.prog 4 (regOps Try.f87 4) false 53 [(1, (.int .i64 ((64 * q + r : Nat) : Int))), (2, (.pointer (some ⟨nb ρ1 0, 0, none⟩))), (4, (.pointer (some ⟨nb ρ1 1, 0, none⟩))), (5, (.pointer (some ⟨nb ρ3 0, 0, none⟩)))] w0 [(nb ρ1 0, (.cells (cU a) 24 (0, 0))), (nb ρ1 1, (.cells (cU 0) 24 (0, 0))), (nb ρ3 0, (.cells (cU 0) 24 (0, 0)))] (fun _ => True)
    (fun _ => [(1, (.int .i64 ((64 * q + r : Nat) : Int))), (2, (.pointer (some ⟨nb ρ1 0, 0, none⟩))), (4, (.pointer (some ⟨nb ρ1 1, 0, none⟩))), (5, (.pointer (some ⟨nb ρ3 0, 0, none⟩))), (13, (.bool false))])
    (fun _ => [(nb ρ1 0, (.cells (cU a) 24 (0, 0))), (nb ρ1 1, (.cells (cU 0) 24 (0, 0))), (nb ρ3 0, (.cells (cU 0) 24 (0, 0)))]) := by
  refine reg_seq [0, 1] [1, 2, 4, 5, 13] 2
    (fun _ ι => ([(.int .i64 ((64 * q + r : Nat) : Int)), (.bool false)] : List Value).getD ι undef)
    (fun _ ι => ([{}, {}] : List Eff).getD ι {})
    (by as_aux_lemma => kernel_rfl) (by as_aux_lemma => kernel_rfl) (fun _ => by as_aux_lemma => kernel_rfl) (fun _ => by as_aux_lemma => kernel_rfl) ⟨⟨trivial, ?_⟩, ?_⟩
  · exact o_run 0 [] [] (fun _ _ => []) (fun _ _ => by as_aux_lemma => kernel_rfl)
  · exact o_as 1 (fun _ => (.bool (decide (256 ≤ ((64 * q + r : Nat) : Int))))) (fun _ => (.bool false)) (fun _ _ => by as_aux_lemma => kernel_rfl) (fun _ => congrArg Value.bool hk1)
theorem shr_mid_r5 (a : Nat) (q : Nat) (r : Nat) (hq : q < 4) (hr : r < 64) (ρ1 : Nat → Orc) (ρ3 : Nat → Orc) (w0 : World) : Reg Try.prog 6 (regOps Try.f87 6) false 53 [(1, (.int .i64 ((64 * q + r : Nat) : Int))), (2, (.pointer (some ⟨nb ρ1 0, 0, none⟩))), (4, (.pointer (some ⟨nb ρ1 1, 0, none⟩))), (5, (.pointer (some ⟨nb ρ3 0, 0, none⟩))), (13, (.bool false))] w0 [(nb ρ1 0, (.cells (cU a) 24 (0, 0))), (nb ρ1 1, (.cells (cU 0) 24 (0, 0))), (nb ρ3 0, (.cells (cU 0) 24 (0, 0)))] (fun _ => True)
    (fun _ => [(2, (.pointer (some ⟨nb ρ1 0, 0, none⟩))), (4, (.pointer (some ⟨nb ρ1 1, 0, none⟩))), (5, (.pointer (some ⟨nb ρ3 0, 0, none⟩))), (6, (.int .i64 ((q : Nat) : Int))), (7, (.int .i64 ((r : Nat) : Int)))])
    (fun _ => [(nb ρ1 0, (.cells (cU a) 24 (0, 0))), (nb ρ1 1, (.cells (cU 0) 24 (0, 0))), (nb ρ3 0, (.cells (cU 0) 24 (0, 0)))]) := by
  refine reg_seq [0, 1, 3, 7, 15, 31] [2, 4, 5, 6, 7] 6
    (fun _ ι => ([(.int .i64 ((64 * q + r : Nat) : Int)), (.int .i64 ((q : Nat) : Int)), (.int .i64 ((64 * q + r : Nat) : Int)), (.int .i64 ((r : Nat) : Int)), (.int .i64 ((q : Nat) : Int)), (.int .i64 ((r : Nat) : Int))] : List Value).getD ι undef)
    (fun _ ι => ([{}, {}, {}, {}, {}, {}] : List Eff).getD ι {})
    (by as_aux_lemma => kernel_rfl) (by as_aux_lemma => kernel_rfl) (fun _ => by as_aux_lemma => kernel_rfl) (fun _ => by as_aux_lemma => kernel_rfl) ⟨⟨⟨⟨⟨⟨trivial, ?_⟩, ?_⟩, ?_⟩, ?_⟩, ?_⟩, ?_⟩
  · exact o_run 0 [] [] (fun _ _ => []) (fun _ _ => by as_aux_lemma => kernel_rfl)
  · exact o_bin 1 .quo 3 (fun _ => (.int .i64 ((64 * q + r : Nat) : Int))) (fun _ => (.int .i64 64)) (fun _ => (.int .i64 ((q : Nat) : Int))) (fun _ => by as_aux_lemma => kernel_rfl) (fun _ _ _ _ => by as_aux_lemma => kernel_rfl) (fun _ w => run_quo_nat (64 * q + r) 64 q (by decide) (by have := hr; have := hq; omega) (by have := hr; have := hq; omega) w)
  · exact o_run 2 [] [] (fun _ _ => []) (fun _ _ => by as_aux_lemma => kernel_rfl)
  · exact o_bin 3 .rem 3 (fun _ => (.int .i64 ((64 * q + r : Nat) : Int))) (fun _ => (.int .i64 64)) (fun _ => (.int .i64 ((r : Nat) : Int))) (fun _ => by as_aux_lemma => kernel_rfl) (fun _ _ _ _ => by as_aux_lemma => kernel_rfl) (fun _ w => run_rem_nat (64 * q + r) 64 r (by decide) (by have := hr; omega) w)
  · exact o_run 4 [] [] (fun _ _ => []) (fun _ _ => by as_aux_lemma => kernel_rfl)
  · exact o_run 5 [] [] (fun _ _ => []) (fun _ _ => by as_aux_lemma => kernel_rfl)
theorem shr_mid_r6 (a : Nat) (q : Nat) (r : Nat) (hq : q < 4) (ρ1 : Nat → Orc) (ρ3 : Nat → Orc) (w0 : World) : Reg Try.prog 7 (regOps Try.f87 7) false 53 [(2, (.pointer (some ⟨nb ρ1 0, 0, none⟩))), (4, (.pointer (some ⟨nb ρ1 1, 0, none⟩))), (5, (.pointer (some ⟨nb ρ3 0, 0, none⟩))), (6, (.int .i64 ((q : Nat) : Int))), (7, (.int .i64 ((r : Nat) : Int)))] w0 [(nb ρ1 0, (.cells (cU a) 24 (0, 0))), (nb ρ1 1, (.cells (cU 0) 24 (0, 0))), (nb ρ3 0, (.cells (cU 0) 24 (0, 0)))] (fun _ => True)
    (fun _ => [(2, (.pointer (some ⟨nb ρ1 0, 0, none⟩))), (4, (.pointer (some ⟨nb ρ1 1, 0, none⟩))), (5, (.pointer (some ⟨nb ρ3 0, 0, none⟩))), (6, (.int .i64 ((q : Nat) : Int))), (7, (.int .i64 ((r : Nat) : Int))), (20, (.int .i64 ((4 - q : Nat) : Int))), (21, (.int .i64 0))])
    (fun _ => [(nb ρ1 0, (.cells (cU a) 24 (0, 0))), (nb ρ1 1, (.cells (cU 0) 24 (0, 0))), (nb ρ3 0, (.cells (cU 0) 24 (0, 0)))]) := by
  refine reg_seq [0, 1, 3] [2, 4, 5, 6, 7, 20, 21] 3
    (fun _ ι => ([(.int .i64 ((q : Nat) : Int)), (.int .i64 ((4 - q : Nat) : Int)), (.int .i64 0)] : List Value).getD ι undef)
    (fun _ ι => ([{}, {}, {}] : List Eff).getD ι {})
    (by as_aux_lemma => kernel_rfl) (by as_aux_lemma => kernel_rfl) (fun _ => by as_aux_lemma => kernel_rfl) (fun _ => by as_aux_lemma => kernel_rfl) ⟨⟨⟨trivial, ?_⟩, ?_⟩, ?_⟩
  · exact o_run 0 [] [] (fun _ _ => []) (fun _ _ => by as_aux_lemma => kernel_rfl)
  · exact o_as 1 (fun _ => (.int .i64 (IntKind.i64.wrap (4 - ((q : Nat) : Int))))) (fun _ => (.int .i64 ((4 - q : Nat) : Int))) (fun _ _ => by as_aux_lemma => kernel_rfl) (fun _ => congrArg (Value.int .i64) (wrap_sub_nat 4 q (by have := hq; omega) (by have := hq; omega)))
  · exact o_run 2 [] [] (fun _ _ => []) (fun _ _ => by as_aux_lemma => kernel_rfl)
theorem shr_mid_r7 (a : Nat) (q : Nat) (r : Nat) (i : Nat) (f : Nat → Int) (ρ1 : Nat → Orc) (ρ3 : Nat → Orc) (w0 : World) : Reg Try.prog 8 (regOps Try.f87 8) false 53 [(2, (.pointer (some ⟨nb ρ1 0, 0, none⟩))), (4, (.pointer (some ⟨nb ρ1 1, 0, none⟩))), (5, (.pointer (some ⟨nb ρ3 0, 0, none⟩))), (6, (.int .i64 ((q : Nat) : Int))), (7, (.int .i64 ((r : Nat) : Int))), (20, (.int .i64 ((4 - q : Nat) : Int))), (21, (.int .i64 ((i : Nat) : Int)))] w0 [(nb ρ1 0, (.cells (cU a) 24 (0, 0))), (nb ρ1 1, (.cells (cU 0) 24 (0, 0))), (nb ρ3 0, (.cells (c4 f) 24 (0, 0)))] (fun _ => True)
    (fun _ => [(2, (.pointer (some ⟨nb ρ1 0, 0, none⟩))), (4, (.pointer (some ⟨nb ρ1 1, 0, none⟩))), (5, (.pointer (some ⟨nb ρ3 0, 0, none⟩))), (6, (.int .i64 ((q : Nat) : Int))), (7, (.int .i64 ((r : Nat) : Int))), (20, (.int .i64 ((4 - q : Nat) : Int))), (21, (.int .i64 ((i : Nat) : Int))), (22, (.bool (decide (((i : Nat) : Int) < ((4 - q : Nat) : Int)))))])
    (fun _ => [(nb ρ1 0, (.cells (cU a) 24 (0, 0))), (nb ρ1 1, (.cells (cU 0) 24 (0, 0))), (nb ρ3 0, (.cells (c4 f) 24 (0, 0)))]) := by
  refine reg_seq [0] [2, 4, 5, 6, 7, 20, 21, 22] 1
    (fun _ ι => ([(.bool (decide (((i : Nat) : Int) < ((4 - q : Nat) : Int))))] : List Value).getD ι undef)
    (fun _ ι => ([{}] : List Eff).getD ι {})
    (by as_aux_lemma => kernel_rfl) (by as_aux_lemma => kernel_rfl) (fun _ => by as_aux_lemma => kernel_rfl) (fun _ => by as_aux_lemma => kernel_rfl) ⟨trivial, ?_⟩
  · exact o_run 0 [] [] (fun _ _ => []) (fun _ _ => by as_aux_lemma => kernel_rfl)
theorem shr_mid_r8 (a : Nat) (q : Nat) (r : Nat) (i : Nat) (f : Nat → Int) (ρ1 : Nat → Orc) (ρ3 : Nat → Orc) (w0 : World) : Reg Try.prog 9 (regOps Try.f87 9) false 53 [(2, (.pointer (some ⟨nb ρ1 0, 0, none⟩))), (4, (.pointer (some ⟨nb ρ1 1, 0, none⟩))), (5, (.pointer (some ⟨nb ρ3 0, 0, none⟩))), (6, (.int .i64 ((q : Nat) : Int))), (7, (.int .i64 ((r : Nat) : Int))), (20, (.int .i64 ((4 - q : Nat) : Int))), (21, (.int .i64 ((i : Nat) : Int))), (22, (.bool true))] w0 [(nb ρ1 0, (.cells (cU a) 24 (0, 0))), (nb ρ1 1, (.cells (cU 0) 24 (0, 0))), (nb ρ3 0, (.cells (c4 f) 24 (0, 0)))] (fun _ => True)
    (fun _ => [(2, (.pointer (some ⟨nb ρ1 0, 0, none⟩))), (4, (.pointer (some ⟨nb ρ1 1, 0, none⟩))), (5, (.pointer (some ⟨nb ρ3 0, 0, none⟩))), (6, (.int .i64 ((q : Nat) : Int))), (7, (.int .i64 ((r : Nat) : Int))), (8, (.int .i64 ((i : Nat) : Int))), (20, (.int .i64 ((4 - q : Nat) : Int))), (21, (.int .i64 ((i : Nat) : Int)))])
    (fun _ => [(nb ρ1 0, (.cells (cU a) 24 (0, 0))), (nb ρ1 1, (.cells (cU 0) 24 (0, 0))), (nb ρ3 0, (.cells (c4 f) 24 (0, 0)))]) := by
  refine reg_seq [0, 1] [2, 4, 5, 6, 7, 8, 20, 21] 2
    (fun _ ι => ([(.int .i64 ((i : Nat) : Int)), (.int .i64 ((i : Nat) : Int))] : List Value).getD ι undef)
    (fun _ ι => ([{}, {}] : List Eff).getD ι {})
    (by as_aux_lemma => kernel_rfl) (by as_aux_lemma => kernel_rfl) (fun _ => by as_aux_lemma => kernel_rfl) (fun _ => by as_aux_lemma => kernel_rfl) ⟨⟨trivial, ?_⟩, ?_⟩
  · exact o_run 0 [] [] (fun _ _ => []) (fun _ _ => by as_aux_lemma => kernel_rfl)
  · exact o_run 1 [] [] (fun _ _ => []) (fun _ _ => by as_aux_lemma => kernel_rfl)
theorem shr_mid_r9 (a : Nat) (q : Nat) (r : Nat) (hq : q < 4) (i : Nat) (f : Nat → Int) (hi : i + q ≤ 4) (hb1 : (decide (((i : Nat) : Int) < ((4 - q : Nat) : Int))) = true) (ρ1 : Nat → Orc) (ρ3 : Nat → Orc) (w0 : World) : Reg Try.prog 10 (regOps Try.f87 10) false 53 [(2, (.pointer (some ⟨nb ρ1 0, 0, none⟩))), (4, (.pointer (some ⟨nb ρ1 1, 0, none⟩))), (5, (.pointer (some ⟨nb ρ3 0, 0, none⟩))), (6, (.int .i64 ((q : Nat) : Int))), (7, (.int .i64 ((r : Nat) : Int))), (8, (.int .i64 ((i : Nat) : Int))), (20, (.int .i64 ((4 - q : Nat) : Int))), (21, (.int .i64 ((i : Nat) : Int)))] w0 [(nb ρ1 0, (.cells (cU a) 24 (0, 0))), (nb ρ1 1, (.cells (cU 0) 24 (0, 0))), (nb ρ3 0, (.cells (c4 f) 24 (0, 0)))] (fun _ => True)
    (fun _ => [(2, (.pointer (some ⟨nb ρ1 0, 0, none⟩))), (4, (.pointer (some ⟨nb ρ1 1, 0, none⟩))), (5, (.pointer (some ⟨nb ρ3 0, 0, none⟩))), (6, (.int .i64 ((q : Nat) : Int))), (7, (.int .i64 ((r : Nat) : Int))), (8, (.int .i64 ((i : Nat) : Int))), (20, (.int .i64 ((4 - q : Nat) : Int))), (21, (.int .i64 ((i : Nat) : Int)))])
    (fun _ => [(nb ρ1 0, (.cells (cU a) 24 (0, 0))), (nb ρ1 1, (.cells (cU 0) 24 (0, 0))), (nb ρ3 0, (.cells (c4 (updf f i (shrW (wd a (i + q)) r))) 24 (0, 0)))]) := by
  refine reg_seq [0, 1, 3, 7, 15, 31, 63, 127, 255, 511] [2, 4, 5, 6, 7, 8, 20, 21] 10
    (fun _ ι => ([(.int .i64 ((i : Nat) : Int)), (.int .i64 ((i : Nat) : Int)), (.int .i64 ((q : Nat) : Int)), (.int .i64 ((i + q : Nat) : Int)), (.pointer (some ⟨nb ρ1 0, i + q, none⟩)), (.int .u64 (wd a (i + q))), (.int .i64 ((r : Nat) : Int)), (.int .u64 (shrW (wd a (i + q)) r)), (.pointer (some ⟨nb ρ3 0, i, none⟩)), undef] : List Value).getD ι undef)
    (fun _ ι => ([{}, {}, {}, {}, {}, {}, {}, {}, {}, { puts := [(2, (.cells (c4 (updf f i (shrW (wd a (i + q)) r))) 24 (0, 0)))] }] : List Eff).getD ι {})
    (by as_aux_lemma => kernel_rfl) (by as_aux_lemma => kernel_rfl) (fun _ => by as_aux_lemma => kernel_rfl) (fun _ => by as_aux_lemma => kernel_rfl) ⟨⟨⟨⟨⟨⟨⟨⟨⟨⟨trivial, ?_⟩, ?_⟩, ?_⟩, ?_⟩, ?_⟩, ?_⟩, ?_⟩, ?_⟩, ?_⟩, ?_⟩
  · exact o_run 0 [] [] (fun _ _ => []) (fun _ _ => by as_aux_lemma => kernel_rfl)
  · exact o_run 1 [] [] (fun _ _ => []) (fun _ _ => by as_aux_lemma => kernel_rfl)
  · exact o_run 2 [] [] (fun _ _ => []) (fun _ _ => by as_aux_lemma => kernel_rfl)
  · exact o_as 3 (fun _ => (.int .i64 (IntKind.i64.wrap (((i : Nat) : Int) + ((q : Nat) : Int))))) (fun _ => (.int .i64 ((i + q : Nat) : Int))) (fun _ _ => by as_aux_lemma => kernel_rfl) (fun _ => congrArg (Value.int .i64) (wrap_add_nat i q (by have h1 := of_decide_eq_true hb1; have h2 := hi; have h4 := hq; omega)))
  · exact o_sem 4 (fun _ => do pure (Next.value (← Instr.indexAt 24 (.pointer (some ⟨nb ρ1 0, 0, none⟩)) (.int .i64 ((i + q : Nat) : Int))))) (fun _ => (.pointer (some ⟨nb ρ1 0, i + q, none⟩))) (fun _ => by as_aux_lemma => kernel_rfl) (fun _ => by as_aux_lemma => kernel_rfl) (fun _ w => run_idx_nat (n := ((i + q : Nat) : Int)) (i := i + q) Try.underlying24 Try.sizeOf22 (⟨rfl, (by have h1 := of_decide_eq_true hb1; have h2 := hi; have h4 := hq; omega)⟩) w)
  · exact o_ld 5 0 22 (fun _ => nb ρ1 0) (fun _ => i + q) (fun _ => (cU a)) 24 (0, 0) (fun _ => (.int .u64 (wd a (i + q)))) (fun _ => by as_aux_lemma => kernel_rfl) Try.isAgg22 (fun _ => cU_get a (i + q) (by have h1 := of_decide_eq_true hb1; have h2 := hi; have h4 := hq; omega))
  · exact o_run 6 [] [] (fun _ _ => []) (fun _ _ => by as_aux_lemma => kernel_rfl)
  · exact o_bin 7 .shr 22 (fun _ => (.int .u64 (wd a (i + q)))) (fun _ => (.int .i64 ((r : Nat) : Int))) (fun _ => (.int .u64 (shrW (wd a (i + q)) r))) (fun _ => by as_aux_lemma => kernel_rfl) (fun _ _ _ _ => by as_aux_lemma => kernel_rfl) (fun _ w => run_shr (wd a (i + q)) r w)
  · exact o_sem 8 (fun _ => do pure (Next.value (← Instr.indexAt 24 (.pointer (some ⟨nb ρ3 0, 0, none⟩)) (.int .i64 ((i : Nat) : Int))))) (fun _ => (.pointer (some ⟨nb ρ3 0, i, none⟩))) (fun _ => by as_aux_lemma => kernel_rfl) (fun _ => by as_aux_lemma => kernel_rfl) (fun _ w => run_idx_nat (n := ((i : Nat) : Int)) (i := i) Try.underlying24 Try.sizeOf22 (⟨rfl, (by have h1 := of_decide_eq_true hb1; have h2 := hi; have h4 := hq; omega)⟩) w)
  · exact o_st 9 2 22 (fun _ => nb ρ3 0) (fun _ => i) (fun _ => (c4 f)) (fun _ => (c4 (updf f i (shrW (wd a (i + q)) r)))) 24 (fun _ => (.int .u64 (shrW (wd a (i + q)) r))) (fun _ => by as_aux_lemma => kernel_rfl) Try.sizeOf22 (fun _ => rfl) (fun _ => (show _ < 4 from (by have h1 := of_decide_eq_true hb1; have h2 := hi; have h4 := hq; omega))) (fun _ => c4_set f i (shrW (wd a (i + q)) r) (by have h1 := of_decide_eq_true hb1; have h2 := hi; have h4 := hq; omega))
theorem shr_mid_r10 (a : Nat) (q : Nat) (r : Nat) (hq : q < 4) (i : Nat) (f : Nat → Int) (hi : i + q ≤ 4) (hb1 : (decide (((i : Nat) : Int) < ((4 - q : Nat) : Int))) = true) (ρ1 : Nat → Orc) (ρ3 : Nat → Orc) (w0 : World) : Reg Try.prog 11 (regOps Try.f87 11) false 53 [(2, (.pointer (some ⟨nb ρ1 0, 0, none⟩))), (4, (.pointer (some ⟨nb ρ1 1, 0, none⟩))), (5, (.pointer (some ⟨nb ρ3 0, 0, none⟩))), (6, (.int .i64 ((q : Nat) : Int))), (7, (.int .i64 ((r : Nat) : Int))), (8, (.int .i64 ((i : Nat) : Int))), (20, (.int .i64 ((4 - q : Nat) : Int))), (21, (.int .i64 ((i : Nat) : Int)))] w0 [(nb ρ1 0, (.cells (cU a) 24 (0, 0))), (nb ρ1 1, (.cells (cU 0) 24 (0, 0))), (nb ρ3 0, (.cells (c4 (updf f i (shrW (wd a (i + q)) r))) 24 (0, 0)))] (fun _ => True)
    (fun _ => [(2, (.pointer (some ⟨nb ρ1 0, 0, none⟩))), (4, (.pointer (some ⟨nb ρ1 1, 0, none⟩))), (5, (.pointer (some ⟨nb ρ3 0, 0, none⟩))), (6, (.int .i64 ((q : Nat) : Int))), (7, (.int .i64 ((r : Nat) : Int))), (8, (.int .i64 ((i : Nat) : Int))), (20, (.int .i64 ((4 - q : Nat) : Int))), (21, (.int .i64 ((i : Nat) : Int))), (36, (.bool (decide (((i + q : Nat) : Int) < 3))))])
    (fun _ => [(nb ρ1 0, (.cells (cU a) 24 (0, 0))), (nb ρ1 1, (.cells (cU 0) 24 (0, 0))), (nb ρ3 0, (.cells (c4 (updf f i (shrW (wd a (i + q)) r))) 24 (0, 0)))]) := by
  refine reg_seq [0, 1, 3, 7] [2, 4, 5, 6, 7, 8, 20, 21, 36] 4
    (fun _ ι => ([(.int .i64 ((i : Nat) : Int)), (.int .i64 ((q : Nat) : Int)), (.int .i64 ((i + q : Nat) : Int)), (.bool (decide (((i + q : Nat) : Int) < 3)))] : List Value).getD ι undef)
    (fun _ ι => ([{}, {}, {}, {}] : List Eff).getD ι {})
    (by as_aux_lemma => kernel_rfl) (by as_aux_lemma => kernel_rfl) (fun _ => by as_aux_lemma => kernel_rfl) (fun _ => by as_aux_lemma => kernel_rfl) ⟨⟨⟨⟨trivial, ?_⟩, ?_⟩, ?_⟩, ?_⟩
  · exact o_run 0 [] [] (fun _ _ => []) (fun _ _ => by as_aux_lemma => kernel_rfl)
  · exact o_run 1 [] [] (fun _ _ => []) (fun _ _ => by as_aux_lemma => kernel_rfl)
  · exact o_as 2 (fun _ => (.int .i64 (IntKind.i64.wrap (((i : Nat) : Int) + ((q : Nat) : Int))))) (fun _ => (.int .i64 ((i + q : Nat) : Int))) (fun _ _ => by as_aux_lemma => kernel_rfl) (fun _ => congrArg (Value.int .i64) (wrap_add_nat i q (by have h1 := of_decide_eq_true hb1; have h2 := hi; have h4 := hq; omega)))
  · exact o_run 3 [] [] (fun _ _ => []) (fun _ _ => by as_aux_lemma => kernel_rfl)
theorem shr_mid_r11 (a : Nat) (q : Nat) (r : Nat) (hq : q < 4) (hr : r < 64) (i : Nat) (f : Nat → Int) (hi : i + q ≤ 4) (hb1 : (decide (((i : Nat) : Int) < ((4 - q : Nat) : Int))) = true) (hb2 : (decide (((i + q : Nat) : Int) < 3)) = true) (ρ1 : Nat → Orc) (ρ3 : Nat → Orc) (w0 : World) : Reg Try.prog 12 (regOps Try.f87 12) true 53 [(2, (.pointer (some ⟨nb ρ1 0, 0, none⟩))), (4, (.pointer (some ⟨nb ρ1 1, 0, none⟩))), (5, (.pointer (some ⟨nb ρ3 0, 0, none⟩))), (6, (.int .i64 ((q : Nat) : Int))), (7, (.int .i64 ((r : Nat) : Int))), (8, (.int .i64 ((i : Nat) : Int))), (20, (.int .i64 ((4 - q : Nat) : Int))), (21, (.int .i64 ((i : Nat) : Int))), (36, (.bool true))] w0 [(nb ρ1 0, (.cells (cU a) 24 (0, 0))), (nb ρ1 1, (.cells (cU 0) 24 (0, 0))), (nb ρ3 0, (.cells (c4 (updf f i (shrW (wd a (i + q)) r))) 24 (0, 0)))] (fun _ => True)
    (fun _ => [(2, (.pointer (some ⟨nb ρ1 0, 0, none⟩))), (4, (.pointer (some ⟨nb ρ1 1, 0, none⟩))), (5, (.pointer (some ⟨nb ρ3 0, 0, none⟩))), (6, (.int .i64 ((q : Nat) : Int))), (7, (.int .i64 ((r : Nat) : Int))), (20, (.int .i64 ((4 - q : Nat) : Int))), (21, (.int .i64 ((i : Nat) : Int)))])
    (fun _ => [(nb ρ1 0, (.cells (cU a) 24 (0, 0))), (nb ρ1 1, (.cells (cU 0) 24 (0, 0))), (nb ρ3 0, (.cells (c4 (updf (updf f i (shrW (wd a (i + q)) r)) i (bits .or .u64 (shrW (wd a (i + q)) r) (shlW (wd a (i + q + 1)) (64 - r))))) 24 (0, 0)))]) := by
  refine reg_drawn [0, 1, 3, 0, 0, 24, 56, 120, 248, 0, 512, 2040, 4095, 8191, 16383] [2, 4, 5, 6, 7, 20, 21] 15
    (fun _ ι => ([(.int .i64 ((i : Nat) : Int)), (.pointer (some ⟨nb ρ3 0, i, none⟩)), (.int .u64 (shrW (wd a (i + q)) r)), (.int .i64 ((i : Nat) : Int)), (.int .i64 ((q : Nat) : Int)), (.int .i64 ((i + q : Nat) : Int)), (.int .i64 ((i + q + 1 : Nat) : Int)), (.pointer (some ⟨nb ρ1 0, i + q + 1, none⟩)), (.int .u64 (wd a (i + q + 1))), (.int .i64 ((r : Nat) : Int)), (.int .i64 ((64 - r : Nat) : Int)), (.int .u64 (shlW (wd a (i + q + 1)) (64 - r))), (.int .u64 (bits .or .u64 (shrW (wd a (i + q)) r) (shlW (wd a (i + q + 1)) (64 - r)))), (.pointer (some ⟨nb ρ3 0, i, none⟩)), undef] : List Value).getD ι undef)
    (fun _ ι => ([{}, {}, {}, {}, {}, {}, {}, {}, {}, {}, {}, {}, {}, {}, { puts := [(2, (.cells (c4 (updf (updf f i (shrW (wd a (i + q)) r)) i (bits .or .u64 (shrW (wd a (i + q)) r) (shlW (wd a (i + q + 1)) (64 - r))))) 24 (0, 0)))] }] : List Eff).getD ι {})
    (by as_aux_lemma => kernel_rfl) (by as_aux_lemma => kernel_rfl) (by as_aux_lemma => kernel_rfl) (fun _ => by as_aux_lemma => kernel_rfl) (fun _ => by as_aux_lemma => kernel_rfl) ⟨⟨⟨⟨⟨⟨⟨⟨⟨⟨⟨⟨⟨⟨⟨trivial, ?_⟩, ?_⟩, ?_⟩, ?_⟩, ?_⟩, ?_⟩, ?_⟩, ?_⟩, ?_⟩, ?_⟩, ?_⟩, ?_⟩, ?_⟩, ?_⟩, ?_⟩
  · exact o_run 0 [] [] (fun _ _ => []) (fun _ _ => by as_aux_lemma => kernel_rfl)
  · exact o_sem 1 (fun _ => do pure (Next.value (← Instr.indexAt 24 (.pointer (some ⟨nb ρ3 0, 0, none⟩)) (.int .i64 ((i : Nat) : Int))))) (fun _ => (.pointer (some ⟨nb ρ3 0, i, none⟩))) (fun _ => by as_aux_lemma => kernel_rfl) (fun _ => by as_aux_lemma => kernel_rfl) (fun _ w => run_idx_nat (n := ((i : Nat) : Int)) (i := i) Try.underlying24 Try.sizeOf22 (⟨rfl, (by have h1 := of_decide_eq_true hb1; have h2 := hi; have h4 := hq; have h3 := of_decide_eq_true hb2; omega)⟩) w)
  · exact o_ld 2 2 22 (fun _ => nb ρ3 0) (fun _ => i) (fun _ => (c4 (updf f i (shrW (wd a (i + q)) r)))) 24 (0, 0) (fun _ => (.int .u64 (shrW (wd a (i + q)) r))) (fun _ => by as_aux_lemma => kernel_rfl) Try.isAgg22 (fun _ => c4_get_upd f i _ (by have h1 := of_decide_eq_true hb1; have h2 := hi; have h4 := hq; have h3 := of_decide_eq_true hb2; omega))
  · exact o_run 3 [] [] (fun _ _ => []) (fun _ _ => by as_aux_lemma => kernel_rfl)
  · exact o_run 4 [] [] (fun _ _ => []) (fun _ _ => by as_aux_lemma => kernel_rfl)
  · exact o_as 5 (fun _ => (.int .i64 (IntKind.i64.wrap (((i : Nat) : Int) + ((q : Nat) : Int))))) (fun _ => (.int .i64 ((i + q : Nat) : Int))) (fun _ _ => by as_aux_lemma => kernel_rfl) (fun _ => congrArg (Value.int .i64) (wrap_add_nat i q (by have h1 := of_decide_eq_true hb1; have h2 := hi; have h4 := hq; have h3 := of_decide_eq_true hb2; omega)))
  · exact o_as 6 (fun _ => (.int .i64 (IntKind.i64.wrap (((i + q : Nat) : Int) + 1)))) (fun _ => (.int .i64 ((i + q + 1 : Nat) : Int))) (fun _ _ => by as_aux_lemma => kernel_rfl) (fun _ => congrArg (Value.int .i64) (wrap_add_nat (i + q) 1 (by have h1 := of_decide_eq_true hb1; have h2 := hi; have h4 := hq; have h3 := of_decide_eq_true hb2; omega)))
  · exact o_sem 7 (fun _ => do pure (Next.value (← Instr.indexAt 24 (.pointer (some ⟨nb ρ1 0, 0, none⟩)) (.int .i64 ((i + q + 1 : Nat) : Int))))) (fun _ => (.pointer (some ⟨nb ρ1 0, i + q + 1, none⟩))) (fun _ => by as_aux_lemma => kernel_rfl) (fun _ => by as_aux_lemma => kernel_rfl) (fun _ w => run_idx_nat (n := ((i + q + 1 : Nat) : Int)) (i := i + q + 1) Try.underlying24 Try.sizeOf22 (⟨rfl, (by have h1 := of_decide_eq_true hb1; have h2 := hi; have h4 := hq; have h3 := of_decide_eq_true hb2; omega)⟩) w)
  · exact o_ld 8 0 22 (fun _ => nb ρ1 0) (fun _ => i + q + 1) (fun _ => (cU a)) 24 (0, 0) (fun _ => (.int .u64 (wd a (i + q + 1)))) (fun _ => by as_aux_lemma => kernel_rfl) Try.isAgg22 (fun _ => cU_get a (i + q + 1) (by have h1 := of_decide_eq_true hb1; have h2 := hi; have h4 := hq; have h3 := of_decide_eq_true hb2; omega))
  · exact o_run 9 [] [] (fun _ _ => []) (fun _ _ => by as_aux_lemma => kernel_rfl)
  · exact o_as 10 (fun _ => (.int .i64 (IntKind.i64.wrap (64 - ((r : Nat) : Int))))) (fun _ => (.int .i64 ((64 - r : Nat) : Int))) (fun _ _ => by as_aux_lemma => kernel_rfl) (fun _ => congrArg (Value.int .i64) (wrap_sub_nat 64 r (by have := hr; omega) (by have := hr; omega)))
  · exact o_bin 11 .shl 22 (fun _ => (.int .u64 (wd a (i + q + 1)))) (fun _ => (.int .i64 ((64 - r : Nat) : Int))) (fun _ => (.int .u64 (shlW (wd a (i + q + 1)) (64 - r)))) (fun _ => by as_aux_lemma => kernel_rfl) (fun _ _ _ _ => by as_aux_lemma => kernel_rfl) (fun _ w => run_shl (wd a (i + q + 1)) (64 - r) w)
  · exact o_run 12 [] [] (fun _ _ => []) (fun _ _ => by as_aux_lemma => kernel_rfl)
  · exact o_sem 13 (fun _ => do pure (Next.value (← Instr.indexAt 24 (.pointer (some ⟨nb ρ3 0, 0, none⟩)) (.int .i64 ((i : Nat) : Int))))) (fun _ => (.pointer (some ⟨nb ρ3 0, i, none⟩))) (fun _ => by as_aux_lemma => kernel_rfl) (fun _ => by as_aux_lemma => kernel_rfl) (fun _ w => run_idx_nat (n := ((i : Nat) : Int)) (i := i) Try.underlying24 Try.sizeOf22 (⟨rfl, (by have h1 := of_decide_eq_true hb1; have h2 := hi; have h4 := hq; have h3 := of_decide_eq_true hb2; omega)⟩) w)
  · exact o_st 14 2 22 (fun _ => nb ρ3 0) (fun _ => i) (fun _ => (c4 (updf f i (shrW (wd a (i + q)) r)))) (fun _ => (c4 (updf (updf f i (shrW (wd a (i + q)) r)) i (bits .or .u64 (shrW (wd a (i + q)) r) (shlW (wd a (i + q + 1)) (64 - r)))))) 24 (fun _ => (.int .u64 (bits .or .u64 (shrW (wd a (i + q)) r) (shlW (wd a (i + q + 1)) (64 - r))))) (fun _ => by as_aux_lemma => kernel_rfl) Try.sizeOf22 (fun _ => rfl) (fun _ => (show _ < 4 from (by have h1 := of_decide_eq_true hb1; have h2 := hi; have h4 := hq; have h3 := of_decide_eq_true hb2; omega))) (fun _ => c4_set (updf f i (shrW (wd a (i + q)) r)) i (bits .or .u64 (shrW (wd a (i + q)) r) (shlW (wd a (i + q + 1)) (64 - r))) (by have h1 := of_decide_eq_true hb1; have h2 := hi; have h4 := hq; have h3 := of_decide_eq_true hb2; omega))
theorem shr_mid_r12 (a : Nat) (q : Nat) (r : Nat) (hq : q < 4) (i : Nat) (f : Nat → Int) (hi : i + q ≤ 4) (hb1 : (decide (((i : Nat) : Int) < ((4 - q : Nat) : Int))) = true) (hb2 : (decide (((i + q : Nat) : Int) < 3)) = true) (ρ1 : Nat → Orc) (ρ3 : Nat → Orc) (w0 : World) : Reg Try.prog 13 (regOps Try.f87 13) false 53 [(2, (.pointer (some ⟨nb ρ1 0, 0, none⟩))), (4, (.pointer (some ⟨nb ρ1 1, 0, none⟩))), (5, (.pointer (some ⟨nb ρ3 0, 0, none⟩))), (6, (.int .i64 ((q : Nat) : Int))), (7, (.int .i64 ((r : Nat) : Int))), (20, (.int .i64 ((4 - q : Nat) : Int))), (21, (.int .i64 ((i : Nat) : Int)))] w0 [(nb ρ1 0, (.cells (cU a) 24 (0, 0))), (nb ρ1 1, (.cells (cU 0) 24 (0, 0))), (nb ρ3 0, (.cells (c4 (updf (updf f i (shrW (wd a (i + q)) r)) i (bits .or .u64 (shrW (wd a (i + q)) r) (shlW (wd a (i + q + 1)) (64 - r))))) 24 (0, 0)))] (fun _ => True)
    (fun _ => [(2, (.pointer (some ⟨nb ρ1 0, 0, none⟩))), (4, (.pointer (some ⟨nb ρ1 1, 0, none⟩))), (5, (.pointer (some ⟨nb ρ3 0, 0, none⟩))), (6, (.int .i64 ((q : Nat) : Int))), (7, (.int .i64 ((r : Nat) : Int))), (20, (.int .i64 ((4 - q : Nat) : Int))), (21, (.int .i64 ((i + 1 : Nat) : Int)))])
    (fun _ => [(nb ρ1 0, (.cells (cU a) 24 (0, 0))), (nb ρ1 1, (.cells (cU 0) 24 (0, 0))), (nb ρ3 0, (.cells (c4 (updf (updf f i (shrW (wd a (i + q)) r)) i (bits .or .u64 (shrW (wd a (i + q)) r) (shlW (wd a (i + q + 1)) (64 - r))))) 24 (0, 0)))]) := by
  refine reg_seq [0, 1] [2, 4, 5, 6, 7, 20, 21] 2
    (fun _ ι => ([(.int .i64 ((i + 1 : Nat) : Int)), (.int .i64 ((i + 1 : Nat) : Int))] : List Value).getD ι undef)
    (fun _ ι => ([{}, {}] : List Eff).getD ι {})
    (by as_aux_lemma => kernel_rfl) (by as_aux_lemma => kernel_rfl) (fun _ => by as_aux_lemma => kernel_rfl) (fun _ => by as_aux_lemma => kernel_rfl) ⟨⟨trivial, ?_⟩, ?_⟩
  · exact o_as 0 (fun _ => (.int .i64 (IntKind.i64.wrap (((i : Nat) : Int) + 1)))) (fun _ => (.int .i64 ((i + 1 : Nat) : Int))) (fun _ _ => by as_aux_lemma => kernel_rfl) (fun _ => congrArg (Value.int .i64) (wrap_add_nat i 1 (by have h1 := of_decide_eq_true hb1; have h2 := hi; have h4 := hq; have h3 := of_decide_eq_true hb2; omega)))
  · exact o_run 1 [] [] (fun _ _ => []) (fun _ _ => by as_aux_lemma => kernel_rfl)
theorem shr_mid_r13 (a : Nat) (q : Nat) (r : Nat) (hq : q < 4) (i : Nat) (f : Nat → Int) (hi : i + q ≤ 4) (hb1 : (decide (((i : Nat) : Int) < ((4 - q : Nat) : Int))) = true) (ρ1 : Nat → Orc) (ρ3 : Nat → Orc) (w0 : World) : Reg Try.prog 13 (regOps Try.f87 13) false 53 [(2, (.pointer (some ⟨nb ρ1 0, 0, none⟩))), (4, (.pointer (some ⟨nb ρ1 1, 0, none⟩))), (5, (.pointer (some ⟨nb ρ3 0, 0, none⟩))), (6, (.int .i64 ((q : Nat) : Int))), (7, (.int .i64 ((r : Nat) : Int))), (8, (.int .i64 ((i : Nat) : Int))), (20, (.int .i64 ((4 - q : Nat) : Int))), (21, (.int .i64 ((i : Nat) : Int))), (36, (.bool false))] w0 [(nb ρ1 0, (.cells (cU a) 24 (0, 0))), (nb ρ1 1, (.cells (cU 0) 24 (0, 0))), (nb ρ3 0, (.cells (c4 (updf f i (shrW (wd a (i + q)) r))) 24 (0, 0)))] (fun _ => True)
    (fun _ => [(2, (.pointer (some ⟨nb ρ1 0, 0, none⟩))), (4, (.pointer (some ⟨nb ρ1 1, 0, none⟩))), (5, (.pointer (some ⟨nb ρ3 0, 0, none⟩))), (6, (.int .i64 ((q : Nat) : Int))), (7, (.int .i64 ((r : Nat) : Int))), (20, (.int .i64 ((4 - q : Nat) : Int))), (21, (.int .i64 ((i + 1 : Nat) : Int)))])
    (fun _ => [(nb ρ1 0, (.cells (cU a) 24 (0, 0))), (nb ρ1 1, (.cells (cU 0) 24 (0, 0))), (nb ρ3 0, (.cells (c4 (updf f i (shrW (wd a (i + q)) r))) 24 (0, 0)))]) := by
  refine reg_seq [0, 1] [2, 4, 5, 6, 7, 20, 21] 2
    (fun _ ι => ([(.int .i64 ((i + 1 : Nat) : Int)), (.int .i64 ((i + 1 : Nat) : Int))] : List Value).getD ι undef)
    (fun _ ι => ([{}, {}] : List Eff).getD ι {})
    (by as_aux_lemma => kernel_rfl) (by as_aux_lemma => kernel_rfl) (fun _ => by as_aux_lemma => kernel_rfl) (fun _ => by as_aux_lemma => kernel_rfl) ⟨⟨trivial, ?_⟩, ?_⟩
  · exact o_as 0 (fun _ => (.int .i64 (IntKind.i64.wrap (((i : Nat) : Int) + 1)))) (fun _ => (.int .i64 ((i + 1 : Nat) : Int))) (fun _ _ => by as_aux_lemma => kernel_rfl) (fun _ => congrArg (Value.int .i64) (wrap_add_nat i 1 (by have h1 := of_decide_eq_true hb1; have h2 := hi; have h4 := hq; omega)))
  · exact o_run 1 [] [] (fun _ _ => []) (fun _ _ => by as_aux_lemma => kernel_rfl)
theorem shr_mid_r14 (a : Nat) (q : Nat) (r : Nat) (i : Nat) (f : Nat → Int) (ρ1 : Nat → Orc) (ρ3 : Nat → Orc) (w0 : World) : Reg Try.prog 14 (regOps Try.f87 14) false 53 [(2, (.pointer (some ⟨nb ρ1 0, 0, none⟩))), (4, (.pointer (some ⟨nb ρ1 1, 0, none⟩))), (5, (.pointer (some ⟨nb ρ3 0, 0, none⟩))), (6, (.int .i64 ((q : Nat) : Int))), (7, (.int .i64 ((r : Nat) : Int))), (20, (.int .i64 ((4 - q : Nat) : Int))), (21, (.int .i64 ((i : Nat) : Int))), (22, (.bool false))] w0 [(nb ρ1 0, (.cells (cU a) 24 (0, 0))), (nb ρ1 1, (.cells (cU 0) 24 (0, 0))), (nb ρ3 0, (.cells (c4 f) 24 (0, 0)))] (fun _ => True)
    (fun _ => [(4, (.pointer (some ⟨nb ρ1 1, 0, none⟩)))])
    (fun _ => [(nb ρ1 0, (.cells (cU a) 24 (0, 0))), (nb ρ1 1, (.cells (c4 f) 24 (0, 0))), (nb ρ3 0, (.cells (c4 f) 24 (0, 0)))]) := by
  refine reg_seq [0, 1] [4] 2
    (fun _ ι => ([(.agg (c4 f)), undef] : List Value).getD ι undef)
    (fun _ ι => ([{}, { puts := [(1, (.cells (c4 f) 24 (0, 0)))] }] : List Eff).getD ι {})
    (by as_aux_lemma => kernel_rfl) (by as_aux_lemma => kernel_rfl) (fun _ => by as_aux_lemma => kernel_rfl) (fun _ => by as_aux_lemma => kernel_rfl) ⟨⟨trivial, ?_⟩, ?_⟩
  · exact o_run 0 [2] [] (fun _ _ => [nb ρ3 0, nb ρ3 0, nb ρ3 0, nb ρ3 0]) (fun _ _ => by as_aux_lemma => kernel_rfl)
  · exact o_run 1 [1] [] (fun _ _ => [nb ρ1 1, nb ρ1 1, nb ρ1 1, nb ρ1 1]) (fun _ _ => by as_aux_lemma => kernel_rfl)
theorem shr_mid (a : Nat) (q : Nat) (r : Nat) (ha : a < M) (hq : q < 4) (hr : r < 64) (w0 : World) : Calls Try.prog 87 #[(U a), (.int .i64 ((64 * q + r : Nat) : Int))] w0 (fun ε w' => ε = .returned (U (a / 2 ^ (64 * q + r))) ∧ Below w0.heap.size w0 w') := by
  refine Calls.of_ok (n := 53) (F := fun _ => True) Try.func87 rfl rfl rfl (by simp) (persTrue (fun _ => trivial)) ?_
  have hk0 : decide (((64 * q + r : Nat) : Int) < 0) = false := decide_eq_false (by omega)
  have hk1 : decide (256 ≤ ((64 * q + r : Nat) : Int)) = false := decide_eq_false (by omega)
  refine ok_seq_r (by as_aux_lemma => kernel_rfl) (shr_mid_r1 a q r _) (fun ρ1 => ?_)
  refine ok_seq ?_
  refine ok_seq_r (by as_aux_lemma => kernel_rfl) (shr_mid_r2 a q r hk0 ρ1 _) (fun _ => ?_)
  refine ok_no (by as_aux_lemma => kernel_rfl) ?_
  refine ok_skip ?_
  refine mt_then ?_
  refine ok_seq_r (by as_aux_lemma => kernel_rfl) (shr_mid_r3 a q r ρ1 _) (fun ρ3 => ?_)
  refine ok_seq ?_
  refine ok_seq_r (by as_aux_lemma => kernel_rfl) (shr_mid_r4 a q r hk1 ρ1 ρ3 _) (fun _ => ?_)
  refine ok_no (by as_aux_lemma => kernel_rfl) ?_
  refine ok_skip ?_
  refine mt_then ?_
  refine ok_seq_r (by as_aux_lemma => kernel_rfl) (shr_mid_r5 a q r hq hr ρ1 ρ3 _) (fun _ => ?_)
  refine ok_seq ?_
  refine ok_seq_r (by as_aux_lemma => kernel_rfl) (shr_mid_r6 a q r hq ρ1 ρ3 _) (fun _ => ?_)
  refine ok_block ?_
  refine ok_loop (σ := Nat × (Nat → Int)) (fun ⟨i, _⟩ => [(2, (.pointer (some ⟨nb ρ1 0, 0, none⟩))), (4, (.pointer (some ⟨nb ρ1 1, 0, none⟩))), (5, (.pointer (some ⟨nb ρ3 0, 0, none⟩))), (6, (.int .i64 ((q : Nat) : Int))), (7, (.int .i64 ((r : Nat) : Int))), (20, (.int .i64 ((4 - q : Nat) : Int))), (21, (.int .i64 ((i : Nat) : Int)))]) (fun ⟨_, f⟩ => [(nb ρ1 0, (.cells (cU a) 24 (0, 0))), (nb ρ1 1, (.cells (cU 0) 24 (0, 0))), (nb ρ3 0, (.cells (c4 f) 24 (0, 0)))]) (fun ⟨i, _⟩ => 4 - i)
    (fun ⟨i, f⟩ => (i + q ≤ 4) ∧ (shrR a q r i f)) (0, (fun _ => 0)) (⟨by omega, shr_start a q r⟩) (by as_aux_lemma => kernel_rfl) (.cons_cons _ (.cons_cons _ (.cons_cons _ .slnil))) ?_
  rintro ⟨i, f⟩ ⟨hi, hf⟩
  change Ok Try.prog _ _ 53 [(2, (.pointer (some ⟨nb ρ1 0, 0, none⟩))), (4, (.pointer (some ⟨nb ρ1 1, 0, none⟩))), (5, (.pointer (some ⟨nb ρ3 0, 0, none⟩))), (6, (.int .i64 ((q : Nat) : Int))), (7, (.int .i64 ((r : Nat) : Int))), (20, (.int .i64 ((4 - q : Nat) : Int))), (21, (.int .i64 ((i : Nat) : Int)))] _ [(nb ρ1 0, (.cells (cU a) 24 (0, 0))), (nb ρ1 1, (.cells (cU 0) 24 (0, 0))), (nb ρ3 0, (.cells (c4 f) 24 (0, 0)))] (fun _ => True)
  refine ok_seq_r (by as_aux_lemma => kernel_rfl) (shr_mid_r7 a q r i f ρ1 ρ3 _) (fun _ => ?_)
  refine ok_seq ?_
  refine ok_cond (b := decide (((i : Nat) : Int) < ((4 - q : Nat) : Int))) (by as_aux_lemma => kernel_rfl) (fun hb1 => ?_) (fun hb1 => ?_)
  ·
    rw [hb1]
    refine ok_skip ?_
    refine mt_then ?_
    refine ok_seq ?_
    refine ok_block ?_
    refine ok_seq_r (by as_aux_lemma => kernel_rfl) (shr_mid_r8 a q r i f ρ1 ρ3 _) (fun _ => ?_)
    refine ok_seq_r (by as_aux_lemma => kernel_rfl) (shr_mid_r9 a q r hq i f hi hb1 ρ1 ρ3 _) (fun _ => ?_)
    refine ok_seq_r (by as_aux_lemma => kernel_rfl) (shr_mid_r10 a q r hq i f hi hb1 ρ1 ρ3 _) (fun _ => ?_)
    refine ok_cond (b := decide (((i + q : Nat) : Int) < 3)) (by as_aux_lemma => kernel_rfl) (fun hb2 => ?_) (fun hb2 => ?_)
    ·
      rw [hb2]
      refine ok_r (by as_aux_lemma => kernel_rfl) (shr_mid_r11 a q r hq hr i f hi hb1 hb2 ρ1 ρ3 _) (fun _ => ?_)
      refine mt_block_n ?_
      refine mt_then ?_
      refine ok_r (by as_aux_lemma => kernel_rfl) (shr_mid_r12 a q r hq i f hi hb1 hb2 ρ1 ρ3 _) (fun _ => ?_)
      exact mt_round (i + 1, updf (updf f i (shrW (wd a (i + q)) r)) i (bits .or .u64 (shrW (wd a (i + q)) r) (shlW (wd a (i + q + 1)) (64 - r)))) (by show 4 - (i + 1) < 4 - i; have h1 := of_decide_eq_true hb1; have h2 := hi; have h4 := hq; omega) (⟨by have h1 := of_decide_eq_true hb1; have h2 := hi; have h4 := hq; omega, by exact shr_yes hf (of_decide_eq_true hb2)⟩) (by as_aux_lemma => kernel_rfl) (.cons_cons _ (.cons_cons _ (.cons_cons _ .slnil)))
    ·
      rw [hb2]
      refine ok_skip ?_
      refine mt_block_n ?_
      refine mt_then ?_
      refine ok_r (by as_aux_lemma => kernel_rfl) (shr_mid_r13 a q r hq i f hi hb1 ρ1 ρ3 _) (fun _ => ?_)
      exact mt_round (i + 1, updf f i (shrW (wd a (i + q)) r)) (by show 4 - (i + 1) < 4 - i; have h1 := of_decide_eq_true hb1; have h2 := hi; have h4 := hq; omega) (⟨by have h1 := of_decide_eq_true hb1; have h2 := hi; have h4 := hq; omega, by exact shr_no hf (of_decide_eq_false hb2)⟩) (by as_aux_lemma => kernel_rfl) (.cons_cons _ (.cons_cons _ (.cons_cons _ .slnil)))
  ·
    rw [hb1]
    refine ok_exit ?_
    refine mt_then_e ?_
    refine mt_then_e ?_
    refine mt_block_h ?_
    refine mt_then ?_
    refine ok_seq_r (by as_aux_lemma => kernel_rfl) (shr_mid_r14 a q r i f ρ1 ρ3 _) (fun _ => ?_)
    refine ok_ret ?_
    exact meets_ret (v := (.agg (c4 f))) [1, 1, 1, 1] (dup [nb ρ1 1, nb ρ1 1, nb ρ1 1, nb ρ1 1]) (by as_aux_lemma => kernel_rfl) (by as_aux_lemma => kernel_rfl) (eqs_dup _) (fun _ hS => ⟨congrArg Ending.returned (shr_end ha hq hr (by have h1 := of_decide_eq_false hb1; have h2 := hi; omega) hf), hS.below⟩)
theorem shr_any (a : Nat) (n : Int) (w0 : World) (ha : a < M) : Calls Try.prog 87 #[U a, .int .i64 n] w0 (fun ε w' => ε = .returned (U (shrZ a n)) ∧ Below w0.heap.size w0 w') := by
  unfold shrZ
  by_cases h0 : n < 0
  · rw [if_pos h0]; exact shr_neg a n h0 w0
  · rw [if_neg h0]
    by_cases h1 : 256 ≤ n
    · rw [shrN_big ha (by omega)]; exact shr_big a n h1 w0
    · obtain ⟨k, rfl⟩ := Int.eq_ofNat_of_zero_le (by omega : 0 ≤ n)
      rw [Int.toNat_natCast]
      have e : k = 64 * (k / 64) + k % 64 := by omega
      have h := shr_mid a (k / 64) (k % 64) ha (by omega) (by omega) w0
      rw [← e] at h
      exact h
theorem rshl_big_r1 (a : Nat) (n : Int) (w0 : World) : Reg Try.prog 0 (regOps Try.f71 0) false 19 [(0, (U a)), (1, (.int .i64 n))] w0 [] (fun _ => True)
    (fun ρ => [(1, (.int .i64 n)), (2, (.pointer (some ⟨nb ρ 0, 0, none⟩))), (4, (.pointer (some ⟨nb ρ 1, 0, none⟩)))])
    (fun ρ => [(nb ρ 0, (.cells (cU a) 24 (0, 0))), (nb ρ 1, (.cells (cU 0) 24 (0, 0)))]) := by
  refine reg_seq [0, 1] [1, 2, 4] 2
    (fun ρ ι => ([(.pointer (some ⟨nb ρ 0, 0, none⟩)), (.pointer (some ⟨nb ρ 1, 0, none⟩))] : List Value).getD ι undef)
    (fun ρ ι => ([{ news := [(nb ρ 0, (.cells (cU a) 24 (0, 0)))] }, { news := [(nb ρ 1, (.cells (cU 0) 24 (0, 0)))] }] : List Eff).getD ι {})
    (by as_aux_lemma => kernel_rfl) (by as_aux_lemma => kernel_rfl) (fun _ => by as_aux_lemma => kernel_rfl) (fun _ => by as_aux_lemma => kernel_rfl) ⟨⟨trivial, ?_⟩, ?_⟩
  · exact o_run 0 [] [] (fun _ _ => []) (fun _ _ => by as_aux_lemma => kernel_rfl)
  · exact o_run 1 [] [] (fun _ _ => []) (fun _ _ => by as_aux_lemma => kernel_rfl)
theorem rshl_big_r2 (a : Nat) (n : Int) (hk1 : decide (256 ≤ n) = true) (ρ1 : Nat → Orc) (w0 : World) : Reg Try.prog 1 (regOps Try.f71 1) false 19 [(1, (.int .i64 n)), (2, (.pointer (some ⟨nb ρ1 0, 0, none⟩))), (4, (.pointer (some ⟨nb ρ1 1, 0, none⟩)))] w0 [(nb ρ1 0, (.cells (cU a) 24 (0, 0))), (nb ρ1 1, (.cells (cU 0) 24 (0, 0)))] (fun _ => True)
    (fun _ => [(1, (.int .i64 n)), (2, (.pointer (some ⟨nb ρ1 0, 0, none⟩))), (4, (.pointer (some ⟨nb ρ1 1, 0, none⟩))), (6, (.bool true))])
    (fun _ => [(nb ρ1 0, (.cells (cU a) 24 (0, 0))), (nb ρ1 1, (.cells (cU 0) 24 (0, 0)))]) := by
  refine reg_seq [0, 1] [1, 2, 4, 6] 2
    (fun _ ι => ([(.int .i64 n), (.bool true)] : List Value).getD ι undef)
    (fun _ ι => ([{}, {}] : List Eff).getD ι {})
    (by as_aux_lemma => kernel_rfl) (by as_aux_lemma => kernel_rfl) (fun _ => by as_aux_lemma => kernel_rfl) (fun _ => by as_aux_lemma => kernel_rfl) ⟨⟨trivial, ?_⟩, ?_⟩
  · exact o_run 0 [] [] (fun _ _ => []) (fun _ _ => by as_aux_lemma => kernel_rfl)
  · exact o_as 1 (fun _ => (.bool (decide (256 ≤ n)))) (fun _ => (.bool true)) (fun _ _ => by as_aux_lemma => kernel_rfl) (fun _ => congrArg Value.bool hk1)
theorem rshl_big_r3 (a : Nat) (n : Int) (ρ1 : Nat → Orc) (w0 : World) : Reg Try.prog 2 (regOps Try.f71 2) false 19 [(1, (.int .i64 n)), (2, (.pointer (some ⟨nb ρ1 0, 0, none⟩))), (4, (.pointer (some ⟨nb ρ1 1, 0, none⟩))), (6, (.bool true))] w0 [(nb ρ1 0, (.cells (cU a) 24 (0, 0))), (nb ρ1 1, (.cells (cU 0) 24 (0, 0)))] (fun _ => True)
    (fun _ => [(1, (.int .i64 n)), (2, (.pointer (some ⟨nb ρ1 0, 0, none⟩))), (4, (.pointer (some ⟨nb ρ1 1, 0, none⟩)))])
    (fun _ => [(nb ρ1 0, (.cells (cU a) 24 (0, 0))), (nb ρ1 1, (.cells (cU 0) 24 (0, 0)))]) := by
  refine reg_seq [0, 1] [1, 2, 4] 2
    (fun _ ι => ([(U 0), undef] : List Value).getD ι undef)
    (fun _ ι => ([{}, { puts := [(1, (.cells (cU 0) 24 (0, 0)))] }] : List Eff).getD ι {})
    (by as_aux_lemma => kernel_rfl) (by as_aux_lemma => kernel_rfl) (fun _ => by as_aux_lemma => kernel_rfl) (fun _ => by as_aux_lemma => kernel_rfl) ⟨⟨trivial, ?_⟩, ?_⟩
  · exact o_run 0 [] [] (fun _ _ => []) (fun _ _ => by as_aux_lemma => kernel_rfl)
  · exact o_run 1 [1] [] (fun _ _ => [nb ρ1 1, nb ρ1 1, nb ρ1 1, nb ρ1 1]) (fun _ _ => by as_aux_lemma => kernel_rfl)
theorem rshl_big (a : Nat) (n : Int) (hn : 256 ≤ n) (w0 : World) : Calls Try.prog 71 #[(U a), (.int .i64 n)] w0 (fun ε w' => ε = .returned (U 0) ∧ Below w0.heap.size w0 w') := by
  refine Calls.of_ok (n := 19) (F := fun _ => True) Try.func71 rfl rfl rfl (by simp) (persTrue (fun _ => trivial)) ?_
  have hk1 : decide (256 ≤ n) = true := decide_eq_true hn
  refine ok_seq_r (by as_aux_lemma => kernel_rfl) (rshl_big_r1 a n _) (fun ρ1 => ?_)
  refine ok_seq ?_
  refine ok_seq_r (by as_aux_lemma => kernel_rfl) (rshl_big_r2 a n hk1 ρ1 _) (fun _ => ?_)
  refine ok_yes (by as_aux_lemma => kernel_rfl) ?_
  refine ok_seq_r (by as_aux_lemma => kernel_rfl) (rshl_big_r3 a n ρ1 _) (fun _ => ?_)
  refine ok_ret ?_
  refine mt_then_r ?_
  exact meets_ret (v := (U 0)) [1, 1, 1, 1] (dup [nb ρ1 1, nb ρ1 1, nb ρ1 1, nb ρ1 1]) (by as_aux_lemma => kernel_rfl) (by as_aux_lemma => kernel_rfl) (eqs_dup _) (fun _ hS => ⟨rfl, hS.below⟩)
theorem rshl_neg_r1 (a : Nat) (n : Int) (w0 : World) : Reg Try.prog 0 (regOps Try.f71 0) false 19 [(0, (U a)), (1, (.int .i64 n))] w0 [] (fun _ => True)
    (fun ρ => [(1, (.int .i64 n)), (2, (.pointer (some ⟨nb ρ 0, 0, none⟩))), (4, (.pointer (some ⟨nb ρ 1, 0, none⟩)))])
    (fun ρ => [(nb ρ 0, (.cells (cU a) 24 (0, 0))), (nb ρ 1, (.cells (cU 0) 24 (0, 0)))]) := by
  refine reg_seq [0, 1] [1, 2, 4] 2
    (fun ρ ι => ([(.pointer (some ⟨nb ρ 0, 0, none⟩)), (.pointer (some ⟨nb ρ 1, 0, none⟩))] : List Value).getD ι undef)
    (fun ρ ι => ([{ news := [(nb ρ 0, (.cells (cU a) 24 (0, 0)))] }, { news := [(nb ρ 1, (.cells (cU 0) 24 (0, 0)))] }] : List Eff).getD ι {})
    (by as_aux_lemma => kernel_rfl) (by as_aux_lemma => kernel_rfl) (fun _ => by as_aux_lemma => kernel_rfl) (fun _ => by as_aux_lemma => kernel_rfl) ⟨⟨trivial, ?_⟩, ?_⟩
  · exact o_run 0 [] [] (fun _ _ => []) (fun _ _ => by as_aux_lemma => kernel_rfl)
  · exact o_run 1 [] [] (fun _ _ => []) (fun _ _ => by as_aux_lemma => kernel_rfl)
theorem rshl_neg_r2 (a : Nat) (n : Int) (hk0 : decide (256 ≤ n) = false) (ρ1 : Nat → Orc) (w0 : World) : Reg Try.prog 1 (regOps Try.f71 1) false 19 [(1, (.int .i64 n)), (2, (.pointer (some ⟨nb ρ1 0, 0, none⟩))), (4, (.pointer (some ⟨nb ρ1 1, 0, none⟩)))] w0 [(nb ρ1 0, (.cells (cU a) 24 (0, 0))), (nb ρ1 1, (.cells (cU 0) 24 (0, 0)))] (fun _ => True)
    (fun _ => [(1, (.int .i64 n)), (2, (.pointer (some ⟨nb ρ1 0, 0, none⟩))), (4, (.pointer (some ⟨nb ρ1 1, 0, none⟩))), (6, (.bool false))])
    (fun _ => [(nb ρ1 0, (.cells (cU a) 24 (0, 0))), (nb ρ1 1, (.cells (cU 0) 24 (0, 0)))]) := by
  refine reg_seq [0, 1] [1, 2, 4, 6] 2
    (fun _ ι => ([(.int .i64 n), (.bool false)] : List Value).getD ι undef)
    (fun _ ι => ([{}, {}] : List Eff).getD ι {})
    (by as_aux_lemma => kernel_rfl) (by as_aux_lemma => kernel_rfl) (fun _ => by as_aux_lemma => kernel_rfl) (fun _ => by as_aux_lemma => kernel_rfl) ⟨⟨trivial, ?_⟩, ?_⟩
  · exact o_run 0 [] [] (fun _ _ => []) (fun _ _ => by as_aux_lemma => kernel_rfl)
  · exact o_as 1 (fun _ => (.bool (decide (256 ≤ n)))) (fun _ => (.bool false)) (fun _ _ => by as_aux_lemma => kernel_rfl) (fun _ => congrArg Value.bool hk0)
theorem rshl_neg_r3 (a : Nat) (n : Int) (hk1 : decide (0 < n) = false) (ρ1 : Nat → Orc) (w0 : World) : Reg Try.prog 3 (regOps Try.f71 3) false 19 [(1, (.int .i64 n)), (2, (.pointer (some ⟨nb ρ1 0, 0, none⟩))), (4, (.pointer (some ⟨nb ρ1 1, 0, none⟩))), (6, (.bool false))] w0 [(nb ρ1 0, (.cells (cU a) 24 (0, 0))), (nb ρ1 1, (.cells (cU 0) 24 (0, 0)))] (fun _ => True)
    (fun _ => [(1, (.int .i64 n)), (2, (.pointer (some ⟨nb ρ1 0, 0, none⟩))), (4, (.pointer (some ⟨nb ρ1 1, 0, none⟩))), (8, (.int .i64 n)), (9, (.bool false))])
    (fun _ => [(nb ρ1 0, (.cells (cU a) 24 (0, 0))), (nb ρ1 1, (.cells (cU 0) 24 (0, 0)))]) := by
  refine reg_seq [0, 1] [1, 2, 4, 8, 9] 2
    (fun _ ι => ([(.int .i64 n), (.bool false)] : List Value).getD ι undef)
    (fun _ ι => ([{}, {}] : List Eff).getD ι {})
    (by as_aux_lemma => kernel_rfl) (by as_aux_lemma => kernel_rfl) (fun _ => by as_aux_lemma => kernel_rfl) (fun _ => by as_aux_lemma => kernel_rfl) ⟨⟨trivial, ?_⟩, ?_⟩
  · exact o_run 0 [] [] (fun _ _ => []) (fun _ _ => by as_aux_lemma => kernel_rfl)
  · exact o_as 1 (fun _ => (.bool (decide (0 < n)))) (fun _ => (.bool false)) (fun _ _ => by as_aux_lemma => kernel_rfl) (fun _ => congrArg Value.bool hk1)
theorem rshl_neg_r4 (a : Nat) (n : Int) (ρ1 : Nat → Orc) (w0 : World) : Reg Try.prog 6 (regOps Try.f71 6) false 19 [(1, (.int .i64 n)), (2, (.pointer (some ⟨nb ρ1 0, 0, none⟩))), (4, (.pointer (some ⟨nb ρ1 1, 0, none⟩))), (8, (.int .i64 n)), (9, (.bool false))] w0 [(nb ρ1 0, (.cells (cU a) 24 (0, 0))), (nb ρ1 1, (.cells (cU 0) 24 (0, 0)))] (fun _ => True)
    (fun _ => [(4, (.pointer (some ⟨nb ρ1 1, 0, none⟩)))])
    (fun _ => [(nb ρ1 0, (.cells (cU a) 24 (0, 0))), (nb ρ1 1, (.cells (cU a) 24 (0, 0)))]) := by
  refine reg_seq [0, 1] [4] 2
    (fun _ ι => ([(U a), undef] : List Value).getD ι undef)
    (fun _ ι => ([{}, { puts := [(1, (.cells (cU a) 24 (0, 0)))] }] : List Eff).getD ι {})
    (by as_aux_lemma => kernel_rfl) (by as_aux_lemma => kernel_rfl) (fun _ => by as_aux_lemma => kernel_rfl) (fun _ => by as_aux_lemma => kernel_rfl) ⟨⟨trivial, ?_⟩, ?_⟩
  · exact o_run 0 [0] [] (fun _ _ => [nb ρ1 0, nb ρ1 0, nb ρ1 0, nb ρ1 0]) (fun _ _ => by as_aux_lemma => kernel_rfl)
  · exact o_run 1 [1] [] (fun _ _ => [nb ρ1 1, nb ρ1 1, nb ρ1 1, nb ρ1 1]) (fun _ _ => by as_aux_lemma => kernel_rfl)
theorem rshl_neg (a : Nat) (n : Int) (_hn : n ≤ 0) (w0 : World) : Calls Try.prog 71 #[(U a), (.int .i64 n)] w0 (fun ε w' => ε = .returned (U a) ∧ Below w0.heap.size w0 w') := by
  refine Calls.of_ok (n := 19) (F := fun _ => True) Try.func71 rfl rfl rfl (by simp) (persTrue (fun _ => trivial)) ?_
  have hk0 : decide (256 ≤ n) = false := decide_eq_false (by omega)
  have hk1 : decide (0 < n) = false := decide_eq_false (by omega)
  refine ok_seq_r (by as_aux_lemma => kernel_rfl) (rshl_neg_r1 a n _) (fun ρ1 => ?_)
  refine ok_seq ?_
  refine ok_seq_r (by as_aux_lemma => kernel_rfl) (rshl_neg_r2 a n hk0 ρ1 _) (fun _ => ?_)
  refine ok_no (by as_aux_lemma => kernel_rfl) ?_
  refine ok_skip ?_
  refine mt_then ?_
  refine ok_seq ?_
  refine ok_block ?_
  refine ok_rounds 1 ?_
  refine okr_succ ?_
  refine ok_seq ?_
  refine ok_seq_r (by as_aux_lemma => kernel_rfl) (rshl_neg_r3 a n hk1 ρ1 _) (fun _ => ?_)
  refine ok_no (by as_aux_lemma => kernel_rfl) ?_
  refine ok_exit ?_
  refine mt_then_e ?_
  refine mt_then_e ?_
  refine mt_block_h ?_
  refine mt_then ?_
  refine ok_seq_r (by as_aux_lemma => kernel_rfl) (rshl_neg_r4 a n ρ1 _) (fun _ => ?_)
  refine ok_ret ?_
  exact meets_ret (v := (U a)) [1, 1, 1, 1] (dup [nb ρ1 1, nb ρ1 1, nb ρ1 1, nb ρ1 1]) (by as_aux_lemma => kernel_rfl) (by as_aux_lemma => kernel_rfl) (eqs_dup _) (fun _ hS => ⟨rfl, hS.below⟩)
theorem rshl_mid_r1 (a : Nat) (m : Nat) (w0 : World) : Reg Try.prog 0 (regOps Try.f71 0) false 19 [(0, (U a)), (1, (.int .i64 ((m : Nat) : Int)))] w0 [] (fun _ => True)
    (fun ρ => [(1, (.int .i64 ((m : Nat) : Int))), (2, (.pointer (some ⟨nb ρ 0, 0, none⟩))), (4, (.pointer (some ⟨nb ρ 1, 0, none⟩)))])
    (fun ρ => [(nb ρ 0, (.cells (cU a) 24 (0, 0))), (nb ρ 1, (.cells (cU 0) 24 (0, 0)))]) := by
  refine reg_seq [0, 1] [1, 2, 4] 2
    (fun ρ ι => ([(.pointer (some ⟨nb ρ 0, 0, none⟩)), (.pointer (some ⟨nb ρ 1, 0, none⟩))] : List Value).getD ι undef)
    (fun ρ ι => ([{ news := [(nb ρ 0, (.cells (cU a) 24 (0, 0)))] }, { news := [(nb ρ 1, (.cells (cU 0) 24 (0, 0)))] }] : List Eff).getD ι {})
    (by as_aux_lemma => kernel_rfl) (by as_aux_lemma => kernel_rfl) (fun _ => by as_aux_lemma => kernel_rfl) (fun _ => by as_aux_lemma => kernel_rfl) ⟨⟨trivial, ?_⟩, ?_⟩
  · exact o_run 0 [] [] (fun _ _ => []) (fun _ _ => by as_aux_lemma => kernel_rfl)
  · exact o_run 1 [] [] (fun _ _ => []) (fun _ _ => by as_aux_lemma => kernel_rfl)
theorem rshl_mid_r2 (a : Nat) (m : Nat) (hk0 : decide (256 ≤ ((m : Nat) : Int)) = false) (ρ1 : Nat → Orc) (w0 : World) : Reg Try.prog 1 (regOps Try.f71 1) false 19 [(1, (.int .i64 ((m : Nat) : Int))), (2, (.pointer (some ⟨nb ρ1 0, 0, none⟩))), (4, (.pointer (some ⟨nb ρ1 1, 0, none⟩)))] w0 [(nb ρ1 0, (.cells (cU a) 24 (0, 0))), (nb ρ1 1, (.cells (cU 0) 24 (0, 0)))] (fun _ => True)
    (fun _ => [(1, (.int .i64 ((m : Nat) : Int))), (2, (.pointer (some ⟨nb ρ1 0, 0, none⟩))), (4, (.pointer (some ⟨nb ρ1 1, 0, none⟩))), (6, (.bool false))])
    (fun _ => [(nb ρ1 0, (.cells (cU a) 24 (0, 0))), (nb ρ1 1, (.cells (cU 0) 24 (0, 0)))]) := by
  refine reg_seq [0, 1] [1, 2, 4, 6] 2
    (fun _ ι => ([(.int .i64 ((m : Nat) : Int)), (.bool false)] : List Value).getD ι undef)
    (fun _ ι => ([{}, {}] : List Eff).getD ι {})
    (by as_aux_lemma => kernel_rfl) (by as_aux_lemma => kernel_rfl) (fun _ => by as_aux_lemma => kernel_rfl) (fun _ => by as_aux_lemma => kernel_rfl) ⟨⟨trivial, ?_⟩, ?_⟩
  · exact o_run 0 [] [] (fun _ _ => []) (fun _ _ => by as_aux_lemma => kernel_rfl)
  · exact o_as 1 (fun _ => (.bool (decide (256 ≤ ((m : Nat) : Int))))) (fun _ => (.bool false)) (fun _ _ => by as_aux_lemma => kernel_rfl) (fun _ => congrArg Value.bool hk0)
theorem rshl_mid_r3 (k : Nat) (b : Nat) (ρ1 : Nat → Orc) (w0 : World) : Reg Try.prog 3 (regOps Try.f71 3) false 19 [(1, (.int .i64 ((k : Nat) : Int))), (2, (.pointer (some ⟨nb ρ1 0, 0, none⟩))), (4, (.pointer (some ⟨nb ρ1 1, 0, none⟩)))] w0 [(nb ρ1 0, (.cells (cU b) 24 (0, 0))), (nb ρ1 1, (.cells (cU 0) 24 (0, 0)))] (fun _ => True)
    (fun _ => [(1, (.int .i64 ((k : Nat) : Int))), (2, (.pointer (some ⟨nb ρ1 0, 0, none⟩))), (4, (.pointer (some ⟨nb ρ1 1, 0, none⟩))), (9, (.bool (decide (0 < ((k : Nat) : Int)))))])
    (fun _ => [(nb ρ1 0, (.cells (cU b) 24 (0, 0))), (nb ρ1 1, (.cells (cU 0) 24 (0, 0)))]) := by
  refine reg_seq [0, 1] [1, 2, 4, 9] 2
    (fun _ ι => ([(.int .i64 ((k : Nat) : Int)), (.bool (decide (0 < ((k : Nat) : Int))))] : List Value).getD ι undef)
    (fun _ ι => ([{}, {}] : List Eff).getD ι {})
    (by as_aux_lemma => kernel_rfl) (by as_aux_lemma => kernel_rfl) (fun _ => by as_aux_lemma => kernel_rfl) (fun _ => by as_aux_lemma => kernel_rfl) ⟨⟨trivial, ?_⟩, ?_⟩
  · exact o_run 0 [] [] (fun _ _ => []) (fun _ _ => by as_aux_lemma => kernel_rfl)
  · exact o_run 1 [] [] (fun _ _ => []) (fun _ _ => by as_aux_lemma => kernel_rfl)
theorem rshl_mid_r4 (k : Nat) (b : Nat) (hbM : b < M) (ρ1 : Nat → Orc) (w0 : World) : Reg Try.prog 5 (regOps Try.f71 5) false 19 [(1, (.int .i64 ((k : Nat) : Int))), (2, (.pointer (some ⟨nb ρ1 0, 0, none⟩))), (4, (.pointer (some ⟨nb ρ1 1, 0, none⟩))), (9, (.bool true))] w0 [(nb ρ1 0, (.cells (cU b) 24 (0, 0))), (nb ρ1 1, (.cells (cU 0) 24 (0, 0)))] (fun _ => True)
    (fun _ => [(1, (.int .i64 ((k : Nat) : Int))), (2, (.pointer (some ⟨nb ρ1 0, 0, none⟩))), (4, (.pointer (some ⟨nb ρ1 1, 0, none⟩)))])
    (fun _ => [(nb ρ1 0, (.cells (cU ((b + b) % M)) 24 (0, 0))), (nb ρ1 1, (.cells (cU 0) 24 (0, 0)))]) := by
  refine reg_seq [0, 1, 3, 7, 15, 31, 63] [1, 2, 4] 7
    (fun _ ι => ([(U b), (U b), (.tuple #[(U ((b + b) % M)), (.bool (decide (M ≤ b + b)))]), (.tuple #[(U ((b + b) % M)), (.bool (decide (M ≤ b + b)))]), (U ((b + b) % M)), (.bool (decide (M ≤ b + b))), undef] : List Value).getD ι undef)
    (fun _ ι => ([{}, {}, {}, {}, {}, {}, { puts := [(0, (.cells (cU ((b + b) % M)) 24 (0, 0)))] }] : List Eff).getD ι {})
    (by as_aux_lemma => kernel_rfl) (by as_aux_lemma => kernel_rfl) (fun _ => by as_aux_lemma => kernel_rfl) (fun _ => by as_aux_lemma => kernel_rfl) ⟨⟨⟨⟨⟨⟨⟨trivial, ?_⟩, ?_⟩, ?_⟩, ?_⟩, ?_⟩, ?_⟩, ?_⟩
  · exact o_run 0 [0] [] (fun _ _ => [nb ρ1 0, nb ρ1 0, nb ρ1 0, nb ρ1 0]) (fun _ _ => by as_aux_lemma => kernel_rfl)
  · exact o_run 1 [0] [] (fun _ _ => [nb ρ1 0, nb ρ1 0, nb ρ1 0, nb ρ1 0]) (fun _ _ => by as_aux_lemma => kernel_rfl)
  · exact o_call 2 43 (fun _ => #[(U b), (U b)]) (fun _ => (.tuple #[(U ((b + b) % M)), (.bool (decide (M ≤ b + b)))])) (fun _ _ => by as_aux_lemma => kernel_rfl) (fun _ w => (fun w => radd_any b b w hbM hbM) w)
  · exact o_run 3 [] [] (fun _ _ => []) (fun _ _ => by as_aux_lemma => kernel_rfl)
  · exact o_run 4 [] [] (fun _ _ => []) (fun _ _ => by as_aux_lemma => kernel_rfl)
  · exact o_run 5 [] [] (fun _ _ => []) (fun _ _ => by as_aux_lemma => kernel_rfl)
  · exact o_run 6 [0] [] (fun _ _ => [nb ρ1 0, nb ρ1 0, nb ρ1 0, nb ρ1 0]) (fun _ _ => by as_aux_lemma => kernel_rfl)
theorem rshl_mid_r5 (m : Nat) (k : Nat) (b : Nat) (hk : k ≤ m ∧ m < 256) (hb1 : (decide (0 < ((k : Nat) : Int))) = true) (ρ1 : Nat → Orc) (w0 : World) : Reg Try.prog 4 (regOps Try.f71 4) false 19 [(1, (.int .i64 ((k : Nat) : Int))), (2, (.pointer (some ⟨nb ρ1 0, 0, none⟩))), (4, (.pointer (some ⟨nb ρ1 1, 0, none⟩)))] w0 [(nb ρ1 0, (.cells (cU ((b + b) % M)) 24 (0, 0))), (nb ρ1 1, (.cells (cU 0) 24 (0, 0)))] (fun _ => True)
    (fun _ => [(1, (.int .i64 ((k - 1 : Nat) : Int))), (2, (.pointer (some ⟨nb ρ1 0, 0, none⟩))), (4, (.pointer (some ⟨nb ρ1 1, 0, none⟩)))])
    (fun _ => [(nb ρ1 0, (.cells (cU ((b + b) % M)) 24 (0, 0))), (nb ρ1 1, (.cells (cU 0) 24 (0, 0)))]) := by
  refine reg_seq [0, 1, 3] [1, 2, 4] 3
    (fun _ ι => ([(.int .i64 ((k : Nat) : Int)), (.int .i64 ((k - 1 : Nat) : Int)), (.int .i64 ((k - 1 : Nat) : Int))] : List Value).getD ι undef)
    (fun _ ι => ([{}, {}, {}] : List Eff).getD ι {})
    (by as_aux_lemma => kernel_rfl) (by as_aux_lemma => kernel_rfl) (fun _ => by as_aux_lemma => kernel_rfl) (fun _ => by as_aux_lemma => kernel_rfl) ⟨⟨⟨trivial, ?_⟩, ?_⟩, ?_⟩
  · exact o_run 0 [] [] (fun _ _ => []) (fun _ _ => by as_aux_lemma => kernel_rfl)
  · exact o_as 1 (fun _ => (.int .i64 (IntKind.i64.wrap (((k : Nat) : Int) - 1)))) (fun _ => (.int .i64 ((k - 1 : Nat) : Int))) (fun _ _ => by as_aux_lemma => kernel_rfl) (fun _ => congrArg (Value.int .i64) (wrap_sub_nat k 1 (by have := of_decide_eq_true hb1; omega) (by have := hk; omega)))
  · exact o_run 2 [] [] (fun _ _ => []) (fun _ _ => by as_aux_lemma => kernel_rfl)
theorem rshl_mid_r6 (k : Nat) (b : Nat) (ρ1 : Nat → Orc) (w0 : World) : Reg Try.prog 6 (regOps Try.f71 6) false 19 [(1, (.int .i64 ((k : Nat) : Int))), (2, (.pointer (some ⟨nb ρ1 0, 0, none⟩))), (4, (.pointer (some ⟨nb ρ1 1, 0, none⟩))), (9, (.bool false))] w0 [(nb ρ1 0, (.cells (cU b) 24 (0, 0))), (nb ρ1 1, (.cells (cU 0) 24 (0, 0)))] (fun _ => True)
    (fun _ => [(4, (.pointer (some ⟨nb ρ1 1, 0, none⟩)))])
    (fun _ => [(nb ρ1 0, (.cells (cU b) 24 (0, 0))), (nb ρ1 1, (.cells (cU b) 24 (0, 0)))]) := by
  refine reg_seq [0, 1] [4] 2
    (fun _ ι => ([(U b), undef] : List Value).getD ι undef)
    (fun _ ι => ([{}, { puts := [(1, (.cells (cU b) 24 (0, 0)))] }] : List Eff).getD ι {})
    (by as_aux_lemma => kernel_rfl) (by as_aux_lemma => kernel_rfl) (fun _ => by as_aux_lemma => kernel_rfl) (fun _ => by as_aux_lemma => kernel_rfl) ⟨⟨trivial, ?_⟩, ?_⟩
  · exact o_run 0 [0] [] (fun _ _ => [nb ρ1 0, nb ρ1 0, nb ρ1 0, nb ρ1 0]) (fun _ _ => by as_aux_lemma => kernel_rfl)
  · exact o_run 1 [1] [] (fun _ _ => [nb ρ1 1, nb ρ1 1, nb ρ1 1, nb ρ1 1]) (fun _ _ => by as_aux_lemma => kernel_rfl)
theorem rshl_mid (a : Nat) (m : Nat) (ha : a < M) (hm : m < 256) (w0 : World) : Calls Try.prog 71 #[(U a), (.int .i64 ((m : Nat) : Int))] w0 (fun ε w' => ε = .returned (U (shlN a m)) ∧ Below w0.heap.size w0 w') := by
  refine Calls.of_ok (n := 19) (F := fun _ => True) Try.func71 rfl rfl rfl (by simp) (persTrue (fun _ => trivial)) ?_
  have hk0 : decide (256 ≤ ((m : Nat) : Int)) = false := decide_eq_false (by omega)
  refine ok_seq_r (by as_aux_lemma => kernel_rfl) (rshl_mid_r1 a m _) (fun ρ1 => ?_)
  refine ok_seq ?_
  refine ok_seq_r (by as_aux_lemma => kernel_rfl) (rshl_mid_r2 a m hk0 ρ1 _) (fun _ => ?_)
  refine ok_no (by as_aux_lemma => kernel_rfl) ?_
  refine ok_skip ?_
  refine mt_then ?_
  refine ok_seq ?_
  refine ok_block ?_
  refine ok_loop (σ := Nat × Nat) (fun ⟨k, _⟩ => [(1, (.int .i64 ((k : Nat) : Int))), (2, (.pointer (some ⟨nb ρ1 0, 0, none⟩))), (4, (.pointer (some ⟨nb ρ1 1, 0, none⟩)))]) (fun ⟨_, b⟩ => [(nb ρ1 0, (.cells (cU b) 24 (0, 0))), (nb ρ1 1, (.cells (cU 0) 24 (0, 0)))]) (fun ⟨k, _⟩ => k)
    (fun ⟨k, b⟩ => (k ≤ m ∧ m < 256) ∧ (b = a * 2 ^ (m - k) % M)) (m, a) (⟨⟨Nat.le_refl _, hm⟩, by rw [Nat.sub_self, Nat.pow_zero, Nat.mul_one, Nat.mod_eq_of_lt ha]⟩) (by as_aux_lemma => kernel_rfl) (.cons_cons _ (.cons_cons _ .slnil)) ?_
  rintro ⟨k, b⟩ ⟨hk, hb⟩
  change Ok Try.prog _ _ 19 [(1, (.int .i64 ((k : Nat) : Int))), (2, (.pointer (some ⟨nb ρ1 0, 0, none⟩))), (4, (.pointer (some ⟨nb ρ1 1, 0, none⟩)))] _ [(nb ρ1 0, (.cells (cU b) 24 (0, 0))), (nb ρ1 1, (.cells (cU 0) 24 (0, 0)))] (fun _ => True)
  have hbM : b < M := by rw [hb]; exact modM_lt _
  refine ok_seq ?_
  refine ok_seq_r (by as_aux_lemma => kernel_rfl) (rshl_mid_r3 k b ρ1 _) (fun _ => ?_)
  refine ok_cond (b := decide (0 < ((k : Nat) : Int))) (by as_aux_lemma => kernel_rfl) (fun hb1 => ?_) (fun hb1 => ?_)
  ·
    rw [hb1]
    refine ok_skip ?_
    refine mt_then ?_
    refine ok_seq ?_
    refine ok_block ?_
    refine ok_r (by as_aux_lemma => kernel_rfl) (rshl_mid_r4 k b hbM ρ1 _) (fun _ => ?_)
    refine mt_block_n ?_
    refine mt_then ?_
    refine ok_r (by as_aux_lemma => kernel_rfl) (rshl_mid_r5 m k b hk hb1 ρ1 _) (fun _ => ?_)
    exact mt_round (k - 1, (b + b) % M) (by show k - 1 < k; have := of_decide_eq_true hb1; omega) (⟨⟨by omega, hk.2⟩, by rw [hb, shl_next]; congr 3; have := of_decide_eq_true hb1; omega⟩) (by as_aux_lemma => kernel_rfl) (.cons_cons _ (.cons_cons _ .slnil))
  ·
    rw [hb1]
    refine ok_exit ?_
    refine mt_then_e ?_
    refine mt_then_e ?_
    refine mt_block_h ?_
    refine mt_then ?_
    refine ok_seq_r (by as_aux_lemma => kernel_rfl) (rshl_mid_r6 k b ρ1 _) (fun _ => ?_)
    refine ok_ret ?_
    exact meets_ret (v := (U b)) [1, 1, 1, 1] (dup [nb ρ1 1, nb ρ1 1, nb ρ1 1, nb ρ1 1]) (by as_aux_lemma => kernel_rfl) (by as_aux_lemma => kernel_rfl) (eqs_dup _) (fun _ hS => ⟨congrArg (fun x => Ending.returned (U x)) (by rw [hb, show k = 0 by have := of_decide_eq_false hb1; omega]; rfl), hS.below⟩)
theorem rshl_any (a : Nat) (n : Int) (w0 : World) (ha : a < M) : Calls Try.prog 71 #[U a, .int .i64 n] w0 (fun ε w' => ε = .returned (U (shlZ a n)) ∧ Below w0.heap.size w0 w') := by
  unfold shlZ
  by_cases h0 : n < 0
  · rw [if_pos h0]; exact rshl_neg a n (by omega) w0
  · rw [if_neg h0]
    by_cases h1 : 256 ≤ n
    · rw [shlN_big a (by omega)]; exact rshl_big a n h1 w0
    · obtain ⟨k, rfl⟩ := Int.eq_ofNat_of_zero_le (by omega : 0 ≤ n)
      rw [Int.toNat_natCast]
      exact rshl_mid a k ha (by omega) w0
theorem rshr_neg_r1 (a : Nat) (n : Int) (w0 : World) : Reg Try.prog 0 (regOps Try.f41 0) false 34 [(0, (U a)), (1, (.int .i64 n))] w0 [] (fun _ => True)
    (fun ρ => [(1, (.int .i64 n)), (2, (.pointer (some ⟨nb ρ 0, 0, none⟩))), (4, (.pointer (some ⟨nb ρ 1, 0, none⟩)))])
    (fun ρ => [(nb ρ 0, (.cells (cU a) 24 (0, 0))), (nb ρ 1, (.cells (cU 0) 24 (0, 0)))]) := by
  refine reg_seq [0, 1] [1, 2, 4] 2
    (fun ρ ι => ([(.pointer (some ⟨nb ρ 0, 0, none⟩)), (.pointer (some ⟨nb ρ 1, 0, none⟩))] : List Value).getD ι undef)
    (fun ρ ι => ([{ news := [(nb ρ 0, (.cells (cU a) 24 (0, 0)))] }, { news := [(nb ρ 1, (.cells (cU 0) 24 (0, 0)))] }] : List Eff).getD ι {})
    (by as_aux_lemma => kernel_rfl) (by as_aux_lemma => kernel_rfl) (fun _ => by as_aux_lemma => kernel_rfl) (fun _ => by as_aux_lemma => kernel_rfl) ⟨⟨trivial, ?_⟩, ?_⟩
  · exact o_run 0 [] [] (fun _ _ => []) (fun _ _ => by as_aux_lemma => kernel_rfl)
  · exact o_run 1 [] [] (fun _ _ => []) (fun _ _ => by as_aux_lemma => kernel_rfl)
theorem rshr_neg_r2 (a : Nat) (n : Int) (hk0 : decide (n ≤ 0) = true) (ρ1 : Nat → Orc) (w0 : World) : Reg Try.prog 1 (regOps Try.f41 1) false 34 [(1, (.int .i64 n)), (2, (.pointer (some ⟨nb ρ1 0, 0, none⟩))), (4, (.pointer (some ⟨nb ρ1 1, 0, none⟩)))] w0 [(nb ρ1 0, (.cells (cU a) 24 (0, 0))), (nb ρ1 1, (.cells (cU 0) 24 (0, 0)))] (fun _ => True)
    (fun _ => [(1, (.int .i64 n)), (2, (.pointer (some ⟨nb ρ1 0, 0, none⟩))), (4, (.pointer (some ⟨nb ρ1 1, 0, none⟩))), (8, (.bool true))])
    (fun _ => [(nb ρ1 0, (.cells (cU a) 24 (0, 0))), (nb ρ1 1, (.cells (cU 0) 24 (0, 0)))]) := by
  refine reg_seq [0, 1] [1, 2, 4, 8] 2
    (fun _ ι => ([(.int .i64 n), (.bool true)] : List Value).getD ι undef)
    (fun _ ι => ([{}, {}] : List Eff).getD ι {})
    (by as_aux_lemma => kernel_rfl) (by as_aux_lemma => kernel_rfl) (fun _ => by as_aux_lemma => kernel_rfl) (fun _ => by as_aux_lemma => kernel_rfl) ⟨⟨trivial, ?_⟩, ?_⟩
  · exact o_run 0 [] [] (fun _ _ => []) (fun _ _ => by as_aux_lemma => kernel_rfl)
  · exact o_as 1 (fun _ => (.bool (decide (n ≤ 0)))) (fun _ => (.bool true)) (fun _ _ => by as_aux_lemma => kernel_rfl) (fun _ => congrArg Value.bool hk0)
theorem rshr_neg_r3 (a : Nat) (n : Int) (ρ1 : Nat → Orc) (w0 : World) : Reg Try.prog 2 (regOps Try.f41 2) false 34 [(1, (.int .i64 n)), (2, (.pointer (some ⟨nb ρ1 0, 0, none⟩))), (4, (.pointer (some ⟨nb ρ1 1, 0, none⟩))), (8, (.bool true))] w0 [(nb ρ1 0, (.cells (cU a) 24 (0, 0))), (nb ρ1 1, (.cells (cU 0) 24 (0, 0)))] (fun _ => True)
    (fun _ => [(1, (.int .i64 n)), (2, (.pointer (some ⟨nb ρ1 0, 0, none⟩))), (4, (.pointer (some ⟨nb ρ1 1, 0, none⟩)))])
    (fun _ => [(nb ρ1 0, (.cells (cU a) 24 (0, 0))), (nb ρ1 1, (.cells (cU a) 24 (0, 0)))]) := by
  refine reg_seq [0, 1] [1, 2, 4] 2
    (fun _ ι => ([(U a), undef] : List Value).getD ι undef)
    (fun _ ι => ([{}, { puts := [(1, (.cells (cU a) 24 (0, 0)))] }] : List Eff).getD ι {})
    (by as_aux_lemma => kernel_rfl) (by as_aux_lemma => kernel_rfl) (fun _ => by as_aux_lemma => kernel_rfl) (fun _ => by as_aux_lemma => kernel_rfl) ⟨⟨trivial, ?_⟩, ?_⟩
  · exact o_run 0 [0] [] (fun _ _ => [nb ρ1 0, nb ρ1 0, nb ρ1 0, nb ρ1 0]) (fun _ _ => by as_aux_lemma => kernel_rfl)
  · exact o_run 1 [1] [] (fun _ _ => [nb ρ1 1, nb ρ1 1, nb ρ1 1, nb ρ1 1]) (fun _ _ => by as_aux_lemma => kernel_rfl)
theorem rshr_neg (a : Nat) (n : Int) (hn : n ≤ 0) (w0 : World) : Calls Try.prog 41 #[(U a), (.int .i64 n)] w0 (fun ε w' => ε = .returned (U a) ∧ Below w0.heap.size w0 w') := by
  refine Calls.of_ok (n := 34) (F := fun _ => True) Try.func41 rfl rfl rfl (by simp) (persTrue (fun _ => trivial)) ?_
  have hk0 : decide (n ≤ 0) = true := decide_eq_true hn
  refine ok_seq_r (by as_aux_lemma => kernel_rfl) (rshr_neg_r1 a n _) (fun ρ1 => ?_)
  refine ok_seq ?_
  refine ok_seq_r (by as_aux_lemma => kernel_rfl) (rshr_neg_r2 a n hk0 ρ1 _) (fun _ => ?_)
  refine ok_yes (by as_aux_lemma => kernel_rfl) ?_
  refine ok_seq_r (by as_aux_lemma => kernel_rfl) (rshr_neg_r3 a n ρ1 _) (fun _ => ?_)
  refine ok_ret ?_
  refine mt_then_r ?_
  exact meets_ret (v := (U a)) [1, 1, 1, 1] (dup [nb ρ1 1, nb ρ1 1, nb ρ1 1, nb ρ1 1]) (by as_aux_lemma => kernel_rfl) (by as_aux_lemma => kernel_rfl) (eqs_dup _) (fun _ hS => ⟨rfl, hS.below⟩)
theorem rshr_big_r1 (a : Nat) (n : Int) (w0 : World) : Reg Try.prog 0 (regOps Try.f41 0) false 34 [(0, (U a)), (1, (.int .i64 n))] w0 [] (fun _ => True)
    (fun ρ => [(1, (.int .i64 n)), (2, (.pointer (some ⟨nb ρ 0, 0, none⟩))), (4, (.pointer (some ⟨nb ρ 1, 0, none⟩)))])
    (fun ρ => [(nb ρ 0, (.cells (cU a) 24 (0, 0))), (nb ρ 1, (.cells (cU 0) 24 (0, 0)))]) := by
  refine reg_seq [0, 1] [1, 2, 4] 2
    (fun ρ ι => ([(.pointer (some ⟨nb ρ 0, 0, none⟩)), (.pointer (some ⟨nb ρ 1, 0, none⟩))] : List Value).getD ι undef)
    (fun ρ ι => ([{ news := [(nb ρ 0, (.cells (cU a) 24 (0, 0)))] }, { news := [(nb ρ 1, (.cells (cU 0) 24 (0, 0)))] }] : List Eff).getD ι {})
    (by as_aux_lemma => kernel_rfl) (by as_aux_lemma => kernel_rfl) (fun _ => by as_aux_lemma => kernel_rfl) (fun _ => by as_aux_lemma => kernel_rfl) ⟨⟨trivial, ?_⟩, ?_⟩
  · exact o_run 0 [] [] (fun _ _ => []) (fun _ _ => by as_aux_lemma => kernel_rfl)
  · exact o_run 1 [] [] (fun _ _ => []) (fun _ _ => by as_aux_lemma => kernel_rfl)
theorem rshr_big_r2 (a : Nat) (n : Int) (hk0 : decide (n ≤ 0) = false) (ρ1 : Nat → Orc) (w0 : World) : Reg Try.prog 1 (regOps Try.f41 1) false 34 [(1, (.int .i64 n)), (2, (.pointer (some ⟨nb ρ1 0, 0, none⟩))), (4, (.pointer (some ⟨nb ρ1 1, 0, none⟩)))] w0 [(nb ρ1 0, (.cells (cU a) 24 (0, 0))), (nb ρ1 1, (.cells (cU 0) 24 (0, 0)))] (fun _ => True)
    (fun _ => [(1, (.int .i64 n)), (2, (.pointer (some ⟨nb ρ1 0, 0, none⟩))), (4, (.pointer (some ⟨nb ρ1 1, 0, none⟩))), (8, (.bool false))])
    (fun _ => [(nb ρ1 0, (.cells (cU a) 24 (0, 0))), (nb ρ1 1, (.cells (cU 0) 24 (0, 0)))]) := by
  refine reg_seq [0, 1] [1, 2, 4, 8] 2
    (fun _ ι => ([(.int .i64 n), (.bool false)] : List Value).getD ι undef)
    (fun _ ι => ([{}, {}] : List Eff).getD ι {})
    (by as_aux_lemma => kernel_rfl) (by as_aux_lemma => kernel_rfl) (fun _ => by as_aux_lemma => kernel_rfl) (fun _ => by as_aux_lemma => kernel_rfl) ⟨⟨trivial, ?_⟩, ?_⟩
  · exact o_run 0 [] [] (fun _ _ => []) (fun _ _ => by as_aux_lemma => kernel_rfl)
  · exact o_as 1 (fun _ => (.bool (decide (n ≤ 0)))) (fun _ => (.bool false)) (fun _ _ => by as_aux_lemma => kernel_rfl) (fun _ => congrArg Value.bool hk0)
theorem rshr_big_r3 (a : Nat) (n : Int) (hk1 : decide (256 ≤ n) = true) (ρ1 : Nat → Orc) (w0 : World) : Reg Try.prog 3 (regOps Try.f41 3) false 34 [(1, (.int .i64 n)), (2, (.pointer (some ⟨nb ρ1 0, 0, none⟩))), (4, (.pointer (some ⟨nb ρ1 1, 0, none⟩))), (8, (.bool false))] w0 [(nb ρ1 0, (.cells (cU a) 24 (0, 0))), (nb ρ1 1, (.cells (cU 0) 24 (0, 0)))] (fun _ => True)
    (fun _ => [(1, (.int .i64 n)), (2, (.pointer (some ⟨nb ρ1 0, 0, none⟩))), (4, (.pointer (some ⟨nb ρ1 1, 0, none⟩))), (11, (.bool true))])
    (fun _ => [(nb ρ1 0, (.cells (cU a) 24 (0, 0))), (nb ρ1 1, (.cells (cU 0) 24 (0, 0)))]) := by
  refine reg_seq [0, 1] [1, 2, 4, 11] 2
    (fun _ ι => ([(.int .i64 n), (.bool true)] : List Value).getD ι undef)
    (fun _ ι => ([{}, {}] : List Eff).getD ι {})
    (by as_aux_lemma => kernel_rfl) (by as_aux_lemma => kernel_rfl) (fun _ => by as_aux_lemma => kernel_rfl) (fun _ => by as_aux_lemma => kernel_rfl) ⟨⟨trivial, ?_⟩, ?_⟩
  · exact o_run 0 [] [] (fun _ _ => []) (fun _ _ => by as_aux_lemma => kernel_rfl)
  · exact o_as 1 (fun _ => (.bool (decide (256 ≤ n)))) (fun _ => (.bool true)) (fun _ _ => by as_aux_lemma => kernel_rfl) (fun _ => congrArg Value.bool hk1)
theorem rshr_big_r4 (a : Nat) (n : Int) (ρ1 : Nat → Orc) (w0 : World) : Reg Try.prog 4 (regOps Try.f41 4) false 34 [(1, (.int .i64 n)), (2, (.pointer (some ⟨nb ρ1 0, 0, none⟩))), (4, (.pointer (some ⟨nb ρ1 1, 0, none⟩))), (11, (.bool true))] w0 [(nb ρ1 0, (.cells (cU a) 24 (0, 0))), (nb ρ1 1, (.cells (cU 0) 24 (0, 0)))] (fun _ => True)
    (fun _ => [(1, (.int .i64 n)), (2, (.pointer (some ⟨nb ρ1 0, 0, none⟩))), (4, (.pointer (some ⟨nb ρ1 1, 0, none⟩)))])
    (fun _ => [(nb ρ1 0, (.cells (cU a) 24 (0, 0))), (nb ρ1 1, (.cells (cU 0) 24 (0, 0)))]) := by
  refine reg_seq [0, 1] [1, 2, 4] 2
    (fun _ ι => ([(U 0), undef] : List Value).getD ι undef)
    (fun _ ι => ([{}, { puts := [(1, (.cells (cU 0) 24 (0, 0)))] }] : List Eff).getD ι {})
    (by as_aux_lemma => kernel_rfl) (by as_aux_lemma => kernel_rfl) (fun _ => by as_aux_lemma => kernel_rfl) (fun _ => by as_aux_lemma => kernel_rfl) ⟨⟨trivial, ?_⟩, ?_⟩
  · exact o_run 0 [] [] (fun _ _ => []) (fun _ _ => by as_aux_lemma => kernel_rfl)
  · exact o_run 1 [1] [] (fun _ _ => [nb ρ1 1, nb ρ1 1, nb ρ1 1, nb ρ1 1]) (fun _ _ => by as_aux_lemma => kernel_rfl)
theorem rshr_big (a : Nat) (n : Int) (hn : 256 ≤ n) (w0 : World) : Calls Try.prog 41 #[(U a), (.int .i64 n)] w0 (fun ε w' => ε = .returned (U 0) ∧ Below w0.heap.size w0 w') := by
  refine Calls.of_ok (n := 34) (F := fun _ => True) Try.func41 rfl rfl rfl (by simp) (persTrue (fun _ => trivial)) ?_
  have hk0 : decide (n ≤ 0) = false := decide_eq_false (by omega)
  have hk1 : decide (256 ≤ n) = true := decide_eq_true hn
  refine ok_seq_r (by as_aux_lemma => kernel_rfl) (rshr_big_r1 a n _) (fun ρ1 => ?_)
  refine ok_seq ?_
  refine ok_seq_r (by as_aux_lemma => kernel_rfl) (rshr_big_r2 a n hk0 ρ1 _) (fun _ => ?_)
  refine ok_no (by as_aux_lemma => kernel_rfl) ?_
  refine ok_skip ?_
  refine mt_then ?_
  refine ok_seq ?_
  refine ok_seq_r (by as_aux_lemma => kernel_rfl) (rshr_big_r3 a n hk1 ρ1 _) (fun _ => ?_)
  refine ok_yes (by as_aux_lemma => kernel_rfl) ?_
  refine ok_seq_r (by as_aux_lemma => kernel_rfl) (rshr_big_r4 a n ρ1 _) (fun _ => ?_)
  refine ok_ret ?_
  refine mt_then_r ?_
  exact meets_ret (v := (U 0)) [1, 1, 1, 1] (dup [nb ρ1 1, nb ρ1 1, nb ρ1 1, nb ρ1 1]) (by as_aux_lemma => kernel_rfl) (by as_aux_lemma => kernel_rfl) (eqs_dup _) (fun _ hS => ⟨rfl, hS.below⟩)
theorem run_shl1 {P : Program} {t : TypeId} (k : Nat) (h : k < 64) (w : World) : (binOp .shl t (.int .u64 1) (.int .i64 (k : Int))).run P w = .ok (.int .u64 (2 ^ k)) w := by
  rw [run_shl]
  unfold shlW
  rw [Nat.min_eq_left (by omega), Int.one_mul, pow_in k h]
theorem rshr_mid_r1 (a : Nat) (m : Nat) (w0 : World) : Reg Try.prog 0 (regOps Try.f41 0) false 34 [(0, (U a)), (1, (.int .i64 ((m : Nat) : Int)))] w0 [] (fun _ => True)
    (fun ρ => [(1, (.int .i64 ((m : Nat) : Int))), (2, (.pointer (some ⟨nb ρ 0, 0, none⟩))), (4, (.pointer (some ⟨nb ρ 1, 0, none⟩)))])
    (fun ρ => [(nb ρ 0, (.cells (cU a) 24 (0, 0))), (nb ρ 1, (.cells (cU 0) 24 (0, 0)))]) := by
  refine reg_seq [0, 1] [1, 2, 4] 2
    (fun ρ ι => ([(.pointer (some ⟨nb ρ 0, 0, none⟩)), (.pointer (some ⟨nb ρ 1, 0, none⟩))] : List Value).getD ι undef)
    (fun ρ ι => ([{ news := [(nb ρ 0, (.cells (cU a) 24 (0, 0)))] }, { news := [(nb ρ 1, (.cells (cU 0) 24 (0, 0)))] }] : List Eff).getD ι {})
    (by as_aux_lemma => kernel_rfl) (by as_aux_lemma => kernel_rfl) (fun _ => by as_aux_lemma => kernel_rfl) (fun _ => by as_aux_lemma => kernel_rfl) ⟨⟨trivial, ?_⟩, ?_⟩
  · exact o_run 0 [] [] (fun _ _ => []) (fun _ _ => by as_aux_lemma => kernel_rfl)
  · exact o_run 1 [] [] (fun _ _ => []) (fun _ _ => by as_aux_lemma => kernel_rfl)
theorem rshr_mid_r2 (a : Nat) (m : Nat) (hk0 : decide (((m : Nat) : Int) ≤ 0) = false) (ρ1 : Nat → Orc) (w0 : World) : Reg Try.prog 1 (regOps Try.f41 1) false 34 [(1, (.int .i64 ((m : Nat) : Int))), (2, (.pointer (some ⟨nb ρ1 0, 0, none⟩))), (4, (.pointer (some ⟨nb ρ1 1, 0, none⟩)))] w0 [(nb ρ1 0, (.cells (cU a) 24 (0, 0))), (nb ρ1 1, (.cells (cU 0) 24 (0, 0)))] (fun _ => True)
    (fun _ => [(1, (.int .i64 ((m : Nat) : Int))), (2, (.pointer (some ⟨nb ρ1 0, 0, none⟩))), (4, (.pointer (some ⟨nb ρ1 1, 0, none⟩))), (8, (.bool false))])
    (fun _ => [(nb ρ1 0, (.cells (cU a) 24 (0, 0))), (nb ρ1 1, (.cells (cU 0) 24 (0, 0)))]) := by
  refine reg_seq [0, 1] [1, 2, 4, 8] 2
    (fun _ ι => ([(.int .i64 ((m : Nat) : Int)), (.bool false)] : List Value).getD ι undef)
    (fun _ ι => ([{}, {}] : List Eff).getD ι {})
    (by as_aux_lemma => kernel_rfl) (by as_aux_lemma => kernel_rfl) (fun _ => by as_aux_lemma => kernel_rfl) (fun _ => by as_aux_lemma => kernel_rfl) ⟨⟨trivial, ?_⟩, ?_⟩
  · exact o_run 0 [] [] (fun _ _ => []) (fun _ _ => by as_aux_lemma => kernel_rfl)
  · exact o_as 1 (fun _ => (.bool (decide (((m : Nat) : Int) ≤ 0)))) (fun _ => (.bool false)) (fun _ _ => by as_aux_lemma => kernel_rfl) (fun _ => congrArg Value.bool hk0)
theorem rshr_mid_r3 (a : Nat) (m : Nat) (hk1 : decide (256 ≤ ((m : Nat) : Int)) = false) (ρ1 : Nat → Orc) (w0 : World) : Reg Try.prog 3 (regOps Try.f41 3) false 34 [(1, (.int .i64 ((m : Nat) : Int))), (2, (.pointer (some ⟨nb ρ1 0, 0, none⟩))), (4, (.pointer (some ⟨nb ρ1 1, 0, none⟩))), (8, (.bool false))] w0 [(nb ρ1 0, (.cells (cU a) 24 (0, 0))), (nb ρ1 1, (.cells (cU 0) 24 (0, 0)))] (fun _ => True)
    (fun _ => [(1, (.int .i64 ((m : Nat) : Int))), (2, (.pointer (some ⟨nb ρ1 0, 0, none⟩))), (4, (.pointer (some ⟨nb ρ1 1, 0, none⟩))), (11, (.bool false))])
    (fun _ => [(nb ρ1 0, (.cells (cU a) 24 (0, 0))), (nb ρ1 1, (.cells (cU 0) 24 (0, 0)))]) := by
  refine reg_seq [0, 1] [1, 2, 4, 11] 2
    (fun _ ι => ([(.int .i64 ((m : Nat) : Int)), (.bool false)] : List Value).getD ι undef)
    (fun _ ι => ([{}, {}] : List Eff).getD ι {})
    (by as_aux_lemma => kernel_rfl) (by as_aux_lemma => kernel_rfl) (fun _ => by as_aux_lemma => kernel_rfl) (fun _ => by as_aux_lemma => kernel_rfl) ⟨⟨trivial, ?_⟩, ?_⟩
  · exact o_run 0 [] [] (fun _ _ => []) (fun _ _ => by as_aux_lemma => kernel_rfl)
  · exact o_as 1 (fun _ => (.bool (decide (256 ≤ ((m : Nat) : Int))))) (fun _ => (.bool false)) (fun _ _ => by as_aux_lemma => kernel_rfl) (fun _ => congrArg Value.bool hk1)
theorem rshr_mid_r4 (a : Nat) (m : Nat) (ρ1 : Nat → Orc) (w0 : World) : Reg Try.prog 5 (regOps Try.f41 5) false 34 [(1, (.int .i64 ((m : Nat) : Int))), (2, (.pointer (some ⟨nb ρ1 0, 0, none⟩))), (4, (.pointer (some ⟨nb ρ1 1, 0, none⟩))), (11, (.bool false))] w0 [(nb ρ1 0, (.cells (cU a) 24 (0, 0))), (nb ρ1 1, (.cells (cU 0) 24 (0, 0)))] (fun _ => True)
    (fun ρ => [(1, (.int .i64 ((m : Nat) : Int))), (2, (.pointer (some ⟨nb ρ1 0, 0, none⟩))), (4, (.pointer (some ⟨nb ρ1 1, 0, none⟩))), (5, (.pointer (some ⟨nb ρ 0, 0, none⟩)))])
    (fun ρ => [(nb ρ1 0, (.cells (cU a) 24 (0, 0))), (nb ρ1 1, (.cells (cU 0) 24 (0, 0))), (nb ρ 0, (.cells (cU 0) 24 (0, 0)))]) := by
  refine reg_seq [0] [1, 2, 4, 5] 1
    (fun ρ ι => ([(.pointer (some ⟨nb ρ 0, 0, none⟩))] : List Value).getD ι undef)
    (fun ρ ι => ([{ news := [(nb ρ 0, (.cells (cU 0) 24 (0, 0)))] }] : List Eff).getD ι {})
    (by as_aux_lemma => kernel_rfl) (by as_aux_lemma => kernel_rfl) (fun _ => by as_aux_lemma => kernel_rfl) (fun _ => by as_aux_lemma => kernel_rfl) ⟨trivial, ?_⟩
  · exact o_run 0 [] [] (fun _ _ => []) (fun _ _ => by as_aux_lemma => kernel_rfl)
theorem rshr_mid_r5 (a : Nat) (m : Nat) (ρ1 : Nat → Orc) (ρ4 : Nat → Orc) (w0 : World) : Reg Try.prog 6 (regOps Try.f41 6) false 34 [(1, (.int .i64 ((m : Nat) : Int))), (2, (.pointer (some ⟨nb ρ1 0, 0, none⟩))), (4, (.pointer (some ⟨nb ρ1 1, 0, none⟩))), (5, (.pointer (some ⟨nb ρ4 0, 0, none⟩)))] w0 [(nb ρ1 0, (.cells (cU a) 24 (0, 0))), (nb ρ1 1, (.cells (cU 0) 24 (0, 0))), (nb ρ4 0, (.cells (cU 0) 24 (0, 0)))] (fun _ => True)
    (fun _ => [(1, (.int .i64 ((m : Nat) : Int))), (2, (.pointer (some ⟨nb ρ1 0, 0, none⟩))), (4, (.pointer (some ⟨nb ρ1 1, 0, none⟩))), (5, (.pointer (some ⟨nb ρ4 0, 0, none⟩))), (6, (.int .i64 0))])
    (fun _ => [(nb ρ1 0, (.cells (cU a) 24 (0, 0))), (nb ρ1 1, (.cells (cU 0) 24 (0, 0))), (nb ρ4 0, (.cells (cU 0) 24 (0, 0)))]) := by
  refine reg_seq [0] [1, 2, 4, 5, 6] 1
    (fun _ ι => ([(.int .i64 0)] : List Value).getD ι undef)
    (fun _ ι => ([{}] : List Eff).getD ι {})
    (by as_aux_lemma => kernel_rfl) (by as_aux_lemma => kernel_rfl) (fun _ => by as_aux_lemma => kernel_rfl) (fun _ => by as_aux_lemma => kernel_rfl) ⟨trivial, ?_⟩
  · exact o_run 0 [] [] (fun _ _ => []) (fun _ _ => by as_aux_lemma => kernel_rfl)
theorem rshr_mid_r6 (a : Nat) (m : Nat) (i : Nat) (b : Nat) (hi : i + m ≤ 256) (ρ1 : Nat → Orc) (ρ4 : Nat → Orc) (w0 : World) : Reg Try.prog 7 (regOps Try.f41 7) false 34 [(1, (.int .i64 ((m : Nat) : Int))), (2, (.pointer (some ⟨nb ρ1 0, 0, none⟩))), (4, (.pointer (some ⟨nb ρ1 1, 0, none⟩))), (5, (.pointer (some ⟨nb ρ4 0, 0, none⟩))), (6, (.int .i64 ((i : Nat) : Int)))] w0 [(nb ρ1 0, (.cells (cU a) 24 (0, 0))), (nb ρ1 1, (.cells (cU 0) 24 (0, 0))), (nb ρ4 0, (.cells (cU b) 24 (0, 0)))] (fun _ => True)
    (fun _ => [(1, (.int .i64 ((m : Nat) : Int))), (2, (.pointer (some ⟨nb ρ1 0, 0, none⟩))), (4, (.pointer (some ⟨nb ρ1 1, 0, none⟩))), (5, (.pointer (some ⟨nb ρ4 0, 0, none⟩))), (6, (.int .i64 ((i : Nat) : Int))), (16, (.bool (decide (((i + m : Nat) : Int) < 256))))])
    (fun _ => [(nb ρ1 0, (.cells (cU a) 24 (0, 0))), (nb ρ1 1, (.cells (cU 0) 24 (0, 0))), (nb ρ4 0, (.cells (cU b) 24 (0, 0)))]) := by
  refine reg_seq [0, 1, 3, 7] [1, 2, 4, 5, 6, 16] 4
    (fun _ ι => ([(.int .i64 ((i : Nat) : Int)), (.int .i64 ((m : Nat) : Int)), (.int .i64 ((i + m : Nat) : Int)), (.bool (decide (((i + m : Nat) : Int) < 256)))] : List Value).getD ι undef)
    (fun _ ι => ([{}, {}, {}, {}] : List Eff).getD ι {})
    (by as_aux_lemma => kernel_rfl) (by as_aux_lemma => kernel_rfl) (fun _ => by as_aux_lemma => kernel_rfl) (fun _ => by as_aux_lemma => kernel_rfl) ⟨⟨⟨⟨trivial, ?_⟩, ?_⟩, ?_⟩, ?_⟩
  · exact o_run 0 [] [] (fun _ _ => []) (fun _ _ => by as_aux_lemma => kernel_rfl)
  · exact o_run 1 [] [] (fun _ _ => []) (fun _ _ => by as_aux_lemma => kernel_rfl)
  · exact o_as 2 (fun _ => (.int .i64 (IntKind.i64.wrap (((i : Nat) : Int) + ((m : Nat) : Int))))) (fun _ => (.int .i64 ((i + m : Nat) : Int))) (fun _ _ => by as_aux_lemma => kernel_rfl) (fun _ => congrArg (Value.int .i64) (wrap_add_nat i m (by have := hi; omega)))
  · exact o_run 3 [] [] (fun _ _ => []) (fun _ _ => by as_aux_lemma => kernel_rfl)
theorem rshr_mid_r7 (a : Nat) (m : Nat) (i : Nat) (b : Nat) (hi : i + m ≤ 256) (hb1 : (decide (((i + m : Nat) : Int) < 256)) = true) (ρ1 : Nat → Orc) (ρ4 : Nat → Orc) (w0 : World) : Reg Try.prog 9 (regOps Try.f41 9) false 34 [(1, (.int .i64 ((m : Nat) : Int))), (2, (.pointer (some ⟨nb ρ1 0, 0, none⟩))), (4, (.pointer (some ⟨nb ρ1 1, 0, none⟩))), (5, (.pointer (some ⟨nb ρ4 0, 0, none⟩))), (6, (.int .i64 ((i : Nat) : Int))), (16, (.bool true))] w0 [(nb ρ1 0, (.cells (cU a) 24 (0, 0))), (nb ρ1 1, (.cells (cU 0) 24 (0, 0))), (nb ρ4 0, (.cells (cU b) 24 (0, 0)))] (fun _ => True)
    (fun _ => [(1, (.int .i64 ((m : Nat) : Int))), (2, (.pointer (some ⟨nb ρ1 0, 0, none⟩))), (4, (.pointer (some ⟨nb ρ1 1, 0, none⟩))), (5, (.pointer (some ⟨nb ρ4 0, 0, none⟩))), (6, (.int .i64 ((i : Nat) : Int))), (23, (.bool (bitN a (i + m))))])
    (fun _ => [(nb ρ1 0, (.cells (cU a) 24 (0, 0))), (nb ρ1 1, (.cells (cU 0) 24 (0, 0))), (nb ρ4 0, (.cells (cU b) 24 (0, 0)))]) := by
  refine reg_seq [0, 1, 3, 7, 15] [1, 2, 4, 5, 6, 23] 5
    (fun _ ι => ([(U a), (.int .i64 ((i : Nat) : Int)), (.int .i64 ((m : Nat) : Int)), (.int .i64 ((i + m : Nat) : Int)), (.bool (bitN a (i + m)))] : List Value).getD ι undef)
    (fun _ ι => ([{}, {}, {}, {}, {}] : List Eff).getD ι {})
    (by as_aux_lemma => kernel_rfl) (by as_aux_lemma => kernel_rfl) (fun _ => by as_aux_lemma => kernel_rfl) (fun _ => by as_aux_lemma => kernel_rfl) ⟨⟨⟨⟨⟨trivial, ?_⟩, ?_⟩, ?_⟩, ?_⟩, ?_⟩
  · exact o_run 0 [0] [] (fun _ _ => [nb ρ1 0, nb ρ1 0, nb ρ1 0, nb ρ1 0]) (fun _ _ => by as_aux_lemma => kernel_rfl)
  · exact o_run 1 [] [] (fun _ _ => []) (fun _ _ => by as_aux_lemma => kernel_rfl)
  · exact o_run 2 [] [] (fun _ _ => []) (fun _ _ => by as_aux_lemma => kernel_rfl)
  · exact o_as 3 (fun _ => (.int .i64 (IntKind.i64.wrap (((i : Nat) : Int) + ((m : Nat) : Int))))) (fun _ => (.int .i64 ((i + m : Nat) : Int))) (fun _ _ => by as_aux_lemma => kernel_rfl) (fun _ => congrArg (Value.int .i64) (wrap_add_nat i m (by have := hi; omega)))
  · exact o_call 4 77 (fun _ => #[(U a), (.int .i64 ((i + m : Nat) : Int))]) (fun _ => (.bool (bitN a (i + m)))) (fun _ _ => by as_aux_lemma => kernel_rfl) (fun _ w => (fun w => rbit_any a (i + m) w (by have := of_decide_eq_true hb1; omega)) w)
theorem rshr_mid_r8 (a : Nat) (m : Nat) (i : Nat) (b : Nat) (hi : i + m ≤ 256) (hb : b = a / 2 ^ m % 2 ^ i) (hb1 : (decide (((i + m : Nat) : Int) < 256)) = true) (ρ1 : Nat → Orc) (ρ4 : Nat → Orc) (w0 : World) : Reg Try.prog 10 (regOps Try.f41 10) true 34 [(1, (.int .i64 ((m : Nat) : Int))), (2, (.pointer (some ⟨nb ρ1 0, 0, none⟩))), (4, (.pointer (some ⟨nb ρ1 1, 0, none⟩))), (5, (.pointer (some ⟨nb ρ4 0, 0, none⟩))), (6, (.int .i64 ((i : Nat) : Int))), (23, (.bool true))] w0 [(nb ρ1 0, (.cells (cU a) 24 (0, 0))), (nb ρ1 1, (.cells (cU 0) 24 (0, 0))), (nb ρ4 0, (.cells (cU b) 24 (0, 0)))] (fun _ => True)
    (fun _ => [(1, (.int .i64 ((m : Nat) : Int))), (2, (.pointer (some ⟨nb ρ1 0, 0, none⟩))), (4, (.pointer (some ⟨nb ρ1 1, 0, none⟩))), (5, (.pointer (some ⟨nb ρ4 0, 0, none⟩))), (6, (.int .i64 ((i : Nat) : Int)))])
    (fun _ => [(nb ρ1 0, (.cells (cU a) 24 (0, 0))), (nb ρ1 1, (.cells (cU 0) 24 (0, 0))), (nb ρ4 0, (.cells (cU (b + 2 ^ (64 * (i / 64) + i % 64))) 24 (0, 0)))]) := by
  refine reg_drawn [0, 1, 3, 7, 0, 16, 48, 127, 255, 511] [1, 2, 4, 5, 6] 10
    (fun _ ι => ([(.int .i64 ((i : Nat) : Int)), (.int .i64 ((i / 64 : Nat) : Int)), (.pointer (some ⟨nb ρ4 0, i / 64, none⟩)), (.int .u64 (wd b (i / 64))), (.int .i64 ((i : Nat) : Int)), (.int .i64 ((i % 64 : Nat) : Int)), (.int .u64 ((2 : Int) ^ (i % 64))), (.int .u64 (bits .or .u64 (wd b (i / 64)) ((2 : Int) ^ (i % 64)))), (.pointer (some ⟨nb ρ4 0, i / 64, none⟩)), undef] : List Value).getD ι undef)
    (fun _ ι => ([{}, {}, {}, {}, {}, {}, {}, {}, {}, { puts := [(2, (.cells (cU (b + 2 ^ (64 * (i / 64) + i % 64))) 24 (0, 0)))] }] : List Eff).getD ι {})
    (by as_aux_lemma => kernel_rfl) (by as_aux_lemma => kernel_rfl) (by as_aux_lemma => kernel_rfl) (fun _ => by as_aux_lemma => kernel_rfl) (fun _ => by as_aux_lemma => kernel_rfl) ⟨⟨⟨⟨⟨⟨⟨⟨⟨⟨trivial, ?_⟩, ?_⟩, ?_⟩, ?_⟩, ?_⟩, ?_⟩, ?_⟩, ?_⟩, ?_⟩, ?_⟩
  · exact o_run 0 [] [] (fun _ _ => []) (fun _ _ => by as_aux_lemma => kernel_rfl)
  · exact o_bin 1 .quo 3 (fun _ => (.int .i64 ((i : Nat) : Int))) (fun _ => (.int .i64 64)) (fun _ => (.int .i64 ((i / 64 : Nat) : Int))) (fun _ => by as_aux_lemma => kernel_rfl) (fun _ _ _ _ => by as_aux_lemma => kernel_rfl) (fun _ w => run_quo_nat i 64 (i / 64) (by decide) (by have := hi; omega) rfl w)
  · exact o_sem 2 (fun _ => do pure (Next.value (← Instr.indexAt 24 (.pointer (some ⟨nb ρ4 0, 0, none⟩)) (.int .i64 ((i / 64 : Nat) : Int))))) (fun _ => (.pointer (some ⟨nb ρ4 0, i / 64, none⟩))) (fun _ => by as_aux_lemma => kernel_rfl) (fun _ => by as_aux_lemma => kernel_rfl) (fun _ w => run_idx_nat (n := ((i / 64 : Nat) : Int)) (i := i / 64) Try.underlying24 Try.sizeOf22 (⟨rfl, by have := of_decide_eq_true hb1; omega⟩) w)
  · exact o_ld 3 2 22 (fun _ => nb ρ4 0) (fun _ => i / 64) (fun _ => (cU b)) 24 (0, 0) (fun _ => (.int .u64 (wd b (i / 64)))) (fun _ => by as_aux_lemma => kernel_rfl) Try.isAgg22 (fun _ => cU_get b (i / 64) (by have := of_decide_eq_true hb1; omega))
  · exact o_run 4 [] [] (fun _ _ => []) (fun _ _ => by as_aux_lemma => kernel_rfl)
  · exact o_bin 5 .rem 3 (fun _ => (.int .i64 ((i : Nat) : Int))) (fun _ => (.int .i64 64)) (fun _ => (.int .i64 ((i % 64 : Nat) : Int))) (fun _ => by as_aux_lemma => kernel_rfl) (fun _ _ _ _ => by as_aux_lemma => kernel_rfl) (fun _ w => run_rem_nat i 64 (i % 64) (by decide) rfl w)
  · exact o_bin 6 .shl 22 (fun _ => (.int .u64 1)) (fun _ => (.int .i64 ((i % 64 : Nat) : Int))) (fun _ => (.int .u64 ((2 : Int) ^ (i % 64)))) (fun _ => by as_aux_lemma => kernel_rfl) (fun _ _ _ _ => by as_aux_lemma => kernel_rfl) (fun _ w => run_shl1 (i % 64) (by omega) w)
  · exact o_run 7 [] [] (fun _ _ => []) (fun _ _ => by as_aux_lemma => kernel_rfl)
  · exact o_sem 8 (fun _ => do pure (Next.value (← Instr.indexAt 24 (.pointer (some ⟨nb ρ4 0, 0, none⟩)) (.int .i64 ((i / 64 : Nat) : Int))))) (fun _ => (.pointer (some ⟨nb ρ4 0, i / 64, none⟩))) (fun _ => by as_aux_lemma => kernel_rfl) (fun _ => by as_aux_lemma => kernel_rfl) (fun _ w => run_idx_nat (n := ((i / 64 : Nat) : Int)) (i := i / 64) Try.underlying24 Try.sizeOf22 (⟨rfl, by have := of_decide_eq_true hb1; omega⟩) w)
  · exact o_st 9 2 22 (fun _ => nb ρ4 0) (fun _ => i / 64) (fun _ => (cU b)) (fun _ => (cU (b + 2 ^ (64 * (i / 64) + i % 64)))) 24 (fun _ => (.int .u64 (bits .or .u64 (wd b (i / 64)) ((2 : Int) ^ (i % 64))))) (fun _ => by as_aux_lemma => kernel_rfl) Try.sizeOf22 (fun _ => rfl) (fun _ => (show _ < 4 from by have := of_decide_eq_true hb1; omega)) (fun _ => setlow_row b (i / 64) (i % 64) (by have := of_decide_eq_true hb1; omega) (by omega) (by rw [hb, show 64 * (i / 64) + i % 64 = i by omega]; exact Nat.mod_lt _ (Nat.pow_pos (by decide))))
theorem rshr_mid_r9 (a : Nat) (m : Nat) (i : Nat) (b : Nat) (hi : i + m ≤ 256) (ρ1 : Nat → Orc) (ρ4 : Nat → Orc) (w0 : World) : Reg Try.prog 8 (regOps Try.f41 8) false 34 [(1, (.int .i64 ((m : Nat) : Int))), (2, (.pointer (some ⟨nb ρ1 0, 0, none⟩))), (4, (.pointer (some ⟨nb ρ1 1, 0, none⟩))), (5, (.pointer (some ⟨nb ρ4 0, 0, none⟩))), (6, (.int .i64 ((i : Nat) : Int)))] w0 [(nb ρ1 0, (.cells (cU a) 24 (0, 0))), (nb ρ1 1, (.cells (cU 0) 24 (0, 0))), (nb ρ4 0, (.cells (cU (b + 2 ^ (64 * (i / 64) + i % 64))) 24 (0, 0)))] (fun _ => True)
    (fun _ => [(1, (.int .i64 ((m : Nat) : Int))), (2, (.pointer (some ⟨nb ρ1 0, 0, none⟩))), (4, (.pointer (some ⟨nb ρ1 1, 0, none⟩))), (5, (.pointer (some ⟨nb ρ4 0, 0, none⟩))), (6, (.int .i64 ((i + 1 : Nat) : Int)))])
    (fun _ => [(nb ρ1 0, (.cells (cU a) 24 (0, 0))), (nb ρ1 1, (.cells (cU 0) 24 (0, 0))), (nb ρ4 0, (.cells (cU (b + 2 ^ (64 * (i / 64) + i % 64))) 24 (0, 0)))]) := by
  refine reg_seq [0, 1, 3] [1, 2, 4, 5, 6] 3
    (fun _ ι => ([(.int .i64 ((i : Nat) : Int)), (.int .i64 ((i + 1 : Nat) : Int)), (.int .i64 ((i + 1 : Nat) : Int))] : List Value).getD ι undef)
    (fun _ ι => ([{}, {}, {}] : List Eff).getD ι {})
    (by as_aux_lemma => kernel_rfl) (by as_aux_lemma => kernel_rfl) (fun _ => by as_aux_lemma => kernel_rfl) (fun _ => by as_aux_lemma => kernel_rfl) ⟨⟨⟨trivial, ?_⟩, ?_⟩, ?_⟩
  · exact o_run 0 [] [] (fun _ _ => []) (fun _ _ => by as_aux_lemma => kernel_rfl)
  · exact o_as 1 (fun _ => (.int .i64 (IntKind.i64.wrap (((i : Nat) : Int) + 1)))) (fun _ => (.int .i64 ((i + 1 : Nat) : Int))) (fun _ _ => by as_aux_lemma => kernel_rfl) (fun _ => congrArg (Value.int .i64) (wrap_add_nat i 1 (by have := hi; omega)))
  · exact o_run 2 [] [] (fun _ _ => []) (fun _ _ => by as_aux_lemma => kernel_rfl)
theorem rshr_mid_r10 (a : Nat) (m : Nat) (i : Nat) (b : Nat) (hi : i + m ≤ 256) (ρ1 : Nat → Orc) (ρ4 : Nat → Orc) (w0 : World) : Reg Try.prog 8 (regOps Try.f41 8) false 34 [(1, (.int .i64 ((m : Nat) : Int))), (2, (.pointer (some ⟨nb ρ1 0, 0, none⟩))), (4, (.pointer (some ⟨nb ρ1 1, 0, none⟩))), (5, (.pointer (some ⟨nb ρ4 0, 0, none⟩))), (6, (.int .i64 ((i : Nat) : Int))), (23, (.bool false))] w0 [(nb ρ1 0, (.cells (cU a) 24 (0, 0))), (nb ρ1 1, (.cells (cU 0) 24 (0, 0))), (nb ρ4 0, (.cells (cU b) 24 (0, 0)))] (fun _ => True)
    (fun _ => [(1, (.int .i64 ((m : Nat) : Int))), (2, (.pointer (some ⟨nb ρ1 0, 0, none⟩))), (4, (.pointer (some ⟨nb ρ1 1, 0, none⟩))), (5, (.pointer (some ⟨nb ρ4 0, 0, none⟩))), (6, (.int .i64 ((i + 1 : Nat) : Int)))])
    (fun _ => [(nb ρ1 0, (.cells (cU a) 24 (0, 0))), (nb ρ1 1, (.cells (cU 0) 24 (0, 0))), (nb ρ4 0, (.cells (cU b) 24 (0, 0)))]) := by
  refine reg_seq [0, 1, 3] [1, 2, 4, 5, 6] 3
    (fun _ ι => ([(.int .i64 ((i : Nat) : Int)), (.int .i64 ((i + 1 : Nat) : Int)), (.int .i64 ((i + 1 : Nat) : Int))] : List Value).getD ι undef)
    (fun _ ι => ([{}, {}, {}] : List Eff).getD ι {})
    (by as_aux_lemma => kernel_rfl) (by as_aux_lemma => kernel_rfl) (fun _ => by as_aux_lemma => kernel_rfl) (fun _ => by as_aux_lemma => kernel_rfl) ⟨⟨⟨trivial, ?_⟩, ?_⟩, ?_⟩
  · exact o_run 0 [] [] (fun _ _ => []) (fun _ _ => by as_aux_lemma => kernel_rfl)
  · exact o_as 1 (fun _ => (.int .i64 (IntKind.i64.wrap (((i : Nat) : Int) + 1)))) (fun _ => (.int .i64 ((i + 1 : Nat) : Int))) (fun _ _ => by as_aux_lemma => kernel_rfl) (fun _ => congrArg (Value.int .i64) (wrap_add_nat i 1 (by have := hi; omega)))
  · exact o_run 2 [] [] (fun _ _ => []) (fun _ _ => by as_aux_lemma => kernel_rfl)
theorem rshr_mid_r11 (a : Nat) (m : Nat) (i : Nat) (b : Nat) (ρ1 : Nat → Orc) (ρ4 : Nat → Orc) (w0 : World) : Reg Try.prog 11 (regOps Try.f41 11) false 34 [(1, (.int .i64 ((m : Nat) : Int))), (2, (.pointer (some ⟨nb ρ1 0, 0, none⟩))), (4, (.pointer (some ⟨nb ρ1 1, 0, none⟩))), (5, (.pointer (some ⟨nb ρ4 0, 0, none⟩))), (6, (.int .i64 ((i : Nat) : Int))), (16, (.bool false))] w0 [(nb ρ1 0, (.cells (cU a) 24 (0, 0))), (nb ρ1 1, (.cells (cU 0) 24 (0, 0))), (nb ρ4 0, (.cells (cU b) 24 (0, 0)))] (fun _ => True)
    (fun _ => [(4, (.pointer (some ⟨nb ρ1 1, 0, none⟩)))])
    (fun _ => [(nb ρ1 0, (.cells (cU a) 24 (0, 0))), (nb ρ1 1, (.cells (cU b) 24 (0, 0))), (nb ρ4 0, (.cells (cU b) 24 (0, 0)))]) := by
  refine reg_seq [0, 1] [4] 2
    (fun _ ι => ([(U b), undef] : List Value).getD ι undef)
    (fun _ ι => ([{}, { puts := [(1, (.cells (cU b) 24 (0, 0)))] }] : List Eff).getD ι {})
    (by as_aux_lemma => kernel_rfl) (by as_aux_lemma => kernel_rfl) (fun _ => by as_aux_lemma => kernel_rfl) (fun _ => by as_aux_lemma => kernel_rfl) ⟨⟨trivial, ?_⟩, ?_⟩
  · exact o_run 0 [2] [] (fun _ _ => [nb ρ4 0, nb ρ4 0, nb ρ4 0, nb ρ4 0]) (fun _ _ => by as_aux_lemma => kernel_rfl)
  · exact o_run 1 [1] [] (fun _ _ => [nb ρ1 1, nb ρ1 1, nb ρ1 1, nb ρ1 1]) (fun _ _ => by as_aux_lemma => kernel_rfl)
theorem rshr_mid (a : Nat) (m : Nat) (ha : a < M) (_h0 : 0 < m) (_hm : m < 256) (w0 : World) : Calls Try.prog 41 #[(U a), (.int .i64 ((m : Nat) : Int))] w0 (fun ε w' => ε = .returned (U (a / 2 ^ m)) ∧ Below w0.heap.size w0 w') := by
  refine Calls.of_ok (n := 34) (F := fun _ => True) Try.func41 rfl rfl rfl (by simp) (persTrue (fun _ => trivial)) ?_
  have hk0 : decide (((m : Nat) : Int) ≤ 0) = false := decide_eq_false (by omega)
  have hk1 : decide (256 ≤ ((m : Nat) : Int)) = false := decide_eq_false (by omega)
  refine ok_seq_r (by as_aux_lemma => kernel_rfl) (rshr_mid_r1 a m _) (fun ρ1 => ?_)
  refine ok_seq ?_
  refine ok_seq_r (by as_aux_lemma => kernel_rfl) (rshr_mid_r2 a m hk0 ρ1 _) (fun _ => ?_)
  refine ok_no (by as_aux_lemma => kernel_rfl) ?_
  refine ok_skip ?_
  refine mt_then ?_
  refine ok_seq ?_
  refine ok_seq_r (by as_aux_lemma => kernel_rfl) (rshr_mid_r3 a m hk1 ρ1 _) (fun _ => ?_)
  refine ok_no (by as_aux_lemma => kernel_rfl) ?_
  refine ok_skip ?_
  refine mt_then ?_
  refine ok_seq_r (by as_aux_lemma => kernel_rfl) (rshr_mid_r4 a m ρ1 _) (fun ρ4 => ?_)
  refine ok_seq ?_
  refine ok_seq_r (by as_aux_lemma => kernel_rfl) (rshr_mid_r5 a m ρ1 ρ4 _) (fun _ => ?_)
  refine ok_block ?_
  refine ok_loop (σ := Nat × Nat) (fun ⟨i, _⟩ => [(1, (.int .i64 ((m : Nat) : Int))), (2, (.pointer (some ⟨nb ρ1 0, 0, none⟩))), (4, (.pointer (some ⟨nb ρ1 1, 0, none⟩))), (5, (.pointer (some ⟨nb ρ4 0, 0, none⟩))), (6, (.int .i64 ((i : Nat) : Int)))]) (fun ⟨_, b⟩ => [(nb ρ1 0, (.cells (cU a) 24 (0, 0))), (nb ρ1 1, (.cells (cU 0) 24 (0, 0))), (nb ρ4 0, (.cells (cU b) 24 (0, 0)))]) (fun ⟨i, _⟩ => 256 - i)
    (fun ⟨i, b⟩ => (i + m ≤ 256) ∧ (b = a / 2 ^ m % 2 ^ i)) (0, 0) (⟨by omega, by simp [Nat.mod_one]⟩) (by as_aux_lemma => kernel_rfl) (.cons_cons _ (.cons_cons _ (.cons_cons _ .slnil))) ?_
  rintro ⟨i, b⟩ ⟨hi, hb⟩
  change Ok Try.prog _ _ 34 [(1, (.int .i64 ((m : Nat) : Int))), (2, (.pointer (some ⟨nb ρ1 0, 0, none⟩))), (4, (.pointer (some ⟨nb ρ1 1, 0, none⟩))), (5, (.pointer (some ⟨nb ρ4 0, 0, none⟩))), (6, (.int .i64 ((i : Nat) : Int)))] _ [(nb ρ1 0, (.cells (cU a) 24 (0, 0))), (nb ρ1 1, (.cells (cU 0) 24 (0, 0))), (nb ρ4 0, (.cells (cU b) 24 (0, 0)))] (fun _ => True)
  refine ok_seq ?_
  refine ok_seq_r (by as_aux_lemma => kernel_rfl) (rshr_mid_r6 a m i b hi ρ1 ρ4 _) (fun _ => ?_)
  refine ok_cond (b := decide (((i + m : Nat) : Int) < 256)) (by as_aux_lemma => kernel_rfl) (fun hb1 => ?_) (fun hb1 => ?_)
  ·
    rw [hb1]
    refine ok_skip ?_
    refine mt_then ?_
    refine ok_seq ?_
    refine ok_block ?_
    refine ok_seq_r (by as_aux_lemma => kernel_rfl) (rshr_mid_r7 a m i b hi hb1 ρ1 ρ4 _) (fun _ => ?_)
    refine ok_cond (b := bitN a (i + m)) (by as_aux_lemma => kernel_rfl) (fun hb2 => ?_) (fun hb2 => ?_)
    ·
      rw [hb2]
      refine ok_r (by as_aux_lemma => kernel_rfl) (rshr_mid_r8 a m i b hi hb hb1 ρ1 ρ4 _) (fun _ => ?_)
      refine mt_block_n ?_
      refine mt_then ?_
      refine ok_r (by as_aux_lemma => kernel_rfl) (rshr_mid_r9 a m i b hi ρ1 ρ4 _) (fun _ => ?_)
      exact mt_round (i + 1, b + 2 ^ (64 * (i / 64) + i % 64)) (by show 256 - (i + 1) < 256 - i; have := of_decide_eq_true hb1; omega) (⟨by have := of_decide_eq_true hb1; omega, by rw [low_next, hb]; have h2 := hb2; unfold bitN at h2; rw [shr_bit] at h2; rw [if_pos (of_decide_eq_true h2), show 64 * (i / 64) + i % 64 = i by omega]⟩) (by as_aux_lemma => kernel_rfl) (.cons_cons _ (.cons_cons _ (.cons_cons _ .slnil)))
    ·
      rw [hb2]
      refine ok_skip ?_
      refine mt_block_n ?_
      refine mt_then ?_
      refine ok_r (by as_aux_lemma => kernel_rfl) (rshr_mid_r10 a m i b hi ρ1 ρ4 _) (fun _ => ?_)
      exact mt_round (i + 1, b) (by show 256 - (i + 1) < 256 - i; have := of_decide_eq_true hb1; omega) (⟨by have := of_decide_eq_true hb1; omega, by rw [low_next, hb]; have h2 := hb2; unfold bitN at h2; rw [shr_bit] at h2; rw [if_neg (of_decide_eq_false h2), Nat.add_zero]⟩) (by as_aux_lemma => kernel_rfl) (.cons_cons _ (.cons_cons _ (.cons_cons _ .slnil)))
  ·
    rw [hb1]
    refine ok_exit ?_
    refine mt_then_e ?_
    refine mt_then_e ?_
    refine mt_block_h ?_
    refine mt_then ?_
    refine ok_seq_r (by as_aux_lemma => kernel_rfl) (rshr_mid_r11 a m i b ρ1 ρ4 _) (fun _ => ?_)
    refine ok_ret ?_
    exact meets_ret (v := (U b)) [1, 1, 1, 1] (dup [nb ρ1 1, nb ρ1 1, nb ρ1 1, nb ρ1 1]) (by as_aux_lemma => kernel_rfl) (by as_aux_lemma => kernel_rfl) (eqs_dup _) (fun _ hS => ⟨congrArg (fun x => Ending.returned (U x)) (by rw [hb]; exact shr_all ha (by have := of_decide_eq_false hb1; omega)), hS.below⟩)
theorem rshr_any (a : Nat) (n : Int) (w0 : World) (ha : a < M) : Calls Try.prog 41 #[U a, .int .i64 n] w0 (fun ε w' => ε = .returned (U (shrZ a n)) ∧ Below w0.heap.size w0 w') := by
  unfold shrZ
  by_cases h0 : n < 0
  · rw [if_pos h0]; exact rshr_neg a n (by omega) w0
  · rw [if_neg h0]
    by_cases h1 : 256 ≤ n
    · rw [shrN_big ha (by omega)]; exact rshr_big a n h1 w0
    · obtain ⟨k, rfl⟩ := Int.eq_ofNat_of_zero_le (by omega : 0 ≤ n)
      rw [Int.toNat_natCast]
      by_cases hk : k = 0
      · subst hk; rw [Nat.pow_zero, Nat.div_one]; exact rshr_neg a _ (by omega) w0
      · exact rshr_mid a k ha (by omega) (by omega) w0
end Go.Proofs.Ytkiijahkmgmnnaa
