/-
  Compact targets, work and proof of work: the walks.
-/
import Derived.Test.YtkiijahkmgmnnaaWMul
import Derived.Test.YtkiijahkmgmnnaaWShift
import Derived.Test.YtkiijahkmgmnnaaTargetNum
import Derived.Test.YtkiijahkmgmnnaaTargetNum2
import Derived.Test.YtkiijahkmgmnnaaRBytes
import Derived.Test.YtkiijahkmgmnnaaBytes
namespace Go.Proofs.Ytkiijahkmgmnnaa
open Go Go.RowKit
set_option maxRecDepth 100000
theorem shifted_w_r1 (a : Nat) (n : Int) (w0 : World) : Reg Try.prog 0 (regOps Try.f69 0) false 14 [(0, (U a)), (1, (.int .i64 n))] w0 [] (fun _ => True)
    (fun ρ => [(1, (.int .i64 n)), (2, (.pointer (some ⟨nb ρ 0, 0, none⟩))), (4, (.pointer (some ⟨nb ρ 1, 0, none⟩)))])
    (fun ρ => [(nb ρ 0, (.cells (cU a) 24 (0, 0))), (nb ρ 1, (.cells (cU 0) 24 (0, 0)))]) := by
  refine reg_seq [0, 1] [1, 2, 4] 2
    (fun ρ ι => ([(.pointer (some ⟨nb ρ 0, 0, none⟩)), (.pointer (some ⟨nb ρ 1, 0, none⟩))] : List Value).getD ι undef)
    (fun ρ ι => ([{ news := [(nb ρ 0, (.cells (cU a) 24 (0, 0)))] }, { news := [(nb ρ 1, (.cells (cU 0) 24 (0, 0)))] }] : List Eff).getD ι {})
    (by as_aux_lemma => kernel_rfl) (by as_aux_lemma => kernel_rfl) (fun _ => by as_aux_lemma => kernel_rfl) (fun _ => by as_aux_lemma => kernel_rfl) ⟨⟨trivial, ?_⟩, ?_⟩
  · exact o_run 0 [] [] (fun _ _ => []) (fun _ _ => by as_aux_lemma => kernel_rfl)
  · exact o_run 1 [] [] (fun _ _ => []) (fun _ _ => by as_aux_lemma => kernel_rfl)
theorem shifted_w_r2 (a : Nat) (n : Int) (ρ1 : Nat → Orc) (w0 : World) : Reg Try.prog 1 (regOps Try.f69 1) false 14 [(1, (.int .i64 n)), (2, (.pointer (some ⟨nb ρ1 0, 0, none⟩))), (4, (.pointer (some ⟨nb ρ1 1, 0, none⟩)))] w0 [(nb ρ1 0, (.cells (cU a) 24 (0, 0))), (nb ρ1 1, (.cells (cU 0) 24 (0, 0)))] (fun _ => True)
    (fun _ => [(1, (.int .i64 n)), (2, (.pointer (some ⟨nb ρ1 0, 0, none⟩))), (4, (.pointer (some ⟨nb ρ1 1, 0, none⟩))), (6, (.bool (decide (n < 0))))])
    (fun _ => [(nb ρ1 0, (.cells (cU a) 24 (0, 0))), (nb ρ1 1, (.cells (cU 0) 24 (0, 0)))]) := by
  refine reg_seq [0, 1] [1, 2, 4, 6] 2
    (fun _ ι => ([(.int .i64 n), (.bool (decide (n < 0)))] : List Value).getD ι undef)
    (fun _ ι => ([{}, {}] : List Eff).getD ι {})
    (by as_aux_lemma => kernel_rfl) (by as_aux_lemma => kernel_rfl) (fun _ => by as_aux_lemma => kernel_rfl) (fun _ => by as_aux_lemma => kernel_rfl) ⟨⟨trivial, ?_⟩, ?_⟩
  · exact o_run 0 [] [] (fun _ _ => []) (fun _ _ => by as_aux_lemma => kernel_rfl)
  · exact o_run 1 [] [] (fun _ _ => []) (fun _ _ => by as_aux_lemma => kernel_rfl)
theorem shifted_w_r3 (a : Nat) (n : Int) (ha : a < M) (hn : -9223372036854775807 ≤ n) (hb1 : (decide (n < 0)) = true) (ρ1 : Nat → Orc) (w0 : World) : Reg Try.prog 2 (regOps Try.f69 2) false 14 [(1, (.int .i64 n)), (2, (.pointer (some ⟨nb ρ1 0, 0, none⟩))), (4, (.pointer (some ⟨nb ρ1 1, 0, none⟩))), (6, (.bool true))] w0 [(nb ρ1 0, (.cells (cU a) 24 (0, 0))), (nb ρ1 1, (.cells (cU 0) 24 (0, 0)))] (fun _ => True)
    (fun _ => [(1, (.int .i64 n)), (2, (.pointer (some ⟨nb ρ1 0, 0, none⟩))), (4, (.pointer (some ⟨nb ρ1 1, 0, none⟩)))])
    (fun _ => [(nb ρ1 0, (.cells (cU a) 24 (0, 0))), (nb ρ1 1, (.cells (cU (shrZ a (-n))) 24 (0, 0)))]) := by
  refine reg_seq [0, 1, 3, 7, 15] [1, 2, 4] 5
    (fun _ ι => ([(U a), (.int .i64 n), (.int .i64 (-n)), (U (shrZ a (-n))), undef] : List Value).getD ι undef)
    (fun _ ι => ([{}, {}, {}, {}, { puts := [(1, (.cells (cU (shrZ a (-n))) 24 (0, 0)))] }] : List Eff).getD ι {})
    (by as_aux_lemma => kernel_rfl) (by as_aux_lemma => kernel_rfl) (fun _ => by as_aux_lemma => kernel_rfl) (fun _ => by as_aux_lemma => kernel_rfl) ⟨⟨⟨⟨⟨trivial, ?_⟩, ?_⟩, ?_⟩, ?_⟩, ?_⟩
  · exact o_run 0 [0] [] (fun _ _ => [nb ρ1 0, nb ρ1 0, nb ρ1 0, nb ρ1 0]) (fun _ _ => by as_aux_lemma => kernel_rfl)
  · exact o_run 1 [] [] (fun _ _ => []) (fun _ _ => by as_aux_lemma => kernel_rfl)
  · exact o_as 2 (fun _ => (.int .i64 (IntKind.i64.wrap (0 - n)))) (fun _ => (.int .i64 (-n))) (fun _ _ => by as_aux_lemma => kernel_rfl) (fun _ => congrArg (Value.int .i64) ((IntWalk.i64_in _ (by have := hn; have := of_decide_eq_true hb1; omega)).trans (Int.zero_sub n)))
  · exact o_call 3 87 (fun _ => #[(U a), (.int .i64 (-n))]) (fun _ => (U (shrZ a (-n)))) (fun _ _ => by as_aux_lemma => kernel_rfl) (fun _ w => (fun w => shr_any a (-n) w ha) w)
  · exact o_run 4 [1] [] (fun _ _ => [nb ρ1 1, nb ρ1 1, nb ρ1 1, nb ρ1 1]) (fun _ _ => by as_aux_lemma => kernel_rfl)
theorem shifted_w_r4 (a : Nat) (n : Int) (ha : a < M) (ρ1 : Nat → Orc) (w0 : World) : Reg Try.prog 3 (regOps Try.f69 3) false 14 [(1, (.int .i64 n)), (2, (.pointer (some ⟨nb ρ1 0, 0, none⟩))), (4, (.pointer (some ⟨nb ρ1 1, 0, none⟩))), (6, (.bool false))] w0 [(nb ρ1 0, (.cells (cU a) 24 (0, 0))), (nb ρ1 1, (.cells (cU 0) 24 (0, 0)))] (fun _ => True)
    (fun _ => [(4, (.pointer (some ⟨nb ρ1 1, 0, none⟩)))])
    (fun _ => [(nb ρ1 0, (.cells (cU a) 24 (0, 0))), (nb ρ1 1, (.cells (cU (shlZ a n)) 24 (0, 0)))]) := by
  refine reg_seq [0, 1, 3, 7] [4] 4
    (fun _ ι => ([(U a), (.int .i64 n), (U (shlZ a n)), undef] : List Value).getD ι undef)
    (fun _ ι => ([{}, {}, {}, { puts := [(1, (.cells (cU (shlZ a n)) 24 (0, 0)))] }] : List Eff).getD ι {})
    (by as_aux_lemma => kernel_rfl) (by as_aux_lemma => kernel_rfl) (fun _ => by as_aux_lemma => kernel_rfl) (fun _ => by as_aux_lemma => kernel_rfl) ⟨⟨⟨⟨trivial, ?_⟩, ?_⟩, ?_⟩, ?_⟩
  · exact o_run 0 [0] [] (fun _ _ => [nb ρ1 0, nb ρ1 0, nb ρ1 0, nb ρ1 0]) (fun _ _ => by as_aux_lemma => kernel_rfl)
  · exact o_run 1 [] [] (fun _ _ => []) (fun _ _ => by as_aux_lemma => kernel_rfl)
  · exact o_call 2 88 (fun _ => #[(U a), (.int .i64 n)]) (fun _ => (U (shlZ a n))) (fun _ _ => by as_aux_lemma => kernel_rfl) (fun _ w => (fun w => shl_any a n w ha) w)
  · exact o_run 3 [1] [] (fun _ _ => [nb ρ1 1, nb ρ1 1, nb ρ1 1, nb ρ1 1]) (fun _ _ => by as_aux_lemma => kernel_rfl)
theorem shifted_w (a : Nat) (n : Int) (ha : a < M) (hn : -9223372036854775807 ≤ n) (w0 : World) : Calls Try.prog 69 #[(U a), (.int .i64 n)] w0 (fun ε w' => ε = .returned (U (shfZ a n)) ∧ Below w0.heap.size w0 w') := by
  refine Calls.of_ok (n := 14) (F := fun _ => True) Try.func69 rfl rfl rfl (by simp) (persTrue (fun _ => trivial)) ?_
  refine ok_seq_r (by as_aux_lemma => kernel_rfl) (shifted_w_r1 a n _) (fun ρ1 => ?_)
  refine ok_seq ?_
  refine ok_seq_r (by as_aux_lemma => kernel_rfl) (shifted_w_r2 a n ρ1 _) (fun _ => ?_)
  refine ok_cond (b := decide (n < 0)) (by as_aux_lemma => kernel_rfl) (fun hb1 => ?_) (fun hb1 => ?_)
  ·
    rw [hb1]
    refine ok_seq_r (by as_aux_lemma => kernel_rfl) (shifted_w_r3 a n ha hn hb1 ρ1 _) (fun _ => ?_)
    refine ok_ret ?_
    refine mt_then_r ?_
    exact meets_ret (v := (U (shrZ a (-n)))) [1, 1, 1, 1] (dup [nb ρ1 1, nb ρ1 1, nb ρ1 1, nb ρ1 1]) (by as_aux_lemma => kernel_rfl) (by as_aux_lemma => kernel_rfl) (eqs_dup _) (fun _ hS => ⟨congrArg (fun x => Ending.returned (U x)) (shfZ_neg hb1), hS.below⟩)
  ·
    rw [hb1]
    refine ok_skip ?_
    refine mt_then ?_
    refine ok_seq_r (by as_aux_lemma => kernel_rfl) (shifted_w_r4 a n ha ρ1 _) (fun _ => ?_)
    refine ok_ret ?_
    exact meets_ret (v := (U (shlZ a n))) [1, 1, 1, 1] (dup [nb ρ1 1, nb ρ1 1, nb ρ1 1, nb ρ1 1]) (by as_aux_lemma => kernel_rfl) (by as_aux_lemma => kernel_rfl) (eqs_dup _) (fun _ hS => ⟨congrArg (fun x => Ending.returned (U x)) (shfZ_pos hb1), hS.below⟩)
theorem shifted_any (a : Nat) (n : Int) (w0 : World) (ha : a < M) (hn : -9223372036854775807 ≤ n) : Calls Try.prog 69 #[(U a), (.int .i64 n)] w0 (fun ε w' => ε = .returned (U (shfZ a n)) ∧ Below w0.heap.size w0 w') := shifted_w a n ha hn w0
theorem expand_w_r1 (b : Nat) (w0 : World) : Reg Try.prog 0 (regOps Try.f32 0) false 35 [(0, (.int .u32 ((b : Nat) : Int)))] w0 [] (fun _ => True)
    (fun ρ => [(0, (.int .u32 ((b : Nat) : Int))), (2, (.pointer (some ⟨nb ρ 0, 0, none⟩))), (3, (.int .i64 0))])
    (fun ρ => [(nb ρ 0, (.cells (cU 0) 24 (0, 0)))]) := by
  refine reg_seq [0, 1] [0, 2, 3] 2
    (fun ρ ι => ([(.pointer (some ⟨nb ρ 0, 0, none⟩)), (.int .i64 0)] : List Value).getD ι undef)
    (fun ρ ι => ([{ news := [(nb ρ 0, (.cells (cU 0) 24 (0, 0)))] }, {}] : List Eff).getD ι {})
    (by as_aux_lemma => kernel_rfl) (by as_aux_lemma => kernel_rfl) (fun _ => by as_aux_lemma => kernel_rfl) (fun _ => by as_aux_lemma => kernel_rfl) ⟨⟨trivial, ?_⟩, ?_⟩
  · exact o_run 0 [] [] (fun _ _ => []) (fun _ _ => by as_aux_lemma => kernel_rfl)
  · exact o_run 1 [] [] (fun _ _ => []) (fun _ _ => by as_aux_lemma => kernel_rfl)
theorem expand_w_r2 (b : Nat) (hb : b < 4294967296) (ρ1 : Nat → Orc) (w0 : World) : Reg Try.prog 1 (regOps Try.f32 1) false 35 [(0, (.int .u32 ((b : Nat) : Int))), (2, (.pointer (some ⟨nb ρ1 0, 0, none⟩))), (3, (.int .i64 0))] w0 [(nb ρ1 0, (.cells (cU 0) 24 (0, 0)))] (fun _ => True)
    (fun ρ => [(0, (.int .u32 ((b : Nat) : Int))), (2, (.pointer (some ⟨nb ρ1 0, 0, none⟩))), (3, (.int .i64 0)), (4, (.pointer (some ⟨nb ρ 4, 0, none⟩)))])
    (fun ρ => [(nb ρ1 0, (.cells (cU 0) 24 (0, 0))), (nb ρ 4, (.cells (cU (b % 16777216)) 24 (0, 0)))]) := by
  refine reg_seq [0, 1, 3, 7, 15, 31] [0, 2, 3, 4] 6
    (fun ρ ι => ([(.int .u32 ((b : Nat) : Int)), (.int .u32 ((b % 16777216 : Nat) : Int)), (.int .u64 ((b % 16777216 : Nat) : Int)), (U (b % 16777216)), (.pointer (some ⟨nb ρ 4, 0, none⟩)), undef] : List Value).getD ι undef)
    (fun ρ ι => ([{}, {}, {}, {}, { news := [(nb ρ 4, (.cells (cU 0) 24 (0, 0)))] }, { puts := [(33, (.cells (cU (b % 16777216)) 24 (0, 0)))] }] : List Eff).getD ι {})
    (by as_aux_lemma => kernel_rfl) (by as_aux_lemma => kernel_rfl) (fun _ => by as_aux_lemma => kernel_rfl) (fun _ => by as_aux_lemma => kernel_rfl) ⟨⟨⟨⟨⟨⟨trivial, ?_⟩, ?_⟩, ?_⟩, ?_⟩, ?_⟩, ?_⟩
  · exact o_run 0 [] [] (fun _ _ => []) (fun _ _ => by as_aux_lemma => kernel_rfl)
  · exact o_as 1 (fun _ => (.int .u32 (bits .and .u32 ((b : Nat) : Int) 16777215))) (fun _ => (.int .u32 ((b % 16777216 : Nat) : Int))) (fun _ _ => by as_aux_lemma => kernel_rfl) (fun _ => congrArg (Value.int .u32) (and_low24 hb))
  · exact o_as 2 (fun _ => (.int .u64 (IntKind.u64.wrap (((b % 16777216 : Nat) : Int))))) (fun _ => (.int .u64 ((b % 16777216 : Nat) : Int))) (fun _ _ => by as_aux_lemma => kernel_rfl) (fun _ => congrArg (Value.int .u64) (u64_nat (by omega)))
  · exact o_call 3 60 (fun _ => #[(.int .u64 ((b % 16777216 : Nat) : Int))]) (fun _ => (U (b % 16777216))) (fun _ _ => by as_aux_lemma => kernel_rfl) (fun _ w => (fun w => fromuint_lit (b % 16777216) w (by omega)) w)
  · exact o_run 4 [] [] (fun _ _ => []) (fun _ _ => by as_aux_lemma => kernel_rfl)
  · exact o_run 5 [33] [] (fun ρ _ => [nb ρ 4, nb ρ 4, nb ρ 4, nb ρ 4]) (fun _ _ => by as_aux_lemma => kernel_rfl)
theorem expand_w_r3 (b : Nat) (hb : b < 4294967296) (ρ1 : Nat → Orc) (ρ2 : Nat → Orc) (w0 : World) : Reg Try.prog 2 (regOps Try.f32 2) false 35 [(0, (.int .u32 ((b : Nat) : Int))), (2, (.pointer (some ⟨nb ρ1 0, 0, none⟩))), (3, (.int .i64 0)), (4, (.pointer (some ⟨nb ρ2 4, 0, none⟩)))] w0 [(nb ρ1 0, (.cells (cU 0) 24 (0, 0))), (nb ρ2 4, (.cells (cU (b % 16777216)) 24 (0, 0)))] (fun _ => True)
    (fun _ => [(0, (.int .u32 ((b : Nat) : Int))), (2, (.pointer (some ⟨nb ρ1 0, 0, none⟩))), (3, (.int .i64 0)), (4, (.pointer (some ⟨nb ρ2 4, 0, none⟩))), (5, (.int .i64 (8 * (((b / 16777216 : Nat) : Int) - 3))))])
    (fun _ => [(nb ρ1 0, (.cells (cU 0) 24 (0, 0))), (nb ρ2 4, (.cells (cU (b % 16777216)) 24 (0, 0)))]) := by
  refine reg_seq [0, 1, 3, 7, 15, 31] [0, 2, 3, 4, 5] 6
    (fun _ ι => ([(.int .u32 ((b : Nat) : Int)), (.int .u32 ((b / 16777216 : Nat) : Int)), (.int .i64 ((b / 16777216 : Nat) : Int)), (.int .i64 (((b / 16777216 : Nat) : Int) - 3)), (.int .i64 (8 * (((b / 16777216 : Nat) : Int) - 3))), (.int .i64 (8 * (((b / 16777216 : Nat) : Int) - 3)))] : List Value).getD ι undef)
    (fun _ ι => ([{}, {}, {}, {}, {}, {}] : List Eff).getD ι {})
    (by as_aux_lemma => kernel_rfl) (by as_aux_lemma => kernel_rfl) (fun _ => by as_aux_lemma => kernel_rfl) (fun _ => by as_aux_lemma => kernel_rfl) ⟨⟨⟨⟨⟨⟨trivial, ?_⟩, ?_⟩, ?_⟩, ?_⟩, ?_⟩, ?_⟩
  · exact o_run 0 [] [] (fun _ _ => []) (fun _ _ => by as_aux_lemma => kernel_rfl)
  · exact o_bin 1 .shr 32 (fun _ => (.int .u32 ((b : Nat) : Int))) (fun _ => (.int .u64 24)) (fun _ => (.int .u32 ((b / 16777216 : Nat) : Int))) (fun _ => by as_aux_lemma => kernel_rfl) (fun _ _ _ _ => by as_aux_lemma => kernel_rfl) (fun _ w => run_shr24 b w)
  · exact o_as 2 (fun _ => (.int .i64 (IntKind.i64.wrap (((b / 16777216 : Nat) : Int))))) (fun _ => (.int .i64 ((b / 16777216 : Nat) : Int))) (fun _ _ => by as_aux_lemma => kernel_rfl) (fun _ => congrArg (Value.int .i64) (IntWalk.i64_in _ (by have := hb; have := low_len b; omega)))
  · exact o_as 3 (fun _ => (.int .i64 (IntKind.i64.wrap (((b / 16777216 : Nat) : Int) - 3)))) (fun _ => (.int .i64 (((b / 16777216 : Nat) : Int) - 3))) (fun _ _ => by as_aux_lemma => kernel_rfl) (fun _ => congrArg (Value.int .i64) (IntWalk.i64_in _ (by have := hb; have := low_len b; omega)))
  · exact o_as 4 (fun _ => (.int .i64 (IntKind.i64.wrap (8 * (((b / 16777216 : Nat) : Int) - 3))))) (fun _ => (.int .i64 (8 * (((b / 16777216 : Nat) : Int) - 3)))) (fun _ _ => by as_aux_lemma => kernel_rfl) (fun _ => congrArg (Value.int .i64) (IntWalk.i64_in _ (by have := hb; have := low_len b; omega)))
  · exact o_run 5 [] [] (fun _ _ => []) (fun _ _ => by as_aux_lemma => kernel_rfl)
theorem expand_w_r4 (b : Nat) (hb : b < 4294967296) (hb1 : (sgnB b) = true) (ρ1 : Nat → Orc) (ρ2 : Nat → Orc) (w0 : World) : Reg Try.prog 3 (regOps Try.f32 3) false 35 [(0, (.int .u32 ((b : Nat) : Int))), (2, (.pointer (some ⟨nb ρ1 0, 0, none⟩))), (3, (.int .i64 0)), (4, (.pointer (some ⟨nb ρ2 4, 0, none⟩))), (5, (.int .i64 (8 * (((b / 16777216 : Nat) : Int) - 3))))] w0 [(nb ρ1 0, (.cells (cU 0) 24 (0, 0))), (nb ρ2 4, (.cells (cU (b % 16777216)) 24 (0, 0)))] (fun _ => True)
    (fun _ => [(2, (.pointer (some ⟨nb ρ1 0, 0, none⟩))), (3, (.int .i64 0)), (4, (.pointer (some ⟨nb ρ2 4, 0, none⟩))), (5, (.int .i64 (8 * (((b / 16777216 : Nat) : Int) - 3)))), (25, (.bool true))])
    (fun _ => [(nb ρ1 0, (.cells (cU 0) 24 (0, 0))), (nb ρ2 4, (.cells (cU (b % 16777216)) 24 (0, 0)))]) := by
  refine reg_seq [0, 1, 3, 7, 15, 31, 63, 127, 255, 511] [2, 3, 4, 5, 25] 10
    (fun _ ι => ([(.int .u32 ((b : Nat) : Int)), (.int .u32 (bits .and .u32 ((b : Nat) : Int) 8388608)), (.bool true), (.bool true), undef, undef, undef, undef, undef, (.bool true)] : List Value).getD ι undef)
    (fun _ ι => ([{}, {}, {}, {}, {}, {}, {}, {}, {}, {}] : List Eff).getD ι {})
    (by as_aux_lemma => kernel_rfl) (by as_aux_lemma => kernel_rfl) (fun _ => by as_aux_lemma => kernel_rfl) (fun _ => by as_aux_lemma => kernel_rfl) ⟨⟨⟨⟨⟨⟨⟨⟨⟨⟨trivial, ?_⟩, ?_⟩, ?_⟩, ?_⟩, ?_⟩, ?_⟩, ?_⟩, ?_⟩, ?_⟩, ?_⟩
  · exact o_run 0 [] [] (fun _ _ => []) (fun _ _ => by as_aux_lemma => kernel_rfl)
  · exact o_run 1 [] [] (fun _ _ => []) (fun _ _ => by as_aux_lemma => kernel_rfl)
  · exact o_as 2 (fun _ => (.bool ((bits .and .u32 ((b : Nat) : Int) 8388608) != 0))) (fun _ => (.bool true)) (fun _ _ => by as_aux_lemma => kernel_rfl) (fun _ => congrArg Value.bool ((and_sign hb).trans hb1))
  · exact o_run 3 [] [] (fun _ _ => []) (fun _ _ => by as_aux_lemma => kernel_rfl)
  · exact o_skip 4 (fun _ => by as_aux_lemma => kernel_rfl)
  · exact o_skip 5 (fun _ => by as_aux_lemma => kernel_rfl)
  · exact o_skip 6 (fun _ => by as_aux_lemma => kernel_rfl)
  · exact o_skip 7 (fun _ => by as_aux_lemma => kernel_rfl)
  · exact o_skip 8 (fun _ => by as_aux_lemma => kernel_rfl)
  · exact o_run 9 [] [] (fun _ _ => []) (fun _ _ => by as_aux_lemma => kernel_rfl)
theorem expand_w_r5 (b : Nat) (ρ1 : Nat → Orc) (ρ2 : Nat → Orc) (w0 : World) : Reg Try.prog 4 (regOps Try.f32 4) false 35 [(2, (.pointer (some ⟨nb ρ1 0, 0, none⟩))), (3, (.int .i64 0)), (4, (.pointer (some ⟨nb ρ2 4, 0, none⟩))), (5, (.int .i64 (8 * (((b / 16777216 : Nat) : Int) - 3)))), (25, (.bool true))] w0 [(nb ρ1 0, (.cells (cU 0) 24 (0, 0))), (nb ρ2 4, (.cells (cU (b % 16777216)) 24 (0, 0)))] (fun _ => True)
    (fun _ => [(2, (.pointer (some ⟨nb ρ1 0, 0, none⟩))), (3, (.int .i64 120)), (4, (.pointer (some ⟨nb ρ2 4, 0, none⟩))), (5, (.int .i64 (8 * (((b / 16777216 : Nat) : Int) - 3))))])
    (fun _ => [(nb ρ1 0, (.cells (cU 0) 24 (0, 0))), (nb ρ2 4, (.cells (cU (b % 16777216)) 24 (0, 0)))]) := by
  refine reg_seq [0, 1, 3] [2, 3, 4, 5] 3
    (fun _ ι => ([(U 0), undef, (.int .i64 120)] : List Value).getD ι undef)
    (fun _ ι => ([{}, { puts := [(0, (.cells (cU 0) 24 (0, 0)))] }, {}] : List Eff).getD ι {})
    (by as_aux_lemma => kernel_rfl) (by as_aux_lemma => kernel_rfl) (fun _ => by as_aux_lemma => kernel_rfl) (fun _ => by as_aux_lemma => kernel_rfl) ⟨⟨⟨trivial, ?_⟩, ?_⟩, ?_⟩
  · exact o_run 0 [] [] (fun _ _ => []) (fun _ _ => by as_aux_lemma => kernel_rfl)
  · exact o_run 1 [0] [] (fun _ _ => [nb ρ1 0, nb ρ1 0, nb ρ1 0, nb ρ1 0]) (fun _ _ => by as_aux_lemma => kernel_rfl)
  · exact o_run 2 [] [] (fun _ _ => []) (fun _ _ => by as_aux_lemma => kernel_rfl)
theorem expand_w_r6 (b : Nat) (hb : b < 4294967296) (hb1 : (sgnB b) = false) (ρ1 : Nat → Orc) (ρ2 : Nat → Orc) (w0 : World) : Reg Try.prog 3 (regOps Try.f32 3) false 35 [(0, (.int .u32 ((b : Nat) : Int))), (2, (.pointer (some ⟨nb ρ1 0, 0, none⟩))), (3, (.int .i64 0)), (4, (.pointer (some ⟨nb ρ2 4, 0, none⟩))), (5, (.int .i64 (8 * (((b / 16777216 : Nat) : Int) - 3))))] w0 [(nb ρ1 0, (.cells (cU 0) 24 (0, 0))), (nb ρ2 4, (.cells (cU (b % 16777216)) 24 (0, 0)))] (fun _ => True)
    (fun _ => [(2, (.pointer (some ⟨nb ρ1 0, 0, none⟩))), (3, (.int .i64 0)), (4, (.pointer (some ⟨nb ρ2 4, 0, none⟩))), (5, (.int .i64 (8 * (((b / 16777216 : Nat) : Int) - 3)))), (25, (.bool (decide (256 < (((lenN (b % 16777216) : Nat) : Int) + (8 * (((b / 16777216 : Nat) : Int) - 3)))))))])
    (fun _ => [(nb ρ1 0, (.cells (cU 0) 24 (0, 0))), (nb ρ2 4, (.cells (cU (b % 16777216)) 24 (0, 0)))]) := by
  refine reg_seq [0, 1, 3, 7, 15, 31, 63, 127, 255, 511] [2, 3, 4, 5, 25] 10
    (fun _ ι => ([(.int .u32 ((b : Nat) : Int)), (.int .u32 (bits .and .u32 ((b : Nat) : Int) 8388608)), (.bool false), (.bool false), (U (b % 16777216)), (.int .i64 ((lenN (b % 16777216) : Nat) : Int)), (.int .i64 (8 * (((b / 16777216 : Nat) : Int) - 3))), (.int .i64 (((lenN (b % 16777216) : Nat) : Int) + (8 * (((b / 16777216 : Nat) : Int) - 3)))), (.bool (decide (256 < (((lenN (b % 16777216) : Nat) : Int) + (8 * (((b / 16777216 : Nat) : Int) - 3)))))), (.bool (decide (256 < (((lenN (b % 16777216) : Nat) : Int) + (8 * (((b / 16777216 : Nat) : Int) - 3))))))] : List Value).getD ι undef)
    (fun _ ι => ([{}, {}, {}, {}, {}, {}, {}, {}, {}, {}] : List Eff).getD ι {})
    (by as_aux_lemma => kernel_rfl) (by as_aux_lemma => kernel_rfl) (fun _ => by as_aux_lemma => kernel_rfl) (fun _ => by as_aux_lemma => kernel_rfl) ⟨⟨⟨⟨⟨⟨⟨⟨⟨⟨trivial, ?_⟩, ?_⟩, ?_⟩, ?_⟩, ?_⟩, ?_⟩, ?_⟩, ?_⟩, ?_⟩, ?_⟩
  · exact o_run 0 [] [] (fun _ _ => []) (fun _ _ => by as_aux_lemma => kernel_rfl)
  · exact o_run 1 [] [] (fun _ _ => []) (fun _ _ => by as_aux_lemma => kernel_rfl)
  · exact o_as 2 (fun _ => (.bool ((bits .and .u32 ((b : Nat) : Int) 8388608) != 0))) (fun _ => (.bool false)) (fun _ _ => by as_aux_lemma => kernel_rfl) (fun _ => congrArg Value.bool ((and_sign hb).trans hb1))
  · exact o_run 3 [] [] (fun _ _ => []) (fun _ _ => by as_aux_lemma => kernel_rfl)
  · exact o_run 4 [1] [] (fun _ _ => [nb ρ2 4, nb ρ2 4, nb ρ2 4, nb ρ2 4]) (fun _ _ => by as_aux_lemma => kernel_rfl)
  · exact o_call 5 66 (fun _ => #[(U (b % 16777216))]) (fun _ => (.int .i64 ((lenN (b % 16777216) : Nat) : Int))) (fun _ _ => by as_aux_lemma => kernel_rfl) (fun _ w => (fun w => len_any (b % 16777216) w (low_lt b)) w)
  · exact o_run 6 [] [] (fun _ _ => []) (fun _ _ => by as_aux_lemma => kernel_rfl)
  · exact o_as 7 (fun _ => (.int .i64 (IntKind.i64.wrap (((lenN (b % 16777216) : Nat) : Int) + (8 * (((b / 16777216 : Nat) : Int) - 3)))))) (fun _ => (.int .i64 (((lenN (b % 16777216) : Nat) : Int) + (8 * (((b / 16777216 : Nat) : Int) - 3))))) (fun _ _ => by as_aux_lemma => kernel_rfl) (fun _ => congrArg (Value.int .i64) (IntWalk.i64_in _ (by have := hb; have := low_len b; omega)))
  · exact o_run 8 [] [] (fun _ _ => []) (fun _ _ => by as_aux_lemma => kernel_rfl)
  · exact o_run 9 [] [] (fun _ _ => []) (fun _ _ => by as_aux_lemma => kernel_rfl)
theorem expand_w_r7 (b : Nat) (ρ1 : Nat → Orc) (ρ2 : Nat → Orc) (w0 : World) : Reg Try.prog 4 (regOps Try.f32 4) false 35 [(2, (.pointer (some ⟨nb ρ1 0, 0, none⟩))), (3, (.int .i64 0)), (4, (.pointer (some ⟨nb ρ2 4, 0, none⟩))), (5, (.int .i64 (8 * (((b / 16777216 : Nat) : Int) - 3)))), (25, (.bool true))] w0 [(nb ρ1 0, (.cells (cU 0) 24 (0, 0))), (nb ρ2 4, (.cells (cU (b % 16777216)) 24 (0, 0)))] (fun _ => True)
    (fun _ => [(2, (.pointer (some ⟨nb ρ1 0, 0, none⟩))), (3, (.int .i64 120)), (4, (.pointer (some ⟨nb ρ2 4, 0, none⟩))), (5, (.int .i64 (8 * (((b / 16777216 : Nat) : Int) - 3))))])
    (fun _ => [(nb ρ1 0, (.cells (cU 0) 24 (0, 0))), (nb ρ2 4, (.cells (cU (b % 16777216)) 24 (0, 0)))]) := by
  refine reg_seq [0, 1, 3] [2, 3, 4, 5] 3
    (fun _ ι => ([(U 0), undef, (.int .i64 120)] : List Value).getD ι undef)
    (fun _ ι => ([{}, { puts := [(0, (.cells (cU 0) 24 (0, 0)))] }, {}] : List Eff).getD ι {})
    (by as_aux_lemma => kernel_rfl) (by as_aux_lemma => kernel_rfl) (fun _ => by as_aux_lemma => kernel_rfl) (fun _ => by as_aux_lemma => kernel_rfl) ⟨⟨⟨trivial, ?_⟩, ?_⟩, ?_⟩
  · exact o_run 0 [] [] (fun _ _ => []) (fun _ _ => by as_aux_lemma => kernel_rfl)
  · exact o_run 1 [0] [] (fun _ _ => [nb ρ1 0, nb ρ1 0, nb ρ1 0, nb ρ1 0]) (fun _ _ => by as_aux_lemma => kernel_rfl)
  · exact o_run 2 [] [] (fun _ _ => []) (fun _ _ => by as_aux_lemma => kernel_rfl)
theorem expand_w_r8 (b : Nat) (hb : b < 4294967296) (ρ1 : Nat → Orc) (ρ2 : Nat → Orc) (w0 : World) : Reg Try.prog 5 (regOps Try.f32 5) false 35 [(2, (.pointer (some ⟨nb ρ1 0, 0, none⟩))), (3, (.int .i64 0)), (4, (.pointer (some ⟨nb ρ2 4, 0, none⟩))), (5, (.int .i64 (8 * (((b / 16777216 : Nat) : Int) - 3)))), (25, (.bool false))] w0 [(nb ρ1 0, (.cells (cU 0) 24 (0, 0))), (nb ρ2 4, (.cells (cU (b % 16777216)) 24 (0, 0)))] (fun _ => True)
    (fun ρ => [(2, (.pointer (some ⟨nb ρ1 0, 0, none⟩))), (3, (.int .i64 0)), (6, (.pointer (some ⟨nb ρ 3, 0, none⟩)))])
    (fun ρ => [(nb ρ1 0, (.cells (cU 0) 24 (0, 0))), (nb ρ2 4, (.cells (cU (b % 16777216)) 24 (0, 0))), (nb ρ 3, (.cells (cU (shfZ (b % 16777216) (8 * (((b / 16777216 : Nat) : Int) - 3)))) 24 (0, 0)))]) := by
  refine reg_seq [0, 1, 3, 7, 15] [2, 3, 6] 5
    (fun ρ ι => ([(U (b % 16777216)), (.int .i64 (8 * (((b / 16777216 : Nat) : Int) - 3))), (U (shfZ (b % 16777216) (8 * (((b / 16777216 : Nat) : Int) - 3)))), (.pointer (some ⟨nb ρ 3, 0, none⟩)), undef] : List Value).getD ι undef)
    (fun ρ ι => ([{}, {}, {}, { news := [(nb ρ 3, (.cells (cU 0) 24 (0, 0)))] }, { puts := [(26, (.cells (cU (shfZ (b % 16777216) (8 * (((b / 16777216 : Nat) : Int) - 3)))) 24 (0, 0)))] }] : List Eff).getD ι {})
    (by as_aux_lemma => kernel_rfl) (by as_aux_lemma => kernel_rfl) (fun _ => by as_aux_lemma => kernel_rfl) (fun _ => by as_aux_lemma => kernel_rfl) ⟨⟨⟨⟨⟨trivial, ?_⟩, ?_⟩, ?_⟩, ?_⟩, ?_⟩
  · exact o_run 0 [1] [] (fun _ _ => [nb ρ2 4, nb ρ2 4, nb ρ2 4, nb ρ2 4]) (fun _ _ => by as_aux_lemma => kernel_rfl)
  · exact o_run 1 [] [] (fun _ _ => []) (fun _ _ => by as_aux_lemma => kernel_rfl)
  · exact o_call 2 69 (fun _ => #[(U (b % 16777216)), (.int .i64 (8 * (((b / 16777216 : Nat) : Int) - 3)))]) (fun _ => (U (shfZ (b % 16777216) (8 * (((b / 16777216 : Nat) : Int) - 3))))) (fun _ _ => by as_aux_lemma => kernel_rfl) (fun _ w => (fun w => shifted_any (b % 16777216) (8 * (((b / 16777216 : Nat) : Int) - 3)) w (low_lt b) (by have := hb; have := low_len b; omega)) w)
  · exact o_run 3 [] [] (fun _ _ => []) (fun _ _ => by as_aux_lemma => kernel_rfl)
  · exact o_run 4 [26] [] (fun ρ _ => [nb ρ 3, nb ρ 3, nb ρ 3, nb ρ 3]) (fun _ _ => by as_aux_lemma => kernel_rfl)
theorem expand_w_r9 (b : Nat) (ρ1 : Nat → Orc) (ρ2 : Nat → Orc) (ρ8 : Nat → Orc) (w0 : World) : Reg Try.prog 6 (regOps Try.f32 6) false 35 [(2, (.pointer (some ⟨nb ρ1 0, 0, none⟩))), (3, (.int .i64 0)), (6, (.pointer (some ⟨nb ρ8 3, 0, none⟩)))] w0 [(nb ρ1 0, (.cells (cU 0) 24 (0, 0))), (nb ρ2 4, (.cells (cU (b % 16777216)) 24 (0, 0))), (nb ρ8 3, (.cells (cU (shfZ (b % 16777216) (8 * (((b / 16777216 : Nat) : Int) - 3)))) 24 (0, 0)))] (fun _ => True)
    (fun _ => [(2, (.pointer (some ⟨nb ρ1 0, 0, none⟩))), (3, (.int .i64 0)), (6, (.pointer (some ⟨nb ρ8 3, 0, none⟩))), (32, (.bool (decide (shfZ (b % 16777216) (8 * (((b / 16777216 : Nat) : Int) - 3)) = 0))))])
    (fun _ => [(nb ρ1 0, (.cells (cU 0) 24 (0, 0))), (nb ρ2 4, (.cells (cU (b % 16777216)) 24 (0, 0))), (nb ρ8 3, (.cells (cU (shfZ (b % 16777216) (8 * (((b / 16777216 : Nat) : Int) - 3)))) 24 (0, 0)))]) := by
  refine reg_seq [0, 1, 3] [2, 3, 6, 32] 3
    (fun _ ι => ([(U (shfZ (b % 16777216) (8 * (((b / 16777216 : Nat) : Int) - 3)))), (U 0), (.bool (decide (shfZ (b % 16777216) (8 * (((b / 16777216 : Nat) : Int) - 3)) = 0)))] : List Value).getD ι undef)
    (fun _ ι => ([{}, {}, {}] : List Eff).getD ι {})
    (by as_aux_lemma => kernel_rfl) (by as_aux_lemma => kernel_rfl) (fun _ => by as_aux_lemma => kernel_rfl) (fun _ => by as_aux_lemma => kernel_rfl) ⟨⟨⟨trivial, ?_⟩, ?_⟩, ?_⟩
  · exact o_run 0 [2] [] (fun _ _ => [nb ρ8 3, nb ρ8 3, nb ρ8 3, nb ρ8 3]) (fun _ _ => by as_aux_lemma => kernel_rfl)
  · exact o_run 1 [] [] (fun _ _ => []) (fun _ _ => by as_aux_lemma => kernel_rfl)
  · exact o_bin 2 .eql 24 (fun _ => (U (shfZ (b % 16777216) (8 * (((b / 16777216 : Nat) : Int) - 3))))) (fun _ => (U 0)) (fun _ => (.bool (decide (shfZ (b % 16777216) (8 * (((b / 16777216 : Nat) : Int) - 3)) = 0)))) (fun _ => by as_aux_lemma => kernel_rfl) (fun _ _ _ _ => by as_aux_lemma => kernel_rfl) (fun _ _ => eqlU (shfZ (b % 16777216) (8 * (((b / 16777216 : Nat) : Int) - 3))) 0 (shfZ_lt _ (low_lt b)) (by decide +kernel) _)
theorem expand_w_r10 (b : Nat) (ρ1 : Nat → Orc) (ρ2 : Nat → Orc) (ρ8 : Nat → Orc) (w0 : World) : Reg Try.prog 7 (regOps Try.f32 7) false 35 [(2, (.pointer (some ⟨nb ρ1 0, 0, none⟩))), (3, (.int .i64 0)), (6, (.pointer (some ⟨nb ρ8 3, 0, none⟩))), (32, (.bool true))] w0 [(nb ρ1 0, (.cells (cU 0) 24 (0, 0))), (nb ρ2 4, (.cells (cU (b % 16777216)) 24 (0, 0))), (nb ρ8 3, (.cells (cU (shfZ (b % 16777216) (8 * (((b / 16777216 : Nat) : Int) - 3)))) 24 (0, 0)))] (fun _ => True)
    (fun _ => [(2, (.pointer (some ⟨nb ρ1 0, 0, none⟩))), (3, (.int .i64 120)), (6, (.pointer (some ⟨nb ρ8 3, 0, none⟩)))])
    (fun _ => [(nb ρ1 0, (.cells (cU 0) 24 (0, 0))), (nb ρ2 4, (.cells (cU (b % 16777216)) 24 (0, 0))), (nb ρ8 3, (.cells (cU (shfZ (b % 16777216) (8 * (((b / 16777216 : Nat) : Int) - 3)))) 24 (0, 0)))]) := by
  refine reg_seq [0, 1, 3] [2, 3, 6] 3
    (fun _ ι => ([(U 0), undef, (.int .i64 120)] : List Value).getD ι undef)
    (fun _ ι => ([{}, { puts := [(0, (.cells (cU 0) 24 (0, 0)))] }, {}] : List Eff).getD ι {})
    (by as_aux_lemma => kernel_rfl) (by as_aux_lemma => kernel_rfl) (fun _ => by as_aux_lemma => kernel_rfl) (fun _ => by as_aux_lemma => kernel_rfl) ⟨⟨⟨trivial, ?_⟩, ?_⟩, ?_⟩
  · exact o_run 0 [] [] (fun _ _ => []) (fun _ _ => by as_aux_lemma => kernel_rfl)
  · exact o_run 1 [0] [] (fun _ _ => [nb ρ1 0, nb ρ1 0, nb ρ1 0, nb ρ1 0]) (fun _ _ => by as_aux_lemma => kernel_rfl)
  · exact o_run 2 [] [] (fun _ _ => []) (fun _ _ => by as_aux_lemma => kernel_rfl)
theorem expand_w_r11 (b : Nat) (ρ1 : Nat → Orc) (ρ2 : Nat → Orc) (ρ8 : Nat → Orc) (w0 : World) : Reg Try.prog 8 (regOps Try.f32 8) false 35 [(2, (.pointer (some ⟨nb ρ1 0, 0, none⟩))), (3, (.int .i64 0)), (6, (.pointer (some ⟨nb ρ8 3, 0, none⟩))), (32, (.bool false))] w0 [(nb ρ1 0, (.cells (cU 0) 24 (0, 0))), (nb ρ2 4, (.cells (cU (b % 16777216)) 24 (0, 0))), (nb ρ8 3, (.cells (cU (shfZ (b % 16777216) (8 * (((b / 16777216 : Nat) : Int) - 3)))) 24 (0, 0)))] (fun _ => True)
    (fun _ => [(2, (.pointer (some ⟨nb ρ1 0, 0, none⟩))), (3, (.int .i64 0))])
    (fun _ => [(nb ρ1 0, (.cells (cU (shfZ (b % 16777216) (8 * (((b / 16777216 : Nat) : Int) - 3)))) 24 (0, 0))), (nb ρ2 4, (.cells (cU (b % 16777216)) 24 (0, 0))), (nb ρ8 3, (.cells (cU (shfZ (b % 16777216) (8 * (((b / 16777216 : Nat) : Int) - 3)))) 24 (0, 0)))]) := by
  refine reg_seq [0, 1, 3] [2, 3] 3
    (fun _ ι => ([(U (shfZ (b % 16777216) (8 * (((b / 16777216 : Nat) : Int) - 3)))), undef, (.int .i64 0)] : List Value).getD ι undef)
    (fun _ ι => ([{}, { puts := [(0, (.cells (cU (shfZ (b % 16777216) (8 * (((b / 16777216 : Nat) : Int) - 3)))) 24 (0, 0)))] }, {}] : List Eff).getD ι {})
    (by as_aux_lemma => kernel_rfl) (by as_aux_lemma => kernel_rfl) (fun _ => by as_aux_lemma => kernel_rfl) (fun _ => by as_aux_lemma => kernel_rfl) ⟨⟨⟨trivial, ?_⟩, ?_⟩, ?_⟩
  · exact o_run 0 [2] [] (fun _ _ => [nb ρ8 3, nb ρ8 3, nb ρ8 3, nb ρ8 3]) (fun _ _ => by as_aux_lemma => kernel_rfl)
  · exact o_run 1 [0] [] (fun _ _ => [nb ρ1 0, nb ρ1 0, nb ρ1 0, nb ρ1 0]) (fun _ _ => by as_aux_lemma => kernel_rfl)
  · exact o_run 2 [] [] (fun _ _ => []) (fun _ _ => by as_aux_lemma => kernel_rfl)
theorem expand_w (b : Nat) (hb : b < 4294967296) (w0 : World) : Calls Try.prog 32 #[(.int .u32 ((b : Nat) : Int))] w0 (fun ε w' => ε = .returned (.tuple #[(U (expV b)), (.int .i64 (expE b))]) ∧ Below w0.heap.size w0 w') := by
  refine Calls.of_ok (n := 35) (F := fun _ => True) Try.func32 rfl rfl rfl (by simp) (persTrue (fun _ => trivial)) ?_
  refine ok_seq_r (by as_aux_lemma => kernel_rfl) (expand_w_r1 b _) (fun ρ1 => ?_)
  refine ok_seq_r (by as_aux_lemma => kernel_rfl) (expand_w_r2 b hb ρ1 _) (fun ρ2 => ?_)
  refine ok_seq_r (by as_aux_lemma => kernel_rfl) (expand_w_r3 b hb ρ1 ρ2 _) (fun _ => ?_)
  refine ok_seq ?_
  rcases Bool.eq_false_or_eq_true (sgnB b) with hb1 | hb1
  ·
    refine ok_seq_r (by as_aux_lemma => kernel_rfl) (expand_w_r4 b hb hb1 ρ1 ρ2 _) (fun _ => ?_)
    refine ok_yes (by as_aux_lemma => kernel_rfl) ?_
    refine ok_seq_r (by as_aux_lemma => kernel_rfl) (expand_w_r5 b ρ1 ρ2 _) (fun _ => ?_)
    refine ok_ret ?_
    refine mt_then_r ?_
    exact meets_ret (v := (.tuple #[(U 0), (.int .i64 120)])) [0, 0, 0, 0] (dup [nb ρ1 0, nb ρ1 0, nb ρ1 0, nb ρ1 0]) (by as_aux_lemma => kernel_rfl) (by as_aux_lemma => kernel_rfl) (eqs_dup _) (fun _ hS => ⟨exp_no (exp_n1 hb1), hS.below⟩)
  ·
    refine ok_seq_r (by as_aux_lemma => kernel_rfl) (expand_w_r6 b hb hb1 ρ1 ρ2 _) (fun _ => ?_)
    refine ok_cond (b := decide (256 < (((lenN (b % 16777216) : Nat) : Int) + (8 * (((b / 16777216 : Nat) : Int) - 3))))) (by as_aux_lemma => kernel_rfl) (fun hb2 => ?_) (fun hb2 => ?_)
    ·
      rw [hb2]
      refine ok_seq_r (by as_aux_lemma => kernel_rfl) (expand_w_r7 b ρ1 ρ2 _) (fun _ => ?_)
      refine ok_ret ?_
      refine mt_then_r ?_
      exact meets_ret (v := (.tuple #[(U 0), (.int .i64 120)])) [0, 0, 0, 0] (dup [nb ρ1 0, nb ρ1 0, nb ρ1 0, nb ρ1 0]) (by as_aux_lemma => kernel_rfl) (by as_aux_lemma => kernel_rfl) (eqs_dup _) (fun _ hS => ⟨exp_no (exp_n2 hb2), hS.below⟩)
    ·
      rw [hb2]
      refine ok_skip ?_
      refine mt_then ?_
      refine ok_seq_r (by as_aux_lemma => kernel_rfl) (expand_w_r8 b hb ρ1 ρ2 _) (fun ρ8 => ?_)
      refine ok_seq ?_
      refine ok_seq_r (by as_aux_lemma => kernel_rfl) (expand_w_r9 b ρ1 ρ2 ρ8 _) (fun _ => ?_)
      refine ok_cond (b := decide (shfZ (b % 16777216) (8 * (((b / 16777216 : Nat) : Int) - 3)) = 0)) (by as_aux_lemma => kernel_rfl) (fun hb3 => ?_) (fun hb3 => ?_)
      ·
        rw [hb3]
        refine ok_seq_r (by as_aux_lemma => kernel_rfl) (expand_w_r10 b ρ1 ρ2 ρ8 _) (fun _ => ?_)
        refine ok_ret ?_
        refine mt_then_r ?_
        exact meets_ret (v := (.tuple #[(U 0), (.int .i64 120)])) [0, 0, 0, 0] (dup [nb ρ1 0, nb ρ1 0, nb ρ1 0, nb ρ1 0]) (by as_aux_lemma => kernel_rfl) (by as_aux_lemma => kernel_rfl) (eqs_dup _) (fun _ hS => ⟨exp_no (exp_n3 hb3), hS.below⟩)
      ·
        rw [hb3]
        refine ok_skip ?_
        refine mt_then ?_
        refine ok_seq_r (by as_aux_lemma => kernel_rfl) (expand_w_r11 b ρ1 ρ2 ρ8 _) (fun _ => ?_)
        refine ok_ret ?_
        exact meets_ret (v := (.tuple #[(U (shfZ (b % 16777216) (8 * (((b / 16777216 : Nat) : Int) - 3)))), (.int .i64 0)])) [0, 0, 0, 0] (dup [nb ρ1 0, nb ρ1 0, nb ρ1 0, nb ρ1 0]) (by as_aux_lemma => kernel_rfl) (by as_aux_lemma => kernel_rfl) (eqs_dup _) (fun _ hS => ⟨exp_yes (exp_y hb1 hb2 hb3) rfl, hS.below⟩)
theorem expand_any (b : Nat) (w0 : World) (hb : b < 4294967296) : Calls Try.prog 32 #[(.int .u32 ((b : Nat) : Int))] w0 (fun ε w' => ε = .returned (.tuple #[(U (expV b)), (.int .i64 (expE b))]) ∧ Below w0.heap.size w0 w') := expand_w b hb w0
theorem rexpand_w_r1 (b : Nat) (w0 : World) : Reg Try.prog 0 (regOps Try.f33 0) false 48 [(0, (.int .u32 ((b : Nat) : Int)))] w0 [] (fun _ => True)
    (fun ρ => [(0, (.int .u32 ((b : Nat) : Int))), (2, (.pointer (some ⟨nb ρ 0, 0, none⟩))), (3, (.int .i64 0))])
    (fun ρ => [(nb ρ 0, (.cells (cU 0) 24 (0, 0)))]) := by
  refine reg_seq [0, 1] [0, 2, 3] 2
    (fun ρ ι => ([(.pointer (some ⟨nb ρ 0, 0, none⟩)), (.int .i64 0)] : List Value).getD ι undef)
    (fun ρ ι => ([{ news := [(nb ρ 0, (.cells (cU 0) 24 (0, 0)))] }, {}] : List Eff).getD ι {})
    (by as_aux_lemma => kernel_rfl) (by as_aux_lemma => kernel_rfl) (fun _ => by as_aux_lemma => kernel_rfl) (fun _ => by as_aux_lemma => kernel_rfl) ⟨⟨trivial, ?_⟩, ?_⟩
  · exact o_run 0 [] [] (fun _ _ => []) (fun _ _ => by as_aux_lemma => kernel_rfl)
  · exact o_run 1 [] [] (fun _ _ => []) (fun _ _ => by as_aux_lemma => kernel_rfl)
theorem rexpand_w_r2 (b : Nat) (hb : b < 4294967296) (ρ1 : Nat → Orc) (w0 : World) : Reg Try.prog 1 (regOps Try.f33 1) false 48 [(0, (.int .u32 ((b : Nat) : Int))), (2, (.pointer (some ⟨nb ρ1 0, 0, none⟩))), (3, (.int .i64 0))] w0 [(nb ρ1 0, (.cells (cU 0) 24 (0, 0)))] (fun _ => True)
    (fun ρ => [(0, (.int .u32 ((b : Nat) : Int))), (2, (.pointer (some ⟨nb ρ1 0, 0, none⟩))), (3, (.int .i64 0)), (4, (.int .i64 ((b / 16777216 : Nat) : Int))), (5, (.pointer (some ⟨nb ρ 7, 0, none⟩)))])
    (fun ρ => [(nb ρ1 0, (.cells (cU 0) 24 (0, 0))), (nb ρ 7, (.cells (cU (b % 16777216)) 24 (0, 0)))]) := by
  refine reg_seq [0, 1, 3, 7, 15, 31, 63, 127, 255, 511] [0, 2, 3, 4, 5] 10
    (fun ρ ι => ([(.int .u32 ((b : Nat) : Int)), (.int .u32 ((b / 16777216 : Nat) : Int)), (.int .i64 ((b / 16777216 : Nat) : Int)), (.int .u32 ((b : Nat) : Int)), (.int .u32 ((b % 16777216 : Nat) : Int)), (.int .u64 ((b % 16777216 : Nat) : Int)), (U (b % 16777216)), (.pointer (some ⟨nb ρ 7, 0, none⟩)), (.int .i64 ((b / 16777216 : Nat) : Int)), undef] : List Value).getD ι undef)
    (fun ρ ι => ([{}, {}, {}, {}, {}, {}, {}, { news := [(nb ρ 7, (.cells (cU 0) 24 (0, 0)))] }, {}, { puts := [(57, (.cells (cU (b % 16777216)) 24 (0, 0)))] }] : List Eff).getD ι {})
    (by as_aux_lemma => kernel_rfl) (by as_aux_lemma => kernel_rfl) (fun _ => by as_aux_lemma => kernel_rfl) (fun _ => by as_aux_lemma => kernel_rfl) ⟨⟨⟨⟨⟨⟨⟨⟨⟨⟨trivial, ?_⟩, ?_⟩, ?_⟩, ?_⟩, ?_⟩, ?_⟩, ?_⟩, ?_⟩, ?_⟩, ?_⟩
  · exact o_run 0 [] [] (fun _ _ => []) (fun _ _ => by as_aux_lemma => kernel_rfl)
  · exact o_bin 1 .shr 32 (fun _ => (.int .u32 ((b : Nat) : Int))) (fun _ => (.int .u64 24)) (fun _ => (.int .u32 ((b / 16777216 : Nat) : Int))) (fun _ => by as_aux_lemma => kernel_rfl) (fun _ _ _ _ => by as_aux_lemma => kernel_rfl) (fun _ w => run_shr24 b w)
  · exact o_as 2 (fun _ => (.int .i64 (IntKind.i64.wrap (((b / 16777216 : Nat) : Int))))) (fun _ => (.int .i64 ((b / 16777216 : Nat) : Int))) (fun _ _ => by as_aux_lemma => kernel_rfl) (fun _ => congrArg (Value.int .i64) (IntWalk.i64_in _ (by have := hb; have := low_len b; omega)))
  · exact o_run 3 [] [] (fun _ _ => []) (fun _ _ => by as_aux_lemma => kernel_rfl)
  · exact o_as 4 (fun _ => (.int .u32 (bits .and .u32 ((b : Nat) : Int) 16777215))) (fun _ => (.int .u32 ((b % 16777216 : Nat) : Int))) (fun _ _ => by as_aux_lemma => kernel_rfl) (fun _ => congrArg (Value.int .u32) (and_low24 hb))
  · exact o_as 5 (fun _ => (.int .u64 (IntKind.u64.wrap (((b % 16777216 : Nat) : Int))))) (fun _ => (.int .u64 ((b % 16777216 : Nat) : Int))) (fun _ _ => by as_aux_lemma => kernel_rfl) (fun _ => congrArg (Value.int .u64) (u64_nat (by omega)))
  · exact o_call 6 58 (fun _ => #[(.int .u64 ((b % 16777216 : Nat) : Int))]) (fun _ => (U (b % 16777216))) (fun _ _ => by as_aux_lemma => kernel_rfl) (fun _ w => (fun w => rfromuint_lit (b % 16777216) w (by omega)) w)
  · exact o_run 7 [] [] (fun _ _ => []) (fun _ _ => by as_aux_lemma => kernel_rfl)
  · exact o_run 8 [] [] (fun _ _ => []) (fun _ _ => by as_aux_lemma => kernel_rfl)
  · exact o_run 9 [57] [] (fun ρ _ => [nb ρ 7, nb ρ 7, nb ρ 7, nb ρ 7]) (fun _ _ => by as_aux_lemma => kernel_rfl)
theorem rexpand_w_r3 (b : Nat) (hb : b < 4294967296) (ρ1 : Nat → Orc) (ρ2 : Nat → Orc) (w0 : World) : Reg Try.prog 2 (regOps Try.f33 2) false 48 [(0, (.int .u32 ((b : Nat) : Int))), (2, (.pointer (some ⟨nb ρ1 0, 0, none⟩))), (3, (.int .i64 0)), (4, (.int .i64 ((b / 16777216 : Nat) : Int))), (5, (.pointer (some ⟨nb ρ2 7, 0, none⟩)))] w0 [(nb ρ1 0, (.cells (cU 0) 24 (0, 0))), (nb ρ2 7, (.cells (cU (b % 16777216)) 24 (0, 0)))] (fun _ => True)
    (fun _ => [(2, (.pointer (some ⟨nb ρ1 0, 0, none⟩))), (3, (.int .i64 0)), (4, (.int .i64 ((b / 16777216 : Nat) : Int))), (5, (.pointer (some ⟨nb ρ2 7, 0, none⟩))), (16, (.bool (sgnB b)))])
    (fun _ => [(nb ρ1 0, (.cells (cU 0) 24 (0, 0))), (nb ρ2 7, (.cells (cU (b % 16777216)) 24 (0, 0)))]) := by
  refine reg_seq [0, 1, 3] [2, 3, 4, 5, 16] 3
    (fun _ ι => ([(.int .u32 ((b : Nat) : Int)), (.int .u32 (bits .and .u32 ((b : Nat) : Int) 8388608)), (.bool (sgnB b))] : List Value).getD ι undef)
    (fun _ ι => ([{}, {}, {}] : List Eff).getD ι {})
    (by as_aux_lemma => kernel_rfl) (by as_aux_lemma => kernel_rfl) (fun _ => by as_aux_lemma => kernel_rfl) (fun _ => by as_aux_lemma => kernel_rfl) ⟨⟨⟨trivial, ?_⟩, ?_⟩, ?_⟩
  · exact o_run 0 [] [] (fun _ _ => []) (fun _ _ => by as_aux_lemma => kernel_rfl)
  · exact o_run 1 [] [] (fun _ _ => []) (fun _ _ => by as_aux_lemma => kernel_rfl)
  · exact o_as 2 (fun _ => (.bool ((bits .and .u32 ((b : Nat) : Int) 8388608) != 0))) (fun _ => (.bool (sgnB b))) (fun _ _ => by as_aux_lemma => kernel_rfl) (fun _ => congrArg Value.bool (and_sign hb))
theorem rexpand_w_r4 (b : Nat) (ρ1 : Nat → Orc) (ρ2 : Nat → Orc) (w0 : World) : Reg Try.prog 3 (regOps Try.f33 3) false 48 [(2, (.pointer (some ⟨nb ρ1 0, 0, none⟩))), (3, (.int .i64 0)), (4, (.int .i64 ((b / 16777216 : Nat) : Int))), (5, (.pointer (some ⟨nb ρ2 7, 0, none⟩))), (16, (.bool true))] w0 [(nb ρ1 0, (.cells (cU 0) 24 (0, 0))), (nb ρ2 7, (.cells (cU (b % 16777216)) 24 (0, 0)))] (fun _ => True)
    (fun _ => [(2, (.pointer (some ⟨nb ρ1 0, 0, none⟩))), (3, (.int .i64 120)), (4, (.int .i64 ((b / 16777216 : Nat) : Int))), (5, (.pointer (some ⟨nb ρ2 7, 0, none⟩)))])
    (fun _ => [(nb ρ1 0, (.cells (cU 0) 24 (0, 0))), (nb ρ2 7, (.cells (cU (b % 16777216)) 24 (0, 0)))]) := by
  refine reg_seq [0, 1, 3] [2, 3, 4, 5] 3
    (fun _ ι => ([(U 0), undef, (.int .i64 120)] : List Value).getD ι undef)
    (fun _ ι => ([{}, { puts := [(0, (.cells (cU 0) 24 (0, 0)))] }, {}] : List Eff).getD ι {})
    (by as_aux_lemma => kernel_rfl) (by as_aux_lemma => kernel_rfl) (fun _ => by as_aux_lemma => kernel_rfl) (fun _ => by as_aux_lemma => kernel_rfl) ⟨⟨⟨trivial, ?_⟩, ?_⟩, ?_⟩
  · exact o_run 0 [] [] (fun _ _ => []) (fun _ _ => by as_aux_lemma => kernel_rfl)
  · exact o_run 1 [0] [] (fun _ _ => [nb ρ1 0, nb ρ1 0, nb ρ1 0, nb ρ1 0]) (fun _ _ => by as_aux_lemma => kernel_rfl)
  · exact o_run 2 [] [] (fun _ _ => []) (fun _ _ => by as_aux_lemma => kernel_rfl)
theorem rexpand_w_r5 (b : Nat) (ρ1 : Nat → Orc) (ρ2 : Nat → Orc) (w0 : World) : Reg Try.prog 4 (regOps Try.f33 4) false 48 [(2, (.pointer (some ⟨nb ρ1 0, 0, none⟩))), (3, (.int .i64 0)), (4, (.int .i64 ((b / 16777216 : Nat) : Int))), (5, (.pointer (some ⟨nb ρ2 7, 0, none⟩))), (16, (.bool false))] w0 [(nb ρ1 0, (.cells (cU 0) 24 (0, 0))), (nb ρ2 7, (.cells (cU (b % 16777216)) 24 (0, 0)))] (fun _ => True)
    (fun ρ => [(2, (.pointer (some ⟨nb ρ1 0, 0, none⟩))), (3, (.int .i64 0)), (4, (.int .i64 ((b / 16777216 : Nat) : Int))), (5, (.pointer (some ⟨nb ρ2 7, 0, none⟩))), (6, (.pointer (some ⟨nb ρ 1, 0, none⟩)))])
    (fun ρ => [(nb ρ1 0, (.cells (cU 0) 24 (0, 0))), (nb ρ2 7, (.cells (cU (b % 16777216)) 24 (0, 0))), (nb ρ 1, (.cells (cU (b % 16777216)) 24 (0, 0)))]) := by
  refine reg_seq [0, 1, 3] [2, 3, 4, 5, 6] 3
    (fun ρ ι => ([(U (b % 16777216)), (.pointer (some ⟨nb ρ 1, 0, none⟩)), undef] : List Value).getD ι undef)
    (fun ρ ι => ([{}, { news := [(nb ρ 1, (.cells (cU 0) 24 (0, 0)))] }, { puts := [(10, (.cells (cU (b % 16777216)) 24 (0, 0)))] }] : List Eff).getD ι {})
    (by as_aux_lemma => kernel_rfl) (by as_aux_lemma => kernel_rfl) (fun _ => by as_aux_lemma => kernel_rfl) (fun _ => by as_aux_lemma => kernel_rfl) ⟨⟨⟨trivial, ?_⟩, ?_⟩, ?_⟩
  · exact o_run 0 [1] [] (fun _ _ => [nb ρ2 7, nb ρ2 7, nb ρ2 7, nb ρ2 7]) (fun _ _ => by as_aux_lemma => kernel_rfl)
  · exact o_run 1 [] [] (fun _ _ => []) (fun _ _ => by as_aux_lemma => kernel_rfl)
  · exact o_run 2 [10] [] (fun ρ _ => [nb ρ 1, nb ρ 1, nb ρ 1, nb ρ 1]) (fun _ _ => by as_aux_lemma => kernel_rfl)
theorem rexpand_w_r6 (b : Nat) (ρ1 : Nat → Orc) (ρ2 : Nat → Orc) (ρ5 : Nat → Orc) (w0 : World) : Reg Try.prog 5 (regOps Try.f33 5) false 48 [(2, (.pointer (some ⟨nb ρ1 0, 0, none⟩))), (3, (.int .i64 0)), (4, (.int .i64 ((b / 16777216 : Nat) : Int))), (5, (.pointer (some ⟨nb ρ2 7, 0, none⟩))), (6, (.pointer (some ⟨nb ρ5 1, 0, none⟩)))] w0 [(nb ρ1 0, (.cells (cU 0) 24 (0, 0))), (nb ρ2 7, (.cells (cU (b % 16777216)) 24 (0, 0))), (nb ρ5 1, (.cells (cU (b % 16777216)) 24 (0, 0)))] (fun _ => True)
    (fun _ => [(2, (.pointer (some ⟨nb ρ1 0, 0, none⟩))), (3, (.int .i64 0)), (4, (.int .i64 ((b / 16777216 : Nat) : Int))), (5, (.pointer (some ⟨nb ρ2 7, 0, none⟩))), (6, (.pointer (some ⟨nb ρ5 1, 0, none⟩))), (20, (.bool (decide (((b / 16777216 : Nat) : Int) < 3))))])
    (fun _ => [(nb ρ1 0, (.cells (cU 0) 24 (0, 0))), (nb ρ2 7, (.cells (cU (b % 16777216)) 24 (0, 0))), (nb ρ5 1, (.cells (cU (b % 16777216)) 24 (0, 0)))]) := by
  refine reg_seq [0, 1] [2, 3, 4, 5, 6, 20] 2
    (fun _ ι => ([(.int .i64 ((b / 16777216 : Nat) : Int)), (.bool (decide (((b / 16777216 : Nat) : Int) < 3)))] : List Value).getD ι undef)
    (fun _ ι => ([{}, {}] : List Eff).getD ι {})
    (by as_aux_lemma => kernel_rfl) (by as_aux_lemma => kernel_rfl) (fun _ => by as_aux_lemma => kernel_rfl) (fun _ => by as_aux_lemma => kernel_rfl) ⟨⟨trivial, ?_⟩, ?_⟩
  · exact o_run 0 [] [] (fun _ _ => []) (fun _ _ => by as_aux_lemma => kernel_rfl)
  · exact o_run 1 [] [] (fun _ _ => []) (fun _ _ => by as_aux_lemma => kernel_rfl)
theorem rexpand_w_r7 (b : Nat) (hb : b < 4294967296) (ρ1 : Nat → Orc) (ρ2 : Nat → Orc) (ρ5 : Nat → Orc) (w0 : World) : Reg Try.prog 6 (regOps Try.f33 6) false 48 [(2, (.pointer (some ⟨nb ρ1 0, 0, none⟩))), (3, (.int .i64 0)), (4, (.int .i64 ((b / 16777216 : Nat) : Int))), (5, (.pointer (some ⟨nb ρ2 7, 0, none⟩))), (6, (.pointer (some ⟨nb ρ5 1, 0, none⟩))), (20, (.bool true))] w0 [(nb ρ1 0, (.cells (cU 0) 24 (0, 0))), (nb ρ2 7, (.cells (cU (b % 16777216)) 24 (0, 0))), (nb ρ5 1, (.cells (cU (b % 16777216)) 24 (0, 0)))] (fun _ => True)
    (fun _ => [(2, (.pointer (some ⟨nb ρ1 0, 0, none⟩))), (3, (.int .i64 0)), (6, (.pointer (some ⟨nb ρ5 1, 0, none⟩)))])
    (fun _ => [(nb ρ1 0, (.cells (cU 0) 24 (0, 0))), (nb ρ2 7, (.cells (cU (b % 16777216)) 24 (0, 0))), (nb ρ5 1, (.cells (cU (shrZ (b % 16777216) (8 * (3 - ((b / 16777216 : Nat) : Int))))) 24 (0, 0)))]) := by
  refine reg_seq [0, 1, 3, 7, 15, 31] [2, 3, 6] 6
    (fun _ ι => ([(U (b % 16777216)), (.int .i64 ((b / 16777216 : Nat) : Int)), (.int .i64 (3 - ((b / 16777216 : Nat) : Int))), (.int .i64 (8 * (3 - ((b / 16777216 : Nat) : Int)))), (U (shrZ (b % 16777216) (8 * (3 - ((b / 16777216 : Nat) : Int))))), undef] : List Value).getD ι undef)
    (fun _ ι => ([{}, {}, {}, {}, {}, { puts := [(2, (.cells (cU (shrZ (b % 16777216) (8 * (3 - ((b / 16777216 : Nat) : Int))))) 24 (0, 0)))] }] : List Eff).getD ι {})
    (by as_aux_lemma => kernel_rfl) (by as_aux_lemma => kernel_rfl) (fun _ => by as_aux_lemma => kernel_rfl) (fun _ => by as_aux_lemma => kernel_rfl) ⟨⟨⟨⟨⟨⟨trivial, ?_⟩, ?_⟩, ?_⟩, ?_⟩, ?_⟩, ?_⟩
  · exact o_run 0 [1] [] (fun _ _ => [nb ρ2 7, nb ρ2 7, nb ρ2 7, nb ρ2 7]) (fun _ _ => by as_aux_lemma => kernel_rfl)
  · exact o_run 1 [] [] (fun _ _ => []) (fun _ _ => by as_aux_lemma => kernel_rfl)
  · exact o_as 2 (fun _ => (.int .i64 (IntKind.i64.wrap (3 - ((b / 16777216 : Nat) : Int))))) (fun _ => (.int .i64 (3 - ((b / 16777216 : Nat) : Int)))) (fun _ _ => by as_aux_lemma => kernel_rfl) (fun _ => congrArg (Value.int .i64) (IntWalk.i64_in _ (by have := hb; have := low_len b; omega)))
  · exact o_as 3 (fun _ => (.int .i64 (IntKind.i64.wrap (8 * (3 - ((b / 16777216 : Nat) : Int)))))) (fun _ => (.int .i64 (8 * (3 - ((b / 16777216 : Nat) : Int))))) (fun _ _ => by as_aux_lemma => kernel_rfl) (fun _ => congrArg (Value.int .i64) (IntWalk.i64_in _ (by have := hb; have := low_len b; omega)))
  · exact o_call 4 41 (fun _ => #[(U (b % 16777216)), (.int .i64 (8 * (3 - ((b / 16777216 : Nat) : Int))))]) (fun _ => (U (shrZ (b % 16777216) (8 * (3 - ((b / 16777216 : Nat) : Int)))))) (fun _ _ => by as_aux_lemma => kernel_rfl) (fun _ w => (fun w => rshr_any (b % 16777216) (8 * (3 - ((b / 16777216 : Nat) : Int))) w (low_lt b)) w)
  · exact o_run 5 [2] [] (fun _ _ => [nb ρ5 1, nb ρ5 1, nb ρ5 1, nb ρ5 1]) (fun _ _ => by as_aux_lemma => kernel_rfl)
theorem rexpand_w_r8 (b : Nat) (ρ1 : Nat → Orc) (ρ2 : Nat → Orc) (ρ5 : Nat → Orc) (w0 : World) : Reg Try.prog 10 (regOps Try.f33 10) false 48 [(2, (.pointer (some ⟨nb ρ1 0, 0, none⟩))), (3, (.int .i64 0)), (6, (.pointer (some ⟨nb ρ5 1, 0, none⟩)))] w0 [(nb ρ1 0, (.cells (cU 0) 24 (0, 0))), (nb ρ2 7, (.cells (cU (b % 16777216)) 24 (0, 0))), (nb ρ5 1, (.cells (cU (shrZ (b % 16777216) (8 * (3 - ((b / 16777216 : Nat) : Int))))) 24 (0, 0)))] (fun _ => True)
    (fun _ => [(2, (.pointer (some ⟨nb ρ1 0, 0, none⟩))), (3, (.int .i64 0)), (6, (.pointer (some ⟨nb ρ5 1, 0, none⟩))), (45, (.bool (decide (shrZ (b % 16777216) (8 * (3 - ((b / 16777216 : Nat) : Int))) = 0))))])
    (fun _ => [(nb ρ1 0, (.cells (cU 0) 24 (0, 0))), (nb ρ2 7, (.cells (cU (b % 16777216)) 24 (0, 0))), (nb ρ5 1, (.cells (cU (shrZ (b % 16777216) (8 * (3 - ((b / 16777216 : Nat) : Int))))) 24 (0, 0)))]) := by
  refine reg_seq [0, 1] [2, 3, 6, 45] 2
    (fun _ ι => ([(U (shrZ (b % 16777216) (8 * (3 - ((b / 16777216 : Nat) : Int))))), (.bool (decide (shrZ (b % 16777216) (8 * (3 - ((b / 16777216 : Nat) : Int))) = 0)))] : List Value).getD ι undef)
    (fun _ ι => ([{}, {}] : List Eff).getD ι {})
    (by as_aux_lemma => kernel_rfl) (by as_aux_lemma => kernel_rfl) (fun _ => by as_aux_lemma => kernel_rfl) (fun _ => by as_aux_lemma => kernel_rfl) ⟨⟨trivial, ?_⟩, ?_⟩
  · exact o_run 0 [2] [] (fun _ _ => [nb ρ5 1, nb ρ5 1, nb ρ5 1, nb ρ5 1]) (fun _ _ => by as_aux_lemma => kernel_rfl)
  · exact o_call 1 61 (fun _ => #[(U (shrZ (b % 16777216) (8 * (3 - ((b / 16777216 : Nat) : Int)))))]) (fun _ => (.bool (decide (shrZ (b % 16777216) (8 * (3 - ((b / 16777216 : Nat) : Int))) = 0)))) (fun _ _ => by as_aux_lemma => kernel_rfl) (fun _ w => (fun w => rzero_any (shrZ (b % 16777216) (8 * (3 - ((b / 16777216 : Nat) : Int)))) w (shrZ_lt _ (low_lt b))) w)
theorem rexpand_w_r9 (b : Nat) (ρ1 : Nat → Orc) (ρ2 : Nat → Orc) (ρ5 : Nat → Orc) (w0 : World) : Reg Try.prog 11 (regOps Try.f33 11) false 48 [(2, (.pointer (some ⟨nb ρ1 0, 0, none⟩))), (3, (.int .i64 0)), (6, (.pointer (some ⟨nb ρ5 1, 0, none⟩))), (45, (.bool true))] w0 [(nb ρ1 0, (.cells (cU 0) 24 (0, 0))), (nb ρ2 7, (.cells (cU (b % 16777216)) 24 (0, 0))), (nb ρ5 1, (.cells (cU (shrZ (b % 16777216) (8 * (3 - ((b / 16777216 : Nat) : Int))))) 24 (0, 0)))] (fun _ => True)
    (fun _ => [(2, (.pointer (some ⟨nb ρ1 0, 0, none⟩))), (3, (.int .i64 120)), (6, (.pointer (some ⟨nb ρ5 1, 0, none⟩)))])
    (fun _ => [(nb ρ1 0, (.cells (cU 0) 24 (0, 0))), (nb ρ2 7, (.cells (cU (b % 16777216)) 24 (0, 0))), (nb ρ5 1, (.cells (cU (shrZ (b % 16777216) (8 * (3 - ((b / 16777216 : Nat) : Int))))) 24 (0, 0)))]) := by
  refine reg_seq [0, 1, 3] [2, 3, 6] 3
    (fun _ ι => ([(U 0), undef, (.int .i64 120)] : List Value).getD ι undef)
    (fun _ ι => ([{}, { puts := [(0, (.cells (cU 0) 24 (0, 0)))] }, {}] : List Eff).getD ι {})
    (by as_aux_lemma => kernel_rfl) (by as_aux_lemma => kernel_rfl) (fun _ => by as_aux_lemma => kernel_rfl) (fun _ => by as_aux_lemma => kernel_rfl) ⟨⟨⟨trivial, ?_⟩, ?_⟩, ?_⟩
  · exact o_run 0 [] [] (fun _ _ => []) (fun _ _ => by as_aux_lemma => kernel_rfl)
  · exact o_run 1 [0] [] (fun _ _ => [nb ρ1 0, nb ρ1 0, nb ρ1 0, nb ρ1 0]) (fun _ _ => by as_aux_lemma => kernel_rfl)
  · exact o_run 2 [] [] (fun _ _ => []) (fun _ _ => by as_aux_lemma => kernel_rfl)
theorem rexpand_w_r10 (b : Nat) (ρ1 : Nat → Orc) (ρ2 : Nat → Orc) (ρ5 : Nat → Orc) (w0 : World) : Reg Try.prog 12 (regOps Try.f33 12) false 48 [(2, (.pointer (some ⟨nb ρ1 0, 0, none⟩))), (3, (.int .i64 0)), (6, (.pointer (some ⟨nb ρ5 1, 0, none⟩))), (45, (.bool false))] w0 [(nb ρ1 0, (.cells (cU 0) 24 (0, 0))), (nb ρ2 7, (.cells (cU (b % 16777216)) 24 (0, 0))), (nb ρ5 1, (.cells (cU (shrZ (b % 16777216) (8 * (3 - ((b / 16777216 : Nat) : Int))))) 24 (0, 0)))] (fun _ => True)
    (fun _ => [(2, (.pointer (some ⟨nb ρ1 0, 0, none⟩))), (3, (.int .i64 0))])
    (fun _ => [(nb ρ1 0, (.cells (cU (shrZ (b % 16777216) (8 * (3 - ((b / 16777216 : Nat) : Int))))) 24 (0, 0))), (nb ρ2 7, (.cells (cU (b % 16777216)) 24 (0, 0))), (nb ρ5 1, (.cells (cU (shrZ (b % 16777216) (8 * (3 - ((b / 16777216 : Nat) : Int))))) 24 (0, 0)))]) := by
  refine reg_seq [0, 1, 3] [2, 3] 3
    (fun _ ι => ([(U (shrZ (b % 16777216) (8 * (3 - ((b / 16777216 : Nat) : Int))))), undef, (.int .i64 0)] : List Value).getD ι undef)
    (fun _ ι => ([{}, { puts := [(0, (.cells (cU (shrZ (b % 16777216) (8 * (3 - ((b / 16777216 : Nat) : Int))))) 24 (0, 0)))] }, {}] : List Eff).getD ι {})
    (by as_aux_lemma => kernel_rfl) (by as_aux_lemma => kernel_rfl) (fun _ => by as_aux_lemma => kernel_rfl) (fun _ => by as_aux_lemma => kernel_rfl) ⟨⟨⟨trivial, ?_⟩, ?_⟩, ?_⟩
  · exact o_run 0 [2] [] (fun _ _ => [nb ρ5 1, nb ρ5 1, nb ρ5 1, nb ρ5 1]) (fun _ _ => by as_aux_lemma => kernel_rfl)
  · exact o_run 1 [0] [] (fun _ _ => [nb ρ1 0, nb ρ1 0, nb ρ1 0, nb ρ1 0]) (fun _ _ => by as_aux_lemma => kernel_rfl)
  · exact o_run 2 [] [] (fun _ _ => []) (fun _ _ => by as_aux_lemma => kernel_rfl)
theorem rexpand_w_r11 (b : Nat) (hb4 : (decide (b % 16777216 = 0)) = true) (ρ1 : Nat → Orc) (ρ2 : Nat → Orc) (ρ5 : Nat → Orc) (w0 : World) : Reg Try.prog 7 (regOps Try.f33 7) false 48 [(2, (.pointer (some ⟨nb ρ1 0, 0, none⟩))), (3, (.int .i64 0)), (4, (.int .i64 ((b / 16777216 : Nat) : Int))), (5, (.pointer (some ⟨nb ρ2 7, 0, none⟩))), (6, (.pointer (some ⟨nb ρ5 1, 0, none⟩))), (20, (.bool false))] w0 [(nb ρ1 0, (.cells (cU 0) 24 (0, 0))), (nb ρ2 7, (.cells (cU (b % 16777216)) 24 (0, 0))), (nb ρ5 1, (.cells (cU (b % 16777216)) 24 (0, 0)))] (fun _ => True)
    (fun _ => [(2, (.pointer (some ⟨nb ρ1 0, 0, none⟩))), (3, (.int .i64 0)), (4, (.int .i64 ((b / 16777216 : Nat) : Int))), (5, (.pointer (some ⟨nb ρ2 7, 0, none⟩))), (6, (.pointer (some ⟨nb ρ5 1, 0, none⟩))), (37, (.bool false))])
    (fun _ => [(nb ρ1 0, (.cells (cU 0) 24 (0, 0))), (nb ρ2 7, (.cells (cU (b % 16777216)) 24 (0, 0))), (nb ρ5 1, (.cells (cU (b % 16777216)) 24 (0, 0)))]) := by
  refine reg_seq [0, 1, 3, 7, 15, 31, 63, 127, 255, 511, 1023, 2047] [2, 3, 4, 5, 6, 37] 12
    (fun _ ι => ([(U (b % 16777216)), (.bool true), (.bool false), (.bool false), undef, undef, undef, undef, undef, undef, undef, (.bool false)] : List Value).getD ι undef)
    (fun _ ι => ([{}, {}, {}, {}, {}, {}, {}, {}, {}, {}, {}, {}] : List Eff).getD ι {})
    (by as_aux_lemma => kernel_rfl) (by as_aux_lemma => kernel_rfl) (fun _ => by as_aux_lemma => kernel_rfl) (fun _ => by as_aux_lemma => kernel_rfl) ⟨⟨⟨⟨⟨⟨⟨⟨⟨⟨⟨⟨trivial, ?_⟩, ?_⟩, ?_⟩, ?_⟩, ?_⟩, ?_⟩, ?_⟩, ?_⟩, ?_⟩, ?_⟩, ?_⟩, ?_⟩
  · exact o_run 0 [1] [] (fun _ _ => [nb ρ2 7, nb ρ2 7, nb ρ2 7, nb ρ2 7]) (fun _ _ => by as_aux_lemma => kernel_rfl)
  · exact o_call 1 61 (fun _ => #[(U (b % 16777216))]) (fun _ => (.bool true)) (fun _ _ => by as_aux_lemma => kernel_rfl) (fun _ w => by as_aux_lemma => (have h := (fun w => rzero_any (b % 16777216) w (low_lt b)) w; rw [hb4] at h; exact h))
  · exact o_run 2 [] [] (fun _ _ => []) (fun _ _ => by as_aux_lemma => kernel_rfl)
  · exact o_run 3 [] [] (fun _ _ => []) (fun _ _ => by as_aux_lemma => kernel_rfl)
  · exact o_skip 4 (fun _ => by as_aux_lemma => kernel_rfl)
  · exact o_skip 5 (fun _ => by as_aux_lemma => kernel_rfl)
  · exact o_skip 6 (fun _ => by as_aux_lemma => kernel_rfl)
  · exact o_skip 7 (fun _ => by as_aux_lemma => kernel_rfl)
  · exact o_skip 8 (fun _ => by as_aux_lemma => kernel_rfl)
  · exact o_skip 9 (fun _ => by as_aux_lemma => kernel_rfl)
  · exact o_skip 10 (fun _ => by as_aux_lemma => kernel_rfl)
  · exact o_run 11 [] [] (fun _ _ => []) (fun _ _ => by as_aux_lemma => kernel_rfl)
theorem rexpand_w_r12 (b : Nat) (hb : b < 4294967296) (ρ1 : Nat → Orc) (ρ2 : Nat → Orc) (ρ5 : Nat → Orc) (w0 : World) : Reg Try.prog 9 (regOps Try.f33 9) false 48 [(2, (.pointer (some ⟨nb ρ1 0, 0, none⟩))), (3, (.int .i64 0)), (4, (.int .i64 ((b / 16777216 : Nat) : Int))), (5, (.pointer (some ⟨nb ρ2 7, 0, none⟩))), (6, (.pointer (some ⟨nb ρ5 1, 0, none⟩))), (37, (.bool false))] w0 [(nb ρ1 0, (.cells (cU 0) 24 (0, 0))), (nb ρ2 7, (.cells (cU (b % 16777216)) 24 (0, 0))), (nb ρ5 1, (.cells (cU (b % 16777216)) 24 (0, 0)))] (fun _ => True)
    (fun _ => [(2, (.pointer (some ⟨nb ρ1 0, 0, none⟩))), (3, (.int .i64 0)), (6, (.pointer (some ⟨nb ρ5 1, 0, none⟩)))])
    (fun _ => [(nb ρ1 0, (.cells (cU 0) 24 (0, 0))), (nb ρ2 7, (.cells (cU (b % 16777216)) 24 (0, 0))), (nb ρ5 1, (.cells (cU (shlZ (b % 16777216) (8 * (((b / 16777216 : Nat) : Int) - 3)))) 24 (0, 0)))]) := by
  refine reg_seq [0, 1, 3, 7, 15, 31] [2, 3, 6] 6
    (fun _ ι => ([(U (b % 16777216)), (.int .i64 ((b / 16777216 : Nat) : Int)), (.int .i64 (((b / 16777216 : Nat) : Int) - 3)), (.int .i64 (8 * (((b / 16777216 : Nat) : Int) - 3))), (U (shlZ (b % 16777216) (8 * (((b / 16777216 : Nat) : Int) - 3)))), undef] : List Value).getD ι undef)
    (fun _ ι => ([{}, {}, {}, {}, {}, { puts := [(2, (.cells (cU (shlZ (b % 16777216) (8 * (((b / 16777216 : Nat) : Int) - 3)))) 24 (0, 0)))] }] : List Eff).getD ι {})
    (by as_aux_lemma => kernel_rfl) (by as_aux_lemma => kernel_rfl) (fun _ => by as_aux_lemma => kernel_rfl) (fun _ => by as_aux_lemma => kernel_rfl) ⟨⟨⟨⟨⟨⟨trivial, ?_⟩, ?_⟩, ?_⟩, ?_⟩, ?_⟩, ?_⟩
  · exact o_run 0 [1] [] (fun _ _ => [nb ρ2 7, nb ρ2 7, nb ρ2 7, nb ρ2 7]) (fun _ _ => by as_aux_lemma => kernel_rfl)
  · exact o_run 1 [] [] (fun _ _ => []) (fun _ _ => by as_aux_lemma => kernel_rfl)
  · exact o_as 2 (fun _ => (.int .i64 (IntKind.i64.wrap (((b / 16777216 : Nat) : Int) - 3)))) (fun _ => (.int .i64 (((b / 16777216 : Nat) : Int) - 3))) (fun _ _ => by as_aux_lemma => kernel_rfl) (fun _ => congrArg (Value.int .i64) (IntWalk.i64_in _ (by have := hb; have := low_len b; omega)))
  · exact o_as 3 (fun _ => (.int .i64 (IntKind.i64.wrap (8 * (((b / 16777216 : Nat) : Int) - 3))))) (fun _ => (.int .i64 (8 * (((b / 16777216 : Nat) : Int) - 3)))) (fun _ _ => by as_aux_lemma => kernel_rfl) (fun _ => congrArg (Value.int .i64) (IntWalk.i64_in _ (by have := hb; have := low_len b; omega)))
  · exact o_call 4 71 (fun _ => #[(U (b % 16777216)), (.int .i64 (8 * (((b / 16777216 : Nat) : Int) - 3)))]) (fun _ => (U (shlZ (b % 16777216) (8 * (((b / 16777216 : Nat) : Int) - 3))))) (fun _ _ => by as_aux_lemma => kernel_rfl) (fun _ w => (fun w => rshl_any (b % 16777216) (8 * (((b / 16777216 : Nat) : Int) - 3)) w (low_lt b)) w)
  · exact o_run 5 [2] [] (fun _ _ => [nb ρ5 1, nb ρ5 1, nb ρ5 1, nb ρ5 1]) (fun _ _ => by as_aux_lemma => kernel_rfl)
theorem rexpand_w_r13 (b : Nat) (ρ1 : Nat → Orc) (ρ2 : Nat → Orc) (ρ5 : Nat → Orc) (w0 : World) : Reg Try.prog 10 (regOps Try.f33 10) false 48 [(2, (.pointer (some ⟨nb ρ1 0, 0, none⟩))), (3, (.int .i64 0)), (6, (.pointer (some ⟨nb ρ5 1, 0, none⟩)))] w0 [(nb ρ1 0, (.cells (cU 0) 24 (0, 0))), (nb ρ2 7, (.cells (cU (b % 16777216)) 24 (0, 0))), (nb ρ5 1, (.cells (cU (shlZ (b % 16777216) (8 * (((b / 16777216 : Nat) : Int) - 3)))) 24 (0, 0)))] (fun _ => True)
    (fun _ => [(2, (.pointer (some ⟨nb ρ1 0, 0, none⟩))), (3, (.int .i64 0)), (6, (.pointer (some ⟨nb ρ5 1, 0, none⟩))), (45, (.bool (decide (shlZ (b % 16777216) (8 * (((b / 16777216 : Nat) : Int) - 3)) = 0))))])
    (fun _ => [(nb ρ1 0, (.cells (cU 0) 24 (0, 0))), (nb ρ2 7, (.cells (cU (b % 16777216)) 24 (0, 0))), (nb ρ5 1, (.cells (cU (shlZ (b % 16777216) (8 * (((b / 16777216 : Nat) : Int) - 3)))) 24 (0, 0)))]) := by
  refine reg_seq [0, 1] [2, 3, 6, 45] 2
    (fun _ ι => ([(U (shlZ (b % 16777216) (8 * (((b / 16777216 : Nat) : Int) - 3)))), (.bool (decide (shlZ (b % 16777216) (8 * (((b / 16777216 : Nat) : Int) - 3)) = 0)))] : List Value).getD ι undef)
    (fun _ ι => ([{}, {}] : List Eff).getD ι {})
    (by as_aux_lemma => kernel_rfl) (by as_aux_lemma => kernel_rfl) (fun _ => by as_aux_lemma => kernel_rfl) (fun _ => by as_aux_lemma => kernel_rfl) ⟨⟨trivial, ?_⟩, ?_⟩
  · exact o_run 0 [2] [] (fun _ _ => [nb ρ5 1, nb ρ5 1, nb ρ5 1, nb ρ5 1]) (fun _ _ => by as_aux_lemma => kernel_rfl)
  · exact o_call 1 61 (fun _ => #[(U (shlZ (b % 16777216) (8 * (((b / 16777216 : Nat) : Int) - 3))))]) (fun _ => (.bool (decide (shlZ (b % 16777216) (8 * (((b / 16777216 : Nat) : Int) - 3)) = 0)))) (fun _ _ => by as_aux_lemma => kernel_rfl) (fun _ w => (fun w => rzero_any (shlZ (b % 16777216) (8 * (((b / 16777216 : Nat) : Int) - 3))) w (shlZ_lt _ (low_lt b))) w)
theorem rexpand_w_r14 (b : Nat) (ρ1 : Nat → Orc) (ρ2 : Nat → Orc) (ρ5 : Nat → Orc) (w0 : World) : Reg Try.prog 11 (regOps Try.f33 11) false 48 [(2, (.pointer (some ⟨nb ρ1 0, 0, none⟩))), (3, (.int .i64 0)), (6, (.pointer (some ⟨nb ρ5 1, 0, none⟩))), (45, (.bool true))] w0 [(nb ρ1 0, (.cells (cU 0) 24 (0, 0))), (nb ρ2 7, (.cells (cU (b % 16777216)) 24 (0, 0))), (nb ρ5 1, (.cells (cU (shlZ (b % 16777216) (8 * (((b / 16777216 : Nat) : Int) - 3)))) 24 (0, 0)))] (fun _ => True)
    (fun _ => [(2, (.pointer (some ⟨nb ρ1 0, 0, none⟩))), (3, (.int .i64 120)), (6, (.pointer (some ⟨nb ρ5 1, 0, none⟩)))])
    (fun _ => [(nb ρ1 0, (.cells (cU 0) 24 (0, 0))), (nb ρ2 7, (.cells (cU (b % 16777216)) 24 (0, 0))), (nb ρ5 1, (.cells (cU (shlZ (b % 16777216) (8 * (((b / 16777216 : Nat) : Int) - 3)))) 24 (0, 0)))]) := by
  refine reg_seq [0, 1, 3] [2, 3, 6] 3
    (fun _ ι => ([(U 0), undef, (.int .i64 120)] : List Value).getD ι undef)
    (fun _ ι => ([{}, { puts := [(0, (.cells (cU 0) 24 (0, 0)))] }, {}] : List Eff).getD ι {})
    (by as_aux_lemma => kernel_rfl) (by as_aux_lemma => kernel_rfl) (fun _ => by as_aux_lemma => kernel_rfl) (fun _ => by as_aux_lemma => kernel_rfl) ⟨⟨⟨trivial, ?_⟩, ?_⟩, ?_⟩
  · exact o_run 0 [] [] (fun _ _ => []) (fun _ _ => by as_aux_lemma => kernel_rfl)
  · exact o_run 1 [0] [] (fun _ _ => [nb ρ1 0, nb ρ1 0, nb ρ1 0, nb ρ1 0]) (fun _ _ => by as_aux_lemma => kernel_rfl)
  · exact o_run 2 [] [] (fun _ _ => []) (fun _ _ => by as_aux_lemma => kernel_rfl)
theorem rexpand_w_r15 (b : Nat) (ρ1 : Nat → Orc) (ρ2 : Nat → Orc) (ρ5 : Nat → Orc) (w0 : World) : Reg Try.prog 12 (regOps Try.f33 12) false 48 [(2, (.pointer (some ⟨nb ρ1 0, 0, none⟩))), (3, (.int .i64 0)), (6, (.pointer (some ⟨nb ρ5 1, 0, none⟩))), (45, (.bool false))] w0 [(nb ρ1 0, (.cells (cU 0) 24 (0, 0))), (nb ρ2 7, (.cells (cU (b % 16777216)) 24 (0, 0))), (nb ρ5 1, (.cells (cU (shlZ (b % 16777216) (8 * (((b / 16777216 : Nat) : Int) - 3)))) 24 (0, 0)))] (fun _ => True)
    (fun _ => [(2, (.pointer (some ⟨nb ρ1 0, 0, none⟩))), (3, (.int .i64 0))])
    (fun _ => [(nb ρ1 0, (.cells (cU (shlZ (b % 16777216) (8 * (((b / 16777216 : Nat) : Int) - 3)))) 24 (0, 0))), (nb ρ2 7, (.cells (cU (b % 16777216)) 24 (0, 0))), (nb ρ5 1, (.cells (cU (shlZ (b % 16777216) (8 * (((b / 16777216 : Nat) : Int) - 3)))) 24 (0, 0)))]) := by
  refine reg_seq [0, 1, 3] [2, 3] 3
    (fun _ ι => ([(U (shlZ (b % 16777216) (8 * (((b / 16777216 : Nat) : Int) - 3)))), undef, (.int .i64 0)] : List Value).getD ι undef)
    (fun _ ι => ([{}, { puts := [(0, (.cells (cU (shlZ (b % 16777216) (8 * (((b / 16777216 : Nat) : Int) - 3)))) 24 (0, 0)))] }, {}] : List Eff).getD ι {})
    (by as_aux_lemma => kernel_rfl) (by as_aux_lemma => kernel_rfl) (fun _ => by as_aux_lemma => kernel_rfl) (fun _ => by as_aux_lemma => kernel_rfl) ⟨⟨⟨trivial, ?_⟩, ?_⟩, ?_⟩
  · exact o_run 0 [2] [] (fun _ _ => [nb ρ5 1, nb ρ5 1, nb ρ5 1, nb ρ5 1]) (fun _ _ => by as_aux_lemma => kernel_rfl)
  · exact o_run 1 [0] [] (fun _ _ => [nb ρ1 0, nb ρ1 0, nb ρ1 0, nb ρ1 0]) (fun _ _ => by as_aux_lemma => kernel_rfl)
  · exact o_run 2 [] [] (fun _ _ => []) (fun _ _ => by as_aux_lemma => kernel_rfl)
theorem rexpand_w_r16 (b : Nat) (hb : b < 4294967296) (hb4 : (decide (b % 16777216 = 0)) = false) (ρ1 : Nat → Orc) (ρ2 : Nat → Orc) (ρ5 : Nat → Orc) (w0 : World) : Reg Try.prog 7 (regOps Try.f33 7) false 48 [(2, (.pointer (some ⟨nb ρ1 0, 0, none⟩))), (3, (.int .i64 0)), (4, (.int .i64 ((b / 16777216 : Nat) : Int))), (5, (.pointer (some ⟨nb ρ2 7, 0, none⟩))), (6, (.pointer (some ⟨nb ρ5 1, 0, none⟩))), (20, (.bool false))] w0 [(nb ρ1 0, (.cells (cU 0) 24 (0, 0))), (nb ρ2 7, (.cells (cU (b % 16777216)) 24 (0, 0))), (nb ρ5 1, (.cells (cU (b % 16777216)) 24 (0, 0)))] (fun _ => True)
    (fun _ => [(2, (.pointer (some ⟨nb ρ1 0, 0, none⟩))), (3, (.int .i64 0)), (4, (.int .i64 ((b / 16777216 : Nat) : Int))), (5, (.pointer (some ⟨nb ρ2 7, 0, none⟩))), (6, (.pointer (some ⟨nb ρ5 1, 0, none⟩))), (37, (.bool (decide (256 < (((lenN (b % 16777216) : Nat) : Int) + (8 * (((b / 16777216 : Nat) : Int) - 3)))))))])
    (fun _ => [(nb ρ1 0, (.cells (cU 0) 24 (0, 0))), (nb ρ2 7, (.cells (cU (b % 16777216)) 24 (0, 0))), (nb ρ5 1, (.cells (cU (b % 16777216)) 24 (0, 0)))]) := by
  refine reg_seq [0, 1, 3, 7, 15, 31, 63, 127, 255, 511, 1023, 2047] [2, 3, 4, 5, 6, 37] 12
    (fun _ ι => ([(U (b % 16777216)), (.bool false), (.bool true), (.bool true), (U (b % 16777216)), (.int .i64 ((lenN (b % 16777216) : Nat) : Int)), (.int .i64 ((b / 16777216 : Nat) : Int)), (.int .i64 (((b / 16777216 : Nat) : Int) - 3)), (.int .i64 (8 * (((b / 16777216 : Nat) : Int) - 3))), (.int .i64 (((lenN (b % 16777216) : Nat) : Int) + (8 * (((b / 16777216 : Nat) : Int) - 3)))), (.bool (decide (256 < (((lenN (b % 16777216) : Nat) : Int) + (8 * (((b / 16777216 : Nat) : Int) - 3)))))), (.bool (decide (256 < (((lenN (b % 16777216) : Nat) : Int) + (8 * (((b / 16777216 : Nat) : Int) - 3))))))] : List Value).getD ι undef)
    (fun _ ι => ([{}, {}, {}, {}, {}, {}, {}, {}, {}, {}, {}, {}] : List Eff).getD ι {})
    (by as_aux_lemma => kernel_rfl) (by as_aux_lemma => kernel_rfl) (fun _ => by as_aux_lemma => kernel_rfl) (fun _ => by as_aux_lemma => kernel_rfl) ⟨⟨⟨⟨⟨⟨⟨⟨⟨⟨⟨⟨trivial, ?_⟩, ?_⟩, ?_⟩, ?_⟩, ?_⟩, ?_⟩, ?_⟩, ?_⟩, ?_⟩, ?_⟩, ?_⟩, ?_⟩
  · exact o_run 0 [1] [] (fun _ _ => [nb ρ2 7, nb ρ2 7, nb ρ2 7, nb ρ2 7]) (fun _ _ => by as_aux_lemma => kernel_rfl)
  · exact o_call 1 61 (fun _ => #[(U (b % 16777216))]) (fun _ => (.bool false)) (fun _ _ => by as_aux_lemma => kernel_rfl) (fun _ w => by as_aux_lemma => (have h := (fun w => rzero_any (b % 16777216) w (low_lt b)) w; rw [hb4] at h; exact h))
  · exact o_run 2 [] [] (fun _ _ => []) (fun _ _ => by as_aux_lemma => kernel_rfl)
  · exact o_run 3 [] [] (fun _ _ => []) (fun _ _ => by as_aux_lemma => kernel_rfl)
  · exact o_run 4 [1] [] (fun _ _ => [nb ρ2 7, nb ρ2 7, nb ρ2 7, nb ρ2 7]) (fun _ _ => by as_aux_lemma => kernel_rfl)
  · exact o_call 5 70 (fun _ => #[(U (b % 16777216))]) (fun _ => (.int .i64 ((lenN (b % 16777216) : Nat) : Int))) (fun _ _ => by as_aux_lemma => kernel_rfl) (fun _ w => (fun w => rlen_any (b % 16777216) w (low_lt b)) w)
  · exact o_run 6 [] [] (fun _ _ => []) (fun _ _ => by as_aux_lemma => kernel_rfl)
  · exact o_as 7 (fun _ => (.int .i64 (IntKind.i64.wrap (((b / 16777216 : Nat) : Int) - 3)))) (fun _ => (.int .i64 (((b / 16777216 : Nat) : Int) - 3))) (fun _ _ => by as_aux_lemma => kernel_rfl) (fun _ => congrArg (Value.int .i64) (IntWalk.i64_in _ (by have := hb; have := low_len b; omega)))
  · exact o_as 8 (fun _ => (.int .i64 (IntKind.i64.wrap (8 * (((b / 16777216 : Nat) : Int) - 3))))) (fun _ => (.int .i64 (8 * (((b / 16777216 : Nat) : Int) - 3)))) (fun _ _ => by as_aux_lemma => kernel_rfl) (fun _ => congrArg (Value.int .i64) (IntWalk.i64_in _ (by have := hb; have := low_len b; omega)))
  · exact o_as 9 (fun _ => (.int .i64 (IntKind.i64.wrap (((lenN (b % 16777216) : Nat) : Int) + (8 * (((b / 16777216 : Nat) : Int) - 3)))))) (fun _ => (.int .i64 (((lenN (b % 16777216) : Nat) : Int) + (8 * (((b / 16777216 : Nat) : Int) - 3))))) (fun _ _ => by as_aux_lemma => kernel_rfl) (fun _ => congrArg (Value.int .i64) (IntWalk.i64_in _ (by have := hb; have := low_len b; omega)))
  · exact o_run 10 [] [] (fun _ _ => []) (fun _ _ => by as_aux_lemma => kernel_rfl)
  · exact o_run 11 [] [] (fun _ _ => []) (fun _ _ => by as_aux_lemma => kernel_rfl)
theorem rexpand_w_r17 (b : Nat) (ρ1 : Nat → Orc) (ρ2 : Nat → Orc) (ρ5 : Nat → Orc) (w0 : World) : Reg Try.prog 8 (regOps Try.f33 8) false 48 [(2, (.pointer (some ⟨nb ρ1 0, 0, none⟩))), (3, (.int .i64 0)), (4, (.int .i64 ((b / 16777216 : Nat) : Int))), (5, (.pointer (some ⟨nb ρ2 7, 0, none⟩))), (6, (.pointer (some ⟨nb ρ5 1, 0, none⟩))), (37, (.bool true))] w0 [(nb ρ1 0, (.cells (cU 0) 24 (0, 0))), (nb ρ2 7, (.cells (cU (b % 16777216)) 24 (0, 0))), (nb ρ5 1, (.cells (cU (b % 16777216)) 24 (0, 0)))] (fun _ => True)
    (fun _ => [(2, (.pointer (some ⟨nb ρ1 0, 0, none⟩))), (3, (.int .i64 120)), (4, (.int .i64 ((b / 16777216 : Nat) : Int))), (5, (.pointer (some ⟨nb ρ2 7, 0, none⟩))), (6, (.pointer (some ⟨nb ρ5 1, 0, none⟩)))])
    (fun _ => [(nb ρ1 0, (.cells (cU 0) 24 (0, 0))), (nb ρ2 7, (.cells (cU (b % 16777216)) 24 (0, 0))), (nb ρ5 1, (.cells (cU (b % 16777216)) 24 (0, 0)))]) := by
  refine reg_seq [0, 1, 3] [2, 3, 4, 5, 6] 3
    (fun _ ι => ([(U 0), undef, (.int .i64 120)] : List Value).getD ι undef)
    (fun _ ι => ([{}, { puts := [(0, (.cells (cU 0) 24 (0, 0)))] }, {}] : List Eff).getD ι {})
    (by as_aux_lemma => kernel_rfl) (by as_aux_lemma => kernel_rfl) (fun _ => by as_aux_lemma => kernel_rfl) (fun _ => by as_aux_lemma => kernel_rfl) ⟨⟨⟨trivial, ?_⟩, ?_⟩, ?_⟩
  · exact o_run 0 [] [] (fun _ _ => []) (fun _ _ => by as_aux_lemma => kernel_rfl)
  · exact o_run 1 [0] [] (fun _ _ => [nb ρ1 0, nb ρ1 0, nb ρ1 0, nb ρ1 0]) (fun _ _ => by as_aux_lemma => kernel_rfl)
  · exact o_run 2 [] [] (fun _ _ => []) (fun _ _ => by as_aux_lemma => kernel_rfl)
theorem rexpand_w_r18 (b : Nat) (hb : b < 4294967296) (ρ1 : Nat → Orc) (ρ2 : Nat → Orc) (ρ5 : Nat → Orc) (w0 : World) : Reg Try.prog 9 (regOps Try.f33 9) false 48 [(2, (.pointer (some ⟨nb ρ1 0, 0, none⟩))), (3, (.int .i64 0)), (4, (.int .i64 ((b / 16777216 : Nat) : Int))), (5, (.pointer (some ⟨nb ρ2 7, 0, none⟩))), (6, (.pointer (some ⟨nb ρ5 1, 0, none⟩))), (37, (.bool false))] w0 [(nb ρ1 0, (.cells (cU 0) 24 (0, 0))), (nb ρ2 7, (.cells (cU (b % 16777216)) 24 (0, 0))), (nb ρ5 1, (.cells (cU (b % 16777216)) 24 (0, 0)))] (fun _ => True)
    (fun _ => [(2, (.pointer (some ⟨nb ρ1 0, 0, none⟩))), (3, (.int .i64 0)), (6, (.pointer (some ⟨nb ρ5 1, 0, none⟩)))])
    (fun _ => [(nb ρ1 0, (.cells (cU 0) 24 (0, 0))), (nb ρ2 7, (.cells (cU (b % 16777216)) 24 (0, 0))), (nb ρ5 1, (.cells (cU (shlZ (b % 16777216) (8 * (((b / 16777216 : Nat) : Int) - 3)))) 24 (0, 0)))]) := by
  refine reg_seq [0, 1, 3, 7, 15, 31] [2, 3, 6] 6
    (fun _ ι => ([(U (b % 16777216)), (.int .i64 ((b / 16777216 : Nat) : Int)), (.int .i64 (((b / 16777216 : Nat) : Int) - 3)), (.int .i64 (8 * (((b / 16777216 : Nat) : Int) - 3))), (U (shlZ (b % 16777216) (8 * (((b / 16777216 : Nat) : Int) - 3)))), undef] : List Value).getD ι undef)
    (fun _ ι => ([{}, {}, {}, {}, {}, { puts := [(2, (.cells (cU (shlZ (b % 16777216) (8 * (((b / 16777216 : Nat) : Int) - 3)))) 24 (0, 0)))] }] : List Eff).getD ι {})
    (by as_aux_lemma => kernel_rfl) (by as_aux_lemma => kernel_rfl) (fun _ => by as_aux_lemma => kernel_rfl) (fun _ => by as_aux_lemma => kernel_rfl) ⟨⟨⟨⟨⟨⟨trivial, ?_⟩, ?_⟩, ?_⟩, ?_⟩, ?_⟩, ?_⟩
  · exact o_run 0 [1] [] (fun _ _ => [nb ρ2 7, nb ρ2 7, nb ρ2 7, nb ρ2 7]) (fun _ _ => by as_aux_lemma => kernel_rfl)
  · exact o_run 1 [] [] (fun _ _ => []) (fun _ _ => by as_aux_lemma => kernel_rfl)
  · exact o_as 2 (fun _ => (.int .i64 (IntKind.i64.wrap (((b / 16777216 : Nat) : Int) - 3)))) (fun _ => (.int .i64 (((b / 16777216 : Nat) : Int) - 3))) (fun _ _ => by as_aux_lemma => kernel_rfl) (fun _ => congrArg (Value.int .i64) (IntWalk.i64_in _ (by have := hb; have := low_len b; omega)))
  · exact o_as 3 (fun _ => (.int .i64 (IntKind.i64.wrap (8 * (((b / 16777216 : Nat) : Int) - 3))))) (fun _ => (.int .i64 (8 * (((b / 16777216 : Nat) : Int) - 3)))) (fun _ _ => by as_aux_lemma => kernel_rfl) (fun _ => congrArg (Value.int .i64) (IntWalk.i64_in _ (by have := hb; have := low_len b; omega)))
  · exact o_call 4 71 (fun _ => #[(U (b % 16777216)), (.int .i64 (8 * (((b / 16777216 : Nat) : Int) - 3)))]) (fun _ => (U (shlZ (b % 16777216) (8 * (((b / 16777216 : Nat) : Int) - 3))))) (fun _ _ => by as_aux_lemma => kernel_rfl) (fun _ w => (fun w => rshl_any (b % 16777216) (8 * (((b / 16777216 : Nat) : Int) - 3)) w (low_lt b)) w)
  · exact o_run 5 [2] [] (fun _ _ => [nb ρ5 1, nb ρ5 1, nb ρ5 1, nb ρ5 1]) (fun _ _ => by as_aux_lemma => kernel_rfl)
theorem rexpand_w_r19 (b : Nat) (ρ1 : Nat → Orc) (ρ2 : Nat → Orc) (ρ5 : Nat → Orc) (w0 : World) : Reg Try.prog 10 (regOps Try.f33 10) false 48 [(2, (.pointer (some ⟨nb ρ1 0, 0, none⟩))), (3, (.int .i64 0)), (6, (.pointer (some ⟨nb ρ5 1, 0, none⟩)))] w0 [(nb ρ1 0, (.cells (cU 0) 24 (0, 0))), (nb ρ2 7, (.cells (cU (b % 16777216)) 24 (0, 0))), (nb ρ5 1, (.cells (cU (shlZ (b % 16777216) (8 * (((b / 16777216 : Nat) : Int) - 3)))) 24 (0, 0)))] (fun _ => True)
    (fun _ => [(2, (.pointer (some ⟨nb ρ1 0, 0, none⟩))), (3, (.int .i64 0)), (6, (.pointer (some ⟨nb ρ5 1, 0, none⟩))), (45, (.bool (decide (shlZ (b % 16777216) (8 * (((b / 16777216 : Nat) : Int) - 3)) = 0))))])
    (fun _ => [(nb ρ1 0, (.cells (cU 0) 24 (0, 0))), (nb ρ2 7, (.cells (cU (b % 16777216)) 24 (0, 0))), (nb ρ5 1, (.cells (cU (shlZ (b % 16777216) (8 * (((b / 16777216 : Nat) : Int) - 3)))) 24 (0, 0)))]) := by
  refine reg_seq [0, 1] [2, 3, 6, 45] 2
    (fun _ ι => ([(U (shlZ (b % 16777216) (8 * (((b / 16777216 : Nat) : Int) - 3)))), (.bool (decide (shlZ (b % 16777216) (8 * (((b / 16777216 : Nat) : Int) - 3)) = 0)))] : List Value).getD ι undef)
    (fun _ ι => ([{}, {}] : List Eff).getD ι {})
    (by as_aux_lemma => kernel_rfl) (by as_aux_lemma => kernel_rfl) (fun _ => by as_aux_lemma => kernel_rfl) (fun _ => by as_aux_lemma => kernel_rfl) ⟨⟨trivial, ?_⟩, ?_⟩
  · exact o_run 0 [2] [] (fun _ _ => [nb ρ5 1, nb ρ5 1, nb ρ5 1, nb ρ5 1]) (fun _ _ => by as_aux_lemma => kernel_rfl)
  · exact o_call 1 61 (fun _ => #[(U (shlZ (b % 16777216) (8 * (((b / 16777216 : Nat) : Int) - 3))))]) (fun _ => (.bool (decide (shlZ (b % 16777216) (8 * (((b / 16777216 : Nat) : Int) - 3)) = 0)))) (fun _ _ => by as_aux_lemma => kernel_rfl) (fun _ w => (fun w => rzero_any (shlZ (b % 16777216) (8 * (((b / 16777216 : Nat) : Int) - 3))) w (shlZ_lt _ (low_lt b))) w)
theorem rexpand_w_r20 (b : Nat) (ρ1 : Nat → Orc) (ρ2 : Nat → Orc) (ρ5 : Nat → Orc) (w0 : World) : Reg Try.prog 11 (regOps Try.f33 11) false 48 [(2, (.pointer (some ⟨nb ρ1 0, 0, none⟩))), (3, (.int .i64 0)), (6, (.pointer (some ⟨nb ρ5 1, 0, none⟩))), (45, (.bool true))] w0 [(nb ρ1 0, (.cells (cU 0) 24 (0, 0))), (nb ρ2 7, (.cells (cU (b % 16777216)) 24 (0, 0))), (nb ρ5 1, (.cells (cU (shlZ (b % 16777216) (8 * (((b / 16777216 : Nat) : Int) - 3)))) 24 (0, 0)))] (fun _ => True)
    (fun _ => [(2, (.pointer (some ⟨nb ρ1 0, 0, none⟩))), (3, (.int .i64 120)), (6, (.pointer (some ⟨nb ρ5 1, 0, none⟩)))])
    (fun _ => [(nb ρ1 0, (.cells (cU 0) 24 (0, 0))), (nb ρ2 7, (.cells (cU (b % 16777216)) 24 (0, 0))), (nb ρ5 1, (.cells (cU (shlZ (b % 16777216) (8 * (((b / 16777216 : Nat) : Int) - 3)))) 24 (0, 0)))]) := by
  refine reg_seq [0, 1, 3] [2, 3, 6] 3
    (fun _ ι => ([(U 0), undef, (.int .i64 120)] : List Value).getD ι undef)
    (fun _ ι => ([{}, { puts := [(0, (.cells (cU 0) 24 (0, 0)))] }, {}] : List Eff).getD ι {})
    (by as_aux_lemma => kernel_rfl) (by as_aux_lemma => kernel_rfl) (fun _ => by as_aux_lemma => kernel_rfl) (fun _ => by as_aux_lemma => kernel_rfl) ⟨⟨⟨trivial, ?_⟩, ?_⟩, ?_⟩
  · exact o_run 0 [] [] (fun _ _ => []) (fun _ _ => by as_aux_lemma => kernel_rfl)
  · exact o_run 1 [0] [] (fun _ _ => [nb ρ1 0, nb ρ1 0, nb ρ1 0, nb ρ1 0]) (fun _ _ => by as_aux_lemma => kernel_rfl)
  · exact o_run 2 [] [] (fun _ _ => []) (fun _ _ => by as_aux_lemma => kernel_rfl)
theorem rexpand_w_r21 (b : Nat) (ρ1 : Nat → Orc) (ρ2 : Nat → Orc) (ρ5 : Nat → Orc) (w0 : World) : Reg Try.prog 12 (regOps Try.f33 12) false 48 [(2, (.pointer (some ⟨nb ρ1 0, 0, none⟩))), (3, (.int .i64 0)), (6, (.pointer (some ⟨nb ρ5 1, 0, none⟩))), (45, (.bool false))] w0 [(nb ρ1 0, (.cells (cU 0) 24 (0, 0))), (nb ρ2 7, (.cells (cU (b % 16777216)) 24 (0, 0))), (nb ρ5 1, (.cells (cU (shlZ (b % 16777216) (8 * (((b / 16777216 : Nat) : Int) - 3)))) 24 (0, 0)))] (fun _ => True)
    (fun _ => [(2, (.pointer (some ⟨nb ρ1 0, 0, none⟩))), (3, (.int .i64 0))])
    (fun _ => [(nb ρ1 0, (.cells (cU (shlZ (b % 16777216) (8 * (((b / 16777216 : Nat) : Int) - 3)))) 24 (0, 0))), (nb ρ2 7, (.cells (cU (b % 16777216)) 24 (0, 0))), (nb ρ5 1, (.cells (cU (shlZ (b % 16777216) (8 * (((b / 16777216 : Nat) : Int) - 3)))) 24 (0, 0)))]) := by
  refine reg_seq [0, 1, 3] [2, 3] 3
    (fun _ ι => ([(U (shlZ (b % 16777216) (8 * (((b / 16777216 : Nat) : Int) - 3)))), undef, (.int .i64 0)] : List Value).getD ι undef)
    (fun _ ι => ([{}, { puts := [(0, (.cells (cU (shlZ (b % 16777216) (8 * (((b / 16777216 : Nat) : Int) - 3)))) 24 (0, 0)))] }, {}] : List Eff).getD ι {})
    (by as_aux_lemma => kernel_rfl) (by as_aux_lemma => kernel_rfl) (fun _ => by as_aux_lemma => kernel_rfl) (fun _ => by as_aux_lemma => kernel_rfl) ⟨⟨⟨trivial, ?_⟩, ?_⟩, ?_⟩
  · exact o_run 0 [2] [] (fun _ _ => [nb ρ5 1, nb ρ5 1, nb ρ5 1, nb ρ5 1]) (fun _ _ => by as_aux_lemma => kernel_rfl)
  · exact o_run 1 [0] [] (fun _ _ => [nb ρ1 0, nb ρ1 0, nb ρ1 0, nb ρ1 0]) (fun _ _ => by as_aux_lemma => kernel_rfl)
  · exact o_run 2 [] [] (fun _ _ => []) (fun _ _ => by as_aux_lemma => kernel_rfl)
theorem rexpand_w (b : Nat) (hb : b < 4294967296) (w0 : World) : Calls Try.prog 33 #[(.int .u32 ((b : Nat) : Int))] w0 (fun ε w' => ε = .returned (.tuple #[(U (expV b)), (.int .i64 (expE b))]) ∧ Below w0.heap.size w0 w') := by
  refine Calls.of_ok (n := 48) (F := fun _ => True) Try.func33 rfl rfl rfl (by simp) (persTrue (fun _ => trivial)) ?_
  refine ok_seq_r (by as_aux_lemma => kernel_rfl) (rexpand_w_r1 b _) (fun ρ1 => ?_)
  refine ok_seq_r (by as_aux_lemma => kernel_rfl) (rexpand_w_r2 b hb ρ1 _) (fun ρ2 => ?_)
  refine ok_seq ?_
  refine ok_seq_r (by as_aux_lemma => kernel_rfl) (rexpand_w_r3 b hb ρ1 ρ2 _) (fun _ => ?_)
  refine ok_cond (b := sgnB b) (by as_aux_lemma => kernel_rfl) (fun hb1 => ?_) (fun hb1 => ?_)
  ·
    rw [hb1]
    refine ok_seq_r (by as_aux_lemma => kernel_rfl) (rexpand_w_r4 b ρ1 ρ2 _) (fun _ => ?_)
    refine ok_ret ?_
    refine mt_then_r ?_
    exact meets_ret (v := (.tuple #[(U 0), (.int .i64 120)])) [0, 0, 0, 0] (dup [nb ρ1 0, nb ρ1 0, nb ρ1 0, nb ρ1 0]) (by as_aux_lemma => kernel_rfl) (by as_aux_lemma => kernel_rfl) (eqs_dup _) (fun _ hS => ⟨exp_no (exp_n1 hb1), hS.below⟩)
  ·
    rw [hb1]
    refine ok_skip ?_
    refine mt_then ?_
    refine ok_seq_r (by as_aux_lemma => kernel_rfl) (rexpand_w_r5 b ρ1 ρ2 _) (fun ρ5 => ?_)
    refine ok_seq ?_
    refine ok_seq_r (by as_aux_lemma => kernel_rfl) (rexpand_w_r6 b ρ1 ρ2 ρ5 _) (fun _ => ?_)
    refine ok_cond (b := decide (((b / 16777216 : Nat) : Int) < 3)) (by as_aux_lemma => kernel_rfl) (fun hb2 => ?_) (fun hb2 => ?_)
    ·
      rw [hb2]
      refine ok_r (by as_aux_lemma => kernel_rfl) (rexpand_w_r7 b hb ρ1 ρ2 ρ5 _) (fun _ => ?_)
      refine mt_then ?_
      refine ok_seq ?_
      refine ok_seq_r (by as_aux_lemma => kernel_rfl) (rexpand_w_r8 b ρ1 ρ2 ρ5 _) (fun _ => ?_)
      refine ok_cond (b := decide (shrZ (b % 16777216) (8 * (3 - ((b / 16777216 : Nat) : Int))) = 0)) (by as_aux_lemma => kernel_rfl) (fun hb3 => ?_) (fun hb3 => ?_)
      ·
        rw [hb3]
        refine ok_seq_r (by as_aux_lemma => kernel_rfl) (rexpand_w_r9 b ρ1 ρ2 ρ5 _) (fun _ => ?_)
        refine ok_ret ?_
        refine mt_then_r ?_
        exact meets_ret (v := (.tuple #[(U 0), (.int .i64 120)])) [0, 0, 0, 0] (dup [nb ρ1 0, nb ρ1 0, nb ρ1 0, nb ρ1 0]) (by as_aux_lemma => kernel_rfl) (by as_aux_lemma => kernel_rfl) (eqs_dup _) (fun _ hS => ⟨exp_no (exp_n3 (by rw [← shf_small hb2]; exact hb3)), hS.below⟩)
      ·
        rw [hb3]
        refine ok_skip ?_
        refine mt_then ?_
        refine ok_seq_r (by as_aux_lemma => kernel_rfl) (rexpand_w_r10 b ρ1 ρ2 ρ5 _) (fun _ => ?_)
        refine ok_ret ?_
        exact meets_ret (v := (.tuple #[(U (shrZ (b % 16777216) (8 * (3 - ((b / 16777216 : Nat) : Int))))), (.int .i64 0)])) [0, 0, 0, 0] (dup [nb ρ1 0, nb ρ1 0, nb ρ1 0, nb ρ1 0]) (by as_aux_lemma => kernel_rfl) (by as_aux_lemma => kernel_rfl) (eqs_dup _) (fun _ hS => ⟨exp_yes (exp_y hb1 (small_len hb2) (by rw [← shf_small hb2]; exact hb3)) (shf_small hb2), hS.below⟩)
    ·
      rw [hb2]
      refine ok_seq ?_
      rcases Bool.eq_false_or_eq_true (decide (b % 16777216 = 0)) with hb4 | hb4
      ·
        refine ok_seq_r (by as_aux_lemma => kernel_rfl) (rexpand_w_r11 b hb4 ρ1 ρ2 ρ5 _) (fun _ => ?_)
        refine ok_no (by as_aux_lemma => kernel_rfl) ?_
        refine ok_skip ?_
        refine mt_then ?_
        refine ok_r (by as_aux_lemma => kernel_rfl) (rexpand_w_r12 b hb ρ1 ρ2 ρ5 _) (fun _ => ?_)
        refine mt_then ?_
        refine ok_seq ?_
        refine ok_seq_r (by as_aux_lemma => kernel_rfl) (rexpand_w_r13 b ρ1 ρ2 ρ5 _) (fun _ => ?_)
        refine ok_cond (b := decide (shlZ (b % 16777216) (8 * (((b / 16777216 : Nat) : Int) - 3)) = 0)) (by as_aux_lemma => kernel_rfl) (fun hb5 => ?_) (fun hb5 => ?_)
        ·
          rw [hb5]
          refine ok_seq_r (by as_aux_lemma => kernel_rfl) (rexpand_w_r14 b ρ1 ρ2 ρ5 _) (fun _ => ?_)
          refine ok_ret ?_
          refine mt_then_r ?_
          exact meets_ret (v := (.tuple #[(U 0), (.int .i64 120)])) [0, 0, 0, 0] (dup [nb ρ1 0, nb ρ1 0, nb ρ1 0, nb ρ1 0]) (by as_aux_lemma => kernel_rfl) (by as_aux_lemma => kernel_rfl) (eqs_dup _) (fun _ hS => ⟨exp_no (exp_n3 (by rw [← shf_big hb2]; exact hb5)), hS.below⟩)
        ·
          rw [hb5]
          refine ok_skip ?_
          refine mt_then ?_
          refine ok_seq_r (by as_aux_lemma => kernel_rfl) (rexpand_w_r15 b ρ1 ρ2 ρ5 _) (fun _ => ?_)
          refine ok_ret ?_
          exact meets_ret (v := (.tuple #[(U (shlZ (b % 16777216) (8 * (((b / 16777216 : Nat) : Int) - 3)))), (.int .i64 0)])) [0, 0, 0, 0] (dup [nb ρ1 0, nb ρ1 0, nb ρ1 0, nb ρ1 0]) (by as_aux_lemma => kernel_rfl) (by as_aux_lemma => kernel_rfl) (eqs_dup _) (fun _ hS => ⟨(zero_abs hb4 hb5).elim, hS.below⟩)
      ·
        refine ok_seq_r (by as_aux_lemma => kernel_rfl) (rexpand_w_r16 b hb hb4 ρ1 ρ2 ρ5 _) (fun _ => ?_)
        refine ok_cond (b := decide (256 < (((lenN (b % 16777216) : Nat) : Int) + (8 * (((b / 16777216 : Nat) : Int) - 3))))) (by as_aux_lemma => kernel_rfl) (fun hb6 => ?_) (fun hb6 => ?_)
        ·
          rw [hb6]
          refine ok_seq_r (by as_aux_lemma => kernel_rfl) (rexpand_w_r17 b ρ1 ρ2 ρ5 _) (fun _ => ?_)
          refine ok_ret ?_
          refine mt_then_r ?_
          refine mt_then_r ?_
          exact meets_ret (v := (.tuple #[(U 0), (.int .i64 120)])) [0, 0, 0, 0] (dup [nb ρ1 0, nb ρ1 0, nb ρ1 0, nb ρ1 0]) (by as_aux_lemma => kernel_rfl) (by as_aux_lemma => kernel_rfl) (eqs_dup _) (fun _ hS => ⟨exp_no (exp_n2 hb6), hS.below⟩)
        ·
          rw [hb6]
          refine ok_skip ?_
          refine mt_then ?_
          refine ok_r (by as_aux_lemma => kernel_rfl) (rexpand_w_r18 b hb ρ1 ρ2 ρ5 _) (fun _ => ?_)
          refine mt_then ?_
          refine ok_seq ?_
          refine ok_seq_r (by as_aux_lemma => kernel_rfl) (rexpand_w_r19 b ρ1 ρ2 ρ5 _) (fun _ => ?_)
          refine ok_cond (b := decide (shlZ (b % 16777216) (8 * (((b / 16777216 : Nat) : Int) - 3)) = 0)) (by as_aux_lemma => kernel_rfl) (fun hb7 => ?_) (fun hb7 => ?_)
          ·
            rw [hb7]
            refine ok_seq_r (by as_aux_lemma => kernel_rfl) (rexpand_w_r20 b ρ1 ρ2 ρ5 _) (fun _ => ?_)
            refine ok_ret ?_
            refine mt_then_r ?_
            exact meets_ret (v := (.tuple #[(U 0), (.int .i64 120)])) [0, 0, 0, 0] (dup [nb ρ1 0, nb ρ1 0, nb ρ1 0, nb ρ1 0]) (by as_aux_lemma => kernel_rfl) (by as_aux_lemma => kernel_rfl) (eqs_dup _) (fun _ hS => ⟨exp_no (exp_n3 (by rw [← shf_big hb2]; exact hb7)), hS.below⟩)
          ·
            rw [hb7]
            refine ok_skip ?_
            refine mt_then ?_
            refine ok_seq_r (by as_aux_lemma => kernel_rfl) (rexpand_w_r21 b ρ1 ρ2 ρ5 _) (fun _ => ?_)
            refine ok_ret ?_
            exact meets_ret (v := (.tuple #[(U (shlZ (b % 16777216) (8 * (((b / 16777216 : Nat) : Int) - 3)))), (.int .i64 0)])) [0, 0, 0, 0] (dup [nb ρ1 0, nb ρ1 0, nb ρ1 0, nb ρ1 0]) (by as_aux_lemma => kernel_rfl) (by as_aux_lemma => kernel_rfl) (eqs_dup _) (fun _ hS => ⟨exp_yes (exp_y hb1 hb6 (by rw [← shf_big hb2]; exact hb7)) (shf_big hb2), hS.below⟩)
theorem rexpand_any (b : Nat) (w0 : World) (hb : b < 4294967296) : Calls Try.prog 33 #[(.int .u32 ((b : Nat) : Int))] w0 (fun ε w' => ε = .returned (.tuple #[(U (expV b)), (.int .i64 (expE b))]) ∧ Below w0.heap.size w0 w') := rexpand_w b hb w0
theorem compact_w_r1 (t : Nat) (w0 : World) : Reg Try.prog 0 (regOps Try.f35 0) false 24 [(0, (U t))] w0 [] (fun _ => True)
    (fun ρ => [(1, (.pointer (some ⟨nb ρ 0, 0, none⟩))), (2, (.int .u32 0))])
    (fun ρ => [(nb ρ 0, (.cells (cU t) 24 (0, 0)))]) := by
  refine reg_seq [0, 1] [1, 2] 2
    (fun ρ ι => ([(.pointer (some ⟨nb ρ 0, 0, none⟩)), (.int .u32 0)] : List Value).getD ι undef)
    (fun ρ ι => ([{ news := [(nb ρ 0, (.cells (cU t) 24 (0, 0)))] }, {}] : List Eff).getD ι {})
    (by as_aux_lemma => kernel_rfl) (by as_aux_lemma => kernel_rfl) (fun _ => by as_aux_lemma => kernel_rfl) (fun _ => by as_aux_lemma => kernel_rfl) ⟨⟨trivial, ?_⟩, ?_⟩
  · exact o_run 0 [] [] (fun _ _ => []) (fun _ _ => by as_aux_lemma => kernel_rfl)
  · exact o_run 1 [] [] (fun _ _ => []) (fun _ _ => by as_aux_lemma => kernel_rfl)
theorem compact_w_r2 (t : Nat) (ht : t < M) (ρ1 : Nat → Orc) (w0 : World) : Reg Try.prog 1 (regOps Try.f35 1) false 24 [(1, (.pointer (some ⟨nb ρ1 0, 0, none⟩))), (2, (.int .u32 0))] w0 [(nb ρ1 0, (.cells (cU t) 24 (0, 0)))] (fun _ => True)
    (fun _ => [(1, (.pointer (some ⟨nb ρ1 0, 0, none⟩))), (2, (.int .u32 0)), (7, (.bool (decide (t = 0))))])
    (fun _ => [(nb ρ1 0, (.cells (cU t) 24 (0, 0)))]) := by
  refine reg_seq [0, 1, 3] [1, 2, 7] 3
    (fun _ ι => ([(U t), (U 0), (.bool (decide (t = 0)))] : List Value).getD ι undef)
    (fun _ ι => ([{}, {}, {}] : List Eff).getD ι {})
    (by as_aux_lemma => kernel_rfl) (by as_aux_lemma => kernel_rfl) (fun _ => by as_aux_lemma => kernel_rfl) (fun _ => by as_aux_lemma => kernel_rfl) ⟨⟨⟨trivial, ?_⟩, ?_⟩, ?_⟩
  · exact o_run 0 [0] [] (fun _ _ => [nb ρ1 0, nb ρ1 0, nb ρ1 0, nb ρ1 0]) (fun _ _ => by as_aux_lemma => kernel_rfl)
  · exact o_run 1 [] [] (fun _ _ => []) (fun _ _ => by as_aux_lemma => kernel_rfl)
  · exact o_bin 2 .eql 24 (fun _ => (U t)) (fun _ => (U 0)) (fun _ => (.bool (decide (t = 0)))) (fun _ => by as_aux_lemma => kernel_rfl) (fun _ _ _ _ => by as_aux_lemma => kernel_rfl) (fun _ _ => eqlU t 0 ht (by decide +kernel) _)
theorem compact_w_r3 (t : Nat) (ρ1 : Nat → Orc) (w0 : World) : Reg Try.prog 2 (regOps Try.f35 2) false 24 [(1, (.pointer (some ⟨nb ρ1 0, 0, none⟩))), (2, (.int .u32 0)), (7, (.bool true))] w0 [(nb ρ1 0, (.cells (cU t) 24 (0, 0)))] (fun _ => True)
    (fun _ => [(1, (.pointer (some ⟨nb ρ1 0, 0, none⟩))), (2, (.int .u32 0))])
    (fun _ => [(nb ρ1 0, (.cells (cU t) 24 (0, 0)))]) := by
  refine reg_seq [0] [1, 2] 1
    (fun _ ι => ([(.int .u32 0)] : List Value).getD ι undef)
    (fun _ ι => ([{}] : List Eff).getD ι {})
    (by as_aux_lemma => kernel_rfl) (by as_aux_lemma => kernel_rfl) (fun _ => by as_aux_lemma => kernel_rfl) (fun _ => by as_aux_lemma => kernel_rfl) ⟨trivial, ?_⟩
  · exact o_run 0 [] [] (fun _ _ => []) (fun _ _ => by as_aux_lemma => kernel_rfl)
theorem compact_w_r4 (t : Nat) (ht : t < M) (ρ1 : Nat → Orc) (w0 : World) : Reg Try.prog 3 (regOps Try.f35 3) false 24 [(1, (.pointer (some ⟨nb ρ1 0, 0, none⟩))), (2, (.int .u32 0)), (7, (.bool false))] w0 [(nb ρ1 0, (.cells (cU t) 24 (0, 0)))] (fun _ => True)
    (fun _ => [(1, (.pointer (some ⟨nb ρ1 0, 0, none⟩))), (2, (.int .u32 0)), (3, (.int .i64 ((compX t : Nat) : Int)))])
    (fun _ => [(nb ρ1 0, (.cells (cU t) 24 (0, 0)))]) := by
  refine reg_seq [0, 1, 3, 7, 15] [1, 2, 3] 5
    (fun _ ι => ([(U t), (.int .i64 ((lenN t : Nat) : Int)), (.int .i64 (((lenN t : Nat) : Int) + 8)), (.int .i64 ((compX t : Nat) : Int)), (.int .i64 ((compX t : Nat) : Int))] : List Value).getD ι undef)
    (fun _ ι => ([{}, {}, {}, {}, {}] : List Eff).getD ι {})
    (by as_aux_lemma => kernel_rfl) (by as_aux_lemma => kernel_rfl) (fun _ => by as_aux_lemma => kernel_rfl) (fun _ => by as_aux_lemma => kernel_rfl) ⟨⟨⟨⟨⟨trivial, ?_⟩, ?_⟩, ?_⟩, ?_⟩, ?_⟩
  · exact o_run 0 [0] [] (fun _ _ => [nb ρ1 0, nb ρ1 0, nb ρ1 0, nb ρ1 0]) (fun _ _ => by as_aux_lemma => kernel_rfl)
  · exact o_call 1 66 (fun _ => #[(U t)]) (fun _ => (.int .i64 ((lenN t : Nat) : Int))) (fun _ _ => by as_aux_lemma => kernel_rfl) (fun _ w => (fun w => len_any t w ht) w)
  · exact o_as 2 (fun _ => (.int .i64 (IntKind.i64.wrap (((lenN t : Nat) : Int) + 8)))) (fun _ => (.int .i64 (((lenN t : Nat) : Int) + 8))) (fun _ _ => by as_aux_lemma => kernel_rfl) (fun _ => congrArg (Value.int .i64) (IntWalk.i64_in _ (by have := lenN_le t ht; have := compX_lt ht; omega)))
  · exact o_bin 3 .quo 3 (fun _ => (.int .i64 (((lenN t : Nat) : Int) + 8))) (fun _ => (.int .i64 8)) (fun _ => (.int .i64 ((compX t : Nat) : Int))) (fun _ => by as_aux_lemma => kernel_rfl) (fun _ _ _ _ => by as_aux_lemma => kernel_rfl) (fun _ w => run_quo_x _ (lenN t + 8) 8 (compX t) (by omega) (by decide) (by have := lenN_le t ht; omega) rfl w)
  · exact o_run 4 [] [] (fun _ _ => []) (fun _ _ => by as_aux_lemma => kernel_rfl)
theorem compact_w_r5 (t : Nat) (ht : t < M) (ρ1 : Nat → Orc) (w0 : World) : Reg Try.prog 4 (regOps Try.f35 4) false 24 [(1, (.pointer (some ⟨nb ρ1 0, 0, none⟩))), (2, (.int .u32 0)), (3, (.int .i64 ((compX t : Nat) : Int)))] w0 [(nb ρ1 0, (.cells (cU t) 24 (0, 0)))] (fun _ => True)
    (fun ρ => [(2, (.int .u32 0)), (3, (.int .i64 ((compX t : Nat) : Int))), (4, (.pointer (some ⟨nb ρ 5, 0, none⟩)))])
    (fun ρ => [(nb ρ1 0, (.cells (cU t) 24 (0, 0))), (nb ρ 5, (.cells (cU (shfZ t (8 * (3 - ((compX t : Nat) : Int))))) 24 (0, 0)))]) := by
  refine reg_seq [0, 1, 3, 7, 15, 31, 63] [2, 3, 4] 7
    (fun ρ ι => ([(U t), (.int .i64 ((compX t : Nat) : Int)), (.int .i64 (3 - ((compX t : Nat) : Int))), (.int .i64 (8 * (3 - ((compX t : Nat) : Int)))), (U (shfZ t (8 * (3 - ((compX t : Nat) : Int))))), (.pointer (some ⟨nb ρ 5, 0, none⟩)), undef] : List Value).getD ι undef)
    (fun ρ ι => ([{}, {}, {}, {}, {}, { news := [(nb ρ 5, (.cells (cU 0) 24 (0, 0)))] }, { puts := [(41, (.cells (cU (shfZ t (8 * (3 - ((compX t : Nat) : Int))))) 24 (0, 0)))] }] : List Eff).getD ι {})
    (by as_aux_lemma => kernel_rfl) (by as_aux_lemma => kernel_rfl) (fun _ => by as_aux_lemma => kernel_rfl) (fun _ => by as_aux_lemma => kernel_rfl) ⟨⟨⟨⟨⟨⟨⟨trivial, ?_⟩, ?_⟩, ?_⟩, ?_⟩, ?_⟩, ?_⟩, ?_⟩
  · exact o_run 0 [0] [] (fun _ _ => [nb ρ1 0, nb ρ1 0, nb ρ1 0, nb ρ1 0]) (fun _ _ => by as_aux_lemma => kernel_rfl)
  · exact o_run 1 [] [] (fun _ _ => []) (fun _ _ => by as_aux_lemma => kernel_rfl)
  · exact o_as 2 (fun _ => (.int .i64 (IntKind.i64.wrap (3 - ((compX t : Nat) : Int))))) (fun _ => (.int .i64 (3 - ((compX t : Nat) : Int)))) (fun _ _ => by as_aux_lemma => kernel_rfl) (fun _ => congrArg (Value.int .i64) (IntWalk.i64_in _ (by have := lenN_le t ht; have := compX_lt ht; omega)))
  · exact o_as 3 (fun _ => (.int .i64 (IntKind.i64.wrap (8 * (3 - ((compX t : Nat) : Int)))))) (fun _ => (.int .i64 (8 * (3 - ((compX t : Nat) : Int))))) (fun _ _ => by as_aux_lemma => kernel_rfl) (fun _ => congrArg (Value.int .i64) (IntWalk.i64_in _ (by have := lenN_le t ht; have := compX_lt ht; omega)))
  · exact o_call 4 69 (fun _ => #[(U t), (.int .i64 (8 * (3 - ((compX t : Nat) : Int))))]) (fun _ => (U (shfZ t (8 * (3 - ((compX t : Nat) : Int)))))) (fun _ _ => by as_aux_lemma => kernel_rfl) (fun _ w => (fun w => shifted_any t (8 * (3 - ((compX t : Nat) : Int))) w ht (by have := lenN_le t ht; have := compX_lt ht; omega)) w)
  · exact o_run 5 [] [] (fun _ _ => []) (fun _ _ => by as_aux_lemma => kernel_rfl)
  · exact o_run 6 [41] [] (fun ρ _ => [nb ρ 5, nb ρ 5, nb ρ 5, nb ρ 5]) (fun _ _ => by as_aux_lemma => kernel_rfl)
theorem compact_w_r6 (t : Nat) (ht : t < M) (hb1 : (decide (t = 0)) = false) (ρ1 : Nat → Orc) (ρ5 : Nat → Orc) (w0 : World) : Reg Try.prog 5 (regOps Try.f35 5) false 24 [(2, (.int .u32 0)), (3, (.int .i64 ((compX t : Nat) : Int))), (4, (.pointer (some ⟨nb ρ5 5, 0, none⟩)))] w0 [(nb ρ1 0, (.cells (cU t) 24 (0, 0))), (nb ρ5 5, (.cells (cU (shfZ t (8 * (3 - ((compX t : Nat) : Int))))) 24 (0, 0)))] (fun _ => True)
    (fun _ => [(2, (.int .u32 ((compX t * 16777216 + compM t : Nat) : Int)))])
    (fun _ => [(nb ρ1 0, (.cells (cU t) 24 (0, 0))), (nb ρ5 5, (.cells (cU (shfZ t (8 * (3 - ((compX t : Nat) : Int))))) 24 (0, 0)))]) := by
  refine reg_seq [0, 1, 3, 7, 15, 31, 63, 127] [2] 8
    (fun _ ι => ([(.int .i64 ((compX t : Nat) : Int)), (.int .u32 ((compX t : Nat) : Int)), (.int .u32 ((compX t * 16777216 : Nat) : Int)), (.pointer (some ⟨nb ρ5 5, 0, none⟩)), (.int .u64 (wd (shfZ t (8 * (3 - ((compX t : Nat) : Int)))) 0)), (.int .u32 ((compM t : Nat) : Int)), (.int .u32 ((compX t * 16777216 + compM t : Nat) : Int)), (.int .u32 ((compX t * 16777216 + compM t : Nat) : Int))] : List Value).getD ι undef)
    (fun _ ι => ([{}, {}, {}, {}, {}, {}, {}, {}] : List Eff).getD ι {})
    (by as_aux_lemma => kernel_rfl) (by as_aux_lemma => kernel_rfl) (fun _ => by as_aux_lemma => kernel_rfl) (fun _ => by as_aux_lemma => kernel_rfl) ⟨⟨⟨⟨⟨⟨⟨⟨trivial, ?_⟩, ?_⟩, ?_⟩, ?_⟩, ?_⟩, ?_⟩, ?_⟩, ?_⟩
  · exact o_run 0 [] [] (fun _ _ => []) (fun _ _ => by as_aux_lemma => kernel_rfl)
  · exact o_as 1 (fun _ => (.int .u32 (IntKind.u32.wrap (((compX t : Nat) : Int))))) (fun _ => (.int .u32 ((compX t : Nat) : Int))) (fun _ _ => by as_aux_lemma => kernel_rfl) (fun _ => congrArg (Value.int .u32) (u32_nat (by have := compX_lt ht; omega)))
  · exact o_bin 2 .shl 32 (fun _ => (.int .u32 ((compX t : Nat) : Int))) (fun _ => (.int .u64 24)) (fun _ => (.int .u32 ((compX t * 16777216 : Nat) : Int))) (fun _ => by as_aux_lemma => kernel_rfl) (fun _ _ _ _ => by as_aux_lemma => kernel_rfl) (fun _ w => run_shl24 (compX t) (compX_lt ht).1 w)
  · exact o_run 3 [] [] (fun _ _ => []) (fun _ _ => by as_aux_lemma => kernel_rfl)
  · exact o_run 4 [1] [] (fun _ _ => [nb ρ5 5]) (fun _ _ => by as_aux_lemma => kernel_rfl)
  · exact o_as 5 (fun _ => (.int .u32 (IntKind.u32.wrap (wd (shfZ t (8 * (3 - ((compX t : Nat) : Int)))) 0)))) (fun _ => (.int .u32 ((compM t : Nat) : Int))) (fun _ _ => by as_aux_lemma => kernel_rfl) (fun _ => congrArg (Value.int .u32) (comp_low hb1))
  · exact o_as 6 (fun _ => (.int .u32 (bits .or .u32 ((compX t * 16777216 : Nat) : Int) ((compM t : Nat) : Int)))) (fun _ => (.int .u32 ((compX t * 16777216 + compM t : Nat) : Int))) (fun _ _ => by as_aux_lemma => kernel_rfl) (fun _ => congrArg (Value.int .u32) (or24 (compX_lt ht).1 (by have := compM_lt (of_decide_eq_false hb1); omega)))
  · exact o_run 7 [] [] (fun _ _ => []) (fun _ _ => by as_aux_lemma => kernel_rfl)
theorem compact_w (t : Nat) (ht : t < M) (w0 : World) : Calls Try.prog 35 #[(U t)] w0 (fun ε w' => ε = .returned (.int .u32 ((compN t : Nat) : Int)) ∧ Below w0.heap.size w0 w') := by
  refine Calls.of_ok (n := 24) (F := fun _ => True) Try.func35 rfl rfl rfl (by simp) (persTrue (fun _ => trivial)) ?_
  refine ok_seq_r (by as_aux_lemma => kernel_rfl) (compact_w_r1 t _) (fun ρ1 => ?_)
  refine ok_seq ?_
  refine ok_seq_r (by as_aux_lemma => kernel_rfl) (compact_w_r2 t ht ρ1 _) (fun _ => ?_)
  refine ok_cond (b := decide (t = 0)) (by as_aux_lemma => kernel_rfl) (fun hb1 => ?_) (fun hb1 => ?_)
  ·
    rw [hb1]
    refine ok_seq_r (by as_aux_lemma => kernel_rfl) (compact_w_r3 t ρ1 _) (fun _ => ?_)
    refine ok_ret ?_
    refine mt_then_r ?_
    exact meets_ret (v := (.int .u32 0)) [] (dup []) (by as_aux_lemma => kernel_rfl) (by as_aux_lemma => kernel_rfl) (eqs_dup _) (fun _ hS => ⟨congrArg (fun x : Nat => Ending.returned (.int .u32 (x : Int))) (comp_fin0 hb1), hS.below⟩)
  ·
    rw [hb1]
    refine ok_skip ?_
    refine mt_then ?_
    refine ok_seq_r (by as_aux_lemma => kernel_rfl) (compact_w_r4 t ht ρ1 _) (fun _ => ?_)
    refine ok_seq_r (by as_aux_lemma => kernel_rfl) (compact_w_r5 t ht ρ1 _) (fun ρ5 => ?_)
    refine ok_seq_r (by as_aux_lemma => kernel_rfl) (compact_w_r6 t ht hb1 ρ1 ρ5 _) (fun _ => ?_)
    refine ok_ret ?_
    exact meets_ret (v := (.int .u32 ((compX t * 16777216 + compM t : Nat) : Int))) [] (dup []) (by as_aux_lemma => kernel_rfl) (by as_aux_lemma => kernel_rfl) (eqs_dup _) (fun _ hS => ⟨congrArg (fun x : Nat => Ending.returned (.int .u32 (x : Int))) (comp_fin1 hb1), hS.below⟩)
theorem compact_any (t : Nat) (w0 : World) (ht : t < M) : Calls Try.prog 35 #[(U t)] w0 (fun ε w' => ε = .returned (.int .u32 ((compN t : Nat) : Int)) ∧ Below w0.heap.size w0 w') := compact_w t ht w0
theorem rcompact_w_r1 (t : Nat) (w0 : World) : Reg Try.prog 0 (regOps Try.f36 0) false 40 [(0, (U t))] w0 [] (fun _ => True)
    (fun ρ => [(1, (.pointer (some ⟨nb ρ 0, 0, none⟩))), (2, (.int .u32 0))])
    (fun ρ => [(nb ρ 0, (.cells (cU t) 24 (0, 0)))]) := by
  refine reg_seq [0, 1] [1, 2] 2
    (fun ρ ι => ([(.pointer (some ⟨nb ρ 0, 0, none⟩)), (.int .u32 0)] : List Value).getD ι undef)
    (fun ρ ι => ([{ news := [(nb ρ 0, (.cells (cU t) 24 (0, 0)))] }, {}] : List Eff).getD ι {})
    (by as_aux_lemma => kernel_rfl) (by as_aux_lemma => kernel_rfl) (fun _ => by as_aux_lemma => kernel_rfl) (fun _ => by as_aux_lemma => kernel_rfl) ⟨⟨trivial, ?_⟩, ?_⟩
  · exact o_run 0 [] [] (fun _ _ => []) (fun _ _ => by as_aux_lemma => kernel_rfl)
  · exact o_run 1 [] [] (fun _ _ => []) (fun _ _ => by as_aux_lemma => kernel_rfl)
theorem rcompact_w_r2 (t : Nat) (ht : t < M) (ρ1 : Nat → Orc) (w0 : World) : Reg Try.prog 1 (regOps Try.f36 1) false 40 [(1, (.pointer (some ⟨nb ρ1 0, 0, none⟩))), (2, (.int .u32 0))] w0 [(nb ρ1 0, (.cells (cU t) 24 (0, 0)))] (fun _ => True)
    (fun _ => [(1, (.pointer (some ⟨nb ρ1 0, 0, none⟩))), (2, (.int .u32 0)), (6, (.bool (decide (t = 0))))])
    (fun _ => [(nb ρ1 0, (.cells (cU t) 24 (0, 0)))]) := by
  refine reg_seq [0, 1] [1, 2, 6] 2
    (fun _ ι => ([(U t), (.bool (decide (t = 0)))] : List Value).getD ι undef)
    (fun _ ι => ([{}, {}] : List Eff).getD ι {})
    (by as_aux_lemma => kernel_rfl) (by as_aux_lemma => kernel_rfl) (fun _ => by as_aux_lemma => kernel_rfl) (fun _ => by as_aux_lemma => kernel_rfl) ⟨⟨trivial, ?_⟩, ?_⟩
  · exact o_run 0 [0] [] (fun _ _ => [nb ρ1 0, nb ρ1 0, nb ρ1 0, nb ρ1 0]) (fun _ _ => by as_aux_lemma => kernel_rfl)
  · exact o_call 1 61 (fun _ => #[(U t)]) (fun _ => (.bool (decide (t = 0)))) (fun _ _ => by as_aux_lemma => kernel_rfl) (fun _ w => (fun w => rzero_any t w ht) w)
theorem rcompact_w_r3 (t : Nat) (ρ1 : Nat → Orc) (w0 : World) : Reg Try.prog 2 (regOps Try.f36 2) false 40 [(1, (.pointer (some ⟨nb ρ1 0, 0, none⟩))), (2, (.int .u32 0)), (6, (.bool true))] w0 [(nb ρ1 0, (.cells (cU t) 24 (0, 0)))] (fun _ => True)
    (fun _ => [(1, (.pointer (some ⟨nb ρ1 0, 0, none⟩))), (2, (.int .u32 0))])
    (fun _ => [(nb ρ1 0, (.cells (cU t) 24 (0, 0)))]) := by
  refine reg_seq [0] [1, 2] 1
    (fun _ ι => ([(.int .u32 0)] : List Value).getD ι undef)
    (fun _ ι => ([{}] : List Eff).getD ι {})
    (by as_aux_lemma => kernel_rfl) (by as_aux_lemma => kernel_rfl) (fun _ => by as_aux_lemma => kernel_rfl) (fun _ => by as_aux_lemma => kernel_rfl) ⟨trivial, ?_⟩
  · exact o_run 0 [] [] (fun _ _ => []) (fun _ _ => by as_aux_lemma => kernel_rfl)
theorem rcompact_w_r4 (t : Nat) (ρ1 : Nat → Orc) (w0 : World) : Reg Try.prog 3 (regOps Try.f36 3) false 40 [(1, (.pointer (some ⟨nb ρ1 0, 0, none⟩))), (2, (.int .u32 0)), (6, (.bool false))] w0 [(nb ρ1 0, (.cells (cU t) 24 (0, 0)))] (fun _ => True)
    (fun _ => [(1, (.pointer (some ⟨nb ρ1 0, 0, none⟩))), (2, (.int .u32 0)), (3, (.int .i64 1))])
    (fun _ => [(nb ρ1 0, (.cells (cU t) 24 (0, 0)))]) := by
  refine reg_seq [0] [1, 2, 3] 1
    (fun _ ι => ([(.int .i64 1)] : List Value).getD ι undef)
    (fun _ ι => ([{}] : List Eff).getD ι {})
    (by as_aux_lemma => kernel_rfl) (by as_aux_lemma => kernel_rfl) (fun _ => by as_aux_lemma => kernel_rfl) (fun _ => by as_aux_lemma => kernel_rfl) ⟨trivial, ?_⟩
  · exact o_run 0 [] [] (fun _ _ => []) (fun _ _ => by as_aux_lemma => kernel_rfl)
theorem rcompact_w_r5 (t : Nat) (x : Nat) (ρ1 : Nat → Orc) (w0 : World) : Reg Try.prog 5 (regOps Try.f36 5) false 40 [(1, (.pointer (some ⟨nb ρ1 0, 0, none⟩))), (3, (.int .i64 ((x : Nat) : Int)))] w0 [(nb ρ1 0, (.cells (cU t) 24 (0, 0)))] (fun _ => True)
    (fun ρ => [(1, (.pointer (some ⟨nb ρ1 0, 0, none⟩))), (3, (.int .i64 ((x : Nat) : Int))), (4, (.pointer (some ⟨nb ρ 1, 0, none⟩)))])
    (fun ρ => [(nb ρ1 0, (.cells (cU t) 24 (0, 0))), (nb ρ 1, (.cells (cU t) 24 (0, 0)))]) := by
  refine reg_seq [0, 1, 3] [1, 3, 4] 3
    (fun ρ ι => ([(U t), (.pointer (some ⟨nb ρ 1, 0, none⟩)), undef] : List Value).getD ι undef)
    (fun ρ ι => ([{}, { news := [(nb ρ 1, (.cells (cU 0) 24 (0, 0)))] }, { puts := [(9, (.cells (cU t) 24 (0, 0)))] }] : List Eff).getD ι {})
    (by as_aux_lemma => kernel_rfl) (by as_aux_lemma => kernel_rfl) (fun _ => by as_aux_lemma => kernel_rfl) (fun _ => by as_aux_lemma => kernel_rfl) ⟨⟨⟨trivial, ?_⟩, ?_⟩, ?_⟩
  · exact o_run 0 [0] [] (fun _ _ => [nb ρ1 0, nb ρ1 0, nb ρ1 0, nb ρ1 0]) (fun _ _ => by as_aux_lemma => kernel_rfl)
  · exact o_run 1 [] [] (fun _ _ => []) (fun _ _ => by as_aux_lemma => kernel_rfl)
  · exact o_run 2 [9] [] (fun ρ _ => [nb ρ 1, nb ρ 1, nb ρ 1, nb ρ 1]) (fun _ _ => by as_aux_lemma => kernel_rfl)
theorem rcompact_w_r6 (t : Nat) (x : Nat) (ρ1 : Nat → Orc) (ρ5 : Nat → Orc) (w0 : World) : Reg Try.prog 6 (regOps Try.f36 6) false 40 [(1, (.pointer (some ⟨nb ρ1 0, 0, none⟩))), (3, (.int .i64 ((x : Nat) : Int))), (4, (.pointer (some ⟨nb ρ5 1, 0, none⟩)))] w0 [(nb ρ1 0, (.cells (cU t) 24 (0, 0))), (nb ρ5 1, (.cells (cU t) 24 (0, 0)))] (fun _ => True)
    (fun _ => [(1, (.pointer (some ⟨nb ρ1 0, 0, none⟩))), (3, (.int .i64 ((x : Nat) : Int))), (4, (.pointer (some ⟨nb ρ5 1, 0, none⟩))), (11, (.bool (decide (((x : Nat) : Int) ≤ 3))))])
    (fun _ => [(nb ρ1 0, (.cells (cU t) 24 (0, 0))), (nb ρ5 1, (.cells (cU t) 24 (0, 0)))]) := by
  refine reg_seq [0, 1] [1, 3, 4, 11] 2
    (fun _ ι => ([(.int .i64 ((x : Nat) : Int)), (.bool (decide (((x : Nat) : Int) ≤ 3)))] : List Value).getD ι undef)
    (fun _ ι => ([{}, {}] : List Eff).getD ι {})
    (by as_aux_lemma => kernel_rfl) (by as_aux_lemma => kernel_rfl) (fun _ => by as_aux_lemma => kernel_rfl) (fun _ => by as_aux_lemma => kernel_rfl) ⟨⟨trivial, ?_⟩, ?_⟩
  · exact o_run 0 [] [] (fun _ _ => []) (fun _ _ => by as_aux_lemma => kernel_rfl)
  · exact o_run 1 [] [] (fun _ _ => []) (fun _ _ => by as_aux_lemma => kernel_rfl)
theorem rcompact_w_r7 (t : Nat) (ht : t < M) (x : Nat) (hx : 1 ≤ x ∧ x ≤ compX t) (ρ1 : Nat → Orc) (ρ5 : Nat → Orc) (w0 : World) : Reg Try.prog 7 (regOps Try.f36 7) false 40 [(1, (.pointer (some ⟨nb ρ1 0, 0, none⟩))), (3, (.int .i64 ((x : Nat) : Int))), (4, (.pointer (some ⟨nb ρ5 1, 0, none⟩))), (11, (.bool true))] w0 [(nb ρ1 0, (.cells (cU t) 24 (0, 0))), (nb ρ5 1, (.cells (cU t) 24 (0, 0)))] (fun _ => True)
    (fun _ => [(1, (.pointer (some ⟨nb ρ1 0, 0, none⟩))), (3, (.int .i64 ((x : Nat) : Int))), (4, (.pointer (some ⟨nb ρ5 1, 0, none⟩)))])
    (fun _ => [(nb ρ1 0, (.cells (cU t) 24 (0, 0))), (nb ρ5 1, (.cells (cU (shlZ t (8 * (3 - ((x : Nat) : Int))))) 24 (0, 0)))]) := by
  refine reg_seq [0, 1, 3, 7, 15, 31] [1, 3, 4] 6
    (fun _ ι => ([(U t), (.int .i64 ((x : Nat) : Int)), (.int .i64 (3 - ((x : Nat) : Int))), (.int .i64 (8 * (3 - ((x : Nat) : Int)))), (U (shlZ t (8 * (3 - ((x : Nat) : Int))))), undef] : List Value).getD ι undef)
    (fun _ ι => ([{}, {}, {}, {}, {}, { puts := [(1, (.cells (cU (shlZ t (8 * (3 - ((x : Nat) : Int))))) 24 (0, 0)))] }] : List Eff).getD ι {})
    (by as_aux_lemma => kernel_rfl) (by as_aux_lemma => kernel_rfl) (fun _ => by as_aux_lemma => kernel_rfl) (fun _ => by as_aux_lemma => kernel_rfl) ⟨⟨⟨⟨⟨⟨trivial, ?_⟩, ?_⟩, ?_⟩, ?_⟩, ?_⟩, ?_⟩
  · exact o_run 0 [0] [] (fun _ _ => [nb ρ1 0, nb ρ1 0, nb ρ1 0, nb ρ1 0]) (fun _ _ => by as_aux_lemma => kernel_rfl)
  · exact o_run 1 [] [] (fun _ _ => []) (fun _ _ => by as_aux_lemma => kernel_rfl)
  · exact o_as 2 (fun _ => (.int .i64 (IntKind.i64.wrap (3 - ((x : Nat) : Int))))) (fun _ => (.int .i64 (3 - ((x : Nat) : Int)))) (fun _ _ => by as_aux_lemma => kernel_rfl) (fun _ => congrArg (Value.int .i64) (IntWalk.i64_in _ (by have := hx; have := compX_lt ht; omega)))
  · exact o_as 3 (fun _ => (.int .i64 (IntKind.i64.wrap (8 * (3 - ((x : Nat) : Int)))))) (fun _ => (.int .i64 (8 * (3 - ((x : Nat) : Int))))) (fun _ _ => by as_aux_lemma => kernel_rfl) (fun _ => congrArg (Value.int .i64) (IntWalk.i64_in _ (by have := hx; have := compX_lt ht; omega)))
  · exact o_call 4 71 (fun _ => #[(U t), (.int .i64 (8 * (3 - ((x : Nat) : Int))))]) (fun _ => (U (shlZ t (8 * (3 - ((x : Nat) : Int)))))) (fun _ _ => by as_aux_lemma => kernel_rfl) (fun _ w => (fun w => rshl_any t (8 * (3 - ((x : Nat) : Int))) w ht) w)
  · exact o_run 5 [1] [] (fun _ _ => [nb ρ5 1, nb ρ5 1, nb ρ5 1, nb ρ5 1]) (fun _ _ => by as_aux_lemma => kernel_rfl)
theorem rcompact_w_r8 (t : Nat) (ht : t < M) (x : Nat) (hx : 1 ≤ x ∧ x ≤ compX t) (ρ1 : Nat → Orc) (ρ5 : Nat → Orc) (w0 : World) : Reg Try.prog 8 (regOps Try.f36 8) true 40 [(1, (.pointer (some ⟨nb ρ1 0, 0, none⟩))), (3, (.int .i64 ((x : Nat) : Int))), (4, (.pointer (some ⟨nb ρ5 1, 0, none⟩)))] w0 [(nb ρ1 0, (.cells (cU t) 24 (0, 0))), (nb ρ5 1, (.cells (cU (shlZ t (8 * (3 - ((x : Nat) : Int))))) 24 (0, 0)))] (fun _ => True)
    (fun _ => [(1, (.pointer (some ⟨nb ρ1 0, 0, none⟩))), (3, (.int .i64 ((x : Nat) : Int))), (4, (.pointer (some ⟨nb ρ5 1, 0, none⟩))), (24, (.bool ((cmpN (shrZ (shlZ t (8 * (3 - ((x : Nat) : Int)))) (8 * (3 - ((x : Nat) : Int)))) t) != 0)))])
    (fun _ => [(nb ρ1 0, (.cells (cU t) 24 (0, 0))), (nb ρ5 1, (.cells (cU (shlZ t (8 * (3 - ((x : Nat) : Int))))) 24 (0, 0)))]) := by
  refine reg_drawn [0, 0, 2, 6, 15, 0, 63, 127] [1, 3, 4, 24] 8
    (fun _ ι => ([(U (shlZ t (8 * (3 - ((x : Nat) : Int))))), (.int .i64 ((x : Nat) : Int)), (.int .i64 (3 - ((x : Nat) : Int))), (.int .i64 (8 * (3 - ((x : Nat) : Int)))), (U (shrZ (shlZ t (8 * (3 - ((x : Nat) : Int)))) (8 * (3 - ((x : Nat) : Int))))), (U t), (.int .i64 (cmpN (shrZ (shlZ t (8 * (3 - ((x : Nat) : Int)))) (8 * (3 - ((x : Nat) : Int)))) t)), (.bool ((cmpN (shrZ (shlZ t (8 * (3 - ((x : Nat) : Int)))) (8 * (3 - ((x : Nat) : Int)))) t) != 0))] : List Value).getD ι undef)
    (fun _ ι => ([{}, {}, {}, {}, {}, {}, {}, {}] : List Eff).getD ι {})
    (by as_aux_lemma => kernel_rfl) (by as_aux_lemma => kernel_rfl) (by as_aux_lemma => kernel_rfl) (fun _ => by as_aux_lemma => kernel_rfl) (fun _ => by as_aux_lemma => kernel_rfl) ⟨⟨⟨⟨⟨⟨⟨⟨trivial, ?_⟩, ?_⟩, ?_⟩, ?_⟩, ?_⟩, ?_⟩, ?_⟩, ?_⟩
  · exact o_run 0 [1] [] (fun _ _ => [nb ρ5 1, nb ρ5 1, nb ρ5 1, nb ρ5 1]) (fun _ _ => by as_aux_lemma => kernel_rfl)
  · exact o_run 1 [] [] (fun _ _ => []) (fun _ _ => by as_aux_lemma => kernel_rfl)
  · exact o_as 2 (fun _ => (.int .i64 (IntKind.i64.wrap (3 - ((x : Nat) : Int))))) (fun _ => (.int .i64 (3 - ((x : Nat) : Int)))) (fun _ _ => by as_aux_lemma => kernel_rfl) (fun _ => congrArg (Value.int .i64) (IntWalk.i64_in _ (by have := hx; have := compX_lt ht; omega)))
  · exact o_as 3 (fun _ => (.int .i64 (IntKind.i64.wrap (8 * (3 - ((x : Nat) : Int)))))) (fun _ => (.int .i64 (8 * (3 - ((x : Nat) : Int))))) (fun _ _ => by as_aux_lemma => kernel_rfl) (fun _ => congrArg (Value.int .i64) (IntWalk.i64_in _ (by have := hx; have := compX_lt ht; omega)))
  · exact o_call 4 41 (fun _ => #[(U (shlZ t (8 * (3 - ((x : Nat) : Int))))), (.int .i64 (8 * (3 - ((x : Nat) : Int))))]) (fun _ => (U (shrZ (shlZ t (8 * (3 - ((x : Nat) : Int)))) (8 * (3 - ((x : Nat) : Int)))))) (fun _ _ => by as_aux_lemma => kernel_rfl) (fun _ w => (fun w => rshr_any (shlZ t (8 * (3 - ((x : Nat) : Int)))) (8 * (3 - ((x : Nat) : Int))) w (shlZ_lt _ ht)) w)
  · exact o_run 5 [0] [] (fun _ _ => [nb ρ1 0, nb ρ1 0, nb ρ1 0, nb ρ1 0]) (fun _ _ => by as_aux_lemma => kernel_rfl)
  · exact o_call 6 40 (fun _ => #[(U (shrZ (shlZ t (8 * (3 - ((x : Nat) : Int)))) (8 * (3 - ((x : Nat) : Int))))), (U t)]) (fun _ => (.int .i64 (cmpN (shrZ (shlZ t (8 * (3 - ((x : Nat) : Int)))) (8 * (3 - ((x : Nat) : Int)))) t))) (fun _ _ => by as_aux_lemma => kernel_rfl) (fun _ w => (fun w => rcmp_any (shrZ (shlZ t (8 * (3 - ((x : Nat) : Int)))) (8 * (3 - ((x : Nat) : Int)))) t w (shrZ_lt _ (shlZ_lt _ ht)) ht) w)
  · exact o_run 7 [] [] (fun _ _ => []) (fun _ _ => by as_aux_lemma => kernel_rfl)
theorem rcompact_w_r9 (t : Nat) (ht : t < M) (x : Nat) (hx : 1 ≤ x ∧ x ≤ compX t) (ρ1 : Nat → Orc) (ρ5 : Nat → Orc) (w0 : World) : Reg Try.prog 4 (regOps Try.f36 4) false 40 [(1, (.pointer (some ⟨nb ρ1 0, 0, none⟩))), (3, (.int .i64 ((x : Nat) : Int))), (4, (.pointer (some ⟨nb ρ5 1, 0, none⟩))), (24, (.bool true))] w0 [(nb ρ1 0, (.cells (cU t) 24 (0, 0))), (nb ρ5 1, (.cells (cU (shlZ t (8 * (3 - ((x : Nat) : Int))))) 24 (0, 0)))] (fun _ => True)
    (fun _ => [(1, (.pointer (some ⟨nb ρ1 0, 0, none⟩))), (3, (.int .i64 ((x + 1 : Nat) : Int)))])
    (fun _ => [(nb ρ1 0, (.cells (cU t) 24 (0, 0))), (nb ρ5 1, (.cells (cU (shlZ t (8 * (3 - ((x : Nat) : Int))))) 24 (0, 0)))]) := by
  refine reg_seq [0, 1, 3] [1, 3] 3
    (fun _ ι => ([(.int .i64 ((x : Nat) : Int)), (.int .i64 ((x + 1 : Nat) : Int)), (.int .i64 ((x + 1 : Nat) : Int))] : List Value).getD ι undef)
    (fun _ ι => ([{}, {}, {}] : List Eff).getD ι {})
    (by as_aux_lemma => kernel_rfl) (by as_aux_lemma => kernel_rfl) (fun _ => by as_aux_lemma => kernel_rfl) (fun _ => by as_aux_lemma => kernel_rfl) ⟨⟨⟨trivial, ?_⟩, ?_⟩, ?_⟩
  · exact o_run 0 [] [] (fun _ _ => []) (fun _ _ => by as_aux_lemma => kernel_rfl)
  · exact o_as 1 (fun _ => (.int .i64 (IntKind.i64.wrap (((x : Nat) : Int) + 1)))) (fun _ => (.int .i64 ((x + 1 : Nat) : Int))) (fun _ _ => by as_aux_lemma => kernel_rfl) (fun _ => congrArg (Value.int .i64) (wrap_add_nat x 1 (by have := hx; have := compX_lt ht; omega)))
  · exact o_run 2 [] [] (fun _ _ => []) (fun _ _ => by as_aux_lemma => kernel_rfl)
theorem rcompact_w_r10 (t : Nat) (ht : t < M) (x : Nat) (ρ1 : Nat → Orc) (ρ5 : Nat → Orc) (w0 : World) : Reg Try.prog 10 (regOps Try.f36 10) false 40 [(1, (.pointer (some ⟨nb ρ1 0, 0, none⟩))), (3, (.int .i64 ((x : Nat) : Int))), (4, (.pointer (some ⟨nb ρ5 1, 0, none⟩))), (24, (.bool false))] w0 [(nb ρ1 0, (.cells (cU t) 24 (0, 0))), (nb ρ5 1, (.cells (cU (shlZ t (8 * (3 - ((x : Nat) : Int))))) 24 (0, 0)))] (fun _ => True)
    (fun _ => [(1, (.pointer (some ⟨nb ρ1 0, 0, none⟩))), (3, (.int .i64 ((x : Nat) : Int))), (4, (.pointer (some ⟨nb ρ5 1, 0, none⟩))), (32, (.bool (decide (((lenN (shlZ t (8 * (3 - ((x : Nat) : Int)))) : Nat) : Int) ≤ 23))))])
    (fun _ => [(nb ρ1 0, (.cells (cU t) 24 (0, 0))), (nb ρ5 1, (.cells (cU (shlZ t (8 * (3 - ((x : Nat) : Int))))) 24 (0, 0)))]) := by
  refine reg_seq [0, 1, 3] [1, 3, 4, 32] 3
    (fun _ ι => ([(U (shlZ t (8 * (3 - ((x : Nat) : Int))))), (.int .i64 ((lenN (shlZ t (8 * (3 - ((x : Nat) : Int)))) : Nat) : Int)), (.bool (decide (((lenN (shlZ t (8 * (3 - ((x : Nat) : Int)))) : Nat) : Int) ≤ 23)))] : List Value).getD ι undef)
    (fun _ ι => ([{}, {}, {}] : List Eff).getD ι {})
    (by as_aux_lemma => kernel_rfl) (by as_aux_lemma => kernel_rfl) (fun _ => by as_aux_lemma => kernel_rfl) (fun _ => by as_aux_lemma => kernel_rfl) ⟨⟨⟨trivial, ?_⟩, ?_⟩, ?_⟩
  · exact o_run 0 [1] [] (fun _ _ => [nb ρ5 1, nb ρ5 1, nb ρ5 1, nb ρ5 1]) (fun _ _ => by as_aux_lemma => kernel_rfl)
  · exact o_call 1 70 (fun _ => #[(U (shlZ t (8 * (3 - ((x : Nat) : Int)))))]) (fun _ => (.int .i64 ((lenN (shlZ t (8 * (3 - ((x : Nat) : Int)))) : Nat) : Int))) (fun _ _ => by as_aux_lemma => kernel_rfl) (fun _ w => (fun w => rlen_any (shlZ t (8 * (3 - ((x : Nat) : Int)))) w (shlZ_lt _ ht)) w)
  · exact o_run 2 [] [] (fun _ _ => []) (fun _ _ => by as_aux_lemma => kernel_rfl)
theorem rcompact_w_r11 (t : Nat) (ht : t < M) (x : Nat) (hx : 1 ≤ x ∧ x ≤ compX t) (ρ1 : Nat → Orc) (ρ5 : Nat → Orc) (w0 : World) : Reg Try.prog 11 (regOps Try.f36 11) false 40 [(1, (.pointer (some ⟨nb ρ1 0, 0, none⟩))), (3, (.int .i64 ((x : Nat) : Int))), (4, (.pointer (some ⟨nb ρ5 1, 0, none⟩))), (32, (.bool true))] w0 [(nb ρ1 0, (.cells (cU t) 24 (0, 0))), (nb ρ5 1, (.cells (cU (shlZ t (8 * (3 - ((x : Nat) : Int))))) 24 (0, 0)))] (fun _ => True)
    (fun _ => [(1, (.pointer (some ⟨nb ρ1 0, 0, none⟩))), (2, (.int .u32 (bits .or .u32 ((x * 16777216 : Nat) : Int) (IntKind.u32.wrap (wd (shlZ t (8 * (3 - ((x : Nat) : Int)))) 0))))), (3, (.int .i64 ((x : Nat) : Int)))])
    (fun _ => [(nb ρ1 0, (.cells (cU t) 24 (0, 0))), (nb ρ5 1, (.cells (cU (shlZ t (8 * (3 - ((x : Nat) : Int))))) 24 (0, 0)))]) := by
  refine reg_seq [0, 1, 3, 7, 15, 31, 63, 127] [1, 2, 3] 8
    (fun _ ι => ([(.int .i64 ((x : Nat) : Int)), (.int .u32 ((x : Nat) : Int)), (.int .u32 ((x * 16777216 : Nat) : Int)), (.pointer (some ⟨nb ρ5 1, 0, none⟩)), (.int .u64 (wd (shlZ t (8 * (3 - ((x : Nat) : Int)))) 0)), (.int .u32 (IntKind.u32.wrap (wd (shlZ t (8 * (3 - ((x : Nat) : Int)))) 0))), (.int .u32 (bits .or .u32 ((x * 16777216 : Nat) : Int) (IntKind.u32.wrap (wd (shlZ t (8 * (3 - ((x : Nat) : Int)))) 0)))), (.int .u32 (bits .or .u32 ((x * 16777216 : Nat) : Int) (IntKind.u32.wrap (wd (shlZ t (8 * (3 - ((x : Nat) : Int)))) 0))))] : List Value).getD ι undef)
    (fun _ ι => ([{}, {}, {}, {}, {}, {}, {}, {}] : List Eff).getD ι {})
    (by as_aux_lemma => kernel_rfl) (by as_aux_lemma => kernel_rfl) (fun _ => by as_aux_lemma => kernel_rfl) (fun _ => by as_aux_lemma => kernel_rfl) ⟨⟨⟨⟨⟨⟨⟨⟨trivial, ?_⟩, ?_⟩, ?_⟩, ?_⟩, ?_⟩, ?_⟩, ?_⟩, ?_⟩
  · exact o_run 0 [] [] (fun _ _ => []) (fun _ _ => by as_aux_lemma => kernel_rfl)
  · exact o_as 1 (fun _ => (.int .u32 (IntKind.u32.wrap (((x : Nat) : Int))))) (fun _ => (.int .u32 ((x : Nat) : Int))) (fun _ _ => by as_aux_lemma => kernel_rfl) (fun _ => congrArg (Value.int .u32) (u32_nat (by have := hx; have := compX_lt ht; omega)))
  · exact o_bin 2 .shl 32 (fun _ => (.int .u32 ((x : Nat) : Int))) (fun _ => (.int .u64 24)) (fun _ => (.int .u32 ((x * 16777216 : Nat) : Int))) (fun _ => by as_aux_lemma => kernel_rfl) (fun _ _ _ _ => by as_aux_lemma => kernel_rfl) (fun _ w => run_shl24 x (by have := hx; have := compX_lt ht; omega) w)
  · exact o_run 3 [] [] (fun _ _ => []) (fun _ _ => by as_aux_lemma => kernel_rfl)
  · exact o_run 4 [1] [] (fun _ _ => [nb ρ5 1]) (fun _ _ => by as_aux_lemma => kernel_rfl)
  · exact o_run 5 [] [] (fun _ _ => []) (fun _ _ => by as_aux_lemma => kernel_rfl)
  · exact o_run 6 [] [] (fun _ _ => []) (fun _ _ => by as_aux_lemma => kernel_rfl)
  · exact o_run 7 [] [] (fun _ _ => []) (fun _ _ => by as_aux_lemma => kernel_rfl)
theorem rcompact_w_r12 (t : Nat) (ht : t < M) (x : Nat) (hx : 1 ≤ x ∧ x ≤ compX t) (ρ1 : Nat → Orc) (ρ5 : Nat → Orc) (w0 : World) : Reg Try.prog 4 (regOps Try.f36 4) false 40 [(1, (.pointer (some ⟨nb ρ1 0, 0, none⟩))), (3, (.int .i64 ((x : Nat) : Int))), (4, (.pointer (some ⟨nb ρ5 1, 0, none⟩))), (32, (.bool false))] w0 [(nb ρ1 0, (.cells (cU t) 24 (0, 0))), (nb ρ5 1, (.cells (cU (shlZ t (8 * (3 - ((x : Nat) : Int))))) 24 (0, 0)))] (fun _ => True)
    (fun _ => [(1, (.pointer (some ⟨nb ρ1 0, 0, none⟩))), (3, (.int .i64 ((x + 1 : Nat) : Int)))])
    (fun _ => [(nb ρ1 0, (.cells (cU t) 24 (0, 0))), (nb ρ5 1, (.cells (cU (shlZ t (8 * (3 - ((x : Nat) : Int))))) 24 (0, 0)))]) := by
  refine reg_seq [0, 1, 3] [1, 3] 3
    (fun _ ι => ([(.int .i64 ((x : Nat) : Int)), (.int .i64 ((x + 1 : Nat) : Int)), (.int .i64 ((x + 1 : Nat) : Int))] : List Value).getD ι undef)
    (fun _ ι => ([{}, {}, {}] : List Eff).getD ι {})
    (by as_aux_lemma => kernel_rfl) (by as_aux_lemma => kernel_rfl) (fun _ => by as_aux_lemma => kernel_rfl) (fun _ => by as_aux_lemma => kernel_rfl) ⟨⟨⟨trivial, ?_⟩, ?_⟩, ?_⟩
  · exact o_run 0 [] [] (fun _ _ => []) (fun _ _ => by as_aux_lemma => kernel_rfl)
  · exact o_as 1 (fun _ => (.int .i64 (IntKind.i64.wrap (((x : Nat) : Int) + 1)))) (fun _ => (.int .i64 ((x + 1 : Nat) : Int))) (fun _ _ => by as_aux_lemma => kernel_rfl) (fun _ => congrArg (Value.int .i64) (wrap_add_nat x 1 (by have := hx; have := compX_lt ht; omega)))
  · exact o_run 2 [] [] (fun _ _ => []) (fun _ _ => by as_aux_lemma => kernel_rfl)
theorem rcompact_w_r13 (t : Nat) (ht : t < M) (x : Nat) (hx : 1 ≤ x ∧ x ≤ compX t) (ρ1 : Nat → Orc) (ρ5 : Nat → Orc) (w0 : World) : Reg Try.prog 9 (regOps Try.f36 9) false 40 [(1, (.pointer (some ⟨nb ρ1 0, 0, none⟩))), (3, (.int .i64 ((x : Nat) : Int))), (4, (.pointer (some ⟨nb ρ5 1, 0, none⟩))), (11, (.bool false))] w0 [(nb ρ1 0, (.cells (cU t) 24 (0, 0))), (nb ρ5 1, (.cells (cU t) 24 (0, 0)))] (fun _ => True)
    (fun _ => [(1, (.pointer (some ⟨nb ρ1 0, 0, none⟩))), (3, (.int .i64 ((x : Nat) : Int))), (4, (.pointer (some ⟨nb ρ5 1, 0, none⟩)))])
    (fun _ => [(nb ρ1 0, (.cells (cU t) 24 (0, 0))), (nb ρ5 1, (.cells (cU (shrZ t (8 * (((x : Nat) : Int) - 3)))) 24 (0, 0)))]) := by
  refine reg_seq [0, 1, 3, 7, 15, 31] [1, 3, 4] 6
    (fun _ ι => ([(U t), (.int .i64 ((x : Nat) : Int)), (.int .i64 (((x : Nat) : Int) - 3)), (.int .i64 (8 * (((x : Nat) : Int) - 3))), (U (shrZ t (8 * (((x : Nat) : Int) - 3)))), undef] : List Value).getD ι undef)
    (fun _ ι => ([{}, {}, {}, {}, {}, { puts := [(1, (.cells (cU (shrZ t (8 * (((x : Nat) : Int) - 3)))) 24 (0, 0)))] }] : List Eff).getD ι {})
    (by as_aux_lemma => kernel_rfl) (by as_aux_lemma => kernel_rfl) (fun _ => by as_aux_lemma => kernel_rfl) (fun _ => by as_aux_lemma => kernel_rfl) ⟨⟨⟨⟨⟨⟨trivial, ?_⟩, ?_⟩, ?_⟩, ?_⟩, ?_⟩, ?_⟩
  · exact o_run 0 [0] [] (fun _ _ => [nb ρ1 0, nb ρ1 0, nb ρ1 0, nb ρ1 0]) (fun _ _ => by as_aux_lemma => kernel_rfl)
  · exact o_run 1 [] [] (fun _ _ => []) (fun _ _ => by as_aux_lemma => kernel_rfl)
  · exact o_as 2 (fun _ => (.int .i64 (IntKind.i64.wrap (((x : Nat) : Int) - 3)))) (fun _ => (.int .i64 (((x : Nat) : Int) - 3))) (fun _ _ => by as_aux_lemma => kernel_rfl) (fun _ => congrArg (Value.int .i64) (IntWalk.i64_in _ (by have := hx; have := compX_lt ht; omega)))
  · exact o_as 3 (fun _ => (.int .i64 (IntKind.i64.wrap (8 * (((x : Nat) : Int) - 3))))) (fun _ => (.int .i64 (8 * (((x : Nat) : Int) - 3)))) (fun _ _ => by as_aux_lemma => kernel_rfl) (fun _ => congrArg (Value.int .i64) (IntWalk.i64_in _ (by have := hx; have := compX_lt ht; omega)))
  · exact o_call 4 41 (fun _ => #[(U t), (.int .i64 (8 * (((x : Nat) : Int) - 3)))]) (fun _ => (U (shrZ t (8 * (((x : Nat) : Int) - 3))))) (fun _ _ => by as_aux_lemma => kernel_rfl) (fun _ w => (fun w => rshr_any t (8 * (((x : Nat) : Int) - 3)) w ht) w)
  · exact o_run 5 [1] [] (fun _ _ => [nb ρ5 1, nb ρ5 1, nb ρ5 1, nb ρ5 1]) (fun _ _ => by as_aux_lemma => kernel_rfl)
theorem rcompact_w_r14 (t : Nat) (ht : t < M) (x : Nat) (ρ1 : Nat → Orc) (ρ5 : Nat → Orc) (w0 : World) : Reg Try.prog 10 (regOps Try.f36 10) false 40 [(1, (.pointer (some ⟨nb ρ1 0, 0, none⟩))), (3, (.int .i64 ((x : Nat) : Int))), (4, (.pointer (some ⟨nb ρ5 1, 0, none⟩)))] w0 [(nb ρ1 0, (.cells (cU t) 24 (0, 0))), (nb ρ5 1, (.cells (cU (shrZ t (8 * (((x : Nat) : Int) - 3)))) 24 (0, 0)))] (fun _ => True)
    (fun _ => [(1, (.pointer (some ⟨nb ρ1 0, 0, none⟩))), (3, (.int .i64 ((x : Nat) : Int))), (4, (.pointer (some ⟨nb ρ5 1, 0, none⟩))), (32, (.bool (decide (((lenN (shrZ t (8 * (((x : Nat) : Int) - 3))) : Nat) : Int) ≤ 23))))])
    (fun _ => [(nb ρ1 0, (.cells (cU t) 24 (0, 0))), (nb ρ5 1, (.cells (cU (shrZ t (8 * (((x : Nat) : Int) - 3)))) 24 (0, 0)))]) := by
  refine reg_seq [0, 1, 3] [1, 3, 4, 32] 3
    (fun _ ι => ([(U (shrZ t (8 * (((x : Nat) : Int) - 3)))), (.int .i64 ((lenN (shrZ t (8 * (((x : Nat) : Int) - 3))) : Nat) : Int)), (.bool (decide (((lenN (shrZ t (8 * (((x : Nat) : Int) - 3))) : Nat) : Int) ≤ 23)))] : List Value).getD ι undef)
    (fun _ ι => ([{}, {}, {}] : List Eff).getD ι {})
    (by as_aux_lemma => kernel_rfl) (by as_aux_lemma => kernel_rfl) (fun _ => by as_aux_lemma => kernel_rfl) (fun _ => by as_aux_lemma => kernel_rfl) ⟨⟨⟨trivial, ?_⟩, ?_⟩, ?_⟩
  · exact o_run 0 [1] [] (fun _ _ => [nb ρ5 1, nb ρ5 1, nb ρ5 1, nb ρ5 1]) (fun _ _ => by as_aux_lemma => kernel_rfl)
  · exact o_call 1 70 (fun _ => #[(U (shrZ t (8 * (((x : Nat) : Int) - 3))))]) (fun _ => (.int .i64 ((lenN (shrZ t (8 * (((x : Nat) : Int) - 3))) : Nat) : Int))) (fun _ _ => by as_aux_lemma => kernel_rfl) (fun _ w => (fun w => rlen_any (shrZ t (8 * (((x : Nat) : Int) - 3))) w (shrZ_lt _ ht)) w)
  · exact o_run 2 [] [] (fun _ _ => []) (fun _ _ => by as_aux_lemma => kernel_rfl)
theorem rcompact_w_r15 (t : Nat) (ht : t < M) (x : Nat) (hx : 1 ≤ x ∧ x ≤ compX t) (ρ1 : Nat → Orc) (ρ5 : Nat → Orc) (w0 : World) : Reg Try.prog 11 (regOps Try.f36 11) false 40 [(1, (.pointer (some ⟨nb ρ1 0, 0, none⟩))), (3, (.int .i64 ((x : Nat) : Int))), (4, (.pointer (some ⟨nb ρ5 1, 0, none⟩))), (32, (.bool true))] w0 [(nb ρ1 0, (.cells (cU t) 24 (0, 0))), (nb ρ5 1, (.cells (cU (shrZ t (8 * (((x : Nat) : Int) - 3)))) 24 (0, 0)))] (fun _ => True)
    (fun _ => [(1, (.pointer (some ⟨nb ρ1 0, 0, none⟩))), (2, (.int .u32 (bits .or .u32 ((x * 16777216 : Nat) : Int) (IntKind.u32.wrap (wd (shrZ t (8 * (((x : Nat) : Int) - 3))) 0))))), (3, (.int .i64 ((x : Nat) : Int)))])
    (fun _ => [(nb ρ1 0, (.cells (cU t) 24 (0, 0))), (nb ρ5 1, (.cells (cU (shrZ t (8 * (((x : Nat) : Int) - 3)))) 24 (0, 0)))]) := by
  refine reg_seq [0, 1, 3, 7, 15, 31, 63, 127] [1, 2, 3] 8
    (fun _ ι => ([(.int .i64 ((x : Nat) : Int)), (.int .u32 ((x : Nat) : Int)), (.int .u32 ((x * 16777216 : Nat) : Int)), (.pointer (some ⟨nb ρ5 1, 0, none⟩)), (.int .u64 (wd (shrZ t (8 * (((x : Nat) : Int) - 3))) 0)), (.int .u32 (IntKind.u32.wrap (wd (shrZ t (8 * (((x : Nat) : Int) - 3))) 0))), (.int .u32 (bits .or .u32 ((x * 16777216 : Nat) : Int) (IntKind.u32.wrap (wd (shrZ t (8 * (((x : Nat) : Int) - 3))) 0)))), (.int .u32 (bits .or .u32 ((x * 16777216 : Nat) : Int) (IntKind.u32.wrap (wd (shrZ t (8 * (((x : Nat) : Int) - 3))) 0))))] : List Value).getD ι undef)
    (fun _ ι => ([{}, {}, {}, {}, {}, {}, {}, {}] : List Eff).getD ι {})
    (by as_aux_lemma => kernel_rfl) (by as_aux_lemma => kernel_rfl) (fun _ => by as_aux_lemma => kernel_rfl) (fun _ => by as_aux_lemma => kernel_rfl) ⟨⟨⟨⟨⟨⟨⟨⟨trivial, ?_⟩, ?_⟩, ?_⟩, ?_⟩, ?_⟩, ?_⟩, ?_⟩, ?_⟩
  · exact o_run 0 [] [] (fun _ _ => []) (fun _ _ => by as_aux_lemma => kernel_rfl)
  · exact o_as 1 (fun _ => (.int .u32 (IntKind.u32.wrap (((x : Nat) : Int))))) (fun _ => (.int .u32 ((x : Nat) : Int))) (fun _ _ => by as_aux_lemma => kernel_rfl) (fun _ => congrArg (Value.int .u32) (u32_nat (by have := hx; have := compX_lt ht; omega)))
  · exact o_bin 2 .shl 32 (fun _ => (.int .u32 ((x : Nat) : Int))) (fun _ => (.int .u64 24)) (fun _ => (.int .u32 ((x * 16777216 : Nat) : Int))) (fun _ => by as_aux_lemma => kernel_rfl) (fun _ _ _ _ => by as_aux_lemma => kernel_rfl) (fun _ w => run_shl24 x (by have := hx; have := compX_lt ht; omega) w)
  · exact o_run 3 [] [] (fun _ _ => []) (fun _ _ => by as_aux_lemma => kernel_rfl)
  · exact o_run 4 [1] [] (fun _ _ => [nb ρ5 1]) (fun _ _ => by as_aux_lemma => kernel_rfl)
  · exact o_run 5 [] [] (fun _ _ => []) (fun _ _ => by as_aux_lemma => kernel_rfl)
  · exact o_run 6 [] [] (fun _ _ => []) (fun _ _ => by as_aux_lemma => kernel_rfl)
  · exact o_run 7 [] [] (fun _ _ => []) (fun _ _ => by as_aux_lemma => kernel_rfl)
theorem rcompact_w_r16 (t : Nat) (ht : t < M) (x : Nat) (hx : 1 ≤ x ∧ x ≤ compX t) (ρ1 : Nat → Orc) (ρ5 : Nat → Orc) (w0 : World) : Reg Try.prog 4 (regOps Try.f36 4) false 40 [(1, (.pointer (some ⟨nb ρ1 0, 0, none⟩))), (3, (.int .i64 ((x : Nat) : Int))), (4, (.pointer (some ⟨nb ρ5 1, 0, none⟩))), (32, (.bool false))] w0 [(nb ρ1 0, (.cells (cU t) 24 (0, 0))), (nb ρ5 1, (.cells (cU (shrZ t (8 * (((x : Nat) : Int) - 3)))) 24 (0, 0)))] (fun _ => True)
    (fun _ => [(1, (.pointer (some ⟨nb ρ1 0, 0, none⟩))), (3, (.int .i64 ((x + 1 : Nat) : Int)))])
    (fun _ => [(nb ρ1 0, (.cells (cU t) 24 (0, 0))), (nb ρ5 1, (.cells (cU (shrZ t (8 * (((x : Nat) : Int) - 3)))) 24 (0, 0)))]) := by
  refine reg_seq [0, 1, 3] [1, 3] 3
    (fun _ ι => ([(.int .i64 ((x : Nat) : Int)), (.int .i64 ((x + 1 : Nat) : Int)), (.int .i64 ((x + 1 : Nat) : Int))] : List Value).getD ι undef)
    (fun _ ι => ([{}, {}, {}] : List Eff).getD ι {})
    (by as_aux_lemma => kernel_rfl) (by as_aux_lemma => kernel_rfl) (fun _ => by as_aux_lemma => kernel_rfl) (fun _ => by as_aux_lemma => kernel_rfl) ⟨⟨⟨trivial, ?_⟩, ?_⟩, ?_⟩
  · exact o_run 0 [] [] (fun _ _ => []) (fun _ _ => by as_aux_lemma => kernel_rfl)
  · exact o_as 1 (fun _ => (.int .i64 (IntKind.i64.wrap (((x : Nat) : Int) + 1)))) (fun _ => (.int .i64 ((x + 1 : Nat) : Int))) (fun _ _ => by as_aux_lemma => kernel_rfl) (fun _ => congrArg (Value.int .i64) (wrap_add_nat x 1 (by have := hx; have := compX_lt ht; omega)))
  · exact o_run 2 [] [] (fun _ _ => []) (fun _ _ => by as_aux_lemma => kernel_rfl)
theorem rcompact_w (t : Nat) (ht : t < M) (w0 : World) : Calls Try.prog 36 #[(U t)] w0 (fun ε w' => ε = .returned (.int .u32 ((compN t : Nat) : Int)) ∧ Below w0.heap.size w0 w') := by
  refine Calls.of_ok (n := 40) (F := fun _ => True) Try.func36 rfl rfl rfl (by simp) (persTrue (fun _ => trivial)) ?_
  refine ok_seq_r (by as_aux_lemma => kernel_rfl) (rcompact_w_r1 t _) (fun ρ1 => ?_)
  refine ok_seq ?_
  refine ok_seq_r (by as_aux_lemma => kernel_rfl) (rcompact_w_r2 t ht ρ1 _) (fun _ => ?_)
  refine ok_cond (b := decide (t = 0)) (by as_aux_lemma => kernel_rfl) (fun hb1 => ?_) (fun hb1 => ?_)
  ·
    rw [hb1]
    refine ok_seq_r (by as_aux_lemma => kernel_rfl) (rcompact_w_r3 t ρ1 _) (fun _ => ?_)
    refine ok_ret ?_
    refine mt_then_r ?_
    exact meets_ret (v := (.int .u32 0)) [] (dup []) (by as_aux_lemma => kernel_rfl) (by as_aux_lemma => kernel_rfl) (eqs_dup _) (fun _ hS => ⟨congrArg (fun x : Nat => Ending.returned (.int .u32 (x : Int))) (comp_fin0 hb1), hS.below⟩)
  ·
    rw [hb1]
    refine ok_skip ?_
    refine mt_then ?_
    refine ok_seq_r (by as_aux_lemma => kernel_rfl) (rcompact_w_r4 t ρ1 _) (fun _ => ?_)
    refine ok_block ?_
    refine ok_loop (σ := Nat) (fun x => [(1, (.pointer (some ⟨nb ρ1 0, 0, none⟩))), (3, (.int .i64 ((x : Nat) : Int)))]) (fun _ => [(nb ρ1 0, (.cells (cU t) 24 (0, 0)))]) (fun x => compX t + 1 - x)
      (fun x => (1 ≤ x ∧ x ≤ compX t)) 1 (comp_ge1 t) (by as_aux_lemma => kernel_rfl) (.cons_cons _ .slnil) ?_
    rintro x hx
    change Ok Try.prog _ _ 40 [(1, (.pointer (some ⟨nb ρ1 0, 0, none⟩))), (3, (.int .i64 ((x : Nat) : Int)))] _ [(nb ρ1 0, (.cells (cU t) 24 (0, 0)))] (fun _ => True)
    refine ok_seq ?_
    refine ok_block ?_
    refine ok_seq_r (by as_aux_lemma => kernel_rfl) (rcompact_w_r5 t x ρ1 _) (fun ρ5 => ?_)
    refine ok_seq ?_
    refine ok_seq_r (by as_aux_lemma => kernel_rfl) (rcompact_w_r6 t x ρ1 ρ5 _) (fun _ => ?_)
    refine ok_cond (b := decide (((x : Nat) : Int) ≤ 3)) (by as_aux_lemma => kernel_rfl) (fun hb2 => ?_) (fun hb2 => ?_)
    ·
      rw [hb2]
      refine ok_seq_r (by as_aux_lemma => kernel_rfl) (rcompact_w_r7 t ht x hx ρ1 ρ5 _) (fun _ => ?_)
      refine ok_seq_r (by as_aux_lemma => kernel_rfl) (rcompact_w_r8 t ht x hx ρ1 ρ5 _) (fun _ => ?_)
      refine ok_cond (b := (cmpN (shrZ (shlZ t (8 * (3 - ((x : Nat) : Int)))) (8 * (3 - ((x : Nat) : Int)))) t) != 0) (by as_aux_lemma => kernel_rfl) (fun hb3 => ?_) (fun hb3 => ?_)
      ·
        rw [hb3]
        refine ok_exit ?_
        refine mt_then_e ?_
        refine mt_block_h ?_
        refine mt_then ?_
        refine ok_r (by as_aux_lemma => kernel_rfl) (rcompact_w_r9 t ht x hx ρ1 ρ5 _) (fun _ => ?_)
        exact mt_round (x + 1) (by show compX t + 1 - (x + 1) < compX t + 1 - x; have := hx; omega) (comp_next1 hx ht hb1 hb2 hb3) (by as_aux_lemma => kernel_rfl) (.cons_cons _ (.cons _ .slnil))
      ·
        rw [hb3]
        refine ok_skip ?_
        refine mt_then ?_
        refine ok_seq_r (by as_aux_lemma => kernel_rfl) (rcompact_w_r10 t ht x ρ1 ρ5 _) (fun _ => ?_)
        refine ok_cond (b := decide (((lenN (shlZ t (8 * (3 - ((x : Nat) : Int)))) : Nat) : Int) ≤ 23)) (by as_aux_lemma => kernel_rfl) (fun hb4 => ?_) (fun hb4 => ?_)
        ·
          rw [hb4]
          refine ok_seq_r (by as_aux_lemma => kernel_rfl) (rcompact_w_r11 t ht x hx ρ1 ρ5 _) (fun _ => ?_)
          refine ok_ret ?_
          refine mt_block_r ?_
          refine mt_then_r ?_
          refine mt_then_r ?_
          refine mt_block_r ?_
          exact meets_ret (v := (.int .u32 (bits .or .u32 ((x * 16777216 : Nat) : Int) (IntKind.u32.wrap (wd (shlZ t (8 * (3 - ((x : Nat) : Int)))) 0))))) [] (dup []) (by as_aux_lemma => kernel_rfl) (by as_aux_lemma => kernel_rfl) (eqs_dup _) (fun _ hS => ⟨comp_end1 hx ht hb1 hb2 hb4 hb3, hS.below⟩)
        ·
          rw [hb4]
          refine ok_skip ?_
          refine mt_block_n ?_
          refine mt_then ?_
          refine ok_r (by as_aux_lemma => kernel_rfl) (rcompact_w_r12 t ht x hx ρ1 ρ5 _) (fun _ => ?_)
          exact mt_round (x + 1) (by show compX t + 1 - (x + 1) < compX t + 1 - x; have := hx; omega) (comp_next2 hx ht hb1 hb2 hb4) (by as_aux_lemma => kernel_rfl) (.cons_cons _ (.cons _ .slnil))
    ·
      rw [hb2]
      refine ok_r (by as_aux_lemma => kernel_rfl) (rcompact_w_r13 t ht x hx ρ1 ρ5 _) (fun _ => ?_)
      refine mt_then ?_
      refine ok_seq_r (by as_aux_lemma => kernel_rfl) (rcompact_w_r14 t ht x ρ1 ρ5 _) (fun _ => ?_)
      refine ok_cond (b := decide (((lenN (shrZ t (8 * (((x : Nat) : Int) - 3))) : Nat) : Int) ≤ 23)) (by as_aux_lemma => kernel_rfl) (fun hb5 => ?_) (fun hb5 => ?_)
      ·
        rw [hb5]
        refine ok_seq_r (by as_aux_lemma => kernel_rfl) (rcompact_w_r15 t ht x hx ρ1 ρ5 _) (fun _ => ?_)
        refine ok_ret ?_
        refine mt_block_r ?_
        refine mt_then_r ?_
        refine mt_then_r ?_
        refine mt_block_r ?_
        exact meets_ret (v := (.int .u32 (bits .or .u32 ((x * 16777216 : Nat) : Int) (IntKind.u32.wrap (wd (shrZ t (8 * (((x : Nat) : Int) - 3))) 0))))) [] (dup []) (by as_aux_lemma => kernel_rfl) (by as_aux_lemma => kernel_rfl) (eqs_dup _) (fun _ hS => ⟨comp_end2 hx ht hb1 hb2 hb5, hS.below⟩)
      ·
        rw [hb5]
        refine ok_skip ?_
        refine mt_block_n ?_
        refine mt_then ?_
        refine ok_r (by as_aux_lemma => kernel_rfl) (rcompact_w_r16 t ht x hx ρ1 ρ5 _) (fun _ => ?_)
        exact mt_round (x + 1) (by show compX t + 1 - (x + 1) < compX t + 1 - x; have := hx; omega) (comp_next3 hx ht hb1 hb2 hb5) (by as_aux_lemma => kernel_rfl) (.cons_cons _ (.cons _ .slnil))
theorem rcompact_any (t : Nat) (w0 : World) (ht : t < M) : Calls Try.prog 36 #[(U t)] w0 (fun ε w' => ε = .returned (.int .u32 ((compN t : Nat) : Int)) ∧ Below w0.heap.size w0 w') := rcompact_w t ht w0
theorem work_w_r1 (t : Nat) (w0 : World) : Reg Try.prog 0 (regOps Try.f37 0) false 30 [(0, (U t))] w0 [] (fun _ => True)
    (fun ρ => [(1, (.pointer (some ⟨nb ρ 0, 0, none⟩))), (2, (.pointer (some ⟨nb ρ 1, 0, none⟩)))])
    (fun ρ => [(nb ρ 0, (.cells (cU t) 24 (0, 0))), (nb ρ 1, (.cells (cU 0) 24 (0, 0)))]) := by
  refine reg_seq [0, 1] [1, 2] 2
    (fun ρ ι => ([(.pointer (some ⟨nb ρ 0, 0, none⟩)), (.pointer (some ⟨nb ρ 1, 0, none⟩))] : List Value).getD ι undef)
    (fun ρ ι => ([{ news := [(nb ρ 0, (.cells (cU t) 24 (0, 0)))] }, { news := [(nb ρ 1, (.cells (cU 0) 24 (0, 0)))] }] : List Eff).getD ι {})
    (by as_aux_lemma => kernel_rfl) (by as_aux_lemma => kernel_rfl) (fun _ => by as_aux_lemma => kernel_rfl) (fun _ => by as_aux_lemma => kernel_rfl) ⟨⟨trivial, ?_⟩, ?_⟩
  · exact o_run 0 [] [] (fun _ _ => []) (fun _ _ => by as_aux_lemma => kernel_rfl)
  · exact o_run 1 [] [] (fun _ _ => []) (fun _ _ => by as_aux_lemma => kernel_rfl)
theorem work_w_r2 (t : Nat) (ht : t < M) (ρ1 : Nat → Orc) (w0 : World) : Reg Try.prog 1 (regOps Try.f37 1) false 30 [(1, (.pointer (some ⟨nb ρ1 0, 0, none⟩))), (2, (.pointer (some ⟨nb ρ1 1, 0, none⟩)))] w0 [(nb ρ1 0, (.cells (cU t) 24 (0, 0))), (nb ρ1 1, (.cells (cU 0) 24 (0, 0)))] (fun _ => True)
    (fun _ => [(1, (.pointer (some ⟨nb ρ1 0, 0, none⟩))), (2, (.pointer (some ⟨nb ρ1 1, 0, none⟩))), (10, (.bool (decide (t = 0))))])
    (fun _ => [(nb ρ1 0, (.cells (cU t) 24 (0, 0))), (nb ρ1 1, (.cells (cU 0) 24 (0, 0)))]) := by
  refine reg_seq [0, 1, 3] [1, 2, 10] 3
    (fun _ ι => ([(U t), (U 0), (.bool (decide (t = 0)))] : List Value).getD ι undef)
    (fun _ ι => ([{}, {}, {}] : List Eff).getD ι {})
    (by as_aux_lemma => kernel_rfl) (by as_aux_lemma => kernel_rfl) (fun _ => by as_aux_lemma => kernel_rfl) (fun _ => by as_aux_lemma => kernel_rfl) ⟨⟨⟨trivial, ?_⟩, ?_⟩, ?_⟩
  · exact o_run 0 [0] [] (fun _ _ => [nb ρ1 0, nb ρ1 0, nb ρ1 0, nb ρ1 0]) (fun _ _ => by as_aux_lemma => kernel_rfl)
  · exact o_run 1 [] [] (fun _ _ => []) (fun _ _ => by as_aux_lemma => kernel_rfl)
  · exact o_bin 2 .eql 24 (fun _ => (U t)) (fun _ => (U 0)) (fun _ => (.bool (decide (t = 0)))) (fun _ => by as_aux_lemma => kernel_rfl) (fun _ _ _ _ => by as_aux_lemma => kernel_rfl) (fun _ _ => eqlU t 0 ht (by decide +kernel) _)
theorem work_w_r3 (t : Nat) (ρ1 : Nat → Orc) (w0 : World) : Reg Try.prog 2 (regOps Try.f37 2) false 30 [(1, (.pointer (some ⟨nb ρ1 0, 0, none⟩))), (2, (.pointer (some ⟨nb ρ1 1, 0, none⟩))), (10, (.bool true))] w0 [(nb ρ1 0, (.cells (cU t) 24 (0, 0))), (nb ρ1 1, (.cells (cU 0) 24 (0, 0)))] (fun _ => True)
    (fun _ => [(1, (.pointer (some ⟨nb ρ1 0, 0, none⟩))), (2, (.pointer (some ⟨nb ρ1 1, 0, none⟩)))])
    (fun _ => [(nb ρ1 0, (.cells (cU t) 24 (0, 0))), (nb ρ1 1, (.cells (cU (M - 1 - 0)) 24 (0, 0)))]) := by
  refine reg_seq [0, 1, 3] [1, 2] 3
    (fun _ ι => ([(U 0), (U (M - 1 - 0)), undef] : List Value).getD ι undef)
    (fun _ ι => ([{}, {}, { puts := [(1, (.cells (cU (M - 1 - 0)) 24 (0, 0)))] }] : List Eff).getD ι {})
    (by as_aux_lemma => kernel_rfl) (by as_aux_lemma => kernel_rfl) (fun _ => by as_aux_lemma => kernel_rfl) (fun _ => by as_aux_lemma => kernel_rfl) ⟨⟨⟨trivial, ?_⟩, ?_⟩, ?_⟩
  · exact o_run 0 [] [] (fun _ _ => []) (fun _ _ => by as_aux_lemma => kernel_rfl)
  · exact o_call 1 72 (fun _ => #[(U 0)]) (fun _ => (U (M - 1 - 0))) (fun _ _ => by as_aux_lemma => kernel_rfl) (fun _ w => (fun w => not_any 0 w (by decide +kernel)) w)
  · exact o_run 2 [1] [] (fun _ _ => [nb ρ1 1, nb ρ1 1, nb ρ1 1, nb ρ1 1]) (fun _ _ => by as_aux_lemma => kernel_rfl)
theorem work_w_r4 (t : Nat) (ht : t < M) (ρ1 : Nat → Orc) (w0 : World) : Reg Try.prog 3 (regOps Try.f37 3) true 30 [(1, (.pointer (some ⟨nb ρ1 0, 0, none⟩))), (2, (.pointer (some ⟨nb ρ1 1, 0, none⟩))), (10, (.bool false))] w0 [(nb ρ1 0, (.cells (cU t) 24 (0, 0))), (nb ρ1 1, (.cells (cU 0) 24 (0, 0)))] (fun _ => True)
    (fun ρ => [(2, (.pointer (some ⟨nb ρ1 1, 0, none⟩))), (3, (.pointer (some ⟨nb ρ 6, 0, none⟩))), (4, (.bool (decide (M ≤ t + 1))))])
    (fun ρ => [(nb ρ1 0, (.cells (cU t) 24 (0, 0))), (nb ρ1 1, (.cells (cU 0) 24 (0, 0))), (nb ρ 6, (.cells (cU ((t + 1) % M)) 24 (0, 0)))]) := by
  refine reg_drawn [0, 0, 3, 7, 15, 15, 0, 95, 255] [2, 3, 4] 9
    (fun ρ ι => ([(U t), (U 1), (.tuple #[(U ((t + 1) % M)), (.bool (decide (M ≤ t + 1)))]), (.tuple #[(U ((t + 1) % M)), (.bool (decide (M ≤ t + 1)))]), (U ((t + 1) % M)), (.bool (decide (M ≤ t + 1))), (.pointer (some ⟨nb ρ 6, 0, none⟩)), undef, (.bool (decide (M ≤ t + 1)))] : List Value).getD ι undef)
    (fun ρ ι => ([{}, {}, {}, {}, {}, {}, { news := [(nb ρ 6, (.cells (cU 0) 24 (0, 0)))] }, { puts := [(50, (.cells (cU ((t + 1) % M)) 24 (0, 0)))] }, {}] : List Eff).getD ι {})
    (by as_aux_lemma => kernel_rfl) (by as_aux_lemma => kernel_rfl) (by as_aux_lemma => kernel_rfl) (fun _ => by as_aux_lemma => kernel_rfl) (fun _ => by as_aux_lemma => kernel_rfl) ⟨⟨⟨⟨⟨⟨⟨⟨⟨trivial, ?_⟩, ?_⟩, ?_⟩, ?_⟩, ?_⟩, ?_⟩, ?_⟩, ?_⟩, ?_⟩
  · exact o_run 0 [0] [] (fun _ _ => [nb ρ1 0, nb ρ1 0, nb ρ1 0, nb ρ1 0]) (fun _ _ => by as_aux_lemma => kernel_rfl)
  · exact o_call 1 60 (fun _ => #[(.int .u64 1)]) (fun _ => (U 1)) (fun _ _ => by as_aux_lemma => kernel_rfl) (fun _ w => (fun w => fromuint_lit 1 w (by decide)) w)
  · exact o_call 2 73 (fun _ => #[(U t), (U 1)]) (fun _ => (.tuple #[(U ((t + 1) % M)), (.bool (decide (M ≤ t + 1)))])) (fun _ _ => by as_aux_lemma => kernel_rfl) (fun _ w => (fun w => add_any t 1 w ht (by decide +kernel)) w)
  · exact o_run 3 [] [] (fun _ _ => []) (fun _ _ => by as_aux_lemma => kernel_rfl)
  · exact o_run 4 [] [] (fun _ _ => []) (fun _ _ => by as_aux_lemma => kernel_rfl)
  · exact o_run 5 [] [] (fun _ _ => []) (fun _ _ => by as_aux_lemma => kernel_rfl)
  · exact o_run 6 [] [] (fun _ _ => []) (fun _ _ => by as_aux_lemma => kernel_rfl)
  · exact o_run 7 [50] [] (fun ρ _ => [nb ρ 6, nb ρ 6, nb ρ 6, nb ρ 6]) (fun _ _ => by as_aux_lemma => kernel_rfl)
  · exact o_run 8 [] [] (fun _ _ => []) (fun _ _ => by as_aux_lemma => kernel_rfl)
theorem work_w_r5 (t : Nat) (ρ1 : Nat → Orc) (ρ4 : Nat → Orc) (w0 : World) : Reg Try.prog 4 (regOps Try.f37 4) false 30 [(2, (.pointer (some ⟨nb ρ1 1, 0, none⟩))), (3, (.pointer (some ⟨nb ρ4 6, 0, none⟩))), (4, (.bool (decide (M ≤ t + 1))))] w0 [(nb ρ1 0, (.cells (cU t) 24 (0, 0))), (nb ρ1 1, (.cells (cU 0) 24 (0, 0))), (nb ρ4 6, (.cells (cU ((t + 1) % M)) 24 (0, 0)))] (fun _ => True)
    (fun _ => [(2, (.pointer (some ⟨nb ρ1 1, 0, none⟩))), (3, (.pointer (some ⟨nb ρ4 6, 0, none⟩))), (19, (.bool (decide (M ≤ t + 1))))])
    (fun _ => [(nb ρ1 0, (.cells (cU t) 24 (0, 0))), (nb ρ1 1, (.cells (cU 0) 24 (0, 0))), (nb ρ4 6, (.cells (cU ((t + 1) % M)) 24 (0, 0)))]) := by
  refine reg_seq [0] [2, 3, 19] 1
    (fun _ ι => ([(.bool (decide (M ≤ t + 1)))] : List Value).getD ι undef)
    (fun _ ι => ([{}] : List Eff).getD ι {})
    (by as_aux_lemma => kernel_rfl) (by as_aux_lemma => kernel_rfl) (fun _ => by as_aux_lemma => kernel_rfl) (fun _ => by as_aux_lemma => kernel_rfl) ⟨trivial, ?_⟩
  · exact o_run 0 [] [] (fun _ _ => []) (fun _ _ => by as_aux_lemma => kernel_rfl)
theorem work_w_r6 (t : Nat) (ρ1 : Nat → Orc) (ρ4 : Nat → Orc) (w0 : World) : Reg Try.prog 5 (regOps Try.f37 5) false 30 [(2, (.pointer (some ⟨nb ρ1 1, 0, none⟩))), (3, (.pointer (some ⟨nb ρ4 6, 0, none⟩))), (19, (.bool true))] w0 [(nb ρ1 0, (.cells (cU t) 24 (0, 0))), (nb ρ1 1, (.cells (cU 0) 24 (0, 0))), (nb ρ4 6, (.cells (cU ((t + 1) % M)) 24 (0, 0)))] (fun _ => True)
    (fun _ => [(2, (.pointer (some ⟨nb ρ1 1, 0, none⟩))), (3, (.pointer (some ⟨nb ρ4 6, 0, none⟩)))])
    (fun _ => [(nb ρ1 0, (.cells (cU t) 24 (0, 0))), (nb ρ1 1, (.cells (cU 1) 24 (0, 0))), (nb ρ4 6, (.cells (cU ((t + 1) % M)) 24 (0, 0)))]) := by
  refine reg_seq [0, 1] [2, 3] 2
    (fun _ ι => ([(U 1), undef] : List Value).getD ι undef)
    (fun _ ι => ([{}, { puts := [(1, (.cells (cU 1) 24 (0, 0)))] }] : List Eff).getD ι {})
    (by as_aux_lemma => kernel_rfl) (by as_aux_lemma => kernel_rfl) (fun _ => by as_aux_lemma => kernel_rfl) (fun _ => by as_aux_lemma => kernel_rfl) ⟨⟨trivial, ?_⟩, ?_⟩
  · exact o_call 0 60 (fun _ => #[(.int .u64 1)]) (fun _ => (U 1)) (fun _ _ => by as_aux_lemma => kernel_rfl) (fun _ w => (fun w => fromuint_lit 1 w (by decide)) w)
  · exact o_run 1 [1] [] (fun _ _ => [nb ρ1 1, nb ρ1 1, nb ρ1 1, nb ρ1 1]) (fun _ _ => by as_aux_lemma => kernel_rfl)
theorem work_w_r7 (t : Nat) (ρ1 : Nat → Orc) (ρ4 : Nat → Orc) (w0 : World) : Reg Try.prog 6 (regOps Try.f37 6) true 30 [(2, (.pointer (some ⟨nb ρ1 1, 0, none⟩))), (3, (.pointer (some ⟨nb ρ4 6, 0, none⟩))), (19, (.bool false))] w0 [(nb ρ1 0, (.cells (cU t) 24 (0, 0))), (nb ρ1 1, (.cells (cU 0) 24 (0, 0))), (nb ρ4 6, (.cells (cU ((t + 1) % M)) 24 (0, 0)))] (fun _ => True)
    (fun ρ => [(2, (.pointer (some ⟨nb ρ1 1, 0, none⟩))), (5, (.pointer (some ⟨nb ρ 8, 0, none⟩)))])
    (fun ρ => [(nb ρ1 0, (.cells (cU t) 24 (0, 0))), (nb ρ1 1, (.cells (cU 0) 24 (0, 0))), (nb ρ4 6, (.cells (cU ((t + 1) % M)) 24 (0, 0))), (nb ρ 8, (.cells (cU (divQ 1 0 ((t + 1) % M))) 24 (0, 0))), (nb ρ 9, (.cells (cU (divR 1 0 ((t + 1) % M))) 24 (0, 0)))]) := by
  refine reg_drawn [0, 0, 0, 7, 15, 31, 31, 31, 0, 0, 831, 1919, 4095] [2, 5] 13
    (fun ρ ι => ([(U 1), (U 0), (U ((t + 1) % M)), (.tuple #[(U (divQ 1 0 ((t + 1) % M))), (U (divR 1 0 ((t + 1) % M))), (.bool (decide (1 < ((t + 1) % M))))]), (.tuple #[(U (divQ 1 0 ((t + 1) % M))), (U (divR 1 0 ((t + 1) % M))), (.bool (decide (1 < ((t + 1) % M))))]), (U (divQ 1 0 ((t + 1) % M))), (U (divR 1 0 ((t + 1) % M))), (.bool (decide (1 < ((t + 1) % M)))), (.pointer (some ⟨nb ρ 8, 0, none⟩)), (.pointer (some ⟨nb ρ 9, 0, none⟩)), undef, undef, (.bool (decide (1 < ((t + 1) % M))))] : List Value).getD ι undef)
    (fun ρ ι => ([{}, {}, {}, {}, {}, {}, {}, {}, { news := [(nb ρ 8, (.cells (cU 0) 24 (0, 0)))] }, { news := [(nb ρ 9, (.cells (cU 0) 24 (0, 0)))] }, { puts := [(67, (.cells (cU (divQ 1 0 ((t + 1) % M))) 24 (0, 0)))] }, { puts := [(75, (.cells (cU (divR 1 0 ((t + 1) % M))) 24 (0, 0)))] }, {}] : List Eff).getD ι {})
    (by as_aux_lemma => kernel_rfl) (by as_aux_lemma => kernel_rfl) (by as_aux_lemma => kernel_rfl) (fun _ => by as_aux_lemma => kernel_rfl) (fun _ => by as_aux_lemma => kernel_rfl) ⟨⟨⟨⟨⟨⟨⟨⟨⟨⟨⟨⟨⟨trivial, ?_⟩, ?_⟩, ?_⟩, ?_⟩, ?_⟩, ?_⟩, ?_⟩, ?_⟩, ?_⟩, ?_⟩, ?_⟩, ?_⟩, ?_⟩
  · exact o_call 0 60 (fun _ => #[(.int .u64 1)]) (fun _ => (U 1)) (fun _ _ => by as_aux_lemma => kernel_rfl) (fun _ w => (fun w => fromuint_lit 1 w (by decide)) w)
  · exact o_run 1 [] [] (fun _ _ => []) (fun _ _ => by as_aux_lemma => kernel_rfl)
  · exact o_run 2 [2] [] (fun _ _ => [nb ρ4 6, nb ρ4 6, nb ρ4 6, nb ρ4 6]) (fun _ _ => by as_aux_lemma => kernel_rfl)
  · exact o_call 3 74 (fun _ => #[(U 1), (U 0), (U ((t + 1) % M))]) (fun _ => (.tuple #[(U (divQ 1 0 ((t + 1) % M))), (U (divR 1 0 ((t + 1) % M))), (.bool (decide (1 < ((t + 1) % M))))])) (fun _ _ => by as_aux_lemma => kernel_rfl) (fun _ w => (fun w => div_any 1 0 ((t + 1) % M) w (by decide +kernel) (by decide +kernel) (modM_lt _)) w)
  · exact o_run 4 [] [] (fun _ _ => []) (fun _ _ => by as_aux_lemma => kernel_rfl)
  · exact o_run 5 [] [] (fun _ _ => []) (fun _ _ => by as_aux_lemma => kernel_rfl)
  · exact o_run 6 [] [] (fun _ _ => []) (fun _ _ => by as_aux_lemma => kernel_rfl)
  · exact o_run 7 [] [] (fun _ _ => []) (fun _ _ => by as_aux_lemma => kernel_rfl)
  · exact o_run 8 [] [] (fun _ _ => []) (fun _ _ => by as_aux_lemma => kernel_rfl)
  · exact o_run 9 [] [] (fun _ _ => []) (fun _ _ => by as_aux_lemma => kernel_rfl)
  · exact o_run 10 [67] [] (fun ρ _ => [nb ρ 8, nb ρ 8, nb ρ 8, nb ρ 8]) (fun _ _ => by as_aux_lemma => kernel_rfl)
  · exact o_run 11 [75] [] (fun ρ _ => [nb ρ 9, nb ρ 9, nb ρ 9, nb ρ 9]) (fun _ _ => by as_aux_lemma => kernel_rfl)
  · exact o_run 12 [] [] (fun _ _ => []) (fun _ _ => by as_aux_lemma => kernel_rfl)
theorem work_w_r8 (t : Nat) (ρ1 : Nat → Orc) (ρ4 : Nat → Orc) (ρ7 : Nat → Orc) (w0 : World) : Reg Try.prog 7 (regOps Try.f37 7) false 30 [(2, (.pointer (some ⟨nb ρ1 1, 0, none⟩))), (5, (.pointer (some ⟨nb ρ7 8, 0, none⟩)))] w0 [(nb ρ1 0, (.cells (cU t) 24 (0, 0))), (nb ρ1 1, (.cells (cU 0) 24 (0, 0))), (nb ρ4 6, (.cells (cU ((t + 1) % M)) 24 (0, 0))), (nb ρ7 8, (.cells (cU (divQ 1 0 ((t + 1) % M))) 24 (0, 0))), (nb ρ7 9, (.cells (cU (divR 1 0 ((t + 1) % M))) 24 (0, 0)))] (fun _ => True)
    (fun _ => [(2, (.pointer (some ⟨nb ρ1 1, 0, none⟩)))])
    (fun _ => [(nb ρ1 0, (.cells (cU t) 24 (0, 0))), (nb ρ1 1, (.cells (cU (divQ 1 0 ((t + 1) % M))) 24 (0, 0))), (nb ρ4 6, (.cells (cU ((t + 1) % M)) 24 (0, 0))), (nb ρ7 8, (.cells (cU (divQ 1 0 ((t + 1) % M))) 24 (0, 0))), (nb ρ7 9, (.cells (cU (divR 1 0 ((t + 1) % M))) 24 (0, 0)))]) := by
  refine reg_seq [0, 1] [2] 2
    (fun _ ι => ([(U (divQ 1 0 ((t + 1) % M))), undef] : List Value).getD ι undef)
    (fun _ ι => ([{}, { puts := [(1, (.cells (cU (divQ 1 0 ((t + 1) % M))) 24 (0, 0)))] }] : List Eff).getD ι {})
    (by as_aux_lemma => kernel_rfl) (by as_aux_lemma => kernel_rfl) (fun _ => by as_aux_lemma => kernel_rfl) (fun _ => by as_aux_lemma => kernel_rfl) ⟨⟨trivial, ?_⟩, ?_⟩
  · exact o_run 0 [3] [] (fun _ _ => [nb ρ7 8, nb ρ7 8, nb ρ7 8, nb ρ7 8]) (fun _ _ => by as_aux_lemma => kernel_rfl)
  · exact o_run 1 [1] [] (fun _ _ => [nb ρ1 1, nb ρ1 1, nb ρ1 1, nb ρ1 1]) (fun _ _ => by as_aux_lemma => kernel_rfl)
theorem work_w (t : Nat) (ht : t < M) (w0 : World) : Calls Try.prog 37 #[(U t)] w0 (fun ε w' => ε = .returned (U (workN t)) ∧ Below w0.heap.size w0 w') := by
  refine Calls.of_ok (n := 30) (F := fun _ => True) Try.func37 rfl rfl rfl (by simp) (persTrue (fun _ => trivial)) ?_
  refine ok_seq_r (by as_aux_lemma => kernel_rfl) (work_w_r1 t _) (fun ρ1 => ?_)
  refine ok_seq ?_
  refine ok_seq_r (by as_aux_lemma => kernel_rfl) (work_w_r2 t ht ρ1 _) (fun _ => ?_)
  refine ok_cond (b := decide (t = 0)) (by as_aux_lemma => kernel_rfl) (fun hb1 => ?_) (fun hb1 => ?_)
  ·
    rw [hb1]
    refine ok_seq_r (by as_aux_lemma => kernel_rfl) (work_w_r3 t ρ1 _) (fun _ => ?_)
    refine ok_ret ?_
    refine mt_then_r ?_
    exact meets_ret (v := (U (M - 1 - 0))) [1, 1, 1, 1] (dup [nb ρ1 1, nb ρ1 1, nb ρ1 1, nb ρ1 1]) (by as_aux_lemma => kernel_rfl) (by as_aux_lemma => kernel_rfl) (eqs_dup _) (fun _ hS => ⟨congrArg (fun x => Ending.returned (U x)) (work_0 hb1), hS.below⟩)
  ·
    rw [hb1]
    refine ok_skip ?_
    refine mt_then ?_
    refine ok_seq_r (by as_aux_lemma => kernel_rfl) (work_w_r4 t ht ρ1 _) (fun ρ4 => ?_)
    refine ok_seq ?_
    refine ok_seq_r (by as_aux_lemma => kernel_rfl) (work_w_r5 t ρ1 ρ4 _) (fun _ => ?_)
    refine ok_cond (b := decide (M ≤ t + 1)) (by as_aux_lemma => kernel_rfl) (fun hb2 => ?_) (fun hb2 => ?_)
    ·
      rw [hb2]
      refine ok_seq_r (by as_aux_lemma => kernel_rfl) (work_w_r6 t ρ1 ρ4 _) (fun _ => ?_)
      refine ok_ret ?_
      refine mt_then_r ?_
      exact meets_ret (v := (U 1)) [1, 1, 1, 1] (dup [nb ρ1 1, nb ρ1 1, nb ρ1 1, nb ρ1 1]) (by as_aux_lemma => kernel_rfl) (by as_aux_lemma => kernel_rfl) (eqs_dup _) (fun _ hS => ⟨congrArg (fun x => Ending.returned (U x)) (work_1 hb1 hb2), hS.below⟩)
    ·
      rw [hb2]
      refine ok_skip ?_
      refine mt_then ?_
      refine ok_seq_r (by as_aux_lemma => kernel_rfl) (work_w_r7 t ρ1 ρ4 _) (fun ρ7 => ?_)
      refine ok_seq_r (by as_aux_lemma => kernel_rfl) (work_w_r8 t ρ1 ρ4 ρ7 _) (fun _ => ?_)
      refine ok_ret ?_
      exact meets_ret (v := (U (divQ 1 0 ((t + 1) % M)))) [1, 1, 1, 1] (dup [nb ρ1 1, nb ρ1 1, nb ρ1 1, nb ρ1 1]) (by as_aux_lemma => kernel_rfl) (by as_aux_lemma => kernel_rfl) (eqs_dup _) (fun _ hS => ⟨congrArg (fun x => Ending.returned (U x)) (work_2 ht hb1 hb2), hS.below⟩)
theorem work_any (t : Nat) (w0 : World) (ht : t < M) : Calls Try.prog 37 #[(U t)] w0 (fun ε w' => ε = .returned (U (workN t)) ∧ Below w0.heap.size w0 w') := work_w t ht w0
theorem total_w_r1 (a : Nat) (b : Nat) (w0 : World) : Reg Try.prog 0 (regOps Try.f47 0) false 17 [(0, (U a)), (1, (U b))] w0 [] (fun _ => True)
    (fun ρ => [(2, (.pointer (some ⟨nb ρ 0, 0, none⟩))), (3, (.pointer (some ⟨nb ρ 1, 0, none⟩))), (4, (.pointer (some ⟨nb ρ 2, 0, none⟩)))])
    (fun ρ => [(nb ρ 0, (.cells (cU a) 24 (0, 0))), (nb ρ 1, (.cells (cU b) 24 (0, 0))), (nb ρ 2, (.cells (cU 0) 24 (0, 0)))]) := by
  refine reg_seq [0, 1, 3] [2, 3, 4] 3
    (fun ρ ι => ([(.pointer (some ⟨nb ρ 0, 0, none⟩)), (.pointer (some ⟨nb ρ 1, 0, none⟩)), (.pointer (some ⟨nb ρ 2, 0, none⟩))] : List Value).getD ι undef)
    (fun ρ ι => ([{ news := [(nb ρ 0, (.cells (cU a) 24 (0, 0)))] }, { news := [(nb ρ 1, (.cells (cU b) 24 (0, 0)))] }, { news := [(nb ρ 2, (.cells (cU 0) 24 (0, 0)))] }] : List Eff).getD ι {})
    (by as_aux_lemma => kernel_rfl) (by as_aux_lemma => kernel_rfl) (fun _ => by as_aux_lemma => kernel_rfl) (fun _ => by as_aux_lemma => kernel_rfl) ⟨⟨⟨trivial, ?_⟩, ?_⟩, ?_⟩
  · exact o_run 0 [] [] (fun _ _ => []) (fun _ _ => by as_aux_lemma => kernel_rfl)
  · exact o_run 1 [] [] (fun _ _ => []) (fun _ _ => by as_aux_lemma => kernel_rfl)
  · exact o_run 2 [] [] (fun _ _ => []) (fun _ _ => by as_aux_lemma => kernel_rfl)
theorem total_w_r2 (a : Nat) (b : Nat) (ha : a < M) (hb : b < M) (ρ1 : Nat → Orc) (w0 : World) : Reg Try.prog 1 (regOps Try.f47 1) false 17 [(2, (.pointer (some ⟨nb ρ1 0, 0, none⟩))), (3, (.pointer (some ⟨nb ρ1 1, 0, none⟩))), (4, (.pointer (some ⟨nb ρ1 2, 0, none⟩)))] w0 [(nb ρ1 0, (.cells (cU a) 24 (0, 0))), (nb ρ1 1, (.cells (cU b) 24 (0, 0))), (nb ρ1 2, (.cells (cU 0) 24 (0, 0)))] (fun _ => True)
    (fun ρ => [(4, (.pointer (some ⟨nb ρ1 2, 0, none⟩))), (5, (.pointer (some ⟨nb ρ 6, 0, none⟩))), (6, (.bool (decide (M ≤ a + b))))])
    (fun ρ => [(nb ρ1 0, (.cells (cU a) 24 (0, 0))), (nb ρ1 1, (.cells (cU b) 24 (0, 0))), (nb ρ1 2, (.cells (cU 0) 24 (0, 0))), (nb ρ 6, (.cells (cU ((a + b) % M)) 24 (0, 0)))]) := by
  refine reg_seq [0, 1, 3, 7, 15, 31, 63, 127, 255] [4, 5, 6] 9
    (fun ρ ι => ([(U a), (U b), (.tuple #[(U ((a + b) % M)), (.bool (decide (M ≤ a + b)))]), (.tuple #[(U ((a + b) % M)), (.bool (decide (M ≤ a + b)))]), (U ((a + b) % M)), (.bool (decide (M ≤ a + b))), (.pointer (some ⟨nb ρ 6, 0, none⟩)), undef, (.bool (decide (M ≤ a + b)))] : List Value).getD ι undef)
    (fun ρ ι => ([{}, {}, {}, {}, {}, {}, { news := [(nb ρ 6, (.cells (cU 0) 24 (0, 0)))] }, { puts := [(51, (.cells (cU ((a + b) % M)) 24 (0, 0)))] }, {}] : List Eff).getD ι {})
    (by as_aux_lemma => kernel_rfl) (by as_aux_lemma => kernel_rfl) (fun _ => by as_aux_lemma => kernel_rfl) (fun _ => by as_aux_lemma => kernel_rfl) ⟨⟨⟨⟨⟨⟨⟨⟨⟨trivial, ?_⟩, ?_⟩, ?_⟩, ?_⟩, ?_⟩, ?_⟩, ?_⟩, ?_⟩, ?_⟩
  · exact o_run 0 [0] [] (fun _ _ => [nb ρ1 0, nb ρ1 0, nb ρ1 0, nb ρ1 0]) (fun _ _ => by as_aux_lemma => kernel_rfl)
  · exact o_run 1 [1] [] (fun _ _ => [nb ρ1 1, nb ρ1 1, nb ρ1 1, nb ρ1 1]) (fun _ _ => by as_aux_lemma => kernel_rfl)
  · exact o_call 2 73 (fun _ => #[(U a), (U b)]) (fun _ => (.tuple #[(U ((a + b) % M)), (.bool (decide (M ≤ a + b)))])) (fun _ _ => by as_aux_lemma => kernel_rfl) (fun _ w => (fun w => add_any a b w ha hb) w)
  · exact o_run 3 [] [] (fun _ _ => []) (fun _ _ => by as_aux_lemma => kernel_rfl)
  · exact o_run 4 [] [] (fun _ _ => []) (fun _ _ => by as_aux_lemma => kernel_rfl)
  · exact o_run 5 [] [] (fun _ _ => []) (fun _ _ => by as_aux_lemma => kernel_rfl)
  · exact o_run 6 [] [] (fun _ _ => []) (fun _ _ => by as_aux_lemma => kernel_rfl)
  · exact o_run 7 [51] [] (fun ρ _ => [nb ρ 6, nb ρ 6, nb ρ 6, nb ρ 6]) (fun _ _ => by as_aux_lemma => kernel_rfl)
  · exact o_run 8 [] [] (fun _ _ => []) (fun _ _ => by as_aux_lemma => kernel_rfl)
theorem total_w_r3 (a : Nat) (b : Nat) (ρ1 : Nat → Orc) (ρ2 : Nat → Orc) (w0 : World) : Reg Try.prog 2 (regOps Try.f47 2) false 17 [(4, (.pointer (some ⟨nb ρ1 2, 0, none⟩))), (5, (.pointer (some ⟨nb ρ2 6, 0, none⟩))), (6, (.bool (decide (M ≤ a + b))))] w0 [(nb ρ1 0, (.cells (cU a) 24 (0, 0))), (nb ρ1 1, (.cells (cU b) 24 (0, 0))), (nb ρ1 2, (.cells (cU 0) 24 (0, 0))), (nb ρ2 6, (.cells (cU ((a + b) % M)) 24 (0, 0)))] (fun _ => True)
    (fun _ => [(4, (.pointer (some ⟨nb ρ1 2, 0, none⟩))), (5, (.pointer (some ⟨nb ρ2 6, 0, none⟩))), (13, (.bool (decide (M ≤ a + b))))])
    (fun _ => [(nb ρ1 0, (.cells (cU a) 24 (0, 0))), (nb ρ1 1, (.cells (cU b) 24 (0, 0))), (nb ρ1 2, (.cells (cU 0) 24 (0, 0))), (nb ρ2 6, (.cells (cU ((a + b) % M)) 24 (0, 0)))]) := by
  refine reg_seq [0] [4, 5, 13] 1
    (fun _ ι => ([(.bool (decide (M ≤ a + b)))] : List Value).getD ι undef)
    (fun _ ι => ([{}] : List Eff).getD ι {})
    (by as_aux_lemma => kernel_rfl) (by as_aux_lemma => kernel_rfl) (fun _ => by as_aux_lemma => kernel_rfl) (fun _ => by as_aux_lemma => kernel_rfl) ⟨trivial, ?_⟩
  · exact o_run 0 [] [] (fun _ _ => []) (fun _ _ => by as_aux_lemma => kernel_rfl)
theorem total_w_r4 (a : Nat) (b : Nat) (ρ1 : Nat → Orc) (ρ2 : Nat → Orc) (w0 : World) : Reg Try.prog 3 (regOps Try.f47 3) false 17 [(4, (.pointer (some ⟨nb ρ1 2, 0, none⟩))), (5, (.pointer (some ⟨nb ρ2 6, 0, none⟩))), (13, (.bool true))] w0 [(nb ρ1 0, (.cells (cU a) 24 (0, 0))), (nb ρ1 1, (.cells (cU b) 24 (0, 0))), (nb ρ1 2, (.cells (cU 0) 24 (0, 0))), (nb ρ2 6, (.cells (cU ((a + b) % M)) 24 (0, 0)))] (fun _ => True)
    (fun _ => [(4, (.pointer (some ⟨nb ρ1 2, 0, none⟩))), (5, (.pointer (some ⟨nb ρ2 6, 0, none⟩)))])
    (fun _ => [(nb ρ1 0, (.cells (cU a) 24 (0, 0))), (nb ρ1 1, (.cells (cU b) 24 (0, 0))), (nb ρ1 2, (.cells (cU (M - 1 - 0)) 24 (0, 0))), (nb ρ2 6, (.cells (cU ((a + b) % M)) 24 (0, 0)))]) := by
  refine reg_seq [0, 1, 3] [4, 5] 3
    (fun _ ι => ([(U 0), (U (M - 1 - 0)), undef] : List Value).getD ι undef)
    (fun _ ι => ([{}, {}, { puts := [(2, (.cells (cU (M - 1 - 0)) 24 (0, 0)))] }] : List Eff).getD ι {})
    (by as_aux_lemma => kernel_rfl) (by as_aux_lemma => kernel_rfl) (fun _ => by as_aux_lemma => kernel_rfl) (fun _ => by as_aux_lemma => kernel_rfl) ⟨⟨⟨trivial, ?_⟩, ?_⟩, ?_⟩
  · exact o_run 0 [] [] (fun _ _ => []) (fun _ _ => by as_aux_lemma => kernel_rfl)
  · exact o_call 1 72 (fun _ => #[(U 0)]) (fun _ => (U (M - 1 - 0))) (fun _ _ => by as_aux_lemma => kernel_rfl) (fun _ w => (fun w => not_any 0 w (by decide +kernel)) w)
  · exact o_run 2 [2] [] (fun _ _ => [nb ρ1 2, nb ρ1 2, nb ρ1 2, nb ρ1 2]) (fun _ _ => by as_aux_lemma => kernel_rfl)
theorem total_w_r5 (a : Nat) (b : Nat) (ρ1 : Nat → Orc) (ρ2 : Nat → Orc) (w0 : World) : Reg Try.prog 4 (regOps Try.f47 4) false 17 [(4, (.pointer (some ⟨nb ρ1 2, 0, none⟩))), (5, (.pointer (some ⟨nb ρ2 6, 0, none⟩))), (13, (.bool false))] w0 [(nb ρ1 0, (.cells (cU a) 24 (0, 0))), (nb ρ1 1, (.cells (cU b) 24 (0, 0))), (nb ρ1 2, (.cells (cU 0) 24 (0, 0))), (nb ρ2 6, (.cells (cU ((a + b) % M)) 24 (0, 0)))] (fun _ => True)
    (fun _ => [(4, (.pointer (some ⟨nb ρ1 2, 0, none⟩)))])
    (fun _ => [(nb ρ1 0, (.cells (cU a) 24 (0, 0))), (nb ρ1 1, (.cells (cU b) 24 (0, 0))), (nb ρ1 2, (.cells (cU ((a + b) % M)) 24 (0, 0))), (nb ρ2 6, (.cells (cU ((a + b) % M)) 24 (0, 0)))]) := by
  refine reg_seq [0, 1] [4] 2
    (fun _ ι => ([(U ((a + b) % M)), undef] : List Value).getD ι undef)
    (fun _ ι => ([{}, { puts := [(2, (.cells (cU ((a + b) % M)) 24 (0, 0)))] }] : List Eff).getD ι {})
    (by as_aux_lemma => kernel_rfl) (by as_aux_lemma => kernel_rfl) (fun _ => by as_aux_lemma => kernel_rfl) (fun _ => by as_aux_lemma => kernel_rfl) ⟨⟨trivial, ?_⟩, ?_⟩
  · exact o_run 0 [3] [] (fun _ _ => [nb ρ2 6, nb ρ2 6, nb ρ2 6, nb ρ2 6]) (fun _ _ => by as_aux_lemma => kernel_rfl)
  · exact o_run 1 [2] [] (fun _ _ => [nb ρ1 2, nb ρ1 2, nb ρ1 2, nb ρ1 2]) (fun _ _ => by as_aux_lemma => kernel_rfl)
theorem total_w (a : Nat) (b : Nat) (ha : a < M) (hb : b < M) (w0 : World) : Calls Try.prog 47 #[(U a), (U b)] w0 (fun ε w' => ε = .returned (U (totN a b)) ∧ Below w0.heap.size w0 w') := by
  refine Calls.of_ok (n := 17) (F := fun _ => True) Try.func47 rfl rfl rfl (by simp) (persTrue (fun _ => trivial)) ?_
  refine ok_seq_r (by as_aux_lemma => kernel_rfl) (total_w_r1 a b _) (fun ρ1 => ?_)
  refine ok_seq_r (by as_aux_lemma => kernel_rfl) (total_w_r2 a b ha hb ρ1 _) (fun ρ2 => ?_)
  refine ok_seq ?_
  refine ok_seq_r (by as_aux_lemma => kernel_rfl) (total_w_r3 a b ρ1 ρ2 _) (fun _ => ?_)
  refine ok_cond (b := decide (M ≤ a + b)) (by as_aux_lemma => kernel_rfl) (fun hb1 => ?_) (fun hb1 => ?_)
  ·
    rw [hb1]
    refine ok_seq_r (by as_aux_lemma => kernel_rfl) (total_w_r4 a b ρ1 ρ2 _) (fun _ => ?_)
    refine ok_ret ?_
    refine mt_then_r ?_
    exact meets_ret (v := (U (M - 1 - 0))) [2, 2, 2, 2] (dup [nb ρ1 2, nb ρ1 2, nb ρ1 2, nb ρ1 2]) (by as_aux_lemma => kernel_rfl) (by as_aux_lemma => kernel_rfl) (eqs_dup _) (fun _ hS => ⟨congrArg (fun x => Ending.returned (U x)) (tot_t hb1), hS.below⟩)
  ·
    rw [hb1]
    refine ok_skip ?_
    refine mt_then ?_
    refine ok_seq_r (by as_aux_lemma => kernel_rfl) (total_w_r5 a b ρ1 ρ2 _) (fun _ => ?_)
    refine ok_ret ?_
    exact meets_ret (v := (U ((a + b) % M))) [2, 2, 2, 2] (dup [nb ρ1 2, nb ρ1 2, nb ρ1 2, nb ρ1 2]) (by as_aux_lemma => kernel_rfl) (by as_aux_lemma => kernel_rfl) (eqs_dup _) (fun _ hS => ⟨congrArg (fun x => Ending.returned (U x)) (tot_f hb1), hS.below⟩)
theorem total_any (a : Nat) (b : Nat) (w0 : World) (ha : a < M) (hb : b < M) : Calls Try.prog 47 #[(U a), (U b)] w0 (fun ε w' => ε = .returned (U (totN a b)) ∧ Below w0.heap.size w0 w') := total_w a b ha hb w0
theorem meets_w_r1 (h : Nat) (b : Nat) (w0 : World) : Reg Try.prog 0 (regOps Try.f42 0) false 21 [(0, (.agg (hB h))), (1, (.int .u32 ((b : Nat) : Int)))] w0 [] (fun _ => True)
    (fun ρ => [(1, (.int .u32 ((b : Nat) : Int))), (2, (.pointer (some ⟨nb ρ 0, 0, none⟩))), (4, (.bool false))])
    (fun ρ => [(nb ρ 0, (.cells (hB h) 44 (0, 0)))]) := by
  refine reg_seq [0, 1] [1, 2, 4] 2
    (fun ρ ι => ([(.pointer (some ⟨nb ρ 0, 0, none⟩)), (.bool false)] : List Value).getD ι undef)
    (fun ρ ι => ([{ news := [(nb ρ 0, (.cells (hB h) 44 (0, 0)))] }, {}] : List Eff).getD ι {})
    (by as_aux_lemma => kernel_rfl) (by as_aux_lemma => kernel_rfl) (fun _ => by as_aux_lemma => kernel_rfl) (fun _ => by as_aux_lemma => kernel_rfl) ⟨⟨trivial, ?_⟩, ?_⟩
  · exact o_run 0 [] [] (fun _ _ => []) (fun _ _ => by as_aux_lemma => kernel_rfl)
  · exact o_run 1 [] [] (fun _ _ => []) (fun _ _ => by as_aux_lemma => kernel_rfl)
theorem meets_w_r2 (h : Nat) (b : Nat) (hb : b < 4294967296) (ρ1 : Nat → Orc) (w0 : World) : Reg Try.prog 1 (regOps Try.f42 1) false 21 [(1, (.int .u32 ((b : Nat) : Int))), (2, (.pointer (some ⟨nb ρ1 0, 0, none⟩))), (4, (.bool false))] w0 [(nb ρ1 0, (.cells (hB h) 44 (0, 0)))] (fun _ => True)
    (fun ρ => [(2, (.pointer (some ⟨nb ρ1 0, 0, none⟩))), (4, (.bool false)), (5, (.pointer (some ⟨nb ρ 5, 0, none⟩))), (6, (.int .i64 (expE b)))])
    (fun ρ => [(nb ρ1 0, (.cells (hB h) 44 (0, 0))), (nb ρ 5, (.cells (cU (expV b)) 24 (0, 0)))]) := by
  refine reg_seq [0, 1, 3, 7, 15, 31, 63, 127] [2, 4, 5, 6] 8
    (fun ρ ι => ([(.int .u32 ((b : Nat) : Int)), (.tuple #[(U (expV b)), (.int .i64 (expE b))]), (.tuple #[(U (expV b)), (.int .i64 (expE b))]), (U (expV b)), (.int .i64 (expE b)), (.pointer (some ⟨nb ρ 5, 0, none⟩)), undef, (.int .i64 (expE b))] : List Value).getD ι undef)
    (fun ρ ι => ([{}, {}, {}, {}, {}, { news := [(nb ρ 5, (.cells (cU 0) 24 (0, 0)))] }, { puts := [(41, (.cells (cU (expV b)) 24 (0, 0)))] }, {}] : List Eff).getD ι {})
    (by as_aux_lemma => kernel_rfl) (by as_aux_lemma => kernel_rfl) (fun _ => by as_aux_lemma => kernel_rfl) (fun _ => by as_aux_lemma => kernel_rfl) ⟨⟨⟨⟨⟨⟨⟨⟨trivial, ?_⟩, ?_⟩, ?_⟩, ?_⟩, ?_⟩, ?_⟩, ?_⟩, ?_⟩
  · exact o_run 0 [] [] (fun _ _ => []) (fun _ _ => by as_aux_lemma => kernel_rfl)
  · exact o_call 1 32 (fun _ => #[(.int .u32 ((b : Nat) : Int))]) (fun _ => (.tuple #[(U (expV b)), (.int .i64 (expE b))])) (fun _ _ => by as_aux_lemma => kernel_rfl) (fun _ w => (fun w => expand_any b w hb) w)
  · exact o_run 2 [] [] (fun _ _ => []) (fun _ _ => by as_aux_lemma => kernel_rfl)
  · exact o_run 3 [] [] (fun _ _ => []) (fun _ _ => by as_aux_lemma => kernel_rfl)
  · exact o_run 4 [] [] (fun _ _ => []) (fun _ _ => by as_aux_lemma => kernel_rfl)
  · exact o_run 5 [] [] (fun _ _ => []) (fun _ _ => by as_aux_lemma => kernel_rfl)
  · exact o_run 6 [41] [] (fun ρ _ => [nb ρ 5, nb ρ 5, nb ρ 5, nb ρ 5]) (fun _ _ => by as_aux_lemma => kernel_rfl)
  · exact o_run 7 [] [] (fun _ _ => []) (fun _ _ => by as_aux_lemma => kernel_rfl)
theorem meets_w_r3 (h : Nat) (b : Nat) (hh : h < M) (hb1 : (expB b) = true) (ρ1 : Nat → Orc) (ρ2 : Nat → Orc) (w0 : World) : Reg Try.prog 2 (regOps Try.f42 2) true 21 [(2, (.pointer (some ⟨nb ρ1 0, 0, none⟩))), (4, (.bool false)), (5, (.pointer (some ⟨nb ρ2 5, 0, none⟩))), (6, (.int .i64 (expE b)))] w0 [(nb ρ1 0, (.cells (hB h) 44 (0, 0))), (nb ρ2 5, (.cells (cU (expV b)) 24 (0, 0)))] (fun _ => True)
    (fun _ => [(4, (.bool (decide ((cmpN h (expV b)) ≤ 0))))])
    (fun _ => [(nb ρ1 0, (.cells (hB h) 44 (0, 0))), (nb ρ2 5, (.cells (cU (expV b)) 24 (0, 0)))]) := by
  refine reg_drawn [0, 1, 3, 7, 15, 7, 63, 127, 255, 511] [4] 10
    (fun _ ι => ([(.int .i64 (expE b)), (.bool true), (.bool true), (.agg (hB h)), (U h), (U (expV b)), (.int .i64 (cmpN h (expV b))), (.bool (decide ((cmpN h (expV b)) ≤ 0))), (.bool (decide ((cmpN h (expV b)) ≤ 0))), (.bool (decide ((cmpN h (expV b)) ≤ 0)))] : List Value).getD ι undef)
    (fun _ ι => ([{}, {}, {}, {}, {}, {}, {}, {}, {}, {}] : List Eff).getD ι {})
    (by as_aux_lemma => kernel_rfl) (by as_aux_lemma => kernel_rfl) (by as_aux_lemma => kernel_rfl) (fun _ => by as_aux_lemma => kernel_rfl) (fun _ => by as_aux_lemma => kernel_rfl) ⟨⟨⟨⟨⟨⟨⟨⟨⟨⟨trivial, ?_⟩, ?_⟩, ?_⟩, ?_⟩, ?_⟩, ?_⟩, ?_⟩, ?_⟩, ?_⟩, ?_⟩
  · exact o_run 0 [] [] (fun _ _ => []) (fun _ _ => by as_aux_lemma => kernel_rfl)
  · exact o_as 1 (fun _ => (.bool ((expE b) == 0))) (fun _ => (.bool true)) (fun _ _ => by as_aux_lemma => kernel_rfl) (fun _ => congrArg Value.bool ((expE_ok b).trans hb1))
  · exact o_run 2 [] [] (fun _ _ => []) (fun _ _ => by as_aux_lemma => kernel_rfl)
  · exact o_run 3 [0] [] (fun _ _ => [nb ρ1 0, nb ρ1 0, nb ρ1 0, nb ρ1 0, nb ρ1 0, nb ρ1 0, nb ρ1 0, nb ρ1 0, nb ρ1 0, nb ρ1 0, nb ρ1 0, nb ρ1 0, nb ρ1 0, nb ρ1 0, nb ρ1 0, nb ρ1 0, nb ρ1 0, nb ρ1 0, nb ρ1 0, nb ρ1 0, nb ρ1 0, nb ρ1 0, nb ρ1 0, nb ρ1 0, nb ρ1 0, nb ρ1 0, nb ρ1 0, nb ρ1 0, nb ρ1 0, nb ρ1 0, nb ρ1 0, nb ρ1 0]) (fun _ _ => by as_aux_lemma => kernel_rfl)
  · exact o_call 4 78 (fun _ => #[(.agg (hB h))]) (fun _ => (U h)) (fun _ _ => by as_aux_lemma => kernel_rfl) (fun _ w => (fun w => frombytes_any h w) w)
  · exact o_run 5 [1] [] (fun _ _ => [nb ρ2 5, nb ρ2 5, nb ρ2 5, nb ρ2 5]) (fun _ _ => by as_aux_lemma => kernel_rfl)
  · exact o_call 6 59 (fun _ => #[(U h), (U (expV b))]) (fun _ => (.int .i64 (cmpN h (expV b)))) (fun _ _ => by as_aux_lemma => kernel_rfl) (fun _ w => (fun w => cmp_any h (expV b) w hh (expV_lt b)) w)
  · exact o_run 7 [] [] (fun _ _ => []) (fun _ _ => by as_aux_lemma => kernel_rfl)
  · exact o_run 8 [] [] (fun _ _ => []) (fun _ _ => by as_aux_lemma => kernel_rfl)
  · exact o_run 9 [] [] (fun _ _ => []) (fun _ _ => by as_aux_lemma => kernel_rfl)
theorem meets_w_r4 (h : Nat) (b : Nat) (hb1 : (expB b) = false) (ρ1 : Nat → Orc) (ρ2 : Nat → Orc) (w0 : World) : Reg Try.prog 2 (regOps Try.f42 2) true 21 [(2, (.pointer (some ⟨nb ρ1 0, 0, none⟩))), (4, (.bool false)), (5, (.pointer (some ⟨nb ρ2 5, 0, none⟩))), (6, (.int .i64 (expE b)))] w0 [(nb ρ1 0, (.cells (hB h) 44 (0, 0))), (nb ρ2 5, (.cells (cU (expV b)) 24 (0, 0)))] (fun _ => True)
    (fun _ => [(4, (.bool false))])
    (fun _ => [(nb ρ1 0, (.cells (hB h) 44 (0, 0))), (nb ρ2 5, (.cells (cU (expV b)) 24 (0, 0)))]) := by
  refine reg_drawn [0, 1, 3, 7, 15, 7, 63, 127, 255, 511] [4] 10
    (fun _ ι => ([(.int .i64 (expE b)), (.bool false), (.bool false), undef, undef, undef, undef, undef, (.bool false), (.bool false)] : List Value).getD ι undef)
    (fun _ ι => ([{}, {}, {}, {}, {}, {}, {}, {}, {}, {}] : List Eff).getD ι {})
    (by as_aux_lemma => kernel_rfl) (by as_aux_lemma => kernel_rfl) (by as_aux_lemma => kernel_rfl) (fun _ => by as_aux_lemma => kernel_rfl) (fun _ => by as_aux_lemma => kernel_rfl) ⟨⟨⟨⟨⟨⟨⟨⟨⟨⟨trivial, ?_⟩, ?_⟩, ?_⟩, ?_⟩, ?_⟩, ?_⟩, ?_⟩, ?_⟩, ?_⟩, ?_⟩
  · exact o_run 0 [] [] (fun _ _ => []) (fun _ _ => by as_aux_lemma => kernel_rfl)
  · exact o_as 1 (fun _ => (.bool ((expE b) == 0))) (fun _ => (.bool false)) (fun _ _ => by as_aux_lemma => kernel_rfl) (fun _ => congrArg Value.bool ((expE_ok b).trans hb1))
  · exact o_run 2 [] [] (fun _ _ => []) (fun _ _ => by as_aux_lemma => kernel_rfl)
  · exact o_skip 3 (fun _ => by as_aux_lemma => kernel_rfl)
  · exact o_skip 4 (fun _ => by as_aux_lemma => kernel_rfl)
  · exact o_skip 5 (fun _ => by as_aux_lemma => kernel_rfl)
  · exact o_skip 6 (fun _ => by as_aux_lemma => kernel_rfl)
  · exact o_skip 7 (fun _ => by as_aux_lemma => kernel_rfl)
  · exact o_run 8 [] [] (fun _ _ => []) (fun _ _ => by as_aux_lemma => kernel_rfl)
  · exact o_run 9 [] [] (fun _ _ => []) (fun _ _ => by as_aux_lemma => kernel_rfl)
theorem meets_w (h : Nat) (b : Nat) (hh : h < M) (hb : b < 4294967296) (w0 : World) : Calls Try.prog 42 #[(.agg (hB h)), (.int .u32 ((b : Nat) : Int))] w0 (fun ε w' => ε = .returned (.bool (meetB h b)) ∧ Below w0.heap.size w0 w') := by
  refine Calls.of_ok (n := 21) (F := fun _ => True) Try.func42 rfl rfl rfl (by simp) (persTrue (fun _ => trivial)) ?_
  refine ok_seq_r (by as_aux_lemma => kernel_rfl) (meets_w_r1 h b _) (fun ρ1 => ?_)
  refine ok_seq_r (by as_aux_lemma => kernel_rfl) (meets_w_r2 h b hb ρ1 _) (fun ρ2 => ?_)
  rcases Bool.eq_false_or_eq_true (expB b) with hb1 | hb1
  ·
    refine ok_seq_r (by as_aux_lemma => kernel_rfl) (meets_w_r3 h b hh hb1 ρ1 ρ2 _) (fun _ => ?_)
    refine ok_ret ?_
    exact meets_ret (v := (.bool (decide ((cmpN h (expV b)) ≤ 0)))) [] (dup []) (by as_aux_lemma => kernel_rfl) (by as_aux_lemma => kernel_rfl) (eqs_dup _) (fun _ hS => ⟨congrArg (fun x => Ending.returned (.bool x)) (meet_t hb1), hS.below⟩)
  ·
    refine ok_seq_r (by as_aux_lemma => kernel_rfl) (meets_w_r4 h b hb1 ρ1 ρ2 _) (fun _ => ?_)
    refine ok_ret ?_
    exact meets_ret (v := (.bool false)) [] (dup []) (by as_aux_lemma => kernel_rfl) (by as_aux_lemma => kernel_rfl) (eqs_dup _) (fun _ hS => ⟨congrArg (fun x => Ending.returned (.bool x)) (meet_f hb1), hS.below⟩)
theorem meets_any (h : Nat) (b : Nat) (w0 : World) (hh : h < M) (hb : b < 4294967296) : Calls Try.prog 42 #[(.agg (hB h)), (.int .u32 ((b : Nat) : Int))] w0 (fun ε w' => ε = .returned (.bool (meetB h b)) ∧ Below w0.heap.size w0 w') := meets_w h b hh hb w0
theorem rwork_w_r1 (t : Nat) (w0 : World) : Reg Try.prog 0 (regOps Try.f38 0) false 29 [(0, (U t))] w0 [] (fun _ => True)
    (fun ρ => [(1, (.pointer (some ⟨nb ρ 0, 0, none⟩))), (2, (.pointer (some ⟨nb ρ 1, 0, none⟩)))])
    (fun ρ => [(nb ρ 0, (.cells (cU t) 24 (0, 0))), (nb ρ 1, (.cells (cU 0) 24 (0, 0)))]) := by
  refine reg_seq [0, 1] [1, 2] 2
    (fun ρ ι => ([(.pointer (some ⟨nb ρ 0, 0, none⟩)), (.pointer (some ⟨nb ρ 1, 0, none⟩))] : List Value).getD ι undef)
    (fun ρ ι => ([{ news := [(nb ρ 0, (.cells (cU t) 24 (0, 0)))] }, { news := [(nb ρ 1, (.cells (cU 0) 24 (0, 0)))] }] : List Eff).getD ι {})
    (by as_aux_lemma => kernel_rfl) (by as_aux_lemma => kernel_rfl) (fun _ => by as_aux_lemma => kernel_rfl) (fun _ => by as_aux_lemma => kernel_rfl) ⟨⟨trivial, ?_⟩, ?_⟩
  · exact o_run 0 [] [] (fun _ _ => []) (fun _ _ => by as_aux_lemma => kernel_rfl)
  · exact o_run 1 [] [] (fun _ _ => []) (fun _ _ => by as_aux_lemma => kernel_rfl)
theorem rwork_w_r2 (t : Nat) (ht : t < M) (ρ1 : Nat → Orc) (w0 : World) : Reg Try.prog 1 (regOps Try.f38 1) false 29 [(1, (.pointer (some ⟨nb ρ1 0, 0, none⟩))), (2, (.pointer (some ⟨nb ρ1 1, 0, none⟩)))] w0 [(nb ρ1 0, (.cells (cU t) 24 (0, 0))), (nb ρ1 1, (.cells (cU 0) 24 (0, 0)))] (fun _ => True)
    (fun _ => [(1, (.pointer (some ⟨nb ρ1 0, 0, none⟩))), (2, (.pointer (some ⟨nb ρ1 1, 0, none⟩))), (9, (.bool (decide (t = 0))))])
    (fun _ => [(nb ρ1 0, (.cells (cU t) 24 (0, 0))), (nb ρ1 1, (.cells (cU 0) 24 (0, 0)))]) := by
  refine reg_seq [0, 1] [1, 2, 9] 2
    (fun _ ι => ([(U t), (.bool (decide (t = 0)))] : List Value).getD ι undef)
    (fun _ ι => ([{}, {}] : List Eff).getD ι {})
    (by as_aux_lemma => kernel_rfl) (by as_aux_lemma => kernel_rfl) (fun _ => by as_aux_lemma => kernel_rfl) (fun _ => by as_aux_lemma => kernel_rfl) ⟨⟨trivial, ?_⟩, ?_⟩
  · exact o_run 0 [0] [] (fun _ _ => [nb ρ1 0, nb ρ1 0, nb ρ1 0, nb ρ1 0]) (fun _ _ => by as_aux_lemma => kernel_rfl)
  · exact o_call 1 61 (fun _ => #[(U t)]) (fun _ => (.bool (decide (t = 0)))) (fun _ _ => by as_aux_lemma => kernel_rfl) (fun _ w => (fun w => rzero_any t w ht) w)
theorem rwork_w_r3 (t : Nat) (ρ1 : Nat → Orc) (w0 : World) : Reg Try.prog 2 (regOps Try.f38 2) false 29 [(1, (.pointer (some ⟨nb ρ1 0, 0, none⟩))), (2, (.pointer (some ⟨nb ρ1 1, 0, none⟩))), (9, (.bool true))] w0 [(nb ρ1 0, (.cells (cU t) 24 (0, 0))), (nb ρ1 1, (.cells (cU 0) 24 (0, 0)))] (fun _ => True)
    (fun _ => [(1, (.pointer (some ⟨nb ρ1 0, 0, none⟩))), (2, (.pointer (some ⟨nb ρ1 1, 0, none⟩)))])
    (fun _ => [(nb ρ1 0, (.cells (cU t) 24 (0, 0))), (nb ρ1 1, (.cells (cU (M - 1 - 0)) 24 (0, 0)))]) := by
  refine reg_seq [0, 1, 3] [1, 2] 3
    (fun _ ι => ([(U 0), (U (M - 1 - 0)), undef] : List Value).getD ι undef)
    (fun _ ι => ([{}, {}, { puts := [(1, (.cells (cU (M - 1 - 0)) 24 (0, 0)))] }] : List Eff).getD ι {})
    (by as_aux_lemma => kernel_rfl) (by as_aux_lemma => kernel_rfl) (fun _ => by as_aux_lemma => kernel_rfl) (fun _ => by as_aux_lemma => kernel_rfl) ⟨⟨⟨trivial, ?_⟩, ?_⟩, ?_⟩
  · exact o_run 0 [] [] (fun _ _ => []) (fun _ _ => by as_aux_lemma => kernel_rfl)
  · exact o_call 1 44 (fun _ => #[(U 0)]) (fun _ => (U (M - 1 - 0))) (fun _ _ => by as_aux_lemma => kernel_rfl) (fun _ w => (fun w => rnot_any 0 w (by decide +kernel)) w)
  · exact o_run 2 [1] [] (fun _ _ => [nb ρ1 1, nb ρ1 1, nb ρ1 1, nb ρ1 1]) (fun _ _ => by as_aux_lemma => kernel_rfl)
theorem rwork_w_r4 (t : Nat) (ht : t < M) (ρ1 : Nat → Orc) (w0 : World) : Reg Try.prog 3 (regOps Try.f38 3) true 29 [(1, (.pointer (some ⟨nb ρ1 0, 0, none⟩))), (2, (.pointer (some ⟨nb ρ1 1, 0, none⟩))), (9, (.bool false))] w0 [(nb ρ1 0, (.cells (cU t) 24 (0, 0))), (nb ρ1 1, (.cells (cU 0) 24 (0, 0)))] (fun _ => True)
    (fun ρ => [(2, (.pointer (some ⟨nb ρ1 1, 0, none⟩))), (3, (.pointer (some ⟨nb ρ 6, 0, none⟩))), (4, (.bool (decide (M ≤ t + 1))))])
    (fun ρ => [(nb ρ1 0, (.cells (cU t) 24 (0, 0))), (nb ρ1 1, (.cells (cU 0) 24 (0, 0))), (nb ρ 6, (.cells (cU ((t + 1) % M)) 24 (0, 0)))]) := by
  refine reg_drawn [0, 0, 3, 7, 15, 15, 0, 95, 255] [2, 3, 4] 9
    (fun ρ ι => ([(U t), (U 1), (.tuple #[(U ((t + 1) % M)), (.bool (decide (M ≤ t + 1)))]), (.tuple #[(U ((t + 1) % M)), (.bool (decide (M ≤ t + 1)))]), (U ((t + 1) % M)), (.bool (decide (M ≤ t + 1))), (.pointer (some ⟨nb ρ 6, 0, none⟩)), undef, (.bool (decide (M ≤ t + 1)))] : List Value).getD ι undef)
    (fun ρ ι => ([{}, {}, {}, {}, {}, {}, { news := [(nb ρ 6, (.cells (cU 0) 24 (0, 0)))] }, { puts := [(50, (.cells (cU ((t + 1) % M)) 24 (0, 0)))] }, {}] : List Eff).getD ι {})
    (by as_aux_lemma => kernel_rfl) (by as_aux_lemma => kernel_rfl) (by as_aux_lemma => kernel_rfl) (fun _ => by as_aux_lemma => kernel_rfl) (fun _ => by as_aux_lemma => kernel_rfl) ⟨⟨⟨⟨⟨⟨⟨⟨⟨trivial, ?_⟩, ?_⟩, ?_⟩, ?_⟩, ?_⟩, ?_⟩, ?_⟩, ?_⟩, ?_⟩
  · exact o_run 0 [0] [] (fun _ _ => [nb ρ1 0, nb ρ1 0, nb ρ1 0, nb ρ1 0]) (fun _ _ => by as_aux_lemma => kernel_rfl)
  · exact o_call 1 58 (fun _ => #[(.int .u64 1)]) (fun _ => (U 1)) (fun _ _ => by as_aux_lemma => kernel_rfl) (fun _ w => (fun w => rfromuint_lit 1 w (by decide)) w)
  · exact o_call 2 43 (fun _ => #[(U t), (U 1)]) (fun _ => (.tuple #[(U ((t + 1) % M)), (.bool (decide (M ≤ t + 1)))])) (fun _ _ => by as_aux_lemma => kernel_rfl) (fun _ w => (fun w => radd_any t 1 w ht (by decide +kernel)) w)
  · exact o_run 3 [] [] (fun _ _ => []) (fun _ _ => by as_aux_lemma => kernel_rfl)
  · exact o_run 4 [] [] (fun _ _ => []) (fun _ _ => by as_aux_lemma => kernel_rfl)
  · exact o_run 5 [] [] (fun _ _ => []) (fun _ _ => by as_aux_lemma => kernel_rfl)
  · exact o_run 6 [] [] (fun _ _ => []) (fun _ _ => by as_aux_lemma => kernel_rfl)
  · exact o_run 7 [50] [] (fun ρ _ => [nb ρ 6, nb ρ 6, nb ρ 6, nb ρ 6]) (fun _ _ => by as_aux_lemma => kernel_rfl)
  · exact o_run 8 [] [] (fun _ _ => []) (fun _ _ => by as_aux_lemma => kernel_rfl)
theorem rwork_w_r5 (t : Nat) (ρ1 : Nat → Orc) (ρ4 : Nat → Orc) (w0 : World) : Reg Try.prog 4 (regOps Try.f38 4) false 29 [(2, (.pointer (some ⟨nb ρ1 1, 0, none⟩))), (3, (.pointer (some ⟨nb ρ4 6, 0, none⟩))), (4, (.bool (decide (M ≤ t + 1))))] w0 [(nb ρ1 0, (.cells (cU t) 24 (0, 0))), (nb ρ1 1, (.cells (cU 0) 24 (0, 0))), (nb ρ4 6, (.cells (cU ((t + 1) % M)) 24 (0, 0)))] (fun _ => True)
    (fun _ => [(2, (.pointer (some ⟨nb ρ1 1, 0, none⟩))), (3, (.pointer (some ⟨nb ρ4 6, 0, none⟩))), (18, (.bool (decide (M ≤ t + 1))))])
    (fun _ => [(nb ρ1 0, (.cells (cU t) 24 (0, 0))), (nb ρ1 1, (.cells (cU 0) 24 (0, 0))), (nb ρ4 6, (.cells (cU ((t + 1) % M)) 24 (0, 0)))]) := by
  refine reg_seq [0] [2, 3, 18] 1
    (fun _ ι => ([(.bool (decide (M ≤ t + 1)))] : List Value).getD ι undef)
    (fun _ ι => ([{}] : List Eff).getD ι {})
    (by as_aux_lemma => kernel_rfl) (by as_aux_lemma => kernel_rfl) (fun _ => by as_aux_lemma => kernel_rfl) (fun _ => by as_aux_lemma => kernel_rfl) ⟨trivial, ?_⟩
  · exact o_run 0 [] [] (fun _ _ => []) (fun _ _ => by as_aux_lemma => kernel_rfl)
theorem rwork_w_r6 (t : Nat) (ρ1 : Nat → Orc) (ρ4 : Nat → Orc) (w0 : World) : Reg Try.prog 5 (regOps Try.f38 5) false 29 [(2, (.pointer (some ⟨nb ρ1 1, 0, none⟩))), (3, (.pointer (some ⟨nb ρ4 6, 0, none⟩))), (18, (.bool true))] w0 [(nb ρ1 0, (.cells (cU t) 24 (0, 0))), (nb ρ1 1, (.cells (cU 0) 24 (0, 0))), (nb ρ4 6, (.cells (cU ((t + 1) % M)) 24 (0, 0)))] (fun _ => True)
    (fun _ => [(2, (.pointer (some ⟨nb ρ1 1, 0, none⟩))), (3, (.pointer (some ⟨nb ρ4 6, 0, none⟩)))])
    (fun _ => [(nb ρ1 0, (.cells (cU t) 24 (0, 0))), (nb ρ1 1, (.cells (cU 1) 24 (0, 0))), (nb ρ4 6, (.cells (cU ((t + 1) % M)) 24 (0, 0)))]) := by
  refine reg_seq [0, 1] [2, 3] 2
    (fun _ ι => ([(U 1), undef] : List Value).getD ι undef)
    (fun _ ι => ([{}, { puts := [(1, (.cells (cU 1) 24 (0, 0)))] }] : List Eff).getD ι {})
    (by as_aux_lemma => kernel_rfl) (by as_aux_lemma => kernel_rfl) (fun _ => by as_aux_lemma => kernel_rfl) (fun _ => by as_aux_lemma => kernel_rfl) ⟨⟨trivial, ?_⟩, ?_⟩
  · exact o_call 0 58 (fun _ => #[(.int .u64 1)]) (fun _ => (U 1)) (fun _ _ => by as_aux_lemma => kernel_rfl) (fun _ w => (fun w => rfromuint_lit 1 w (by decide)) w)
  · exact o_run 1 [1] [] (fun _ _ => [nb ρ1 1, nb ρ1 1, nb ρ1 1, nb ρ1 1]) (fun _ _ => by as_aux_lemma => kernel_rfl)
theorem rwork_w_r7 (t : Nat) (ρ1 : Nat → Orc) (ρ4 : Nat → Orc) (w0 : World) : Reg Try.prog 6 (regOps Try.f38 6) true 29 [(2, (.pointer (some ⟨nb ρ1 1, 0, none⟩))), (3, (.pointer (some ⟨nb ρ4 6, 0, none⟩))), (18, (.bool false))] w0 [(nb ρ1 0, (.cells (cU t) 24 (0, 0))), (nb ρ1 1, (.cells (cU 0) 24 (0, 0))), (nb ρ4 6, (.cells (cU ((t + 1) % M)) 24 (0, 0)))] (fun _ => True)
    (fun ρ => [(2, (.pointer (some ⟨nb ρ1 1, 0, none⟩))), (5, (.pointer (some ⟨nb ρ 8, 0, none⟩)))])
    (fun ρ => [(nb ρ1 0, (.cells (cU t) 24 (0, 0))), (nb ρ1 1, (.cells (cU 0) 24 (0, 0))), (nb ρ4 6, (.cells (cU ((t + 1) % M)) 24 (0, 0))), (nb ρ 8, (.cells (cU (divQ 1 0 ((t + 1) % M))) 24 (0, 0))), (nb ρ 9, (.cells (cU (divR 1 0 ((t + 1) % M))) 24 (0, 0)))]) := by
  refine reg_drawn [0, 0, 0, 7, 15, 31, 31, 31, 0, 0, 831, 1919, 4095] [2, 5] 13
    (fun ρ ι => ([(U 1), (U 0), (U ((t + 1) % M)), (.tuple #[(U (divQ 1 0 ((t + 1) % M))), (U (divR 1 0 ((t + 1) % M))), (.bool (decide (1 < ((t + 1) % M))))]), (.tuple #[(U (divQ 1 0 ((t + 1) % M))), (U (divR 1 0 ((t + 1) % M))), (.bool (decide (1 < ((t + 1) % M))))]), (U (divQ 1 0 ((t + 1) % M))), (U (divR 1 0 ((t + 1) % M))), (.bool (decide (1 < ((t + 1) % M)))), (.pointer (some ⟨nb ρ 8, 0, none⟩)), (.pointer (some ⟨nb ρ 9, 0, none⟩)), undef, undef, (.bool (decide (1 < ((t + 1) % M))))] : List Value).getD ι undef)
    (fun ρ ι => ([{}, {}, {}, {}, {}, {}, {}, {}, { news := [(nb ρ 8, (.cells (cU 0) 24 (0, 0)))] }, { news := [(nb ρ 9, (.cells (cU 0) 24 (0, 0)))] }, { puts := [(67, (.cells (cU (divQ 1 0 ((t + 1) % M))) 24 (0, 0)))] }, { puts := [(75, (.cells (cU (divR 1 0 ((t + 1) % M))) 24 (0, 0)))] }, {}] : List Eff).getD ι {})
    (by as_aux_lemma => kernel_rfl) (by as_aux_lemma => kernel_rfl) (by as_aux_lemma => kernel_rfl) (fun _ => by as_aux_lemma => kernel_rfl) (fun _ => by as_aux_lemma => kernel_rfl) ⟨⟨⟨⟨⟨⟨⟨⟨⟨⟨⟨⟨⟨trivial, ?_⟩, ?_⟩, ?_⟩, ?_⟩, ?_⟩, ?_⟩, ?_⟩, ?_⟩, ?_⟩, ?_⟩, ?_⟩, ?_⟩, ?_⟩
  · exact o_call 0 58 (fun _ => #[(.int .u64 1)]) (fun _ => (U 1)) (fun _ _ => by as_aux_lemma => kernel_rfl) (fun _ w => (fun w => rfromuint_lit 1 w (by decide)) w)
  · exact o_run 1 [] [] (fun _ _ => []) (fun _ _ => by as_aux_lemma => kernel_rfl)
  · exact o_run 2 [2] [] (fun _ _ => [nb ρ4 6, nb ρ4 6, nb ρ4 6, nb ρ4 6]) (fun _ _ => by as_aux_lemma => kernel_rfl)
  · exact o_call 3 75 (fun _ => #[(U 1), (U 0), (U ((t + 1) % M))]) (fun _ => (.tuple #[(U (divQ 1 0 ((t + 1) % M))), (U (divR 1 0 ((t + 1) % M))), (.bool (decide (1 < ((t + 1) % M))))])) (fun _ _ => by as_aux_lemma => kernel_rfl) (fun _ w => (fun w => rdiv_any 1 0 ((t + 1) % M) w (by decide +kernel) (by decide +kernel) (modM_lt _)) w)
  · exact o_run 4 [] [] (fun _ _ => []) (fun _ _ => by as_aux_lemma => kernel_rfl)
  · exact o_run 5 [] [] (fun _ _ => []) (fun _ _ => by as_aux_lemma => kernel_rfl)
  · exact o_run 6 [] [] (fun _ _ => []) (fun _ _ => by as_aux_lemma => kernel_rfl)
  · exact o_run 7 [] [] (fun _ _ => []) (fun _ _ => by as_aux_lemma => kernel_rfl)
  · exact o_run 8 [] [] (fun _ _ => []) (fun _ _ => by as_aux_lemma => kernel_rfl)
  · exact o_run 9 [] [] (fun _ _ => []) (fun _ _ => by as_aux_lemma => kernel_rfl)
  · exact o_run 10 [67] [] (fun ρ _ => [nb ρ 8, nb ρ 8, nb ρ 8, nb ρ 8]) (fun _ _ => by as_aux_lemma => kernel_rfl)
  · exact o_run 11 [75] [] (fun ρ _ => [nb ρ 9, nb ρ 9, nb ρ 9, nb ρ 9]) (fun _ _ => by as_aux_lemma => kernel_rfl)
  · exact o_run 12 [] [] (fun _ _ => []) (fun _ _ => by as_aux_lemma => kernel_rfl)
theorem rwork_w_r8 (t : Nat) (ρ1 : Nat → Orc) (ρ4 : Nat → Orc) (ρ7 : Nat → Orc) (w0 : World) : Reg Try.prog 7 (regOps Try.f38 7) false 29 [(2, (.pointer (some ⟨nb ρ1 1, 0, none⟩))), (5, (.pointer (some ⟨nb ρ7 8, 0, none⟩)))] w0 [(nb ρ1 0, (.cells (cU t) 24 (0, 0))), (nb ρ1 1, (.cells (cU 0) 24 (0, 0))), (nb ρ4 6, (.cells (cU ((t + 1) % M)) 24 (0, 0))), (nb ρ7 8, (.cells (cU (divQ 1 0 ((t + 1) % M))) 24 (0, 0))), (nb ρ7 9, (.cells (cU (divR 1 0 ((t + 1) % M))) 24 (0, 0)))] (fun _ => True)
    (fun _ => [(2, (.pointer (some ⟨nb ρ1 1, 0, none⟩)))])
    (fun _ => [(nb ρ1 0, (.cells (cU t) 24 (0, 0))), (nb ρ1 1, (.cells (cU (divQ 1 0 ((t + 1) % M))) 24 (0, 0))), (nb ρ4 6, (.cells (cU ((t + 1) % M)) 24 (0, 0))), (nb ρ7 8, (.cells (cU (divQ 1 0 ((t + 1) % M))) 24 (0, 0))), (nb ρ7 9, (.cells (cU (divR 1 0 ((t + 1) % M))) 24 (0, 0)))]) := by
  refine reg_seq [0, 1] [2] 2
    (fun _ ι => ([(U (divQ 1 0 ((t + 1) % M))), undef] : List Value).getD ι undef)
    (fun _ ι => ([{}, { puts := [(1, (.cells (cU (divQ 1 0 ((t + 1) % M))) 24 (0, 0)))] }] : List Eff).getD ι {})
    (by as_aux_lemma => kernel_rfl) (by as_aux_lemma => kernel_rfl) (fun _ => by as_aux_lemma => kernel_rfl) (fun _ => by as_aux_lemma => kernel_rfl) ⟨⟨trivial, ?_⟩, ?_⟩
  · exact o_run 0 [3] [] (fun _ _ => [nb ρ7 8, nb ρ7 8, nb ρ7 8, nb ρ7 8]) (fun _ _ => by as_aux_lemma => kernel_rfl)
  · exact o_run 1 [1] [] (fun _ _ => [nb ρ1 1, nb ρ1 1, nb ρ1 1, nb ρ1 1]) (fun _ _ => by as_aux_lemma => kernel_rfl)
theorem rwork_w (t : Nat) (ht : t < M) (w0 : World) : Calls Try.prog 38 #[(U t)] w0 (fun ε w' => ε = .returned (U (workN t)) ∧ Below w0.heap.size w0 w') := by
  refine Calls.of_ok (n := 29) (F := fun _ => True) Try.func38 rfl rfl rfl (by simp) (persTrue (fun _ => trivial)) ?_
  refine ok_seq_r (by as_aux_lemma => kernel_rfl) (rwork_w_r1 t _) (fun ρ1 => ?_)
  refine ok_seq ?_
  refine ok_seq_r (by as_aux_lemma => kernel_rfl) (rwork_w_r2 t ht ρ1 _) (fun _ => ?_)
  refine ok_cond (b := decide (t = 0)) (by as_aux_lemma => kernel_rfl) (fun hb1 => ?_) (fun hb1 => ?_)
  ·
    rw [hb1]
    refine ok_seq_r (by as_aux_lemma => kernel_rfl) (rwork_w_r3 t ρ1 _) (fun _ => ?_)
    refine ok_ret ?_
    refine mt_then_r ?_
    exact meets_ret (v := (U (M - 1 - 0))) [1, 1, 1, 1] (dup [nb ρ1 1, nb ρ1 1, nb ρ1 1, nb ρ1 1]) (by as_aux_lemma => kernel_rfl) (by as_aux_lemma => kernel_rfl) (eqs_dup _) (fun _ hS => ⟨congrArg (fun x => Ending.returned (U x)) (work_0 hb1), hS.below⟩)
  ·
    rw [hb1]
    refine ok_skip ?_
    refine mt_then ?_
    refine ok_seq_r (by as_aux_lemma => kernel_rfl) (rwork_w_r4 t ht ρ1 _) (fun ρ4 => ?_)
    refine ok_seq ?_
    refine ok_seq_r (by as_aux_lemma => kernel_rfl) (rwork_w_r5 t ρ1 ρ4 _) (fun _ => ?_)
    refine ok_cond (b := decide (M ≤ t + 1)) (by as_aux_lemma => kernel_rfl) (fun hb2 => ?_) (fun hb2 => ?_)
    ·
      rw [hb2]
      refine ok_seq_r (by as_aux_lemma => kernel_rfl) (rwork_w_r6 t ρ1 ρ4 _) (fun _ => ?_)
      refine ok_ret ?_
      refine mt_then_r ?_
      exact meets_ret (v := (U 1)) [1, 1, 1, 1] (dup [nb ρ1 1, nb ρ1 1, nb ρ1 1, nb ρ1 1]) (by as_aux_lemma => kernel_rfl) (by as_aux_lemma => kernel_rfl) (eqs_dup _) (fun _ hS => ⟨congrArg (fun x => Ending.returned (U x)) (work_1 hb1 hb2), hS.below⟩)
    ·
      rw [hb2]
      refine ok_skip ?_
      refine mt_then ?_
      refine ok_seq_r (by as_aux_lemma => kernel_rfl) (rwork_w_r7 t ρ1 ρ4 _) (fun ρ7 => ?_)
      refine ok_seq_r (by as_aux_lemma => kernel_rfl) (rwork_w_r8 t ρ1 ρ4 ρ7 _) (fun _ => ?_)
      refine ok_ret ?_
      exact meets_ret (v := (U (divQ 1 0 ((t + 1) % M)))) [1, 1, 1, 1] (dup [nb ρ1 1, nb ρ1 1, nb ρ1 1, nb ρ1 1]) (by as_aux_lemma => kernel_rfl) (by as_aux_lemma => kernel_rfl) (eqs_dup _) (fun _ hS => ⟨congrArg (fun x => Ending.returned (U x)) (work_2 ht hb1 hb2), hS.below⟩)
theorem rwork_any (t : Nat) (w0 : World) (ht : t < M) : Calls Try.prog 38 #[(U t)] w0 (fun ε w' => ε = .returned (U (workN t)) ∧ Below w0.heap.size w0 w') := rwork_w t ht w0
theorem rtotal_w_r1 (a : Nat) (b : Nat) (w0 : World) : Reg Try.prog 0 (regOps Try.f48 0) false 17 [(0, (U a)), (1, (U b))] w0 [] (fun _ => True)
    (fun ρ => [(2, (.pointer (some ⟨nb ρ 0, 0, none⟩))), (3, (.pointer (some ⟨nb ρ 1, 0, none⟩))), (4, (.pointer (some ⟨nb ρ 2, 0, none⟩)))])
    (fun ρ => [(nb ρ 0, (.cells (cU a) 24 (0, 0))), (nb ρ 1, (.cells (cU b) 24 (0, 0))), (nb ρ 2, (.cells (cU 0) 24 (0, 0)))]) := by
  refine reg_seq [0, 1, 3] [2, 3, 4] 3
    (fun ρ ι => ([(.pointer (some ⟨nb ρ 0, 0, none⟩)), (.pointer (some ⟨nb ρ 1, 0, none⟩)), (.pointer (some ⟨nb ρ 2, 0, none⟩))] : List Value).getD ι undef)
    (fun ρ ι => ([{ news := [(nb ρ 0, (.cells (cU a) 24 (0, 0)))] }, { news := [(nb ρ 1, (.cells (cU b) 24 (0, 0)))] }, { news := [(nb ρ 2, (.cells (cU 0) 24 (0, 0)))] }] : List Eff).getD ι {})
    (by as_aux_lemma => kernel_rfl) (by as_aux_lemma => kernel_rfl) (fun _ => by as_aux_lemma => kernel_rfl) (fun _ => by as_aux_lemma => kernel_rfl) ⟨⟨⟨trivial, ?_⟩, ?_⟩, ?_⟩
  · exact o_run 0 [] [] (fun _ _ => []) (fun _ _ => by as_aux_lemma => kernel_rfl)
  · exact o_run 1 [] [] (fun _ _ => []) (fun _ _ => by as_aux_lemma => kernel_rfl)
  · exact o_run 2 [] [] (fun _ _ => []) (fun _ _ => by as_aux_lemma => kernel_rfl)
theorem rtotal_w_r2 (a : Nat) (b : Nat) (ha : a < M) (hb : b < M) (ρ1 : Nat → Orc) (w0 : World) : Reg Try.prog 1 (regOps Try.f48 1) false 17 [(2, (.pointer (some ⟨nb ρ1 0, 0, none⟩))), (3, (.pointer (some ⟨nb ρ1 1, 0, none⟩))), (4, (.pointer (some ⟨nb ρ1 2, 0, none⟩)))] w0 [(nb ρ1 0, (.cells (cU a) 24 (0, 0))), (nb ρ1 1, (.cells (cU b) 24 (0, 0))), (nb ρ1 2, (.cells (cU 0) 24 (0, 0)))] (fun _ => True)
    (fun ρ => [(4, (.pointer (some ⟨nb ρ1 2, 0, none⟩))), (5, (.pointer (some ⟨nb ρ 6, 0, none⟩))), (6, (.bool (decide (M ≤ a + b))))])
    (fun ρ => [(nb ρ1 0, (.cells (cU a) 24 (0, 0))), (nb ρ1 1, (.cells (cU b) 24 (0, 0))), (nb ρ1 2, (.cells (cU 0) 24 (0, 0))), (nb ρ 6, (.cells (cU ((a + b) % M)) 24 (0, 0)))]) := by
  refine reg_seq [0, 1, 3, 7, 15, 31, 63, 127, 255] [4, 5, 6] 9
    (fun ρ ι => ([(U a), (U b), (.tuple #[(U ((a + b) % M)), (.bool (decide (M ≤ a + b)))]), (.tuple #[(U ((a + b) % M)), (.bool (decide (M ≤ a + b)))]), (U ((a + b) % M)), (.bool (decide (M ≤ a + b))), (.pointer (some ⟨nb ρ 6, 0, none⟩)), undef, (.bool (decide (M ≤ a + b)))] : List Value).getD ι undef)
    (fun ρ ι => ([{}, {}, {}, {}, {}, {}, { news := [(nb ρ 6, (.cells (cU 0) 24 (0, 0)))] }, { puts := [(51, (.cells (cU ((a + b) % M)) 24 (0, 0)))] }, {}] : List Eff).getD ι {})
    (by as_aux_lemma => kernel_rfl) (by as_aux_lemma => kernel_rfl) (fun _ => by as_aux_lemma => kernel_rfl) (fun _ => by as_aux_lemma => kernel_rfl) ⟨⟨⟨⟨⟨⟨⟨⟨⟨trivial, ?_⟩, ?_⟩, ?_⟩, ?_⟩, ?_⟩, ?_⟩, ?_⟩, ?_⟩, ?_⟩
  · exact o_run 0 [0] [] (fun _ _ => [nb ρ1 0, nb ρ1 0, nb ρ1 0, nb ρ1 0]) (fun _ _ => by as_aux_lemma => kernel_rfl)
  · exact o_run 1 [1] [] (fun _ _ => [nb ρ1 1, nb ρ1 1, nb ρ1 1, nb ρ1 1]) (fun _ _ => by as_aux_lemma => kernel_rfl)
  · exact o_call 2 43 (fun _ => #[(U a), (U b)]) (fun _ => (.tuple #[(U ((a + b) % M)), (.bool (decide (M ≤ a + b)))])) (fun _ _ => by as_aux_lemma => kernel_rfl) (fun _ w => (fun w => radd_any a b w ha hb) w)
  · exact o_run 3 [] [] (fun _ _ => []) (fun _ _ => by as_aux_lemma => kernel_rfl)
  · exact o_run 4 [] [] (fun _ _ => []) (fun _ _ => by as_aux_lemma => kernel_rfl)
  · exact o_run 5 [] [] (fun _ _ => []) (fun _ _ => by as_aux_lemma => kernel_rfl)
  · exact o_run 6 [] [] (fun _ _ => []) (fun _ _ => by as_aux_lemma => kernel_rfl)
  · exact o_run 7 [51] [] (fun ρ _ => [nb ρ 6, nb ρ 6, nb ρ 6, nb ρ 6]) (fun _ _ => by as_aux_lemma => kernel_rfl)
  · exact o_run 8 [] [] (fun _ _ => []) (fun _ _ => by as_aux_lemma => kernel_rfl)
theorem rtotal_w_r3 (a : Nat) (b : Nat) (ρ1 : Nat → Orc) (ρ2 : Nat → Orc) (w0 : World) : Reg Try.prog 2 (regOps Try.f48 2) false 17 [(4, (.pointer (some ⟨nb ρ1 2, 0, none⟩))), (5, (.pointer (some ⟨nb ρ2 6, 0, none⟩))), (6, (.bool (decide (M ≤ a + b))))] w0 [(nb ρ1 0, (.cells (cU a) 24 (0, 0))), (nb ρ1 1, (.cells (cU b) 24 (0, 0))), (nb ρ1 2, (.cells (cU 0) 24 (0, 0))), (nb ρ2 6, (.cells (cU ((a + b) % M)) 24 (0, 0)))] (fun _ => True)
    (fun _ => [(4, (.pointer (some ⟨nb ρ1 2, 0, none⟩))), (5, (.pointer (some ⟨nb ρ2 6, 0, none⟩))), (13, (.bool (decide (M ≤ a + b))))])
    (fun _ => [(nb ρ1 0, (.cells (cU a) 24 (0, 0))), (nb ρ1 1, (.cells (cU b) 24 (0, 0))), (nb ρ1 2, (.cells (cU 0) 24 (0, 0))), (nb ρ2 6, (.cells (cU ((a + b) % M)) 24 (0, 0)))]) := by
  refine reg_seq [0] [4, 5, 13] 1
    (fun _ ι => ([(.bool (decide (M ≤ a + b)))] : List Value).getD ι undef)
    (fun _ ι => ([{}] : List Eff).getD ι {})
    (by as_aux_lemma => kernel_rfl) (by as_aux_lemma => kernel_rfl) (fun _ => by as_aux_lemma => kernel_rfl) (fun _ => by as_aux_lemma => kernel_rfl) ⟨trivial, ?_⟩
  · exact o_run 0 [] [] (fun _ _ => []) (fun _ _ => by as_aux_lemma => kernel_rfl)
theorem rtotal_w_r4 (a : Nat) (b : Nat) (ρ1 : Nat → Orc) (ρ2 : Nat → Orc) (w0 : World) : Reg Try.prog 3 (regOps Try.f48 3) false 17 [(4, (.pointer (some ⟨nb ρ1 2, 0, none⟩))), (5, (.pointer (some ⟨nb ρ2 6, 0, none⟩))), (13, (.bool true))] w0 [(nb ρ1 0, (.cells (cU a) 24 (0, 0))), (nb ρ1 1, (.cells (cU b) 24 (0, 0))), (nb ρ1 2, (.cells (cU 0) 24 (0, 0))), (nb ρ2 6, (.cells (cU ((a + b) % M)) 24 (0, 0)))] (fun _ => True)
    (fun _ => [(4, (.pointer (some ⟨nb ρ1 2, 0, none⟩))), (5, (.pointer (some ⟨nb ρ2 6, 0, none⟩)))])
    (fun _ => [(nb ρ1 0, (.cells (cU a) 24 (0, 0))), (nb ρ1 1, (.cells (cU b) 24 (0, 0))), (nb ρ1 2, (.cells (cU (M - 1 - 0)) 24 (0, 0))), (nb ρ2 6, (.cells (cU ((a + b) % M)) 24 (0, 0)))]) := by
  refine reg_seq [0, 1, 3] [4, 5] 3
    (fun _ ι => ([(U 0), (U (M - 1 - 0)), undef] : List Value).getD ι undef)
    (fun _ ι => ([{}, {}, { puts := [(2, (.cells (cU (M - 1 - 0)) 24 (0, 0)))] }] : List Eff).getD ι {})
    (by as_aux_lemma => kernel_rfl) (by as_aux_lemma => kernel_rfl) (fun _ => by as_aux_lemma => kernel_rfl) (fun _ => by as_aux_lemma => kernel_rfl) ⟨⟨⟨trivial, ?_⟩, ?_⟩, ?_⟩
  · exact o_run 0 [] [] (fun _ _ => []) (fun _ _ => by as_aux_lemma => kernel_rfl)
  · exact o_call 1 44 (fun _ => #[(U 0)]) (fun _ => (U (M - 1 - 0))) (fun _ _ => by as_aux_lemma => kernel_rfl) (fun _ w => (fun w => rnot_any 0 w (by decide +kernel)) w)
  · exact o_run 2 [2] [] (fun _ _ => [nb ρ1 2, nb ρ1 2, nb ρ1 2, nb ρ1 2]) (fun _ _ => by as_aux_lemma => kernel_rfl)
theorem rtotal_w_r5 (a : Nat) (b : Nat) (ρ1 : Nat → Orc) (ρ2 : Nat → Orc) (w0 : World) : Reg Try.prog 4 (regOps Try.f48 4) false 17 [(4, (.pointer (some ⟨nb ρ1 2, 0, none⟩))), (5, (.pointer (some ⟨nb ρ2 6, 0, none⟩))), (13, (.bool false))] w0 [(nb ρ1 0, (.cells (cU a) 24 (0, 0))), (nb ρ1 1, (.cells (cU b) 24 (0, 0))), (nb ρ1 2, (.cells (cU 0) 24 (0, 0))), (nb ρ2 6, (.cells (cU ((a + b) % M)) 24 (0, 0)))] (fun _ => True)
    (fun _ => [(4, (.pointer (some ⟨nb ρ1 2, 0, none⟩)))])
    (fun _ => [(nb ρ1 0, (.cells (cU a) 24 (0, 0))), (nb ρ1 1, (.cells (cU b) 24 (0, 0))), (nb ρ1 2, (.cells (cU ((a + b) % M)) 24 (0, 0))), (nb ρ2 6, (.cells (cU ((a + b) % M)) 24 (0, 0)))]) := by
  refine reg_seq [0, 1] [4] 2
    (fun _ ι => ([(U ((a + b) % M)), undef] : List Value).getD ι undef)
    (fun _ ι => ([{}, { puts := [(2, (.cells (cU ((a + b) % M)) 24 (0, 0)))] }] : List Eff).getD ι {})
    (by as_aux_lemma => kernel_rfl) (by as_aux_lemma => kernel_rfl) (fun _ => by as_aux_lemma => kernel_rfl) (fun _ => by as_aux_lemma => kernel_rfl) ⟨⟨trivial, ?_⟩, ?_⟩
  · exact o_run 0 [3] [] (fun _ _ => [nb ρ2 6, nb ρ2 6, nb ρ2 6, nb ρ2 6]) (fun _ _ => by as_aux_lemma => kernel_rfl)
  · exact o_run 1 [2] [] (fun _ _ => [nb ρ1 2, nb ρ1 2, nb ρ1 2, nb ρ1 2]) (fun _ _ => by as_aux_lemma => kernel_rfl)
theorem rtotal_w (a : Nat) (b : Nat) (ha : a < M) (hb : b < M) (w0 : World) : Calls Try.prog 48 #[(U a), (U b)] w0 (fun ε w' => ε = .returned (U (totN a b)) ∧ Below w0.heap.size w0 w') := by
  refine Calls.of_ok (n := 17) (F := fun _ => True) Try.func48 rfl rfl rfl (by simp) (persTrue (fun _ => trivial)) ?_
  refine ok_seq_r (by as_aux_lemma => kernel_rfl) (rtotal_w_r1 a b _) (fun ρ1 => ?_)
  refine ok_seq_r (by as_aux_lemma => kernel_rfl) (rtotal_w_r2 a b ha hb ρ1 _) (fun ρ2 => ?_)
  refine ok_seq ?_
  refine ok_seq_r (by as_aux_lemma => kernel_rfl) (rtotal_w_r3 a b ρ1 ρ2 _) (fun _ => ?_)
  refine ok_cond (b := decide (M ≤ a + b)) (by as_aux_lemma => kernel_rfl) (fun hb1 => ?_) (fun hb1 => ?_)
  ·
    rw [hb1]
    refine ok_seq_r (by as_aux_lemma => kernel_rfl) (rtotal_w_r4 a b ρ1 ρ2 _) (fun _ => ?_)
    refine ok_ret ?_
    refine mt_then_r ?_
    exact meets_ret (v := (U (M - 1 - 0))) [2, 2, 2, 2] (dup [nb ρ1 2, nb ρ1 2, nb ρ1 2, nb ρ1 2]) (by as_aux_lemma => kernel_rfl) (by as_aux_lemma => kernel_rfl) (eqs_dup _) (fun _ hS => ⟨congrArg (fun x => Ending.returned (U x)) (tot_t hb1), hS.below⟩)
  ·
    rw [hb1]
    refine ok_skip ?_
    refine mt_then ?_
    refine ok_seq_r (by as_aux_lemma => kernel_rfl) (rtotal_w_r5 a b ρ1 ρ2 _) (fun _ => ?_)
    refine ok_ret ?_
    exact meets_ret (v := (U ((a + b) % M))) [2, 2, 2, 2] (dup [nb ρ1 2, nb ρ1 2, nb ρ1 2, nb ρ1 2]) (by as_aux_lemma => kernel_rfl) (by as_aux_lemma => kernel_rfl) (eqs_dup _) (fun _ hS => ⟨congrArg (fun x => Ending.returned (U x)) (tot_f hb1), hS.below⟩)
theorem rtotal_any (a : Nat) (b : Nat) (w0 : World) (ha : a < M) (hb : b < M) : Calls Try.prog 48 #[(U a), (U b)] w0 (fun ε w' => ε = .returned (U (totN a b)) ∧ Below w0.heap.size w0 w') := rtotal_w a b ha hb w0
theorem rmeets_w_r1 (h : Nat) (b : Nat) (w0 : World) : Reg Try.prog 0 (regOps Try.f46 0) false 21 [(0, (.agg (hB h))), (1, (.int .u32 ((b : Nat) : Int)))] w0 [] (fun _ => True)
    (fun ρ => [(1, (.int .u32 ((b : Nat) : Int))), (2, (.pointer (some ⟨nb ρ 0, 0, none⟩))), (4, (.bool false))])
    (fun ρ => [(nb ρ 0, (.cells (hB h) 44 (0, 0)))]) := by
  refine reg_seq [0, 1] [1, 2, 4] 2
    (fun ρ ι => ([(.pointer (some ⟨nb ρ 0, 0, none⟩)), (.bool false)] : List Value).getD ι undef)
    (fun ρ ι => ([{ news := [(nb ρ 0, (.cells (hB h) 44 (0, 0)))] }, {}] : List Eff).getD ι {})
    (by as_aux_lemma => kernel_rfl) (by as_aux_lemma => kernel_rfl) (fun _ => by as_aux_lemma => kernel_rfl) (fun _ => by as_aux_lemma => kernel_rfl) ⟨⟨trivial, ?_⟩, ?_⟩
  · exact o_run 0 [] [] (fun _ _ => []) (fun _ _ => by as_aux_lemma => kernel_rfl)
  · exact o_run 1 [] [] (fun _ _ => []) (fun _ _ => by as_aux_lemma => kernel_rfl)
theorem rmeets_w_r2 (h : Nat) (b : Nat) (hb : b < 4294967296) (ρ1 : Nat → Orc) (w0 : World) : Reg Try.prog 1 (regOps Try.f46 1) false 21 [(1, (.int .u32 ((b : Nat) : Int))), (2, (.pointer (some ⟨nb ρ1 0, 0, none⟩))), (4, (.bool false))] w0 [(nb ρ1 0, (.cells (hB h) 44 (0, 0)))] (fun _ => True)
    (fun ρ => [(2, (.pointer (some ⟨nb ρ1 0, 0, none⟩))), (4, (.bool false)), (5, (.pointer (some ⟨nb ρ 5, 0, none⟩))), (6, (.int .i64 (expE b)))])
    (fun ρ => [(nb ρ1 0, (.cells (hB h) 44 (0, 0))), (nb ρ 5, (.cells (cU (expV b)) 24 (0, 0)))]) := by
  refine reg_seq [0, 1, 3, 7, 15, 31, 63, 127] [2, 4, 5, 6] 8
    (fun ρ ι => ([(.int .u32 ((b : Nat) : Int)), (.tuple #[(U (expV b)), (.int .i64 (expE b))]), (.tuple #[(U (expV b)), (.int .i64 (expE b))]), (U (expV b)), (.int .i64 (expE b)), (.pointer (some ⟨nb ρ 5, 0, none⟩)), undef, (.int .i64 (expE b))] : List Value).getD ι undef)
    (fun ρ ι => ([{}, {}, {}, {}, {}, { news := [(nb ρ 5, (.cells (cU 0) 24 (0, 0)))] }, { puts := [(41, (.cells (cU (expV b)) 24 (0, 0)))] }, {}] : List Eff).getD ι {})
    (by as_aux_lemma => kernel_rfl) (by as_aux_lemma => kernel_rfl) (fun _ => by as_aux_lemma => kernel_rfl) (fun _ => by as_aux_lemma => kernel_rfl) ⟨⟨⟨⟨⟨⟨⟨⟨trivial, ?_⟩, ?_⟩, ?_⟩, ?_⟩, ?_⟩, ?_⟩, ?_⟩, ?_⟩
  · exact o_run 0 [] [] (fun _ _ => []) (fun _ _ => by as_aux_lemma => kernel_rfl)
  · exact o_call 1 33 (fun _ => #[(.int .u32 ((b : Nat) : Int))]) (fun _ => (.tuple #[(U (expV b)), (.int .i64 (expE b))])) (fun _ _ => by as_aux_lemma => kernel_rfl) (fun _ w => (fun w => rexpand_any b w hb) w)
  · exact o_run 2 [] [] (fun _ _ => []) (fun _ _ => by as_aux_lemma => kernel_rfl)
  · exact o_run 3 [] [] (fun _ _ => []) (fun _ _ => by as_aux_lemma => kernel_rfl)
  · exact o_run 4 [] [] (fun _ _ => []) (fun _ _ => by as_aux_lemma => kernel_rfl)
  · exact o_run 5 [] [] (fun _ _ => []) (fun _ _ => by as_aux_lemma => kernel_rfl)
  · exact o_run 6 [41] [] (fun ρ _ => [nb ρ 5, nb ρ 5, nb ρ 5, nb ρ 5]) (fun _ _ => by as_aux_lemma => kernel_rfl)
  · exact o_run 7 [] [] (fun _ _ => []) (fun _ _ => by as_aux_lemma => kernel_rfl)
theorem rmeets_w_r3 (h : Nat) (b : Nat) (hh : h < M) (hb1 : (expB b) = true) (ρ1 : Nat → Orc) (ρ2 : Nat → Orc) (w0 : World) : Reg Try.prog 2 (regOps Try.f46 2) true 21 [(2, (.pointer (some ⟨nb ρ1 0, 0, none⟩))), (4, (.bool false)), (5, (.pointer (some ⟨nb ρ2 5, 0, none⟩))), (6, (.int .i64 (expE b)))] w0 [(nb ρ1 0, (.cells (hB h) 44 (0, 0))), (nb ρ2 5, (.cells (cU (expV b)) 24 (0, 0)))] (fun _ => True)
    (fun _ => [(4, (.bool (decide ((cmpN h (expV b)) ≤ 0))))])
    (fun _ => [(nb ρ1 0, (.cells (hB h) 44 (0, 0))), (nb ρ2 5, (.cells (cU (expV b)) 24 (0, 0)))]) := by
  refine reg_drawn [0, 1, 3, 7, 15, 7, 63, 127, 255, 511] [4] 10
    (fun _ ι => ([(.int .i64 (expE b)), (.bool true), (.bool true), (.agg (hB h)), (U h), (U (expV b)), (.int .i64 (cmpN h (expV b))), (.bool (decide ((cmpN h (expV b)) ≤ 0))), (.bool (decide ((cmpN h (expV b)) ≤ 0))), (.bool (decide ((cmpN h (expV b)) ≤ 0)))] : List Value).getD ι undef)
    (fun _ ι => ([{}, {}, {}, {}, {}, {}, {}, {}, {}, {}] : List Eff).getD ι {})
    (by as_aux_lemma => kernel_rfl) (by as_aux_lemma => kernel_rfl) (by as_aux_lemma => kernel_rfl) (fun _ => by as_aux_lemma => kernel_rfl) (fun _ => by as_aux_lemma => kernel_rfl) ⟨⟨⟨⟨⟨⟨⟨⟨⟨⟨trivial, ?_⟩, ?_⟩, ?_⟩, ?_⟩, ?_⟩, ?_⟩, ?_⟩, ?_⟩, ?_⟩, ?_⟩
  · exact o_run 0 [] [] (fun _ _ => []) (fun _ _ => by as_aux_lemma => kernel_rfl)
  · exact o_as 1 (fun _ => (.bool ((expE b) == 0))) (fun _ => (.bool true)) (fun _ _ => by as_aux_lemma => kernel_rfl) (fun _ => congrArg Value.bool ((expE_ok b).trans hb1))
  · exact o_run 2 [] [] (fun _ _ => []) (fun _ _ => by as_aux_lemma => kernel_rfl)
  · exact o_run 3 [0] [] (fun _ _ => [nb ρ1 0, nb ρ1 0, nb ρ1 0, nb ρ1 0, nb ρ1 0, nb ρ1 0, nb ρ1 0, nb ρ1 0, nb ρ1 0, nb ρ1 0, nb ρ1 0, nb ρ1 0, nb ρ1 0, nb ρ1 0, nb ρ1 0, nb ρ1 0, nb ρ1 0, nb ρ1 0, nb ρ1 0, nb ρ1 0, nb ρ1 0, nb ρ1 0, nb ρ1 0, nb ρ1 0, nb ρ1 0, nb ρ1 0, nb ρ1 0, nb ρ1 0, nb ρ1 0, nb ρ1 0, nb ρ1 0, nb ρ1 0]) (fun _ _ => by as_aux_lemma => kernel_rfl)
  · exact o_call 4 81 (fun _ => #[(.agg (hB h))]) (fun _ => (U h)) (fun _ _ => by as_aux_lemma => kernel_rfl) (fun _ w => (fun w => rfrombytes_any h w) w)
  · exact o_run 5 [1] [] (fun _ _ => [nb ρ2 5, nb ρ2 5, nb ρ2 5, nb ρ2 5]) (fun _ _ => by as_aux_lemma => kernel_rfl)
  · exact o_call 6 40 (fun _ => #[(U h), (U (expV b))]) (fun _ => (.int .i64 (cmpN h (expV b)))) (fun _ _ => by as_aux_lemma => kernel_rfl) (fun _ w => (fun w => rcmp_any h (expV b) w hh (expV_lt b)) w)
  · exact o_run 7 [] [] (fun _ _ => []) (fun _ _ => by as_aux_lemma => kernel_rfl)
  · exact o_run 8 [] [] (fun _ _ => []) (fun _ _ => by as_aux_lemma => kernel_rfl)
  · exact o_run 9 [] [] (fun _ _ => []) (fun _ _ => by as_aux_lemma => kernel_rfl)
theorem rmeets_w_r4 (h : Nat) (b : Nat) (hb1 : (expB b) = false) (ρ1 : Nat → Orc) (ρ2 : Nat → Orc) (w0 : World) : Reg Try.prog 2 (regOps Try.f46 2) true 21 [(2, (.pointer (some ⟨nb ρ1 0, 0, none⟩))), (4, (.bool false)), (5, (.pointer (some ⟨nb ρ2 5, 0, none⟩))), (6, (.int .i64 (expE b)))] w0 [(nb ρ1 0, (.cells (hB h) 44 (0, 0))), (nb ρ2 5, (.cells (cU (expV b)) 24 (0, 0)))] (fun _ => True)
    (fun _ => [(4, (.bool false))])
    (fun _ => [(nb ρ1 0, (.cells (hB h) 44 (0, 0))), (nb ρ2 5, (.cells (cU (expV b)) 24 (0, 0)))]) := by
  refine reg_drawn [0, 1, 3, 7, 15, 7, 63, 127, 255, 511] [4] 10
    (fun _ ι => ([(.int .i64 (expE b)), (.bool false), (.bool false), undef, undef, undef, undef, undef, (.bool false), (.bool false)] : List Value).getD ι undef)
    (fun _ ι => ([{}, {}, {}, {}, {}, {}, {}, {}, {}, {}] : List Eff).getD ι {})
    (by as_aux_lemma => kernel_rfl) (by as_aux_lemma => kernel_rfl) (by as_aux_lemma => kernel_rfl) (fun _ => by as_aux_lemma => kernel_rfl) (fun _ => by as_aux_lemma => kernel_rfl) ⟨⟨⟨⟨⟨⟨⟨⟨⟨⟨trivial, ?_⟩, ?_⟩, ?_⟩, ?_⟩, ?_⟩, ?_⟩, ?_⟩, ?_⟩, ?_⟩, ?_⟩
  · exact o_run 0 [] [] (fun _ _ => []) (fun _ _ => by as_aux_lemma => kernel_rfl)
  · exact o_as 1 (fun _ => (.bool ((expE b) == 0))) (fun _ => (.bool false)) (fun _ _ => by as_aux_lemma => kernel_rfl) (fun _ => congrArg Value.bool ((expE_ok b).trans hb1))
  · exact o_run 2 [] [] (fun _ _ => []) (fun _ _ => by as_aux_lemma => kernel_rfl)
  · exact o_skip 3 (fun _ => by as_aux_lemma => kernel_rfl)
  · exact o_skip 4 (fun _ => by as_aux_lemma => kernel_rfl)
  · exact o_skip 5 (fun _ => by as_aux_lemma => kernel_rfl)
  · exact o_skip 6 (fun _ => by as_aux_lemma => kernel_rfl)
  · exact o_skip 7 (fun _ => by as_aux_lemma => kernel_rfl)
  · exact o_run 8 [] [] (fun _ _ => []) (fun _ _ => by as_aux_lemma => kernel_rfl)
  · exact o_run 9 [] [] (fun _ _ => []) (fun _ _ => by as_aux_lemma => kernel_rfl)
theorem rmeets_w (h : Nat) (b : Nat) (hh : h < M) (hb : b < 4294967296) (w0 : World) : Calls Try.prog 46 #[(.agg (hB h)), (.int .u32 ((b : Nat) : Int))] w0 (fun ε w' => ε = .returned (.bool (meetB h b)) ∧ Below w0.heap.size w0 w') := by
  refine Calls.of_ok (n := 21) (F := fun _ => True) Try.func46 rfl rfl rfl (by simp) (persTrue (fun _ => trivial)) ?_
  refine ok_seq_r (by as_aux_lemma => kernel_rfl) (rmeets_w_r1 h b _) (fun ρ1 => ?_)
  refine ok_seq_r (by as_aux_lemma => kernel_rfl) (rmeets_w_r2 h b hb ρ1 _) (fun ρ2 => ?_)
  rcases Bool.eq_false_or_eq_true (expB b) with hb1 | hb1
  ·
    refine ok_seq_r (by as_aux_lemma => kernel_rfl) (rmeets_w_r3 h b hh hb1 ρ1 ρ2 _) (fun _ => ?_)
    refine ok_ret ?_
    exact meets_ret (v := (.bool (decide ((cmpN h (expV b)) ≤ 0)))) [] (dup []) (by as_aux_lemma => kernel_rfl) (by as_aux_lemma => kernel_rfl) (eqs_dup _) (fun _ hS => ⟨congrArg (fun x => Ending.returned (.bool x)) (meet_t hb1), hS.below⟩)
  ·
    refine ok_seq_r (by as_aux_lemma => kernel_rfl) (rmeets_w_r4 h b hb1 ρ1 ρ2 _) (fun _ => ?_)
    refine ok_ret ?_
    exact meets_ret (v := (.bool false)) [] (dup []) (by as_aux_lemma => kernel_rfl) (by as_aux_lemma => kernel_rfl) (eqs_dup _) (fun _ hS => ⟨congrArg (fun x => Ending.returned (.bool x)) (meet_f hb1), hS.below⟩)
theorem rmeets_any (h : Nat) (b : Nat) (w0 : World) (hh : h < M) (hb : b < 4294967296) : Calls Try.prog 46 #[(.agg (hB h)), (.int .u32 ((b : Nat) : Int))] w0 (fun ε w' => ε = .returned (.bool (meetB h b)) ∧ Below w0.heap.size w0 w') := rmeets_w h b hh hb w0
end Go.Proofs.Ytkiijahkmgmnnaa
