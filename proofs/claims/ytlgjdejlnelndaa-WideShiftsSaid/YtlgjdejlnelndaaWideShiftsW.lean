/-
  The law WideShifts: the walk.
-/
import Derived.Test.YtlgjdejlnelndaaWShift
import Derived.Test.YtlgjdejlnelndaaSane
import Derived.Test.YtlgjdejlnelndaaOpen
import Derived.Test.YtlgjdejlnelndaaGNum
namespace Go.Proofs.Ytlgjdejlnelndaa
open Go Go.RowKit
set_option maxRecDepth 100000
theorem wideShifts_w_r1 (a : Nat) (n : Int) (w0 : World) : Reg Try.prog 0 (regOps Try.f6 0) false 24 [(0, (U a)), (1, (.int .i64 n))] w0 [] (fun _ => True)
    (fun ρ => [(1, (.int .i64 n)), (2, (.pointer (some ⟨nb ρ 0, 0, none⟩))), (4, (.bool false))])
    (fun ρ => [(nb ρ 0, (.cells (cU a) 24 (0, 0)))]) := by
  refine reg_seq [0, 1] [1, 2, 4] 2
    (fun ρ ι => ([(.pointer (some ⟨nb ρ 0, 0, none⟩)), (.bool false)] : List Value).getD ι undef)
    (fun ρ ι => ([{ news := [(nb ρ 0, (.cells (cU a) 24 (0, 0)))] }, {}] : List Eff).getD ι {})
    (by as_aux_lemma => kernel_rfl) (by as_aux_lemma => kernel_rfl) (fun _ => by as_aux_lemma => kernel_rfl) (fun _ => by as_aux_lemma => kernel_rfl) ⟨⟨trivial, ?_⟩, ?_⟩
  · exact o_run 0 [] [] (fun _ _ => []) (fun _ _ => by as_aux_lemma => kernel_rfl)
  · exact o_run 1 [] [] (fun _ _ => []) (fun _ _ => by as_aux_lemma => kernel_rfl)
theorem wideShifts_w_r2 (a : Nat) (n : Int) (ha : a < M) (ρ1 : Nat → Orc) (w0 : World) : Reg Try.prog 1 (regOps Try.f6 1) true 24 [(1, (.int .i64 n)), (2, (.pointer (some ⟨nb ρ1 0, 0, none⟩))), (4, (.bool false))] w0 [(nb ρ1 0, (.cells (cU a) 24 (0, 0)))] (fun _ => True)
    (fun _ => [(4, (.bool true))])
    (fun _ => [(nb ρ1 0, (.cells (cU a) 24 (0, 0)))]) := by
  refine reg_drawn [0, 1, 3, 3, 15, 3, 3, 127, 255, 511, 1023, 2047, 2047, 8191, 2047, 2047, 65535, 131071, 262143, 524287] [4] 20
    (fun _ ι => ([(.bool true), (.bool true), (U a), (.int .i64 n), (U (shlZ a n)), (U a), (.int .i64 n), (U (shlZ a n)), (.bool true), (.bool true), (.bool true), (U a), (.int .i64 n), (U (shrZ a n)), (U a), (.int .i64 n), (U (shrZ a n)), (.bool true), (.bool true), (.bool true)] : List Value).getD ι undef)
    (fun _ ι => ([{}, {}, {}, {}, {}, {}, {}, {}, {}, {}, {}, {}, {}, {}, {}, {}, {}, {}, {}, {}] : List Eff).getD ι {})
    (by as_aux_lemma => kernel_rfl) (by as_aux_lemma => kernel_rfl) (by as_aux_lemma => kernel_rfl) (fun _ => by as_aux_lemma => kernel_rfl) (fun _ => by as_aux_lemma => kernel_rfl) ⟨⟨⟨⟨⟨⟨⟨⟨⟨⟨⟨⟨⟨⟨⟨⟨⟨⟨⟨⟨trivial, ?_⟩, ?_⟩, ?_⟩, ?_⟩, ?_⟩, ?_⟩, ?_⟩, ?_⟩, ?_⟩, ?_⟩, ?_⟩, ?_⟩, ?_⟩, ?_⟩, ?_⟩, ?_⟩, ?_⟩, ?_⟩, ?_⟩, ?_⟩
  · exact o_call 0 17 (fun _ => #[]) (fun _ => (.bool true)) (fun _ _ => by as_aux_lemma => kernel_rfl) (fun _ w => (fun w => sane_any w) w)
  · exact o_run 1 [] [] (fun _ _ => []) (fun _ _ => by as_aux_lemma => kernel_rfl)
  · exact o_run 2 [0] [] (fun _ _ => [nb ρ1 0, nb ρ1 0, nb ρ1 0, nb ρ1 0]) (fun _ _ => by as_aux_lemma => kernel_rfl)
  · exact o_run 3 [] [] (fun _ _ => []) (fun _ _ => by as_aux_lemma => kernel_rfl)
  · exact o_call 4 28 (fun _ => #[(U a), (.int .i64 n)]) (fun _ => (U (shlZ a n))) (fun _ _ => by as_aux_lemma => kernel_rfl) (fun _ w => (fun w => shl_any a n w ha) w)
  · exact o_run 5 [0] [] (fun _ _ => [nb ρ1 0, nb ρ1 0, nb ρ1 0, nb ρ1 0]) (fun _ _ => by as_aux_lemma => kernel_rfl)
  · exact o_run 6 [] [] (fun _ _ => []) (fun _ _ => by as_aux_lemma => kernel_rfl)
  · exact o_call 7 29 (fun _ => #[(U a), (.int .i64 n)]) (fun _ => (U (shlZ a n))) (fun _ _ => by as_aux_lemma => kernel_rfl) (fun _ w => (fun w => rshl_any a n w ha) w)
  · exact o_bin 8 .eql 24 (fun _ => (U (shlZ a n))) (fun _ => (U (shlZ a n))) (fun _ => (.bool true)) (fun _ => by as_aux_lemma => kernel_rfl) (fun _ _ _ _ => by as_aux_lemma => kernel_rfl) (fun _ _ => eqlU_same (shlZ a n) (shlZ_lt _ ha) _)
  · exact o_run 9 [] [] (fun _ _ => []) (fun _ _ => by as_aux_lemma => kernel_rfl)
  · exact o_run 10 [] [] (fun _ _ => []) (fun _ _ => by as_aux_lemma => kernel_rfl)
  · exact o_run 11 [0] [] (fun _ _ => [nb ρ1 0, nb ρ1 0, nb ρ1 0, nb ρ1 0]) (fun _ _ => by as_aux_lemma => kernel_rfl)
  · exact o_run 12 [] [] (fun _ _ => []) (fun _ _ => by as_aux_lemma => kernel_rfl)
  · exact o_call 13 30 (fun _ => #[(U a), (.int .i64 n)]) (fun _ => (U (shrZ a n))) (fun _ _ => by as_aux_lemma => kernel_rfl) (fun _ w => (fun w => shr_any a n w ha) w)
  · exact o_run 14 [0] [] (fun _ _ => [nb ρ1 0, nb ρ1 0, nb ρ1 0, nb ρ1 0]) (fun _ _ => by as_aux_lemma => kernel_rfl)
  · exact o_run 15 [] [] (fun _ _ => []) (fun _ _ => by as_aux_lemma => kernel_rfl)
  · exact o_call 16 31 (fun _ => #[(U a), (.int .i64 n)]) (fun _ => (U (shrZ a n))) (fun _ _ => by as_aux_lemma => kernel_rfl) (fun _ w => (fun w => rshr_any a n w ha) w)
  · exact o_bin 17 .eql 24 (fun _ => (U (shrZ a n))) (fun _ => (U (shrZ a n))) (fun _ => (.bool true)) (fun _ => by as_aux_lemma => kernel_rfl) (fun _ _ _ _ => by as_aux_lemma => kernel_rfl) (fun _ _ => eqlU_same (shrZ a n) (shrZ_lt _ ha) _)
  · exact o_run 18 [] [] (fun _ _ => []) (fun _ _ => by as_aux_lemma => kernel_rfl)
  · exact o_run 19 [] [] (fun _ _ => []) (fun _ _ => by as_aux_lemma => kernel_rfl)
theorem wideShifts_w (a : Nat) (n : Int) (ha : a < M) (_hn : (Lit.int .i64 n).wf = true) (w0 : World) : Calls Try.prog 6 #[(U a), (.int .i64 n)] w0 (fun ε w' => ε = .returned (.bool true) ∧ Below w0.heap.size w0 w') := by
  refine Calls.of_ok (n := 24) (F := fun _ => True) Try.func6 rfl rfl rfl (by simp) (persTrue (fun _ => trivial)) ?_
  refine ok_seq_r (by as_aux_lemma => kernel_rfl) (wideShifts_w_r1 a n _) (fun ρ1 => ?_)
  refine ok_seq_r (by as_aux_lemma => kernel_rfl) (wideShifts_w_r2 a n ha ρ1 _) (fun _ => ?_)
  refine ok_ret ?_
  exact meets_ret (v := (.bool true)) [] (dup []) (by as_aux_lemma => kernel_rfl) (by as_aux_lemma => kernel_rfl) (eqs_dup _) (fun _ hS => ⟨rfl, hS.below⟩)
theorem wideShifts_walk (a : Nat) (n : Int) (w0 : World) (ha : a < M) (hn : (Lit.int .i64 n).wf = true) : Calls Try.prog 6 #[(U a), (.int .i64 n)] w0 (fun ε w' => ε = .returned (.bool true) ∧ Below w0.heap.size w0 w') := wideShifts_w a n ha hn w0
end Go.Proofs.Ytlgjdejlnelndaa
