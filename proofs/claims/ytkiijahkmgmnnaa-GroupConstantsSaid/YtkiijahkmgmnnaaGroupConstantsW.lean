/-
  The law GroupConstants: the walk.
-/
import Derived.Test.YtkiijahkmgmnnaaGGroup
import Derived.Test.YtkiijahkmgmnnaaOpen
namespace Go.Proofs.Ytkiijahkmgmnnaa
open Go Go.RowKit
set_option maxRecDepth 100000
theorem groupConstants_w_r1 (a : Nat) (w0 : World) : Reg Try.prog 0 (regOps Try.f3 0) false 21 [(0, (U a))] w0 [] (fun _ => True)
    (fun ρ => [(1, (.pointer (some ⟨nb ρ 0, 0, none⟩))), (2, (.bool false))])
    (fun ρ => [(nb ρ 0, (.cells (cU a) 24 (0, 0)))]) := by
  refine reg_seq [0, 1] [1, 2] 2
    (fun ρ ι => ([(.pointer (some ⟨nb ρ 0, 0, none⟩)), (.bool false)] : List Value).getD ι undef)
    (fun ρ ι => ([{ news := [(nb ρ 0, (.cells (cU a) 24 (0, 0)))] }, {}] : List Eff).getD ι {})
    (by as_aux_lemma => kernel_rfl) (by as_aux_lemma => kernel_rfl) (fun _ => by as_aux_lemma => kernel_rfl) (fun _ => by as_aux_lemma => kernel_rfl) ⟨⟨trivial, ?_⟩, ?_⟩
  · exact o_run 0 [] [] (fun _ _ => []) (fun _ _ => by as_aux_lemma => kernel_rfl)
  · exact o_run 1 [] [] (fun _ _ => []) (fun _ _ => by as_aux_lemma => kernel_rfl)
theorem groupConstants_w_r2 (a : Nat) (ha : a < M) (ρ1 : Nat → Orc) (w0 : World) : Reg Try.prog 1 (regOps Try.f3 1) true 21 [(1, (.pointer (some ⟨nb ρ1 0, 0, none⟩))), (2, (.bool false))] w0 [(nb ρ1 0, (.cells (cU a) 24 (0, 0)))] (fun _ => True)
    (fun _ => [(2, (.bool true))])
    (fun _ => [(nb ρ1 0, (.cells (cU a) 24 (0, 0)))]) := by
  refine reg_drawn [0, 1, 3, 7, 15, 31, 63, 127, 255, 511, 1023, 2047, 4095, 8191, 4095, 32767, 65535, 131071, 262143] [2] 19
    (fun _ ι => ([(.bool true), (.bool true), (U pP), (U pP), (.bool true), (.bool true), (.bool true), (U qP), (U qP), (.bool true), (.bool true), (.bool true), (U a), (.bool (memB a)), (U a), (.bool (memB a)), (.bool true), (.bool true), (.bool true)] : List Value).getD ι undef)
    (fun _ ι => ([{}, {}, {}, {}, {}, {}, {}, {}, {}, {}, {}, {}, {}, {}, {}, {}, {}, {}, {}] : List Eff).getD ι {})
    (by as_aux_lemma => kernel_rfl) (by as_aux_lemma => kernel_rfl) (by as_aux_lemma => kernel_rfl) (fun _ => by as_aux_lemma => kernel_rfl) (fun _ => by as_aux_lemma => kernel_rfl) ⟨⟨⟨⟨⟨⟨⟨⟨⟨⟨⟨⟨⟨⟨⟨⟨⟨⟨⟨trivial, ?_⟩, ?_⟩, ?_⟩, ?_⟩, ?_⟩, ?_⟩, ?_⟩, ?_⟩, ?_⟩, ?_⟩, ?_⟩, ?_⟩, ?_⟩, ?_⟩, ?_⟩, ?_⟩, ?_⟩, ?_⟩, ?_⟩
  · exact o_call 0 15 (fun _ => #[]) (fun _ => (.bool true)) (fun _ _ => by as_aux_lemma => kernel_rfl) (fun _ w => (fun w => gsane_any w) w)
  · exact o_run 1 [] [] (fun _ _ => []) (fun _ _ => by as_aux_lemma => kernel_rfl)
  · exact o_call 2 16 (fun _ => #[]) (fun _ => (U pP)) (fun _ _ => by as_aux_lemma => kernel_rfl) (fun _ w => (fun w => gmodulus_any w) w)
  · exact o_call 3 17 (fun _ => #[]) (fun _ => (U pP)) (fun _ _ => by as_aux_lemma => kernel_rfl) (fun _ w => (fun w => rgmodulus_any w) w)
  · exact o_bin 4 .eql 24 (fun _ => (U pP)) (fun _ => (U pP)) (fun _ => (.bool true)) (fun _ => by as_aux_lemma => kernel_rfl) (fun _ _ _ _ => by as_aux_lemma => kernel_rfl) (fun _ _ => eqlU_same pP pP_lt _)
  · exact o_run 5 [] [] (fun _ _ => []) (fun _ _ => by as_aux_lemma => kernel_rfl)
  · exact o_run 6 [] [] (fun _ _ => []) (fun _ _ => by as_aux_lemma => kernel_rfl)
  · exact o_call 7 18 (fun _ => #[]) (fun _ => (U qP)) (fun _ _ => by as_aux_lemma => kernel_rfl) (fun _ w => (fun w => gorder_any w) w)
  · exact o_call 8 19 (fun _ => #[]) (fun _ => (U qP)) (fun _ _ => by as_aux_lemma => kernel_rfl) (fun _ w => (fun w => rgorder_any w) w)
  · exact o_bin 9 .eql 24 (fun _ => (U qP)) (fun _ => (U qP)) (fun _ => (.bool true)) (fun _ => by as_aux_lemma => kernel_rfl) (fun _ _ _ _ => by as_aux_lemma => kernel_rfl) (fun _ _ => eqlU_same qP qP_lt _)
  · exact o_run 10 [] [] (fun _ _ => []) (fun _ _ => by as_aux_lemma => kernel_rfl)
  · exact o_run 11 [] [] (fun _ _ => []) (fun _ _ => by as_aux_lemma => kernel_rfl)
  · exact o_run 12 [0] [] (fun _ _ => [nb ρ1 0, nb ρ1 0, nb ρ1 0, nb ρ1 0]) (fun _ _ => by as_aux_lemma => kernel_rfl)
  · exact o_call 13 20 (fun _ => #[(U a)]) (fun _ => (.bool (memB a))) (fun _ _ => by as_aux_lemma => kernel_rfl) (fun _ w => (fun w => gmember_any a w ha) w)
  · exact o_run 14 [0] [] (fun _ _ => [nb ρ1 0, nb ρ1 0, nb ρ1 0, nb ρ1 0]) (fun _ _ => by as_aux_lemma => kernel_rfl)
  · exact o_call 15 21 (fun _ => #[(U a)]) (fun _ => (.bool (memB a))) (fun _ _ => by as_aux_lemma => kernel_rfl) (fun _ w => (fun w => rgmember_any a w ha) w)
  · exact o_as 16 (fun _ => (.bool ((memB a) == (memB a)))) (fun _ => (.bool true)) (fun _ _ => by as_aux_lemma => kernel_rfl) (fun _ => congrArg Value.bool (beq_self_eq_true _))
  · exact o_run 17 [] [] (fun _ _ => []) (fun _ _ => by as_aux_lemma => kernel_rfl)
  · exact o_run 18 [] [] (fun _ _ => []) (fun _ _ => by as_aux_lemma => kernel_rfl)
theorem groupConstants_w (a : Nat) (ha : a < M) (w0 : World) : Calls Try.prog 3 #[(U a)] w0 (fun ε w' => ε = .returned (.bool true) ∧ Below w0.heap.size w0 w') := by
  refine Calls.of_ok (n := 21) (F := fun _ => True) Try.func3 rfl rfl rfl (by simp) (persTrue (fun _ => trivial)) ?_
  refine ok_seq_r (by as_aux_lemma => kernel_rfl) (groupConstants_w_r1 a _) (fun ρ1 => ?_)
  refine ok_seq_r (by as_aux_lemma => kernel_rfl) (groupConstants_w_r2 a ha ρ1 _) (fun _ => ?_)
  refine ok_ret ?_
  exact meets_ret (v := (.bool true)) [] (dup []) (by as_aux_lemma => kernel_rfl) (by as_aux_lemma => kernel_rfl) (eqs_dup _) (fun _ hS => ⟨rfl, hS.below⟩)
theorem groupConstants_walk (a : Nat) (w0 : World) (ha : a < M) : Calls Try.prog 3 #[(U a)] w0 (fun ε w' => ε = .returned (.bool true) ∧ Below w0.heap.size w0 w') := groupConstants_w a ha w0
end Go.Proofs.Ytkiijahkmgmnnaa
