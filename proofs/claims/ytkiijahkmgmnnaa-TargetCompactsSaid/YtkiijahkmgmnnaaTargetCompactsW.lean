/-
  The law TargetCompacts: the walk.
-/
import Derived.Test.YtkiijahkmgmnnaaTSane
import Derived.Test.YtkiijahkmgmnnaaOpen
namespace Go.Proofs.Ytkiijahkmgmnnaa
open Go Go.RowKit
set_option maxRecDepth 100000
theorem targetCompacts_w_r1 (t : Nat) (w0 : World) : Reg Try.prog 0 (regOps Try.f7 0) false 18 [(0, (U t))] w0 [] (fun _ => True)
    (fun ρ => [(1, (.pointer (some ⟨nb ρ 0, 0, none⟩))), (2, (.bool false))])
    (fun ρ => [(nb ρ 0, (.cells (cU t) 24 (0, 0)))]) := by
  refine reg_seq [0, 1] [1, 2] 2
    (fun ρ ι => ([(.pointer (some ⟨nb ρ 0, 0, none⟩)), (.bool false)] : List Value).getD ι undef)
    (fun ρ ι => ([{ news := [(nb ρ 0, (.cells (cU t) 24 (0, 0)))] }, {}] : List Eff).getD ι {})
    (by as_aux_lemma => kernel_rfl) (by as_aux_lemma => kernel_rfl) (fun _ => by as_aux_lemma => kernel_rfl) (fun _ => by as_aux_lemma => kernel_rfl) ⟨⟨trivial, ?_⟩, ?_⟩
  · exact o_run 0 [] [] (fun _ _ => []) (fun _ _ => by as_aux_lemma => kernel_rfl)
  · exact o_run 1 [] [] (fun _ _ => []) (fun _ _ => by as_aux_lemma => kernel_rfl)
theorem targetCompacts_w_r2 (t : Nat) (ht : t < M) (ρ1 : Nat → Orc) (w0 : World) : Reg Try.prog 1 (regOps Try.f7 1) true 18 [(1, (.pointer (some ⟨nb ρ1 0, 0, none⟩))), (2, (.bool false))] w0 [(nb ρ1 0, (.cells (cU t) 24 (0, 0)))] (fun _ => True)
    (fun _ => [(2, (.bool true))])
    (fun _ => [(nb ρ1 0, (.cells (cU t) 24 (0, 0)))]) := by
  refine reg_drawn [0, 1, 3, 7, 3, 31, 63, 127, 255, 511, 1023, 511, 4095, 8191, 16383, 32767] [2] 16
    (fun _ ι => ([(.bool true), (.bool true), (U t), (.int .u32 ((compN t : Nat) : Int)), (U t), (.int .u32 ((compN t : Nat) : Int)), (.bool true), (.bool true), (.bool true), (U t), (U (workN t)), (U t), (U (workN t)), (.bool true), (.bool true), (.bool true)] : List Value).getD ι undef)
    (fun _ ι => ([{}, {}, {}, {}, {}, {}, {}, {}, {}, {}, {}, {}, {}, {}, {}, {}] : List Eff).getD ι {})
    (by as_aux_lemma => kernel_rfl) (by as_aux_lemma => kernel_rfl) (by as_aux_lemma => kernel_rfl) (fun _ => by as_aux_lemma => kernel_rfl) (fun _ => by as_aux_lemma => kernel_rfl) ⟨⟨⟨⟨⟨⟨⟨⟨⟨⟨⟨⟨⟨⟨⟨⟨trivial, ?_⟩, ?_⟩, ?_⟩, ?_⟩, ?_⟩, ?_⟩, ?_⟩, ?_⟩, ?_⟩, ?_⟩, ?_⟩, ?_⟩, ?_⟩, ?_⟩, ?_⟩, ?_⟩
  · exact o_call 0 34 (fun _ => #[]) (fun _ => (.bool true)) (fun _ _ => by as_aux_lemma => kernel_rfl) (fun _ w => (fun w => tsane_any w) w)
  · exact o_run 1 [] [] (fun _ _ => []) (fun _ _ => by as_aux_lemma => kernel_rfl)
  · exact o_run 2 [0] [] (fun _ _ => [nb ρ1 0, nb ρ1 0, nb ρ1 0, nb ρ1 0]) (fun _ _ => by as_aux_lemma => kernel_rfl)
  · exact o_call 3 35 (fun _ => #[(U t)]) (fun _ => (.int .u32 ((compN t : Nat) : Int))) (fun _ _ => by as_aux_lemma => kernel_rfl) (fun _ w => (fun w => compact_any t w ht) w)
  · exact o_run 4 [0] [] (fun _ _ => [nb ρ1 0, nb ρ1 0, nb ρ1 0, nb ρ1 0]) (fun _ _ => by as_aux_lemma => kernel_rfl)
  · exact o_call 5 36 (fun _ => #[(U t)]) (fun _ => (.int .u32 ((compN t : Nat) : Int))) (fun _ _ => by as_aux_lemma => kernel_rfl) (fun _ w => (fun w => rcompact_any t w ht) w)
  · exact o_as 6 (fun _ => (.bool (((compN t : Nat) : Int) == ((compN t : Nat) : Int)))) (fun _ => (.bool true)) (fun _ _ => by as_aux_lemma => kernel_rfl) (fun _ => congrArg Value.bool (beq_self_eq_true _))
  · exact o_run 7 [] [] (fun _ _ => []) (fun _ _ => by as_aux_lemma => kernel_rfl)
  · exact o_run 8 [] [] (fun _ _ => []) (fun _ _ => by as_aux_lemma => kernel_rfl)
  · exact o_run 9 [0] [] (fun _ _ => [nb ρ1 0, nb ρ1 0, nb ρ1 0, nb ρ1 0]) (fun _ _ => by as_aux_lemma => kernel_rfl)
  · exact o_call 10 37 (fun _ => #[(U t)]) (fun _ => (U (workN t))) (fun _ _ => by as_aux_lemma => kernel_rfl) (fun _ w => (fun w => work_any t w ht) w)
  · exact o_run 11 [0] [] (fun _ _ => [nb ρ1 0, nb ρ1 0, nb ρ1 0, nb ρ1 0]) (fun _ _ => by as_aux_lemma => kernel_rfl)
  · exact o_call 12 38 (fun _ => #[(U t)]) (fun _ => (U (workN t))) (fun _ _ => by as_aux_lemma => kernel_rfl) (fun _ w => (fun w => rwork_any t w ht) w)
  · exact o_bin 13 .eql 24 (fun _ => (U (workN t))) (fun _ => (U (workN t))) (fun _ => (.bool true)) (fun _ => by as_aux_lemma => kernel_rfl) (fun _ _ _ _ => by as_aux_lemma => kernel_rfl) (fun _ _ => eqlU_same (workN t) (workN_lt t) _)
  · exact o_run 14 [] [] (fun _ _ => []) (fun _ _ => by as_aux_lemma => kernel_rfl)
  · exact o_run 15 [] [] (fun _ _ => []) (fun _ _ => by as_aux_lemma => kernel_rfl)
theorem targetCompacts_w (t : Nat) (ht : t < M) (w0 : World) : Calls Try.prog 7 #[(U t)] w0 (fun ε w' => ε = .returned (.bool true) ∧ Below w0.heap.size w0 w') := by
  refine Calls.of_ok (n := 18) (F := fun _ => True) Try.func7 rfl rfl rfl (by simp) (persTrue (fun _ => trivial)) ?_
  refine ok_seq_r (by as_aux_lemma => kernel_rfl) (targetCompacts_w_r1 t _) (fun ρ1 => ?_)
  refine ok_seq_r (by as_aux_lemma => kernel_rfl) (targetCompacts_w_r2 t ht ρ1 _) (fun _ => ?_)
  refine ok_ret ?_
  exact meets_ret (v := (.bool true)) [] (dup []) (by as_aux_lemma => kernel_rfl) (by as_aux_lemma => kernel_rfl) (eqs_dup _) (fun _ hS => ⟨rfl, hS.below⟩)
theorem targetCompacts_walk (t : Nat) (w0 : World) (ht : t < M) : Calls Try.prog 7 #[(U t)] w0 (fun ε w' => ε = .returned (.bool true) ∧ Below w0.heap.size w0 w') := by
  exact targetCompacts_w t ht w0
end Go.Proofs.Ytkiijahkmgmnnaa
