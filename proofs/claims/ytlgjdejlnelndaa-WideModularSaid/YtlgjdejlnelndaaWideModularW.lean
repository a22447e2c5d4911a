/-
  The law WideModular: the walk.
-/
import Derived.Test.YtlgjdejlnelndaaWModular
import Derived.Test.YtlgjdejlnelndaaSane
namespace Go.Proofs.Ytlgjdejlnelndaa
open Go Go.RowKit
set_option maxRecDepth 100000
theorem wideModular_w_r1 (a : Nat) (b : Nat) (m : Nat) (w0 : World) : Reg Try.prog 0 (regOps Try.f10 0) false 41 [(0, (U a)), (1, (U b)), (2, (U m))] w0 [] (fun _ => True)
    (fun ρ => [(3, (.pointer (some ⟨nb ρ 0, 0, none⟩))), (4, (.pointer (some ⟨nb ρ 1, 0, none⟩))), (5, (.pointer (some ⟨nb ρ 2, 0, none⟩))), (6, (.bool false))])
    (fun ρ => [(nb ρ 0, (.cells (cU a) 24 (0, 0))), (nb ρ 1, (.cells (cU b) 24 (0, 0))), (nb ρ 2, (.cells (cU m) 24 (0, 0)))]) := by
  refine reg_seq [0, 1, 3, 7] [3, 4, 5, 6] 4
    (fun ρ ι => ([(.pointer (some ⟨nb ρ 0, 0, none⟩)), (.pointer (some ⟨nb ρ 1, 0, none⟩)), (.pointer (some ⟨nb ρ 2, 0, none⟩)), (.bool false)] : List Value).getD ι undef)
    (fun ρ ι => ([{ news := [(nb ρ 0, (.cells (cU a) 24 (0, 0)))] }, { news := [(nb ρ 1, (.cells (cU b) 24 (0, 0)))] }, { news := [(nb ρ 2, (.cells (cU m) 24 (0, 0)))] }, {}] : List Eff).getD ι {})
    (by as_aux_lemma => kernel_rfl) (by as_aux_lemma => kernel_rfl) (fun _ => by as_aux_lemma => kernel_rfl) (fun _ => by as_aux_lemma => kernel_rfl) ⟨⟨⟨⟨trivial, ?_⟩, ?_⟩, ?_⟩, ?_⟩
  · exact o_run 0 [] [] (fun _ _ => []) (fun _ _ => by as_aux_lemma => kernel_rfl)
  · exact o_run 1 [] [] (fun _ _ => []) (fun _ _ => by as_aux_lemma => kernel_rfl)
  · exact o_run 2 [] [] (fun _ _ => []) (fun _ _ => by as_aux_lemma => kernel_rfl)
  · exact o_run 3 [] [] (fun _ _ => []) (fun _ _ => by as_aux_lemma => kernel_rfl)
theorem wideModular_w_r2 (a : Nat) (b : Nat) (m : Nat) (ha : a < M) (hb : b < M) (hm : m < M) (ρ1 : Nat → Orc) (w0 : World) : Reg Try.prog 1 (regOps Try.f10 1) true 41 [(3, (.pointer (some ⟨nb ρ1 0, 0, none⟩))), (4, (.pointer (some ⟨nb ρ1 1, 0, none⟩))), (5, (.pointer (some ⟨nb ρ1 2, 0, none⟩))), (6, (.bool false))] w0 [(nb ρ1 0, (.cells (cU a) 24 (0, 0))), (nb ρ1 1, (.cells (cU b) 24 (0, 0))), (nb ρ1 2, (.cells (cU m) 24 (0, 0)))] (fun _ => True)
    (fun _ => [(6, (.bool true))])
    (fun _ => [(nb ρ1 0, (.cells (cU a) 24 (0, 0))), (nb ρ1 1, (.cells (cU b) 24 (0, 0))), (nb ρ1 2, (.cells (cU m) 24 (0, 0)))]) := by
  refine reg_drawn [0, 1, 3, 3, 3, 31, 3, 3, 3, 511, 1023, 2047, 4095, 8191, 8191, 8191, 65535, 8191, 8191, 8191, 1048575, 2097151, 4194303, 8388607, 16777215, 16777215, 16777215, 134217727, 16777215, 16777215, 16777215, 2147483647, 4294967295, 8589934591, 17179869183] [6] 35
    (fun _ ι => ([(.bool true), (.bool true), (U a), (U b), (U m), (U (addmN a b m)), (U a), (U b), (U m), (U (addmN a b m)), (.bool true), (.bool true), (.bool true), (U a), (U b), (U m), (U (submN a b m)), (U a), (U b), (U m), (U (submN a b m)), (.bool true), (.bool true), (.bool true), (U a), (U b), (U m), (U (mulmN a b m)), (U a), (U b), (U m), (U (mulmN a b m)), (.bool true), (.bool true), (.bool true)] : List Value).getD ι undef)
    (fun _ ι => ([{}, {}, {}, {}, {}, {}, {}, {}, {}, {}, {}, {}, {}, {}, {}, {}, {}, {}, {}, {}, {}, {}, {}, {}, {}, {}, {}, {}, {}, {}, {}, {}, {}, {}, {}] : List Eff).getD ι {})
    (by as_aux_lemma => kernel_rfl) (by as_aux_lemma => kernel_rfl) (by as_aux_lemma => kernel_rfl) (fun _ => by as_aux_lemma => kernel_rfl) (fun _ => by as_aux_lemma => kernel_rfl) ⟨⟨⟨⟨⟨⟨⟨⟨⟨⟨⟨⟨⟨⟨⟨⟨⟨⟨⟨⟨⟨⟨⟨⟨⟨⟨⟨⟨⟨⟨⟨⟨⟨⟨⟨trivial, ?_⟩, ?_⟩, ?_⟩, ?_⟩, ?_⟩, ?_⟩, ?_⟩, ?_⟩, ?_⟩, ?_⟩, ?_⟩, ?_⟩, ?_⟩, ?_⟩, ?_⟩, ?_⟩, ?_⟩, ?_⟩, ?_⟩, ?_⟩, ?_⟩, ?_⟩, ?_⟩, ?_⟩, ?_⟩, ?_⟩, ?_⟩, ?_⟩, ?_⟩, ?_⟩, ?_⟩, ?_⟩, ?_⟩, ?_⟩, ?_⟩
  · exact o_call 0 17 (fun _ => #[]) (fun _ => (.bool true)) (fun _ _ => by as_aux_lemma => kernel_rfl) (fun _ w => (fun w => sane_any w) w)
  · exact o_run 1 [] [] (fun _ _ => []) (fun _ _ => by as_aux_lemma => kernel_rfl)
  · exact o_run 2 [0] [] (fun _ _ => [nb ρ1 0, nb ρ1 0, nb ρ1 0, nb ρ1 0]) (fun _ _ => by as_aux_lemma => kernel_rfl)
  · exact o_run 3 [1] [] (fun _ _ => [nb ρ1 1, nb ρ1 1, nb ρ1 1, nb ρ1 1]) (fun _ _ => by as_aux_lemma => kernel_rfl)
  · exact o_run 4 [2] [] (fun _ _ => [nb ρ1 2, nb ρ1 2, nb ρ1 2, nb ρ1 2]) (fun _ _ => by as_aux_lemma => kernel_rfl)
  · exact o_call 5 43 (fun _ => #[(U a), (U b), (U m)]) (fun _ => (U (addmN a b m))) (fun _ _ => by as_aux_lemma => kernel_rfl) (fun _ w => (fun w => addmod_any a b m w ha hb hm) w)
  · exact o_run 6 [0] [] (fun _ _ => [nb ρ1 0, nb ρ1 0, nb ρ1 0, nb ρ1 0]) (fun _ _ => by as_aux_lemma => kernel_rfl)
  · exact o_run 7 [1] [] (fun _ _ => [nb ρ1 1, nb ρ1 1, nb ρ1 1, nb ρ1 1]) (fun _ _ => by as_aux_lemma => kernel_rfl)
  · exact o_run 8 [2] [] (fun _ _ => [nb ρ1 2, nb ρ1 2, nb ρ1 2, nb ρ1 2]) (fun _ _ => by as_aux_lemma => kernel_rfl)
  · exact o_call 9 44 (fun _ => #[(U a), (U b), (U m)]) (fun _ => (U (addmN a b m))) (fun _ _ => by as_aux_lemma => kernel_rfl) (fun _ w => (fun w => raddmod_any a b m w ha hb hm) w)
  · exact o_bin 10 .eql 24 (fun _ => (U (addmN a b m))) (fun _ => (U (addmN a b m))) (fun _ => (.bool true)) (fun _ => by as_aux_lemma => kernel_rfl) (fun _ _ _ _ => by as_aux_lemma => kernel_rfl) (fun _ _ => eqlU_same (addmN a b m) (addmN_lt _ _ hm) _)
  · exact o_run 11 [] [] (fun _ _ => []) (fun _ _ => by as_aux_lemma => kernel_rfl)
  · exact o_run 12 [] [] (fun _ _ => []) (fun _ _ => by as_aux_lemma => kernel_rfl)
  · exact o_run 13 [0] [] (fun _ _ => [nb ρ1 0, nb ρ1 0, nb ρ1 0, nb ρ1 0]) (fun _ _ => by as_aux_lemma => kernel_rfl)
  · exact o_run 14 [1] [] (fun _ _ => [nb ρ1 1, nb ρ1 1, nb ρ1 1, nb ρ1 1]) (fun _ _ => by as_aux_lemma => kernel_rfl)
  · exact o_run 15 [2] [] (fun _ _ => [nb ρ1 2, nb ρ1 2, nb ρ1 2, nb ρ1 2]) (fun _ _ => by as_aux_lemma => kernel_rfl)
  · exact o_call 16 45 (fun _ => #[(U a), (U b), (U m)]) (fun _ => (U (submN a b m))) (fun _ _ => by as_aux_lemma => kernel_rfl) (fun _ w => (fun w => submod_any a b m w ha hb hm) w)
  · exact o_run 17 [0] [] (fun _ _ => [nb ρ1 0, nb ρ1 0, nb ρ1 0, nb ρ1 0]) (fun _ _ => by as_aux_lemma => kernel_rfl)
  · exact o_run 18 [1] [] (fun _ _ => [nb ρ1 1, nb ρ1 1, nb ρ1 1, nb ρ1 1]) (fun _ _ => by as_aux_lemma => kernel_rfl)
  · exact o_run 19 [2] [] (fun _ _ => [nb ρ1 2, nb ρ1 2, nb ρ1 2, nb ρ1 2]) (fun _ _ => by as_aux_lemma => kernel_rfl)
  · exact o_call 20 46 (fun _ => #[(U a), (U b), (U m)]) (fun _ => (U (submN a b m))) (fun _ _ => by as_aux_lemma => kernel_rfl) (fun _ w => (fun w => rsubmod_any a b m w ha hb hm) w)
  · exact o_bin 21 .eql 24 (fun _ => (U (submN a b m))) (fun _ => (U (submN a b m))) (fun _ => (.bool true)) (fun _ => by as_aux_lemma => kernel_rfl) (fun _ _ _ _ => by as_aux_lemma => kernel_rfl) (fun _ _ => eqlU_same (submN a b m) (submN_lt _ _ hm) _)
  · exact o_run 22 [] [] (fun _ _ => []) (fun _ _ => by as_aux_lemma => kernel_rfl)
  · exact o_run 23 [] [] (fun _ _ => []) (fun _ _ => by as_aux_lemma => kernel_rfl)
  · exact o_run 24 [0] [] (fun _ _ => [nb ρ1 0, nb ρ1 0, nb ρ1 0, nb ρ1 0]) (fun _ _ => by as_aux_lemma => kernel_rfl)
  · exact o_run 25 [1] [] (fun _ _ => [nb ρ1 1, nb ρ1 1, nb ρ1 1, nb ρ1 1]) (fun _ _ => by as_aux_lemma => kernel_rfl)
  · exact o_run 26 [2] [] (fun _ _ => [nb ρ1 2, nb ρ1 2, nb ρ1 2, nb ρ1 2]) (fun _ _ => by as_aux_lemma => kernel_rfl)
  · exact o_call 27 47 (fun _ => #[(U a), (U b), (U m)]) (fun _ => (U (mulmN a b m))) (fun _ _ => by as_aux_lemma => kernel_rfl) (fun _ w => (fun w => mulmod_any a b m w ha hb hm) w)
  · exact o_run 28 [0] [] (fun _ _ => [nb ρ1 0, nb ρ1 0, nb ρ1 0, nb ρ1 0]) (fun _ _ => by as_aux_lemma => kernel_rfl)
  · exact o_run 29 [1] [] (fun _ _ => [nb ρ1 1, nb ρ1 1, nb ρ1 1, nb ρ1 1]) (fun _ _ => by as_aux_lemma => kernel_rfl)
  · exact o_run 30 [2] [] (fun _ _ => [nb ρ1 2, nb ρ1 2, nb ρ1 2, nb ρ1 2]) (fun _ _ => by as_aux_lemma => kernel_rfl)
  · exact o_call 31 48 (fun _ => #[(U a), (U b), (U m)]) (fun _ => (U (mulmN a b m))) (fun _ _ => by as_aux_lemma => kernel_rfl) (fun _ w => (fun w => rmulmod_any a b m w ha hb hm) w)
  · exact o_bin 32 .eql 24 (fun _ => (U (mulmN a b m))) (fun _ => (U (mulmN a b m))) (fun _ => (.bool true)) (fun _ => by as_aux_lemma => kernel_rfl) (fun _ _ _ _ => by as_aux_lemma => kernel_rfl) (fun _ _ => eqlU_same (mulmN a b m) (mulmN_lt _ _ hm) _)
  · exact o_run 33 [] [] (fun _ _ => []) (fun _ _ => by as_aux_lemma => kernel_rfl)
  · exact o_run 34 [] [] (fun _ _ => []) (fun _ _ => by as_aux_lemma => kernel_rfl)
theorem wideModular_w (a : Nat) (b : Nat) (m : Nat) (ha : a < M) (hb : b < M) (hm : m < M) (w0 : World) : Calls Try.prog 10 #[(U a), (U b), (U m)] w0 (fun e w' => e = .returned (.bool true) ∧ Below w0.heap.size w0 w') := by
  refine Calls.of_ok (n := 41) (F := fun _ => True) Try.func10 rfl rfl rfl (by simp) (persTrue (fun _ => trivial)) ?_
  refine ok_seq_r (by as_aux_lemma => kernel_rfl) (wideModular_w_r1 a b m _) (fun ρ1 => ?_)
  refine ok_seq_r (by as_aux_lemma => kernel_rfl) (wideModular_w_r2 a b m ha hb hm ρ1 _) (fun _ => ?_)
  refine ok_ret ?_
  exact meets_ret (v := (.bool true)) [] (dup []) (by as_aux_lemma => kernel_rfl) (by as_aux_lemma => kernel_rfl) (eqs_dup _) (fun _ hS => ⟨rfl, hS.below⟩)
theorem wideModular_walk (a : Nat) (b : Nat) (m : Nat) (w0 : World) (ha : a < M) (hb : b < M) (hm : m < M) : Calls Try.prog 10 #[(U a), (U b), (U m)] w0 (fun e w' => e = .returned (.bool true) ∧ Below w0.heap.size w0 w') := wideModular_w a b m ha hb hm w0
end Go.Proofs.Ytlgjdejlnelndaa
