/-
  The law GroupPowers: the walk.
-/
import Derived.Test.YtkiijahkmgmnnaaGGroup
import Derived.Test.YtkiijahkmgmnnaaOpen
namespace Go.Proofs.Ytkiijahkmgmnnaa
open Go Go.RowKit
set_option maxRecDepth 100000
theorem groupPowers_w_r1 (a : Nat) (b : Nat) (w0 : World) : Reg Try.prog 0 (regOps Try.f5 0) false 38 [(0, (U a)), (1, (U b))] w0 [] (fun _ => True)
    (fun ρ => [(2, (.pointer (some ⟨nb ρ 0, 0, none⟩))), (3, (.pointer (some ⟨nb ρ 1, 0, none⟩))), (4, (.bool false))])
    (fun ρ => [(nb ρ 0, (.cells (cU a) 24 (0, 0))), (nb ρ 1, (.cells (cU b) 24 (0, 0)))]) := by
  refine reg_seq [0, 1, 3] [2, 3, 4] 3
    (fun ρ ι => ([(.pointer (some ⟨nb ρ 0, 0, none⟩)), (.pointer (some ⟨nb ρ 1, 0, none⟩)), (.bool false)] : List Value).getD ι undef)
    (fun ρ ι => ([{ news := [(nb ρ 0, (.cells (cU a) 24 (0, 0)))] }, { news := [(nb ρ 1, (.cells (cU b) 24 (0, 0)))] }, {}] : List Eff).getD ι {})
    (by as_aux_lemma => kernel_rfl) (by as_aux_lemma => kernel_rfl) (fun _ => by as_aux_lemma => kernel_rfl) (fun _ => by as_aux_lemma => kernel_rfl) ⟨⟨⟨trivial, ?_⟩, ?_⟩, ?_⟩
  · exact o_run 0 [] [] (fun _ _ => []) (fun _ _ => by as_aux_lemma => kernel_rfl)
  · exact o_run 1 [] [] (fun _ _ => []) (fun _ _ => by as_aux_lemma => kernel_rfl)
  · exact o_run 2 [] [] (fun _ _ => []) (fun _ _ => by as_aux_lemma => kernel_rfl)
theorem groupPowers_w_r2 (a : Nat) (b : Nat) (ha : a < M) (hb : b < M) (ρ1 : Nat → Orc) (w0 : World) : Reg Try.prog 1 (regOps Try.f5 1) true 38 [(2, (.pointer (some ⟨nb ρ1 0, 0, none⟩))), (3, (.pointer (some ⟨nb ρ1 1, 0, none⟩))), (4, (.bool false))] w0 [(nb ρ1 0, (.cells (cU a) 24 (0, 0))), (nb ρ1 1, (.cells (cU b) 24 (0, 0)))] (fun _ => True)
    (fun _ => [(4, (.bool true))])
    (fun _ => [(nb ρ1 0, (.cells (cU a) 24 (0, 0))), (nb ρ1 1, (.cells (cU b) 24 (0, 0)))]) := by
  refine reg_drawn [0, 1, 3, 3, 15, 3, 3, 127, 255, 511, 1023, 2047, 2047, 8191, 2047, 2047, 65535, 131071, 262143, 524287, 1048575, 2097151, 1048575, 8388607, 16777215, 33554431, 67108863, 134217727, 268435455, 134217727, 1073741823, 2147483647, 4294967295, 8589934591] [4] 34
    (fun _ ι => ([(.bool true), (.bool true), (U a), (U b), (U (mulmN a b pP)), (U a), (U b), (U (mulmN a b pP)), (.bool true), (.bool true), (.bool true), (U a), (U b), (U (expmN a b pP)), (U a), (U b), (U (expmN a b pP)), (.bool true), (.bool true), (.bool true), (U a), (U (expmN a (pP - 2) pP)), (U a), (U (expmN a (pP - 2) pP)), (.bool true), (.bool true), (.bool true), (U a), (U (expmN 4 a pP)), (U a), (U (expmN 4 a pP)), (.bool true), (.bool true), (.bool true)] : List Value).getD ι undef)
    (fun _ ι => ([{}, {}, {}, {}, {}, {}, {}, {}, {}, {}, {}, {}, {}, {}, {}, {}, {}, {}, {}, {}, {}, {}, {}, {}, {}, {}, {}, {}, {}, {}, {}, {}, {}, {}] : List Eff).getD ι {})
    (by as_aux_lemma => kernel_rfl) (by as_aux_lemma => kernel_rfl) (by as_aux_lemma => kernel_rfl) (fun _ => by as_aux_lemma => kernel_rfl) (fun _ => by as_aux_lemma => kernel_rfl) ⟨⟨⟨⟨⟨⟨⟨⟨⟨⟨⟨⟨⟨⟨⟨⟨⟨⟨⟨⟨⟨⟨⟨⟨⟨⟨⟨⟨⟨⟨⟨⟨⟨⟨trivial, ?_⟩, ?_⟩, ?_⟩, ?_⟩, ?_⟩, ?_⟩, ?_⟩, ?_⟩, ?_⟩, ?_⟩, ?_⟩, ?_⟩, ?_⟩, ?_⟩, ?_⟩, ?_⟩, ?_⟩, ?_⟩, ?_⟩, ?_⟩, ?_⟩, ?_⟩, ?_⟩, ?_⟩, ?_⟩, ?_⟩, ?_⟩, ?_⟩, ?_⟩, ?_⟩, ?_⟩, ?_⟩, ?_⟩, ?_⟩
  · exact o_call 0 15 (fun _ => #[]) (fun _ => (.bool true)) (fun _ _ => by as_aux_lemma => kernel_rfl) (fun _ w => (fun w => gsane_any w) w)
  · exact o_run 1 [] [] (fun _ _ => []) (fun _ _ => by as_aux_lemma => kernel_rfl)
  · exact o_run 2 [0] [] (fun _ _ => [nb ρ1 0, nb ρ1 0, nb ρ1 0, nb ρ1 0]) (fun _ _ => by as_aux_lemma => kernel_rfl)
  · exact o_run 3 [1] [] (fun _ _ => [nb ρ1 1, nb ρ1 1, nb ρ1 1, nb ρ1 1]) (fun _ _ => by as_aux_lemma => kernel_rfl)
  · exact o_call 4 24 (fun _ => #[(U a), (U b)]) (fun _ => (U (mulmN a b pP))) (fun _ _ => by as_aux_lemma => kernel_rfl) (fun _ w => (fun w => gmul_any a b w ha hb) w)
  · exact o_run 5 [0] [] (fun _ _ => [nb ρ1 0, nb ρ1 0, nb ρ1 0, nb ρ1 0]) (fun _ _ => by as_aux_lemma => kernel_rfl)
  · exact o_run 6 [1] [] (fun _ _ => [nb ρ1 1, nb ρ1 1, nb ρ1 1, nb ρ1 1]) (fun _ _ => by as_aux_lemma => kernel_rfl)
  · exact o_call 7 25 (fun _ => #[(U a), (U b)]) (fun _ => (U (mulmN a b pP))) (fun _ _ => by as_aux_lemma => kernel_rfl) (fun _ w => (fun w => rgmul_any a b w ha hb) w)
  · exact o_bin 8 .eql 24 (fun _ => (U (mulmN a b pP))) (fun _ => (U (mulmN a b pP))) (fun _ => (.bool true)) (fun _ => by as_aux_lemma => kernel_rfl) (fun _ _ _ _ => by as_aux_lemma => kernel_rfl) (fun _ _ => eqlU_same (mulmN a b pP) (mulmN_lt _ _ pP_lt) _)
  · exact o_run 9 [] [] (fun _ _ => []) (fun _ _ => by as_aux_lemma => kernel_rfl)
  · exact o_run 10 [] [] (fun _ _ => []) (fun _ _ => by as_aux_lemma => kernel_rfl)
  · exact o_run 11 [0] [] (fun _ _ => [nb ρ1 0, nb ρ1 0, nb ρ1 0, nb ρ1 0]) (fun _ _ => by as_aux_lemma => kernel_rfl)
  · exact o_run 12 [1] [] (fun _ _ => [nb ρ1 1, nb ρ1 1, nb ρ1 1, nb ρ1 1]) (fun _ _ => by as_aux_lemma => kernel_rfl)
  · exact o_call 13 26 (fun _ => #[(U a), (U b)]) (fun _ => (U (expmN a b pP))) (fun _ _ => by as_aux_lemma => kernel_rfl) (fun _ w => (fun w => gexp_any a b w ha hb) w)
  · exact o_run 14 [0] [] (fun _ _ => [nb ρ1 0, nb ρ1 0, nb ρ1 0, nb ρ1 0]) (fun _ _ => by as_aux_lemma => kernel_rfl)
  · exact o_run 15 [1] [] (fun _ _ => [nb ρ1 1, nb ρ1 1, nb ρ1 1, nb ρ1 1]) (fun _ _ => by as_aux_lemma => kernel_rfl)
  · exact o_call 16 27 (fun _ => #[(U a), (U b)]) (fun _ => (U (expmN a b pP))) (fun _ _ => by as_aux_lemma => kernel_rfl) (fun _ w => (fun w => rgexp_any a b w ha hb) w)
  · exact o_bin 17 .eql 24 (fun _ => (U (expmN a b pP))) (fun _ => (U (expmN a b pP))) (fun _ => (.bool true)) (fun _ => by as_aux_lemma => kernel_rfl) (fun _ _ _ _ => by as_aux_lemma => kernel_rfl) (fun _ _ => eqlU_same (expmN a b pP) (expmN_lt _ _ pP_lt) _)
  · exact o_run 18 [] [] (fun _ _ => []) (fun _ _ => by as_aux_lemma => kernel_rfl)
  · exact o_run 19 [] [] (fun _ _ => []) (fun _ _ => by as_aux_lemma => kernel_rfl)
  · exact o_run 20 [0] [] (fun _ _ => [nb ρ1 0, nb ρ1 0, nb ρ1 0, nb ρ1 0]) (fun _ _ => by as_aux_lemma => kernel_rfl)
  · exact o_call 21 28 (fun _ => #[(U a)]) (fun _ => (U (expmN a (pP - 2) pP))) (fun _ _ => by as_aux_lemma => kernel_rfl) (fun _ w => (fun w => ginverse_any a w ha) w)
  · exact o_run 22 [0] [] (fun _ _ => [nb ρ1 0, nb ρ1 0, nb ρ1 0, nb ρ1 0]) (fun _ _ => by as_aux_lemma => kernel_rfl)
  · exact o_call 23 29 (fun _ => #[(U a)]) (fun _ => (U (expmN a (pP - 2) pP))) (fun _ _ => by as_aux_lemma => kernel_rfl) (fun _ w => (fun w => rginverse_any a w ha) w)
  · exact o_bin 24 .eql 24 (fun _ => (U (expmN a (pP - 2) pP))) (fun _ => (U (expmN a (pP - 2) pP))) (fun _ => (.bool true)) (fun _ => by as_aux_lemma => kernel_rfl) (fun _ _ _ _ => by as_aux_lemma => kernel_rfl) (fun _ _ => eqlU_same (expmN a (pP - 2) pP) (expmN_lt _ _ pP_lt) _)
  · exact o_run 25 [] [] (fun _ _ => []) (fun _ _ => by as_aux_lemma => kernel_rfl)
  · exact o_run 26 [] [] (fun _ _ => []) (fun _ _ => by as_aux_lemma => kernel_rfl)
  · exact o_run 27 [0] [] (fun _ _ => [nb ρ1 0, nb ρ1 0, nb ρ1 0, nb ρ1 0]) (fun _ _ => by as_aux_lemma => kernel_rfl)
  · exact o_call 28 30 (fun _ => #[(U a)]) (fun _ => (U (expmN 4 a pP))) (fun _ _ => by as_aux_lemma => kernel_rfl) (fun _ w => (fun w => gpower_any a w ha) w)
  · exact o_run 29 [0] [] (fun _ _ => [nb ρ1 0, nb ρ1 0, nb ρ1 0, nb ρ1 0]) (fun _ _ => by as_aux_lemma => kernel_rfl)
  · exact o_call 30 31 (fun _ => #[(U a)]) (fun _ => (U (expmN 4 a pP))) (fun _ _ => by as_aux_lemma => kernel_rfl) (fun _ w => (fun w => rgpower_any a w ha) w)
  · exact o_bin 31 .eql 24 (fun _ => (U (expmN 4 a pP))) (fun _ => (U (expmN 4 a pP))) (fun _ => (.bool true)) (fun _ => by as_aux_lemma => kernel_rfl) (fun _ _ _ _ => by as_aux_lemma => kernel_rfl) (fun _ _ => eqlU_same (expmN 4 a pP) (expmN_lt _ _ pP_lt) _)
  · exact o_run 32 [] [] (fun _ _ => []) (fun _ _ => by as_aux_lemma => kernel_rfl)
  · exact o_run 33 [] [] (fun _ _ => []) (fun _ _ => by as_aux_lemma => kernel_rfl)
theorem groupPowers_w (a : Nat) (b : Nat) (ha : a < M) (hb : b < M) (w0 : World) : Calls Try.prog 5 #[(U a), (U b)] w0 (fun ε w' => ε = .returned (.bool true) ∧ Below w0.heap.size w0 w') := by
  refine Calls.of_ok (n := 38) (F := fun _ => True) Try.func5 rfl rfl rfl (by simp) (persTrue (fun _ => trivial)) ?_
  refine ok_seq_r (by as_aux_lemma => kernel_rfl) (groupPowers_w_r1 a b _) (fun ρ1 => ?_)
  refine ok_seq_r (by as_aux_lemma => kernel_rfl) (groupPowers_w_r2 a b ha hb ρ1 _) (fun _ => ?_)
  refine ok_ret ?_
  exact meets_ret (v := (.bool true)) [] (dup []) (by as_aux_lemma => kernel_rfl) (by as_aux_lemma => kernel_rfl) (eqs_dup _) (fun _ hS => ⟨rfl, hS.below⟩)
theorem groupPowers_walk (a : Nat) (b : Nat) (w0 : World) (ha : a < M) (hb : b < M) : Calls Try.prog 5 #[(U a), (U b)] w0 (fun ε w' => ε = .returned (.bool true) ∧ Below w0.heap.size w0 w') := groupPowers_w a b ha hb w0
end Go.Proofs.Ytkiijahkmgmnnaa
