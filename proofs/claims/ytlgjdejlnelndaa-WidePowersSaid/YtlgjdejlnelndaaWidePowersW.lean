/-
  The law WidePowers: the walk.
-/
import Derived.Test.YtlgjdejlnelndaaWExp
import Derived.Test.YtlgjdejlnelndaaSane
namespace Go.Proofs.Ytlgjdejlnelndaa
open Go Go.RowKit
set_option maxRecDepth 100000
theorem widePowers_w_r1 (a : Nat) (e : Nat) (m : Nat) (w0 : World) : Reg Try.prog 0 (regOps Try.f12 0) false 19 [(0, (U a)), (1, (U e)), (2, (U m))] w0 [] (fun _ => True)
    (fun ρ => [(3, (.pointer (some ⟨nb ρ 0, 0, none⟩))), (4, (.pointer (some ⟨nb ρ 1, 0, none⟩))), (5, (.pointer (some ⟨nb ρ 2, 0, none⟩))), (6, (.bool false))])
    (fun ρ => [(nb ρ 0, (.cells (cU a) 24 (0, 0))), (nb ρ 1, (.cells (cU e) 24 (0, 0))), (nb ρ 2, (.cells (cU m) 24 (0, 0)))]) := by
  refine reg_seq [0, 1, 3, 7] [3, 4, 5, 6] 4
    (fun ρ ι => ([(.pointer (some ⟨nb ρ 0, 0, none⟩)), (.pointer (some ⟨nb ρ 1, 0, none⟩)), (.pointer (some ⟨nb ρ 2, 0, none⟩)), (.bool false)] : List Value).getD ι undef)
    (fun ρ ι => ([{ news := [(nb ρ 0, (.cells (cU a) 24 (0, 0)))] }, { news := [(nb ρ 1, (.cells (cU e) 24 (0, 0)))] }, { news := [(nb ρ 2, (.cells (cU m) 24 (0, 0)))] }, {}] : List Eff).getD ι {})
    (by as_aux_lemma => kernel_rfl) (by as_aux_lemma => kernel_rfl) (fun _ => by as_aux_lemma => kernel_rfl) (fun _ => by as_aux_lemma => kernel_rfl) ⟨⟨⟨⟨trivial, ?_⟩, ?_⟩, ?_⟩, ?_⟩
  · exact o_run 0 [] [] (fun _ _ => []) (fun _ _ => by as_aux_lemma => kernel_rfl)
  · exact o_run 1 [] [] (fun _ _ => []) (fun _ _ => by as_aux_lemma => kernel_rfl)
  · exact o_run 2 [] [] (fun _ _ => []) (fun _ _ => by as_aux_lemma => kernel_rfl)
  · exact o_run 3 [] [] (fun _ _ => []) (fun _ _ => by as_aux_lemma => kernel_rfl)
theorem widePowers_w_r2 (a : Nat) (e : Nat) (m : Nat) (ha : a < M) (he : e < M) (hm : m < M) (ρ1 : Nat → Orc) (w0 : World) : Reg Try.prog 1 (regOps Try.f12 1) true 19 [(3, (.pointer (some ⟨nb ρ1 0, 0, none⟩))), (4, (.pointer (some ⟨nb ρ1 1, 0, none⟩))), (5, (.pointer (some ⟨nb ρ1 2, 0, none⟩))), (6, (.bool false))] w0 [(nb ρ1 0, (.cells (cU a) 24 (0, 0))), (nb ρ1 1, (.cells (cU e) 24 (0, 0))), (nb ρ1 2, (.cells (cU m) 24 (0, 0)))] (fun _ => True)
    (fun _ => [(6, (.bool true))])
    (fun _ => [(nb ρ1 0, (.cells (cU a) 24 (0, 0))), (nb ρ1 1, (.cells (cU e) 24 (0, 0))), (nb ρ1 2, (.cells (cU m) 24 (0, 0)))]) := by
  refine reg_drawn [0, 1, 3, 3, 3, 31, 3, 3, 3, 511, 1023, 2047, 4095] [6] 13
    (fun _ ι => ([(.bool true), (.bool true), (U a), (U e), (U m), (U (expmN a e m)), (U a), (U e), (U m), (U (expmN a e m)), (.bool true), (.bool true), (.bool true)] : List Value).getD ι undef)
    (fun _ ι => ([{}, {}, {}, {}, {}, {}, {}, {}, {}, {}, {}, {}, {}] : List Eff).getD ι {})
    (by as_aux_lemma => kernel_rfl) (by as_aux_lemma => kernel_rfl) (by as_aux_lemma => kernel_rfl) (fun _ => by as_aux_lemma => kernel_rfl) (fun _ => by as_aux_lemma => kernel_rfl) ⟨⟨⟨⟨⟨⟨⟨⟨⟨⟨⟨⟨⟨trivial, ?_⟩, ?_⟩, ?_⟩, ?_⟩, ?_⟩, ?_⟩, ?_⟩, ?_⟩, ?_⟩, ?_⟩, ?_⟩, ?_⟩, ?_⟩
  · exact o_call 0 17 (fun _ => #[]) (fun _ => (.bool true)) (fun _ _ => by as_aux_lemma => kernel_rfl) (fun _ w => (fun w => sane_any w) w)
  · exact o_run 1 [] [] (fun _ _ => []) (fun _ _ => by as_aux_lemma => kernel_rfl)
  · exact o_run 2 [0] [] (fun _ _ => [nb ρ1 0, nb ρ1 0, nb ρ1 0, nb ρ1 0]) (fun _ _ => by as_aux_lemma => kernel_rfl)
  · exact o_run 3 [1] [] (fun _ _ => [nb ρ1 1, nb ρ1 1, nb ρ1 1, nb ρ1 1]) (fun _ _ => by as_aux_lemma => kernel_rfl)
  · exact o_run 4 [2] [] (fun _ _ => [nb ρ1 2, nb ρ1 2, nb ρ1 2, nb ρ1 2]) (fun _ _ => by as_aux_lemma => kernel_rfl)
  · exact o_call 5 49 (fun _ => #[(U a), (U e), (U m)]) (fun _ => (U (expmN a e m))) (fun _ _ => by as_aux_lemma => kernel_rfl) (fun _ w => (fun w => expmod_any a e m w ha he hm) w)
  · exact o_run 6 [0] [] (fun _ _ => [nb ρ1 0, nb ρ1 0, nb ρ1 0, nb ρ1 0]) (fun _ _ => by as_aux_lemma => kernel_rfl)
  · exact o_run 7 [1] [] (fun _ _ => [nb ρ1 1, nb ρ1 1, nb ρ1 1, nb ρ1 1]) (fun _ _ => by as_aux_lemma => kernel_rfl)
  · exact o_run 8 [2] [] (fun _ _ => [nb ρ1 2, nb ρ1 2, nb ρ1 2, nb ρ1 2]) (fun _ _ => by as_aux_lemma => kernel_rfl)
  · exact o_call 9 50 (fun _ => #[(U a), (U e), (U m)]) (fun _ => (U (expmN a e m))) (fun _ _ => by as_aux_lemma => kernel_rfl) (fun _ w => (fun w => rexpmod_any a e m w ha he hm) w)
  · exact o_bin 10 .eql 24 (fun _ => (U (expmN a e m))) (fun _ => (U (expmN a e m))) (fun _ => (.bool true)) (fun _ => by as_aux_lemma => kernel_rfl) (fun _ _ _ _ => by as_aux_lemma => kernel_rfl) (fun _ _ => eqlU_same (expmN a e m) (expmN_lt _ _ hm) _)
  · exact o_run 11 [] [] (fun _ _ => []) (fun _ _ => by as_aux_lemma => kernel_rfl)
  · exact o_run 12 [] [] (fun _ _ => []) (fun _ _ => by as_aux_lemma => kernel_rfl)
theorem widePowers_w (a : Nat) (e : Nat) (m : Nat) (ha : a < M) (he : e < M) (hm : m < M) (w0 : World) : Calls Try.prog 12 #[(U a), (U e), (U m)] w0 (fun ε w' => ε = .returned (.bool true) ∧ Below w0.heap.size w0 w') := by
  refine Calls.of_ok (n := 19) (F := fun _ => True) Try.func12 rfl rfl rfl (by simp) (persTrue (fun _ => trivial)) ?_
  refine ok_seq_r (by as_aux_lemma => kernel_rfl) (widePowers_w_r1 a e m _) (fun ρ1 => ?_)
  refine ok_seq_r (by as_aux_lemma => kernel_rfl) (widePowers_w_r2 a e m ha he hm ρ1 _) (fun _ => ?_)
  refine ok_ret ?_
  exact meets_ret (v := (.bool true)) [] (dup []) (by as_aux_lemma => kernel_rfl) (by as_aux_lemma => kernel_rfl) (eqs_dup _) (fun _ hS => ⟨rfl, hS.below⟩)
theorem widePowers_walk (a : Nat) (e : Nat) (m : Nat) (w0 : World) (ha : a < M) (he : e < M) (hm : m < M) : Calls Try.prog 12 #[(U a), (U e), (U m)] w0 (fun ε w' => ε = .returned (.bool true) ∧ Below w0.heap.size w0 w') := widePowers_w a e m ha he hm w0
end Go.Proofs.Ytlgjdejlnelndaa
