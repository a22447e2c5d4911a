/-
  The law GroupCloses: the walk.
-/
import Derived.Test.YtkiijahkmgmnnaaGGroup
import Derived.Test.YtkiijahkmgmnnaaOpen
namespace Go.Proofs.Ytkiijahkmgmnnaa
open Go Go.RowKit
set_option maxRecDepth 100000
theorem groupCloses_w_r1 (x : Nat) (y : Nat) (w0 : World) : Reg Try.prog 0 (regOps Try.f12 0) false 37 [(0, (.agg (hB x))), (1, (.agg (hB y)))] w0 [] (fun _ => True)
    (fun ρ => [(2, (.pointer (some ⟨nb ρ 0, 0, none⟩))), (3, (.pointer (some ⟨nb ρ 1, 0, none⟩))), (4, (.bool false))])
    (fun ρ => [(nb ρ 0, (.cells (hB x) 44 (0, 0))), (nb ρ 1, (.cells (hB y) 44 (0, 0)))]) := by
  refine reg_seq [0, 1, 3] [2, 3, 4] 3
    (fun ρ ι => ([(.pointer (some ⟨nb ρ 0, 0, none⟩)), (.pointer (some ⟨nb ρ 1, 0, none⟩)), (.bool false)] : List Value).getD ι undef)
    (fun ρ ι => ([{ news := [(nb ρ 0, (.cells (hB x) 44 (0, 0)))] }, { news := [(nb ρ 1, (.cells (hB y) 44 (0, 0)))] }, {}] : List Eff).getD ι {})
    (by as_aux_lemma => kernel_rfl) (by as_aux_lemma => kernel_rfl) (fun _ => by as_aux_lemma => kernel_rfl) (fun _ => by as_aux_lemma => kernel_rfl) ⟨⟨⟨trivial, ?_⟩, ?_⟩, ?_⟩
  · exact o_run 0 [] [] (fun _ _ => []) (fun _ _ => by as_aux_lemma => kernel_rfl)
  · exact o_run 1 [] [] (fun _ _ => []) (fun _ _ => by as_aux_lemma => kernel_rfl)
  · exact o_run 2 [] [] (fun _ _ => []) (fun _ _ => by as_aux_lemma => kernel_rfl)
theorem groupCloses_w_r2 (x : Nat) (y : Nat) (hx : x < M) (hy : y < M) (ρ1 : Nat → Orc) (w0 : World) : Reg Try.prog 1 (regOps Try.f12 1) true 37 [(2, (.pointer (some ⟨nb ρ1 0, 0, none⟩))), (3, (.pointer (some ⟨nb ρ1 1, 0, none⟩))), (4, (.bool false))] w0 [(nb ρ1 0, (.cells (hB x) 44 (0, 0))), (nb ρ1 1, (.cells (hB y) 44 (0, 0)))] (fun _ => True)
    (fun ρ => [(4, (.bool false)), (5, (.pointer (some ⟨nb ρ 6, 0, none⟩))), (6, (.pointer (some ⟨nb ρ 7, 0, none⟩)))])
    (fun ρ => [(nb ρ1 0, (.cells (hB x) 44 (0, 0))), (nb ρ1 1, (.cells (hB y) 44 (0, 0))), (nb ρ 6, (.cells (cU (expmN 4 (addmN x 0 qP) pP)) 24 (0, 0))), (nb ρ 7, (.cells (cU (expmN 4 (addmN y 0 qP) pP)) 24 (0, 0)))]) := by
  refine reg_drawn [0, 1, 3, 0, 15, 31, 0, 0, 255, 511] [4, 5, 6] 10
    (fun ρ ι => ([(.agg (hB x)), (U (addmN x 0 qP)), (U (expmN 4 (addmN x 0 qP) pP)), (.agg (hB y)), (U (addmN y 0 qP)), (U (expmN 4 (addmN y 0 qP) pP)), (.pointer (some ⟨nb ρ 6, 0, none⟩)), (.pointer (some ⟨nb ρ 7, 0, none⟩)), undef, undef] : List Value).getD ι undef)
    (fun ρ ι => ([{}, {}, {}, {}, {}, {}, { news := [(nb ρ 6, (.cells (cU 0) 24 (0, 0)))] }, { news := [(nb ρ 7, (.cells (cU 0) 24 (0, 0)))] }, { puts := [(50, (.cells (cU (expmN 4 (addmN x 0 qP) pP)) 24 (0, 0)))] }, { puts := [(58, (.cells (cU (expmN 4 (addmN y 0 qP) pP)) 24 (0, 0)))] }] : List Eff).getD ι {})
    (by as_aux_lemma => kernel_rfl) (by as_aux_lemma => kernel_rfl) (by as_aux_lemma => kernel_rfl) (fun _ => by as_aux_lemma => kernel_rfl) (fun _ => by as_aux_lemma => kernel_rfl) ⟨⟨⟨⟨⟨⟨⟨⟨⟨⟨trivial, ?_⟩, ?_⟩, ?_⟩, ?_⟩, ?_⟩, ?_⟩, ?_⟩, ?_⟩, ?_⟩, ?_⟩
  · exact o_run 0 [0] [] (fun _ _ => [nb ρ1 0, nb ρ1 0, nb ρ1 0, nb ρ1 0, nb ρ1 0, nb ρ1 0, nb ρ1 0, nb ρ1 0, nb ρ1 0, nb ρ1 0, nb ρ1 0, nb ρ1 0, nb ρ1 0, nb ρ1 0, nb ρ1 0, nb ρ1 0, nb ρ1 0, nb ρ1 0, nb ρ1 0, nb ρ1 0, nb ρ1 0, nb ρ1 0, nb ρ1 0, nb ρ1 0, nb ρ1 0, nb ρ1 0, nb ρ1 0, nb ρ1 0, nb ρ1 0, nb ρ1 0, nb ρ1 0, nb ρ1 0]) (fun _ _ => by as_aux_lemma => kernel_rfl)
  · exact o_call 1 49 (fun _ => #[(.agg (hB x))]) (fun _ => (U (addmN x 0 qP))) (fun _ _ => by as_aux_lemma => kernel_rfl) (fun _ w => (fun w => gscalar_any x w hx) w)
  · exact o_call 2 30 (fun _ => #[(U (addmN x 0 qP))]) (fun _ => (U (expmN 4 (addmN x 0 qP) pP))) (fun _ _ => by as_aux_lemma => kernel_rfl) (fun _ w => (fun w => gpower_any (addmN x 0 qP) w (addmN_lt _ _ qP_lt)) w)
  · exact o_run 3 [1] [] (fun _ _ => [nb ρ1 1, nb ρ1 1, nb ρ1 1, nb ρ1 1, nb ρ1 1, nb ρ1 1, nb ρ1 1, nb ρ1 1, nb ρ1 1, nb ρ1 1, nb ρ1 1, nb ρ1 1, nb ρ1 1, nb ρ1 1, nb ρ1 1, nb ρ1 1, nb ρ1 1, nb ρ1 1, nb ρ1 1, nb ρ1 1, nb ρ1 1, nb ρ1 1, nb ρ1 1, nb ρ1 1, nb ρ1 1, nb ρ1 1, nb ρ1 1, nb ρ1 1, nb ρ1 1, nb ρ1 1, nb ρ1 1, nb ρ1 1]) (fun _ _ => by as_aux_lemma => kernel_rfl)
  · exact o_call 4 49 (fun _ => #[(.agg (hB y))]) (fun _ => (U (addmN y 0 qP))) (fun _ _ => by as_aux_lemma => kernel_rfl) (fun _ w => (fun w => gscalar_any y w hy) w)
  · exact o_call 5 30 (fun _ => #[(U (addmN y 0 qP))]) (fun _ => (U (expmN 4 (addmN y 0 qP) pP))) (fun _ _ => by as_aux_lemma => kernel_rfl) (fun _ w => (fun w => gpower_any (addmN y 0 qP) w (addmN_lt _ _ qP_lt)) w)
  · exact o_run 6 [] [] (fun _ _ => []) (fun _ _ => by as_aux_lemma => kernel_rfl)
  · exact o_run 7 [] [] (fun _ _ => []) (fun _ _ => by as_aux_lemma => kernel_rfl)
  · exact o_run 8 [50] [] (fun ρ _ => [nb ρ 6, nb ρ 6, nb ρ 6, nb ρ 6]) (fun _ _ => by as_aux_lemma => kernel_rfl)
  · exact o_run 9 [58] [] (fun ρ _ => [nb ρ 7, nb ρ 7, nb ρ 7, nb ρ 7]) (fun _ _ => by as_aux_lemma => kernel_rfl)
theorem groupCloses_w_r3 (x : Nat) (y : Nat) (hk0 : (memB (expmN 4 (addmN x 0 qP) pP)) = true) (hk1 : (memB (mulmN (expmN 4 (addmN x 0 qP) pP) (expmN 4 (addmN y 0 qP) pP) pP)) = true) (hk2 : (memB (expmN (expmN 4 (addmN x 0 qP) pP) (pP - 2) pP)) = true) (hk3 : (decide (mulmN (expmN 4 (addmN x 0 qP) pP) (expmN (expmN 4 (addmN x 0 qP) pP) (pP - 2) pP) pP = 1)) = true) (ρ1 : Nat → Orc) (ρ2 : Nat → Orc) (w0 : World) : Reg Try.prog 2 (regOps Try.f12 2) true 37 [(4, (.bool false)), (5, (.pointer (some ⟨nb ρ2 6, 0, none⟩))), (6, (.pointer (some ⟨nb ρ2 7, 0, none⟩)))] w0 [(nb ρ1 0, (.cells (hB x) 44 (0, 0))), (nb ρ1 1, (.cells (hB y) 44 (0, 0))), (nb ρ2 6, (.cells (cU (expmN 4 (addmN x 0 qP) pP)) 24 (0, 0))), (nb ρ2 7, (.cells (cU (expmN 4 (addmN y 0 qP) pP)) 24 (0, 0)))] (fun _ => True)
    (fun _ => [(4, (.bool true))])
    (fun _ => [(nb ρ1 0, (.cells (hB x) 44 (0, 0))), (nb ρ1 1, (.cells (hB y) 44 (0, 0))), (nb ρ2 6, (.cells (cU (expmN 4 (addmN x 0 qP) pP)) 24 (0, 0))), (nb ρ2 7, (.cells (cU (expmN 4 (addmN y 0 qP) pP)) 24 (0, 0)))]) := by
  refine reg_drawn [0, 1, 3, 7, 15, 31, 63, 63, 255, 511, 1023, 2047, 4095, 8191, 16383, 32767, 65535, 131071, 131071, 393215, 1048575, 2097151, 4194303, 8388607, 16777215] [4] 25
    (fun _ ι => ([(.bool true), (.bool true), (U (expmN 4 (addmN x 0 qP) pP)), (.bool true), (.bool true), (.bool true), (U (expmN 4 (addmN x 0 qP) pP)), (U (expmN 4 (addmN y 0 qP) pP)), (U (mulmN (expmN 4 (addmN x 0 qP) pP) (expmN 4 (addmN y 0 qP) pP) pP)), (.bool true), (.bool true), (.bool true), (U (expmN 4 (addmN x 0 qP) pP)), (U (expmN (expmN 4 (addmN x 0 qP) pP) (pP - 2) pP)), (.bool true), (.bool true), (.bool true), (U (expmN 4 (addmN x 0 qP) pP)), (U (expmN 4 (addmN x 0 qP) pP)), (U (expmN (expmN 4 (addmN x 0 qP) pP) (pP - 2) pP)), (U (mulmN (expmN 4 (addmN x 0 qP) pP) (expmN (expmN 4 (addmN x 0 qP) pP) (pP - 2) pP) pP)), (U 1), (.bool true), (.bool true), (.bool true)] : List Value).getD ι undef)
    (fun _ ι => ([{}, {}, {}, {}, {}, {}, {}, {}, {}, {}, {}, {}, {}, {}, {}, {}, {}, {}, {}, {}, {}, {}, {}, {}, {}] : List Eff).getD ι {})
    (by as_aux_lemma => kernel_rfl) (by as_aux_lemma => kernel_rfl) (by as_aux_lemma => kernel_rfl) (fun _ => by as_aux_lemma => kernel_rfl) (fun _ => by as_aux_lemma => kernel_rfl) ⟨⟨⟨⟨⟨⟨⟨⟨⟨⟨⟨⟨⟨⟨⟨⟨⟨⟨⟨⟨⟨⟨⟨⟨⟨trivial, ?_⟩, ?_⟩, ?_⟩, ?_⟩, ?_⟩, ?_⟩, ?_⟩, ?_⟩, ?_⟩, ?_⟩, ?_⟩, ?_⟩, ?_⟩, ?_⟩, ?_⟩, ?_⟩, ?_⟩, ?_⟩, ?_⟩, ?_⟩, ?_⟩, ?_⟩, ?_⟩, ?_⟩, ?_⟩
  · exact o_call 0 15 (fun _ => #[]) (fun _ => (.bool true)) (fun _ _ => by as_aux_lemma => kernel_rfl) (fun _ w => (fun w => gsane_any w) w)
  · exact o_run 1 [] [] (fun _ _ => []) (fun _ _ => by as_aux_lemma => kernel_rfl)
  · exact o_run 2 [2] [] (fun _ _ => [nb ρ2 6, nb ρ2 6, nb ρ2 6, nb ρ2 6]) (fun _ _ => by as_aux_lemma => kernel_rfl)
  · exact o_call 3 20 (fun _ => #[(U (expmN 4 (addmN x 0 qP) pP))]) (fun _ => (.bool true)) (fun _ _ => by as_aux_lemma => kernel_rfl) (fun _ w => by as_aux_lemma => (have h := (fun w => gmember_any (expmN 4 (addmN x 0 qP) pP) w (expmN_lt _ _ pP_lt)) w; rw [hk0] at h; exact h))
  · exact o_run 4 [] [] (fun _ _ => []) (fun _ _ => by as_aux_lemma => kernel_rfl)
  · exact o_run 5 [] [] (fun _ _ => []) (fun _ _ => by as_aux_lemma => kernel_rfl)
  · exact o_run 6 [2] [] (fun _ _ => [nb ρ2 6, nb ρ2 6, nb ρ2 6, nb ρ2 6]) (fun _ _ => by as_aux_lemma => kernel_rfl)
  · exact o_run 7 [3] [] (fun _ _ => [nb ρ2 7, nb ρ2 7, nb ρ2 7, nb ρ2 7]) (fun _ _ => by as_aux_lemma => kernel_rfl)
  · exact o_call 8 24 (fun _ => #[(U (expmN 4 (addmN x 0 qP) pP)), (U (expmN 4 (addmN y 0 qP) pP))]) (fun _ => (U (mulmN (expmN 4 (addmN x 0 qP) pP) (expmN 4 (addmN y 0 qP) pP) pP))) (fun _ _ => by as_aux_lemma => kernel_rfl) (fun _ w => (fun w => gmul_any (expmN 4 (addmN x 0 qP) pP) (expmN 4 (addmN y 0 qP) pP) w (expmN_lt _ _ pP_lt) (expmN_lt _ _ pP_lt)) w)
  · exact o_call 9 20 (fun _ => #[(U (mulmN (expmN 4 (addmN x 0 qP) pP) (expmN 4 (addmN y 0 qP) pP) pP))]) (fun _ => (.bool true)) (fun _ _ => by as_aux_lemma => kernel_rfl) (fun _ w => by as_aux_lemma => (have h := (fun w => gmember_any (mulmN (expmN 4 (addmN x 0 qP) pP) (expmN 4 (addmN y 0 qP) pP) pP) w (mulmN_lt _ _ pP_lt)) w; rw [hk1] at h; exact h))
  · exact o_run 10 [] [] (fun _ _ => []) (fun _ _ => by as_aux_lemma => kernel_rfl)
  · exact o_run 11 [] [] (fun _ _ => []) (fun _ _ => by as_aux_lemma => kernel_rfl)
  · exact o_run 12 [2] [] (fun _ _ => [nb ρ2 6, nb ρ2 6, nb ρ2 6, nb ρ2 6]) (fun _ _ => by as_aux_lemma => kernel_rfl)
  · exact o_call 13 28 (fun _ => #[(U (expmN 4 (addmN x 0 qP) pP))]) (fun _ => (U (expmN (expmN 4 (addmN x 0 qP) pP) (pP - 2) pP))) (fun _ _ => by as_aux_lemma => kernel_rfl) (fun _ w => (fun w => ginverse_any (expmN 4 (addmN x 0 qP) pP) w (expmN_lt _ _ pP_lt)) w)
  · exact o_call 14 20 (fun _ => #[(U (expmN (expmN 4 (addmN x 0 qP) pP) (pP - 2) pP))]) (fun _ => (.bool true)) (fun _ _ => by as_aux_lemma => kernel_rfl) (fun _ w => by as_aux_lemma => (have h := (fun w => gmember_any (expmN (expmN 4 (addmN x 0 qP) pP) (pP - 2) pP) w (expmN_lt _ _ pP_lt)) w; rw [hk2] at h; exact h))
  · exact o_run 15 [] [] (fun _ _ => []) (fun _ _ => by as_aux_lemma => kernel_rfl)
  · exact o_run 16 [] [] (fun _ _ => []) (fun _ _ => by as_aux_lemma => kernel_rfl)
  · exact o_run 17 [2] [] (fun _ _ => [nb ρ2 6, nb ρ2 6, nb ρ2 6, nb ρ2 6]) (fun _ _ => by as_aux_lemma => kernel_rfl)
  · exact o_run 18 [2] [] (fun _ _ => [nb ρ2 6, nb ρ2 6, nb ρ2 6, nb ρ2 6]) (fun _ _ => by as_aux_lemma => kernel_rfl)
  · exact o_call 19 28 (fun _ => #[(U (expmN 4 (addmN x 0 qP) pP))]) (fun _ => (U (expmN (expmN 4 (addmN x 0 qP) pP) (pP - 2) pP))) (fun _ _ => by as_aux_lemma => kernel_rfl) (fun _ w => (fun w => ginverse_any (expmN 4 (addmN x 0 qP) pP) w (expmN_lt _ _ pP_lt)) w)
  · exact o_call 20 24 (fun _ => #[(U (expmN 4 (addmN x 0 qP) pP)), (U (expmN (expmN 4 (addmN x 0 qP) pP) (pP - 2) pP))]) (fun _ => (U (mulmN (expmN 4 (addmN x 0 qP) pP) (expmN (expmN 4 (addmN x 0 qP) pP) (pP - 2) pP) pP))) (fun _ _ => by as_aux_lemma => kernel_rfl) (fun _ w => (fun w => gmul_any (expmN 4 (addmN x 0 qP) pP) (expmN (expmN 4 (addmN x 0 qP) pP) (pP - 2) pP) w (expmN_lt _ _ pP_lt) (expmN_lt _ _ pP_lt)) w)
  · exact o_call 21 50 (fun _ => #[]) (fun _ => (U 1)) (fun _ _ => by as_aux_lemma => kernel_rfl) (fun _ w => (fun w => gone_any w) w)
  · exact o_bin 22 .eql 24 (fun _ => (U (mulmN (expmN 4 (addmN x 0 qP) pP) (expmN (expmN 4 (addmN x 0 qP) pP) (pP - 2) pP) pP))) (fun _ => (U 1)) (fun _ => (.bool true)) (fun _ => by as_aux_lemma => kernel_rfl) (fun _ _ _ _ => by as_aux_lemma => kernel_rfl) (fun _ _ => (eqlU (mulmN (expmN 4 (addmN x 0 qP) pP) (expmN (expmN 4 (addmN x 0 qP) pP) (pP - 2) pP) pP) 1 (mulmN_lt _ _ pP_lt) (by decide +kernel) _).trans (by rw [hk3]; try rfl))
  · exact o_run 23 [] [] (fun _ _ => []) (fun _ _ => by as_aux_lemma => kernel_rfl)
  · exact o_run 24 [] [] (fun _ _ => []) (fun _ _ => by as_aux_lemma => kernel_rfl)
theorem groupCloses_w (x : Nat) (y : Nat) (hx : x < M) (hy : y < M) (w0 : World) : Calls Try.prog 12 #[(.agg (hB x)), (.agg (hB y))] w0 (fun ε w' => ε = .returned (.bool true) ∧ Below w0.heap.size w0 w') := by
  refine Calls.of_ok (n := 37) (F := fun _ => True) Try.func12 rfl rfl rfl (by simp) (persTrue (fun _ => trivial)) ?_
  have hk0 : (memB (expmN 4 (addmN x 0 qP) pP)) = true := law_mem _
  have hk1 : (memB (mulmN (expmN 4 (addmN x 0 qP) pP) (expmN 4 (addmN y 0 qP) pP) pP)) = true := law_mul _ _
  have hk2 : (memB (expmN (expmN 4 (addmN x 0 qP) pP) (pP - 2) pP)) = true := law_inv _
  have hk3 : (decide (mulmN (expmN 4 (addmN x 0 qP) pP) (expmN (expmN 4 (addmN x 0 qP) pP) (pP - 2) pP) pP = 1)) = true := decide_eq_true (law_inv1 _)
  refine ok_seq_r (by as_aux_lemma => kernel_rfl) (groupCloses_w_r1 x y _) (fun ρ1 => ?_)
  refine ok_seq_r (by as_aux_lemma => kernel_rfl) (groupCloses_w_r2 x y hx hy ρ1 _) (fun ρ2 => ?_)
  refine ok_seq_r (by as_aux_lemma => kernel_rfl) (groupCloses_w_r3 x y hk0 hk1 hk2 hk3 ρ1 ρ2 _) (fun _ => ?_)
  refine ok_ret ?_
  exact meets_ret (v := (.bool true)) [] (dup []) (by as_aux_lemma => kernel_rfl) (by as_aux_lemma => kernel_rfl) (eqs_dup _) (fun _ hS => ⟨rfl, hS.below⟩)
theorem groupCloses_walk (x : Nat) (y : Nat) (w0 : World) (hx : x < M) (hy : y < M) : Calls Try.prog 12 #[(.agg (hB x)), (.agg (hB y))] w0 (fun ε w' => ε = .returned (.bool true) ∧ Below w0.heap.size w0 w') := groupCloses_w x y hx hy w0
end Go.Proofs.Ytkiijahkmgmnnaa
