/-
  The law GroupAdds: the walk.
-/
import Derived.Test.YtkiijahkmgmnnaaGGroup
import Derived.Test.YtkiijahkmgmnnaaOpen
namespace Go.Proofs.Ytkiijahkmgmnnaa
open Go Go.RowKit
set_option maxRecDepth 100000
theorem groupAdds_w_r1 (x : Nat) (y : Nat) (w0 : World) : Reg Try.prog 0 (regOps Try.f13 0) false 34 [(0, (.agg (hB x))), (1, (.agg (hB y)))] w0 [] (fun _ => True)
    (fun ρ => [(2, (.pointer (some ⟨nb ρ 0, 0, none⟩))), (3, (.pointer (some ⟨nb ρ 1, 0, none⟩))), (4, (.bool false))])
    (fun ρ => [(nb ρ 0, (.cells (hB x) 44 (0, 0))), (nb ρ 1, (.cells (hB y) 44 (0, 0)))]) := by
  refine reg_seq [0, 1, 3] [2, 3, 4] 3
    (fun ρ ι => ([(.pointer (some ⟨nb ρ 0, 0, none⟩)), (.pointer (some ⟨nb ρ 1, 0, none⟩)), (.bool false)] : List Value).getD ι undef)
    (fun ρ ι => ([{ news := [(nb ρ 0, (.cells (hB x) 44 (0, 0)))] }, { news := [(nb ρ 1, (.cells (hB y) 44 (0, 0)))] }, {}] : List Eff).getD ι {})
    (by as_aux_lemma => kernel_rfl) (by as_aux_lemma => kernel_rfl) (fun _ => by as_aux_lemma => kernel_rfl) (fun _ => by as_aux_lemma => kernel_rfl) ⟨⟨⟨trivial, ?_⟩, ?_⟩, ?_⟩
  · exact o_run 0 [] [] (fun _ _ => []) (fun _ _ => by as_aux_lemma => kernel_rfl)
  · exact o_run 1 [] [] (fun _ _ => []) (fun _ _ => by as_aux_lemma => kernel_rfl)
  · exact o_run 2 [] [] (fun _ _ => []) (fun _ _ => by as_aux_lemma => kernel_rfl)
theorem groupAdds_w_r2 (x : Nat) (y : Nat) (hx : x < M) (hy : y < M) (ρ1 : Nat → Orc) (w0 : World) : Reg Try.prog 1 (regOps Try.f13 1) true 34 [(2, (.pointer (some ⟨nb ρ1 0, 0, none⟩))), (3, (.pointer (some ⟨nb ρ1 1, 0, none⟩))), (4, (.bool false))] w0 [(nb ρ1 0, (.cells (hB x) 44 (0, 0))), (nb ρ1 1, (.cells (hB y) 44 (0, 0)))] (fun _ => True)
    (fun ρ => [(4, (.bool false)), (5, (.pointer (some ⟨nb ρ 4, 0, none⟩))), (6, (.pointer (some ⟨nb ρ 5, 0, none⟩)))])
    (fun ρ => [(nb ρ1 0, (.cells (hB x) 44 (0, 0))), (nb ρ1 1, (.cells (hB y) 44 (0, 0))), (nb ρ 4, (.cells (cU (addmN x 0 qP)) 24 (0, 0))), (nb ρ 5, (.cells (cU (addmN y 0 qP)) 24 (0, 0)))]) := by
  refine reg_drawn [0, 1, 0, 7, 0, 0, 63, 127] [4, 5, 6] 8
    (fun ρ ι => ([(.agg (hB x)), (U (addmN x 0 qP)), (.agg (hB y)), (U (addmN y 0 qP)), (.pointer (some ⟨nb ρ 4, 0, none⟩)), (.pointer (some ⟨nb ρ 5, 0, none⟩)), undef, undef] : List Value).getD ι undef)
    (fun ρ ι => ([{}, {}, {}, {}, { news := [(nb ρ 4, (.cells (cU 0) 24 (0, 0)))] }, { news := [(nb ρ 5, (.cells (cU 0) 24 (0, 0)))] }, { puts := [(34, (.cells (cU (addmN x 0 qP)) 24 (0, 0)))] }, { puts := [(42, (.cells (cU (addmN y 0 qP)) 24 (0, 0)))] }] : List Eff).getD ι {})
    (by as_aux_lemma => kernel_rfl) (by as_aux_lemma => kernel_rfl) (by as_aux_lemma => kernel_rfl) (fun _ => by as_aux_lemma => kernel_rfl) (fun _ => by as_aux_lemma => kernel_rfl) ⟨⟨⟨⟨⟨⟨⟨⟨trivial, ?_⟩, ?_⟩, ?_⟩, ?_⟩, ?_⟩, ?_⟩, ?_⟩, ?_⟩
  · exact o_run 0 [0] [] (fun _ _ => [nb ρ1 0, nb ρ1 0, nb ρ1 0, nb ρ1 0, nb ρ1 0, nb ρ1 0, nb ρ1 0, nb ρ1 0, nb ρ1 0, nb ρ1 0, nb ρ1 0, nb ρ1 0, nb ρ1 0, nb ρ1 0, nb ρ1 0, nb ρ1 0, nb ρ1 0, nb ρ1 0, nb ρ1 0, nb ρ1 0, nb ρ1 0, nb ρ1 0, nb ρ1 0, nb ρ1 0, nb ρ1 0, nb ρ1 0, nb ρ1 0, nb ρ1 0, nb ρ1 0, nb ρ1 0, nb ρ1 0, nb ρ1 0]) (fun _ _ => by as_aux_lemma => kernel_rfl)
  · exact o_call 1 49 (fun _ => #[(.agg (hB x))]) (fun _ => (U (addmN x 0 qP))) (fun _ _ => by as_aux_lemma => kernel_rfl) (fun _ w => (fun w => gscalar_any x w hx) w)
  · exact o_run 2 [1] [] (fun _ _ => [nb ρ1 1, nb ρ1 1, nb ρ1 1, nb ρ1 1, nb ρ1 1, nb ρ1 1, nb ρ1 1, nb ρ1 1, nb ρ1 1, nb ρ1 1, nb ρ1 1, nb ρ1 1, nb ρ1 1, nb ρ1 1, nb ρ1 1, nb ρ1 1, nb ρ1 1, nb ρ1 1, nb ρ1 1, nb ρ1 1, nb ρ1 1, nb ρ1 1, nb ρ1 1, nb ρ1 1, nb ρ1 1, nb ρ1 1, nb ρ1 1, nb ρ1 1, nb ρ1 1, nb ρ1 1, nb ρ1 1, nb ρ1 1]) (fun _ _ => by as_aux_lemma => kernel_rfl)
  · exact o_call 3 49 (fun _ => #[(.agg (hB y))]) (fun _ => (U (addmN y 0 qP))) (fun _ _ => by as_aux_lemma => kernel_rfl) (fun _ w => (fun w => gscalar_any y w hy) w)
  · exact o_run 4 [] [] (fun _ _ => []) (fun _ _ => by as_aux_lemma => kernel_rfl)
  · exact o_run 5 [] [] (fun _ _ => []) (fun _ _ => by as_aux_lemma => kernel_rfl)
  · exact o_run 6 [34] [] (fun ρ _ => [nb ρ 4, nb ρ 4, nb ρ 4, nb ρ 4]) (fun _ _ => by as_aux_lemma => kernel_rfl)
  · exact o_run 7 [42] [] (fun ρ _ => [nb ρ 5, nb ρ 5, nb ρ 5, nb ρ 5]) (fun _ _ => by as_aux_lemma => kernel_rfl)
theorem groupAdds_w_r3 (x : Nat) (y : Nat) (hk0 : (decide (expmN 4 (addmN (addmN x 0 qP) (addmN y 0 qP) qP) pP = mulmN (expmN 4 (addmN x 0 qP) pP) (expmN 4 (addmN y 0 qP) pP) pP)) = true) (hk1 : (decide (mulmN (expmN 4 (addmN x 0 qP) pP) (expmN 4 (submN 0 (addmN x 0 qP) qP) pP) pP = 1)) = true) (ρ1 : Nat → Orc) (ρ2 : Nat → Orc) (w0 : World) : Reg Try.prog 2 (regOps Try.f13 2) true 34 [(4, (.bool false)), (5, (.pointer (some ⟨nb ρ2 4, 0, none⟩))), (6, (.pointer (some ⟨nb ρ2 5, 0, none⟩)))] w0 [(nb ρ1 0, (.cells (hB x) 44 (0, 0))), (nb ρ1 1, (.cells (hB y) 44 (0, 0))), (nb ρ2 4, (.cells (cU (addmN x 0 qP)) 24 (0, 0))), (nb ρ2 5, (.cells (cU (addmN y 0 qP)) 24 (0, 0)))] (fun _ => True)
    (fun _ => [(4, (.bool true))])
    (fun _ => [(nb ρ1 0, (.cells (hB x) 44 (0, 0))), (nb ρ1 1, (.cells (hB y) 44 (0, 0))), (nb ρ2 4, (.cells (cU (addmN x 0 qP)) 24 (0, 0))), (nb ρ2 5, (.cells (cU (addmN y 0 qP)) 24 (0, 0)))]) := by
  refine reg_drawn [0, 1, 3, 3, 15, 31, 3, 127, 3, 511, 1023, 2047, 4095, 8191, 16383, 32767, 16383, 131071, 262143, 524287, 1048575, 2097151, 4194303, 8388607] [4] 24
    (fun _ ι => ([(.bool true), (.bool true), (U (addmN x 0 qP)), (U (addmN y 0 qP)), (U (addmN (addmN x 0 qP) (addmN y 0 qP) qP)), (U (expmN 4 (addmN (addmN x 0 qP) (addmN y 0 qP) qP) pP)), (U (addmN x 0 qP)), (U (expmN 4 (addmN x 0 qP) pP)), (U (addmN y 0 qP)), (U (expmN 4 (addmN y 0 qP) pP)), (U (mulmN (expmN 4 (addmN x 0 qP) pP) (expmN 4 (addmN y 0 qP) pP) pP)), (.bool true), (.bool true), (.bool true), (U (addmN x 0 qP)), (U (expmN 4 (addmN x 0 qP) pP)), (U (addmN x 0 qP)), (U (submN 0 (addmN x 0 qP) qP)), (U (expmN 4 (submN 0 (addmN x 0 qP) qP) pP)), (U (mulmN (expmN 4 (addmN x 0 qP) pP) (expmN 4 (submN 0 (addmN x 0 qP) qP) pP) pP)), (U 1), (.bool true), (.bool true), (.bool true)] : List Value).getD ι undef)
    (fun _ ι => ([{}, {}, {}, {}, {}, {}, {}, {}, {}, {}, {}, {}, {}, {}, {}, {}, {}, {}, {}, {}, {}, {}, {}, {}] : List Eff).getD ι {})
    (by as_aux_lemma => kernel_rfl) (by as_aux_lemma => kernel_rfl) (by as_aux_lemma => kernel_rfl) (fun _ => by as_aux_lemma => kernel_rfl) (fun _ => by as_aux_lemma => kernel_rfl) ⟨⟨⟨⟨⟨⟨⟨⟨⟨⟨⟨⟨⟨⟨⟨⟨⟨⟨⟨⟨⟨⟨⟨⟨trivial, ?_⟩, ?_⟩, ?_⟩, ?_⟩, ?_⟩, ?_⟩, ?_⟩, ?_⟩, ?_⟩, ?_⟩, ?_⟩, ?_⟩, ?_⟩, ?_⟩, ?_⟩, ?_⟩, ?_⟩, ?_⟩, ?_⟩, ?_⟩, ?_⟩, ?_⟩, ?_⟩, ?_⟩
  · exact o_call 0 15 (fun _ => #[]) (fun _ => (.bool true)) (fun _ _ => by as_aux_lemma => kernel_rfl) (fun _ w => (fun w => gsane_any w) w)
  · exact o_run 1 [] [] (fun _ _ => []) (fun _ _ => by as_aux_lemma => kernel_rfl)
  · exact o_run 2 [2] [] (fun _ _ => [nb ρ2 4, nb ρ2 4, nb ρ2 4, nb ρ2 4]) (fun _ _ => by as_aux_lemma => kernel_rfl)
  · exact o_run 3 [3] [] (fun _ _ => [nb ρ2 5, nb ρ2 5, nb ρ2 5, nb ρ2 5]) (fun _ _ => by as_aux_lemma => kernel_rfl)
  · exact o_call 4 51 (fun _ => #[(U (addmN x 0 qP)), (U (addmN y 0 qP))]) (fun _ => (U (addmN (addmN x 0 qP) (addmN y 0 qP) qP))) (fun _ _ => by as_aux_lemma => kernel_rfl) (fun _ w => (fun w => gaddscalar_any (addmN x 0 qP) (addmN y 0 qP) w (addmN_lt _ _ qP_lt) (addmN_lt _ _ qP_lt)) w)
  · exact o_call 5 30 (fun _ => #[(U (addmN (addmN x 0 qP) (addmN y 0 qP) qP))]) (fun _ => (U (expmN 4 (addmN (addmN x 0 qP) (addmN y 0 qP) qP) pP))) (fun _ _ => by as_aux_lemma => kernel_rfl) (fun _ w => (fun w => gpower_any (addmN (addmN x 0 qP) (addmN y 0 qP) qP) w (addmN_lt _ _ qP_lt)) w)
  · exact o_run 6 [2] [] (fun _ _ => [nb ρ2 4, nb ρ2 4, nb ρ2 4, nb ρ2 4]) (fun _ _ => by as_aux_lemma => kernel_rfl)
  · exact o_call 7 30 (fun _ => #[(U (addmN x 0 qP))]) (fun _ => (U (expmN 4 (addmN x 0 qP) pP))) (fun _ _ => by as_aux_lemma => kernel_rfl) (fun _ w => (fun w => gpower_any (addmN x 0 qP) w (addmN_lt _ _ qP_lt)) w)
  · exact o_run 8 [3] [] (fun _ _ => [nb ρ2 5, nb ρ2 5, nb ρ2 5, nb ρ2 5]) (fun _ _ => by as_aux_lemma => kernel_rfl)
  · exact o_call 9 30 (fun _ => #[(U (addmN y 0 qP))]) (fun _ => (U (expmN 4 (addmN y 0 qP) pP))) (fun _ _ => by as_aux_lemma => kernel_rfl) (fun _ w => (fun w => gpower_any (addmN y 0 qP) w (addmN_lt _ _ qP_lt)) w)
  · exact o_call 10 24 (fun _ => #[(U (expmN 4 (addmN x 0 qP) pP)), (U (expmN 4 (addmN y 0 qP) pP))]) (fun _ => (U (mulmN (expmN 4 (addmN x 0 qP) pP) (expmN 4 (addmN y 0 qP) pP) pP))) (fun _ _ => by as_aux_lemma => kernel_rfl) (fun _ w => (fun w => gmul_any (expmN 4 (addmN x 0 qP) pP) (expmN 4 (addmN y 0 qP) pP) w (expmN_lt _ _ pP_lt) (expmN_lt _ _ pP_lt)) w)
  · exact o_bin 11 .eql 24 (fun _ => (U (expmN 4 (addmN (addmN x 0 qP) (addmN y 0 qP) qP) pP))) (fun _ => (U (mulmN (expmN 4 (addmN x 0 qP) pP) (expmN 4 (addmN y 0 qP) pP) pP))) (fun _ => (.bool true)) (fun _ => by as_aux_lemma => kernel_rfl) (fun _ _ _ _ => by as_aux_lemma => kernel_rfl) (fun _ _ => (eqlU (expmN 4 (addmN (addmN x 0 qP) (addmN y 0 qP) qP) pP) (mulmN (expmN 4 (addmN x 0 qP) pP) (expmN 4 (addmN y 0 qP) pP) pP) (expmN_lt _ _ pP_lt) (mulmN_lt _ _ pP_lt) _).trans (by rw [hk0]; try rfl))
  · exact o_run 12 [] [] (fun _ _ => []) (fun _ _ => by as_aux_lemma => kernel_rfl)
  · exact o_run 13 [] [] (fun _ _ => []) (fun _ _ => by as_aux_lemma => kernel_rfl)
  · exact o_run 14 [2] [] (fun _ _ => [nb ρ2 4, nb ρ2 4, nb ρ2 4, nb ρ2 4]) (fun _ _ => by as_aux_lemma => kernel_rfl)
  · exact o_call 15 30 (fun _ => #[(U (addmN x 0 qP))]) (fun _ => (U (expmN 4 (addmN x 0 qP) pP))) (fun _ _ => by as_aux_lemma => kernel_rfl) (fun _ w => (fun w => gpower_any (addmN x 0 qP) w (addmN_lt _ _ qP_lt)) w)
  · exact o_run 16 [2] [] (fun _ _ => [nb ρ2 4, nb ρ2 4, nb ρ2 4, nb ρ2 4]) (fun _ _ => by as_aux_lemma => kernel_rfl)
  · exact o_call 17 52 (fun _ => #[(U (addmN x 0 qP))]) (fun _ => (U (submN 0 (addmN x 0 qP) qP))) (fun _ _ => by as_aux_lemma => kernel_rfl) (fun _ w => (fun w => gnegscalar_any (addmN x 0 qP) w (addmN_lt _ _ qP_lt)) w)
  · exact o_call 18 30 (fun _ => #[(U (submN 0 (addmN x 0 qP) qP))]) (fun _ => (U (expmN 4 (submN 0 (addmN x 0 qP) qP) pP))) (fun _ _ => by as_aux_lemma => kernel_rfl) (fun _ w => (fun w => gpower_any (submN 0 (addmN x 0 qP) qP) w (submN_lt _ _ qP_lt)) w)
  · exact o_call 19 24 (fun _ => #[(U (expmN 4 (addmN x 0 qP) pP)), (U (expmN 4 (submN 0 (addmN x 0 qP) qP) pP))]) (fun _ => (U (mulmN (expmN 4 (addmN x 0 qP) pP) (expmN 4 (submN 0 (addmN x 0 qP) qP) pP) pP))) (fun _ _ => by as_aux_lemma => kernel_rfl) (fun _ w => (fun w => gmul_any (expmN 4 (addmN x 0 qP) pP) (expmN 4 (submN 0 (addmN x 0 qP) qP) pP) w (expmN_lt _ _ pP_lt) (expmN_lt _ _ pP_lt)) w)
  · exact o_call 20 50 (fun _ => #[]) (fun _ => (U 1)) (fun _ _ => by as_aux_lemma => kernel_rfl) (fun _ w => (fun w => gone_any w) w)
  · exact o_bin 21 .eql 24 (fun _ => (U (mulmN (expmN 4 (addmN x 0 qP) pP) (expmN 4 (submN 0 (addmN x 0 qP) qP) pP) pP))) (fun _ => (U 1)) (fun _ => (.bool true)) (fun _ => by as_aux_lemma => kernel_rfl) (fun _ _ _ _ => by as_aux_lemma => kernel_rfl) (fun _ _ => (eqlU (mulmN (expmN 4 (addmN x 0 qP) pP) (expmN 4 (submN 0 (addmN x 0 qP) qP) pP) pP) 1 (mulmN_lt _ _ pP_lt) (by decide +kernel) _).trans (by rw [hk1]; try rfl))
  · exact o_run 22 [] [] (fun _ _ => []) (fun _ _ => by as_aux_lemma => kernel_rfl)
  · exact o_run 23 [] [] (fun _ _ => []) (fun _ _ => by as_aux_lemma => kernel_rfl)
theorem groupAdds_w (x : Nat) (y : Nat) (hx : x < M) (hy : y < M) (w0 : World) : Calls Try.prog 13 #[(.agg (hB x)), (.agg (hB y))] w0 (fun ε w' => ε = .returned (.bool true) ∧ Below w0.heap.size w0 w') := by
  refine Calls.of_ok (n := 34) (F := fun _ => True) Try.func13 rfl rfl rfl (by simp) (persTrue (fun _ => trivial)) ?_
  have hk0 : (decide (expmN 4 (addmN (addmN x 0 qP) (addmN y 0 qP) qP) pP = mulmN (expmN 4 (addmN x 0 qP) pP) (expmN 4 (addmN y 0 qP) pP) pP)) = true := decide_eq_true (law_adds x y)
  have hk1 : (decide (mulmN (expmN 4 (addmN x 0 qP) pP) (expmN 4 (submN 0 (addmN x 0 qP) qP) pP) pP = 1)) = true := decide_eq_true (law_neg x)
  refine ok_seq_r (by as_aux_lemma => kernel_rfl) (groupAdds_w_r1 x y _) (fun ρ1 => ?_)
  refine ok_seq_r (by as_aux_lemma => kernel_rfl) (groupAdds_w_r2 x y hx hy ρ1 _) (fun ρ2 => ?_)
  refine ok_seq_r (by as_aux_lemma => kernel_rfl) (groupAdds_w_r3 x y hk0 hk1 ρ1 ρ2 _) (fun _ => ?_)
  refine ok_ret ?_
  exact meets_ret (v := (.bool true)) [] (dup []) (by as_aux_lemma => kernel_rfl) (by as_aux_lemma => kernel_rfl) (eqs_dup _) (fun _ hS => ⟨rfl, hS.below⟩)
theorem groupAdds_walk (x : Nat) (y : Nat) (w0 : World) (hx : x < M) (hy : y < M) : Calls Try.prog 13 #[(.agg (hB x)), (.agg (hB y))] w0 (fun ε w' => ε = .returned (.bool true) ∧ Below w0.heap.size w0 w') := groupAdds_w x y hx hy w0
end Go.Proofs.Ytkiijahkmgmnnaa
