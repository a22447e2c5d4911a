/-
  The law GroupSquares: the walk.
-/
import Derived.Test.YtkiijahkmgmnnaaGGroup
import Derived.Test.YtkiijahkmgmnnaaOpen
import Derived.Test.YtkiijahkmgmnnaaPrimeP
namespace Go.Proofs.Ytkiijahkmgmnnaa
open Go Go.RowKit
set_option maxRecDepth 100000
theorem groupSquares_w_r1 (a : Nat) (w0 : World) : Reg Try.prog 0 (regOps Try.f4 0) false 37 [(0, (U a))] w0 [] (fun _ => True)
    (fun ρ => [(1, (.pointer (some ⟨nb ρ 0, 0, none⟩))), (2, (.bool false))])
    (fun ρ => [(nb ρ 0, (.cells (cU a) 24 (0, 0)))]) := by
  refine reg_seq [0, 1] [1, 2] 2
    (fun ρ ι => ([(.pointer (some ⟨nb ρ 0, 0, none⟩)), (.bool false)] : List Value).getD ι undef)
    (fun ρ ι => ([{ news := [(nb ρ 0, (.cells (cU a) 24 (0, 0)))] }, {}] : List Eff).getD ι {})
    (by as_aux_lemma => kernel_rfl) (by as_aux_lemma => kernel_rfl) (fun _ => by as_aux_lemma => kernel_rfl) (fun _ => by as_aux_lemma => kernel_rfl) ⟨⟨trivial, ?_⟩, ?_⟩
  · exact o_run 0 [] [] (fun _ _ => []) (fun _ _ => by as_aux_lemma => kernel_rfl)
  · exact o_run 1 [] [] (fun _ _ => []) (fun _ _ => by as_aux_lemma => kernel_rfl)
theorem groupSquares_w_r2 (a : Nat) (ρ1 : Nat → Orc) (w0 : World) : Reg Try.prog 1 (regOps Try.f4 1) false 37 [(1, (.pointer (some ⟨nb ρ1 0, 0, none⟩))), (2, (.bool false))] w0 [(nb ρ1 0, (.cells (cU a) 24 (0, 0)))] (fun _ => True)
    (fun _ => [(1, (.pointer (some ⟨nb ρ1 0, 0, none⟩))), (2, (.bool false)), (6, (.bool false))])
    (fun _ => [(nb ρ1 0, (.cells (cU a) 24 (0, 0)))]) := by
  refine reg_seq [0, 1] [1, 2, 6] 2
    (fun _ ι => ([(.bool true), (.bool false)] : List Value).getD ι undef)
    (fun _ ι => ([{}, {}] : List Eff).getD ι {})
    (by as_aux_lemma => kernel_rfl) (by as_aux_lemma => kernel_rfl) (fun _ => by as_aux_lemma => kernel_rfl) (fun _ => by as_aux_lemma => kernel_rfl) ⟨⟨trivial, ?_⟩, ?_⟩
  · exact o_call 0 15 (fun _ => #[]) (fun _ => (.bool true)) (fun _ _ => by as_aux_lemma => kernel_rfl) (fun _ w => (fun w => gsane_any w) w)
  · exact o_run 1 [] [] (fun _ _ => []) (fun _ _ => by as_aux_lemma => kernel_rfl)
theorem groupSquares_w_r3 (a : Nat) (ha : a < M) (ρ1 : Nat → Orc) (w0 : World) : Reg Try.prog 3 (regOps Try.f4 3) true 37 [(1, (.pointer (some ⟨nb ρ1 0, 0, none⟩))), (2, (.bool false)), (6, (.bool false))] w0 [(nb ρ1 0, (.cells (cU a) 24 (0, 0)))] (fun _ => True)
    (fun ρ => [(1, (.pointer (some ⟨nb ρ1 0, 0, none⟩))), (2, (.bool false)), (3, (.pointer (some ⟨nb ρ 4, 0, none⟩)))])
    (fun ρ => [(nb ρ1 0, (.cells (cU a) 24 (0, 0))), (nb ρ 4, (.cells (cU (submN 0 a pP)) 24 (0, 0)))]) := by
  refine reg_drawn [0, 0, 0, 7, 0, 31] [1, 2, 3] 6
    (fun ρ ι => ([(U 0), (U a), (U pP), (U (submN 0 a pP)), (.pointer (some ⟨nb ρ 4, 0, none⟩)), undef] : List Value).getD ι undef)
    (fun ρ ι => ([{}, {}, {}, {}, { news := [(nb ρ 4, (.cells (cU 0) 24 (0, 0)))] }, { puts := [(33, (.cells (cU (submN 0 a pP)) 24 (0, 0)))] }] : List Eff).getD ι {})
    (by as_aux_lemma => kernel_rfl) (by as_aux_lemma => kernel_rfl) (by as_aux_lemma => kernel_rfl) (fun _ => by as_aux_lemma => kernel_rfl) (fun _ => by as_aux_lemma => kernel_rfl) ⟨⟨⟨⟨⟨⟨trivial, ?_⟩, ?_⟩, ?_⟩, ?_⟩, ?_⟩, ?_⟩
  · exact o_run 0 [] [] (fun _ _ => []) (fun _ _ => by as_aux_lemma => kernel_rfl)
  · exact o_run 1 [0] [] (fun _ _ => [nb ρ1 0, nb ρ1 0, nb ρ1 0, nb ρ1 0]) (fun _ _ => by as_aux_lemma => kernel_rfl)
  · exact o_call 2 16 (fun _ => #[]) (fun _ => (U pP)) (fun _ _ => by as_aux_lemma => kernel_rfl) (fun _ w => (fun w => gmodulus_any w) w)
  · exact o_call 3 22 (fun _ => #[(U 0), (U a), (U pP)]) (fun _ => (U (submN 0 a pP))) (fun _ _ => by as_aux_lemma => kernel_rfl) (fun _ w => (fun w => rsubmod_any 0 a pP w (by decide +kernel) ha pP_lt) w)
  · exact o_run 4 [] [] (fun _ _ => []) (fun _ _ => by as_aux_lemma => kernel_rfl)
  · exact o_run 5 [33] [] (fun ρ _ => [nb ρ 4, nb ρ 4, nb ρ 4, nb ρ 4]) (fun _ _ => by as_aux_lemma => kernel_rfl)
theorem groupSquares_w_r4 (a : Nat) (ha : a < M) (ρ1 : Nat → Orc) (ρ3 : Nat → Orc) (w0 : World) : Reg Try.prog 4 (regOps Try.f4 4) true 37 [(1, (.pointer (some ⟨nb ρ1 0, 0, none⟩))), (2, (.bool false)), (3, (.pointer (some ⟨nb ρ3 4, 0, none⟩)))] w0 [(nb ρ1 0, (.cells (cU a) 24 (0, 0))), (nb ρ3 4, (.cells (cU (submN 0 a pP)) 24 (0, 0)))] (fun _ => True)
    (fun ρ => [(1, (.pointer (some ⟨nb ρ1 0, 0, none⟩))), (2, (.bool false)), (3, (.pointer (some ⟨nb ρ3 4, 0, none⟩))), (4, (.pointer (some ⟨nb ρ 4, 0, none⟩)))])
    (fun ρ => [(nb ρ1 0, (.cells (cU a) 24 (0, 0))), (nb ρ3 4, (.cells (cU (submN 0 a pP)) 24 (0, 0))), (nb ρ 4, (.cells (cU (addmN a 0 pP)) 24 (0, 0)))]) := by
  refine reg_drawn [0, 0, 0, 7, 0, 31] [1, 2, 3, 4] 6
    (fun ρ ι => ([(U a), (U 0), (U pP), (U (addmN a 0 pP)), (.pointer (some ⟨nb ρ 4, 0, none⟩)), undef] : List Value).getD ι undef)
    (fun ρ ι => ([{}, {}, {}, {}, { news := [(nb ρ 4, (.cells (cU 0) 24 (0, 0)))] }, { puts := [(34, (.cells (cU (addmN a 0 pP)) 24 (0, 0)))] }] : List Eff).getD ι {})
    (by as_aux_lemma => kernel_rfl) (by as_aux_lemma => kernel_rfl) (by as_aux_lemma => kernel_rfl) (fun _ => by as_aux_lemma => kernel_rfl) (fun _ => by as_aux_lemma => kernel_rfl) ⟨⟨⟨⟨⟨⟨trivial, ?_⟩, ?_⟩, ?_⟩, ?_⟩, ?_⟩, ?_⟩
  · exact o_run 0 [0] [] (fun _ _ => [nb ρ1 0, nb ρ1 0, nb ρ1 0, nb ρ1 0]) (fun _ _ => by as_aux_lemma => kernel_rfl)
  · exact o_run 1 [] [] (fun _ _ => []) (fun _ _ => by as_aux_lemma => kernel_rfl)
  · exact o_call 2 16 (fun _ => #[]) (fun _ => (U pP)) (fun _ _ => by as_aux_lemma => kernel_rfl) (fun _ w => (fun w => gmodulus_any w) w)
  · exact o_call 3 23 (fun _ => #[(U a), (U 0), (U pP)]) (fun _ => (U (addmN a 0 pP))) (fun _ _ => by as_aux_lemma => kernel_rfl) (fun _ w => (fun w => raddmod_any a 0 pP w ha (by decide +kernel) pP_lt) w)
  · exact o_run 4 [] [] (fun _ _ => []) (fun _ _ => by as_aux_lemma => kernel_rfl)
  · exact o_run 5 [34] [] (fun ρ _ => [nb ρ 4, nb ρ 4, nb ρ 4, nb ρ 4]) (fun _ _ => by as_aux_lemma => kernel_rfl)
theorem groupSquares_w_r5 (a : Nat) (ρ1 : Nat → Orc) (ρ3 : Nat → Orc) (ρ4 : Nat → Orc) (w0 : World) : Reg Try.prog 5 (regOps Try.f4 5) false 37 [(1, (.pointer (some ⟨nb ρ1 0, 0, none⟩))), (2, (.bool false)), (3, (.pointer (some ⟨nb ρ3 4, 0, none⟩))), (4, (.pointer (some ⟨nb ρ4 4, 0, none⟩)))] w0 [(nb ρ1 0, (.cells (cU a) 24 (0, 0))), (nb ρ3 4, (.cells (cU (submN 0 a pP)) 24 (0, 0))), (nb ρ4 4, (.cells (cU (addmN a 0 pP)) 24 (0, 0)))] (fun _ => True)
    (fun _ => [(1, (.pointer (some ⟨nb ρ1 0, 0, none⟩))), (2, (.bool false)), (3, (.pointer (some ⟨nb ρ3 4, 0, none⟩))), (4, (.pointer (some ⟨nb ρ4 4, 0, none⟩))), (17, (.bool (decide (addmN a 0 pP = 0))))])
    (fun _ => [(nb ρ1 0, (.cells (cU a) 24 (0, 0))), (nb ρ3 4, (.cells (cU (submN 0 a pP)) 24 (0, 0))), (nb ρ4 4, (.cells (cU (addmN a 0 pP)) 24 (0, 0)))]) := by
  refine reg_seq [0, 1, 3] [1, 2, 3, 4, 17] 3
    (fun _ ι => ([(U (addmN a 0 pP)), (U 0), (.bool (decide (addmN a 0 pP = 0)))] : List Value).getD ι undef)
    (fun _ ι => ([{}, {}, {}] : List Eff).getD ι {})
    (by as_aux_lemma => kernel_rfl) (by as_aux_lemma => kernel_rfl) (fun _ => by as_aux_lemma => kernel_rfl) (fun _ => by as_aux_lemma => kernel_rfl) ⟨⟨⟨trivial, ?_⟩, ?_⟩, ?_⟩
  · exact o_run 0 [2] [] (fun _ _ => [nb ρ4 4, nb ρ4 4, nb ρ4 4, nb ρ4 4]) (fun _ _ => by as_aux_lemma => kernel_rfl)
  · exact o_run 1 [] [] (fun _ _ => []) (fun _ _ => by as_aux_lemma => kernel_rfl)
  · exact o_bin 2 .eql 24 (fun _ => (U (addmN a 0 pP))) (fun _ => (U 0)) (fun _ => (.bool (decide (addmN a 0 pP = 0)))) (fun _ => by as_aux_lemma => kernel_rfl) (fun _ _ _ _ => by as_aux_lemma => kernel_rfl) (fun _ _ => eqlU (addmN a 0 pP) 0 (addmN_lt _ _ pP_lt) (by decide +kernel) _)
theorem groupSquares_w_r6 (a : Nat) (hb1 : (decide (addmN a 0 pP = 0)) = true) (ρ1 : Nat → Orc) (ρ3 : Nat → Orc) (ρ4 : Nat → Orc) (w0 : World) : Reg Try.prog 6 (regOps Try.f4 6) false 37 [(1, (.pointer (some ⟨nb ρ1 0, 0, none⟩))), (2, (.bool false)), (3, (.pointer (some ⟨nb ρ3 4, 0, none⟩))), (4, (.pointer (some ⟨nb ρ4 4, 0, none⟩))), (17, (.bool true))] w0 [(nb ρ1 0, (.cells (cU a) 24 (0, 0))), (nb ρ3 4, (.cells (cU (submN 0 a pP)) 24 (0, 0))), (nb ρ4 4, (.cells (cU (addmN a 0 pP)) 24 (0, 0)))] (fun _ => True)
    (fun _ => [(1, (.pointer (some ⟨nb ρ1 0, 0, none⟩))), (2, (.bool true)), (3, (.pointer (some ⟨nb ρ3 4, 0, none⟩))), (4, (.pointer (some ⟨nb ρ4 4, 0, none⟩)))])
    (fun _ => [(nb ρ1 0, (.cells (cU a) 24 (0, 0))), (nb ρ3 4, (.cells (cU (submN 0 a pP)) 24 (0, 0))), (nb ρ4 4, (.cells (cU (addmN a 0 pP)) 24 (0, 0)))]) := by
  refine reg_seq [0, 1, 3, 7, 15, 31, 63, 127, 255] [1, 2, 3, 4] 9
    (fun _ ι => ([(U (submN 0 a pP)), (.bool false), (.bool true), (.bool true), (U (addmN a 0 pP)), (.bool false), (.bool true), (.bool true), (.bool true)] : List Value).getD ι undef)
    (fun _ ι => ([{}, {}, {}, {}, {}, {}, {}, {}, {}] : List Eff).getD ι {})
    (by as_aux_lemma => kernel_rfl) (by as_aux_lemma => kernel_rfl) (fun _ => by as_aux_lemma => kernel_rfl) (fun _ => by as_aux_lemma => kernel_rfl) ⟨⟨⟨⟨⟨⟨⟨⟨⟨trivial, ?_⟩, ?_⟩, ?_⟩, ?_⟩, ?_⟩, ?_⟩, ?_⟩, ?_⟩, ?_⟩
  · exact o_run 0 [1] [] (fun _ _ => [nb ρ3 4, nb ρ3 4, nb ρ3 4, nb ρ3 4]) (fun _ _ => by as_aux_lemma => kernel_rfl)
  · exact o_call 1 20 (fun _ => #[(U (submN 0 a pP))]) (fun _ => (.bool false)) (fun _ _ => by as_aux_lemma => kernel_rfl) (fun _ w => by as_aux_lemma => (have h := (fun w => gmember_any (submN 0 a pP) w (submN_lt _ _ pP_lt)) w; rw [(sq_zero hb1).1] at h; exact h))
  · exact o_run 2 [] [] (fun _ _ => []) (fun _ _ => by as_aux_lemma => kernel_rfl)
  · exact o_run 3 [] [] (fun _ _ => []) (fun _ _ => by as_aux_lemma => kernel_rfl)
  · exact o_run 4 [2] [] (fun _ _ => [nb ρ4 4, nb ρ4 4, nb ρ4 4, nb ρ4 4]) (fun _ _ => by as_aux_lemma => kernel_rfl)
  · exact o_call 5 20 (fun _ => #[(U (addmN a 0 pP))]) (fun _ => (.bool false)) (fun _ _ => by as_aux_lemma => kernel_rfl) (fun _ w => by as_aux_lemma => (have h := (fun w => gmember_any (addmN a 0 pP) w (addmN_lt _ _ pP_lt)) w; rw [(sq_zero hb1).2] at h; exact h))
  · exact o_run 6 [] [] (fun _ _ => []) (fun _ _ => by as_aux_lemma => kernel_rfl)
  · exact o_run 7 [] [] (fun _ _ => []) (fun _ _ => by as_aux_lemma => kernel_rfl)
  · exact o_run 8 [] [] (fun _ _ => []) (fun _ _ => by as_aux_lemma => kernel_rfl)
theorem groupSquares_w_r7 (a : Nat) (ha : a < M) (hb1 : (decide (addmN a 0 pP = 0)) = false) (ρ1 : Nat → Orc) (ρ3 : Nat → Orc) (ρ4 : Nat → Orc) (w0 : World) : Reg Try.prog 7 (regOps Try.f4 7) true 37 [(1, (.pointer (some ⟨nb ρ1 0, 0, none⟩))), (2, (.bool false)), (3, (.pointer (some ⟨nb ρ3 4, 0, none⟩))), (4, (.pointer (some ⟨nb ρ4 4, 0, none⟩))), (17, (.bool false))] w0 [(nb ρ1 0, (.cells (cU a) 24 (0, 0))), (nb ρ3 4, (.cells (cU (submN 0 a pP)) 24 (0, 0))), (nb ρ4 4, (.cells (cU (addmN a 0 pP)) 24 (0, 0)))] (fun _ => True)
    (fun _ => [(2, (.bool true))])
    (fun _ => [(nb ρ1 0, (.cells (cU a) 24 (0, 0))), (nb ρ3 4, (.cells (cU (submN 0 a pP)) 24 (0, 0))), (nb ρ4 4, (.cells (cU (addmN a 0 pP)) 24 (0, 0)))]) := by
  refine reg_drawn [0, 1, 0, 7, 15, 31, 63, 63, 255, 511, 1023, 2047] [2] 12
    (fun _ ι => ([(U (submN 0 a pP)), (.bool (memB (submN 0 a pP))), (U (addmN a 0 pP)), (.bool (memB (addmN a 0 pP))), (.bool true), (.bool true), (U a), (U a), (U (mulmN a a pP)), (.bool true), (.bool true), (.bool true)] : List Value).getD ι undef)
    (fun _ ι => ([{}, {}, {}, {}, {}, {}, {}, {}, {}, {}, {}, {}] : List Eff).getD ι {})
    (by as_aux_lemma => kernel_rfl) (by as_aux_lemma => kernel_rfl) (by as_aux_lemma => kernel_rfl) (fun _ => by as_aux_lemma => kernel_rfl) (fun _ => by as_aux_lemma => kernel_rfl) ⟨⟨⟨⟨⟨⟨⟨⟨⟨⟨⟨⟨trivial, ?_⟩, ?_⟩, ?_⟩, ?_⟩, ?_⟩, ?_⟩, ?_⟩, ?_⟩, ?_⟩, ?_⟩, ?_⟩, ?_⟩
  · exact o_run 0 [1] [] (fun _ _ => [nb ρ3 4, nb ρ3 4, nb ρ3 4, nb ρ3 4]) (fun _ _ => by as_aux_lemma => kernel_rfl)
  · exact o_call 1 20 (fun _ => #[(U (submN 0 a pP))]) (fun _ => (.bool (memB (submN 0 a pP)))) (fun _ _ => by as_aux_lemma => kernel_rfl) (fun _ w => (fun w => gmember_any (submN 0 a pP) w (submN_lt _ _ pP_lt)) w)
  · exact o_run 2 [2] [] (fun _ _ => [nb ρ4 4, nb ρ4 4, nb ρ4 4, nb ρ4 4]) (fun _ _ => by as_aux_lemma => kernel_rfl)
  · exact o_call 3 20 (fun _ => #[(U (addmN a 0 pP))]) (fun _ => (.bool (memB (addmN a 0 pP)))) (fun _ _ => by as_aux_lemma => kernel_rfl) (fun _ w => (fun w => gmember_any (addmN a 0 pP) w (addmN_lt _ _ pP_lt)) w)
  · exact o_as 4 (fun _ => (.bool ((memB (submN 0 a pP)) != (memB (addmN a 0 pP))))) (fun _ => (.bool true)) (fun _ _ => by as_aux_lemma => kernel_rfl) (fun _ => congrArg Value.bool (sq_ne hb1))
  · exact o_run 5 [] [] (fun _ _ => []) (fun _ _ => by as_aux_lemma => kernel_rfl)
  · exact o_run 6 [0] [] (fun _ _ => [nb ρ1 0, nb ρ1 0, nb ρ1 0, nb ρ1 0]) (fun _ _ => by as_aux_lemma => kernel_rfl)
  · exact o_run 7 [0] [] (fun _ _ => [nb ρ1 0, nb ρ1 0, nb ρ1 0, nb ρ1 0]) (fun _ _ => by as_aux_lemma => kernel_rfl)
  · exact o_call 8 24 (fun _ => #[(U a), (U a)]) (fun _ => (U (mulmN a a pP))) (fun _ _ => by as_aux_lemma => kernel_rfl) (fun _ w => (fun w => gmul_any a a w ha ha) w)
  · exact o_call 9 20 (fun _ => #[(U (mulmN a a pP))]) (fun _ => (.bool true)) (fun _ _ => by as_aux_lemma => kernel_rfl) (fun _ w => by as_aux_lemma => (have h := (fun w => gmember_any (mulmN a a pP) w (mulmN_lt _ _ pP_lt)) w; rw [(sq_mem hb1)] at h; exact h))
  · exact o_run 10 [] [] (fun _ _ => []) (fun _ _ => by as_aux_lemma => kernel_rfl)
  · exact o_run 11 [] [] (fun _ _ => []) (fun _ _ => by as_aux_lemma => kernel_rfl)
theorem groupSquares_w (a : Nat) (ha : a < M) (w0 : World) : Calls Try.prog 4 #[(U a)] w0 (fun ε w' => ε = .returned (.bool true) ∧ Below w0.heap.size w0 w') := by
  refine Calls.of_ok (n := 37) (F := fun _ => True) Try.func4 rfl rfl rfl (by simp) (persTrue (fun _ => trivial)) ?_
  refine ok_seq_r (by as_aux_lemma => kernel_rfl) (groupSquares_w_r1 a _) (fun ρ1 => ?_)
  refine ok_seq ?_
  refine ok_seq_r (by as_aux_lemma => kernel_rfl) (groupSquares_w_r2 a ρ1 _) (fun _ => ?_)
  refine ok_no (by as_aux_lemma => kernel_rfl) ?_
  refine ok_skip ?_
  refine mt_then ?_
  refine ok_seq_r (by as_aux_lemma => kernel_rfl) (groupSquares_w_r3 a ha ρ1 _) (fun ρ3 => ?_)
  refine ok_seq_r (by as_aux_lemma => kernel_rfl) (groupSquares_w_r4 a ha ρ1 ρ3 _) (fun ρ4 => ?_)
  refine ok_seq ?_
  refine ok_seq_r (by as_aux_lemma => kernel_rfl) (groupSquares_w_r5 a ρ1 ρ3 ρ4 _) (fun _ => ?_)
  refine ok_cond (b := decide (addmN a 0 pP = 0)) (by as_aux_lemma => kernel_rfl) (fun hb1 => ?_) (fun hb1 => ?_)
  ·
    rw [hb1]
    refine ok_seq_r (by as_aux_lemma => kernel_rfl) (groupSquares_w_r6 a hb1 ρ1 ρ3 ρ4 _) (fun _ => ?_)
    refine ok_ret ?_
    refine mt_then_r ?_
    exact meets_ret (v := (.bool true)) [] (dup []) (by as_aux_lemma => kernel_rfl) (by as_aux_lemma => kernel_rfl) (eqs_dup _) (fun _ hS => ⟨rfl, hS.below⟩)
  ·
    rw [hb1]
    refine ok_skip ?_
    refine mt_then ?_
    refine ok_seq_r (by as_aux_lemma => kernel_rfl) (groupSquares_w_r7 a ha hb1 ρ1 ρ3 ρ4 _) (fun _ => ?_)
    refine ok_ret ?_
    exact meets_ret (v := (.bool true)) [] (dup []) (by as_aux_lemma => kernel_rfl) (by as_aux_lemma => kernel_rfl) (eqs_dup _) (fun _ hS => ⟨rfl, hS.below⟩)
theorem groupSquares_walk (a : Nat) (w0 : World) (ha : a < M) : Calls Try.prog 4 #[(U a)] w0 (fun ε w' => ε = .returned (.bool true) ∧ Below w0.heap.size w0 w') := groupSquares_w a ha w0
end Go.Proofs.Ytkiijahkmgmnnaa
