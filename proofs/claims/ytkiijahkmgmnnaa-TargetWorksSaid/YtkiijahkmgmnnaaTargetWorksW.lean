/-
  The law TargetWorks: the walk.
-/
import Derived.Test.YtkiijahkmgmnnaaTSane
import Derived.Test.YtkiijahkmgmnnaaOpen
import Derived.Test.YtkiijahkmgmnnaaTargetLaws2
namespace Go.Proofs.Ytkiijahkmgmnnaa
open Go Go.RowKit
set_option maxRecDepth 100000
theorem targetWorks_w_r1 (t : Nat) (w0 : World) : Reg Try.prog 0 (regOps Try.f10 0) false 65 [(0, (U t))] w0 [] (fun _ => True)
    (fun ρ => [(1, (.pointer (some ⟨nb ρ 0, 0, none⟩))), (2, (.bool false))])
    (fun ρ => [(nb ρ 0, (.cells (cU t) 24 (0, 0)))]) := by
  refine reg_seq [0, 1] [1, 2] 2
    (fun ρ ι => ([(.pointer (some ⟨nb ρ 0, 0, none⟩)), (.bool false)] : List Value).getD ι undef)
    (fun ρ ι => ([{ news := [(nb ρ 0, (.cells (cU t) 24 (0, 0)))] }, {}] : List Eff).getD ι {})
    (by as_aux_lemma => kernel_rfl) (by as_aux_lemma => kernel_rfl) (fun _ => by as_aux_lemma => kernel_rfl) (fun _ => by as_aux_lemma => kernel_rfl) ⟨⟨trivial, ?_⟩, ?_⟩
  · exact o_run 0 [] [] (fun _ _ => []) (fun _ _ => by as_aux_lemma => kernel_rfl)
  · exact o_run 1 [] [] (fun _ _ => []) (fun _ _ => by as_aux_lemma => kernel_rfl)
theorem targetWorks_w_r2 (t : Nat) (ρ1 : Nat → Orc) (w0 : World) : Reg Try.prog 1 (regOps Try.f10 1) false 65 [(1, (.pointer (some ⟨nb ρ1 0, 0, none⟩))), (2, (.bool false))] w0 [(nb ρ1 0, (.cells (cU t) 24 (0, 0)))] (fun _ => True)
    (fun _ => [(1, (.pointer (some ⟨nb ρ1 0, 0, none⟩))), (2, (.bool false)), (10, (.bool false))])
    (fun _ => [(nb ρ1 0, (.cells (cU t) 24 (0, 0)))]) := by
  refine reg_seq [0, 1] [1, 2, 10] 2
    (fun _ ι => ([(.bool true), (.bool false)] : List Value).getD ι undef)
    (fun _ ι => ([{}, {}] : List Eff).getD ι {})
    (by as_aux_lemma => kernel_rfl) (by as_aux_lemma => kernel_rfl) (fun _ => by as_aux_lemma => kernel_rfl) (fun _ => by as_aux_lemma => kernel_rfl) ⟨⟨trivial, ?_⟩, ?_⟩
  · exact o_call 0 34 (fun _ => #[]) (fun _ => (.bool true)) (fun _ _ => by as_aux_lemma => kernel_rfl) (fun _ w => (fun w => tsane_any w) w)
  · exact o_run 1 [] [] (fun _ _ => []) (fun _ _ => by as_aux_lemma => kernel_rfl)
theorem targetWorks_w_r3 (t : Nat) (ht : t < M) (ρ1 : Nat → Orc) (w0 : World) : Reg Try.prog 3 (regOps Try.f10 3) false 65 [(1, (.pointer (some ⟨nb ρ1 0, 0, none⟩))), (2, (.bool false)), (10, (.bool false))] w0 [(nb ρ1 0, (.cells (cU t) 24 (0, 0)))] (fun _ => True)
    (fun ρ => [(1, (.pointer (some ⟨nb ρ1 0, 0, none⟩))), (2, (.bool false)), (3, (.pointer (some ⟨nb ρ 6, 0, none⟩))), (4, (.bool (decide (M ≤ t + 1))))])
    (fun ρ => [(nb ρ1 0, (.cells (cU t) 24 (0, 0))), (nb ρ 6, (.cells (cU ((t + 1) % M)) 24 (0, 0)))]) := by
  refine reg_seq [0, 1, 3, 7, 15, 31, 63, 127, 255] [1, 2, 3, 4] 9
    (fun ρ ι => ([(U t), (U 1), (.tuple #[(U ((t + 1) % M)), (.bool (decide (M ≤ t + 1)))]), (.tuple #[(U ((t + 1) % M)), (.bool (decide (M ≤ t + 1)))]), (U ((t + 1) % M)), (.bool (decide (M ≤ t + 1))), (.pointer (some ⟨nb ρ 6, 0, none⟩)), undef, (.bool (decide (M ≤ t + 1)))] : List Value).getD ι undef)
    (fun ρ ι => ([{}, {}, {}, {}, {}, {}, { news := [(nb ρ 6, (.cells (cU 0) 24 (0, 0)))] }, { puts := [(49, (.cells (cU ((t + 1) % M)) 24 (0, 0)))] }, {}] : List Eff).getD ι {})
    (by as_aux_lemma => kernel_rfl) (by as_aux_lemma => kernel_rfl) (fun _ => by as_aux_lemma => kernel_rfl) (fun _ => by as_aux_lemma => kernel_rfl) ⟨⟨⟨⟨⟨⟨⟨⟨⟨trivial, ?_⟩, ?_⟩, ?_⟩, ?_⟩, ?_⟩, ?_⟩, ?_⟩, ?_⟩, ?_⟩
  · exact o_run 0 [0] [] (fun _ _ => [nb ρ1 0, nb ρ1 0, nb ρ1 0, nb ρ1 0]) (fun _ _ => by as_aux_lemma => kernel_rfl)
  · exact o_run 1 [] [] (fun _ _ => []) (fun _ _ => by as_aux_lemma => kernel_rfl)
  · exact o_call 2 43 (fun _ => #[(U t), (U 1)]) (fun _ => (.tuple #[(U ((t + 1) % M)), (.bool (decide (M ≤ t + 1)))])) (fun _ _ => by as_aux_lemma => kernel_rfl) (fun _ w => (fun w => radd_any t 1 w ht (by decide +kernel)) w)
  · exact o_run 3 [] [] (fun _ _ => []) (fun _ _ => by as_aux_lemma => kernel_rfl)
  · exact o_run 4 [] [] (fun _ _ => []) (fun _ _ => by as_aux_lemma => kernel_rfl)
  · exact o_run 5 [] [] (fun _ _ => []) (fun _ _ => by as_aux_lemma => kernel_rfl)
  · exact o_run 6 [] [] (fun _ _ => []) (fun _ _ => by as_aux_lemma => kernel_rfl)
  · exact o_run 7 [49] [] (fun ρ _ => [nb ρ 6, nb ρ 6, nb ρ 6, nb ρ 6]) (fun _ _ => by as_aux_lemma => kernel_rfl)
  · exact o_run 8 [] [] (fun _ _ => []) (fun _ _ => by as_aux_lemma => kernel_rfl)
theorem targetWorks_w_r4 (t : Nat) (ht : t < M) (hb1 : (decide (t = 0)) = true) (ρ1 : Nat → Orc) (ρ3 : Nat → Orc) (w0 : World) : Reg Try.prog 4 (regOps Try.f10 4) false 65 [(1, (.pointer (some ⟨nb ρ1 0, 0, none⟩))), (2, (.bool false)), (3, (.pointer (some ⟨nb ρ3 6, 0, none⟩))), (4, (.bool (decide (M ≤ t + 1))))] w0 [(nb ρ1 0, (.cells (cU t) 24 (0, 0))), (nb ρ3 6, (.cells (cU ((t + 1) % M)) 24 (0, 0)))] (fun _ => True)
    (fun _ => [(1, (.pointer (some ⟨nb ρ1 0, 0, none⟩))), (2, (.bool false)), (3, (.pointer (some ⟨nb ρ3 6, 0, none⟩))), (4, (.bool (decide (M ≤ t + 1)))), (22, (.bool true))])
    (fun _ => [(nb ρ1 0, (.cells (cU t) 24 (0, 0))), (nb ρ3 6, (.cells (cU ((t + 1) % M)) 24 (0, 0)))]) := by
  refine reg_seq [0, 1, 3, 7, 15, 31] [1, 2, 3, 4, 22] 6
    (fun _ ι => ([(U t), (U 0), (.bool true), (.bool true), undef, (.bool true)] : List Value).getD ι undef)
    (fun _ ι => ([{}, {}, {}, {}, {}, {}] : List Eff).getD ι {})
    (by as_aux_lemma => kernel_rfl) (by as_aux_lemma => kernel_rfl) (fun _ => by as_aux_lemma => kernel_rfl) (fun _ => by as_aux_lemma => kernel_rfl) ⟨⟨⟨⟨⟨⟨trivial, ?_⟩, ?_⟩, ?_⟩, ?_⟩, ?_⟩, ?_⟩
  · exact o_run 0 [0] [] (fun _ _ => [nb ρ1 0, nb ρ1 0, nb ρ1 0, nb ρ1 0]) (fun _ _ => by as_aux_lemma => kernel_rfl)
  · exact o_run 1 [] [] (fun _ _ => []) (fun _ _ => by as_aux_lemma => kernel_rfl)
  · exact o_bin 2 .eql 24 (fun _ => (U t)) (fun _ => (U 0)) (fun _ => (.bool true)) (fun _ => by as_aux_lemma => kernel_rfl) (fun _ _ _ _ => by as_aux_lemma => kernel_rfl) (fun _ _ => (eqlU t 0 ht (by decide +kernel) _).trans (by rw [hb1]; try rfl))
  · exact o_run 3 [] [] (fun _ _ => []) (fun _ _ => by as_aux_lemma => kernel_rfl)
  · exact o_skip 4 (fun _ => by as_aux_lemma => kernel_rfl)
  · exact o_run 5 [] [] (fun _ _ => []) (fun _ _ => by as_aux_lemma => kernel_rfl)
theorem targetWorks_w_r5 (t : Nat) (ht : t < M) (hb1 : (decide (t = 0)) = true) (ρ1 : Nat → Orc) (ρ3 : Nat → Orc) (w0 : World) : Reg Try.prog 5 (regOps Try.f10 5) false 65 [(1, (.pointer (some ⟨nb ρ1 0, 0, none⟩))), (2, (.bool false)), (3, (.pointer (some ⟨nb ρ3 6, 0, none⟩))), (4, (.bool (decide (M ≤ t + 1)))), (22, (.bool true))] w0 [(nb ρ1 0, (.cells (cU t) 24 (0, 0))), (nb ρ3 6, (.cells (cU ((t + 1) % M)) 24 (0, 0)))] (fun _ => True)
    (fun _ => [(1, (.pointer (some ⟨nb ρ1 0, 0, none⟩))), (2, (.bool true)), (3, (.pointer (some ⟨nb ρ3 6, 0, none⟩)))])
    (fun _ => [(nb ρ1 0, (.cells (cU t) 24 (0, 0))), (nb ρ3 6, (.cells (cU ((t + 1) % M)) 24 (0, 0)))]) := by
  refine reg_seq [0, 1, 3, 7, 15, 31, 63, 127, 255, 511, 1023, 2047, 4095, 8191, 16383] [1, 2, 3] 15
    (fun _ ι => ([(U t), (U (workN t)), (U 0), (U (M - 1 - 0)), (.bool true), (.bool true), undef, undef, undef, undef, undef, undef, undef, (.bool true), (.bool true)] : List Value).getD ι undef)
    (fun _ ι => ([{}, {}, {}, {}, {}, {}, {}, {}, {}, {}, {}, {}, {}, {}, {}] : List Eff).getD ι {})
    (by as_aux_lemma => kernel_rfl) (by as_aux_lemma => kernel_rfl) (fun _ => by as_aux_lemma => kernel_rfl) (fun _ => by as_aux_lemma => kernel_rfl) ⟨⟨⟨⟨⟨⟨⟨⟨⟨⟨⟨⟨⟨⟨⟨trivial, ?_⟩, ?_⟩, ?_⟩, ?_⟩, ?_⟩, ?_⟩, ?_⟩, ?_⟩, ?_⟩, ?_⟩, ?_⟩, ?_⟩, ?_⟩, ?_⟩, ?_⟩
  · exact o_run 0 [0] [] (fun _ _ => [nb ρ1 0, nb ρ1 0, nb ρ1 0, nb ρ1 0]) (fun _ _ => by as_aux_lemma => kernel_rfl)
  · exact o_call 1 37 (fun _ => #[(U t)]) (fun _ => (U (workN t))) (fun _ _ => by as_aux_lemma => kernel_rfl) (fun _ w => (fun w => work_any t w ht) w)
  · exact o_run 2 [] [] (fun _ _ => []) (fun _ _ => by as_aux_lemma => kernel_rfl)
  · exact o_call 3 44 (fun _ => #[(U 0)]) (fun _ => (U (M - 1 - 0))) (fun _ _ => by as_aux_lemma => kernel_rfl) (fun _ w => (fun w => rnot_any 0 w (by decide +kernel)) w)
  · exact o_bin 4 .eql 24 (fun _ => (U (workN t))) (fun _ => (U (M - 1 - 0))) (fun _ => (.bool true)) (fun _ => by as_aux_lemma => kernel_rfl) (fun _ _ _ _ => by as_aux_lemma => kernel_rfl) (fun _ _ => (eqlU (workN t) (M - 1 - 0) (workN_lt t) (subM_lt _) _).trans (by rw [(decide_eq_true (work_0 hb1).symm)]; try rfl))
  · exact o_run 5 [] [] (fun _ _ => []) (fun _ _ => by as_aux_lemma => kernel_rfl)
  · exact o_skip 6 (fun _ => by as_aux_lemma => kernel_rfl)
  · exact o_skip 7 (fun _ => by as_aux_lemma => kernel_rfl)
  · exact o_skip 8 (fun _ => by as_aux_lemma => kernel_rfl)
  · exact o_skip 9 (fun _ => by as_aux_lemma => kernel_rfl)
  · exact o_skip 10 (fun _ => by as_aux_lemma => kernel_rfl)
  · exact o_skip 11 (fun _ => by as_aux_lemma => kernel_rfl)
  · exact o_skip 12 (fun _ => by as_aux_lemma => kernel_rfl)
  · exact o_run 13 [] [] (fun _ _ => []) (fun _ _ => by as_aux_lemma => kernel_rfl)
  · exact o_run 14 [] [] (fun _ _ => []) (fun _ _ => by as_aux_lemma => kernel_rfl)
theorem targetWorks_w_r6 (t : Nat) (ht : t < M) (hb1 : (decide (t = 0)) = false) (ρ1 : Nat → Orc) (ρ3 : Nat → Orc) (w0 : World) : Reg Try.prog 4 (regOps Try.f10 4) false 65 [(1, (.pointer (some ⟨nb ρ1 0, 0, none⟩))), (2, (.bool false)), (3, (.pointer (some ⟨nb ρ3 6, 0, none⟩))), (4, (.bool (decide (M ≤ t + 1))))] w0 [(nb ρ1 0, (.cells (cU t) 24 (0, 0))), (nb ρ3 6, (.cells (cU ((t + 1) % M)) 24 (0, 0)))] (fun _ => True)
    (fun _ => [(1, (.pointer (some ⟨nb ρ1 0, 0, none⟩))), (2, (.bool false)), (3, (.pointer (some ⟨nb ρ3 6, 0, none⟩))), (4, (.bool (decide (M ≤ t + 1)))), (22, (.bool (decide (M ≤ t + 1))))])
    (fun _ => [(nb ρ1 0, (.cells (cU t) 24 (0, 0))), (nb ρ3 6, (.cells (cU ((t + 1) % M)) 24 (0, 0)))]) := by
  refine reg_seq [0, 1, 3, 7, 15, 31] [1, 2, 3, 4, 22] 6
    (fun _ ι => ([(U t), (U 0), (.bool false), (.bool false), (.bool (decide (M ≤ t + 1))), (.bool (decide (M ≤ t + 1)))] : List Value).getD ι undef)
    (fun _ ι => ([{}, {}, {}, {}, {}, {}] : List Eff).getD ι {})
    (by as_aux_lemma => kernel_rfl) (by as_aux_lemma => kernel_rfl) (fun _ => by as_aux_lemma => kernel_rfl) (fun _ => by as_aux_lemma => kernel_rfl) ⟨⟨⟨⟨⟨⟨trivial, ?_⟩, ?_⟩, ?_⟩, ?_⟩, ?_⟩, ?_⟩
  · exact o_run 0 [0] [] (fun _ _ => [nb ρ1 0, nb ρ1 0, nb ρ1 0, nb ρ1 0]) (fun _ _ => by as_aux_lemma => kernel_rfl)
  · exact o_run 1 [] [] (fun _ _ => []) (fun _ _ => by as_aux_lemma => kernel_rfl)
  · exact o_bin 2 .eql 24 (fun _ => (U t)) (fun _ => (U 0)) (fun _ => (.bool false)) (fun _ => by as_aux_lemma => kernel_rfl) (fun _ _ _ _ => by as_aux_lemma => kernel_rfl) (fun _ _ => (eqlU t 0 ht (by decide +kernel) _).trans (by rw [hb1]; try rfl))
  · exact o_run 3 [] [] (fun _ _ => []) (fun _ _ => by as_aux_lemma => kernel_rfl)
  · exact o_run 4 [] [] (fun _ _ => []) (fun _ _ => by as_aux_lemma => kernel_rfl)
  · exact o_run 5 [] [] (fun _ _ => []) (fun _ _ => by as_aux_lemma => kernel_rfl)
theorem targetWorks_w_r7 (t : Nat) (ht : t < M) (hb3 : (decide (workN t = M - 1 - 0)) = true) (ρ1 : Nat → Orc) (ρ3 : Nat → Orc) (w0 : World) : Reg Try.prog 5 (regOps Try.f10 5) false 65 [(1, (.pointer (some ⟨nb ρ1 0, 0, none⟩))), (2, (.bool false)), (3, (.pointer (some ⟨nb ρ3 6, 0, none⟩))), (4, (.bool true)), (22, (.bool true))] w0 [(nb ρ1 0, (.cells (cU t) 24 (0, 0))), (nb ρ3 6, (.cells (cU ((t + 1) % M)) 24 (0, 0)))] (fun _ => True)
    (fun _ => [(1, (.pointer (some ⟨nb ρ1 0, 0, none⟩))), (2, (.bool true)), (3, (.pointer (some ⟨nb ρ3 6, 0, none⟩)))])
    (fun _ => [(nb ρ1 0, (.cells (cU t) 24 (0, 0))), (nb ρ3 6, (.cells (cU ((t + 1) % M)) 24 (0, 0)))]) := by
  refine reg_seq [0, 1, 3, 7, 15, 31, 63, 127, 255, 511, 1023, 2047, 4095, 8191, 16383] [1, 2, 3] 15
    (fun _ ι => ([(U t), (U (workN t)), (U 0), (U (M - 1 - 0)), (.bool true), (.bool true), undef, undef, undef, undef, undef, undef, undef, (.bool true), (.bool true)] : List Value).getD ι undef)
    (fun _ ι => ([{}, {}, {}, {}, {}, {}, {}, {}, {}, {}, {}, {}, {}, {}, {}] : List Eff).getD ι {})
    (by as_aux_lemma => kernel_rfl) (by as_aux_lemma => kernel_rfl) (fun _ => by as_aux_lemma => kernel_rfl) (fun _ => by as_aux_lemma => kernel_rfl) ⟨⟨⟨⟨⟨⟨⟨⟨⟨⟨⟨⟨⟨⟨⟨trivial, ?_⟩, ?_⟩, ?_⟩, ?_⟩, ?_⟩, ?_⟩, ?_⟩, ?_⟩, ?_⟩, ?_⟩, ?_⟩, ?_⟩, ?_⟩, ?_⟩, ?_⟩
  · exact o_run 0 [0] [] (fun _ _ => [nb ρ1 0, nb ρ1 0, nb ρ1 0, nb ρ1 0]) (fun _ _ => by as_aux_lemma => kernel_rfl)
  · exact o_call 1 37 (fun _ => #[(U t)]) (fun _ => (U (workN t))) (fun _ _ => by as_aux_lemma => kernel_rfl) (fun _ w => (fun w => work_any t w ht) w)
  · exact o_run 2 [] [] (fun _ _ => []) (fun _ _ => by as_aux_lemma => kernel_rfl)
  · exact o_call 3 44 (fun _ => #[(U 0)]) (fun _ => (U (M - 1 - 0))) (fun _ _ => by as_aux_lemma => kernel_rfl) (fun _ w => (fun w => rnot_any 0 w (by decide +kernel)) w)
  · exact o_bin 4 .eql 24 (fun _ => (U (workN t))) (fun _ => (U (M - 1 - 0))) (fun _ => (.bool true)) (fun _ => by as_aux_lemma => kernel_rfl) (fun _ _ _ _ => by as_aux_lemma => kernel_rfl) (fun _ _ => (eqlU (workN t) (M - 1 - 0) (workN_lt t) (subM_lt _) _).trans (by rw [hb3]; try rfl))
  · exact o_run 5 [] [] (fun _ _ => []) (fun _ _ => by as_aux_lemma => kernel_rfl)
  · exact o_skip 6 (fun _ => by as_aux_lemma => kernel_rfl)
  · exact o_skip 7 (fun _ => by as_aux_lemma => kernel_rfl)
  · exact o_skip 8 (fun _ => by as_aux_lemma => kernel_rfl)
  · exact o_skip 9 (fun _ => by as_aux_lemma => kernel_rfl)
  · exact o_skip 10 (fun _ => by as_aux_lemma => kernel_rfl)
  · exact o_skip 11 (fun _ => by as_aux_lemma => kernel_rfl)
  · exact o_skip 12 (fun _ => by as_aux_lemma => kernel_rfl)
  · exact o_run 13 [] [] (fun _ _ => []) (fun _ _ => by as_aux_lemma => kernel_rfl)
  · exact o_run 14 [] [] (fun _ _ => []) (fun _ _ => by as_aux_lemma => kernel_rfl)
theorem targetWorks_w_r8 (t : Nat) (ht : t < M) (hb1 : (decide (t = 0)) = false) (hb2 : (decide (M ≤ t + 1)) = true) (hb3 : (decide (workN t = M - 1 - 0)) = false) (ρ1 : Nat → Orc) (ρ3 : Nat → Orc) (w0 : World) : Reg Try.prog 5 (regOps Try.f10 5) false 65 [(1, (.pointer (some ⟨nb ρ1 0, 0, none⟩))), (2, (.bool false)), (3, (.pointer (some ⟨nb ρ3 6, 0, none⟩))), (4, (.bool true)), (22, (.bool true))] w0 [(nb ρ1 0, (.cells (cU t) 24 (0, 0))), (nb ρ3 6, (.cells (cU ((t + 1) % M)) 24 (0, 0)))] (fun _ => True)
    (fun _ => [(1, (.pointer (some ⟨nb ρ1 0, 0, none⟩))), (2, (.bool true)), (3, (.pointer (some ⟨nb ρ3 6, 0, none⟩)))])
    (fun _ => [(nb ρ1 0, (.cells (cU t) 24 (0, 0))), (nb ρ3 6, (.cells (cU ((t + 1) % M)) 24 (0, 0)))]) := by
  refine reg_seq [0, 1, 3, 7, 15, 31, 63, 127, 255, 511, 1023, 2047, 4095, 8191, 16383] [1, 2, 3] 15
    (fun _ ι => ([(U t), (U (workN t)), (U 0), (U (M - 1 - 0)), (.bool false), (.bool false), (.bool true), (.bool true), (U t), (U (workN t)), (U 1), (.bool true), (.bool true), (.bool true), (.bool true)] : List Value).getD ι undef)
    (fun _ ι => ([{}, {}, {}, {}, {}, {}, {}, {}, {}, {}, {}, {}, {}, {}, {}] : List Eff).getD ι {})
    (by as_aux_lemma => kernel_rfl) (by as_aux_lemma => kernel_rfl) (fun _ => by as_aux_lemma => kernel_rfl) (fun _ => by as_aux_lemma => kernel_rfl) ⟨⟨⟨⟨⟨⟨⟨⟨⟨⟨⟨⟨⟨⟨⟨trivial, ?_⟩, ?_⟩, ?_⟩, ?_⟩, ?_⟩, ?_⟩, ?_⟩, ?_⟩, ?_⟩, ?_⟩, ?_⟩, ?_⟩, ?_⟩, ?_⟩, ?_⟩
  · exact o_run 0 [0] [] (fun _ _ => [nb ρ1 0, nb ρ1 0, nb ρ1 0, nb ρ1 0]) (fun _ _ => by as_aux_lemma => kernel_rfl)
  · exact o_call 1 37 (fun _ => #[(U t)]) (fun _ => (U (workN t))) (fun _ _ => by as_aux_lemma => kernel_rfl) (fun _ w => (fun w => work_any t w ht) w)
  · exact o_run 2 [] [] (fun _ _ => []) (fun _ _ => by as_aux_lemma => kernel_rfl)
  · exact o_call 3 44 (fun _ => #[(U 0)]) (fun _ => (U (M - 1 - 0))) (fun _ _ => by as_aux_lemma => kernel_rfl) (fun _ w => (fun w => rnot_any 0 w (by decide +kernel)) w)
  · exact o_bin 4 .eql 24 (fun _ => (U (workN t))) (fun _ => (U (M - 1 - 0))) (fun _ => (.bool false)) (fun _ => by as_aux_lemma => kernel_rfl) (fun _ _ _ _ => by as_aux_lemma => kernel_rfl) (fun _ _ => (eqlU (workN t) (M - 1 - 0) (workN_lt t) (subM_lt _) _).trans (by rw [hb3]; try rfl))
  · exact o_run 5 [] [] (fun _ _ => []) (fun _ _ => by as_aux_lemma => kernel_rfl)
  · exact o_run 6 [] [] (fun _ _ => []) (fun _ _ => by as_aux_lemma => kernel_rfl)
  · exact o_run 7 [] [] (fun _ _ => []) (fun _ _ => by as_aux_lemma => kernel_rfl)
  · exact o_run 8 [0] [] (fun _ _ => [nb ρ1 0, nb ρ1 0, nb ρ1 0, nb ρ1 0]) (fun _ _ => by as_aux_lemma => kernel_rfl)
  · exact o_call 9 37 (fun _ => #[(U t)]) (fun _ => (U (workN t))) (fun _ _ => by as_aux_lemma => kernel_rfl) (fun _ w => (fun w => work_any t w ht) w)
  · exact o_run 10 [] [] (fun _ _ => []) (fun _ _ => by as_aux_lemma => kernel_rfl)
  · exact o_bin 11 .eql 24 (fun _ => (U (workN t))) (fun _ => (U 1)) (fun _ => (.bool true)) (fun _ => by as_aux_lemma => kernel_rfl) (fun _ _ _ _ => by as_aux_lemma => kernel_rfl) (fun _ _ => (eqlU (workN t) 1 (workN_lt t) (by decide +kernel) _).trans (by rw [(decide_eq_true (work_1 hb1 hb2).symm)]; try rfl))
  · exact o_run 12 [] [] (fun _ _ => []) (fun _ _ => by as_aux_lemma => kernel_rfl)
  · exact o_run 13 [] [] (fun _ _ => []) (fun _ _ => by as_aux_lemma => kernel_rfl)
  · exact o_run 14 [] [] (fun _ _ => []) (fun _ _ => by as_aux_lemma => kernel_rfl)
theorem targetWorks_w_r9 (t : Nat) (ht : t < M) (ρ1 : Nat → Orc) (ρ3 : Nat → Orc) (w0 : World) : Reg Try.prog 6 (regOps Try.f10 6) true 65 [(1, (.pointer (some ⟨nb ρ1 0, 0, none⟩))), (2, (.bool false)), (3, (.pointer (some ⟨nb ρ3 6, 0, none⟩))), (4, (.bool false)), (22, (.bool false))] w0 [(nb ρ1 0, (.cells (cU t) 24 (0, 0))), (nb ρ3 6, (.cells (cU ((t + 1) % M)) 24 (0, 0)))] (fun _ => True)
    (fun ρ => [(2, (.bool false)), (3, (.pointer (some ⟨nb ρ3 6, 0, none⟩))), (5, (.pointer (some ⟨nb ρ 7, 0, none⟩))), (6, (.pointer (some ⟨nb ρ 8, 0, none⟩)))])
    (fun ρ => [(nb ρ1 0, (.cells (cU t) 24 (0, 0))), (nb ρ3 6, (.cells (cU ((t + 1) % M)) 24 (0, 0))), (nb ρ 7, (.cells (cU (((workN t) * ((t + 1) % M)) / M)) 24 (0, 0))), (nb ρ 8, (.cells (cU (((workN t) * ((t + 1) % M)) % M)) 24 (0, 0)))]) := by
  refine reg_drawn [0, 1, 0, 7, 15, 31, 31, 0, 0, 447, 1023] [2, 3, 5, 6] 11
    (fun ρ ι => ([(U t), (U (workN t)), (U ((t + 1) % M)), (.tuple #[(U (((workN t) * ((t + 1) % M)) / M)), (U (((workN t) * ((t + 1) % M)) % M))]), (.tuple #[(U (((workN t) * ((t + 1) % M)) / M)), (U (((workN t) * ((t + 1) % M)) % M))]), (U (((workN t) * ((t + 1) % M)) / M)), (U (((workN t) * ((t + 1) % M)) % M)), (.pointer (some ⟨nb ρ 7, 0, none⟩)), (.pointer (some ⟨nb ρ 8, 0, none⟩)), undef, undef] : List Value).getD ι undef)
    (fun ρ ι => ([{}, {}, {}, {}, {}, {}, {}, { news := [(nb ρ 7, (.cells (cU 0) 24 (0, 0)))] }, { news := [(nb ρ 8, (.cells (cU 0) 24 (0, 0)))] }, { puts := [(58, (.cells (cU (((workN t) * ((t + 1) % M)) / M)) 24 (0, 0)))] }, { puts := [(66, (.cells (cU (((workN t) * ((t + 1) % M)) % M)) 24 (0, 0)))] }] : List Eff).getD ι {})
    (by as_aux_lemma => kernel_rfl) (by as_aux_lemma => kernel_rfl) (by as_aux_lemma => kernel_rfl) (fun _ => by as_aux_lemma => kernel_rfl) (fun _ => by as_aux_lemma => kernel_rfl) ⟨⟨⟨⟨⟨⟨⟨⟨⟨⟨⟨trivial, ?_⟩, ?_⟩, ?_⟩, ?_⟩, ?_⟩, ?_⟩, ?_⟩, ?_⟩, ?_⟩, ?_⟩, ?_⟩
  · exact o_run 0 [0] [] (fun _ _ => [nb ρ1 0, nb ρ1 0, nb ρ1 0, nb ρ1 0]) (fun _ _ => by as_aux_lemma => kernel_rfl)
  · exact o_call 1 37 (fun _ => #[(U t)]) (fun _ => (U (workN t))) (fun _ _ => by as_aux_lemma => kernel_rfl) (fun _ w => (fun w => work_any t w ht) w)
  · exact o_run 2 [1] [] (fun _ _ => [nb ρ3 6, nb ρ3 6, nb ρ3 6, nb ρ3 6]) (fun _ _ => by as_aux_lemma => kernel_rfl)
  · exact o_call 3 45 (fun _ => #[(U (workN t)), (U ((t + 1) % M))]) (fun _ => (.tuple #[(U (((workN t) * ((t + 1) % M)) / M)), (U (((workN t) * ((t + 1) % M)) % M))])) (fun _ _ => by as_aux_lemma => kernel_rfl) (fun _ w => (fun w => rmul_any (workN t) ((t + 1) % M) w (workN_lt t) (modM_lt _)) w)
  · exact o_run 4 [] [] (fun _ _ => []) (fun _ _ => by as_aux_lemma => kernel_rfl)
  · exact o_run 5 [] [] (fun _ _ => []) (fun _ _ => by as_aux_lemma => kernel_rfl)
  · exact o_run 6 [] [] (fun _ _ => []) (fun _ _ => by as_aux_lemma => kernel_rfl)
  · exact o_run 7 [] [] (fun _ _ => []) (fun _ _ => by as_aux_lemma => kernel_rfl)
  · exact o_run 8 [] [] (fun _ _ => []) (fun _ _ => by as_aux_lemma => kernel_rfl)
  · exact o_run 9 [58] [] (fun ρ _ => [nb ρ 7, nb ρ 7, nb ρ 7, nb ρ 7]) (fun _ _ => by as_aux_lemma => kernel_rfl)
  · exact o_run 10 [66] [] (fun ρ _ => [nb ρ 8, nb ρ 8, nb ρ 8, nb ρ 8]) (fun _ _ => by as_aux_lemma => kernel_rfl)
theorem targetWorks_w_r10 (t : Nat) (ρ1 : Nat → Orc) (ρ3 : Nat → Orc) (ρ9 : Nat → Orc) (w0 : World) : Reg Try.prog 7 (regOps Try.f10 7) false 65 [(2, (.bool false)), (3, (.pointer (some ⟨nb ρ3 6, 0, none⟩))), (5, (.pointer (some ⟨nb ρ9 7, 0, none⟩))), (6, (.pointer (some ⟨nb ρ9 8, 0, none⟩)))] w0 [(nb ρ1 0, (.cells (cU t) 24 (0, 0))), (nb ρ3 6, (.cells (cU ((t + 1) % M)) 24 (0, 0))), (nb ρ9 7, (.cells (cU (((workN t) * ((t + 1) % M)) / M)) 24 (0, 0))), (nb ρ9 8, (.cells (cU (((workN t) * ((t + 1) % M)) % M)) 24 (0, 0)))] (fun _ => True)
    (fun _ => [(2, (.bool false)), (3, (.pointer (some ⟨nb ρ3 6, 0, none⟩))), (5, (.pointer (some ⟨nb ρ9 7, 0, none⟩))), (6, (.pointer (some ⟨nb ρ9 8, 0, none⟩))), (46, (.bool (decide (((workN t) * ((t + 1) % M)) / M = 1))))])
    (fun _ => [(nb ρ1 0, (.cells (cU t) 24 (0, 0))), (nb ρ3 6, (.cells (cU ((t + 1) % M)) 24 (0, 0))), (nb ρ9 7, (.cells (cU (((workN t) * ((t + 1) % M)) / M)) 24 (0, 0))), (nb ρ9 8, (.cells (cU (((workN t) * ((t + 1) % M)) % M)) 24 (0, 0)))]) := by
  refine reg_seq [0, 1, 3] [2, 3, 5, 6, 46] 3
    (fun _ ι => ([(U (((workN t) * ((t + 1) % M)) / M)), (U 1), (.bool (decide (((workN t) * ((t + 1) % M)) / M = 1)))] : List Value).getD ι undef)
    (fun _ ι => ([{}, {}, {}] : List Eff).getD ι {})
    (by as_aux_lemma => kernel_rfl) (by as_aux_lemma => kernel_rfl) (fun _ => by as_aux_lemma => kernel_rfl) (fun _ => by as_aux_lemma => kernel_rfl) ⟨⟨⟨trivial, ?_⟩, ?_⟩, ?_⟩
  · exact o_run 0 [2] [] (fun _ _ => [nb ρ9 7, nb ρ9 7, nb ρ9 7, nb ρ9 7]) (fun _ _ => by as_aux_lemma => kernel_rfl)
  · exact o_run 1 [] [] (fun _ _ => []) (fun _ _ => by as_aux_lemma => kernel_rfl)
  · exact o_bin 2 .eql 24 (fun _ => (U (((workN t) * ((t + 1) % M)) / M))) (fun _ => (U 1)) (fun _ => (.bool (decide (((workN t) * ((t + 1) % M)) / M = 1)))) (fun _ => by as_aux_lemma => kernel_rfl) (fun _ _ _ _ => by as_aux_lemma => kernel_rfl) (fun _ _ => eqlU (((workN t) * ((t + 1) % M)) / M) 1 (mulhi_lt (workN_lt t) (modM_lt _)) (by decide +kernel) _)
theorem targetWorks_w_r11 (t : Nat) (hb1 : (decide (t = 0)) = false) (hb2 : (decide (M ≤ t + 1)) = false) (hb4 : (decide (((workN t) * ((t + 1) % M)) / M = 1)) = true) (ρ1 : Nat → Orc) (ρ3 : Nat → Orc) (ρ9 : Nat → Orc) (w0 : World) : Reg Try.prog 8 (regOps Try.f10 8) false 65 [(2, (.bool false)), (3, (.pointer (some ⟨nb ρ3 6, 0, none⟩))), (5, (.pointer (some ⟨nb ρ9 7, 0, none⟩))), (6, (.pointer (some ⟨nb ρ9 8, 0, none⟩))), (46, (.bool true))] w0 [(nb ρ1 0, (.cells (cU t) 24 (0, 0))), (nb ρ3 6, (.cells (cU ((t + 1) % M)) 24 (0, 0))), (nb ρ9 7, (.cells (cU (((workN t) * ((t + 1) % M)) / M)) 24 (0, 0))), (nb ρ9 8, (.cells (cU (((workN t) * ((t + 1) % M)) % M)) 24 (0, 0)))] (fun _ => True)
    (fun _ => [(2, (.bool true)), (3, (.pointer (some ⟨nb ρ3 6, 0, none⟩))), (5, (.pointer (some ⟨nb ρ9 7, 0, none⟩))), (6, (.pointer (some ⟨nb ρ9 8, 0, none⟩)))])
    (fun _ => [(nb ρ1 0, (.cells (cU t) 24 (0, 0))), (nb ρ3 6, (.cells (cU ((t + 1) % M)) 24 (0, 0))), (nb ρ9 7, (.cells (cU (((workN t) * ((t + 1) % M)) / M)) 24 (0, 0))), (nb ρ9 8, (.cells (cU (((workN t) * ((t + 1) % M)) % M)) 24 (0, 0)))]) := by
  refine reg_seq [0, 1, 3, 7] [2, 3, 5, 6] 4
    (fun _ ι => ([(U (((workN t) * ((t + 1) % M)) % M)), (U 0), (.bool true), (.bool true)] : List Value).getD ι undef)
    (fun _ ι => ([{}, {}, {}, {}] : List Eff).getD ι {})
    (by as_aux_lemma => kernel_rfl) (by as_aux_lemma => kernel_rfl) (fun _ => by as_aux_lemma => kernel_rfl) (fun _ => by as_aux_lemma => kernel_rfl) ⟨⟨⟨⟨trivial, ?_⟩, ?_⟩, ?_⟩, ?_⟩
  · exact o_run 0 [3] [] (fun _ _ => [nb ρ9 8, nb ρ9 8, nb ρ9 8, nb ρ9 8]) (fun _ _ => by as_aux_lemma => kernel_rfl)
  · exact o_run 1 [] [] (fun _ _ => []) (fun _ _ => by as_aux_lemma => kernel_rfl)
  · exact o_bin 2 .eql 24 (fun _ => (U (((workN t) * ((t + 1) % M)) % M))) (fun _ => (U 0)) (fun _ => (.bool true)) (fun _ => by as_aux_lemma => kernel_rfl) (fun _ _ _ _ => by as_aux_lemma => kernel_rfl) (fun _ _ => (eqlU (((workN t) * ((t + 1) % M)) % M) 0 (modM_lt _) (by decide +kernel) _).trans (by rw [(decide_eq_true (works_1 hb1 hb2 hb4))]; try rfl))
  · exact o_run 3 [] [] (fun _ _ => []) (fun _ _ => by as_aux_lemma => kernel_rfl)
theorem targetWorks_w_r12 (t : Nat) (ρ1 : Nat → Orc) (ρ3 : Nat → Orc) (ρ9 : Nat → Orc) (w0 : World) : Reg Try.prog 9 (regOps Try.f10 9) false 65 [(2, (.bool false)), (3, (.pointer (some ⟨nb ρ3 6, 0, none⟩))), (5, (.pointer (some ⟨nb ρ9 7, 0, none⟩))), (6, (.pointer (some ⟨nb ρ9 8, 0, none⟩))), (46, (.bool false))] w0 [(nb ρ1 0, (.cells (cU t) 24 (0, 0))), (nb ρ3 6, (.cells (cU ((t + 1) % M)) 24 (0, 0))), (nb ρ9 7, (.cells (cU (((workN t) * ((t + 1) % M)) / M)) 24 (0, 0))), (nb ρ9 8, (.cells (cU (((workN t) * ((t + 1) % M)) % M)) 24 (0, 0)))] (fun _ => True)
    (fun ρ => [(2, (.bool false)), (3, (.pointer (some ⟨nb ρ3 6, 0, none⟩))), (5, (.pointer (some ⟨nb ρ9 7, 0, none⟩))), (7, (.pointer (some ⟨nb ρ 6, 0, none⟩)))])
    (fun ρ => [(nb ρ1 0, (.cells (cU t) 24 (0, 0))), (nb ρ3 6, (.cells (cU ((t + 1) % M)) 24 (0, 0))), (nb ρ9 7, (.cells (cU (((workN t) * ((t + 1) % M)) / M)) 24 (0, 0))), (nb ρ9 8, (.cells (cU (((workN t) * ((t + 1) % M)) % M)) 24 (0, 0))), (nb ρ 6, (.cells (cU ((0 + M - (((workN t) * ((t + 1) % M)) % M)) % M)) 24 (0, 0)))]) := by
  refine reg_seq [0, 1, 3, 7, 15, 31, 63, 127, 255] [2, 3, 5, 7] 9
    (fun ρ ι => ([(U 0), (U (((workN t) * ((t + 1) % M)) % M)), (.tuple #[(U ((0 + M - (((workN t) * ((t + 1) % M)) % M)) % M)), (.bool (decide (0 < (((workN t) * ((t + 1) % M)) % M))))]), (.tuple #[(U ((0 + M - (((workN t) * ((t + 1) % M)) % M)) % M)), (.bool (decide (0 < (((workN t) * ((t + 1) % M)) % M))))]), (U ((0 + M - (((workN t) * ((t + 1) % M)) % M)) % M)), (.bool (decide (0 < (((workN t) * ((t + 1) % M)) % M)))), (.pointer (some ⟨nb ρ 6, 0, none⟩)), undef, (.bool (decide (0 < (((workN t) * ((t + 1) % M)) % M))))] : List Value).getD ι undef)
    (fun ρ ι => ([{}, {}, {}, {}, {}, {}, { news := [(nb ρ 6, (.cells (cU 0) 24 (0, 0)))] }, { puts := [(52, (.cells (cU ((0 + M - (((workN t) * ((t + 1) % M)) % M)) % M)) 24 (0, 0)))] }, {}] : List Eff).getD ι {})
    (by as_aux_lemma => kernel_rfl) (by as_aux_lemma => kernel_rfl) (fun _ => by as_aux_lemma => kernel_rfl) (fun _ => by as_aux_lemma => kernel_rfl) ⟨⟨⟨⟨⟨⟨⟨⟨⟨trivial, ?_⟩, ?_⟩, ?_⟩, ?_⟩, ?_⟩, ?_⟩, ?_⟩, ?_⟩, ?_⟩
  · exact o_run 0 [] [] (fun _ _ => []) (fun _ _ => by as_aux_lemma => kernel_rfl)
  · exact o_run 1 [3] [] (fun _ _ => [nb ρ9 8, nb ρ9 8, nb ρ9 8, nb ρ9 8]) (fun _ _ => by as_aux_lemma => kernel_rfl)
  · exact o_call 2 39 (fun _ => #[(U 0), (U (((workN t) * ((t + 1) % M)) % M))]) (fun _ => (.tuple #[(U ((0 + M - (((workN t) * ((t + 1) % M)) % M)) % M)), (.bool (decide (0 < (((workN t) * ((t + 1) % M)) % M))))])) (fun _ _ => by as_aux_lemma => kernel_rfl) (fun _ w => (fun w => rsub_any 0 (((workN t) * ((t + 1) % M)) % M) w (by decide +kernel) (modM_lt _)) w)
  · exact o_run 3 [] [] (fun _ _ => []) (fun _ _ => by as_aux_lemma => kernel_rfl)
  · exact o_run 4 [] [] (fun _ _ => []) (fun _ _ => by as_aux_lemma => kernel_rfl)
  · exact o_run 5 [] [] (fun _ _ => []) (fun _ _ => by as_aux_lemma => kernel_rfl)
  · exact o_run 6 [] [] (fun _ _ => []) (fun _ _ => by as_aux_lemma => kernel_rfl)
  · exact o_run 7 [52] [] (fun ρ _ => [nb ρ 6, nb ρ 6, nb ρ 6, nb ρ 6]) (fun _ _ => by as_aux_lemma => kernel_rfl)
  · exact o_run 8 [] [] (fun _ _ => []) (fun _ _ => by as_aux_lemma => kernel_rfl)
theorem targetWorks_w_r13 (t : Nat) (hb1 : (decide (t = 0)) = false) (hb2 : (decide (M ≤ t + 1)) = false) (hb4 : (decide (((workN t) * ((t + 1) % M)) / M = 1)) = false) (ρ1 : Nat → Orc) (ρ3 : Nat → Orc) (ρ9 : Nat → Orc) (ρ12 : Nat → Orc) (w0 : World) : Reg Try.prog 10 (regOps Try.f10 10) false 65 [(2, (.bool false)), (3, (.pointer (some ⟨nb ρ3 6, 0, none⟩))), (5, (.pointer (some ⟨nb ρ9 7, 0, none⟩))), (7, (.pointer (some ⟨nb ρ12 6, 0, none⟩)))] w0 [(nb ρ1 0, (.cells (cU t) 24 (0, 0))), (nb ρ3 6, (.cells (cU ((t + 1) % M)) 24 (0, 0))), (nb ρ9 7, (.cells (cU (((workN t) * ((t + 1) % M)) / M)) 24 (0, 0))), (nb ρ9 8, (.cells (cU (((workN t) * ((t + 1) % M)) % M)) 24 (0, 0))), (nb ρ12 6, (.cells (cU ((0 + M - (((workN t) * ((t + 1) % M)) % M)) % M)) 24 (0, 0)))] (fun _ => True)
    (fun _ => [(2, (.bool true))])
    (fun _ => [(nb ρ1 0, (.cells (cU t) 24 (0, 0))), (nb ρ3 6, (.cells (cU ((t + 1) % M)) 24 (0, 0))), (nb ρ9 7, (.cells (cU (((workN t) * ((t + 1) % M)) / M)) 24 (0, 0))), (nb ρ9 8, (.cells (cU (((workN t) * ((t + 1) % M)) % M)) 24 (0, 0))), (nb ρ12 6, (.cells (cU ((0 + M - (((workN t) * ((t + 1) % M)) % M)) % M)) 24 (0, 0)))]) := by
  refine reg_seq [0, 1, 3, 7, 15, 31, 63, 127, 255, 511] [2] 10
    (fun _ ι => ([(U (((workN t) * ((t + 1) % M)) / M)), (U 0), (.bool true), (.bool true), (U ((0 + M - (((workN t) * ((t + 1) % M)) % M)) % M)), (U ((t + 1) % M)), (.int .i64 (cmpN ((0 + M - (((workN t) * ((t + 1) % M)) % M)) % M) ((t + 1) % M))), (.bool true), (.bool true), (.bool true)] : List Value).getD ι undef)
    (fun _ ι => ([{}, {}, {}, {}, {}, {}, {}, {}, {}, {}] : List Eff).getD ι {})
    (by as_aux_lemma => kernel_rfl) (by as_aux_lemma => kernel_rfl) (fun _ => by as_aux_lemma => kernel_rfl) (fun _ => by as_aux_lemma => kernel_rfl) ⟨⟨⟨⟨⟨⟨⟨⟨⟨⟨trivial, ?_⟩, ?_⟩, ?_⟩, ?_⟩, ?_⟩, ?_⟩, ?_⟩, ?_⟩, ?_⟩, ?_⟩
  · exact o_run 0 [2] [] (fun _ _ => [nb ρ9 7, nb ρ9 7, nb ρ9 7, nb ρ9 7]) (fun _ _ => by as_aux_lemma => kernel_rfl)
  · exact o_run 1 [] [] (fun _ _ => []) (fun _ _ => by as_aux_lemma => kernel_rfl)
  · exact o_bin 2 .eql 24 (fun _ => (U (((workN t) * ((t + 1) % M)) / M))) (fun _ => (U 0)) (fun _ => (.bool true)) (fun _ => by as_aux_lemma => kernel_rfl) (fun _ _ _ _ => by as_aux_lemma => kernel_rfl) (fun _ _ => (eqlU (((workN t) * ((t + 1) % M)) / M) 0 (mulhi_lt (workN_lt t) (modM_lt _)) (by decide +kernel) _).trans (by rw [(decide_eq_true (works_2 hb1 hb2 hb4))]; try rfl))
  · exact o_run 3 [] [] (fun _ _ => []) (fun _ _ => by as_aux_lemma => kernel_rfl)
  · exact o_run 4 [4] [] (fun _ _ => [nb ρ12 6, nb ρ12 6, nb ρ12 6, nb ρ12 6]) (fun _ _ => by as_aux_lemma => kernel_rfl)
  · exact o_run 5 [1] [] (fun _ _ => [nb ρ3 6, nb ρ3 6, nb ρ3 6, nb ρ3 6]) (fun _ _ => by as_aux_lemma => kernel_rfl)
  · exact o_call 6 40 (fun _ => #[(U ((0 + M - (((workN t) * ((t + 1) % M)) % M)) % M)), (U ((t + 1) % M))]) (fun _ => (.int .i64 (cmpN ((0 + M - (((workN t) * ((t + 1) % M)) % M)) % M) ((t + 1) % M)))) (fun _ _ => by as_aux_lemma => kernel_rfl) (fun _ w => (fun w => rcmp_any ((0 + M - (((workN t) * ((t + 1) % M)) % M)) % M) ((t + 1) % M) w (modM_lt _) (modM_lt _)) w)
  · exact o_as 7 (fun _ => (.bool (decide ((cmpN ((0 + M - (((workN t) * ((t + 1) % M)) % M)) % M) ((t + 1) % M)) < 0)))) (fun _ => (.bool true)) (fun _ _ => by as_aux_lemma => kernel_rfl) (fun _ => congrArg Value.bool (decide_eq_true (works_3 hb1 hb2 hb4)))
  · exact o_run 8 [] [] (fun _ _ => []) (fun _ _ => by as_aux_lemma => kernel_rfl)
  · exact o_run 9 [] [] (fun _ _ => []) (fun _ _ => by as_aux_lemma => kernel_rfl)
theorem targetWorks_w (t : Nat) (ht : t < M) (w0 : World) : Calls Try.prog 10 #[(U t)] w0 (fun ε w' => ε = .returned (.bool true) ∧ Below w0.heap.size w0 w') := by
  refine Calls.of_ok (n := 65) (F := fun _ => True) Try.func10 rfl rfl rfl (by simp) (persTrue (fun _ => trivial)) ?_
  refine ok_seq_r (by as_aux_lemma => kernel_rfl) (targetWorks_w_r1 t _) (fun ρ1 => ?_)
  refine ok_seq ?_
  refine ok_seq_r (by as_aux_lemma => kernel_rfl) (targetWorks_w_r2 t ρ1 _) (fun _ => ?_)
  refine ok_no (by as_aux_lemma => kernel_rfl) ?_
  refine ok_skip ?_
  refine mt_then ?_
  refine ok_seq_r (by as_aux_lemma => kernel_rfl) (targetWorks_w_r3 t ht ρ1 _) (fun ρ3 => ?_)
  refine ok_seq ?_
  rcases Bool.eq_false_or_eq_true (decide (t = 0)) with hb1 | hb1
  ·
    refine ok_seq_r (by as_aux_lemma => kernel_rfl) (targetWorks_w_r4 t ht hb1 ρ1 ρ3 _) (fun _ => ?_)
    refine ok_yes (by as_aux_lemma => kernel_rfl) ?_
    refine ok_seq_r (by as_aux_lemma => kernel_rfl) (targetWorks_w_r5 t ht hb1 ρ1 ρ3 _) (fun _ => ?_)
    refine ok_ret ?_
    refine mt_then_r ?_
    exact meets_ret (v := (.bool true)) [] (dup []) (by as_aux_lemma => kernel_rfl) (by as_aux_lemma => kernel_rfl) (eqs_dup _) (fun _ hS => ⟨rfl, hS.below⟩)
  ·
    refine ok_seq_r (by as_aux_lemma => kernel_rfl) (targetWorks_w_r6 t ht hb1 ρ1 ρ3 _) (fun _ => ?_)
    refine ok_cond (b := decide (M ≤ t + 1)) (by as_aux_lemma => kernel_rfl) (fun hb2 => ?_) (fun hb2 => ?_)
    ·
      rw [hb2]
      rcases Bool.eq_false_or_eq_true (decide (workN t = M - 1 - 0)) with hb3 | hb3
      ·
        refine ok_seq_r (by as_aux_lemma => kernel_rfl) (targetWorks_w_r7 t ht hb3 ρ1 ρ3 _) (fun _ => ?_)
        refine ok_ret ?_
        refine mt_then_r ?_
        exact meets_ret (v := (.bool true)) [] (dup []) (by as_aux_lemma => kernel_rfl) (by as_aux_lemma => kernel_rfl) (eqs_dup _) (fun _ hS => ⟨rfl, hS.below⟩)
      ·
        refine ok_seq_r (by as_aux_lemma => kernel_rfl) (targetWorks_w_r8 t ht hb1 hb2 hb3 ρ1 ρ3 _) (fun _ => ?_)
        refine ok_ret ?_
        refine mt_then_r ?_
        exact meets_ret (v := (.bool true)) [] (dup []) (by as_aux_lemma => kernel_rfl) (by as_aux_lemma => kernel_rfl) (eqs_dup _) (fun _ hS => ⟨rfl, hS.below⟩)
    ·
      rw [hb2]
      refine ok_skip ?_
      refine mt_then ?_
      refine ok_seq_r (by as_aux_lemma => kernel_rfl) (targetWorks_w_r9 t ht ρ1 ρ3 _) (fun ρ9 => ?_)
      refine ok_seq ?_
      refine ok_seq_r (by as_aux_lemma => kernel_rfl) (targetWorks_w_r10 t ρ1 ρ3 ρ9 _) (fun _ => ?_)
      refine ok_cond (b := decide (((workN t) * ((t + 1) % M)) / M = 1)) (by as_aux_lemma => kernel_rfl) (fun hb4 => ?_) (fun hb4 => ?_)
      ·
        rw [hb4]
        refine ok_seq_r (by as_aux_lemma => kernel_rfl) (targetWorks_w_r11 t hb1 hb2 hb4 ρ1 ρ3 ρ9 _) (fun _ => ?_)
        refine ok_ret ?_
        refine mt_then_r ?_
        exact meets_ret (v := (.bool true)) [] (dup []) (by as_aux_lemma => kernel_rfl) (by as_aux_lemma => kernel_rfl) (eqs_dup _) (fun _ hS => ⟨rfl, hS.below⟩)
      ·
        rw [hb4]
        refine ok_skip ?_
        refine mt_then ?_
        refine ok_seq_r (by as_aux_lemma => kernel_rfl) (targetWorks_w_r12 t ρ1 ρ3 ρ9 _) (fun ρ12 => ?_)
        refine ok_seq_r (by as_aux_lemma => kernel_rfl) (targetWorks_w_r13 t hb1 hb2 hb4 ρ1 ρ3 ρ9 ρ12 _) (fun _ => ?_)
        refine ok_ret ?_
        exact meets_ret (v := (.bool true)) [] (dup []) (by as_aux_lemma => kernel_rfl) (by as_aux_lemma => kernel_rfl) (eqs_dup _) (fun _ hS => ⟨rfl, hS.below⟩)
theorem targetWorks_walk (t : Nat) (w0 : World) (ht : t < M) : Calls Try.prog 10 #[(U t)] w0 (fun ε w' => ε = .returned (.bool true) ∧ Below w0.heap.size w0 w') := by
  exact targetWorks_w t ht w0
end Go.Proofs.Ytkiijahkmgmnnaa
