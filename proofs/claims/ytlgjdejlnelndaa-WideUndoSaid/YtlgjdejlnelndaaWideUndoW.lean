/-
  The law WideUndo: the walk.
-/
import Derived.Test.YtlgjdejlnelndaaWMul
import Derived.Test.YtlgjdejlnelndaaWShift
import Derived.Test.YtlgjdejlnelndaaUndoNum
import Derived.Test.YtlgjdejlnelndaaSane
import Derived.Test.YtlgjdejlnelndaaOpen
namespace Go.Proofs.Ytlgjdejlnelndaa
open Go Go.RowKit
set_option maxRecDepth 100000
theorem undo_pos_r1 (a : Nat) (b : Nat) (c : Nat) (n : Int) (w0 : World) : Reg Try.prog 0 (regOps Try.f9 0) false 140 [(0, (U a)), (1, (U b)), (2, (U c)), (3, (.int .u8 n))] w0 [] (fun _ => True)
    (fun ρ => [(3, (.int .u8 n)), (4, (.pointer (some ⟨nb ρ 0, 0, none⟩))), (5, (.pointer (some ⟨nb ρ 1, 0, none⟩))), (6, (.pointer (some ⟨nb ρ 2, 0, none⟩))), (8, (.bool false))])
    (fun ρ => [(nb ρ 0, (.cells (cU a) 24 (0, 0))), (nb ρ 1, (.cells (cU b) 24 (0, 0))), (nb ρ 2, (.cells (cU c) 24 (0, 0)))]) := by
  refine reg_seq [0, 1, 3, 7] [3, 4, 5, 6, 8] 4
    (fun ρ ι => ([(.pointer (some ⟨nb ρ 0, 0, none⟩)), (.pointer (some ⟨nb ρ 1, 0, none⟩)), (.pointer (some ⟨nb ρ 2, 0, none⟩)), (.bool false)] : List Value).getD ι undef)
    (fun ρ ι => ([{ news := [(nb ρ 0, (.cells (cU a) 24 (0, 0)))] }, { news := [(nb ρ 1, (.cells (cU b) 24 (0, 0)))] }, { news := [(nb ρ 2, (.cells (cU c) 24 (0, 0)))] }, {}] : List Eff).getD ι {})
    (by as_aux_lemma => kernel_rfl) (by as_aux_lemma => kernel_rfl) (fun _ => by as_aux_lemma => kernel_rfl) (fun _ => by as_aux_lemma => kernel_rfl) ⟨⟨⟨⟨trivial, ?_⟩, ?_⟩, ?_⟩, ?_⟩
  · exact o_run 0 [] [] (fun _ _ => []) (fun _ _ => by as_aux_lemma => kernel_rfl)
  · exact o_run 1 [] [] (fun _ _ => []) (fun _ _ => by as_aux_lemma => kernel_rfl)
  · exact o_run 2 [] [] (fun _ _ => []) (fun _ _ => by as_aux_lemma => kernel_rfl)
  · exact o_run 3 [] [] (fun _ _ => []) (fun _ _ => by as_aux_lemma => kernel_rfl)
theorem undo_pos_r2 (a : Nat) (b : Nat) (c : Nat) (n : Int) (ha : a < M) (hb : b < M) (ρ1 : Nat → Orc) (w0 : World) : Reg Try.prog 1 (regOps Try.f9 1) false 140 [(3, (.int .u8 n)), (4, (.pointer (some ⟨nb ρ1 0, 0, none⟩))), (5, (.pointer (some ⟨nb ρ1 1, 0, none⟩))), (6, (.pointer (some ⟨nb ρ1 2, 0, none⟩))), (8, (.bool false))] w0 [(nb ρ1 0, (.cells (cU a) 24 (0, 0))), (nb ρ1 1, (.cells (cU b) 24 (0, 0))), (nb ρ1 2, (.cells (cU c) 24 (0, 0)))] (fun _ => True)
    (fun ρ => [(3, (.int .u8 n)), (4, (.pointer (some ⟨nb ρ1 0, 0, none⟩))), (5, (.pointer (some ⟨nb ρ1 1, 0, none⟩))), (6, (.pointer (some ⟨nb ρ1 2, 0, none⟩))), (8, (.bool false)), (9, (.pointer (some ⟨nb ρ 6, 0, none⟩))), (10, (.bool (decide (M ≤ a + b))))])
    (fun ρ => [(nb ρ1 0, (.cells (cU a) 24 (0, 0))), (nb ρ1 1, (.cells (cU b) 24 (0, 0))), (nb ρ1 2, (.cells (cU c) 24 (0, 0))), (nb ρ 6, (.cells (cU ((a + b) % M)) 24 (0, 0)))]) := by
  refine reg_seq [0, 1, 3, 7, 15, 31, 63, 127, 255] [3, 4, 5, 6, 8, 9, 10] 9
    (fun ρ ι => ([(U a), (U b), (.tuple #[(U ((a + b) % M)), (.bool (decide (M ≤ a + b)))]), (.tuple #[(U ((a + b) % M)), (.bool (decide (M ≤ a + b)))]), (U ((a + b) % M)), (.bool (decide (M ≤ a + b))), (.pointer (some ⟨nb ρ 6, 0, none⟩)), undef, (.bool (decide (M ≤ a + b)))] : List Value).getD ι undef)
    (fun ρ ι => ([{}, {}, {}, {}, {}, {}, { news := [(nb ρ 6, (.cells (cU 0) 24 (0, 0)))] }, { puts := [(51, (.cells (cU ((a + b) % M)) 24 (0, 0)))] }, {}] : List Eff).getD ι {})
    (by as_aux_lemma => kernel_rfl) (by as_aux_lemma => kernel_rfl) (fun _ => by as_aux_lemma => kernel_rfl) (fun _ => by as_aux_lemma => kernel_rfl) ⟨⟨⟨⟨⟨⟨⟨⟨⟨trivial, ?_⟩, ?_⟩, ?_⟩, ?_⟩, ?_⟩, ?_⟩, ?_⟩, ?_⟩, ?_⟩
  · exact o_run 0 [0] [] (fun _ _ => [nb ρ1 0, nb ρ1 0, nb ρ1 0, nb ρ1 0]) (fun _ _ => by as_aux_lemma => kernel_rfl)
  · exact o_run 1 [1] [] (fun _ _ => [nb ρ1 1, nb ρ1 1, nb ρ1 1, nb ρ1 1]) (fun _ _ => by as_aux_lemma => kernel_rfl)
  · exact o_call 2 32 (fun _ => #[(U a), (U b)]) (fun _ => (.tuple #[(U ((a + b) % M)), (.bool (decide (M ≤ a + b)))])) (fun _ _ => by as_aux_lemma => kernel_rfl) (fun _ w => (fun w => add_any a b w ha hb) w)
  · exact o_run 3 [] [] (fun _ _ => []) (fun _ _ => by as_aux_lemma => kernel_rfl)
  · exact o_run 4 [] [] (fun _ _ => []) (fun _ _ => by as_aux_lemma => kernel_rfl)
  · exact o_run 5 [] [] (fun _ _ => []) (fun _ _ => by as_aux_lemma => kernel_rfl)
  · exact o_run 6 [] [] (fun _ _ => []) (fun _ _ => by as_aux_lemma => kernel_rfl)
  · exact o_run 7 [51] [] (fun ρ _ => [nb ρ 6, nb ρ 6, nb ρ 6, nb ρ 6]) (fun _ _ => by as_aux_lemma => kernel_rfl)
  · exact o_run 8 [] [] (fun _ _ => []) (fun _ _ => by as_aux_lemma => kernel_rfl)
theorem undo_pos_r3 (a : Nat) (b : Nat) (c : Nat) (n : Int) (hb : b < M) (ρ1 : Nat → Orc) (ρ2 : Nat → Orc) (w0 : World) : Reg Try.prog 2 (regOps Try.f9 2) false 140 [(3, (.int .u8 n)), (4, (.pointer (some ⟨nb ρ1 0, 0, none⟩))), (5, (.pointer (some ⟨nb ρ1 1, 0, none⟩))), (6, (.pointer (some ⟨nb ρ1 2, 0, none⟩))), (8, (.bool false)), (9, (.pointer (some ⟨nb ρ2 6, 0, none⟩))), (10, (.bool (decide (M ≤ a + b))))] w0 [(nb ρ1 0, (.cells (cU a) 24 (0, 0))), (nb ρ1 1, (.cells (cU b) 24 (0, 0))), (nb ρ1 2, (.cells (cU c) 24 (0, 0))), (nb ρ2 6, (.cells (cU ((a + b) % M)) 24 (0, 0)))] (fun _ => True)
    (fun ρ => [(3, (.int .u8 n)), (4, (.pointer (some ⟨nb ρ1 0, 0, none⟩))), (5, (.pointer (some ⟨nb ρ1 1, 0, none⟩))), (6, (.pointer (some ⟨nb ρ1 2, 0, none⟩))), (8, (.bool false)), (10, (.bool (decide (M ≤ a + b)))), (11, (.pointer (some ⟨nb ρ 6, 0, none⟩))), (12, (.bool (decide (((a + b) % M) < b))))])
    (fun ρ => [(nb ρ1 0, (.cells (cU a) 24 (0, 0))), (nb ρ1 1, (.cells (cU b) 24 (0, 0))), (nb ρ1 2, (.cells (cU c) 24 (0, 0))), (nb ρ2 6, (.cells (cU ((a + b) % M)) 24 (0, 0))), (nb ρ 6, (.cells (cU ((((a + b) % M) + M - b) % M)) 24 (0, 0)))]) := by
  refine reg_seq [0, 1, 3, 7, 15, 31, 63, 127, 255] [3, 4, 5, 6, 8, 10, 11, 12] 9
    (fun ρ ι => ([(U ((a + b) % M)), (U b), (.tuple #[(U ((((a + b) % M) + M - b) % M)), (.bool (decide (((a + b) % M) < b)))]), (.tuple #[(U ((((a + b) % M) + M - b) % M)), (.bool (decide (((a + b) % M) < b)))]), (U ((((a + b) % M) + M - b) % M)), (.bool (decide (((a + b) % M) < b))), (.pointer (some ⟨nb ρ 6, 0, none⟩)), undef, (.bool (decide (((a + b) % M) < b)))] : List Value).getD ι undef)
    (fun ρ ι => ([{}, {}, {}, {}, {}, {}, { news := [(nb ρ 6, (.cells (cU 0) 24 (0, 0)))] }, { puts := [(52, (.cells (cU ((((a + b) % M) + M - b) % M)) 24 (0, 0)))] }, {}] : List Eff).getD ι {})
    (by as_aux_lemma => kernel_rfl) (by as_aux_lemma => kernel_rfl) (fun _ => by as_aux_lemma => kernel_rfl) (fun _ => by as_aux_lemma => kernel_rfl) ⟨⟨⟨⟨⟨⟨⟨⟨⟨trivial, ?_⟩, ?_⟩, ?_⟩, ?_⟩, ?_⟩, ?_⟩, ?_⟩, ?_⟩, ?_⟩
  · exact o_run 0 [3] [] (fun _ _ => [nb ρ2 6, nb ρ2 6, nb ρ2 6, nb ρ2 6]) (fun _ _ => by as_aux_lemma => kernel_rfl)
  · exact o_run 1 [1] [] (fun _ _ => [nb ρ1 1, nb ρ1 1, nb ρ1 1, nb ρ1 1]) (fun _ _ => by as_aux_lemma => kernel_rfl)
  · exact o_call 2 15 (fun _ => #[(U ((a + b) % M)), (U b)]) (fun _ => (.tuple #[(U ((((a + b) % M) + M - b) % M)), (.bool (decide (((a + b) % M) < b)))])) (fun _ _ => by as_aux_lemma => kernel_rfl) (fun _ w => (fun w => sub_any ((a + b) % M) b w (modM_lt _) hb) w)
  · exact o_run 3 [] [] (fun _ _ => []) (fun _ _ => by as_aux_lemma => kernel_rfl)
  · exact o_run 4 [] [] (fun _ _ => []) (fun _ _ => by as_aux_lemma => kernel_rfl)
  · exact o_run 5 [] [] (fun _ _ => []) (fun _ _ => by as_aux_lemma => kernel_rfl)
  · exact o_run 6 [] [] (fun _ _ => []) (fun _ _ => by as_aux_lemma => kernel_rfl)
  · exact o_run 7 [52] [] (fun ρ _ => [nb ρ 6, nb ρ 6, nb ρ 6, nb ρ 6]) (fun _ _ => by as_aux_lemma => kernel_rfl)
  · exact o_run 8 [] [] (fun _ _ => []) (fun _ _ => by as_aux_lemma => kernel_rfl)
theorem undo_pos_r4 (a : Nat) (b : Nat) (c : Nat) (n : Int) (ha : a < M) (hk0 : (decide ((((a + b) % M) + M - b) % M = a)) = true) (hk1 : ((decide (M ≤ a + b)) != (decide (((a + b) % M) < b))) = false) (ρ1 : Nat → Orc) (ρ2 : Nat → Orc) (ρ3 : Nat → Orc) (w0 : World) : Reg Try.prog 3 (regOps Try.f9 3) false 140 [(3, (.int .u8 n)), (4, (.pointer (some ⟨nb ρ1 0, 0, none⟩))), (5, (.pointer (some ⟨nb ρ1 1, 0, none⟩))), (6, (.pointer (some ⟨nb ρ1 2, 0, none⟩))), (8, (.bool false)), (10, (.bool (decide (M ≤ a + b)))), (11, (.pointer (some ⟨nb ρ3 6, 0, none⟩))), (12, (.bool (decide (((a + b) % M) < b))))] w0 [(nb ρ1 0, (.cells (cU a) 24 (0, 0))), (nb ρ1 1, (.cells (cU b) 24 (0, 0))), (nb ρ1 2, (.cells (cU c) 24 (0, 0))), (nb ρ2 6, (.cells (cU ((a + b) % M)) 24 (0, 0))), (nb ρ3 6, (.cells (cU ((((a + b) % M) + M - b) % M)) 24 (0, 0)))] (fun _ => True)
    (fun _ => [(3, (.int .u8 n)), (4, (.pointer (some ⟨nb ρ1 0, 0, none⟩))), (5, (.pointer (some ⟨nb ρ1 1, 0, none⟩))), (6, (.pointer (some ⟨nb ρ1 2, 0, none⟩))), (8, (.bool false)), (49, (.bool false))])
    (fun _ => [(nb ρ1 0, (.cells (cU a) 24 (0, 0))), (nb ρ1 1, (.cells (cU b) 24 (0, 0))), (nb ρ1 2, (.cells (cU c) 24 (0, 0))), (nb ρ2 6, (.cells (cU ((a + b) % M)) 24 (0, 0))), (nb ρ3 6, (.cells (cU ((((a + b) % M) + M - b) % M)) 24 (0, 0)))]) := by
  refine reg_seq [0, 1, 3, 7, 15, 31, 63, 127, 255, 511, 1023, 2047] [3, 4, 5, 6, 8, 49] 12
    (fun _ ι => ([(.bool true), (.bool false), (.bool false), (U ((((a + b) % M) + M - b) % M)), (U a), (.bool false), (.bool false), (.bool false), (.bool (decide (M ≤ a + b))), (.bool (decide (((a + b) % M) < b))), (.bool false), (.bool false)] : List Value).getD ι undef)
    (fun _ ι => ([{}, {}, {}, {}, {}, {}, {}, {}, {}, {}, {}, {}] : List Eff).getD ι {})
    (by as_aux_lemma => kernel_rfl) (by as_aux_lemma => kernel_rfl) (fun _ => by as_aux_lemma => kernel_rfl) (fun _ => by as_aux_lemma => kernel_rfl) ⟨⟨⟨⟨⟨⟨⟨⟨⟨⟨⟨⟨trivial, ?_⟩, ?_⟩, ?_⟩, ?_⟩, ?_⟩, ?_⟩, ?_⟩, ?_⟩, ?_⟩, ?_⟩, ?_⟩, ?_⟩
  · exact o_call 0 17 (fun _ => #[]) (fun _ => (.bool true)) (fun _ _ => by as_aux_lemma => kernel_rfl) (fun _ w => (fun w => sane_any w) w)
  · exact o_run 1 [] [] (fun _ _ => []) (fun _ _ => by as_aux_lemma => kernel_rfl)
  · exact o_run 2 [] [] (fun _ _ => []) (fun _ _ => by as_aux_lemma => kernel_rfl)
  · exact o_run 3 [4] [] (fun _ _ => [nb ρ3 6, nb ρ3 6, nb ρ3 6, nb ρ3 6]) (fun _ _ => by as_aux_lemma => kernel_rfl)
  · exact o_run 4 [0] [] (fun _ _ => [nb ρ1 0, nb ρ1 0, nb ρ1 0, nb ρ1 0]) (fun _ _ => by as_aux_lemma => kernel_rfl)
  · exact o_bin 5 .neq 24 (fun _ => (U ((((a + b) % M) + M - b) % M))) (fun _ => (U a)) (fun _ => (.bool false)) (fun _ => by as_aux_lemma => kernel_rfl) (fun _ _ _ _ => by as_aux_lemma => kernel_rfl) (fun _ _ => (neqU ((((a + b) % M) + M - b) % M) a (modM_lt _) ha _).trans (by rw [hk0]; try rfl))
  · exact o_run 6 [] [] (fun _ _ => []) (fun _ _ => by as_aux_lemma => kernel_rfl)
  · exact o_run 7 [] [] (fun _ _ => []) (fun _ _ => by as_aux_lemma => kernel_rfl)
  · exact o_run 8 [] [] (fun _ _ => []) (fun _ _ => by as_aux_lemma => kernel_rfl)
  · exact o_run 9 [] [] (fun _ _ => []) (fun _ _ => by as_aux_lemma => kernel_rfl)
  · exact o_as 10 (fun _ => (.bool ((decide (M ≤ a + b)) != (decide (((a + b) % M) < b))))) (fun _ => (.bool false)) (fun _ _ => by as_aux_lemma => kernel_rfl) (fun _ => congrArg Value.bool hk1)
  · exact o_run 11 [] [] (fun _ _ => []) (fun _ _ => by as_aux_lemma => kernel_rfl)
theorem undo_pos_r5 (a : Nat) (b : Nat) (c : Nat) (n : Int) (ha : a < M) (hb : b < M) (ρ1 : Nat → Orc) (ρ2 : Nat → Orc) (ρ3 : Nat → Orc) (w0 : World) : Reg Try.prog 5 (regOps Try.f9 5) false 140 [(3, (.int .u8 n)), (4, (.pointer (some ⟨nb ρ1 0, 0, none⟩))), (5, (.pointer (some ⟨nb ρ1 1, 0, none⟩))), (6, (.pointer (some ⟨nb ρ1 2, 0, none⟩))), (8, (.bool false)), (49, (.bool false))] w0 [(nb ρ1 0, (.cells (cU a) 24 (0, 0))), (nb ρ1 1, (.cells (cU b) 24 (0, 0))), (nb ρ1 2, (.cells (cU c) 24 (0, 0))), (nb ρ2 6, (.cells (cU ((a + b) % M)) 24 (0, 0))), (nb ρ3 6, (.cells (cU ((((a + b) % M) + M - b) % M)) 24 (0, 0)))] (fun _ => True)
    (fun ρ => [(3, (.int .u8 n)), (4, (.pointer (some ⟨nb ρ1 0, 0, none⟩))), (5, (.pointer (some ⟨nb ρ1 1, 0, none⟩))), (6, (.pointer (some ⟨nb ρ1 2, 0, none⟩))), (8, (.bool false)), (13, (.pointer (some ⟨nb ρ 6, 0, none⟩))), (14, (.pointer (some ⟨nb ρ 7, 0, none⟩)))])
    (fun ρ => [(nb ρ1 0, (.cells (cU a) 24 (0, 0))), (nb ρ1 1, (.cells (cU b) 24 (0, 0))), (nb ρ1 2, (.cells (cU c) 24 (0, 0))), (nb ρ2 6, (.cells (cU ((a + b) % M)) 24 (0, 0))), (nb ρ3 6, (.cells (cU ((((a + b) % M) + M - b) % M)) 24 (0, 0))), (nb ρ 6, (.cells (cU ((a * b) / M)) 24 (0, 0))), (nb ρ 7, (.cells (cU ((a * b) % M)) 24 (0, 0)))]) := by
  refine reg_seq [0, 1, 3, 7, 15, 31, 63, 127, 255, 511] [3, 4, 5, 6, 8, 13, 14] 10
    (fun ρ ι => ([(U a), (U b), (.tuple #[(U ((a * b) / M)), (U ((a * b) % M))]), (.tuple #[(U ((a * b) / M)), (U ((a * b) % M))]), (U ((a * b) / M)), (U ((a * b) % M)), (.pointer (some ⟨nb ρ 6, 0, none⟩)), (.pointer (some ⟨nb ρ 7, 0, none⟩)), undef, undef] : List Value).getD ι undef)
    (fun ρ ι => ([{}, {}, {}, {}, {}, {}, { news := [(nb ρ 6, (.cells (cU 0) 24 (0, 0)))] }, { news := [(nb ρ 7, (.cells (cU 0) 24 (0, 0)))] }, { puts := [(53, (.cells (cU ((a * b) / M)) 24 (0, 0)))] }, { puts := [(61, (.cells (cU ((a * b) % M)) 24 (0, 0)))] }] : List Eff).getD ι {})
    (by as_aux_lemma => kernel_rfl) (by as_aux_lemma => kernel_rfl) (fun _ => by as_aux_lemma => kernel_rfl) (fun _ => by as_aux_lemma => kernel_rfl) ⟨⟨⟨⟨⟨⟨⟨⟨⟨⟨trivial, ?_⟩, ?_⟩, ?_⟩, ?_⟩, ?_⟩, ?_⟩, ?_⟩, ?_⟩, ?_⟩, ?_⟩
  · exact o_run 0 [0] [] (fun _ _ => [nb ρ1 0, nb ρ1 0, nb ρ1 0, nb ρ1 0]) (fun _ _ => by as_aux_lemma => kernel_rfl)
  · exact o_run 1 [1] [] (fun _ _ => [nb ρ1 1, nb ρ1 1, nb ρ1 1, nb ρ1 1]) (fun _ _ => by as_aux_lemma => kernel_rfl)
  · exact o_call 2 35 (fun _ => #[(U a), (U b)]) (fun _ => (.tuple #[(U ((a * b) / M)), (U ((a * b) % M))])) (fun _ _ => by as_aux_lemma => kernel_rfl) (fun _ w => (fun w => mul_any a b w ha hb) w)
  · exact o_run 3 [] [] (fun _ _ => []) (fun _ _ => by as_aux_lemma => kernel_rfl)
  · exact o_run 4 [] [] (fun _ _ => []) (fun _ _ => by as_aux_lemma => kernel_rfl)
  · exact o_run 5 [] [] (fun _ _ => []) (fun _ _ => by as_aux_lemma => kernel_rfl)
  · exact o_run 6 [] [] (fun _ _ => []) (fun _ _ => by as_aux_lemma => kernel_rfl)
  · exact o_run 7 [] [] (fun _ _ => []) (fun _ _ => by as_aux_lemma => kernel_rfl)
  · exact o_run 8 [53] [] (fun ρ _ => [nb ρ 6, nb ρ 6, nb ρ 6, nb ρ 6]) (fun _ _ => by as_aux_lemma => kernel_rfl)
  · exact o_run 9 [61] [] (fun ρ _ => [nb ρ 7, nb ρ 7, nb ρ 7, nb ρ 7]) (fun _ _ => by as_aux_lemma => kernel_rfl)
theorem undo_pos_r6 (a : Nat) (b : Nat) (c : Nat) (n : Int) (ha : a < M) (hb : b < M) (hk3 : (decide (((a * b) / M) < b)) = true) (ρ1 : Nat → Orc) (ρ2 : Nat → Orc) (ρ3 : Nat → Orc) (ρ5 : Nat → Orc) (w0 : World) : Reg Try.prog 6 (regOps Try.f9 6) false 140 [(3, (.int .u8 n)), (4, (.pointer (some ⟨nb ρ1 0, 0, none⟩))), (5, (.pointer (some ⟨nb ρ1 1, 0, none⟩))), (6, (.pointer (some ⟨nb ρ1 2, 0, none⟩))), (8, (.bool false)), (13, (.pointer (some ⟨nb ρ5 6, 0, none⟩))), (14, (.pointer (some ⟨nb ρ5 7, 0, none⟩)))] w0 [(nb ρ1 0, (.cells (cU a) 24 (0, 0))), (nb ρ1 1, (.cells (cU b) 24 (0, 0))), (nb ρ1 2, (.cells (cU c) 24 (0, 0))), (nb ρ2 6, (.cells (cU ((a + b) % M)) 24 (0, 0))), (nb ρ3 6, (.cells (cU ((((a + b) % M) + M - b) % M)) 24 (0, 0))), (nb ρ5 6, (.cells (cU ((a * b) / M)) 24 (0, 0))), (nb ρ5 7, (.cells (cU ((a * b) % M)) 24 (0, 0)))] (fun _ => True)
    (fun ρ => [(3, (.int .u8 n)), (4, (.pointer (some ⟨nb ρ1 0, 0, none⟩))), (5, (.pointer (some ⟨nb ρ1 1, 0, none⟩))), (6, (.pointer (some ⟨nb ρ1 2, 0, none⟩))), (8, (.bool false)), (15, (.pointer (some ⟨nb ρ 8, 0, none⟩))), (16, (.pointer (some ⟨nb ρ 9, 0, none⟩))), (17, (.bool true))])
    (fun ρ => [(nb ρ1 0, (.cells (cU a) 24 (0, 0))), (nb ρ1 1, (.cells (cU b) 24 (0, 0))), (nb ρ1 2, (.cells (cU c) 24 (0, 0))), (nb ρ2 6, (.cells (cU ((a + b) % M)) 24 (0, 0))), (nb ρ3 6, (.cells (cU ((((a + b) % M) + M - b) % M)) 24 (0, 0))), (nb ρ5 6, (.cells (cU ((a * b) / M)) 24 (0, 0))), (nb ρ5 7, (.cells (cU ((a * b) % M)) 24 (0, 0))), (nb ρ 8, (.cells (cU (divQ ((a * b) / M) ((a * b) % M) b)) 24 (0, 0))), (nb ρ 9, (.cells (cU (divR ((a * b) / M) ((a * b) % M) b)) 24 (0, 0)))]) := by
  refine reg_seq [0, 1, 3, 7, 15, 31, 63, 127, 255, 511, 1023, 2047, 4095] [3, 4, 5, 6, 8, 15, 16, 17] 13
    (fun ρ ι => ([(U ((a * b) / M)), (U ((a * b) % M)), (U b), (.tuple #[(U (divQ ((a * b) / M) ((a * b) % M) b)), (U (divR ((a * b) / M) ((a * b) % M) b)), (.bool true)]), (.tuple #[(U (divQ ((a * b) / M) ((a * b) % M) b)), (U (divR ((a * b) / M) ((a * b) % M) b)), (.bool true)]), (U (divQ ((a * b) / M) ((a * b) % M) b)), (U (divR ((a * b) / M) ((a * b) % M) b)), (.bool true), (.pointer (some ⟨nb ρ 8, 0, none⟩)), (.pointer (some ⟨nb ρ 9, 0, none⟩)), undef, undef, (.bool true)] : List Value).getD ι undef)
    (fun ρ ι => ([{}, {}, {}, {}, {}, {}, {}, {}, { news := [(nb ρ 8, (.cells (cU 0) 24 (0, 0)))] }, { news := [(nb ρ 9, (.cells (cU 0) 24 (0, 0)))] }, { puts := [(71, (.cells (cU (divQ ((a * b) / M) ((a * b) % M) b)) 24 (0, 0)))] }, { puts := [(79, (.cells (cU (divR ((a * b) / M) ((a * b) % M) b)) 24 (0, 0)))] }, {}] : List Eff).getD ι {})
    (by as_aux_lemma => kernel_rfl) (by as_aux_lemma => kernel_rfl) (fun _ => by as_aux_lemma => kernel_rfl) (fun _ => by as_aux_lemma => kernel_rfl) ⟨⟨⟨⟨⟨⟨⟨⟨⟨⟨⟨⟨⟨trivial, ?_⟩, ?_⟩, ?_⟩, ?_⟩, ?_⟩, ?_⟩, ?_⟩, ?_⟩, ?_⟩, ?_⟩, ?_⟩, ?_⟩, ?_⟩
  · exact o_run 0 [5] [] (fun _ _ => [nb ρ5 6, nb ρ5 6, nb ρ5 6, nb ρ5 6]) (fun _ _ => by as_aux_lemma => kernel_rfl)
  · exact o_run 1 [6] [] (fun _ _ => [nb ρ5 7, nb ρ5 7, nb ρ5 7, nb ρ5 7]) (fun _ _ => by as_aux_lemma => kernel_rfl)
  · exact o_run 2 [1] [] (fun _ _ => [nb ρ1 1, nb ρ1 1, nb ρ1 1, nb ρ1 1]) (fun _ _ => by as_aux_lemma => kernel_rfl)
  · exact o_call 3 18 (fun _ => #[(U ((a * b) / M)), (U ((a * b) % M)), (U b)]) (fun _ => (.tuple #[(U (divQ ((a * b) / M) ((a * b) % M) b)), (U (divR ((a * b) / M) ((a * b) % M) b)), (.bool true)])) (fun _ _ => by as_aux_lemma => kernel_rfl) (fun _ w => by as_aux_lemma => (have h := (fun w => div_any ((a * b) / M) ((a * b) % M) b w (mulhi_lt ha hb) (modM_lt _) hb) w; rw [hk3] at h; exact h))
  · exact o_run 4 [] [] (fun _ _ => []) (fun _ _ => by as_aux_lemma => kernel_rfl)
  · exact o_run 5 [] [] (fun _ _ => []) (fun _ _ => by as_aux_lemma => kernel_rfl)
  · exact o_run 6 [] [] (fun _ _ => []) (fun _ _ => by as_aux_lemma => kernel_rfl)
  · exact o_run 7 [] [] (fun _ _ => []) (fun _ _ => by as_aux_lemma => kernel_rfl)
  · exact o_run 8 [] [] (fun _ _ => []) (fun _ _ => by as_aux_lemma => kernel_rfl)
  · exact o_run 9 [] [] (fun _ _ => []) (fun _ _ => by as_aux_lemma => kernel_rfl)
  · exact o_run 10 [71] [] (fun ρ _ => [nb ρ 8, nb ρ 8, nb ρ 8, nb ρ 8]) (fun _ _ => by as_aux_lemma => kernel_rfl)
  · exact o_run 11 [79] [] (fun ρ _ => [nb ρ 9, nb ρ 9, nb ρ 9, nb ρ 9]) (fun _ _ => by as_aux_lemma => kernel_rfl)
  · exact o_run 12 [] [] (fun _ _ => []) (fun _ _ => by as_aux_lemma => kernel_rfl)
theorem undo_pos_r7 (a : Nat) (b : Nat) (c : Nat) (n : Int) (ha : a < M) (hb : b < M) (hk2 : (decide (0 < (cmpN b 0))) = true) (hk4 : (decide (divQ ((a * b) / M) ((a * b) % M) b = a)) = true) (hk5 : (decide (divR ((a * b) / M) ((a * b) % M) b = 0)) = true) (ρ1 : Nat → Orc) (ρ2 : Nat → Orc) (ρ3 : Nat → Orc) (ρ5 : Nat → Orc) (ρ6 : Nat → Orc) (w0 : World) : Reg Try.prog 7 (regOps Try.f9 7) false 140 [(3, (.int .u8 n)), (4, (.pointer (some ⟨nb ρ1 0, 0, none⟩))), (5, (.pointer (some ⟨nb ρ1 1, 0, none⟩))), (6, (.pointer (some ⟨nb ρ1 2, 0, none⟩))), (8, (.bool false)), (15, (.pointer (some ⟨nb ρ6 8, 0, none⟩))), (16, (.pointer (some ⟨nb ρ6 9, 0, none⟩))), (17, (.bool true))] w0 [(nb ρ1 0, (.cells (cU a) 24 (0, 0))), (nb ρ1 1, (.cells (cU b) 24 (0, 0))), (nb ρ1 2, (.cells (cU c) 24 (0, 0))), (nb ρ2 6, (.cells (cU ((a + b) % M)) 24 (0, 0))), (nb ρ3 6, (.cells (cU ((((a + b) % M) + M - b) % M)) 24 (0, 0))), (nb ρ5 6, (.cells (cU ((a * b) / M)) 24 (0, 0))), (nb ρ5 7, (.cells (cU ((a * b) % M)) 24 (0, 0))), (nb ρ6 8, (.cells (cU (divQ ((a * b) / M) ((a * b) % M) b)) 24 (0, 0))), (nb ρ6 9, (.cells (cU (divR ((a * b) / M) ((a * b) % M) b)) 24 (0, 0)))] (fun _ => True)
    (fun _ => [(3, (.int .u8 n)), (5, (.pointer (some ⟨nb ρ1 1, 0, none⟩))), (6, (.pointer (some ⟨nb ρ1 2, 0, none⟩))), (8, (.bool false)), (81, (.bool false))])
    (fun _ => [(nb ρ1 0, (.cells (cU a) 24 (0, 0))), (nb ρ1 1, (.cells (cU b) 24 (0, 0))), (nb ρ1 2, (.cells (cU c) 24 (0, 0))), (nb ρ2 6, (.cells (cU ((a + b) % M)) 24 (0, 0))), (nb ρ3 6, (.cells (cU ((((a + b) % M) + M - b) % M)) 24 (0, 0))), (nb ρ5 6, (.cells (cU ((a * b) / M)) 24 (0, 0))), (nb ρ5 7, (.cells (cU ((a * b) % M)) 24 (0, 0))), (nb ρ6 8, (.cells (cU (divQ ((a * b) / M) ((a * b) % M) b)) 24 (0, 0))), (nb ρ6 9, (.cells (cU (divR ((a * b) / M) ((a * b) % M) b)) 24 (0, 0)))]) := by
  refine reg_seq [0, 1, 3, 7, 15, 31, 63, 127, 255, 511, 1023, 2047, 4095, 8191, 16383, 32767, 65535, 131071] [3, 5, 6, 8, 81] 18
    (fun _ ι => ([(U b), (U 0), (.int .i64 (cmpN b 0)), (.bool true), (.bool true), (.bool true), (.bool false), (.bool false), (U (divQ ((a * b) / M) ((a * b) % M) b)), (U a), (.bool false), (.bool false), (.bool false), (U (divR ((a * b) / M) ((a * b) % M) b)), (U 0), (.bool false), (.bool false), (.bool false)] : List Value).getD ι undef)
    (fun _ ι => ([{}, {}, {}, {}, {}, {}, {}, {}, {}, {}, {}, {}, {}, {}, {}, {}, {}, {}] : List Eff).getD ι {})
    (by as_aux_lemma => kernel_rfl) (by as_aux_lemma => kernel_rfl) (fun _ => by as_aux_lemma => kernel_rfl) (fun _ => by as_aux_lemma => kernel_rfl) ⟨⟨⟨⟨⟨⟨⟨⟨⟨⟨⟨⟨⟨⟨⟨⟨⟨⟨trivial, ?_⟩, ?_⟩, ?_⟩, ?_⟩, ?_⟩, ?_⟩, ?_⟩, ?_⟩, ?_⟩, ?_⟩, ?_⟩, ?_⟩, ?_⟩, ?_⟩, ?_⟩, ?_⟩, ?_⟩, ?_⟩
  · exact o_run 0 [1] [] (fun _ _ => [nb ρ1 1, nb ρ1 1, nb ρ1 1, nb ρ1 1]) (fun _ _ => by as_aux_lemma => kernel_rfl)
  · exact o_run 1 [] [] (fun _ _ => []) (fun _ _ => by as_aux_lemma => kernel_rfl)
  · exact o_call 2 16 (fun _ => #[(U b), (U 0)]) (fun _ => (.int .i64 (cmpN b 0))) (fun _ _ => by as_aux_lemma => kernel_rfl) (fun _ w => (fun w => cmp_any b 0 w hb (by decide +kernel)) w)
  · exact o_as 3 (fun _ => (.bool (decide (0 < (cmpN b 0))))) (fun _ => (.bool true)) (fun _ _ => by as_aux_lemma => kernel_rfl) (fun _ => congrArg Value.bool hk2)
  · exact o_run 4 [] [] (fun _ _ => []) (fun _ _ => by as_aux_lemma => kernel_rfl)
  · exact o_run 5 [] [] (fun _ _ => []) (fun _ _ => by as_aux_lemma => kernel_rfl)
  · exact o_run 6 [] [] (fun _ _ => []) (fun _ _ => by as_aux_lemma => kernel_rfl)
  · exact o_run 7 [] [] (fun _ _ => []) (fun _ _ => by as_aux_lemma => kernel_rfl)
  · exact o_run 8 [7] [] (fun _ _ => [nb ρ6 8, nb ρ6 8, nb ρ6 8, nb ρ6 8]) (fun _ _ => by as_aux_lemma => kernel_rfl)
  · exact o_run 9 [0] [] (fun _ _ => [nb ρ1 0, nb ρ1 0, nb ρ1 0, nb ρ1 0]) (fun _ _ => by as_aux_lemma => kernel_rfl)
  · exact o_bin 10 .neq 24 (fun _ => (U (divQ ((a * b) / M) ((a * b) % M) b))) (fun _ => (U a)) (fun _ => (.bool false)) (fun _ => by as_aux_lemma => kernel_rfl) (fun _ _ _ _ => by as_aux_lemma => kernel_rfl) (fun _ _ => (neqU (divQ ((a * b) / M) ((a * b) % M) b) a (divQ_lt _ _ _ (modM_lt _)) ha _).trans (by rw [hk4]; try rfl))
  · exact o_run 11 [] [] (fun _ _ => []) (fun _ _ => by as_aux_lemma => kernel_rfl)
  · exact o_run 12 [] [] (fun _ _ => []) (fun _ _ => by as_aux_lemma => kernel_rfl)
  · exact o_run 13 [8] [] (fun _ _ => [nb ρ6 9, nb ρ6 9, nb ρ6 9, nb ρ6 9]) (fun _ _ => by as_aux_lemma => kernel_rfl)
  · exact o_run 14 [] [] (fun _ _ => []) (fun _ _ => by as_aux_lemma => kernel_rfl)
  · exact o_bin 15 .neq 24 (fun _ => (U (divR ((a * b) / M) ((a * b) % M) b))) (fun _ => (U 0)) (fun _ => (.bool false)) (fun _ => by as_aux_lemma => kernel_rfl) (fun _ _ _ _ => by as_aux_lemma => kernel_rfl) (fun _ _ => (neqU (divR ((a * b) / M) ((a * b) % M) b) 0 (divR_lt _ _ _ hb) (by decide +kernel) _).trans (by rw [hk5]; try rfl))
  · exact o_run 16 [] [] (fun _ _ => []) (fun _ _ => by as_aux_lemma => kernel_rfl)
  · exact o_run 17 [] [] (fun _ _ => []) (fun _ _ => by as_aux_lemma => kernel_rfl)
theorem undo_pos_r8 (a : Nat) (b : Nat) (c : Nat) (n : Int) (hb : b < M) (hc : c < M) (hk6 : (decide (0 < b)) = true) (ρ1 : Nat → Orc) (ρ2 : Nat → Orc) (ρ3 : Nat → Orc) (ρ5 : Nat → Orc) (ρ6 : Nat → Orc) (w0 : World) : Reg Try.prog 9 (regOps Try.f9 9) false 140 [(3, (.int .u8 n)), (5, (.pointer (some ⟨nb ρ1 1, 0, none⟩))), (6, (.pointer (some ⟨nb ρ1 2, 0, none⟩))), (8, (.bool false)), (81, (.bool false))] w0 [(nb ρ1 0, (.cells (cU a) 24 (0, 0))), (nb ρ1 1, (.cells (cU b) 24 (0, 0))), (nb ρ1 2, (.cells (cU c) 24 (0, 0))), (nb ρ2 6, (.cells (cU ((a + b) % M)) 24 (0, 0))), (nb ρ3 6, (.cells (cU ((((a + b) % M) + M - b) % M)) 24 (0, 0))), (nb ρ5 6, (.cells (cU ((a * b) / M)) 24 (0, 0))), (nb ρ5 7, (.cells (cU ((a * b) % M)) 24 (0, 0))), (nb ρ6 8, (.cells (cU (divQ ((a * b) / M) ((a * b) % M) b)) 24 (0, 0))), (nb ρ6 9, (.cells (cU (divR ((a * b) / M) ((a * b) % M) b)) 24 (0, 0)))] (fun _ => True)
    (fun ρ => [(3, (.int .u8 n)), (5, (.pointer (some ⟨nb ρ1 1, 0, none⟩))), (6, (.pointer (some ⟨nb ρ1 2, 0, none⟩))), (8, (.bool false)), (18, (.pointer (some ⟨nb ρ 8, 0, none⟩))), (19, (.pointer (some ⟨nb ρ 9, 0, none⟩))), (20, (.bool true))])
    (fun ρ => [(nb ρ1 0, (.cells (cU a) 24 (0, 0))), (nb ρ1 1, (.cells (cU b) 24 (0, 0))), (nb ρ1 2, (.cells (cU c) 24 (0, 0))), (nb ρ2 6, (.cells (cU ((a + b) % M)) 24 (0, 0))), (nb ρ3 6, (.cells (cU ((((a + b) % M) + M - b) % M)) 24 (0, 0))), (nb ρ5 6, (.cells (cU ((a * b) / M)) 24 (0, 0))), (nb ρ5 7, (.cells (cU ((a * b) % M)) 24 (0, 0))), (nb ρ6 8, (.cells (cU (divQ ((a * b) / M) ((a * b) % M) b)) 24 (0, 0))), (nb ρ6 9, (.cells (cU (divR ((a * b) / M) ((a * b) % M) b)) 24 (0, 0))), (nb ρ 8, (.cells (cU (divQ 0 c b)) 24 (0, 0))), (nb ρ 9, (.cells (cU (divR 0 c b)) 24 (0, 0)))]) := by
  refine reg_seq [0, 1, 3, 7, 15, 31, 63, 127, 255, 511, 1023, 2047, 4095] [3, 5, 6, 8, 18, 19, 20] 13
    (fun ρ ι => ([(U 0), (U c), (U b), (.tuple #[(U (divQ 0 c b)), (U (divR 0 c b)), (.bool true)]), (.tuple #[(U (divQ 0 c b)), (U (divR 0 c b)), (.bool true)]), (U (divQ 0 c b)), (U (divR 0 c b)), (.bool true), (.pointer (some ⟨nb ρ 8, 0, none⟩)), (.pointer (some ⟨nb ρ 9, 0, none⟩)), undef, undef, (.bool true)] : List Value).getD ι undef)
    (fun ρ ι => ([{}, {}, {}, {}, {}, {}, {}, {}, { news := [(nb ρ 8, (.cells (cU 0) 24 (0, 0)))] }, { news := [(nb ρ 9, (.cells (cU 0) 24 (0, 0)))] }, { puts := [(73, (.cells (cU (divQ 0 c b)) 24 (0, 0)))] }, { puts := [(81, (.cells (cU (divR 0 c b)) 24 (0, 0)))] }, {}] : List Eff).getD ι {})
    (by as_aux_lemma => kernel_rfl) (by as_aux_lemma => kernel_rfl) (fun _ => by as_aux_lemma => kernel_rfl) (fun _ => by as_aux_lemma => kernel_rfl) ⟨⟨⟨⟨⟨⟨⟨⟨⟨⟨⟨⟨⟨trivial, ?_⟩, ?_⟩, ?_⟩, ?_⟩, ?_⟩, ?_⟩, ?_⟩, ?_⟩, ?_⟩, ?_⟩, ?_⟩, ?_⟩, ?_⟩
  · exact o_run 0 [] [] (fun _ _ => []) (fun _ _ => by as_aux_lemma => kernel_rfl)
  · exact o_run 1 [2] [] (fun _ _ => [nb ρ1 2, nb ρ1 2, nb ρ1 2, nb ρ1 2]) (fun _ _ => by as_aux_lemma => kernel_rfl)
  · exact o_run 2 [1] [] (fun _ _ => [nb ρ1 1, nb ρ1 1, nb ρ1 1, nb ρ1 1]) (fun _ _ => by as_aux_lemma => kernel_rfl)
  · exact o_call 3 18 (fun _ => #[(U 0), (U c), (U b)]) (fun _ => (.tuple #[(U (divQ 0 c b)), (U (divR 0 c b)), (.bool true)])) (fun _ _ => by as_aux_lemma => kernel_rfl) (fun _ w => by as_aux_lemma => (have h := (fun w => div_any 0 c b w (by decide +kernel) hc hb) w; rw [hk6] at h; exact h))
  · exact o_run 4 [] [] (fun _ _ => []) (fun _ _ => by as_aux_lemma => kernel_rfl)
  · exact o_run 5 [] [] (fun _ _ => []) (fun _ _ => by as_aux_lemma => kernel_rfl)
  · exact o_run 6 [] [] (fun _ _ => []) (fun _ _ => by as_aux_lemma => kernel_rfl)
  · exact o_run 7 [] [] (fun _ _ => []) (fun _ _ => by as_aux_lemma => kernel_rfl)
  · exact o_run 8 [] [] (fun _ _ => []) (fun _ _ => by as_aux_lemma => kernel_rfl)
  · exact o_run 9 [] [] (fun _ _ => []) (fun _ _ => by as_aux_lemma => kernel_rfl)
  · exact o_run 10 [73] [] (fun ρ _ => [nb ρ 8, nb ρ 8, nb ρ 8, nb ρ 8]) (fun _ _ => by as_aux_lemma => kernel_rfl)
  · exact o_run 11 [81] [] (fun ρ _ => [nb ρ 9, nb ρ 9, nb ρ 9, nb ρ 9]) (fun _ _ => by as_aux_lemma => kernel_rfl)
  · exact o_run 12 [] [] (fun _ _ => []) (fun _ _ => by as_aux_lemma => kernel_rfl)
theorem undo_pos_r9 (a : Nat) (b : Nat) (c : Nat) (n : Int) (ρ1 : Nat → Orc) (ρ2 : Nat → Orc) (ρ3 : Nat → Orc) (ρ5 : Nat → Orc) (ρ6 : Nat → Orc) (ρ8 : Nat → Orc) (w0 : World) : Reg Try.prog 10 (regOps Try.f9 10) false 140 [(3, (.int .u8 n)), (5, (.pointer (some ⟨nb ρ1 1, 0, none⟩))), (6, (.pointer (some ⟨nb ρ1 2, 0, none⟩))), (8, (.bool false)), (18, (.pointer (some ⟨nb ρ8 8, 0, none⟩))), (19, (.pointer (some ⟨nb ρ8 9, 0, none⟩))), (20, (.bool true))] w0 [(nb ρ1 0, (.cells (cU a) 24 (0, 0))), (nb ρ1 1, (.cells (cU b) 24 (0, 0))), (nb ρ1 2, (.cells (cU c) 24 (0, 0))), (nb ρ2 6, (.cells (cU ((a + b) % M)) 24 (0, 0))), (nb ρ3 6, (.cells (cU ((((a + b) % M) + M - b) % M)) 24 (0, 0))), (nb ρ5 6, (.cells (cU ((a * b) / M)) 24 (0, 0))), (nb ρ5 7, (.cells (cU ((a * b) % M)) 24 (0, 0))), (nb ρ6 8, (.cells (cU (divQ ((a * b) / M) ((a * b) % M) b)) 24 (0, 0))), (nb ρ6 9, (.cells (cU (divR ((a * b) / M) ((a * b) % M) b)) 24 (0, 0))), (nb ρ8 8, (.cells (cU (divQ 0 c b)) 24 (0, 0))), (nb ρ8 9, (.cells (cU (divR 0 c b)) 24 (0, 0)))] (fun _ => True)
    (fun _ => [(3, (.int .u8 n)), (5, (.pointer (some ⟨nb ρ1 1, 0, none⟩))), (6, (.pointer (some ⟨nb ρ1 2, 0, none⟩))), (8, (.bool false)), (18, (.pointer (some ⟨nb ρ8 8, 0, none⟩))), (19, (.pointer (some ⟨nb ρ8 9, 0, none⟩))), (91, (.bool false))])
    (fun _ => [(nb ρ1 0, (.cells (cU a) 24 (0, 0))), (nb ρ1 1, (.cells (cU b) 24 (0, 0))), (nb ρ1 2, (.cells (cU c) 24 (0, 0))), (nb ρ2 6, (.cells (cU ((a + b) % M)) 24 (0, 0))), (nb ρ3 6, (.cells (cU ((((a + b) % M) + M - b) % M)) 24 (0, 0))), (nb ρ5 6, (.cells (cU ((a * b) / M)) 24 (0, 0))), (nb ρ5 7, (.cells (cU ((a * b) % M)) 24 (0, 0))), (nb ρ6 8, (.cells (cU (divQ ((a * b) / M) ((a * b) % M) b)) 24 (0, 0))), (nb ρ6 9, (.cells (cU (divR ((a * b) / M) ((a * b) % M) b)) 24 (0, 0))), (nb ρ8 8, (.cells (cU (divQ 0 c b)) 24 (0, 0))), (nb ρ8 9, (.cells (cU (divR 0 c b)) 24 (0, 0)))]) := by
  refine reg_seq [0, 1] [3, 5, 6, 8, 18, 19, 91] 2
    (fun _ ι => ([(.bool true), (.bool false)] : List Value).getD ι undef)
    (fun _ ι => ([{}, {}] : List Eff).getD ι {})
    (by as_aux_lemma => kernel_rfl) (by as_aux_lemma => kernel_rfl) (fun _ => by as_aux_lemma => kernel_rfl) (fun _ => by as_aux_lemma => kernel_rfl) ⟨⟨trivial, ?_⟩, ?_⟩
  · exact o_run 0 [] [] (fun _ _ => []) (fun _ _ => by as_aux_lemma => kernel_rfl)
  · exact o_run 1 [] [] (fun _ _ => []) (fun _ _ => by as_aux_lemma => kernel_rfl)
theorem undo_pos_r10 (a : Nat) (b : Nat) (c : Nat) (n : Int) (hb : b < M) (hc : c < M) (ρ1 : Nat → Orc) (ρ2 : Nat → Orc) (ρ3 : Nat → Orc) (ρ5 : Nat → Orc) (ρ6 : Nat → Orc) (ρ8 : Nat → Orc) (w0 : World) : Reg Try.prog 12 (regOps Try.f9 12) false 140 [(3, (.int .u8 n)), (5, (.pointer (some ⟨nb ρ1 1, 0, none⟩))), (6, (.pointer (some ⟨nb ρ1 2, 0, none⟩))), (8, (.bool false)), (18, (.pointer (some ⟨nb ρ8 8, 0, none⟩))), (19, (.pointer (some ⟨nb ρ8 9, 0, none⟩))), (91, (.bool false))] w0 [(nb ρ1 0, (.cells (cU a) 24 (0, 0))), (nb ρ1 1, (.cells (cU b) 24 (0, 0))), (nb ρ1 2, (.cells (cU c) 24 (0, 0))), (nb ρ2 6, (.cells (cU ((a + b) % M)) 24 (0, 0))), (nb ρ3 6, (.cells (cU ((((a + b) % M) + M - b) % M)) 24 (0, 0))), (nb ρ5 6, (.cells (cU ((a * b) / M)) 24 (0, 0))), (nb ρ5 7, (.cells (cU ((a * b) % M)) 24 (0, 0))), (nb ρ6 8, (.cells (cU (divQ ((a * b) / M) ((a * b) % M) b)) 24 (0, 0))), (nb ρ6 9, (.cells (cU (divR ((a * b) / M) ((a * b) % M) b)) 24 (0, 0))), (nb ρ8 8, (.cells (cU (divQ 0 c b)) 24 (0, 0))), (nb ρ8 9, (.cells (cU (divR 0 c b)) 24 (0, 0)))] (fun _ => True)
    (fun ρ => [(3, (.int .u8 n)), (5, (.pointer (some ⟨nb ρ1 1, 0, none⟩))), (6, (.pointer (some ⟨nb ρ1 2, 0, none⟩))), (8, (.bool false)), (19, (.pointer (some ⟨nb ρ8 9, 0, none⟩))), (21, (.pointer (some ⟨nb ρ 6, 0, none⟩))), (22, (.pointer (some ⟨nb ρ 7, 0, none⟩)))])
    (fun ρ => [(nb ρ1 0, (.cells (cU a) 24 (0, 0))), (nb ρ1 1, (.cells (cU b) 24 (0, 0))), (nb ρ1 2, (.cells (cU c) 24 (0, 0))), (nb ρ2 6, (.cells (cU ((a + b) % M)) 24 (0, 0))), (nb ρ3 6, (.cells (cU ((((a + b) % M) + M - b) % M)) 24 (0, 0))), (nb ρ5 6, (.cells (cU ((a * b) / M)) 24 (0, 0))), (nb ρ5 7, (.cells (cU ((a * b) % M)) 24 (0, 0))), (nb ρ6 8, (.cells (cU (divQ ((a * b) / M) ((a * b) % M) b)) 24 (0, 0))), (nb ρ6 9, (.cells (cU (divR ((a * b) / M) ((a * b) % M) b)) 24 (0, 0))), (nb ρ8 8, (.cells (cU (divQ 0 c b)) 24 (0, 0))), (nb ρ8 9, (.cells (cU (divR 0 c b)) 24 (0, 0))), (nb ρ 6, (.cells (cU (((divQ 0 c b) * b) / M)) 24 (0, 0))), (nb ρ 7, (.cells (cU (((divQ 0 c b) * b) % M)) 24 (0, 0)))]) := by
  refine reg_seq [0, 1, 3, 7, 15, 31, 63, 127, 255, 511] [3, 5, 6, 8, 19, 21, 22] 10
    (fun ρ ι => ([(U (divQ 0 c b)), (U b), (.tuple #[(U (((divQ 0 c b) * b) / M)), (U (((divQ 0 c b) * b) % M))]), (.tuple #[(U (((divQ 0 c b) * b) / M)), (U (((divQ 0 c b) * b) % M))]), (U (((divQ 0 c b) * b) / M)), (U (((divQ 0 c b) * b) % M)), (.pointer (some ⟨nb ρ 6, 0, none⟩)), (.pointer (some ⟨nb ρ 7, 0, none⟩)), undef, undef] : List Value).getD ι undef)
    (fun ρ ι => ([{}, {}, {}, {}, {}, {}, { news := [(nb ρ 6, (.cells (cU 0) 24 (0, 0)))] }, { news := [(nb ρ 7, (.cells (cU 0) 24 (0, 0)))] }, { puts := [(59, (.cells (cU (((divQ 0 c b) * b) / M)) 24 (0, 0)))] }, { puts := [(67, (.cells (cU (((divQ 0 c b) * b) % M)) 24 (0, 0)))] }] : List Eff).getD ι {})
    (by as_aux_lemma => kernel_rfl) (by as_aux_lemma => kernel_rfl) (fun _ => by as_aux_lemma => kernel_rfl) (fun _ => by as_aux_lemma => kernel_rfl) ⟨⟨⟨⟨⟨⟨⟨⟨⟨⟨trivial, ?_⟩, ?_⟩, ?_⟩, ?_⟩, ?_⟩, ?_⟩, ?_⟩, ?_⟩, ?_⟩, ?_⟩
  · exact o_run 0 [9] [] (fun _ _ => [nb ρ8 8, nb ρ8 8, nb ρ8 8, nb ρ8 8]) (fun _ _ => by as_aux_lemma => kernel_rfl)
  · exact o_run 1 [1] [] (fun _ _ => [nb ρ1 1, nb ρ1 1, nb ρ1 1, nb ρ1 1]) (fun _ _ => by as_aux_lemma => kernel_rfl)
  · exact o_call 2 35 (fun _ => #[(U (divQ 0 c b)), (U b)]) (fun _ => (.tuple #[(U (((divQ 0 c b) * b) / M)), (U (((divQ 0 c b) * b) % M))])) (fun _ _ => by as_aux_lemma => kernel_rfl) (fun _ w => (fun w => mul_any (divQ 0 c b) b w (divQ_lt _ _ _ hc) hb) w)
  · exact o_run 3 [] [] (fun _ _ => []) (fun _ _ => by as_aux_lemma => kernel_rfl)
  · exact o_run 4 [] [] (fun _ _ => []) (fun _ _ => by as_aux_lemma => kernel_rfl)
  · exact o_run 5 [] [] (fun _ _ => []) (fun _ _ => by as_aux_lemma => kernel_rfl)
  · exact o_run 6 [] [] (fun _ _ => []) (fun _ _ => by as_aux_lemma => kernel_rfl)
  · exact o_run 7 [] [] (fun _ _ => []) (fun _ _ => by as_aux_lemma => kernel_rfl)
  · exact o_run 8 [59] [] (fun ρ _ => [nb ρ 6, nb ρ 6, nb ρ 6, nb ρ 6]) (fun _ _ => by as_aux_lemma => kernel_rfl)
  · exact o_run 9 [67] [] (fun ρ _ => [nb ρ 7, nb ρ 7, nb ρ 7, nb ρ 7]) (fun _ _ => by as_aux_lemma => kernel_rfl)
theorem undo_pos_r11 (a : Nat) (b : Nat) (c : Nat) (n : Int) (hb : b < M) (hk8 : (decide (M ≤ (((divQ 0 c b) * b) % M) + (divR 0 c b))) = false) (ρ1 : Nat → Orc) (ρ2 : Nat → Orc) (ρ3 : Nat → Orc) (ρ5 : Nat → Orc) (ρ6 : Nat → Orc) (ρ8 : Nat → Orc) (ρ10 : Nat → Orc) (w0 : World) : Reg Try.prog 13 (regOps Try.f9 13) false 140 [(3, (.int .u8 n)), (5, (.pointer (some ⟨nb ρ1 1, 0, none⟩))), (6, (.pointer (some ⟨nb ρ1 2, 0, none⟩))), (8, (.bool false)), (19, (.pointer (some ⟨nb ρ8 9, 0, none⟩))), (21, (.pointer (some ⟨nb ρ10 6, 0, none⟩))), (22, (.pointer (some ⟨nb ρ10 7, 0, none⟩)))] w0 [(nb ρ1 0, (.cells (cU a) 24 (0, 0))), (nb ρ1 1, (.cells (cU b) 24 (0, 0))), (nb ρ1 2, (.cells (cU c) 24 (0, 0))), (nb ρ2 6, (.cells (cU ((a + b) % M)) 24 (0, 0))), (nb ρ3 6, (.cells (cU ((((a + b) % M) + M - b) % M)) 24 (0, 0))), (nb ρ5 6, (.cells (cU ((a * b) / M)) 24 (0, 0))), (nb ρ5 7, (.cells (cU ((a * b) % M)) 24 (0, 0))), (nb ρ6 8, (.cells (cU (divQ ((a * b) / M) ((a * b) % M) b)) 24 (0, 0))), (nb ρ6 9, (.cells (cU (divR ((a * b) / M) ((a * b) % M) b)) 24 (0, 0))), (nb ρ8 8, (.cells (cU (divQ 0 c b)) 24 (0, 0))), (nb ρ8 9, (.cells (cU (divR 0 c b)) 24 (0, 0))), (nb ρ10 6, (.cells (cU (((divQ 0 c b) * b) / M)) 24 (0, 0))), (nb ρ10 7, (.cells (cU (((divQ 0 c b) * b) % M)) 24 (0, 0)))] (fun _ => True)
    (fun ρ => [(3, (.int .u8 n)), (5, (.pointer (some ⟨nb ρ1 1, 0, none⟩))), (6, (.pointer (some ⟨nb ρ1 2, 0, none⟩))), (8, (.bool false)), (19, (.pointer (some ⟨nb ρ8 9, 0, none⟩))), (21, (.pointer (some ⟨nb ρ10 6, 0, none⟩))), (23, (.pointer (some ⟨nb ρ 6, 0, none⟩))), (24, (.bool false))])
    (fun ρ => [(nb ρ1 0, (.cells (cU a) 24 (0, 0))), (nb ρ1 1, (.cells (cU b) 24 (0, 0))), (nb ρ1 2, (.cells (cU c) 24 (0, 0))), (nb ρ2 6, (.cells (cU ((a + b) % M)) 24 (0, 0))), (nb ρ3 6, (.cells (cU ((((a + b) % M) + M - b) % M)) 24 (0, 0))), (nb ρ5 6, (.cells (cU ((a * b) / M)) 24 (0, 0))), (nb ρ5 7, (.cells (cU ((a * b) % M)) 24 (0, 0))), (nb ρ6 8, (.cells (cU (divQ ((a * b) / M) ((a * b) % M) b)) 24 (0, 0))), (nb ρ6 9, (.cells (cU (divR ((a * b) / M) ((a * b) % M) b)) 24 (0, 0))), (nb ρ8 8, (.cells (cU (divQ 0 c b)) 24 (0, 0))), (nb ρ8 9, (.cells (cU (divR 0 c b)) 24 (0, 0))), (nb ρ10 6, (.cells (cU (((divQ 0 c b) * b) / M)) 24 (0, 0))), (nb ρ10 7, (.cells (cU (((divQ 0 c b) * b) % M)) 24 (0, 0))), (nb ρ 6, (.cells (cU (((((divQ 0 c b) * b) % M) + (divR 0 c b)) % M)) 24 (0, 0)))]) := by
  refine reg_seq [0, 1, 3, 7, 15, 31, 63, 127, 255] [3, 5, 6, 8, 19, 21, 23, 24] 9
    (fun ρ ι => ([(U (((divQ 0 c b) * b) % M)), (U (divR 0 c b)), (.tuple #[(U (((((divQ 0 c b) * b) % M) + (divR 0 c b)) % M)), (.bool false)]), (.tuple #[(U (((((divQ 0 c b) * b) % M) + (divR 0 c b)) % M)), (.bool false)]), (U (((((divQ 0 c b) * b) % M) + (divR 0 c b)) % M)), (.bool false), (.pointer (some ⟨nb ρ 6, 0, none⟩)), undef, (.bool false)] : List Value).getD ι undef)
    (fun ρ ι => ([{}, {}, {}, {}, {}, {}, { news := [(nb ρ 6, (.cells (cU 0) 24 (0, 0)))] }, { puts := [(61, (.cells (cU (((((divQ 0 c b) * b) % M) + (divR 0 c b)) % M)) 24 (0, 0)))] }, {}] : List Eff).getD ι {})
    (by as_aux_lemma => kernel_rfl) (by as_aux_lemma => kernel_rfl) (fun _ => by as_aux_lemma => kernel_rfl) (fun _ => by as_aux_lemma => kernel_rfl) ⟨⟨⟨⟨⟨⟨⟨⟨⟨trivial, ?_⟩, ?_⟩, ?_⟩, ?_⟩, ?_⟩, ?_⟩, ?_⟩, ?_⟩, ?_⟩
  · exact o_run 0 [12] [] (fun _ _ => [nb ρ10 7, nb ρ10 7, nb ρ10 7, nb ρ10 7]) (fun _ _ => by as_aux_lemma => kernel_rfl)
  · exact o_run 1 [10] [] (fun _ _ => [nb ρ8 9, nb ρ8 9, nb ρ8 9, nb ρ8 9]) (fun _ _ => by as_aux_lemma => kernel_rfl)
  · exact o_call 2 32 (fun _ => #[(U (((divQ 0 c b) * b) % M)), (U (divR 0 c b))]) (fun _ => (.tuple #[(U (((((divQ 0 c b) * b) % M) + (divR 0 c b)) % M)), (.bool false)])) (fun _ _ => by as_aux_lemma => kernel_rfl) (fun _ w => by as_aux_lemma => (have h := (fun w => add_any (((divQ 0 c b) * b) % M) (divR 0 c b) w (modM_lt _) (divR_lt _ _ _ hb)) w; rw [hk8] at h; exact h))
  · exact o_run 3 [] [] (fun _ _ => []) (fun _ _ => by as_aux_lemma => kernel_rfl)
  · exact o_run 4 [] [] (fun _ _ => []) (fun _ _ => by as_aux_lemma => kernel_rfl)
  · exact o_run 5 [] [] (fun _ _ => []) (fun _ _ => by as_aux_lemma => kernel_rfl)
  · exact o_run 6 [] [] (fun _ _ => []) (fun _ _ => by as_aux_lemma => kernel_rfl)
  · exact o_run 7 [61] [] (fun ρ _ => [nb ρ 6, nb ρ 6, nb ρ 6, nb ρ 6]) (fun _ _ => by as_aux_lemma => kernel_rfl)
  · exact o_run 8 [] [] (fun _ _ => []) (fun _ _ => by as_aux_lemma => kernel_rfl)
theorem undo_pos_r12 (a : Nat) (b : Nat) (c : Nat) (n : Int) (hn : (Lit.int .u8 n).wf = true) (ρ1 : Nat → Orc) (ρ2 : Nat → Orc) (ρ3 : Nat → Orc) (ρ5 : Nat → Orc) (ρ6 : Nat → Orc) (ρ8 : Nat → Orc) (ρ10 : Nat → Orc) (ρ11 : Nat → Orc) (w0 : World) : Reg Try.prog 14 (regOps Try.f9 14) false 140 [(3, (.int .u8 n)), (5, (.pointer (some ⟨nb ρ1 1, 0, none⟩))), (6, (.pointer (some ⟨nb ρ1 2, 0, none⟩))), (8, (.bool false)), (19, (.pointer (some ⟨nb ρ8 9, 0, none⟩))), (21, (.pointer (some ⟨nb ρ10 6, 0, none⟩))), (23, (.pointer (some ⟨nb ρ11 6, 0, none⟩))), (24, (.bool false))] w0 [(nb ρ1 0, (.cells (cU a) 24 (0, 0))), (nb ρ1 1, (.cells (cU b) 24 (0, 0))), (nb ρ1 2, (.cells (cU c) 24 (0, 0))), (nb ρ2 6, (.cells (cU ((a + b) % M)) 24 (0, 0))), (nb ρ3 6, (.cells (cU ((((a + b) % M) + M - b) % M)) 24 (0, 0))), (nb ρ5 6, (.cells (cU ((a * b) / M)) 24 (0, 0))), (nb ρ5 7, (.cells (cU ((a * b) % M)) 24 (0, 0))), (nb ρ6 8, (.cells (cU (divQ ((a * b) / M) ((a * b) % M) b)) 24 (0, 0))), (nb ρ6 9, (.cells (cU (divR ((a * b) / M) ((a * b) % M) b)) 24 (0, 0))), (nb ρ8 8, (.cells (cU (divQ 0 c b)) 24 (0, 0))), (nb ρ8 9, (.cells (cU (divR 0 c b)) 24 (0, 0))), (nb ρ10 6, (.cells (cU (((divQ 0 c b) * b) / M)) 24 (0, 0))), (nb ρ10 7, (.cells (cU (((divQ 0 c b) * b) % M)) 24 (0, 0))), (nb ρ11 6, (.cells (cU (((((divQ 0 c b) * b) % M) + (divR 0 c b)) % M)) 24 (0, 0)))] (fun _ => True)
    (fun _ => [(5, (.pointer (some ⟨nb ρ1 1, 0, none⟩))), (6, (.pointer (some ⟨nb ρ1 2, 0, none⟩))), (8, (.bool false)), (19, (.pointer (some ⟨nb ρ8 9, 0, none⟩))), (21, (.pointer (some ⟨nb ρ10 6, 0, none⟩))), (23, (.pointer (some ⟨nb ρ11 6, 0, none⟩))), (24, (.bool false)), (25, (.int .i64 n))])
    (fun _ => [(nb ρ1 0, (.cells (cU a) 24 (0, 0))), (nb ρ1 1, (.cells (cU b) 24 (0, 0))), (nb ρ1 2, (.cells (cU c) 24 (0, 0))), (nb ρ2 6, (.cells (cU ((a + b) % M)) 24 (0, 0))), (nb ρ3 6, (.cells (cU ((((a + b) % M) + M - b) % M)) 24 (0, 0))), (nb ρ5 6, (.cells (cU ((a * b) / M)) 24 (0, 0))), (nb ρ5 7, (.cells (cU ((a * b) % M)) 24 (0, 0))), (nb ρ6 8, (.cells (cU (divQ ((a * b) / M) ((a * b) % M) b)) 24 (0, 0))), (nb ρ6 9, (.cells (cU (divR ((a * b) / M) ((a * b) % M) b)) 24 (0, 0))), (nb ρ8 8, (.cells (cU (divQ 0 c b)) 24 (0, 0))), (nb ρ8 9, (.cells (cU (divR 0 c b)) 24 (0, 0))), (nb ρ10 6, (.cells (cU (((divQ 0 c b) * b) / M)) 24 (0, 0))), (nb ρ10 7, (.cells (cU (((divQ 0 c b) * b) % M)) 24 (0, 0))), (nb ρ11 6, (.cells (cU (((((divQ 0 c b) * b) % M) + (divR 0 c b)) % M)) 24 (0, 0)))]) := by
  refine reg_seq [0, 1, 3] [5, 6, 8, 19, 21, 23, 24, 25] 3
    (fun _ ι => ([(.int .u8 n), (.int .i64 n), (.int .i64 n)] : List Value).getD ι undef)
    (fun _ ι => ([{}, {}, {}] : List Eff).getD ι {})
    (by as_aux_lemma => kernel_rfl) (by as_aux_lemma => kernel_rfl) (fun _ => by as_aux_lemma => kernel_rfl) (fun _ => by as_aux_lemma => kernel_rfl) ⟨⟨⟨trivial, ?_⟩, ?_⟩, ?_⟩
  · exact o_run 0 [] [] (fun _ _ => []) (fun _ _ => by as_aux_lemma => kernel_rfl)
  · exact o_as 1 (fun _ => (.int .i64 (IntKind.i64.wrap (n)))) (fun _ => (.int .i64 n)) (fun _ _ => by as_aux_lemma => kernel_rfl) (fun _ => congrArg (Value.int .i64) (wrap_u8 (bounds_of_u8 hn)))
  · exact o_run 2 [] [] (fun _ _ => []) (fun _ _ => by as_aux_lemma => kernel_rfl)
theorem undo_pos_r13 (a : Nat) (b : Nat) (c : Nat) (n : Int) (hb : b < M) (hc : c < M) (hk7 : (decide (((divQ 0 c b) * b) / M = 0)) = true) (hk9 : (decide (((((divQ 0 c b) * b) % M) + (divR 0 c b)) % M = c)) = true) (hk10 : (decide ((cmpN (divR 0 c b) b) < 0)) = true) (hk11 : (decide (shrZ (shlZ (shrZ c n) n) n = shrZ c n)) = true) (ρ1 : Nat → Orc) (ρ2 : Nat → Orc) (ρ3 : Nat → Orc) (ρ5 : Nat → Orc) (ρ6 : Nat → Orc) (ρ8 : Nat → Orc) (ρ10 : Nat → Orc) (ρ11 : Nat → Orc) (w0 : World) : Reg Try.prog 15 (regOps Try.f9 15) true 140 [(5, (.pointer (some ⟨nb ρ1 1, 0, none⟩))), (6, (.pointer (some ⟨nb ρ1 2, 0, none⟩))), (8, (.bool false)), (19, (.pointer (some ⟨nb ρ8 9, 0, none⟩))), (21, (.pointer (some ⟨nb ρ10 6, 0, none⟩))), (23, (.pointer (some ⟨nb ρ11 6, 0, none⟩))), (24, (.bool false)), (25, (.int .i64 n))] w0 [(nb ρ1 0, (.cells (cU a) 24 (0, 0))), (nb ρ1 1, (.cells (cU b) 24 (0, 0))), (nb ρ1 2, (.cells (cU c) 24 (0, 0))), (nb ρ2 6, (.cells (cU ((a + b) % M)) 24 (0, 0))), (nb ρ3 6, (.cells (cU ((((a + b) % M) + M - b) % M)) 24 (0, 0))), (nb ρ5 6, (.cells (cU ((a * b) / M)) 24 (0, 0))), (nb ρ5 7, (.cells (cU ((a * b) % M)) 24 (0, 0))), (nb ρ6 8, (.cells (cU (divQ ((a * b) / M) ((a * b) % M) b)) 24 (0, 0))), (nb ρ6 9, (.cells (cU (divR ((a * b) / M) ((a * b) % M) b)) 24 (0, 0))), (nb ρ8 8, (.cells (cU (divQ 0 c b)) 24 (0, 0))), (nb ρ8 9, (.cells (cU (divR 0 c b)) 24 (0, 0))), (nb ρ10 6, (.cells (cU (((divQ 0 c b) * b) / M)) 24 (0, 0))), (nb ρ10 7, (.cells (cU (((divQ 0 c b) * b) % M)) 24 (0, 0))), (nb ρ11 6, (.cells (cU (((((divQ 0 c b) * b) % M) + (divR 0 c b)) % M)) 24 (0, 0)))] (fun _ => True)
    (fun _ => [(8, (.bool true))])
    (fun _ => [(nb ρ1 0, (.cells (cU a) 24 (0, 0))), (nb ρ1 1, (.cells (cU b) 24 (0, 0))), (nb ρ1 2, (.cells (cU c) 24 (0, 0))), (nb ρ2 6, (.cells (cU ((a + b) % M)) 24 (0, 0))), (nb ρ3 6, (.cells (cU ((((a + b) % M) + M - b) % M)) 24 (0, 0))), (nb ρ5 6, (.cells (cU ((a * b) / M)) 24 (0, 0))), (nb ρ5 7, (.cells (cU ((a * b) % M)) 24 (0, 0))), (nb ρ6 8, (.cells (cU (divQ ((a * b) / M) ((a * b) % M) b)) 24 (0, 0))), (nb ρ6 9, (.cells (cU (divR ((a * b) / M) ((a * b) % M) b)) 24 (0, 0))), (nb ρ8 8, (.cells (cU (divQ 0 c b)) 24 (0, 0))), (nb ρ8 9, (.cells (cU (divR 0 c b)) 24 (0, 0))), (nb ρ10 6, (.cells (cU (((divQ 0 c b) * b) / M)) 24 (0, 0))), (nb ρ10 7, (.cells (cU (((divQ 0 c b) * b) % M)) 24 (0, 0))), (nb ρ11 6, (.cells (cU (((((divQ 0 c b) * b) % M) + (divR 0 c b)) % M)) 24 (0, 0)))]) := by
  refine reg_drawn [0, 0, 3, 7, 15, 31, 63, 127, 255, 255, 1023, 2047, 4095, 8191, 8191, 32767, 65535, 131071, 262143, 524287, 524287, 2097151, 524287, 8388607, 524287, 33554431, 524287, 524287, 268435455, 536870911, 1073741823, 2147483647] [8] 32
    (fun _ ι => ([(U (((divQ 0 c b) * b) / M)), (U 0), (.bool true), (.bool true), (.bool false), (.bool true), (.bool true), (.bool true), (U (((((divQ 0 c b) * b) % M) + (divR 0 c b)) % M)), (U c), (.bool true), (.bool true), (.bool true), (U (divR 0 c b)), (U b), (.int .i64 (cmpN (divR 0 c b) b)), (.bool true), (.bool true), (.bool true), (U c), (.int .i64 n), (U (shrZ c n)), (.int .i64 n), (U (shlZ (shrZ c n) n)), (.int .i64 n), (U (shrZ (shlZ (shrZ c n) n) n)), (U c), (.int .i64 n), (U (shrZ c n)), (.bool true), (.bool true), (.bool true)] : List Value).getD ι undef)
    (fun _ ι => ([{}, {}, {}, {}, {}, {}, {}, {}, {}, {}, {}, {}, {}, {}, {}, {}, {}, {}, {}, {}, {}, {}, {}, {}, {}, {}, {}, {}, {}, {}, {}, {}] : List Eff).getD ι {})
    (by as_aux_lemma => kernel_rfl) (by as_aux_lemma => kernel_rfl) (by as_aux_lemma => kernel_rfl) (fun _ => by as_aux_lemma => kernel_rfl) (fun _ => by as_aux_lemma => kernel_rfl) ⟨⟨⟨⟨⟨⟨⟨⟨⟨⟨⟨⟨⟨⟨⟨⟨⟨⟨⟨⟨⟨⟨⟨⟨⟨⟨⟨⟨⟨⟨⟨⟨trivial, ?_⟩, ?_⟩, ?_⟩, ?_⟩, ?_⟩, ?_⟩, ?_⟩, ?_⟩, ?_⟩, ?_⟩, ?_⟩, ?_⟩, ?_⟩, ?_⟩, ?_⟩, ?_⟩, ?_⟩, ?_⟩, ?_⟩, ?_⟩, ?_⟩, ?_⟩, ?_⟩, ?_⟩, ?_⟩, ?_⟩, ?_⟩, ?_⟩, ?_⟩, ?_⟩, ?_⟩, ?_⟩
  · exact o_run 0 [11] [] (fun _ _ => [nb ρ10 6, nb ρ10 6, nb ρ10 6, nb ρ10 6]) (fun _ _ => by as_aux_lemma => kernel_rfl)
  · exact o_run 1 [] [] (fun _ _ => []) (fun _ _ => by as_aux_lemma => kernel_rfl)
  · exact o_bin 2 .eql 24 (fun _ => (U (((divQ 0 c b) * b) / M))) (fun _ => (U 0)) (fun _ => (.bool true)) (fun _ => by as_aux_lemma => kernel_rfl) (fun _ _ _ _ => by as_aux_lemma => kernel_rfl) (fun _ _ => (eqlU (((divQ 0 c b) * b) / M) 0 (mulhi_lt (divQ_lt _ _ _ hc) hb) (by decide +kernel) _).trans (by rw [hk7]; try rfl))
  · exact o_run 3 [] [] (fun _ _ => []) (fun _ _ => by as_aux_lemma => kernel_rfl)
  · exact o_run 4 [] [] (fun _ _ => []) (fun _ _ => by as_aux_lemma => kernel_rfl)
  · exact o_run 5 [] [] (fun _ _ => []) (fun _ _ => by as_aux_lemma => kernel_rfl)
  · exact o_run 6 [] [] (fun _ _ => []) (fun _ _ => by as_aux_lemma => kernel_rfl)
  · exact o_run 7 [] [] (fun _ _ => []) (fun _ _ => by as_aux_lemma => kernel_rfl)
  · exact o_run 8 [13] [] (fun _ _ => [nb ρ11 6, nb ρ11 6, nb ρ11 6, nb ρ11 6]) (fun _ _ => by as_aux_lemma => kernel_rfl)
  · exact o_run 9 [2] [] (fun _ _ => [nb ρ1 2, nb ρ1 2, nb ρ1 2, nb ρ1 2]) (fun _ _ => by as_aux_lemma => kernel_rfl)
  · exact o_bin 10 .eql 24 (fun _ => (U (((((divQ 0 c b) * b) % M) + (divR 0 c b)) % M))) (fun _ => (U c)) (fun _ => (.bool true)) (fun _ => by as_aux_lemma => kernel_rfl) (fun _ _ _ _ => by as_aux_lemma => kernel_rfl) (fun _ _ => (eqlU (((((divQ 0 c b) * b) % M) + (divR 0 c b)) % M) c (modM_lt _) hc _).trans (by rw [hk9]; try rfl))
  · exact o_run 11 [] [] (fun _ _ => []) (fun _ _ => by as_aux_lemma => kernel_rfl)
  · exact o_run 12 [] [] (fun _ _ => []) (fun _ _ => by as_aux_lemma => kernel_rfl)
  · exact o_run 13 [10] [] (fun _ _ => [nb ρ8 9, nb ρ8 9, nb ρ8 9, nb ρ8 9]) (fun _ _ => by as_aux_lemma => kernel_rfl)
  · exact o_run 14 [1] [] (fun _ _ => [nb ρ1 1, nb ρ1 1, nb ρ1 1, nb ρ1 1]) (fun _ _ => by as_aux_lemma => kernel_rfl)
  · exact o_call 15 16 (fun _ => #[(U (divR 0 c b)), (U b)]) (fun _ => (.int .i64 (cmpN (divR 0 c b) b))) (fun _ _ => by as_aux_lemma => kernel_rfl) (fun _ w => (fun w => cmp_any (divR 0 c b) b w (divR_lt _ _ _ hb) hb) w)
  · exact o_as 16 (fun _ => (.bool (decide ((cmpN (divR 0 c b) b) < 0)))) (fun _ => (.bool true)) (fun _ _ => by as_aux_lemma => kernel_rfl) (fun _ => congrArg Value.bool hk10)
  · exact o_run 17 [] [] (fun _ _ => []) (fun _ _ => by as_aux_lemma => kernel_rfl)
  · exact o_run 18 [] [] (fun _ _ => []) (fun _ _ => by as_aux_lemma => kernel_rfl)
  · exact o_run 19 [2] [] (fun _ _ => [nb ρ1 2, nb ρ1 2, nb ρ1 2, nb ρ1 2]) (fun _ _ => by as_aux_lemma => kernel_rfl)
  · exact o_run 20 [] [] (fun _ _ => []) (fun _ _ => by as_aux_lemma => kernel_rfl)
  · exact o_call 21 30 (fun _ => #[(U c), (.int .i64 n)]) (fun _ => (U (shrZ c n))) (fun _ _ => by as_aux_lemma => kernel_rfl) (fun _ w => (fun w => shr_any c n w hc) w)
  · exact o_run 22 [] [] (fun _ _ => []) (fun _ _ => by as_aux_lemma => kernel_rfl)
  · exact o_call 23 28 (fun _ => #[(U (shrZ c n)), (.int .i64 n)]) (fun _ => (U (shlZ (shrZ c n) n))) (fun _ _ => by as_aux_lemma => kernel_rfl) (fun _ w => (fun w => shl_any (shrZ c n) n w (shrZ_lt _ hc)) w)
  · exact o_run 24 [] [] (fun _ _ => []) (fun _ _ => by as_aux_lemma => kernel_rfl)
  · exact o_call 25 30 (fun _ => #[(U (shlZ (shrZ c n) n)), (.int .i64 n)]) (fun _ => (U (shrZ (shlZ (shrZ c n) n) n))) (fun _ _ => by as_aux_lemma => kernel_rfl) (fun _ w => (fun w => shr_any (shlZ (shrZ c n) n) n w (shlZ_lt _ (shrZ_lt _ hc))) w)
  · exact o_run 26 [2] [] (fun _ _ => [nb ρ1 2, nb ρ1 2, nb ρ1 2, nb ρ1 2]) (fun _ _ => by as_aux_lemma => kernel_rfl)
  · exact o_run 27 [] [] (fun _ _ => []) (fun _ _ => by as_aux_lemma => kernel_rfl)
  · exact o_call 28 30 (fun _ => #[(U c), (.int .i64 n)]) (fun _ => (U (shrZ c n))) (fun _ _ => by as_aux_lemma => kernel_rfl) (fun _ w => (fun w => shr_any c n w hc) w)
  · exact o_bin 29 .eql 24 (fun _ => (U (shrZ (shlZ (shrZ c n) n) n))) (fun _ => (U (shrZ c n))) (fun _ => (.bool true)) (fun _ => by as_aux_lemma => kernel_rfl) (fun _ _ _ _ => by as_aux_lemma => kernel_rfl) (fun _ _ => (eqlU (shrZ (shlZ (shrZ c n) n) n) (shrZ c n) (shrZ_lt _ (shlZ_lt _ (shrZ_lt _ hc))) (shrZ_lt _ hc) _).trans (by rw [hk11]; try rfl))
  · exact o_run 30 [] [] (fun _ _ => []) (fun _ _ => by as_aux_lemma => kernel_rfl)
  · exact o_run 31 [] [] (fun _ _ => []) (fun _ _ => by as_aux_lemma => kernel_rfl)
theorem undo_pos (a : Nat) (b : Nat) (c : Nat) (n : Int) (ha : a < M) (hb : b < M) (hc : c < M) (hn : (Lit.int .u8 n).wf = true) (h0 : 0 < b) (w0 : World) : Calls Try.prog 9 #[(U a), (U b), (U c), (.int .u8 n)] w0 (fun ε w' => ε = .returned (.bool true) ∧ Below w0.heap.size w0 w') := by
  refine Calls.of_ok (n := 140) (F := fun _ => True) Try.func9 rfl rfl rfl (by simp) (persTrue (fun _ => trivial)) ?_
  have hk0 : (decide ((((a + b) % M) + M - b) % M = a)) = true := decide_eq_true (undo_sub ha hb)
  have hk1 : ((decide (M ≤ a + b)) != (decide (((a + b) % M) < b))) = false := undo_over ha hb
  have hk2 : (decide (0 < (cmpN b 0))) = true := decide_eq_true (cmp_pos h0)
  have hk3 : (decide (((a * b) / M) < b)) = true := decide_eq_true (mul_lt_b ha h0)
  have hk4 : (decide (divQ ((a * b) / M) ((a * b) % M) b = a)) = true := decide_eq_true (undo_q ha h0)
  have hk5 : (decide (divR ((a * b) / M) ((a * b) % M) b = 0)) = true := decide_eq_true (undo_r ha h0)
  have hk6 : (decide (0 < b)) = true := decide_eq_true (h0)
  have hk7 : (decide (((divQ 0 c b) * b) / M = 0)) = true := decide_eq_true (undo_top hc h0)
  have hk8 : (decide (M ≤ (((divQ 0 c b) * b) % M) + (divR 0 c b))) = false := decide_eq_false (undo_carry hc h0)
  have hk9 : (decide (((((divQ 0 c b) * b) % M) + (divR 0 c b)) % M = c)) = true := decide_eq_true (undo_sum hc h0)
  have hk10 : (decide ((cmpN (divR 0 c b) b) < 0)) = true := decide_eq_true (undo_cmp hc h0)
  have hk11 : (decide (shrZ (shlZ (shrZ c n) n) n = shrZ c n)) = true := decide_eq_true (undo_shift n hc)
  refine ok_seq_r (by as_aux_lemma => kernel_rfl) (undo_pos_r1 a b c n _) (fun ρ1 => ?_)
  refine ok_seq_r (by as_aux_lemma => kernel_rfl) (undo_pos_r2 a b c n ha hb ρ1 _) (fun ρ2 => ?_)
  refine ok_seq_r (by as_aux_lemma => kernel_rfl) (undo_pos_r3 a b c n hb ρ1 ρ2 _) (fun ρ3 => ?_)
  refine ok_seq ?_
  refine ok_seq_r (by as_aux_lemma => kernel_rfl) (undo_pos_r4 a b c n ha hk0 hk1 ρ1 ρ2 ρ3 _) (fun _ => ?_)
  refine ok_no (by as_aux_lemma => kernel_rfl) ?_
  refine ok_skip ?_
  refine mt_then ?_
  refine ok_seq_r (by as_aux_lemma => kernel_rfl) (undo_pos_r5 a b c n ha hb ρ1 ρ2 ρ3 _) (fun ρ5 => ?_)
  refine ok_seq ?_
  refine ok_seq_r (by as_aux_lemma => kernel_rfl) (undo_pos_r6 a b c n ha hb hk3 ρ1 ρ2 ρ3 ρ5 _) (fun ρ6 => ?_)
  refine ok_seq_r (by as_aux_lemma => kernel_rfl) (undo_pos_r7 a b c n ha hb hk2 hk4 hk5 ρ1 ρ2 ρ3 ρ5 ρ6 _) (fun _ => ?_)
  refine ok_no (by as_aux_lemma => kernel_rfl) ?_
  refine ok_skip ?_
  refine mt_then ?_
  refine ok_seq_r (by as_aux_lemma => kernel_rfl) (undo_pos_r8 a b c n hb hc hk6 ρ1 ρ2 ρ3 ρ5 ρ6 _) (fun ρ8 => ?_)
  refine ok_seq ?_
  refine ok_seq_r (by as_aux_lemma => kernel_rfl) (undo_pos_r9 a b c n ρ1 ρ2 ρ3 ρ5 ρ6 ρ8 _) (fun _ => ?_)
  refine ok_no (by as_aux_lemma => kernel_rfl) ?_
  refine ok_skip ?_
  refine mt_then ?_
  refine ok_seq_r (by as_aux_lemma => kernel_rfl) (undo_pos_r10 a b c n hb hc ρ1 ρ2 ρ3 ρ5 ρ6 ρ8 _) (fun ρ10 => ?_)
  refine ok_seq_r (by as_aux_lemma => kernel_rfl) (undo_pos_r11 a b c n hb hk8 ρ1 ρ2 ρ3 ρ5 ρ6 ρ8 ρ10 _) (fun ρ11 => ?_)
  refine ok_seq_r (by as_aux_lemma => kernel_rfl) (undo_pos_r12 a b c n hn ρ1 ρ2 ρ3 ρ5 ρ6 ρ8 ρ10 ρ11 _) (fun _ => ?_)
  refine ok_seq_r (by as_aux_lemma => kernel_rfl) (undo_pos_r13 a b c n hb hc hk7 hk9 hk10 hk11 ρ1 ρ2 ρ3 ρ5 ρ6 ρ8 ρ10 ρ11 _) (fun _ => ?_)
  refine ok_ret ?_
  exact meets_ret (v := (.bool true)) [] (dup []) (by as_aux_lemma => kernel_rfl) (by as_aux_lemma => kernel_rfl) (eqs_dup _) (fun _ hS => ⟨rfl, hS.below⟩)
theorem undo_zero_r1 (a : Nat) (c : Nat) (n : Int) (w0 : World) : Reg Try.prog 0 (regOps Try.f9 0) false 140 [(0, (U a)), (1, (U 0)), (2, (U c)), (3, (.int .u8 n))] w0 [] (fun _ => True)
    (fun ρ => [(3, (.int .u8 n)), (4, (.pointer (some ⟨nb ρ 0, 0, none⟩))), (5, (.pointer (some ⟨nb ρ 1, 0, none⟩))), (6, (.pointer (some ⟨nb ρ 2, 0, none⟩))), (8, (.bool false))])
    (fun ρ => [(nb ρ 0, (.cells (cU a) 24 (0, 0))), (nb ρ 1, (.cells (cU 0) 24 (0, 0))), (nb ρ 2, (.cells (cU c) 24 (0, 0)))]) := by
  refine reg_seq [0, 1, 3, 7] [3, 4, 5, 6, 8] 4
    (fun ρ ι => ([(.pointer (some ⟨nb ρ 0, 0, none⟩)), (.pointer (some ⟨nb ρ 1, 0, none⟩)), (.pointer (some ⟨nb ρ 2, 0, none⟩)), (.bool false)] : List Value).getD ι undef)
    (fun ρ ι => ([{ news := [(nb ρ 0, (.cells (cU a) 24 (0, 0)))] }, { news := [(nb ρ 1, (.cells (cU 0) 24 (0, 0)))] }, { news := [(nb ρ 2, (.cells (cU c) 24 (0, 0)))] }, {}] : List Eff).getD ι {})
    (by as_aux_lemma => kernel_rfl) (by as_aux_lemma => kernel_rfl) (fun _ => by as_aux_lemma => kernel_rfl) (fun _ => by as_aux_lemma => kernel_rfl) ⟨⟨⟨⟨trivial, ?_⟩, ?_⟩, ?_⟩, ?_⟩
  · exact o_run 0 [] [] (fun _ _ => []) (fun _ _ => by as_aux_lemma => kernel_rfl)
  · exact o_run 1 [] [] (fun _ _ => []) (fun _ _ => by as_aux_lemma => kernel_rfl)
  · exact o_run 2 [] [] (fun _ _ => []) (fun _ _ => by as_aux_lemma => kernel_rfl)
  · exact o_run 3 [] [] (fun _ _ => []) (fun _ _ => by as_aux_lemma => kernel_rfl)
theorem undo_zero_r2 (a : Nat) (c : Nat) (n : Int) (ha : a < M) (ρ1 : Nat → Orc) (w0 : World) : Reg Try.prog 1 (regOps Try.f9 1) false 140 [(3, (.int .u8 n)), (4, (.pointer (some ⟨nb ρ1 0, 0, none⟩))), (5, (.pointer (some ⟨nb ρ1 1, 0, none⟩))), (6, (.pointer (some ⟨nb ρ1 2, 0, none⟩))), (8, (.bool false))] w0 [(nb ρ1 0, (.cells (cU a) 24 (0, 0))), (nb ρ1 1, (.cells (cU 0) 24 (0, 0))), (nb ρ1 2, (.cells (cU c) 24 (0, 0)))] (fun _ => True)
    (fun ρ => [(3, (.int .u8 n)), (4, (.pointer (some ⟨nb ρ1 0, 0, none⟩))), (5, (.pointer (some ⟨nb ρ1 1, 0, none⟩))), (6, (.pointer (some ⟨nb ρ1 2, 0, none⟩))), (8, (.bool false)), (9, (.pointer (some ⟨nb ρ 6, 0, none⟩))), (10, (.bool (decide (M ≤ a + 0))))])
    (fun ρ => [(nb ρ1 0, (.cells (cU a) 24 (0, 0))), (nb ρ1 1, (.cells (cU 0) 24 (0, 0))), (nb ρ1 2, (.cells (cU c) 24 (0, 0))), (nb ρ 6, (.cells (cU ((a + 0) % M)) 24 (0, 0)))]) := by
  refine reg_seq [0, 1, 3, 7, 15, 31, 63, 127, 255] [3, 4, 5, 6, 8, 9, 10] 9
    (fun ρ ι => ([(U a), (U 0), (.tuple #[(U ((a + 0) % M)), (.bool (decide (M ≤ a + 0)))]), (.tuple #[(U ((a + 0) % M)), (.bool (decide (M ≤ a + 0)))]), (U ((a + 0) % M)), (.bool (decide (M ≤ a + 0))), (.pointer (some ⟨nb ρ 6, 0, none⟩)), undef, (.bool (decide (M ≤ a + 0)))] : List Value).getD ι undef)
    (fun ρ ι => ([{}, {}, {}, {}, {}, {}, { news := [(nb ρ 6, (.cells (cU 0) 24 (0, 0)))] }, { puts := [(51, (.cells (cU ((a + 0) % M)) 24 (0, 0)))] }, {}] : List Eff).getD ι {})
    (by as_aux_lemma => kernel_rfl) (by as_aux_lemma => kernel_rfl) (fun _ => by as_aux_lemma => kernel_rfl) (fun _ => by as_aux_lemma => kernel_rfl) ⟨⟨⟨⟨⟨⟨⟨⟨⟨trivial, ?_⟩, ?_⟩, ?_⟩, ?_⟩, ?_⟩, ?_⟩, ?_⟩, ?_⟩, ?_⟩
  · exact o_run 0 [0] [] (fun _ _ => [nb ρ1 0, nb ρ1 0, nb ρ1 0, nb ρ1 0]) (fun _ _ => by as_aux_lemma => kernel_rfl)
  · exact o_run 1 [1] [] (fun _ _ => [nb ρ1 1, nb ρ1 1, nb ρ1 1, nb ρ1 1]) (fun _ _ => by as_aux_lemma => kernel_rfl)
  · exact o_call 2 32 (fun _ => #[(U a), (U 0)]) (fun _ => (.tuple #[(U ((a + 0) % M)), (.bool (decide (M ≤ a + 0)))])) (fun _ _ => by as_aux_lemma => kernel_rfl) (fun _ w => (fun w => add_any a 0 w ha (by decide +kernel)) w)
  · exact o_run 3 [] [] (fun _ _ => []) (fun _ _ => by as_aux_lemma => kernel_rfl)
  · exact o_run 4 [] [] (fun _ _ => []) (fun _ _ => by as_aux_lemma => kernel_rfl)
  · exact o_run 5 [] [] (fun _ _ => []) (fun _ _ => by as_aux_lemma => kernel_rfl)
  · exact o_run 6 [] [] (fun _ _ => []) (fun _ _ => by as_aux_lemma => kernel_rfl)
  · exact o_run 7 [51] [] (fun ρ _ => [nb ρ 6, nb ρ 6, nb ρ 6, nb ρ 6]) (fun _ _ => by as_aux_lemma => kernel_rfl)
  · exact o_run 8 [] [] (fun _ _ => []) (fun _ _ => by as_aux_lemma => kernel_rfl)
theorem undo_zero_r3 (a : Nat) (c : Nat) (n : Int) (ρ1 : Nat → Orc) (ρ2 : Nat → Orc) (w0 : World) : Reg Try.prog 2 (regOps Try.f9 2) false 140 [(3, (.int .u8 n)), (4, (.pointer (some ⟨nb ρ1 0, 0, none⟩))), (5, (.pointer (some ⟨nb ρ1 1, 0, none⟩))), (6, (.pointer (some ⟨nb ρ1 2, 0, none⟩))), (8, (.bool false)), (9, (.pointer (some ⟨nb ρ2 6, 0, none⟩))), (10, (.bool (decide (M ≤ a + 0))))] w0 [(nb ρ1 0, (.cells (cU a) 24 (0, 0))), (nb ρ1 1, (.cells (cU 0) 24 (0, 0))), (nb ρ1 2, (.cells (cU c) 24 (0, 0))), (nb ρ2 6, (.cells (cU ((a + 0) % M)) 24 (0, 0)))] (fun _ => True)
    (fun ρ => [(3, (.int .u8 n)), (4, (.pointer (some ⟨nb ρ1 0, 0, none⟩))), (5, (.pointer (some ⟨nb ρ1 1, 0, none⟩))), (6, (.pointer (some ⟨nb ρ1 2, 0, none⟩))), (8, (.bool false)), (10, (.bool (decide (M ≤ a + 0)))), (11, (.pointer (some ⟨nb ρ 6, 0, none⟩))), (12, (.bool (decide (((a + 0) % M) < 0))))])
    (fun ρ => [(nb ρ1 0, (.cells (cU a) 24 (0, 0))), (nb ρ1 1, (.cells (cU 0) 24 (0, 0))), (nb ρ1 2, (.cells (cU c) 24 (0, 0))), (nb ρ2 6, (.cells (cU ((a + 0) % M)) 24 (0, 0))), (nb ρ 6, (.cells (cU ((((a + 0) % M) + M - 0) % M)) 24 (0, 0)))]) := by
  refine reg_seq [0, 1, 3, 7, 15, 31, 63, 127, 255] [3, 4, 5, 6, 8, 10, 11, 12] 9
    (fun ρ ι => ([(U ((a + 0) % M)), (U 0), (.tuple #[(U ((((a + 0) % M) + M - 0) % M)), (.bool (decide (((a + 0) % M) < 0)))]), (.tuple #[(U ((((a + 0) % M) + M - 0) % M)), (.bool (decide (((a + 0) % M) < 0)))]), (U ((((a + 0) % M) + M - 0) % M)), (.bool (decide (((a + 0) % M) < 0))), (.pointer (some ⟨nb ρ 6, 0, none⟩)), undef, (.bool (decide (((a + 0) % M) < 0)))] : List Value).getD ι undef)
    (fun ρ ι => ([{}, {}, {}, {}, {}, {}, { news := [(nb ρ 6, (.cells (cU 0) 24 (0, 0)))] }, { puts := [(52, (.cells (cU ((((a + 0) % M) + M - 0) % M)) 24 (0, 0)))] }, {}] : List Eff).getD ι {})
    (by as_aux_lemma => kernel_rfl) (by as_aux_lemma => kernel_rfl) (fun _ => by as_aux_lemma => kernel_rfl) (fun _ => by as_aux_lemma => kernel_rfl) ⟨⟨⟨⟨⟨⟨⟨⟨⟨trivial, ?_⟩, ?_⟩, ?_⟩, ?_⟩, ?_⟩, ?_⟩, ?_⟩, ?_⟩, ?_⟩
  · exact o_run 0 [3] [] (fun _ _ => [nb ρ2 6, nb ρ2 6, nb ρ2 6, nb ρ2 6]) (fun _ _ => by as_aux_lemma => kernel_rfl)
  · exact o_run 1 [1] [] (fun _ _ => [nb ρ1 1, nb ρ1 1, nb ρ1 1, nb ρ1 1]) (fun _ _ => by as_aux_lemma => kernel_rfl)
  · exact o_call 2 15 (fun _ => #[(U ((a + 0) % M)), (U 0)]) (fun _ => (.tuple #[(U ((((a + 0) % M) + M - 0) % M)), (.bool (decide (((a + 0) % M) < 0)))])) (fun _ _ => by as_aux_lemma => kernel_rfl) (fun _ w => (fun w => sub_any ((a + 0) % M) 0 w (modM_lt _) (by decide +kernel)) w)
  · exact o_run 3 [] [] (fun _ _ => []) (fun _ _ => by as_aux_lemma => kernel_rfl)
  · exact o_run 4 [] [] (fun _ _ => []) (fun _ _ => by as_aux_lemma => kernel_rfl)
  · exact o_run 5 [] [] (fun _ _ => []) (fun _ _ => by as_aux_lemma => kernel_rfl)
  · exact o_run 6 [] [] (fun _ _ => []) (fun _ _ => by as_aux_lemma => kernel_rfl)
  · exact o_run 7 [52] [] (fun ρ _ => [nb ρ 6, nb ρ 6, nb ρ 6, nb ρ 6]) (fun _ _ => by as_aux_lemma => kernel_rfl)
  · exact o_run 8 [] [] (fun _ _ => []) (fun _ _ => by as_aux_lemma => kernel_rfl)
theorem undo_zero_r4 (a : Nat) (c : Nat) (n : Int) (ha : a < M) (hk0 : (decide ((((a + 0) % M) + M - 0) % M = a)) = true) (hk1 : ((decide (M ≤ a + 0)) != (decide (((a + 0) % M) < 0))) = false) (ρ1 : Nat → Orc) (ρ2 : Nat → Orc) (ρ3 : Nat → Orc) (w0 : World) : Reg Try.prog 3 (regOps Try.f9 3) false 140 [(3, (.int .u8 n)), (4, (.pointer (some ⟨nb ρ1 0, 0, none⟩))), (5, (.pointer (some ⟨nb ρ1 1, 0, none⟩))), (6, (.pointer (some ⟨nb ρ1 2, 0, none⟩))), (8, (.bool false)), (10, (.bool (decide (M ≤ a + 0)))), (11, (.pointer (some ⟨nb ρ3 6, 0, none⟩))), (12, (.bool (decide (((a + 0) % M) < 0))))] w0 [(nb ρ1 0, (.cells (cU a) 24 (0, 0))), (nb ρ1 1, (.cells (cU 0) 24 (0, 0))), (nb ρ1 2, (.cells (cU c) 24 (0, 0))), (nb ρ2 6, (.cells (cU ((a + 0) % M)) 24 (0, 0))), (nb ρ3 6, (.cells (cU ((((a + 0) % M) + M - 0) % M)) 24 (0, 0)))] (fun _ => True)
    (fun _ => [(3, (.int .u8 n)), (4, (.pointer (some ⟨nb ρ1 0, 0, none⟩))), (5, (.pointer (some ⟨nb ρ1 1, 0, none⟩))), (6, (.pointer (some ⟨nb ρ1 2, 0, none⟩))), (8, (.bool false)), (49, (.bool false))])
    (fun _ => [(nb ρ1 0, (.cells (cU a) 24 (0, 0))), (nb ρ1 1, (.cells (cU 0) 24 (0, 0))), (nb ρ1 2, (.cells (cU c) 24 (0, 0))), (nb ρ2 6, (.cells (cU ((a + 0) % M)) 24 (0, 0))), (nb ρ3 6, (.cells (cU ((((a + 0) % M) + M - 0) % M)) 24 (0, 0)))]) := by
  refine reg_seq [0, 1, 3, 7, 15, 31, 63, 127, 255, 511, 1023, 2047] [3, 4, 5, 6, 8, 49] 12
    (fun _ ι => ([(.bool true), (.bool false), (.bool false), (U ((((a + 0) % M) + M - 0) % M)), (U a), (.bool false), (.bool false), (.bool false), (.bool (decide (M ≤ a + 0))), (.bool (decide (((a + 0) % M) < 0))), (.bool false), (.bool false)] : List Value).getD ι undef)
    (fun _ ι => ([{}, {}, {}, {}, {}, {}, {}, {}, {}, {}, {}, {}] : List Eff).getD ι {})
    (by as_aux_lemma => kernel_rfl) (by as_aux_lemma => kernel_rfl) (fun _ => by as_aux_lemma => kernel_rfl) (fun _ => by as_aux_lemma => kernel_rfl) ⟨⟨⟨⟨⟨⟨⟨⟨⟨⟨⟨⟨trivial, ?_⟩, ?_⟩, ?_⟩, ?_⟩, ?_⟩, ?_⟩, ?_⟩, ?_⟩, ?_⟩, ?_⟩, ?_⟩, ?_⟩
  · exact o_call 0 17 (fun _ => #[]) (fun _ => (.bool true)) (fun _ _ => by as_aux_lemma => kernel_rfl) (fun _ w => (fun w => sane_any w) w)
  · exact o_run 1 [] [] (fun _ _ => []) (fun _ _ => by as_aux_lemma => kernel_rfl)
  · exact o_run 2 [] [] (fun _ _ => []) (fun _ _ => by as_aux_lemma => kernel_rfl)
  · exact o_run 3 [4] [] (fun _ _ => [nb ρ3 6, nb ρ3 6, nb ρ3 6, nb ρ3 6]) (fun _ _ => by as_aux_lemma => kernel_rfl)
  · exact o_run 4 [0] [] (fun _ _ => [nb ρ1 0, nb ρ1 0, nb ρ1 0, nb ρ1 0]) (fun _ _ => by as_aux_lemma => kernel_rfl)
  · exact o_bin 5 .neq 24 (fun _ => (U ((((a + 0) % M) + M - 0) % M))) (fun _ => (U a)) (fun _ => (.bool false)) (fun _ => by as_aux_lemma => kernel_rfl) (fun _ _ _ _ => by as_aux_lemma => kernel_rfl) (fun _ _ => (neqU ((((a + 0) % M) + M - 0) % M) a (modM_lt _) ha _).trans (by rw [hk0]; try rfl))
  · exact o_run 6 [] [] (fun _ _ => []) (fun _ _ => by as_aux_lemma => kernel_rfl)
  · exact o_run 7 [] [] (fun _ _ => []) (fun _ _ => by as_aux_lemma => kernel_rfl)
  · exact o_run 8 [] [] (fun _ _ => []) (fun _ _ => by as_aux_lemma => kernel_rfl)
  · exact o_run 9 [] [] (fun _ _ => []) (fun _ _ => by as_aux_lemma => kernel_rfl)
  · exact o_as 10 (fun _ => (.bool ((decide (M ≤ a + 0)) != (decide (((a + 0) % M) < 0))))) (fun _ => (.bool false)) (fun _ _ => by as_aux_lemma => kernel_rfl) (fun _ => congrArg Value.bool hk1)
  · exact o_run 11 [] [] (fun _ _ => []) (fun _ _ => by as_aux_lemma => kernel_rfl)
theorem undo_zero_r5 (a : Nat) (c : Nat) (n : Int) (ha : a < M) (ρ1 : Nat → Orc) (ρ2 : Nat → Orc) (ρ3 : Nat → Orc) (w0 : World) : Reg Try.prog 5 (regOps Try.f9 5) false 140 [(3, (.int .u8 n)), (4, (.pointer (some ⟨nb ρ1 0, 0, none⟩))), (5, (.pointer (some ⟨nb ρ1 1, 0, none⟩))), (6, (.pointer (some ⟨nb ρ1 2, 0, none⟩))), (8, (.bool false)), (49, (.bool false))] w0 [(nb ρ1 0, (.cells (cU a) 24 (0, 0))), (nb ρ1 1, (.cells (cU 0) 24 (0, 0))), (nb ρ1 2, (.cells (cU c) 24 (0, 0))), (nb ρ2 6, (.cells (cU ((a + 0) % M)) 24 (0, 0))), (nb ρ3 6, (.cells (cU ((((a + 0) % M) + M - 0) % M)) 24 (0, 0)))] (fun _ => True)
    (fun ρ => [(3, (.int .u8 n)), (4, (.pointer (some ⟨nb ρ1 0, 0, none⟩))), (5, (.pointer (some ⟨nb ρ1 1, 0, none⟩))), (6, (.pointer (some ⟨nb ρ1 2, 0, none⟩))), (8, (.bool false)), (13, (.pointer (some ⟨nb ρ 6, 0, none⟩))), (14, (.pointer (some ⟨nb ρ 7, 0, none⟩)))])
    (fun ρ => [(nb ρ1 0, (.cells (cU a) 24 (0, 0))), (nb ρ1 1, (.cells (cU 0) 24 (0, 0))), (nb ρ1 2, (.cells (cU c) 24 (0, 0))), (nb ρ2 6, (.cells (cU ((a + 0) % M)) 24 (0, 0))), (nb ρ3 6, (.cells (cU ((((a + 0) % M) + M - 0) % M)) 24 (0, 0))), (nb ρ 6, (.cells (cU ((a * 0) / M)) 24 (0, 0))), (nb ρ 7, (.cells (cU ((a * 0) % M)) 24 (0, 0)))]) := by
  refine reg_seq [0, 1, 3, 7, 15, 31, 63, 127, 255, 511] [3, 4, 5, 6, 8, 13, 14] 10
    (fun ρ ι => ([(U a), (U 0), (.tuple #[(U ((a * 0) / M)), (U ((a * 0) % M))]), (.tuple #[(U ((a * 0) / M)), (U ((a * 0) % M))]), (U ((a * 0) / M)), (U ((a * 0) % M)), (.pointer (some ⟨nb ρ 6, 0, none⟩)), (.pointer (some ⟨nb ρ 7, 0, none⟩)), undef, undef] : List Value).getD ι undef)
    (fun ρ ι => ([{}, {}, {}, {}, {}, {}, { news := [(nb ρ 6, (.cells (cU 0) 24 (0, 0)))] }, { news := [(nb ρ 7, (.cells (cU 0) 24 (0, 0)))] }, { puts := [(53, (.cells (cU ((a * 0) / M)) 24 (0, 0)))] }, { puts := [(61, (.cells (cU ((a * 0) % M)) 24 (0, 0)))] }] : List Eff).getD ι {})
    (by as_aux_lemma => kernel_rfl) (by as_aux_lemma => kernel_rfl) (fun _ => by as_aux_lemma => kernel_rfl) (fun _ => by as_aux_lemma => kernel_rfl) ⟨⟨⟨⟨⟨⟨⟨⟨⟨⟨trivial, ?_⟩, ?_⟩, ?_⟩, ?_⟩, ?_⟩, ?_⟩, ?_⟩, ?_⟩, ?_⟩, ?_⟩
  · exact o_run 0 [0] [] (fun _ _ => [nb ρ1 0, nb ρ1 0, nb ρ1 0, nb ρ1 0]) (fun _ _ => by as_aux_lemma => kernel_rfl)
  · exact o_run 1 [1] [] (fun _ _ => [nb ρ1 1, nb ρ1 1, nb ρ1 1, nb ρ1 1]) (fun _ _ => by as_aux_lemma => kernel_rfl)
  · exact o_call 2 35 (fun _ => #[(U a), (U 0)]) (fun _ => (.tuple #[(U ((a * 0) / M)), (U ((a * 0) % M))])) (fun _ _ => by as_aux_lemma => kernel_rfl) (fun _ w => (fun w => mul_any a 0 w ha (by decide +kernel)) w)
  · exact o_run 3 [] [] (fun _ _ => []) (fun _ _ => by as_aux_lemma => kernel_rfl)
  · exact o_run 4 [] [] (fun _ _ => []) (fun _ _ => by as_aux_lemma => kernel_rfl)
  · exact o_run 5 [] [] (fun _ _ => []) (fun _ _ => by as_aux_lemma => kernel_rfl)
  · exact o_run 6 [] [] (fun _ _ => []) (fun _ _ => by as_aux_lemma => kernel_rfl)
  · exact o_run 7 [] [] (fun _ _ => []) (fun _ _ => by as_aux_lemma => kernel_rfl)
  · exact o_run 8 [53] [] (fun ρ _ => [nb ρ 6, nb ρ 6, nb ρ 6, nb ρ 6]) (fun _ _ => by as_aux_lemma => kernel_rfl)
  · exact o_run 9 [61] [] (fun ρ _ => [nb ρ 7, nb ρ 7, nb ρ 7, nb ρ 7]) (fun _ _ => by as_aux_lemma => kernel_rfl)
theorem undo_zero_r6 (a : Nat) (c : Nat) (n : Int) (ha : a < M) (ρ1 : Nat → Orc) (ρ2 : Nat → Orc) (ρ3 : Nat → Orc) (ρ5 : Nat → Orc) (w0 : World) : Reg Try.prog 6 (regOps Try.f9 6) false 140 [(3, (.int .u8 n)), (4, (.pointer (some ⟨nb ρ1 0, 0, none⟩))), (5, (.pointer (some ⟨nb ρ1 1, 0, none⟩))), (6, (.pointer (some ⟨nb ρ1 2, 0, none⟩))), (8, (.bool false)), (13, (.pointer (some ⟨nb ρ5 6, 0, none⟩))), (14, (.pointer (some ⟨nb ρ5 7, 0, none⟩)))] w0 [(nb ρ1 0, (.cells (cU a) 24 (0, 0))), (nb ρ1 1, (.cells (cU 0) 24 (0, 0))), (nb ρ1 2, (.cells (cU c) 24 (0, 0))), (nb ρ2 6, (.cells (cU ((a + 0) % M)) 24 (0, 0))), (nb ρ3 6, (.cells (cU ((((a + 0) % M) + M - 0) % M)) 24 (0, 0))), (nb ρ5 6, (.cells (cU ((a * 0) / M)) 24 (0, 0))), (nb ρ5 7, (.cells (cU ((a * 0) % M)) 24 (0, 0)))] (fun _ => True)
    (fun ρ => [(3, (.int .u8 n)), (4, (.pointer (some ⟨nb ρ1 0, 0, none⟩))), (5, (.pointer (some ⟨nb ρ1 1, 0, none⟩))), (6, (.pointer (some ⟨nb ρ1 2, 0, none⟩))), (8, (.bool false)), (15, (.pointer (some ⟨nb ρ 8, 0, none⟩))), (16, (.pointer (some ⟨nb ρ 9, 0, none⟩))), (17, (.bool (decide (((a * 0) / M) < 0))))])
    (fun ρ => [(nb ρ1 0, (.cells (cU a) 24 (0, 0))), (nb ρ1 1, (.cells (cU 0) 24 (0, 0))), (nb ρ1 2, (.cells (cU c) 24 (0, 0))), (nb ρ2 6, (.cells (cU ((a + 0) % M)) 24 (0, 0))), (nb ρ3 6, (.cells (cU ((((a + 0) % M) + M - 0) % M)) 24 (0, 0))), (nb ρ5 6, (.cells (cU ((a * 0) / M)) 24 (0, 0))), (nb ρ5 7, (.cells (cU ((a * 0) % M)) 24 (0, 0))), (nb ρ 8, (.cells (cU (divQ ((a * 0) / M) ((a * 0) % M) 0)) 24 (0, 0))), (nb ρ 9, (.cells (cU (divR ((a * 0) / M) ((a * 0) % M) 0)) 24 (0, 0)))]) := by
  refine reg_seq [0, 1, 3, 7, 15, 31, 63, 127, 255, 511, 1023, 2047, 4095] [3, 4, 5, 6, 8, 15, 16, 17] 13
    (fun ρ ι => ([(U ((a * 0) / M)), (U ((a * 0) % M)), (U 0), (.tuple #[(U (divQ ((a * 0) / M) ((a * 0) % M) 0)), (U (divR ((a * 0) / M) ((a * 0) % M) 0)), (.bool (decide (((a * 0) / M) < 0)))]), (.tuple #[(U (divQ ((a * 0) / M) ((a * 0) % M) 0)), (U (divR ((a * 0) / M) ((a * 0) % M) 0)), (.bool (decide (((a * 0) / M) < 0)))]), (U (divQ ((a * 0) / M) ((a * 0) % M) 0)), (U (divR ((a * 0) / M) ((a * 0) % M) 0)), (.bool (decide (((a * 0) / M) < 0))), (.pointer (some ⟨nb ρ 8, 0, none⟩)), (.pointer (some ⟨nb ρ 9, 0, none⟩)), undef, undef, (.bool (decide (((a * 0) / M) < 0)))] : List Value).getD ι undef)
    (fun ρ ι => ([{}, {}, {}, {}, {}, {}, {}, {}, { news := [(nb ρ 8, (.cells (cU 0) 24 (0, 0)))] }, { news := [(nb ρ 9, (.cells (cU 0) 24 (0, 0)))] }, { puts := [(71, (.cells (cU (divQ ((a * 0) / M) ((a * 0) % M) 0)) 24 (0, 0)))] }, { puts := [(79, (.cells (cU (divR ((a * 0) / M) ((a * 0) % M) 0)) 24 (0, 0)))] }, {}] : List Eff).getD ι {})
    (by as_aux_lemma => kernel_rfl) (by as_aux_lemma => kernel_rfl) (fun _ => by as_aux_lemma => kernel_rfl) (fun _ => by as_aux_lemma => kernel_rfl) ⟨⟨⟨⟨⟨⟨⟨⟨⟨⟨⟨⟨⟨trivial, ?_⟩, ?_⟩, ?_⟩, ?_⟩, ?_⟩, ?_⟩, ?_⟩, ?_⟩, ?_⟩, ?_⟩, ?_⟩, ?_⟩, ?_⟩
  · exact o_run 0 [5] [] (fun _ _ => [nb ρ5 6, nb ρ5 6, nb ρ5 6, nb ρ5 6]) (fun _ _ => by as_aux_lemma => kernel_rfl)
  · exact o_run 1 [6] [] (fun _ _ => [nb ρ5 7, nb ρ5 7, nb ρ5 7, nb ρ5 7]) (fun _ _ => by as_aux_lemma => kernel_rfl)
  · exact o_run 2 [1] [] (fun _ _ => [nb ρ1 1, nb ρ1 1, nb ρ1 1, nb ρ1 1]) (fun _ _ => by as_aux_lemma => kernel_rfl)
  · exact o_call 3 18 (fun _ => #[(U ((a * 0) / M)), (U ((a * 0) % M)), (U 0)]) (fun _ => (.tuple #[(U (divQ ((a * 0) / M) ((a * 0) % M) 0)), (U (divR ((a * 0) / M) ((a * 0) % M) 0)), (.bool (decide (((a * 0) / M) < 0)))])) (fun _ _ => by as_aux_lemma => kernel_rfl) (fun _ w => (fun w => div_any ((a * 0) / M) ((a * 0) % M) 0 w (mulhi_lt ha (by decide +kernel)) (modM_lt _) (by decide +kernel)) w)
  · exact o_run 4 [] [] (fun _ _ => []) (fun _ _ => by as_aux_lemma => kernel_rfl)
  · exact o_run 5 [] [] (fun _ _ => []) (fun _ _ => by as_aux_lemma => kernel_rfl)
  · exact o_run 6 [] [] (fun _ _ => []) (fun _ _ => by as_aux_lemma => kernel_rfl)
  · exact o_run 7 [] [] (fun _ _ => []) (fun _ _ => by as_aux_lemma => kernel_rfl)
  · exact o_run 8 [] [] (fun _ _ => []) (fun _ _ => by as_aux_lemma => kernel_rfl)
  · exact o_run 9 [] [] (fun _ _ => []) (fun _ _ => by as_aux_lemma => kernel_rfl)
  · exact o_run 10 [71] [] (fun ρ _ => [nb ρ 8, nb ρ 8, nb ρ 8, nb ρ 8]) (fun _ _ => by as_aux_lemma => kernel_rfl)
  · exact o_run 11 [79] [] (fun ρ _ => [nb ρ 9, nb ρ 9, nb ρ 9, nb ρ 9]) (fun _ _ => by as_aux_lemma => kernel_rfl)
  · exact o_run 12 [] [] (fun _ _ => []) (fun _ _ => by as_aux_lemma => kernel_rfl)
theorem undo_zero_r7 (a : Nat) (c : Nat) (n : Int) (hk2 : (decide (0 < (cmpN 0 0))) = false) (ρ1 : Nat → Orc) (ρ2 : Nat → Orc) (ρ3 : Nat → Orc) (ρ5 : Nat → Orc) (ρ6 : Nat → Orc) (w0 : World) : Reg Try.prog 7 (regOps Try.f9 7) false 140 [(3, (.int .u8 n)), (4, (.pointer (some ⟨nb ρ1 0, 0, none⟩))), (5, (.pointer (some ⟨nb ρ1 1, 0, none⟩))), (6, (.pointer (some ⟨nb ρ1 2, 0, none⟩))), (8, (.bool false)), (15, (.pointer (some ⟨nb ρ6 8, 0, none⟩))), (16, (.pointer (some ⟨nb ρ6 9, 0, none⟩))), (17, (.bool (decide (((a * 0) / M) < 0))))] w0 [(nb ρ1 0, (.cells (cU a) 24 (0, 0))), (nb ρ1 1, (.cells (cU 0) 24 (0, 0))), (nb ρ1 2, (.cells (cU c) 24 (0, 0))), (nb ρ2 6, (.cells (cU ((a + 0) % M)) 24 (0, 0))), (nb ρ3 6, (.cells (cU ((((a + 0) % M) + M - 0) % M)) 24 (0, 0))), (nb ρ5 6, (.cells (cU ((a * 0) / M)) 24 (0, 0))), (nb ρ5 7, (.cells (cU ((a * 0) % M)) 24 (0, 0))), (nb ρ6 8, (.cells (cU (divQ ((a * 0) / M) ((a * 0) % M) 0)) 24 (0, 0))), (nb ρ6 9, (.cells (cU (divR ((a * 0) / M) ((a * 0) % M) 0)) 24 (0, 0)))] (fun _ => True)
    (fun _ => [(3, (.int .u8 n)), (5, (.pointer (some ⟨nb ρ1 1, 0, none⟩))), (6, (.pointer (some ⟨nb ρ1 2, 0, none⟩))), (8, (.bool false)), (81, (.bool false))])
    (fun _ => [(nb ρ1 0, (.cells (cU a) 24 (0, 0))), (nb ρ1 1, (.cells (cU 0) 24 (0, 0))), (nb ρ1 2, (.cells (cU c) 24 (0, 0))), (nb ρ2 6, (.cells (cU ((a + 0) % M)) 24 (0, 0))), (nb ρ3 6, (.cells (cU ((((a + 0) % M) + M - 0) % M)) 24 (0, 0))), (nb ρ5 6, (.cells (cU ((a * 0) / M)) 24 (0, 0))), (nb ρ5 7, (.cells (cU ((a * 0) % M)) 24 (0, 0))), (nb ρ6 8, (.cells (cU (divQ ((a * 0) / M) ((a * 0) % M) 0)) 24 (0, 0))), (nb ρ6 9, (.cells (cU (divR ((a * 0) / M) ((a * 0) % M) 0)) 24 (0, 0)))]) := by
  refine reg_seq [0, 1, 3, 7, 15, 31, 63, 127, 255, 511, 1023, 2047, 4095, 8191, 16383, 32767, 65535, 131071] [3, 5, 6, 8, 81] 18
    (fun _ ι => ([(U 0), (U 0), (.int .i64 (cmpN 0 0)), (.bool false), (.bool false), undef, undef, undef, undef, undef, undef, undef, undef, undef, undef, undef, undef, (.bool false)] : List Value).getD ι undef)
    (fun _ ι => ([{}, {}, {}, {}, {}, {}, {}, {}, {}, {}, {}, {}, {}, {}, {}, {}, {}, {}] : List Eff).getD ι {})
    (by as_aux_lemma => kernel_rfl) (by as_aux_lemma => kernel_rfl) (fun _ => by as_aux_lemma => kernel_rfl) (fun _ => by as_aux_lemma => kernel_rfl) ⟨⟨⟨⟨⟨⟨⟨⟨⟨⟨⟨⟨⟨⟨⟨⟨⟨⟨trivial, ?_⟩, ?_⟩, ?_⟩, ?_⟩, ?_⟩, ?_⟩, ?_⟩, ?_⟩, ?_⟩, ?_⟩, ?_⟩, ?_⟩, ?_⟩, ?_⟩, ?_⟩, ?_⟩, ?_⟩, ?_⟩
  · exact o_run 0 [1] [] (fun _ _ => [nb ρ1 1, nb ρ1 1, nb ρ1 1, nb ρ1 1]) (fun _ _ => by as_aux_lemma => kernel_rfl)
  · exact o_run 1 [] [] (fun _ _ => []) (fun _ _ => by as_aux_lemma => kernel_rfl)
  · exact o_call 2 16 (fun _ => #[(U 0), (U 0)]) (fun _ => (.int .i64 (cmpN 0 0))) (fun _ _ => by as_aux_lemma => kernel_rfl) (fun _ w => (fun w => cmp_any 0 0 w (by decide +kernel) (by decide +kernel)) w)
  · exact o_as 3 (fun _ => (.bool (decide (0 < (cmpN 0 0))))) (fun _ => (.bool false)) (fun _ _ => by as_aux_lemma => kernel_rfl) (fun _ => congrArg Value.bool hk2)
  · exact o_run 4 [] [] (fun _ _ => []) (fun _ _ => by as_aux_lemma => kernel_rfl)
  · exact o_skip 5 (fun _ => by as_aux_lemma => kernel_rfl)
  · exact o_skip 6 (fun _ => by as_aux_lemma => kernel_rfl)
  · exact o_skip 7 (fun _ => by as_aux_lemma => kernel_rfl)
  · exact o_skip 8 (fun _ => by as_aux_lemma => kernel_rfl)
  · exact o_skip 9 (fun _ => by as_aux_lemma => kernel_rfl)
  · exact o_skip 10 (fun _ => by as_aux_lemma => kernel_rfl)
  · exact o_skip 11 (fun _ => by as_aux_lemma => kernel_rfl)
  · exact o_skip 12 (fun _ => by as_aux_lemma => kernel_rfl)
  · exact o_skip 13 (fun _ => by as_aux_lemma => kernel_rfl)
  · exact o_skip 14 (fun _ => by as_aux_lemma => kernel_rfl)
  · exact o_skip 15 (fun _ => by as_aux_lemma => kernel_rfl)
  · exact o_skip 16 (fun _ => by as_aux_lemma => kernel_rfl)
  · exact o_run 17 [] [] (fun _ _ => []) (fun _ _ => by as_aux_lemma => kernel_rfl)
theorem undo_zero_r8 (a : Nat) (c : Nat) (n : Int) (hc : c < M) (hk3 : (decide (0 < 0)) = false) (ρ1 : Nat → Orc) (ρ2 : Nat → Orc) (ρ3 : Nat → Orc) (ρ5 : Nat → Orc) (ρ6 : Nat → Orc) (w0 : World) : Reg Try.prog 9 (regOps Try.f9 9) false 140 [(3, (.int .u8 n)), (5, (.pointer (some ⟨nb ρ1 1, 0, none⟩))), (6, (.pointer (some ⟨nb ρ1 2, 0, none⟩))), (8, (.bool false)), (81, (.bool false))] w0 [(nb ρ1 0, (.cells (cU a) 24 (0, 0))), (nb ρ1 1, (.cells (cU 0) 24 (0, 0))), (nb ρ1 2, (.cells (cU c) 24 (0, 0))), (nb ρ2 6, (.cells (cU ((a + 0) % M)) 24 (0, 0))), (nb ρ3 6, (.cells (cU ((((a + 0) % M) + M - 0) % M)) 24 (0, 0))), (nb ρ5 6, (.cells (cU ((a * 0) / M)) 24 (0, 0))), (nb ρ5 7, (.cells (cU ((a * 0) % M)) 24 (0, 0))), (nb ρ6 8, (.cells (cU (divQ ((a * 0) / M) ((a * 0) % M) 0)) 24 (0, 0))), (nb ρ6 9, (.cells (cU (divR ((a * 0) / M) ((a * 0) % M) 0)) 24 (0, 0)))] (fun _ => True)
    (fun ρ => [(3, (.int .u8 n)), (5, (.pointer (some ⟨nb ρ1 1, 0, none⟩))), (6, (.pointer (some ⟨nb ρ1 2, 0, none⟩))), (8, (.bool false)), (18, (.pointer (some ⟨nb ρ 8, 0, none⟩))), (19, (.pointer (some ⟨nb ρ 9, 0, none⟩))), (20, (.bool false))])
    (fun ρ => [(nb ρ1 0, (.cells (cU a) 24 (0, 0))), (nb ρ1 1, (.cells (cU 0) 24 (0, 0))), (nb ρ1 2, (.cells (cU c) 24 (0, 0))), (nb ρ2 6, (.cells (cU ((a + 0) % M)) 24 (0, 0))), (nb ρ3 6, (.cells (cU ((((a + 0) % M) + M - 0) % M)) 24 (0, 0))), (nb ρ5 6, (.cells (cU ((a * 0) / M)) 24 (0, 0))), (nb ρ5 7, (.cells (cU ((a * 0) % M)) 24 (0, 0))), (nb ρ6 8, (.cells (cU (divQ ((a * 0) / M) ((a * 0) % M) 0)) 24 (0, 0))), (nb ρ6 9, (.cells (cU (divR ((a * 0) / M) ((a * 0) % M) 0)) 24 (0, 0))), (nb ρ 8, (.cells (cU (divQ 0 c 0)) 24 (0, 0))), (nb ρ 9, (.cells (cU (divR 0 c 0)) 24 (0, 0)))]) := by
  refine reg_seq [0, 1, 3, 7, 15, 31, 63, 127, 255, 511, 1023, 2047, 4095] [3, 5, 6, 8, 18, 19, 20] 13
    (fun ρ ι => ([(U 0), (U c), (U 0), (.tuple #[(U (divQ 0 c 0)), (U (divR 0 c 0)), (.bool false)]), (.tuple #[(U (divQ 0 c 0)), (U (divR 0 c 0)), (.bool false)]), (U (divQ 0 c 0)), (U (divR 0 c 0)), (.bool false), (.pointer (some ⟨nb ρ 8, 0, none⟩)), (.pointer (some ⟨nb ρ 9, 0, none⟩)), undef, undef, (.bool false)] : List Value).getD ι undef)
    (fun ρ ι => ([{}, {}, {}, {}, {}, {}, {}, {}, { news := [(nb ρ 8, (.cells (cU 0) 24 (0, 0)))] }, { news := [(nb ρ 9, (.cells (cU 0) 24 (0, 0)))] }, { puts := [(73, (.cells (cU (divQ 0 c 0)) 24 (0, 0)))] }, { puts := [(81, (.cells (cU (divR 0 c 0)) 24 (0, 0)))] }, {}] : List Eff).getD ι {})
    (by as_aux_lemma => kernel_rfl) (by as_aux_lemma => kernel_rfl) (fun _ => by as_aux_lemma => kernel_rfl) (fun _ => by as_aux_lemma => kernel_rfl) ⟨⟨⟨⟨⟨⟨⟨⟨⟨⟨⟨⟨⟨trivial, ?_⟩, ?_⟩, ?_⟩, ?_⟩, ?_⟩, ?_⟩, ?_⟩, ?_⟩, ?_⟩, ?_⟩, ?_⟩, ?_⟩, ?_⟩
  · exact o_run 0 [] [] (fun _ _ => []) (fun _ _ => by as_aux_lemma => kernel_rfl)
  · exact o_run 1 [2] [] (fun _ _ => [nb ρ1 2, nb ρ1 2, nb ρ1 2, nb ρ1 2]) (fun _ _ => by as_aux_lemma => kernel_rfl)
  · exact o_run 2 [1] [] (fun _ _ => [nb ρ1 1, nb ρ1 1, nb ρ1 1, nb ρ1 1]) (fun _ _ => by as_aux_lemma => kernel_rfl)
  · exact o_call 3 18 (fun _ => #[(U 0), (U c), (U 0)]) (fun _ => (.tuple #[(U (divQ 0 c 0)), (U (divR 0 c 0)), (.bool false)])) (fun _ _ => by as_aux_lemma => kernel_rfl) (fun _ w => by as_aux_lemma => (have h := (fun w => div_any 0 c 0 w (by decide +kernel) hc (by decide +kernel)) w; rw [hk3] at h; exact h))
  · exact o_run 4 [] [] (fun _ _ => []) (fun _ _ => by as_aux_lemma => kernel_rfl)
  · exact o_run 5 [] [] (fun _ _ => []) (fun _ _ => by as_aux_lemma => kernel_rfl)
  · exact o_run 6 [] [] (fun _ _ => []) (fun _ _ => by as_aux_lemma => kernel_rfl)
  · exact o_run 7 [] [] (fun _ _ => []) (fun _ _ => by as_aux_lemma => kernel_rfl)
  · exact o_run 8 [] [] (fun _ _ => []) (fun _ _ => by as_aux_lemma => kernel_rfl)
  · exact o_run 9 [] [] (fun _ _ => []) (fun _ _ => by as_aux_lemma => kernel_rfl)
  · exact o_run 10 [73] [] (fun ρ _ => [nb ρ 8, nb ρ 8, nb ρ 8, nb ρ 8]) (fun _ _ => by as_aux_lemma => kernel_rfl)
  · exact o_run 11 [81] [] (fun ρ _ => [nb ρ 9, nb ρ 9, nb ρ 9, nb ρ 9]) (fun _ _ => by as_aux_lemma => kernel_rfl)
  · exact o_run 12 [] [] (fun _ _ => []) (fun _ _ => by as_aux_lemma => kernel_rfl)
theorem undo_zero_r9 (a : Nat) (c : Nat) (n : Int) (ρ1 : Nat → Orc) (ρ2 : Nat → Orc) (ρ3 : Nat → Orc) (ρ5 : Nat → Orc) (ρ6 : Nat → Orc) (ρ8 : Nat → Orc) (w0 : World) : Reg Try.prog 10 (regOps Try.f9 10) false 140 [(3, (.int .u8 n)), (5, (.pointer (some ⟨nb ρ1 1, 0, none⟩))), (6, (.pointer (some ⟨nb ρ1 2, 0, none⟩))), (8, (.bool false)), (18, (.pointer (some ⟨nb ρ8 8, 0, none⟩))), (19, (.pointer (some ⟨nb ρ8 9, 0, none⟩))), (20, (.bool false))] w0 [(nb ρ1 0, (.cells (cU a) 24 (0, 0))), (nb ρ1 1, (.cells (cU 0) 24 (0, 0))), (nb ρ1 2, (.cells (cU c) 24 (0, 0))), (nb ρ2 6, (.cells (cU ((a + 0) % M)) 24 (0, 0))), (nb ρ3 6, (.cells (cU ((((a + 0) % M) + M - 0) % M)) 24 (0, 0))), (nb ρ5 6, (.cells (cU ((a * 0) / M)) 24 (0, 0))), (nb ρ5 7, (.cells (cU ((a * 0) % M)) 24 (0, 0))), (nb ρ6 8, (.cells (cU (divQ ((a * 0) / M) ((a * 0) % M) 0)) 24 (0, 0))), (nb ρ6 9, (.cells (cU (divR ((a * 0) / M) ((a * 0) % M) 0)) 24 (0, 0))), (nb ρ8 8, (.cells (cU (divQ 0 c 0)) 24 (0, 0))), (nb ρ8 9, (.cells (cU (divR 0 c 0)) 24 (0, 0)))] (fun _ => True)
    (fun _ => [(3, (.int .u8 n)), (5, (.pointer (some ⟨nb ρ1 1, 0, none⟩))), (6, (.pointer (some ⟨nb ρ1 2, 0, none⟩))), (8, (.bool false)), (18, (.pointer (some ⟨nb ρ8 8, 0, none⟩))), (19, (.pointer (some ⟨nb ρ8 9, 0, none⟩))), (91, (.bool true))])
    (fun _ => [(nb ρ1 0, (.cells (cU a) 24 (0, 0))), (nb ρ1 1, (.cells (cU 0) 24 (0, 0))), (nb ρ1 2, (.cells (cU c) 24 (0, 0))), (nb ρ2 6, (.cells (cU ((a + 0) % M)) 24 (0, 0))), (nb ρ3 6, (.cells (cU ((((a + 0) % M) + M - 0) % M)) 24 (0, 0))), (nb ρ5 6, (.cells (cU ((a * 0) / M)) 24 (0, 0))), (nb ρ5 7, (.cells (cU ((a * 0) % M)) 24 (0, 0))), (nb ρ6 8, (.cells (cU (divQ ((a * 0) / M) ((a * 0) % M) 0)) 24 (0, 0))), (nb ρ6 9, (.cells (cU (divR ((a * 0) / M) ((a * 0) % M) 0)) 24 (0, 0))), (nb ρ8 8, (.cells (cU (divQ 0 c 0)) 24 (0, 0))), (nb ρ8 9, (.cells (cU (divR 0 c 0)) 24 (0, 0)))]) := by
  refine reg_seq [0, 1] [3, 5, 6, 8, 18, 19, 91] 2
    (fun _ ι => ([(.bool false), (.bool true)] : List Value).getD ι undef)
    (fun _ ι => ([{}, {}] : List Eff).getD ι {})
    (by as_aux_lemma => kernel_rfl) (by as_aux_lemma => kernel_rfl) (fun _ => by as_aux_lemma => kernel_rfl) (fun _ => by as_aux_lemma => kernel_rfl) ⟨⟨trivial, ?_⟩, ?_⟩
  · exact o_run 0 [] [] (fun _ _ => []) (fun _ _ => by as_aux_lemma => kernel_rfl)
  · exact o_run 1 [] [] (fun _ _ => []) (fun _ _ => by as_aux_lemma => kernel_rfl)
theorem undo_zero_r10 (a : Nat) (c : Nat) (n : Int) (ρ1 : Nat → Orc) (ρ2 : Nat → Orc) (ρ3 : Nat → Orc) (ρ5 : Nat → Orc) (ρ6 : Nat → Orc) (ρ8 : Nat → Orc) (w0 : World) : Reg Try.prog 11 (regOps Try.f9 11) false 140 [(3, (.int .u8 n)), (5, (.pointer (some ⟨nb ρ1 1, 0, none⟩))), (6, (.pointer (some ⟨nb ρ1 2, 0, none⟩))), (8, (.bool false)), (18, (.pointer (some ⟨nb ρ8 8, 0, none⟩))), (19, (.pointer (some ⟨nb ρ8 9, 0, none⟩))), (91, (.bool true))] w0 [(nb ρ1 0, (.cells (cU a) 24 (0, 0))), (nb ρ1 1, (.cells (cU 0) 24 (0, 0))), (nb ρ1 2, (.cells (cU c) 24 (0, 0))), (nb ρ2 6, (.cells (cU ((a + 0) % M)) 24 (0, 0))), (nb ρ3 6, (.cells (cU ((((a + 0) % M) + M - 0) % M)) 24 (0, 0))), (nb ρ5 6, (.cells (cU ((a * 0) / M)) 24 (0, 0))), (nb ρ5 7, (.cells (cU ((a * 0) % M)) 24 (0, 0))), (nb ρ6 8, (.cells (cU (divQ ((a * 0) / M) ((a * 0) % M) 0)) 24 (0, 0))), (nb ρ6 9, (.cells (cU (divR ((a * 0) / M) ((a * 0) % M) 0)) 24 (0, 0))), (nb ρ8 8, (.cells (cU (divQ 0 c 0)) 24 (0, 0))), (nb ρ8 9, (.cells (cU (divR 0 c 0)) 24 (0, 0)))] (fun _ => True)
    (fun _ => [(3, (.int .u8 n)), (5, (.pointer (some ⟨nb ρ1 1, 0, none⟩))), (6, (.pointer (some ⟨nb ρ1 2, 0, none⟩))), (8, (.bool true)), (18, (.pointer (some ⟨nb ρ8 8, 0, none⟩))), (19, (.pointer (some ⟨nb ρ8 9, 0, none⟩)))])
    (fun _ => [(nb ρ1 0, (.cells (cU a) 24 (0, 0))), (nb ρ1 1, (.cells (cU 0) 24 (0, 0))), (nb ρ1 2, (.cells (cU c) 24 (0, 0))), (nb ρ2 6, (.cells (cU ((a + 0) % M)) 24 (0, 0))), (nb ρ3 6, (.cells (cU ((((a + 0) % M) + M - 0) % M)) 24 (0, 0))), (nb ρ5 6, (.cells (cU ((a * 0) / M)) 24 (0, 0))), (nb ρ5 7, (.cells (cU ((a * 0) % M)) 24 (0, 0))), (nb ρ6 8, (.cells (cU (divQ ((a * 0) / M) ((a * 0) % M) 0)) 24 (0, 0))), (nb ρ6 9, (.cells (cU (divR ((a * 0) / M) ((a * 0) % M) 0)) 24 (0, 0))), (nb ρ8 8, (.cells (cU (divQ 0 c 0)) 24 (0, 0))), (nb ρ8 9, (.cells (cU (divR 0 c 0)) 24 (0, 0)))]) := by
  refine reg_seq [0, 1, 3, 7] [3, 5, 6, 8, 18, 19] 4
    (fun _ ι => ([(U 0), (U 0), (.bool true), (.bool true)] : List Value).getD ι undef)
    (fun _ ι => ([{}, {}, {}, {}] : List Eff).getD ι {})
    (by as_aux_lemma => kernel_rfl) (by as_aux_lemma => kernel_rfl) (fun _ => by as_aux_lemma => kernel_rfl) (fun _ => by as_aux_lemma => kernel_rfl) ⟨⟨⟨⟨trivial, ?_⟩, ?_⟩, ?_⟩, ?_⟩
  · exact o_run 0 [1] [] (fun _ _ => [nb ρ1 1, nb ρ1 1, nb ρ1 1, nb ρ1 1]) (fun _ _ => by as_aux_lemma => kernel_rfl)
  · exact o_run 1 [] [] (fun _ _ => []) (fun _ _ => by as_aux_lemma => kernel_rfl)
  · exact o_bin 2 .eql 24 (fun _ => (U 0)) (fun _ => (U 0)) (fun _ => (.bool true)) (fun _ => by as_aux_lemma => kernel_rfl) (fun _ _ _ _ => by as_aux_lemma => kernel_rfl) (fun _ _ => eqlU_same 0 (by decide +kernel) _)
  · exact o_run 3 [] [] (fun _ _ => []) (fun _ _ => by as_aux_lemma => kernel_rfl)
theorem undo_zero (a : Nat) (c : Nat) (n : Int) (ha : a < M) (hc : c < M) (w0 : World) : Calls Try.prog 9 #[(U a), (U 0), (U c), (.int .u8 n)] w0 (fun ε w' => ε = .returned (.bool true) ∧ Below w0.heap.size w0 w') := by
  refine Calls.of_ok (n := 140) (F := fun _ => True) Try.func9 rfl rfl rfl (by simp) (persTrue (fun _ => trivial)) ?_
  have hk0 : (decide ((((a + 0) % M) + M - 0) % M = a)) = true := decide_eq_true (undo_sub ha M_pos)
  have hk1 : ((decide (M ≤ a + 0)) != (decide (((a + 0) % M) < 0))) = false := undo_over ha M_pos
  have hk2 : (decide (0 < (cmpN 0 0))) = false := decide_eq_false (by rw [cmpN_eq]; decide)
  have hk3 : (decide (0 < 0)) = false := decide_eq_false (by decide)
  refine ok_seq_r (by as_aux_lemma => kernel_rfl) (undo_zero_r1 a c n _) (fun ρ1 => ?_)
  refine ok_seq_r (by as_aux_lemma => kernel_rfl) (undo_zero_r2 a c n ha ρ1 _) (fun ρ2 => ?_)
  refine ok_seq_r (by as_aux_lemma => kernel_rfl) (undo_zero_r3 a c n ρ1 ρ2 _) (fun ρ3 => ?_)
  refine ok_seq ?_
  refine ok_seq_r (by as_aux_lemma => kernel_rfl) (undo_zero_r4 a c n ha hk0 hk1 ρ1 ρ2 ρ3 _) (fun _ => ?_)
  refine ok_no (by as_aux_lemma => kernel_rfl) ?_
  refine ok_skip ?_
  refine mt_then ?_
  refine ok_seq_r (by as_aux_lemma => kernel_rfl) (undo_zero_r5 a c n ha ρ1 ρ2 ρ3 _) (fun ρ5 => ?_)
  refine ok_seq ?_
  refine ok_seq_r (by as_aux_lemma => kernel_rfl) (undo_zero_r6 a c n ha ρ1 ρ2 ρ3 ρ5 _) (fun ρ6 => ?_)
  refine ok_seq_r (by as_aux_lemma => kernel_rfl) (undo_zero_r7 a c n hk2 ρ1 ρ2 ρ3 ρ5 ρ6 _) (fun _ => ?_)
  refine ok_no (by as_aux_lemma => kernel_rfl) ?_
  refine ok_skip ?_
  refine mt_then ?_
  refine ok_seq_r (by as_aux_lemma => kernel_rfl) (undo_zero_r8 a c n hc hk3 ρ1 ρ2 ρ3 ρ5 ρ6 _) (fun ρ8 => ?_)
  refine ok_seq ?_
  refine ok_seq_r (by as_aux_lemma => kernel_rfl) (undo_zero_r9 a c n ρ1 ρ2 ρ3 ρ5 ρ6 ρ8 _) (fun _ => ?_)
  refine ok_yes (by as_aux_lemma => kernel_rfl) ?_
  refine ok_seq_r (by as_aux_lemma => kernel_rfl) (undo_zero_r10 a c n ρ1 ρ2 ρ3 ρ5 ρ6 ρ8 _) (fun _ => ?_)
  refine ok_ret ?_
  refine mt_then_r ?_
  exact meets_ret (v := (.bool true)) [] (dup []) (by as_aux_lemma => kernel_rfl) (by as_aux_lemma => kernel_rfl) (eqs_dup _) (fun _ hS => ⟨rfl, hS.below⟩)
theorem wideUndo_walk (a b c : Nat) (n : Int) (w0 : World) (ha : a < M) (hb : b < M) (hc : c < M) (hn : (Lit.int .u8 n).wf = true) : Calls Try.prog 9 #[U a, U b, U c, .int .u8 n] w0 (fun ε w' => ε = .returned (.bool true) ∧ Below w0.heap.size w0 w') := by
  by_cases h : b = 0
  · subst h; exact undo_zero a c n ha hc w0
  · exact undo_pos a b c n ha hb hc hn (by omega) w0
end Go.Proofs.Ytlgjdejlnelndaa
