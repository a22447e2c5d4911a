/-
  The law WideSums: the walk.
-/
import Derived.Test.YtlgjdejlnelndaaWMul
import Derived.Test.YtlgjdejlnelndaaSane
namespace Go.Proofs.Ytlgjdejlnelndaa
open Go Go.RowKit
set_option maxRecDepth 100000
theorem wideSums_w_r1 (a : Nat) (b : Nat) (w0 : World) : Reg Try.prog 0 (regOps Try.f7 0) false 91 [(0, (U a)), (1, (U b))] w0 [] (fun _ => True)
    (fun ρ => [(2, (.pointer (some ⟨nb ρ 0, 0, none⟩))), (3, (.pointer (some ⟨nb ρ 1, 0, none⟩))), (4, (.bool false))])
    (fun ρ => [(nb ρ 0, (.cells (cU a) 24 (0, 0))), (nb ρ 1, (.cells (cU b) 24 (0, 0)))]) := by
  refine reg_seq [0, 1, 3] [2, 3, 4] 3
    (fun ρ ι => ([(.pointer (some ⟨nb ρ 0, 0, none⟩)), (.pointer (some ⟨nb ρ 1, 0, none⟩)), (.bool false)] : List Value).getD ι undef)
    (fun ρ ι => ([{ news := [(nb ρ 0, (.cells (cU a) 24 (0, 0)))] }, { news := [(nb ρ 1, (.cells (cU b) 24 (0, 0)))] }, {}] : List Eff).getD ι {})
    (by as_aux_lemma => kernel_rfl) (by as_aux_lemma => kernel_rfl) (fun _ => by as_aux_lemma => kernel_rfl) (fun _ => by as_aux_lemma => kernel_rfl) ⟨⟨⟨trivial, ?_⟩, ?_⟩, ?_⟩
  · exact o_run 0 [] [] (fun _ _ => []) (fun _ _ => by as_aux_lemma => kernel_rfl)
  · exact o_run 1 [] [] (fun _ _ => []) (fun _ _ => by as_aux_lemma => kernel_rfl)
  · exact o_run 2 [] [] (fun _ _ => []) (fun _ _ => by as_aux_lemma => kernel_rfl)
theorem wideSums_w_r2 (a : Nat) (b : Nat) (ha : a < M) (hb : b < M) (ρ1 : Nat → Orc) (w0 : World) : Reg Try.prog 1 (regOps Try.f7 1) false 91 [(2, (.pointer (some ⟨nb ρ1 0, 0, none⟩))), (3, (.pointer (some ⟨nb ρ1 1, 0, none⟩))), (4, (.bool false))] w0 [(nb ρ1 0, (.cells (cU a) 24 (0, 0))), (nb ρ1 1, (.cells (cU b) 24 (0, 0)))] (fun _ => True)
    (fun ρ => [(2, (.pointer (some ⟨nb ρ1 0, 0, none⟩))), (3, (.pointer (some ⟨nb ρ1 1, 0, none⟩))), (4, (.bool false)), (5, (.pointer (some ⟨nb ρ 6, 0, none⟩))), (6, (.bool (decide (M ≤ a + b))))])
    (fun ρ => [(nb ρ1 0, (.cells (cU a) 24 (0, 0))), (nb ρ1 1, (.cells (cU b) 24 (0, 0))), (nb ρ 6, (.cells (cU ((a + b) % M)) 24 (0, 0)))]) := by
  refine reg_seq [0, 1, 3, 7, 15, 31, 63, 127, 255] [2, 3, 4, 5, 6] 9
    (fun ρ ι => ([(U a), (U b), (.tuple #[(U ((a + b) % M)), (.bool (decide (M ≤ a + b)))]), (.tuple #[(U ((a + b) % M)), (.bool (decide (M ≤ a + b)))]), (U ((a + b) % M)), (.bool (decide (M ≤ a + b))), (.pointer (some ⟨nb ρ 6, 0, none⟩)), undef, (.bool (decide (M ≤ a + b)))] : List Value).getD ι undef)
    (fun ρ ι => ([{}, {}, {}, {}, {}, {}, { news := [(nb ρ 6, (.cells (cU 0) 24 (0, 0)))] }, { puts := [(50, (.cells (cU ((a + b) % M)) 24 (0, 0)))] }, {}] : List Eff).getD ι {})
    (by as_aux_lemma => kernel_rfl) (by as_aux_lemma => kernel_rfl) (fun _ => by as_aux_lemma => kernel_rfl) (fun _ => by as_aux_lemma => kernel_rfl) ⟨⟨⟨⟨⟨⟨⟨⟨⟨trivial, ?_⟩, ?_⟩, ?_⟩, ?_⟩, ?_⟩, ?_⟩, ?_⟩, ?_⟩, ?_⟩
  · exact o_run 0 [0] [] (fun _ _ => [nb ρ1 0, nb ρ1 0, nb ρ1 0, nb ρ1 0]) (fun _ _ => by as_aux_lemma => kernel_rfl)
  · exact o_run 1 [1] [] (fun _ _ => [nb ρ1 1, nb ρ1 1, nb ρ1 1, nb ρ1 1]) (fun _ _ => by as_aux_lemma => kernel_rfl)
  · exact o_call 2 32 (fun _ => #[(U a), (U b)]) (fun _ => (.tuple #[(U ((a + b) % M)), (.bool (decide (M ≤ a + b)))])) (fun _ _ => by as_aux_lemma => kernel_rfl) (fun _ w => (fun w => add_any a b w ha hb) w)
  · exact o_run 3 [] [] (fun _ _ => []) (fun _ _ => by as_aux_lemma => kernel_rfl)
  · exact o_run 4 [] [] (fun _ _ => []) (fun _ _ => by as_aux_lemma => kernel_rfl)
  · exact o_run 5 [] [] (fun _ _ => []) (fun _ _ => by as_aux_lemma => kernel_rfl)
  · exact o_run 6 [] [] (fun _ _ => []) (fun _ _ => by as_aux_lemma => kernel_rfl)
  · exact o_run 7 [50] [] (fun ρ _ => [nb ρ 6, nb ρ 6, nb ρ 6, nb ρ 6]) (fun _ _ => by as_aux_lemma => kernel_rfl)
  · exact o_run 8 [] [] (fun _ _ => []) (fun _ _ => by as_aux_lemma => kernel_rfl)
theorem wideSums_w_r3 (a : Nat) (b : Nat) (ha : a < M) (hb : b < M) (ρ1 : Nat → Orc) (ρ2 : Nat → Orc) (w0 : World) : Reg Try.prog 2 (regOps Try.f7 2) false 91 [(2, (.pointer (some ⟨nb ρ1 0, 0, none⟩))), (3, (.pointer (some ⟨nb ρ1 1, 0, none⟩))), (4, (.bool false)), (5, (.pointer (some ⟨nb ρ2 6, 0, none⟩))), (6, (.bool (decide (M ≤ a + b))))] w0 [(nb ρ1 0, (.cells (cU a) 24 (0, 0))), (nb ρ1 1, (.cells (cU b) 24 (0, 0))), (nb ρ2 6, (.cells (cU ((a + b) % M)) 24 (0, 0)))] (fun _ => True)
    (fun ρ => [(2, (.pointer (some ⟨nb ρ1 0, 0, none⟩))), (3, (.pointer (some ⟨nb ρ1 1, 0, none⟩))), (4, (.bool false)), (5, (.pointer (some ⟨nb ρ2 6, 0, none⟩))), (6, (.bool (decide (M ≤ a + b)))), (7, (.pointer (some ⟨nb ρ 6, 0, none⟩))), (8, (.bool (decide (M ≤ a + b))))])
    (fun ρ => [(nb ρ1 0, (.cells (cU a) 24 (0, 0))), (nb ρ1 1, (.cells (cU b) 24 (0, 0))), (nb ρ2 6, (.cells (cU ((a + b) % M)) 24 (0, 0))), (nb ρ 6, (.cells (cU ((a + b) % M)) 24 (0, 0)))]) := by
  refine reg_seq [0, 1, 3, 7, 15, 31, 63, 127, 255] [2, 3, 4, 5, 6, 7, 8] 9
    (fun ρ ι => ([(U a), (U b), (.tuple #[(U ((a + b) % M)), (.bool (decide (M ≤ a + b)))]), (.tuple #[(U ((a + b) % M)), (.bool (decide (M ≤ a + b)))]), (U ((a + b) % M)), (.bool (decide (M ≤ a + b))), (.pointer (some ⟨nb ρ 6, 0, none⟩)), undef, (.bool (decide (M ≤ a + b)))] : List Value).getD ι undef)
    (fun ρ ι => ([{}, {}, {}, {}, {}, {}, { news := [(nb ρ 6, (.cells (cU 0) 24 (0, 0)))] }, { puts := [(51, (.cells (cU ((a + b) % M)) 24 (0, 0)))] }, {}] : List Eff).getD ι {})
    (by as_aux_lemma => kernel_rfl) (by as_aux_lemma => kernel_rfl) (fun _ => by as_aux_lemma => kernel_rfl) (fun _ => by as_aux_lemma => kernel_rfl) ⟨⟨⟨⟨⟨⟨⟨⟨⟨trivial, ?_⟩, ?_⟩, ?_⟩, ?_⟩, ?_⟩, ?_⟩, ?_⟩, ?_⟩, ?_⟩
  · exact o_run 0 [0] [] (fun _ _ => [nb ρ1 0, nb ρ1 0, nb ρ1 0, nb ρ1 0]) (fun _ _ => by as_aux_lemma => kernel_rfl)
  · exact o_run 1 [1] [] (fun _ _ => [nb ρ1 1, nb ρ1 1, nb ρ1 1, nb ρ1 1]) (fun _ _ => by as_aux_lemma => kernel_rfl)
  · exact o_call 2 33 (fun _ => #[(U a), (U b)]) (fun _ => (.tuple #[(U ((a + b) % M)), (.bool (decide (M ≤ a + b)))])) (fun _ _ => by as_aux_lemma => kernel_rfl) (fun _ w => (fun w => radd_any a b w ha hb) w)
  · exact o_run 3 [] [] (fun _ _ => []) (fun _ _ => by as_aux_lemma => kernel_rfl)
  · exact o_run 4 [] [] (fun _ _ => []) (fun _ _ => by as_aux_lemma => kernel_rfl)
  · exact o_run 5 [] [] (fun _ _ => []) (fun _ _ => by as_aux_lemma => kernel_rfl)
  · exact o_run 6 [] [] (fun _ _ => []) (fun _ _ => by as_aux_lemma => kernel_rfl)
  · exact o_run 7 [51] [] (fun ρ _ => [nb ρ 6, nb ρ 6, nb ρ 6, nb ρ 6]) (fun _ _ => by as_aux_lemma => kernel_rfl)
  · exact o_run 8 [] [] (fun _ _ => []) (fun _ _ => by as_aux_lemma => kernel_rfl)
theorem wideSums_w_r4 (a : Nat) (b : Nat) (ha : a < M) (hb : b < M) (ρ1 : Nat → Orc) (ρ2 : Nat → Orc) (ρ3 : Nat → Orc) (w0 : World) : Reg Try.prog 3 (regOps Try.f7 3) false 91 [(2, (.pointer (some ⟨nb ρ1 0, 0, none⟩))), (3, (.pointer (some ⟨nb ρ1 1, 0, none⟩))), (4, (.bool false)), (5, (.pointer (some ⟨nb ρ2 6, 0, none⟩))), (6, (.bool (decide (M ≤ a + b)))), (7, (.pointer (some ⟨nb ρ3 6, 0, none⟩))), (8, (.bool (decide (M ≤ a + b))))] w0 [(nb ρ1 0, (.cells (cU a) 24 (0, 0))), (nb ρ1 1, (.cells (cU b) 24 (0, 0))), (nb ρ2 6, (.cells (cU ((a + b) % M)) 24 (0, 0))), (nb ρ3 6, (.cells (cU ((a + b) % M)) 24 (0, 0)))] (fun _ => True)
    (fun ρ => [(2, (.pointer (some ⟨nb ρ1 0, 0, none⟩))), (3, (.pointer (some ⟨nb ρ1 1, 0, none⟩))), (4, (.bool false)), (5, (.pointer (some ⟨nb ρ2 6, 0, none⟩))), (6, (.bool (decide (M ≤ a + b)))), (7, (.pointer (some ⟨nb ρ3 6, 0, none⟩))), (8, (.bool (decide (M ≤ a + b)))), (9, (.pointer (some ⟨nb ρ 6, 0, none⟩))), (10, (.bool (decide (a < b))))])
    (fun ρ => [(nb ρ1 0, (.cells (cU a) 24 (0, 0))), (nb ρ1 1, (.cells (cU b) 24 (0, 0))), (nb ρ2 6, (.cells (cU ((a + b) % M)) 24 (0, 0))), (nb ρ3 6, (.cells (cU ((a + b) % M)) 24 (0, 0))), (nb ρ 6, (.cells (cU ((a + M - b) % M)) 24 (0, 0)))]) := by
  refine reg_seq [0, 1, 3, 7, 15, 31, 63, 127, 255] [2, 3, 4, 5, 6, 7, 8, 9, 10] 9
    (fun ρ ι => ([(U a), (U b), (.tuple #[(U ((a + M - b) % M)), (.bool (decide (a < b)))]), (.tuple #[(U ((a + M - b) % M)), (.bool (decide (a < b)))]), (U ((a + M - b) % M)), (.bool (decide (a < b))), (.pointer (some ⟨nb ρ 6, 0, none⟩)), undef, (.bool (decide (a < b)))] : List Value).getD ι undef)
    (fun ρ ι => ([{}, {}, {}, {}, {}, {}, { news := [(nb ρ 6, (.cells (cU 0) 24 (0, 0)))] }, { puts := [(52, (.cells (cU ((a + M - b) % M)) 24 (0, 0)))] }, {}] : List Eff).getD ι {})
    (by as_aux_lemma => kernel_rfl) (by as_aux_lemma => kernel_rfl) (fun _ => by as_aux_lemma => kernel_rfl) (fun _ => by as_aux_lemma => kernel_rfl) ⟨⟨⟨⟨⟨⟨⟨⟨⟨trivial, ?_⟩, ?_⟩, ?_⟩, ?_⟩, ?_⟩, ?_⟩, ?_⟩, ?_⟩, ?_⟩
  · exact o_run 0 [0] [] (fun _ _ => [nb ρ1 0, nb ρ1 0, nb ρ1 0, nb ρ1 0]) (fun _ _ => by as_aux_lemma => kernel_rfl)
  · exact o_run 1 [1] [] (fun _ _ => [nb ρ1 1, nb ρ1 1, nb ρ1 1, nb ρ1 1]) (fun _ _ => by as_aux_lemma => kernel_rfl)
  · exact o_call 2 15 (fun _ => #[(U a), (U b)]) (fun _ => (.tuple #[(U ((a + M - b) % M)), (.bool (decide (a < b)))])) (fun _ _ => by as_aux_lemma => kernel_rfl) (fun _ w => (fun w => sub_any a b w ha hb) w)
  · exact o_run 3 [] [] (fun _ _ => []) (fun _ _ => by as_aux_lemma => kernel_rfl)
  · exact o_run 4 [] [] (fun _ _ => []) (fun _ _ => by as_aux_lemma => kernel_rfl)
  · exact o_run 5 [] [] (fun _ _ => []) (fun _ _ => by as_aux_lemma => kernel_rfl)
  · exact o_run 6 [] [] (fun _ _ => []) (fun _ _ => by as_aux_lemma => kernel_rfl)
  · exact o_run 7 [52] [] (fun ρ _ => [nb ρ 6, nb ρ 6, nb ρ 6, nb ρ 6]) (fun _ _ => by as_aux_lemma => kernel_rfl)
  · exact o_run 8 [] [] (fun _ _ => []) (fun _ _ => by as_aux_lemma => kernel_rfl)
theorem wideSums_w_r5 (a : Nat) (b : Nat) (ha : a < M) (hb : b < M) (ρ1 : Nat → Orc) (ρ2 : Nat → Orc) (ρ3 : Nat → Orc) (ρ4 : Nat → Orc) (w0 : World) : Reg Try.prog 4 (regOps Try.f7 4) false 91 [(2, (.pointer (some ⟨nb ρ1 0, 0, none⟩))), (3, (.pointer (some ⟨nb ρ1 1, 0, none⟩))), (4, (.bool false)), (5, (.pointer (some ⟨nb ρ2 6, 0, none⟩))), (6, (.bool (decide (M ≤ a + b)))), (7, (.pointer (some ⟨nb ρ3 6, 0, none⟩))), (8, (.bool (decide (M ≤ a + b)))), (9, (.pointer (some ⟨nb ρ4 6, 0, none⟩))), (10, (.bool (decide (a < b))))] w0 [(nb ρ1 0, (.cells (cU a) 24 (0, 0))), (nb ρ1 1, (.cells (cU b) 24 (0, 0))), (nb ρ2 6, (.cells (cU ((a + b) % M)) 24 (0, 0))), (nb ρ3 6, (.cells (cU ((a + b) % M)) 24 (0, 0))), (nb ρ4 6, (.cells (cU ((a + M - b) % M)) 24 (0, 0)))] (fun _ => True)
    (fun ρ => [(2, (.pointer (some ⟨nb ρ1 0, 0, none⟩))), (3, (.pointer (some ⟨nb ρ1 1, 0, none⟩))), (4, (.bool false)), (5, (.pointer (some ⟨nb ρ2 6, 0, none⟩))), (6, (.bool (decide (M ≤ a + b)))), (7, (.pointer (some ⟨nb ρ3 6, 0, none⟩))), (8, (.bool (decide (M ≤ a + b)))), (9, (.pointer (some ⟨nb ρ4 6, 0, none⟩))), (10, (.bool (decide (a < b)))), (11, (.pointer (some ⟨nb ρ 6, 0, none⟩))), (12, (.bool (decide (a < b))))])
    (fun ρ => [(nb ρ1 0, (.cells (cU a) 24 (0, 0))), (nb ρ1 1, (.cells (cU b) 24 (0, 0))), (nb ρ2 6, (.cells (cU ((a + b) % M)) 24 (0, 0))), (nb ρ3 6, (.cells (cU ((a + b) % M)) 24 (0, 0))), (nb ρ4 6, (.cells (cU ((a + M - b) % M)) 24 (0, 0))), (nb ρ 6, (.cells (cU ((a + M - b) % M)) 24 (0, 0)))]) := by
  refine reg_seq [0, 1, 3, 7, 15, 31, 63, 127, 255] [2, 3, 4, 5, 6, 7, 8, 9, 10, 11, 12] 9
    (fun ρ ι => ([(U a), (U b), (.tuple #[(U ((a + M - b) % M)), (.bool (decide (a < b)))]), (.tuple #[(U ((a + M - b) % M)), (.bool (decide (a < b)))]), (U ((a + M - b) % M)), (.bool (decide (a < b))), (.pointer (some ⟨nb ρ 6, 0, none⟩)), undef, (.bool (decide (a < b)))] : List Value).getD ι undef)
    (fun ρ ι => ([{}, {}, {}, {}, {}, {}, { news := [(nb ρ 6, (.cells (cU 0) 24 (0, 0)))] }, { puts := [(53, (.cells (cU ((a + M - b) % M)) 24 (0, 0)))] }, {}] : List Eff).getD ι {})
    (by as_aux_lemma => kernel_rfl) (by as_aux_lemma => kernel_rfl) (fun _ => by as_aux_lemma => kernel_rfl) (fun _ => by as_aux_lemma => kernel_rfl) ⟨⟨⟨⟨⟨⟨⟨⟨⟨trivial, ?_⟩, ?_⟩, ?_⟩, ?_⟩, ?_⟩, ?_⟩, ?_⟩, ?_⟩, ?_⟩
  · exact o_run 0 [0] [] (fun _ _ => [nb ρ1 0, nb ρ1 0, nb ρ1 0, nb ρ1 0]) (fun _ _ => by as_aux_lemma => kernel_rfl)
  · exact o_run 1 [1] [] (fun _ _ => [nb ρ1 1, nb ρ1 1, nb ρ1 1, nb ρ1 1]) (fun _ _ => by as_aux_lemma => kernel_rfl)
  · exact o_call 2 34 (fun _ => #[(U a), (U b)]) (fun _ => (.tuple #[(U ((a + M - b) % M)), (.bool (decide (a < b)))])) (fun _ _ => by as_aux_lemma => kernel_rfl) (fun _ w => (fun w => rsub_any a b w ha hb) w)
  · exact o_run 3 [] [] (fun _ _ => []) (fun _ _ => by as_aux_lemma => kernel_rfl)
  · exact o_run 4 [] [] (fun _ _ => []) (fun _ _ => by as_aux_lemma => kernel_rfl)
  · exact o_run 5 [] [] (fun _ _ => []) (fun _ _ => by as_aux_lemma => kernel_rfl)
  · exact o_run 6 [] [] (fun _ _ => []) (fun _ _ => by as_aux_lemma => kernel_rfl)
  · exact o_run 7 [53] [] (fun ρ _ => [nb ρ 6, nb ρ 6, nb ρ 6, nb ρ 6]) (fun _ _ => by as_aux_lemma => kernel_rfl)
  · exact o_run 8 [] [] (fun _ _ => []) (fun _ _ => by as_aux_lemma => kernel_rfl)
theorem wideSums_w_r6 (a : Nat) (b : Nat) (ha : a < M) (hb : b < M) (ρ1 : Nat → Orc) (ρ2 : Nat → Orc) (ρ3 : Nat → Orc) (ρ4 : Nat → Orc) (ρ5 : Nat → Orc) (w0 : World) : Reg Try.prog 5 (regOps Try.f7 5) false 91 [(2, (.pointer (some ⟨nb ρ1 0, 0, none⟩))), (3, (.pointer (some ⟨nb ρ1 1, 0, none⟩))), (4, (.bool false)), (5, (.pointer (some ⟨nb ρ2 6, 0, none⟩))), (6, (.bool (decide (M ≤ a + b)))), (7, (.pointer (some ⟨nb ρ3 6, 0, none⟩))), (8, (.bool (decide (M ≤ a + b)))), (9, (.pointer (some ⟨nb ρ4 6, 0, none⟩))), (10, (.bool (decide (a < b)))), (11, (.pointer (some ⟨nb ρ5 6, 0, none⟩))), (12, (.bool (decide (a < b))))] w0 [(nb ρ1 0, (.cells (cU a) 24 (0, 0))), (nb ρ1 1, (.cells (cU b) 24 (0, 0))), (nb ρ2 6, (.cells (cU ((a + b) % M)) 24 (0, 0))), (nb ρ3 6, (.cells (cU ((a + b) % M)) 24 (0, 0))), (nb ρ4 6, (.cells (cU ((a + M - b) % M)) 24 (0, 0))), (nb ρ5 6, (.cells (cU ((a + M - b) % M)) 24 (0, 0)))] (fun _ => True)
    (fun ρ => [(2, (.pointer (some ⟨nb ρ1 0, 0, none⟩))), (3, (.pointer (some ⟨nb ρ1 1, 0, none⟩))), (4, (.bool false)), (5, (.pointer (some ⟨nb ρ2 6, 0, none⟩))), (6, (.bool (decide (M ≤ a + b)))), (7, (.pointer (some ⟨nb ρ3 6, 0, none⟩))), (8, (.bool (decide (M ≤ a + b)))), (9, (.pointer (some ⟨nb ρ4 6, 0, none⟩))), (10, (.bool (decide (a < b)))), (11, (.pointer (some ⟨nb ρ5 6, 0, none⟩))), (12, (.bool (decide (a < b)))), (13, (.pointer (some ⟨nb ρ 6, 0, none⟩))), (14, (.pointer (some ⟨nb ρ 7, 0, none⟩)))])
    (fun ρ => [(nb ρ1 0, (.cells (cU a) 24 (0, 0))), (nb ρ1 1, (.cells (cU b) 24 (0, 0))), (nb ρ2 6, (.cells (cU ((a + b) % M)) 24 (0, 0))), (nb ρ3 6, (.cells (cU ((a + b) % M)) 24 (0, 0))), (nb ρ4 6, (.cells (cU ((a + M - b) % M)) 24 (0, 0))), (nb ρ5 6, (.cells (cU ((a + M - b) % M)) 24 (0, 0))), (nb ρ 6, (.cells (cU ((a * b) / M)) 24 (0, 0))), (nb ρ 7, (.cells (cU ((a * b) % M)) 24 (0, 0)))]) := by
  refine reg_seq [0, 1, 3, 7, 15, 31, 63, 127, 255, 511] [2, 3, 4, 5, 6, 7, 8, 9, 10, 11, 12, 13, 14] 10
    (fun ρ ι => ([(U a), (U b), (.tuple #[(U ((a * b) / M)), (U ((a * b) % M))]), (.tuple #[(U ((a * b) / M)), (U ((a * b) % M))]), (U ((a * b) / M)), (U ((a * b) % M)), (.pointer (some ⟨nb ρ 6, 0, none⟩)), (.pointer (some ⟨nb ρ 7, 0, none⟩)), undef, undef] : List Value).getD ι undef)
    (fun ρ ι => ([{}, {}, {}, {}, {}, {}, { news := [(nb ρ 6, (.cells (cU 0) 24 (0, 0)))] }, { news := [(nb ρ 7, (.cells (cU 0) 24 (0, 0)))] }, { puts := [(54, (.cells (cU ((a * b) / M)) 24 (0, 0)))] }, { puts := [(62, (.cells (cU ((a * b) % M)) 24 (0, 0)))] }] : List Eff).getD ι {})
    (by as_aux_lemma => kernel_rfl) (by as_aux_lemma => kernel_rfl) (fun _ => by as_aux_lemma => kernel_rfl) (fun _ => by as_aux_lemma => kernel_rfl) ⟨⟨⟨⟨⟨⟨⟨⟨⟨⟨trivial, ?_⟩, ?_⟩, ?_⟩, ?_⟩, ?_⟩, ?_⟩, ?_⟩, ?_⟩, ?_⟩, ?_⟩
  · exact o_run 0 [0] [] (fun _ _ => [nb ρ1 0, nb ρ1 0, nb ρ1 0, nb ρ1 0]) (fun _ _ => by as_aux_lemma => kernel_rfl)
  · exact o_run 1 [1] [] (fun _ _ => [nb ρ1 1, nb ρ1 1, nb ρ1 1, nb ρ1 1]) (fun _ _ => by as_aux_lemma => kernel_rfl)
  · exact o_call 2 35 (fun _ => #[(U a), (U b)]) (fun _ => (.tuple #[(U ((a * b) / M)), (U ((a * b) % M))])) (fun _ _ => by as_aux_lemma => kernel_rfl) (fun _ w => (fun w => mul_any a b w ha hb) w)
  · exact o_run 3 [] [] (fun _ _ => []) (fun _ _ => by as_aux_lemma => kernel_rfl)
  · exact o_run 4 [] [] (fun _ _ => []) (fun _ _ => by as_aux_lemma => kernel_rfl)
  · exact o_run 5 [] [] (fun _ _ => []) (fun _ _ => by as_aux_lemma => kernel_rfl)
  · exact o_run 6 [] [] (fun _ _ => []) (fun _ _ => by as_aux_lemma => kernel_rfl)
  · exact o_run 7 [] [] (fun _ _ => []) (fun _ _ => by as_aux_lemma => kernel_rfl)
  · exact o_run 8 [54] [] (fun ρ _ => [nb ρ 6, nb ρ 6, nb ρ 6, nb ρ 6]) (fun _ _ => by as_aux_lemma => kernel_rfl)
  · exact o_run 9 [62] [] (fun ρ _ => [nb ρ 7, nb ρ 7, nb ρ 7, nb ρ 7]) (fun _ _ => by as_aux_lemma => kernel_rfl)
theorem wideSums_w_r7 (a : Nat) (b : Nat) (ha : a < M) (hb : b < M) (ρ1 : Nat → Orc) (ρ2 : Nat → Orc) (ρ3 : Nat → Orc) (ρ4 : Nat → Orc) (ρ5 : Nat → Orc) (ρ6 : Nat → Orc) (w0 : World) : Reg Try.prog 6 (regOps Try.f7 6) false 91 [(2, (.pointer (some ⟨nb ρ1 0, 0, none⟩))), (3, (.pointer (some ⟨nb ρ1 1, 0, none⟩))), (4, (.bool false)), (5, (.pointer (some ⟨nb ρ2 6, 0, none⟩))), (6, (.bool (decide (M ≤ a + b)))), (7, (.pointer (some ⟨nb ρ3 6, 0, none⟩))), (8, (.bool (decide (M ≤ a + b)))), (9, (.pointer (some ⟨nb ρ4 6, 0, none⟩))), (10, (.bool (decide (a < b)))), (11, (.pointer (some ⟨nb ρ5 6, 0, none⟩))), (12, (.bool (decide (a < b)))), (13, (.pointer (some ⟨nb ρ6 6, 0, none⟩))), (14, (.pointer (some ⟨nb ρ6 7, 0, none⟩)))] w0 [(nb ρ1 0, (.cells (cU a) 24 (0, 0))), (nb ρ1 1, (.cells (cU b) 24 (0, 0))), (nb ρ2 6, (.cells (cU ((a + b) % M)) 24 (0, 0))), (nb ρ3 6, (.cells (cU ((a + b) % M)) 24 (0, 0))), (nb ρ4 6, (.cells (cU ((a + M - b) % M)) 24 (0, 0))), (nb ρ5 6, (.cells (cU ((a + M - b) % M)) 24 (0, 0))), (nb ρ6 6, (.cells (cU ((a * b) / M)) 24 (0, 0))), (nb ρ6 7, (.cells (cU ((a * b) % M)) 24 (0, 0)))] (fun _ => True)
    (fun ρ => [(2, (.pointer (some ⟨nb ρ1 0, 0, none⟩))), (4, (.bool false)), (5, (.pointer (some ⟨nb ρ2 6, 0, none⟩))), (6, (.bool (decide (M ≤ a + b)))), (7, (.pointer (some ⟨nb ρ3 6, 0, none⟩))), (8, (.bool (decide (M ≤ a + b)))), (9, (.pointer (some ⟨nb ρ4 6, 0, none⟩))), (10, (.bool (decide (a < b)))), (11, (.pointer (some ⟨nb ρ5 6, 0, none⟩))), (12, (.bool (decide (a < b)))), (13, (.pointer (some ⟨nb ρ6 6, 0, none⟩))), (14, (.pointer (some ⟨nb ρ6 7, 0, none⟩))), (15, (.pointer (some ⟨nb ρ 6, 0, none⟩))), (16, (.pointer (some ⟨nb ρ 7, 0, none⟩)))])
    (fun ρ => [(nb ρ1 0, (.cells (cU a) 24 (0, 0))), (nb ρ1 1, (.cells (cU b) 24 (0, 0))), (nb ρ2 6, (.cells (cU ((a + b) % M)) 24 (0, 0))), (nb ρ3 6, (.cells (cU ((a + b) % M)) 24 (0, 0))), (nb ρ4 6, (.cells (cU ((a + M - b) % M)) 24 (0, 0))), (nb ρ5 6, (.cells (cU ((a + M - b) % M)) 24 (0, 0))), (nb ρ6 6, (.cells (cU ((a * b) / M)) 24 (0, 0))), (nb ρ6 7, (.cells (cU ((a * b) % M)) 24 (0, 0))), (nb ρ 6, (.cells (cU ((a * b) / M)) 24 (0, 0))), (nb ρ 7, (.cells (cU ((a * b) % M)) 24 (0, 0)))]) := by
  refine reg_seq [0, 1, 3, 7, 15, 31, 63, 127, 255, 511] [2, 4, 5, 6, 7, 8, 9, 10, 11, 12, 13, 14, 15, 16] 10
    (fun ρ ι => ([(U a), (U b), (.tuple #[(U ((a * b) / M)), (U ((a * b) % M))]), (.tuple #[(U ((a * b) / M)), (U ((a * b) % M))]), (U ((a * b) / M)), (U ((a * b) % M)), (.pointer (some ⟨nb ρ 6, 0, none⟩)), (.pointer (some ⟨nb ρ 7, 0, none⟩)), undef, undef] : List Value).getD ι undef)
    (fun ρ ι => ([{}, {}, {}, {}, {}, {}, { news := [(nb ρ 6, (.cells (cU 0) 24 (0, 0)))] }, { news := [(nb ρ 7, (.cells (cU 0) 24 (0, 0)))] }, { puts := [(56, (.cells (cU ((a * b) / M)) 24 (0, 0)))] }, { puts := [(64, (.cells (cU ((a * b) % M)) 24 (0, 0)))] }] : List Eff).getD ι {})
    (by as_aux_lemma => kernel_rfl) (by as_aux_lemma => kernel_rfl) (fun _ => by as_aux_lemma => kernel_rfl) (fun _ => by as_aux_lemma => kernel_rfl) ⟨⟨⟨⟨⟨⟨⟨⟨⟨⟨trivial, ?_⟩, ?_⟩, ?_⟩, ?_⟩, ?_⟩, ?_⟩, ?_⟩, ?_⟩, ?_⟩, ?_⟩
  · exact o_run 0 [0] [] (fun _ _ => [nb ρ1 0, nb ρ1 0, nb ρ1 0, nb ρ1 0]) (fun _ _ => by as_aux_lemma => kernel_rfl)
  · exact o_run 1 [1] [] (fun _ _ => [nb ρ1 1, nb ρ1 1, nb ρ1 1, nb ρ1 1]) (fun _ _ => by as_aux_lemma => kernel_rfl)
  · exact o_call 2 36 (fun _ => #[(U a), (U b)]) (fun _ => (.tuple #[(U ((a * b) / M)), (U ((a * b) % M))])) (fun _ _ => by as_aux_lemma => kernel_rfl) (fun _ w => (fun w => rmul_any a b w ha hb) w)
  · exact o_run 3 [] [] (fun _ _ => []) (fun _ _ => by as_aux_lemma => kernel_rfl)
  · exact o_run 4 [] [] (fun _ _ => []) (fun _ _ => by as_aux_lemma => kernel_rfl)
  · exact o_run 5 [] [] (fun _ _ => []) (fun _ _ => by as_aux_lemma => kernel_rfl)
  · exact o_run 6 [] [] (fun _ _ => []) (fun _ _ => by as_aux_lemma => kernel_rfl)
  · exact o_run 7 [] [] (fun _ _ => []) (fun _ _ => by as_aux_lemma => kernel_rfl)
  · exact o_run 8 [56] [] (fun ρ _ => [nb ρ 6, nb ρ 6, nb ρ 6, nb ρ 6]) (fun _ _ => by as_aux_lemma => kernel_rfl)
  · exact o_run 9 [64] [] (fun ρ _ => [nb ρ 7, nb ρ 7, nb ρ 7, nb ρ 7]) (fun _ _ => by as_aux_lemma => kernel_rfl)
theorem wideSums_w_r8 (a : Nat) (b : Nat) (ha : a < M) (hb : b < M) (ρ1 : Nat → Orc) (ρ2 : Nat → Orc) (ρ3 : Nat → Orc) (ρ4 : Nat → Orc) (ρ5 : Nat → Orc) (ρ6 : Nat → Orc) (ρ7 : Nat → Orc) (w0 : World) : Reg Try.prog 7 (regOps Try.f7 7) true 91 [(2, (.pointer (some ⟨nb ρ1 0, 0, none⟩))), (4, (.bool false)), (5, (.pointer (some ⟨nb ρ2 6, 0, none⟩))), (6, (.bool (decide (M ≤ a + b)))), (7, (.pointer (some ⟨nb ρ3 6, 0, none⟩))), (8, (.bool (decide (M ≤ a + b)))), (9, (.pointer (some ⟨nb ρ4 6, 0, none⟩))), (10, (.bool (decide (a < b)))), (11, (.pointer (some ⟨nb ρ5 6, 0, none⟩))), (12, (.bool (decide (a < b)))), (13, (.pointer (some ⟨nb ρ6 6, 0, none⟩))), (14, (.pointer (some ⟨nb ρ6 7, 0, none⟩))), (15, (.pointer (some ⟨nb ρ7 6, 0, none⟩))), (16, (.pointer (some ⟨nb ρ7 7, 0, none⟩)))] w0 [(nb ρ1 0, (.cells (cU a) 24 (0, 0))), (nb ρ1 1, (.cells (cU b) 24 (0, 0))), (nb ρ2 6, (.cells (cU ((a + b) % M)) 24 (0, 0))), (nb ρ3 6, (.cells (cU ((a + b) % M)) 24 (0, 0))), (nb ρ4 6, (.cells (cU ((a + M - b) % M)) 24 (0, 0))), (nb ρ5 6, (.cells (cU ((a + M - b) % M)) 24 (0, 0))), (nb ρ6 6, (.cells (cU ((a * b) / M)) 24 (0, 0))), (nb ρ6 7, (.cells (cU ((a * b) % M)) 24 (0, 0))), (nb ρ7 6, (.cells (cU ((a * b) / M)) 24 (0, 0))), (nb ρ7 7, (.cells (cU ((a * b) % M)) 24 (0, 0)))] (fun _ => True)
    (fun _ => [(4, (.bool true))])
    (fun _ => [(nb ρ1 0, (.cells (cU a) 24 (0, 0))), (nb ρ1 1, (.cells (cU b) 24 (0, 0))), (nb ρ2 6, (.cells (cU ((a + b) % M)) 24 (0, 0))), (nb ρ3 6, (.cells (cU ((a + b) % M)) 24 (0, 0))), (nb ρ4 6, (.cells (cU ((a + M - b) % M)) 24 (0, 0))), (nb ρ5 6, (.cells (cU ((a + M - b) % M)) 24 (0, 0))), (nb ρ6 6, (.cells (cU ((a * b) / M)) 24 (0, 0))), (nb ρ6 7, (.cells (cU ((a * b) % M)) 24 (0, 0))), (nb ρ7 6, (.cells (cU ((a * b) / M)) 24 (0, 0))), (nb ρ7 7, (.cells (cU ((a * b) % M)) 24 (0, 0)))]) := by
  refine reg_drawn [0, 1, 3, 3, 15, 31, 63, 127, 127, 511, 1023, 2047, 4095, 4095, 16383, 32767, 65535, 131071, 131071, 524287, 1048575, 2097151, 4194303, 4194303, 16777215, 33554431, 67108863, 134217727, 134217727, 536870911, 1073741823, 2147483647, 4294967295, 8589934591, 4294967295, 34359738367, 68719476735, 137438953471, 274877906943] [4] 39
    (fun _ ι => ([(.bool true), (.bool true), (U ((a + b) % M)), (U ((a + b) % M)), (.bool true), (.bool true), (.bool true), (.bool (decide (M ≤ a + b))), (.bool (decide (M ≤ a + b))), (.bool true), (.bool true), (.bool true), (U ((a + M - b) % M)), (U ((a + M - b) % M)), (.bool true), (.bool true), (.bool true), (.bool (decide (a < b))), (.bool (decide (a < b))), (.bool true), (.bool true), (.bool true), (U ((a * b) / M)), (U ((a * b) / M)), (.bool true), (.bool true), (.bool true), (U ((a * b) % M)), (U ((a * b) % M)), (.bool true), (.bool true), (.bool true), (U a), (U (M - 1 - a)), (U a), (U (M - 1 - a)), (.bool true), (.bool true), (.bool true)] : List Value).getD ι undef)
    (fun _ ι => ([{}, {}, {}, {}, {}, {}, {}, {}, {}, {}, {}, {}, {}, {}, {}, {}, {}, {}, {}, {}, {}, {}, {}, {}, {}, {}, {}, {}, {}, {}, {}, {}, {}, {}, {}, {}, {}, {}, {}] : List Eff).getD ι {})
    (by as_aux_lemma => kernel_rfl) (by as_aux_lemma => kernel_rfl) (by as_aux_lemma => kernel_rfl) (fun _ => by as_aux_lemma => kernel_rfl) (fun _ => by as_aux_lemma => kernel_rfl) ⟨⟨⟨⟨⟨⟨⟨⟨⟨⟨⟨⟨⟨⟨⟨⟨⟨⟨⟨⟨⟨⟨⟨⟨⟨⟨⟨⟨⟨⟨⟨⟨⟨⟨⟨⟨⟨⟨⟨trivial, ?_⟩, ?_⟩, ?_⟩, ?_⟩, ?_⟩, ?_⟩, ?_⟩, ?_⟩, ?_⟩, ?_⟩, ?_⟩, ?_⟩, ?_⟩, ?_⟩, ?_⟩, ?_⟩, ?_⟩, ?_⟩, ?_⟩, ?_⟩, ?_⟩, ?_⟩, ?_⟩, ?_⟩, ?_⟩, ?_⟩, ?_⟩, ?_⟩, ?_⟩, ?_⟩, ?_⟩, ?_⟩, ?_⟩, ?_⟩, ?_⟩, ?_⟩, ?_⟩, ?_⟩, ?_⟩
  · exact o_call 0 17 (fun _ => #[]) (fun _ => (.bool true)) (fun _ _ => by as_aux_lemma => kernel_rfl) (fun _ w => (fun w => sane_any w) w)
  · exact o_run 1 [] [] (fun _ _ => []) (fun _ _ => by as_aux_lemma => kernel_rfl)
  · exact o_run 2 [2] [] (fun _ _ => [nb ρ2 6, nb ρ2 6, nb ρ2 6, nb ρ2 6]) (fun _ _ => by as_aux_lemma => kernel_rfl)
  · exact o_run 3 [3] [] (fun _ _ => [nb ρ3 6, nb ρ3 6, nb ρ3 6, nb ρ3 6]) (fun _ _ => by as_aux_lemma => kernel_rfl)
  · exact o_bin 4 .eql 24 (fun _ => (U ((a + b) % M))) (fun _ => (U ((a + b) % M))) (fun _ => (.bool true)) (fun _ => by as_aux_lemma => kernel_rfl) (fun _ _ _ _ => by as_aux_lemma => kernel_rfl) (fun _ _ => eqlU_same ((a + b) % M) (modM_lt _) _)
  · exact o_run 5 [] [] (fun _ _ => []) (fun _ _ => by as_aux_lemma => kernel_rfl)
  · exact o_run 6 [] [] (fun _ _ => []) (fun _ _ => by as_aux_lemma => kernel_rfl)
  · exact o_run 7 [] [] (fun _ _ => []) (fun _ _ => by as_aux_lemma => kernel_rfl)
  · exact o_run 8 [] [] (fun _ _ => []) (fun _ _ => by as_aux_lemma => kernel_rfl)
  · exact o_as 9 (fun _ => (.bool ((decide (M ≤ a + b)) == (decide (M ≤ a + b))))) (fun _ => (.bool true)) (fun _ _ => by as_aux_lemma => kernel_rfl) (fun _ => congrArg Value.bool (beq_self_eq_true _))
  · exact o_run 10 [] [] (fun _ _ => []) (fun _ _ => by as_aux_lemma => kernel_rfl)
  · exact o_run 11 [] [] (fun _ _ => []) (fun _ _ => by as_aux_lemma => kernel_rfl)
  · exact o_run 12 [4] [] (fun _ _ => [nb ρ4 6, nb ρ4 6, nb ρ4 6, nb ρ4 6]) (fun _ _ => by as_aux_lemma => kernel_rfl)
  · exact o_run 13 [5] [] (fun _ _ => [nb ρ5 6, nb ρ5 6, nb ρ5 6, nb ρ5 6]) (fun _ _ => by as_aux_lemma => kernel_rfl)
  · exact o_bin 14 .eql 24 (fun _ => (U ((a + M - b) % M))) (fun _ => (U ((a + M - b) % M))) (fun _ => (.bool true)) (fun _ => by as_aux_lemma => kernel_rfl) (fun _ _ _ _ => by as_aux_lemma => kernel_rfl) (fun _ _ => eqlU_same ((a + M - b) % M) (modM_lt _) _)
  · exact o_run 15 [] [] (fun _ _ => []) (fun _ _ => by as_aux_lemma => kernel_rfl)
  · exact o_run 16 [] [] (fun _ _ => []) (fun _ _ => by as_aux_lemma => kernel_rfl)
  · exact o_run 17 [] [] (fun _ _ => []) (fun _ _ => by as_aux_lemma => kernel_rfl)
  · exact o_run 18 [] [] (fun _ _ => []) (fun _ _ => by as_aux_lemma => kernel_rfl)
  · exact o_as 19 (fun _ => (.bool ((decide (a < b)) == (decide (a < b))))) (fun _ => (.bool true)) (fun _ _ => by as_aux_lemma => kernel_rfl) (fun _ => congrArg Value.bool (beq_self_eq_true _))
  · exact o_run 20 [] [] (fun _ _ => []) (fun _ _ => by as_aux_lemma => kernel_rfl)
  · exact o_run 21 [] [] (fun _ _ => []) (fun _ _ => by as_aux_lemma => kernel_rfl)
  · exact o_run 22 [6] [] (fun _ _ => [nb ρ6 6, nb ρ6 6, nb ρ6 6, nb ρ6 6]) (fun _ _ => by as_aux_lemma => kernel_rfl)
  · exact o_run 23 [8] [] (fun _ _ => [nb ρ7 6, nb ρ7 6, nb ρ7 6, nb ρ7 6]) (fun _ _ => by as_aux_lemma => kernel_rfl)
  · exact o_bin 24 .eql 24 (fun _ => (U ((a * b) / M))) (fun _ => (U ((a * b) / M))) (fun _ => (.bool true)) (fun _ => by as_aux_lemma => kernel_rfl) (fun _ _ _ _ => by as_aux_lemma => kernel_rfl) (fun _ _ => eqlU_same ((a * b) / M) (mulhi_lt ha hb) _)
  · exact o_run 25 [] [] (fun _ _ => []) (fun _ _ => by as_aux_lemma => kernel_rfl)
  · exact o_run 26 [] [] (fun _ _ => []) (fun _ _ => by as_aux_lemma => kernel_rfl)
  · exact o_run 27 [7] [] (fun _ _ => [nb ρ6 7, nb ρ6 7, nb ρ6 7, nb ρ6 7]) (fun _ _ => by as_aux_lemma => kernel_rfl)
  · exact o_run 28 [9] [] (fun _ _ => [nb ρ7 7, nb ρ7 7, nb ρ7 7, nb ρ7 7]) (fun _ _ => by as_aux_lemma => kernel_rfl)
  · exact o_bin 29 .eql 24 (fun _ => (U ((a * b) % M))) (fun _ => (U ((a * b) % M))) (fun _ => (.bool true)) (fun _ => by as_aux_lemma => kernel_rfl) (fun _ _ _ _ => by as_aux_lemma => kernel_rfl) (fun _ _ => eqlU_same ((a * b) % M) (modM_lt _) _)
  · exact o_run 30 [] [] (fun _ _ => []) (fun _ _ => by as_aux_lemma => kernel_rfl)
  · exact o_run 31 [] [] (fun _ _ => []) (fun _ _ => by as_aux_lemma => kernel_rfl)
  · exact o_run 32 [0] [] (fun _ _ => [nb ρ1 0, nb ρ1 0, nb ρ1 0, nb ρ1 0]) (fun _ _ => by as_aux_lemma => kernel_rfl)
  · exact o_call 33 37 (fun _ => #[(U a)]) (fun _ => (U (M - 1 - a))) (fun _ _ => by as_aux_lemma => kernel_rfl) (fun _ w => (fun w => not_any a w ha) w)
  · exact o_run 34 [0] [] (fun _ _ => [nb ρ1 0, nb ρ1 0, nb ρ1 0, nb ρ1 0]) (fun _ _ => by as_aux_lemma => kernel_rfl)
  · exact o_call 35 38 (fun _ => #[(U a)]) (fun _ => (U (M - 1 - a))) (fun _ _ => by as_aux_lemma => kernel_rfl) (fun _ w => (fun w => rnot_any a w ha) w)
  · exact o_bin 36 .eql 24 (fun _ => (U (M - 1 - a))) (fun _ => (U (M - 1 - a))) (fun _ => (.bool true)) (fun _ => by as_aux_lemma => kernel_rfl) (fun _ _ _ _ => by as_aux_lemma => kernel_rfl) (fun _ _ => eqlU_same (M - 1 - a) (subM_lt _) _)
  · exact o_run 37 [] [] (fun _ _ => []) (fun _ _ => by as_aux_lemma => kernel_rfl)
  · exact o_run 38 [] [] (fun _ _ => []) (fun _ _ => by as_aux_lemma => kernel_rfl)
theorem wideSums_w (a : Nat) (b : Nat) (ha : a < M) (hb : b < M) (w0 : World) : Calls Try.prog 7 #[(U a), (U b)] w0 (fun e w' => e = .returned (.bool true) ∧ Below w0.heap.size w0 w') := by
  refine Calls.of_ok (n := 91) (F := fun _ => True) Try.func7 rfl rfl rfl (by simp) (persTrue (fun _ => trivial)) ?_
  refine ok_seq_r (by as_aux_lemma => kernel_rfl) (wideSums_w_r1 a b _) (fun ρ1 => ?_)
  refine ok_seq_r (by as_aux_lemma => kernel_rfl) (wideSums_w_r2 a b ha hb ρ1 _) (fun ρ2 => ?_)
  refine ok_seq_r (by as_aux_lemma => kernel_rfl) (wideSums_w_r3 a b ha hb ρ1 ρ2 _) (fun ρ3 => ?_)
  refine ok_seq_r (by as_aux_lemma => kernel_rfl) (wideSums_w_r4 a b ha hb ρ1 ρ2 ρ3 _) (fun ρ4 => ?_)
  refine ok_seq_r (by as_aux_lemma => kernel_rfl) (wideSums_w_r5 a b ha hb ρ1 ρ2 ρ3 ρ4 _) (fun ρ5 => ?_)
  refine ok_seq_r (by as_aux_lemma => kernel_rfl) (wideSums_w_r6 a b ha hb ρ1 ρ2 ρ3 ρ4 ρ5 _) (fun ρ6 => ?_)
  refine ok_seq_r (by as_aux_lemma => kernel_rfl) (wideSums_w_r7 a b ha hb ρ1 ρ2 ρ3 ρ4 ρ5 ρ6 _) (fun ρ7 => ?_)
  refine ok_seq_r (by as_aux_lemma => kernel_rfl) (wideSums_w_r8 a b ha hb ρ1 ρ2 ρ3 ρ4 ρ5 ρ6 ρ7 _) (fun _ => ?_)
  refine ok_ret ?_
  exact meets_ret (v := (.bool true)) [] (dup []) (by as_aux_lemma => kernel_rfl) (by as_aux_lemma => kernel_rfl) (eqs_dup _) (fun _ hS => ⟨rfl, hS.below⟩)
theorem wideSums_walk (a : Nat) (b : Nat) (w0 : World) (ha : a < M) (hb : b < M) : Calls Try.prog 7 #[(U a), (U b)] w0 (fun e w' => e = .returned (.bool true) ∧ Below w0.heap.size w0 w') := wideSums_w a b ha hb w0
end Go.Proofs.Ytlgjdejlnelndaa
