/-
  The law TargetOrder: the walk.
-/
import Derived.Test.YtkiijahkmgmnnaaTSane
import Derived.Test.YtkiijahkmgmnnaaOpen
import Derived.Test.YtkiijahkmgmnnaaTargetLaws2
namespace Go.Proofs.Ytkiijahkmgmnnaa
open Go Go.RowKit
set_option maxRecDepth 100000
theorem targetOrder_w_r1 (a : Nat) (b : Nat) (h : Nat) (w0 : World) : Reg Try.prog 0 (regOps Try.f9 0) false 69 [(0, (U a)), (1, (U b)), (2, (.agg (hB h)))] w0 [] (fun _ => True)
    (fun ρ => [(3, (.pointer (some ⟨nb ρ 0, 0, none⟩))), (4, (.pointer (some ⟨nb ρ 1, 0, none⟩))), (5, (.pointer (some ⟨nb ρ 2, 0, none⟩))), (6, (.bool false))])
    (fun ρ => [(nb ρ 0, (.cells (cU a) 24 (0, 0))), (nb ρ 1, (.cells (cU b) 24 (0, 0))), (nb ρ 2, (.cells (hB h) 44 (0, 0)))]) := by
  refine reg_seq [0, 1, 3, 7] [3, 4, 5, 6] 4
    (fun ρ ι => ([(.pointer (some ⟨nb ρ 0, 0, none⟩)), (.pointer (some ⟨nb ρ 1, 0, none⟩)), (.pointer (some ⟨nb ρ 2, 0, none⟩)), (.bool false)] : List Value).getD ι undef)
    (fun ρ ι => ([{ news := [(nb ρ 0, (.cells (cU a) 24 (0, 0)))] }, { news := [(nb ρ 1, (.cells (cU b) 24 (0, 0)))] }, { news := [(nb ρ 2, (.cells (hB h) 44 (0, 0)))] }, {}] : List Eff).getD ι {})
    (by as_aux_lemma => kernel_rfl) (by as_aux_lemma => kernel_rfl) (fun _ => by as_aux_lemma => kernel_rfl) (fun _ => by as_aux_lemma => kernel_rfl) ⟨⟨⟨⟨trivial, ?_⟩, ?_⟩, ?_⟩, ?_⟩
  · exact o_run 0 [] [] (fun _ _ => []) (fun _ _ => by as_aux_lemma => kernel_rfl)
  · exact o_run 1 [] [] (fun _ _ => []) (fun _ _ => by as_aux_lemma => kernel_rfl)
  · exact o_run 2 [] [] (fun _ _ => []) (fun _ _ => by as_aux_lemma => kernel_rfl)
  · exact o_run 3 [] [] (fun _ _ => []) (fun _ _ => by as_aux_lemma => kernel_rfl)
theorem targetOrder_w_r2 (a : Nat) (b : Nat) (h : Nat) (ρ1 : Nat → Orc) (w0 : World) : Reg Try.prog 1 (regOps Try.f9 1) false 69 [(3, (.pointer (some ⟨nb ρ1 0, 0, none⟩))), (4, (.pointer (some ⟨nb ρ1 1, 0, none⟩))), (5, (.pointer (some ⟨nb ρ1 2, 0, none⟩))), (6, (.bool false))] w0 [(nb ρ1 0, (.cells (cU a) 24 (0, 0))), (nb ρ1 1, (.cells (cU b) 24 (0, 0))), (nb ρ1 2, (.cells (hB h) 44 (0, 0)))] (fun _ => True)
    (fun _ => [(3, (.pointer (some ⟨nb ρ1 0, 0, none⟩))), (4, (.pointer (some ⟨nb ρ1 1, 0, none⟩))), (5, (.pointer (some ⟨nb ρ1 2, 0, none⟩))), (6, (.bool false)), (14, (.bool false))])
    (fun _ => [(nb ρ1 0, (.cells (cU a) 24 (0, 0))), (nb ρ1 1, (.cells (cU b) 24 (0, 0))), (nb ρ1 2, (.cells (hB h) 44 (0, 0)))]) := by
  refine reg_seq [0, 1] [3, 4, 5, 6, 14] 2
    (fun _ ι => ([(.bool true), (.bool false)] : List Value).getD ι undef)
    (fun _ ι => ([{}, {}] : List Eff).getD ι {})
    (by as_aux_lemma => kernel_rfl) (by as_aux_lemma => kernel_rfl) (fun _ => by as_aux_lemma => kernel_rfl) (fun _ => by as_aux_lemma => kernel_rfl) ⟨⟨trivial, ?_⟩, ?_⟩
  · exact o_call 0 34 (fun _ => #[]) (fun _ => (.bool true)) (fun _ _ => by as_aux_lemma => kernel_rfl) (fun _ w => (fun w => tsane_any w) w)
  · exact o_run 1 [] [] (fun _ _ => []) (fun _ _ => by as_aux_lemma => kernel_rfl)
theorem targetOrder_w_r3 (a : Nat) (b : Nat) (h : Nat) (ha : a < M) (hb : b < M) (ρ1 : Nat → Orc) (w0 : World) : Reg Try.prog 3 (regOps Try.f9 3) false 69 [(3, (.pointer (some ⟨nb ρ1 0, 0, none⟩))), (4, (.pointer (some ⟨nb ρ1 1, 0, none⟩))), (5, (.pointer (some ⟨nb ρ1 2, 0, none⟩))), (6, (.bool false)), (14, (.bool false))] w0 [(nb ρ1 0, (.cells (cU a) 24 (0, 0))), (nb ρ1 1, (.cells (cU b) 24 (0, 0))), (nb ρ1 2, (.cells (hB h) 44 (0, 0)))] (fun _ => True)
    (fun _ => [(3, (.pointer (some ⟨nb ρ1 0, 0, none⟩))), (4, (.pointer (some ⟨nb ρ1 1, 0, none⟩))), (5, (.pointer (some ⟨nb ρ1 2, 0, none⟩))), (6, (.bool false)), (18, (.bool (decide (0 < (cmpN a b)))))])
    (fun _ => [(nb ρ1 0, (.cells (cU a) 24 (0, 0))), (nb ρ1 1, (.cells (cU b) 24 (0, 0))), (nb ρ1 2, (.cells (hB h) 44 (0, 0)))]) := by
  refine reg_seq [0, 1, 3, 7] [3, 4, 5, 6, 18] 4
    (fun _ ι => ([(U a), (U b), (.int .i64 (cmpN a b)), (.bool (decide (0 < (cmpN a b))))] : List Value).getD ι undef)
    (fun _ ι => ([{}, {}, {}, {}] : List Eff).getD ι {})
    (by as_aux_lemma => kernel_rfl) (by as_aux_lemma => kernel_rfl) (fun _ => by as_aux_lemma => kernel_rfl) (fun _ => by as_aux_lemma => kernel_rfl) ⟨⟨⟨⟨trivial, ?_⟩, ?_⟩, ?_⟩, ?_⟩
  · exact o_run 0 [0] [] (fun _ _ => [nb ρ1 0, nb ρ1 0, nb ρ1 0, nb ρ1 0]) (fun _ _ => by as_aux_lemma => kernel_rfl)
  · exact o_run 1 [1] [] (fun _ _ => [nb ρ1 1, nb ρ1 1, nb ρ1 1, nb ρ1 1]) (fun _ _ => by as_aux_lemma => kernel_rfl)
  · exact o_call 2 40 (fun _ => #[(U a), (U b)]) (fun _ => (.int .i64 (cmpN a b))) (fun _ _ => by as_aux_lemma => kernel_rfl) (fun _ w => (fun w => rcmp_any a b w ha hb) w)
  · exact o_run 3 [] [] (fun _ _ => []) (fun _ _ => by as_aux_lemma => kernel_rfl)
theorem targetOrder_w_r4 (a : Nat) (b : Nat) (h : Nat) (ρ1 : Nat → Orc) (w0 : World) : Reg Try.prog 4 (regOps Try.f9 4) false 69 [(3, (.pointer (some ⟨nb ρ1 0, 0, none⟩))), (4, (.pointer (some ⟨nb ρ1 1, 0, none⟩))), (5, (.pointer (some ⟨nb ρ1 2, 0, none⟩))), (6, (.bool false)), (18, (.bool true))] w0 [(nb ρ1 0, (.cells (cU a) 24 (0, 0))), (nb ρ1 1, (.cells (cU b) 24 (0, 0))), (nb ρ1 2, (.cells (hB h) 44 (0, 0)))] (fun _ => True)
    (fun _ => [(3, (.pointer (some ⟨nb ρ1 0, 0, none⟩))), (4, (.pointer (some ⟨nb ρ1 1, 0, none⟩))), (5, (.pointer (some ⟨nb ρ1 2, 0, none⟩))), (6, (.bool false))])
    (fun _ => [(nb ρ1 0, (.cells (cU b) 24 (0, 0))), (nb ρ1 1, (.cells (cU a) 24 (0, 0))), (nb ρ1 2, (.cells (hB h) 44 (0, 0)))]) := by
  refine reg_seq [0, 1, 3, 7] [3, 4, 5, 6] 4
    (fun _ ι => ([(U b), (U a), undef, undef] : List Value).getD ι undef)
    (fun _ ι => ([{}, {}, { puts := [(0, (.cells (cU b) 24 (0, 0)))] }, { puts := [(1, (.cells (cU a) 24 (0, 0)))] }] : List Eff).getD ι {})
    (by as_aux_lemma => kernel_rfl) (by as_aux_lemma => kernel_rfl) (fun _ => by as_aux_lemma => kernel_rfl) (fun _ => by as_aux_lemma => kernel_rfl) ⟨⟨⟨⟨trivial, ?_⟩, ?_⟩, ?_⟩, ?_⟩
  · exact o_run 0 [1] [] (fun _ _ => [nb ρ1 1, nb ρ1 1, nb ρ1 1, nb ρ1 1]) (fun _ _ => by as_aux_lemma => kernel_rfl)
  · exact o_run 1 [0] [] (fun _ _ => [nb ρ1 0, nb ρ1 0, nb ρ1 0, nb ρ1 0]) (fun _ _ => by as_aux_lemma => kernel_rfl)
  · exact o_run 2 [0] [] (fun _ _ => [nb ρ1 0, nb ρ1 0, nb ρ1 0, nb ρ1 0]) (fun _ _ => by as_aux_lemma => kernel_rfl)
  · exact o_run 3 [1] [] (fun _ _ => [nb ρ1 1, nb ρ1 1, nb ρ1 1, nb ρ1 1]) (fun _ _ => by as_aux_lemma => kernel_rfl)
theorem targetOrder_w_r5 (a : Nat) (b : Nat) (h : Nat) (hb : b < M) (ρ1 : Nat → Orc) (w0 : World) : Reg Try.prog 5 (regOps Try.f9 5) false 69 [(3, (.pointer (some ⟨nb ρ1 0, 0, none⟩))), (4, (.pointer (some ⟨nb ρ1 1, 0, none⟩))), (5, (.pointer (some ⟨nb ρ1 2, 0, none⟩))), (6, (.bool false))] w0 [(nb ρ1 0, (.cells (cU b) 24 (0, 0))), (nb ρ1 1, (.cells (cU a) 24 (0, 0))), (nb ρ1 2, (.cells (hB h) 44 (0, 0)))] (fun _ => True)
    (fun _ => [(3, (.pointer (some ⟨nb ρ1 0, 0, none⟩))), (4, (.pointer (some ⟨nb ρ1 1, 0, none⟩))), (5, (.pointer (some ⟨nb ρ1 2, 0, none⟩))), (6, (.bool false)), (23, (.bool (decide (b = 0))))])
    (fun _ => [(nb ρ1 0, (.cells (cU b) 24 (0, 0))), (nb ρ1 1, (.cells (cU a) 24 (0, 0))), (nb ρ1 2, (.cells (hB h) 44 (0, 0)))]) := by
  refine reg_seq [0, 1, 3] [3, 4, 5, 6, 23] 3
    (fun _ ι => ([(U b), (U 0), (.bool (decide (b = 0)))] : List Value).getD ι undef)
    (fun _ ι => ([{}, {}, {}] : List Eff).getD ι {})
    (by as_aux_lemma => kernel_rfl) (by as_aux_lemma => kernel_rfl) (fun _ => by as_aux_lemma => kernel_rfl) (fun _ => by as_aux_lemma => kernel_rfl) ⟨⟨⟨trivial, ?_⟩, ?_⟩, ?_⟩
  · exact o_run 0 [0] [] (fun _ _ => [nb ρ1 0, nb ρ1 0, nb ρ1 0, nb ρ1 0]) (fun _ _ => by as_aux_lemma => kernel_rfl)
  · exact o_run 1 [] [] (fun _ _ => []) (fun _ _ => by as_aux_lemma => kernel_rfl)
  · exact o_bin 2 .eql 24 (fun _ => (U b)) (fun _ => (U 0)) (fun _ => (.bool (decide (b = 0)))) (fun _ => by as_aux_lemma => kernel_rfl) (fun _ _ _ _ => by as_aux_lemma => kernel_rfl) (fun _ _ => eqlU b 0 hb (by decide +kernel) _)
theorem targetOrder_w_r6 (a : Nat) (b : Nat) (h : Nat) (ρ1 : Nat → Orc) (w0 : World) : Reg Try.prog 6 (regOps Try.f9 6) false 69 [(3, (.pointer (some ⟨nb ρ1 0, 0, none⟩))), (4, (.pointer (some ⟨nb ρ1 1, 0, none⟩))), (5, (.pointer (some ⟨nb ρ1 2, 0, none⟩))), (6, (.bool false)), (23, (.bool true))] w0 [(nb ρ1 0, (.cells (cU b) 24 (0, 0))), (nb ρ1 1, (.cells (cU a) 24 (0, 0))), (nb ρ1 2, (.cells (hB h) 44 (0, 0)))] (fun _ => True)
    (fun _ => [(3, (.pointer (some ⟨nb ρ1 0, 0, none⟩))), (4, (.pointer (some ⟨nb ρ1 1, 0, none⟩))), (5, (.pointer (some ⟨nb ρ1 2, 0, none⟩))), (6, (.bool true))])
    (fun _ => [(nb ρ1 0, (.cells (cU b) 24 (0, 0))), (nb ρ1 1, (.cells (cU a) 24 (0, 0))), (nb ρ1 2, (.cells (hB h) 44 (0, 0)))]) := by
  refine reg_seq [0] [3, 4, 5, 6] 1
    (fun _ ι => ([(.bool true)] : List Value).getD ι undef)
    (fun _ ι => ([{}] : List Eff).getD ι {})
    (by as_aux_lemma => kernel_rfl) (by as_aux_lemma => kernel_rfl) (fun _ => by as_aux_lemma => kernel_rfl) (fun _ => by as_aux_lemma => kernel_rfl) ⟨trivial, ?_⟩
  · exact o_run 0 [] [] (fun _ _ => []) (fun _ _ => by as_aux_lemma => kernel_rfl)
theorem targetOrder_w_r7 (a : Nat) (b : Nat) (h : Nat) (ha : a < M) (hb : b < M) (ρ1 : Nat → Orc) (w0 : World) : Reg Try.prog 7 (regOps Try.f9 7) true 69 [(3, (.pointer (some ⟨nb ρ1 0, 0, none⟩))), (4, (.pointer (some ⟨nb ρ1 1, 0, none⟩))), (5, (.pointer (some ⟨nb ρ1 2, 0, none⟩))), (6, (.bool false)), (23, (.bool false))] w0 [(nb ρ1 0, (.cells (cU b) 24 (0, 0))), (nb ρ1 1, (.cells (cU a) 24 (0, 0))), (nb ρ1 2, (.cells (hB h) 44 (0, 0)))] (fun _ => True)
    (fun _ => [(3, (.pointer (some ⟨nb ρ1 0, 0, none⟩))), (4, (.pointer (some ⟨nb ρ1 1, 0, none⟩))), (5, (.pointer (some ⟨nb ρ1 2, 0, none⟩))), (6, (.bool false)), (7, (.int .u32 ((compN b : Nat) : Int))), (8, (.int .u32 ((compN a : Nat) : Int)))])
    (fun _ => [(nb ρ1 0, (.cells (cU b) 24 (0, 0))), (nb ρ1 1, (.cells (cU a) 24 (0, 0))), (nb ρ1 2, (.cells (hB h) 44 (0, 0)))]) := by
  refine reg_drawn [0, 1, 0, 7, 15, 31] [3, 4, 5, 6, 7, 8] 6
    (fun _ ι => ([(U b), (.int .u32 ((compN b : Nat) : Int)), (U a), (.int .u32 ((compN a : Nat) : Int)), (.int .u32 ((compN b : Nat) : Int)), (.int .u32 ((compN a : Nat) : Int))] : List Value).getD ι undef)
    (fun _ ι => ([{}, {}, {}, {}, {}, {}] : List Eff).getD ι {})
    (by as_aux_lemma => kernel_rfl) (by as_aux_lemma => kernel_rfl) (by as_aux_lemma => kernel_rfl) (fun _ => by as_aux_lemma => kernel_rfl) (fun _ => by as_aux_lemma => kernel_rfl) ⟨⟨⟨⟨⟨⟨trivial, ?_⟩, ?_⟩, ?_⟩, ?_⟩, ?_⟩, ?_⟩
  · exact o_run 0 [0] [] (fun _ _ => [nb ρ1 0, nb ρ1 0, nb ρ1 0, nb ρ1 0]) (fun _ _ => by as_aux_lemma => kernel_rfl)
  · exact o_call 1 35 (fun _ => #[(U b)]) (fun _ => (.int .u32 ((compN b : Nat) : Int))) (fun _ _ => by as_aux_lemma => kernel_rfl) (fun _ w => (fun w => compact_any b w hb) w)
  · exact o_run 2 [1] [] (fun _ _ => [nb ρ1 1, nb ρ1 1, nb ρ1 1, nb ρ1 1]) (fun _ _ => by as_aux_lemma => kernel_rfl)
  · exact o_call 3 35 (fun _ => #[(U a)]) (fun _ => (.int .u32 ((compN a : Nat) : Int))) (fun _ _ => by as_aux_lemma => kernel_rfl) (fun _ w => (fun w => compact_any a w ha) w)
  · exact o_run 4 [] [] (fun _ _ => []) (fun _ _ => by as_aux_lemma => kernel_rfl)
  · exact o_run 5 [] [] (fun _ _ => []) (fun _ _ => by as_aux_lemma => kernel_rfl)
theorem targetOrder_w_r8 (a : Nat) (b : Nat) (h : Nat) (hb : b < M) (ρ1 : Nat → Orc) (w0 : World) : Reg Try.prog 8 (regOps Try.f9 8) false 69 [(3, (.pointer (some ⟨nb ρ1 0, 0, none⟩))), (4, (.pointer (some ⟨nb ρ1 1, 0, none⟩))), (5, (.pointer (some ⟨nb ρ1 2, 0, none⟩))), (6, (.bool false)), (7, (.int .u32 ((compN b : Nat) : Int))), (8, (.int .u32 ((compN a : Nat) : Int)))] w0 [(nb ρ1 0, (.cells (cU b) 24 (0, 0))), (nb ρ1 1, (.cells (cU a) 24 (0, 0))), (nb ρ1 2, (.cells (hB h) 44 (0, 0)))] (fun _ => True)
    (fun ρ => [(3, (.pointer (some ⟨nb ρ1 0, 0, none⟩))), (4, (.pointer (some ⟨nb ρ1 1, 0, none⟩))), (5, (.pointer (some ⟨nb ρ1 2, 0, none⟩))), (6, (.bool false)), (7, (.int .u32 ((compN b : Nat) : Int))), (8, (.int .u32 ((compN a : Nat) : Int))), (9, (.pointer (some ⟨nb ρ 5, 0, none⟩))), (10, (.int .i64 (expE (compN b))))])
    (fun ρ => [(nb ρ1 0, (.cells (cU b) 24 (0, 0))), (nb ρ1 1, (.cells (cU a) 24 (0, 0))), (nb ρ1 2, (.cells (hB h) 44 (0, 0))), (nb ρ 5, (.cells (cU (expV (compN b))) 24 (0, 0)))]) := by
  refine reg_seq [0, 1, 3, 7, 15, 31, 63, 127] [3, 4, 5, 6, 7, 8, 9, 10] 8
    (fun ρ ι => ([(.int .u32 ((compN b : Nat) : Int)), (.tuple #[(U (expV (compN b))), (.int .i64 (expE (compN b)))]), (.tuple #[(U (expV (compN b))), (.int .i64 (expE (compN b)))]), (U (expV (compN b))), (.int .i64 (expE (compN b))), (.pointer (some ⟨nb ρ 5, 0, none⟩)), undef, (.int .i64 (expE (compN b)))] : List Value).getD ι undef)
    (fun ρ ι => ([{}, {}, {}, {}, {}, { news := [(nb ρ 5, (.cells (cU 0) 24 (0, 0)))] }, { puts := [(43, (.cells (cU (expV (compN b))) 24 (0, 0)))] }, {}] : List Eff).getD ι {})
    (by as_aux_lemma => kernel_rfl) (by as_aux_lemma => kernel_rfl) (fun _ => by as_aux_lemma => kernel_rfl) (fun _ => by as_aux_lemma => kernel_rfl) ⟨⟨⟨⟨⟨⟨⟨⟨trivial, ?_⟩, ?_⟩, ?_⟩, ?_⟩, ?_⟩, ?_⟩, ?_⟩, ?_⟩
  · exact o_run 0 [] [] (fun _ _ => []) (fun _ _ => by as_aux_lemma => kernel_rfl)
  · exact o_call 1 32 (fun _ => #[(.int .u32 ((compN b : Nat) : Int))]) (fun _ => (.tuple #[(U (expV (compN b))), (.int .i64 (expE (compN b)))])) (fun _ _ => by as_aux_lemma => kernel_rfl) (fun _ w => (fun w => expand_any (compN b) w (compN_lt hb)) w)
  · exact o_run 2 [] [] (fun _ _ => []) (fun _ _ => by as_aux_lemma => kernel_rfl)
  · exact o_run 3 [] [] (fun _ _ => []) (fun _ _ => by as_aux_lemma => kernel_rfl)
  · exact o_run 4 [] [] (fun _ _ => []) (fun _ _ => by as_aux_lemma => kernel_rfl)
  · exact o_run 5 [] [] (fun _ _ => []) (fun _ _ => by as_aux_lemma => kernel_rfl)
  · exact o_run 6 [43] [] (fun ρ _ => [nb ρ 5, nb ρ 5, nb ρ 5, nb ρ 5]) (fun _ _ => by as_aux_lemma => kernel_rfl)
  · exact o_run 7 [] [] (fun _ _ => []) (fun _ _ => by as_aux_lemma => kernel_rfl)
theorem targetOrder_w_r9 (a : Nat) (b : Nat) (h : Nat) (ha : a < M) (ρ1 : Nat → Orc) (ρ8 : Nat → Orc) (w0 : World) : Reg Try.prog 9 (regOps Try.f9 9) false 69 [(3, (.pointer (some ⟨nb ρ1 0, 0, none⟩))), (4, (.pointer (some ⟨nb ρ1 1, 0, none⟩))), (5, (.pointer (some ⟨nb ρ1 2, 0, none⟩))), (6, (.bool false)), (7, (.int .u32 ((compN b : Nat) : Int))), (8, (.int .u32 ((compN a : Nat) : Int))), (9, (.pointer (some ⟨nb ρ8 5, 0, none⟩))), (10, (.int .i64 (expE (compN b))))] w0 [(nb ρ1 0, (.cells (cU b) 24 (0, 0))), (nb ρ1 1, (.cells (cU a) 24 (0, 0))), (nb ρ1 2, (.cells (hB h) 44 (0, 0))), (nb ρ8 5, (.cells (cU (expV (compN b))) 24 (0, 0)))] (fun _ => True)
    (fun ρ => [(3, (.pointer (some ⟨nb ρ1 0, 0, none⟩))), (4, (.pointer (some ⟨nb ρ1 1, 0, none⟩))), (5, (.pointer (some ⟨nb ρ1 2, 0, none⟩))), (6, (.bool false)), (7, (.int .u32 ((compN b : Nat) : Int))), (8, (.int .u32 ((compN a : Nat) : Int))), (9, (.pointer (some ⟨nb ρ8 5, 0, none⟩))), (10, (.int .i64 (expE (compN b)))), (11, (.pointer (some ⟨nb ρ 5, 0, none⟩))), (12, (.int .i64 (expE (compN a))))])
    (fun ρ => [(nb ρ1 0, (.cells (cU b) 24 (0, 0))), (nb ρ1 1, (.cells (cU a) 24 (0, 0))), (nb ρ1 2, (.cells (hB h) 44 (0, 0))), (nb ρ8 5, (.cells (cU (expV (compN b))) 24 (0, 0))), (nb ρ 5, (.cells (cU (expV (compN a))) 24 (0, 0)))]) := by
  refine reg_seq [0, 1, 3, 7, 15, 31, 63, 127] [3, 4, 5, 6, 7, 8, 9, 10, 11, 12] 8
    (fun ρ ι => ([(.int .u32 ((compN a : Nat) : Int)), (.tuple #[(U (expV (compN a))), (.int .i64 (expE (compN a)))]), (.tuple #[(U (expV (compN a))), (.int .i64 (expE (compN a)))]), (U (expV (compN a))), (.int .i64 (expE (compN a))), (.pointer (some ⟨nb ρ 5, 0, none⟩)), undef, (.int .i64 (expE (compN a)))] : List Value).getD ι undef)
    (fun ρ ι => ([{}, {}, {}, {}, {}, { news := [(nb ρ 5, (.cells (cU 0) 24 (0, 0)))] }, { puts := [(44, (.cells (cU (expV (compN a))) 24 (0, 0)))] }, {}] : List Eff).getD ι {})
    (by as_aux_lemma => kernel_rfl) (by as_aux_lemma => kernel_rfl) (fun _ => by as_aux_lemma => kernel_rfl) (fun _ => by as_aux_lemma => kernel_rfl) ⟨⟨⟨⟨⟨⟨⟨⟨trivial, ?_⟩, ?_⟩, ?_⟩, ?_⟩, ?_⟩, ?_⟩, ?_⟩, ?_⟩
  · exact o_run 0 [] [] (fun _ _ => []) (fun _ _ => by as_aux_lemma => kernel_rfl)
  · exact o_call 1 32 (fun _ => #[(.int .u32 ((compN a : Nat) : Int))]) (fun _ => (.tuple #[(U (expV (compN a))), (.int .i64 (expE (compN a)))])) (fun _ _ => by as_aux_lemma => kernel_rfl) (fun _ w => (fun w => expand_any (compN a) w (compN_lt ha)) w)
  · exact o_run 2 [] [] (fun _ _ => []) (fun _ _ => by as_aux_lemma => kernel_rfl)
  · exact o_run 3 [] [] (fun _ _ => []) (fun _ _ => by as_aux_lemma => kernel_rfl)
  · exact o_run 4 [] [] (fun _ _ => []) (fun _ _ => by as_aux_lemma => kernel_rfl)
  · exact o_run 5 [] [] (fun _ _ => []) (fun _ _ => by as_aux_lemma => kernel_rfl)
  · exact o_run 6 [44] [] (fun ρ _ => [nb ρ 5, nb ρ 5, nb ρ 5, nb ρ 5]) (fun _ _ => by as_aux_lemma => kernel_rfl)
  · exact o_run 7 [] [] (fun _ _ => []) (fun _ _ => by as_aux_lemma => kernel_rfl)
theorem targetOrder_w_r10 (a : Nat) (b : Nat) (h : Nat) (ha : a < M) (hb : b < M) (hh : h < M) (hb1 : (decide (0 < (cmpN a b))) = true) (hb2 : (decide (b = 0)) = false) (hb3 : (meetB h (compN b)) = true) (ρ1 : Nat → Orc) (ρ8 : Nat → Orc) (ρ9 : Nat → Orc) (w0 : World) : Reg Try.prog 10 (regOps Try.f9 10) true 69 [(3, (.pointer (some ⟨nb ρ1 0, 0, none⟩))), (4, (.pointer (some ⟨nb ρ1 1, 0, none⟩))), (5, (.pointer (some ⟨nb ρ1 2, 0, none⟩))), (6, (.bool false)), (7, (.int .u32 ((compN b : Nat) : Int))), (8, (.int .u32 ((compN a : Nat) : Int))), (9, (.pointer (some ⟨nb ρ8 5, 0, none⟩))), (10, (.int .i64 (expE (compN b)))), (11, (.pointer (some ⟨nb ρ9 5, 0, none⟩))), (12, (.int .i64 (expE (compN a))))] w0 [(nb ρ1 0, (.cells (cU b) 24 (0, 0))), (nb ρ1 1, (.cells (cU a) 24 (0, 0))), (nb ρ1 2, (.cells (hB h) 44 (0, 0))), (nb ρ8 5, (.cells (cU (expV (compN b))) 24 (0, 0))), (nb ρ9 5, (.cells (cU (expV (compN a))) 24 (0, 0)))] (fun _ => True)
    (fun _ => [(6, (.bool true))])
    (fun _ => [(nb ρ1 0, (.cells (cU b) 24 (0, 0))), (nb ρ1 1, (.cells (cU a) 24 (0, 0))), (nb ρ1 2, (.cells (hB h) 44 (0, 0))), (nb ρ8 5, (.cells (cU (expV (compN b))) 24 (0, 0))), (nb ρ9 5, (.cells (cU (expV (compN a))) 24 (0, 0)))]) := by
  refine reg_drawn [0, 1, 3, 7, 15, 31, 63, 127, 127, 511, 1023, 2047, 4095, 8191, 16383, 8191, 65535, 131071, 262143, 524287, 1048575, 2097151, 2097151, 8388607, 16777215, 33554431, 67108863, 67108863, 268435455, 536870911, 1073741823, 2147483647] [6] 32
    (fun _ ι => ([(.int .i64 (expE (compN b))), (.bool true), (.bool true), (.int .i64 (expE (compN a))), (.bool true), (.bool true), (.bool true), (U (expV (compN b))), (U (expV (compN a))), (.int .i64 (cmpN (expV (compN b)) (expV (compN a)))), (.bool true), (.bool true), (.bool true), (U b), (U (workN b)), (U a), (U (workN a)), (.int .i64 (cmpN (workN b) (workN a))), (.bool true), (.bool true), (.bool true), (.agg (hB h)), (.int .u32 ((compN b : Nat) : Int)), (.bool true), (.bool false), (.bool false), (.agg (hB h)), (.int .u32 ((compN a : Nat) : Int)), (.bool true), (.bool true), (.bool true), (.bool true)] : List Value).getD ι undef)
    (fun _ ι => ([{}, {}, {}, {}, {}, {}, {}, {}, {}, {}, {}, {}, {}, {}, {}, {}, {}, {}, {}, {}, {}, {}, {}, {}, {}, {}, {}, {}, {}, {}, {}, {}] : List Eff).getD ι {})
    (by as_aux_lemma => kernel_rfl) (by as_aux_lemma => kernel_rfl) (by as_aux_lemma => kernel_rfl) (fun _ => by as_aux_lemma => kernel_rfl) (fun _ => by as_aux_lemma => kernel_rfl) ⟨⟨⟨⟨⟨⟨⟨⟨⟨⟨⟨⟨⟨⟨⟨⟨⟨⟨⟨⟨⟨⟨⟨⟨⟨⟨⟨⟨⟨⟨⟨⟨trivial, ?_⟩, ?_⟩, ?_⟩, ?_⟩, ?_⟩, ?_⟩, ?_⟩, ?_⟩, ?_⟩, ?_⟩, ?_⟩, ?_⟩, ?_⟩, ?_⟩, ?_⟩, ?_⟩, ?_⟩, ?_⟩, ?_⟩, ?_⟩, ?_⟩, ?_⟩, ?_⟩, ?_⟩, ?_⟩, ?_⟩, ?_⟩, ?_⟩, ?_⟩, ?_⟩, ?_⟩, ?_⟩
  · exact o_run 0 [] [] (fun _ _ => []) (fun _ _ => by as_aux_lemma => kernel_rfl)
  · exact o_as 1 (fun _ => (.bool ((expE (compN b)) == 0))) (fun _ => (.bool true)) (fun _ _ => by as_aux_lemma => kernel_rfl) (fun _ => congrArg Value.bool ((expE_ok (compN b)).trans (comp_b hb (of_decide_eq_false hb2))))
  · exact o_run 2 [] [] (fun _ _ => []) (fun _ _ => by as_aux_lemma => kernel_rfl)
  · exact o_run 3 [] [] (fun _ _ => []) (fun _ _ => by as_aux_lemma => kernel_rfl)
  · exact o_as 4 (fun _ => (.bool ((expE (compN a)) == 0))) (fun _ => (.bool true)) (fun _ _ => by as_aux_lemma => kernel_rfl) (fun _ => congrArg Value.bool ((expE_ok (compN a)).trans (comp_b ha (order_ne (order_up hb1) (of_decide_eq_false hb2)))))
  · exact o_run 5 [] [] (fun _ _ => []) (fun _ _ => by as_aux_lemma => kernel_rfl)
  · exact o_run 6 [] [] (fun _ _ => []) (fun _ _ => by as_aux_lemma => kernel_rfl)
  · exact o_run 7 [3] [] (fun _ _ => [nb ρ8 5, nb ρ8 5, nb ρ8 5, nb ρ8 5]) (fun _ _ => by as_aux_lemma => kernel_rfl)
  · exact o_run 8 [4] [] (fun _ _ => [nb ρ9 5, nb ρ9 5, nb ρ9 5, nb ρ9 5]) (fun _ _ => by as_aux_lemma => kernel_rfl)
  · exact o_call 9 40 (fun _ => #[(U (expV (compN b))), (U (expV (compN a)))]) (fun _ => (.int .i64 (cmpN (expV (compN b)) (expV (compN a))))) (fun _ _ => by as_aux_lemma => kernel_rfl) (fun _ w => (fun w => rcmp_any (expV (compN b)) (expV (compN a)) w (expV_lt (compN b)) (expV_lt (compN a))) w)
  · exact o_as 10 (fun _ => (.bool (decide ((cmpN (expV (compN b)) (expV (compN a))) ≤ 0)))) (fun _ => (.bool true)) (fun _ _ => by as_aux_lemma => kernel_rfl) (fun _ => congrArg Value.bool (decide_eq_true (cmp_le (comp_mono hb ha (order_up hb1) (of_decide_eq_false hb2)))))
  · exact o_run 11 [] [] (fun _ _ => []) (fun _ _ => by as_aux_lemma => kernel_rfl)
  · exact o_run 12 [] [] (fun _ _ => []) (fun _ _ => by as_aux_lemma => kernel_rfl)
  · exact o_run 13 [0] [] (fun _ _ => [nb ρ1 0, nb ρ1 0, nb ρ1 0, nb ρ1 0]) (fun _ _ => by as_aux_lemma => kernel_rfl)
  · exact o_call 14 37 (fun _ => #[(U b)]) (fun _ => (U (workN b))) (fun _ _ => by as_aux_lemma => kernel_rfl) (fun _ w => (fun w => work_any b w hb) w)
  · exact o_run 15 [1] [] (fun _ _ => [nb ρ1 1, nb ρ1 1, nb ρ1 1, nb ρ1 1]) (fun _ _ => by as_aux_lemma => kernel_rfl)
  · exact o_call 16 37 (fun _ => #[(U a)]) (fun _ => (U (workN a))) (fun _ _ => by as_aux_lemma => kernel_rfl) (fun _ w => (fun w => work_any a w ha) w)
  · exact o_call 17 40 (fun _ => #[(U (workN b)), (U (workN a))]) (fun _ => (.int .i64 (cmpN (workN b) (workN a)))) (fun _ _ => by as_aux_lemma => kernel_rfl) (fun _ w => (fun w => rcmp_any (workN b) (workN a) w (workN_lt b) (workN_lt a)) w)
  · exact o_as 18 (fun _ => (.bool (decide (0 ≤ (cmpN (workN b) (workN a)))))) (fun _ => (.bool true)) (fun _ _ => by as_aux_lemma => kernel_rfl) (fun _ => congrArg Value.bool (decide_eq_true (cmp_ge (work_anti ha (order_up hb1) (of_decide_eq_false hb2)))))
  · exact o_run 19 [] [] (fun _ _ => []) (fun _ _ => by as_aux_lemma => kernel_rfl)
  · exact o_run 20 [] [] (fun _ _ => []) (fun _ _ => by as_aux_lemma => kernel_rfl)
  · exact o_run 21 [2] [] (fun _ _ => [nb ρ1 2, nb ρ1 2, nb ρ1 2, nb ρ1 2, nb ρ1 2, nb ρ1 2, nb ρ1 2, nb ρ1 2, nb ρ1 2, nb ρ1 2, nb ρ1 2, nb ρ1 2, nb ρ1 2, nb ρ1 2, nb ρ1 2, nb ρ1 2, nb ρ1 2, nb ρ1 2, nb ρ1 2, nb ρ1 2, nb ρ1 2, nb ρ1 2, nb ρ1 2, nb ρ1 2, nb ρ1 2, nb ρ1 2, nb ρ1 2, nb ρ1 2, nb ρ1 2, nb ρ1 2, nb ρ1 2, nb ρ1 2]) (fun _ _ => by as_aux_lemma => kernel_rfl)
  · exact o_run 22 [] [] (fun _ _ => []) (fun _ _ => by as_aux_lemma => kernel_rfl)
  · exact o_call 23 42 (fun _ => #[(.agg (hB h)), (.int .u32 ((compN b : Nat) : Int))]) (fun _ => (.bool true)) (fun _ _ => by as_aux_lemma => kernel_rfl) (fun _ w => by as_aux_lemma => (have h := (fun w => meets_any h (compN b) w hh (compN_lt hb)) w; rw [hb3] at h; exact h))
  · exact o_run 24 [] [] (fun _ _ => []) (fun _ _ => by as_aux_lemma => kernel_rfl)
  · exact o_run 25 [] [] (fun _ _ => []) (fun _ _ => by as_aux_lemma => kernel_rfl)
  · exact o_run 26 [2] [] (fun _ _ => [nb ρ1 2, nb ρ1 2, nb ρ1 2, nb ρ1 2, nb ρ1 2, nb ρ1 2, nb ρ1 2, nb ρ1 2, nb ρ1 2, nb ρ1 2, nb ρ1 2, nb ρ1 2, nb ρ1 2, nb ρ1 2, nb ρ1 2, nb ρ1 2, nb ρ1 2, nb ρ1 2, nb ρ1 2, nb ρ1 2, nb ρ1 2, nb ρ1 2, nb ρ1 2, nb ρ1 2, nb ρ1 2, nb ρ1 2, nb ρ1 2, nb ρ1 2, nb ρ1 2, nb ρ1 2, nb ρ1 2, nb ρ1 2]) (fun _ _ => by as_aux_lemma => kernel_rfl)
  · exact o_run 27 [] [] (fun _ _ => []) (fun _ _ => by as_aux_lemma => kernel_rfl)
  · exact o_call 28 42 (fun _ => #[(.agg (hB h)), (.int .u32 ((compN a : Nat) : Int))]) (fun _ => (.bool true)) (fun _ _ => by as_aux_lemma => kernel_rfl) (fun _ w => by as_aux_lemma => (have h := (fun w => meets_any h (compN a) w hh (compN_lt ha)) w; rw [(meet_mono hb ha (order_up hb1) (of_decide_eq_false hb2) hb3)] at h; exact h))
  · exact o_run 29 [] [] (fun _ _ => []) (fun _ _ => by as_aux_lemma => kernel_rfl)
  · exact o_run 30 [] [] (fun _ _ => []) (fun _ _ => by as_aux_lemma => kernel_rfl)
  · exact o_run 31 [] [] (fun _ _ => []) (fun _ _ => by as_aux_lemma => kernel_rfl)
theorem targetOrder_w_r11 (a : Nat) (b : Nat) (h : Nat) (ha : a < M) (hb : b < M) (hh : h < M) (hb1 : (decide (0 < (cmpN a b))) = true) (hb2 : (decide (b = 0)) = false) (hb3 : (meetB h (compN b)) = false) (ρ1 : Nat → Orc) (ρ8 : Nat → Orc) (ρ9 : Nat → Orc) (w0 : World) : Reg Try.prog 10 (regOps Try.f9 10) true 69 [(3, (.pointer (some ⟨nb ρ1 0, 0, none⟩))), (4, (.pointer (some ⟨nb ρ1 1, 0, none⟩))), (5, (.pointer (some ⟨nb ρ1 2, 0, none⟩))), (6, (.bool false)), (7, (.int .u32 ((compN b : Nat) : Int))), (8, (.int .u32 ((compN a : Nat) : Int))), (9, (.pointer (some ⟨nb ρ8 5, 0, none⟩))), (10, (.int .i64 (expE (compN b)))), (11, (.pointer (some ⟨nb ρ9 5, 0, none⟩))), (12, (.int .i64 (expE (compN a))))] w0 [(nb ρ1 0, (.cells (cU b) 24 (0, 0))), (nb ρ1 1, (.cells (cU a) 24 (0, 0))), (nb ρ1 2, (.cells (hB h) 44 (0, 0))), (nb ρ8 5, (.cells (cU (expV (compN b))) 24 (0, 0))), (nb ρ9 5, (.cells (cU (expV (compN a))) 24 (0, 0)))] (fun _ => True)
    (fun _ => [(6, (.bool true))])
    (fun _ => [(nb ρ1 0, (.cells (cU b) 24 (0, 0))), (nb ρ1 1, (.cells (cU a) 24 (0, 0))), (nb ρ1 2, (.cells (hB h) 44 (0, 0))), (nb ρ8 5, (.cells (cU (expV (compN b))) 24 (0, 0))), (nb ρ9 5, (.cells (cU (expV (compN a))) 24 (0, 0)))]) := by
  refine reg_drawn [0, 1, 3, 7, 15, 31, 63, 127, 127, 511, 1023, 2047, 4095, 8191, 16383, 8191, 65535, 131071, 262143, 524287, 1048575, 2097151, 2097151, 8388607, 16777215, 33554431, 67108863, 67108863, 268435455, 536870911, 1073741823, 2147483647] [6] 32
    (fun _ ι => ([(.int .i64 (expE (compN b))), (.bool true), (.bool true), (.int .i64 (expE (compN a))), (.bool true), (.bool true), (.bool true), (U (expV (compN b))), (U (expV (compN a))), (.int .i64 (cmpN (expV (compN b)) (expV (compN a)))), (.bool true), (.bool true), (.bool true), (U b), (U (workN b)), (U a), (U (workN a)), (.int .i64 (cmpN (workN b) (workN a))), (.bool true), (.bool true), (.bool true), (.agg (hB h)), (.int .u32 ((compN b : Nat) : Int)), (.bool false), (.bool true), (.bool true), undef, undef, undef, (.bool true), (.bool true), (.bool true)] : List Value).getD ι undef)
    (fun _ ι => ([{}, {}, {}, {}, {}, {}, {}, {}, {}, {}, {}, {}, {}, {}, {}, {}, {}, {}, {}, {}, {}, {}, {}, {}, {}, {}, {}, {}, {}, {}, {}, {}] : List Eff).getD ι {})
    (by as_aux_lemma => kernel_rfl) (by as_aux_lemma => kernel_rfl) (by as_aux_lemma => kernel_rfl) (fun _ => by as_aux_lemma => kernel_rfl) (fun _ => by as_aux_lemma => kernel_rfl) ⟨⟨⟨⟨⟨⟨⟨⟨⟨⟨⟨⟨⟨⟨⟨⟨⟨⟨⟨⟨⟨⟨⟨⟨⟨⟨⟨⟨⟨⟨⟨⟨trivial, ?_⟩, ?_⟩, ?_⟩, ?_⟩, ?_⟩, ?_⟩, ?_⟩, ?_⟩, ?_⟩, ?_⟩, ?_⟩, ?_⟩, ?_⟩, ?_⟩, ?_⟩, ?_⟩, ?_⟩, ?_⟩, ?_⟩, ?_⟩, ?_⟩, ?_⟩, ?_⟩, ?_⟩, ?_⟩, ?_⟩, ?_⟩, ?_⟩, ?_⟩, ?_⟩, ?_⟩, ?_⟩
  · exact o_run 0 [] [] (fun _ _ => []) (fun _ _ => by as_aux_lemma => kernel_rfl)
  · exact o_as 1 (fun _ => (.bool ((expE (compN b)) == 0))) (fun _ => (.bool true)) (fun _ _ => by as_aux_lemma => kernel_rfl) (fun _ => congrArg Value.bool ((expE_ok (compN b)).trans (comp_b hb (of_decide_eq_false hb2))))
  · exact o_run 2 [] [] (fun _ _ => []) (fun _ _ => by as_aux_lemma => kernel_rfl)
  · exact o_run 3 [] [] (fun _ _ => []) (fun _ _ => by as_aux_lemma => kernel_rfl)
  · exact o_as 4 (fun _ => (.bool ((expE (compN a)) == 0))) (fun _ => (.bool true)) (fun _ _ => by as_aux_lemma => kernel_rfl) (fun _ => congrArg Value.bool ((expE_ok (compN a)).trans (comp_b ha (order_ne (order_up hb1) (of_decide_eq_false hb2)))))
  · exact o_run 5 [] [] (fun _ _ => []) (fun _ _ => by as_aux_lemma => kernel_rfl)
  · exact o_run 6 [] [] (fun _ _ => []) (fun _ _ => by as_aux_lemma => kernel_rfl)
  · exact o_run 7 [3] [] (fun _ _ => [nb ρ8 5, nb ρ8 5, nb ρ8 5, nb ρ8 5]) (fun _ _ => by as_aux_lemma => kernel_rfl)
  · exact o_run 8 [4] [] (fun _ _ => [nb ρ9 5, nb ρ9 5, nb ρ9 5, nb ρ9 5]) (fun _ _ => by as_aux_lemma => kernel_rfl)
  · exact o_call 9 40 (fun _ => #[(U (expV (compN b))), (U (expV (compN a)))]) (fun _ => (.int .i64 (cmpN (expV (compN b)) (expV (compN a))))) (fun _ _ => by as_aux_lemma => kernel_rfl) (fun _ w => (fun w => rcmp_any (expV (compN b)) (expV (compN a)) w (expV_lt (compN b)) (expV_lt (compN a))) w)
  · exact o_as 10 (fun _ => (.bool (decide ((cmpN (expV (compN b)) (expV (compN a))) ≤ 0)))) (fun _ => (.bool true)) (fun _ _ => by as_aux_lemma => kernel_rfl) (fun _ => congrArg Value.bool (decide_eq_true (cmp_le (comp_mono hb ha (order_up hb1) (of_decide_eq_false hb2)))))
  · exact o_run 11 [] [] (fun _ _ => []) (fun _ _ => by as_aux_lemma => kernel_rfl)
  · exact o_run 12 [] [] (fun _ _ => []) (fun _ _ => by as_aux_lemma => kernel_rfl)
  · exact o_run 13 [0] [] (fun _ _ => [nb ρ1 0, nb ρ1 0, nb ρ1 0, nb ρ1 0]) (fun _ _ => by as_aux_lemma => kernel_rfl)
  · exact o_call 14 37 (fun _ => #[(U b)]) (fun _ => (U (workN b))) (fun _ _ => by as_aux_lemma => kernel_rfl) (fun _ w => (fun w => work_any b w hb) w)
  · exact o_run 15 [1] [] (fun _ _ => [nb ρ1 1, nb ρ1 1, nb ρ1 1, nb ρ1 1]) (fun _ _ => by as_aux_lemma => kernel_rfl)
  · exact o_call 16 37 (fun _ => #[(U a)]) (fun _ => (U (workN a))) (fun _ _ => by as_aux_lemma => kernel_rfl) (fun _ w => (fun w => work_any a w ha) w)
  · exact o_call 17 40 (fun _ => #[(U (workN b)), (U (workN a))]) (fun _ => (.int .i64 (cmpN (workN b) (workN a)))) (fun _ _ => by as_aux_lemma => kernel_rfl) (fun _ w => (fun w => rcmp_any (workN b) (workN a) w (workN_lt b) (workN_lt a)) w)
  · exact o_as 18 (fun _ => (.bool (decide (0 ≤ (cmpN (workN b) (workN a)))))) (fun _ => (.bool true)) (fun _ _ => by as_aux_lemma => kernel_rfl) (fun _ => congrArg Value.bool (decide_eq_true (cmp_ge (work_anti ha (order_up hb1) (of_decide_eq_false hb2)))))
  · exact o_run 19 [] [] (fun _ _ => []) (fun _ _ => by as_aux_lemma => kernel_rfl)
  · exact o_run 20 [] [] (fun _ _ => []) (fun _ _ => by as_aux_lemma => kernel_rfl)
  · exact o_run 21 [2] [] (fun _ _ => [nb ρ1 2, nb ρ1 2, nb ρ1 2, nb ρ1 2, nb ρ1 2, nb ρ1 2, nb ρ1 2, nb ρ1 2, nb ρ1 2, nb ρ1 2, nb ρ1 2, nb ρ1 2, nb ρ1 2, nb ρ1 2, nb ρ1 2, nb ρ1 2, nb ρ1 2, nb ρ1 2, nb ρ1 2, nb ρ1 2, nb ρ1 2, nb ρ1 2, nb ρ1 2, nb ρ1 2, nb ρ1 2, nb ρ1 2, nb ρ1 2, nb ρ1 2, nb ρ1 2, nb ρ1 2, nb ρ1 2, nb ρ1 2]) (fun _ _ => by as_aux_lemma => kernel_rfl)
  · exact o_run 22 [] [] (fun _ _ => []) (fun _ _ => by as_aux_lemma => kernel_rfl)
  · exact o_call 23 42 (fun _ => #[(.agg (hB h)), (.int .u32 ((compN b : Nat) : Int))]) (fun _ => (.bool false)) (fun _ _ => by as_aux_lemma => kernel_rfl) (fun _ w => by as_aux_lemma => (have h := (fun w => meets_any h (compN b) w hh (compN_lt hb)) w; rw [hb3] at h; exact h))
  · exact o_run 24 [] [] (fun _ _ => []) (fun _ _ => by as_aux_lemma => kernel_rfl)
  · exact o_run 25 [] [] (fun _ _ => []) (fun _ _ => by as_aux_lemma => kernel_rfl)
  · exact o_skip 26 (fun _ => by as_aux_lemma => kernel_rfl)
  · exact o_skip 27 (fun _ => by as_aux_lemma => kernel_rfl)
  · exact o_skip 28 (fun _ => by as_aux_lemma => kernel_rfl)
  · exact o_run 29 [] [] (fun _ _ => []) (fun _ _ => by as_aux_lemma => kernel_rfl)
  · exact o_run 30 [] [] (fun _ _ => []) (fun _ _ => by as_aux_lemma => kernel_rfl)
  · exact o_run 31 [] [] (fun _ _ => []) (fun _ _ => by as_aux_lemma => kernel_rfl)
theorem targetOrder_w_r12 (a : Nat) (b : Nat) (h : Nat) (ha : a < M) (ρ1 : Nat → Orc) (w0 : World) : Reg Try.prog 5 (regOps Try.f9 5) false 69 [(3, (.pointer (some ⟨nb ρ1 0, 0, none⟩))), (4, (.pointer (some ⟨nb ρ1 1, 0, none⟩))), (5, (.pointer (some ⟨nb ρ1 2, 0, none⟩))), (6, (.bool false)), (18, (.bool false))] w0 [(nb ρ1 0, (.cells (cU a) 24 (0, 0))), (nb ρ1 1, (.cells (cU b) 24 (0, 0))), (nb ρ1 2, (.cells (hB h) 44 (0, 0)))] (fun _ => True)
    (fun _ => [(3, (.pointer (some ⟨nb ρ1 0, 0, none⟩))), (4, (.pointer (some ⟨nb ρ1 1, 0, none⟩))), (5, (.pointer (some ⟨nb ρ1 2, 0, none⟩))), (6, (.bool false)), (23, (.bool (decide (a = 0))))])
    (fun _ => [(nb ρ1 0, (.cells (cU a) 24 (0, 0))), (nb ρ1 1, (.cells (cU b) 24 (0, 0))), (nb ρ1 2, (.cells (hB h) 44 (0, 0)))]) := by
  refine reg_seq [0, 1, 3] [3, 4, 5, 6, 23] 3
    (fun _ ι => ([(U a), (U 0), (.bool (decide (a = 0)))] : List Value).getD ι undef)
    (fun _ ι => ([{}, {}, {}] : List Eff).getD ι {})
    (by as_aux_lemma => kernel_rfl) (by as_aux_lemma => kernel_rfl) (fun _ => by as_aux_lemma => kernel_rfl) (fun _ => by as_aux_lemma => kernel_rfl) ⟨⟨⟨trivial, ?_⟩, ?_⟩, ?_⟩
  · exact o_run 0 [0] [] (fun _ _ => [nb ρ1 0, nb ρ1 0, nb ρ1 0, nb ρ1 0]) (fun _ _ => by as_aux_lemma => kernel_rfl)
  · exact o_run 1 [] [] (fun _ _ => []) (fun _ _ => by as_aux_lemma => kernel_rfl)
  · exact o_bin 2 .eql 24 (fun _ => (U a)) (fun _ => (U 0)) (fun _ => (.bool (decide (a = 0)))) (fun _ => by as_aux_lemma => kernel_rfl) (fun _ _ _ _ => by as_aux_lemma => kernel_rfl) (fun _ _ => eqlU a 0 ha (by decide +kernel) _)
theorem targetOrder_w_r13 (a : Nat) (b : Nat) (h : Nat) (ρ1 : Nat → Orc) (w0 : World) : Reg Try.prog 6 (regOps Try.f9 6) false 69 [(3, (.pointer (some ⟨nb ρ1 0, 0, none⟩))), (4, (.pointer (some ⟨nb ρ1 1, 0, none⟩))), (5, (.pointer (some ⟨nb ρ1 2, 0, none⟩))), (6, (.bool false)), (23, (.bool true))] w0 [(nb ρ1 0, (.cells (cU a) 24 (0, 0))), (nb ρ1 1, (.cells (cU b) 24 (0, 0))), (nb ρ1 2, (.cells (hB h) 44 (0, 0)))] (fun _ => True)
    (fun _ => [(3, (.pointer (some ⟨nb ρ1 0, 0, none⟩))), (4, (.pointer (some ⟨nb ρ1 1, 0, none⟩))), (5, (.pointer (some ⟨nb ρ1 2, 0, none⟩))), (6, (.bool true))])
    (fun _ => [(nb ρ1 0, (.cells (cU a) 24 (0, 0))), (nb ρ1 1, (.cells (cU b) 24 (0, 0))), (nb ρ1 2, (.cells (hB h) 44 (0, 0)))]) := by
  refine reg_seq [0] [3, 4, 5, 6] 1
    (fun _ ι => ([(.bool true)] : List Value).getD ι undef)
    (fun _ ι => ([{}] : List Eff).getD ι {})
    (by as_aux_lemma => kernel_rfl) (by as_aux_lemma => kernel_rfl) (fun _ => by as_aux_lemma => kernel_rfl) (fun _ => by as_aux_lemma => kernel_rfl) ⟨trivial, ?_⟩
  · exact o_run 0 [] [] (fun _ _ => []) (fun _ _ => by as_aux_lemma => kernel_rfl)
theorem targetOrder_w_r14 (a : Nat) (b : Nat) (h : Nat) (ha : a < M) (hb : b < M) (ρ1 : Nat → Orc) (w0 : World) : Reg Try.prog 7 (regOps Try.f9 7) true 69 [(3, (.pointer (some ⟨nb ρ1 0, 0, none⟩))), (4, (.pointer (some ⟨nb ρ1 1, 0, none⟩))), (5, (.pointer (some ⟨nb ρ1 2, 0, none⟩))), (6, (.bool false)), (23, (.bool false))] w0 [(nb ρ1 0, (.cells (cU a) 24 (0, 0))), (nb ρ1 1, (.cells (cU b) 24 (0, 0))), (nb ρ1 2, (.cells (hB h) 44 (0, 0)))] (fun _ => True)
    (fun _ => [(3, (.pointer (some ⟨nb ρ1 0, 0, none⟩))), (4, (.pointer (some ⟨nb ρ1 1, 0, none⟩))), (5, (.pointer (some ⟨nb ρ1 2, 0, none⟩))), (6, (.bool false)), (7, (.int .u32 ((compN a : Nat) : Int))), (8, (.int .u32 ((compN b : Nat) : Int)))])
    (fun _ => [(nb ρ1 0, (.cells (cU a) 24 (0, 0))), (nb ρ1 1, (.cells (cU b) 24 (0, 0))), (nb ρ1 2, (.cells (hB h) 44 (0, 0)))]) := by
  refine reg_drawn [0, 1, 0, 7, 15, 31] [3, 4, 5, 6, 7, 8] 6
    (fun _ ι => ([(U a), (.int .u32 ((compN a : Nat) : Int)), (U b), (.int .u32 ((compN b : Nat) : Int)), (.int .u32 ((compN a : Nat) : Int)), (.int .u32 ((compN b : Nat) : Int))] : List Value).getD ι undef)
    (fun _ ι => ([{}, {}, {}, {}, {}, {}] : List Eff).getD ι {})
    (by as_aux_lemma => kernel_rfl) (by as_aux_lemma => kernel_rfl) (by as_aux_lemma => kernel_rfl) (fun _ => by as_aux_lemma => kernel_rfl) (fun _ => by as_aux_lemma => kernel_rfl) ⟨⟨⟨⟨⟨⟨trivial, ?_⟩, ?_⟩, ?_⟩, ?_⟩, ?_⟩, ?_⟩
  · exact o_run 0 [0] [] (fun _ _ => [nb ρ1 0, nb ρ1 0, nb ρ1 0, nb ρ1 0]) (fun _ _ => by as_aux_lemma => kernel_rfl)
  · exact o_call 1 35 (fun _ => #[(U a)]) (fun _ => (.int .u32 ((compN a : Nat) : Int))) (fun _ _ => by as_aux_lemma => kernel_rfl) (fun _ w => (fun w => compact_any a w ha) w)
  · exact o_run 2 [1] [] (fun _ _ => [nb ρ1 1, nb ρ1 1, nb ρ1 1, nb ρ1 1]) (fun _ _ => by as_aux_lemma => kernel_rfl)
  · exact o_call 3 35 (fun _ => #[(U b)]) (fun _ => (.int .u32 ((compN b : Nat) : Int))) (fun _ _ => by as_aux_lemma => kernel_rfl) (fun _ w => (fun w => compact_any b w hb) w)
  · exact o_run 4 [] [] (fun _ _ => []) (fun _ _ => by as_aux_lemma => kernel_rfl)
  · exact o_run 5 [] [] (fun _ _ => []) (fun _ _ => by as_aux_lemma => kernel_rfl)
theorem targetOrder_w_r15 (a : Nat) (b : Nat) (h : Nat) (ha : a < M) (ρ1 : Nat → Orc) (w0 : World) : Reg Try.prog 8 (regOps Try.f9 8) false 69 [(3, (.pointer (some ⟨nb ρ1 0, 0, none⟩))), (4, (.pointer (some ⟨nb ρ1 1, 0, none⟩))), (5, (.pointer (some ⟨nb ρ1 2, 0, none⟩))), (6, (.bool false)), (7, (.int .u32 ((compN a : Nat) : Int))), (8, (.int .u32 ((compN b : Nat) : Int)))] w0 [(nb ρ1 0, (.cells (cU a) 24 (0, 0))), (nb ρ1 1, (.cells (cU b) 24 (0, 0))), (nb ρ1 2, (.cells (hB h) 44 (0, 0)))] (fun _ => True)
    (fun ρ => [(3, (.pointer (some ⟨nb ρ1 0, 0, none⟩))), (4, (.pointer (some ⟨nb ρ1 1, 0, none⟩))), (5, (.pointer (some ⟨nb ρ1 2, 0, none⟩))), (6, (.bool false)), (7, (.int .u32 ((compN a : Nat) : Int))), (8, (.int .u32 ((compN b : Nat) : Int))), (9, (.pointer (some ⟨nb ρ 5, 0, none⟩))), (10, (.int .i64 (expE (compN a))))])
    (fun ρ => [(nb ρ1 0, (.cells (cU a) 24 (0, 0))), (nb ρ1 1, (.cells (cU b) 24 (0, 0))), (nb ρ1 2, (.cells (hB h) 44 (0, 0))), (nb ρ 5, (.cells (cU (expV (compN a))) 24 (0, 0)))]) := by
  refine reg_seq [0, 1, 3, 7, 15, 31, 63, 127] [3, 4, 5, 6, 7, 8, 9, 10] 8
    (fun ρ ι => ([(.int .u32 ((compN a : Nat) : Int)), (.tuple #[(U (expV (compN a))), (.int .i64 (expE (compN a)))]), (.tuple #[(U (expV (compN a))), (.int .i64 (expE (compN a)))]), (U (expV (compN a))), (.int .i64 (expE (compN a))), (.pointer (some ⟨nb ρ 5, 0, none⟩)), undef, (.int .i64 (expE (compN a)))] : List Value).getD ι undef)
    (fun ρ ι => ([{}, {}, {}, {}, {}, { news := [(nb ρ 5, (.cells (cU 0) 24 (0, 0)))] }, { puts := [(43, (.cells (cU (expV (compN a))) 24 (0, 0)))] }, {}] : List Eff).getD ι {})
    (by as_aux_lemma => kernel_rfl) (by as_aux_lemma => kernel_rfl) (fun _ => by as_aux_lemma => kernel_rfl) (fun _ => by as_aux_lemma => kernel_rfl) ⟨⟨⟨⟨⟨⟨⟨⟨trivial, ?_⟩, ?_⟩, ?_⟩, ?_⟩, ?_⟩, ?_⟩, ?_⟩, ?_⟩
  · exact o_run 0 [] [] (fun _ _ => []) (fun _ _ => by as_aux_lemma => kernel_rfl)
  · exact o_call 1 32 (fun _ => #[(.int .u32 ((compN a : Nat) : Int))]) (fun _ => (.tuple #[(U (expV (compN a))), (.int .i64 (expE (compN a)))])) (fun _ _ => by as_aux_lemma => kernel_rfl) (fun _ w => (fun w => expand_any (compN a) w (compN_lt ha)) w)
  · exact o_run 2 [] [] (fun _ _ => []) (fun _ _ => by as_aux_lemma => kernel_rfl)
  · exact o_run 3 [] [] (fun _ _ => []) (fun _ _ => by as_aux_lemma => kernel_rfl)
  · exact o_run 4 [] [] (fun _ _ => []) (fun _ _ => by as_aux_lemma => kernel_rfl)
  · exact o_run 5 [] [] (fun _ _ => []) (fun _ _ => by as_aux_lemma => kernel_rfl)
  · exact o_run 6 [43] [] (fun ρ _ => [nb ρ 5, nb ρ 5, nb ρ 5, nb ρ 5]) (fun _ _ => by as_aux_lemma => kernel_rfl)
  · exact o_run 7 [] [] (fun _ _ => []) (fun _ _ => by as_aux_lemma => kernel_rfl)
theorem targetOrder_w_r16 (a : Nat) (b : Nat) (h : Nat) (hb : b < M) (ρ1 : Nat → Orc) (ρ15 : Nat → Orc) (w0 : World) : Reg Try.prog 9 (regOps Try.f9 9) false 69 [(3, (.pointer (some ⟨nb ρ1 0, 0, none⟩))), (4, (.pointer (some ⟨nb ρ1 1, 0, none⟩))), (5, (.pointer (some ⟨nb ρ1 2, 0, none⟩))), (6, (.bool false)), (7, (.int .u32 ((compN a : Nat) : Int))), (8, (.int .u32 ((compN b : Nat) : Int))), (9, (.pointer (some ⟨nb ρ15 5, 0, none⟩))), (10, (.int .i64 (expE (compN a))))] w0 [(nb ρ1 0, (.cells (cU a) 24 (0, 0))), (nb ρ1 1, (.cells (cU b) 24 (0, 0))), (nb ρ1 2, (.cells (hB h) 44 (0, 0))), (nb ρ15 5, (.cells (cU (expV (compN a))) 24 (0, 0)))] (fun _ => True)
    (fun ρ => [(3, (.pointer (some ⟨nb ρ1 0, 0, none⟩))), (4, (.pointer (some ⟨nb ρ1 1, 0, none⟩))), (5, (.pointer (some ⟨nb ρ1 2, 0, none⟩))), (6, (.bool false)), (7, (.int .u32 ((compN a : Nat) : Int))), (8, (.int .u32 ((compN b : Nat) : Int))), (9, (.pointer (some ⟨nb ρ15 5, 0, none⟩))), (10, (.int .i64 (expE (compN a)))), (11, (.pointer (some ⟨nb ρ 5, 0, none⟩))), (12, (.int .i64 (expE (compN b))))])
    (fun ρ => [(nb ρ1 0, (.cells (cU a) 24 (0, 0))), (nb ρ1 1, (.cells (cU b) 24 (0, 0))), (nb ρ1 2, (.cells (hB h) 44 (0, 0))), (nb ρ15 5, (.cells (cU (expV (compN a))) 24 (0, 0))), (nb ρ 5, (.cells (cU (expV (compN b))) 24 (0, 0)))]) := by
  refine reg_seq [0, 1, 3, 7, 15, 31, 63, 127] [3, 4, 5, 6, 7, 8, 9, 10, 11, 12] 8
    (fun ρ ι => ([(.int .u32 ((compN b : Nat) : Int)), (.tuple #[(U (expV (compN b))), (.int .i64 (expE (compN b)))]), (.tuple #[(U (expV (compN b))), (.int .i64 (expE (compN b)))]), (U (expV (compN b))), (.int .i64 (expE (compN b))), (.pointer (some ⟨nb ρ 5, 0, none⟩)), undef, (.int .i64 (expE (compN b)))] : List Value).getD ι undef)
    (fun ρ ι => ([{}, {}, {}, {}, {}, { news := [(nb ρ 5, (.cells (cU 0) 24 (0, 0)))] }, { puts := [(44, (.cells (cU (expV (compN b))) 24 (0, 0)))] }, {}] : List Eff).getD ι {})
    (by as_aux_lemma => kernel_rfl) (by as_aux_lemma => kernel_rfl) (fun _ => by as_aux_lemma => kernel_rfl) (fun _ => by as_aux_lemma => kernel_rfl) ⟨⟨⟨⟨⟨⟨⟨⟨trivial, ?_⟩, ?_⟩, ?_⟩, ?_⟩, ?_⟩, ?_⟩, ?_⟩, ?_⟩
  · exact o_run 0 [] [] (fun _ _ => []) (fun _ _ => by as_aux_lemma => kernel_rfl)
  · exact o_call 1 32 (fun _ => #[(.int .u32 ((compN b : Nat) : Int))]) (fun _ => (.tuple #[(U (expV (compN b))), (.int .i64 (expE (compN b)))])) (fun _ _ => by as_aux_lemma => kernel_rfl) (fun _ w => (fun w => expand_any (compN b) w (compN_lt hb)) w)
  · exact o_run 2 [] [] (fun _ _ => []) (fun _ _ => by as_aux_lemma => kernel_rfl)
  · exact o_run 3 [] [] (fun _ _ => []) (fun _ _ => by as_aux_lemma => kernel_rfl)
  · exact o_run 4 [] [] (fun _ _ => []) (fun _ _ => by as_aux_lemma => kernel_rfl)
  · exact o_run 5 [] [] (fun _ _ => []) (fun _ _ => by as_aux_lemma => kernel_rfl)
  · exact o_run 6 [44] [] (fun ρ _ => [nb ρ 5, nb ρ 5, nb ρ 5, nb ρ 5]) (fun _ _ => by as_aux_lemma => kernel_rfl)
  · exact o_run 7 [] [] (fun _ _ => []) (fun _ _ => by as_aux_lemma => kernel_rfl)
theorem targetOrder_w_r17 (a : Nat) (b : Nat) (h : Nat) (ha : a < M) (hb : b < M) (hh : h < M) (hb1 : (decide (0 < (cmpN a b))) = false) (hb4 : (decide (a = 0)) = false) (hb5 : (meetB h (compN a)) = true) (ρ1 : Nat → Orc) (ρ15 : Nat → Orc) (ρ16 : Nat → Orc) (w0 : World) : Reg Try.prog 10 (regOps Try.f9 10) true 69 [(3, (.pointer (some ⟨nb ρ1 0, 0, none⟩))), (4, (.pointer (some ⟨nb ρ1 1, 0, none⟩))), (5, (.pointer (some ⟨nb ρ1 2, 0, none⟩))), (6, (.bool false)), (7, (.int .u32 ((compN a : Nat) : Int))), (8, (.int .u32 ((compN b : Nat) : Int))), (9, (.pointer (some ⟨nb ρ15 5, 0, none⟩))), (10, (.int .i64 (expE (compN a)))), (11, (.pointer (some ⟨nb ρ16 5, 0, none⟩))), (12, (.int .i64 (expE (compN b))))] w0 [(nb ρ1 0, (.cells (cU a) 24 (0, 0))), (nb ρ1 1, (.cells (cU b) 24 (0, 0))), (nb ρ1 2, (.cells (hB h) 44 (0, 0))), (nb ρ15 5, (.cells (cU (expV (compN a))) 24 (0, 0))), (nb ρ16 5, (.cells (cU (expV (compN b))) 24 (0, 0)))] (fun _ => True)
    (fun _ => [(6, (.bool true))])
    (fun _ => [(nb ρ1 0, (.cells (cU a) 24 (0, 0))), (nb ρ1 1, (.cells (cU b) 24 (0, 0))), (nb ρ1 2, (.cells (hB h) 44 (0, 0))), (nb ρ15 5, (.cells (cU (expV (compN a))) 24 (0, 0))), (nb ρ16 5, (.cells (cU (expV (compN b))) 24 (0, 0)))]) := by
  refine reg_drawn [0, 1, 3, 7, 15, 31, 63, 127, 127, 511, 1023, 2047, 4095, 8191, 16383, 8191, 65535, 131071, 262143, 524287, 1048575, 2097151, 2097151, 8388607, 16777215, 33554431, 67108863, 67108863, 268435455, 536870911, 1073741823, 2147483647] [6] 32
    (fun _ ι => ([(.int .i64 (expE (compN a))), (.bool true), (.bool true), (.int .i64 (expE (compN b))), (.bool true), (.bool true), (.bool true), (U (expV (compN a))), (U (expV (compN b))), (.int .i64 (cmpN (expV (compN a)) (expV (compN b)))), (.bool true), (.bool true), (.bool true), (U a), (U (workN a)), (U b), (U (workN b)), (.int .i64 (cmpN (workN a) (workN b))), (.bool true), (.bool true), (.bool true), (.agg (hB h)), (.int .u32 ((compN a : Nat) : Int)), (.bool true), (.bool false), (.bool false), (.agg (hB h)), (.int .u32 ((compN b : Nat) : Int)), (.bool true), (.bool true), (.bool true), (.bool true)] : List Value).getD ι undef)
    (fun _ ι => ([{}, {}, {}, {}, {}, {}, {}, {}, {}, {}, {}, {}, {}, {}, {}, {}, {}, {}, {}, {}, {}, {}, {}, {}, {}, {}, {}, {}, {}, {}, {}, {}] : List Eff).getD ι {})
    (by as_aux_lemma => kernel_rfl) (by as_aux_lemma => kernel_rfl) (by as_aux_lemma => kernel_rfl) (fun _ => by as_aux_lemma => kernel_rfl) (fun _ => by as_aux_lemma => kernel_rfl) ⟨⟨⟨⟨⟨⟨⟨⟨⟨⟨⟨⟨⟨⟨⟨⟨⟨⟨⟨⟨⟨⟨⟨⟨⟨⟨⟨⟨⟨⟨⟨⟨trivial, ?_⟩, ?_⟩, ?_⟩, ?_⟩, ?_⟩, ?_⟩, ?_⟩, ?_⟩, ?_⟩, ?_⟩, ?_⟩, ?_⟩, ?_⟩, ?_⟩, ?_⟩, ?_⟩, ?_⟩, ?_⟩, ?_⟩, ?_⟩, ?_⟩, ?_⟩, ?_⟩, ?_⟩, ?_⟩, ?_⟩, ?_⟩, ?_⟩, ?_⟩, ?_⟩, ?_⟩, ?_⟩
  · exact o_run 0 [] [] (fun _ _ => []) (fun _ _ => by as_aux_lemma => kernel_rfl)
  · exact o_as 1 (fun _ => (.bool ((expE (compN a)) == 0))) (fun _ => (.bool true)) (fun _ _ => by as_aux_lemma => kernel_rfl) (fun _ => congrArg Value.bool ((expE_ok (compN a)).trans (comp_b ha (of_decide_eq_false hb4))))
  · exact o_run 2 [] [] (fun _ _ => []) (fun _ _ => by as_aux_lemma => kernel_rfl)
  · exact o_run 3 [] [] (fun _ _ => []) (fun _ _ => by as_aux_lemma => kernel_rfl)
  · exact o_as 4 (fun _ => (.bool ((expE (compN b)) == 0))) (fun _ => (.bool true)) (fun _ _ => by as_aux_lemma => kernel_rfl) (fun _ => congrArg Value.bool ((expE_ok (compN b)).trans (comp_b hb (order_ne (order_dn hb1) (of_decide_eq_false hb4)))))
  · exact o_run 5 [] [] (fun _ _ => []) (fun _ _ => by as_aux_lemma => kernel_rfl)
  · exact o_run 6 [] [] (fun _ _ => []) (fun _ _ => by as_aux_lemma => kernel_rfl)
  · exact o_run 7 [3] [] (fun _ _ => [nb ρ15 5, nb ρ15 5, nb ρ15 5, nb ρ15 5]) (fun _ _ => by as_aux_lemma => kernel_rfl)
  · exact o_run 8 [4] [] (fun _ _ => [nb ρ16 5, nb ρ16 5, nb ρ16 5, nb ρ16 5]) (fun _ _ => by as_aux_lemma => kernel_rfl)
  · exact o_call 9 40 (fun _ => #[(U (expV (compN a))), (U (expV (compN b)))]) (fun _ => (.int .i64 (cmpN (expV (compN a)) (expV (compN b))))) (fun _ _ => by as_aux_lemma => kernel_rfl) (fun _ w => (fun w => rcmp_any (expV (compN a)) (expV (compN b)) w (expV_lt (compN a)) (expV_lt (compN b))) w)
  · exact o_as 10 (fun _ => (.bool (decide ((cmpN (expV (compN a)) (expV (compN b))) ≤ 0)))) (fun _ => (.bool true)) (fun _ _ => by as_aux_lemma => kernel_rfl) (fun _ => congrArg Value.bool (decide_eq_true (cmp_le (comp_mono ha hb (order_dn hb1) (of_decide_eq_false hb4)))))
  · exact o_run 11 [] [] (fun _ _ => []) (fun _ _ => by as_aux_lemma => kernel_rfl)
  · exact o_run 12 [] [] (fun _ _ => []) (fun _ _ => by as_aux_lemma => kernel_rfl)
  · exact o_run 13 [0] [] (fun _ _ => [nb ρ1 0, nb ρ1 0, nb ρ1 0, nb ρ1 0]) (fun _ _ => by as_aux_lemma => kernel_rfl)
  · exact o_call 14 37 (fun _ => #[(U a)]) (fun _ => (U (workN a))) (fun _ _ => by as_aux_lemma => kernel_rfl) (fun _ w => (fun w => work_any a w ha) w)
  · exact o_run 15 [1] [] (fun _ _ => [nb ρ1 1, nb ρ1 1, nb ρ1 1, nb ρ1 1]) (fun _ _ => by as_aux_lemma => kernel_rfl)
  · exact o_call 16 37 (fun _ => #[(U b)]) (fun _ => (U (workN b))) (fun _ _ => by as_aux_lemma => kernel_rfl) (fun _ w => (fun w => work_any b w hb) w)
  · exact o_call 17 40 (fun _ => #[(U (workN a)), (U (workN b))]) (fun _ => (.int .i64 (cmpN (workN a) (workN b)))) (fun _ _ => by as_aux_lemma => kernel_rfl) (fun _ w => (fun w => rcmp_any (workN a) (workN b) w (workN_lt a) (workN_lt b)) w)
  · exact o_as 18 (fun _ => (.bool (decide (0 ≤ (cmpN (workN a) (workN b)))))) (fun _ => (.bool true)) (fun _ _ => by as_aux_lemma => kernel_rfl) (fun _ => congrArg Value.bool (decide_eq_true (cmp_ge (work_anti hb (order_dn hb1) (of_decide_eq_false hb4)))))
  · exact o_run 19 [] [] (fun _ _ => []) (fun _ _ => by as_aux_lemma => kernel_rfl)
  · exact o_run 20 [] [] (fun _ _ => []) (fun _ _ => by as_aux_lemma => kernel_rfl)
  · exact o_run 21 [2] [] (fun _ _ => [nb ρ1 2, nb ρ1 2, nb ρ1 2, nb ρ1 2, nb ρ1 2, nb ρ1 2, nb ρ1 2, nb ρ1 2, nb ρ1 2, nb ρ1 2, nb ρ1 2, nb ρ1 2, nb ρ1 2, nb ρ1 2, nb ρ1 2, nb ρ1 2, nb ρ1 2, nb ρ1 2, nb ρ1 2, nb ρ1 2, nb ρ1 2, nb ρ1 2, nb ρ1 2, nb ρ1 2, nb ρ1 2, nb ρ1 2, nb ρ1 2, nb ρ1 2, nb ρ1 2, nb ρ1 2, nb ρ1 2, nb ρ1 2]) (fun _ _ => by as_aux_lemma => kernel_rfl)
  · exact o_run 22 [] [] (fun _ _ => []) (fun _ _ => by as_aux_lemma => kernel_rfl)
  · exact o_call 23 42 (fun _ => #[(.agg (hB h)), (.int .u32 ((compN a : Nat) : Int))]) (fun _ => (.bool true)) (fun _ _ => by as_aux_lemma => kernel_rfl) (fun _ w => by as_aux_lemma => (have h := (fun w => meets_any h (compN a) w hh (compN_lt ha)) w; rw [hb5] at h; exact h))
  · exact o_run 24 [] [] (fun _ _ => []) (fun _ _ => by as_aux_lemma => kernel_rfl)
  · exact o_run 25 [] [] (fun _ _ => []) (fun _ _ => by as_aux_lemma => kernel_rfl)
  · exact o_run 26 [2] [] (fun _ _ => [nb ρ1 2, nb ρ1 2, nb ρ1 2, nb ρ1 2, nb ρ1 2, nb ρ1 2, nb ρ1 2, nb ρ1 2, nb ρ1 2, nb ρ1 2, nb ρ1 2, nb ρ1 2, nb ρ1 2, nb ρ1 2, nb ρ1 2, nb ρ1 2, nb ρ1 2, nb ρ1 2, nb ρ1 2, nb ρ1 2, nb ρ1 2, nb ρ1 2, nb ρ1 2, nb ρ1 2, nb ρ1 2, nb ρ1 2, nb ρ1 2, nb ρ1 2, nb ρ1 2, nb ρ1 2, nb ρ1 2, nb ρ1 2]) (fun _ _ => by as_aux_lemma => kernel_rfl)
  · exact o_run 27 [] [] (fun _ _ => []) (fun _ _ => by as_aux_lemma => kernel_rfl)
  · exact o_call 28 42 (fun _ => #[(.agg (hB h)), (.int .u32 ((compN b : Nat) : Int))]) (fun _ => (.bool true)) (fun _ _ => by as_aux_lemma => kernel_rfl) (fun _ w => by as_aux_lemma => (have h := (fun w => meets_any h (compN b) w hh (compN_lt hb)) w; rw [(meet_mono ha hb (order_dn hb1) (of_decide_eq_false hb4) hb5)] at h; exact h))
  · exact o_run 29 [] [] (fun _ _ => []) (fun _ _ => by as_aux_lemma => kernel_rfl)
  · exact o_run 30 [] [] (fun _ _ => []) (fun _ _ => by as_aux_lemma => kernel_rfl)
  · exact o_run 31 [] [] (fun _ _ => []) (fun _ _ => by as_aux_lemma => kernel_rfl)
theorem targetOrder_w_r18 (a : Nat) (b : Nat) (h : Nat) (ha : a < M) (hb : b < M) (hh : h < M) (hb1 : (decide (0 < (cmpN a b))) = false) (hb4 : (decide (a = 0)) = false) (hb5 : (meetB h (compN a)) = false) (ρ1 : Nat → Orc) (ρ15 : Nat → Orc) (ρ16 : Nat → Orc) (w0 : World) : Reg Try.prog 10 (regOps Try.f9 10) true 69 [(3, (.pointer (some ⟨nb ρ1 0, 0, none⟩))), (4, (.pointer (some ⟨nb ρ1 1, 0, none⟩))), (5, (.pointer (some ⟨nb ρ1 2, 0, none⟩))), (6, (.bool false)), (7, (.int .u32 ((compN a : Nat) : Int))), (8, (.int .u32 ((compN b : Nat) : Int))), (9, (.pointer (some ⟨nb ρ15 5, 0, none⟩))), (10, (.int .i64 (expE (compN a)))), (11, (.pointer (some ⟨nb ρ16 5, 0, none⟩))), (12, (.int .i64 (expE (compN b))))] w0 [(nb ρ1 0, (.cells (cU a) 24 (0, 0))), (nb ρ1 1, (.cells (cU b) 24 (0, 0))), (nb ρ1 2, (.cells (hB h) 44 (0, 0))), (nb ρ15 5, (.cells (cU (expV (compN a))) 24 (0, 0))), (nb ρ16 5, (.cells (cU (expV (compN b))) 24 (0, 0)))] (fun _ => True)
    (fun _ => [(6, (.bool true))])
    (fun _ => [(nb ρ1 0, (.cells (cU a) 24 (0, 0))), (nb ρ1 1, (.cells (cU b) 24 (0, 0))), (nb ρ1 2, (.cells (hB h) 44 (0, 0))), (nb ρ15 5, (.cells (cU (expV (compN a))) 24 (0, 0))), (nb ρ16 5, (.cells (cU (expV (compN b))) 24 (0, 0)))]) := by
  refine reg_drawn [0, 1, 3, 7, 15, 31, 63, 127, 127, 511, 1023, 2047, 4095, 8191, 16383, 8191, 65535, 131071, 262143, 524287, 1048575, 2097151, 2097151, 8388607, 16777215, 33554431, 67108863, 67108863, 268435455, 536870911, 1073741823, 2147483647] [6] 32
    (fun _ ι => ([(.int .i64 (expE (compN a))), (.bool true), (.bool true), (.int .i64 (expE (compN b))), (.bool true), (.bool true), (.bool true), (U (expV (compN a))), (U (expV (compN b))), (.int .i64 (cmpN (expV (compN a)) (expV (compN b)))), (.bool true), (.bool true), (.bool true), (U a), (U (workN a)), (U b), (U (workN b)), (.int .i64 (cmpN (workN a) (workN b))), (.bool true), (.bool true), (.bool true), (.agg (hB h)), (.int .u32 ((compN a : Nat) : Int)), (.bool false), (.bool true), (.bool true), undef, undef, undef, (.bool true), (.bool true), (.bool true)] : List Value).getD ι undef)
    (fun _ ι => ([{}, {}, {}, {}, {}, {}, {}, {}, {}, {}, {}, {}, {}, {}, {}, {}, {}, {}, {}, {}, {}, {}, {}, {}, {}, {}, {}, {}, {}, {}, {}, {}] : List Eff).getD ι {})
    (by as_aux_lemma => kernel_rfl) (by as_aux_lemma => kernel_rfl) (by as_aux_lemma => kernel_rfl) (fun _ => by as_aux_lemma => kernel_rfl) (fun _ => by as_aux_lemma => kernel_rfl) ⟨⟨⟨⟨⟨⟨⟨⟨⟨⟨⟨⟨⟨⟨⟨⟨⟨⟨⟨⟨⟨⟨⟨⟨⟨⟨⟨⟨⟨⟨⟨⟨trivial, ?_⟩, ?_⟩, ?_⟩, ?_⟩, ?_⟩, ?_⟩, ?_⟩, ?_⟩, ?_⟩, ?_⟩, ?_⟩, ?_⟩, ?_⟩, ?_⟩, ?_⟩, ?_⟩, ?_⟩, ?_⟩, ?_⟩, ?_⟩, ?_⟩, ?_⟩, ?_⟩, ?_⟩, ?_⟩, ?_⟩, ?_⟩, ?_⟩, ?_⟩, ?_⟩, ?_⟩, ?_⟩
  · exact o_run 0 [] [] (fun _ _ => []) (fun _ _ => by as_aux_lemma => kernel_rfl)
  · exact o_as 1 (fun _ => (.bool ((expE (compN a)) == 0))) (fun _ => (.bool true)) (fun _ _ => by as_aux_lemma => kernel_rfl) (fun _ => congrArg Value.bool ((expE_ok (compN a)).trans (comp_b ha (of_decide_eq_false hb4))))
  · exact o_run 2 [] [] (fun _ _ => []) (fun _ _ => by as_aux_lemma => kernel_rfl)
  · exact o_run 3 [] [] (fun _ _ => []) (fun _ _ => by as_aux_lemma => kernel_rfl)
  · exact o_as 4 (fun _ => (.bool ((expE (compN b)) == 0))) (fun _ => (.bool true)) (fun _ _ => by as_aux_lemma => kernel_rfl) (fun _ => congrArg Value.bool ((expE_ok (compN b)).trans (comp_b hb (order_ne (order_dn hb1) (of_decide_eq_false hb4)))))
  · exact o_run 5 [] [] (fun _ _ => []) (fun _ _ => by as_aux_lemma => kernel_rfl)
  · exact o_run 6 [] [] (fun _ _ => []) (fun _ _ => by as_aux_lemma => kernel_rfl)
  · exact o_run 7 [3] [] (fun _ _ => [nb ρ15 5, nb ρ15 5, nb ρ15 5, nb ρ15 5]) (fun _ _ => by as_aux_lemma => kernel_rfl)
  · exact o_run 8 [4] [] (fun _ _ => [nb ρ16 5, nb ρ16 5, nb ρ16 5, nb ρ16 5]) (fun _ _ => by as_aux_lemma => kernel_rfl)
  · exact o_call 9 40 (fun _ => #[(U (expV (compN a))), (U (expV (compN b)))]) (fun _ => (.int .i64 (cmpN (expV (compN a)) (expV (compN b))))) (fun _ _ => by as_aux_lemma => kernel_rfl) (fun _ w => (fun w => rcmp_any (expV (compN a)) (expV (compN b)) w (expV_lt (compN a)) (expV_lt (compN b))) w)
  · exact o_as 10 (fun _ => (.bool (decide ((cmpN (expV (compN a)) (expV (compN b))) ≤ 0)))) (fun _ => (.bool true)) (fun _ _ => by as_aux_lemma => kernel_rfl) (fun _ => congrArg Value.bool (decide_eq_true (cmp_le (comp_mono ha hb (order_dn hb1) (of_decide_eq_false hb4)))))
  · exact o_run 11 [] [] (fun _ _ => []) (fun _ _ => by as_aux_lemma => kernel_rfl)
  · exact o_run 12 [] [] (fun _ _ => []) (fun _ _ => by as_aux_lemma => kernel_rfl)
  · exact o_run 13 [0] [] (fun _ _ => [nb ρ1 0, nb ρ1 0, nb ρ1 0, nb ρ1 0]) (fun _ _ => by as_aux_lemma => kernel_rfl)
  · exact o_call 14 37 (fun _ => #[(U a)]) (fun _ => (U (workN a))) (fun _ _ => by as_aux_lemma => kernel_rfl) (fun _ w => (fun w => work_any a w ha) w)
  · exact o_run 15 [1] [] (fun _ _ => [nb ρ1 1, nb ρ1 1, nb ρ1 1, nb ρ1 1]) (fun _ _ => by as_aux_lemma => kernel_rfl)
  · exact o_call 16 37 (fun _ => #[(U b)]) (fun _ => (U (workN b))) (fun _ _ => by as_aux_lemma => kernel_rfl) (fun _ w => (fun w => work_any b w hb) w)
  · exact o_call 17 40 (fun _ => #[(U (workN a)), (U (workN b))]) (fun _ => (.int .i64 (cmpN (workN a) (workN b)))) (fun _ _ => by as_aux_lemma => kernel_rfl) (fun _ w => (fun w => rcmp_any (workN a) (workN b) w (workN_lt a) (workN_lt b)) w)
  · exact o_as 18 (fun _ => (.bool (decide (0 ≤ (cmpN (workN a) (workN b)))))) (fun _ => (.bool true)) (fun _ _ => by as_aux_lemma => kernel_rfl) (fun _ => congrArg Value.bool (decide_eq_true (cmp_ge (work_anti hb (order_dn hb1) (of_decide_eq_false hb4)))))
  · exact o_run 19 [] [] (fun _ _ => []) (fun _ _ => by as_aux_lemma => kernel_rfl)
  · exact o_run 20 [] [] (fun _ _ => []) (fun _ _ => by as_aux_lemma => kernel_rfl)
  · exact o_run 21 [2] [] (fun _ _ => [nb ρ1 2, nb ρ1 2, nb ρ1 2, nb ρ1 2, nb ρ1 2, nb ρ1 2, nb ρ1 2, nb ρ1 2, nb ρ1 2, nb ρ1 2, nb ρ1 2, nb ρ1 2, nb ρ1 2, nb ρ1 2, nb ρ1 2, nb ρ1 2, nb ρ1 2, nb ρ1 2, nb ρ1 2, nb ρ1 2, nb ρ1 2, nb ρ1 2, nb ρ1 2, nb ρ1 2, nb ρ1 2, nb ρ1 2, nb ρ1 2, nb ρ1 2, nb ρ1 2, nb ρ1 2, nb ρ1 2, nb ρ1 2]) (fun _ _ => by as_aux_lemma => kernel_rfl)
  · exact o_run 22 [] [] (fun _ _ => []) (fun _ _ => by as_aux_lemma => kernel_rfl)
  · exact o_call 23 42 (fun _ => #[(.agg (hB h)), (.int .u32 ((compN a : Nat) : Int))]) (fun _ => (.bool false)) (fun _ _ => by as_aux_lemma => kernel_rfl) (fun _ w => by as_aux_lemma => (have h := (fun w => meets_any h (compN a) w hh (compN_lt ha)) w; rw [hb5] at h; exact h))
  · exact o_run 24 [] [] (fun _ _ => []) (fun _ _ => by as_aux_lemma => kernel_rfl)
  · exact o_run 25 [] [] (fun _ _ => []) (fun _ _ => by as_aux_lemma => kernel_rfl)
  · exact o_skip 26 (fun _ => by as_aux_lemma => kernel_rfl)
  · exact o_skip 27 (fun _ => by as_aux_lemma => kernel_rfl)
  · exact o_skip 28 (fun _ => by as_aux_lemma => kernel_rfl)
  · exact o_run 29 [] [] (fun _ _ => []) (fun _ _ => by as_aux_lemma => kernel_rfl)
  · exact o_run 30 [] [] (fun _ _ => []) (fun _ _ => by as_aux_lemma => kernel_rfl)
  · exact o_run 31 [] [] (fun _ _ => []) (fun _ _ => by as_aux_lemma => kernel_rfl)
theorem targetOrder_w (a : Nat) (b : Nat) (h : Nat) (ha : a < M) (hb : b < M) (hh : h < M) (w0 : World) : Calls Try.prog 9 #[(U a), (U b), (.agg (hB h))] w0 (fun ε w' => ε = .returned (.bool true) ∧ Below w0.heap.size w0 w') := by
  refine Calls.of_ok (n := 69) (F := fun _ => True) Try.func9 rfl rfl rfl (by simp) (persTrue (fun _ => trivial)) ?_
  refine ok_seq_r (by as_aux_lemma => kernel_rfl) (targetOrder_w_r1 a b h _) (fun ρ1 => ?_)
  refine ok_seq ?_
  refine ok_seq_r (by as_aux_lemma => kernel_rfl) (targetOrder_w_r2 a b h ρ1 _) (fun _ => ?_)
  refine ok_no (by as_aux_lemma => kernel_rfl) ?_
  refine ok_skip ?_
  refine mt_then ?_
  refine ok_seq ?_
  refine ok_seq_r (by as_aux_lemma => kernel_rfl) (targetOrder_w_r3 a b h ha hb ρ1 _) (fun _ => ?_)
  refine ok_cond (b := decide (0 < (cmpN a b))) (by as_aux_lemma => kernel_rfl) (fun hb1 => ?_) (fun hb1 => ?_)
  ·
    rw [hb1]
    refine ok_r (by as_aux_lemma => kernel_rfl) (targetOrder_w_r4 a b h ρ1 _) (fun _ => ?_)
    refine mt_then ?_
    refine ok_seq ?_
    refine ok_seq_r (by as_aux_lemma => kernel_rfl) (targetOrder_w_r5 a b h hb ρ1 _) (fun _ => ?_)
    refine ok_cond (b := decide (b = 0)) (by as_aux_lemma => kernel_rfl) (fun hb2 => ?_) (fun hb2 => ?_)
    ·
      rw [hb2]
      refine ok_seq_r (by as_aux_lemma => kernel_rfl) (targetOrder_w_r6 a b h ρ1 _) (fun _ => ?_)
      refine ok_ret ?_
      refine mt_then_r ?_
      exact meets_ret (v := (.bool true)) [] (dup []) (by as_aux_lemma => kernel_rfl) (by as_aux_lemma => kernel_rfl) (eqs_dup _) (fun _ hS => ⟨rfl, hS.below⟩)
    ·
      rw [hb2]
      refine ok_skip ?_
      refine mt_then ?_
      refine ok_seq_r (by as_aux_lemma => kernel_rfl) (targetOrder_w_r7 a b h ha hb ρ1 _) (fun _ => ?_)
      refine ok_seq_r (by as_aux_lemma => kernel_rfl) (targetOrder_w_r8 a b h hb ρ1 _) (fun ρ8 => ?_)
      refine ok_seq_r (by as_aux_lemma => kernel_rfl) (targetOrder_w_r9 a b h ha ρ1 ρ8 _) (fun ρ9 => ?_)
      rcases Bool.eq_false_or_eq_true (meetB h (compN b)) with hb3 | hb3
      ·
        refine ok_seq_r (by as_aux_lemma => kernel_rfl) (targetOrder_w_r10 a b h ha hb hh hb1 hb2 hb3 ρ1 ρ8 ρ9 _) (fun _ => ?_)
        refine ok_ret ?_
        exact meets_ret (v := (.bool true)) [] (dup []) (by as_aux_lemma => kernel_rfl) (by as_aux_lemma => kernel_rfl) (eqs_dup _) (fun _ hS => ⟨rfl, hS.below⟩)
      ·
        refine ok_seq_r (by as_aux_lemma => kernel_rfl) (targetOrder_w_r11 a b h ha hb hh hb1 hb2 hb3 ρ1 ρ8 ρ9 _) (fun _ => ?_)
        refine ok_ret ?_
        exact meets_ret (v := (.bool true)) [] (dup []) (by as_aux_lemma => kernel_rfl) (by as_aux_lemma => kernel_rfl) (eqs_dup _) (fun _ hS => ⟨rfl, hS.below⟩)
  ·
    rw [hb1]
    refine ok_skip ?_
    refine mt_then ?_
    refine ok_seq ?_
    refine ok_seq_r (by as_aux_lemma => kernel_rfl) (targetOrder_w_r12 a b h ha ρ1 _) (fun _ => ?_)
    refine ok_cond (b := decide (a = 0)) (by as_aux_lemma => kernel_rfl) (fun hb4 => ?_) (fun hb4 => ?_)
    ·
      rw [hb4]
      refine ok_seq_r (by as_aux_lemma => kernel_rfl) (targetOrder_w_r13 a b h ρ1 _) (fun _ => ?_)
      refine ok_ret ?_
      refine mt_then_r ?_
      exact meets_ret (v := (.bool true)) [] (dup []) (by as_aux_lemma => kernel_rfl) (by as_aux_lemma => kernel_rfl) (eqs_dup _) (fun _ hS => ⟨rfl, hS.below⟩)
    ·
      rw [hb4]
      refine ok_skip ?_
      refine mt_then ?_
      refine ok_seq_r (by as_aux_lemma => kernel_rfl) (targetOrder_w_r14 a b h ha hb ρ1 _) (fun _ => ?_)
      refine ok_seq_r (by as_aux_lemma => kernel_rfl) (targetOrder_w_r15 a b h ha ρ1 _) (fun ρ15 => ?_)
      refine ok_seq_r (by as_aux_lemma => kernel_rfl) (targetOrder_w_r16 a b h hb ρ1 ρ15 _) (fun ρ16 => ?_)
      rcases Bool.eq_false_or_eq_true (meetB h (compN a)) with hb5 | hb5
      ·
        refine ok_seq_r (by as_aux_lemma => kernel_rfl) (targetOrder_w_r17 a b h ha hb hh hb1 hb4 hb5 ρ1 ρ15 ρ16 _) (fun _ => ?_)
        refine ok_ret ?_
        exact meets_ret (v := (.bool true)) [] (dup []) (by as_aux_lemma => kernel_rfl) (by as_aux_lemma => kernel_rfl) (eqs_dup _) (fun _ hS => ⟨rfl, hS.below⟩)
      ·
        refine ok_seq_r (by as_aux_lemma => kernel_rfl) (targetOrder_w_r18 a b h ha hb hh hb1 hb4 hb5 ρ1 ρ15 ρ16 _) (fun _ => ?_)
        refine ok_ret ?_
        exact meets_ret (v := (.bool true)) [] (dup []) (by as_aux_lemma => kernel_rfl) (by as_aux_lemma => kernel_rfl) (eqs_dup _) (fun _ hS => ⟨rfl, hS.below⟩)
theorem targetOrder_walk (a : Nat) (b : Nat) (h : Nat) (w0 : World) (ha : a < M) (hb : b < M) (hh : h < M) : Calls Try.prog 9 #[(U a), (U b), (.agg (hB h))] w0 (fun ε w' => ε = .returned (.bool true) ∧ Below w0.heap.size w0 w') := by
  exact targetOrder_w a b h ha hb hh w0
end Go.Proofs.Ytkiijahkmgmnnaa
