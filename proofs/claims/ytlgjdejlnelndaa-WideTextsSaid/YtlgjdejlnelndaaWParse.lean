/-
  Decimal texts: the walks.
-/
import Derived.Test.YtlgjdejlnelndaaParseNum
import Derived.Test.YtlgjdejlnelndaaWMul
import Derived.Test.YtlgjdejlnelndaaDivAny
import Derived.Test.YtlgjdejlnelndaaRLen
import Derived.Test.YtlgjdejlnelndaaEq
namespace Go.Proofs.Ytlgjdejlnelndaa
open Go Go.RowKit
set_option maxRecDepth 100000
theorem parse_any_r1 (S : List UInt8) (w0 : World) (F : World → Prop) : Reg Try.prog 0 (regOps Try.f39 0) false 67 [(0, (.string (strB S)))] w0 [] F
    (fun ρ => [(0, (.string (strB S))), (2, (pt (nb ρ 0))), (3, (.int .i64 0))])
    (fun ρ => [(nb ρ 0, (.cells (cU 0) 24 (0, 0)))]) := by
  refine reg_seq [0, 1] [0, 2, 3] 2
    (fun ρ ι => ([(pt (nb ρ 0)), (.int .i64 0)] : List Value).getD ι undef)
    (fun ρ ι => ([{ news := [(nb ρ 0, (.cells (cU 0) 24 (0, 0)))] }, {}] : List Eff).getD ι {})
    (by kernel_rfl) (by kernel_rfl) (fun _ => by kernel_rfl) (fun _ => by kernel_rfl) ⟨⟨trivial, ?_⟩, ?_⟩
  · exact o_run 0 [] [] (fun _ _ => []) (fun _ _ => by kernel_rfl)
  · exact o_run 1 [] [] (fun _ _ => []) (fun _ _ => by kernel_rfl)
theorem parse_any_r2 (S : List UInt8) (ρ1 : Nat → Orc) (w0 : World) (F : World → Prop) : Reg Try.prog 1 (regOps Try.f39 1) false 67 [(0, (.string (strB S))), (2, (pt (nb ρ1 0))), (3, (.int .i64 0))] w0 [(nb ρ1 0, (.cells (cU 0) 24 (0, 0)))] F
    (fun _ => [(0, (.string (strB S))), (2, (pt (nb ρ1 0))), (3, (.int .i64 0)), (13, (.bool (decide (100 < (((S).length : Nat) : Int)))))])
    (fun _ => [(nb ρ1 0, (.cells (cU 0) 24 (0, 0)))]) := by
  refine reg_seq [0, 1, 3] [0, 2, 3, 13] 3
    (fun _ ι => ([(.string (strB S)), (.int .i64 (((S).length : Nat) : Int)), (.bool (decide (100 < (((S).length : Nat) : Int))))] : List Value).getD ι undef)
    (fun _ ι => ([{}, {}, {}] : List Eff).getD ι {})
    (by kernel_rfl) (by kernel_rfl) (fun _ => by kernel_rfl) (fun _ => by kernel_rfl) ⟨⟨⟨trivial, ?_⟩, ?_⟩, ?_⟩
  · exact o_run 0 [] [] (fun _ _ => []) (fun _ _ => by kernel_rfl)
  · exact o_run 1 [] [] (fun _ _ => []) (fun _ _ => by kernel_rfl)
  · exact o_run 2 [] [] (fun _ _ => []) (fun _ _ => by kernel_rfl)
theorem parse_any_r3 (S : List UInt8) (ρ1 : Nat → Orc) (w0 : World) (F : World → Prop) : Reg Try.prog 2 (regOps Try.f39 2) false 67 [(0, (.string (strB S))), (2, (pt (nb ρ1 0))), (3, (.int .i64 0)), (13, (.bool true))] w0 [(nb ρ1 0, (.cells (cU 0) 24 (0, 0)))] F
    (fun _ => [(0, (.string (strB S))), (2, (pt (nb ρ1 0))), (3, (.int .i64 4))])
    (fun _ => [(nb ρ1 0, (.cells (cU 0) 24 (0, 0)))]) := by
  refine reg_seq [0, 1, 3] [0, 2, 3] 3
    (fun _ ι => ([(U 0), undef, (.int .i64 4)] : List Value).getD ι undef)
    (fun _ ι => ([{}, { puts := [(0, (.cells (cU 0) 24 (0, 0)))] }, {}] : List Eff).getD ι {})
    (by kernel_rfl) (by kernel_rfl) (fun _ => by kernel_rfl) (fun _ => by kernel_rfl) ⟨⟨⟨trivial, ?_⟩, ?_⟩, ?_⟩
  · exact o_run 0 [] [] (fun _ _ => []) (fun _ _ => by kernel_rfl)
  · exact o_run 1 [0] [] (fun _ _ => [nb ρ1 0, nb ρ1 0, nb ρ1 0, nb ρ1 0]) (fun _ _ => by kernel_rfl)
  · exact o_run 2 [] [] (fun _ _ => []) (fun _ _ => by kernel_rfl)
theorem parse_any_r4 (S : List UInt8) (ρ1 : Nat → Orc) (w0 : World) (F : World → Prop) : Reg Try.prog 3 (regOps Try.f39 3) false 67 [(0, (.string (strB S))), (2, (pt (nb ρ1 0))), (3, (.int .i64 0)), (13, (.bool false))] w0 [(nb ρ1 0, (.cells (cU 0) 24 (0, 0)))] F
    (fun _ => [(0, (.string (strB S))), (2, (pt (nb ρ1 0))), (3, (.int .i64 0)), (16, (.bool (decide (S = ([] : List UInt8)))))])
    (fun _ => [(nb ρ1 0, (.cells (cU 0) 24 (0, 0)))]) := by
  refine reg_seq [0, 1] [0, 2, 3, 16] 2
    (fun _ ι => ([(.string (strB S)), (.bool (decide (S = ([] : List UInt8))))] : List Value).getD ι undef)
    (fun _ ι => ([{}, {}] : List Eff).getD ι {})
    (by kernel_rfl) (by kernel_rfl) (fun _ => by kernel_rfl) (fun _ => by kernel_rfl) ⟨⟨trivial, ?_⟩, ?_⟩
  · exact o_run 0 [] [] (fun _ _ => []) (fun _ _ => by kernel_rfl)
  · exact o_bin 1 .eql 9 (fun _ => (.string (strB S))) (fun _ => (.string (strB ([] : List UInt8)))) (fun _ => (.bool (decide (S = ([] : List UInt8))))) (fun _ => by kernel_rfl) (fun _ _ _ _ => by kernel_rfl) (fun _ w => eql_str S ([] : List UInt8) w)
theorem parse_any_r5 (S : List UInt8) (ρ1 : Nat → Orc) (w0 : World) (F : World → Prop) : Reg Try.prog 4 (regOps Try.f39 4) false 67 [(0, (.string (strB S))), (2, (pt (nb ρ1 0))), (3, (.int .i64 0)), (16, (.bool true))] w0 [(nb ρ1 0, (.cells (cU 0) 24 (0, 0)))] F
    (fun _ => [(0, (.string (strB S))), (2, (pt (nb ρ1 0))), (3, (.int .i64 7))])
    (fun _ => [(nb ρ1 0, (.cells (cU 0) 24 (0, 0)))]) := by
  refine reg_seq [0, 1, 3] [0, 2, 3] 3
    (fun _ ι => ([(U 0), undef, (.int .i64 7)] : List Value).getD ι undef)
    (fun _ ι => ([{}, { puts := [(0, (.cells (cU 0) 24 (0, 0)))] }, {}] : List Eff).getD ι {})
    (by kernel_rfl) (by kernel_rfl) (fun _ => by kernel_rfl) (fun _ => by kernel_rfl) ⟨⟨⟨trivial, ?_⟩, ?_⟩, ?_⟩
  · exact o_run 0 [] [] (fun _ _ => []) (fun _ _ => by kernel_rfl)
  · exact o_run 1 [0] [] (fun _ _ => [nb ρ1 0, nb ρ1 0, nb ρ1 0, nb ρ1 0]) (fun _ _ => by kernel_rfl)
  · exact o_run 2 [] [] (fun _ _ => []) (fun _ _ => by kernel_rfl)
theorem parse_any_r6 (S : List UInt8) (ρ1 : Nat → Orc) (w0 : World) (F : World → Prop) : Reg Try.prog 5 (regOps Try.f39 5) false 67 [(0, (.string (strB S))), (2, (pt (nb ρ1 0))), (3, (.int .i64 0)), (16, (.bool false))] w0 [(nb ρ1 0, (.cells (cU 0) 24 (0, 0)))] F
    (fun _ => [(0, (.string (strB S))), (2, (pt (nb ρ1 0))), (3, (.int .i64 0)), (19, (.int .i64 (((S).length : Nat) : Int))), (20, (.int .i64 0))])
    (fun _ => [(nb ρ1 0, (.cells (cU 0) 24 (0, 0)))]) := by
  refine reg_seq [0, 1, 3] [0, 2, 3, 19, 20] 3
    (fun _ ι => ([(.string (strB S)), (.int .i64 (((S).length : Nat) : Int)), (.int .i64 0)] : List Value).getD ι undef)
    (fun _ ι => ([{}, {}, {}] : List Eff).getD ι {})
    (by kernel_rfl) (by kernel_rfl) (fun _ => by kernel_rfl) (fun _ => by kernel_rfl) ⟨⟨⟨trivial, ?_⟩, ?_⟩, ?_⟩
  · exact o_run 0 [] [] (fun _ _ => []) (fun _ _ => by kernel_rfl)
  · exact o_run 1 [] [] (fun _ _ => []) (fun _ _ => by kernel_rfl)
  · exact o_run 2 [] [] (fun _ _ => []) (fun _ _ => by kernel_rfl)
theorem parse_any_r7 (S : List UInt8) (i : Nat) (ρ1 : Nat → Orc) (w0 : World) (F : World → Prop) : Reg Try.prog 6 (regOps Try.f39 6) false 67 [(0, (.string (strB S))), (2, (pt (nb ρ1 0))), (19, (.int .i64 (((S).length : Nat) : Int))), (20, (.int .i64 ((i : Nat) : Int)))] w0 [(nb ρ1 0, (.cells (cU 0) 24 (0, 0)))] F
    (fun _ => [(0, (.string (strB S))), (2, (pt (nb ρ1 0))), (19, (.int .i64 (((S).length : Nat) : Int))), (20, (.int .i64 ((i : Nat) : Int))), (21, (.bool (decide (((i : Nat) : Int) < (((S).length : Nat) : Int)))))])
    (fun _ => [(nb ρ1 0, (.cells (cU 0) 24 (0, 0)))]) := by
  refine reg_seq [0] [0, 2, 19, 20, 21] 1
    (fun _ ι => ([(.bool (decide (((i : Nat) : Int) < (((S).length : Nat) : Int))))] : List Value).getD ι undef)
    (fun _ ι => ([{}] : List Eff).getD ι {})
    (by kernel_rfl) (by kernel_rfl) (fun _ => by kernel_rfl) (fun _ => by kernel_rfl) ⟨trivial, ?_⟩
  · exact o_run 0 [] [] (fun _ _ => []) (fun _ _ => by kernel_rfl)
theorem parse_any_r8 (S : List UInt8) (i : Nat) (ρ1 : Nat → Orc) (w0 : World) (F : World → Prop) : Reg Try.prog 7 (regOps Try.f39 7) false 67 [(0, (.string (strB S))), (2, (pt (nb ρ1 0))), (19, (.int .i64 (((S).length : Nat) : Int))), (20, (.int .i64 ((i : Nat) : Int))), (21, (.bool true))] w0 [(nb ρ1 0, (.cells (cU 0) 24 (0, 0)))] F
    (fun _ => [(0, (.string (strB S))), (2, (pt (nb ρ1 0))), (4, (.int .i64 ((i : Nat) : Int))), (19, (.int .i64 (((S).length : Nat) : Int))), (20, (.int .i64 ((i : Nat) : Int)))])
    (fun _ => [(nb ρ1 0, (.cells (cU 0) 24 (0, 0)))]) := by
  refine reg_seq [0, 1] [0, 2, 4, 19, 20] 2
    (fun _ ι => ([(.int .i64 ((i : Nat) : Int)), (.int .i64 ((i : Nat) : Int))] : List Value).getD ι undef)
    (fun _ ι => ([{}, {}] : List Eff).getD ι {})
    (by kernel_rfl) (by kernel_rfl) (fun _ => by kernel_rfl) (fun _ => by kernel_rfl) ⟨⟨trivial, ?_⟩, ?_⟩
  · exact o_run 0 [] [] (fun _ _ => []) (fun _ _ => by kernel_rfl)
  · exact o_run 1 [] [] (fun _ _ => []) (fun _ _ => by kernel_rfl)
theorem parse_any_r9 (S : List UInt8) (hb1 : (decide (100 < (((S).length : Nat) : Int))) = false) (hb2 : (decide (S = ([] : List UInt8))) = false) (i : Nat) (hi : i ≤ S.length) (hb3 : (decide (((i : Nat) : Int) < (((S).length : Nat) : Int))) = true) (hb4 : (decide (((gB S i : Nat) : Int) < 48)) = true) (ρ1 : Nat → Orc) (w0 : World) (F : World → Prop) : Reg Try.prog 8 (regOps Try.f39 8) false 67 [(0, (.string (strB S))), (2, (pt (nb ρ1 0))), (4, (.int .i64 ((i : Nat) : Int))), (19, (.int .i64 (((S).length : Nat) : Int))), (20, (.int .i64 ((i : Nat) : Int)))] w0 [(nb ρ1 0, (.cells (cU 0) 24 (0, 0)))] F
    (fun _ => [(0, (.string (strB S))), (2, (pt (nb ρ1 0))), (19, (.int .i64 (((S).length : Nat) : Int))), (20, (.int .i64 ((i : Nat) : Int))), (32, (.bool true))])
    (fun _ => [(nb ρ1 0, (.cells (cU 0) 24 (0, 0)))]) := by
  refine reg_seq [0, 1, 3, 7, 15, 31, 63, 127, 255, 511] [0, 2, 19, 20, 32] 10
    (fun _ ι => ([(.string (strB S)), (.int .i64 ((i : Nat) : Int)), (.int .u8 ((gB S i : Nat) : Int)), (.bool true), (.bool true), undef, undef, undef, undef, (.bool true)] : List Value).getD ι undef)
    (fun _ ι => ([{}, {}, {}, {}, {}, {}, {}, {}, {}, {}] : List Eff).getD ι {})
    (by kernel_rfl) (by kernel_rfl) (fun _ => by kernel_rfl) (fun _ => by kernel_rfl) ⟨⟨⟨⟨⟨⟨⟨⟨⟨⟨trivial, ?_⟩, ?_⟩, ?_⟩, ?_⟩, ?_⟩, ?_⟩, ?_⟩, ?_⟩, ?_⟩, ?_⟩
  · exact o_run 0 [] [] (fun _ _ => []) (fun _ _ => by kernel_rfl)
  · exact o_run 1 [] [] (fun _ _ => []) (fun _ _ => by kernel_rfl)
  · exact o_sem 2 (fun _ => do pure (Next.value (← Instr.index 9 (.string (strB S)) (.int .i64 ((i : Nat) : Int))))) (fun _ => (.int .u8 ((gB S i : Nat) : Int))) (fun _ => (by kernel_rfl)) (fun _ => (by kernel_rfl)) (fun _ w => idx_str (S := S) Try.underlying9 ((show ((i : Nat) : Int) = ((i : Nat) : Int) ∧ i < (S).length from ⟨rfl, (by have := of_decide_eq_false hb1; have := of_decide_eq_false hb2; have := of_decide_eq_true hb3; have := of_decide_eq_true hb4; have := hi; omega)⟩)).1 ((show ((i : Nat) : Int) = ((i : Nat) : Int) ∧ i < (S).length from ⟨rfl, (by have := of_decide_eq_false hb1; have := of_decide_eq_false hb2; have := of_decide_eq_true hb3; have := of_decide_eq_true hb4; have := hi; omega)⟩)).2 w)
  · exact o_as 3 (fun _ => (.bool (decide (((gB S i : Nat) : Int) < 48)))) (fun _ => (.bool true)) (fun _ _ => by kernel_rfl) (fun _ => congrArg Value.bool hb4)
  · exact o_run 4 [] [] (fun _ _ => []) (fun _ _ => by kernel_rfl)
  · exact o_skip 5 (fun _ => by kernel_rfl)
  · exact o_skip 6 (fun _ => by kernel_rfl)
  · exact o_skip 7 (fun _ => by kernel_rfl)
  · exact o_skip 8 (fun _ => by kernel_rfl)
  · exact o_run 9 [] [] (fun _ _ => []) (fun _ _ => by kernel_rfl)
theorem parse_any_r10 (S : List UInt8) (i : Nat) (ρ1 : Nat → Orc) (w0 : World) (F : World → Prop) : Reg Try.prog 9 (regOps Try.f39 9) false 67 [(0, (.string (strB S))), (2, (pt (nb ρ1 0))), (19, (.int .i64 (((S).length : Nat) : Int))), (20, (.int .i64 ((i : Nat) : Int))), (32, (.bool true))] w0 [(nb ρ1 0, (.cells (cU 0) 24 (0, 0)))] F
    (fun _ => [(0, (.string (strB S))), (2, (pt (nb ρ1 0))), (3, (.int .i64 7)), (19, (.int .i64 (((S).length : Nat) : Int))), (20, (.int .i64 ((i : Nat) : Int)))])
    (fun _ => [(nb ρ1 0, (.cells (cU 0) 24 (0, 0)))]) := by
  refine reg_seq [0, 1, 3] [0, 2, 3, 19, 20] 3
    (fun _ ι => ([(U 0), undef, (.int .i64 7)] : List Value).getD ι undef)
    (fun _ ι => ([{}, { puts := [(0, (.cells (cU 0) 24 (0, 0)))] }, {}] : List Eff).getD ι {})
    (by kernel_rfl) (by kernel_rfl) (fun _ => by kernel_rfl) (fun _ => by kernel_rfl) ⟨⟨⟨trivial, ?_⟩, ?_⟩, ?_⟩
  · exact o_run 0 [] [] (fun _ _ => []) (fun _ _ => by kernel_rfl)
  · exact o_run 1 [0] [] (fun _ _ => [nb ρ1 0, nb ρ1 0, nb ρ1 0, nb ρ1 0]) (fun _ _ => by kernel_rfl)
  · exact o_run 2 [] [] (fun _ _ => []) (fun _ _ => by kernel_rfl)
theorem parse_any_r11 (S : List UInt8) (hb1 : (decide (100 < (((S).length : Nat) : Int))) = false) (hb2 : (decide (S = ([] : List UInt8))) = false) (i : Nat) (hi : i ≤ S.length) (hb3 : (decide (((i : Nat) : Int) < (((S).length : Nat) : Int))) = true) (hb4 : (decide (((gB S i : Nat) : Int) < 48)) = false) (ρ1 : Nat → Orc) (w0 : World) (F : World → Prop) : Reg Try.prog 8 (regOps Try.f39 8) false 67 [(0, (.string (strB S))), (2, (pt (nb ρ1 0))), (4, (.int .i64 ((i : Nat) : Int))), (19, (.int .i64 (((S).length : Nat) : Int))), (20, (.int .i64 ((i : Nat) : Int)))] w0 [(nb ρ1 0, (.cells (cU 0) 24 (0, 0)))] F
    (fun _ => [(0, (.string (strB S))), (2, (pt (nb ρ1 0))), (19, (.int .i64 (((S).length : Nat) : Int))), (20, (.int .i64 ((i : Nat) : Int))), (32, (.bool (decide (57 < ((gB S i : Nat) : Int)))))])
    (fun _ => [(nb ρ1 0, (.cells (cU 0) 24 (0, 0)))]) := by
  refine reg_seq [0, 1, 3, 7, 15, 31, 63, 127, 255, 511] [0, 2, 19, 20, 32] 10
    (fun _ ι => ([(.string (strB S)), (.int .i64 ((i : Nat) : Int)), (.int .u8 ((gB S i : Nat) : Int)), (.bool false), (.bool false), (.string (strB S)), (.int .i64 ((i : Nat) : Int)), (.int .u8 ((gB S i : Nat) : Int)), (.bool (decide (57 < ((gB S i : Nat) : Int)))), (.bool (decide (57 < ((gB S i : Nat) : Int))))] : List Value).getD ι undef)
    (fun _ ι => ([{}, {}, {}, {}, {}, {}, {}, {}, {}, {}] : List Eff).getD ι {})
    (by kernel_rfl) (by kernel_rfl) (fun _ => by kernel_rfl) (fun _ => by kernel_rfl) ⟨⟨⟨⟨⟨⟨⟨⟨⟨⟨trivial, ?_⟩, ?_⟩, ?_⟩, ?_⟩, ?_⟩, ?_⟩, ?_⟩, ?_⟩, ?_⟩, ?_⟩
  · exact o_run 0 [] [] (fun _ _ => []) (fun _ _ => by kernel_rfl)
  · exact o_run 1 [] [] (fun _ _ => []) (fun _ _ => by kernel_rfl)
  · exact o_sem 2 (fun _ => do pure (Next.value (← Instr.index 9 (.string (strB S)) (.int .i64 ((i : Nat) : Int))))) (fun _ => (.int .u8 ((gB S i : Nat) : Int))) (fun _ => (by kernel_rfl)) (fun _ => (by kernel_rfl)) (fun _ w => idx_str (S := S) Try.underlying9 ((show ((i : Nat) : Int) = ((i : Nat) : Int) ∧ i < (S).length from ⟨rfl, (by have := of_decide_eq_false hb1; have := of_decide_eq_false hb2; have := of_decide_eq_true hb3; have := of_decide_eq_false hb4; have := hi; omega)⟩)).1 ((show ((i : Nat) : Int) = ((i : Nat) : Int) ∧ i < (S).length from ⟨rfl, (by have := of_decide_eq_false hb1; have := of_decide_eq_false hb2; have := of_decide_eq_true hb3; have := of_decide_eq_false hb4; have := hi; omega)⟩)).2 w)
  · exact o_as 3 (fun _ => (.bool (decide (((gB S i : Nat) : Int) < 48)))) (fun _ => (.bool false)) (fun _ _ => by kernel_rfl) (fun _ => congrArg Value.bool hb4)
  · exact o_run 4 [] [] (fun _ _ => []) (fun _ _ => by kernel_rfl)
  · exact o_run 5 [] [] (fun _ _ => []) (fun _ _ => by kernel_rfl)
  · exact o_run 6 [] [] (fun _ _ => []) (fun _ _ => by kernel_rfl)
  · exact o_sem 7 (fun _ => do pure (Next.value (← Instr.index 9 (.string (strB S)) (.int .i64 ((i : Nat) : Int))))) (fun _ => (.int .u8 ((gB S i : Nat) : Int))) (fun _ => (by kernel_rfl)) (fun _ => (by kernel_rfl)) (fun _ w => idx_str (S := S) Try.underlying9 ((show ((i : Nat) : Int) = ((i : Nat) : Int) ∧ i < (S).length from ⟨rfl, (by have := of_decide_eq_false hb1; have := of_decide_eq_false hb2; have := of_decide_eq_true hb3; have := of_decide_eq_false hb4; have := hi; omega)⟩)).1 ((show ((i : Nat) : Int) = ((i : Nat) : Int) ∧ i < (S).length from ⟨rfl, (by have := of_decide_eq_false hb1; have := of_decide_eq_false hb2; have := of_decide_eq_true hb3; have := of_decide_eq_false hb4; have := hi; omega)⟩)).2 w)
  · exact o_run 8 [] [] (fun _ _ => []) (fun _ _ => by kernel_rfl)
  · exact o_run 9 [] [] (fun _ _ => []) (fun _ _ => by kernel_rfl)
theorem parse_any_r12 (S : List UInt8) (i : Nat) (ρ1 : Nat → Orc) (w0 : World) (F : World → Prop) : Reg Try.prog 9 (regOps Try.f39 9) false 67 [(0, (.string (strB S))), (2, (pt (nb ρ1 0))), (19, (.int .i64 (((S).length : Nat) : Int))), (20, (.int .i64 ((i : Nat) : Int))), (32, (.bool true))] w0 [(nb ρ1 0, (.cells (cU 0) 24 (0, 0)))] F
    (fun _ => [(0, (.string (strB S))), (2, (pt (nb ρ1 0))), (3, (.int .i64 7)), (19, (.int .i64 (((S).length : Nat) : Int))), (20, (.int .i64 ((i : Nat) : Int)))])
    (fun _ => [(nb ρ1 0, (.cells (cU 0) 24 (0, 0)))]) := by
  refine reg_seq [0, 1, 3] [0, 2, 3, 19, 20] 3
    (fun _ ι => ([(U 0), undef, (.int .i64 7)] : List Value).getD ι undef)
    (fun _ ι => ([{}, { puts := [(0, (.cells (cU 0) 24 (0, 0)))] }, {}] : List Eff).getD ι {})
    (by kernel_rfl) (by kernel_rfl) (fun _ => by kernel_rfl) (fun _ => by kernel_rfl) ⟨⟨⟨trivial, ?_⟩, ?_⟩, ?_⟩
  · exact o_run 0 [] [] (fun _ _ => []) (fun _ _ => by kernel_rfl)
  · exact o_run 1 [0] [] (fun _ _ => [nb ρ1 0, nb ρ1 0, nb ρ1 0, nb ρ1 0]) (fun _ _ => by kernel_rfl)
  · exact o_run 2 [] [] (fun _ _ => []) (fun _ _ => by kernel_rfl)
theorem parse_any_r13 (S : List UInt8) (hb1 : (decide (100 < (((S).length : Nat) : Int))) = false) (hb2 : (decide (S = ([] : List UInt8))) = false) (i : Nat) (hi : i ≤ S.length) (hb3 : (decide (((i : Nat) : Int) < (((S).length : Nat) : Int))) = true) (hb4 : (decide (((gB S i : Nat) : Int) < 48)) = false) (hb5 : (decide (57 < ((gB S i : Nat) : Int))) = false) (ρ1 : Nat → Orc) (w0 : World) (F : World → Prop) : Reg Try.prog 10 (regOps Try.f39 10) false 67 [(0, (.string (strB S))), (2, (pt (nb ρ1 0))), (19, (.int .i64 (((S).length : Nat) : Int))), (20, (.int .i64 ((i : Nat) : Int))), (32, (.bool false))] w0 [(nb ρ1 0, (.cells (cU 0) 24 (0, 0)))] F
    (fun _ => [(0, (.string (strB S))), (2, (pt (nb ρ1 0))), (19, (.int .i64 (((S).length : Nat) : Int))), (20, (.int .i64 ((i + 1 : Nat) : Int)))])
    (fun _ => [(nb ρ1 0, (.cells (cU 0) 24 (0, 0)))]) := by
  refine reg_seq [0, 1] [0, 2, 19, 20] 2
    (fun _ ι => ([(.int .i64 ((i + 1 : Nat) : Int)), (.int .i64 ((i + 1 : Nat) : Int))] : List Value).getD ι undef)
    (fun _ ι => ([{}, {}] : List Eff).getD ι {})
    (by kernel_rfl) (by kernel_rfl) (fun _ => by kernel_rfl) (fun _ => by kernel_rfl) ⟨⟨trivial, ?_⟩, ?_⟩
  · exact o_as 0 (fun _ => (.int .i64 (IntKind.i64.wrap (((i : Nat) : Int) + 1)))) (fun _ => (.int .i64 ((i + 1 : Nat) : Int))) (fun _ _ => by kernel_rfl) (fun _ => congrArg (Value.int .i64) (wrap_addN i 1 (by have := of_decide_eq_false hb1; have := of_decide_eq_false hb2; have := of_decide_eq_true hb3; have := of_decide_eq_false hb4; have := of_decide_eq_false hb5; have := hi; omega)))
  · exact o_run 1 [] [] (fun _ _ => []) (fun _ _ => by kernel_rfl)
theorem parse_any_r14 (S : List UInt8) (i : Nat) (ρ1 : Nat → Orc) (w0 : World) (F : World → Prop) : Reg Try.prog 11 (regOps Try.f39 11) false 67 [(0, (.string (strB S))), (2, (pt (nb ρ1 0))), (19, (.int .i64 (((S).length : Nat) : Int))), (20, (.int .i64 ((i : Nat) : Int))), (21, (.bool false))] w0 [(nb ρ1 0, (.cells (cU 0) 24 (0, 0)))] F
    (fun ρ => [(0, (.string (strB S))), (2, (pt (nb ρ1 0))), (5, (pt (nb ρ 0)))])
    (fun ρ => [(nb ρ1 0, (.cells (cU 0) 24 (0, 0))), (nb ρ 0, (.cells (cU 0) 24 (0, 0)))]) := by
  refine reg_seq [0] [0, 2, 5] 1
    (fun ρ ι => ([(pt (nb ρ 0))] : List Value).getD ι undef)
    (fun ρ ι => ([{ news := [(nb ρ 0, (.cells (cU 0) 24 (0, 0)))] }] : List Eff).getD ι {})
    (by kernel_rfl) (by kernel_rfl) (fun _ => by kernel_rfl) (fun _ => by kernel_rfl) ⟨trivial, ?_⟩
  · exact o_run 0 [] [] (fun _ _ => []) (fun _ _ => by kernel_rfl)
theorem parse_any_r15 (S : List UInt8) (ρ1 : Nat → Orc) (ρ14 : Nat → Orc) (w0 : World) (F : World → Prop) : Reg Try.prog 12 (regOps Try.f39 12) false 67 [(0, (.string (strB S))), (2, (pt (nb ρ1 0))), (5, (pt (nb ρ14 0)))] w0 [(nb ρ1 0, (.cells (cU 0) 24 (0, 0))), (nb ρ14 0, (.cells (cU 0) 24 (0, 0)))] F
    (fun _ => [(0, (.string (strB S))), (2, (pt (nb ρ1 0))), (5, (pt (nb ρ14 0))), (36, (.int .i64 (((S).length : Nat) : Int))), (37, (.int .i64 0))])
    (fun _ => [(nb ρ1 0, (.cells (cU 0) 24 (0, 0))), (nb ρ14 0, (.cells (cU 0) 24 (0, 0)))]) := by
  refine reg_seq [0, 1, 3] [0, 2, 5, 36, 37] 3
    (fun _ ι => ([(.string (strB S)), (.int .i64 (((S).length : Nat) : Int)), (.int .i64 0)] : List Value).getD ι undef)
    (fun _ ι => ([{}, {}, {}] : List Eff).getD ι {})
    (by kernel_rfl) (by kernel_rfl) (fun _ => by kernel_rfl) (fun _ => by kernel_rfl) ⟨⟨⟨trivial, ?_⟩, ?_⟩, ?_⟩
  · exact o_run 0 [] [] (fun _ _ => []) (fun _ _ => by kernel_rfl)
  · exact o_run 1 [] [] (fun _ _ => []) (fun _ _ => by kernel_rfl)
  · exact o_run 2 [] [] (fun _ _ => []) (fun _ _ => by kernel_rfl)
theorem parse_any_r16 (S : List UInt8) (j : Nat) (a : Nat) (ρ1 : Nat → Orc) (ρ14 : Nat → Orc) (w0 : World) (F : World → Prop) : Reg Try.prog 13 (regOps Try.f39 13) false 67 [(0, (.string (strB S))), (2, (pt (nb ρ1 0))), (5, (pt (nb ρ14 0))), (36, (.int .i64 (((S).length : Nat) : Int))), (37, (.int .i64 ((j : Nat) : Int)))] w0 [(nb ρ1 0, (.cells (cU 0) 24 (0, 0))), (nb ρ14 0, (.cells (cU a) 24 (0, 0)))] F
    (fun _ => [(0, (.string (strB S))), (2, (pt (nb ρ1 0))), (5, (pt (nb ρ14 0))), (36, (.int .i64 (((S).length : Nat) : Int))), (37, (.int .i64 ((j : Nat) : Int))), (38, (.bool (decide (((j : Nat) : Int) < (((S).length : Nat) : Int)))))])
    (fun _ => [(nb ρ1 0, (.cells (cU 0) 24 (0, 0))), (nb ρ14 0, (.cells (cU a) 24 (0, 0)))]) := by
  refine reg_seq [0] [0, 2, 5, 36, 37, 38] 1
    (fun _ ι => ([(.bool (decide (((j : Nat) : Int) < (((S).length : Nat) : Int))))] : List Value).getD ι undef)
    (fun _ ι => ([{}] : List Eff).getD ι {})
    (by kernel_rfl) (by kernel_rfl) (fun _ => by kernel_rfl) (fun _ => by kernel_rfl) ⟨trivial, ?_⟩
  · exact o_run 0 [] [] (fun _ _ => []) (fun _ _ => by kernel_rfl)
theorem parse_any_r17 (S : List UInt8) (j : Nat) (a : Nat) (ρ1 : Nat → Orc) (ρ14 : Nat → Orc) (w0 : World) (F : World → Prop) : Reg Try.prog 14 (regOps Try.f39 14) false 67 [(0, (.string (strB S))), (2, (pt (nb ρ1 0))), (5, (pt (nb ρ14 0))), (36, (.int .i64 (((S).length : Nat) : Int))), (37, (.int .i64 ((j : Nat) : Int))), (38, (.bool true))] w0 [(nb ρ1 0, (.cells (cU 0) 24 (0, 0))), (nb ρ14 0, (.cells (cU a) 24 (0, 0)))] F
    (fun _ => [(0, (.string (strB S))), (2, (pt (nb ρ1 0))), (5, (pt (nb ρ14 0))), (6, (.int .i64 ((j : Nat) : Int))), (36, (.int .i64 (((S).length : Nat) : Int))), (37, (.int .i64 ((j : Nat) : Int)))])
    (fun _ => [(nb ρ1 0, (.cells (cU 0) 24 (0, 0))), (nb ρ14 0, (.cells (cU a) 24 (0, 0)))]) := by
  refine reg_seq [0, 1] [0, 2, 5, 6, 36, 37] 2
    (fun _ ι => ([(.int .i64 ((j : Nat) : Int)), (.int .i64 ((j : Nat) : Int))] : List Value).getD ι undef)
    (fun _ ι => ([{}, {}] : List Eff).getD ι {})
    (by kernel_rfl) (by kernel_rfl) (fun _ => by kernel_rfl) (fun _ => by kernel_rfl) ⟨⟨trivial, ?_⟩, ?_⟩
  · exact o_run 0 [] [] (fun _ _ => []) (fun _ _ => by kernel_rfl)
  · exact o_run 1 [] [] (fun _ _ => []) (fun _ _ => by kernel_rfl)
theorem parse_any_r18 (S : List UInt8) (j : Nat) (a : Nat) (haM : a < M) (ρ1 : Nat → Orc) (ρ14 : Nat → Orc) (w0 : World) (F : World → Prop) : Reg Try.prog 15 (regOps Try.f39 15) true 67 [(0, (.string (strB S))), (2, (pt (nb ρ1 0))), (5, (pt (nb ρ14 0))), (6, (.int .i64 ((j : Nat) : Int))), (36, (.int .i64 (((S).length : Nat) : Int))), (37, (.int .i64 ((j : Nat) : Int)))] w0 [(nb ρ1 0, (.cells (cU 0) 24 (0, 0))), (nb ρ14 0, (.cells (cU a) 24 (0, 0)))] F
    (fun ρ => [(0, (.string (strB S))), (2, (pt (nb ρ1 0))), (5, (pt (nb ρ14 0))), (6, (.int .i64 ((j : Nat) : Int))), (7, (pt (nb ρ 6))), (8, (pt (nb ρ 7))), (36, (.int .i64 (((S).length : Nat) : Int))), (37, (.int .i64 ((j : Nat) : Int)))])
    (fun ρ => [(nb ρ1 0, (.cells (cU 0) 24 (0, 0))), (nb ρ14 0, (.cells (cU a) 24 (0, 0))), (nb ρ 6, (.cells (cU ((a * 10) / M)) 24 (0, 0))), (nb ρ 7, (.cells (cU ((a * 10) % M)) 24 (0, 0)))]) := by
  refine reg_drawn [0, 0, 3, 7, 15, 15, 0, 0, 223, 511] [0, 2, 5, 6, 7, 8, 36, 37] 10
    (fun ρ ι => ([(U a), (U 10), (.tuple #[(U ((a * 10) / M)), (U ((a * 10) % M))]), (.tuple #[(U ((a * 10) / M)), (U ((a * 10) % M))]), (U ((a * 10) / M)), (U ((a * 10) % M)), (pt (nb ρ 6)), (pt (nb ρ 7)), undef, undef] : List Value).getD ι undef)
    (fun ρ ι => ([{}, {}, {}, {}, {}, {}, { news := [(nb ρ 6, (.cells (cU 0) 24 (0, 0)))] }, { news := [(nb ρ 7, (.cells (cU 0) 24 (0, 0)))] }, { puts := [(50, (.cells (cU ((a * 10) / M)) 24 (0, 0)))] }, { puts := [(58, (.cells (cU ((a * 10) % M)) 24 (0, 0)))] }] : List Eff).getD ι {})
    (by kernel_rfl) (by kernel_rfl) (by kernel_rfl) (fun _ => by kernel_rfl) (fun _ => by kernel_rfl) ⟨⟨⟨⟨⟨⟨⟨⟨⟨⟨trivial, ?_⟩, ?_⟩, ?_⟩, ?_⟩, ?_⟩, ?_⟩, ?_⟩, ?_⟩, ?_⟩, ?_⟩
  · exact o_run 0 [1] [] (fun _ _ => [nb ρ14 0, nb ρ14 0, nb ρ14 0, nb ρ14 0]) (fun _ _ => by kernel_rfl)
  · exact o_call 1 20 (fun _ => #[(.int .u64 10)]) (fun _ => (U 10)) (fun _ _ => by kernel_rfl) (fun _ w => (fun w => fromuint_lit 10 w (by decide)) w)
  · exact o_call 2 35 (fun _ => #[(U a), (U 10)]) (fun _ => (.tuple #[(U ((a * 10) / M)), (U ((a * 10) % M))])) (fun _ _ => by kernel_rfl) (fun _ w => (fun w => mul_any a 10 w haM (by decide +kernel)) w)
  · exact o_run 3 [] [] (fun _ _ => []) (fun _ _ => by kernel_rfl)
  · exact o_run 4 [] [] (fun _ _ => []) (fun _ _ => by kernel_rfl)
  · exact o_run 5 [] [] (fun _ _ => []) (fun _ _ => by kernel_rfl)
  · exact o_run 6 [] [] (fun _ _ => []) (fun _ _ => by kernel_rfl)
  · exact o_run 7 [] [] (fun _ _ => []) (fun _ _ => by kernel_rfl)
  · exact o_run 8 [50] [] (fun ρ _ => [nb ρ 6, nb ρ 6, nb ρ 6, nb ρ 6]) (fun _ _ => by kernel_rfl)
  · exact o_run 9 [58] [] (fun ρ _ => [nb ρ 7, nb ρ 7, nb ρ 7, nb ρ 7]) (fun _ _ => by kernel_rfl)
theorem parse_any_r19 (S : List UInt8) (hb1 : (decide (100 < (((S).length : Nat) : Int))) = false) (hb2 : (decide (S = ([] : List UInt8))) = false) (i : Nat) (hi : i ≤ S.length) (hb3 : (decide (((i : Nat) : Int) < (((S).length : Nat) : Int))) = false) (j : Nat) (a : Nat) (hj : j ≤ S.length) (hA : allD S S.length) (hb6 : (decide (((j : Nat) : Int) < (((S).length : Nat) : Int))) = true) (ρ1 : Nat → Orc) (ρ14 : Nat → Orc) (ρ18 : Nat → Orc) (w0 : World) (F : World → Prop) : Reg Try.prog 16 (regOps Try.f39 16) true 67 [(0, (.string (strB S))), (2, (pt (nb ρ1 0))), (5, (pt (nb ρ14 0))), (6, (.int .i64 ((j : Nat) : Int))), (7, (pt (nb ρ18 6))), (8, (pt (nb ρ18 7))), (36, (.int .i64 (((S).length : Nat) : Int))), (37, (.int .i64 ((j : Nat) : Int)))] w0 [(nb ρ1 0, (.cells (cU 0) 24 (0, 0))), (nb ρ14 0, (.cells (cU a) 24 (0, 0))), (nb ρ18 6, (.cells (cU ((a * 10) / M)) 24 (0, 0))), (nb ρ18 7, (.cells (cU ((a * 10) % M)) 24 (0, 0)))] F
    (fun ρ => [(0, (.string (strB S))), (2, (pt (nb ρ1 0))), (5, (pt (nb ρ14 0))), (7, (pt (nb ρ18 6))), (9, (pt (nb ρ 11))), (10, (.bool (decide (M ≤ ((a * 10) % M) + (dV S j))))), (36, (.int .i64 (((S).length : Nat) : Int))), (37, (.int .i64 ((j : Nat) : Int)))])
    (fun ρ => [(nb ρ1 0, (.cells (cU 0) 24 (0, 0))), (nb ρ14 0, (.cells (cU a) 24 (0, 0))), (nb ρ18 6, (.cells (cU ((a * 10) / M)) 24 (0, 0))), (nb ρ18 7, (.cells (cU ((a * 10) % M)) 24 (0, 0))), (nb ρ 11, (.cells (cU ((((a * 10) % M) + (dV S j)) % M)) 24 (0, 0)))]) := by
  refine reg_drawn [0, 0, 0, 6, 14, 30, 62, 127, 255, 511, 511, 0, 3071, 8191] [0, 2, 5, 7, 9, 10, 36, 37] 14
    (fun ρ ι => ([(U ((a * 10) % M)), (.string (strB S)), (.int .i64 ((j : Nat) : Int)), (.int .u8 ((gB S j : Nat) : Int)), (.int .u8 ((dV S j : Nat) : Int)), (.int .u64 ((dV S j : Nat) : Int)), (U (dV S j)), (.tuple #[(U ((((a * 10) % M) + (dV S j)) % M)), (.bool (decide (M ≤ ((a * 10) % M) + (dV S j))))]), (.tuple #[(U ((((a * 10) % M) + (dV S j)) % M)), (.bool (decide (M ≤ ((a * 10) % M) + (dV S j))))]), (U ((((a * 10) % M) + (dV S j)) % M)), (.bool (decide (M ≤ ((a * 10) % M) + (dV S j)))), (pt (nb ρ 11)), undef, (.bool (decide (M ≤ ((a * 10) % M) + (dV S j))))] : List Value).getD ι undef)
    (fun ρ ι => ([{}, {}, {}, {}, {}, {}, {}, {}, {}, {}, {}, { news := [(nb ρ 11, (.cells (cU 0) 24 (0, 0)))] }, { puts := [(92, (.cells (cU ((((a * 10) % M) + (dV S j)) % M)) 24 (0, 0)))] }, {}] : List Eff).getD ι {})
    (by kernel_rfl) (by kernel_rfl) (by kernel_rfl) (fun _ => by kernel_rfl) (fun _ => by kernel_rfl) ⟨⟨⟨⟨⟨⟨⟨⟨⟨⟨⟨⟨⟨⟨trivial, ?_⟩, ?_⟩, ?_⟩, ?_⟩, ?_⟩, ?_⟩, ?_⟩, ?_⟩, ?_⟩, ?_⟩, ?_⟩, ?_⟩, ?_⟩, ?_⟩
  · exact o_run 0 [3] [] (fun _ _ => [nb ρ18 7, nb ρ18 7, nb ρ18 7, nb ρ18 7]) (fun _ _ => by kernel_rfl)
  · exact o_run 1 [] [] (fun _ _ => []) (fun _ _ => by kernel_rfl)
  · exact o_run 2 [] [] (fun _ _ => []) (fun _ _ => by kernel_rfl)
  · exact o_sem 3 (fun _ => do pure (Next.value (← Instr.index 9 (.string (strB S)) (.int .i64 ((j : Nat) : Int))))) (fun _ => (.int .u8 ((gB S j : Nat) : Int))) (fun _ => (by kernel_rfl)) (fun _ => (by kernel_rfl)) (fun _ w => idx_str (S := S) Try.underlying9 ((show ((j : Nat) : Int) = ((j : Nat) : Int) ∧ j < (S).length from ⟨rfl, (by have := of_decide_eq_false hb1; have := of_decide_eq_false hb2; have := of_decide_eq_false hb3; have := of_decide_eq_true hb6; have := hi; have := hj; omega)⟩)).1 ((show ((j : Nat) : Int) = ((j : Nat) : Int) ∧ j < (S).length from ⟨rfl, (by have := of_decide_eq_false hb1; have := of_decide_eq_false hb2; have := of_decide_eq_false hb3; have := of_decide_eq_true hb6; have := hi; have := hj; omega)⟩)).2 w)
  · exact o_as 4 (fun _ => (.int .u8 (IntKind.u8.wrap (((gB S j : Nat) : Int) - 48)))) (fun _ => (.int .u8 ((dV S j : Nat) : Int))) (fun _ _ => by kernel_rfl) (fun _ => congrArg (Value.int .u8) (dV_wrap (hA j (by have := of_decide_eq_false hb1; have := of_decide_eq_false hb2; have := of_decide_eq_false hb3; have := of_decide_eq_true hb6; have := hi; have := hj; omega))))
  · exact o_as 5 (fun _ => (.int .u64 (IntKind.u64.wrap (((dV S j : Nat) : Int))))) (fun _ => (.int .u64 ((dV S j : Nat) : Int))) (fun _ _ => by kernel_rfl) (fun _ => congrArg (Value.int .u64) (u64N (dV_W (hA j (by have := of_decide_eq_false hb1; have := of_decide_eq_false hb2; have := of_decide_eq_false hb3; have := of_decide_eq_true hb6; have := hi; have := hj; omega)))))
  · exact o_call 6 20 (fun _ => #[(.int .u64 ((dV S j : Nat) : Int))]) (fun _ => (U (dV S j))) (fun _ _ => by kernel_rfl) (fun _ w => (fun w => fromuint_lit (dV S j) w (dV_W (hA j (by have := of_decide_eq_false hb1; have := of_decide_eq_false hb2; have := of_decide_eq_false hb3; have := of_decide_eq_true hb6; have := hi; have := hj; omega)))) w)
  · exact o_call 7 32 (fun _ => #[(U ((a * 10) % M)), (U (dV S j))]) (fun _ => (.tuple #[(U ((((a * 10) % M) + (dV S j)) % M)), (.bool (decide (M ≤ ((a * 10) % M) + (dV S j))))])) (fun _ _ => by kernel_rfl) (fun _ w => (fun w => add_any ((a * 10) % M) (dV S j) w (modM_lt _) (dV_M (hA j (by have := of_decide_eq_false hb1; have := of_decide_eq_false hb2; have := of_decide_eq_false hb3; have := of_decide_eq_true hb6; have := hi; have := hj; omega)))) w)
  · exact o_run 8 [] [] (fun _ _ => []) (fun _ _ => by kernel_rfl)
  · exact o_run 9 [] [] (fun _ _ => []) (fun _ _ => by kernel_rfl)
  · exact o_run 10 [] [] (fun _ _ => []) (fun _ _ => by kernel_rfl)
  · exact o_run 11 [] [] (fun _ _ => []) (fun _ _ => by kernel_rfl)
  · exact o_run 12 [92] [] (fun ρ _ => [nb ρ 11, nb ρ 11, nb ρ 11, nb ρ 11]) (fun _ _ => by kernel_rfl)
  · exact o_run 13 [] [] (fun _ _ => []) (fun _ _ => by kernel_rfl)
theorem parse_any_r20 (S : List UInt8) (j : Nat) (a : Nat) (haM : a < M) (hb7 : (decide ((a * 10) / M = 0)) = true) (ρ1 : Nat → Orc) (ρ14 : Nat → Orc) (ρ18 : Nat → Orc) (ρ19 : Nat → Orc) (w0 : World) (F : World → Prop) : Reg Try.prog 17 (regOps Try.f39 17) false 67 [(0, (.string (strB S))), (2, (pt (nb ρ1 0))), (5, (pt (nb ρ14 0))), (7, (pt (nb ρ18 6))), (9, (pt (nb ρ19 11))), (10, (.bool (decide (M ≤ ((a * 10) % M) + (dV S j))))), (36, (.int .i64 (((S).length : Nat) : Int))), (37, (.int .i64 ((j : Nat) : Int)))] w0 [(nb ρ1 0, (.cells (cU 0) 24 (0, 0))), (nb ρ14 0, (.cells (cU a) 24 (0, 0))), (nb ρ18 6, (.cells (cU ((a * 10) / M)) 24 (0, 0))), (nb ρ18 7, (.cells (cU ((a * 10) % M)) 24 (0, 0))), (nb ρ19 11, (.cells (cU ((((a * 10) % M) + (dV S j)) % M)) 24 (0, 0)))] F
    (fun _ => [(0, (.string (strB S))), (2, (pt (nb ρ1 0))), (5, (pt (nb ρ14 0))), (9, (pt (nb ρ19 11))), (36, (.int .i64 (((S).length : Nat) : Int))), (37, (.int .i64 ((j : Nat) : Int))), (62, (.bool (decide (M ≤ ((a * 10) % M) + (dV S j)))))])
    (fun _ => [(nb ρ1 0, (.cells (cU 0) 24 (0, 0))), (nb ρ14 0, (.cells (cU a) 24 (0, 0))), (nb ρ18 6, (.cells (cU ((a * 10) / M)) 24 (0, 0))), (nb ρ18 7, (.cells (cU ((a * 10) % M)) 24 (0, 0))), (nb ρ19 11, (.cells (cU ((((a * 10) % M) + (dV S j)) % M)) 24 (0, 0)))]) := by
  refine reg_seq [0, 1, 3, 7, 15, 31] [0, 2, 5, 9, 36, 37, 62] 6
    (fun _ ι => ([(U ((a * 10) / M)), (U 0), (.bool false), (.bool false), (.bool (decide (M ≤ ((a * 10) % M) + (dV S j)))), (.bool (decide (M ≤ ((a * 10) % M) + (dV S j))))] : List Value).getD ι undef)
    (fun _ ι => ([{}, {}, {}, {}, {}, {}] : List Eff).getD ι {})
    (by kernel_rfl) (by kernel_rfl) (fun _ => by kernel_rfl) (fun _ => by kernel_rfl) ⟨⟨⟨⟨⟨⟨trivial, ?_⟩, ?_⟩, ?_⟩, ?_⟩, ?_⟩, ?_⟩
  · exact o_run 0 [2] [] (fun _ _ => [nb ρ18 6, nb ρ18 6, nb ρ18 6, nb ρ18 6]) (fun _ _ => by kernel_rfl)
  · exact o_run 1 [] [] (fun _ _ => []) (fun _ _ => by kernel_rfl)
  · exact o_bin 2 .neq 24 (fun _ => (U ((a * 10) / M))) (fun _ => (U 0)) (fun _ => (.bool false)) (fun _ => by kernel_rfl) (fun _ _ _ _ => by kernel_rfl) (fun _ _ => (neqU ((a * 10) / M) 0 (mulhi_lt haM (by decide +kernel)) (by decide +kernel) _).trans (by rw [hb7]; try rfl))
  · exact o_run 3 [] [] (fun _ _ => []) (fun _ _ => by kernel_rfl)
  · exact o_run 4 [] [] (fun _ _ => []) (fun _ _ => by kernel_rfl)
  · exact o_run 5 [] [] (fun _ _ => []) (fun _ _ => by kernel_rfl)
theorem parse_any_r21 (S : List UInt8) (j : Nat) (a : Nat) (ρ1 : Nat → Orc) (ρ14 : Nat → Orc) (ρ18 : Nat → Orc) (ρ19 : Nat → Orc) (w0 : World) (F : World → Prop) : Reg Try.prog 18 (regOps Try.f39 18) false 67 [(0, (.string (strB S))), (2, (pt (nb ρ1 0))), (5, (pt (nb ρ14 0))), (9, (pt (nb ρ19 11))), (36, (.int .i64 (((S).length : Nat) : Int))), (37, (.int .i64 ((j : Nat) : Int))), (62, (.bool true))] w0 [(nb ρ1 0, (.cells (cU 0) 24 (0, 0))), (nb ρ14 0, (.cells (cU a) 24 (0, 0))), (nb ρ18 6, (.cells (cU ((a * 10) / M)) 24 (0, 0))), (nb ρ18 7, (.cells (cU ((a * 10) % M)) 24 (0, 0))), (nb ρ19 11, (.cells (cU ((((a * 10) % M) + (dV S j)) % M)) 24 (0, 0)))] F
    (fun _ => [(0, (.string (strB S))), (2, (pt (nb ρ1 0))), (3, (.int .i64 5)), (5, (pt (nb ρ14 0))), (9, (pt (nb ρ19 11))), (36, (.int .i64 (((S).length : Nat) : Int))), (37, (.int .i64 ((j : Nat) : Int)))])
    (fun _ => [(nb ρ1 0, (.cells (cU 0) 24 (0, 0))), (nb ρ14 0, (.cells (cU a) 24 (0, 0))), (nb ρ18 6, (.cells (cU ((a * 10) / M)) 24 (0, 0))), (nb ρ18 7, (.cells (cU ((a * 10) % M)) 24 (0, 0))), (nb ρ19 11, (.cells (cU ((((a * 10) % M) + (dV S j)) % M)) 24 (0, 0)))]) := by
  refine reg_seq [0, 1, 3] [0, 2, 3, 5, 9, 36, 37] 3
    (fun _ ι => ([(U 0), undef, (.int .i64 5)] : List Value).getD ι undef)
    (fun _ ι => ([{}, { puts := [(0, (.cells (cU 0) 24 (0, 0)))] }, {}] : List Eff).getD ι {})
    (by kernel_rfl) (by kernel_rfl) (fun _ => by kernel_rfl) (fun _ => by kernel_rfl) ⟨⟨⟨trivial, ?_⟩, ?_⟩, ?_⟩
  · exact o_run 0 [] [] (fun _ _ => []) (fun _ _ => by kernel_rfl)
  · exact o_run 1 [0] [] (fun _ _ => [nb ρ1 0, nb ρ1 0, nb ρ1 0, nb ρ1 0]) (fun _ _ => by kernel_rfl)
  · exact o_run 2 [] [] (fun _ _ => []) (fun _ _ => by kernel_rfl)
theorem parse_any_r22 (S : List UInt8) (j : Nat) (a : Nat) (ρ1 : Nat → Orc) (ρ14 : Nat → Orc) (ρ18 : Nat → Orc) (ρ19 : Nat → Orc) (w0 : World) (F : World → Prop) : Reg Try.prog 19 (regOps Try.f39 19) false 67 [(0, (.string (strB S))), (2, (pt (nb ρ1 0))), (5, (pt (nb ρ14 0))), (9, (pt (nb ρ19 11))), (36, (.int .i64 (((S).length : Nat) : Int))), (37, (.int .i64 ((j : Nat) : Int))), (62, (.bool false))] w0 [(nb ρ1 0, (.cells (cU 0) 24 (0, 0))), (nb ρ14 0, (.cells (cU a) 24 (0, 0))), (nb ρ18 6, (.cells (cU ((a * 10) / M)) 24 (0, 0))), (nb ρ18 7, (.cells (cU ((a * 10) % M)) 24 (0, 0))), (nb ρ19 11, (.cells (cU ((((a * 10) % M) + (dV S j)) % M)) 24 (0, 0)))] F
    (fun _ => [(0, (.string (strB S))), (2, (pt (nb ρ1 0))), (5, (pt (nb ρ14 0))), (36, (.int .i64 (((S).length : Nat) : Int))), (37, (.int .i64 ((j : Nat) : Int)))])
    (fun _ => [(nb ρ1 0, (.cells (cU 0) 24 (0, 0))), (nb ρ14 0, (.cells (cU ((((a * 10) % M) + (dV S j)) % M)) 24 (0, 0))), (nb ρ18 6, (.cells (cU ((a * 10) / M)) 24 (0, 0))), (nb ρ18 7, (.cells (cU ((a * 10) % M)) 24 (0, 0))), (nb ρ19 11, (.cells (cU ((((a * 10) % M) + (dV S j)) % M)) 24 (0, 0)))]) := by
  refine reg_seq [0, 1] [0, 2, 5, 36, 37] 2
    (fun _ ι => ([(U ((((a * 10) % M) + (dV S j)) % M)), undef] : List Value).getD ι undef)
    (fun _ ι => ([{}, { puts := [(1, (.cells (cU ((((a * 10) % M) + (dV S j)) % M)) 24 (0, 0)))] }] : List Eff).getD ι {})
    (by kernel_rfl) (by kernel_rfl) (fun _ => by kernel_rfl) (fun _ => by kernel_rfl) ⟨⟨trivial, ?_⟩, ?_⟩
  · exact o_run 0 [4] [] (fun _ _ => [nb ρ19 11, nb ρ19 11, nb ρ19 11, nb ρ19 11]) (fun _ _ => by kernel_rfl)
  · exact o_run 1 [1] [] (fun _ _ => [nb ρ14 0, nb ρ14 0, nb ρ14 0, nb ρ14 0]) (fun _ _ => by kernel_rfl)
theorem parse_any_r23 (S : List UInt8) (hb1 : (decide (100 < (((S).length : Nat) : Int))) = false) (hb2 : (decide (S = ([] : List UInt8))) = false) (i : Nat) (hi : i ≤ S.length) (hb3 : (decide (((i : Nat) : Int) < (((S).length : Nat) : Int))) = false) (j : Nat) (a : Nat) (hj : j ≤ S.length) (hb6 : (decide (((j : Nat) : Int) < (((S).length : Nat) : Int))) = true) (hb7 : (decide ((a * 10) / M = 0)) = true) (hb8 : (decide (M ≤ ((a * 10) % M) + (dV S j))) = false) (ρ1 : Nat → Orc) (ρ14 : Nat → Orc) (ρ18 : Nat → Orc) (ρ19 : Nat → Orc) (w0 : World) (F : World → Prop) : Reg Try.prog 20 (regOps Try.f39 20) false 67 [(0, (.string (strB S))), (2, (pt (nb ρ1 0))), (5, (pt (nb ρ14 0))), (36, (.int .i64 (((S).length : Nat) : Int))), (37, (.int .i64 ((j : Nat) : Int)))] w0 [(nb ρ1 0, (.cells (cU 0) 24 (0, 0))), (nb ρ14 0, (.cells (cU ((((a * 10) % M) + (dV S j)) % M)) 24 (0, 0))), (nb ρ18 6, (.cells (cU ((a * 10) / M)) 24 (0, 0))), (nb ρ18 7, (.cells (cU ((a * 10) % M)) 24 (0, 0))), (nb ρ19 11, (.cells (cU ((((a * 10) % M) + (dV S j)) % M)) 24 (0, 0)))] F
    (fun _ => [(0, (.string (strB S))), (2, (pt (nb ρ1 0))), (5, (pt (nb ρ14 0))), (36, (.int .i64 (((S).length : Nat) : Int))), (37, (.int .i64 ((j + 1 : Nat) : Int)))])
    (fun _ => [(nb ρ1 0, (.cells (cU 0) 24 (0, 0))), (nb ρ14 0, (.cells (cU ((((a * 10) % M) + (dV S j)) % M)) 24 (0, 0))), (nb ρ18 6, (.cells (cU ((a * 10) / M)) 24 (0, 0))), (nb ρ18 7, (.cells (cU ((a * 10) % M)) 24 (0, 0))), (nb ρ19 11, (.cells (cU ((((a * 10) % M) + (dV S j)) % M)) 24 (0, 0)))]) := by
  refine reg_seq [0, 1] [0, 2, 5, 36, 37] 2
    (fun _ ι => ([(.int .i64 ((j + 1 : Nat) : Int)), (.int .i64 ((j + 1 : Nat) : Int))] : List Value).getD ι undef)
    (fun _ ι => ([{}, {}] : List Eff).getD ι {})
    (by kernel_rfl) (by kernel_rfl) (fun _ => by kernel_rfl) (fun _ => by kernel_rfl) ⟨⟨trivial, ?_⟩, ?_⟩
  · exact o_as 0 (fun _ => (.int .i64 (IntKind.i64.wrap (((j : Nat) : Int) + 1)))) (fun _ => (.int .i64 ((j + 1 : Nat) : Int))) (fun _ _ => by kernel_rfl) (fun _ => congrArg (Value.int .i64) (wrap_addN j 1 (by have := of_decide_eq_false hb1; have := of_decide_eq_false hb2; have := of_decide_eq_false hb3; have := of_decide_eq_true hb6; have := of_decide_eq_true hb7; have := of_decide_eq_false hb8; have := hi; have := hj; omega)))
  · exact o_run 1 [] [] (fun _ _ => []) (fun _ _ => by kernel_rfl)
theorem parse_any_r24 (S : List UInt8) (j : Nat) (a : Nat) (haM : a < M) (hb7 : (decide ((a * 10) / M = 0)) = false) (ρ1 : Nat → Orc) (ρ14 : Nat → Orc) (ρ18 : Nat → Orc) (ρ19 : Nat → Orc) (w0 : World) (F : World → Prop) : Reg Try.prog 17 (regOps Try.f39 17) false 67 [(0, (.string (strB S))), (2, (pt (nb ρ1 0))), (5, (pt (nb ρ14 0))), (7, (pt (nb ρ18 6))), (9, (pt (nb ρ19 11))), (10, (.bool (decide (M ≤ ((a * 10) % M) + (dV S j))))), (36, (.int .i64 (((S).length : Nat) : Int))), (37, (.int .i64 ((j : Nat) : Int)))] w0 [(nb ρ1 0, (.cells (cU 0) 24 (0, 0))), (nb ρ14 0, (.cells (cU a) 24 (0, 0))), (nb ρ18 6, (.cells (cU ((a * 10) / M)) 24 (0, 0))), (nb ρ18 7, (.cells (cU ((a * 10) % M)) 24 (0, 0))), (nb ρ19 11, (.cells (cU ((((a * 10) % M) + (dV S j)) % M)) 24 (0, 0)))] F
    (fun _ => [(0, (.string (strB S))), (2, (pt (nb ρ1 0))), (5, (pt (nb ρ14 0))), (9, (pt (nb ρ19 11))), (36, (.int .i64 (((S).length : Nat) : Int))), (37, (.int .i64 ((j : Nat) : Int))), (62, (.bool true))])
    (fun _ => [(nb ρ1 0, (.cells (cU 0) 24 (0, 0))), (nb ρ14 0, (.cells (cU a) 24 (0, 0))), (nb ρ18 6, (.cells (cU ((a * 10) / M)) 24 (0, 0))), (nb ρ18 7, (.cells (cU ((a * 10) % M)) 24 (0, 0))), (nb ρ19 11, (.cells (cU ((((a * 10) % M) + (dV S j)) % M)) 24 (0, 0)))]) := by
  refine reg_seq [0, 1, 3, 7, 15, 31] [0, 2, 5, 9, 36, 37, 62] 6
    (fun _ ι => ([(U ((a * 10) / M)), (U 0), (.bool true), (.bool true), undef, (.bool true)] : List Value).getD ι undef)
    (fun _ ι => ([{}, {}, {}, {}, {}, {}] : List Eff).getD ι {})
    (by kernel_rfl) (by kernel_rfl) (fun _ => by kernel_rfl) (fun _ => by kernel_rfl) ⟨⟨⟨⟨⟨⟨trivial, ?_⟩, ?_⟩, ?_⟩, ?_⟩, ?_⟩, ?_⟩
  · exact o_run 0 [2] [] (fun _ _ => [nb ρ18 6, nb ρ18 6, nb ρ18 6, nb ρ18 6]) (fun _ _ => by kernel_rfl)
  · exact o_run 1 [] [] (fun _ _ => []) (fun _ _ => by kernel_rfl)
  · exact o_bin 2 .neq 24 (fun _ => (U ((a * 10) / M))) (fun _ => (U 0)) (fun _ => (.bool true)) (fun _ => by kernel_rfl) (fun _ _ _ _ => by kernel_rfl) (fun _ _ => (neqU ((a * 10) / M) 0 (mulhi_lt haM (by decide +kernel)) (by decide +kernel) _).trans (by rw [hb7]; try rfl))
  · exact o_run 3 [] [] (fun _ _ => []) (fun _ _ => by kernel_rfl)
  · exact o_skip 4 (fun _ => by kernel_rfl)
  · exact o_run 5 [] [] (fun _ _ => []) (fun _ _ => by kernel_rfl)
theorem parse_any_r25 (S : List UInt8) (j : Nat) (a : Nat) (ρ1 : Nat → Orc) (ρ14 : Nat → Orc) (ρ18 : Nat → Orc) (ρ19 : Nat → Orc) (w0 : World) (F : World → Prop) : Reg Try.prog 18 (regOps Try.f39 18) false 67 [(0, (.string (strB S))), (2, (pt (nb ρ1 0))), (5, (pt (nb ρ14 0))), (9, (pt (nb ρ19 11))), (36, (.int .i64 (((S).length : Nat) : Int))), (37, (.int .i64 ((j : Nat) : Int))), (62, (.bool true))] w0 [(nb ρ1 0, (.cells (cU 0) 24 (0, 0))), (nb ρ14 0, (.cells (cU a) 24 (0, 0))), (nb ρ18 6, (.cells (cU ((a * 10) / M)) 24 (0, 0))), (nb ρ18 7, (.cells (cU ((a * 10) % M)) 24 (0, 0))), (nb ρ19 11, (.cells (cU ((((a * 10) % M) + (dV S j)) % M)) 24 (0, 0)))] F
    (fun _ => [(0, (.string (strB S))), (2, (pt (nb ρ1 0))), (3, (.int .i64 5)), (5, (pt (nb ρ14 0))), (9, (pt (nb ρ19 11))), (36, (.int .i64 (((S).length : Nat) : Int))), (37, (.int .i64 ((j : Nat) : Int)))])
    (fun _ => [(nb ρ1 0, (.cells (cU 0) 24 (0, 0))), (nb ρ14 0, (.cells (cU a) 24 (0, 0))), (nb ρ18 6, (.cells (cU ((a * 10) / M)) 24 (0, 0))), (nb ρ18 7, (.cells (cU ((a * 10) % M)) 24 (0, 0))), (nb ρ19 11, (.cells (cU ((((a * 10) % M) + (dV S j)) % M)) 24 (0, 0)))]) := by
  refine reg_seq [0, 1, 3] [0, 2, 3, 5, 9, 36, 37] 3
    (fun _ ι => ([(U 0), undef, (.int .i64 5)] : List Value).getD ι undef)
    (fun _ ι => ([{}, { puts := [(0, (.cells (cU 0) 24 (0, 0)))] }, {}] : List Eff).getD ι {})
    (by kernel_rfl) (by kernel_rfl) (fun _ => by kernel_rfl) (fun _ => by kernel_rfl) ⟨⟨⟨trivial, ?_⟩, ?_⟩, ?_⟩
  · exact o_run 0 [] [] (fun _ _ => []) (fun _ _ => by kernel_rfl)
  · exact o_run 1 [0] [] (fun _ _ => [nb ρ1 0, nb ρ1 0, nb ρ1 0, nb ρ1 0]) (fun _ _ => by kernel_rfl)
  · exact o_run 2 [] [] (fun _ _ => []) (fun _ _ => by kernel_rfl)
theorem parse_any_r26 (S : List UInt8) (j : Nat) (a : Nat) (ρ1 : Nat → Orc) (ρ14 : Nat → Orc) (w0 : World) (F : World → Prop) : Reg Try.prog 21 (regOps Try.f39 21) false 67 [(0, (.string (strB S))), (2, (pt (nb ρ1 0))), (5, (pt (nb ρ14 0))), (36, (.int .i64 (((S).length : Nat) : Int))), (37, (.int .i64 ((j : Nat) : Int))), (38, (.bool false))] w0 [(nb ρ1 0, (.cells (cU 0) 24 (0, 0))), (nb ρ14 0, (.cells (cU a) 24 (0, 0)))] F
    (fun _ => [(2, (pt (nb ρ1 0))), (3, (.int .i64 0))])
    (fun _ => [(nb ρ1 0, (.cells (cU a) 24 (0, 0))), (nb ρ14 0, (.cells (cU a) 24 (0, 0)))]) := by
  refine reg_seq [0, 1, 3] [2, 3] 3
    (fun _ ι => ([(U a), undef, (.int .i64 0)] : List Value).getD ι undef)
    (fun _ ι => ([{}, { puts := [(0, (.cells (cU a) 24 (0, 0)))] }, {}] : List Eff).getD ι {})
    (by kernel_rfl) (by kernel_rfl) (fun _ => by kernel_rfl) (fun _ => by kernel_rfl) ⟨⟨⟨trivial, ?_⟩, ?_⟩, ?_⟩
  · exact o_run 0 [1] [] (fun _ _ => [nb ρ14 0, nb ρ14 0, nb ρ14 0, nb ρ14 0]) (fun _ _ => by kernel_rfl)
  · exact o_run 1 [0] [] (fun _ _ => [nb ρ1 0, nb ρ1 0, nb ρ1 0, nb ρ1 0]) (fun _ _ => by kernel_rfl)
  · exact o_run 2 [] [] (fun _ _ => []) (fun _ _ => by kernel_rfl)
theorem parse_any (S : List UInt8) (w0 : World) : Calls Try.prog 39 #[(.string (strB S))] w0 (fun ε w' => ε = .returned (.tuple #[(U (parseV S)), (.int .i64 (parseE S))]) ∧ Below w0.heap.size w0 w') := by
  refine Calls.of_ok (n := 67) (F := (fun _ => True)) Try.func39 rfl rfl rfl (by simp) (persTrue (fun _ => trivial)) ?_
  refine ok_seq_r (by kernel_rfl) (parse_any_r1 S _ _) (fun ρ1 => ?_)
  refine ok_seq ?_
  refine ok_seq_r (by kernel_rfl) (parse_any_r2 S ρ1 _ _) (fun _ => ?_)
  refine ok_cond (b := decide (100 < (((S).length : Nat) : Int))) (by kernel_rfl) (fun hb1 => ?_) (fun hb1 => ?_)
  ·
    rw [hb1]
    refine ok_seq_r (by kernel_rfl) (parse_any_r3 S ρ1 _ _) (fun _ => ?_)
    refine ok_ret ?_
    refine mt_then_r ?_
    exact meets_ret (v := (.tuple #[(U 0), (.int .i64 4)])) [0, 0, 0, 0] (dup [nb ρ1 0, nb ρ1 0, nb ρ1 0, nb ρ1 0]) (by kernel_rfl) (by kernel_rfl) (eqs_dup _) (fun _ hS => ⟨par_bad (by decide) (par_limit (by have := of_decide_eq_true hb1; omega)), hS.below⟩)
  ·
    rw [hb1]
    refine ok_skip ?_
    refine mt_then ?_
    refine ok_seq ?_
    refine ok_seq_r (by kernel_rfl) (parse_any_r4 S ρ1 _ _) (fun _ => ?_)
    refine ok_cond (b := decide (S = ([] : List UInt8))) (by kernel_rfl) (fun hb2 => ?_) (fun hb2 => ?_)
    ·
      rw [hb2]
      refine ok_seq_r (by kernel_rfl) (parse_any_r5 S ρ1 _ _) (fun _ => ?_)
      refine ok_ret ?_
      refine mt_then_r ?_
      exact meets_ret (v := (.tuple #[(U 0), (.int .i64 7)])) [0, 0, 0, 0] (dup [nb ρ1 0, nb ρ1 0, nb ρ1 0, nb ρ1 0]) (by kernel_rfl) (by kernel_rfl) (eqs_dup _) (fun _ hS => ⟨par_bad (by decide) (par_empty hb2), hS.below⟩)
    ·
      rw [hb2]
      refine ok_skip ?_
      refine mt_then ?_
      refine ok_seq ?_
      refine ok_seq_r (by kernel_rfl) (parse_any_r6 S ρ1 _ _) (fun _ => ?_)
      refine ok_block ?_
      refine ok_loop (σ := Nat) (fun i => [(0, (.string (strB S))), (2, (pt (nb ρ1 0))), (19, (.int .i64 (((S).length : Nat) : Int))), (20, (.int .i64 ((i : Nat) : Int)))]) (fun _ => [(nb ρ1 0, (.cells (cU 0) 24 (0, 0)))]) (fun i => S.length - i)
        (fun i => (i ≤ S.length) ∧ (allD S i)) 0 (⟨Nat.zero_le _, allD_zero S⟩) (by kernel_rfl) (.cons_cons _ .slnil) ?_
      rintro i ⟨hi, hD⟩
      change Ok Try.prog _ _ 67 [(0, (.string (strB S))), (2, (pt (nb ρ1 0))), (19, (.int .i64 (((S).length : Nat) : Int))), (20, (.int .i64 ((i : Nat) : Int)))] _ [(nb ρ1 0, (.cells (cU 0) 24 (0, 0)))] (fun _ => True)
      refine ok_seq_r (by kernel_rfl) (parse_any_r7 S i ρ1 _ _) (fun _ => ?_)
      refine ok_seq ?_
      refine ok_cond (b := decide (((i : Nat) : Int) < (((S).length : Nat) : Int))) (by kernel_rfl) (fun hb3 => ?_) (fun hb3 => ?_)
      ·
        rw [hb3]
        refine ok_skip ?_
        refine mt_then ?_
        refine ok_seq ?_
        refine ok_block ?_
        refine ok_seq_r (by kernel_rfl) (parse_any_r8 S i ρ1 _ _) (fun _ => ?_)
        rcases Bool.eq_false_or_eq_true (decide (((gB S i : Nat) : Int) < 48)) with hb4 | hb4
        ·
          refine ok_seq_r (by kernel_rfl) (parse_any_r9 S hb1 hb2 i hi hb3 hb4 ρ1 _ _) (fun _ => ?_)
          refine ok_yes (by kernel_rfl) ?_
          refine ok_seq_r (by kernel_rfl) (parse_any_r10 S i ρ1 _ _) (fun _ => ?_)
          refine ok_ret ?_
          refine mt_block_r ?_
          refine mt_then_r ?_
          refine mt_then_r ?_
          refine mt_block_r ?_
          refine mt_then_r ?_
          exact meets_ret (v := (.tuple #[(U 0), (.int .i64 7)])) [0, 0, 0, 0] (dup [nb ρ1 0, nb ρ1 0, nb ρ1 0, nb ρ1 0]) (by kernel_rfl) (by kernel_rfl) (eqs_dup _) (fun _ hS => ⟨par_bad (by decide) (par_text (by have := of_decide_eq_false hb1; have := of_decide_eq_false hb2; have := of_decide_eq_true hb3; have := of_decide_eq_true hb4; have := hi; omega) hb2 (by have := of_decide_eq_false hb1; have := of_decide_eq_false hb2; have := of_decide_eq_true hb3; have := of_decide_eq_true hb4; have := hi; omega) (no_low hb4)), hS.below⟩)
        ·
          refine ok_seq_r (by kernel_rfl) (parse_any_r11 S hb1 hb2 i hi hb3 hb4 ρ1 _ _) (fun _ => ?_)
          refine ok_cond (b := decide (57 < ((gB S i : Nat) : Int))) (by kernel_rfl) (fun hb5 => ?_) (fun hb5 => ?_)
          ·
            rw [hb5]
            refine ok_seq_r (by kernel_rfl) (parse_any_r12 S i ρ1 _ _) (fun _ => ?_)
            refine ok_ret ?_
            refine mt_block_r ?_
            refine mt_then_r ?_
            refine mt_then_r ?_
            refine mt_block_r ?_
            refine mt_then_r ?_
            exact meets_ret (v := (.tuple #[(U 0), (.int .i64 7)])) [0, 0, 0, 0] (dup [nb ρ1 0, nb ρ1 0, nb ρ1 0, nb ρ1 0]) (by kernel_rfl) (by kernel_rfl) (eqs_dup _) (fun _ hS => ⟨par_bad (by decide) (par_text (by have := of_decide_eq_false hb1; have := of_decide_eq_false hb2; have := of_decide_eq_true hb3; have := of_decide_eq_false hb4; have := of_decide_eq_true hb5; have := hi; omega) hb2 (by have := of_decide_eq_false hb1; have := of_decide_eq_false hb2; have := of_decide_eq_true hb3; have := of_decide_eq_false hb4; have := of_decide_eq_true hb5; have := hi; omega) (no_high hb5)), hS.below⟩)
          ·
            rw [hb5]
            refine ok_skip ?_
            refine mt_block_n ?_
            refine mt_then ?_
            refine ok_r (by kernel_rfl) (parse_any_r13 S hb1 hb2 i hi hb3 hb4 hb5 ρ1 _ _) (fun _ => ?_)
            exact mt_round (i + 1) (by show S.length - (i + 1) < S.length - i; have := of_decide_eq_false hb1; have := of_decide_eq_false hb2; have := of_decide_eq_true hb3; have := of_decide_eq_false hb4; have := of_decide_eq_false hb5; have := hi; omega) (⟨(by have := of_decide_eq_false hb1; have := of_decide_eq_false hb2; have := of_decide_eq_true hb3; have := of_decide_eq_false hb4; have := of_decide_eq_false hb5; have := hi; omega), allD_next hD hb4 hb5⟩) (by kernel_rfl) (.cons_cons _ .slnil)
      ·
        rw [hb3]
        refine ok_exit ?_
        refine mt_then_e ?_
        refine mt_then_e ?_
        refine mt_block_h ?_
        refine mt_then ?_
        refine ok_seq_r (by kernel_rfl) (parse_any_r14 S i ρ1 _ _) (fun ρ14 => ?_)
        refine ok_seq ?_
        refine ok_seq_r (by kernel_rfl) (parse_any_r15 S ρ1 ρ14 _ _) (fun _ => ?_)
        refine ok_block ?_
        refine ok_loop (σ := Nat × Nat) (fun ⟨j, _⟩ => [(0, (.string (strB S))), (2, (pt (nb ρ1 0))), (5, (pt (nb ρ14 0))), (36, (.int .i64 (((S).length : Nat) : Int))), (37, (.int .i64 ((j : Nat) : Int)))]) (fun ⟨_, a⟩ => [(nb ρ1 0, (.cells (cU 0) 24 (0, 0))), (nb ρ14 0, (.cells (cU a) 24 (0, 0)))]) (fun ⟨j, _⟩ => S.length - j)
          (fun ⟨j, a⟩ => (j ≤ S.length) ∧ (a = decV S j) ∧ (a < M) ∧ (allD S S.length)) (0, 0) (⟨Nat.zero_le _, rfl, M_pos, allD_end hD (by have := of_decide_eq_false hb1; have := of_decide_eq_false hb2; have := of_decide_eq_false hb3; have := hi; omega)⟩) (by kernel_rfl) (.cons_cons _ (.cons_cons _ .slnil)) ?_
        rintro ⟨j, a⟩ ⟨hj, ha, haM, hA⟩
        change Ok Try.prog _ _ 67 [(0, (.string (strB S))), (2, (pt (nb ρ1 0))), (5, (pt (nb ρ14 0))), (36, (.int .i64 (((S).length : Nat) : Int))), (37, (.int .i64 ((j : Nat) : Int)))] _ [(nb ρ1 0, (.cells (cU 0) 24 (0, 0))), (nb ρ14 0, (.cells (cU a) 24 (0, 0)))] (fun _ => True)
        refine ok_seq_r (by kernel_rfl) (parse_any_r16 S j a ρ1 ρ14 _ _) (fun _ => ?_)
        refine ok_seq ?_
        refine ok_cond (b := decide (((j : Nat) : Int) < (((S).length : Nat) : Int))) (by kernel_rfl) (fun hb6 => ?_) (fun hb6 => ?_)
        ·
          rw [hb6]
          refine ok_skip ?_
          refine mt_then ?_
          refine ok_seq ?_
          refine ok_block ?_
          refine ok_seq_r (by kernel_rfl) (parse_any_r17 S j a ρ1 ρ14 _ _) (fun _ => ?_)
          refine ok_seq_r (by kernel_rfl) (parse_any_r18 S j a haM ρ1 ρ14 _ _) (fun ρ18 => ?_)
          refine ok_seq_r (by kernel_rfl) (parse_any_r19 S hb1 hb2 i hi hb3 j a hj hA hb6 ρ1 ρ14 ρ18 _ _) (fun ρ19 => ?_)
          refine ok_seq ?_
          rcases Bool.eq_false_or_eq_true (decide ((a * 10) / M = 0)) with hb7 | hb7
          ·
            refine ok_seq_r (by kernel_rfl) (parse_any_r20 S j a haM hb7 ρ1 ρ14 ρ18 ρ19 _ _) (fun _ => ?_)
            refine ok_cond (b := decide (M ≤ ((a * 10) % M) + (dV S j))) (by kernel_rfl) (fun hb8 => ?_) (fun hb8 => ?_)
            ·
              rw [hb8]
              refine ok_seq_r (by kernel_rfl) (parse_any_r21 S j a ρ1 ρ14 ρ18 ρ19 _ _) (fun _ => ?_)
              refine ok_ret ?_
              refine mt_then_r ?_
              refine mt_block_r ?_
              refine mt_then_r ?_
              refine mt_then_r ?_
              refine mt_block_r ?_
              refine mt_then_r ?_
              exact meets_ret (v := (.tuple #[(U 0), (.int .i64 5)])) [0, 0, 0, 0] (dup [nb ρ1 0, nb ρ1 0, nb ρ1 0, nb ρ1 0]) (by kernel_rfl) (by kernel_rfl) (eqs_dup _) (fun _ hS => ⟨par_bad (by decide) (par_range (i := j + 1) (by have := of_decide_eq_false hb1; have := of_decide_eq_false hb2; have := of_decide_eq_false hb3; have := of_decide_eq_true hb6; have := of_decide_eq_true hb7; have := of_decide_eq_true hb8; have := hi; have := hj; omega) hb2 hA (by have := of_decide_eq_false hb1; have := of_decide_eq_false hb2; have := of_decide_eq_false hb3; have := of_decide_eq_true hb6; have := of_decide_eq_true hb7; have := of_decide_eq_true hb8; have := hi; have := hj; omega) (step_carry ha (of_decide_eq_true hb8))), hS.below⟩)
            ·
              rw [hb8]
              refine ok_skip ?_
              refine mt_then ?_
              refine ok_r (by kernel_rfl) (parse_any_r22 S j a ρ1 ρ14 ρ18 ρ19 _ _) (fun _ => ?_)
              refine mt_block_n ?_
              refine mt_then ?_
              refine ok_r (by kernel_rfl) (parse_any_r23 S hb1 hb2 i hi hb3 j a hj hb6 hb7 hb8 ρ1 ρ14 ρ18 ρ19 _ _) (fun _ => ?_)
              exact mt_round (j + 1, (((a * 10) % M) + (dV S j)) % M) (by show S.length - (j + 1) < S.length - j; have := of_decide_eq_false hb1; have := of_decide_eq_false hb2; have := of_decide_eq_false hb3; have := of_decide_eq_true hb6; have := of_decide_eq_true hb7; have := of_decide_eq_false hb8; have := hi; have := hj; omega) (⟨(by have := of_decide_eq_false hb1; have := of_decide_eq_false hb2; have := of_decide_eq_false hb3; have := of_decide_eq_true hb6; have := of_decide_eq_true hb7; have := of_decide_eq_false hb8; have := hi; have := hj; omega), step_ok ha (of_decide_eq_true hb7) (of_decide_eq_false hb8), modM_lt _, hA⟩) (by kernel_rfl) (.cons_cons _ (.cons_cons _ (.cons _ (.cons _ (.cons _ .slnil)))))
          ·
            refine ok_seq_r (by kernel_rfl) (parse_any_r24 S j a haM hb7 ρ1 ρ14 ρ18 ρ19 _ _) (fun _ => ?_)
            refine ok_yes (by kernel_rfl) ?_
            refine ok_seq_r (by kernel_rfl) (parse_any_r25 S j a ρ1 ρ14 ρ18 ρ19 _ _) (fun _ => ?_)
            refine ok_ret ?_
            refine mt_then_r ?_
            refine mt_block_r ?_
            refine mt_then_r ?_
            refine mt_then_r ?_
            refine mt_block_r ?_
            refine mt_then_r ?_
            exact meets_ret (v := (.tuple #[(U 0), (.int .i64 5)])) [0, 0, 0, 0] (dup [nb ρ1 0, nb ρ1 0, nb ρ1 0, nb ρ1 0]) (by kernel_rfl) (by kernel_rfl) (eqs_dup _) (fun _ hS => ⟨par_bad (by decide) (par_range (i := j + 1) (by have := of_decide_eq_false hb1; have := of_decide_eq_false hb2; have := of_decide_eq_false hb3; have := of_decide_eq_true hb6; have := of_decide_eq_false hb7; have := hi; have := hj; omega) hb2 hA (by have := of_decide_eq_false hb1; have := of_decide_eq_false hb2; have := of_decide_eq_false hb3; have := of_decide_eq_true hb6; have := of_decide_eq_false hb7; have := hi; have := hj; omega) (step_hi ha (of_decide_eq_false hb7))), hS.below⟩)
        ·
          rw [hb6]
          refine ok_exit ?_
          refine mt_then_e ?_
          refine mt_then_e ?_
          refine mt_block_h ?_
          refine mt_then ?_
          refine ok_seq_r (by kernel_rfl) (parse_any_r26 S j a ρ1 ρ14 _ _) (fun _ => ?_)
          refine ok_ret ?_
          exact meets_ret (v := (.tuple #[(U a), (.int .i64 0)])) [0, 0, 0, 0] (dup [nb ρ1 0, nb ρ1 0, nb ρ1 0, nb ρ1 0]) (by kernel_rfl) (by kernel_rfl) (eqs_dup _) (fun _ hS => ⟨par_ok (by have := of_decide_eq_false hb1; have := of_decide_eq_false hb2; have := of_decide_eq_false hb3; have := of_decide_eq_false hb6; have := hi; have := hj; omega) hb2 hA ha (by have := of_decide_eq_false hb1; have := of_decide_eq_false hb2; have := of_decide_eq_false hb3; have := of_decide_eq_false hb6; have := hi; have := hj; omega) haM, hS.below⟩)
theorem rparse_any_r1 (S : List UInt8) (w0 : World) (F : World → Prop) : Reg Try.prog 0 (regOps Try.f40 0) false 65 [(0, (.string (strB S)))] w0 [] F
    (fun ρ => [(0, (.string (strB S))), (2, (pt (nb ρ 0))), (3, (.int .i64 0))])
    (fun ρ => [(nb ρ 0, (.cells (cU 0) 24 (0, 0)))]) := by
  refine reg_seq [0, 1] [0, 2, 3] 2
    (fun ρ ι => ([(pt (nb ρ 0)), (.int .i64 0)] : List Value).getD ι undef)
    (fun ρ ι => ([{ news := [(nb ρ 0, (.cells (cU 0) 24 (0, 0)))] }, {}] : List Eff).getD ι {})
    (by kernel_rfl) (by kernel_rfl) (fun _ => by kernel_rfl) (fun _ => by kernel_rfl) ⟨⟨trivial, ?_⟩, ?_⟩
  · exact o_run 0 [] [] (fun _ _ => []) (fun _ _ => by kernel_rfl)
  · exact o_run 1 [] [] (fun _ _ => []) (fun _ _ => by kernel_rfl)
theorem rparse_any_r2 (S : List UInt8) (ρ1 : Nat → Orc) (w0 : World) (F : World → Prop) : Reg Try.prog 1 (regOps Try.f40 1) false 65 [(0, (.string (strB S))), (2, (pt (nb ρ1 0))), (3, (.int .i64 0))] w0 [(nb ρ1 0, (.cells (cU 0) 24 (0, 0)))] F
    (fun _ => [(0, (.string (strB S))), (2, (pt (nb ρ1 0))), (3, (.int .i64 0)), (13, (.bool (decide (100 < (((S).length : Nat) : Int)))))])
    (fun _ => [(nb ρ1 0, (.cells (cU 0) 24 (0, 0)))]) := by
  refine reg_seq [0, 1, 3] [0, 2, 3, 13] 3
    (fun _ ι => ([(.string (strB S)), (.int .i64 (((S).length : Nat) : Int)), (.bool (decide (100 < (((S).length : Nat) : Int))))] : List Value).getD ι undef)
    (fun _ ι => ([{}, {}, {}] : List Eff).getD ι {})
    (by kernel_rfl) (by kernel_rfl) (fun _ => by kernel_rfl) (fun _ => by kernel_rfl) ⟨⟨⟨trivial, ?_⟩, ?_⟩, ?_⟩
  · exact o_run 0 [] [] (fun _ _ => []) (fun _ _ => by kernel_rfl)
  · exact o_run 1 [] [] (fun _ _ => []) (fun _ _ => by kernel_rfl)
  · exact o_run 2 [] [] (fun _ _ => []) (fun _ _ => by kernel_rfl)
theorem rparse_any_r3 (S : List UInt8) (ρ1 : Nat → Orc) (w0 : World) (F : World → Prop) : Reg Try.prog 2 (regOps Try.f40 2) false 65 [(0, (.string (strB S))), (2, (pt (nb ρ1 0))), (3, (.int .i64 0)), (13, (.bool true))] w0 [(nb ρ1 0, (.cells (cU 0) 24 (0, 0)))] F
    (fun _ => [(0, (.string (strB S))), (2, (pt (nb ρ1 0))), (3, (.int .i64 4))])
    (fun _ => [(nb ρ1 0, (.cells (cU 0) 24 (0, 0)))]) := by
  refine reg_seq [0, 1, 3] [0, 2, 3] 3
    (fun _ ι => ([(U 0), undef, (.int .i64 4)] : List Value).getD ι undef)
    (fun _ ι => ([{}, { puts := [(0, (.cells (cU 0) 24 (0, 0)))] }, {}] : List Eff).getD ι {})
    (by kernel_rfl) (by kernel_rfl) (fun _ => by kernel_rfl) (fun _ => by kernel_rfl) ⟨⟨⟨trivial, ?_⟩, ?_⟩, ?_⟩
  · exact o_run 0 [] [] (fun _ _ => []) (fun _ _ => by kernel_rfl)
  · exact o_run 1 [0] [] (fun _ _ => [nb ρ1 0, nb ρ1 0, nb ρ1 0, nb ρ1 0]) (fun _ _ => by kernel_rfl)
  · exact o_run 2 [] [] (fun _ _ => []) (fun _ _ => by kernel_rfl)
theorem rparse_any_r4 (S : List UInt8) (ρ1 : Nat → Orc) (w0 : World) (F : World → Prop) : Reg Try.prog 3 (regOps Try.f40 3) false 65 [(0, (.string (strB S))), (2, (pt (nb ρ1 0))), (3, (.int .i64 0)), (13, (.bool false))] w0 [(nb ρ1 0, (.cells (cU 0) 24 (0, 0)))] F
    (fun _ => [(0, (.string (strB S))), (2, (pt (nb ρ1 0))), (3, (.int .i64 0)), (16, (.bool (decide (S = ([] : List UInt8)))))])
    (fun _ => [(nb ρ1 0, (.cells (cU 0) 24 (0, 0)))]) := by
  refine reg_seq [0, 1] [0, 2, 3, 16] 2
    (fun _ ι => ([(.string (strB S)), (.bool (decide (S = ([] : List UInt8))))] : List Value).getD ι undef)
    (fun _ ι => ([{}, {}] : List Eff).getD ι {})
    (by kernel_rfl) (by kernel_rfl) (fun _ => by kernel_rfl) (fun _ => by kernel_rfl) ⟨⟨trivial, ?_⟩, ?_⟩
  · exact o_run 0 [] [] (fun _ _ => []) (fun _ _ => by kernel_rfl)
  · exact o_bin 1 .eql 9 (fun _ => (.string (strB S))) (fun _ => (.string (strB ([] : List UInt8)))) (fun _ => (.bool (decide (S = ([] : List UInt8))))) (fun _ => by kernel_rfl) (fun _ _ _ _ => by kernel_rfl) (fun _ w => eql_str S ([] : List UInt8) w)
theorem rparse_any_r5 (S : List UInt8) (ρ1 : Nat → Orc) (w0 : World) (F : World → Prop) : Reg Try.prog 4 (regOps Try.f40 4) false 65 [(0, (.string (strB S))), (2, (pt (nb ρ1 0))), (3, (.int .i64 0)), (16, (.bool true))] w0 [(nb ρ1 0, (.cells (cU 0) 24 (0, 0)))] F
    (fun _ => [(0, (.string (strB S))), (2, (pt (nb ρ1 0))), (3, (.int .i64 7))])
    (fun _ => [(nb ρ1 0, (.cells (cU 0) 24 (0, 0)))]) := by
  refine reg_seq [0, 1, 3] [0, 2, 3] 3
    (fun _ ι => ([(U 0), undef, (.int .i64 7)] : List Value).getD ι undef)
    (fun _ ι => ([{}, { puts := [(0, (.cells (cU 0) 24 (0, 0)))] }, {}] : List Eff).getD ι {})
    (by kernel_rfl) (by kernel_rfl) (fun _ => by kernel_rfl) (fun _ => by kernel_rfl) ⟨⟨⟨trivial, ?_⟩, ?_⟩, ?_⟩
  · exact o_run 0 [] [] (fun _ _ => []) (fun _ _ => by kernel_rfl)
  · exact o_run 1 [0] [] (fun _ _ => [nb ρ1 0, nb ρ1 0, nb ρ1 0, nb ρ1 0]) (fun _ _ => by kernel_rfl)
  · exact o_run 2 [] [] (fun _ _ => []) (fun _ _ => by kernel_rfl)
theorem rparse_any_r6 (S : List UInt8) (ρ1 : Nat → Orc) (w0 : World) (F : World → Prop) : Reg Try.prog 5 (regOps Try.f40 5) false 65 [(0, (.string (strB S))), (2, (pt (nb ρ1 0))), (3, (.int .i64 0)), (16, (.bool false))] w0 [(nb ρ1 0, (.cells (cU 0) 24 (0, 0)))] F
    (fun ρ => [(0, (.string (strB S))), (2, (pt (nb ρ1 0))), (3, (.int .i64 0)), (4, (pt (nb ρ 0)))])
    (fun ρ => [(nb ρ1 0, (.cells (cU 0) 24 (0, 0))), (nb ρ 0, (.cells (cU 0) 24 (0, 0)))]) := by
  refine reg_seq [0] [0, 2, 3, 4] 1
    (fun ρ ι => ([(pt (nb ρ 0))] : List Value).getD ι undef)
    (fun ρ ι => ([{ news := [(nb ρ 0, (.cells (cU 0) 24 (0, 0)))] }] : List Eff).getD ι {})
    (by kernel_rfl) (by kernel_rfl) (fun _ => by kernel_rfl) (fun _ => by kernel_rfl) ⟨trivial, ?_⟩
  · exact o_run 0 [] [] (fun _ _ => []) (fun _ _ => by kernel_rfl)
theorem rparse_any_r7 (S : List UInt8) (ρ1 : Nat → Orc) (ρ6 : Nat → Orc) (w0 : World) (F : World → Prop) : Reg Try.prog 6 (regOps Try.f40 6) false 65 [(0, (.string (strB S))), (2, (pt (nb ρ1 0))), (3, (.int .i64 0)), (4, (pt (nb ρ6 0)))] w0 [(nb ρ1 0, (.cells (cU 0) 24 (0, 0))), (nb ρ6 0, (.cells (cU 0) 24 (0, 0)))] F
    (fun _ => [(0, (.string (strB S))), (2, (pt (nb ρ1 0))), (3, (.int .i64 0)), (4, (pt (nb ρ6 0))), (5, (.bool false))])
    (fun _ => [(nb ρ1 0, (.cells (cU 0) 24 (0, 0))), (nb ρ6 0, (.cells (cU 0) 24 (0, 0)))]) := by
  refine reg_seq [0] [0, 2, 3, 4, 5] 1
    (fun _ ι => ([(.bool false)] : List Value).getD ι undef)
    (fun _ ι => ([{}] : List Eff).getD ι {})
    (by kernel_rfl) (by kernel_rfl) (fun _ => by kernel_rfl) (fun _ => by kernel_rfl) ⟨trivial, ?_⟩
  · exact o_run 0 [] [] (fun _ _ => []) (fun _ _ => by kernel_rfl)
theorem rparse_any_r8 (S : List UInt8) (ρ1 : Nat → Orc) (ρ6 : Nat → Orc) (w0 : World) (F : World → Prop) : Reg Try.prog 7 (regOps Try.f40 7) false 65 [(0, (.string (strB S))), (2, (pt (nb ρ1 0))), (3, (.int .i64 0)), (4, (pt (nb ρ6 0))), (5, (.bool false))] w0 [(nb ρ1 0, (.cells (cU 0) 24 (0, 0))), (nb ρ6 0, (.cells (cU 0) 24 (0, 0)))] F
    (fun _ => [(0, (.string (strB S))), (2, (pt (nb ρ1 0))), (3, (.int .i64 0)), (4, (pt (nb ρ6 0))), (5, (.bool false)), (6, (.int .i64 0))])
    (fun _ => [(nb ρ1 0, (.cells (cU 0) 24 (0, 0))), (nb ρ6 0, (.cells (cU 0) 24 (0, 0)))]) := by
  refine reg_seq [0] [0, 2, 3, 4, 5, 6] 1
    (fun _ ι => ([(.int .i64 0)] : List Value).getD ι undef)
    (fun _ ι => ([{}] : List Eff).getD ι {})
    (by kernel_rfl) (by kernel_rfl) (fun _ => by kernel_rfl) (fun _ => by kernel_rfl) ⟨trivial, ?_⟩
  · exact o_run 0 [] [] (fun _ _ => []) (fun _ _ => by kernel_rfl)
theorem rparse_any_r9 (S : List UInt8) (i : Nat) (a : Nat) (ovr : Bool) (ρ1 : Nat → Orc) (ρ6 : Nat → Orc) (w0 : World) (F : World → Prop) : Reg Try.prog 8 (regOps Try.f40 8) false 65 [(0, (.string (strB S))), (2, (pt (nb ρ1 0))), (4, (pt (nb ρ6 0))), (5, (.bool ovr)), (6, (.int .i64 ((i : Nat) : Int)))] w0 [(nb ρ1 0, (.cells (cU 0) 24 (0, 0))), (nb ρ6 0, (.cells (cU a) 24 (0, 0)))] F
    (fun _ => [(0, (.string (strB S))), (2, (pt (nb ρ1 0))), (4, (pt (nb ρ6 0))), (5, (.bool ovr)), (6, (.int .i64 ((i : Nat) : Int))), (21, (.bool (decide (((i : Nat) : Int) < (((S).length : Nat) : Int)))))])
    (fun _ => [(nb ρ1 0, (.cells (cU 0) 24 (0, 0))), (nb ρ6 0, (.cells (cU a) 24 (0, 0)))]) := by
  refine reg_seq [0, 1, 3, 7] [0, 2, 4, 5, 6, 21] 4
    (fun _ ι => ([(.int .i64 ((i : Nat) : Int)), (.string (strB S)), (.int .i64 (((S).length : Nat) : Int)), (.bool (decide (((i : Nat) : Int) < (((S).length : Nat) : Int))))] : List Value).getD ι undef)
    (fun _ ι => ([{}, {}, {}, {}] : List Eff).getD ι {})
    (by kernel_rfl) (by kernel_rfl) (fun _ => by kernel_rfl) (fun _ => by kernel_rfl) ⟨⟨⟨⟨trivial, ?_⟩, ?_⟩, ?_⟩, ?_⟩
  · exact o_run 0 [] [] (fun _ _ => []) (fun _ _ => by kernel_rfl)
  · exact o_run 1 [] [] (fun _ _ => []) (fun _ _ => by kernel_rfl)
  · exact o_run 2 [] [] (fun _ _ => []) (fun _ _ => by kernel_rfl)
  · exact o_run 3 [] [] (fun _ _ => []) (fun _ _ => by kernel_rfl)
theorem rparse_any_r10 (S : List UInt8) (hb1 : (decide (100 < (((S).length : Nat) : Int))) = false) (hb2 : (decide (S = ([] : List UInt8))) = false) (i : Nat) (a : Nat) (ovr : Bool) (hi : i ≤ S.length) (hb3 : (decide (((i : Nat) : Int) < (((S).length : Nat) : Int))) = true) (hb4 : (decide (((gB S i : Nat) : Int) < 48)) = true) (ρ1 : Nat → Orc) (ρ6 : Nat → Orc) (w0 : World) (F : World → Prop) : Reg Try.prog 10 (regOps Try.f40 10) false 65 [(0, (.string (strB S))), (2, (pt (nb ρ1 0))), (4, (pt (nb ρ6 0))), (5, (.bool ovr)), (6, (.int .i64 ((i : Nat) : Int))), (21, (.bool true))] w0 [(nb ρ1 0, (.cells (cU 0) 24 (0, 0))), (nb ρ6 0, (.cells (cU a) 24 (0, 0)))] F
    (fun _ => [(0, (.string (strB S))), (2, (pt (nb ρ1 0))), (4, (pt (nb ρ6 0))), (5, (.bool ovr)), (6, (.int .i64 ((i : Nat) : Int))), (33, (.bool true))])
    (fun _ => [(nb ρ1 0, (.cells (cU 0) 24 (0, 0))), (nb ρ6 0, (.cells (cU a) 24 (0, 0)))]) := by
  refine reg_seq [0, 1, 3, 7, 15, 31, 63, 127, 255, 511] [0, 2, 4, 5, 6, 33] 10
    (fun _ ι => ([(.string (strB S)), (.int .i64 ((i : Nat) : Int)), (.int .u8 ((gB S i : Nat) : Int)), (.bool true), (.bool true), undef, undef, undef, undef, (.bool true)] : List Value).getD ι undef)
    (fun _ ι => ([{}, {}, {}, {}, {}, {}, {}, {}, {}, {}] : List Eff).getD ι {})
    (by kernel_rfl) (by kernel_rfl) (fun _ => by kernel_rfl) (fun _ => by kernel_rfl) ⟨⟨⟨⟨⟨⟨⟨⟨⟨⟨trivial, ?_⟩, ?_⟩, ?_⟩, ?_⟩, ?_⟩, ?_⟩, ?_⟩, ?_⟩, ?_⟩, ?_⟩
  · exact o_run 0 [] [] (fun _ _ => []) (fun _ _ => by kernel_rfl)
  · exact o_run 1 [] [] (fun _ _ => []) (fun _ _ => by kernel_rfl)
  · exact o_sem 2 (fun _ => do pure (Next.value (← Instr.index 9 (.string (strB S)) (.int .i64 ((i : Nat) : Int))))) (fun _ => (.int .u8 ((gB S i : Nat) : Int))) (fun _ => (by kernel_rfl)) (fun _ => (by kernel_rfl)) (fun _ w => idx_str (S := S) Try.underlying9 ((show ((i : Nat) : Int) = ((i : Nat) : Int) ∧ i < (S).length from ⟨rfl, (by have := of_decide_eq_false hb1; have := of_decide_eq_false hb2; have := of_decide_eq_true hb3; have := of_decide_eq_true hb4; have := hi; omega)⟩)).1 ((show ((i : Nat) : Int) = ((i : Nat) : Int) ∧ i < (S).length from ⟨rfl, (by have := of_decide_eq_false hb1; have := of_decide_eq_false hb2; have := of_decide_eq_true hb3; have := of_decide_eq_true hb4; have := hi; omega)⟩)).2 w)
  · exact o_as 3 (fun _ => (.bool (decide (((gB S i : Nat) : Int) < 48)))) (fun _ => (.bool true)) (fun _ _ => by kernel_rfl) (fun _ => congrArg Value.bool hb4)
  · exact o_run 4 [] [] (fun _ _ => []) (fun _ _ => by kernel_rfl)
  · exact o_skip 5 (fun _ => by kernel_rfl)
  · exact o_skip 6 (fun _ => by kernel_rfl)
  · exact o_skip 7 (fun _ => by kernel_rfl)
  · exact o_skip 8 (fun _ => by kernel_rfl)
  · exact o_run 9 [] [] (fun _ _ => []) (fun _ _ => by kernel_rfl)
theorem rparse_any_r11 (S : List UInt8) (i : Nat) (a : Nat) (ovr : Bool) (ρ1 : Nat → Orc) (ρ6 : Nat → Orc) (w0 : World) (F : World → Prop) : Reg Try.prog 11 (regOps Try.f40 11) false 65 [(0, (.string (strB S))), (2, (pt (nb ρ1 0))), (4, (pt (nb ρ6 0))), (5, (.bool ovr)), (6, (.int .i64 ((i : Nat) : Int))), (33, (.bool true))] w0 [(nb ρ1 0, (.cells (cU 0) 24 (0, 0))), (nb ρ6 0, (.cells (cU a) 24 (0, 0)))] F
    (fun _ => [(0, (.string (strB S))), (2, (pt (nb ρ1 0))), (3, (.int .i64 7)), (4, (pt (nb ρ6 0))), (5, (.bool ovr)), (6, (.int .i64 ((i : Nat) : Int)))])
    (fun _ => [(nb ρ1 0, (.cells (cU 0) 24 (0, 0))), (nb ρ6 0, (.cells (cU a) 24 (0, 0)))]) := by
  refine reg_seq [0, 1, 3] [0, 2, 3, 4, 5, 6] 3
    (fun _ ι => ([(U 0), undef, (.int .i64 7)] : List Value).getD ι undef)
    (fun _ ι => ([{}, { puts := [(0, (.cells (cU 0) 24 (0, 0)))] }, {}] : List Eff).getD ι {})
    (by kernel_rfl) (by kernel_rfl) (fun _ => by kernel_rfl) (fun _ => by kernel_rfl) ⟨⟨⟨trivial, ?_⟩, ?_⟩, ?_⟩
  · exact o_run 0 [] [] (fun _ _ => []) (fun _ _ => by kernel_rfl)
  · exact o_run 1 [0] [] (fun _ _ => [nb ρ1 0, nb ρ1 0, nb ρ1 0, nb ρ1 0]) (fun _ _ => by kernel_rfl)
  · exact o_run 2 [] [] (fun _ _ => []) (fun _ _ => by kernel_rfl)
theorem rparse_any_r12 (S : List UInt8) (hb1 : (decide (100 < (((S).length : Nat) : Int))) = false) (hb2 : (decide (S = ([] : List UInt8))) = false) (i : Nat) (a : Nat) (ovr : Bool) (hi : i ≤ S.length) (hb3 : (decide (((i : Nat) : Int) < (((S).length : Nat) : Int))) = true) (hb4 : (decide (((gB S i : Nat) : Int) < 48)) = false) (ρ1 : Nat → Orc) (ρ6 : Nat → Orc) (w0 : World) (F : World → Prop) : Reg Try.prog 10 (regOps Try.f40 10) false 65 [(0, (.string (strB S))), (2, (pt (nb ρ1 0))), (4, (pt (nb ρ6 0))), (5, (.bool ovr)), (6, (.int .i64 ((i : Nat) : Int))), (21, (.bool true))] w0 [(nb ρ1 0, (.cells (cU 0) 24 (0, 0))), (nb ρ6 0, (.cells (cU a) 24 (0, 0)))] F
    (fun _ => [(0, (.string (strB S))), (2, (pt (nb ρ1 0))), (4, (pt (nb ρ6 0))), (5, (.bool ovr)), (6, (.int .i64 ((i : Nat) : Int))), (33, (.bool (decide (57 < ((gB S i : Nat) : Int)))))])
    (fun _ => [(nb ρ1 0, (.cells (cU 0) 24 (0, 0))), (nb ρ6 0, (.cells (cU a) 24 (0, 0)))]) := by
  refine reg_seq [0, 1, 3, 7, 15, 31, 63, 127, 255, 511] [0, 2, 4, 5, 6, 33] 10
    (fun _ ι => ([(.string (strB S)), (.int .i64 ((i : Nat) : Int)), (.int .u8 ((gB S i : Nat) : Int)), (.bool false), (.bool false), (.string (strB S)), (.int .i64 ((i : Nat) : Int)), (.int .u8 ((gB S i : Nat) : Int)), (.bool (decide (57 < ((gB S i : Nat) : Int)))), (.bool (decide (57 < ((gB S i : Nat) : Int))))] : List Value).getD ι undef)
    (fun _ ι => ([{}, {}, {}, {}, {}, {}, {}, {}, {}, {}] : List Eff).getD ι {})
    (by kernel_rfl) (by kernel_rfl) (fun _ => by kernel_rfl) (fun _ => by kernel_rfl) ⟨⟨⟨⟨⟨⟨⟨⟨⟨⟨trivial, ?_⟩, ?_⟩, ?_⟩, ?_⟩, ?_⟩, ?_⟩, ?_⟩, ?_⟩, ?_⟩, ?_⟩
  · exact o_run 0 [] [] (fun _ _ => []) (fun _ _ => by kernel_rfl)
  · exact o_run 1 [] [] (fun _ _ => []) (fun _ _ => by kernel_rfl)
  · exact o_sem 2 (fun _ => do pure (Next.value (← Instr.index 9 (.string (strB S)) (.int .i64 ((i : Nat) : Int))))) (fun _ => (.int .u8 ((gB S i : Nat) : Int))) (fun _ => (by kernel_rfl)) (fun _ => (by kernel_rfl)) (fun _ w => idx_str (S := S) Try.underlying9 ((show ((i : Nat) : Int) = ((i : Nat) : Int) ∧ i < (S).length from ⟨rfl, (by have := of_decide_eq_false hb1; have := of_decide_eq_false hb2; have := of_decide_eq_true hb3; have := of_decide_eq_false hb4; have := hi; omega)⟩)).1 ((show ((i : Nat) : Int) = ((i : Nat) : Int) ∧ i < (S).length from ⟨rfl, (by have := of_decide_eq_false hb1; have := of_decide_eq_false hb2; have := of_decide_eq_true hb3; have := of_decide_eq_false hb4; have := hi; omega)⟩)).2 w)
  · exact o_as 3 (fun _ => (.bool (decide (((gB S i : Nat) : Int) < 48)))) (fun _ => (.bool false)) (fun _ _ => by kernel_rfl) (fun _ => congrArg Value.bool hb4)
  · exact o_run 4 [] [] (fun _ _ => []) (fun _ _ => by kernel_rfl)
  · exact o_run 5 [] [] (fun _ _ => []) (fun _ _ => by kernel_rfl)
  · exact o_run 6 [] [] (fun _ _ => []) (fun _ _ => by kernel_rfl)
  · exact o_sem 7 (fun _ => do pure (Next.value (← Instr.index 9 (.string (strB S)) (.int .i64 ((i : Nat) : Int))))) (fun _ => (.int .u8 ((gB S i : Nat) : Int))) (fun _ => (by kernel_rfl)) (fun _ => (by kernel_rfl)) (fun _ w => idx_str (S := S) Try.underlying9 ((show ((i : Nat) : Int) = ((i : Nat) : Int) ∧ i < (S).length from ⟨rfl, (by have := of_decide_eq_false hb1; have := of_decide_eq_false hb2; have := of_decide_eq_true hb3; have := of_decide_eq_false hb4; have := hi; omega)⟩)).1 ((show ((i : Nat) : Int) = ((i : Nat) : Int) ∧ i < (S).length from ⟨rfl, (by have := of_decide_eq_false hb1; have := of_decide_eq_false hb2; have := of_decide_eq_true hb3; have := of_decide_eq_false hb4; have := hi; omega)⟩)).2 w)
  · exact o_run 8 [] [] (fun _ _ => []) (fun _ _ => by kernel_rfl)
  · exact o_run 9 [] [] (fun _ _ => []) (fun _ _ => by kernel_rfl)
theorem rparse_any_r13 (S : List UInt8) (i : Nat) (a : Nat) (ovr : Bool) (ρ1 : Nat → Orc) (ρ6 : Nat → Orc) (w0 : World) (F : World → Prop) : Reg Try.prog 11 (regOps Try.f40 11) false 65 [(0, (.string (strB S))), (2, (pt (nb ρ1 0))), (4, (pt (nb ρ6 0))), (5, (.bool ovr)), (6, (.int .i64 ((i : Nat) : Int))), (33, (.bool true))] w0 [(nb ρ1 0, (.cells (cU 0) 24 (0, 0))), (nb ρ6 0, (.cells (cU a) 24 (0, 0)))] F
    (fun _ => [(0, (.string (strB S))), (2, (pt (nb ρ1 0))), (3, (.int .i64 7)), (4, (pt (nb ρ6 0))), (5, (.bool ovr)), (6, (.int .i64 ((i : Nat) : Int)))])
    (fun _ => [(nb ρ1 0, (.cells (cU 0) 24 (0, 0))), (nb ρ6 0, (.cells (cU a) 24 (0, 0)))]) := by
  refine reg_seq [0, 1, 3] [0, 2, 3, 4, 5, 6] 3
    (fun _ ι => ([(U 0), undef, (.int .i64 7)] : List Value).getD ι undef)
    (fun _ ι => ([{}, { puts := [(0, (.cells (cU 0) 24 (0, 0)))] }, {}] : List Eff).getD ι {})
    (by kernel_rfl) (by kernel_rfl) (fun _ => by kernel_rfl) (fun _ => by kernel_rfl) ⟨⟨⟨trivial, ?_⟩, ?_⟩, ?_⟩
  · exact o_run 0 [] [] (fun _ _ => []) (fun _ _ => by kernel_rfl)
  · exact o_run 1 [0] [] (fun _ _ => [nb ρ1 0, nb ρ1 0, nb ρ1 0, nb ρ1 0]) (fun _ _ => by kernel_rfl)
  · exact o_run 2 [] [] (fun _ _ => []) (fun _ _ => by kernel_rfl)
theorem rparse_any_r14 (S : List UInt8) (i : Nat) (a : Nat) (ovr : Bool) (haM : a < M) (ρ1 : Nat → Orc) (ρ6 : Nat → Orc) (w0 : World) (F : World → Prop) : Reg Try.prog 12 (regOps Try.f40 12) true 65 [(0, (.string (strB S))), (2, (pt (nb ρ1 0))), (4, (pt (nb ρ6 0))), (5, (.bool ovr)), (6, (.int .i64 ((i : Nat) : Int))), (33, (.bool false))] w0 [(nb ρ1 0, (.cells (cU 0) 24 (0, 0))), (nb ρ6 0, (.cells (cU a) 24 (0, 0)))] F
    (fun ρ => [(0, (.string (strB S))), (2, (pt (nb ρ1 0))), (4, (pt (nb ρ6 0))), (5, (.bool ovr)), (6, (.int .i64 ((i : Nat) : Int))), (7, (pt (nb ρ 6))), (8, (pt (nb ρ 7)))])
    (fun ρ => [(nb ρ1 0, (.cells (cU 0) 24 (0, 0))), (nb ρ6 0, (.cells (cU a) 24 (0, 0))), (nb ρ 6, (.cells (cU ((a * 10) / M)) 24 (0, 0))), (nb ρ 7, (.cells (cU ((a * 10) % M)) 24 (0, 0)))]) := by
  refine reg_drawn [0, 0, 3, 7, 15, 15, 0, 0, 223, 511] [0, 2, 4, 5, 6, 7, 8] 10
    (fun ρ ι => ([(U a), (U 10), (.tuple #[(U ((a * 10) / M)), (U ((a * 10) % M))]), (.tuple #[(U ((a * 10) / M)), (U ((a * 10) % M))]), (U ((a * 10) / M)), (U ((a * 10) % M)), (pt (nb ρ 6)), (pt (nb ρ 7)), undef, undef] : List Value).getD ι undef)
    (fun ρ ι => ([{}, {}, {}, {}, {}, {}, { news := [(nb ρ 6, (.cells (cU 0) 24 (0, 0)))] }, { news := [(nb ρ 7, (.cells (cU 0) 24 (0, 0)))] }, { puts := [(50, (.cells (cU ((a * 10) / M)) 24 (0, 0)))] }, { puts := [(58, (.cells (cU ((a * 10) % M)) 24 (0, 0)))] }] : List Eff).getD ι {})
    (by kernel_rfl) (by kernel_rfl) (by kernel_rfl) (fun _ => by kernel_rfl) (fun _ => by kernel_rfl) ⟨⟨⟨⟨⟨⟨⟨⟨⟨⟨trivial, ?_⟩, ?_⟩, ?_⟩, ?_⟩, ?_⟩, ?_⟩, ?_⟩, ?_⟩, ?_⟩, ?_⟩
  · exact o_run 0 [1] [] (fun _ _ => [nb ρ6 0, nb ρ6 0, nb ρ6 0, nb ρ6 0]) (fun _ _ => by kernel_rfl)
  · exact o_call 1 21 (fun _ => #[(.int .u64 10)]) (fun _ => (U 10)) (fun _ _ => by kernel_rfl) (fun _ w => (fun w => rfromuint_lit 10 w (by decide)) w)
  · exact o_call 2 36 (fun _ => #[(U a), (U 10)]) (fun _ => (.tuple #[(U ((a * 10) / M)), (U ((a * 10) % M))])) (fun _ _ => by kernel_rfl) (fun _ w => (fun w => rmul_any a 10 w haM (by decide +kernel)) w)
  · exact o_run 3 [] [] (fun _ _ => []) (fun _ _ => by kernel_rfl)
  · exact o_run 4 [] [] (fun _ _ => []) (fun _ _ => by kernel_rfl)
  · exact o_run 5 [] [] (fun _ _ => []) (fun _ _ => by kernel_rfl)
  · exact o_run 6 [] [] (fun _ _ => []) (fun _ _ => by kernel_rfl)
  · exact o_run 7 [] [] (fun _ _ => []) (fun _ _ => by kernel_rfl)
  · exact o_run 8 [50] [] (fun ρ _ => [nb ρ 6, nb ρ 6, nb ρ 6, nb ρ 6]) (fun _ _ => by kernel_rfl)
  · exact o_run 9 [58] [] (fun ρ _ => [nb ρ 7, nb ρ 7, nb ρ 7, nb ρ 7]) (fun _ _ => by kernel_rfl)
theorem rparse_any_r15 (S : List UInt8) (hb1 : (decide (100 < (((S).length : Nat) : Int))) = false) (hb2 : (decide (S = ([] : List UInt8))) = false) (i : Nat) (a : Nat) (ovr : Bool) (hi : i ≤ S.length) (hb3 : (decide (((i : Nat) : Int) < (((S).length : Nat) : Int))) = true) (hb4 : (decide (((gB S i : Nat) : Int) < 48)) = false) (hb5 : (decide (57 < ((gB S i : Nat) : Int))) = false) (ρ1 : Nat → Orc) (ρ6 : Nat → Orc) (ρ14 : Nat → Orc) (w0 : World) (F : World → Prop) : Reg Try.prog 13 (regOps Try.f40 13) true 65 [(0, (.string (strB S))), (2, (pt (nb ρ1 0))), (4, (pt (nb ρ6 0))), (5, (.bool ovr)), (6, (.int .i64 ((i : Nat) : Int))), (7, (pt (nb ρ14 6))), (8, (pt (nb ρ14 7)))] w0 [(nb ρ1 0, (.cells (cU 0) 24 (0, 0))), (nb ρ6 0, (.cells (cU a) 24 (0, 0))), (nb ρ14 6, (.cells (cU ((a * 10) / M)) 24 (0, 0))), (nb ρ14 7, (.cells (cU ((a * 10) % M)) 24 (0, 0)))] F
    (fun ρ => [(0, (.string (strB S))), (2, (pt (nb ρ1 0))), (4, (pt (nb ρ6 0))), (5, (.bool ovr)), (6, (.int .i64 ((i : Nat) : Int))), (7, (pt (nb ρ14 6))), (9, (pt (nb ρ 11))), (10, (.bool (decide (M ≤ ((a * 10) % M) + (dV S i)))))])
    (fun ρ => [(nb ρ1 0, (.cells (cU 0) 24 (0, 0))), (nb ρ6 0, (.cells (cU a) 24 (0, 0))), (nb ρ14 6, (.cells (cU ((a * 10) / M)) 24 (0, 0))), (nb ρ14 7, (.cells (cU ((a * 10) % M)) 24 (0, 0))), (nb ρ 11, (.cells (cU ((((a * 10) % M) + (dV S i)) % M)) 24 (0, 0)))]) := by
  refine reg_drawn [0, 0, 0, 6, 14, 30, 62, 127, 255, 511, 511, 0, 3071, 8191] [0, 2, 4, 5, 6, 7, 9, 10] 14
    (fun ρ ι => ([(U ((a * 10) % M)), (.string (strB S)), (.int .i64 ((i : Nat) : Int)), (.int .u8 ((gB S i : Nat) : Int)), (.int .u8 ((dV S i : Nat) : Int)), (.int .u64 ((dV S i : Nat) : Int)), (U (dV S i)), (.tuple #[(U ((((a * 10) % M) + (dV S i)) % M)), (.bool (decide (M ≤ ((a * 10) % M) + (dV S i))))]), (.tuple #[(U ((((a * 10) % M) + (dV S i)) % M)), (.bool (decide (M ≤ ((a * 10) % M) + (dV S i))))]), (U ((((a * 10) % M) + (dV S i)) % M)), (.bool (decide (M ≤ ((a * 10) % M) + (dV S i)))), (pt (nb ρ 11)), undef, (.bool (decide (M ≤ ((a * 10) % M) + (dV S i))))] : List Value).getD ι undef)
    (fun ρ ι => ([{}, {}, {}, {}, {}, {}, {}, {}, {}, {}, {}, { news := [(nb ρ 11, (.cells (cU 0) 24 (0, 0)))] }, { puts := [(92, (.cells (cU ((((a * 10) % M) + (dV S i)) % M)) 24 (0, 0)))] }, {}] : List Eff).getD ι {})
    (by kernel_rfl) (by kernel_rfl) (by kernel_rfl) (fun _ => by kernel_rfl) (fun _ => by kernel_rfl) ⟨⟨⟨⟨⟨⟨⟨⟨⟨⟨⟨⟨⟨⟨trivial, ?_⟩, ?_⟩, ?_⟩, ?_⟩, ?_⟩, ?_⟩, ?_⟩, ?_⟩, ?_⟩, ?_⟩, ?_⟩, ?_⟩, ?_⟩, ?_⟩
  · exact o_run 0 [3] [] (fun _ _ => [nb ρ14 7, nb ρ14 7, nb ρ14 7, nb ρ14 7]) (fun _ _ => by kernel_rfl)
  · exact o_run 1 [] [] (fun _ _ => []) (fun _ _ => by kernel_rfl)
  · exact o_run 2 [] [] (fun _ _ => []) (fun _ _ => by kernel_rfl)
  · exact o_sem 3 (fun _ => do pure (Next.value (← Instr.index 9 (.string (strB S)) (.int .i64 ((i : Nat) : Int))))) (fun _ => (.int .u8 ((gB S i : Nat) : Int))) (fun _ => (by kernel_rfl)) (fun _ => (by kernel_rfl)) (fun _ w => idx_str (S := S) Try.underlying9 ((show ((i : Nat) : Int) = ((i : Nat) : Int) ∧ i < (S).length from ⟨rfl, (by have := of_decide_eq_false hb1; have := of_decide_eq_false hb2; have := of_decide_eq_true hb3; have := of_decide_eq_false hb4; have := of_decide_eq_false hb5; have := hi; omega)⟩)).1 ((show ((i : Nat) : Int) = ((i : Nat) : Int) ∧ i < (S).length from ⟨rfl, (by have := of_decide_eq_false hb1; have := of_decide_eq_false hb2; have := of_decide_eq_true hb3; have := of_decide_eq_false hb4; have := of_decide_eq_false hb5; have := hi; omega)⟩)).2 w)
  · exact o_as 4 (fun _ => (.int .u8 (IntKind.u8.wrap (((gB S i : Nat) : Int) - 48)))) (fun _ => (.int .u8 ((dV S i : Nat) : Int))) (fun _ _ => by kernel_rfl) (fun _ => congrArg (Value.int .u8) (dV_wrap (is_d hb4 hb5)))
  · exact o_as 5 (fun _ => (.int .u64 (IntKind.u64.wrap (((dV S i : Nat) : Int))))) (fun _ => (.int .u64 ((dV S i : Nat) : Int))) (fun _ _ => by kernel_rfl) (fun _ => congrArg (Value.int .u64) (u64N (dV_W (is_d hb4 hb5))))
  · exact o_call 6 21 (fun _ => #[(.int .u64 ((dV S i : Nat) : Int))]) (fun _ => (U (dV S i))) (fun _ _ => by kernel_rfl) (fun _ w => (fun w => rfromuint_lit (dV S i) w (dV_W (is_d hb4 hb5))) w)
  · exact o_call 7 33 (fun _ => #[(U ((a * 10) % M)), (U (dV S i))]) (fun _ => (.tuple #[(U ((((a * 10) % M) + (dV S i)) % M)), (.bool (decide (M ≤ ((a * 10) % M) + (dV S i))))])) (fun _ _ => by kernel_rfl) (fun _ w => (fun w => radd_any ((a * 10) % M) (dV S i) w (modM_lt _) (dV_M (is_d hb4 hb5))) w)
  · exact o_run 8 [] [] (fun _ _ => []) (fun _ _ => by kernel_rfl)
  · exact o_run 9 [] [] (fun _ _ => []) (fun _ _ => by kernel_rfl)
  · exact o_run 10 [] [] (fun _ _ => []) (fun _ _ => by kernel_rfl)
  · exact o_run 11 [] [] (fun _ _ => []) (fun _ _ => by kernel_rfl)
  · exact o_run 12 [92] [] (fun ρ _ => [nb ρ 11, nb ρ 11, nb ρ 11, nb ρ 11]) (fun _ _ => by kernel_rfl)
  · exact o_run 13 [] [] (fun _ _ => []) (fun _ _ => by kernel_rfl)
theorem rparse_any_r16 (S : List UInt8) (i : Nat) (a : Nat) (ρ1 : Nat → Orc) (ρ6 : Nat → Orc) (ρ14 : Nat → Orc) (ρ15 : Nat → Orc) (w0 : World) (F : World → Prop) : Reg Try.prog 14 (regOps Try.f40 14) true 65 [(0, (.string (strB S))), (2, (pt (nb ρ1 0))), (4, (pt (nb ρ6 0))), (5, (.bool true)), (6, (.int .i64 ((i : Nat) : Int))), (7, (pt (nb ρ14 6))), (9, (pt (nb ρ15 11))), (10, (.bool (decide (M ≤ ((a * 10) % M) + (dV S i)))))] w0 [(nb ρ1 0, (.cells (cU 0) 24 (0, 0))), (nb ρ6 0, (.cells (cU a) 24 (0, 0))), (nb ρ14 6, (.cells (cU ((a * 10) / M)) 24 (0, 0))), (nb ρ14 7, (.cells (cU ((a * 10) % M)) 24 (0, 0))), (nb ρ15 11, (.cells (cU ((((a * 10) % M) + (dV S i)) % M)) 24 (0, 0)))] F
    (fun _ => [(0, (.string (strB S))), (2, (pt (nb ρ1 0))), (4, (pt (nb ρ6 0))), (5, (.bool true)), (6, (.int .i64 ((i : Nat) : Int)))])
    (fun _ => [(nb ρ1 0, (.cells (cU 0) 24 (0, 0))), (nb ρ6 0, (.cells (cU ((((a * 10) % M) + (dV S i)) % M)) 24 (0, 0))), (nb ρ14 6, (.cells (cU ((a * 10) / M)) 24 (0, 0))), (nb ρ14 7, (.cells (cU ((a * 10) % M)) 24 (0, 0))), (nb ρ15 11, (.cells (cU ((((a * 10) % M) + (dV S i)) % M)) 24 (0, 0)))]) := by
  refine reg_drawn [0, 0, 2, 6, 14, 30, 62, 126, 254, 510, 255, 2047] [0, 2, 4, 5, 6] 12
    (fun _ ι => ([(U ((((a * 10) % M) + (dV S i)) % M)), (.bool true), (.bool true), undef, (.bool true), (.bool true), undef, undef, undef, (.bool true), undef, (.bool true)] : List Value).getD ι undef)
    (fun _ ι => ([{}, {}, {}, {}, {}, {}, {}, {}, {}, {}, { puts := [(1, (.cells (cU ((((a * 10) % M) + (dV S i)) % M)) 24 (0, 0)))] }, {}] : List Eff).getD ι {})
    (by kernel_rfl) (by kernel_rfl) (by kernel_rfl) (fun _ => by kernel_rfl) (fun _ => by kernel_rfl) ⟨⟨⟨⟨⟨⟨⟨⟨⟨⟨⟨⟨trivial, ?_⟩, ?_⟩, ?_⟩, ?_⟩, ?_⟩, ?_⟩, ?_⟩, ?_⟩, ?_⟩, ?_⟩, ?_⟩, ?_⟩
  · exact o_run 0 [4] [] (fun _ _ => [nb ρ15 11, nb ρ15 11, nb ρ15 11, nb ρ15 11]) (fun _ _ => by kernel_rfl)
  · exact o_run 1 [] [] (fun _ _ => []) (fun _ _ => by kernel_rfl)
  · exact o_run 2 [] [] (fun _ _ => []) (fun _ _ => by kernel_rfl)
  · exact o_skip 3 (fun _ => by kernel_rfl)
  · exact o_run 4 [] [] (fun _ _ => []) (fun _ _ => by kernel_rfl)
  · exact o_run 5 [] [] (fun _ _ => []) (fun _ _ => by kernel_rfl)
  · exact o_skip 6 (fun _ => by kernel_rfl)
  · exact o_skip 7 (fun _ => by kernel_rfl)
  · exact o_skip 8 (fun _ => by kernel_rfl)
  · exact o_run 9 [] [] (fun _ _ => []) (fun _ _ => by kernel_rfl)
  · exact o_run 10 [1] [] (fun _ _ => [nb ρ6 0, nb ρ6 0, nb ρ6 0, nb ρ6 0]) (fun _ _ => by kernel_rfl)
  · exact o_run 11 [] [] (fun _ _ => []) (fun _ _ => by kernel_rfl)
theorem rparse_any_r17 (S : List UInt8) (hb1 : (decide (100 < (((S).length : Nat) : Int))) = false) (hb2 : (decide (S = ([] : List UInt8))) = false) (i : Nat) (a : Nat) (hi : i ≤ S.length) (hb3 : (decide (((i : Nat) : Int) < (((S).length : Nat) : Int))) = true) (hb4 : (decide (((gB S i : Nat) : Int) < 48)) = false) (hb5 : (decide (57 < ((gB S i : Nat) : Int))) = false) (ρ1 : Nat → Orc) (ρ6 : Nat → Orc) (ρ14 : Nat → Orc) (ρ15 : Nat → Orc) (w0 : World) (F : World → Prop) : Reg Try.prog 9 (regOps Try.f40 9) false 65 [(0, (.string (strB S))), (2, (pt (nb ρ1 0))), (4, (pt (nb ρ6 0))), (5, (.bool true)), (6, (.int .i64 ((i : Nat) : Int)))] w0 [(nb ρ1 0, (.cells (cU 0) 24 (0, 0))), (nb ρ6 0, (.cells (cU ((((a * 10) % M) + (dV S i)) % M)) 24 (0, 0))), (nb ρ14 6, (.cells (cU ((a * 10) / M)) 24 (0, 0))), (nb ρ14 7, (.cells (cU ((a * 10) % M)) 24 (0, 0))), (nb ρ15 11, (.cells (cU ((((a * 10) % M) + (dV S i)) % M)) 24 (0, 0)))] F
    (fun _ => [(0, (.string (strB S))), (2, (pt (nb ρ1 0))), (4, (pt (nb ρ6 0))), (5, (.bool true)), (6, (.int .i64 ((i + 1 : Nat) : Int)))])
    (fun _ => [(nb ρ1 0, (.cells (cU 0) 24 (0, 0))), (nb ρ6 0, (.cells (cU ((((a * 10) % M) + (dV S i)) % M)) 24 (0, 0))), (nb ρ14 6, (.cells (cU ((a * 10) / M)) 24 (0, 0))), (nb ρ14 7, (.cells (cU ((a * 10) % M)) 24 (0, 0))), (nb ρ15 11, (.cells (cU ((((a * 10) % M) + (dV S i)) % M)) 24 (0, 0)))]) := by
  refine reg_seq [0, 1, 3] [0, 2, 4, 5, 6] 3
    (fun _ ι => ([(.int .i64 ((i : Nat) : Int)), (.int .i64 ((i + 1 : Nat) : Int)), (.int .i64 ((i + 1 : Nat) : Int))] : List Value).getD ι undef)
    (fun _ ι => ([{}, {}, {}] : List Eff).getD ι {})
    (by kernel_rfl) (by kernel_rfl) (fun _ => by kernel_rfl) (fun _ => by kernel_rfl) ⟨⟨⟨trivial, ?_⟩, ?_⟩, ?_⟩
  · exact o_run 0 [] [] (fun _ _ => []) (fun _ _ => by kernel_rfl)
  · exact o_as 1 (fun _ => (.int .i64 (IntKind.i64.wrap (((i : Nat) : Int) + 1)))) (fun _ => (.int .i64 ((i + 1 : Nat) : Int))) (fun _ _ => by kernel_rfl) (fun _ => congrArg (Value.int .i64) (wrap_addN i 1 (by have := of_decide_eq_false hb1; have := of_decide_eq_false hb2; have := of_decide_eq_true hb3; have := of_decide_eq_false hb4; have := of_decide_eq_false hb5; have := hi; omega)))
  · exact o_run 2 [] [] (fun _ _ => []) (fun _ _ => by kernel_rfl)
theorem rparse_any_r18 (S : List UInt8) (i : Nat) (a : Nat) (ρ1 : Nat → Orc) (ρ6 : Nat → Orc) (ρ14 : Nat → Orc) (ρ15 : Nat → Orc) (w0 : World) (F : World → Prop) : Reg Try.prog 14 (regOps Try.f40 14) true 65 [(0, (.string (strB S))), (2, (pt (nb ρ1 0))), (4, (pt (nb ρ6 0))), (5, (.bool false)), (6, (.int .i64 ((i : Nat) : Int))), (7, (pt (nb ρ14 6))), (9, (pt (nb ρ15 11))), (10, (.bool true))] w0 [(nb ρ1 0, (.cells (cU 0) 24 (0, 0))), (nb ρ6 0, (.cells (cU a) 24 (0, 0))), (nb ρ14 6, (.cells (cU ((a * 10) / M)) 24 (0, 0))), (nb ρ14 7, (.cells (cU ((a * 10) % M)) 24 (0, 0))), (nb ρ15 11, (.cells (cU ((((a * 10) % M) + (dV S i)) % M)) 24 (0, 0)))] F
    (fun _ => [(0, (.string (strB S))), (2, (pt (nb ρ1 0))), (4, (pt (nb ρ6 0))), (5, (.bool true)), (6, (.int .i64 ((i : Nat) : Int)))])
    (fun _ => [(nb ρ1 0, (.cells (cU 0) 24 (0, 0))), (nb ρ6 0, (.cells (cU ((((a * 10) % M) + (dV S i)) % M)) 24 (0, 0))), (nb ρ14 6, (.cells (cU ((a * 10) / M)) 24 (0, 0))), (nb ρ14 7, (.cells (cU ((a * 10) % M)) 24 (0, 0))), (nb ρ15 11, (.cells (cU ((((a * 10) % M) + (dV S i)) % M)) 24 (0, 0)))]) := by
  refine reg_drawn [0, 0, 2, 6, 14, 30, 62, 126, 254, 510, 255, 2047] [0, 2, 4, 5, 6] 12
    (fun _ ι => ([(U ((((a * 10) % M) + (dV S i)) % M)), (.bool false), (.bool false), (.bool true), (.bool true), (.bool true), undef, undef, undef, (.bool true), undef, (.bool true)] : List Value).getD ι undef)
    (fun _ ι => ([{}, {}, {}, {}, {}, {}, {}, {}, {}, {}, { puts := [(1, (.cells (cU ((((a * 10) % M) + (dV S i)) % M)) 24 (0, 0)))] }, {}] : List Eff).getD ι {})
    (by kernel_rfl) (by kernel_rfl) (by kernel_rfl) (fun _ => by kernel_rfl) (fun _ => by kernel_rfl) ⟨⟨⟨⟨⟨⟨⟨⟨⟨⟨⟨⟨trivial, ?_⟩, ?_⟩, ?_⟩, ?_⟩, ?_⟩, ?_⟩, ?_⟩, ?_⟩, ?_⟩, ?_⟩, ?_⟩, ?_⟩
  · exact o_run 0 [4] [] (fun _ _ => [nb ρ15 11, nb ρ15 11, nb ρ15 11, nb ρ15 11]) (fun _ _ => by kernel_rfl)
  · exact o_run 1 [] [] (fun _ _ => []) (fun _ _ => by kernel_rfl)
  · exact o_run 2 [] [] (fun _ _ => []) (fun _ _ => by kernel_rfl)
  · exact o_run 3 [] [] (fun _ _ => []) (fun _ _ => by kernel_rfl)
  · exact o_run 4 [] [] (fun _ _ => []) (fun _ _ => by kernel_rfl)
  · exact o_run 5 [] [] (fun _ _ => []) (fun _ _ => by kernel_rfl)
  · exact o_skip 6 (fun _ => by kernel_rfl)
  · exact o_skip 7 (fun _ => by kernel_rfl)
  · exact o_skip 8 (fun _ => by kernel_rfl)
  · exact o_run 9 [] [] (fun _ _ => []) (fun _ _ => by kernel_rfl)
  · exact o_run 10 [1] [] (fun _ _ => [nb ρ6 0, nb ρ6 0, nb ρ6 0, nb ρ6 0]) (fun _ _ => by kernel_rfl)
  · exact o_run 11 [] [] (fun _ _ => []) (fun _ _ => by kernel_rfl)
theorem rparse_any_r19 (S : List UInt8) (hb1 : (decide (100 < (((S).length : Nat) : Int))) = false) (hb2 : (decide (S = ([] : List UInt8))) = false) (i : Nat) (a : Nat) (hi : i ≤ S.length) (hb3 : (decide (((i : Nat) : Int) < (((S).length : Nat) : Int))) = true) (hb4 : (decide (((gB S i : Nat) : Int) < 48)) = false) (hb5 : (decide (57 < ((gB S i : Nat) : Int))) = false) (hb7 : (decide (M ≤ ((a * 10) % M) + (dV S i))) = true) (ρ1 : Nat → Orc) (ρ6 : Nat → Orc) (ρ14 : Nat → Orc) (ρ15 : Nat → Orc) (w0 : World) (F : World → Prop) : Reg Try.prog 9 (regOps Try.f40 9) false 65 [(0, (.string (strB S))), (2, (pt (nb ρ1 0))), (4, (pt (nb ρ6 0))), (5, (.bool true)), (6, (.int .i64 ((i : Nat) : Int)))] w0 [(nb ρ1 0, (.cells (cU 0) 24 (0, 0))), (nb ρ6 0, (.cells (cU ((((a * 10) % M) + (dV S i)) % M)) 24 (0, 0))), (nb ρ14 6, (.cells (cU ((a * 10) / M)) 24 (0, 0))), (nb ρ14 7, (.cells (cU ((a * 10) % M)) 24 (0, 0))), (nb ρ15 11, (.cells (cU ((((a * 10) % M) + (dV S i)) % M)) 24 (0, 0)))] F
    (fun _ => [(0, (.string (strB S))), (2, (pt (nb ρ1 0))), (4, (pt (nb ρ6 0))), (5, (.bool true)), (6, (.int .i64 ((i + 1 : Nat) : Int)))])
    (fun _ => [(nb ρ1 0, (.cells (cU 0) 24 (0, 0))), (nb ρ6 0, (.cells (cU ((((a * 10) % M) + (dV S i)) % M)) 24 (0, 0))), (nb ρ14 6, (.cells (cU ((a * 10) / M)) 24 (0, 0))), (nb ρ14 7, (.cells (cU ((a * 10) % M)) 24 (0, 0))), (nb ρ15 11, (.cells (cU ((((a * 10) % M) + (dV S i)) % M)) 24 (0, 0)))]) := by
  refine reg_seq [0, 1, 3] [0, 2, 4, 5, 6] 3
    (fun _ ι => ([(.int .i64 ((i : Nat) : Int)), (.int .i64 ((i + 1 : Nat) : Int)), (.int .i64 ((i + 1 : Nat) : Int))] : List Value).getD ι undef)
    (fun _ ι => ([{}, {}, {}] : List Eff).getD ι {})
    (by kernel_rfl) (by kernel_rfl) (fun _ => by kernel_rfl) (fun _ => by kernel_rfl) ⟨⟨⟨trivial, ?_⟩, ?_⟩, ?_⟩
  · exact o_run 0 [] [] (fun _ _ => []) (fun _ _ => by kernel_rfl)
  · exact o_as 1 (fun _ => (.int .i64 (IntKind.i64.wrap (((i : Nat) : Int) + 1)))) (fun _ => (.int .i64 ((i + 1 : Nat) : Int))) (fun _ _ => by kernel_rfl) (fun _ => congrArg (Value.int .i64) (wrap_addN i 1 (by have := of_decide_eq_false hb1; have := of_decide_eq_false hb2; have := of_decide_eq_true hb3; have := of_decide_eq_false hb4; have := of_decide_eq_false hb5; have := of_decide_eq_true hb7; have := hi; omega)))
  · exact o_run 2 [] [] (fun _ _ => []) (fun _ _ => by kernel_rfl)
theorem rparse_any_r20 (S : List UInt8) (i : Nat) (a : Nat) (haM : a < M) (ρ1 : Nat → Orc) (ρ6 : Nat → Orc) (ρ14 : Nat → Orc) (ρ15 : Nat → Orc) (w0 : World) (F : World → Prop) : Reg Try.prog 14 (regOps Try.f40 14) true 65 [(0, (.string (strB S))), (2, (pt (nb ρ1 0))), (4, (pt (nb ρ6 0))), (5, (.bool false)), (6, (.int .i64 ((i : Nat) : Int))), (7, (pt (nb ρ14 6))), (9, (pt (nb ρ15 11))), (10, (.bool false))] w0 [(nb ρ1 0, (.cells (cU 0) 24 (0, 0))), (nb ρ6 0, (.cells (cU a) 24 (0, 0))), (nb ρ14 6, (.cells (cU ((a * 10) / M)) 24 (0, 0))), (nb ρ14 7, (.cells (cU ((a * 10) % M)) 24 (0, 0))), (nb ρ15 11, (.cells (cU ((((a * 10) % M) + (dV S i)) % M)) 24 (0, 0)))] F
    (fun _ => [(0, (.string (strB S))), (2, (pt (nb ρ1 0))), (4, (pt (nb ρ6 0))), (5, (.bool (!(decide ((a * 10) / M = 0))))), (6, (.int .i64 ((i : Nat) : Int)))])
    (fun _ => [(nb ρ1 0, (.cells (cU 0) 24 (0, 0))), (nb ρ6 0, (.cells (cU ((((a * 10) % M) + (dV S i)) % M)) 24 (0, 0))), (nb ρ14 6, (.cells (cU ((a * 10) / M)) 24 (0, 0))), (nb ρ14 7, (.cells (cU ((a * 10) % M)) 24 (0, 0))), (nb ρ15 11, (.cells (cU ((((a * 10) % M) + (dV S i)) % M)) 24 (0, 0)))]) := by
  refine reg_drawn [0, 0, 2, 6, 14, 30, 62, 126, 254, 510, 255, 2047] [0, 2, 4, 5, 6] 12
    (fun _ ι => ([(U ((((a * 10) % M) + (dV S i)) % M)), (.bool false), (.bool false), (.bool false), (.bool false), (.bool false), (U ((a * 10) / M)), (.bool (decide ((a * 10) / M = 0))), (.bool (!(decide ((a * 10) / M = 0)))), (.bool (!(decide ((a * 10) / M = 0)))), undef, (.bool (!(decide ((a * 10) / M = 0))))] : List Value).getD ι undef)
    (fun _ ι => ([{}, {}, {}, {}, {}, {}, {}, {}, {}, {}, { puts := [(1, (.cells (cU ((((a * 10) % M) + (dV S i)) % M)) 24 (0, 0)))] }, {}] : List Eff).getD ι {})
    (by kernel_rfl) (by kernel_rfl) (by kernel_rfl) (fun _ => by kernel_rfl) (fun _ => by kernel_rfl) ⟨⟨⟨⟨⟨⟨⟨⟨⟨⟨⟨⟨trivial, ?_⟩, ?_⟩, ?_⟩, ?_⟩, ?_⟩, ?_⟩, ?_⟩, ?_⟩, ?_⟩, ?_⟩, ?_⟩, ?_⟩
  · exact o_run 0 [4] [] (fun _ _ => [nb ρ15 11, nb ρ15 11, nb ρ15 11, nb ρ15 11]) (fun _ _ => by kernel_rfl)
  · exact o_run 1 [] [] (fun _ _ => []) (fun _ _ => by kernel_rfl)
  · exact o_run 2 [] [] (fun _ _ => []) (fun _ _ => by kernel_rfl)
  · exact o_run 3 [] [] (fun _ _ => []) (fun _ _ => by kernel_rfl)
  · exact o_run 4 [] [] (fun _ _ => []) (fun _ _ => by kernel_rfl)
  · exact o_run 5 [] [] (fun _ _ => []) (fun _ _ => by kernel_rfl)
  · exact o_run 6 [2] [] (fun _ _ => [nb ρ14 6, nb ρ14 6, nb ρ14 6, nb ρ14 6]) (fun _ _ => by kernel_rfl)
  · exact o_call 7 57 (fun _ => #[(U ((a * 10) / M))]) (fun _ => (.bool (decide ((a * 10) / M = 0)))) (fun _ _ => by kernel_rfl) (fun _ w => (fun w => rzero_any ((a * 10) / M) w (mulhi_lt haM (by decide +kernel))) w)
  · exact o_run 8 [] [] (fun _ _ => []) (fun _ _ => by kernel_rfl)
  · exact o_run 9 [] [] (fun _ _ => []) (fun _ _ => by kernel_rfl)
  · exact o_run 10 [1] [] (fun _ _ => [nb ρ6 0, nb ρ6 0, nb ρ6 0, nb ρ6 0]) (fun _ _ => by kernel_rfl)
  · exact o_run 11 [] [] (fun _ _ => []) (fun _ _ => by kernel_rfl)
theorem rparse_any_r21 (S : List UInt8) (hb1 : (decide (100 < (((S).length : Nat) : Int))) = false) (hb2 : (decide (S = ([] : List UInt8))) = false) (i : Nat) (a : Nat) (hi : i ≤ S.length) (hb3 : (decide (((i : Nat) : Int) < (((S).length : Nat) : Int))) = true) (hb4 : (decide (((gB S i : Nat) : Int) < 48)) = false) (hb5 : (decide (57 < ((gB S i : Nat) : Int))) = false) (hb7 : (decide (M ≤ ((a * 10) % M) + (dV S i))) = false) (ρ1 : Nat → Orc) (ρ6 : Nat → Orc) (ρ14 : Nat → Orc) (ρ15 : Nat → Orc) (w0 : World) (F : World → Prop) : Reg Try.prog 9 (regOps Try.f40 9) false 65 [(0, (.string (strB S))), (2, (pt (nb ρ1 0))), (4, (pt (nb ρ6 0))), (5, (.bool (!(decide ((a * 10) / M = 0))))), (6, (.int .i64 ((i : Nat) : Int)))] w0 [(nb ρ1 0, (.cells (cU 0) 24 (0, 0))), (nb ρ6 0, (.cells (cU ((((a * 10) % M) + (dV S i)) % M)) 24 (0, 0))), (nb ρ14 6, (.cells (cU ((a * 10) / M)) 24 (0, 0))), (nb ρ14 7, (.cells (cU ((a * 10) % M)) 24 (0, 0))), (nb ρ15 11, (.cells (cU ((((a * 10) % M) + (dV S i)) % M)) 24 (0, 0)))] F
    (fun _ => [(0, (.string (strB S))), (2, (pt (nb ρ1 0))), (4, (pt (nb ρ6 0))), (5, (.bool (!(decide ((a * 10) / M = 0))))), (6, (.int .i64 ((i + 1 : Nat) : Int)))])
    (fun _ => [(nb ρ1 0, (.cells (cU 0) 24 (0, 0))), (nb ρ6 0, (.cells (cU ((((a * 10) % M) + (dV S i)) % M)) 24 (0, 0))), (nb ρ14 6, (.cells (cU ((a * 10) / M)) 24 (0, 0))), (nb ρ14 7, (.cells (cU ((a * 10) % M)) 24 (0, 0))), (nb ρ15 11, (.cells (cU ((((a * 10) % M) + (dV S i)) % M)) 24 (0, 0)))]) := by
  refine reg_seq [0, 1, 3] [0, 2, 4, 5, 6] 3
    (fun _ ι => ([(.int .i64 ((i : Nat) : Int)), (.int .i64 ((i + 1 : Nat) : Int)), (.int .i64 ((i + 1 : Nat) : Int))] : List Value).getD ι undef)
    (fun _ ι => ([{}, {}, {}] : List Eff).getD ι {})
    (by kernel_rfl) (by kernel_rfl) (fun _ => by kernel_rfl) (fun _ => by kernel_rfl) ⟨⟨⟨trivial, ?_⟩, ?_⟩, ?_⟩
  · exact o_run 0 [] [] (fun _ _ => []) (fun _ _ => by kernel_rfl)
  · exact o_as 1 (fun _ => (.int .i64 (IntKind.i64.wrap (((i : Nat) : Int) + 1)))) (fun _ => (.int .i64 ((i + 1 : Nat) : Int))) (fun _ _ => by kernel_rfl) (fun _ => congrArg (Value.int .i64) (wrap_addN i 1 (by have := of_decide_eq_false hb1; have := of_decide_eq_false hb2; have := of_decide_eq_true hb3; have := of_decide_eq_false hb4; have := of_decide_eq_false hb5; have := of_decide_eq_false hb7; have := hi; omega)))
  · exact o_run 2 [] [] (fun _ _ => []) (fun _ _ => by kernel_rfl)
theorem rparse_any_r22 (S : List UInt8) (i : Nat) (a : Nat) (ovr : Bool) (ρ1 : Nat → Orc) (ρ6 : Nat → Orc) (w0 : World) (F : World → Prop) : Reg Try.prog 15 (regOps Try.f40 15) false 65 [(0, (.string (strB S))), (2, (pt (nb ρ1 0))), (4, (pt (nb ρ6 0))), (5, (.bool ovr)), (6, (.int .i64 ((i : Nat) : Int))), (21, (.bool false))] w0 [(nb ρ1 0, (.cells (cU 0) 24 (0, 0))), (nb ρ6 0, (.cells (cU a) 24 (0, 0)))] F
    (fun _ => [(2, (pt (nb ρ1 0))), (4, (pt (nb ρ6 0))), (62, (.bool ovr))])
    (fun _ => [(nb ρ1 0, (.cells (cU 0) 24 (0, 0))), (nb ρ6 0, (.cells (cU a) 24 (0, 0)))]) := by
  refine reg_seq [0] [2, 4, 62] 1
    (fun _ ι => ([(.bool ovr)] : List Value).getD ι undef)
    (fun _ ι => ([{}] : List Eff).getD ι {})
    (by kernel_rfl) (by kernel_rfl) (fun _ => by kernel_rfl) (fun _ => by kernel_rfl) ⟨trivial, ?_⟩
  · exact o_run 0 [] [] (fun _ _ => []) (fun _ _ => by kernel_rfl)
theorem rparse_any_r23 (a : Nat) (ρ1 : Nat → Orc) (ρ6 : Nat → Orc) (w0 : World) (F : World → Prop) : Reg Try.prog 16 (regOps Try.f40 16) false 65 [(2, (pt (nb ρ1 0))), (4, (pt (nb ρ6 0))), (62, (.bool true))] w0 [(nb ρ1 0, (.cells (cU 0) 24 (0, 0))), (nb ρ6 0, (.cells (cU a) 24 (0, 0)))] F
    (fun _ => [(2, (pt (nb ρ1 0))), (3, (.int .i64 5)), (4, (pt (nb ρ6 0)))])
    (fun _ => [(nb ρ1 0, (.cells (cU 0) 24 (0, 0))), (nb ρ6 0, (.cells (cU a) 24 (0, 0)))]) := by
  refine reg_seq [0, 1, 3] [2, 3, 4] 3
    (fun _ ι => ([(U 0), undef, (.int .i64 5)] : List Value).getD ι undef)
    (fun _ ι => ([{}, { puts := [(0, (.cells (cU 0) 24 (0, 0)))] }, {}] : List Eff).getD ι {})
    (by kernel_rfl) (by kernel_rfl) (fun _ => by kernel_rfl) (fun _ => by kernel_rfl) ⟨⟨⟨trivial, ?_⟩, ?_⟩, ?_⟩
  · exact o_run 0 [] [] (fun _ _ => []) (fun _ _ => by kernel_rfl)
  · exact o_run 1 [0] [] (fun _ _ => [nb ρ1 0, nb ρ1 0, nb ρ1 0, nb ρ1 0]) (fun _ _ => by kernel_rfl)
  · exact o_run 2 [] [] (fun _ _ => []) (fun _ _ => by kernel_rfl)
theorem rparse_any_r24 (a : Nat) (ρ1 : Nat → Orc) (ρ6 : Nat → Orc) (w0 : World) (F : World → Prop) : Reg Try.prog 17 (regOps Try.f40 17) false 65 [(2, (pt (nb ρ1 0))), (4, (pt (nb ρ6 0))), (62, (.bool false))] w0 [(nb ρ1 0, (.cells (cU 0) 24 (0, 0))), (nb ρ6 0, (.cells (cU a) 24 (0, 0)))] F
    (fun _ => [(2, (pt (nb ρ1 0))), (3, (.int .i64 0))])
    (fun _ => [(nb ρ1 0, (.cells (cU a) 24 (0, 0))), (nb ρ6 0, (.cells (cU a) 24 (0, 0)))]) := by
  refine reg_seq [0, 1, 3] [2, 3] 3
    (fun _ ι => ([(U a), undef, (.int .i64 0)] : List Value).getD ι undef)
    (fun _ ι => ([{}, { puts := [(0, (.cells (cU a) 24 (0, 0)))] }, {}] : List Eff).getD ι {})
    (by kernel_rfl) (by kernel_rfl) (fun _ => by kernel_rfl) (fun _ => by kernel_rfl) ⟨⟨⟨trivial, ?_⟩, ?_⟩, ?_⟩
  · exact o_run 0 [1] [] (fun _ _ => [nb ρ6 0, nb ρ6 0, nb ρ6 0, nb ρ6 0]) (fun _ _ => by kernel_rfl)
  · exact o_run 1 [0] [] (fun _ _ => [nb ρ1 0, nb ρ1 0, nb ρ1 0, nb ρ1 0]) (fun _ _ => by kernel_rfl)
  · exact o_run 2 [] [] (fun _ _ => []) (fun _ _ => by kernel_rfl)
theorem rparse_any (S : List UInt8) (w0 : World) : Calls Try.prog 40 #[(.string (strB S))] w0 (fun ε w' => ε = .returned (.tuple #[(U (parseV S)), (.int .i64 (parseE S))]) ∧ Below w0.heap.size w0 w') := by
  refine Calls.of_ok (n := 65) (F := (fun _ => True)) Try.func40 rfl rfl rfl (by simp) (persTrue (fun _ => trivial)) ?_
  refine ok_seq_r (by kernel_rfl) (rparse_any_r1 S _ _) (fun ρ1 => ?_)
  refine ok_seq ?_
  refine ok_seq_r (by kernel_rfl) (rparse_any_r2 S ρ1 _ _) (fun _ => ?_)
  refine ok_cond (b := decide (100 < (((S).length : Nat) : Int))) (by kernel_rfl) (fun hb1 => ?_) (fun hb1 => ?_)
  ·
    rw [hb1]
    refine ok_seq_r (by kernel_rfl) (rparse_any_r3 S ρ1 _ _) (fun _ => ?_)
    refine ok_ret ?_
    refine mt_then_r ?_
    exact meets_ret (v := (.tuple #[(U 0), (.int .i64 4)])) [0, 0, 0, 0] (dup [nb ρ1 0, nb ρ1 0, nb ρ1 0, nb ρ1 0]) (by kernel_rfl) (by kernel_rfl) (eqs_dup _) (fun _ hS => ⟨par_bad (by decide) (par_limit (by have := of_decide_eq_true hb1; omega)), hS.below⟩)
  ·
    rw [hb1]
    refine ok_skip ?_
    refine mt_then ?_
    refine ok_seq ?_
    refine ok_seq_r (by kernel_rfl) (rparse_any_r4 S ρ1 _ _) (fun _ => ?_)
    refine ok_cond (b := decide (S = ([] : List UInt8))) (by kernel_rfl) (fun hb2 => ?_) (fun hb2 => ?_)
    ·
      rw [hb2]
      refine ok_seq_r (by kernel_rfl) (rparse_any_r5 S ρ1 _ _) (fun _ => ?_)
      refine ok_ret ?_
      refine mt_then_r ?_
      exact meets_ret (v := (.tuple #[(U 0), (.int .i64 7)])) [0, 0, 0, 0] (dup [nb ρ1 0, nb ρ1 0, nb ρ1 0, nb ρ1 0]) (by kernel_rfl) (by kernel_rfl) (eqs_dup _) (fun _ hS => ⟨par_bad (by decide) (par_empty hb2), hS.below⟩)
    ·
      rw [hb2]
      refine ok_skip ?_
      refine mt_then ?_
      refine ok_seq_r (by kernel_rfl) (rparse_any_r6 S ρ1 _ _) (fun ρ6 => ?_)
      refine ok_seq_r (by kernel_rfl) (rparse_any_r7 S ρ1 ρ6 _ _) (fun _ => ?_)
      refine ok_seq ?_
      refine ok_seq_r (by kernel_rfl) (rparse_any_r8 S ρ1 ρ6 _ _) (fun _ => ?_)
      refine ok_block ?_
      refine ok_loop (σ := Nat × Nat × Bool) (fun ⟨i, _, ovr⟩ => [(0, (.string (strB S))), (2, (pt (nb ρ1 0))), (4, (pt (nb ρ6 0))), (5, (.bool ovr)), (6, (.int .i64 ((i : Nat) : Int)))]) (fun ⟨_, a, _⟩ => [(nb ρ1 0, (.cells (cU 0) 24 (0, 0))), (nb ρ6 0, (.cells (cU a) 24 (0, 0)))]) (fun ⟨i, _, _⟩ => S.length - i)
        (fun ⟨i, a, ovr⟩ => (i ≤ S.length) ∧ (allD S i) ∧ (a = decV S i % M) ∧ (a < M) ∧ (ovr = decide (M ≤ decV S i))) (0, 0, false) (⟨Nat.zero_le _, allD_zero S, (Nat.zero_mod M).symm, M_pos, (decide_eq_false (by rw [decV]; exact Nat.not_le_of_lt M_pos)).symm⟩) (by kernel_rfl) (.cons_cons _ (.cons_cons _ .slnil)) ?_
      rintro ⟨i, a, ovr⟩ ⟨hi, hD, ha, haM, ho⟩
      change Ok Try.prog _ _ 65 [(0, (.string (strB S))), (2, (pt (nb ρ1 0))), (4, (pt (nb ρ6 0))), (5, (.bool ovr)), (6, (.int .i64 ((i : Nat) : Int)))] _ [(nb ρ1 0, (.cells (cU 0) 24 (0, 0))), (nb ρ6 0, (.cells (cU a) 24 (0, 0)))] (fun _ => True)
      refine ok_seq ?_
      refine ok_seq_r (by kernel_rfl) (rparse_any_r9 S i a ovr ρ1 ρ6 _ _) (fun _ => ?_)
      refine ok_cond (b := decide (((i : Nat) : Int) < (((S).length : Nat) : Int))) (by kernel_rfl) (fun hb3 => ?_) (fun hb3 => ?_)
      ·
        rw [hb3]
        refine ok_skip ?_
        refine mt_then ?_
        refine ok_seq ?_
        refine ok_block ?_
        refine ok_seq ?_
        rcases Bool.eq_false_or_eq_true (decide (((gB S i : Nat) : Int) < 48)) with hb4 | hb4
        ·
          refine ok_seq_r (by kernel_rfl) (rparse_any_r10 S hb1 hb2 i a ovr hi hb3 hb4 ρ1 ρ6 _ _) (fun _ => ?_)
          refine ok_yes (by kernel_rfl) ?_
          refine ok_seq_r (by kernel_rfl) (rparse_any_r11 S i a ovr ρ1 ρ6 _ _) (fun _ => ?_)
          refine ok_ret ?_
          refine mt_then_r ?_
          refine mt_block_r ?_
          refine mt_then_r ?_
          refine mt_then_r ?_
          refine mt_block_r ?_
          refine mt_then_r ?_
          exact meets_ret (v := (.tuple #[(U 0), (.int .i64 7)])) [0, 0, 0, 0] (dup [nb ρ1 0, nb ρ1 0, nb ρ1 0, nb ρ1 0]) (by kernel_rfl) (by kernel_rfl) (eqs_dup _) (fun _ hS => ⟨par_bad (by decide) (par_text (by have := of_decide_eq_false hb1; have := of_decide_eq_false hb2; have := of_decide_eq_true hb3; have := of_decide_eq_true hb4; have := hi; omega) hb2 (by have := of_decide_eq_false hb1; have := of_decide_eq_false hb2; have := of_decide_eq_true hb3; have := of_decide_eq_true hb4; have := hi; omega) (no_low hb4)), hS.below⟩)
        ·
          refine ok_seq_r (by kernel_rfl) (rparse_any_r12 S hb1 hb2 i a ovr hi hb3 hb4 ρ1 ρ6 _ _) (fun _ => ?_)
          refine ok_cond (b := decide (57 < ((gB S i : Nat) : Int))) (by kernel_rfl) (fun hb5 => ?_) (fun hb5 => ?_)
          ·
            rw [hb5]
            refine ok_seq_r (by kernel_rfl) (rparse_any_r13 S i a ovr ρ1 ρ6 _ _) (fun _ => ?_)
            refine ok_ret ?_
            refine mt_then_r ?_
            refine mt_block_r ?_
            refine mt_then_r ?_
            refine mt_then_r ?_
            refine mt_block_r ?_
            refine mt_then_r ?_
            exact meets_ret (v := (.tuple #[(U 0), (.int .i64 7)])) [0, 0, 0, 0] (dup [nb ρ1 0, nb ρ1 0, nb ρ1 0, nb ρ1 0]) (by kernel_rfl) (by kernel_rfl) (eqs_dup _) (fun _ hS => ⟨par_bad (by decide) (par_text (by have := of_decide_eq_false hb1; have := of_decide_eq_false hb2; have := of_decide_eq_true hb3; have := of_decide_eq_false hb4; have := of_decide_eq_true hb5; have := hi; omega) hb2 (by have := of_decide_eq_false hb1; have := of_decide_eq_false hb2; have := of_decide_eq_true hb3; have := of_decide_eq_false hb4; have := of_decide_eq_true hb5; have := hi; omega) (no_high hb5)), hS.below⟩)
          ·
            rw [hb5]
            refine ok_skip ?_
            refine mt_then ?_
            refine ok_seq_r (by kernel_rfl) (rparse_any_r14 S i a ovr haM ρ1 ρ6 _ _) (fun ρ14 => ?_)
            refine ok_seq_r (by kernel_rfl) (rparse_any_r15 S hb1 hb2 i a ovr hi hb3 hb4 hb5 ρ1 ρ6 ρ14 _ _) (fun ρ15 => ?_)
            rcases Bool.eq_false_or_eq_true (ovr) with hb6 | hb6
            ·
              rw [hb6]
              refine ok_r (by kernel_rfl) (rparse_any_r16 S i a ρ1 ρ6 ρ14 ρ15 _ _) (fun _ => ?_)
              refine mt_block_n ?_
              refine mt_then ?_
              refine ok_r (by kernel_rfl) (rparse_any_r17 S hb1 hb2 i a hi hb3 hb4 hb5 ρ1 ρ6 ρ14 ρ15 _ _) (fun _ => ?_)
              exact mt_round (i + 1, (((a * 10) % M) + (dV S i)) % M, true) (by show S.length - (i + 1) < S.length - i; have := of_decide_eq_false hb1; have := of_decide_eq_false hb2; have := of_decide_eq_true hb3; have := of_decide_eq_false hb4; have := of_decide_eq_false hb5; have := hi; omega) (⟨(by have := of_decide_eq_false hb1; have := of_decide_eq_false hb2; have := of_decide_eq_true hb3; have := of_decide_eq_false hb4; have := of_decide_eq_false hb5; have := hi; omega), allD_next hD hb4 hb5, over_next ha, modM_lt _, over_t ho hb6⟩) (by kernel_rfl) (.cons_cons _ (.cons_cons _ (.cons _ (.cons _ (.cons _ .slnil)))))
            ·
              rw [hb6]
              rcases Bool.eq_false_or_eq_true (decide (M ≤ ((a * 10) % M) + (dV S i))) with hb7 | hb7
              ·
                rw [hb7]
                refine ok_r (by kernel_rfl) (rparse_any_r18 S i a ρ1 ρ6 ρ14 ρ15 _ _) (fun _ => ?_)
                refine mt_block_n ?_
                refine mt_then ?_
                refine ok_r (by kernel_rfl) (rparse_any_r19 S hb1 hb2 i a hi hb3 hb4 hb5 hb7 ρ1 ρ6 ρ14 ρ15 _ _) (fun _ => ?_)
                exact mt_round (i + 1, (((a * 10) % M) + (dV S i)) % M, true) (by show S.length - (i + 1) < S.length - i; have := of_decide_eq_false hb1; have := of_decide_eq_false hb2; have := of_decide_eq_true hb3; have := of_decide_eq_false hb4; have := of_decide_eq_false hb5; have := of_decide_eq_true hb7; have := hi; omega) (⟨(by have := of_decide_eq_false hb1; have := of_decide_eq_false hb2; have := of_decide_eq_true hb3; have := of_decide_eq_false hb4; have := of_decide_eq_false hb5; have := of_decide_eq_true hb7; have := hi; omega), allD_next hD hb4 hb5, over_next ha, modM_lt _, over_c ha ho hb6 hb7⟩) (by kernel_rfl) (.cons_cons _ (.cons_cons _ (.cons _ (.cons _ (.cons _ .slnil)))))
              ·
                rw [hb7]
                refine ok_r (by kernel_rfl) (rparse_any_r20 S i a haM ρ1 ρ6 ρ14 ρ15 _ _) (fun _ => ?_)
                refine mt_block_n ?_
                refine mt_then ?_
                refine ok_r (by kernel_rfl) (rparse_any_r21 S hb1 hb2 i a hi hb3 hb4 hb5 hb7 ρ1 ρ6 ρ14 ρ15 _ _) (fun _ => ?_)
                exact mt_round (i + 1, (((a * 10) % M) + (dV S i)) % M, !(decide ((a * 10) / M = 0))) (by show S.length - (i + 1) < S.length - i; have := of_decide_eq_false hb1; have := of_decide_eq_false hb2; have := of_decide_eq_true hb3; have := of_decide_eq_false hb4; have := of_decide_eq_false hb5; have := of_decide_eq_false hb7; have := hi; omega) (⟨(by have := of_decide_eq_false hb1; have := of_decide_eq_false hb2; have := of_decide_eq_true hb3; have := of_decide_eq_false hb4; have := of_decide_eq_false hb5; have := of_decide_eq_false hb7; have := hi; omega), allD_next hD hb4 hb5, over_next ha, modM_lt _, over_h ha ho hb6 hb7⟩) (by kernel_rfl) (.cons_cons _ (.cons_cons _ (.cons _ (.cons _ (.cons _ .slnil)))))
      ·
        rw [hb3]
        refine ok_exit ?_
        refine mt_then_e ?_
        refine mt_then_e ?_
        refine mt_block_h ?_
        refine mt_then ?_
        refine ok_seq ?_
        refine ok_seq_r (by kernel_rfl) (rparse_any_r22 S i a ovr ρ1 ρ6 _ _) (fun _ => ?_)
        refine ok_cond (b := ovr) (by kernel_rfl) (fun hb8 => ?_) (fun hb8 => ?_)
        ·
          rw [hb8]
          refine ok_seq_r (by kernel_rfl) (rparse_any_r23 a ρ1 ρ6 _ _) (fun _ => ?_)
          refine ok_ret ?_
          refine mt_then_r ?_
          exact meets_ret (v := (.tuple #[(U 0), (.int .i64 5)])) [0, 0, 0, 0] (dup [nb ρ1 0, nb ρ1 0, nb ρ1 0, nb ρ1 0]) (by kernel_rfl) (by kernel_rfl) (eqs_dup _) (fun _ hS => ⟨par_bad (by decide) (par_over (by have := of_decide_eq_false hb1; have := of_decide_eq_false hb2; have := of_decide_eq_false hb3; have := hi; omega) hb2 (allD_end hD (by have := of_decide_eq_false hb1; have := of_decide_eq_false hb2; have := of_decide_eq_false hb3; have := hi; omega)) hi ho hb8), hS.below⟩)
        ·
          rw [hb8]
          refine ok_skip ?_
          refine mt_then ?_
          refine ok_seq_r (by kernel_rfl) (rparse_any_r24 a ρ1 ρ6 _ _) (fun _ => ?_)
          refine ok_ret ?_
          exact meets_ret (v := (.tuple #[(U a), (.int .i64 0)])) [0, 0, 0, 0] (dup [nb ρ1 0, nb ρ1 0, nb ρ1 0, nb ρ1 0]) (by kernel_rfl) (by kernel_rfl) (eqs_dup _) (fun _ hS => ⟨par_ok (by have := of_decide_eq_false hb1; have := of_decide_eq_false hb2; have := of_decide_eq_false hb3; have := hi; omega) hb2 (allD_end hD (by have := of_decide_eq_false hb1; have := of_decide_eq_false hb2; have := of_decide_eq_false hb3; have := hi; omega)) (over_lt ha ho hb8) (by have := of_decide_eq_false hb1; have := of_decide_eq_false hb2; have := of_decide_eq_false hb3; have := hi; omega) haM, hS.below⟩)
theorem rtext0_any_r1 (A : Nat) (w0 : World) (F : World → Prop) : Reg Try.prog 0 (regOps Try.f42 0) false 27 [(0, (U A))] w0 [] F
    (fun ρ => [(1, (pt (nb ρ 0))), (2, (.string ⟨#[]⟩))])
    (fun ρ => [(nb ρ 0, (.cells (cU A) 24 (0, 0)))]) := by
  refine reg_seq [0, 1] [1, 2] 2
    (fun ρ ι => ([(pt (nb ρ 0)), (.string ⟨#[]⟩)] : List Value).getD ι undef)
    (fun ρ ι => ([{ news := [(nb ρ 0, (.cells (cU A) 24 (0, 0)))] }, {}] : List Eff).getD ι {})
    (by kernel_rfl) (by kernel_rfl) (fun _ => by kernel_rfl) (fun _ => by kernel_rfl) ⟨⟨trivial, ?_⟩, ?_⟩
  · exact o_run 0 [] [] (fun _ _ => []) (fun _ _ => by kernel_rfl)
  · exact o_run 1 [] [] (fun _ _ => []) (fun _ _ => by kernel_rfl)
theorem rtext0_any_r2 (A : Nat) (ρ1 : Nat → Orc) (w0 : World) (F : World → Prop) : Reg Try.prog 1 (regOps Try.f42 1) false 27 [(1, (pt (nb ρ1 0))), (2, (.string ⟨#[]⟩))] w0 [(nb ρ1 0, (.cells (cU A) 24 (0, 0)))] F
    (fun _ => [(1, (pt (nb ρ1 0))), (2, (.string ⟨#[]⟩)), (3, (.string ⟨#[]⟩))])
    (fun _ => [(nb ρ1 0, (.cells (cU A) 24 (0, 0)))]) := by
  refine reg_seq [0] [1, 2, 3] 1
    (fun _ ι => ([(.string ⟨#[]⟩)] : List Value).getD ι undef)
    (fun _ ι => ([{}] : List Eff).getD ι {})
    (by kernel_rfl) (by kernel_rfl) (fun _ => by kernel_rfl) (fun _ => by kernel_rfl) ⟨trivial, ?_⟩
  · exact o_run 0 [] [] (fun _ _ => []) (fun _ _ => by kernel_rfl)
theorem rtext0_any_r3 (A : Nat) (i : Nat) (a : Nat) (haM : a < M) (ρ1 : Nat → Orc) (w0 : World) (F : World → Prop) : Reg Try.prog 2 (regOps Try.f42 2) true 27 [(1, (pt (nb ρ1 0))), (3, (.string (strB (digL A i))))] w0 [(nb ρ1 0, (.cells (cU a) 24 (0, 0)))] F
    (fun ρ => [(1, (pt (nb ρ1 0))), (3, (.string (strB (digL A i)))), (4, (pt (nb ρ 8))), (5, (pt (nb ρ 9)))])
    (fun ρ => [(nb ρ1 0, (.cells (cU a) 24 (0, 0))), (nb ρ 8, (.cells (cU (divQ 0 a 10)) 24 (0, 0))), (nb ρ 9, (.cells (cU (divR 0 a 10)) 24 (0, 0)))]) := by
  refine reg_drawn [0, 0, 0, 7, 15, 31, 31, 31, 0, 0, 831, 1919, 4095] [1, 3, 4, 5] 13
    (fun ρ ι => ([(U 0), (U a), (U 10), (.tuple #[(U (divQ 0 a 10)), (U (divR 0 a 10)), (.bool (decide (0 < 10)))]), (.tuple #[(U (divQ 0 a 10)), (U (divR 0 a 10)), (.bool (decide (0 < 10)))]), (U (divQ 0 a 10)), (U (divR 0 a 10)), (.bool (decide (0 < 10))), (pt (nb ρ 8)), (pt (nb ρ 9)), undef, undef, (.bool (decide (0 < 10)))] : List Value).getD ι undef)
    (fun ρ ι => ([{}, {}, {}, {}, {}, {}, {}, {}, { news := [(nb ρ 8, (.cells (cU 0) 24 (0, 0)))] }, { news := [(nb ρ 9, (.cells (cU 0) 24 (0, 0)))] }, { puts := [(65, (.cells (cU (divQ 0 a 10)) 24 (0, 0)))] }, { puts := [(73, (.cells (cU (divR 0 a 10)) 24 (0, 0)))] }, {}] : List Eff).getD ι {})
    (by kernel_rfl) (by kernel_rfl) (by kernel_rfl) (fun _ => by kernel_rfl) (fun _ => by kernel_rfl) ⟨⟨⟨⟨⟨⟨⟨⟨⟨⟨⟨⟨⟨trivial, ?_⟩, ?_⟩, ?_⟩, ?_⟩, ?_⟩, ?_⟩, ?_⟩, ?_⟩, ?_⟩, ?_⟩, ?_⟩, ?_⟩, ?_⟩
  · exact o_run 0 [] [] (fun _ _ => []) (fun _ _ => by kernel_rfl)
  · exact o_run 1 [0] [] (fun _ _ => [nb ρ1 0, nb ρ1 0, nb ρ1 0, nb ρ1 0]) (fun _ _ => by kernel_rfl)
  · exact o_call 2 21 (fun _ => #[(.int .u64 10)]) (fun _ => (U 10)) (fun _ _ => by kernel_rfl) (fun _ w => (fun w => rfromuint_lit 10 w (by decide)) w)
  · exact o_call 3 19 (fun _ => #[(U 0), (U a), (U 10)]) (fun _ => (.tuple #[(U (divQ 0 a 10)), (U (divR 0 a 10)), (.bool (decide (0 < 10)))])) (fun _ _ => by kernel_rfl) (fun _ w => (fun w => rdiv_any 0 a 10 w (by decide +kernel) haM (by decide +kernel)) w)
  · exact o_run 4 [] [] (fun _ _ => []) (fun _ _ => by kernel_rfl)
  · exact o_run 5 [] [] (fun _ _ => []) (fun _ _ => by kernel_rfl)
  · exact o_run 6 [] [] (fun _ _ => []) (fun _ _ => by kernel_rfl)
  · exact o_run 7 [] [] (fun _ _ => []) (fun _ _ => by kernel_rfl)
  · exact o_run 8 [] [] (fun _ _ => []) (fun _ _ => by kernel_rfl)
  · exact o_run 9 [] [] (fun _ _ => []) (fun _ _ => by kernel_rfl)
  · exact o_run 10 [65] [] (fun ρ _ => [nb ρ 8, nb ρ 8, nb ρ 8, nb ρ 8]) (fun _ _ => by kernel_rfl)
  · exact o_run 11 [73] [] (fun ρ _ => [nb ρ 9, nb ρ 9, nb ρ 9, nb ρ 9]) (fun _ _ => by kernel_rfl)
  · exact o_run 12 [] [] (fun _ _ => []) (fun _ _ => by kernel_rfl)
theorem rtext0_any_r4 (A : Nat) (i : Nat) (a : Nat) (hi : i < 78) (ha : a = A / 10 ^ i) (ρ1 : Nat → Orc) (ρ3 : Nat → Orc) (w0 : World) : RegF Try.prog 3 (regOps Try.f42 3) false 27 [(1, (pt (nb ρ1 0))), (3, (.string (strB (digL A i)))), (4, (pt (nb ρ3 8))), (5, (pt (nb ρ3 9)))] w0 [(nb ρ1 0, (.cells (cU a) 24 (0, 0))), (nb ρ3 8, (.cells (cU (divQ 0 a 10)) 24 (0, 0))), (nb ρ3 9, (.cells (cU (divR 0 a 10)) 24 (0, 0)))] (fun _ => True)
    (fun _ => [(1, (pt (nb ρ1 0))), (3, (.string (strB (([ob (dig A i)] : List UInt8) ++ (digL A i))))), (4, (pt (nb ρ3 8)))])
    (fun ρ => [(nb ρ1 0, (.cells (cU a) 24 (0, 0))), (nb ρ3 8, (.cells (cU (divQ 0 a 10)) 24 (0, 0))), (nb ρ3 9, (.cells (cU (divR 0 a 10)) 24 (0, 0))), (nb ρ 4, (.cells #[(.int .u8 (dig A i))] 5 (0, 0)))]) (fun _ => (fun _ => True)) := by
  refine reg_seq_f [0, 1, 3, 7, 15, 31, 63, 127, 255] [1, 3, 4] 9
    (fun ρ ι => ([(pt (nb ρ3 9)), (.int .u64 (wd (divR 0 a 10) 0)), (.int .u64 (IntKind.u64.wrap (48 + (wd (divR 0 a 10) 0)))), (.int .u8 (dig A i)), (.slice (some ⟨nb ρ 4, 0, none⟩) (([ob (dig A i)] : List UInt8)).length 1), (.string (strB ([ob (dig A i)] : List UInt8))), (.string (strB (digL A i))), (.string (strB (([ob (dig A i)] : List UInt8) ++ (digL A i)))), (.string (strB (([ob (dig A i)] : List UInt8) ++ (digL A i))))] : List Value).getD ι undef)
    (fun ρ ι => ([{}, {}, {}, {}, { news := [(nb ρ 4, (.cells #[(.int .u8 (dig A i))] 5 (0, 0)))] }, {}, {}, {}, {}] : List Eff).getD ι {})
    (fun _ ι => ([(fun _ => True), (fun _ => True), (fun _ => True), (fun _ => True), (fun _ => True), (fun _ => True), (fun _ => True), (fun _ => True), (fun _ => True)] : List (World → Prop)).getD ι (fun _ => True))
    (by kernel_rfl) (by kernel_rfl) (fun _ => by kernel_rfl) (fun _ => by kernel_rfl) (fun _ _ _ _ => trivial) ⟨⟨⟨⟨⟨⟨⟨⟨⟨trivial, ?_⟩, ?_⟩, ?_⟩, ?_⟩, ?_⟩, ?_⟩, ?_⟩, ?_⟩, ?_⟩
  · exact Obl.brings (o_run 0 [] [] (fun _ _ => []) (fun _ _ => by kernel_rfl)) (fun _ _ => trivial)
  · exact Obl.brings (o_run 1 [2] [] (fun _ _ => [nb ρ3 9]) (fun _ _ => by kernel_rfl)) (fun _ _ => trivial)
  · exact Obl.brings (o_run 2 [] [] (fun _ _ => []) (fun _ _ => by kernel_rfl)) (fun _ _ => trivial)
  · exact Obl.brings (o_as 3 (fun _ => (.int .u8 (IntKind.u8.wrap (IntKind.u64.wrap (48 + (wd (divR 0 a 10) 0)))))) (fun _ => (.int .u8 (dig A i))) (fun _ _ => by kernel_rfl) (fun _ => congrArg (Value.int .u8) (dig_wrap ha))) (fun _ _ => trivial)
  · exact Obl.brings (o_run 4 [] [] (fun _ _ => []) (fun _ _ => by kernel_rfl)) (fun _ _ => trivial)
  · exact o_semF 5 (fun ρ => do pure (Next.value (← convert 64 9 (.slice (some ⟨nb ρ 4, 0, none⟩) (([ob (dig A i)] : List UInt8)).length 1)))) (fun _ => (.string (strB ([ob (dig A i)] : List UInt8)))) (fun _ => (by kernel_rfl)) (fun _ => (by kernel_rfl)) (fun ρ _ _ hG => str_bytes (xs := ([ob (dig A i)] : List UInt8)) Try.underlying64 Try.underlying5 Try.underlying9 (Bs.of_hd (hG.known (g := nb ρ 4) (o := (.cells #[(.int .u8 (dig A i))] 5 (0, 0))) 35 (by kernel_rfl) (by kernel_rfl)) (hd1 (dig_rng A i)) (Nat.le_refl 1) (Nat.le_of_ble_eq_true rfl)) rfl) (fun _ _ _ _ => persT)
  · exact Obl.brings (o_run 6 [] [] (fun _ _ => []) (fun _ _ => by kernel_rfl)) (fun _ _ => trivial)
  · exact Obl.brings (o_bin 7 .add 9 (fun _ => (.string (strB ([ob (dig A i)] : List UInt8)))) (fun _ => (.string (strB (digL A i)))) (fun _ => (.string (strB (([ob (dig A i)] : List UInt8) ++ (digL A i))))) (fun _ => by kernel_rfl) (fun _ _ _ _ => by kernel_rfl) (fun _ w => add_str ([ob (dig A i)] : List UInt8) (digL A i) (by rw [digL_length]; simp only [List.length_cons, List.length_nil]; have := hi; omega) w)) (fun _ _ => trivial)
  · exact Obl.brings (o_run 8 [] [] (fun _ _ => []) (fun _ _ => by kernel_rfl)) (fun _ _ => trivial)
theorem rtext0_any_r5 (A : Nat) (i : Nat) (a : Nat) (ρ1 : Nat → Orc) (ρ3 : Nat → Orc) (ρ4 : Nat → Orc) (w0 : World) (F : World → Prop) : Reg Try.prog 4 (regOps Try.f42 4) false 27 [(1, (pt (nb ρ1 0))), (3, (.string (strB (([ob (dig A i)] : List UInt8) ++ (digL A i))))), (4, (pt (nb ρ3 8)))] w0 [(nb ρ1 0, (.cells (cU a) 24 (0, 0))), (nb ρ3 8, (.cells (cU (divQ 0 a 10)) 24 (0, 0))), (nb ρ3 9, (.cells (cU (divR 0 a 10)) 24 (0, 0))), (nb ρ4 4, (.cells #[(.int .u8 (dig A i))] 5 (0, 0)))] F
    (fun _ => [(1, (pt (nb ρ1 0))), (3, (.string (strB (([ob (dig A i)] : List UInt8) ++ (digL A i)))))])
    (fun _ => [(nb ρ1 0, (.cells (cU (divQ 0 a 10)) 24 (0, 0))), (nb ρ3 8, (.cells (cU (divQ 0 a 10)) 24 (0, 0))), (nb ρ3 9, (.cells (cU (divR 0 a 10)) 24 (0, 0))), (nb ρ4 4, (.cells #[(.int .u8 (dig A i))] 5 (0, 0)))]) := by
  refine reg_seq [0, 1] [1, 3] 2
    (fun _ ι => ([(U (divQ 0 a 10)), undef] : List Value).getD ι undef)
    (fun _ ι => ([{}, { puts := [(0, (.cells (cU (divQ 0 a 10)) 24 (0, 0)))] }] : List Eff).getD ι {})
    (by kernel_rfl) (by kernel_rfl) (fun _ => by kernel_rfl) (fun _ => by kernel_rfl) ⟨⟨trivial, ?_⟩, ?_⟩
  · exact o_run 0 [1] [] (fun _ _ => [nb ρ3 8, nb ρ3 8, nb ρ3 8, nb ρ3 8]) (fun _ _ => by kernel_rfl)
  · exact o_run 1 [0] [] (fun _ _ => [nb ρ1 0, nb ρ1 0, nb ρ1 0, nb ρ1 0]) (fun _ _ => by kernel_rfl)
theorem rtext0_any_r6 (A : Nat) (i : Nat) (a : Nat) (haM : a < M) (ρ1 : Nat → Orc) (ρ3 : Nat → Orc) (ρ4 : Nat → Orc) (w0 : World) (F : World → Prop) : Reg Try.prog 5 (regOps Try.f42 5) false 27 [(1, (pt (nb ρ1 0))), (3, (.string (strB (([ob (dig A i)] : List UInt8) ++ (digL A i)))))] w0 [(nb ρ1 0, (.cells (cU (divQ 0 a 10)) 24 (0, 0))), (nb ρ3 8, (.cells (cU (divQ 0 a 10)) 24 (0, 0))), (nb ρ3 9, (.cells (cU (divR 0 a 10)) 24 (0, 0))), (nb ρ4 4, (.cells #[(.int .u8 (dig A i))] 5 (0, 0)))] F
    (fun _ => [(1, (pt (nb ρ1 0))), (3, (.string (strB (([ob (dig A i)] : List UInt8) ++ (digL A i))))), (25, (.bool (decide (divQ 0 a 10 = 0))))])
    (fun _ => [(nb ρ1 0, (.cells (cU (divQ 0 a 10)) 24 (0, 0))), (nb ρ3 8, (.cells (cU (divQ 0 a 10)) 24 (0, 0))), (nb ρ3 9, (.cells (cU (divR 0 a 10)) 24 (0, 0))), (nb ρ4 4, (.cells #[(.int .u8 (dig A i))] 5 (0, 0)))]) := by
  refine reg_seq [0, 1] [1, 3, 25] 2
    (fun _ ι => ([(U (divQ 0 a 10)), (.bool (decide (divQ 0 a 10 = 0)))] : List Value).getD ι undef)
    (fun _ ι => ([{}, {}] : List Eff).getD ι {})
    (by kernel_rfl) (by kernel_rfl) (fun _ => by kernel_rfl) (fun _ => by kernel_rfl) ⟨⟨trivial, ?_⟩, ?_⟩
  · exact o_run 0 [0] [] (fun _ _ => [nb ρ1 0, nb ρ1 0, nb ρ1 0, nb ρ1 0]) (fun _ _ => by kernel_rfl)
  · exact o_call 1 57 (fun _ => #[(U (divQ 0 a 10))]) (fun _ => (.bool (decide (divQ 0 a 10 = 0)))) (fun _ _ => by kernel_rfl) (fun _ w => (fun w => rzero_any (divQ 0 a 10) w (divQ_lt _ _ _ haM)) w)
theorem rtext0_any_r7 (A : Nat) (i : Nat) (a : Nat) (ρ1 : Nat → Orc) (ρ3 : Nat → Orc) (ρ4 : Nat → Orc) (w0 : World) (F : World → Prop) : Reg Try.prog 6 (regOps Try.f42 6) false 27 [(1, (pt (nb ρ1 0))), (3, (.string (strB (([ob (dig A i)] : List UInt8) ++ (digL A i))))), (25, (.bool true))] w0 [(nb ρ1 0, (.cells (cU (divQ 0 a 10)) 24 (0, 0))), (nb ρ3 8, (.cells (cU (divQ 0 a 10)) 24 (0, 0))), (nb ρ3 9, (.cells (cU (divR 0 a 10)) 24 (0, 0))), (nb ρ4 4, (.cells #[(.int .u8 (dig A i))] 5 (0, 0)))] F
    (fun _ => [(1, (pt (nb ρ1 0))), (2, (.string (strB (([ob (dig A i)] : List UInt8) ++ (digL A i))))), (3, (.string (strB (([ob (dig A i)] : List UInt8) ++ (digL A i)))))])
    (fun _ => [(nb ρ1 0, (.cells (cU (divQ 0 a 10)) 24 (0, 0))), (nb ρ3 8, (.cells (cU (divQ 0 a 10)) 24 (0, 0))), (nb ρ3 9, (.cells (cU (divR 0 a 10)) 24 (0, 0))), (nb ρ4 4, (.cells #[(.int .u8 (dig A i))] 5 (0, 0)))]) := by
  refine reg_seq [0, 1] [1, 2, 3] 2
    (fun _ ι => ([(.string (strB (([ob (dig A i)] : List UInt8) ++ (digL A i)))), (.string (strB (([ob (dig A i)] : List UInt8) ++ (digL A i))))] : List Value).getD ι undef)
    (fun _ ι => ([{}, {}] : List Eff).getD ι {})
    (by kernel_rfl) (by kernel_rfl) (fun _ => by kernel_rfl) (fun _ => by kernel_rfl) ⟨⟨trivial, ?_⟩, ?_⟩
  · exact o_run 0 [] [] (fun _ _ => []) (fun _ _ => by kernel_rfl)
  · exact o_run 1 [] [] (fun _ _ => []) (fun _ _ => by kernel_rfl)
theorem rtext0_any (A : Nat) (hA : A < M) (w0 : World) : Calls Try.prog 42 #[(U A)] w0 (fun ε w' => ε = .returned (.string (strB (decL A))) ∧ Below w0.heap.size w0 w') := by
  refine Calls.of_ok (n := 27) (F := (fun _ => True)) Try.func42 rfl rfl rfl (by simp) (persTrue (fun _ => trivial)) ?_
  refine ok_seq_r (by kernel_rfl) (rtext0_any_r1 A _ _) (fun ρ1 => ?_)
  refine ok_seq_r (by kernel_rfl) (rtext0_any_r2 A ρ1 _ _) (fun _ => ?_)
  refine ok_block ?_
  refine ok_loop (σ := Nat × Nat) (fun ⟨i, _⟩ => [(1, (pt (nb ρ1 0))), (3, (.string (strB (digL A i))))]) (fun ⟨_, a⟩ => [(nb ρ1 0, (.cells (cU a) 24 (0, 0)))]) (fun ⟨i, _⟩ => 78 - i)
    (fun ⟨i, a⟩ => (i < 78) ∧ (a = A / 10 ^ i) ∧ (a < M) ∧ (i = 0 ∨ A / 10 ^ i ≠ 0)) (0, A) (⟨by decide, (Nat.div_one A).symm, hA, Or.inl rfl⟩) (by kernel_rfl) (.cons_cons _ .slnil) ?_
  rintro ⟨i, a⟩ ⟨hi, ha, haM, hz⟩
  change Ok Try.prog _ _ 27 [(1, (pt (nb ρ1 0))), (3, (.string (strB (digL A i))))] _ [(nb ρ1 0, (.cells (cU a) 24 (0, 0)))] (fun _ => True)
  refine ok_block ?_
  refine ok_seq_r (by kernel_rfl) (rtext0_any_r3 A i a haM ρ1 _ _) (fun ρ3 => ?_)
  refine ok_seq_rf (by kernel_rfl) (rtext0_any_r4 A i a hi ha ρ1 ρ3 _) (fun ρ4 => ?_)
  refine ok_seq_r (by kernel_rfl) (rtext0_any_r5 A i a ρ1 ρ3 ρ4 _ _) (fun _ => ?_)
  refine ok_seq_r (by kernel_rfl) (rtext0_any_r6 A i a haM ρ1 ρ3 ρ4 _ _) (fun _ => ?_)
  refine ok_cond (b := decide (divQ 0 a 10 = 0)) (by kernel_rfl) (fun hb1 => ?_) (fun hb1 => ?_)
  ·
    rw [hb1]
    refine ok_seq_r (by kernel_rfl) (rtext0_any_r7 A i a ρ1 ρ3 ρ4 _ _) (fun _ => ?_)
    refine ok_ret ?_
    refine mt_block_r ?_
    refine mt_then_r ?_
    refine mt_block_r ?_
    exact meets_ret (v := (.string (strB (([ob (dig A i)] : List UInt8) ++ (digL A i))))) [] (dup []) (by kernel_rfl) (by kernel_rfl) (eqs_dup _) (fun _ hS => ⟨congrArg (fun x => Ending.returned (.string (strB x))) (digL_end hA hz (by rw [← div_next ha]; exact of_decide_eq_true hb1)), hS.below⟩)
  ·
    rw [hb1]
    refine ok_skip ?_
    refine mt_block_n ?_
    exact mt_round (i + 1, divQ 0 a 10) (by show 78 - (i + 1) < 78 - i; omega) (⟨dig_few hA (by rw [← div_next ha]; exact of_decide_eq_false hb1), div_next ha, divQ_lt _ _ _ haM, Or.inr (by rw [← div_next ha]; exact of_decide_eq_false hb1)⟩) (by kernel_rfl) (.cons_cons _ (.cons _ (.cons _ (.cons _ .slnil))))
theorem rtext_any (A : Nat) (w0 : World) (hA : A < M) : Calls Try.prog 42 #[U A] w0 (fun ε w' => ε = .returned (.string (strB (decL A))) ∧ Below w0.heap.size w0 w') := rtext0_any A hA w0
theorem textL_any (A : Nat) (w0 : World) (hA : A < M) : Calls Try.prog 41 #[U A] w0 (fun ε w' => ε = .returned (.string (strB (decL A))) ∧ Below w0.heap.size w0 w') := by
  rw [strB_decL]; exact text_any A w0 hA
theorem parse_text (A : Nat) (w0 : World) (hA : A < M) : Calls Try.prog 39 #[.string (strB (decL A))] w0 (fun ε w' => ε = .returned (.tuple #[U A, .int .i64 0]) ∧ Below w0.heap.size w0 w') := by
  have h := parse_any (decL A) w0
  rw [(parse_dec hA).1, (parse_dec hA).2] at h; exact h
end Go.Proofs.Ytlgjdejlnelndaa
