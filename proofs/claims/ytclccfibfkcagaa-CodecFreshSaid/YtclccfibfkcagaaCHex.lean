/-
  The codec writes and reads digits of base 16: the walks.
-/
import Derived.Test.YtclccfibfkcagaaCHexNum
namespace Go.Proofs.Ytclccfibfkcagaa
open Go Go.RowKit
set_option maxRecDepth 100000
theorem digit_any_r1 (c : Nat) (w0 : World) (F : World → Prop) : Reg Try.prog 0 (regOps Try.f56 0) false 33 [(0, (.int .u8 ((c : Nat) : Int)))] w0 [] F
    (fun _ => [(0, (.int .u8 ((c : Nat) : Int))), (2, (.int .u8 0)), (3, (.bool false))])
    (fun _ => []) := by
  refine reg_seq [0, 1] [0, 2, 3] 2
    (fun _ ι => ([(.int .u8 0), (.bool false)] : List Value).getD ι undef)
    (fun _ ι => ([{}, {}] : List Eff).getD ι {})
    (by as_aux_lemma => kernel_rfl) (by as_aux_lemma => kernel_rfl) (fun _ => by as_aux_lemma => kernel_rfl) (fun _ => by as_aux_lemma => kernel_rfl) ⟨⟨trivial, ?_⟩, ?_⟩
  · exact o_run 0 [] [] (fun _ _ => []) (fun _ _ => by as_aux_lemma => kernel_rfl)
  · exact o_run 1 [] [] (fun _ _ => []) (fun _ _ => by as_aux_lemma => kernel_rfl)
theorem digit_any_r2 (c : Nat) (hb1 : (decide (48 ≤ ((c : Nat) : Int))) = true) (w0 : World) (F : World → Prop) : Reg Try.prog 1 (regOps Try.f56 1) false 33 [(0, (.int .u8 ((c : Nat) : Int))), (2, (.int .u8 0)), (3, (.bool false))] w0 [] F
    (fun _ => [(0, (.int .u8 ((c : Nat) : Int))), (2, (.int .u8 0)), (3, (.bool false)), (4, (.bool (decide (((c : Nat) : Int) ≤ 57))))])
    (fun _ => []) := by
  refine reg_seq [0, 1, 3, 7, 15, 31, 63] [0, 2, 3, 4] 7
    (fun _ ι => ([(.int .u8 ((c : Nat) : Int)), (.bool true), (.bool true), (.int .u8 ((c : Nat) : Int)), (.bool (decide (((c : Nat) : Int) ≤ 57))), (.bool (decide (((c : Nat) : Int) ≤ 57))), (.bool (decide (((c : Nat) : Int) ≤ 57)))] : List Value).getD ι undef)
    (fun _ ι => ([{}, {}, {}, {}, {}, {}, {}] : List Eff).getD ι {})
    (by as_aux_lemma => kernel_rfl) (by as_aux_lemma => kernel_rfl) (fun _ => by as_aux_lemma => kernel_rfl) (fun _ => by as_aux_lemma => kernel_rfl) ⟨⟨⟨⟨⟨⟨⟨trivial, ?_⟩, ?_⟩, ?_⟩, ?_⟩, ?_⟩, ?_⟩, ?_⟩
  · exact o_run 0 [] [] (fun _ _ => []) (fun _ _ => by as_aux_lemma => kernel_rfl)
  · exact o_as 1 (fun _ => (.bool (decide (48 ≤ ((c : Nat) : Int))))) (fun _ => (.bool true)) (fun _ _ => by as_aux_lemma => kernel_rfl) (fun _ => congrArg Value.bool hb1)
  · exact o_run 2 [] [] (fun _ _ => []) (fun _ _ => by as_aux_lemma => kernel_rfl)
  · exact o_run 3 [] [] (fun _ _ => []) (fun _ _ => by as_aux_lemma => kernel_rfl)
  · exact o_run 4 [] [] (fun _ _ => []) (fun _ _ => by as_aux_lemma => kernel_rfl)
  · exact o_run 5 [] [] (fun _ _ => []) (fun _ _ => by as_aux_lemma => kernel_rfl)
  · exact o_run 6 [] [] (fun _ _ => []) (fun _ _ => by as_aux_lemma => kernel_rfl)
theorem digit_any_r3 (c : Nat) (hc : c < 256) (hb1 : (decide (48 ≤ ((c : Nat) : Int))) = true) (hb2 : (decide (((c : Nat) : Int) ≤ 57)) = true) (w0 : World) (F : World → Prop) : Reg Try.prog 2 (regOps Try.f56 2) false 33 [(0, (.int .u8 ((c : Nat) : Int))), (2, (.int .u8 0)), (3, (.bool false)), (4, (.bool true))] w0 [] F
    (fun _ => [(2, (.int .u8 (((c : Nat) : Int) - 48))), (3, (.bool true))])
    (fun _ => []) := by
  refine reg_seq [0, 1, 3, 7] [2, 3] 4
    (fun _ ι => ([(.int .u8 ((c : Nat) : Int)), (.int .u8 (((c : Nat) : Int) - 48)), (.int .u8 (((c : Nat) : Int) - 48)), (.bool true)] : List Value).getD ι undef)
    (fun _ ι => ([{}, {}, {}, {}] : List Eff).getD ι {})
    (by as_aux_lemma => kernel_rfl) (by as_aux_lemma => kernel_rfl) (fun _ => by as_aux_lemma => kernel_rfl) (fun _ => by as_aux_lemma => kernel_rfl) ⟨⟨⟨⟨trivial, ?_⟩, ?_⟩, ?_⟩, ?_⟩
  · exact o_run 0 [] [] (fun _ _ => []) (fun _ _ => by as_aux_lemma => kernel_rfl)
  · exact o_as 1 (fun _ => (.int .u8 (IntKind.u8.wrap (((c : Nat) : Int) - 48)))) (fun _ => (.int .u8 (((c : Nat) : Int) - 48))) (fun _ _ => by as_aux_lemma => kernel_rfl) (fun _ => congrArg (Value.int .u8) (u8I (by have := of_decide_eq_true hb1; have := of_decide_eq_true hb2; have := hc; omega)))
  · exact o_run 2 [] [] (fun _ _ => []) (fun _ _ => by as_aux_lemma => kernel_rfl)
  · exact o_run 3 [] [] (fun _ _ => []) (fun _ _ => by as_aux_lemma => kernel_rfl)
theorem digit_any_r4 (c : Nat) (hb3 : (decide (97 ≤ ((c : Nat) : Int))) = true) (w0 : World) (F : World → Prop) : Reg Try.prog 3 (regOps Try.f56 3) false 33 [(0, (.int .u8 ((c : Nat) : Int))), (2, (.int .u8 0)), (3, (.bool false)), (4, (.bool false))] w0 [] F
    (fun _ => [(0, (.int .u8 ((c : Nat) : Int))), (2, (.int .u8 0)), (3, (.bool false)), (13, (.bool (decide (((c : Nat) : Int) ≤ 102))))])
    (fun _ => []) := by
  refine reg_seq [0, 1, 3, 7, 15, 31, 63] [0, 2, 3, 13] 7
    (fun _ ι => ([(.int .u8 ((c : Nat) : Int)), (.bool true), (.bool true), (.int .u8 ((c : Nat) : Int)), (.bool (decide (((c : Nat) : Int) ≤ 102))), (.bool (decide (((c : Nat) : Int) ≤ 102))), (.bool (decide (((c : Nat) : Int) ≤ 102)))] : List Value).getD ι undef)
    (fun _ ι => ([{}, {}, {}, {}, {}, {}, {}] : List Eff).getD ι {})
    (by as_aux_lemma => kernel_rfl) (by as_aux_lemma => kernel_rfl) (fun _ => by as_aux_lemma => kernel_rfl) (fun _ => by as_aux_lemma => kernel_rfl) ⟨⟨⟨⟨⟨⟨⟨trivial, ?_⟩, ?_⟩, ?_⟩, ?_⟩, ?_⟩, ?_⟩, ?_⟩
  · exact o_run 0 [] [] (fun _ _ => []) (fun _ _ => by as_aux_lemma => kernel_rfl)
  · exact o_as 1 (fun _ => (.bool (decide (97 ≤ ((c : Nat) : Int))))) (fun _ => (.bool true)) (fun _ _ => by as_aux_lemma => kernel_rfl) (fun _ => congrArg Value.bool hb3)
  · exact o_run 2 [] [] (fun _ _ => []) (fun _ _ => by as_aux_lemma => kernel_rfl)
  · exact o_run 3 [] [] (fun _ _ => []) (fun _ _ => by as_aux_lemma => kernel_rfl)
  · exact o_run 4 [] [] (fun _ _ => []) (fun _ _ => by as_aux_lemma => kernel_rfl)
  · exact o_run 5 [] [] (fun _ _ => []) (fun _ _ => by as_aux_lemma => kernel_rfl)
  · exact o_run 6 [] [] (fun _ _ => []) (fun _ _ => by as_aux_lemma => kernel_rfl)
theorem digit_any_r5 (c : Nat) (hc : c < 256) (hb1 : (decide (48 ≤ ((c : Nat) : Int))) = true) (hb2 : (decide (((c : Nat) : Int) ≤ 57)) = false) (hb3 : (decide (97 ≤ ((c : Nat) : Int))) = true) (hb4 : (decide (((c : Nat) : Int) ≤ 102)) = true) (w0 : World) (F : World → Prop) : Reg Try.prog 4 (regOps Try.f56 4) false 33 [(0, (.int .u8 ((c : Nat) : Int))), (2, (.int .u8 0)), (3, (.bool false)), (13, (.bool true))] w0 [] F
    (fun _ => [(2, (.int .u8 ((((c : Nat) : Int) - 97) + 10))), (3, (.bool true))])
    (fun _ => []) := by
  refine reg_seq [0, 1, 3, 7, 15] [2, 3] 5
    (fun _ ι => ([(.int .u8 ((c : Nat) : Int)), (.int .u8 (((c : Nat) : Int) - 97)), (.int .u8 ((((c : Nat) : Int) - 97) + 10)), (.int .u8 ((((c : Nat) : Int) - 97) + 10)), (.bool true)] : List Value).getD ι undef)
    (fun _ ι => ([{}, {}, {}, {}, {}] : List Eff).getD ι {})
    (by as_aux_lemma => kernel_rfl) (by as_aux_lemma => kernel_rfl) (fun _ => by as_aux_lemma => kernel_rfl) (fun _ => by as_aux_lemma => kernel_rfl) ⟨⟨⟨⟨⟨trivial, ?_⟩, ?_⟩, ?_⟩, ?_⟩, ?_⟩
  · exact o_run 0 [] [] (fun _ _ => []) (fun _ _ => by as_aux_lemma => kernel_rfl)
  · exact o_as 1 (fun _ => (.int .u8 (IntKind.u8.wrap (((c : Nat) : Int) - 97)))) (fun _ => (.int .u8 (((c : Nat) : Int) - 97))) (fun _ _ => by as_aux_lemma => kernel_rfl) (fun _ => congrArg (Value.int .u8) (u8I (by have := of_decide_eq_true hb1; have := of_decide_eq_false hb2; have := of_decide_eq_true hb3; have := of_decide_eq_true hb4; have := hc; omega)))
  · exact o_as 2 (fun _ => (.int .u8 (IntKind.u8.wrap ((((c : Nat) : Int) - 97) + 10)))) (fun _ => (.int .u8 ((((c : Nat) : Int) - 97) + 10))) (fun _ _ => by as_aux_lemma => kernel_rfl) (fun _ => congrArg (Value.int .u8) (u8I (by have := of_decide_eq_true hb1; have := of_decide_eq_false hb2; have := of_decide_eq_true hb3; have := of_decide_eq_true hb4; have := hc; omega)))
  · exact o_run 3 [] [] (fun _ _ => []) (fun _ _ => by as_aux_lemma => kernel_rfl)
  · exact o_run 4 [] [] (fun _ _ => []) (fun _ _ => by as_aux_lemma => kernel_rfl)
theorem digit_any_r6 (c : Nat) (hb5 : (decide (65 ≤ ((c : Nat) : Int))) = true) (w0 : World) (F : World → Prop) : Reg Try.prog 5 (regOps Try.f56 5) false 33 [(0, (.int .u8 ((c : Nat) : Int))), (2, (.int .u8 0)), (3, (.bool false)), (13, (.bool false))] w0 [] F
    (fun _ => [(0, (.int .u8 ((c : Nat) : Int))), (2, (.int .u8 0)), (3, (.bool false)), (23, (.bool (decide (((c : Nat) : Int) ≤ 70))))])
    (fun _ => []) := by
  refine reg_seq [0, 1, 3, 7, 15, 31, 63] [0, 2, 3, 23] 7
    (fun _ ι => ([(.int .u8 ((c : Nat) : Int)), (.bool true), (.bool true), (.int .u8 ((c : Nat) : Int)), (.bool (decide (((c : Nat) : Int) ≤ 70))), (.bool (decide (((c : Nat) : Int) ≤ 70))), (.bool (decide (((c : Nat) : Int) ≤ 70)))] : List Value).getD ι undef)
    (fun _ ι => ([{}, {}, {}, {}, {}, {}, {}] : List Eff).getD ι {})
    (by as_aux_lemma => kernel_rfl) (by as_aux_lemma => kernel_rfl) (fun _ => by as_aux_lemma => kernel_rfl) (fun _ => by as_aux_lemma => kernel_rfl) ⟨⟨⟨⟨⟨⟨⟨trivial, ?_⟩, ?_⟩, ?_⟩, ?_⟩, ?_⟩, ?_⟩, ?_⟩
  · exact o_run 0 [] [] (fun _ _ => []) (fun _ _ => by as_aux_lemma => kernel_rfl)
  · exact o_as 1 (fun _ => (.bool (decide (65 ≤ ((c : Nat) : Int))))) (fun _ => (.bool true)) (fun _ _ => by as_aux_lemma => kernel_rfl) (fun _ => congrArg Value.bool hb5)
  · exact o_run 2 [] [] (fun _ _ => []) (fun _ _ => by as_aux_lemma => kernel_rfl)
  · exact o_run 3 [] [] (fun _ _ => []) (fun _ _ => by as_aux_lemma => kernel_rfl)
  · exact o_run 4 [] [] (fun _ _ => []) (fun _ _ => by as_aux_lemma => kernel_rfl)
  · exact o_run 5 [] [] (fun _ _ => []) (fun _ _ => by as_aux_lemma => kernel_rfl)
  · exact o_run 6 [] [] (fun _ _ => []) (fun _ _ => by as_aux_lemma => kernel_rfl)
theorem digit_any_r7 (c : Nat) (hc : c < 256) (hb1 : (decide (48 ≤ ((c : Nat) : Int))) = true) (hb2 : (decide (((c : Nat) : Int) ≤ 57)) = false) (hb3 : (decide (97 ≤ ((c : Nat) : Int))) = true) (hb4 : (decide (((c : Nat) : Int) ≤ 102)) = false) (hb5 : (decide (65 ≤ ((c : Nat) : Int))) = true) (hb6 : (decide (((c : Nat) : Int) ≤ 70)) = true) (w0 : World) (F : World → Prop) : Reg Try.prog 6 (regOps Try.f56 6) false 33 [(0, (.int .u8 ((c : Nat) : Int))), (2, (.int .u8 0)), (3, (.bool false)), (23, (.bool true))] w0 [] F
    (fun _ => [(2, (.int .u8 ((((c : Nat) : Int) - 65) + 10))), (3, (.bool true))])
    (fun _ => []) := by
  refine reg_seq [0, 1, 3, 7, 15] [2, 3] 5
    (fun _ ι => ([(.int .u8 ((c : Nat) : Int)), (.int .u8 (((c : Nat) : Int) - 65)), (.int .u8 ((((c : Nat) : Int) - 65) + 10)), (.int .u8 ((((c : Nat) : Int) - 65) + 10)), (.bool true)] : List Value).getD ι undef)
    (fun _ ι => ([{}, {}, {}, {}, {}] : List Eff).getD ι {})
    (by as_aux_lemma => kernel_rfl) (by as_aux_lemma => kernel_rfl) (fun _ => by as_aux_lemma => kernel_rfl) (fun _ => by as_aux_lemma => kernel_rfl) ⟨⟨⟨⟨⟨trivial, ?_⟩, ?_⟩, ?_⟩, ?_⟩, ?_⟩
  · exact o_run 0 [] [] (fun _ _ => []) (fun _ _ => by as_aux_lemma => kernel_rfl)
  · exact o_as 1 (fun _ => (.int .u8 (IntKind.u8.wrap (((c : Nat) : Int) - 65)))) (fun _ => (.int .u8 (((c : Nat) : Int) - 65))) (fun _ _ => by as_aux_lemma => kernel_rfl) (fun _ => congrArg (Value.int .u8) (u8I (by have := of_decide_eq_true hb1; have := of_decide_eq_false hb2; have := of_decide_eq_true hb3; have := of_decide_eq_false hb4; have := of_decide_eq_true hb5; have := of_decide_eq_true hb6; have := hc; omega)))
  · exact o_as 2 (fun _ => (.int .u8 (IntKind.u8.wrap ((((c : Nat) : Int) - 65) + 10)))) (fun _ => (.int .u8 ((((c : Nat) : Int) - 65) + 10))) (fun _ _ => by as_aux_lemma => kernel_rfl) (fun _ => congrArg (Value.int .u8) (u8I (by have := of_decide_eq_true hb1; have := of_decide_eq_false hb2; have := of_decide_eq_true hb3; have := of_decide_eq_false hb4; have := of_decide_eq_true hb5; have := of_decide_eq_true hb6; have := hc; omega)))
  · exact o_run 3 [] [] (fun _ _ => []) (fun _ _ => by as_aux_lemma => kernel_rfl)
  · exact o_run 4 [] [] (fun _ _ => []) (fun _ _ => by as_aux_lemma => kernel_rfl)
theorem digit_any_r8 (c : Nat) (w0 : World) (F : World → Prop) : Reg Try.prog 7 (regOps Try.f56 7) false 33 [(0, (.int .u8 ((c : Nat) : Int))), (2, (.int .u8 0)), (3, (.bool false)), (23, (.bool false))] w0 [] F
    (fun _ => [(2, (.int .u8 0)), (3, (.bool false))])
    (fun _ => []) := by
  refine reg_seq [0, 1] [2, 3] 2
    (fun _ ι => ([(.int .u8 0), (.bool false)] : List Value).getD ι undef)
    (fun _ ι => ([{}, {}] : List Eff).getD ι {})
    (by as_aux_lemma => kernel_rfl) (by as_aux_lemma => kernel_rfl) (fun _ => by as_aux_lemma => kernel_rfl) (fun _ => by as_aux_lemma => kernel_rfl) ⟨⟨trivial, ?_⟩, ?_⟩
  · exact o_run 0 [] [] (fun _ _ => []) (fun _ _ => by as_aux_lemma => kernel_rfl)
  · exact o_run 1 [] [] (fun _ _ => []) (fun _ _ => by as_aux_lemma => kernel_rfl)
theorem digit_any_r9 (c : Nat) (hb5 : (decide (65 ≤ ((c : Nat) : Int))) = false) (w0 : World) (F : World → Prop) : Reg Try.prog 5 (regOps Try.f56 5) false 33 [(0, (.int .u8 ((c : Nat) : Int))), (2, (.int .u8 0)), (3, (.bool false)), (13, (.bool false))] w0 [] F
    (fun _ => [(0, (.int .u8 ((c : Nat) : Int))), (2, (.int .u8 0)), (3, (.bool false)), (23, (.bool false))])
    (fun _ => []) := by
  refine reg_seq [0, 1, 3, 7, 15, 31, 63] [0, 2, 3, 23] 7
    (fun _ ι => ([(.int .u8 ((c : Nat) : Int)), (.bool false), (.bool false), undef, undef, (.bool false), (.bool false)] : List Value).getD ι undef)
    (fun _ ι => ([{}, {}, {}, {}, {}, {}, {}] : List Eff).getD ι {})
    (by as_aux_lemma => kernel_rfl) (by as_aux_lemma => kernel_rfl) (fun _ => by as_aux_lemma => kernel_rfl) (fun _ => by as_aux_lemma => kernel_rfl) ⟨⟨⟨⟨⟨⟨⟨trivial, ?_⟩, ?_⟩, ?_⟩, ?_⟩, ?_⟩, ?_⟩, ?_⟩
  · exact o_run 0 [] [] (fun _ _ => []) (fun _ _ => by as_aux_lemma => kernel_rfl)
  · exact o_as 1 (fun _ => (.bool (decide (65 ≤ ((c : Nat) : Int))))) (fun _ => (.bool false)) (fun _ _ => by as_aux_lemma => kernel_rfl) (fun _ => congrArg Value.bool hb5)
  · exact o_run 2 [] [] (fun _ _ => []) (fun _ _ => by as_aux_lemma => kernel_rfl)
  · exact o_skip 3 (fun _ => by as_aux_lemma => kernel_rfl)
  · exact o_skip 4 (fun _ => by as_aux_lemma => kernel_rfl)
  · exact o_run 5 [] [] (fun _ _ => []) (fun _ _ => by as_aux_lemma => kernel_rfl)
  · exact o_run 6 [] [] (fun _ _ => []) (fun _ _ => by as_aux_lemma => kernel_rfl)
theorem digit_any_r10 (c : Nat) (w0 : World) (F : World → Prop) : Reg Try.prog 7 (regOps Try.f56 7) false 33 [(0, (.int .u8 ((c : Nat) : Int))), (2, (.int .u8 0)), (3, (.bool false)), (23, (.bool false))] w0 [] F
    (fun _ => [(2, (.int .u8 0)), (3, (.bool false))])
    (fun _ => []) := by
  refine reg_seq [0, 1] [2, 3] 2
    (fun _ ι => ([(.int .u8 0), (.bool false)] : List Value).getD ι undef)
    (fun _ ι => ([{}, {}] : List Eff).getD ι {})
    (by as_aux_lemma => kernel_rfl) (by as_aux_lemma => kernel_rfl) (fun _ => by as_aux_lemma => kernel_rfl) (fun _ => by as_aux_lemma => kernel_rfl) ⟨⟨trivial, ?_⟩, ?_⟩
  · exact o_run 0 [] [] (fun _ _ => []) (fun _ _ => by as_aux_lemma => kernel_rfl)
  · exact o_run 1 [] [] (fun _ _ => []) (fun _ _ => by as_aux_lemma => kernel_rfl)
theorem digit_any_r11 (c : Nat) (hb3 : (decide (97 ≤ ((c : Nat) : Int))) = false) (w0 : World) (F : World → Prop) : Reg Try.prog 3 (regOps Try.f56 3) false 33 [(0, (.int .u8 ((c : Nat) : Int))), (2, (.int .u8 0)), (3, (.bool false)), (4, (.bool false))] w0 [] F
    (fun _ => [(0, (.int .u8 ((c : Nat) : Int))), (2, (.int .u8 0)), (3, (.bool false)), (13, (.bool false))])
    (fun _ => []) := by
  refine reg_seq [0, 1, 3, 7, 15, 31, 63] [0, 2, 3, 13] 7
    (fun _ ι => ([(.int .u8 ((c : Nat) : Int)), (.bool false), (.bool false), undef, undef, (.bool false), (.bool false)] : List Value).getD ι undef)
    (fun _ ι => ([{}, {}, {}, {}, {}, {}, {}] : List Eff).getD ι {})
    (by as_aux_lemma => kernel_rfl) (by as_aux_lemma => kernel_rfl) (fun _ => by as_aux_lemma => kernel_rfl) (fun _ => by as_aux_lemma => kernel_rfl) ⟨⟨⟨⟨⟨⟨⟨trivial, ?_⟩, ?_⟩, ?_⟩, ?_⟩, ?_⟩, ?_⟩, ?_⟩
  · exact o_run 0 [] [] (fun _ _ => []) (fun _ _ => by as_aux_lemma => kernel_rfl)
  · exact o_as 1 (fun _ => (.bool (decide (97 ≤ ((c : Nat) : Int))))) (fun _ => (.bool false)) (fun _ _ => by as_aux_lemma => kernel_rfl) (fun _ => congrArg Value.bool hb3)
  · exact o_run 2 [] [] (fun _ _ => []) (fun _ _ => by as_aux_lemma => kernel_rfl)
  · exact o_skip 3 (fun _ => by as_aux_lemma => kernel_rfl)
  · exact o_skip 4 (fun _ => by as_aux_lemma => kernel_rfl)
  · exact o_run 5 [] [] (fun _ _ => []) (fun _ _ => by as_aux_lemma => kernel_rfl)
  · exact o_run 6 [] [] (fun _ _ => []) (fun _ _ => by as_aux_lemma => kernel_rfl)
theorem digit_any_r12 (c : Nat) (hb7 : (decide (65 ≤ ((c : Nat) : Int))) = true) (w0 : World) (F : World → Prop) : Reg Try.prog 5 (regOps Try.f56 5) false 33 [(0, (.int .u8 ((c : Nat) : Int))), (2, (.int .u8 0)), (3, (.bool false)), (13, (.bool false))] w0 [] F
    (fun _ => [(0, (.int .u8 ((c : Nat) : Int))), (2, (.int .u8 0)), (3, (.bool false)), (23, (.bool (decide (((c : Nat) : Int) ≤ 70))))])
    (fun _ => []) := by
  refine reg_seq [0, 1, 3, 7, 15, 31, 63] [0, 2, 3, 23] 7
    (fun _ ι => ([(.int .u8 ((c : Nat) : Int)), (.bool true), (.bool true), (.int .u8 ((c : Nat) : Int)), (.bool (decide (((c : Nat) : Int) ≤ 70))), (.bool (decide (((c : Nat) : Int) ≤ 70))), (.bool (decide (((c : Nat) : Int) ≤ 70)))] : List Value).getD ι undef)
    (fun _ ι => ([{}, {}, {}, {}, {}, {}, {}] : List Eff).getD ι {})
    (by as_aux_lemma => kernel_rfl) (by as_aux_lemma => kernel_rfl) (fun _ => by as_aux_lemma => kernel_rfl) (fun _ => by as_aux_lemma => kernel_rfl) ⟨⟨⟨⟨⟨⟨⟨trivial, ?_⟩, ?_⟩, ?_⟩, ?_⟩, ?_⟩, ?_⟩, ?_⟩
  · exact o_run 0 [] [] (fun _ _ => []) (fun _ _ => by as_aux_lemma => kernel_rfl)
  · exact o_as 1 (fun _ => (.bool (decide (65 ≤ ((c : Nat) : Int))))) (fun _ => (.bool true)) (fun _ _ => by as_aux_lemma => kernel_rfl) (fun _ => congrArg Value.bool hb7)
  · exact o_run 2 [] [] (fun _ _ => []) (fun _ _ => by as_aux_lemma => kernel_rfl)
  · exact o_run 3 [] [] (fun _ _ => []) (fun _ _ => by as_aux_lemma => kernel_rfl)
  · exact o_run 4 [] [] (fun _ _ => []) (fun _ _ => by as_aux_lemma => kernel_rfl)
  · exact o_run 5 [] [] (fun _ _ => []) (fun _ _ => by as_aux_lemma => kernel_rfl)
  · exact o_run 6 [] [] (fun _ _ => []) (fun _ _ => by as_aux_lemma => kernel_rfl)
theorem digit_any_r13 (c : Nat) (hc : c < 256) (hb1 : (decide (48 ≤ ((c : Nat) : Int))) = true) (hb2 : (decide (((c : Nat) : Int) ≤ 57)) = false) (hb3 : (decide (97 ≤ ((c : Nat) : Int))) = false) (hb7 : (decide (65 ≤ ((c : Nat) : Int))) = true) (hb8 : (decide (((c : Nat) : Int) ≤ 70)) = true) (w0 : World) (F : World → Prop) : Reg Try.prog 6 (regOps Try.f56 6) false 33 [(0, (.int .u8 ((c : Nat) : Int))), (2, (.int .u8 0)), (3, (.bool false)), (23, (.bool true))] w0 [] F
    (fun _ => [(2, (.int .u8 ((((c : Nat) : Int) - 65) + 10))), (3, (.bool true))])
    (fun _ => []) := by
  refine reg_seq [0, 1, 3, 7, 15] [2, 3] 5
    (fun _ ι => ([(.int .u8 ((c : Nat) : Int)), (.int .u8 (((c : Nat) : Int) - 65)), (.int .u8 ((((c : Nat) : Int) - 65) + 10)), (.int .u8 ((((c : Nat) : Int) - 65) + 10)), (.bool true)] : List Value).getD ι undef)
    (fun _ ι => ([{}, {}, {}, {}, {}] : List Eff).getD ι {})
    (by as_aux_lemma => kernel_rfl) (by as_aux_lemma => kernel_rfl) (fun _ => by as_aux_lemma => kernel_rfl) (fun _ => by as_aux_lemma => kernel_rfl) ⟨⟨⟨⟨⟨trivial, ?_⟩, ?_⟩, ?_⟩, ?_⟩, ?_⟩
  · exact o_run 0 [] [] (fun _ _ => []) (fun _ _ => by as_aux_lemma => kernel_rfl)
  · exact o_as 1 (fun _ => (.int .u8 (IntKind.u8.wrap (((c : Nat) : Int) - 65)))) (fun _ => (.int .u8 (((c : Nat) : Int) - 65))) (fun _ _ => by as_aux_lemma => kernel_rfl) (fun _ => congrArg (Value.int .u8) (u8I (by have := of_decide_eq_true hb1; have := of_decide_eq_false hb2; have := of_decide_eq_false hb3; have := of_decide_eq_true hb7; have := of_decide_eq_true hb8; have := hc; omega)))
  · exact o_as 2 (fun _ => (.int .u8 (IntKind.u8.wrap ((((c : Nat) : Int) - 65) + 10)))) (fun _ => (.int .u8 ((((c : Nat) : Int) - 65) + 10))) (fun _ _ => by as_aux_lemma => kernel_rfl) (fun _ => congrArg (Value.int .u8) (u8I (by have := of_decide_eq_true hb1; have := of_decide_eq_false hb2; have := of_decide_eq_false hb3; have := of_decide_eq_true hb7; have := of_decide_eq_true hb8; have := hc; omega)))
  · exact o_run 3 [] [] (fun _ _ => []) (fun _ _ => by as_aux_lemma => kernel_rfl)
  · exact o_run 4 [] [] (fun _ _ => []) (fun _ _ => by as_aux_lemma => kernel_rfl)
theorem digit_any_r14 (c : Nat) (w0 : World) (F : World → Prop) : Reg Try.prog 7 (regOps Try.f56 7) false 33 [(0, (.int .u8 ((c : Nat) : Int))), (2, (.int .u8 0)), (3, (.bool false)), (23, (.bool false))] w0 [] F
    (fun _ => [(2, (.int .u8 0)), (3, (.bool false))])
    (fun _ => []) := by
  refine reg_seq [0, 1] [2, 3] 2
    (fun _ ι => ([(.int .u8 0), (.bool false)] : List Value).getD ι undef)
    (fun _ ι => ([{}, {}] : List Eff).getD ι {})
    (by as_aux_lemma => kernel_rfl) (by as_aux_lemma => kernel_rfl) (fun _ => by as_aux_lemma => kernel_rfl) (fun _ => by as_aux_lemma => kernel_rfl) ⟨⟨trivial, ?_⟩, ?_⟩
  · exact o_run 0 [] [] (fun _ _ => []) (fun _ _ => by as_aux_lemma => kernel_rfl)
  · exact o_run 1 [] [] (fun _ _ => []) (fun _ _ => by as_aux_lemma => kernel_rfl)
theorem digit_any_r15 (c : Nat) (hb7 : (decide (65 ≤ ((c : Nat) : Int))) = false) (w0 : World) (F : World → Prop) : Reg Try.prog 5 (regOps Try.f56 5) false 33 [(0, (.int .u8 ((c : Nat) : Int))), (2, (.int .u8 0)), (3, (.bool false)), (13, (.bool false))] w0 [] F
    (fun _ => [(0, (.int .u8 ((c : Nat) : Int))), (2, (.int .u8 0)), (3, (.bool false)), (23, (.bool false))])
    (fun _ => []) := by
  refine reg_seq [0, 1, 3, 7, 15, 31, 63] [0, 2, 3, 23] 7
    (fun _ ι => ([(.int .u8 ((c : Nat) : Int)), (.bool false), (.bool false), undef, undef, (.bool false), (.bool false)] : List Value).getD ι undef)
    (fun _ ι => ([{}, {}, {}, {}, {}, {}, {}] : List Eff).getD ι {})
    (by as_aux_lemma => kernel_rfl) (by as_aux_lemma => kernel_rfl) (fun _ => by as_aux_lemma => kernel_rfl) (fun _ => by as_aux_lemma => kernel_rfl) ⟨⟨⟨⟨⟨⟨⟨trivial, ?_⟩, ?_⟩, ?_⟩, ?_⟩, ?_⟩, ?_⟩, ?_⟩
  · exact o_run 0 [] [] (fun _ _ => []) (fun _ _ => by as_aux_lemma => kernel_rfl)
  · exact o_as 1 (fun _ => (.bool (decide (65 ≤ ((c : Nat) : Int))))) (fun _ => (.bool false)) (fun _ _ => by as_aux_lemma => kernel_rfl) (fun _ => congrArg Value.bool hb7)
  · exact o_run 2 [] [] (fun _ _ => []) (fun _ _ => by as_aux_lemma => kernel_rfl)
  · exact o_skip 3 (fun _ => by as_aux_lemma => kernel_rfl)
  · exact o_skip 4 (fun _ => by as_aux_lemma => kernel_rfl)
  · exact o_run 5 [] [] (fun _ _ => []) (fun _ _ => by as_aux_lemma => kernel_rfl)
  · exact o_run 6 [] [] (fun _ _ => []) (fun _ _ => by as_aux_lemma => kernel_rfl)
theorem digit_any_r16 (c : Nat) (w0 : World) (F : World → Prop) : Reg Try.prog 7 (regOps Try.f56 7) false 33 [(0, (.int .u8 ((c : Nat) : Int))), (2, (.int .u8 0)), (3, (.bool false)), (23, (.bool false))] w0 [] F
    (fun _ => [(2, (.int .u8 0)), (3, (.bool false))])
    (fun _ => []) := by
  refine reg_seq [0, 1] [2, 3] 2
    (fun _ ι => ([(.int .u8 0), (.bool false)] : List Value).getD ι undef)
    (fun _ ι => ([{}, {}] : List Eff).getD ι {})
    (by as_aux_lemma => kernel_rfl) (by as_aux_lemma => kernel_rfl) (fun _ => by as_aux_lemma => kernel_rfl) (fun _ => by as_aux_lemma => kernel_rfl) ⟨⟨trivial, ?_⟩, ?_⟩
  · exact o_run 0 [] [] (fun _ _ => []) (fun _ _ => by as_aux_lemma => kernel_rfl)
  · exact o_run 1 [] [] (fun _ _ => []) (fun _ _ => by as_aux_lemma => kernel_rfl)
theorem digit_any_r17 (c : Nat) (hb1 : (decide (48 ≤ ((c : Nat) : Int))) = false) (w0 : World) (F : World → Prop) : Reg Try.prog 1 (regOps Try.f56 1) false 33 [(0, (.int .u8 ((c : Nat) : Int))), (2, (.int .u8 0)), (3, (.bool false))] w0 [] F
    (fun _ => [(0, (.int .u8 ((c : Nat) : Int))), (2, (.int .u8 0)), (3, (.bool false)), (4, (.bool false))])
    (fun _ => []) := by
  refine reg_seq [0, 1, 3, 7, 15, 31, 63] [0, 2, 3, 4] 7
    (fun _ ι => ([(.int .u8 ((c : Nat) : Int)), (.bool false), (.bool false), undef, undef, (.bool false), (.bool false)] : List Value).getD ι undef)
    (fun _ ι => ([{}, {}, {}, {}, {}, {}, {}] : List Eff).getD ι {})
    (by as_aux_lemma => kernel_rfl) (by as_aux_lemma => kernel_rfl) (fun _ => by as_aux_lemma => kernel_rfl) (fun _ => by as_aux_lemma => kernel_rfl) ⟨⟨⟨⟨⟨⟨⟨trivial, ?_⟩, ?_⟩, ?_⟩, ?_⟩, ?_⟩, ?_⟩, ?_⟩
  · exact o_run 0 [] [] (fun _ _ => []) (fun _ _ => by as_aux_lemma => kernel_rfl)
  · exact o_as 1 (fun _ => (.bool (decide (48 ≤ ((c : Nat) : Int))))) (fun _ => (.bool false)) (fun _ _ => by as_aux_lemma => kernel_rfl) (fun _ => congrArg Value.bool hb1)
  · exact o_run 2 [] [] (fun _ _ => []) (fun _ _ => by as_aux_lemma => kernel_rfl)
  · exact o_skip 3 (fun _ => by as_aux_lemma => kernel_rfl)
  · exact o_skip 4 (fun _ => by as_aux_lemma => kernel_rfl)
  · exact o_run 5 [] [] (fun _ _ => []) (fun _ _ => by as_aux_lemma => kernel_rfl)
  · exact o_run 6 [] [] (fun _ _ => []) (fun _ _ => by as_aux_lemma => kernel_rfl)
theorem digit_any_r18 (c : Nat) (hb9 : (decide (97 ≤ ((c : Nat) : Int))) = true) (w0 : World) (F : World → Prop) : Reg Try.prog 3 (regOps Try.f56 3) false 33 [(0, (.int .u8 ((c : Nat) : Int))), (2, (.int .u8 0)), (3, (.bool false)), (4, (.bool false))] w0 [] F
    (fun _ => [(0, (.int .u8 ((c : Nat) : Int))), (2, (.int .u8 0)), (3, (.bool false)), (13, (.bool (decide (((c : Nat) : Int) ≤ 102))))])
    (fun _ => []) := by
  refine reg_seq [0, 1, 3, 7, 15, 31, 63] [0, 2, 3, 13] 7
    (fun _ ι => ([(.int .u8 ((c : Nat) : Int)), (.bool true), (.bool true), (.int .u8 ((c : Nat) : Int)), (.bool (decide (((c : Nat) : Int) ≤ 102))), (.bool (decide (((c : Nat) : Int) ≤ 102))), (.bool (decide (((c : Nat) : Int) ≤ 102)))] : List Value).getD ι undef)
    (fun _ ι => ([{}, {}, {}, {}, {}, {}, {}] : List Eff).getD ι {})
    (by as_aux_lemma => kernel_rfl) (by as_aux_lemma => kernel_rfl) (fun _ => by as_aux_lemma => kernel_rfl) (fun _ => by as_aux_lemma => kernel_rfl) ⟨⟨⟨⟨⟨⟨⟨trivial, ?_⟩, ?_⟩, ?_⟩, ?_⟩, ?_⟩, ?_⟩, ?_⟩
  · exact o_run 0 [] [] (fun _ _ => []) (fun _ _ => by as_aux_lemma => kernel_rfl)
  · exact o_as 1 (fun _ => (.bool (decide (97 ≤ ((c : Nat) : Int))))) (fun _ => (.bool true)) (fun _ _ => by as_aux_lemma => kernel_rfl) (fun _ => congrArg Value.bool hb9)
  · exact o_run 2 [] [] (fun _ _ => []) (fun _ _ => by as_aux_lemma => kernel_rfl)
  · exact o_run 3 [] [] (fun _ _ => []) (fun _ _ => by as_aux_lemma => kernel_rfl)
  · exact o_run 4 [] [] (fun _ _ => []) (fun _ _ => by as_aux_lemma => kernel_rfl)
  · exact o_run 5 [] [] (fun _ _ => []) (fun _ _ => by as_aux_lemma => kernel_rfl)
  · exact o_run 6 [] [] (fun _ _ => []) (fun _ _ => by as_aux_lemma => kernel_rfl)
theorem digit_any_r19 (c : Nat) (hc : c < 256) (hb1 : (decide (48 ≤ ((c : Nat) : Int))) = false) (hb9 : (decide (97 ≤ ((c : Nat) : Int))) = true) (hb10 : (decide (((c : Nat) : Int) ≤ 102)) = true) (w0 : World) (F : World → Prop) : Reg Try.prog 4 (regOps Try.f56 4) false 33 [(0, (.int .u8 ((c : Nat) : Int))), (2, (.int .u8 0)), (3, (.bool false)), (13, (.bool true))] w0 [] F
    (fun _ => [(2, (.int .u8 ((((c : Nat) : Int) - 97) + 10))), (3, (.bool true))])
    (fun _ => []) := by
  refine reg_seq [0, 1, 3, 7, 15] [2, 3] 5
    (fun _ ι => ([(.int .u8 ((c : Nat) : Int)), (.int .u8 (((c : Nat) : Int) - 97)), (.int .u8 ((((c : Nat) : Int) - 97) + 10)), (.int .u8 ((((c : Nat) : Int) - 97) + 10)), (.bool true)] : List Value).getD ι undef)
    (fun _ ι => ([{}, {}, {}, {}, {}] : List Eff).getD ι {})
    (by as_aux_lemma => kernel_rfl) (by as_aux_lemma => kernel_rfl) (fun _ => by as_aux_lemma => kernel_rfl) (fun _ => by as_aux_lemma => kernel_rfl) ⟨⟨⟨⟨⟨trivial, ?_⟩, ?_⟩, ?_⟩, ?_⟩, ?_⟩
  · exact o_run 0 [] [] (fun _ _ => []) (fun _ _ => by as_aux_lemma => kernel_rfl)
  · exact o_as 1 (fun _ => (.int .u8 (IntKind.u8.wrap (((c : Nat) : Int) - 97)))) (fun _ => (.int .u8 (((c : Nat) : Int) - 97))) (fun _ _ => by as_aux_lemma => kernel_rfl) (fun _ => congrArg (Value.int .u8) (u8I (by have := of_decide_eq_false hb1; have := of_decide_eq_true hb9; have := of_decide_eq_true hb10; have := hc; omega)))
  · exact o_as 2 (fun _ => (.int .u8 (IntKind.u8.wrap ((((c : Nat) : Int) - 97) + 10)))) (fun _ => (.int .u8 ((((c : Nat) : Int) - 97) + 10))) (fun _ _ => by as_aux_lemma => kernel_rfl) (fun _ => congrArg (Value.int .u8) (u8I (by have := of_decide_eq_false hb1; have := of_decide_eq_true hb9; have := of_decide_eq_true hb10; have := hc; omega)))
  · exact o_run 3 [] [] (fun _ _ => []) (fun _ _ => by as_aux_lemma => kernel_rfl)
  · exact o_run 4 [] [] (fun _ _ => []) (fun _ _ => by as_aux_lemma => kernel_rfl)
theorem digit_any_r20 (c : Nat) (hb11 : (decide (65 ≤ ((c : Nat) : Int))) = true) (w0 : World) (F : World → Prop) : Reg Try.prog 5 (regOps Try.f56 5) false 33 [(0, (.int .u8 ((c : Nat) : Int))), (2, (.int .u8 0)), (3, (.bool false)), (13, (.bool false))] w0 [] F
    (fun _ => [(0, (.int .u8 ((c : Nat) : Int))), (2, (.int .u8 0)), (3, (.bool false)), (23, (.bool (decide (((c : Nat) : Int) ≤ 70))))])
    (fun _ => []) := by
  refine reg_seq [0, 1, 3, 7, 15, 31, 63] [0, 2, 3, 23] 7
    (fun _ ι => ([(.int .u8 ((c : Nat) : Int)), (.bool true), (.bool true), (.int .u8 ((c : Nat) : Int)), (.bool (decide (((c : Nat) : Int) ≤ 70))), (.bool (decide (((c : Nat) : Int) ≤ 70))), (.bool (decide (((c : Nat) : Int) ≤ 70)))] : List Value).getD ι undef)
    (fun _ ι => ([{}, {}, {}, {}, {}, {}, {}] : List Eff).getD ι {})
    (by as_aux_lemma => kernel_rfl) (by as_aux_lemma => kernel_rfl) (fun _ => by as_aux_lemma => kernel_rfl) (fun _ => by as_aux_lemma => kernel_rfl) ⟨⟨⟨⟨⟨⟨⟨trivial, ?_⟩, ?_⟩, ?_⟩, ?_⟩, ?_⟩, ?_⟩, ?_⟩
  · exact o_run 0 [] [] (fun _ _ => []) (fun _ _ => by as_aux_lemma => kernel_rfl)
  · exact o_as 1 (fun _ => (.bool (decide (65 ≤ ((c : Nat) : Int))))) (fun _ => (.bool true)) (fun _ _ => by as_aux_lemma => kernel_rfl) (fun _ => congrArg Value.bool hb11)
  · exact o_run 2 [] [] (fun _ _ => []) (fun _ _ => by as_aux_lemma => kernel_rfl)
  · exact o_run 3 [] [] (fun _ _ => []) (fun _ _ => by as_aux_lemma => kernel_rfl)
  · exact o_run 4 [] [] (fun _ _ => []) (fun _ _ => by as_aux_lemma => kernel_rfl)
  · exact o_run 5 [] [] (fun _ _ => []) (fun _ _ => by as_aux_lemma => kernel_rfl)
  · exact o_run 6 [] [] (fun _ _ => []) (fun _ _ => by as_aux_lemma => kernel_rfl)
theorem digit_any_r21 (c : Nat) (hc : c < 256) (hb1 : (decide (48 ≤ ((c : Nat) : Int))) = false) (hb9 : (decide (97 ≤ ((c : Nat) : Int))) = true) (hb10 : (decide (((c : Nat) : Int) ≤ 102)) = false) (hb11 : (decide (65 ≤ ((c : Nat) : Int))) = true) (hb12 : (decide (((c : Nat) : Int) ≤ 70)) = true) (w0 : World) (F : World → Prop) : Reg Try.prog 6 (regOps Try.f56 6) false 33 [(0, (.int .u8 ((c : Nat) : Int))), (2, (.int .u8 0)), (3, (.bool false)), (23, (.bool true))] w0 [] F
    (fun _ => [(2, (.int .u8 ((((c : Nat) : Int) - 65) + 10))), (3, (.bool true))])
    (fun _ => []) := by
  refine reg_seq [0, 1, 3, 7, 15] [2, 3] 5
    (fun _ ι => ([(.int .u8 ((c : Nat) : Int)), (.int .u8 (((c : Nat) : Int) - 65)), (.int .u8 ((((c : Nat) : Int) - 65) + 10)), (.int .u8 ((((c : Nat) : Int) - 65) + 10)), (.bool true)] : List Value).getD ι undef)
    (fun _ ι => ([{}, {}, {}, {}, {}] : List Eff).getD ι {})
    (by as_aux_lemma => kernel_rfl) (by as_aux_lemma => kernel_rfl) (fun _ => by as_aux_lemma => kernel_rfl) (fun _ => by as_aux_lemma => kernel_rfl) ⟨⟨⟨⟨⟨trivial, ?_⟩, ?_⟩, ?_⟩, ?_⟩, ?_⟩
  · exact o_run 0 [] [] (fun _ _ => []) (fun _ _ => by as_aux_lemma => kernel_rfl)
  · exact o_as 1 (fun _ => (.int .u8 (IntKind.u8.wrap (((c : Nat) : Int) - 65)))) (fun _ => (.int .u8 (((c : Nat) : Int) - 65))) (fun _ _ => by as_aux_lemma => kernel_rfl) (fun _ => congrArg (Value.int .u8) (u8I (by have := of_decide_eq_false hb1; have := of_decide_eq_true hb9; have := of_decide_eq_false hb10; have := of_decide_eq_true hb11; have := of_decide_eq_true hb12; have := hc; omega)))
  · exact o_as 2 (fun _ => (.int .u8 (IntKind.u8.wrap ((((c : Nat) : Int) - 65) + 10)))) (fun _ => (.int .u8 ((((c : Nat) : Int) - 65) + 10))) (fun _ _ => by as_aux_lemma => kernel_rfl) (fun _ => congrArg (Value.int .u8) (u8I (by have := of_decide_eq_false hb1; have := of_decide_eq_true hb9; have := of_decide_eq_false hb10; have := of_decide_eq_true hb11; have := of_decide_eq_true hb12; have := hc; omega)))
  · exact o_run 3 [] [] (fun _ _ => []) (fun _ _ => by as_aux_lemma => kernel_rfl)
  · exact o_run 4 [] [] (fun _ _ => []) (fun _ _ => by as_aux_lemma => kernel_rfl)
theorem digit_any_r22 (c : Nat) (w0 : World) (F : World → Prop) : Reg Try.prog 7 (regOps Try.f56 7) false 33 [(0, (.int .u8 ((c : Nat) : Int))), (2, (.int .u8 0)), (3, (.bool false)), (23, (.bool false))] w0 [] F
    (fun _ => [(2, (.int .u8 0)), (3, (.bool false))])
    (fun _ => []) := by
  refine reg_seq [0, 1] [2, 3] 2
    (fun _ ι => ([(.int .u8 0), (.bool false)] : List Value).getD ι undef)
    (fun _ ι => ([{}, {}] : List Eff).getD ι {})
    (by as_aux_lemma => kernel_rfl) (by as_aux_lemma => kernel_rfl) (fun _ => by as_aux_lemma => kernel_rfl) (fun _ => by as_aux_lemma => kernel_rfl) ⟨⟨trivial, ?_⟩, ?_⟩
  · exact o_run 0 [] [] (fun _ _ => []) (fun _ _ => by as_aux_lemma => kernel_rfl)
  · exact o_run 1 [] [] (fun _ _ => []) (fun _ _ => by as_aux_lemma => kernel_rfl)
theorem digit_any_r23 (c : Nat) (hb11 : (decide (65 ≤ ((c : Nat) : Int))) = false) (w0 : World) (F : World → Prop) : Reg Try.prog 5 (regOps Try.f56 5) false 33 [(0, (.int .u8 ((c : Nat) : Int))), (2, (.int .u8 0)), (3, (.bool false)), (13, (.bool false))] w0 [] F
    (fun _ => [(0, (.int .u8 ((c : Nat) : Int))), (2, (.int .u8 0)), (3, (.bool false)), (23, (.bool false))])
    (fun _ => []) := by
  refine reg_seq [0, 1, 3, 7, 15, 31, 63] [0, 2, 3, 23] 7
    (fun _ ι => ([(.int .u8 ((c : Nat) : Int)), (.bool false), (.bool false), undef, undef, (.bool false), (.bool false)] : List Value).getD ι undef)
    (fun _ ι => ([{}, {}, {}, {}, {}, {}, {}] : List Eff).getD ι {})
    (by as_aux_lemma => kernel_rfl) (by as_aux_lemma => kernel_rfl) (fun _ => by as_aux_lemma => kernel_rfl) (fun _ => by as_aux_lemma => kernel_rfl) ⟨⟨⟨⟨⟨⟨⟨trivial, ?_⟩, ?_⟩, ?_⟩, ?_⟩, ?_⟩, ?_⟩, ?_⟩
  · exact o_run 0 [] [] (fun _ _ => []) (fun _ _ => by as_aux_lemma => kernel_rfl)
  · exact o_as 1 (fun _ => (.bool (decide (65 ≤ ((c : Nat) : Int))))) (fun _ => (.bool false)) (fun _ _ => by as_aux_lemma => kernel_rfl) (fun _ => congrArg Value.bool hb11)
  · exact o_run 2 [] [] (fun _ _ => []) (fun _ _ => by as_aux_lemma => kernel_rfl)
  · exact o_skip 3 (fun _ => by as_aux_lemma => kernel_rfl)
  · exact o_skip 4 (fun _ => by as_aux_lemma => kernel_rfl)
  · exact o_run 5 [] [] (fun _ _ => []) (fun _ _ => by as_aux_lemma => kernel_rfl)
  · exact o_run 6 [] [] (fun _ _ => []) (fun _ _ => by as_aux_lemma => kernel_rfl)
theorem digit_any_r24 (c : Nat) (w0 : World) (F : World → Prop) : Reg Try.prog 7 (regOps Try.f56 7) false 33 [(0, (.int .u8 ((c : Nat) : Int))), (2, (.int .u8 0)), (3, (.bool false)), (23, (.bool false))] w0 [] F
    (fun _ => [(2, (.int .u8 0)), (3, (.bool false))])
    (fun _ => []) := by
  refine reg_seq [0, 1] [2, 3] 2
    (fun _ ι => ([(.int .u8 0), (.bool false)] : List Value).getD ι undef)
    (fun _ ι => ([{}, {}] : List Eff).getD ι {})
    (by as_aux_lemma => kernel_rfl) (by as_aux_lemma => kernel_rfl) (fun _ => by as_aux_lemma => kernel_rfl) (fun _ => by as_aux_lemma => kernel_rfl) ⟨⟨trivial, ?_⟩, ?_⟩
  · exact o_run 0 [] [] (fun _ _ => []) (fun _ _ => by as_aux_lemma => kernel_rfl)
  · exact o_run 1 [] [] (fun _ _ => []) (fun _ _ => by as_aux_lemma => kernel_rfl)
theorem digit_any_r25 (c : Nat) (hb9 : (decide (97 ≤ ((c : Nat) : Int))) = false) (w0 : World) (F : World → Prop) : Reg Try.prog 3 (regOps Try.f56 3) false 33 [(0, (.int .u8 ((c : Nat) : Int))), (2, (.int .u8 0)), (3, (.bool false)), (4, (.bool false))] w0 [] F
    (fun _ => [(0, (.int .u8 ((c : Nat) : Int))), (2, (.int .u8 0)), (3, (.bool false)), (13, (.bool false))])
    (fun _ => []) := by
  refine reg_seq [0, 1, 3, 7, 15, 31, 63] [0, 2, 3, 13] 7
    (fun _ ι => ([(.int .u8 ((c : Nat) : Int)), (.bool false), (.bool false), undef, undef, (.bool false), (.bool false)] : List Value).getD ι undef)
    (fun _ ι => ([{}, {}, {}, {}, {}, {}, {}] : List Eff).getD ι {})
    (by as_aux_lemma => kernel_rfl) (by as_aux_lemma => kernel_rfl) (fun _ => by as_aux_lemma => kernel_rfl) (fun _ => by as_aux_lemma => kernel_rfl) ⟨⟨⟨⟨⟨⟨⟨trivial, ?_⟩, ?_⟩, ?_⟩, ?_⟩, ?_⟩, ?_⟩, ?_⟩
  · exact o_run 0 [] [] (fun _ _ => []) (fun _ _ => by as_aux_lemma => kernel_rfl)
  · exact o_as 1 (fun _ => (.bool (decide (97 ≤ ((c : Nat) : Int))))) (fun _ => (.bool false)) (fun _ _ => by as_aux_lemma => kernel_rfl) (fun _ => congrArg Value.bool hb9)
  · exact o_run 2 [] [] (fun _ _ => []) (fun _ _ => by as_aux_lemma => kernel_rfl)
  · exact o_skip 3 (fun _ => by as_aux_lemma => kernel_rfl)
  · exact o_skip 4 (fun _ => by as_aux_lemma => kernel_rfl)
  · exact o_run 5 [] [] (fun _ _ => []) (fun _ _ => by as_aux_lemma => kernel_rfl)
  · exact o_run 6 [] [] (fun _ _ => []) (fun _ _ => by as_aux_lemma => kernel_rfl)
theorem digit_any_r26 (c : Nat) (hb13 : (decide (65 ≤ ((c : Nat) : Int))) = true) (w0 : World) (F : World → Prop) : Reg Try.prog 5 (regOps Try.f56 5) false 33 [(0, (.int .u8 ((c : Nat) : Int))), (2, (.int .u8 0)), (3, (.bool false)), (13, (.bool false))] w0 [] F
    (fun _ => [(0, (.int .u8 ((c : Nat) : Int))), (2, (.int .u8 0)), (3, (.bool false)), (23, (.bool (decide (((c : Nat) : Int) ≤ 70))))])
    (fun _ => []) := by
  refine reg_seq [0, 1, 3, 7, 15, 31, 63] [0, 2, 3, 23] 7
    (fun _ ι => ([(.int .u8 ((c : Nat) : Int)), (.bool true), (.bool true), (.int .u8 ((c : Nat) : Int)), (.bool (decide (((c : Nat) : Int) ≤ 70))), (.bool (decide (((c : Nat) : Int) ≤ 70))), (.bool (decide (((c : Nat) : Int) ≤ 70)))] : List Value).getD ι undef)
    (fun _ ι => ([{}, {}, {}, {}, {}, {}, {}] : List Eff).getD ι {})
    (by as_aux_lemma => kernel_rfl) (by as_aux_lemma => kernel_rfl) (fun _ => by as_aux_lemma => kernel_rfl) (fun _ => by as_aux_lemma => kernel_rfl) ⟨⟨⟨⟨⟨⟨⟨trivial, ?_⟩, ?_⟩, ?_⟩, ?_⟩, ?_⟩, ?_⟩, ?_⟩
  · exact o_run 0 [] [] (fun _ _ => []) (fun _ _ => by as_aux_lemma => kernel_rfl)
  · exact o_as 1 (fun _ => (.bool (decide (65 ≤ ((c : Nat) : Int))))) (fun _ => (.bool true)) (fun _ _ => by as_aux_lemma => kernel_rfl) (fun _ => congrArg Value.bool hb13)
  · exact o_run 2 [] [] (fun _ _ => []) (fun _ _ => by as_aux_lemma => kernel_rfl)
  · exact o_run 3 [] [] (fun _ _ => []) (fun _ _ => by as_aux_lemma => kernel_rfl)
  · exact o_run 4 [] [] (fun _ _ => []) (fun _ _ => by as_aux_lemma => kernel_rfl)
  · exact o_run 5 [] [] (fun _ _ => []) (fun _ _ => by as_aux_lemma => kernel_rfl)
  · exact o_run 6 [] [] (fun _ _ => []) (fun _ _ => by as_aux_lemma => kernel_rfl)
theorem digit_any_r27 (c : Nat) (hc : c < 256) (hb1 : (decide (48 ≤ ((c : Nat) : Int))) = false) (hb9 : (decide (97 ≤ ((c : Nat) : Int))) = false) (hb13 : (decide (65 ≤ ((c : Nat) : Int))) = true) (hb14 : (decide (((c : Nat) : Int) ≤ 70)) = true) (w0 : World) (F : World → Prop) : Reg Try.prog 6 (regOps Try.f56 6) false 33 [(0, (.int .u8 ((c : Nat) : Int))), (2, (.int .u8 0)), (3, (.bool false)), (23, (.bool true))] w0 [] F
    (fun _ => [(2, (.int .u8 ((((c : Nat) : Int) - 65) + 10))), (3, (.bool true))])
    (fun _ => []) := by
  refine reg_seq [0, 1, 3, 7, 15] [2, 3] 5
    (fun _ ι => ([(.int .u8 ((c : Nat) : Int)), (.int .u8 (((c : Nat) : Int) - 65)), (.int .u8 ((((c : Nat) : Int) - 65) + 10)), (.int .u8 ((((c : Nat) : Int) - 65) + 10)), (.bool true)] : List Value).getD ι undef)
    (fun _ ι => ([{}, {}, {}, {}, {}] : List Eff).getD ι {})
    (by as_aux_lemma => kernel_rfl) (by as_aux_lemma => kernel_rfl) (fun _ => by as_aux_lemma => kernel_rfl) (fun _ => by as_aux_lemma => kernel_rfl) ⟨⟨⟨⟨⟨trivial, ?_⟩, ?_⟩, ?_⟩, ?_⟩, ?_⟩
  · exact o_run 0 [] [] (fun _ _ => []) (fun _ _ => by as_aux_lemma => kernel_rfl)
  · exact o_as 1 (fun _ => (.int .u8 (IntKind.u8.wrap (((c : Nat) : Int) - 65)))) (fun _ => (.int .u8 (((c : Nat) : Int) - 65))) (fun _ _ => by as_aux_lemma => kernel_rfl) (fun _ => congrArg (Value.int .u8) (u8I (by have := of_decide_eq_false hb1; have := of_decide_eq_false hb9; have := of_decide_eq_true hb13; have := of_decide_eq_true hb14; have := hc; omega)))
  · exact o_as 2 (fun _ => (.int .u8 (IntKind.u8.wrap ((((c : Nat) : Int) - 65) + 10)))) (fun _ => (.int .u8 ((((c : Nat) : Int) - 65) + 10))) (fun _ _ => by as_aux_lemma => kernel_rfl) (fun _ => congrArg (Value.int .u8) (u8I (by have := of_decide_eq_false hb1; have := of_decide_eq_false hb9; have := of_decide_eq_true hb13; have := of_decide_eq_true hb14; have := hc; omega)))
  · exact o_run 3 [] [] (fun _ _ => []) (fun _ _ => by as_aux_lemma => kernel_rfl)
  · exact o_run 4 [] [] (fun _ _ => []) (fun _ _ => by as_aux_lemma => kernel_rfl)
theorem digit_any_r28 (c : Nat) (w0 : World) (F : World → Prop) : Reg Try.prog 7 (regOps Try.f56 7) false 33 [(0, (.int .u8 ((c : Nat) : Int))), (2, (.int .u8 0)), (3, (.bool false)), (23, (.bool false))] w0 [] F
    (fun _ => [(2, (.int .u8 0)), (3, (.bool false))])
    (fun _ => []) := by
  refine reg_seq [0, 1] [2, 3] 2
    (fun _ ι => ([(.int .u8 0), (.bool false)] : List Value).getD ι undef)
    (fun _ ι => ([{}, {}] : List Eff).getD ι {})
    (by as_aux_lemma => kernel_rfl) (by as_aux_lemma => kernel_rfl) (fun _ => by as_aux_lemma => kernel_rfl) (fun _ => by as_aux_lemma => kernel_rfl) ⟨⟨trivial, ?_⟩, ?_⟩
  · exact o_run 0 [] [] (fun _ _ => []) (fun _ _ => by as_aux_lemma => kernel_rfl)
  · exact o_run 1 [] [] (fun _ _ => []) (fun _ _ => by as_aux_lemma => kernel_rfl)
theorem digit_any_r29 (c : Nat) (hb13 : (decide (65 ≤ ((c : Nat) : Int))) = false) (w0 : World) (F : World → Prop) : Reg Try.prog 5 (regOps Try.f56 5) false 33 [(0, (.int .u8 ((c : Nat) : Int))), (2, (.int .u8 0)), (3, (.bool false)), (13, (.bool false))] w0 [] F
    (fun _ => [(0, (.int .u8 ((c : Nat) : Int))), (2, (.int .u8 0)), (3, (.bool false)), (23, (.bool false))])
    (fun _ => []) := by
  refine reg_seq [0, 1, 3, 7, 15, 31, 63] [0, 2, 3, 23] 7
    (fun _ ι => ([(.int .u8 ((c : Nat) : Int)), (.bool false), (.bool false), undef, undef, (.bool false), (.bool false)] : List Value).getD ι undef)
    (fun _ ι => ([{}, {}, {}, {}, {}, {}, {}] : List Eff).getD ι {})
    (by as_aux_lemma => kernel_rfl) (by as_aux_lemma => kernel_rfl) (fun _ => by as_aux_lemma => kernel_rfl) (fun _ => by as_aux_lemma => kernel_rfl) ⟨⟨⟨⟨⟨⟨⟨trivial, ?_⟩, ?_⟩, ?_⟩, ?_⟩, ?_⟩, ?_⟩, ?_⟩
  · exact o_run 0 [] [] (fun _ _ => []) (fun _ _ => by as_aux_lemma => kernel_rfl)
  · exact o_as 1 (fun _ => (.bool (decide (65 ≤ ((c : Nat) : Int))))) (fun _ => (.bool false)) (fun _ _ => by as_aux_lemma => kernel_rfl) (fun _ => congrArg Value.bool hb13)
  · exact o_run 2 [] [] (fun _ _ => []) (fun _ _ => by as_aux_lemma => kernel_rfl)
  · exact o_skip 3 (fun _ => by as_aux_lemma => kernel_rfl)
  · exact o_skip 4 (fun _ => by as_aux_lemma => kernel_rfl)
  · exact o_run 5 [] [] (fun _ _ => []) (fun _ _ => by as_aux_lemma => kernel_rfl)
  · exact o_run 6 [] [] (fun _ _ => []) (fun _ _ => by as_aux_lemma => kernel_rfl)
theorem digit_any_r30 (c : Nat) (w0 : World) (F : World → Prop) : Reg Try.prog 7 (regOps Try.f56 7) false 33 [(0, (.int .u8 ((c : Nat) : Int))), (2, (.int .u8 0)), (3, (.bool false)), (23, (.bool false))] w0 [] F
    (fun _ => [(2, (.int .u8 0)), (3, (.bool false))])
    (fun _ => []) := by
  refine reg_seq [0, 1] [2, 3] 2
    (fun _ ι => ([(.int .u8 0), (.bool false)] : List Value).getD ι undef)
    (fun _ ι => ([{}, {}] : List Eff).getD ι {})
    (by as_aux_lemma => kernel_rfl) (by as_aux_lemma => kernel_rfl) (fun _ => by as_aux_lemma => kernel_rfl) (fun _ => by as_aux_lemma => kernel_rfl) ⟨⟨trivial, ?_⟩, ?_⟩
  · exact o_run 0 [] [] (fun _ _ => []) (fun _ _ => by as_aux_lemma => kernel_rfl)
  · exact o_run 1 [] [] (fun _ _ => []) (fun _ _ => by as_aux_lemma => kernel_rfl)
theorem digit_any (c : Nat) (hc : c < 256) (w0 : World) : Calls Try.prog 56 #[(.int .u8 ((c : Nat) : Int))] w0 (fun ε w' => ε = .returned (.tuple #[(.int .u8 ((dg c : Nat) : Int)), (.bool (dgB c))]) ∧ Below w0.heap.size w0 w') := by
  refine Calls.of_ok (n := 33) (F := (fun _ => True)) Try.func56 rfl rfl rfl (by simp) persT ?_
  refine ok_seq_r (by as_aux_lemma => kernel_rfl) (digit_any_r1 c _ _) (fun _ => ?_)
  refine ok_seq ?_
  refine ok_block ?_
  rcases Bool.eq_false_or_eq_true (decide (48 ≤ ((c : Nat) : Int))) with hb1 | hb1
  ·
    refine ok_seq_r (by as_aux_lemma => kernel_rfl) (digit_any_r2 c hb1 _ _) (fun _ => ?_)
    refine ok_cond (b := decide (((c : Nat) : Int) ≤ 57)) (by as_aux_lemma => kernel_rfl) (fun hb2 => ?_) (fun hb2 => ?_)
    ·
      rw [hb2]
      refine ok_seq_r (by as_aux_lemma => kernel_rfl) (digit_any_r3 c hc hb1 hb2 _ _) (fun _ => ?_)
      refine ok_ret ?_
      refine mt_block_r ?_
      refine mt_then_r ?_
      exact meets_ret (v := (.tuple #[(.int .u8 (((c : Nat) : Int) - 48)), (.bool true)])) [] (dup []) (by as_aux_lemma => kernel_rfl) (by as_aux_lemma => kernel_rfl) (eqs_dup _) (fun _ hS => ⟨congrArg Ending.returned (dg_val (by rw [(dg1 (by have := of_decide_eq_true hb1; have := of_decide_eq_true hb2; have := hc; omega)).1]; have := of_decide_eq_true hb1; have := of_decide_eq_true hb2; have := hc; omega) (dg1 (by have := of_decide_eq_true hb1; have := of_decide_eq_true hb2; have := hc; omega)).2.symm), hS.below⟩)
    ·
      rw [hb2]
      rcases Bool.eq_false_or_eq_true (decide (97 ≤ ((c : Nat) : Int))) with hb3 | hb3
      ·
        refine ok_seq_r (by as_aux_lemma => kernel_rfl) (digit_any_r4 c hb3 _ _) (fun _ => ?_)
        refine ok_cond (b := decide (((c : Nat) : Int) ≤ 102)) (by as_aux_lemma => kernel_rfl) (fun hb4 => ?_) (fun hb4 => ?_)
        ·
          rw [hb4]
          refine ok_seq_r (by as_aux_lemma => kernel_rfl) (digit_any_r5 c hc hb1 hb2 hb3 hb4 _ _) (fun _ => ?_)
          refine ok_ret ?_
          refine mt_block_r ?_
          refine mt_then_r ?_
          exact meets_ret (v := (.tuple #[(.int .u8 ((((c : Nat) : Int) - 97) + 10)), (.bool true)])) [] (dup []) (by as_aux_lemma => kernel_rfl) (by as_aux_lemma => kernel_rfl) (eqs_dup _) (fun _ hS => ⟨congrArg Ending.returned (dg_val (by rw [(dg2 (by have := of_decide_eq_true hb1; have := of_decide_eq_false hb2; have := of_decide_eq_true hb3; have := of_decide_eq_true hb4; have := hc; omega) (by have := of_decide_eq_true hb1; have := of_decide_eq_false hb2; have := of_decide_eq_true hb3; have := of_decide_eq_true hb4; have := hc; omega)).1]; have := of_decide_eq_true hb1; have := of_decide_eq_false hb2; have := of_decide_eq_true hb3; have := of_decide_eq_true hb4; have := hc; omega) (dg2 (by have := of_decide_eq_true hb1; have := of_decide_eq_false hb2; have := of_decide_eq_true hb3; have := of_decide_eq_true hb4; have := hc; omega) (by have := of_decide_eq_true hb1; have := of_decide_eq_false hb2; have := of_decide_eq_true hb3; have := of_decide_eq_true hb4; have := hc; omega)).2.symm), hS.below⟩)
        ·
          rw [hb4]
          rcases Bool.eq_false_or_eq_true (decide (65 ≤ ((c : Nat) : Int))) with hb5 | hb5
          ·
            refine ok_seq_r (by as_aux_lemma => kernel_rfl) (digit_any_r6 c hb5 _ _) (fun _ => ?_)
            refine ok_cond (b := decide (((c : Nat) : Int) ≤ 70)) (by as_aux_lemma => kernel_rfl) (fun hb6 => ?_) (fun hb6 => ?_)
            ·
              rw [hb6]
              refine ok_seq_r (by as_aux_lemma => kernel_rfl) (digit_any_r7 c hc hb1 hb2 hb3 hb4 hb5 hb6 _ _) (fun _ => ?_)
              refine ok_ret ?_
              refine mt_block_r ?_
              refine mt_then_r ?_
              exact meets_ret (v := (.tuple #[(.int .u8 ((((c : Nat) : Int) - 65) + 10)), (.bool true)])) [] (dup []) (by as_aux_lemma => kernel_rfl) (by as_aux_lemma => kernel_rfl) (eqs_dup _) (fun _ hS => ⟨congrArg Ending.returned (dg_val (by rw [(dg3 (by have := of_decide_eq_true hb1; have := of_decide_eq_false hb2; have := of_decide_eq_true hb3; have := of_decide_eq_false hb4; have := of_decide_eq_true hb5; have := of_decide_eq_true hb6; have := hc; omega) (by have := of_decide_eq_true hb1; have := of_decide_eq_false hb2; have := of_decide_eq_true hb3; have := of_decide_eq_false hb4; have := of_decide_eq_true hb5; have := of_decide_eq_true hb6; have := hc; omega) (by have := of_decide_eq_true hb1; have := of_decide_eq_false hb2; have := of_decide_eq_true hb3; have := of_decide_eq_false hb4; have := of_decide_eq_true hb5; have := of_decide_eq_true hb6; have := hc; omega)).1]; have := of_decide_eq_true hb1; have := of_decide_eq_false hb2; have := of_decide_eq_true hb3; have := of_decide_eq_false hb4; have := of_decide_eq_true hb5; have := of_decide_eq_true hb6; have := hc; omega) (dg3 (by have := of_decide_eq_true hb1; have := of_decide_eq_false hb2; have := of_decide_eq_true hb3; have := of_decide_eq_false hb4; have := of_decide_eq_true hb5; have := of_decide_eq_true hb6; have := hc; omega) (by have := of_decide_eq_true hb1; have := of_decide_eq_false hb2; have := of_decide_eq_true hb3; have := of_decide_eq_false hb4; have := of_decide_eq_true hb5; have := of_decide_eq_true hb6; have := hc; omega) (by have := of_decide_eq_true hb1; have := of_decide_eq_false hb2; have := of_decide_eq_true hb3; have := of_decide_eq_false hb4; have := of_decide_eq_true hb5; have := of_decide_eq_true hb6; have := hc; omega)).2.symm), hS.below⟩)
            ·
              rw [hb6]
              refine ok_skip ?_
              refine mt_block_n ?_
              refine mt_then ?_
              refine ok_seq_r (by as_aux_lemma => kernel_rfl) (digit_any_r8 c _ _) (fun _ => ?_)
              refine ok_ret ?_
              exact meets_ret (v := (.tuple #[(.int .u8 0), (.bool false)])) [] (dup []) (by as_aux_lemma => kernel_rfl) (by as_aux_lemma => kernel_rfl) (eqs_dup _) (fun _ hS => ⟨congrArg Ending.returned (dg_val (by rw [(dg0 (by have := of_decide_eq_true hb1; have := of_decide_eq_false hb2; have := of_decide_eq_true hb3; have := of_decide_eq_false hb4; have := of_decide_eq_true hb5; have := of_decide_eq_false hb6; have := hc; omega) (by have := of_decide_eq_true hb1; have := of_decide_eq_false hb2; have := of_decide_eq_true hb3; have := of_decide_eq_false hb4; have := of_decide_eq_true hb5; have := of_decide_eq_false hb6; have := hc; omega) (by have := of_decide_eq_true hb1; have := of_decide_eq_false hb2; have := of_decide_eq_true hb3; have := of_decide_eq_false hb4; have := of_decide_eq_true hb5; have := of_decide_eq_false hb6; have := hc; omega)).1]; rfl) (dg0 (by have := of_decide_eq_true hb1; have := of_decide_eq_false hb2; have := of_decide_eq_true hb3; have := of_decide_eq_false hb4; have := of_decide_eq_true hb5; have := of_decide_eq_false hb6; have := hc; omega) (by have := of_decide_eq_true hb1; have := of_decide_eq_false hb2; have := of_decide_eq_true hb3; have := of_decide_eq_false hb4; have := of_decide_eq_true hb5; have := of_decide_eq_false hb6; have := hc; omega) (by have := of_decide_eq_true hb1; have := of_decide_eq_false hb2; have := of_decide_eq_true hb3; have := of_decide_eq_false hb4; have := of_decide_eq_true hb5; have := of_decide_eq_false hb6; have := hc; omega)).2.symm), hS.below⟩)
          ·
            refine ok_seq_r (by as_aux_lemma => kernel_rfl) (digit_any_r9 c hb5 _ _) (fun _ => ?_)
            refine ok_no (by as_aux_lemma => kernel_rfl) ?_
            refine ok_skip ?_
            refine mt_block_n ?_
            refine mt_then ?_
            refine ok_seq_r (by as_aux_lemma => kernel_rfl) (digit_any_r10 c _ _) (fun _ => ?_)
            refine ok_ret ?_
            exact meets_ret (v := (.tuple #[(.int .u8 0), (.bool false)])) [] (dup []) (by as_aux_lemma => kernel_rfl) (by as_aux_lemma => kernel_rfl) (eqs_dup _) (fun _ hS => ⟨congrArg Ending.returned (dg_val (by rw [(dg0 (by have := of_decide_eq_true hb1; have := of_decide_eq_false hb2; have := of_decide_eq_true hb3; have := of_decide_eq_false hb4; have := of_decide_eq_false hb5; have := hc; omega) (by have := of_decide_eq_true hb1; have := of_decide_eq_false hb2; have := of_decide_eq_true hb3; have := of_decide_eq_false hb4; have := of_decide_eq_false hb5; have := hc; omega) (by have := of_decide_eq_true hb1; have := of_decide_eq_false hb2; have := of_decide_eq_true hb3; have := of_decide_eq_false hb4; have := of_decide_eq_false hb5; have := hc; omega)).1]; rfl) (dg0 (by have := of_decide_eq_true hb1; have := of_decide_eq_false hb2; have := of_decide_eq_true hb3; have := of_decide_eq_false hb4; have := of_decide_eq_false hb5; have := hc; omega) (by have := of_decide_eq_true hb1; have := of_decide_eq_false hb2; have := of_decide_eq_true hb3; have := of_decide_eq_false hb4; have := of_decide_eq_false hb5; have := hc; omega) (by have := of_decide_eq_true hb1; have := of_decide_eq_false hb2; have := of_decide_eq_true hb3; have := of_decide_eq_false hb4; have := of_decide_eq_false hb5; have := hc; omega)).2.symm), hS.below⟩)
      ·
        refine ok_seq_r (by as_aux_lemma => kernel_rfl) (digit_any_r11 c hb3 _ _) (fun _ => ?_)
        refine ok_no (by as_aux_lemma => kernel_rfl) ?_
        rcases Bool.eq_false_or_eq_true (decide (65 ≤ ((c : Nat) : Int))) with hb7 | hb7
        ·
          refine ok_seq_r (by as_aux_lemma => kernel_rfl) (digit_any_r12 c hb7 _ _) (fun _ => ?_)
          refine ok_cond (b := decide (((c : Nat) : Int) ≤ 70)) (by as_aux_lemma => kernel_rfl) (fun hb8 => ?_) (fun hb8 => ?_)
          ·
            rw [hb8]
            refine ok_seq_r (by as_aux_lemma => kernel_rfl) (digit_any_r13 c hc hb1 hb2 hb3 hb7 hb8 _ _) (fun _ => ?_)
            refine ok_ret ?_
            refine mt_block_r ?_
            refine mt_then_r ?_
            exact meets_ret (v := (.tuple #[(.int .u8 ((((c : Nat) : Int) - 65) + 10)), (.bool true)])) [] (dup []) (by as_aux_lemma => kernel_rfl) (by as_aux_lemma => kernel_rfl) (eqs_dup _) (fun _ hS => ⟨congrArg Ending.returned (dg_val (by rw [(dg3 (by have := of_decide_eq_true hb1; have := of_decide_eq_false hb2; have := of_decide_eq_false hb3; have := of_decide_eq_true hb7; have := of_decide_eq_true hb8; have := hc; omega) (by have := of_decide_eq_true hb1; have := of_decide_eq_false hb2; have := of_decide_eq_false hb3; have := of_decide_eq_true hb7; have := of_decide_eq_true hb8; have := hc; omega) (by have := of_decide_eq_true hb1; have := of_decide_eq_false hb2; have := of_decide_eq_false hb3; have := of_decide_eq_true hb7; have := of_decide_eq_true hb8; have := hc; omega)).1]; have := of_decide_eq_true hb1; have := of_decide_eq_false hb2; have := of_decide_eq_false hb3; have := of_decide_eq_true hb7; have := of_decide_eq_true hb8; have := hc; omega) (dg3 (by have := of_decide_eq_true hb1; have := of_decide_eq_false hb2; have := of_decide_eq_false hb3; have := of_decide_eq_true hb7; have := of_decide_eq_true hb8; have := hc; omega) (by have := of_decide_eq_true hb1; have := of_decide_eq_false hb2; have := of_decide_eq_false hb3; have := of_decide_eq_true hb7; have := of_decide_eq_true hb8; have := hc; omega) (by have := of_decide_eq_true hb1; have := of_decide_eq_false hb2; have := of_decide_eq_false hb3; have := of_decide_eq_true hb7; have := of_decide_eq_true hb8; have := hc; omega)).2.symm), hS.below⟩)
          ·
            rw [hb8]
            refine ok_skip ?_
            refine mt_block_n ?_
            refine mt_then ?_
            refine ok_seq_r (by as_aux_lemma => kernel_rfl) (digit_any_r14 c _ _) (fun _ => ?_)
            refine ok_ret ?_
            exact meets_ret (v := (.tuple #[(.int .u8 0), (.bool false)])) [] (dup []) (by as_aux_lemma => kernel_rfl) (by as_aux_lemma => kernel_rfl) (eqs_dup _) (fun _ hS => ⟨congrArg Ending.returned (dg_val (by rw [(dg0 (by have := of_decide_eq_true hb1; have := of_decide_eq_false hb2; have := of_decide_eq_false hb3; have := of_decide_eq_true hb7; have := of_decide_eq_false hb8; have := hc; omega) (by have := of_decide_eq_true hb1; have := of_decide_eq_false hb2; have := of_decide_eq_false hb3; have := of_decide_eq_true hb7; have := of_decide_eq_false hb8; have := hc; omega) (by have := of_decide_eq_true hb1; have := of_decide_eq_false hb2; have := of_decide_eq_false hb3; have := of_decide_eq_true hb7; have := of_decide_eq_false hb8; have := hc; omega)).1]; rfl) (dg0 (by have := of_decide_eq_true hb1; have := of_decide_eq_false hb2; have := of_decide_eq_false hb3; have := of_decide_eq_true hb7; have := of_decide_eq_false hb8; have := hc; omega) (by have := of_decide_eq_true hb1; have := of_decide_eq_false hb2; have := of_decide_eq_false hb3; have := of_decide_eq_true hb7; have := of_decide_eq_false hb8; have := hc; omega) (by have := of_decide_eq_true hb1; have := of_decide_eq_false hb2; have := of_decide_eq_false hb3; have := of_decide_eq_true hb7; have := of_decide_eq_false hb8; have := hc; omega)).2.symm), hS.below⟩)
        ·
          refine ok_seq_r (by as_aux_lemma => kernel_rfl) (digit_any_r15 c hb7 _ _) (fun _ => ?_)
          refine ok_no (by as_aux_lemma => kernel_rfl) ?_
          refine ok_skip ?_
          refine mt_block_n ?_
          refine mt_then ?_
          refine ok_seq_r (by as_aux_lemma => kernel_rfl) (digit_any_r16 c _ _) (fun _ => ?_)
          refine ok_ret ?_
          exact meets_ret (v := (.tuple #[(.int .u8 0), (.bool false)])) [] (dup []) (by as_aux_lemma => kernel_rfl) (by as_aux_lemma => kernel_rfl) (eqs_dup _) (fun _ hS => ⟨congrArg Ending.returned (dg_val (by rw [(dg0 (by have := of_decide_eq_true hb1; have := of_decide_eq_false hb2; have := of_decide_eq_false hb3; have := of_decide_eq_false hb7; have := hc; omega) (by have := of_decide_eq_true hb1; have := of_decide_eq_false hb2; have := of_decide_eq_false hb3; have := of_decide_eq_false hb7; have := hc; omega) (by have := of_decide_eq_true hb1; have := of_decide_eq_false hb2; have := of_decide_eq_false hb3; have := of_decide_eq_false hb7; have := hc; omega)).1]; rfl) (dg0 (by have := of_decide_eq_true hb1; have := of_decide_eq_false hb2; have := of_decide_eq_false hb3; have := of_decide_eq_false hb7; have := hc; omega) (by have := of_decide_eq_true hb1; have := of_decide_eq_false hb2; have := of_decide_eq_false hb3; have := of_decide_eq_false hb7; have := hc; omega) (by have := of_decide_eq_true hb1; have := of_decide_eq_false hb2; have := of_decide_eq_false hb3; have := of_decide_eq_false hb7; have := hc; omega)).2.symm), hS.below⟩)
  ·
    refine ok_seq_r (by as_aux_lemma => kernel_rfl) (digit_any_r17 c hb1 _ _) (fun _ => ?_)
    refine ok_no (by as_aux_lemma => kernel_rfl) ?_
    rcases Bool.eq_false_or_eq_true (decide (97 ≤ ((c : Nat) : Int))) with hb9 | hb9
    ·
      refine ok_seq_r (by as_aux_lemma => kernel_rfl) (digit_any_r18 c hb9 _ _) (fun _ => ?_)
      refine ok_cond (b := decide (((c : Nat) : Int) ≤ 102)) (by as_aux_lemma => kernel_rfl) (fun hb10 => ?_) (fun hb10 => ?_)
      ·
        rw [hb10]
        refine ok_seq_r (by as_aux_lemma => kernel_rfl) (digit_any_r19 c hc hb1 hb9 hb10 _ _) (fun _ => ?_)
        refine ok_ret ?_
        refine mt_block_r ?_
        refine mt_then_r ?_
        exact meets_ret (v := (.tuple #[(.int .u8 ((((c : Nat) : Int) - 97) + 10)), (.bool true)])) [] (dup []) (by as_aux_lemma => kernel_rfl) (by as_aux_lemma => kernel_rfl) (eqs_dup _) (fun _ hS => ⟨congrArg Ending.returned (dg_val (by rw [(dg2 (by have := of_decide_eq_false hb1; have := of_decide_eq_true hb9; have := of_decide_eq_true hb10; have := hc; omega) (by have := of_decide_eq_false hb1; have := of_decide_eq_true hb9; have := of_decide_eq_true hb10; have := hc; omega)).1]; have := of_decide_eq_false hb1; have := of_decide_eq_true hb9; have := of_decide_eq_true hb10; have := hc; omega) (dg2 (by have := of_decide_eq_false hb1; have := of_decide_eq_true hb9; have := of_decide_eq_true hb10; have := hc; omega) (by have := of_decide_eq_false hb1; have := of_decide_eq_true hb9; have := of_decide_eq_true hb10; have := hc; omega)).2.symm), hS.below⟩)
      ·
        rw [hb10]
        rcases Bool.eq_false_or_eq_true (decide (65 ≤ ((c : Nat) : Int))) with hb11 | hb11
        ·
          refine ok_seq_r (by as_aux_lemma => kernel_rfl) (digit_any_r20 c hb11 _ _) (fun _ => ?_)
          refine ok_cond (b := decide (((c : Nat) : Int) ≤ 70)) (by as_aux_lemma => kernel_rfl) (fun hb12 => ?_) (fun hb12 => ?_)
          ·
            rw [hb12]
            refine ok_seq_r (by as_aux_lemma => kernel_rfl) (digit_any_r21 c hc hb1 hb9 hb10 hb11 hb12 _ _) (fun _ => ?_)
            refine ok_ret ?_
            refine mt_block_r ?_
            refine mt_then_r ?_
            exact meets_ret (v := (.tuple #[(.int .u8 ((((c : Nat) : Int) - 65) + 10)), (.bool true)])) [] (dup []) (by as_aux_lemma => kernel_rfl) (by as_aux_lemma => kernel_rfl) (eqs_dup _) (fun _ hS => ⟨congrArg Ending.returned (dg_val (by rw [(dg3 (by have := of_decide_eq_false hb1; have := of_decide_eq_true hb9; have := of_decide_eq_false hb10; have := of_decide_eq_true hb11; have := of_decide_eq_true hb12; have := hc; omega) (by have := of_decide_eq_false hb1; have := of_decide_eq_true hb9; have := of_decide_eq_false hb10; have := of_decide_eq_true hb11; have := of_decide_eq_true hb12; have := hc; omega) (by have := of_decide_eq_false hb1; have := of_decide_eq_true hb9; have := of_decide_eq_false hb10; have := of_decide_eq_true hb11; have := of_decide_eq_true hb12; have := hc; omega)).1]; have := of_decide_eq_false hb1; have := of_decide_eq_true hb9; have := of_decide_eq_false hb10; have := of_decide_eq_true hb11; have := of_decide_eq_true hb12; have := hc; omega) (dg3 (by have := of_decide_eq_false hb1; have := of_decide_eq_true hb9; have := of_decide_eq_false hb10; have := of_decide_eq_true hb11; have := of_decide_eq_true hb12; have := hc; omega) (by have := of_decide_eq_false hb1; have := of_decide_eq_true hb9; have := of_decide_eq_false hb10; have := of_decide_eq_true hb11; have := of_decide_eq_true hb12; have := hc; omega) (by have := of_decide_eq_false hb1; have := of_decide_eq_true hb9; have := of_decide_eq_false hb10; have := of_decide_eq_true hb11; have := of_decide_eq_true hb12; have := hc; omega)).2.symm), hS.below⟩)
          ·
            rw [hb12]
            refine ok_skip ?_
            refine mt_block_n ?_
            refine mt_then ?_
            refine ok_seq_r (by as_aux_lemma => kernel_rfl) (digit_any_r22 c _ _) (fun _ => ?_)
            refine ok_ret ?_
            exact meets_ret (v := (.tuple #[(.int .u8 0), (.bool false)])) [] (dup []) (by as_aux_lemma => kernel_rfl) (by as_aux_lemma => kernel_rfl) (eqs_dup _) (fun _ hS => ⟨congrArg Ending.returned (dg_val (by rw [(dg0 (by have := of_decide_eq_false hb1; have := of_decide_eq_true hb9; have := of_decide_eq_false hb10; have := of_decide_eq_true hb11; have := of_decide_eq_false hb12; have := hc; omega) (by have := of_decide_eq_false hb1; have := of_decide_eq_true hb9; have := of_decide_eq_false hb10; have := of_decide_eq_true hb11; have := of_decide_eq_false hb12; have := hc; omega) (by have := of_decide_eq_false hb1; have := of_decide_eq_true hb9; have := of_decide_eq_false hb10; have := of_decide_eq_true hb11; have := of_decide_eq_false hb12; have := hc; omega)).1]; rfl) (dg0 (by have := of_decide_eq_false hb1; have := of_decide_eq_true hb9; have := of_decide_eq_false hb10; have := of_decide_eq_true hb11; have := of_decide_eq_false hb12; have := hc; omega) (by have := of_decide_eq_false hb1; have := of_decide_eq_true hb9; have := of_decide_eq_false hb10; have := of_decide_eq_true hb11; have := of_decide_eq_false hb12; have := hc; omega) (by have := of_decide_eq_false hb1; have := of_decide_eq_true hb9; have := of_decide_eq_false hb10; have := of_decide_eq_true hb11; have := of_decide_eq_false hb12; have := hc; omega)).2.symm), hS.below⟩)
        ·
          refine ok_seq_r (by as_aux_lemma => kernel_rfl) (digit_any_r23 c hb11 _ _) (fun _ => ?_)
          refine ok_no (by as_aux_lemma => kernel_rfl) ?_
          refine ok_skip ?_
          refine mt_block_n ?_
          refine mt_then ?_
          refine ok_seq_r (by as_aux_lemma => kernel_rfl) (digit_any_r24 c _ _) (fun _ => ?_)
          refine ok_ret ?_
          exact meets_ret (v := (.tuple #[(.int .u8 0), (.bool false)])) [] (dup []) (by as_aux_lemma => kernel_rfl) (by as_aux_lemma => kernel_rfl) (eqs_dup _) (fun _ hS => ⟨congrArg Ending.returned (dg_val (by rw [(dg0 (by have := of_decide_eq_false hb1; have := of_decide_eq_true hb9; have := of_decide_eq_false hb10; have := of_decide_eq_false hb11; have := hc; omega) (by have := of_decide_eq_false hb1; have := of_decide_eq_true hb9; have := of_decide_eq_false hb10; have := of_decide_eq_false hb11; have := hc; omega) (by have := of_decide_eq_false hb1; have := of_decide_eq_true hb9; have := of_decide_eq_false hb10; have := of_decide_eq_false hb11; have := hc; omega)).1]; rfl) (dg0 (by have := of_decide_eq_false hb1; have := of_decide_eq_true hb9; have := of_decide_eq_false hb10; have := of_decide_eq_false hb11; have := hc; omega) (by have := of_decide_eq_false hb1; have := of_decide_eq_true hb9; have := of_decide_eq_false hb10; have := of_decide_eq_false hb11; have := hc; omega) (by have := of_decide_eq_false hb1; have := of_decide_eq_true hb9; have := of_decide_eq_false hb10; have := of_decide_eq_false hb11; have := hc; omega)).2.symm), hS.below⟩)
    ·
      refine ok_seq_r (by as_aux_lemma => kernel_rfl) (digit_any_r25 c hb9 _ _) (fun _ => ?_)
      refine ok_no (by as_aux_lemma => kernel_rfl) ?_
      rcases Bool.eq_false_or_eq_true (decide (65 ≤ ((c : Nat) : Int))) with hb13 | hb13
      ·
        refine ok_seq_r (by as_aux_lemma => kernel_rfl) (digit_any_r26 c hb13 _ _) (fun _ => ?_)
        refine ok_cond (b := decide (((c : Nat) : Int) ≤ 70)) (by as_aux_lemma => kernel_rfl) (fun hb14 => ?_) (fun hb14 => ?_)
        ·
          rw [hb14]
          refine ok_seq_r (by as_aux_lemma => kernel_rfl) (digit_any_r27 c hc hb1 hb9 hb13 hb14 _ _) (fun _ => ?_)
          refine ok_ret ?_
          refine mt_block_r ?_
          refine mt_then_r ?_
          exact meets_ret (v := (.tuple #[(.int .u8 ((((c : Nat) : Int) - 65) + 10)), (.bool true)])) [] (dup []) (by as_aux_lemma => kernel_rfl) (by as_aux_lemma => kernel_rfl) (eqs_dup _) (fun _ hS => ⟨congrArg Ending.returned (dg_val (by rw [(dg3 (by have := of_decide_eq_false hb1; have := of_decide_eq_false hb9; have := of_decide_eq_true hb13; have := of_decide_eq_true hb14; have := hc; omega) (by have := of_decide_eq_false hb1; have := of_decide_eq_false hb9; have := of_decide_eq_true hb13; have := of_decide_eq_true hb14; have := hc; omega) (by have := of_decide_eq_false hb1; have := of_decide_eq_false hb9; have := of_decide_eq_true hb13; have := of_decide_eq_true hb14; have := hc; omega)).1]; have := of_decide_eq_false hb1; have := of_decide_eq_false hb9; have := of_decide_eq_true hb13; have := of_decide_eq_true hb14; have := hc; omega) (dg3 (by have := of_decide_eq_false hb1; have := of_decide_eq_false hb9; have := of_decide_eq_true hb13; have := of_decide_eq_true hb14; have := hc; omega) (by have := of_decide_eq_false hb1; have := of_decide_eq_false hb9; have := of_decide_eq_true hb13; have := of_decide_eq_true hb14; have := hc; omega) (by have := of_decide_eq_false hb1; have := of_decide_eq_false hb9; have := of_decide_eq_true hb13; have := of_decide_eq_true hb14; have := hc; omega)).2.symm), hS.below⟩)
        ·
          rw [hb14]
          refine ok_skip ?_
          refine mt_block_n ?_
          refine mt_then ?_
          refine ok_seq_r (by as_aux_lemma => kernel_rfl) (digit_any_r28 c _ _) (fun _ => ?_)
          refine ok_ret ?_
          exact meets_ret (v := (.tuple #[(.int .u8 0), (.bool false)])) [] (dup []) (by as_aux_lemma => kernel_rfl) (by as_aux_lemma => kernel_rfl) (eqs_dup _) (fun _ hS => ⟨congrArg Ending.returned (dg_val (by rw [(dg0 (by have := of_decide_eq_false hb1; have := of_decide_eq_false hb9; have := of_decide_eq_true hb13; have := of_decide_eq_false hb14; have := hc; omega) (by have := of_decide_eq_false hb1; have := of_decide_eq_false hb9; have := of_decide_eq_true hb13; have := of_decide_eq_false hb14; have := hc; omega) (by have := of_decide_eq_false hb1; have := of_decide_eq_false hb9; have := of_decide_eq_true hb13; have := of_decide_eq_false hb14; have := hc; omega)).1]; rfl) (dg0 (by have := of_decide_eq_false hb1; have := of_decide_eq_false hb9; have := of_decide_eq_true hb13; have := of_decide_eq_false hb14; have := hc; omega) (by have := of_decide_eq_false hb1; have := of_decide_eq_false hb9; have := of_decide_eq_true hb13; have := of_decide_eq_false hb14; have := hc; omega) (by have := of_decide_eq_false hb1; have := of_decide_eq_false hb9; have := of_decide_eq_true hb13; have := of_decide_eq_false hb14; have := hc; omega)).2.symm), hS.below⟩)
      ·
        refine ok_seq_r (by as_aux_lemma => kernel_rfl) (digit_any_r29 c hb13 _ _) (fun _ => ?_)
        refine ok_no (by as_aux_lemma => kernel_rfl) ?_
        refine ok_skip ?_
        refine mt_block_n ?_
        refine mt_then ?_
        refine ok_seq_r (by as_aux_lemma => kernel_rfl) (digit_any_r30 c _ _) (fun _ => ?_)
        refine ok_ret ?_
        exact meets_ret (v := (.tuple #[(.int .u8 0), (.bool false)])) [] (dup []) (by as_aux_lemma => kernel_rfl) (by as_aux_lemma => kernel_rfl) (eqs_dup _) (fun _ hS => ⟨congrArg Ending.returned (dg_val (by rw [(dg0 (by have := of_decide_eq_false hb1; have := of_decide_eq_false hb9; have := of_decide_eq_false hb13; have := hc; omega) (by have := of_decide_eq_false hb1; have := of_decide_eq_false hb9; have := of_decide_eq_false hb13; have := hc; omega) (by have := of_decide_eq_false hb1; have := of_decide_eq_false hb9; have := of_decide_eq_false hb13; have := hc; omega)).1]; rfl) (dg0 (by have := of_decide_eq_false hb1; have := of_decide_eq_false hb9; have := of_decide_eq_false hb13; have := hc; omega) (by have := of_decide_eq_false hb1; have := of_decide_eq_false hb9; have := of_decide_eq_false hb13; have := hc; omega) (by have := of_decide_eq_false hb1; have := of_decide_eq_false hb9; have := of_decide_eq_false hb13; have := hc; omega)).2.symm), hS.below⟩)
theorem half_any_r1 (c : Nat) (w0 : World) (F : World → Prop) : Reg Try.prog 0 (regOps Try.f57 0) false 33 [(0, (.int .u8 ((c : Nat) : Int)))] w0 [] F
    (fun _ => [(0, (.int .u8 ((c : Nat) : Int))), (2, (.int .u8 0)), (3, (.bool false))])
    (fun _ => []) := by
  refine reg_seq [0, 1] [0, 2, 3] 2
    (fun _ ι => ([(.int .u8 0), (.bool false)] : List Value).getD ι undef)
    (fun _ ι => ([{}, {}] : List Eff).getD ι {})
    (by as_aux_lemma => kernel_rfl) (by as_aux_lemma => kernel_rfl) (fun _ => by as_aux_lemma => kernel_rfl) (fun _ => by as_aux_lemma => kernel_rfl) ⟨⟨trivial, ?_⟩, ?_⟩
  · exact o_run 0 [] [] (fun _ _ => []) (fun _ _ => by as_aux_lemma => kernel_rfl)
  · exact o_run 1 [] [] (fun _ _ => []) (fun _ _ => by as_aux_lemma => kernel_rfl)
theorem half_any_r2 (c : Nat) (hb1 : (decide (48 ≤ ((c : Nat) : Int))) = true) (w0 : World) (F : World → Prop) : Reg Try.prog 1 (regOps Try.f57 1) false 33 [(0, (.int .u8 ((c : Nat) : Int))), (2, (.int .u8 0)), (3, (.bool false))] w0 [] F
    (fun _ => [(0, (.int .u8 ((c : Nat) : Int))), (2, (.int .u8 0)), (3, (.bool false)), (4, (.bool (decide (((c : Nat) : Int) ≤ 57))))])
    (fun _ => []) := by
  refine reg_seq [0, 1, 3, 7, 15, 31, 63] [0, 2, 3, 4] 7
    (fun _ ι => ([(.int .u8 ((c : Nat) : Int)), (.bool true), (.bool true), (.int .u8 ((c : Nat) : Int)), (.bool (decide (((c : Nat) : Int) ≤ 57))), (.bool (decide (((c : Nat) : Int) ≤ 57))), (.bool (decide (((c : Nat) : Int) ≤ 57)))] : List Value).getD ι undef)
    (fun _ ι => ([{}, {}, {}, {}, {}, {}, {}] : List Eff).getD ι {})
    (by as_aux_lemma => kernel_rfl) (by as_aux_lemma => kernel_rfl) (fun _ => by as_aux_lemma => kernel_rfl) (fun _ => by as_aux_lemma => kernel_rfl) ⟨⟨⟨⟨⟨⟨⟨trivial, ?_⟩, ?_⟩, ?_⟩, ?_⟩, ?_⟩, ?_⟩, ?_⟩
  · exact o_run 0 [] [] (fun _ _ => []) (fun _ _ => by as_aux_lemma => kernel_rfl)
  · exact o_as 1 (fun _ => (.bool (decide (48 ≤ ((c : Nat) : Int))))) (fun _ => (.bool true)) (fun _ _ => by as_aux_lemma => kernel_rfl) (fun _ => congrArg Value.bool hb1)
  · exact o_run 2 [] [] (fun _ _ => []) (fun _ _ => by as_aux_lemma => kernel_rfl)
  · exact o_run 3 [] [] (fun _ _ => []) (fun _ _ => by as_aux_lemma => kernel_rfl)
  · exact o_run 4 [] [] (fun _ _ => []) (fun _ _ => by as_aux_lemma => kernel_rfl)
  · exact o_run 5 [] [] (fun _ _ => []) (fun _ _ => by as_aux_lemma => kernel_rfl)
  · exact o_run 6 [] [] (fun _ _ => []) (fun _ _ => by as_aux_lemma => kernel_rfl)
theorem half_any_r3 (c : Nat) (hc : c < 256) (hb1 : (decide (48 ≤ ((c : Nat) : Int))) = true) (hb2 : (decide (((c : Nat) : Int) ≤ 57)) = true) (w0 : World) (F : World → Prop) : Reg Try.prog 2 (regOps Try.f57 2) false 33 [(0, (.int .u8 ((c : Nat) : Int))), (2, (.int .u8 0)), (3, (.bool false)), (4, (.bool true))] w0 [] F
    (fun _ => [(2, (.int .u8 (((c : Nat) : Int) - 48))), (3, (.bool true))])
    (fun _ => []) := by
  refine reg_seq [0, 1, 3, 7] [2, 3] 4
    (fun _ ι => ([(.int .u8 ((c : Nat) : Int)), (.int .u8 (((c : Nat) : Int) - 48)), (.int .u8 (((c : Nat) : Int) - 48)), (.bool true)] : List Value).getD ι undef)
    (fun _ ι => ([{}, {}, {}, {}] : List Eff).getD ι {})
    (by as_aux_lemma => kernel_rfl) (by as_aux_lemma => kernel_rfl) (fun _ => by as_aux_lemma => kernel_rfl) (fun _ => by as_aux_lemma => kernel_rfl) ⟨⟨⟨⟨trivial, ?_⟩, ?_⟩, ?_⟩, ?_⟩
  · exact o_run 0 [] [] (fun _ _ => []) (fun _ _ => by as_aux_lemma => kernel_rfl)
  · exact o_as 1 (fun _ => (.int .u8 (IntKind.u8.wrap (((c : Nat) : Int) - 48)))) (fun _ => (.int .u8 (((c : Nat) : Int) - 48))) (fun _ _ => by as_aux_lemma => kernel_rfl) (fun _ => congrArg (Value.int .u8) (u8I (by have := of_decide_eq_true hb1; have := of_decide_eq_true hb2; have := hc; omega)))
  · exact o_run 2 [] [] (fun _ _ => []) (fun _ _ => by as_aux_lemma => kernel_rfl)
  · exact o_run 3 [] [] (fun _ _ => []) (fun _ _ => by as_aux_lemma => kernel_rfl)
theorem half_any_r4 (c : Nat) (hb3 : (decide (97 ≤ ((c : Nat) : Int))) = true) (w0 : World) (F : World → Prop) : Reg Try.prog 3 (regOps Try.f57 3) false 33 [(0, (.int .u8 ((c : Nat) : Int))), (2, (.int .u8 0)), (3, (.bool false)), (4, (.bool false))] w0 [] F
    (fun _ => [(0, (.int .u8 ((c : Nat) : Int))), (2, (.int .u8 0)), (3, (.bool false)), (13, (.bool (decide (((c : Nat) : Int) ≤ 102))))])
    (fun _ => []) := by
  refine reg_seq [0, 1, 3, 7, 15, 31, 63] [0, 2, 3, 13] 7
    (fun _ ι => ([(.int .u8 ((c : Nat) : Int)), (.bool true), (.bool true), (.int .u8 ((c : Nat) : Int)), (.bool (decide (((c : Nat) : Int) ≤ 102))), (.bool (decide (((c : Nat) : Int) ≤ 102))), (.bool (decide (((c : Nat) : Int) ≤ 102)))] : List Value).getD ι undef)
    (fun _ ι => ([{}, {}, {}, {}, {}, {}, {}] : List Eff).getD ι {})
    (by as_aux_lemma => kernel_rfl) (by as_aux_lemma => kernel_rfl) (fun _ => by as_aux_lemma => kernel_rfl) (fun _ => by as_aux_lemma => kernel_rfl) ⟨⟨⟨⟨⟨⟨⟨trivial, ?_⟩, ?_⟩, ?_⟩, ?_⟩, ?_⟩, ?_⟩, ?_⟩
  · exact o_run 0 [] [] (fun _ _ => []) (fun _ _ => by as_aux_lemma => kernel_rfl)
  · exact o_as 1 (fun _ => (.bool (decide (97 ≤ ((c : Nat) : Int))))) (fun _ => (.bool true)) (fun _ _ => by as_aux_lemma => kernel_rfl) (fun _ => congrArg Value.bool hb3)
  · exact o_run 2 [] [] (fun _ _ => []) (fun _ _ => by as_aux_lemma => kernel_rfl)
  · exact o_run 3 [] [] (fun _ _ => []) (fun _ _ => by as_aux_lemma => kernel_rfl)
  · exact o_run 4 [] [] (fun _ _ => []) (fun _ _ => by as_aux_lemma => kernel_rfl)
  · exact o_run 5 [] [] (fun _ _ => []) (fun _ _ => by as_aux_lemma => kernel_rfl)
  · exact o_run 6 [] [] (fun _ _ => []) (fun _ _ => by as_aux_lemma => kernel_rfl)
theorem half_any_r5 (c : Nat) (hc : c < 256) (hb1 : (decide (48 ≤ ((c : Nat) : Int))) = true) (hb2 : (decide (((c : Nat) : Int) ≤ 57)) = false) (hb3 : (decide (97 ≤ ((c : Nat) : Int))) = true) (hb4 : (decide (((c : Nat) : Int) ≤ 102)) = true) (w0 : World) (F : World → Prop) : Reg Try.prog 4 (regOps Try.f57 4) false 33 [(0, (.int .u8 ((c : Nat) : Int))), (2, (.int .u8 0)), (3, (.bool false)), (13, (.bool true))] w0 [] F
    (fun _ => [(2, (.int .u8 ((((c : Nat) : Int) - 97) + 10))), (3, (.bool true))])
    (fun _ => []) := by
  refine reg_seq [0, 1, 3, 7, 15] [2, 3] 5
    (fun _ ι => ([(.int .u8 ((c : Nat) : Int)), (.int .u8 (((c : Nat) : Int) - 97)), (.int .u8 ((((c : Nat) : Int) - 97) + 10)), (.int .u8 ((((c : Nat) : Int) - 97) + 10)), (.bool true)] : List Value).getD ι undef)
    (fun _ ι => ([{}, {}, {}, {}, {}] : List Eff).getD ι {})
    (by as_aux_lemma => kernel_rfl) (by as_aux_lemma => kernel_rfl) (fun _ => by as_aux_lemma => kernel_rfl) (fun _ => by as_aux_lemma => kernel_rfl) ⟨⟨⟨⟨⟨trivial, ?_⟩, ?_⟩, ?_⟩, ?_⟩, ?_⟩
  · exact o_run 0 [] [] (fun _ _ => []) (fun _ _ => by as_aux_lemma => kernel_rfl)
  · exact o_as 1 (fun _ => (.int .u8 (IntKind.u8.wrap (((c : Nat) : Int) - 97)))) (fun _ => (.int .u8 (((c : Nat) : Int) - 97))) (fun _ _ => by as_aux_lemma => kernel_rfl) (fun _ => congrArg (Value.int .u8) (u8I (by have := of_decide_eq_true hb1; have := of_decide_eq_false hb2; have := of_decide_eq_true hb3; have := of_decide_eq_true hb4; have := hc; omega)))
  · exact o_as 2 (fun _ => (.int .u8 (IntKind.u8.wrap ((((c : Nat) : Int) - 97) + 10)))) (fun _ => (.int .u8 ((((c : Nat) : Int) - 97) + 10))) (fun _ _ => by as_aux_lemma => kernel_rfl) (fun _ => congrArg (Value.int .u8) (u8I (by have := of_decide_eq_true hb1; have := of_decide_eq_false hb2; have := of_decide_eq_true hb3; have := of_decide_eq_true hb4; have := hc; omega)))
  · exact o_run 3 [] [] (fun _ _ => []) (fun _ _ => by as_aux_lemma => kernel_rfl)
  · exact o_run 4 [] [] (fun _ _ => []) (fun _ _ => by as_aux_lemma => kernel_rfl)
theorem half_any_r6 (c : Nat) (hb5 : (decide (65 ≤ ((c : Nat) : Int))) = true) (w0 : World) (F : World → Prop) : Reg Try.prog 5 (regOps Try.f57 5) false 33 [(0, (.int .u8 ((c : Nat) : Int))), (2, (.int .u8 0)), (3, (.bool false)), (13, (.bool false))] w0 [] F
    (fun _ => [(0, (.int .u8 ((c : Nat) : Int))), (2, (.int .u8 0)), (3, (.bool false)), (23, (.bool (decide (((c : Nat) : Int) ≤ 70))))])
    (fun _ => []) := by
  refine reg_seq [0, 1, 3, 7, 15, 31, 63] [0, 2, 3, 23] 7
    (fun _ ι => ([(.int .u8 ((c : Nat) : Int)), (.bool true), (.bool true), (.int .u8 ((c : Nat) : Int)), (.bool (decide (((c : Nat) : Int) ≤ 70))), (.bool (decide (((c : Nat) : Int) ≤ 70))), (.bool (decide (((c : Nat) : Int) ≤ 70)))] : List Value).getD ι undef)
    (fun _ ι => ([{}, {}, {}, {}, {}, {}, {}] : List Eff).getD ι {})
    (by as_aux_lemma => kernel_rfl) (by as_aux_lemma => kernel_rfl) (fun _ => by as_aux_lemma => kernel_rfl) (fun _ => by as_aux_lemma => kernel_rfl) ⟨⟨⟨⟨⟨⟨⟨trivial, ?_⟩, ?_⟩, ?_⟩, ?_⟩, ?_⟩, ?_⟩, ?_⟩
  · exact o_run 0 [] [] (fun _ _ => []) (fun _ _ => by as_aux_lemma => kernel_rfl)
  · exact o_as 1 (fun _ => (.bool (decide (65 ≤ ((c : Nat) : Int))))) (fun _ => (.bool true)) (fun _ _ => by as_aux_lemma => kernel_rfl) (fun _ => congrArg Value.bool hb5)
  · exact o_run 2 [] [] (fun _ _ => []) (fun _ _ => by as_aux_lemma => kernel_rfl)
  · exact o_run 3 [] [] (fun _ _ => []) (fun _ _ => by as_aux_lemma => kernel_rfl)
  · exact o_run 4 [] [] (fun _ _ => []) (fun _ _ => by as_aux_lemma => kernel_rfl)
  · exact o_run 5 [] [] (fun _ _ => []) (fun _ _ => by as_aux_lemma => kernel_rfl)
  · exact o_run 6 [] [] (fun _ _ => []) (fun _ _ => by as_aux_lemma => kernel_rfl)
theorem half_any_r7 (c : Nat) (hc : c < 256) (hb1 : (decide (48 ≤ ((c : Nat) : Int))) = true) (hb2 : (decide (((c : Nat) : Int) ≤ 57)) = false) (hb3 : (decide (97 ≤ ((c : Nat) : Int))) = true) (hb4 : (decide (((c : Nat) : Int) ≤ 102)) = false) (hb5 : (decide (65 ≤ ((c : Nat) : Int))) = true) (hb6 : (decide (((c : Nat) : Int) ≤ 70)) = true) (w0 : World) (F : World → Prop) : Reg Try.prog 6 (regOps Try.f57 6) false 33 [(0, (.int .u8 ((c : Nat) : Int))), (2, (.int .u8 0)), (3, (.bool false)), (23, (.bool true))] w0 [] F
    (fun _ => [(2, (.int .u8 ((((c : Nat) : Int) - 65) + 10))), (3, (.bool true))])
    (fun _ => []) := by
  refine reg_seq [0, 1, 3, 7, 15] [2, 3] 5
    (fun _ ι => ([(.int .u8 ((c : Nat) : Int)), (.int .u8 (((c : Nat) : Int) - 65)), (.int .u8 ((((c : Nat) : Int) - 65) + 10)), (.int .u8 ((((c : Nat) : Int) - 65) + 10)), (.bool true)] : List Value).getD ι undef)
    (fun _ ι => ([{}, {}, {}, {}, {}] : List Eff).getD ι {})
    (by as_aux_lemma => kernel_rfl) (by as_aux_lemma => kernel_rfl) (fun _ => by as_aux_lemma => kernel_rfl) (fun _ => by as_aux_lemma => kernel_rfl) ⟨⟨⟨⟨⟨trivial, ?_⟩, ?_⟩, ?_⟩, ?_⟩, ?_⟩
  · exact o_run 0 [] [] (fun _ _ => []) (fun _ _ => by as_aux_lemma => kernel_rfl)
  · exact o_as 1 (fun _ => (.int .u8 (IntKind.u8.wrap (((c : Nat) : Int) - 65)))) (fun _ => (.int .u8 (((c : Nat) : Int) - 65))) (fun _ _ => by as_aux_lemma => kernel_rfl) (fun _ => congrArg (Value.int .u8) (u8I (by have := of_decide_eq_true hb1; have := of_decide_eq_false hb2; have := of_decide_eq_true hb3; have := of_decide_eq_false hb4; have := of_decide_eq_true hb5; have := of_decide_eq_true hb6; have := hc; omega)))
  · exact o_as 2 (fun _ => (.int .u8 (IntKind.u8.wrap ((((c : Nat) : Int) - 65) + 10)))) (fun _ => (.int .u8 ((((c : Nat) : Int) - 65) + 10))) (fun _ _ => by as_aux_lemma => kernel_rfl) (fun _ => congrArg (Value.int .u8) (u8I (by have := of_decide_eq_true hb1; have := of_decide_eq_false hb2; have := of_decide_eq_true hb3; have := of_decide_eq_false hb4; have := of_decide_eq_true hb5; have := of_decide_eq_true hb6; have := hc; omega)))
  · exact o_run 3 [] [] (fun _ _ => []) (fun _ _ => by as_aux_lemma => kernel_rfl)
  · exact o_run 4 [] [] (fun _ _ => []) (fun _ _ => by as_aux_lemma => kernel_rfl)
theorem half_any_r8 (c : Nat) (w0 : World) (F : World → Prop) : Reg Try.prog 7 (regOps Try.f57 7) false 33 [(0, (.int .u8 ((c : Nat) : Int))), (2, (.int .u8 0)), (3, (.bool false)), (23, (.bool false))] w0 [] F
    (fun _ => [(2, (.int .u8 0)), (3, (.bool false))])
    (fun _ => []) := by
  refine reg_seq [0, 1] [2, 3] 2
    (fun _ ι => ([(.int .u8 0), (.bool false)] : List Value).getD ι undef)
    (fun _ ι => ([{}, {}] : List Eff).getD ι {})
    (by as_aux_lemma => kernel_rfl) (by as_aux_lemma => kernel_rfl) (fun _ => by as_aux_lemma => kernel_rfl) (fun _ => by as_aux_lemma => kernel_rfl) ⟨⟨trivial, ?_⟩, ?_⟩
  · exact o_run 0 [] [] (fun _ _ => []) (fun _ _ => by as_aux_lemma => kernel_rfl)
  · exact o_run 1 [] [] (fun _ _ => []) (fun _ _ => by as_aux_lemma => kernel_rfl)
theorem half_any_r9 (c : Nat) (hb5 : (decide (65 ≤ ((c : Nat) : Int))) = false) (w0 : World) (F : World → Prop) : Reg Try.prog 5 (regOps Try.f57 5) false 33 [(0, (.int .u8 ((c : Nat) : Int))), (2, (.int .u8 0)), (3, (.bool false)), (13, (.bool false))] w0 [] F
    (fun _ => [(0, (.int .u8 ((c : Nat) : Int))), (2, (.int .u8 0)), (3, (.bool false)), (23, (.bool false))])
    (fun _ => []) := by
  refine reg_seq [0, 1, 3, 7, 15, 31, 63] [0, 2, 3, 23] 7
    (fun _ ι => ([(.int .u8 ((c : Nat) : Int)), (.bool false), (.bool false), undef, undef, (.bool false), (.bool false)] : List Value).getD ι undef)
    (fun _ ι => ([{}, {}, {}, {}, {}, {}, {}] : List Eff).getD ι {})
    (by as_aux_lemma => kernel_rfl) (by as_aux_lemma => kernel_rfl) (fun _ => by as_aux_lemma => kernel_rfl) (fun _ => by as_aux_lemma => kernel_rfl) ⟨⟨⟨⟨⟨⟨⟨trivial, ?_⟩, ?_⟩, ?_⟩, ?_⟩, ?_⟩, ?_⟩, ?_⟩
  · exact o_run 0 [] [] (fun _ _ => []) (fun _ _ => by as_aux_lemma => kernel_rfl)
  · exact o_as 1 (fun _ => (.bool (decide (65 ≤ ((c : Nat) : Int))))) (fun _ => (.bool false)) (fun _ _ => by as_aux_lemma => kernel_rfl) (fun _ => congrArg Value.bool hb5)
  · exact o_run 2 [] [] (fun _ _ => []) (fun _ _ => by as_aux_lemma => kernel_rfl)
  · exact o_skip 3 (fun _ => by as_aux_lemma => kernel_rfl)
  · exact o_skip 4 (fun _ => by as_aux_lemma => kernel_rfl)
  · exact o_run 5 [] [] (fun _ _ => []) (fun _ _ => by as_aux_lemma => kernel_rfl)
  · exact o_run 6 [] [] (fun _ _ => []) (fun _ _ => by as_aux_lemma => kernel_rfl)
theorem half_any_r10 (c : Nat) (w0 : World) (F : World → Prop) : Reg Try.prog 7 (regOps Try.f57 7) false 33 [(0, (.int .u8 ((c : Nat) : Int))), (2, (.int .u8 0)), (3, (.bool false)), (23, (.bool false))] w0 [] F
    (fun _ => [(2, (.int .u8 0)), (3, (.bool false))])
    (fun _ => []) := by
  refine reg_seq [0, 1] [2, 3] 2
    (fun _ ι => ([(.int .u8 0), (.bool false)] : List Value).getD ι undef)
    (fun _ ι => ([{}, {}] : List Eff).getD ι {})
    (by as_aux_lemma => kernel_rfl) (by as_aux_lemma => kernel_rfl) (fun _ => by as_aux_lemma => kernel_rfl) (fun _ => by as_aux_lemma => kernel_rfl) ⟨⟨trivial, ?_⟩, ?_⟩
  · exact o_run 0 [] [] (fun _ _ => []) (fun _ _ => by as_aux_lemma => kernel_rfl)
  · exact o_run 1 [] [] (fun _ _ => []) (fun _ _ => by as_aux_lemma => kernel_rfl)
theorem half_any_r11 (c : Nat) (hb3 : (decide (97 ≤ ((c : Nat) : Int))) = false) (w0 : World) (F : World → Prop) : Reg Try.prog 3 (regOps Try.f57 3) false 33 [(0, (.int .u8 ((c : Nat) : Int))), (2, (.int .u8 0)), (3, (.bool false)), (4, (.bool false))] w0 [] F
    (fun _ => [(0, (.int .u8 ((c : Nat) : Int))), (2, (.int .u8 0)), (3, (.bool false)), (13, (.bool false))])
    (fun _ => []) := by
  refine reg_seq [0, 1, 3, 7, 15, 31, 63] [0, 2, 3, 13] 7
    (fun _ ι => ([(.int .u8 ((c : Nat) : Int)), (.bool false), (.bool false), undef, undef, (.bool false), (.bool false)] : List Value).getD ι undef)
    (fun _ ι => ([{}, {}, {}, {}, {}, {}, {}] : List Eff).getD ι {})
    (by as_aux_lemma => kernel_rfl) (by as_aux_lemma => kernel_rfl) (fun _ => by as_aux_lemma => kernel_rfl) (fun _ => by as_aux_lemma => kernel_rfl) ⟨⟨⟨⟨⟨⟨⟨trivial, ?_⟩, ?_⟩, ?_⟩, ?_⟩, ?_⟩, ?_⟩, ?_⟩
  · exact o_run 0 [] [] (fun _ _ => []) (fun _ _ => by as_aux_lemma => kernel_rfl)
  · exact o_as 1 (fun _ => (.bool (decide (97 ≤ ((c : Nat) : Int))))) (fun _ => (.bool false)) (fun _ _ => by as_aux_lemma => kernel_rfl) (fun _ => congrArg Value.bool hb3)
  · exact o_run 2 [] [] (fun _ _ => []) (fun _ _ => by as_aux_lemma => kernel_rfl)
  · exact o_skip 3 (fun _ => by as_aux_lemma => kernel_rfl)
  · exact o_skip 4 (fun _ => by as_aux_lemma => kernel_rfl)
  · exact o_run 5 [] [] (fun _ _ => []) (fun _ _ => by as_aux_lemma => kernel_rfl)
  · exact o_run 6 [] [] (fun _ _ => []) (fun _ _ => by as_aux_lemma => kernel_rfl)
theorem half_any_r12 (c : Nat) (hb7 : (decide (65 ≤ ((c : Nat) : Int))) = true) (w0 : World) (F : World → Prop) : Reg Try.prog 5 (regOps Try.f57 5) false 33 [(0, (.int .u8 ((c : Nat) : Int))), (2, (.int .u8 0)), (3, (.bool false)), (13, (.bool false))] w0 [] F
    (fun _ => [(0, (.int .u8 ((c : Nat) : Int))), (2, (.int .u8 0)), (3, (.bool false)), (23, (.bool (decide (((c : Nat) : Int) ≤ 70))))])
    (fun _ => []) := by
  refine reg_seq [0, 1, 3, 7, 15, 31, 63] [0, 2, 3, 23] 7
    (fun _ ι => ([(.int .u8 ((c : Nat) : Int)), (.bool true), (.bool true), (.int .u8 ((c : Nat) : Int)), (.bool (decide (((c : Nat) : Int) ≤ 70))), (.bool (decide (((c : Nat) : Int) ≤ 70))), (.bool (decide (((c : Nat) : Int) ≤ 70)))] : List Value).getD ι undef)
    (fun _ ι => ([{}, {}, {}, {}, {}, {}, {}] : List Eff).getD ι {})
    (by as_aux_lemma => kernel_rfl) (by as_aux_lemma => kernel_rfl) (fun _ => by as_aux_lemma => kernel_rfl) (fun _ => by as_aux_lemma => kernel_rfl) ⟨⟨⟨⟨⟨⟨⟨trivial, ?_⟩, ?_⟩, ?_⟩, ?_⟩, ?_⟩, ?_⟩, ?_⟩
  · exact o_run 0 [] [] (fun _ _ => []) (fun _ _ => by as_aux_lemma => kernel_rfl)
  · exact o_as 1 (fun _ => (.bool (decide (65 ≤ ((c : Nat) : Int))))) (fun _ => (.bool true)) (fun _ _ => by as_aux_lemma => kernel_rfl) (fun _ => congrArg Value.bool hb7)
  · exact o_run 2 [] [] (fun _ _ => []) (fun _ _ => by as_aux_lemma => kernel_rfl)
  · exact o_run 3 [] [] (fun _ _ => []) (fun _ _ => by as_aux_lemma => kernel_rfl)
  · exact o_run 4 [] [] (fun _ _ => []) (fun _ _ => by as_aux_lemma => kernel_rfl)
  · exact o_run 5 [] [] (fun _ _ => []) (fun _ _ => by as_aux_lemma => kernel_rfl)
  · exact o_run 6 [] [] (fun _ _ => []) (fun _ _ => by as_aux_lemma => kernel_rfl)
theorem half_any_r13 (c : Nat) (hc : c < 256) (hb1 : (decide (48 ≤ ((c : Nat) : Int))) = true) (hb2 : (decide (((c : Nat) : Int) ≤ 57)) = false) (hb3 : (decide (97 ≤ ((c : Nat) : Int))) = false) (hb7 : (decide (65 ≤ ((c : Nat) : Int))) = true) (hb8 : (decide (((c : Nat) : Int) ≤ 70)) = true) (w0 : World) (F : World → Prop) : Reg Try.prog 6 (regOps Try.f57 6) false 33 [(0, (.int .u8 ((c : Nat) : Int))), (2, (.int .u8 0)), (3, (.bool false)), (23, (.bool true))] w0 [] F
    (fun _ => [(2, (.int .u8 ((((c : Nat) : Int) - 65) + 10))), (3, (.bool true))])
    (fun _ => []) := by
  refine reg_seq [0, 1, 3, 7, 15] [2, 3] 5
    (fun _ ι => ([(.int .u8 ((c : Nat) : Int)), (.int .u8 (((c : Nat) : Int) - 65)), (.int .u8 ((((c : Nat) : Int) - 65) + 10)), (.int .u8 ((((c : Nat) : Int) - 65) + 10)), (.bool true)] : List Value).getD ι undef)
    (fun _ ι => ([{}, {}, {}, {}, {}] : List Eff).getD ι {})
    (by as_aux_lemma => kernel_rfl) (by as_aux_lemma => kernel_rfl) (fun _ => by as_aux_lemma => kernel_rfl) (fun _ => by as_aux_lemma => kernel_rfl) ⟨⟨⟨⟨⟨trivial, ?_⟩, ?_⟩, ?_⟩, ?_⟩, ?_⟩
  · exact o_run 0 [] [] (fun _ _ => []) (fun _ _ => by as_aux_lemma => kernel_rfl)
  · exact o_as 1 (fun _ => (.int .u8 (IntKind.u8.wrap (((c : Nat) : Int) - 65)))) (fun _ => (.int .u8 (((c : Nat) : Int) - 65))) (fun _ _ => by as_aux_lemma => kernel_rfl) (fun _ => congrArg (Value.int .u8) (u8I (by have := of_decide_eq_true hb1; have := of_decide_eq_false hb2; have := of_decide_eq_false hb3; have := of_decide_eq_true hb7; have := of_decide_eq_true hb8; have := hc; omega)))
  · exact o_as 2 (fun _ => (.int .u8 (IntKind.u8.wrap ((((c : Nat) : Int) - 65) + 10)))) (fun _ => (.int .u8 ((((c : Nat) : Int) - 65) + 10))) (fun _ _ => by as_aux_lemma => kernel_rfl) (fun _ => congrArg (Value.int .u8) (u8I (by have := of_decide_eq_true hb1; have := of_decide_eq_false hb2; have := of_decide_eq_false hb3; have := of_decide_eq_true hb7; have := of_decide_eq_true hb8; have := hc; omega)))
  · exact o_run 3 [] [] (fun _ _ => []) (fun _ _ => by as_aux_lemma => kernel_rfl)
  · exact o_run 4 [] [] (fun _ _ => []) (fun _ _ => by as_aux_lemma => kernel_rfl)
theorem half_any_r14 (c : Nat) (w0 : World) (F : World → Prop) : Reg Try.prog 7 (regOps Try.f57 7) false 33 [(0, (.int .u8 ((c : Nat) : Int))), (2, (.int .u8 0)), (3, (.bool false)), (23, (.bool false))] w0 [] F
    (fun _ => [(2, (.int .u8 0)), (3, (.bool false))])
    (fun _ => []) := by
  refine reg_seq [0, 1] [2, 3] 2
    (fun _ ι => ([(.int .u8 0), (.bool false)] : List Value).getD ι undef)
    (fun _ ι => ([{}, {}] : List Eff).getD ι {})
    (by as_aux_lemma => kernel_rfl) (by as_aux_lemma => kernel_rfl) (fun _ => by as_aux_lemma => kernel_rfl) (fun _ => by as_aux_lemma => kernel_rfl) ⟨⟨trivial, ?_⟩, ?_⟩
  · exact o_run 0 [] [] (fun _ _ => []) (fun _ _ => by as_aux_lemma => kernel_rfl)
  · exact o_run 1 [] [] (fun _ _ => []) (fun _ _ => by as_aux_lemma => kernel_rfl)
theorem half_any_r15 (c : Nat) (hb7 : (decide (65 ≤ ((c : Nat) : Int))) = false) (w0 : World) (F : World → Prop) : Reg Try.prog 5 (regOps Try.f57 5) false 33 [(0, (.int .u8 ((c : Nat) : Int))), (2, (.int .u8 0)), (3, (.bool false)), (13, (.bool false))] w0 [] F
    (fun _ => [(0, (.int .u8 ((c : Nat) : Int))), (2, (.int .u8 0)), (3, (.bool false)), (23, (.bool false))])
    (fun _ => []) := by
  refine reg_seq [0, 1, 3, 7, 15, 31, 63] [0, 2, 3, 23] 7
    (fun _ ι => ([(.int .u8 ((c : Nat) : Int)), (.bool false), (.bool false), undef, undef, (.bool false), (.bool false)] : List Value).getD ι undef)
    (fun _ ι => ([{}, {}, {}, {}, {}, {}, {}] : List Eff).getD ι {})
    (by as_aux_lemma => kernel_rfl) (by as_aux_lemma => kernel_rfl) (fun _ => by as_aux_lemma => kernel_rfl) (fun _ => by as_aux_lemma => kernel_rfl) ⟨⟨⟨⟨⟨⟨⟨trivial, ?_⟩, ?_⟩, ?_⟩, ?_⟩, ?_⟩, ?_⟩, ?_⟩
  · exact o_run 0 [] [] (fun _ _ => []) (fun _ _ => by as_aux_lemma => kernel_rfl)
  · exact o_as 1 (fun _ => (.bool (decide (65 ≤ ((c : Nat) : Int))))) (fun _ => (.bool false)) (fun _ _ => by as_aux_lemma => kernel_rfl) (fun _ => congrArg Value.bool hb7)
  · exact o_run 2 [] [] (fun _ _ => []) (fun _ _ => by as_aux_lemma => kernel_rfl)
  · exact o_skip 3 (fun _ => by as_aux_lemma => kernel_rfl)
  · exact o_skip 4 (fun _ => by as_aux_lemma => kernel_rfl)
  · exact o_run 5 [] [] (fun _ _ => []) (fun _ _ => by as_aux_lemma => kernel_rfl)
  · exact o_run 6 [] [] (fun _ _ => []) (fun _ _ => by as_aux_lemma => kernel_rfl)
theorem half_any_r16 (c : Nat) (w0 : World) (F : World → Prop) : Reg Try.prog 7 (regOps Try.f57 7) false 33 [(0, (.int .u8 ((c : Nat) : Int))), (2, (.int .u8 0)), (3, (.bool false)), (23, (.bool false))] w0 [] F
    (fun _ => [(2, (.int .u8 0)), (3, (.bool false))])
    (fun _ => []) := by
  refine reg_seq [0, 1] [2, 3] 2
    (fun _ ι => ([(.int .u8 0), (.bool false)] : List Value).getD ι undef)
    (fun _ ι => ([{}, {}] : List Eff).getD ι {})
    (by as_aux_lemma => kernel_rfl) (by as_aux_lemma => kernel_rfl) (fun _ => by as_aux_lemma => kernel_rfl) (fun _ => by as_aux_lemma => kernel_rfl) ⟨⟨trivial, ?_⟩, ?_⟩
  · exact o_run 0 [] [] (fun _ _ => []) (fun _ _ => by as_aux_lemma => kernel_rfl)
  · exact o_run 1 [] [] (fun _ _ => []) (fun _ _ => by as_aux_lemma => kernel_rfl)
theorem half_any_r17 (c : Nat) (hb1 : (decide (48 ≤ ((c : Nat) : Int))) = false) (w0 : World) (F : World → Prop) : Reg Try.prog 1 (regOps Try.f57 1) false 33 [(0, (.int .u8 ((c : Nat) : Int))), (2, (.int .u8 0)), (3, (.bool false))] w0 [] F
    (fun _ => [(0, (.int .u8 ((c : Nat) : Int))), (2, (.int .u8 0)), (3, (.bool false)), (4, (.bool false))])
    (fun _ => []) := by
  refine reg_seq [0, 1, 3, 7, 15, 31, 63] [0, 2, 3, 4] 7
    (fun _ ι => ([(.int .u8 ((c : Nat) : Int)), (.bool false), (.bool false), undef, undef, (.bool false), (.bool false)] : List Value).getD ι undef)
    (fun _ ι => ([{}, {}, {}, {}, {}, {}, {}] : List Eff).getD ι {})
    (by as_aux_lemma => kernel_rfl) (by as_aux_lemma => kernel_rfl) (fun _ => by as_aux_lemma => kernel_rfl) (fun _ => by as_aux_lemma => kernel_rfl) ⟨⟨⟨⟨⟨⟨⟨trivial, ?_⟩, ?_⟩, ?_⟩, ?_⟩, ?_⟩, ?_⟩, ?_⟩
  · exact o_run 0 [] [] (fun _ _ => []) (fun _ _ => by as_aux_lemma => kernel_rfl)
  · exact o_as 1 (fun _ => (.bool (decide (48 ≤ ((c : Nat) : Int))))) (fun _ => (.bool false)) (fun _ _ => by as_aux_lemma => kernel_rfl) (fun _ => congrArg Value.bool hb1)
  · exact o_run 2 [] [] (fun _ _ => []) (fun _ _ => by as_aux_lemma => kernel_rfl)
  · exact o_skip 3 (fun _ => by as_aux_lemma => kernel_rfl)
  · exact o_skip 4 (fun _ => by as_aux_lemma => kernel_rfl)
  · exact o_run 5 [] [] (fun _ _ => []) (fun _ _ => by as_aux_lemma => kernel_rfl)
  · exact o_run 6 [] [] (fun _ _ => []) (fun _ _ => by as_aux_lemma => kernel_rfl)
theorem half_any_r18 (c : Nat) (hb9 : (decide (97 ≤ ((c : Nat) : Int))) = true) (w0 : World) (F : World → Prop) : Reg Try.prog 3 (regOps Try.f57 3) false 33 [(0, (.int .u8 ((c : Nat) : Int))), (2, (.int .u8 0)), (3, (.bool false)), (4, (.bool false))] w0 [] F
    (fun _ => [(0, (.int .u8 ((c : Nat) : Int))), (2, (.int .u8 0)), (3, (.bool false)), (13, (.bool (decide (((c : Nat) : Int) ≤ 102))))])
    (fun _ => []) := by
  refine reg_seq [0, 1, 3, 7, 15, 31, 63] [0, 2, 3, 13] 7
    (fun _ ι => ([(.int .u8 ((c : Nat) : Int)), (.bool true), (.bool true), (.int .u8 ((c : Nat) : Int)), (.bool (decide (((c : Nat) : Int) ≤ 102))), (.bool (decide (((c : Nat) : Int) ≤ 102))), (.bool (decide (((c : Nat) : Int) ≤ 102)))] : List Value).getD ι undef)
    (fun _ ι => ([{}, {}, {}, {}, {}, {}, {}] : List Eff).getD ι {})
    (by as_aux_lemma => kernel_rfl) (by as_aux_lemma => kernel_rfl) (fun _ => by as_aux_lemma => kernel_rfl) (fun _ => by as_aux_lemma => kernel_rfl) ⟨⟨⟨⟨⟨⟨⟨trivial, ?_⟩, ?_⟩, ?_⟩, ?_⟩, ?_⟩, ?_⟩, ?_⟩
  · exact o_run 0 [] [] (fun _ _ => []) (fun _ _ => by as_aux_lemma => kernel_rfl)
  · exact o_as 1 (fun _ => (.bool (decide (97 ≤ ((c : Nat) : Int))))) (fun _ => (.bool true)) (fun _ _ => by as_aux_lemma => kernel_rfl) (fun _ => congrArg Value.bool hb9)
  · exact o_run 2 [] [] (fun _ _ => []) (fun _ _ => by as_aux_lemma => kernel_rfl)
  · exact o_run 3 [] [] (fun _ _ => []) (fun _ _ => by as_aux_lemma => kernel_rfl)
  · exact o_run 4 [] [] (fun _ _ => []) (fun _ _ => by as_aux_lemma => kernel_rfl)
  · exact o_run 5 [] [] (fun _ _ => []) (fun _ _ => by as_aux_lemma => kernel_rfl)
  · exact o_run 6 [] [] (fun _ _ => []) (fun _ _ => by as_aux_lemma => kernel_rfl)
theorem half_any_r19 (c : Nat) (hc : c < 256) (hb1 : (decide (48 ≤ ((c : Nat) : Int))) = false) (hb9 : (decide (97 ≤ ((c : Nat) : Int))) = true) (hb10 : (decide (((c : Nat) : Int) ≤ 102)) = true) (w0 : World) (F : World → Prop) : Reg Try.prog 4 (regOps Try.f57 4) false 33 [(0, (.int .u8 ((c : Nat) : Int))), (2, (.int .u8 0)), (3, (.bool false)), (13, (.bool true))] w0 [] F
    (fun _ => [(2, (.int .u8 ((((c : Nat) : Int) - 97) + 10))), (3, (.bool true))])
    (fun _ => []) := by
  refine reg_seq [0, 1, 3, 7, 15] [2, 3] 5
    (fun _ ι => ([(.int .u8 ((c : Nat) : Int)), (.int .u8 (((c : Nat) : Int) - 97)), (.int .u8 ((((c : Nat) : Int) - 97) + 10)), (.int .u8 ((((c : Nat) : Int) - 97) + 10)), (.bool true)] : List Value).getD ι undef)
    (fun _ ι => ([{}, {}, {}, {}, {}] : List Eff).getD ι {})
    (by as_aux_lemma => kernel_rfl) (by as_aux_lemma => kernel_rfl) (fun _ => by as_aux_lemma => kernel_rfl) (fun _ => by as_aux_lemma => kernel_rfl) ⟨⟨⟨⟨⟨trivial, ?_⟩, ?_⟩, ?_⟩, ?_⟩, ?_⟩
  · exact o_run 0 [] [] (fun _ _ => []) (fun _ _ => by as_aux_lemma => kernel_rfl)
  · exact o_as 1 (fun _ => (.int .u8 (IntKind.u8.wrap (((c : Nat) : Int) - 97)))) (fun _ => (.int .u8 (((c : Nat) : Int) - 97))) (fun _ _ => by as_aux_lemma => kernel_rfl) (fun _ => congrArg (Value.int .u8) (u8I (by have := of_decide_eq_false hb1; have := of_decide_eq_true hb9; have := of_decide_eq_true hb10; have := hc; omega)))
  · exact o_as 2 (fun _ => (.int .u8 (IntKind.u8.wrap ((((c : Nat) : Int) - 97) + 10)))) (fun _ => (.int .u8 ((((c : Nat) : Int) - 97) + 10))) (fun _ _ => by as_aux_lemma => kernel_rfl) (fun _ => congrArg (Value.int .u8) (u8I (by have := of_decide_eq_false hb1; have := of_decide_eq_true hb9; have := of_decide_eq_true hb10; have := hc; omega)))
  · exact o_run 3 [] [] (fun _ _ => []) (fun _ _ => by as_aux_lemma => kernel_rfl)
  · exact o_run 4 [] [] (fun _ _ => []) (fun _ _ => by as_aux_lemma => kernel_rfl)
theorem half_any_r20 (c : Nat) (hb11 : (decide (65 ≤ ((c : Nat) : Int))) = true) (w0 : World) (F : World → Prop) : Reg Try.prog 5 (regOps Try.f57 5) false 33 [(0, (.int .u8 ((c : Nat) : Int))), (2, (.int .u8 0)), (3, (.bool false)), (13, (.bool false))] w0 [] F
    (fun _ => [(0, (.int .u8 ((c : Nat) : Int))), (2, (.int .u8 0)), (3, (.bool false)), (23, (.bool (decide (((c : Nat) : Int) ≤ 70))))])
    (fun _ => []) := by
  refine reg_seq [0, 1, 3, 7, 15, 31, 63] [0, 2, 3, 23] 7
    (fun _ ι => ([(.int .u8 ((c : Nat) : Int)), (.bool true), (.bool true), (.int .u8 ((c : Nat) : Int)), (.bool (decide (((c : Nat) : Int) ≤ 70))), (.bool (decide (((c : Nat) : Int) ≤ 70))), (.bool (decide (((c : Nat) : Int) ≤ 70)))] : List Value).getD ι undef)
    (fun _ ι => ([{}, {}, {}, {}, {}, {}, {}] : List Eff).getD ι {})
    (by as_aux_lemma => kernel_rfl) (by as_aux_lemma => kernel_rfl) (fun _ => by as_aux_lemma => kernel_rfl) (fun _ => by as_aux_lemma => kernel_rfl) ⟨⟨⟨⟨⟨⟨⟨trivial, ?_⟩, ?_⟩, ?_⟩, ?_⟩, ?_⟩, ?_⟩, ?_⟩
  · exact o_run 0 [] [] (fun _ _ => []) (fun _ _ => by as_aux_lemma => kernel_rfl)
  · exact o_as 1 (fun _ => (.bool (decide (65 ≤ ((c : Nat) : Int))))) (fun _ => (.bool true)) (fun _ _ => by as_aux_lemma => kernel_rfl) (fun _ => congrArg Value.bool hb11)
  · exact o_run 2 [] [] (fun _ _ => []) (fun _ _ => by as_aux_lemma => kernel_rfl)
  · exact o_run 3 [] [] (fun _ _ => []) (fun _ _ => by as_aux_lemma => kernel_rfl)
  · exact o_run 4 [] [] (fun _ _ => []) (fun _ _ => by as_aux_lemma => kernel_rfl)
  · exact o_run 5 [] [] (fun _ _ => []) (fun _ _ => by as_aux_lemma => kernel_rfl)
  · exact o_run 6 [] [] (fun _ _ => []) (fun _ _ => by as_aux_lemma => kernel_rfl)
theorem half_any_r21 (c : Nat) (hc : c < 256) (hb1 : (decide (48 ≤ ((c : Nat) : Int))) = false) (hb9 : (decide (97 ≤ ((c : Nat) : Int))) = true) (hb10 : (decide (((c : Nat) : Int) ≤ 102)) = false) (hb11 : (decide (65 ≤ ((c : Nat) : Int))) = true) (hb12 : (decide (((c : Nat) : Int) ≤ 70)) = true) (w0 : World) (F : World → Prop) : Reg Try.prog 6 (regOps Try.f57 6) false 33 [(0, (.int .u8 ((c : Nat) : Int))), (2, (.int .u8 0)), (3, (.bool false)), (23, (.bool true))] w0 [] F
    (fun _ => [(2, (.int .u8 ((((c : Nat) : Int) - 65) + 10))), (3, (.bool true))])
    (fun _ => []) := by
  refine reg_seq [0, 1, 3, 7, 15] [2, 3] 5
    (fun _ ι => ([(.int .u8 ((c : Nat) : Int)), (.int .u8 (((c : Nat) : Int) - 65)), (.int .u8 ((((c : Nat) : Int) - 65) + 10)), (.int .u8 ((((c : Nat) : Int) - 65) + 10)), (.bool true)] : List Value).getD ι undef)
    (fun _ ι => ([{}, {}, {}, {}, {}] : List Eff).getD ι {})
    (by as_aux_lemma => kernel_rfl) (by as_aux_lemma => kernel_rfl) (fun _ => by as_aux_lemma => kernel_rfl) (fun _ => by as_aux_lemma => kernel_rfl) ⟨⟨⟨⟨⟨trivial, ?_⟩, ?_⟩, ?_⟩, ?_⟩, ?_⟩
  · exact o_run 0 [] [] (fun _ _ => []) (fun _ _ => by as_aux_lemma => kernel_rfl)
  · exact o_as 1 (fun _ => (.int .u8 (IntKind.u8.wrap (((c : Nat) : Int) - 65)))) (fun _ => (.int .u8 (((c : Nat) : Int) - 65))) (fun _ _ => by as_aux_lemma => kernel_rfl) (fun _ => congrArg (Value.int .u8) (u8I (by have := of_decide_eq_false hb1; have := of_decide_eq_true hb9; have := of_decide_eq_false hb10; have := of_decide_eq_true hb11; have := of_decide_eq_true hb12; have := hc; omega)))
  · exact o_as 2 (fun _ => (.int .u8 (IntKind.u8.wrap ((((c : Nat) : Int) - 65) + 10)))) (fun _ => (.int .u8 ((((c : Nat) : Int) - 65) + 10))) (fun _ _ => by as_aux_lemma => kernel_rfl) (fun _ => congrArg (Value.int .u8) (u8I (by have := of_decide_eq_false hb1; have := of_decide_eq_true hb9; have := of_decide_eq_false hb10; have := of_decide_eq_true hb11; have := of_decide_eq_true hb12; have := hc; omega)))
  · exact o_run 3 [] [] (fun _ _ => []) (fun _ _ => by as_aux_lemma => kernel_rfl)
  · exact o_run 4 [] [] (fun _ _ => []) (fun _ _ => by as_aux_lemma => kernel_rfl)
theorem half_any_r22 (c : Nat) (w0 : World) (F : World → Prop) : Reg Try.prog 7 (regOps Try.f57 7) false 33 [(0, (.int .u8 ((c : Nat) : Int))), (2, (.int .u8 0)), (3, (.bool false)), (23, (.bool false))] w0 [] F
    (fun _ => [(2, (.int .u8 0)), (3, (.bool false))])
    (fun _ => []) := by
  refine reg_seq [0, 1] [2, 3] 2
    (fun _ ι => ([(.int .u8 0), (.bool false)] : List Value).getD ι undef)
    (fun _ ι => ([{}, {}] : List Eff).getD ι {})
    (by as_aux_lemma => kernel_rfl) (by as_aux_lemma => kernel_rfl) (fun _ => by as_aux_lemma => kernel_rfl) (fun _ => by as_aux_lemma => kernel_rfl) ⟨⟨trivial, ?_⟩, ?_⟩
  · exact o_run 0 [] [] (fun _ _ => []) (fun _ _ => by as_aux_lemma => kernel_rfl)
  · exact o_run 1 [] [] (fun _ _ => []) (fun _ _ => by as_aux_lemma => kernel_rfl)
theorem half_any_r23 (c : Nat) (hb11 : (decide (65 ≤ ((c : Nat) : Int))) = false) (w0 : World) (F : World → Prop) : Reg Try.prog 5 (regOps Try.f57 5) false 33 [(0, (.int .u8 ((c : Nat) : Int))), (2, (.int .u8 0)), (3, (.bool false)), (13, (.bool false))] w0 [] F
    (fun _ => [(0, (.int .u8 ((c : Nat) : Int))), (2, (.int .u8 0)), (3, (.bool false)), (23, (.bool false))])
    (fun _ => []) := by
  refine reg_seq [0, 1, 3, 7, 15, 31, 63] [0, 2, 3, 23] 7
    (fun _ ι => ([(.int .u8 ((c : Nat) : Int)), (.bool false), (.bool false), undef, undef, (.bool false), (.bool false)] : List Value).getD ι undef)
    (fun _ ι => ([{}, {}, {}, {}, {}, {}, {}] : List Eff).getD ι {})
    (by as_aux_lemma => kernel_rfl) (by as_aux_lemma => kernel_rfl) (fun _ => by as_aux_lemma => kernel_rfl) (fun _ => by as_aux_lemma => kernel_rfl) ⟨⟨⟨⟨⟨⟨⟨trivial, ?_⟩, ?_⟩, ?_⟩, ?_⟩, ?_⟩, ?_⟩, ?_⟩
  · exact o_run 0 [] [] (fun _ _ => []) (fun _ _ => by as_aux_lemma => kernel_rfl)
  · exact o_as 1 (fun _ => (.bool (decide (65 ≤ ((c : Nat) : Int))))) (fun _ => (.bool false)) (fun _ _ => by as_aux_lemma => kernel_rfl) (fun _ => congrArg Value.bool hb11)
  · exact o_run 2 [] [] (fun _ _ => []) (fun _ _ => by as_aux_lemma => kernel_rfl)
  · exact o_skip 3 (fun _ => by as_aux_lemma => kernel_rfl)
  · exact o_skip 4 (fun _ => by as_aux_lemma => kernel_rfl)
  · exact o_run 5 [] [] (fun _ _ => []) (fun _ _ => by as_aux_lemma => kernel_rfl)
  · exact o_run 6 [] [] (fun _ _ => []) (fun _ _ => by as_aux_lemma => kernel_rfl)
theorem half_any_r24 (c : Nat) (w0 : World) (F : World → Prop) : Reg Try.prog 7 (regOps Try.f57 7) false 33 [(0, (.int .u8 ((c : Nat) : Int))), (2, (.int .u8 0)), (3, (.bool false)), (23, (.bool false))] w0 [] F
    (fun _ => [(2, (.int .u8 0)), (3, (.bool false))])
    (fun _ => []) := by
  refine reg_seq [0, 1] [2, 3] 2
    (fun _ ι => ([(.int .u8 0), (.bool false)] : List Value).getD ι undef)
    (fun _ ι => ([{}, {}] : List Eff).getD ι {})
    (by as_aux_lemma => kernel_rfl) (by as_aux_lemma => kernel_rfl) (fun _ => by as_aux_lemma => kernel_rfl) (fun _ => by as_aux_lemma => kernel_rfl) ⟨⟨trivial, ?_⟩, ?_⟩
  · exact o_run 0 [] [] (fun _ _ => []) (fun _ _ => by as_aux_lemma => kernel_rfl)
  · exact o_run 1 [] [] (fun _ _ => []) (fun _ _ => by as_aux_lemma => kernel_rfl)
theorem half_any_r25 (c : Nat) (hb9 : (decide (97 ≤ ((c : Nat) : Int))) = false) (w0 : World) (F : World → Prop) : Reg Try.prog 3 (regOps Try.f57 3) false 33 [(0, (.int .u8 ((c : Nat) : Int))), (2, (.int .u8 0)), (3, (.bool false)), (4, (.bool false))] w0 [] F
    (fun _ => [(0, (.int .u8 ((c : Nat) : Int))), (2, (.int .u8 0)), (3, (.bool false)), (13, (.bool false))])
    (fun _ => []) := by
  refine reg_seq [0, 1, 3, 7, 15, 31, 63] [0, 2, 3, 13] 7
    (fun _ ι => ([(.int .u8 ((c : Nat) : Int)), (.bool false), (.bool false), undef, undef, (.bool false), (.bool false)] : List Value).getD ι undef)
    (fun _ ι => ([{}, {}, {}, {}, {}, {}, {}] : List Eff).getD ι {})
    (by as_aux_lemma => kernel_rfl) (by as_aux_lemma => kernel_rfl) (fun _ => by as_aux_lemma => kernel_rfl) (fun _ => by as_aux_lemma => kernel_rfl) ⟨⟨⟨⟨⟨⟨⟨trivial, ?_⟩, ?_⟩, ?_⟩, ?_⟩, ?_⟩, ?_⟩, ?_⟩
  · exact o_run 0 [] [] (fun _ _ => []) (fun _ _ => by as_aux_lemma => kernel_rfl)
  · exact o_as 1 (fun _ => (.bool (decide (97 ≤ ((c : Nat) : Int))))) (fun _ => (.bool false)) (fun _ _ => by as_aux_lemma => kernel_rfl) (fun _ => congrArg Value.bool hb9)
  · exact o_run 2 [] [] (fun _ _ => []) (fun _ _ => by as_aux_lemma => kernel_rfl)
  · exact o_skip 3 (fun _ => by as_aux_lemma => kernel_rfl)
  · exact o_skip 4 (fun _ => by as_aux_lemma => kernel_rfl)
  · exact o_run 5 [] [] (fun _ _ => []) (fun _ _ => by as_aux_lemma => kernel_rfl)
  · exact o_run 6 [] [] (fun _ _ => []) (fun _ _ => by as_aux_lemma => kernel_rfl)
theorem half_any_r26 (c : Nat) (hb13 : (decide (65 ≤ ((c : Nat) : Int))) = true) (w0 : World) (F : World → Prop) : Reg Try.prog 5 (regOps Try.f57 5) false 33 [(0, (.int .u8 ((c : Nat) : Int))), (2, (.int .u8 0)), (3, (.bool false)), (13, (.bool false))] w0 [] F
    (fun _ => [(0, (.int .u8 ((c : Nat) : Int))), (2, (.int .u8 0)), (3, (.bool false)), (23, (.bool (decide (((c : Nat) : Int) ≤ 70))))])
    (fun _ => []) := by
  refine reg_seq [0, 1, 3, 7, 15, 31, 63] [0, 2, 3, 23] 7
    (fun _ ι => ([(.int .u8 ((c : Nat) : Int)), (.bool true), (.bool true), (.int .u8 ((c : Nat) : Int)), (.bool (decide (((c : Nat) : Int) ≤ 70))), (.bool (decide (((c : Nat) : Int) ≤ 70))), (.bool (decide (((c : Nat) : Int) ≤ 70)))] : List Value).getD ι undef)
    (fun _ ι => ([{}, {}, {}, {}, {}, {}, {}] : List Eff).getD ι {})
    (by as_aux_lemma => kernel_rfl) (by as_aux_lemma => kernel_rfl) (fun _ => by as_aux_lemma => kernel_rfl) (fun _ => by as_aux_lemma => kernel_rfl) ⟨⟨⟨⟨⟨⟨⟨trivial, ?_⟩, ?_⟩, ?_⟩, ?_⟩, ?_⟩, ?_⟩, ?_⟩
  · exact o_run 0 [] [] (fun _ _ => []) (fun _ _ => by as_aux_lemma => kernel_rfl)
  · exact o_as 1 (fun _ => (.bool (decide (65 ≤ ((c : Nat) : Int))))) (fun _ => (.bool true)) (fun _ _ => by as_aux_lemma => kernel_rfl) (fun _ => congrArg Value.bool hb13)
  · exact o_run 2 [] [] (fun _ _ => []) (fun _ _ => by as_aux_lemma => kernel_rfl)
  · exact o_run 3 [] [] (fun _ _ => []) (fun _ _ => by as_aux_lemma => kernel_rfl)
  · exact o_run 4 [] [] (fun _ _ => []) (fun _ _ => by as_aux_lemma => kernel_rfl)
  · exact o_run 5 [] [] (fun _ _ => []) (fun _ _ => by as_aux_lemma => kernel_rfl)
  · exact o_run 6 [] [] (fun _ _ => []) (fun _ _ => by as_aux_lemma => kernel_rfl)
theorem half_any_r27 (c : Nat) (hc : c < 256) (hb1 : (decide (48 ≤ ((c : Nat) : Int))) = false) (hb9 : (decide (97 ≤ ((c : Nat) : Int))) = false) (hb13 : (decide (65 ≤ ((c : Nat) : Int))) = true) (hb14 : (decide (((c : Nat) : Int) ≤ 70)) = true) (w0 : World) (F : World → Prop) : Reg Try.prog 6 (regOps Try.f57 6) false 33 [(0, (.int .u8 ((c : Nat) : Int))), (2, (.int .u8 0)), (3, (.bool false)), (23, (.bool true))] w0 [] F
    (fun _ => [(2, (.int .u8 ((((c : Nat) : Int) - 65) + 10))), (3, (.bool true))])
    (fun _ => []) := by
  refine reg_seq [0, 1, 3, 7, 15] [2, 3] 5
    (fun _ ι => ([(.int .u8 ((c : Nat) : Int)), (.int .u8 (((c : Nat) : Int) - 65)), (.int .u8 ((((c : Nat) : Int) - 65) + 10)), (.int .u8 ((((c : Nat) : Int) - 65) + 10)), (.bool true)] : List Value).getD ι undef)
    (fun _ ι => ([{}, {}, {}, {}, {}] : List Eff).getD ι {})
    (by as_aux_lemma => kernel_rfl) (by as_aux_lemma => kernel_rfl) (fun _ => by as_aux_lemma => kernel_rfl) (fun _ => by as_aux_lemma => kernel_rfl) ⟨⟨⟨⟨⟨trivial, ?_⟩, ?_⟩, ?_⟩, ?_⟩, ?_⟩
  · exact o_run 0 [] [] (fun _ _ => []) (fun _ _ => by as_aux_lemma => kernel_rfl)
  · exact o_as 1 (fun _ => (.int .u8 (IntKind.u8.wrap (((c : Nat) : Int) - 65)))) (fun _ => (.int .u8 (((c : Nat) : Int) - 65))) (fun _ _ => by as_aux_lemma => kernel_rfl) (fun _ => congrArg (Value.int .u8) (u8I (by have := of_decide_eq_false hb1; have := of_decide_eq_false hb9; have := of_decide_eq_true hb13; have := of_decide_eq_true hb14; have := hc; omega)))
  · exact o_as 2 (fun _ => (.int .u8 (IntKind.u8.wrap ((((c : Nat) : Int) - 65) + 10)))) (fun _ => (.int .u8 ((((c : Nat) : Int) - 65) + 10))) (fun _ _ => by as_aux_lemma => kernel_rfl) (fun _ => congrArg (Value.int .u8) (u8I (by have := of_decide_eq_false hb1; have := of_decide_eq_false hb9; have := of_decide_eq_true hb13; have := of_decide_eq_true hb14; have := hc; omega)))
  · exact o_run 3 [] [] (fun _ _ => []) (fun _ _ => by as_aux_lemma => kernel_rfl)
  · exact o_run 4 [] [] (fun _ _ => []) (fun _ _ => by as_aux_lemma => kernel_rfl)
theorem half_any_r28 (c : Nat) (w0 : World) (F : World → Prop) : Reg Try.prog 7 (regOps Try.f57 7) false 33 [(0, (.int .u8 ((c : Nat) : Int))), (2, (.int .u8 0)), (3, (.bool false)), (23, (.bool false))] w0 [] F
    (fun _ => [(2, (.int .u8 0)), (3, (.bool false))])
    (fun _ => []) := by
  refine reg_seq [0, 1] [2, 3] 2
    (fun _ ι => ([(.int .u8 0), (.bool false)] : List Value).getD ι undef)
    (fun _ ι => ([{}, {}] : List Eff).getD ι {})
    (by as_aux_lemma => kernel_rfl) (by as_aux_lemma => kernel_rfl) (fun _ => by as_aux_lemma => kernel_rfl) (fun _ => by as_aux_lemma => kernel_rfl) ⟨⟨trivial, ?_⟩, ?_⟩
  · exact o_run 0 [] [] (fun _ _ => []) (fun _ _ => by as_aux_lemma => kernel_rfl)
  · exact o_run 1 [] [] (fun _ _ => []) (fun _ _ => by as_aux_lemma => kernel_rfl)
theorem half_any_r29 (c : Nat) (hb13 : (decide (65 ≤ ((c : Nat) : Int))) = false) (w0 : World) (F : World → Prop) : Reg Try.prog 5 (regOps Try.f57 5) false 33 [(0, (.int .u8 ((c : Nat) : Int))), (2, (.int .u8 0)), (3, (.bool false)), (13, (.bool false))] w0 [] F
    (fun _ => [(0, (.int .u8 ((c : Nat) : Int))), (2, (.int .u8 0)), (3, (.bool false)), (23, (.bool false))])
    (fun _ => []) := by
  refine reg_seq [0, 1, 3, 7, 15, 31, 63] [0, 2, 3, 23] 7
    (fun _ ι => ([(.int .u8 ((c : Nat) : Int)), (.bool false), (.bool false), undef, undef, (.bool false), (.bool false)] : List Value).getD ι undef)
    (fun _ ι => ([{}, {}, {}, {}, {}, {}, {}] : List Eff).getD ι {})
    (by as_aux_lemma => kernel_rfl) (by as_aux_lemma => kernel_rfl) (fun _ => by as_aux_lemma => kernel_rfl) (fun _ => by as_aux_lemma => kernel_rfl) ⟨⟨⟨⟨⟨⟨⟨trivial, ?_⟩, ?_⟩, ?_⟩, ?_⟩, ?_⟩, ?_⟩, ?_⟩
  · exact o_run 0 [] [] (fun _ _ => []) (fun _ _ => by as_aux_lemma => kernel_rfl)
  · exact o_as 1 (fun _ => (.bool (decide (65 ≤ ((c : Nat) : Int))))) (fun _ => (.bool false)) (fun _ _ => by as_aux_lemma => kernel_rfl) (fun _ => congrArg Value.bool hb13)
  · exact o_run 2 [] [] (fun _ _ => []) (fun _ _ => by as_aux_lemma => kernel_rfl)
  · exact o_skip 3 (fun _ => by as_aux_lemma => kernel_rfl)
  · exact o_skip 4 (fun _ => by as_aux_lemma => kernel_rfl)
  · exact o_run 5 [] [] (fun _ _ => []) (fun _ _ => by as_aux_lemma => kernel_rfl)
  · exact o_run 6 [] [] (fun _ _ => []) (fun _ _ => by as_aux_lemma => kernel_rfl)
theorem half_any_r30 (c : Nat) (w0 : World) (F : World → Prop) : Reg Try.prog 7 (regOps Try.f57 7) false 33 [(0, (.int .u8 ((c : Nat) : Int))), (2, (.int .u8 0)), (3, (.bool false)), (23, (.bool false))] w0 [] F
    (fun _ => [(2, (.int .u8 0)), (3, (.bool false))])
    (fun _ => []) := by
  refine reg_seq [0, 1] [2, 3] 2
    (fun _ ι => ([(.int .u8 0), (.bool false)] : List Value).getD ι undef)
    (fun _ ι => ([{}, {}] : List Eff).getD ι {})
    (by as_aux_lemma => kernel_rfl) (by as_aux_lemma => kernel_rfl) (fun _ => by as_aux_lemma => kernel_rfl) (fun _ => by as_aux_lemma => kernel_rfl) ⟨⟨trivial, ?_⟩, ?_⟩
  · exact o_run 0 [] [] (fun _ _ => []) (fun _ _ => by as_aux_lemma => kernel_rfl)
  · exact o_run 1 [] [] (fun _ _ => []) (fun _ _ => by as_aux_lemma => kernel_rfl)
theorem half_any (c : Nat) (hc : c < 256) (w0 : World) : Calls Try.prog 57 #[(.int .u8 ((c : Nat) : Int))] w0 (fun ε w' => ε = .returned (.tuple #[(.int .u8 ((dg c : Nat) : Int)), (.bool (dgB c))]) ∧ Below w0.heap.size w0 w') := by
  refine Calls.of_ok (n := 33) (F := (fun _ => True)) Try.func57 rfl rfl rfl (by simp) persT ?_
  refine ok_seq_r (by as_aux_lemma => kernel_rfl) (half_any_r1 c _ _) (fun _ => ?_)
  refine ok_seq ?_
  refine ok_block ?_
  rcases Bool.eq_false_or_eq_true (decide (48 ≤ ((c : Nat) : Int))) with hb1 | hb1
  ·
    refine ok_seq_r (by as_aux_lemma => kernel_rfl) (half_any_r2 c hb1 _ _) (fun _ => ?_)
    refine ok_cond (b := decide (((c : Nat) : Int) ≤ 57)) (by as_aux_lemma => kernel_rfl) (fun hb2 => ?_) (fun hb2 => ?_)
    ·
      rw [hb2]
      refine ok_seq_r (by as_aux_lemma => kernel_rfl) (half_any_r3 c hc hb1 hb2 _ _) (fun _ => ?_)
      refine ok_ret ?_
      refine mt_block_r ?_
      refine mt_then_r ?_
      exact meets_ret (v := (.tuple #[(.int .u8 (((c : Nat) : Int) - 48)), (.bool true)])) [] (dup []) (by as_aux_lemma => kernel_rfl) (by as_aux_lemma => kernel_rfl) (eqs_dup _) (fun _ hS => ⟨congrArg Ending.returned (dg_val (by rw [(dg1 (by have := of_decide_eq_true hb1; have := of_decide_eq_true hb2; have := hc; omega)).1]; have := of_decide_eq_true hb1; have := of_decide_eq_true hb2; have := hc; omega) (dg1 (by have := of_decide_eq_true hb1; have := of_decide_eq_true hb2; have := hc; omega)).2.symm), hS.below⟩)
    ·
      rw [hb2]
      rcases Bool.eq_false_or_eq_true (decide (97 ≤ ((c : Nat) : Int))) with hb3 | hb3
      ·
        refine ok_seq_r (by as_aux_lemma => kernel_rfl) (half_any_r4 c hb3 _ _) (fun _ => ?_)
        refine ok_cond (b := decide (((c : Nat) : Int) ≤ 102)) (by as_aux_lemma => kernel_rfl) (fun hb4 => ?_) (fun hb4 => ?_)
        ·
          rw [hb4]
          refine ok_seq_r (by as_aux_lemma => kernel_rfl) (half_any_r5 c hc hb1 hb2 hb3 hb4 _ _) (fun _ => ?_)
          refine ok_ret ?_
          refine mt_block_r ?_
          refine mt_then_r ?_
          exact meets_ret (v := (.tuple #[(.int .u8 ((((c : Nat) : Int) - 97) + 10)), (.bool true)])) [] (dup []) (by as_aux_lemma => kernel_rfl) (by as_aux_lemma => kernel_rfl) (eqs_dup _) (fun _ hS => ⟨congrArg Ending.returned (dg_val (by rw [(dg2 (by have := of_decide_eq_true hb1; have := of_decide_eq_false hb2; have := of_decide_eq_true hb3; have := of_decide_eq_true hb4; have := hc; omega) (by have := of_decide_eq_true hb1; have := of_decide_eq_false hb2; have := of_decide_eq_true hb3; have := of_decide_eq_true hb4; have := hc; omega)).1]; have := of_decide_eq_true hb1; have := of_decide_eq_false hb2; have := of_decide_eq_true hb3; have := of_decide_eq_true hb4; have := hc; omega) (dg2 (by have := of_decide_eq_true hb1; have := of_decide_eq_false hb2; have := of_decide_eq_true hb3; have := of_decide_eq_true hb4; have := hc; omega) (by have := of_decide_eq_true hb1; have := of_decide_eq_false hb2; have := of_decide_eq_true hb3; have := of_decide_eq_true hb4; have := hc; omega)).2.symm), hS.below⟩)
        ·
          rw [hb4]
          rcases Bool.eq_false_or_eq_true (decide (65 ≤ ((c : Nat) : Int))) with hb5 | hb5
          ·
            refine ok_seq_r (by as_aux_lemma => kernel_rfl) (half_any_r6 c hb5 _ _) (fun _ => ?_)
            refine ok_cond (b := decide (((c : Nat) : Int) ≤ 70)) (by as_aux_lemma => kernel_rfl) (fun hb6 => ?_) (fun hb6 => ?_)
            ·
              rw [hb6]
              refine ok_seq_r (by as_aux_lemma => kernel_rfl) (half_any_r7 c hc hb1 hb2 hb3 hb4 hb5 hb6 _ _) (fun _ => ?_)
              refine ok_ret ?_
              refine mt_block_r ?_
              refine mt_then_r ?_
              exact meets_ret (v := (.tuple #[(.int .u8 ((((c : Nat) : Int) - 65) + 10)), (.bool true)])) [] (dup []) (by as_aux_lemma => kernel_rfl) (by as_aux_lemma => kernel_rfl) (eqs_dup _) (fun _ hS => ⟨congrArg Ending.returned (dg_val (by rw [(dg3 (by have := of_decide_eq_true hb1; have := of_decide_eq_false hb2; have := of_decide_eq_true hb3; have := of_decide_eq_false hb4; have := of_decide_eq_true hb5; have := of_decide_eq_true hb6; have := hc; omega) (by have := of_decide_eq_true hb1; have := of_decide_eq_false hb2; have := of_decide_eq_true hb3; have := of_decide_eq_false hb4; have := of_decide_eq_true hb5; have := of_decide_eq_true hb6; have := hc; omega) (by have := of_decide_eq_true hb1; have := of_decide_eq_false hb2; have := of_decide_eq_true hb3; have := of_decide_eq_false hb4; have := of_decide_eq_true hb5; have := of_decide_eq_true hb6; have := hc; omega)).1]; have := of_decide_eq_true hb1; have := of_decide_eq_false hb2; have := of_decide_eq_true hb3; have := of_decide_eq_false hb4; have := of_decide_eq_true hb5; have := of_decide_eq_true hb6; have := hc; omega) (dg3 (by have := of_decide_eq_true hb1; have := of_decide_eq_false hb2; have := of_decide_eq_true hb3; have := of_decide_eq_false hb4; have := of_decide_eq_true hb5; have := of_decide_eq_true hb6; have := hc; omega) (by have := of_decide_eq_true hb1; have := of_decide_eq_false hb2; have := of_decide_eq_true hb3; have := of_decide_eq_false hb4; have := of_decide_eq_true hb5; have := of_decide_eq_true hb6; have := hc; omega) (by have := of_decide_eq_true hb1; have := of_decide_eq_false hb2; have := of_decide_eq_true hb3; have := of_decide_eq_false hb4; have := of_decide_eq_true hb5; have := of_decide_eq_true hb6; have := hc; omega)).2.symm), hS.below⟩)
            ·
              rw [hb6]
              refine ok_skip ?_
              refine mt_block_n ?_
              refine mt_then ?_
              refine ok_seq_r (by as_aux_lemma => kernel_rfl) (half_any_r8 c _ _) (fun _ => ?_)
              refine ok_ret ?_
              exact meets_ret (v := (.tuple #[(.int .u8 0), (.bool false)])) [] (dup []) (by as_aux_lemma => kernel_rfl) (by as_aux_lemma => kernel_rfl) (eqs_dup _) (fun _ hS => ⟨congrArg Ending.returned (dg_val (by rw [(dg0 (by have := of_decide_eq_true hb1; have := of_decide_eq_false hb2; have := of_decide_eq_true hb3; have := of_decide_eq_false hb4; have := of_decide_eq_true hb5; have := of_decide_eq_false hb6; have := hc; omega) (by have := of_decide_eq_true hb1; have := of_decide_eq_false hb2; have := of_decide_eq_true hb3; have := of_decide_eq_false hb4; have := of_decide_eq_true hb5; have := of_decide_eq_false hb6; have := hc; omega) (by have := of_decide_eq_true hb1; have := of_decide_eq_false hb2; have := of_decide_eq_true hb3; have := of_decide_eq_false hb4; have := of_decide_eq_true hb5; have := of_decide_eq_false hb6; have := hc; omega)).1]; rfl) (dg0 (by have := of_decide_eq_true hb1; have := of_decide_eq_false hb2; have := of_decide_eq_true hb3; have := of_decide_eq_false hb4; have := of_decide_eq_true hb5; have := of_decide_eq_false hb6; have := hc; omega) (by have := of_decide_eq_true hb1; have := of_decide_eq_false hb2; have := of_decide_eq_true hb3; have := of_decide_eq_false hb4; have := of_decide_eq_true hb5; have := of_decide_eq_false hb6; have := hc; omega) (by have := of_decide_eq_true hb1; have := of_decide_eq_false hb2; have := of_decide_eq_true hb3; have := of_decide_eq_false hb4; have := of_decide_eq_true hb5; have := of_decide_eq_false hb6; have := hc; omega)).2.symm), hS.below⟩)
          ·
            refine ok_seq_r (by as_aux_lemma => kernel_rfl) (half_any_r9 c hb5 _ _) (fun _ => ?_)
            refine ok_no (by as_aux_lemma => kernel_rfl) ?_
            refine ok_skip ?_
            refine mt_block_n ?_
            refine mt_then ?_
            refine ok_seq_r (by as_aux_lemma => kernel_rfl) (half_any_r10 c _ _) (fun _ => ?_)
            refine ok_ret ?_
            exact meets_ret (v := (.tuple #[(.int .u8 0), (.bool false)])) [] (dup []) (by as_aux_lemma => kernel_rfl) (by as_aux_lemma => kernel_rfl) (eqs_dup _) (fun _ hS => ⟨congrArg Ending.returned (dg_val (by rw [(dg0 (by have := of_decide_eq_true hb1; have := of_decide_eq_false hb2; have := of_decide_eq_true hb3; have := of_decide_eq_false hb4; have := of_decide_eq_false hb5; have := hc; omega) (by have := of_decide_eq_true hb1; have := of_decide_eq_false hb2; have := of_decide_eq_true hb3; have := of_decide_eq_false hb4; have := of_decide_eq_false hb5; have := hc; omega) (by have := of_decide_eq_true hb1; have := of_decide_eq_false hb2; have := of_decide_eq_true hb3; have := of_decide_eq_false hb4; have := of_decide_eq_false hb5; have := hc; omega)).1]; rfl) (dg0 (by have := of_decide_eq_true hb1; have := of_decide_eq_false hb2; have := of_decide_eq_true hb3; have := of_decide_eq_false hb4; have := of_decide_eq_false hb5; have := hc; omega) (by have := of_decide_eq_true hb1; have := of_decide_eq_false hb2; have := of_decide_eq_true hb3; have := of_decide_eq_false hb4; have := of_decide_eq_false hb5; have := hc; omega) (by have := of_decide_eq_true hb1; have := of_decide_eq_false hb2; have := of_decide_eq_true hb3; have := of_decide_eq_false hb4; have := of_decide_eq_false hb5; have := hc; omega)).2.symm), hS.below⟩)
      ·
        refine ok_seq_r (by as_aux_lemma => kernel_rfl) (half_any_r11 c hb3 _ _) (fun _ => ?_)
        refine ok_no (by as_aux_lemma => kernel_rfl) ?_
        rcases Bool.eq_false_or_eq_true (decide (65 ≤ ((c : Nat) : Int))) with hb7 | hb7
        ·
          refine ok_seq_r (by as_aux_lemma => kernel_rfl) (half_any_r12 c hb7 _ _) (fun _ => ?_)
          refine ok_cond (b := decide (((c : Nat) : Int) ≤ 70)) (by as_aux_lemma => kernel_rfl) (fun hb8 => ?_) (fun hb8 => ?_)
          ·
            rw [hb8]
            refine ok_seq_r (by as_aux_lemma => kernel_rfl) (half_any_r13 c hc hb1 hb2 hb3 hb7 hb8 _ _) (fun _ => ?_)
            refine ok_ret ?_
            refine mt_block_r ?_
            refine mt_then_r ?_
            exact meets_ret (v := (.tuple #[(.int .u8 ((((c : Nat) : Int) - 65) + 10)), (.bool true)])) [] (dup []) (by as_aux_lemma => kernel_rfl) (by as_aux_lemma => kernel_rfl) (eqs_dup _) (fun _ hS => ⟨congrArg Ending.returned (dg_val (by rw [(dg3 (by have := of_decide_eq_true hb1; have := of_decide_eq_false hb2; have := of_decide_eq_false hb3; have := of_decide_eq_true hb7; have := of_decide_eq_true hb8; have := hc; omega) (by have := of_decide_eq_true hb1; have := of_decide_eq_false hb2; have := of_decide_eq_false hb3; have := of_decide_eq_true hb7; have := of_decide_eq_true hb8; have := hc; omega) (by have := of_decide_eq_true hb1; have := of_decide_eq_false hb2; have := of_decide_eq_false hb3; have := of_decide_eq_true hb7; have := of_decide_eq_true hb8; have := hc; omega)).1]; have := of_decide_eq_true hb1; have := of_decide_eq_false hb2; have := of_decide_eq_false hb3; have := of_decide_eq_true hb7; have := of_decide_eq_true hb8; have := hc; omega) (dg3 (by have := of_decide_eq_true hb1; have := of_decide_eq_false hb2; have := of_decide_eq_false hb3; have := of_decide_eq_true hb7; have := of_decide_eq_true hb8; have := hc; omega) (by have := of_decide_eq_true hb1; have := of_decide_eq_false hb2; have := of_decide_eq_false hb3; have := of_decide_eq_true hb7; have := of_decide_eq_true hb8; have := hc; omega) (by have := of_decide_eq_true hb1; have := of_decide_eq_false hb2; have := of_decide_eq_false hb3; have := of_decide_eq_true hb7; have := of_decide_eq_true hb8; have := hc; omega)).2.symm), hS.below⟩)
          ·
            rw [hb8]
            refine ok_skip ?_
            refine mt_block_n ?_
            refine mt_then ?_
            refine ok_seq_r (by as_aux_lemma => kernel_rfl) (half_any_r14 c _ _) (fun _ => ?_)
            refine ok_ret ?_
            exact meets_ret (v := (.tuple #[(.int .u8 0), (.bool false)])) [] (dup []) (by as_aux_lemma => kernel_rfl) (by as_aux_lemma => kernel_rfl) (eqs_dup _) (fun _ hS => ⟨congrArg Ending.returned (dg_val (by rw [(dg0 (by have := of_decide_eq_true hb1; have := of_decide_eq_false hb2; have := of_decide_eq_false hb3; have := of_decide_eq_true hb7; have := of_decide_eq_false hb8; have := hc; omega) (by have := of_decide_eq_true hb1; have := of_decide_eq_false hb2; have := of_decide_eq_false hb3; have := of_decide_eq_true hb7; have := of_decide_eq_false hb8; have := hc; omega) (by have := of_decide_eq_true hb1; have := of_decide_eq_false hb2; have := of_decide_eq_false hb3; have := of_decide_eq_true hb7; have := of_decide_eq_false hb8; have := hc; omega)).1]; rfl) (dg0 (by have := of_decide_eq_true hb1; have := of_decide_eq_false hb2; have := of_decide_eq_false hb3; have := of_decide_eq_true hb7; have := of_decide_eq_false hb8; have := hc; omega) (by have := of_decide_eq_true hb1; have := of_decide_eq_false hb2; have := of_decide_eq_false hb3; have := of_decide_eq_true hb7; have := of_decide_eq_false hb8; have := hc; omega) (by have := of_decide_eq_true hb1; have := of_decide_eq_false hb2; have := of_decide_eq_false hb3; have := of_decide_eq_true hb7; have := of_decide_eq_false hb8; have := hc; omega)).2.symm), hS.below⟩)
        ·
          refine ok_seq_r (by as_aux_lemma => kernel_rfl) (half_any_r15 c hb7 _ _) (fun _ => ?_)
          refine ok_no (by as_aux_lemma => kernel_rfl) ?_
          refine ok_skip ?_
          refine mt_block_n ?_
          refine mt_then ?_
          refine ok_seq_r (by as_aux_lemma => kernel_rfl) (half_any_r16 c _ _) (fun _ => ?_)
          refine ok_ret ?_
          exact meets_ret (v := (.tuple #[(.int .u8 0), (.bool false)])) [] (dup []) (by as_aux_lemma => kernel_rfl) (by as_aux_lemma => kernel_rfl) (eqs_dup _) (fun _ hS => ⟨congrArg Ending.returned (dg_val (by rw [(dg0 (by have := of_decide_eq_true hb1; have := of_decide_eq_false hb2; have := of_decide_eq_false hb3; have := of_decide_eq_false hb7; have := hc; omega) (by have := of_decide_eq_true hb1; have := of_decide_eq_false hb2; have := of_decide_eq_false hb3; have := of_decide_eq_false hb7; have := hc; omega) (by have := of_decide_eq_true hb1; have := of_decide_eq_false hb2; have := of_decide_eq_false hb3; have := of_decide_eq_false hb7; have := hc; omega)).1]; rfl) (dg0 (by have := of_decide_eq_true hb1; have := of_decide_eq_false hb2; have := of_decide_eq_false hb3; have := of_decide_eq_false hb7; have := hc; omega) (by have := of_decide_eq_true hb1; have := of_decide_eq_false hb2; have := of_decide_eq_false hb3; have := of_decide_eq_false hb7; have := hc; omega) (by have := of_decide_eq_true hb1; have := of_decide_eq_false hb2; have := of_decide_eq_false hb3; have := of_decide_eq_false hb7; have := hc; omega)).2.symm), hS.below⟩)
  ·
    refine ok_seq_r (by as_aux_lemma => kernel_rfl) (half_any_r17 c hb1 _ _) (fun _ => ?_)
    refine ok_no (by as_aux_lemma => kernel_rfl) ?_
    rcases Bool.eq_false_or_eq_true (decide (97 ≤ ((c : Nat) : Int))) with hb9 | hb9
    ·
      refine ok_seq_r (by as_aux_lemma => kernel_rfl) (half_any_r18 c hb9 _ _) (fun _ => ?_)
      refine ok_cond (b := decide (((c : Nat) : Int) ≤ 102)) (by as_aux_lemma => kernel_rfl) (fun hb10 => ?_) (fun hb10 => ?_)
      ·
        rw [hb10]
        refine ok_seq_r (by as_aux_lemma => kernel_rfl) (half_any_r19 c hc hb1 hb9 hb10 _ _) (fun _ => ?_)
        refine ok_ret ?_
        refine mt_block_r ?_
        refine mt_then_r ?_
        exact meets_ret (v := (.tuple #[(.int .u8 ((((c : Nat) : Int) - 97) + 10)), (.bool true)])) [] (dup []) (by as_aux_lemma => kernel_rfl) (by as_aux_lemma => kernel_rfl) (eqs_dup _) (fun _ hS => ⟨congrArg Ending.returned (dg_val (by rw [(dg2 (by have := of_decide_eq_false hb1; have := of_decide_eq_true hb9; have := of_decide_eq_true hb10; have := hc; omega) (by have := of_decide_eq_false hb1; have := of_decide_eq_true hb9; have := of_decide_eq_true hb10; have := hc; omega)).1]; have := of_decide_eq_false hb1; have := of_decide_eq_true hb9; have := of_decide_eq_true hb10; have := hc; omega) (dg2 (by have := of_decide_eq_false hb1; have := of_decide_eq_true hb9; have := of_decide_eq_true hb10; have := hc; omega) (by have := of_decide_eq_false hb1; have := of_decide_eq_true hb9; have := of_decide_eq_true hb10; have := hc; omega)).2.symm), hS.below⟩)
      ·
        rw [hb10]
        rcases Bool.eq_false_or_eq_true (decide (65 ≤ ((c : Nat) : Int))) with hb11 | hb11
        ·
          refine ok_seq_r (by as_aux_lemma => kernel_rfl) (half_any_r20 c hb11 _ _) (fun _ => ?_)
          refine ok_cond (b := decide (((c : Nat) : Int) ≤ 70)) (by as_aux_lemma => kernel_rfl) (fun hb12 => ?_) (fun hb12 => ?_)
          ·
            rw [hb12]
            refine ok_seq_r (by as_aux_lemma => kernel_rfl) (half_any_r21 c hc hb1 hb9 hb10 hb11 hb12 _ _) (fun _ => ?_)
            refine ok_ret ?_
            refine mt_block_r ?_
            refine mt_then_r ?_
            exact meets_ret (v := (.tuple #[(.int .u8 ((((c : Nat) : Int) - 65) + 10)), (.bool true)])) [] (dup []) (by as_aux_lemma => kernel_rfl) (by as_aux_lemma => kernel_rfl) (eqs_dup _) (fun _ hS => ⟨congrArg Ending.returned (dg_val (by rw [(dg3 (by have := of_decide_eq_false hb1; have := of_decide_eq_true hb9; have := of_decide_eq_false hb10; have := of_decide_eq_true hb11; have := of_decide_eq_true hb12; have := hc; omega) (by have := of_decide_eq_false hb1; have := of_decide_eq_true hb9; have := of_decide_eq_false hb10; have := of_decide_eq_true hb11; have := of_decide_eq_true hb12; have := hc; omega) (by have := of_decide_eq_false hb1; have := of_decide_eq_true hb9; have := of_decide_eq_false hb10; have := of_decide_eq_true hb11; have := of_decide_eq_true hb12; have := hc; omega)).1]; have := of_decide_eq_false hb1; have := of_decide_eq_true hb9; have := of_decide_eq_false hb10; have := of_decide_eq_true hb11; have := of_decide_eq_true hb12; have := hc; omega) (dg3 (by have := of_decide_eq_false hb1; have := of_decide_eq_true hb9; have := of_decide_eq_false hb10; have := of_decide_eq_true hb11; have := of_decide_eq_true hb12; have := hc; omega) (by have := of_decide_eq_false hb1; have := of_decide_eq_true hb9; have := of_decide_eq_false hb10; have := of_decide_eq_true hb11; have := of_decide_eq_true hb12; have := hc; omega) (by have := of_decide_eq_false hb1; have := of_decide_eq_true hb9; have := of_decide_eq_false hb10; have := of_decide_eq_true hb11; have := of_decide_eq_true hb12; have := hc; omega)).2.symm), hS.below⟩)
          ·
            rw [hb12]
            refine ok_skip ?_
            refine mt_block_n ?_
            refine mt_then ?_
            refine ok_seq_r (by as_aux_lemma => kernel_rfl) (half_any_r22 c _ _) (fun _ => ?_)
            refine ok_ret ?_
            exact meets_ret (v := (.tuple #[(.int .u8 0), (.bool false)])) [] (dup []) (by as_aux_lemma => kernel_rfl) (by as_aux_lemma => kernel_rfl) (eqs_dup _) (fun _ hS => ⟨congrArg Ending.returned (dg_val (by rw [(dg0 (by have := of_decide_eq_false hb1; have := of_decide_eq_true hb9; have := of_decide_eq_false hb10; have := of_decide_eq_true hb11; have := of_decide_eq_false hb12; have := hc; omega) (by have := of_decide_eq_false hb1; have := of_decide_eq_true hb9; have := of_decide_eq_false hb10; have := of_decide_eq_true hb11; have := of_decide_eq_false hb12; have := hc; omega) (by have := of_decide_eq_false hb1; have := of_decide_eq_true hb9; have := of_decide_eq_false hb10; have := of_decide_eq_true hb11; have := of_decide_eq_false hb12; have := hc; omega)).1]; rfl) (dg0 (by have := of_decide_eq_false hb1; have := of_decide_eq_true hb9; have := of_decide_eq_false hb10; have := of_decide_eq_true hb11; have := of_decide_eq_false hb12; have := hc; omega) (by have := of_decide_eq_false hb1; have := of_decide_eq_true hb9; have := of_decide_eq_false hb10; have := of_decide_eq_true hb11; have := of_decide_eq_false hb12; have := hc; omega) (by have := of_decide_eq_false hb1; have := of_decide_eq_true hb9; have := of_decide_eq_false hb10; have := of_decide_eq_true hb11; have := of_decide_eq_false hb12; have := hc; omega)).2.symm), hS.below⟩)
        ·
          refine ok_seq_r (by as_aux_lemma => kernel_rfl) (half_any_r23 c hb11 _ _) (fun _ => ?_)
          refine ok_no (by as_aux_lemma => kernel_rfl) ?_
          refine ok_skip ?_
          refine mt_block_n ?_
          refine mt_then ?_
          refine ok_seq_r (by as_aux_lemma => kernel_rfl) (half_any_r24 c _ _) (fun _ => ?_)
          refine ok_ret ?_
          exact meets_ret (v := (.tuple #[(.int .u8 0), (.bool false)])) [] (dup []) (by as_aux_lemma => kernel_rfl) (by as_aux_lemma => kernel_rfl) (eqs_dup _) (fun _ hS => ⟨congrArg Ending.returned (dg_val (by rw [(dg0 (by have := of_decide_eq_false hb1; have := of_decide_eq_true hb9; have := of_decide_eq_false hb10; have := of_decide_eq_false hb11; have := hc; omega) (by have := of_decide_eq_false hb1; have := of_decide_eq_true hb9; have := of_decide_eq_false hb10; have := of_decide_eq_false hb11; have := hc; omega) (by have := of_decide_eq_false hb1; have := of_decide_eq_true hb9; have := of_decide_eq_false hb10; have := of_decide_eq_false hb11; have := hc; omega)).1]; rfl) (dg0 (by have := of_decide_eq_false hb1; have := of_decide_eq_true hb9; have := of_decide_eq_false hb10; have := of_decide_eq_false hb11; have := hc; omega) (by have := of_decide_eq_false hb1; have := of_decide_eq_true hb9; have := of_decide_eq_false hb10; have := of_decide_eq_false hb11; have := hc; omega) (by have := of_decide_eq_false hb1; have := of_decide_eq_true hb9; have := of_decide_eq_false hb10; have := of_decide_eq_false hb11; have := hc; omega)).2.symm), hS.below⟩)
    ·
      refine ok_seq_r (by as_aux_lemma => kernel_rfl) (half_any_r25 c hb9 _ _) (fun _ => ?_)
      refine ok_no (by as_aux_lemma => kernel_rfl) ?_
      rcases Bool.eq_false_or_eq_true (decide (65 ≤ ((c : Nat) : Int))) with hb13 | hb13
      ·
        refine ok_seq_r (by as_aux_lemma => kernel_rfl) (half_any_r26 c hb13 _ _) (fun _ => ?_)
        refine ok_cond (b := decide (((c : Nat) : Int) ≤ 70)) (by as_aux_lemma => kernel_rfl) (fun hb14 => ?_) (fun hb14 => ?_)
        ·
          rw [hb14]
          refine ok_seq_r (by as_aux_lemma => kernel_rfl) (half_any_r27 c hc hb1 hb9 hb13 hb14 _ _) (fun _ => ?_)
          refine ok_ret ?_
          refine mt_block_r ?_
          refine mt_then_r ?_
          exact meets_ret (v := (.tuple #[(.int .u8 ((((c : Nat) : Int) - 65) + 10)), (.bool true)])) [] (dup []) (by as_aux_lemma => kernel_rfl) (by as_aux_lemma => kernel_rfl) (eqs_dup _) (fun _ hS => ⟨congrArg Ending.returned (dg_val (by rw [(dg3 (by have := of_decide_eq_false hb1; have := of_decide_eq_false hb9; have := of_decide_eq_true hb13; have := of_decide_eq_true hb14; have := hc; omega) (by have := of_decide_eq_false hb1; have := of_decide_eq_false hb9; have := of_decide_eq_true hb13; have := of_decide_eq_true hb14; have := hc; omega) (by have := of_decide_eq_false hb1; have := of_decide_eq_false hb9; have := of_decide_eq_true hb13; have := of_decide_eq_true hb14; have := hc; omega)).1]; have := of_decide_eq_false hb1; have := of_decide_eq_false hb9; have := of_decide_eq_true hb13; have := of_decide_eq_true hb14; have := hc; omega) (dg3 (by have := of_decide_eq_false hb1; have := of_decide_eq_false hb9; have := of_decide_eq_true hb13; have := of_decide_eq_true hb14; have := hc; omega) (by have := of_decide_eq_false hb1; have := of_decide_eq_false hb9; have := of_decide_eq_true hb13; have := of_decide_eq_true hb14; have := hc; omega) (by have := of_decide_eq_false hb1; have := of_decide_eq_false hb9; have := of_decide_eq_true hb13; have := of_decide_eq_true hb14; have := hc; omega)).2.symm), hS.below⟩)
        ·
          rw [hb14]
          refine ok_skip ?_
          refine mt_block_n ?_
          refine mt_then ?_
          refine ok_seq_r (by as_aux_lemma => kernel_rfl) (half_any_r28 c _ _) (fun _ => ?_)
          refine ok_ret ?_
          exact meets_ret (v := (.tuple #[(.int .u8 0), (.bool false)])) [] (dup []) (by as_aux_lemma => kernel_rfl) (by as_aux_lemma => kernel_rfl) (eqs_dup _) (fun _ hS => ⟨congrArg Ending.returned (dg_val (by rw [(dg0 (by have := of_decide_eq_false hb1; have := of_decide_eq_false hb9; have := of_decide_eq_true hb13; have := of_decide_eq_false hb14; have := hc; omega) (by have := of_decide_eq_false hb1; have := of_decide_eq_false hb9; have := of_decide_eq_true hb13; have := of_decide_eq_false hb14; have := hc; omega) (by have := of_decide_eq_false hb1; have := of_decide_eq_false hb9; have := of_decide_eq_true hb13; have := of_decide_eq_false hb14; have := hc; omega)).1]; rfl) (dg0 (by have := of_decide_eq_false hb1; have := of_decide_eq_false hb9; have := of_decide_eq_true hb13; have := of_decide_eq_false hb14; have := hc; omega) (by have := of_decide_eq_false hb1; have := of_decide_eq_false hb9; have := of_decide_eq_true hb13; have := of_decide_eq_false hb14; have := hc; omega) (by have := of_decide_eq_false hb1; have := of_decide_eq_false hb9; have := of_decide_eq_true hb13; have := of_decide_eq_false hb14; have := hc; omega)).2.symm), hS.below⟩)
      ·
        refine ok_seq_r (by as_aux_lemma => kernel_rfl) (half_any_r29 c hb13 _ _) (fun _ => ?_)
        refine ok_no (by as_aux_lemma => kernel_rfl) ?_
        refine ok_skip ?_
        refine mt_block_n ?_
        refine mt_then ?_
        refine ok_seq_r (by as_aux_lemma => kernel_rfl) (half_any_r30 c _ _) (fun _ => ?_)
        refine ok_ret ?_
        exact meets_ret (v := (.tuple #[(.int .u8 0), (.bool false)])) [] (dup []) (by as_aux_lemma => kernel_rfl) (by as_aux_lemma => kernel_rfl) (eqs_dup _) (fun _ hS => ⟨congrArg Ending.returned (dg_val (by rw [(dg0 (by have := of_decide_eq_false hb1; have := of_decide_eq_false hb9; have := of_decide_eq_false hb13; have := hc; omega) (by have := of_decide_eq_false hb1; have := of_decide_eq_false hb9; have := of_decide_eq_false hb13; have := hc; omega) (by have := of_decide_eq_false hb1; have := of_decide_eq_false hb9; have := of_decide_eq_false hb13; have := hc; omega)).1]; rfl) (dg0 (by have := of_decide_eq_false hb1; have := of_decide_eq_false hb9; have := of_decide_eq_false hb13; have := hc; omega) (by have := of_decide_eq_false hb1; have := of_decide_eq_false hb9; have := of_decide_eq_false hb13; have := hc; omega) (by have := of_decide_eq_false hb1; have := of_decide_eq_false hb9; have := of_decide_eq_false hb13; have := hc; omega)).2.symm), hS.below⟩)
theorem rdigit_any_r1 (n : Nat) (w0 : World) (F : World → Prop) : Reg Try.prog 0 (regOps Try.f58 0) false 10 [(0, (.int .u8 ((n : Nat) : Int)))] w0 [] F
    (fun _ => [(0, (.int .u8 ((n : Nat) : Int))), (2, (.int .u8 0))])
    (fun _ => []) := by
  refine reg_seq [0] [0, 2] 1
    (fun _ ι => ([(.int .u8 0)] : List Value).getD ι undef)
    (fun _ ι => ([{}] : List Eff).getD ι {})
    (by as_aux_lemma => kernel_rfl) (by as_aux_lemma => kernel_rfl) (fun _ => by as_aux_lemma => kernel_rfl) (fun _ => by as_aux_lemma => kernel_rfl) ⟨trivial, ?_⟩
  · exact o_run 0 [] [] (fun _ _ => []) (fun _ _ => by as_aux_lemma => kernel_rfl)
theorem rdigit_any_r2 (n : Nat) (w0 : World) (F : World → Prop) : Reg Try.prog 1 (regOps Try.f58 1) false 10 [(0, (.int .u8 ((n : Nat) : Int))), (2, (.int .u8 0))] w0 [] F
    (fun _ => [(0, (.int .u8 ((n : Nat) : Int))), (2, (.int .u8 0)), (4, (.bool (decide (((n : Nat) : Int) < 10))))])
    (fun _ => []) := by
  refine reg_seq [0, 1] [0, 2, 4] 2
    (fun _ ι => ([(.int .u8 ((n : Nat) : Int)), (.bool (decide (((n : Nat) : Int) < 10)))] : List Value).getD ι undef)
    (fun _ ι => ([{}, {}] : List Eff).getD ι {})
    (by as_aux_lemma => kernel_rfl) (by as_aux_lemma => kernel_rfl) (fun _ => by as_aux_lemma => kernel_rfl) (fun _ => by as_aux_lemma => kernel_rfl) ⟨⟨trivial, ?_⟩, ?_⟩
  · exact o_run 0 [] [] (fun _ _ => []) (fun _ _ => by as_aux_lemma => kernel_rfl)
  · exact o_run 1 [] [] (fun _ _ => []) (fun _ _ => by as_aux_lemma => kernel_rfl)
theorem rdigit_any_r3 (n : Nat) (hn : n < 16) (hb1 : (decide (((n : Nat) : Int) < 10)) = true) (w0 : World) (F : World → Prop) : Reg Try.prog 2 (regOps Try.f58 2) false 10 [(0, (.int .u8 ((n : Nat) : Int))), (2, (.int .u8 0)), (4, (.bool true))] w0 [] F
    (fun _ => [(0, (.int .u8 ((n : Nat) : Int))), (2, (.int .u8 (48 + ((n : Nat) : Int))))])
    (fun _ => []) := by
  refine reg_seq [0, 1, 3] [0, 2] 3
    (fun _ ι => ([(.int .u8 ((n : Nat) : Int)), (.int .u8 (48 + ((n : Nat) : Int))), (.int .u8 (48 + ((n : Nat) : Int)))] : List Value).getD ι undef)
    (fun _ ι => ([{}, {}, {}] : List Eff).getD ι {})
    (by as_aux_lemma => kernel_rfl) (by as_aux_lemma => kernel_rfl) (fun _ => by as_aux_lemma => kernel_rfl) (fun _ => by as_aux_lemma => kernel_rfl) ⟨⟨⟨trivial, ?_⟩, ?_⟩, ?_⟩
  · exact o_run 0 [] [] (fun _ _ => []) (fun _ _ => by as_aux_lemma => kernel_rfl)
  · exact o_as 1 (fun _ => (.int .u8 (IntKind.u8.wrap (48 + ((n : Nat) : Int))))) (fun _ => (.int .u8 (48 + ((n : Nat) : Int)))) (fun _ _ => by as_aux_lemma => kernel_rfl) (fun _ => congrArg (Value.int .u8) (u8I (by have := of_decide_eq_true hb1; have := hn; omega)))
  · exact o_run 2 [] [] (fun _ _ => []) (fun _ _ => by as_aux_lemma => kernel_rfl)
theorem rdigit_any_r4 (n : Nat) (hn : n < 16) (hb1 : (decide (((n : Nat) : Int) < 10)) = false) (w0 : World) (F : World → Prop) : Reg Try.prog 3 (regOps Try.f58 3) false 10 [(0, (.int .u8 ((n : Nat) : Int))), (2, (.int .u8 0)), (4, (.bool false))] w0 [] F
    (fun _ => [(2, (.int .u8 ((97 + ((n : Nat) : Int)) - 10)))])
    (fun _ => []) := by
  refine reg_seq [0, 1, 3, 7] [2] 4
    (fun _ ι => ([(.int .u8 ((n : Nat) : Int)), (.int .u8 (97 + ((n : Nat) : Int))), (.int .u8 ((97 + ((n : Nat) : Int)) - 10)), (.int .u8 ((97 + ((n : Nat) : Int)) - 10))] : List Value).getD ι undef)
    (fun _ ι => ([{}, {}, {}, {}] : List Eff).getD ι {})
    (by as_aux_lemma => kernel_rfl) (by as_aux_lemma => kernel_rfl) (fun _ => by as_aux_lemma => kernel_rfl) (fun _ => by as_aux_lemma => kernel_rfl) ⟨⟨⟨⟨trivial, ?_⟩, ?_⟩, ?_⟩, ?_⟩
  · exact o_run 0 [] [] (fun _ _ => []) (fun _ _ => by as_aux_lemma => kernel_rfl)
  · exact o_as 1 (fun _ => (.int .u8 (IntKind.u8.wrap (97 + ((n : Nat) : Int))))) (fun _ => (.int .u8 (97 + ((n : Nat) : Int)))) (fun _ _ => by as_aux_lemma => kernel_rfl) (fun _ => congrArg (Value.int .u8) (u8I (by have := of_decide_eq_false hb1; have := hn; omega)))
  · exact o_as 2 (fun _ => (.int .u8 (IntKind.u8.wrap ((97 + ((n : Nat) : Int)) - 10)))) (fun _ => (.int .u8 ((97 + ((n : Nat) : Int)) - 10))) (fun _ _ => by as_aux_lemma => kernel_rfl) (fun _ => congrArg (Value.int .u8) (u8I (by have := of_decide_eq_false hb1; have := hn; omega)))
  · exact o_run 3 [] [] (fun _ _ => []) (fun _ _ => by as_aux_lemma => kernel_rfl)
theorem rdigit_any (n : Nat) (hn : n < 16) (w0 : World) : Calls Try.prog 58 #[(.int .u8 ((n : Nat) : Int))] w0 (fun ε w' => ε = .returned (.int .u8 ((hexD n : Nat) : Int)) ∧ Below w0.heap.size w0 w') := by
  refine Calls.of_ok (n := 10) (F := (fun _ => True)) Try.func58 rfl rfl rfl (by simp) persT ?_
  refine ok_seq_r (by as_aux_lemma => kernel_rfl) (rdigit_any_r1 n _ _) (fun _ => ?_)
  refine ok_seq ?_
  refine ok_seq_r (by as_aux_lemma => kernel_rfl) (rdigit_any_r2 n _ _) (fun _ => ?_)
  refine ok_cond (b := decide (((n : Nat) : Int) < 10)) (by as_aux_lemma => kernel_rfl) (fun hb1 => ?_) (fun hb1 => ?_)
  ·
    rw [hb1]
    refine ok_seq_r (by as_aux_lemma => kernel_rfl) (rdigit_any_r3 n hn hb1 _ _) (fun _ => ?_)
    refine ok_ret ?_
    refine mt_then_r ?_
    exact meets_ret (v := (.int .u8 (48 + ((n : Nat) : Int)))) [] (dup []) (by as_aux_lemma => kernel_rfl) (by as_aux_lemma => kernel_rfl) (eqs_dup _) (fun _ hS => ⟨congrArg (fun x => Ending.returned (.int .u8 x)) (by unfold hexD; rw [if_pos (by have := of_decide_eq_true hb1; have := hn; omega)]; omega), hS.below⟩)
  ·
    rw [hb1]
    refine ok_skip ?_
    refine mt_then ?_
    refine ok_seq_r (by as_aux_lemma => kernel_rfl) (rdigit_any_r4 n hn hb1 _ _) (fun _ => ?_)
    refine ok_ret ?_
    exact meets_ret (v := (.int .u8 ((97 + ((n : Nat) : Int)) - 10))) [] (dup []) (by as_aux_lemma => kernel_rfl) (by as_aux_lemma => kernel_rfl) (eqs_dup _) (fun _ hS => ⟨congrArg (fun x => Ending.returned (.int .u8 x)) (by unfold hexD; rw [if_neg (by have := of_decide_eq_false hb1; have := hn; omega)]; omega), hS.below⟩)
theorem hex_any_r1 (a : Option Addr) (c : Nat) (B : List UInt8) (w0 : World) (F : World → Prop) : Reg Try.prog 0 (regOps Try.f44 0) false 28 [(0, (.slice a (B).length c))] w0 [] F
    (fun _ => [(0, (.slice a (B).length c)), (2, (.string ⟨#[]⟩))])
    (fun _ => []) := by
  refine reg_seq [0] [0, 2] 1
    (fun _ ι => ([(.string ⟨#[]⟩)] : List Value).getD ι undef)
    (fun _ ι => ([{}] : List Eff).getD ι {})
    (by as_aux_lemma => kernel_rfl) (by as_aux_lemma => kernel_rfl) (fun _ => by as_aux_lemma => kernel_rfl) (fun _ => by as_aux_lemma => kernel_rfl) ⟨trivial, ?_⟩
  · exact o_run 0 [] [] (fun _ _ => []) (fun _ _ => by as_aux_lemma => kernel_rfl)
theorem hex_any_r2 (a : Option Addr) (c : Nat) (B : List UInt8) (h46 : B.length ≤ 70368744175616) (w0 : World) : RegF Try.prog 1 (regOps Try.f44 1) false 28 [(0, (.slice a (B).length c)), (2, (.string ⟨#[]⟩))] w0 [] (fun w => Bs w a c B ∧ True)
    (fun ρ => [(0, (.slice a (B).length c)), (2, (.string ⟨#[]⟩)), (3, (.slice (some ⟨nb ρ 3, 0, none⟩) (([] : List UInt8)).length (2 * ((B).length))))])
    (fun ρ => [(nb ρ 3, (.cells (zB (2 * ((B).length))) 5 (0, 0)))]) (fun _ => (fun w => Bs w a c B ∧ True)) := by
  refine reg_seq_f [0, 1, 3, 7, 15] [0, 2, 3] 5
    (fun ρ ι => ([(.slice a (B).length c), (.int .i64 (((B).length : Nat) : Int)), (.int .i64 ((2 * ((B).length) : Nat) : Int)), (.slice (some ⟨nb ρ 3, 0, none⟩) (([] : List UInt8)).length (2 * ((B).length))), (.slice (some ⟨nb ρ 3, 0, none⟩) (([] : List UInt8)).length (2 * ((B).length)))] : List Value).getD ι undef)
    (fun ρ ι => ([{}, {}, {}, { news := [(nb ρ 3, (.cells (zB (2 * ((B).length))) 5 (0, 0)))] }, {}] : List Eff).getD ι {})
    (fun _ ι => ([(fun _ => True), (fun _ => True), (fun _ => True), (fun _ => True), (fun _ => True)] : List (World → Prop)).getD ι (fun _ => True))
    (by as_aux_lemma => kernel_rfl) (by as_aux_lemma => kernel_rfl) (fun _ => by as_aux_lemma => kernel_rfl) (fun _ => by as_aux_lemma => kernel_rfl) (fun _ _ hF _ => ⟨hF.1, trivial⟩) ⟨⟨⟨⟨⟨trivial, ?_⟩, ?_⟩, ?_⟩, ?_⟩, ?_⟩
  · exact Obl.brings (o_run 0 [] [] (fun _ _ => []) (fun _ _ => by as_aux_lemma => kernel_rfl)) (fun _ _ => trivial)
  · exact Obl.brings (o_run 1 [] [] (fun _ _ => []) (fun _ _ => by as_aux_lemma => kernel_rfl)) (fun _ _ => trivial)
  · exact Obl.brings (o_as 2 (fun _ => (.int .i64 (IntKind.i64.wrap (2 * (((B).length : Nat) : Int))))) (fun _ => (.int .i64 ((2 * ((B).length) : Nat) : Int))) (fun _ _ => by as_aux_lemma => kernel_rfl) (fun _ => congrArg (Value.int .i64) (wrap_mulN 2 ((B).length) (by have := h46; omega)))) (fun _ _ => trivial)
  · exact o_new1 3 (fun _ => do pure (Next.value (← Instr.makeSlice 22 (.int .i64 0) (.int .i64 ((2 * ((B).length) : Nat) : Int))))) (fun _ z => (.slice (some ⟨z.headD 0, 0, none⟩) (([] : List UInt8)).length (2 * ((B).length)))) (fun _ _ => (.cells (zB (2 * ((B).length))) 5 (0, 0))) (fun _ _ => (by as_aux_lemma => kernel_rfl)) (fun _ => (by as_aux_lemma => kernel_rfl)) (fun _ _ => trivial) (fun _ _ w _ => make_rowL Try.underlying22 u8i (([] : List UInt8)) (rfl) (rfl) (Nat.zero_le _) (by have := h46; omega) w)
  · exact Obl.brings (o_run 4 [] [] (fun _ _ => []) (fun _ _ => by as_aux_lemma => kernel_rfl)) (fun _ _ => trivial)
theorem hex_any_r3 (a : Option Addr) (c : Nat) (B : List UInt8) (ρ2 : Nat → Orc) (w0 : World) (F : World → Prop) : Reg Try.prog 2 (regOps Try.f44 2) false 28 [(0, (.slice a (B).length c)), (2, (.string ⟨#[]⟩)), (3, (.slice (some ⟨nb ρ2 3, 0, none⟩) (([] : List UInt8)).length (2 * ((B).length))))] w0 [(nb ρ2 3, (.cells (zB (2 * ((B).length))) 5 (0, 0)))] F
    (fun _ => [(2, (.string ⟨#[]⟩)), (3, (.slice (some ⟨nb ρ2 3, 0, none⟩) (([] : List UInt8)).length (2 * ((B).length)))), (10, (.slice a (B).length c)), (11, (.int .i64 (((B).length : Nat) : Int))), (12, (.int .i64 0))])
    (fun _ => [(nb ρ2 3, (.cells (zB (2 * ((B).length))) 5 (0, 0)))]) := by
  refine reg_seq [0, 1, 3] [2, 3, 10, 11, 12] 3
    (fun _ ι => ([(.slice a (B).length c), (.int .i64 (((B).length : Nat) : Int)), (.int .i64 0)] : List Value).getD ι undef)
    (fun _ ι => ([{}, {}, {}] : List Eff).getD ι {})
    (by as_aux_lemma => kernel_rfl) (by as_aux_lemma => kernel_rfl) (fun _ => by as_aux_lemma => kernel_rfl) (fun _ => by as_aux_lemma => kernel_rfl) ⟨⟨⟨trivial, ?_⟩, ?_⟩, ?_⟩
  · exact o_run 0 [] [] (fun _ _ => []) (fun _ _ => by as_aux_lemma => kernel_rfl)
  · exact o_run 1 [] [] (fun _ _ => []) (fun _ _ => by as_aux_lemma => kernel_rfl)
  · exact o_run 2 [] [] (fun _ _ => []) (fun _ _ => by as_aux_lemma => kernel_rfl)
theorem hex_any_r4 (a : Option Addr) (c : Nat) (B : List UInt8) (i : Nat) (X : List UInt8) (C : Array Value) (ρ2 : Nat → Orc) (w0 : World) (F : World → Prop) : Reg Try.prog 3 (regOps Try.f44 3) false 28 [(2, (.string ⟨#[]⟩)), (3, (.slice (some ⟨nb ρ2 3, 0, none⟩) (X).length (2 * ((B).length)))), (10, (.slice a (B).length c)), (11, (.int .i64 (((B).length : Nat) : Int))), (12, (.int .i64 ((i : Nat) : Int)))] w0 [(nb ρ2 3, (.cells C 5 (0, 0)))] F
    (fun _ => [(2, (.string ⟨#[]⟩)), (3, (.slice (some ⟨nb ρ2 3, 0, none⟩) (X).length (2 * ((B).length)))), (10, (.slice a (B).length c)), (11, (.int .i64 (((B).length : Nat) : Int))), (12, (.int .i64 ((i : Nat) : Int))), (13, (.bool (decide (((i : Nat) : Int) < (((B).length : Nat) : Int)))))])
    (fun _ => [(nb ρ2 3, (.cells C 5 (0, 0)))]) := by
  refine reg_seq [0] [2, 3, 10, 11, 12, 13] 1
    (fun _ ι => ([(.bool (decide (((i : Nat) : Int) < (((B).length : Nat) : Int))))] : List Value).getD ι undef)
    (fun _ ι => ([{}] : List Eff).getD ι {})
    (by as_aux_lemma => kernel_rfl) (by as_aux_lemma => kernel_rfl) (fun _ => by as_aux_lemma => kernel_rfl) (fun _ => by as_aux_lemma => kernel_rfl) ⟨trivial, ?_⟩
  · exact o_run 0 [] [] (fun _ _ => []) (fun _ _ => by as_aux_lemma => kernel_rfl)
theorem hex_any_r5 (a : Option Addr) (c : Nat) (B : List UInt8) (h46 : B.length ≤ 70368744175616) (i : Nat) (X : List UInt8) (C : Array Value) (hi : i ≤ B.length) (hX : X = hxS (B.take i)) (hb1 : (decide (((i : Nat) : Int) < (((B).length : Nat) : Int))) = true) (ρ2 : Nat → Orc) (w0 : World) : RegF Try.prog 4 (regOps Try.f44 4) false 28 [(2, (.string ⟨#[]⟩)), (3, (.slice (some ⟨nb ρ2 3, 0, none⟩) (X).length (2 * ((B).length)))), (10, (.slice a (B).length c)), (11, (.int .i64 (((B).length : Nat) : Int))), (12, (.int .i64 ((i : Nat) : Int))), (13, (.bool true))] w0 [(nb ρ2 3, (.cells C 5 (0, 0)))] (fun w => Bs w a c B ∧ True)
    (fun _ => [(2, (.string ⟨#[]⟩)), (3, (.slice (some ⟨nb ρ2 3, 0, none⟩) (X).length (2 * ((B).length)))), (5, (.int .u8 ((gB B i : Nat) : Int))), (10, (.slice a (B).length c)), (11, (.int .i64 (((B).length : Nat) : Int))), (12, (.int .i64 ((i : Nat) : Int)))])
    (fun _ => [(nb ρ2 3, (.cells C 5 (0, 0)))]) (fun _ => (fun w => Bs w a c B ∧ True)) := by
  refine reg_seq_f [0, 1, 3] [2, 3, 5, 10, 11, 12] 3
    (fun _ ι => ([(.pointer (adr a i)), (.int .u8 ((gB B i : Nat) : Int)), (.int .u8 ((gB B i : Nat) : Int))] : List Value).getD ι undef)
    (fun _ ι => ([{}, {}, {}] : List Eff).getD ι {})
    (fun _ ι => ([(fun _ => True), (fun _ => True), (fun _ => True)] : List (World → Prop)).getD ι (fun _ => True))
    (by as_aux_lemma => kernel_rfl) (by as_aux_lemma => kernel_rfl) (fun _ => by as_aux_lemma => kernel_rfl) (fun _ => by as_aux_lemma => kernel_rfl) (fun _ _ hF _ => ⟨hF.1, trivial⟩) ⟨⟨⟨trivial, ?_⟩, ?_⟩, ?_⟩
  · exact o_semF 0 (fun _ => do pure (Next.value (← Instr.indexAt 22 (.slice a (B).length c) (.int .i64 ((i : Nat) : Int))))) (fun _ => (.pointer (adr a i))) (fun _ => (by as_aux_lemma => kernel_rfl)) (fun _ => (by as_aux_lemma => kernel_rfl)) (fun _ _ _ hG => idx_bytes Try.underlying22 u8i hG.facts0.now.1 rfl ((show ((i : Nat) : Int) = ((i : Nat) : Int) ∧ i < (B).length from ⟨rfl, (by have := of_decide_eq_true hb1; have := h46; have := hi; have := hx_len hi hX; omega)⟩)).1 ((show ((i : Nat) : Int) = ((i : Nat) : Int) ∧ i < (B).length from ⟨rfl, (by have := of_decide_eq_true hb1; have := h46; have := hi; have := hx_len hi hX; omega)⟩)).2) (fun _ _ _ _ => persT)
  · exact o_semF 1 (fun _ => do pure (Next.value (← Instr.loadAt 5 (.pointer (adr a i))))) (fun _ => (.int .u8 ((gB B i : Nat) : Int))) (fun _ => (by as_aux_lemma => kernel_rfl)) (fun _ => (by as_aux_lemma => kernel_rfl)) (fun _ _ _ hG => ld_bytes Try.isAgg5 hG.facts0.now.1 ((show ((i : Nat) : Int) = ((i : Nat) : Int) ∧ i < (B).length from ⟨rfl, (by have := of_decide_eq_true hb1; have := h46; have := hi; have := hx_len hi hX; omega)⟩)).2) (fun _ _ _ _ => persT)
  · exact Obl.brings (o_run 2 [] [] (fun _ _ => []) (fun _ _ => by as_aux_lemma => kernel_rfl)) (fun _ _ => trivial)
theorem hex_any_r6 (a : Option Addr) (c : Nat) (B : List UInt8) (h46 : B.length ≤ 70368744175616) (i : Nat) (X : List UInt8) (C : Array Value) (hi : i ≤ B.length) (hX : X = hxS (B.take i)) (hs : C.size = 2 * B.length) (hb1 : (decide (((i : Nat) : Int) < (((B).length : Nat) : Int))) = true) (ρ2 : Nat → Orc) (w0 : World) : RegF Try.prog 5 (regOps Try.f44 5) true 28 [(2, (.string ⟨#[]⟩)), (3, (.slice (some ⟨nb ρ2 3, 0, none⟩) (X).length (2 * ((B).length)))), (5, (.int .u8 ((gB B i : Nat) : Int))), (10, (.slice a (B).length c)), (11, (.int .i64 (((B).length : Nat) : Int))), (12, (.int .i64 ((i : Nat) : Int)))] w0 [(nb ρ2 3, (.cells C 5 (0, 0)))] (fun w => Bs w a c B ∧ True)
    (fun _ => [(2, (.string ⟨#[]⟩)), (3, (.slice (some ⟨nb ρ2 3, 0, none⟩) (X ++ ([ob ((hexD (gB B i / 16) : Nat) : Int), ob ((hexD (gB B i % 16) : Nat) : Int)] : List UInt8)).length (2 * ((B).length)))), (10, (.slice a (B).length c)), (11, (.int .i64 (((B).length : Nat) : Int))), (12, (.int .i64 ((i : Nat) : Int)))])
    (fun ρ => [(nb ρ2 3, (.cells (inpl C (X).length (bs ([ob ((hexD (gB B i / 16) : Nat) : Int), ob ((hexD (gB B i % 16) : Nat) : Int)] : List UInt8))) 5 (0, 0))), (nb ρ 7, (.cells #[(.int .u8 ((hexD (gB B i / 16) : Nat) : Int)), (.int .u8 ((hexD (gB B i % 16) : Nat) : Int))] 5 (0, 0)))]) (fun _ => (fun w => Bs w a c B ∧ True)) := by
  refine reg_drawn_f [0, 0, 2, 6, 0, 16, 48, 126, 255, 511] [2, 3, 10, 11, 12] 10
    (fun ρ ι => ([(.slice (some ⟨nb ρ2 3, 0, none⟩) (X).length (2 * ((B).length))), (.int .u8 ((gB B i : Nat) : Int)), (.int .u8 ((gB B i / 16 : Nat) : Int)), (.int .u8 ((hexD (gB B i / 16) : Nat) : Int)), (.int .u8 ((gB B i : Nat) : Int)), (.int .u8 ((gB B i % 16 : Nat) : Int)), (.int .u8 ((hexD (gB B i % 16) : Nat) : Int)), (.slice (some ⟨nb ρ 7, 0, none⟩) (([ob ((hexD (gB B i / 16) : Nat) : Int), ob ((hexD (gB B i % 16) : Nat) : Int)] : List UInt8)).length 2), (.slice (some ⟨nb ρ2 3, 0, none⟩) (X ++ ([ob ((hexD (gB B i / 16) : Nat) : Int), ob ((hexD (gB B i % 16) : Nat) : Int)] : List UInt8)).length (2 * ((B).length))), (.slice (some ⟨nb ρ2 3, 0, none⟩) (X ++ ([ob ((hexD (gB B i / 16) : Nat) : Int), ob ((hexD (gB B i % 16) : Nat) : Int)] : List UInt8)).length (2 * ((B).length)))] : List Value).getD ι undef)
    (fun ρ ι => ([{}, {}, {}, {}, {}, {}, {}, { news := [(nb ρ 7, (.cells #[(.int .u8 ((hexD (gB B i / 16) : Nat) : Int)), (.int .u8 ((hexD (gB B i % 16) : Nat) : Int))] 5 (0, 0)))] }, { puts := [(0, (.cells (inpl C (X).length (bs ([ob ((hexD (gB B i / 16) : Nat) : Int), ob ((hexD (gB B i % 16) : Nat) : Int)] : List UInt8))) 5 (0, 0)))] }, {}] : List Eff).getD ι {})
    (fun _ ι => ([(fun _ => True), (fun _ => True), (fun _ => True), (fun _ => True), (fun _ => True), (fun _ => True), (fun _ => True), (fun _ => True), (fun _ => True), (fun _ => True)] : List (World → Prop)).getD ι (fun _ => True))
    (by as_aux_lemma => kernel_rfl) (by as_aux_lemma => kernel_rfl) (by as_aux_lemma => kernel_rfl) (fun _ => by as_aux_lemma => kernel_rfl) (fun _ => by as_aux_lemma => kernel_rfl) (fun _ _ hF _ => ⟨hF.1, trivial⟩) ⟨⟨⟨⟨⟨⟨⟨⟨⟨⟨trivial, ?_⟩, ?_⟩, ?_⟩, ?_⟩, ?_⟩, ?_⟩, ?_⟩, ?_⟩, ?_⟩, ?_⟩
  · exact Obl.brings (o_run 0 [] [] (fun _ _ => []) (fun _ _ => by as_aux_lemma => kernel_rfl)) (fun _ _ => trivial)
  · exact Obl.brings (o_run 1 [] [] (fun _ _ => []) (fun _ _ => by as_aux_lemma => kernel_rfl)) (fun _ _ => trivial)
  · exact Obl.brings (o_bin 2 .shr 5 (fun _ => (.int .u8 ((gB B i : Nat) : Int))) (fun _ => (.int .u64 4)) (fun _ => (.int .u8 ((gB B i / 16 : Nat) : Int))) (fun _ => by as_aux_lemma => kernel_rfl) (fun _ _ _ _ => by as_aux_lemma => kernel_rfl) (fun _ w => run_shrU (k := .u8) (x := gB B i) (c := 4) (gB_lt B i) w)) (fun _ _ => trivial)
  · exact Obl.brings (o_sem 3 (fun _ => do pure (Next.value (← Instr.index 9 (.string (strB ([48, 49, 50, 51, 52, 53, 54, 55, 56, 57, 97, 98, 99, 100, 101, 102] : List UInt8))) (.int .u8 ((gB B i / 16 : Nat) : Int))))) (fun _ => (.int .u8 ((hexD (gB B i / 16) : Nat) : Int))) (fun _ => (by as_aux_lemma => kernel_rfl)) (fun _ => (by as_aux_lemma => kernel_rfl)) (fun _ w => (idx_str (S := ([48, 49, 50, 51, 52, 53, 54, 55, 56, 57, 97, 98, 99, 100, 101, 102] : List UInt8)) Try.underlying9 ((show ((gB B i / 16 : Nat) : Int) = (((gB B i / 16) : Nat) : Int) ∧ (gB B i / 16) < (([48, 49, 50, 51, 52, 53, 54, 55, 56, 57, 97, 98, 99, 100, 101, 102] : List UInt8)).length from ⟨rfl, (by have := gB_lt B i; show gB B i / 16 < 16; omega)⟩)).1 ((show ((gB B i / 16 : Nat) : Int) = (((gB B i / 16) : Nat) : Int) ∧ (gB B i / 16) < (([48, 49, 50, 51, 52, 53, 54, 55, 56, 57, 97, 98, 99, 100, 101, 102] : List UInt8)).length from ⟨rfl, (by have := gB_lt B i; show gB B i / 16 < 16; omega)⟩)).2 w).trans (by rw [gB_dig (show gB B i / 16 < 16 by have := gB_lt B i; omega)]))) (fun _ _ => trivial)
  · exact Obl.brings (o_run 4 [] [] (fun _ _ => []) (fun _ _ => by as_aux_lemma => kernel_rfl)) (fun _ _ => trivial)
  · exact Obl.brings (o_as 5 (fun _ => (.int .u8 (bits .and .u8 ((gB B i : Nat) : Int) 15))) (fun _ => (.int .u8 ((gB B i % 16 : Nat) : Int))) (fun _ _ => by as_aux_lemma => kernel_rfl) (fun _ => congrArg (Value.int .u8) (and15 (gB_lt B i)))) (fun _ _ => trivial)
  · exact Obl.brings (o_sem 6 (fun _ => do pure (Next.value (← Instr.index 9 (.string (strB ([48, 49, 50, 51, 52, 53, 54, 55, 56, 57, 97, 98, 99, 100, 101, 102] : List UInt8))) (.int .u8 ((gB B i % 16 : Nat) : Int))))) (fun _ => (.int .u8 ((hexD (gB B i % 16) : Nat) : Int))) (fun _ => (by as_aux_lemma => kernel_rfl)) (fun _ => (by as_aux_lemma => kernel_rfl)) (fun _ w => (idx_str (S := ([48, 49, 50, 51, 52, 53, 54, 55, 56, 57, 97, 98, 99, 100, 101, 102] : List UInt8)) Try.underlying9 ((show ((gB B i % 16 : Nat) : Int) = (((gB B i % 16) : Nat) : Int) ∧ (gB B i % 16) < (([48, 49, 50, 51, 52, 53, 54, 55, 56, 57, 97, 98, 99, 100, 101, 102] : List UInt8)).length from ⟨rfl, (by have := gB_lt B i; show gB B i % 16 < 16; omega)⟩)).1 ((show ((gB B i % 16 : Nat) : Int) = (((gB B i % 16) : Nat) : Int) ∧ (gB B i % 16) < (([48, 49, 50, 51, 52, 53, 54, 55, 56, 57, 97, 98, 99, 100, 101, 102] : List UInt8)).length from ⟨rfl, (by have := gB_lt B i; show gB B i % 16 < 16; omega)⟩)).2 w).trans (by rw [gB_dig (show gB B i % 16 < 16 by have := gB_lt B i; omega)]))) (fun _ _ => trivial)
  · exact Obl.brings (o_run 7 [] [] (fun _ _ => []) (fun _ _ => by as_aux_lemma => kernel_rfl)) (fun _ _ => trivial)
  · exact o_put1 8 0 (fun ρ => do pure (Next.value (← Builtin.append_ #[22, 22] 22 #[(.slice (some ⟨nb ρ2 3, 0, none⟩) (X).length (2 * ((B).length))), (.slice (some ⟨nb ρ 7, 0, none⟩) (([ob ((hexD (gB B i / 16) : Nat) : Int), ob ((hexD (gB B i % 16) : Nat) : Int)] : List UInt8)).length 2)]))) (fun _ => nb ρ2 3) (fun _ => (.cells C 5 (0, 0))) (fun _ => (.cells (inpl C (X).length (bs ([ob ((hexD (gB B i / 16) : Nat) : Int), ob ((hexD (gB B i % 16) : Nat) : Int)] : List UInt8))) 5 (0, 0))) (fun _ => (.slice (some ⟨nb ρ2 3, 0, none⟩) (X ++ ([ob ((hexD (gB B i / 16) : Nat) : Int), ob ((hexD (gB B i % 16) : Nat) : Int)] : List UInt8)).length (2 * ((B).length)))) (fun _ => (by as_aux_lemma => kernel_rfl)) (fun _ => (by as_aux_lemma => kernel_rfl)) (fun _ => (by as_aux_lemma => kernel_rfl)) (fun _ => (by as_aux_lemma => kernel_rfl)) (fun _ _ => trivial) (fun ρ _ _ hG hg => app_roomL Try.underlying22 u8i hg (Bs.src (tx := 22) Try.underlying22 (Bs.of_hd (hG.known (g := nb ρ 7) (o := (.cells #[(.int .u8 ((hexD (gB B i / 16) : Nat) : Int)), (.int .u8 ((hexD (gB B i % 16) : Nat) : Int))] 5 (0, 0))) 57 (by as_aux_lemma => kernel_rfl) (by as_aux_lemma => kernel_rfl)) (hd2 (hexD_rng (by have := gB_lt B i; omega)) (hexD_rng (by have := gB_lt B i; omega))) (Nat.le_refl 2) (Nat.le_of_ble_eq_true rfl))) hs ((by simp only [List.length_cons, List.length_nil]; have := of_decide_eq_true hb1; have := h46; have := hi; have := hx_len hi hX; omega)))
  · exact Obl.brings (o_run 9 [] [] (fun _ _ => []) (fun _ _ => by as_aux_lemma => kernel_rfl)) (fun _ _ => trivial)
theorem hex_any_r7 (a : Option Addr) (c : Nat) (B : List UInt8) (h46 : B.length ≤ 70368744175616) (i : Nat) (X : List UInt8) (C : Array Value) (hi : i ≤ B.length) (hX : X = hxS (B.take i)) (hb1 : (decide (((i : Nat) : Int) < (((B).length : Nat) : Int))) = true) (ρ2 : Nat → Orc) (ρ6 : Nat → Orc) (w0 : World) (F : World → Prop) : Reg Try.prog 6 (regOps Try.f44 6) false 28 [(2, (.string ⟨#[]⟩)), (3, (.slice (some ⟨nb ρ2 3, 0, none⟩) (X ++ ([ob ((hexD (gB B i / 16) : Nat) : Int), ob ((hexD (gB B i % 16) : Nat) : Int)] : List UInt8)).length (2 * ((B).length)))), (10, (.slice a (B).length c)), (11, (.int .i64 (((B).length : Nat) : Int))), (12, (.int .i64 ((i : Nat) : Int)))] w0 [(nb ρ2 3, (.cells (inpl C (X).length (bs ([ob ((hexD (gB B i / 16) : Nat) : Int), ob ((hexD (gB B i % 16) : Nat) : Int)] : List UInt8))) 5 (0, 0))), (nb ρ6 7, (.cells #[(.int .u8 ((hexD (gB B i / 16) : Nat) : Int)), (.int .u8 ((hexD (gB B i % 16) : Nat) : Int))] 5 (0, 0)))] F
    (fun _ => [(2, (.string ⟨#[]⟩)), (3, (.slice (some ⟨nb ρ2 3, 0, none⟩) (X ++ ([ob ((hexD (gB B i / 16) : Nat) : Int), ob ((hexD (gB B i % 16) : Nat) : Int)] : List UInt8)).length (2 * ((B).length)))), (10, (.slice a (B).length c)), (11, (.int .i64 (((B).length : Nat) : Int))), (12, (.int .i64 ((i + 1 : Nat) : Int)))])
    (fun _ => [(nb ρ2 3, (.cells (inpl C (X).length (bs ([ob ((hexD (gB B i / 16) : Nat) : Int), ob ((hexD (gB B i % 16) : Nat) : Int)] : List UInt8))) 5 (0, 0))), (nb ρ6 7, (.cells #[(.int .u8 ((hexD (gB B i / 16) : Nat) : Int)), (.int .u8 ((hexD (gB B i % 16) : Nat) : Int))] 5 (0, 0)))]) := by
  refine reg_seq [0, 1] [2, 3, 10, 11, 12] 2
    (fun _ ι => ([(.int .i64 ((i + 1 : Nat) : Int)), (.int .i64 ((i + 1 : Nat) : Int))] : List Value).getD ι undef)
    (fun _ ι => ([{}, {}] : List Eff).getD ι {})
    (by as_aux_lemma => kernel_rfl) (by as_aux_lemma => kernel_rfl) (fun _ => by as_aux_lemma => kernel_rfl) (fun _ => by as_aux_lemma => kernel_rfl) ⟨⟨trivial, ?_⟩, ?_⟩
  · exact o_as 0 (fun _ => (.int .i64 (IntKind.i64.wrap (((i : Nat) : Int) + 1)))) (fun _ => (.int .i64 ((i + 1 : Nat) : Int))) (fun _ _ => by as_aux_lemma => kernel_rfl) (fun _ => congrArg (Value.int .i64) (wrap_addN i 1 (by have := of_decide_eq_true hb1; have := h46; have := hi; have := hx_len hi hX; omega)))
  · exact o_run 1 [] [] (fun _ _ => []) (fun _ _ => by as_aux_lemma => kernel_rfl)
theorem hex_any_r8 (a : Option Addr) (c : Nat) (B : List UInt8) (h46 : B.length ≤ 70368744175616) (i : Nat) (X : List UInt8) (C : Array Value) (hi : i ≤ B.length) (hX : X = hxS (B.take i)) (hC : Hd C X) (ρ2 : Nat → Orc) (w0 : World) : RegF Try.prog 7 (regOps Try.f44 7) false 28 [(2, (.string ⟨#[]⟩)), (3, (.slice (some ⟨nb ρ2 3, 0, none⟩) (X).length (2 * ((B).length)))), (10, (.slice a (B).length c)), (11, (.int .i64 (((B).length : Nat) : Int))), (12, (.int .i64 ((i : Nat) : Int))), (13, (.bool false))] w0 [(nb ρ2 3, (.cells C 5 (0, 0)))] (fun w => Bs w a c B ∧ True)
    (fun _ => [(2, (.string (strB X)))])
    (fun _ => [(nb ρ2 3, (.cells C 5 (0, 0)))]) (fun _ => (fun w => Bs w a c B ∧ True)) := by
  refine reg_seq_f [0, 1, 3] [2] 3
    (fun _ ι => ([(.slice (some ⟨nb ρ2 3, 0, none⟩) (X).length (2 * ((B).length))), (.string (strB X)), (.string (strB X))] : List Value).getD ι undef)
    (fun _ ι => ([{}, {}, {}] : List Eff).getD ι {})
    (fun _ ι => ([(fun _ => True), (fun _ => True), (fun _ => True)] : List (World → Prop)).getD ι (fun _ => True))
    (by as_aux_lemma => kernel_rfl) (by as_aux_lemma => kernel_rfl) (fun _ => by as_aux_lemma => kernel_rfl) (fun _ => by as_aux_lemma => kernel_rfl) (fun _ _ hF _ => ⟨hF.1, trivial⟩) ⟨⟨⟨trivial, ?_⟩, ?_⟩, ?_⟩
  · exact Obl.brings (o_run 0 [] [] (fun _ _ => []) (fun _ _ => by as_aux_lemma => kernel_rfl)) (fun _ _ => trivial)
  · exact o_semF 1 (fun _ => do pure (Next.value (← convert 22 9 (.slice (some ⟨nb ρ2 3, 0, none⟩) (X).length (2 * ((B).length)))))) (fun _ => (.string (strB X))) (fun _ => (by as_aux_lemma => kernel_rfl)) (fun _ => (by as_aux_lemma => kernel_rfl)) (fun _ _ _ hG => str_bytes (xs := X) Try.underlying22 Try.underlying5 Try.underlying9 (Bs.of_hd (hG.known (g := nb ρ2 3) (o := (.cells C 5 (0, 0))) 0 (by as_aux_lemma => kernel_rfl) (by as_aux_lemma => kernel_rfl)) hC (by have := h46; have := hi; have := hx_len hi hX; omega) (by have := h46; have := hi; have := hx_len hi hX; omega)) rfl) (fun _ _ _ _ => persT)
  · exact Obl.brings (o_run 2 [] [] (fun _ _ => []) (fun _ _ => by as_aux_lemma => kernel_rfl)) (fun _ _ => trivial)
theorem hex_any (a : Option Addr) (c : Nat) (B : List UInt8) (h46 : B.length ≤ 70368744175616) (w0 : World) (hf0 : Bs w0 a c B) : Calls Try.prog 44 #[(.slice a (B).length c)] w0 (fun ε w' => ε = .returned (.string (strB (hxS B))) ∧ Below w0.heap.size w0 w') := by
  refine Calls.of_ok (n := 28) (F := (fun w => Bs w a c B ∧ True)) Try.func44 rfl rfl rfl (by simp) (hf0.pers0.and persT) ?_
  refine ok_seq_r (by as_aux_lemma => kernel_rfl) (hex_any_r1 a c B _ _) (fun _ => ?_)
  refine ok_seq_rf (by as_aux_lemma => kernel_rfl) (hex_any_r2 a c B h46 _) (fun ρ2 => ?_)
  refine ok_seq ?_
  refine ok_seq_r (by as_aux_lemma => kernel_rfl) (hex_any_r3 a c B ρ2 _ _) (fun _ => ?_)
  refine ok_block ?_
  refine ok_loop (σ := Nat × (List UInt8) × (Array Value)) (fun ⟨i, X, _⟩ => [(2, (.string ⟨#[]⟩)), (3, (.slice (some ⟨nb ρ2 3, 0, none⟩) (X).length (2 * ((B).length)))), (10, (.slice a (B).length c)), (11, (.int .i64 (((B).length : Nat) : Int))), (12, (.int .i64 ((i : Nat) : Int)))]) (fun ⟨_, _, C⟩ => [(nb ρ2 3, (.cells C 5 (0, 0)))]) (fun ⟨i, _, _⟩ => B.length - i)
    (fun ⟨i, X, C⟩ => (i ≤ B.length) ∧ (X = hxS (B.take i)) ∧ (Hd C X) ∧ (C.size = 2 * B.length)) (0, ([] : List UInt8), zB (2 * ((B).length))) (⟨Nat.zero_le _, rfl, Hd.nil _, zB_size _⟩) (by as_aux_lemma => kernel_rfl) (.cons_cons _ .slnil) ?_
  rintro ⟨i, X, C⟩ ⟨hi, hX, hC, hs⟩
  change Ok Try.prog _ _ 28 [(2, (.string ⟨#[]⟩)), (3, (.slice (some ⟨nb ρ2 3, 0, none⟩) (X).length (2 * ((B).length)))), (10, (.slice a (B).length c)), (11, (.int .i64 (((B).length : Nat) : Int))), (12, (.int .i64 ((i : Nat) : Int)))] _ [(nb ρ2 3, (.cells C 5 (0, 0)))] (fun w => Bs w a c B ∧ True)
  refine ok_seq_r (by as_aux_lemma => kernel_rfl) (hex_any_r4 a c B i X C ρ2 _ _) (fun _ => ?_)
  refine ok_seq ?_
  refine ok_cond (b := decide (((i : Nat) : Int) < (((B).length : Nat) : Int))) (by as_aux_lemma => kernel_rfl) (fun hb1 => ?_) (fun hb1 => ?_)
  ·
    rw [hb1]
    refine ok_skip ?_
    refine mt_then ?_
    refine ok_seq ?_
    refine ok_block ?_
    refine ok_seq_rf (by as_aux_lemma => kernel_rfl) (hex_any_r5 a c B h46 i X C hi hX hb1 ρ2 _) (fun _ => ?_)
    refine ok_rf (by as_aux_lemma => kernel_rfl) (hex_any_r6 a c B h46 i X C hi hX hs hb1 ρ2 _) (fun ρ6 => ?_)
    refine mt_block_n ?_
    refine mt_then ?_
    refine ok_r (by as_aux_lemma => kernel_rfl) (hex_any_r7 a c B h46 i X C hi hX hb1 ρ2 ρ6 _ _) (fun _ => ?_)
    exact mt_round (i + 1, X ++ ([ob ((hexD (gB B i / 16) : Nat) : Int), ob ((hexD (gB B i % 16) : Nat) : Int)] : List UInt8), inpl C (X).length (bs ([ob ((hexD (gB B i / 16) : Nat) : Int), ob ((hexD (gB B i % 16) : Nat) : Int)] : List UInt8))) (by show B.length - (i + 1) < B.length - i; have := of_decide_eq_true hb1; have := h46; have := hi; have := hx_len hi hX; omega) (⟨(by have := of_decide_eq_true hb1; have := h46; have := hi; have := hx_len hi hX; omega), hx_next (by have := of_decide_eq_true hb1; have := h46; have := hi; have := hx_len hi hX; omega) hX, (Hd.inpl hC rfl), ((inpl_size _ _ _ (room_le hs ((by simp only [List.length_cons, List.length_nil]; have := of_decide_eq_true hb1; have := h46; have := hi; have := hx_len hi hX; omega)))).trans hs)⟩) (by as_aux_lemma => kernel_rfl) (.cons_cons _ (.cons _ .slnil))
  ·
    rw [hb1]
    refine ok_exit ?_
    refine mt_then_e ?_
    refine mt_then_e ?_
    refine mt_block_h ?_
    refine mt_then ?_
    refine ok_seq_rf (by as_aux_lemma => kernel_rfl) (hex_any_r8 a c B h46 i X C hi hX hC ρ2 _) (fun _ => ?_)
    refine ok_ret ?_
    exact meets_ret (v := (.string (strB X))) [] (dup []) (by as_aux_lemma => kernel_rfl) (by as_aux_lemma => kernel_rfl) (eqs_dup _) (fun _ hS => ⟨congrArg (fun x => Ending.returned (.string (strB x))) (hx_end (by have := of_decide_eq_false hb1; have := h46; have := hi; have := hx_len hi hX; omega) hX), hS.below⟩)
theorem rhex_any_r1 (a : Option Addr) (c : Nat) (B : List UInt8) (w0 : World) (F : World → Prop) : Reg Try.prog 0 (regOps Try.f45 0) false 24 [(0, (.slice a (B).length c))] w0 [] F
    (fun _ => [(0, (.slice a (B).length c)), (2, (.string ⟨#[]⟩))])
    (fun _ => []) := by
  refine reg_seq [0] [0, 2] 1
    (fun _ ι => ([(.string ⟨#[]⟩)] : List Value).getD ι undef)
    (fun _ ι => ([{}] : List Eff).getD ι {})
    (by as_aux_lemma => kernel_rfl) (by as_aux_lemma => kernel_rfl) (fun _ => by as_aux_lemma => kernel_rfl) (fun _ => by as_aux_lemma => kernel_rfl) ⟨trivial, ?_⟩
  · exact o_run 0 [] [] (fun _ _ => []) (fun _ _ => by as_aux_lemma => kernel_rfl)
theorem rhex_any_r2 (a : Option Addr) (c : Nat) (B : List UInt8) (w0 : World) (F : World → Prop) : Reg Try.prog 1 (regOps Try.f45 1) false 24 [(0, (.slice a (B).length c)), (2, (.string ⟨#[]⟩))] w0 [] F
    (fun _ => [(0, (.slice a (B).length c)), (2, (.string ⟨#[]⟩)), (3, (.slice none 0 0))])
    (fun _ => []) := by
  refine reg_seq [0] [0, 2, 3] 1
    (fun _ ι => ([(.slice none 0 0)] : List Value).getD ι undef)
    (fun _ ι => ([{}] : List Eff).getD ι {})
    (by as_aux_lemma => kernel_rfl) (by as_aux_lemma => kernel_rfl) (fun _ => by as_aux_lemma => kernel_rfl) (fun _ => by as_aux_lemma => kernel_rfl) ⟨trivial, ?_⟩
  · exact o_run 0 [] [] (fun _ _ => []) (fun _ _ => by as_aux_lemma => kernel_rfl)
theorem rhex_any_r3 (a : Option Addr) (c : Nat) (B : List UInt8) (w0 : World) (F : World → Prop) : Reg Try.prog 2 (regOps Try.f45 2) false 24 [(0, (.slice a (B).length c)), (2, (.string ⟨#[]⟩)), (3, (.slice none 0 0))] w0 [] F
    (fun _ => [(2, (.string ⟨#[]⟩)), (3, (.slice none 0 0)), (6, (.slice a (B).length c)), (7, (.int .i64 (((B).length : Nat) : Int))), (8, (.int .i64 0))])
    (fun _ => []) := by
  refine reg_seq [0, 1, 3] [2, 3, 6, 7, 8] 3
    (fun _ ι => ([(.slice a (B).length c), (.int .i64 (((B).length : Nat) : Int)), (.int .i64 0)] : List Value).getD ι undef)
    (fun _ ι => ([{}, {}, {}] : List Eff).getD ι {})
    (by as_aux_lemma => kernel_rfl) (by as_aux_lemma => kernel_rfl) (fun _ => by as_aux_lemma => kernel_rfl) (fun _ => by as_aux_lemma => kernel_rfl) ⟨⟨⟨trivial, ?_⟩, ?_⟩, ?_⟩
  · exact o_run 0 [] [] (fun _ _ => []) (fun _ _ => by as_aux_lemma => kernel_rfl)
  · exact o_run 1 [] [] (fun _ _ => []) (fun _ _ => by as_aux_lemma => kernel_rfl)
  · exact o_run 2 [] [] (fun _ _ => []) (fun _ _ => by as_aux_lemma => kernel_rfl)
theorem rhex_any_r4 (a : Option Addr) (c : Nat) (B : List UInt8) (i : Nat) (w0 : World) (F : World → Prop) : Reg Try.prog 3 (regOps Try.f45 3) false 24 [(2, (.string ⟨#[]⟩)), (3, (.slice none 0 0)), (6, (.slice a (B).length c)), (7, (.int .i64 (((B).length : Nat) : Int))), (8, (.int .i64 ((i : Nat) : Int)))] w0 [] F
    (fun _ => [(2, (.string ⟨#[]⟩)), (3, (.slice none 0 0)), (6, (.slice a (B).length c)), (7, (.int .i64 (((B).length : Nat) : Int))), (8, (.int .i64 ((i : Nat) : Int))), (9, (.bool (decide (((i : Nat) : Int) < (((B).length : Nat) : Int)))))])
    (fun _ => []) := by
  refine reg_seq [0] [2, 3, 6, 7, 8, 9] 1
    (fun _ ι => ([(.bool (decide (((i : Nat) : Int) < (((B).length : Nat) : Int))))] : List Value).getD ι undef)
    (fun _ ι => ([{}] : List Eff).getD ι {})
    (by as_aux_lemma => kernel_rfl) (by as_aux_lemma => kernel_rfl) (fun _ => by as_aux_lemma => kernel_rfl) (fun _ => by as_aux_lemma => kernel_rfl) ⟨trivial, ?_⟩
  · exact o_run 0 [] [] (fun _ _ => []) (fun _ _ => by as_aux_lemma => kernel_rfl)
theorem rhex_any_r5 (a : Option Addr) (c : Nat) (B : List UInt8) (h46 : B.length ≤ 70368744175616) (i : Nat) (hi : i ≤ B.length) (hb1 : (decide (((i : Nat) : Int) < (((B).length : Nat) : Int))) = true) (w0 : World) : RegF Try.prog 4 (regOps Try.f45 4) false 24 [(2, (.string ⟨#[]⟩)), (3, (.slice none 0 0)), (6, (.slice a (B).length c)), (7, (.int .i64 (((B).length : Nat) : Int))), (8, (.int .i64 ((i : Nat) : Int))), (9, (.bool true))] w0 [] (fun w => Bs w a c B ∧ True)
    (fun _ => [(2, (.string ⟨#[]⟩)), (3, (.slice none 0 0)), (5, (.int .u8 ((gB B i : Nat) : Int))), (6, (.slice a (B).length c)), (7, (.int .i64 (((B).length : Nat) : Int))), (8, (.int .i64 ((i : Nat) : Int)))])
    (fun _ => []) (fun _ => (fun w => Bs w a c B ∧ True)) := by
  refine reg_seq_f [0, 1, 3] [2, 3, 5, 6, 7, 8] 3
    (fun _ ι => ([(.pointer (adr a i)), (.int .u8 ((gB B i : Nat) : Int)), (.int .u8 ((gB B i : Nat) : Int))] : List Value).getD ι undef)
    (fun _ ι => ([{}, {}, {}] : List Eff).getD ι {})
    (fun _ ι => ([(fun _ => True), (fun _ => True), (fun _ => True)] : List (World → Prop)).getD ι (fun _ => True))
    (by as_aux_lemma => kernel_rfl) (by as_aux_lemma => kernel_rfl) (fun _ => by as_aux_lemma => kernel_rfl) (fun _ => by as_aux_lemma => kernel_rfl) (fun _ _ hF _ => ⟨hF.1, trivial⟩) ⟨⟨⟨trivial, ?_⟩, ?_⟩, ?_⟩
  · exact o_semF 0 (fun _ => do pure (Next.value (← Instr.indexAt 22 (.slice a (B).length c) (.int .i64 ((i : Nat) : Int))))) (fun _ => (.pointer (adr a i))) (fun _ => (by as_aux_lemma => kernel_rfl)) (fun _ => (by as_aux_lemma => kernel_rfl)) (fun _ _ _ hG => idx_bytes Try.underlying22 u8i hG.facts0.now.1 rfl ((show ((i : Nat) : Int) = ((i : Nat) : Int) ∧ i < (B).length from ⟨rfl, (by have := of_decide_eq_true hb1; have := h46; have := hi; omega)⟩)).1 ((show ((i : Nat) : Int) = ((i : Nat) : Int) ∧ i < (B).length from ⟨rfl, (by have := of_decide_eq_true hb1; have := h46; have := hi; omega)⟩)).2) (fun _ _ _ _ => persT)
  · exact o_semF 1 (fun _ => do pure (Next.value (← Instr.loadAt 5 (.pointer (adr a i))))) (fun _ => (.int .u8 ((gB B i : Nat) : Int))) (fun _ => (by as_aux_lemma => kernel_rfl)) (fun _ => (by as_aux_lemma => kernel_rfl)) (fun _ _ _ hG => ld_bytes Try.isAgg5 hG.facts0.now.1 ((show ((i : Nat) : Int) = ((i : Nat) : Int) ∧ i < (B).length from ⟨rfl, (by have := of_decide_eq_true hb1; have := h46; have := hi; omega)⟩)).2) (fun _ _ _ _ => persT)
  · exact Obl.brings (o_run 2 [] [] (fun _ _ => []) (fun _ _ => by as_aux_lemma => kernel_rfl)) (fun _ _ => trivial)
theorem rhex_any_r6 (a : Option Addr) (c : Nat) (B : List UInt8) (h46 : B.length ≤ 70368744175616) (i : Nat) (hi : i ≤ B.length) (hb1 : (decide (((i : Nat) : Int) < (((B).length : Nat) : Int))) = true) (w0 : World) : RegF Try.prog 5 (regOps Try.f45 5) false 24 [(2, (.string ⟨#[]⟩)), (3, (.slice none 0 0)), (5, (.int .u8 ((gB B i : Nat) : Int))), (6, (.slice a (B).length c)), (7, (.int .i64 (((B).length : Nat) : Int))), (8, (.int .i64 ((i : Nat) : Int)))] w0 [] (fun w => Bs w a c B ∧ True)
    (fun ρ => [(2, (.string ⟨#[]⟩)), (3, (.slice (some ⟨nb ρ 8, 0, none⟩) (([ob ((hexD (gB B i / 16) : Nat) : Int), ob ((hexD (gB B i % 16) : Nat) : Int)] : List UInt8)).length ((([ob ((hexD (gB B i / 16) : Nat) : Int), ob ((hexD (gB B i % 16) : Nat) : Int)] : List UInt8)).length + nb2 ρ 8))), (6, (.slice a (B).length c)), (7, (.int .i64 (((B).length : Nat) : Int))), (8, (.int .i64 ((i : Nat) : Int)))])
    (fun ρ => [(nb ρ 7, (.cells #[(.int .u8 ((hexD (gB B i / 16) : Nat) : Int)), (.int .u8 ((hexD (gB B i % 16) : Nat) : Int))] 5 (0, 0))), (nb ρ 8, (.cells ((bs ([ob ((hexD (gB B i / 16) : Nat) : Int), ob ((hexD (gB B i % 16) : Nat) : Int)] : List UInt8)).toArray ++ zB (nb2 ρ 8)) 5 (0, 0)))]) (fun _ => (fun w => Bs w a c B ∧ True)) := by
  refine reg_seq_f [0, 1, 3, 7, 15, 31, 63, 127, 255, 511] [2, 3, 6, 7, 8] 10
    (fun ρ ι => ([(.slice none 0 0), (.int .u8 ((gB B i : Nat) : Int)), (.int .u8 ((gB B i / 16 : Nat) : Int)), (.int .u8 ((hexD (gB B i / 16) : Nat) : Int)), (.int .u8 ((gB B i : Nat) : Int)), (.int .u8 ((gB B i % 16 : Nat) : Int)), (.int .u8 ((hexD (gB B i % 16) : Nat) : Int)), (.slice (some ⟨nb ρ 7, 0, none⟩) (([ob ((hexD (gB B i / 16) : Nat) : Int), ob ((hexD (gB B i % 16) : Nat) : Int)] : List UInt8)).length 2), (.slice (some ⟨nb ρ 8, 0, none⟩) (([ob ((hexD (gB B i / 16) : Nat) : Int), ob ((hexD (gB B i % 16) : Nat) : Int)] : List UInt8)).length ((([ob ((hexD (gB B i / 16) : Nat) : Int), ob ((hexD (gB B i % 16) : Nat) : Int)] : List UInt8)).length + nb2 ρ 8)), (.slice (some ⟨nb ρ 8, 0, none⟩) (([ob ((hexD (gB B i / 16) : Nat) : Int), ob ((hexD (gB B i % 16) : Nat) : Int)] : List UInt8)).length ((([ob ((hexD (gB B i / 16) : Nat) : Int), ob ((hexD (gB B i % 16) : Nat) : Int)] : List UInt8)).length + nb2 ρ 8))] : List Value).getD ι undef)
    (fun ρ ι => ([{}, {}, {}, {}, {}, {}, {}, { news := [(nb ρ 7, (.cells #[(.int .u8 ((hexD (gB B i / 16) : Nat) : Int)), (.int .u8 ((hexD (gB B i % 16) : Nat) : Int))] 5 (0, 0)))] }, { news := [(nb ρ 8, (.cells ((bs ([ob ((hexD (gB B i / 16) : Nat) : Int), ob ((hexD (gB B i % 16) : Nat) : Int)] : List UInt8)).toArray ++ zB (nb2 ρ 8)) 5 (0, 0)))] }, {}] : List Eff).getD ι {})
    (fun _ ι => ([(fun _ => True), (fun _ => True), (fun _ => True), (fun _ => True), (fun _ => True), (fun _ => True), (fun _ => True), (fun _ => True), (fun _ => True), (fun _ => True)] : List (World → Prop)).getD ι (fun _ => True))
    (by as_aux_lemma => kernel_rfl) (by as_aux_lemma => kernel_rfl) (fun _ => by as_aux_lemma => kernel_rfl) (fun _ => by as_aux_lemma => kernel_rfl) (fun _ _ hF _ => ⟨hF.1, trivial⟩) ⟨⟨⟨⟨⟨⟨⟨⟨⟨⟨trivial, ?_⟩, ?_⟩, ?_⟩, ?_⟩, ?_⟩, ?_⟩, ?_⟩, ?_⟩, ?_⟩, ?_⟩
  · exact Obl.brings (o_run 0 [] [] (fun _ _ => []) (fun _ _ => by as_aux_lemma => kernel_rfl)) (fun _ _ => trivial)
  · exact Obl.brings (o_run 1 [] [] (fun _ _ => []) (fun _ _ => by as_aux_lemma => kernel_rfl)) (fun _ _ => trivial)
  · exact Obl.brings (o_bin 2 .quo 5 (fun _ => (.int .u8 ((gB B i : Nat) : Int))) (fun _ => (.int .u8 16)) (fun _ => (.int .u8 ((gB B i / 16 : Nat) : Int))) (fun _ => by as_aux_lemma => kernel_rfl) (fun _ _ _ _ => by as_aux_lemma => kernel_rfl) (fun _ w => run_quoU (k := .u8) (n := gB B i) (d := 16) rfl (by decide) (gB_lt B i) w)) (fun _ _ => trivial)
  · exact Obl.brings (o_call 3 58 (fun _ => #[(.int .u8 ((gB B i / 16 : Nat) : Int))]) (fun _ => (.int .u8 ((hexD (gB B i / 16) : Nat) : Int))) (fun _ _ => by as_aux_lemma => kernel_rfl) (fun _ w => (fun w => rdigit_any (gB B i / 16) (by have := of_decide_eq_true hb1; have := h46; have := hi; have := gB_lt B i; omega) w) w)) (fun _ _ => trivial)
  · exact Obl.brings (o_run 4 [] [] (fun _ _ => []) (fun _ _ => by as_aux_lemma => kernel_rfl)) (fun _ _ => trivial)
  · exact Obl.brings (o_bin 5 .rem 5 (fun _ => (.int .u8 ((gB B i : Nat) : Int))) (fun _ => (.int .u8 16)) (fun _ => (.int .u8 ((gB B i % 16 : Nat) : Int))) (fun _ => by as_aux_lemma => kernel_rfl) (fun _ _ _ _ => by as_aux_lemma => kernel_rfl) (fun _ w => run_remU (k := .u8) (n := gB B i) (d := 16) (by decide) w)) (fun _ _ => trivial)
  · exact Obl.brings (o_call 6 58 (fun _ => #[(.int .u8 ((gB B i % 16 : Nat) : Int))]) (fun _ => (.int .u8 ((hexD (gB B i % 16) : Nat) : Int))) (fun _ _ => by as_aux_lemma => kernel_rfl) (fun _ w => (fun w => rdigit_any (gB B i % 16) (by have := of_decide_eq_true hb1; have := h46; have := hi; have := gB_lt B i; omega) w) w)) (fun _ _ => trivial)
  · exact Obl.brings (o_run 7 [] [] (fun _ _ => []) (fun _ _ => by as_aux_lemma => kernel_rfl)) (fun _ _ => trivial)
  · exact o_new1 8 (fun ρ => do pure (Next.value (← Builtin.append_ #[22, 22] 22 #[(.slice none 0 0), (.slice (some ⟨nb ρ 7, 0, none⟩) (([ob ((hexD (gB B i / 16) : Nat) : Int), ob ((hexD (gB B i % 16) : Nat) : Int)] : List UInt8)).length 2)]))) (fun _ z => (.slice (some ⟨z.headD 0, 0, none⟩) (([ob ((hexD (gB B i / 16) : Nat) : Int), ob ((hexD (gB B i % 16) : Nat) : Int)] : List UInt8)).length ((([ob ((hexD (gB B i / 16) : Nat) : Int), ob ((hexD (gB B i % 16) : Nat) : Int)] : List UInt8)).length + z.tail.headD 0))) (fun _ z => (.cells ((bs ([ob ((hexD (gB B i / 16) : Nat) : Int), ob ((hexD (gB B i % 16) : Nat) : Int)] : List UInt8)).toArray ++ zB (z.tail.headD 0)) 5 (0, 0))) (fun _ _ => (by as_aux_lemma => kernel_rfl)) (fun _ => (by as_aux_lemma => kernel_rfl)) (fun _ _ => trivial) (fun ρ _ _ hG => app_nilL Try.underlying22 u8i (Bs.src (tx := 22) Try.underlying22 (Bs.of_hd (hG.known (g := nb ρ 7) (o := (.cells #[(.int .u8 ((hexD (gB B i / 16) : Nat) : Int)), (.int .u8 ((hexD (gB B i % 16) : Nat) : Int))] 5 (0, 0))) 56 (by as_aux_lemma => kernel_rfl) (by as_aux_lemma => kernel_rfl)) (hd2 (hexD_rng (by have := gB_lt B i; omega)) (hexD_rng (by have := gB_lt B i; omega))) (Nat.le_refl 2) (Nat.le_of_ble_eq_true rfl))) ((Nat.zero_lt_succ _)) ((Nat.le_of_ble_eq_true rfl)))
  · exact Obl.brings (o_run 9 [] [] (fun _ _ => []) (fun _ _ => by as_aux_lemma => kernel_rfl)) (fun _ _ => trivial)
theorem rhex_any_r7 (a : Option Addr) (c : Nat) (B : List UInt8) (h46 : B.length ≤ 70368744175616) (i : Nat) (hi : i ≤ B.length) (hb1 : (decide (((i : Nat) : Int) < (((B).length : Nat) : Int))) = true) (ρ6 : Nat → Orc) (w0 : World) (F : World → Prop) : Reg Try.prog 6 (regOps Try.f45 6) false 24 [(2, (.string ⟨#[]⟩)), (3, (.slice (some ⟨nb ρ6 8, 0, none⟩) (([ob ((hexD (gB B i / 16) : Nat) : Int), ob ((hexD (gB B i % 16) : Nat) : Int)] : List UInt8)).length ((([ob ((hexD (gB B i / 16) : Nat) : Int), ob ((hexD (gB B i % 16) : Nat) : Int)] : List UInt8)).length + nb2 ρ6 8))), (6, (.slice a (B).length c)), (7, (.int .i64 (((B).length : Nat) : Int))), (8, (.int .i64 ((i : Nat) : Int)))] w0 [(nb ρ6 7, (.cells #[(.int .u8 ((hexD (gB B i / 16) : Nat) : Int)), (.int .u8 ((hexD (gB B i % 16) : Nat) : Int))] 5 (0, 0))), (nb ρ6 8, (.cells ((bs ([ob ((hexD (gB B i / 16) : Nat) : Int), ob ((hexD (gB B i % 16) : Nat) : Int)] : List UInt8)).toArray ++ zB (nb2 ρ6 8)) 5 (0, 0)))] F
    (fun _ => [(2, (.string ⟨#[]⟩)), (3, (.slice (some ⟨nb ρ6 8, 0, none⟩) (([ob ((hexD (gB B i / 16) : Nat) : Int), ob ((hexD (gB B i % 16) : Nat) : Int)] : List UInt8)).length ((([ob ((hexD (gB B i / 16) : Nat) : Int), ob ((hexD (gB B i % 16) : Nat) : Int)] : List UInt8)).length + nb2 ρ6 8))), (6, (.slice a (B).length c)), (7, (.int .i64 (((B).length : Nat) : Int))), (8, (.int .i64 ((i + 1 : Nat) : Int)))])
    (fun _ => [(nb ρ6 7, (.cells #[(.int .u8 ((hexD (gB B i / 16) : Nat) : Int)), (.int .u8 ((hexD (gB B i % 16) : Nat) : Int))] 5 (0, 0))), (nb ρ6 8, (.cells ((bs ([ob ((hexD (gB B i / 16) : Nat) : Int), ob ((hexD (gB B i % 16) : Nat) : Int)] : List UInt8)).toArray ++ zB (nb2 ρ6 8)) 5 (0, 0)))]) := by
  refine reg_seq [0, 1] [2, 3, 6, 7, 8] 2
    (fun _ ι => ([(.int .i64 ((i + 1 : Nat) : Int)), (.int .i64 ((i + 1 : Nat) : Int))] : List Value).getD ι undef)
    (fun _ ι => ([{}, {}] : List Eff).getD ι {})
    (by as_aux_lemma => kernel_rfl) (by as_aux_lemma => kernel_rfl) (fun _ => by as_aux_lemma => kernel_rfl) (fun _ => by as_aux_lemma => kernel_rfl) ⟨⟨trivial, ?_⟩, ?_⟩
  · exact o_as 0 (fun _ => (.int .i64 (IntKind.i64.wrap (((i : Nat) : Int) + 1)))) (fun _ => (.int .i64 ((i + 1 : Nat) : Int))) (fun _ _ => by as_aux_lemma => kernel_rfl) (fun _ => congrArg (Value.int .i64) (wrap_addN i 1 (by have := of_decide_eq_true hb1; have := h46; have := hi; omega)))
  · exact o_run 1 [] [] (fun _ _ => []) (fun _ _ => by as_aux_lemma => kernel_rfl)
theorem rhex_any_r8 (a : Option Addr) (c : Nat) (B : List UInt8) (i : Nat) (w0 : World) : RegF Try.prog 7 (regOps Try.f45 7) false 24 [(2, (.string ⟨#[]⟩)), (3, (.slice none 0 0)), (6, (.slice a (B).length c)), (7, (.int .i64 (((B).length : Nat) : Int))), (8, (.int .i64 ((i : Nat) : Int))), (9, (.bool false))] w0 [] (fun w => Bs w a c B ∧ True)
    (fun _ => [(2, (.string (strB ([] : List UInt8))))])
    (fun _ => []) (fun _ => (fun w => Bs w a c B ∧ True)) := by
  refine reg_seq_f [0, 1, 3] [2] 3
    (fun _ ι => ([(.slice none 0 0), (.string (strB ([] : List UInt8))), (.string (strB ([] : List UInt8)))] : List Value).getD ι undef)
    (fun _ ι => ([{}, {}, {}] : List Eff).getD ι {})
    (fun _ ι => ([(fun _ => True), (fun _ => True), (fun _ => True)] : List (World → Prop)).getD ι (fun _ => True))
    (by as_aux_lemma => kernel_rfl) (by as_aux_lemma => kernel_rfl) (fun _ => by as_aux_lemma => kernel_rfl) (fun _ => by as_aux_lemma => kernel_rfl) (fun _ _ hF _ => ⟨hF.1, trivial⟩) ⟨⟨⟨trivial, ?_⟩, ?_⟩, ?_⟩
  · exact Obl.brings (o_run 0 [] [] (fun _ _ => []) (fun _ _ => by as_aux_lemma => kernel_rfl)) (fun _ _ => trivial)
  · exact o_semF 1 (fun _ => do pure (Next.value (← convert 22 9 (.slice none 0 0)))) (fun _ => (.string (strB ([] : List UInt8)))) (fun _ => (by as_aux_lemma => kernel_rfl)) (fun _ => (by as_aux_lemma => kernel_rfl)) (fun _ _ _ _ => str_bytes (xs := ([] : List UInt8)) Try.underlying22 Try.underlying5 Try.underlying9 Bs.nil rfl) (fun _ _ _ _ => persT)
  · exact Obl.brings (o_run 2 [] [] (fun _ _ => []) (fun _ _ => by as_aux_lemma => kernel_rfl)) (fun _ _ => trivial)
theorem rhex_any_r9 (a : Option Addr) (c : Nat) (B : List UInt8) (i : Nat) (g : Nat) (X : List UInt8) (C : Array Value) (κ : Nat) (w0 : World) (F : World → Prop) : Reg Try.prog 3 (regOps Try.f45 3) false 24 [(2, (.string ⟨#[]⟩)), (3, (.slice (some ⟨g, 0, none⟩) (X).length κ)), (6, (.slice a (B).length c)), (7, (.int .i64 (((B).length : Nat) : Int))), (8, (.int .i64 ((i : Nat) : Int)))] w0 [(g, (.cells C 5 (0, 0)))] F
    (fun _ => [(2, (.string ⟨#[]⟩)), (3, (.slice (some ⟨g, 0, none⟩) (X).length κ)), (6, (.slice a (B).length c)), (7, (.int .i64 (((B).length : Nat) : Int))), (8, (.int .i64 ((i : Nat) : Int))), (9, (.bool (decide (((i : Nat) : Int) < (((B).length : Nat) : Int)))))])
    (fun _ => [(g, (.cells C 5 (0, 0)))]) := by
  refine reg_seq [0] [2, 3, 6, 7, 8, 9] 1
    (fun _ ι => ([(.bool (decide (((i : Nat) : Int) < (((B).length : Nat) : Int))))] : List Value).getD ι undef)
    (fun _ ι => ([{}] : List Eff).getD ι {})
    (by as_aux_lemma => kernel_rfl) (by as_aux_lemma => kernel_rfl) (fun _ => by as_aux_lemma => kernel_rfl) (fun _ => by as_aux_lemma => kernel_rfl) ⟨trivial, ?_⟩
  · exact o_run 0 [] [] (fun _ _ => []) (fun _ _ => by as_aux_lemma => kernel_rfl)
theorem rhex_any_r10 (a : Option Addr) (c : Nat) (B : List UInt8) (h46 : B.length ≤ 70368744175616) (i : Nat) (g : Nat) (X : List UInt8) (C : Array Value) (κ : Nat) (hi : i ≤ B.length) (hX : X = hxS (B.take i)) (hb2 : (decide (((i : Nat) : Int) < (((B).length : Nat) : Int))) = true) (w0 : World) : RegF Try.prog 4 (regOps Try.f45 4) false 24 [(2, (.string ⟨#[]⟩)), (3, (.slice (some ⟨g, 0, none⟩) (X).length κ)), (6, (.slice a (B).length c)), (7, (.int .i64 (((B).length : Nat) : Int))), (8, (.int .i64 ((i : Nat) : Int))), (9, (.bool true))] w0 [(g, (.cells C 5 (0, 0)))] (fun w => Bs w a c B ∧ True)
    (fun _ => [(2, (.string ⟨#[]⟩)), (3, (.slice (some ⟨g, 0, none⟩) (X).length κ)), (5, (.int .u8 ((gB B i : Nat) : Int))), (6, (.slice a (B).length c)), (7, (.int .i64 (((B).length : Nat) : Int))), (8, (.int .i64 ((i : Nat) : Int)))])
    (fun _ => [(g, (.cells C 5 (0, 0)))]) (fun _ => (fun w => Bs w a c B ∧ True)) := by
  refine reg_seq_f [0, 1, 3] [2, 3, 5, 6, 7, 8] 3
    (fun _ ι => ([(.pointer (adr a i)), (.int .u8 ((gB B i : Nat) : Int)), (.int .u8 ((gB B i : Nat) : Int))] : List Value).getD ι undef)
    (fun _ ι => ([{}, {}, {}] : List Eff).getD ι {})
    (fun _ ι => ([(fun _ => True), (fun _ => True), (fun _ => True)] : List (World → Prop)).getD ι (fun _ => True))
    (by as_aux_lemma => kernel_rfl) (by as_aux_lemma => kernel_rfl) (fun _ => by as_aux_lemma => kernel_rfl) (fun _ => by as_aux_lemma => kernel_rfl) (fun _ _ hF _ => ⟨hF.1, trivial⟩) ⟨⟨⟨trivial, ?_⟩, ?_⟩, ?_⟩
  · exact o_semF 0 (fun _ => do pure (Next.value (← Instr.indexAt 22 (.slice a (B).length c) (.int .i64 ((i : Nat) : Int))))) (fun _ => (.pointer (adr a i))) (fun _ => (by as_aux_lemma => kernel_rfl)) (fun _ => (by as_aux_lemma => kernel_rfl)) (fun _ _ _ hG => idx_bytes Try.underlying22 u8i hG.facts0.now.1 rfl ((show ((i : Nat) : Int) = ((i : Nat) : Int) ∧ i < (B).length from ⟨rfl, (by have := of_decide_eq_true hb2; have := h46; have := hi; have := hx_len hi hX; omega)⟩)).1 ((show ((i : Nat) : Int) = ((i : Nat) : Int) ∧ i < (B).length from ⟨rfl, (by have := of_decide_eq_true hb2; have := h46; have := hi; have := hx_len hi hX; omega)⟩)).2) (fun _ _ _ _ => persT)
  · exact o_semF 1 (fun _ => do pure (Next.value (← Instr.loadAt 5 (.pointer (adr a i))))) (fun _ => (.int .u8 ((gB B i : Nat) : Int))) (fun _ => (by as_aux_lemma => kernel_rfl)) (fun _ => (by as_aux_lemma => kernel_rfl)) (fun _ _ _ hG => ld_bytes Try.isAgg5 hG.facts0.now.1 ((show ((i : Nat) : Int) = ((i : Nat) : Int) ∧ i < (B).length from ⟨rfl, (by have := of_decide_eq_true hb2; have := h46; have := hi; have := hx_len hi hX; omega)⟩)).2) (fun _ _ _ _ => persT)
  · exact Obl.brings (o_run 2 [] [] (fun _ _ => []) (fun _ _ => by as_aux_lemma => kernel_rfl)) (fun _ _ => trivial)
theorem rhex_any_r11 (a : Option Addr) (c : Nat) (B : List UInt8) (h46 : B.length ≤ 70368744175616) (i : Nat) (g : Nat) (X : List UInt8) (C : Array Value) (κ : Nat) (hi : i ≤ B.length) (hX : X = hxS (B.take i)) (hs : C.size = κ) (hb2 : (decide (((i : Nat) : Int) < (((B).length : Nat) : Int))) = true) (hb3 : (decide ((X).length + (([ob ((hexD (gB B i / 16) : Nat) : Int), ob ((hexD (gB B i % 16) : Nat) : Int)] : List UInt8)).length ≤ κ)) = true) (w0 : World) : RegF Try.prog 5 (regOps Try.f45 5) false 24 [(2, (.string ⟨#[]⟩)), (3, (.slice (some ⟨g, 0, none⟩) (X).length κ)), (5, (.int .u8 ((gB B i : Nat) : Int))), (6, (.slice a (B).length c)), (7, (.int .i64 (((B).length : Nat) : Int))), (8, (.int .i64 ((i : Nat) : Int)))] w0 [(g, (.cells C 5 (0, 0)))] (fun w => Bs w a c B ∧ True)
    (fun _ => [(2, (.string ⟨#[]⟩)), (3, (.slice (some ⟨g, 0, none⟩) (X ++ ([ob ((hexD (gB B i / 16) : Nat) : Int), ob ((hexD (gB B i % 16) : Nat) : Int)] : List UInt8)).length κ)), (6, (.slice a (B).length c)), (7, (.int .i64 (((B).length : Nat) : Int))), (8, (.int .i64 ((i : Nat) : Int)))])
    (fun ρ => [(g, (.cells (inpl C (X).length (bs ([ob ((hexD (gB B i / 16) : Nat) : Int), ob ((hexD (gB B i % 16) : Nat) : Int)] : List UInt8))) 5 (0, 0))), (nb ρ 7, (.cells #[(.int .u8 ((hexD (gB B i / 16) : Nat) : Int)), (.int .u8 ((hexD (gB B i % 16) : Nat) : Int))] 5 (0, 0)))]) (fun _ => (fun w => Bs w a c B ∧ True)) := by
  refine reg_seq_f [0, 1, 3, 7, 15, 31, 63, 127, 255, 511] [2, 3, 6, 7, 8] 10
    (fun ρ ι => ([(.slice (some ⟨g, 0, none⟩) (X).length κ), (.int .u8 ((gB B i : Nat) : Int)), (.int .u8 ((gB B i / 16 : Nat) : Int)), (.int .u8 ((hexD (gB B i / 16) : Nat) : Int)), (.int .u8 ((gB B i : Nat) : Int)), (.int .u8 ((gB B i % 16 : Nat) : Int)), (.int .u8 ((hexD (gB B i % 16) : Nat) : Int)), (.slice (some ⟨nb ρ 7, 0, none⟩) (([ob ((hexD (gB B i / 16) : Nat) : Int), ob ((hexD (gB B i % 16) : Nat) : Int)] : List UInt8)).length 2), (.slice (some ⟨g, 0, none⟩) (X ++ ([ob ((hexD (gB B i / 16) : Nat) : Int), ob ((hexD (gB B i % 16) : Nat) : Int)] : List UInt8)).length κ), (.slice (some ⟨g, 0, none⟩) (X ++ ([ob ((hexD (gB B i / 16) : Nat) : Int), ob ((hexD (gB B i % 16) : Nat) : Int)] : List UInt8)).length κ)] : List Value).getD ι undef)
    (fun ρ ι => ([{}, {}, {}, {}, {}, {}, {}, { news := [(nb ρ 7, (.cells #[(.int .u8 ((hexD (gB B i / 16) : Nat) : Int)), (.int .u8 ((hexD (gB B i % 16) : Nat) : Int))] 5 (0, 0)))] }, { puts := [(0, (.cells (inpl C (X).length (bs ([ob ((hexD (gB B i / 16) : Nat) : Int), ob ((hexD (gB B i % 16) : Nat) : Int)] : List UInt8))) 5 (0, 0)))] }, {}] : List Eff).getD ι {})
    (fun _ ι => ([(fun _ => True), (fun _ => True), (fun _ => True), (fun _ => True), (fun _ => True), (fun _ => True), (fun _ => True), (fun _ => True), (fun _ => True), (fun _ => True)] : List (World → Prop)).getD ι (fun _ => True))
    (by as_aux_lemma => kernel_rfl) (by as_aux_lemma => kernel_rfl) (fun _ => by as_aux_lemma => kernel_rfl) (fun _ => by as_aux_lemma => kernel_rfl) (fun _ _ hF _ => ⟨hF.1, trivial⟩) ⟨⟨⟨⟨⟨⟨⟨⟨⟨⟨trivial, ?_⟩, ?_⟩, ?_⟩, ?_⟩, ?_⟩, ?_⟩, ?_⟩, ?_⟩, ?_⟩, ?_⟩
  · exact Obl.brings (o_run 0 [] [] (fun _ _ => []) (fun _ _ => by as_aux_lemma => kernel_rfl)) (fun _ _ => trivial)
  · exact Obl.brings (o_run 1 [] [] (fun _ _ => []) (fun _ _ => by as_aux_lemma => kernel_rfl)) (fun _ _ => trivial)
  · exact Obl.brings (o_bin 2 .quo 5 (fun _ => (.int .u8 ((gB B i : Nat) : Int))) (fun _ => (.int .u8 16)) (fun _ => (.int .u8 ((gB B i / 16 : Nat) : Int))) (fun _ => by as_aux_lemma => kernel_rfl) (fun _ _ _ _ => by as_aux_lemma => kernel_rfl) (fun _ w => run_quoU (k := .u8) (n := gB B i) (d := 16) rfl (by decide) (gB_lt B i) w)) (fun _ _ => trivial)
  · exact Obl.brings (o_call 3 58 (fun _ => #[(.int .u8 ((gB B i / 16 : Nat) : Int))]) (fun _ => (.int .u8 ((hexD (gB B i / 16) : Nat) : Int))) (fun _ _ => by as_aux_lemma => kernel_rfl) (fun _ w => (fun w => rdigit_any (gB B i / 16) (by have := of_decide_eq_true hb2; have := of_decide_eq_true hb3; have := h46; have := hi; have := hx_len hi hX; have := gB_lt B i; omega) w) w)) (fun _ _ => trivial)
  · exact Obl.brings (o_run 4 [] [] (fun _ _ => []) (fun _ _ => by as_aux_lemma => kernel_rfl)) (fun _ _ => trivial)
  · exact Obl.brings (o_bin 5 .rem 5 (fun _ => (.int .u8 ((gB B i : Nat) : Int))) (fun _ => (.int .u8 16)) (fun _ => (.int .u8 ((gB B i % 16 : Nat) : Int))) (fun _ => by as_aux_lemma => kernel_rfl) (fun _ _ _ _ => by as_aux_lemma => kernel_rfl) (fun _ w => run_remU (k := .u8) (n := gB B i) (d := 16) (by decide) w)) (fun _ _ => trivial)
  · exact Obl.brings (o_call 6 58 (fun _ => #[(.int .u8 ((gB B i % 16 : Nat) : Int))]) (fun _ => (.int .u8 ((hexD (gB B i % 16) : Nat) : Int))) (fun _ _ => by as_aux_lemma => kernel_rfl) (fun _ w => (fun w => rdigit_any (gB B i % 16) (by have := of_decide_eq_true hb2; have := of_decide_eq_true hb3; have := h46; have := hi; have := hx_len hi hX; have := gB_lt B i; omega) w) w)) (fun _ _ => trivial)
  · exact Obl.brings (o_run 7 [] [] (fun _ _ => []) (fun _ _ => by as_aux_lemma => kernel_rfl)) (fun _ _ => trivial)
  · exact o_put1 8 0 (fun ρ => do pure (Next.value (← Builtin.append_ #[22, 22] 22 #[(.slice (some ⟨g, 0, none⟩) (X).length κ), (.slice (some ⟨nb ρ 7, 0, none⟩) (([ob ((hexD (gB B i / 16) : Nat) : Int), ob ((hexD (gB B i % 16) : Nat) : Int)] : List UInt8)).length 2)]))) (fun _ => g) (fun _ => (.cells C 5 (0, 0))) (fun _ => (.cells (inpl C (X).length (bs ([ob ((hexD (gB B i / 16) : Nat) : Int), ob ((hexD (gB B i % 16) : Nat) : Int)] : List UInt8))) 5 (0, 0))) (fun _ => (.slice (some ⟨g, 0, none⟩) (X ++ ([ob ((hexD (gB B i / 16) : Nat) : Int), ob ((hexD (gB B i % 16) : Nat) : Int)] : List UInt8)).length κ)) (fun _ => (by as_aux_lemma => kernel_rfl)) (fun _ => (by as_aux_lemma => kernel_rfl)) (fun _ => (by as_aux_lemma => kernel_rfl)) (fun _ => (by as_aux_lemma => kernel_rfl)) (fun _ _ => trivial) (fun ρ _ _ hG hg => app_roomL Try.underlying22 u8i hg (Bs.src (tx := 22) Try.underlying22 (Bs.of_hd (hG.known (g := nb ρ 7) (o := (.cells #[(.int .u8 ((hexD (gB B i / 16) : Nat) : Int)), (.int .u8 ((hexD (gB B i % 16) : Nat) : Int))] 5 (0, 0))) 57 (by as_aux_lemma => kernel_rfl) (by as_aux_lemma => kernel_rfl)) (hd2 (hexD_rng (by have := gB_lt B i; omega)) (hexD_rng (by have := gB_lt B i; omega))) (Nat.le_refl 2) (Nat.le_of_ble_eq_true rfl))) hs (of_decide_eq_true hb3))
  · exact Obl.brings (o_run 9 [] [] (fun _ _ => []) (fun _ _ => by as_aux_lemma => kernel_rfl)) (fun _ _ => trivial)
theorem rhex_any_r12 (a : Option Addr) (c : Nat) (B : List UInt8) (h46 : B.length ≤ 70368744175616) (i : Nat) (g : Nat) (X : List UInt8) (C : Array Value) (κ : Nat) (hi : i ≤ B.length) (hX : X = hxS (B.take i)) (hb2 : (decide (((i : Nat) : Int) < (((B).length : Nat) : Int))) = true) (hb3 : (decide ((X).length + (([ob ((hexD (gB B i / 16) : Nat) : Int), ob ((hexD (gB B i % 16) : Nat) : Int)] : List UInt8)).length ≤ κ)) = true) (ρ11 : Nat → Orc) (w0 : World) (F : World → Prop) : Reg Try.prog 6 (regOps Try.f45 6) false 24 [(2, (.string ⟨#[]⟩)), (3, (.slice (some ⟨g, 0, none⟩) (X ++ ([ob ((hexD (gB B i / 16) : Nat) : Int), ob ((hexD (gB B i % 16) : Nat) : Int)] : List UInt8)).length κ)), (6, (.slice a (B).length c)), (7, (.int .i64 (((B).length : Nat) : Int))), (8, (.int .i64 ((i : Nat) : Int)))] w0 [(g, (.cells (inpl C (X).length (bs ([ob ((hexD (gB B i / 16) : Nat) : Int), ob ((hexD (gB B i % 16) : Nat) : Int)] : List UInt8))) 5 (0, 0))), (nb ρ11 7, (.cells #[(.int .u8 ((hexD (gB B i / 16) : Nat) : Int)), (.int .u8 ((hexD (gB B i % 16) : Nat) : Int))] 5 (0, 0)))] F
    (fun _ => [(2, (.string ⟨#[]⟩)), (3, (.slice (some ⟨g, 0, none⟩) (X ++ ([ob ((hexD (gB B i / 16) : Nat) : Int), ob ((hexD (gB B i % 16) : Nat) : Int)] : List UInt8)).length κ)), (6, (.slice a (B).length c)), (7, (.int .i64 (((B).length : Nat) : Int))), (8, (.int .i64 ((i + 1 : Nat) : Int)))])
    (fun _ => [(g, (.cells (inpl C (X).length (bs ([ob ((hexD (gB B i / 16) : Nat) : Int), ob ((hexD (gB B i % 16) : Nat) : Int)] : List UInt8))) 5 (0, 0))), (nb ρ11 7, (.cells #[(.int .u8 ((hexD (gB B i / 16) : Nat) : Int)), (.int .u8 ((hexD (gB B i % 16) : Nat) : Int))] 5 (0, 0)))]) := by
  refine reg_seq [0, 1] [2, 3, 6, 7, 8] 2
    (fun _ ι => ([(.int .i64 ((i + 1 : Nat) : Int)), (.int .i64 ((i + 1 : Nat) : Int))] : List Value).getD ι undef)
    (fun _ ι => ([{}, {}] : List Eff).getD ι {})
    (by as_aux_lemma => kernel_rfl) (by as_aux_lemma => kernel_rfl) (fun _ => by as_aux_lemma => kernel_rfl) (fun _ => by as_aux_lemma => kernel_rfl) ⟨⟨trivial, ?_⟩, ?_⟩
  · exact o_as 0 (fun _ => (.int .i64 (IntKind.i64.wrap (((i : Nat) : Int) + 1)))) (fun _ => (.int .i64 ((i + 1 : Nat) : Int))) (fun _ _ => by as_aux_lemma => kernel_rfl) (fun _ => congrArg (Value.int .i64) (wrap_addN i 1 (by have := of_decide_eq_true hb2; have := of_decide_eq_true hb3; have := h46; have := hi; have := hx_len hi hX; omega)))
  · exact o_run 1 [] [] (fun _ _ => []) (fun _ _ => by as_aux_lemma => kernel_rfl)
theorem rhex_any_r13 (a : Option Addr) (c : Nat) (B : List UInt8) (h46 : B.length ≤ 70368744175616) (i : Nat) (g : Nat) (X : List UInt8) (C : Array Value) (κ : Nat) (hi : i ≤ B.length) (hX : X = hxS (B.take i)) (hs : C.size = κ) (hle : X.length ≤ κ) (hb2 : (decide (((i : Nat) : Int) < (((B).length : Nat) : Int))) = true) (hb3 : (decide ((X).length + (([ob ((hexD (gB B i / 16) : Nat) : Int), ob ((hexD (gB B i % 16) : Nat) : Int)] : List UInt8)).length ≤ κ)) = false) (w0 : World) : RegF Try.prog 5 (regOps Try.f45 5) false 24 [(2, (.string ⟨#[]⟩)), (3, (.slice (some ⟨g, 0, none⟩) (X).length κ)), (5, (.int .u8 ((gB B i : Nat) : Int))), (6, (.slice a (B).length c)), (7, (.int .i64 (((B).length : Nat) : Int))), (8, (.int .i64 ((i : Nat) : Int)))] w0 [(g, (.cells C 5 (0, 0)))] (fun w => Bs w a c B ∧ True)
    (fun ρ => [(2, (.string ⟨#[]⟩)), (3, (.slice (some ⟨nb ρ 8, 0, none⟩) (X ++ ([ob ((hexD (gB B i / 16) : Nat) : Int), ob ((hexD (gB B i % 16) : Nat) : Int)] : List UInt8)).length ((X ++ ([ob ((hexD (gB B i / 16) : Nat) : Int), ob ((hexD (gB B i % 16) : Nat) : Int)] : List UInt8)).length + nb2 ρ 8))), (6, (.slice a (B).length c)), (7, (.int .i64 (((B).length : Nat) : Int))), (8, (.int .i64 ((i : Nat) : Int)))])
    (fun ρ => [(g, (.cells C 5 (0, 0))), (nb ρ 7, (.cells #[(.int .u8 ((hexD (gB B i / 16) : Nat) : Int)), (.int .u8 ((hexD (gB B i % 16) : Nat) : Int))] 5 (0, 0))), (nb ρ 8, (.cells (grow C (X).length (bs ([ob ((hexD (gB B i / 16) : Nat) : Int), ob ((hexD (gB B i % 16) : Nat) : Int)] : List UInt8)) (nb2 ρ 8)) 5 (0, 0)))]) (fun _ => (fun w => Bs w a c B ∧ True)) := by
  refine reg_seq_f [0, 1, 3, 7, 15, 31, 63, 127, 255, 511] [2, 3, 6, 7, 8] 10
    (fun ρ ι => ([(.slice (some ⟨g, 0, none⟩) (X).length κ), (.int .u8 ((gB B i : Nat) : Int)), (.int .u8 ((gB B i / 16 : Nat) : Int)), (.int .u8 ((hexD (gB B i / 16) : Nat) : Int)), (.int .u8 ((gB B i : Nat) : Int)), (.int .u8 ((gB B i % 16 : Nat) : Int)), (.int .u8 ((hexD (gB B i % 16) : Nat) : Int)), (.slice (some ⟨nb ρ 7, 0, none⟩) (([ob ((hexD (gB B i / 16) : Nat) : Int), ob ((hexD (gB B i % 16) : Nat) : Int)] : List UInt8)).length 2), (.slice (some ⟨nb ρ 8, 0, none⟩) (X ++ ([ob ((hexD (gB B i / 16) : Nat) : Int), ob ((hexD (gB B i % 16) : Nat) : Int)] : List UInt8)).length ((X ++ ([ob ((hexD (gB B i / 16) : Nat) : Int), ob ((hexD (gB B i % 16) : Nat) : Int)] : List UInt8)).length + nb2 ρ 8)), (.slice (some ⟨nb ρ 8, 0, none⟩) (X ++ ([ob ((hexD (gB B i / 16) : Nat) : Int), ob ((hexD (gB B i % 16) : Nat) : Int)] : List UInt8)).length ((X ++ ([ob ((hexD (gB B i / 16) : Nat) : Int), ob ((hexD (gB B i % 16) : Nat) : Int)] : List UInt8)).length + nb2 ρ 8))] : List Value).getD ι undef)
    (fun ρ ι => ([{}, {}, {}, {}, {}, {}, {}, { news := [(nb ρ 7, (.cells #[(.int .u8 ((hexD (gB B i / 16) : Nat) : Int)), (.int .u8 ((hexD (gB B i % 16) : Nat) : Int))] 5 (0, 0)))] }, { news := [(nb ρ 8, (.cells (grow C (X).length (bs ([ob ((hexD (gB B i / 16) : Nat) : Int), ob ((hexD (gB B i % 16) : Nat) : Int)] : List UInt8)) (nb2 ρ 8)) 5 (0, 0)))] }, {}] : List Eff).getD ι {})
    (fun _ ι => ([(fun _ => True), (fun _ => True), (fun _ => True), (fun _ => True), (fun _ => True), (fun _ => True), (fun _ => True), (fun _ => True), (fun _ => True), (fun _ => True)] : List (World → Prop)).getD ι (fun _ => True))
    (by as_aux_lemma => kernel_rfl) (by as_aux_lemma => kernel_rfl) (fun _ => by as_aux_lemma => kernel_rfl) (fun _ => by as_aux_lemma => kernel_rfl) (fun _ _ hF _ => ⟨hF.1, trivial⟩) ⟨⟨⟨⟨⟨⟨⟨⟨⟨⟨trivial, ?_⟩, ?_⟩, ?_⟩, ?_⟩, ?_⟩, ?_⟩, ?_⟩, ?_⟩, ?_⟩, ?_⟩
  · exact Obl.brings (o_run 0 [] [] (fun _ _ => []) (fun _ _ => by as_aux_lemma => kernel_rfl)) (fun _ _ => trivial)
  · exact Obl.brings (o_run 1 [] [] (fun _ _ => []) (fun _ _ => by as_aux_lemma => kernel_rfl)) (fun _ _ => trivial)
  · exact Obl.brings (o_bin 2 .quo 5 (fun _ => (.int .u8 ((gB B i : Nat) : Int))) (fun _ => (.int .u8 16)) (fun _ => (.int .u8 ((gB B i / 16 : Nat) : Int))) (fun _ => by as_aux_lemma => kernel_rfl) (fun _ _ _ _ => by as_aux_lemma => kernel_rfl) (fun _ w => run_quoU (k := .u8) (n := gB B i) (d := 16) rfl (by decide) (gB_lt B i) w)) (fun _ _ => trivial)
  · exact Obl.brings (o_call 3 58 (fun _ => #[(.int .u8 ((gB B i / 16 : Nat) : Int))]) (fun _ => (.int .u8 ((hexD (gB B i / 16) : Nat) : Int))) (fun _ _ => by as_aux_lemma => kernel_rfl) (fun _ w => (fun w => rdigit_any (gB B i / 16) (by have := of_decide_eq_true hb2; have := of_decide_eq_false hb3; have := h46; have := hi; have := hx_len hi hX; have := gB_lt B i; omega) w) w)) (fun _ _ => trivial)
  · exact Obl.brings (o_run 4 [] [] (fun _ _ => []) (fun _ _ => by as_aux_lemma => kernel_rfl)) (fun _ _ => trivial)
  · exact Obl.brings (o_bin 5 .rem 5 (fun _ => (.int .u8 ((gB B i : Nat) : Int))) (fun _ => (.int .u8 16)) (fun _ => (.int .u8 ((gB B i % 16 : Nat) : Int))) (fun _ => by as_aux_lemma => kernel_rfl) (fun _ _ _ _ => by as_aux_lemma => kernel_rfl) (fun _ w => run_remU (k := .u8) (n := gB B i) (d := 16) (by decide) w)) (fun _ _ => trivial)
  · exact Obl.brings (o_call 6 58 (fun _ => #[(.int .u8 ((gB B i % 16 : Nat) : Int))]) (fun _ => (.int .u8 ((hexD (gB B i % 16) : Nat) : Int))) (fun _ _ => by as_aux_lemma => kernel_rfl) (fun _ w => (fun w => rdigit_any (gB B i % 16) (by have := of_decide_eq_true hb2; have := of_decide_eq_false hb3; have := h46; have := hi; have := hx_len hi hX; have := gB_lt B i; omega) w) w)) (fun _ _ => trivial)
  · exact Obl.brings (o_run 7 [] [] (fun _ _ => []) (fun _ _ => by as_aux_lemma => kernel_rfl)) (fun _ _ => trivial)
  · exact o_new1 8 (fun ρ => do pure (Next.value (← Builtin.append_ #[22, 22] 22 #[(.slice (some ⟨g, 0, none⟩) (X).length κ), (.slice (some ⟨nb ρ 7, 0, none⟩) (([ob ((hexD (gB B i / 16) : Nat) : Int), ob ((hexD (gB B i % 16) : Nat) : Int)] : List UInt8)).length 2)]))) (fun _ z => (.slice (some ⟨z.headD 0, 0, none⟩) (X ++ ([ob ((hexD (gB B i / 16) : Nat) : Int), ob ((hexD (gB B i % 16) : Nat) : Int)] : List UInt8)).length ((X ++ ([ob ((hexD (gB B i / 16) : Nat) : Int), ob ((hexD (gB B i % 16) : Nat) : Int)] : List UInt8)).length + z.tail.headD 0))) (fun _ z => (.cells (grow C (X).length (bs ([ob ((hexD (gB B i / 16) : Nat) : Int), ob ((hexD (gB B i % 16) : Nat) : Int)] : List UInt8)) (z.tail.headD 0)) 5 (0, 0))) (fun _ _ => (by as_aux_lemma => kernel_rfl)) (fun _ => (by as_aux_lemma => kernel_rfl)) (fun _ _ => trivial) (fun ρ _ _ hG => app_growL Try.underlying22 u8i (hG.known (g := g) (o := (.cells C 5 (0, 0))) 0 (by as_aux_lemma => kernel_rfl) (by as_aux_lemma => kernel_rfl)) (Bs.src (tx := 22) Try.underlying22 (Bs.of_hd (hG.known (g := nb ρ 7) (o := (.cells #[(.int .u8 ((hexD (gB B i / 16) : Nat) : Int)), (.int .u8 ((hexD (gB B i % 16) : Nat) : Int))] 5 (0, 0))) 57 (by as_aux_lemma => kernel_rfl) (by as_aux_lemma => kernel_rfl)) (hd2 (hexD_rng (by have := gB_lt B i; omega)) (hexD_rng (by have := gB_lt B i; omega))) (Nat.le_refl 2) (Nat.le_of_ble_eq_true rfl))) hs hle (Nat.lt_of_not_le (of_decide_eq_false hb3)) ((by simp only [List.length_cons, List.length_nil]; have := of_decide_eq_true hb2; have := of_decide_eq_false hb3; have := h46; have := hi; have := hx_len hi hX; omega)))
  · exact Obl.brings (o_run 9 [] [] (fun _ _ => []) (fun _ _ => by as_aux_lemma => kernel_rfl)) (fun _ _ => trivial)
theorem rhex_any_r14 (a : Option Addr) (c : Nat) (B : List UInt8) (h46 : B.length ≤ 70368744175616) (i : Nat) (g : Nat) (X : List UInt8) (C : Array Value) (κ : Nat) (hi : i ≤ B.length) (hX : X = hxS (B.take i)) (hb2 : (decide (((i : Nat) : Int) < (((B).length : Nat) : Int))) = true) (hb3 : (decide ((X).length + (([ob ((hexD (gB B i / 16) : Nat) : Int), ob ((hexD (gB B i % 16) : Nat) : Int)] : List UInt8)).length ≤ κ)) = false) (ρ13 : Nat → Orc) (w0 : World) (F : World → Prop) : Reg Try.prog 6 (regOps Try.f45 6) false 24 [(2, (.string ⟨#[]⟩)), (3, (.slice (some ⟨nb ρ13 8, 0, none⟩) (X ++ ([ob ((hexD (gB B i / 16) : Nat) : Int), ob ((hexD (gB B i % 16) : Nat) : Int)] : List UInt8)).length ((X ++ ([ob ((hexD (gB B i / 16) : Nat) : Int), ob ((hexD (gB B i % 16) : Nat) : Int)] : List UInt8)).length + nb2 ρ13 8))), (6, (.slice a (B).length c)), (7, (.int .i64 (((B).length : Nat) : Int))), (8, (.int .i64 ((i : Nat) : Int)))] w0 [(g, (.cells C 5 (0, 0))), (nb ρ13 7, (.cells #[(.int .u8 ((hexD (gB B i / 16) : Nat) : Int)), (.int .u8 ((hexD (gB B i % 16) : Nat) : Int))] 5 (0, 0))), (nb ρ13 8, (.cells (grow C (X).length (bs ([ob ((hexD (gB B i / 16) : Nat) : Int), ob ((hexD (gB B i % 16) : Nat) : Int)] : List UInt8)) (nb2 ρ13 8)) 5 (0, 0)))] F
    (fun _ => [(2, (.string ⟨#[]⟩)), (3, (.slice (some ⟨nb ρ13 8, 0, none⟩) (X ++ ([ob ((hexD (gB B i / 16) : Nat) : Int), ob ((hexD (gB B i % 16) : Nat) : Int)] : List UInt8)).length ((X ++ ([ob ((hexD (gB B i / 16) : Nat) : Int), ob ((hexD (gB B i % 16) : Nat) : Int)] : List UInt8)).length + nb2 ρ13 8))), (6, (.slice a (B).length c)), (7, (.int .i64 (((B).length : Nat) : Int))), (8, (.int .i64 ((i + 1 : Nat) : Int)))])
    (fun _ => [(g, (.cells C 5 (0, 0))), (nb ρ13 7, (.cells #[(.int .u8 ((hexD (gB B i / 16) : Nat) : Int)), (.int .u8 ((hexD (gB B i % 16) : Nat) : Int))] 5 (0, 0))), (nb ρ13 8, (.cells (grow C (X).length (bs ([ob ((hexD (gB B i / 16) : Nat) : Int), ob ((hexD (gB B i % 16) : Nat) : Int)] : List UInt8)) (nb2 ρ13 8)) 5 (0, 0)))]) := by
  refine reg_seq [0, 1] [2, 3, 6, 7, 8] 2
    (fun _ ι => ([(.int .i64 ((i + 1 : Nat) : Int)), (.int .i64 ((i + 1 : Nat) : Int))] : List Value).getD ι undef)
    (fun _ ι => ([{}, {}] : List Eff).getD ι {})
    (by as_aux_lemma => kernel_rfl) (by as_aux_lemma => kernel_rfl) (fun _ => by as_aux_lemma => kernel_rfl) (fun _ => by as_aux_lemma => kernel_rfl) ⟨⟨trivial, ?_⟩, ?_⟩
  · exact o_as 0 (fun _ => (.int .i64 (IntKind.i64.wrap (((i : Nat) : Int) + 1)))) (fun _ => (.int .i64 ((i + 1 : Nat) : Int))) (fun _ _ => by as_aux_lemma => kernel_rfl) (fun _ => congrArg (Value.int .i64) (wrap_addN i 1 (by have := of_decide_eq_true hb2; have := of_decide_eq_false hb3; have := h46; have := hi; have := hx_len hi hX; omega)))
  · exact o_run 1 [] [] (fun _ _ => []) (fun _ _ => by as_aux_lemma => kernel_rfl)
theorem rhex_any_r15 (a : Option Addr) (c : Nat) (B : List UInt8) (h46 : B.length ≤ 70368744175616) (i : Nat) (g : Nat) (X : List UInt8) (C : Array Value) (κ : Nat) (hi : i ≤ B.length) (hX : X = hxS (B.take i)) (hC : Hd C X) (hle : X.length ≤ κ) (w0 : World) : RegF Try.prog 7 (regOps Try.f45 7) false 24 [(2, (.string ⟨#[]⟩)), (3, (.slice (some ⟨g, 0, none⟩) (X).length κ)), (6, (.slice a (B).length c)), (7, (.int .i64 (((B).length : Nat) : Int))), (8, (.int .i64 ((i : Nat) : Int))), (9, (.bool false))] w0 [(g, (.cells C 5 (0, 0)))] (fun w => Bs w a c B ∧ True)
    (fun _ => [(2, (.string (strB X)))])
    (fun _ => [(g, (.cells C 5 (0, 0)))]) (fun _ => (fun w => Bs w a c B ∧ True)) := by
  refine reg_seq_f [0, 1, 3] [2] 3
    (fun _ ι => ([(.slice (some ⟨g, 0, none⟩) (X).length κ), (.string (strB X)), (.string (strB X))] : List Value).getD ι undef)
    (fun _ ι => ([{}, {}, {}] : List Eff).getD ι {})
    (fun _ ι => ([(fun _ => True), (fun _ => True), (fun _ => True)] : List (World → Prop)).getD ι (fun _ => True))
    (by as_aux_lemma => kernel_rfl) (by as_aux_lemma => kernel_rfl) (fun _ => by as_aux_lemma => kernel_rfl) (fun _ => by as_aux_lemma => kernel_rfl) (fun _ _ hF _ => ⟨hF.1, trivial⟩) ⟨⟨⟨trivial, ?_⟩, ?_⟩, ?_⟩
  · exact Obl.brings (o_run 0 [] [] (fun _ _ => []) (fun _ _ => by as_aux_lemma => kernel_rfl)) (fun _ _ => trivial)
  · exact o_semF 1 (fun _ => do pure (Next.value (← convert 22 9 (.slice (some ⟨g, 0, none⟩) (X).length κ)))) (fun _ => (.string (strB X))) (fun _ => (by as_aux_lemma => kernel_rfl)) (fun _ => (by as_aux_lemma => kernel_rfl)) (fun _ _ _ hG => str_bytes (xs := X) Try.underlying22 Try.underlying5 Try.underlying9 (Bs.of_hd (hG.known (g := g) (o := (.cells C 5 (0, 0))) 0 (by as_aux_lemma => kernel_rfl) (by as_aux_lemma => kernel_rfl)) hC hle (by have := h46; have := hi; have := hx_len hi hX; omega)) rfl) (fun _ _ _ _ => persT)
  · exact Obl.brings (o_run 2 [] [] (fun _ _ => []) (fun _ _ => by as_aux_lemma => kernel_rfl)) (fun _ _ => trivial)
theorem rhex_any (a : Option Addr) (c : Nat) (B : List UInt8) (h46 : B.length ≤ 70368744175616) (w0 : World) (hf0 : Bs w0 a c B) : Calls Try.prog 45 #[(.slice a (B).length c)] w0 (fun ε w' => ε = .returned (.string (strB (hxS B))) ∧ Below w0.heap.size w0 w') := by
  refine Calls.of_ok (n := 24) (F := (fun w => Bs w a c B ∧ True)) Try.func45 rfl rfl rfl (by simp) (hf0.pers0.and persT) ?_
  refine ok_seq_r (by as_aux_lemma => kernel_rfl) (rhex_any_r1 a c B _ _) (fun _ => ?_)
  refine ok_seq_r (by as_aux_lemma => kernel_rfl) (rhex_any_r2 a c B _ _) (fun _ => ?_)
  refine ok_seq ?_
  refine ok_seq_r (by as_aux_lemma => kernel_rfl) (rhex_any_r3 a c B _ _) (fun _ => ?_)
  refine ok_block ?_
  refine ok_loop (σ := (Nat) ⊕ (Nat × Nat × (List UInt8) × (Array Value) × Nat)) (fun s => match s with | Sum.inl i => [(2, (.string ⟨#[]⟩)), (3, (.slice none 0 0)), (6, (.slice a (B).length c)), (7, (.int .i64 (((B).length : Nat) : Int))), (8, (.int .i64 ((i : Nat) : Int)))] | Sum.inr ⟨i, g, X, _, κ⟩ => [(2, (.string ⟨#[]⟩)), (3, (.slice (some ⟨g, 0, none⟩) (X).length κ)), (6, (.slice a (B).length c)), (7, (.int .i64 (((B).length : Nat) : Int))), (8, (.int .i64 ((i : Nat) : Int)))]) (fun s => match s with | Sum.inl _ => [] | Sum.inr ⟨_, g, _, C, _⟩ => [(g, (.cells C 5 (0, 0)))]) (fun s => match s with | Sum.inl i => B.length - i | Sum.inr ⟨i, _, _, _, _⟩ => B.length - i)
    (fun s => match s with | Sum.inl i => (i ≤ B.length) ∧ (i = 0) | Sum.inr ⟨i, _, X, C, κ⟩ => (i ≤ B.length) ∧ (X = hxS (B.take i)) ∧ (Hd C X) ∧ (C.size = κ) ∧ (X.length ≤ κ)) (Sum.inl 0) (⟨Nat.zero_le _, rfl⟩) (by as_aux_lemma => kernel_rfl) .slnil ?_
  rintro (i | ⟨i, g, X, C, κ⟩)
  ·
    rintro ⟨hi, h0⟩
    change Ok Try.prog _ _ 24 [(2, (.string ⟨#[]⟩)), (3, (.slice none 0 0)), (6, (.slice a (B).length c)), (7, (.int .i64 (((B).length : Nat) : Int))), (8, (.int .i64 ((i : Nat) : Int)))] _ [] (fun w => Bs w a c B ∧ True)
    refine ok_seq_r (by as_aux_lemma => kernel_rfl) (rhex_any_r4 a c B i _ _) (fun _ => ?_)
    refine ok_seq ?_
    refine ok_cond (b := decide (((i : Nat) : Int) < (((B).length : Nat) : Int))) (by as_aux_lemma => kernel_rfl) (fun hb1 => ?_) (fun hb1 => ?_)
    ·
      rw [hb1]
      refine ok_skip ?_
      refine mt_then ?_
      refine ok_seq ?_
      refine ok_block ?_
      refine ok_seq_rf (by as_aux_lemma => kernel_rfl) (rhex_any_r5 a c B h46 i hi hb1 _) (fun _ => ?_)
      refine ok_rf (by as_aux_lemma => kernel_rfl) (rhex_any_r6 a c B h46 i hi hb1 _) (fun ρ6 => ?_)
      refine mt_block_n ?_
      refine mt_then ?_
      refine ok_r (by as_aux_lemma => kernel_rfl) (rhex_any_r7 a c B h46 i hi hb1 ρ6 _ _) (fun _ => ?_)
      exact mt_round (Sum.inr (i + 1, nb ρ6 8, ([ob ((hexD (gB B i / 16) : Nat) : Int), ob ((hexD (gB B i % 16) : Nat) : Int)] : List UInt8), (bs ([ob ((hexD (gB B i / 16) : Nat) : Int), ob ((hexD (gB B i % 16) : Nat) : Int)] : List UInt8)).toArray ++ zB (nb2 ρ6 8), (([ob ((hexD (gB B i / 16) : Nat) : Int), ob ((hexD (gB B i % 16) : Nat) : Int)] : List UInt8)).length + nb2 ρ6 8)) (by show B.length - (i + 1) < B.length - i; have := of_decide_eq_true hb1; have := h46; have := hi; omega) (⟨(by have := of_decide_eq_true hb1; have := h46; have := hi; omega), hx_next (by have := of_decide_eq_true hb1; have := h46; have := hi; omega) (by rw [h0]; rfl : ([] : List UInt8) = hxS (B.take i)), (Hd.fresh _ _), (fresh_size _ _), (Nat.le_add_right _ _)⟩) (by as_aux_lemma => kernel_rfl) (.cons _ (.cons_cons _ .slnil))
    ·
      rw [hb1]
      refine ok_exit ?_
      refine mt_then_e ?_
      refine mt_then_e ?_
      refine mt_block_h ?_
      refine mt_then ?_
      refine ok_seq_rf (by as_aux_lemma => kernel_rfl) (rhex_any_r8 a c B i _) (fun _ => ?_)
      refine ok_ret ?_
      exact meets_ret (v := (.string (strB ([] : List UInt8)))) [] (dup []) (by as_aux_lemma => kernel_rfl) (by as_aux_lemma => kernel_rfl) (eqs_dup _) (fun _ hS => ⟨congrArg (fun x => Ending.returned (.string (strB x))) (hx_end (by have := of_decide_eq_false hb1; have := h46; have := hi; omega) (by rw [h0]; rfl : ([] : List UInt8) = hxS (B.take i))), hS.below⟩)
  ·
    rintro ⟨hi, hX, hC, hs, hle⟩
    change Ok Try.prog _ _ 24 [(2, (.string ⟨#[]⟩)), (3, (.slice (some ⟨g, 0, none⟩) (X).length κ)), (6, (.slice a (B).length c)), (7, (.int .i64 (((B).length : Nat) : Int))), (8, (.int .i64 ((i : Nat) : Int)))] _ [(g, (.cells C 5 (0, 0)))] (fun w => Bs w a c B ∧ True)
    refine ok_seq_r (by as_aux_lemma => kernel_rfl) (rhex_any_r9 a c B i g X C κ _ _) (fun _ => ?_)
    refine ok_seq ?_
    refine ok_cond (b := decide (((i : Nat) : Int) < (((B).length : Nat) : Int))) (by as_aux_lemma => kernel_rfl) (fun hb2 => ?_) (fun hb2 => ?_)
    ·
      rw [hb2]
      refine ok_skip ?_
      refine mt_then ?_
      refine ok_seq ?_
      refine ok_block ?_
      refine ok_seq_rf (by as_aux_lemma => kernel_rfl) (rhex_any_r10 a c B h46 i g X C κ hi hX hb2 _) (fun _ => ?_)
      rcases Bool.eq_false_or_eq_true (decide ((X).length + (([ob ((hexD (gB B i / 16) : Nat) : Int), ob ((hexD (gB B i % 16) : Nat) : Int)] : List UInt8)).length ≤ κ)) with hb3 | hb3
      ·
        refine ok_rf (by as_aux_lemma => kernel_rfl) (rhex_any_r11 a c B h46 i g X C κ hi hX hs hb2 hb3 _) (fun ρ11 => ?_)
        refine mt_block_n ?_
        refine mt_then ?_
        refine ok_r (by as_aux_lemma => kernel_rfl) (rhex_any_r12 a c B h46 i g X C κ hi hX hb2 hb3 ρ11 _ _) (fun _ => ?_)
        exact mt_round (Sum.inr (i + 1, g, X ++ ([ob ((hexD (gB B i / 16) : Nat) : Int), ob ((hexD (gB B i % 16) : Nat) : Int)] : List UInt8), inpl C (X).length (bs ([ob ((hexD (gB B i / 16) : Nat) : Int), ob ((hexD (gB B i % 16) : Nat) : Int)] : List UInt8)), κ)) (by show B.length - (i + 1) < B.length - i; have := of_decide_eq_true hb2; have := of_decide_eq_true hb3; have := h46; have := hi; have := hx_len hi hX; omega) (⟨(by have := of_decide_eq_true hb2; have := of_decide_eq_true hb3; have := h46; have := hi; have := hx_len hi hX; omega), hx_next (by have := of_decide_eq_true hb2; have := of_decide_eq_true hb3; have := h46; have := hi; have := hx_len hi hX; omega) hX, (Hd.inpl hC rfl), ((inpl_size _ _ _ (room_le hs (of_decide_eq_true hb3))).trans hs), (len_app (of_decide_eq_true hb3))⟩) (by as_aux_lemma => kernel_rfl) (.cons_cons _ (.cons _ .slnil))
      ·
        refine ok_rf (by as_aux_lemma => kernel_rfl) (rhex_any_r13 a c B h46 i g X C κ hi hX hs hle hb2 hb3 _) (fun ρ13 => ?_)
        refine mt_block_n ?_
        refine mt_then ?_
        refine ok_r (by as_aux_lemma => kernel_rfl) (rhex_any_r14 a c B h46 i g X C κ hi hX hb2 hb3 ρ13 _ _) (fun _ => ?_)
        exact mt_round (Sum.inr (i + 1, nb ρ13 8, X ++ ([ob ((hexD (gB B i / 16) : Nat) : Int), ob ((hexD (gB B i % 16) : Nat) : Int)] : List UInt8), grow C (X).length (bs ([ob ((hexD (gB B i / 16) : Nat) : Int), ob ((hexD (gB B i % 16) : Nat) : Int)] : List UInt8)) (nb2 ρ13 8), (X ++ ([ob ((hexD (gB B i / 16) : Nat) : Int), ob ((hexD (gB B i % 16) : Nat) : Int)] : List UInt8)).length + nb2 ρ13 8)) (by show B.length - (i + 1) < B.length - i; have := of_decide_eq_true hb2; have := of_decide_eq_false hb3; have := h46; have := hi; have := hx_len hi hX; omega) (⟨(by have := of_decide_eq_true hb2; have := of_decide_eq_false hb3; have := h46; have := hi; have := hx_len hi hX; omega), hx_next (by have := of_decide_eq_true hb2; have := of_decide_eq_false hb3; have := h46; have := hi; have := hx_len hi hX; omega) hX, (Hd.grow hC rfl), (grow_sizeL hC), (Nat.le_add_right _ _)⟩) (by as_aux_lemma => kernel_rfl) (.cons _ (.cons _ (.cons_cons _ .slnil)))
    ·
      rw [hb2]
      refine ok_exit ?_
      refine mt_then_e ?_
      refine mt_then_e ?_
      refine mt_block_h ?_
      refine mt_then ?_
      refine ok_seq_rf (by as_aux_lemma => kernel_rfl) (rhex_any_r15 a c B h46 i g X C κ hi hX hC hle _) (fun _ => ?_)
      refine ok_ret ?_
      exact meets_ret (v := (.string (strB X))) [] (dup []) (by as_aux_lemma => kernel_rfl) (by as_aux_lemma => kernel_rfl) (eqs_dup _) (fun _ hS => ⟨congrArg (fun x => Ending.returned (.string (strB x))) (hx_end (by have := of_decide_eq_false hb2; have := h46; have := hi; have := hx_len hi hX; omega) hX), hS.below⟩)
end Go.Proofs.Ytclccfibfkcagaa
