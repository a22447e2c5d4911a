/-
  The codec reads integers: the walks.
-/
import Derived.Test.YtclccfibfkcagaaCNum2
namespace Go.Proofs.Ytclccfibfkcagaa
open Go Go.RowKit
set_option maxRecDepth 100000
theorem room_any_r1 (a : Option Addr) (c : Nat) (B : List UInt8) (z : Int) (m : Nat) (w0 : World) (F : World → Prop) : Reg Try.prog 0 (regOps Try.f55 0) false 21 [(0, (.slice a (B).length c)), (1, (.int .i64 z)), (2, (.int .i64 ((m : Nat) : Int)))] w0 [] F
    (fun _ => [(0, (.slice a (B).length c)), (1, (.int .i64 z)), (2, (.int .i64 ((m : Nat) : Int))), (6, (.int .i64 0))])
    (fun _ => []) := by
  refine reg_seq [0] [0, 1, 2, 6] 1
    (fun _ ι => ([(.int .i64 0)] : List Value).getD ι undef)
    (fun _ ι => ([{}] : List Eff).getD ι {})
    (by as_aux_lemma => kernel_rfl) (by as_aux_lemma => kernel_rfl) (fun _ => by as_aux_lemma => kernel_rfl) (fun _ => by as_aux_lemma => kernel_rfl) ⟨trivial, ?_⟩
  · exact o_run 0 [] [] (fun _ _ => []) (fun _ _ => by as_aux_lemma => kernel_rfl)
theorem room_any_r2 (a : Option Addr) (c : Nat) (B : List UInt8) (z : Int) (m : Nat) (hb1 : (decide (z < 0)) = true) (w0 : World) (F : World → Prop) : Reg Try.prog 1 (regOps Try.f55 1) false 21 [(0, (.slice a (B).length c)), (1, (.int .i64 z)), (2, (.int .i64 ((m : Nat) : Int))), (6, (.int .i64 0))] w0 [] F
    (fun _ => [(0, (.slice a (B).length c)), (1, (.int .i64 z)), (2, (.int .i64 ((m : Nat) : Int))), (6, (.int .i64 0)), (14, (.bool true))])
    (fun _ => []) := by
  refine reg_seq [0, 1, 3, 7, 15, 31, 63, 127] [0, 1, 2, 6, 14] 8
    (fun _ ι => ([(.int .i64 z), (.bool true), (.bool true), undef, undef, undef, undef, (.bool true)] : List Value).getD ι undef)
    (fun _ ι => ([{}, {}, {}, {}, {}, {}, {}, {}] : List Eff).getD ι {})
    (by as_aux_lemma => kernel_rfl) (by as_aux_lemma => kernel_rfl) (fun _ => by as_aux_lemma => kernel_rfl) (fun _ => by as_aux_lemma => kernel_rfl) ⟨⟨⟨⟨⟨⟨⟨⟨trivial, ?_⟩, ?_⟩, ?_⟩, ?_⟩, ?_⟩, ?_⟩, ?_⟩, ?_⟩
  · exact o_run 0 [] [] (fun _ _ => []) (fun _ _ => by as_aux_lemma => kernel_rfl)
  · exact o_as 1 (fun _ => (.bool (decide (z < 0)))) (fun _ => (.bool true)) (fun _ _ => by as_aux_lemma => kernel_rfl) (fun _ => congrArg Value.bool hb1)
  · exact o_run 2 [] [] (fun _ _ => []) (fun _ _ => by as_aux_lemma => kernel_rfl)
  · exact o_skip 3 (fun _ => by as_aux_lemma => kernel_rfl)
  · exact o_skip 4 (fun _ => by as_aux_lemma => kernel_rfl)
  · exact o_skip 5 (fun _ => by as_aux_lemma => kernel_rfl)
  · exact o_skip 6 (fun _ => by as_aux_lemma => kernel_rfl)
  · exact o_run 7 [] [] (fun _ _ => []) (fun _ _ => by as_aux_lemma => kernel_rfl)
theorem room_any_r3 (a : Option Addr) (c : Nat) (B : List UInt8) (z : Int) (m : Nat) (w0 : World) (F : World → Prop) : Reg Try.prog 2 (regOps Try.f55 2) false 21 [(0, (.slice a (B).length c)), (1, (.int .i64 z)), (2, (.int .i64 ((m : Nat) : Int))), (6, (.int .i64 0)), (14, (.bool true))] w0 [] F
    (fun _ => [(0, (.slice a (B).length c)), (1, (.int .i64 z)), (2, (.int .i64 ((m : Nat) : Int))), (6, (.int .i64 5))])
    (fun _ => []) := by
  refine reg_seq [0] [0, 1, 2, 6] 1
    (fun _ ι => ([(.int .i64 5)] : List Value).getD ι undef)
    (fun _ ι => ([{}] : List Eff).getD ι {})
    (by as_aux_lemma => kernel_rfl) (by as_aux_lemma => kernel_rfl) (fun _ => by as_aux_lemma => kernel_rfl) (fun _ => by as_aux_lemma => kernel_rfl) ⟨trivial, ?_⟩
  · exact o_run 0 [] [] (fun _ _ => []) (fun _ _ => by as_aux_lemma => kernel_rfl)
theorem room_any_r4 (a : Option Addr) (c : Nat) (B : List UInt8) (z : Int) (m : Nat) (hb1 : (decide (z < 0)) = false) (w0 : World) (F : World → Prop) : Reg Try.prog 1 (regOps Try.f55 1) false 21 [(0, (.slice a (B).length c)), (1, (.int .i64 z)), (2, (.int .i64 ((m : Nat) : Int))), (6, (.int .i64 0))] w0 [] F
    (fun _ => [(0, (.slice a (B).length c)), (1, (.int .i64 z)), (2, (.int .i64 ((m : Nat) : Int))), (6, (.int .i64 0)), (14, (.bool (decide ((((B).length : Nat) : Int) < z))))])
    (fun _ => []) := by
  refine reg_seq [0, 1, 3, 7, 15, 31, 63, 127] [0, 1, 2, 6, 14] 8
    (fun _ ι => ([(.int .i64 z), (.bool false), (.bool false), (.int .i64 z), (.slice a (B).length c), (.int .i64 (((B).length : Nat) : Int)), (.bool (decide ((((B).length : Nat) : Int) < z))), (.bool (decide ((((B).length : Nat) : Int) < z)))] : List Value).getD ι undef)
    (fun _ ι => ([{}, {}, {}, {}, {}, {}, {}, {}] : List Eff).getD ι {})
    (by as_aux_lemma => kernel_rfl) (by as_aux_lemma => kernel_rfl) (fun _ => by as_aux_lemma => kernel_rfl) (fun _ => by as_aux_lemma => kernel_rfl) ⟨⟨⟨⟨⟨⟨⟨⟨trivial, ?_⟩, ?_⟩, ?_⟩, ?_⟩, ?_⟩, ?_⟩, ?_⟩, ?_⟩
  · exact o_run 0 [] [] (fun _ _ => []) (fun _ _ => by as_aux_lemma => kernel_rfl)
  · exact o_as 1 (fun _ => (.bool (decide (z < 0)))) (fun _ => (.bool false)) (fun _ _ => by as_aux_lemma => kernel_rfl) (fun _ => congrArg Value.bool hb1)
  · exact o_run 2 [] [] (fun _ _ => []) (fun _ _ => by as_aux_lemma => kernel_rfl)
  · exact o_run 3 [] [] (fun _ _ => []) (fun _ _ => by as_aux_lemma => kernel_rfl)
  · exact o_run 4 [] [] (fun _ _ => []) (fun _ _ => by as_aux_lemma => kernel_rfl)
  · exact o_run 5 [] [] (fun _ _ => []) (fun _ _ => by as_aux_lemma => kernel_rfl)
  · exact o_run 6 [] [] (fun _ _ => []) (fun _ _ => by as_aux_lemma => kernel_rfl)
  · exact o_run 7 [] [] (fun _ _ => []) (fun _ _ => by as_aux_lemma => kernel_rfl)
theorem room_any_r5 (a : Option Addr) (c : Nat) (B : List UInt8) (z : Int) (m : Nat) (w0 : World) (F : World → Prop) : Reg Try.prog 2 (regOps Try.f55 2) false 21 [(0, (.slice a (B).length c)), (1, (.int .i64 z)), (2, (.int .i64 ((m : Nat) : Int))), (6, (.int .i64 0)), (14, (.bool true))] w0 [] F
    (fun _ => [(0, (.slice a (B).length c)), (1, (.int .i64 z)), (2, (.int .i64 ((m : Nat) : Int))), (6, (.int .i64 5))])
    (fun _ => []) := by
  refine reg_seq [0] [0, 1, 2, 6] 1
    (fun _ ι => ([(.int .i64 5)] : List Value).getD ι undef)
    (fun _ ι => ([{}] : List Eff).getD ι {})
    (by as_aux_lemma => kernel_rfl) (by as_aux_lemma => kernel_rfl) (fun _ => by as_aux_lemma => kernel_rfl) (fun _ => by as_aux_lemma => kernel_rfl) ⟨trivial, ?_⟩
  · exact o_run 0 [] [] (fun _ _ => []) (fun _ _ => by as_aux_lemma => kernel_rfl)
theorem room_any_r6 (a : Option Addr) (c : Nat) (B : List UInt8) (z : Int) (m : Nat) (hz : -9223372036854775808 ≤ z ∧ z < 9223372036854775808) (hBl : B.length ≤ 140737488351232) (hm : m ≤ 32) (hb1 : (decide (z < 0)) = false) (hb2 : (decide ((((B).length : Nat) : Int) < z)) = false) (w0 : World) (F : World → Prop) : Reg Try.prog 3 (regOps Try.f55 3) false 21 [(0, (.slice a (B).length c)), (1, (.int .i64 z)), (2, (.int .i64 ((m : Nat) : Int))), (6, (.int .i64 0)), (14, (.bool false))] w0 [] F
    (fun _ => [(6, (.int .i64 0)), (20, (.bool (decide (((((B).length : Nat) : Int) - z) < ((m : Nat) : Int)))))])
    (fun _ => []) := by
  refine reg_seq [0, 1, 3, 7, 15, 31] [6, 20] 6
    (fun _ ι => ([(.slice a (B).length c), (.int .i64 (((B).length : Nat) : Int)), (.int .i64 z), (.int .i64 ((((B).length : Nat) : Int) - z)), (.int .i64 ((m : Nat) : Int)), (.bool (decide (((((B).length : Nat) : Int) - z) < ((m : Nat) : Int))))] : List Value).getD ι undef)
    (fun _ ι => ([{}, {}, {}, {}, {}, {}] : List Eff).getD ι {})
    (by as_aux_lemma => kernel_rfl) (by as_aux_lemma => kernel_rfl) (fun _ => by as_aux_lemma => kernel_rfl) (fun _ => by as_aux_lemma => kernel_rfl) ⟨⟨⟨⟨⟨⟨trivial, ?_⟩, ?_⟩, ?_⟩, ?_⟩, ?_⟩, ?_⟩
  · exact o_run 0 [] [] (fun _ _ => []) (fun _ _ => by as_aux_lemma => kernel_rfl)
  · exact o_run 1 [] [] (fun _ _ => []) (fun _ _ => by as_aux_lemma => kernel_rfl)
  · exact o_run 2 [] [] (fun _ _ => []) (fun _ _ => by as_aux_lemma => kernel_rfl)
  · exact o_as 3 (fun _ => (.int .i64 (IntKind.i64.wrap ((((B).length : Nat) : Int) - z)))) (fun _ => (.int .i64 ((((B).length : Nat) : Int) - z))) (fun _ _ => by as_aux_lemma => kernel_rfl) (fun _ => congrArg (Value.int .i64) (i64N (by have := of_decide_eq_false hb1; have := of_decide_eq_false hb2; have := hz; have := hBl; have := hm; omega)))
  · exact o_run 4 [] [] (fun _ _ => []) (fun _ _ => by as_aux_lemma => kernel_rfl)
  · exact o_run 5 [] [] (fun _ _ => []) (fun _ _ => by as_aux_lemma => kernel_rfl)
theorem room_any_r7  (w0 : World) (F : World → Prop) : Reg Try.prog 4 (regOps Try.f55 4) false 21 [(6, (.int .i64 0)), (20, (.bool true))] w0 [] F
    (fun _ => [(6, (.int .i64 1))])
    (fun _ => []) := by
  refine reg_seq [0] [6] 1
    (fun _ ι => ([(.int .i64 1)] : List Value).getD ι undef)
    (fun _ ι => ([{}] : List Eff).getD ι {})
    (by as_aux_lemma => kernel_rfl) (by as_aux_lemma => kernel_rfl) (fun _ => by as_aux_lemma => kernel_rfl) (fun _ => by as_aux_lemma => kernel_rfl) ⟨trivial, ?_⟩
  · exact o_run 0 [] [] (fun _ _ => []) (fun _ _ => by as_aux_lemma => kernel_rfl)
theorem room_any_r8  (w0 : World) (F : World → Prop) : Reg Try.prog 5 (regOps Try.f55 5) false 21 [(6, (.int .i64 0)), (20, (.bool false))] w0 [] F
    (fun _ => [(6, (.int .i64 0))])
    (fun _ => []) := by
  refine reg_seq [0] [6] 1
    (fun _ ι => ([(.int .i64 0)] : List Value).getD ι undef)
    (fun _ ι => ([{}] : List Eff).getD ι {})
    (by as_aux_lemma => kernel_rfl) (by as_aux_lemma => kernel_rfl) (fun _ => by as_aux_lemma => kernel_rfl) (fun _ => by as_aux_lemma => kernel_rfl) ⟨trivial, ?_⟩
  · exact o_run 0 [] [] (fun _ _ => []) (fun _ _ => by as_aux_lemma => kernel_rfl)
theorem room_any (a : Option Addr) (c : Nat) (B : List UInt8) (z : Int) (m : Nat) (hz : -9223372036854775808 ≤ z ∧ z < 9223372036854775808) (hBl : B.length ≤ 140737488351232) (hm : m ≤ 32) (w0 : World) : Calls Try.prog 55 #[(.slice a (B).length c), (.int .i64 z), (.int .i64 ((m : Nat) : Int))] w0 (fun ε w' => ε = .returned (.int .i64 (rdE (B).length z m)) ∧ Below w0.heap.size w0 w') := by
  refine Calls.of_ok (n := 21) (F := (fun _ => True)) Try.func55 rfl rfl rfl (by simp) persT ?_
  refine ok_seq_r (by as_aux_lemma => kernel_rfl) (room_any_r1 a c B z m _ _) (fun _ => ?_)
  refine ok_seq ?_
  rcases Bool.eq_false_or_eq_true (decide (z < 0)) with hb1 | hb1
  ·
    refine ok_seq_r (by as_aux_lemma => kernel_rfl) (room_any_r2 a c B z m hb1 _ _) (fun _ => ?_)
    refine ok_yes (by as_aux_lemma => kernel_rfl) ?_
    refine ok_seq_r (by as_aux_lemma => kernel_rfl) (room_any_r3 a c B z m _ _) (fun _ => ?_)
    refine ok_ret ?_
    refine mt_then_r ?_
    exact meets_ret (v := (.int .i64 5)) [] (dup []) (by as_aux_lemma => kernel_rfl) (by as_aux_lemma => kernel_rfl) (eqs_dup _) (fun _ hS => ⟨congrArg (fun x => Ending.returned (.int .i64 x)) ((rdE5 (by have := of_decide_eq_true hb1; have := hz; have := hBl; have := hm; omega)).symm), hS.below⟩)
  ·
    refine ok_seq_r (by as_aux_lemma => kernel_rfl) (room_any_r4 a c B z m hb1 _ _) (fun _ => ?_)
    refine ok_cond (b := decide ((((B).length : Nat) : Int) < z)) (by as_aux_lemma => kernel_rfl) (fun hb2 => ?_) (fun hb2 => ?_)
    ·
      rw [hb2]
      refine ok_seq_r (by as_aux_lemma => kernel_rfl) (room_any_r5 a c B z m _ _) (fun _ => ?_)
      refine ok_ret ?_
      refine mt_then_r ?_
      exact meets_ret (v := (.int .i64 5)) [] (dup []) (by as_aux_lemma => kernel_rfl) (by as_aux_lemma => kernel_rfl) (eqs_dup _) (fun _ hS => ⟨congrArg (fun x => Ending.returned (.int .i64 x)) ((rdE5 (by have := of_decide_eq_false hb1; have := of_decide_eq_true hb2; have := hz; have := hBl; have := hm; omega)).symm), hS.below⟩)
    ·
      rw [hb2]
      refine ok_skip ?_
      refine mt_then ?_
      refine ok_seq ?_
      refine ok_seq_r (by as_aux_lemma => kernel_rfl) (room_any_r6 a c B z m hz hBl hm hb1 hb2 _ _) (fun _ => ?_)
      refine ok_cond (b := decide (((((B).length : Nat) : Int) - z) < ((m : Nat) : Int))) (by as_aux_lemma => kernel_rfl) (fun hb3 => ?_) (fun hb3 => ?_)
      ·
        rw [hb3]
        refine ok_seq_r (by as_aux_lemma => kernel_rfl) (room_any_r7 _ _) (fun _ => ?_)
        refine ok_ret ?_
        refine mt_then_r ?_
        exact meets_ret (v := (.int .i64 1)) [] (dup []) (by as_aux_lemma => kernel_rfl) (by as_aux_lemma => kernel_rfl) (eqs_dup _) (fun _ hS => ⟨congrArg (fun x => Ending.returned (.int .i64 x)) ((rdE1 (by have := of_decide_eq_false hb1; have := of_decide_eq_false hb2; have := of_decide_eq_true hb3; have := hz; have := hBl; have := hm; omega) (by have := of_decide_eq_false hb1; have := of_decide_eq_false hb2; have := of_decide_eq_true hb3; have := hz; have := hBl; have := hm; omega)).symm), hS.below⟩)
      ·
        rw [hb3]
        refine ok_skip ?_
        refine mt_then ?_
        refine ok_seq_r (by as_aux_lemma => kernel_rfl) (room_any_r8 _ _) (fun _ => ?_)
        refine ok_ret ?_
        exact meets_ret (v := (.int .i64 0)) [] (dup []) (by as_aux_lemma => kernel_rfl) (by as_aux_lemma => kernel_rfl) (eqs_dup _) (fun _ hS => ⟨congrArg (fun x => Ending.returned (.int .i64 x)) ((rdE0 (by have := of_decide_eq_false hb1; have := of_decide_eq_false hb2; have := of_decide_eq_false hb3; have := hz; have := hBl; have := hm; omega) (by have := of_decide_eq_false hb1; have := of_decide_eq_false hb2; have := of_decide_eq_false hb3; have := hz; have := hBl; have := hm; omega)).symm), hS.below⟩)
theorem read8_any_r1 (a : Option Addr) (c : Nat) (B : List UInt8) (z : Int) (m : Nat) (w0 : World) (F : World → Prop) : Reg Try.prog 0 (regOps Try.f51 0) false 39 [(0, (.slice a (B).length c)), (1, (.int .i64 z)), (2, (.int .i64 ((m : Nat) : Int)))] w0 [] F
    (fun _ => [(0, (.slice a (B).length c)), (1, (.int .i64 z)), (2, (.int .i64 ((m : Nat) : Int))), (6, (.int .u8 0)), (7, (.int .i64 0)), (8, (.int .i64 0))])
    (fun _ => []) := by
  refine reg_seq [0, 1, 3] [0, 1, 2, 6, 7, 8] 3
    (fun _ ι => ([(.int .u8 0), (.int .i64 0), (.int .i64 0)] : List Value).getD ι undef)
    (fun _ ι => ([{}, {}, {}] : List Eff).getD ι {})
    (by as_aux_lemma => kernel_rfl) (by as_aux_lemma => kernel_rfl) (fun _ => by as_aux_lemma => kernel_rfl) (fun _ => by as_aux_lemma => kernel_rfl) ⟨⟨⟨trivial, ?_⟩, ?_⟩, ?_⟩
  · exact o_run 0 [] [] (fun _ _ => []) (fun _ _ => by as_aux_lemma => kernel_rfl)
  · exact o_run 1 [] [] (fun _ _ => []) (fun _ _ => by as_aux_lemma => kernel_rfl)
  · exact o_run 2 [] [] (fun _ _ => []) (fun _ _ => by as_aux_lemma => kernel_rfl)
theorem read8_any_r2 (a : Option Addr) (c : Nat) (B : List UInt8) (z : Int) (m : Nat) (hz : -9223372036854775808 ≤ z ∧ z < 9223372036854775808) (hBl : B.length ≤ 140737488351232) (hm : 8 * m ≤ 8) (w0 : World) (F : World → Prop) : Reg Try.prog 1 (regOps Try.f51 1) false 39 [(0, (.slice a (B).length c)), (1, (.int .i64 z)), (2, (.int .i64 ((m : Nat) : Int))), (6, (.int .u8 0)), (7, (.int .i64 0)), (8, (.int .i64 0))] w0 [] F
    (fun _ => [(0, (.slice a (B).length c)), (1, (.int .i64 z)), (2, (.int .i64 ((m : Nat) : Int))), (6, (.int .u8 0)), (7, (.int .i64 0)), (8, (.int .i64 0)), (9, (.int .i64 (rdE B.length z m)))])
    (fun _ => []) := by
  refine reg_seq [0, 1, 3, 7, 15] [0, 1, 2, 6, 7, 8, 9] 5
    (fun _ ι => ([(.slice a (B).length c), (.int .i64 z), (.int .i64 ((m : Nat) : Int)), (.int .i64 (rdE B.length z m)), (.int .i64 (rdE B.length z m))] : List Value).getD ι undef)
    (fun _ ι => ([{}, {}, {}, {}, {}] : List Eff).getD ι {})
    (by as_aux_lemma => kernel_rfl) (by as_aux_lemma => kernel_rfl) (fun _ => by as_aux_lemma => kernel_rfl) (fun _ => by as_aux_lemma => kernel_rfl) ⟨⟨⟨⟨⟨trivial, ?_⟩, ?_⟩, ?_⟩, ?_⟩, ?_⟩
  · exact o_run 0 [] [] (fun _ _ => []) (fun _ _ => by as_aux_lemma => kernel_rfl)
  · exact o_run 1 [] [] (fun _ _ => []) (fun _ _ => by as_aux_lemma => kernel_rfl)
  · exact o_run 2 [] [] (fun _ _ => []) (fun _ _ => by as_aux_lemma => kernel_rfl)
  · exact o_call 3 55 (fun _ => #[(.slice a (B).length c), (.int .i64 z), (.int .i64 ((m : Nat) : Int))]) (fun _ => (.int .i64 (rdE B.length z m))) (fun _ _ => by as_aux_lemma => kernel_rfl) (fun _ w => (fun w => room_any a c B z m (by have := hz; have := hBl; have := hm; omega) hBl (by have := hz; have := hBl; have := hm; omega) w) w)
  · exact o_run 4 [] [] (fun _ _ => []) (fun _ _ => by as_aux_lemma => kernel_rfl)
theorem read8_any_r3 (a : Option Addr) (c : Nat) (B : List UInt8) (z : Int) (m : Nat) (w0 : World) (F : World → Prop) : Reg Try.prog 2 (regOps Try.f51 2) false 39 [(0, (.slice a (B).length c)), (1, (.int .i64 z)), (2, (.int .i64 ((m : Nat) : Int))), (6, (.int .u8 0)), (7, (.int .i64 0)), (8, (.int .i64 0)), (9, (.int .i64 (rdE B.length z m)))] w0 [] F
    (fun _ => [(0, (.slice a (B).length c)), (1, (.int .i64 z)), (2, (.int .i64 ((m : Nat) : Int))), (6, (.int .u8 0)), (7, (.int .i64 0)), (8, (.int .i64 0)), (9, (.int .i64 (rdE B.length z m))), (17, (.bool ((rdE B.length z m) != 0)))])
    (fun _ => []) := by
  refine reg_seq [0, 1] [0, 1, 2, 6, 7, 8, 9, 17] 2
    (fun _ ι => ([(.int .i64 (rdE B.length z m)), (.bool ((rdE B.length z m) != 0))] : List Value).getD ι undef)
    (fun _ ι => ([{}, {}] : List Eff).getD ι {})
    (by as_aux_lemma => kernel_rfl) (by as_aux_lemma => kernel_rfl) (fun _ => by as_aux_lemma => kernel_rfl) (fun _ => by as_aux_lemma => kernel_rfl) ⟨⟨trivial, ?_⟩, ?_⟩
  · exact o_run 0 [] [] (fun _ _ => []) (fun _ _ => by as_aux_lemma => kernel_rfl)
  · exact o_run 1 [] [] (fun _ _ => []) (fun _ _ => by as_aux_lemma => kernel_rfl)
theorem read8_any_r4 (a : Option Addr) (c : Nat) (B : List UInt8) (z : Int) (m : Nat) (w0 : World) (F : World → Prop) : Reg Try.prog 3 (regOps Try.f51 3) false 39 [(0, (.slice a (B).length c)), (1, (.int .i64 z)), (2, (.int .i64 ((m : Nat) : Int))), (6, (.int .u8 0)), (7, (.int .i64 0)), (8, (.int .i64 0)), (9, (.int .i64 (rdE B.length z m))), (17, (.bool true))] w0 [] F
    (fun _ => [(0, (.slice a (B).length c)), (1, (.int .i64 z)), (2, (.int .i64 ((m : Nat) : Int))), (6, (.int .u8 0)), (7, (.int .i64 0)), (8, (.int .i64 (rdE B.length z m)))])
    (fun _ => []) := by
  refine reg_seq [0, 1, 3, 7] [0, 1, 2, 6, 7, 8] 4
    (fun _ ι => ([(.int .i64 (rdE B.length z m)), (.int .u8 0), (.int .i64 0), (.int .i64 (rdE B.length z m))] : List Value).getD ι undef)
    (fun _ ι => ([{}, {}, {}, {}] : List Eff).getD ι {})
    (by as_aux_lemma => kernel_rfl) (by as_aux_lemma => kernel_rfl) (fun _ => by as_aux_lemma => kernel_rfl) (fun _ => by as_aux_lemma => kernel_rfl) ⟨⟨⟨⟨trivial, ?_⟩, ?_⟩, ?_⟩, ?_⟩
  · exact o_run 0 [] [] (fun _ _ => []) (fun _ _ => by as_aux_lemma => kernel_rfl)
  · exact o_run 1 [] [] (fun _ _ => []) (fun _ _ => by as_aux_lemma => kernel_rfl)
  · exact o_run 2 [] [] (fun _ _ => []) (fun _ _ => by as_aux_lemma => kernel_rfl)
  · exact o_run 3 [] [] (fun _ _ => []) (fun _ _ => by as_aux_lemma => kernel_rfl)
theorem read8_any_r5 (a : Option Addr) (c : Nat) (B : List UInt8) (z : Int) (m : Nat) (w0 : World) (F : World → Prop) : Reg Try.prog 4 (regOps Try.f51 4) false 39 [(0, (.slice a (B).length c)), (1, (.int .i64 z)), (2, (.int .i64 ((m : Nat) : Int))), (6, (.int .u8 0)), (7, (.int .i64 0)), (8, (.int .i64 0)), (9, (.int .i64 (rdE B.length z m))), (17, (.bool false))] w0 [] F
    (fun _ => [(0, (.slice a (B).length c)), (1, (.int .i64 z)), (2, (.int .i64 ((m : Nat) : Int))), (6, (.int .u8 0)), (7, (.int .i64 0)), (8, (.int .i64 0)), (10, (.int .u8 0))])
    (fun _ => []) := by
  refine reg_seq [0] [0, 1, 2, 6, 7, 8, 10] 1
    (fun _ ι => ([(.int .u8 0)] : List Value).getD ι undef)
    (fun _ ι => ([{}] : List Eff).getD ι {})
    (by as_aux_lemma => kernel_rfl) (by as_aux_lemma => kernel_rfl) (fun _ => by as_aux_lemma => kernel_rfl) (fun _ => by as_aux_lemma => kernel_rfl) ⟨trivial, ?_⟩
  · exact o_run 0 [] [] (fun _ _ => []) (fun _ _ => by as_aux_lemma => kernel_rfl)
theorem read8_any_r6 (a : Option Addr) (c : Nat) (B : List UInt8) (z : Int) (m : Nat) (w0 : World) (F : World → Prop) : Reg Try.prog 5 (regOps Try.f51 5) false 39 [(0, (.slice a (B).length c)), (1, (.int .i64 z)), (2, (.int .i64 ((m : Nat) : Int))), (6, (.int .u8 0)), (7, (.int .i64 0)), (8, (.int .i64 0)), (10, (.int .u8 0))] w0 [] F
    (fun _ => [(0, (.slice a (B).length c)), (1, (.int .i64 z)), (2, (.int .i64 ((m : Nat) : Int))), (6, (.int .u8 0)), (7, (.int .i64 0)), (8, (.int .i64 0)), (10, (.int .u8 0)), (19, (.int .i64 ((m : Nat) : Int))), (20, (.int .i64 0))])
    (fun _ => []) := by
  refine reg_seq [0, 1] [0, 1, 2, 6, 7, 8, 10, 19, 20] 2
    (fun _ ι => ([(.int .i64 ((m : Nat) : Int)), (.int .i64 0)] : List Value).getD ι undef)
    (fun _ ι => ([{}, {}] : List Eff).getD ι {})
    (by as_aux_lemma => kernel_rfl) (by as_aux_lemma => kernel_rfl) (fun _ => by as_aux_lemma => kernel_rfl) (fun _ => by as_aux_lemma => kernel_rfl) ⟨⟨trivial, ?_⟩, ?_⟩
  · exact o_run 0 [] [] (fun _ _ => []) (fun _ _ => by as_aux_lemma => kernel_rfl)
  · exact o_run 1 [] [] (fun _ _ => []) (fun _ _ => by as_aux_lemma => kernel_rfl)
theorem read8_any_r7 (a : Option Addr) (c : Nat) (B : List UInt8) (z : Int) (m : Nat) (i : Nat) (w0 : World) (F : World → Prop) : Reg Try.prog 6 (regOps Try.f51 6) false 39 [(0, (.slice a (B).length c)), (1, (.int .i64 z)), (2, (.int .i64 ((m : Nat) : Int))), (6, (.int .u8 0)), (7, (.int .i64 0)), (8, (.int .i64 0)), (10, (.int .u8 ((leN B z.toNat i : Nat) : Int))), (19, (.int .i64 ((m : Nat) : Int))), (20, (.int .i64 ((i : Nat) : Int)))] w0 [] F
    (fun _ => [(0, (.slice a (B).length c)), (1, (.int .i64 z)), (2, (.int .i64 ((m : Nat) : Int))), (6, (.int .u8 0)), (7, (.int .i64 0)), (8, (.int .i64 0)), (10, (.int .u8 ((leN B z.toNat i : Nat) : Int))), (19, (.int .i64 ((m : Nat) : Int))), (20, (.int .i64 ((i : Nat) : Int))), (21, (.bool (decide (((i : Nat) : Int) < ((m : Nat) : Int)))))])
    (fun _ => []) := by
  refine reg_seq [0] [0, 1, 2, 6, 7, 8, 10, 19, 20, 21] 1
    (fun _ ι => ([(.bool (decide (((i : Nat) : Int) < ((m : Nat) : Int))))] : List Value).getD ι undef)
    (fun _ ι => ([{}] : List Eff).getD ι {})
    (by as_aux_lemma => kernel_rfl) (by as_aux_lemma => kernel_rfl) (fun _ => by as_aux_lemma => kernel_rfl) (fun _ => by as_aux_lemma => kernel_rfl) ⟨trivial, ?_⟩
  · exact o_run 0 [] [] (fun _ _ => []) (fun _ _ => by as_aux_lemma => kernel_rfl)
theorem read8_any_r8 (a : Option Addr) (c : Nat) (B : List UInt8) (z : Int) (m : Nat) (i : Nat) (w0 : World) (F : World → Prop) : Reg Try.prog 7 (regOps Try.f51 7) false 39 [(0, (.slice a (B).length c)), (1, (.int .i64 z)), (2, (.int .i64 ((m : Nat) : Int))), (6, (.int .u8 0)), (7, (.int .i64 0)), (8, (.int .i64 0)), (10, (.int .u8 ((leN B z.toNat i : Nat) : Int))), (19, (.int .i64 ((m : Nat) : Int))), (20, (.int .i64 ((i : Nat) : Int))), (21, (.bool true))] w0 [] F
    (fun _ => [(0, (.slice a (B).length c)), (1, (.int .i64 z)), (2, (.int .i64 ((m : Nat) : Int))), (6, (.int .u8 0)), (7, (.int .i64 0)), (8, (.int .i64 0)), (10, (.int .u8 ((leN B z.toNat i : Nat) : Int))), (11, (.int .i64 ((i : Nat) : Int))), (19, (.int .i64 ((m : Nat) : Int))), (20, (.int .i64 ((i : Nat) : Int)))])
    (fun _ => []) := by
  refine reg_seq [0, 1] [0, 1, 2, 6, 7, 8, 10, 11, 19, 20] 2
    (fun _ ι => ([(.int .i64 ((i : Nat) : Int)), (.int .i64 ((i : Nat) : Int))] : List Value).getD ι undef)
    (fun _ ι => ([{}, {}] : List Eff).getD ι {})
    (by as_aux_lemma => kernel_rfl) (by as_aux_lemma => kernel_rfl) (fun _ => by as_aux_lemma => kernel_rfl) (fun _ => by as_aux_lemma => kernel_rfl) ⟨⟨trivial, ?_⟩, ?_⟩
  · exact o_run 0 [] [] (fun _ _ => []) (fun _ _ => by as_aux_lemma => kernel_rfl)
  · exact o_run 1 [] [] (fun _ _ => []) (fun _ _ => by as_aux_lemma => kernel_rfl)
theorem read8_any_r9 (a : Option Addr) (c : Nat) (B : List UInt8) (z : Int) (m : Nat) (hz : -9223372036854775808 ≤ z ∧ z < 9223372036854775808) (hBl : B.length ≤ 140737488351232) (hm : 8 * m ≤ 8) (hb1 : ((rdE B.length z m) != 0) = false) (i : Nat) (hi : i ≤ m) (hb2 : (decide (((i : Nat) : Int) < ((m : Nat) : Int))) = true) (w0 : World) : RegF Try.prog 8 (regOps Try.f51 8) false 39 [(0, (.slice a (B).length c)), (1, (.int .i64 z)), (2, (.int .i64 ((m : Nat) : Int))), (6, (.int .u8 0)), (7, (.int .i64 0)), (8, (.int .i64 0)), (10, (.int .u8 ((leN B z.toNat i : Nat) : Int))), (11, (.int .i64 ((i : Nat) : Int))), (19, (.int .i64 ((m : Nat) : Int))), (20, (.int .i64 ((i : Nat) : Int)))] w0 [] (fun w => Bs w a c B ∧ True)
    (fun _ => [(0, (.slice a (B).length c)), (1, (.int .i64 z)), (2, (.int .i64 ((m : Nat) : Int))), (6, (.int .u8 0)), (7, (.int .i64 0)), (8, (.int .i64 0)), (10, (.int .u8 ((leN B z.toNat (i + 1) : Nat) : Int))), (19, (.int .i64 ((m : Nat) : Int))), (20, (.int .i64 ((i : Nat) : Int)))])
    (fun _ => []) (fun _ => (fun w => Bs w a c B ∧ True)) := by
  refine reg_seq_f [0, 1, 3, 7, 15, 31, 63, 127, 255, 511, 1023, 2047] [0, 1, 2, 6, 7, 8, 10, 19, 20] 12
    (fun _ ι => ([(.int .u8 ((leN B z.toNat i : Nat) : Int)), (.slice a (B).length c), (.int .i64 z), (.int .i64 ((i : Nat) : Int)), (.int .i64 (z + ((i : Nat) : Int))), (.pointer (adr a (z.toNat + i))), (.int .u8 ((gB B (z.toNat + i) : Nat) : Int)), (.int .i64 ((i : Nat) : Int)), (.int .i64 ((8 * i : Nat) : Int)), (.int .u8 ((gB B (z.toNat + i) * 256 ^ i : Nat) : Int)), (.int .u8 ((leN B z.toNat (i + 1) : Nat) : Int)), (.int .u8 ((leN B z.toNat (i + 1) : Nat) : Int))] : List Value).getD ι undef)
    (fun _ ι => ([{}, {}, {}, {}, {}, {}, {}, {}, {}, {}, {}, {}] : List Eff).getD ι {})
    (fun _ ι => ([(fun _ => True), (fun _ => True), (fun _ => True), (fun _ => True), (fun _ => True), (fun _ => True), (fun _ => True), (fun _ => True), (fun _ => True), (fun _ => True), (fun _ => True), (fun _ => True)] : List (World → Prop)).getD ι (fun _ => True))
    (by as_aux_lemma => kernel_rfl) (by as_aux_lemma => kernel_rfl) (fun _ => by as_aux_lemma => kernel_rfl) (fun _ => by as_aux_lemma => kernel_rfl) (fun _ _ hF _ => ⟨hF.1, trivial⟩) ⟨⟨⟨⟨⟨⟨⟨⟨⟨⟨⟨⟨trivial, ?_⟩, ?_⟩, ?_⟩, ?_⟩, ?_⟩, ?_⟩, ?_⟩, ?_⟩, ?_⟩, ?_⟩, ?_⟩, ?_⟩
  · exact Obl.brings (o_run 0 [] [] (fun _ _ => []) (fun _ _ => by as_aux_lemma => kernel_rfl)) (fun _ _ => trivial)
  · exact Obl.brings (o_run 1 [] [] (fun _ _ => []) (fun _ _ => by as_aux_lemma => kernel_rfl)) (fun _ _ => trivial)
  · exact Obl.brings (o_run 2 [] [] (fun _ _ => []) (fun _ _ => by as_aux_lemma => kernel_rfl)) (fun _ _ => trivial)
  · exact Obl.brings (o_run 3 [] [] (fun _ _ => []) (fun _ _ => by as_aux_lemma => kernel_rfl)) (fun _ _ => trivial)
  · exact Obl.brings (o_as 4 (fun _ => (.int .i64 (IntKind.i64.wrap (z + ((i : Nat) : Int))))) (fun _ => (.int .i64 (z + ((i : Nat) : Int)))) (fun _ _ => by as_aux_lemma => kernel_rfl) (fun _ => congrArg (Value.int .i64) (i64N (by have := bne0' hb1; have := rdE_in (bne0' hb1); have := of_decide_eq_true hb2; have := hz; have := hBl; have := hm; have := hi; omega)))) (fun _ _ => trivial)
  · exact o_semF 5 (fun _ => do pure (Next.value (← Instr.indexAt 22 (.slice a (B).length c) (.int .i64 (z + ((i : Nat) : Int)))))) (fun _ => (.pointer (adr a (z.toNat + i)))) (fun _ => (by as_aux_lemma => kernel_rfl)) (fun _ => (by as_aux_lemma => kernel_rfl)) (fun _ _ _ hG => idx_bytes Try.underlying22 u8i hG.facts0.now.1 rfl ((show z + ((i : Nat) : Int) = ((z.toNat + i : Nat) : Int) ∧ z.toNat + i < (B).length from ⟨(by have := bne0' hb1; have := rdE_in (bne0' hb1); have := of_decide_eq_true hb2; have := hz; have := hBl; have := hm; have := hi; omega), (by have := bne0' hb1; have := rdE_in (bne0' hb1); have := of_decide_eq_true hb2; have := hz; have := hBl; have := hm; have := hi; omega)⟩)).1 ((show z + ((i : Nat) : Int) = ((z.toNat + i : Nat) : Int) ∧ z.toNat + i < (B).length from ⟨(by have := bne0' hb1; have := rdE_in (bne0' hb1); have := of_decide_eq_true hb2; have := hz; have := hBl; have := hm; have := hi; omega), (by have := bne0' hb1; have := rdE_in (bne0' hb1); have := of_decide_eq_true hb2; have := hz; have := hBl; have := hm; have := hi; omega)⟩)).2) (fun _ _ _ _ => persT)
  · exact o_semF 6 (fun _ => do pure (Next.value (← Instr.loadAt 5 (.pointer (adr a (z.toNat + i)))))) (fun _ => (.int .u8 ((gB B (z.toNat + i) : Nat) : Int))) (fun _ => (by as_aux_lemma => kernel_rfl)) (fun _ => (by as_aux_lemma => kernel_rfl)) (fun _ _ _ hG => ld_bytes Try.isAgg5 hG.facts0.now.1 ((show z + ((i : Nat) : Int) = ((z.toNat + i : Nat) : Int) ∧ z.toNat + i < (B).length from ⟨(by have := bne0' hb1; have := rdE_in (bne0' hb1); have := of_decide_eq_true hb2; have := hz; have := hBl; have := hm; have := hi; omega), (by have := bne0' hb1; have := rdE_in (bne0' hb1); have := of_decide_eq_true hb2; have := hz; have := hBl; have := hm; have := hi; omega)⟩)).2) (fun _ _ _ _ => persT)
  · exact Obl.brings (o_run 7 [] [] (fun _ _ => []) (fun _ _ => by as_aux_lemma => kernel_rfl)) (fun _ _ => trivial)
  · exact Obl.brings (o_as 8 (fun _ => (.int .i64 (IntKind.i64.wrap (8 * ((i : Nat) : Int))))) (fun _ => (.int .i64 ((8 * i : Nat) : Int))) (fun _ _ => by as_aux_lemma => kernel_rfl) (fun _ => congrArg (Value.int .i64) (wrap_mulN 8 i (by have := bne0' hb1; have := rdE_in (bne0' hb1); have := of_decide_eq_true hb2; have := hz; have := hBl; have := hm; have := hi; omega)))) (fun _ _ => trivial)
  · exact Obl.brings (o_bin 9 .shl 5 (fun _ => (.int .u8 ((gB B (z.toNat + i) : Nat) : Int))) (fun _ => (.int .i64 ((8 * i : Nat) : Int))) (fun _ => (.int .u8 ((gB B (z.toNat + i) * 256 ^ i : Nat) : Int))) (fun _ => by as_aux_lemma => kernel_rfl) (fun _ _ _ _ => by as_aux_lemma => kernel_rfl) (fun _ w => run_shl8 (k := .u8) rfl B (z.toNat + i) i (by show 8 * (i + 1) ≤ 8; have := bne0' hb1; have := rdE_in (bne0' hb1); have := of_decide_eq_true hb2; have := hz; have := hBl; have := hm; have := hi; omega) w)) (fun _ _ => trivial)
  · exact Obl.brings (o_as 10 (fun _ => (.int .u8 (bits .or .u8 ((leN B z.toNat i : Nat) : Int) ((gB B (z.toNat + i) * 256 ^ i : Nat) : Int)))) (fun _ => (.int .u8 ((leN B z.toNat (i + 1) : Nat) : Int))) (fun _ _ => by as_aux_lemma => kernel_rfl) (fun _ => congrArg (Value.int .u8) (or_leN (k := .u8) rfl B z.toNat i (by show 8 * (i + 1) ≤ 8; have := bne0' hb1; have := rdE_in (bne0' hb1); have := of_decide_eq_true hb2; have := hz; have := hBl; have := hm; have := hi; omega)))) (fun _ _ => trivial)
  · exact Obl.brings (o_run 11 [] [] (fun _ _ => []) (fun _ _ => by as_aux_lemma => kernel_rfl)) (fun _ _ => trivial)
theorem read8_any_r10 (a : Option Addr) (c : Nat) (B : List UInt8) (z : Int) (m : Nat) (hz : -9223372036854775808 ≤ z ∧ z < 9223372036854775808) (hBl : B.length ≤ 140737488351232) (hm : 8 * m ≤ 8) (hb1 : ((rdE B.length z m) != 0) = false) (i : Nat) (hi : i ≤ m) (hb2 : (decide (((i : Nat) : Int) < ((m : Nat) : Int))) = true) (w0 : World) (F : World → Prop) : Reg Try.prog 9 (regOps Try.f51 9) false 39 [(0, (.slice a (B).length c)), (1, (.int .i64 z)), (2, (.int .i64 ((m : Nat) : Int))), (6, (.int .u8 0)), (7, (.int .i64 0)), (8, (.int .i64 0)), (10, (.int .u8 ((leN B z.toNat (i + 1) : Nat) : Int))), (19, (.int .i64 ((m : Nat) : Int))), (20, (.int .i64 ((i : Nat) : Int)))] w0 [] F
    (fun _ => [(0, (.slice a (B).length c)), (1, (.int .i64 z)), (2, (.int .i64 ((m : Nat) : Int))), (6, (.int .u8 0)), (7, (.int .i64 0)), (8, (.int .i64 0)), (10, (.int .u8 ((leN B z.toNat (i + 1) : Nat) : Int))), (19, (.int .i64 ((m : Nat) : Int))), (20, (.int .i64 ((i + 1 : Nat) : Int)))])
    (fun _ => []) := by
  refine reg_seq [0, 1] [0, 1, 2, 6, 7, 8, 10, 19, 20] 2
    (fun _ ι => ([(.int .i64 ((i + 1 : Nat) : Int)), (.int .i64 ((i + 1 : Nat) : Int))] : List Value).getD ι undef)
    (fun _ ι => ([{}, {}] : List Eff).getD ι {})
    (by as_aux_lemma => kernel_rfl) (by as_aux_lemma => kernel_rfl) (fun _ => by as_aux_lemma => kernel_rfl) (fun _ => by as_aux_lemma => kernel_rfl) ⟨⟨trivial, ?_⟩, ?_⟩
  · exact o_as 0 (fun _ => (.int .i64 (IntKind.i64.wrap (((i : Nat) : Int) + 1)))) (fun _ => (.int .i64 ((i + 1 : Nat) : Int))) (fun _ _ => by as_aux_lemma => kernel_rfl) (fun _ => congrArg (Value.int .i64) (wrap_addN i 1 (by have := bne0' hb1; have := rdE_in (bne0' hb1); have := of_decide_eq_true hb2; have := hz; have := hBl; have := hm; have := hi; omega)))
  · exact o_run 1 [] [] (fun _ _ => []) (fun _ _ => by as_aux_lemma => kernel_rfl)
theorem read8_any_r11 (a : Option Addr) (c : Nat) (B : List UInt8) (z : Int) (m : Nat) (hz : -9223372036854775808 ≤ z ∧ z < 9223372036854775808) (hBl : B.length ≤ 140737488351232) (hm : 8 * m ≤ 8) (hb1 : ((rdE B.length z m) != 0) = false) (i : Nat) (hi : i ≤ m) (hb2 : (decide (((i : Nat) : Int) < ((m : Nat) : Int))) = false) (w0 : World) (F : World → Prop) : Reg Try.prog 10 (regOps Try.f51 10) false 39 [(0, (.slice a (B).length c)), (1, (.int .i64 z)), (2, (.int .i64 ((m : Nat) : Int))), (6, (.int .u8 0)), (7, (.int .i64 0)), (8, (.int .i64 0)), (10, (.int .u8 ((leN B z.toNat i : Nat) : Int))), (19, (.int .i64 ((m : Nat) : Int))), (20, (.int .i64 ((i : Nat) : Int))), (21, (.bool false))] w0 [] F
    (fun _ => [(6, (.int .u8 ((leN B z.toNat i : Nat) : Int))), (7, (.int .i64 (z + ((m : Nat) : Int)))), (8, (.int .i64 0))])
    (fun _ => []) := by
  refine reg_seq [0, 1, 3, 7, 15, 31, 63] [6, 7, 8] 7
    (fun _ ι => ([(.int .u8 ((leN B z.toNat i : Nat) : Int)), (.int .i64 z), (.int .i64 ((m : Nat) : Int)), (.int .i64 (z + ((m : Nat) : Int))), (.int .u8 ((leN B z.toNat i : Nat) : Int)), (.int .i64 (z + ((m : Nat) : Int))), (.int .i64 0)] : List Value).getD ι undef)
    (fun _ ι => ([{}, {}, {}, {}, {}, {}, {}] : List Eff).getD ι {})
    (by as_aux_lemma => kernel_rfl) (by as_aux_lemma => kernel_rfl) (fun _ => by as_aux_lemma => kernel_rfl) (fun _ => by as_aux_lemma => kernel_rfl) ⟨⟨⟨⟨⟨⟨⟨trivial, ?_⟩, ?_⟩, ?_⟩, ?_⟩, ?_⟩, ?_⟩, ?_⟩
  · exact o_run 0 [] [] (fun _ _ => []) (fun _ _ => by as_aux_lemma => kernel_rfl)
  · exact o_run 1 [] [] (fun _ _ => []) (fun _ _ => by as_aux_lemma => kernel_rfl)
  · exact o_run 2 [] [] (fun _ _ => []) (fun _ _ => by as_aux_lemma => kernel_rfl)
  · exact o_as 3 (fun _ => (.int .i64 (IntKind.i64.wrap (z + ((m : Nat) : Int))))) (fun _ => (.int .i64 (z + ((m : Nat) : Int)))) (fun _ _ => by as_aux_lemma => kernel_rfl) (fun _ => congrArg (Value.int .i64) (i64N (by have := bne0' hb1; have := rdE_in (bne0' hb1); have := of_decide_eq_false hb2; have := hz; have := hBl; have := hm; have := hi; omega)))
  · exact o_run 4 [] [] (fun _ _ => []) (fun _ _ => by as_aux_lemma => kernel_rfl)
  · exact o_run 5 [] [] (fun _ _ => []) (fun _ _ => by as_aux_lemma => kernel_rfl)
  · exact o_run 6 [] [] (fun _ _ => []) (fun _ _ => by as_aux_lemma => kernel_rfl)
theorem read8_any (a : Option Addr) (c : Nat) (B : List UInt8) (z : Int) (m : Nat) (hz : -9223372036854775808 ≤ z ∧ z < 9223372036854775808) (hBl : B.length ≤ 140737488351232) (hm : 8 * m ≤ 8) (w0 : World) (hf0 : Bs w0 a c B) : Calls Try.prog 51 #[(.slice a (B).length c), (.int .i64 z), (.int .i64 ((m : Nat) : Int))] w0 (fun ε w' => ε = .returned (.tuple #[(.int .u8 ((rdV B z m : Nat) : Int)), (.int .i64 (rdN B.length z m)), (.int .i64 (rdE B.length z m))]) ∧ Below w0.heap.size w0 w') := by
  refine Calls.of_ok (n := 39) (F := (fun w => Bs w a c B ∧ True)) Try.func51 rfl rfl rfl (by simp) (hf0.pers0.and persT) ?_
  refine ok_seq_r (by as_aux_lemma => kernel_rfl) (read8_any_r1 a c B z m _ _) (fun _ => ?_)
  refine ok_seq ?_
  refine ok_seq_r (by as_aux_lemma => kernel_rfl) (read8_any_r2 a c B z m hz hBl hm _ _) (fun _ => ?_)
  refine ok_seq_r (by as_aux_lemma => kernel_rfl) (read8_any_r3 a c B z m _ _) (fun _ => ?_)
  refine ok_cond (b := (rdE B.length z m) != 0) (by as_aux_lemma => kernel_rfl) (fun hb1 => ?_) (fun hb1 => ?_)
  ·
    rw [hb1]
    refine ok_seq_r (by as_aux_lemma => kernel_rfl) (read8_any_r4 a c B z m _ _) (fun _ => ?_)
    refine ok_ret ?_
    refine mt_then_r ?_
    exact meets_ret (v := (.tuple #[(.int .u8 0), (.int .i64 0), (.int .i64 (rdE B.length z m))])) [] (dup []) (by as_aux_lemma => kernel_rfl) (by as_aux_lemma => kernel_rfl) (eqs_dup _) (fun _ hS => ⟨congrArg Ending.returned (rdT_err rfl (bne0 hb1)), hS.below⟩)
  ·
    rw [hb1]
    refine ok_skip ?_
    refine mt_then ?_
    refine ok_seq_r (by as_aux_lemma => kernel_rfl) (read8_any_r5 a c B z m _ _) (fun _ => ?_)
    refine ok_seq ?_
    refine ok_seq_r (by as_aux_lemma => kernel_rfl) (read8_any_r6 a c B z m _ _) (fun _ => ?_)
    refine ok_block ?_
    refine ok_loop (σ := Nat) (fun i => [(0, (.slice a (B).length c)), (1, (.int .i64 z)), (2, (.int .i64 ((m : Nat) : Int))), (6, (.int .u8 0)), (7, (.int .i64 0)), (8, (.int .i64 0)), (10, (.int .u8 ((leN B z.toNat i : Nat) : Int))), (19, (.int .i64 ((m : Nat) : Int))), (20, (.int .i64 ((i : Nat) : Int)))]) (fun _ => []) (fun i => m - i)
      (fun i => (i ≤ m)) 0 (Nat.zero_le m) (by as_aux_lemma => kernel_rfl) .slnil ?_
    rintro i hi
    change Ok Try.prog _ _ 39 [(0, (.slice a (B).length c)), (1, (.int .i64 z)), (2, (.int .i64 ((m : Nat) : Int))), (6, (.int .u8 0)), (7, (.int .i64 0)), (8, (.int .i64 0)), (10, (.int .u8 ((leN B z.toNat i : Nat) : Int))), (19, (.int .i64 ((m : Nat) : Int))), (20, (.int .i64 ((i : Nat) : Int)))] _ [] (fun w => Bs w a c B ∧ True)
    refine ok_seq_r (by as_aux_lemma => kernel_rfl) (read8_any_r7 a c B z m i _ _) (fun _ => ?_)
    refine ok_seq ?_
    refine ok_cond (b := decide (((i : Nat) : Int) < ((m : Nat) : Int))) (by as_aux_lemma => kernel_rfl) (fun hb2 => ?_) (fun hb2 => ?_)
    ·
      rw [hb2]
      refine ok_skip ?_
      refine mt_then ?_
      refine ok_seq ?_
      refine ok_block ?_
      refine ok_seq_r (by as_aux_lemma => kernel_rfl) (read8_any_r8 a c B z m i _ _) (fun _ => ?_)
      refine ok_rf (by as_aux_lemma => kernel_rfl) (read8_any_r9 a c B z m hz hBl hm hb1 i hi hb2 _) (fun _ => ?_)
      refine mt_block_n ?_
      refine mt_then ?_
      refine ok_r (by as_aux_lemma => kernel_rfl) (read8_any_r10 a c B z m hz hBl hm hb1 i hi hb2 _ _) (fun _ => ?_)
      exact mt_round (i + 1) (by show m - (i + 1) < m - i; have := bne0' hb1; have := rdE_in (bne0' hb1); have := of_decide_eq_true hb2; have := hz; have := hBl; have := hm; have := hi; omega) (by show i + 1 ≤ m; have := bne0' hb1; have := rdE_in (bne0' hb1); have := of_decide_eq_true hb2; have := hz; have := hBl; have := hm; have := hi; omega) (by as_aux_lemma => kernel_rfl) .slnil
    ·
      rw [hb2]
      refine ok_exit ?_
      refine mt_then_e ?_
      refine mt_then_e ?_
      refine mt_block_h ?_
      refine mt_then ?_
      refine ok_seq_r (by as_aux_lemma => kernel_rfl) (read8_any_r11 a c B z m hz hBl hm hb1 i hi hb2 _ _) (fun _ => ?_)
      refine ok_ret ?_
      exact meets_ret (v := (.tuple #[(.int .u8 ((leN B z.toNat i : Nat) : Int)), (.int .i64 (z + ((m : Nat) : Int))), (.int .i64 0)])) [] (dup []) (by as_aux_lemma => kernel_rfl) (by as_aux_lemma => kernel_rfl) (eqs_dup _) (fun _ hS => ⟨congrArg Ending.returned (rdT_ok (bne0' hb1) (by have := bne0' hb1; have := rdE_in (bne0' hb1); have := of_decide_eq_false hb2; have := hz; have := hBl; have := hm; have := hi; omega)), hS.below⟩)
theorem u8_any_r1 (a : Option Addr) (c : Nat) (B : List UInt8) (z : Int) (w0 : World) (F : World → Prop) : Reg Try.prog 0 (regOps Try.f30 0) false 13 [(0, (.slice a (B).length c)), (1, (.int .i64 z))] w0 [] F
    (fun _ => [(0, (.slice a (B).length c)), (1, (.int .i64 z)), (4, (.int .u8 0)), (5, (.int .i64 0)), (6, (.int .i64 0))])
    (fun _ => []) := by
  refine reg_seq [0, 1, 3] [0, 1, 4, 5, 6] 3
    (fun _ ι => ([(.int .u8 0), (.int .i64 0), (.int .i64 0)] : List Value).getD ι undef)
    (fun _ ι => ([{}, {}, {}] : List Eff).getD ι {})
    (by as_aux_lemma => kernel_rfl) (by as_aux_lemma => kernel_rfl) (fun _ => by as_aux_lemma => kernel_rfl) (fun _ => by as_aux_lemma => kernel_rfl) ⟨⟨⟨trivial, ?_⟩, ?_⟩, ?_⟩
  · exact o_run 0 [] [] (fun _ _ => []) (fun _ _ => by as_aux_lemma => kernel_rfl)
  · exact o_run 1 [] [] (fun _ _ => []) (fun _ _ => by as_aux_lemma => kernel_rfl)
  · exact o_run 2 [] [] (fun _ _ => []) (fun _ _ => by as_aux_lemma => kernel_rfl)
theorem u8_any_r2 (a : Option Addr) (c : Nat) (B : List UInt8) (z : Int) (hz : -9223372036854775808 ≤ z ∧ z < 9223372036854775808) (hBl : B.length ≤ 140737488351232) (w0 : World) : RegF Try.prog 1 (regOps Try.f30 1) false 13 [(0, (.slice a (B).length c)), (1, (.int .i64 z)), (4, (.int .u8 0)), (5, (.int .i64 0)), (6, (.int .i64 0))] w0 [] (fun w => Bs w a c B ∧ True)
    (fun _ => [(4, (.int .u8 ((rdV B z 1 : Nat) : Int))), (5, (.int .i64 (rdN B.length z 1))), (6, (.int .i64 (rdE B.length z 1)))])
    (fun _ => []) (fun _ => (fun w => Bs w a c B ∧ True)) := by
  refine reg_seq_f [0, 1, 3, 7, 15, 31, 63, 127, 255] [4, 5, 6] 9
    (fun _ ι => ([(.slice a (B).length c), (.int .i64 z), (.tuple #[(.int .u8 ((rdV B z 1 : Nat) : Int)), (.int .i64 (rdN B.length z 1)), (.int .i64 (rdE B.length z 1))]), (.int .u8 ((rdV B z 1 : Nat) : Int)), (.int .i64 (rdN B.length z 1)), (.int .i64 (rdE B.length z 1)), (.int .u8 ((rdV B z 1 : Nat) : Int)), (.int .i64 (rdN B.length z 1)), (.int .i64 (rdE B.length z 1))] : List Value).getD ι undef)
    (fun _ ι => ([{}, {}, {}, {}, {}, {}, {}, {}, {}] : List Eff).getD ι {})
    (fun _ ι => ([(fun _ => True), (fun _ => True), (fun _ => True), (fun _ => True), (fun _ => True), (fun _ => True), (fun _ => True), (fun _ => True), (fun _ => True)] : List (World → Prop)).getD ι (fun _ => True))
    (by as_aux_lemma => kernel_rfl) (by as_aux_lemma => kernel_rfl) (fun _ => by as_aux_lemma => kernel_rfl) (fun _ => by as_aux_lemma => kernel_rfl) (fun _ _ hF _ => ⟨hF.1, trivial⟩) ⟨⟨⟨⟨⟨⟨⟨⟨⟨trivial, ?_⟩, ?_⟩, ?_⟩, ?_⟩, ?_⟩, ?_⟩, ?_⟩, ?_⟩, ?_⟩
  · exact Obl.brings (o_run 0 [] [] (fun _ _ => []) (fun _ _ => by as_aux_lemma => kernel_rfl)) (fun _ _ => trivial)
  · exact Obl.brings (o_run 1 [] [] (fun _ _ => []) (fun _ _ => by as_aux_lemma => kernel_rfl)) (fun _ _ => trivial)
  · exact o_callP 2 51 (fun _ => #[(.slice a (B).length c), (.int .i64 z), (.int .i64 1)]) (fun _ => (.tuple #[(.int .u8 ((rdV B z 1 : Nat) : Int)), (.int .i64 (rdN B.length z 1)), (.int .i64 (rdE B.length z 1))])) (fun _ _ => (by as_aux_lemma => kernel_rfl)) (fun _ => (by as_aux_lemma => kernel_rfl)) (fun _ _ => (by as_aux_lemma => kernel_rfl)) (fun _ _ => trivial) (fun _ _ w hG => read8_any a c B z 1 (by have := hz; have := hBl; omega) hBl (by decide) w hG.facts0.now.1)
  · exact Obl.brings (o_run 3 [] [] (fun _ _ => []) (fun _ _ => by as_aux_lemma => kernel_rfl)) (fun _ _ => trivial)
  · exact Obl.brings (o_run 4 [] [] (fun _ _ => []) (fun _ _ => by as_aux_lemma => kernel_rfl)) (fun _ _ => trivial)
  · exact Obl.brings (o_run 5 [] [] (fun _ _ => []) (fun _ _ => by as_aux_lemma => kernel_rfl)) (fun _ _ => trivial)
  · exact Obl.brings (o_run 6 [] [] (fun _ _ => []) (fun _ _ => by as_aux_lemma => kernel_rfl)) (fun _ _ => trivial)
  · exact Obl.brings (o_run 7 [] [] (fun _ _ => []) (fun _ _ => by as_aux_lemma => kernel_rfl)) (fun _ _ => trivial)
  · exact Obl.brings (o_run 8 [] [] (fun _ _ => []) (fun _ _ => by as_aux_lemma => kernel_rfl)) (fun _ _ => trivial)
theorem u8_any (a : Option Addr) (c : Nat) (B : List UInt8) (z : Int) (hz : -9223372036854775808 ≤ z ∧ z < 9223372036854775808) (hBl : B.length ≤ 140737488351232) (w0 : World) (hf0 : Bs w0 a c B) : Calls Try.prog 30 #[(.slice a (B).length c), (.int .i64 z)] w0 (fun ε w' => ε = .returned (.tuple #[(.int .u8 ((rdV B z 1 : Nat) : Int)), (.int .i64 (rdN B.length z 1)), (.int .i64 (rdE B.length z 1))]) ∧ Below w0.heap.size w0 w') := by
  refine Calls.of_ok (n := 13) (F := (fun w => Bs w a c B ∧ True)) Try.func30 rfl rfl rfl (by simp) (hf0.pers0.and persT) ?_
  refine ok_seq_r (by as_aux_lemma => kernel_rfl) (u8_any_r1 a c B z _ _) (fun _ => ?_)
  refine ok_seq_rf (by as_aux_lemma => kernel_rfl) (u8_any_r2 a c B z hz hBl _) (fun _ => ?_)
  refine ok_ret ?_
  exact meets_ret (v := (.tuple #[(.int .u8 ((rdV B z 1 : Nat) : Int)), (.int .i64 (rdN B.length z 1)), (.int .i64 (rdE B.length z 1))])) [] (dup []) (by as_aux_lemma => kernel_rfl) (by as_aux_lemma => kernel_rfl) (eqs_dup _) (fun _ hS => ⟨rfl, hS.below⟩)
theorem read16_any_r1 (a : Option Addr) (c : Nat) (B : List UInt8) (z : Int) (m : Nat) (w0 : World) (F : World → Prop) : Reg Try.prog 0 (regOps Try.f52 0) false 40 [(0, (.slice a (B).length c)), (1, (.int .i64 z)), (2, (.int .i64 ((m : Nat) : Int)))] w0 [] F
    (fun _ => [(0, (.slice a (B).length c)), (1, (.int .i64 z)), (2, (.int .i64 ((m : Nat) : Int))), (6, (.int .u16 0)), (7, (.int .i64 0)), (8, (.int .i64 0))])
    (fun _ => []) := by
  refine reg_seq [0, 1, 3] [0, 1, 2, 6, 7, 8] 3
    (fun _ ι => ([(.int .u16 0), (.int .i64 0), (.int .i64 0)] : List Value).getD ι undef)
    (fun _ ι => ([{}, {}, {}] : List Eff).getD ι {})
    (by as_aux_lemma => kernel_rfl) (by as_aux_lemma => kernel_rfl) (fun _ => by as_aux_lemma => kernel_rfl) (fun _ => by as_aux_lemma => kernel_rfl) ⟨⟨⟨trivial, ?_⟩, ?_⟩, ?_⟩
  · exact o_run 0 [] [] (fun _ _ => []) (fun _ _ => by as_aux_lemma => kernel_rfl)
  · exact o_run 1 [] [] (fun _ _ => []) (fun _ _ => by as_aux_lemma => kernel_rfl)
  · exact o_run 2 [] [] (fun _ _ => []) (fun _ _ => by as_aux_lemma => kernel_rfl)
theorem read16_any_r2 (a : Option Addr) (c : Nat) (B : List UInt8) (z : Int) (m : Nat) (hz : -9223372036854775808 ≤ z ∧ z < 9223372036854775808) (hBl : B.length ≤ 140737488351232) (hm : 8 * m ≤ 16) (w0 : World) (F : World → Prop) : Reg Try.prog 1 (regOps Try.f52 1) false 40 [(0, (.slice a (B).length c)), (1, (.int .i64 z)), (2, (.int .i64 ((m : Nat) : Int))), (6, (.int .u16 0)), (7, (.int .i64 0)), (8, (.int .i64 0))] w0 [] F
    (fun _ => [(0, (.slice a (B).length c)), (1, (.int .i64 z)), (2, (.int .i64 ((m : Nat) : Int))), (6, (.int .u16 0)), (7, (.int .i64 0)), (8, (.int .i64 0)), (9, (.int .i64 (rdE B.length z m)))])
    (fun _ => []) := by
  refine reg_seq [0, 1, 3, 7, 15] [0, 1, 2, 6, 7, 8, 9] 5
    (fun _ ι => ([(.slice a (B).length c), (.int .i64 z), (.int .i64 ((m : Nat) : Int)), (.int .i64 (rdE B.length z m)), (.int .i64 (rdE B.length z m))] : List Value).getD ι undef)
    (fun _ ι => ([{}, {}, {}, {}, {}] : List Eff).getD ι {})
    (by as_aux_lemma => kernel_rfl) (by as_aux_lemma => kernel_rfl) (fun _ => by as_aux_lemma => kernel_rfl) (fun _ => by as_aux_lemma => kernel_rfl) ⟨⟨⟨⟨⟨trivial, ?_⟩, ?_⟩, ?_⟩, ?_⟩, ?_⟩
  · exact o_run 0 [] [] (fun _ _ => []) (fun _ _ => by as_aux_lemma => kernel_rfl)
  · exact o_run 1 [] [] (fun _ _ => []) (fun _ _ => by as_aux_lemma => kernel_rfl)
  · exact o_run 2 [] [] (fun _ _ => []) (fun _ _ => by as_aux_lemma => kernel_rfl)
  · exact o_call 3 55 (fun _ => #[(.slice a (B).length c), (.int .i64 z), (.int .i64 ((m : Nat) : Int))]) (fun _ => (.int .i64 (rdE B.length z m))) (fun _ _ => by as_aux_lemma => kernel_rfl) (fun _ w => (fun w => room_any a c B z m (by have := hz; have := hBl; have := hm; omega) hBl (by have := hz; have := hBl; have := hm; omega) w) w)
  · exact o_run 4 [] [] (fun _ _ => []) (fun _ _ => by as_aux_lemma => kernel_rfl)
theorem read16_any_r3 (a : Option Addr) (c : Nat) (B : List UInt8) (z : Int) (m : Nat) (w0 : World) (F : World → Prop) : Reg Try.prog 2 (regOps Try.f52 2) false 40 [(0, (.slice a (B).length c)), (1, (.int .i64 z)), (2, (.int .i64 ((m : Nat) : Int))), (6, (.int .u16 0)), (7, (.int .i64 0)), (8, (.int .i64 0)), (9, (.int .i64 (rdE B.length z m)))] w0 [] F
    (fun _ => [(0, (.slice a (B).length c)), (1, (.int .i64 z)), (2, (.int .i64 ((m : Nat) : Int))), (6, (.int .u16 0)), (7, (.int .i64 0)), (8, (.int .i64 0)), (9, (.int .i64 (rdE B.length z m))), (17, (.bool ((rdE B.length z m) != 0)))])
    (fun _ => []) := by
  refine reg_seq [0, 1] [0, 1, 2, 6, 7, 8, 9, 17] 2
    (fun _ ι => ([(.int .i64 (rdE B.length z m)), (.bool ((rdE B.length z m) != 0))] : List Value).getD ι undef)
    (fun _ ι => ([{}, {}] : List Eff).getD ι {})
    (by as_aux_lemma => kernel_rfl) (by as_aux_lemma => kernel_rfl) (fun _ => by as_aux_lemma => kernel_rfl) (fun _ => by as_aux_lemma => kernel_rfl) ⟨⟨trivial, ?_⟩, ?_⟩
  · exact o_run 0 [] [] (fun _ _ => []) (fun _ _ => by as_aux_lemma => kernel_rfl)
  · exact o_run 1 [] [] (fun _ _ => []) (fun _ _ => by as_aux_lemma => kernel_rfl)
theorem read16_any_r4 (a : Option Addr) (c : Nat) (B : List UInt8) (z : Int) (m : Nat) (w0 : World) (F : World → Prop) : Reg Try.prog 3 (regOps Try.f52 3) false 40 [(0, (.slice a (B).length c)), (1, (.int .i64 z)), (2, (.int .i64 ((m : Nat) : Int))), (6, (.int .u16 0)), (7, (.int .i64 0)), (8, (.int .i64 0)), (9, (.int .i64 (rdE B.length z m))), (17, (.bool true))] w0 [] F
    (fun _ => [(0, (.slice a (B).length c)), (1, (.int .i64 z)), (2, (.int .i64 ((m : Nat) : Int))), (6, (.int .u16 0)), (7, (.int .i64 0)), (8, (.int .i64 (rdE B.length z m)))])
    (fun _ => []) := by
  refine reg_seq [0, 1, 3, 7] [0, 1, 2, 6, 7, 8] 4
    (fun _ ι => ([(.int .i64 (rdE B.length z m)), (.int .u16 0), (.int .i64 0), (.int .i64 (rdE B.length z m))] : List Value).getD ι undef)
    (fun _ ι => ([{}, {}, {}, {}] : List Eff).getD ι {})
    (by as_aux_lemma => kernel_rfl) (by as_aux_lemma => kernel_rfl) (fun _ => by as_aux_lemma => kernel_rfl) (fun _ => by as_aux_lemma => kernel_rfl) ⟨⟨⟨⟨trivial, ?_⟩, ?_⟩, ?_⟩, ?_⟩
  · exact o_run 0 [] [] (fun _ _ => []) (fun _ _ => by as_aux_lemma => kernel_rfl)
  · exact o_run 1 [] [] (fun _ _ => []) (fun _ _ => by as_aux_lemma => kernel_rfl)
  · exact o_run 2 [] [] (fun _ _ => []) (fun _ _ => by as_aux_lemma => kernel_rfl)
  · exact o_run 3 [] [] (fun _ _ => []) (fun _ _ => by as_aux_lemma => kernel_rfl)
theorem read16_any_r5 (a : Option Addr) (c : Nat) (B : List UInt8) (z : Int) (m : Nat) (w0 : World) (F : World → Prop) : Reg Try.prog 4 (regOps Try.f52 4) false 40 [(0, (.slice a (B).length c)), (1, (.int .i64 z)), (2, (.int .i64 ((m : Nat) : Int))), (6, (.int .u16 0)), (7, (.int .i64 0)), (8, (.int .i64 0)), (9, (.int .i64 (rdE B.length z m))), (17, (.bool false))] w0 [] F
    (fun _ => [(0, (.slice a (B).length c)), (1, (.int .i64 z)), (2, (.int .i64 ((m : Nat) : Int))), (6, (.int .u16 0)), (7, (.int .i64 0)), (8, (.int .i64 0)), (10, (.int .u16 0))])
    (fun _ => []) := by
  refine reg_seq [0] [0, 1, 2, 6, 7, 8, 10] 1
    (fun _ ι => ([(.int .u16 0)] : List Value).getD ι undef)
    (fun _ ι => ([{}] : List Eff).getD ι {})
    (by as_aux_lemma => kernel_rfl) (by as_aux_lemma => kernel_rfl) (fun _ => by as_aux_lemma => kernel_rfl) (fun _ => by as_aux_lemma => kernel_rfl) ⟨trivial, ?_⟩
  · exact o_run 0 [] [] (fun _ _ => []) (fun _ _ => by as_aux_lemma => kernel_rfl)
theorem read16_any_r6 (a : Option Addr) (c : Nat) (B : List UInt8) (z : Int) (m : Nat) (w0 : World) (F : World → Prop) : Reg Try.prog 5 (regOps Try.f52 5) false 40 [(0, (.slice a (B).length c)), (1, (.int .i64 z)), (2, (.int .i64 ((m : Nat) : Int))), (6, (.int .u16 0)), (7, (.int .i64 0)), (8, (.int .i64 0)), (10, (.int .u16 0))] w0 [] F
    (fun _ => [(0, (.slice a (B).length c)), (1, (.int .i64 z)), (2, (.int .i64 ((m : Nat) : Int))), (6, (.int .u16 0)), (7, (.int .i64 0)), (8, (.int .i64 0)), (10, (.int .u16 0)), (19, (.int .i64 ((m : Nat) : Int))), (20, (.int .i64 0))])
    (fun _ => []) := by
  refine reg_seq [0, 1] [0, 1, 2, 6, 7, 8, 10, 19, 20] 2
    (fun _ ι => ([(.int .i64 ((m : Nat) : Int)), (.int .i64 0)] : List Value).getD ι undef)
    (fun _ ι => ([{}, {}] : List Eff).getD ι {})
    (by as_aux_lemma => kernel_rfl) (by as_aux_lemma => kernel_rfl) (fun _ => by as_aux_lemma => kernel_rfl) (fun _ => by as_aux_lemma => kernel_rfl) ⟨⟨trivial, ?_⟩, ?_⟩
  · exact o_run 0 [] [] (fun _ _ => []) (fun _ _ => by as_aux_lemma => kernel_rfl)
  · exact o_run 1 [] [] (fun _ _ => []) (fun _ _ => by as_aux_lemma => kernel_rfl)
theorem read16_any_r7 (a : Option Addr) (c : Nat) (B : List UInt8) (z : Int) (m : Nat) (i : Nat) (w0 : World) (F : World → Prop) : Reg Try.prog 6 (regOps Try.f52 6) false 40 [(0, (.slice a (B).length c)), (1, (.int .i64 z)), (2, (.int .i64 ((m : Nat) : Int))), (6, (.int .u16 0)), (7, (.int .i64 0)), (8, (.int .i64 0)), (10, (.int .u16 ((leN B z.toNat i : Nat) : Int))), (19, (.int .i64 ((m : Nat) : Int))), (20, (.int .i64 ((i : Nat) : Int)))] w0 [] F
    (fun _ => [(0, (.slice a (B).length c)), (1, (.int .i64 z)), (2, (.int .i64 ((m : Nat) : Int))), (6, (.int .u16 0)), (7, (.int .i64 0)), (8, (.int .i64 0)), (10, (.int .u16 ((leN B z.toNat i : Nat) : Int))), (19, (.int .i64 ((m : Nat) : Int))), (20, (.int .i64 ((i : Nat) : Int))), (21, (.bool (decide (((i : Nat) : Int) < ((m : Nat) : Int)))))])
    (fun _ => []) := by
  refine reg_seq [0] [0, 1, 2, 6, 7, 8, 10, 19, 20, 21] 1
    (fun _ ι => ([(.bool (decide (((i : Nat) : Int) < ((m : Nat) : Int))))] : List Value).getD ι undef)
    (fun _ ι => ([{}] : List Eff).getD ι {})
    (by as_aux_lemma => kernel_rfl) (by as_aux_lemma => kernel_rfl) (fun _ => by as_aux_lemma => kernel_rfl) (fun _ => by as_aux_lemma => kernel_rfl) ⟨trivial, ?_⟩
  · exact o_run 0 [] [] (fun _ _ => []) (fun _ _ => by as_aux_lemma => kernel_rfl)
theorem read16_any_r8 (a : Option Addr) (c : Nat) (B : List UInt8) (z : Int) (m : Nat) (i : Nat) (w0 : World) (F : World → Prop) : Reg Try.prog 7 (regOps Try.f52 7) false 40 [(0, (.slice a (B).length c)), (1, (.int .i64 z)), (2, (.int .i64 ((m : Nat) : Int))), (6, (.int .u16 0)), (7, (.int .i64 0)), (8, (.int .i64 0)), (10, (.int .u16 ((leN B z.toNat i : Nat) : Int))), (19, (.int .i64 ((m : Nat) : Int))), (20, (.int .i64 ((i : Nat) : Int))), (21, (.bool true))] w0 [] F
    (fun _ => [(0, (.slice a (B).length c)), (1, (.int .i64 z)), (2, (.int .i64 ((m : Nat) : Int))), (6, (.int .u16 0)), (7, (.int .i64 0)), (8, (.int .i64 0)), (10, (.int .u16 ((leN B z.toNat i : Nat) : Int))), (11, (.int .i64 ((i : Nat) : Int))), (19, (.int .i64 ((m : Nat) : Int))), (20, (.int .i64 ((i : Nat) : Int)))])
    (fun _ => []) := by
  refine reg_seq [0, 1] [0, 1, 2, 6, 7, 8, 10, 11, 19, 20] 2
    (fun _ ι => ([(.int .i64 ((i : Nat) : Int)), (.int .i64 ((i : Nat) : Int))] : List Value).getD ι undef)
    (fun _ ι => ([{}, {}] : List Eff).getD ι {})
    (by as_aux_lemma => kernel_rfl) (by as_aux_lemma => kernel_rfl) (fun _ => by as_aux_lemma => kernel_rfl) (fun _ => by as_aux_lemma => kernel_rfl) ⟨⟨trivial, ?_⟩, ?_⟩
  · exact o_run 0 [] [] (fun _ _ => []) (fun _ _ => by as_aux_lemma => kernel_rfl)
  · exact o_run 1 [] [] (fun _ _ => []) (fun _ _ => by as_aux_lemma => kernel_rfl)
theorem read16_any_r9 (a : Option Addr) (c : Nat) (B : List UInt8) (z : Int) (m : Nat) (hz : -9223372036854775808 ≤ z ∧ z < 9223372036854775808) (hBl : B.length ≤ 140737488351232) (hm : 8 * m ≤ 16) (hb1 : ((rdE B.length z m) != 0) = false) (i : Nat) (hi : i ≤ m) (hb2 : (decide (((i : Nat) : Int) < ((m : Nat) : Int))) = true) (w0 : World) : RegF Try.prog 8 (regOps Try.f52 8) false 40 [(0, (.slice a (B).length c)), (1, (.int .i64 z)), (2, (.int .i64 ((m : Nat) : Int))), (6, (.int .u16 0)), (7, (.int .i64 0)), (8, (.int .i64 0)), (10, (.int .u16 ((leN B z.toNat i : Nat) : Int))), (11, (.int .i64 ((i : Nat) : Int))), (19, (.int .i64 ((m : Nat) : Int))), (20, (.int .i64 ((i : Nat) : Int)))] w0 [] (fun w => Bs w a c B ∧ True)
    (fun _ => [(0, (.slice a (B).length c)), (1, (.int .i64 z)), (2, (.int .i64 ((m : Nat) : Int))), (6, (.int .u16 0)), (7, (.int .i64 0)), (8, (.int .i64 0)), (10, (.int .u16 ((leN B z.toNat (i + 1) : Nat) : Int))), (19, (.int .i64 ((m : Nat) : Int))), (20, (.int .i64 ((i : Nat) : Int)))])
    (fun _ => []) (fun _ => (fun w => Bs w a c B ∧ True)) := by
  refine reg_seq_f [0, 1, 3, 7, 15, 31, 63, 127, 255, 511, 1023, 2047, 4095] [0, 1, 2, 6, 7, 8, 10, 19, 20] 13
    (fun _ ι => ([(.int .u16 ((leN B z.toNat i : Nat) : Int)), (.slice a (B).length c), (.int .i64 z), (.int .i64 ((i : Nat) : Int)), (.int .i64 (z + ((i : Nat) : Int))), (.pointer (adr a (z.toNat + i))), (.int .u8 ((gB B (z.toNat + i) : Nat) : Int)), (.int .u16 ((gB B (z.toNat + i) : Nat) : Int)), (.int .i64 ((i : Nat) : Int)), (.int .i64 ((8 * i : Nat) : Int)), (.int .u16 ((gB B (z.toNat + i) * 256 ^ i : Nat) : Int)), (.int .u16 ((leN B z.toNat (i + 1) : Nat) : Int)), (.int .u16 ((leN B z.toNat (i + 1) : Nat) : Int))] : List Value).getD ι undef)
    (fun _ ι => ([{}, {}, {}, {}, {}, {}, {}, {}, {}, {}, {}, {}, {}] : List Eff).getD ι {})
    (fun _ ι => ([(fun _ => True), (fun _ => True), (fun _ => True), (fun _ => True), (fun _ => True), (fun _ => True), (fun _ => True), (fun _ => True), (fun _ => True), (fun _ => True), (fun _ => True), (fun _ => True), (fun _ => True)] : List (World → Prop)).getD ι (fun _ => True))
    (by as_aux_lemma => kernel_rfl) (by as_aux_lemma => kernel_rfl) (fun _ => by as_aux_lemma => kernel_rfl) (fun _ => by as_aux_lemma => kernel_rfl) (fun _ _ hF _ => ⟨hF.1, trivial⟩) ⟨⟨⟨⟨⟨⟨⟨⟨⟨⟨⟨⟨⟨trivial, ?_⟩, ?_⟩, ?_⟩, ?_⟩, ?_⟩, ?_⟩, ?_⟩, ?_⟩, ?_⟩, ?_⟩, ?_⟩, ?_⟩, ?_⟩
  · exact Obl.brings (o_run 0 [] [] (fun _ _ => []) (fun _ _ => by as_aux_lemma => kernel_rfl)) (fun _ _ => trivial)
  · exact Obl.brings (o_run 1 [] [] (fun _ _ => []) (fun _ _ => by as_aux_lemma => kernel_rfl)) (fun _ _ => trivial)
  · exact Obl.brings (o_run 2 [] [] (fun _ _ => []) (fun _ _ => by as_aux_lemma => kernel_rfl)) (fun _ _ => trivial)
  · exact Obl.brings (o_run 3 [] [] (fun _ _ => []) (fun _ _ => by as_aux_lemma => kernel_rfl)) (fun _ _ => trivial)
  · exact Obl.brings (o_as 4 (fun _ => (.int .i64 (IntKind.i64.wrap (z + ((i : Nat) : Int))))) (fun _ => (.int .i64 (z + ((i : Nat) : Int)))) (fun _ _ => by as_aux_lemma => kernel_rfl) (fun _ => congrArg (Value.int .i64) (i64N (by have := bne0' hb1; have := rdE_in (bne0' hb1); have := of_decide_eq_true hb2; have := hz; have := hBl; have := hm; have := hi; omega)))) (fun _ _ => trivial)
  · exact o_semF 5 (fun _ => do pure (Next.value (← Instr.indexAt 22 (.slice a (B).length c) (.int .i64 (z + ((i : Nat) : Int)))))) (fun _ => (.pointer (adr a (z.toNat + i)))) (fun _ => (by as_aux_lemma => kernel_rfl)) (fun _ => (by as_aux_lemma => kernel_rfl)) (fun _ _ _ hG => idx_bytes Try.underlying22 u8i hG.facts0.now.1 rfl ((show z + ((i : Nat) : Int) = ((z.toNat + i : Nat) : Int) ∧ z.toNat + i < (B).length from ⟨(by have := bne0' hb1; have := rdE_in (bne0' hb1); have := of_decide_eq_true hb2; have := hz; have := hBl; have := hm; have := hi; omega), (by have := bne0' hb1; have := rdE_in (bne0' hb1); have := of_decide_eq_true hb2; have := hz; have := hBl; have := hm; have := hi; omega)⟩)).1 ((show z + ((i : Nat) : Int) = ((z.toNat + i : Nat) : Int) ∧ z.toNat + i < (B).length from ⟨(by have := bne0' hb1; have := rdE_in (bne0' hb1); have := of_decide_eq_true hb2; have := hz; have := hBl; have := hm; have := hi; omega), (by have := bne0' hb1; have := rdE_in (bne0' hb1); have := of_decide_eq_true hb2; have := hz; have := hBl; have := hm; have := hi; omega)⟩)).2) (fun _ _ _ _ => persT)
  · exact o_semF 6 (fun _ => do pure (Next.value (← Instr.loadAt 5 (.pointer (adr a (z.toNat + i)))))) (fun _ => (.int .u8 ((gB B (z.toNat + i) : Nat) : Int))) (fun _ => (by as_aux_lemma => kernel_rfl)) (fun _ => (by as_aux_lemma => kernel_rfl)) (fun _ _ _ hG => ld_bytes Try.isAgg5 hG.facts0.now.1 ((show z + ((i : Nat) : Int) = ((z.toNat + i : Nat) : Int) ∧ z.toNat + i < (B).length from ⟨(by have := bne0' hb1; have := rdE_in (bne0' hb1); have := of_decide_eq_true hb2; have := hz; have := hBl; have := hm; have := hi; omega), (by have := bne0' hb1; have := rdE_in (bne0' hb1); have := of_decide_eq_true hb2; have := hz; have := hBl; have := hm; have := hi; omega)⟩)).2) (fun _ _ _ _ => persT)
  · exact Obl.brings (o_as 7 (fun _ => (.int .u16 (IntKind.u16.wrap (((gB B (z.toNat + i) : Nat) : Int))))) (fun _ => (.int .u16 ((gB B (z.toNat + i) : Nat) : Int))) (fun _ _ => by as_aux_lemma => kernel_rfl) (fun _ => congrArg (Value.int .u16) (gB_in (k := .u16) rfl (by decide) B (z.toNat + i)))) (fun _ _ => trivial)
  · exact Obl.brings (o_run 8 [] [] (fun _ _ => []) (fun _ _ => by as_aux_lemma => kernel_rfl)) (fun _ _ => trivial)
  · exact Obl.brings (o_as 9 (fun _ => (.int .i64 (IntKind.i64.wrap (8 * ((i : Nat) : Int))))) (fun _ => (.int .i64 ((8 * i : Nat) : Int))) (fun _ _ => by as_aux_lemma => kernel_rfl) (fun _ => congrArg (Value.int .i64) (wrap_mulN 8 i (by have := bne0' hb1; have := rdE_in (bne0' hb1); have := of_decide_eq_true hb2; have := hz; have := hBl; have := hm; have := hi; omega)))) (fun _ _ => trivial)
  · exact Obl.brings (o_bin 10 .shl 35 (fun _ => (.int .u16 ((gB B (z.toNat + i) : Nat) : Int))) (fun _ => (.int .i64 ((8 * i : Nat) : Int))) (fun _ => (.int .u16 ((gB B (z.toNat + i) * 256 ^ i : Nat) : Int))) (fun _ => by as_aux_lemma => kernel_rfl) (fun _ _ _ _ => by as_aux_lemma => kernel_rfl) (fun _ w => run_shl8 (k := .u16) rfl B (z.toNat + i) i (by show 8 * (i + 1) ≤ 16; have := bne0' hb1; have := rdE_in (bne0' hb1); have := of_decide_eq_true hb2; have := hz; have := hBl; have := hm; have := hi; omega) w)) (fun _ _ => trivial)
  · exact Obl.brings (o_as 11 (fun _ => (.int .u16 (bits .or .u16 ((leN B z.toNat i : Nat) : Int) ((gB B (z.toNat + i) * 256 ^ i : Nat) : Int)))) (fun _ => (.int .u16 ((leN B z.toNat (i + 1) : Nat) : Int))) (fun _ _ => by as_aux_lemma => kernel_rfl) (fun _ => congrArg (Value.int .u16) (or_leN (k := .u16) rfl B z.toNat i (by show 8 * (i + 1) ≤ 16; have := bne0' hb1; have := rdE_in (bne0' hb1); have := of_decide_eq_true hb2; have := hz; have := hBl; have := hm; have := hi; omega)))) (fun _ _ => trivial)
  · exact Obl.brings (o_run 12 [] [] (fun _ _ => []) (fun _ _ => by as_aux_lemma => kernel_rfl)) (fun _ _ => trivial)
theorem read16_any_r10 (a : Option Addr) (c : Nat) (B : List UInt8) (z : Int) (m : Nat) (hz : -9223372036854775808 ≤ z ∧ z < 9223372036854775808) (hBl : B.length ≤ 140737488351232) (hm : 8 * m ≤ 16) (hb1 : ((rdE B.length z m) != 0) = false) (i : Nat) (hi : i ≤ m) (hb2 : (decide (((i : Nat) : Int) < ((m : Nat) : Int))) = true) (w0 : World) (F : World → Prop) : Reg Try.prog 9 (regOps Try.f52 9) false 40 [(0, (.slice a (B).length c)), (1, (.int .i64 z)), (2, (.int .i64 ((m : Nat) : Int))), (6, (.int .u16 0)), (7, (.int .i64 0)), (8, (.int .i64 0)), (10, (.int .u16 ((leN B z.toNat (i + 1) : Nat) : Int))), (19, (.int .i64 ((m : Nat) : Int))), (20, (.int .i64 ((i : Nat) : Int)))] w0 [] F
    (fun _ => [(0, (.slice a (B).length c)), (1, (.int .i64 z)), (2, (.int .i64 ((m : Nat) : Int))), (6, (.int .u16 0)), (7, (.int .i64 0)), (8, (.int .i64 0)), (10, (.int .u16 ((leN B z.toNat (i + 1) : Nat) : Int))), (19, (.int .i64 ((m : Nat) : Int))), (20, (.int .i64 ((i + 1 : Nat) : Int)))])
    (fun _ => []) := by
  refine reg_seq [0, 1] [0, 1, 2, 6, 7, 8, 10, 19, 20] 2
    (fun _ ι => ([(.int .i64 ((i + 1 : Nat) : Int)), (.int .i64 ((i + 1 : Nat) : Int))] : List Value).getD ι undef)
    (fun _ ι => ([{}, {}] : List Eff).getD ι {})
    (by as_aux_lemma => kernel_rfl) (by as_aux_lemma => kernel_rfl) (fun _ => by as_aux_lemma => kernel_rfl) (fun _ => by as_aux_lemma => kernel_rfl) ⟨⟨trivial, ?_⟩, ?_⟩
  · exact o_as 0 (fun _ => (.int .i64 (IntKind.i64.wrap (((i : Nat) : Int) + 1)))) (fun _ => (.int .i64 ((i + 1 : Nat) : Int))) (fun _ _ => by as_aux_lemma => kernel_rfl) (fun _ => congrArg (Value.int .i64) (wrap_addN i 1 (by have := bne0' hb1; have := rdE_in (bne0' hb1); have := of_decide_eq_true hb2; have := hz; have := hBl; have := hm; have := hi; omega)))
  · exact o_run 1 [] [] (fun _ _ => []) (fun _ _ => by as_aux_lemma => kernel_rfl)
theorem read16_any_r11 (a : Option Addr) (c : Nat) (B : List UInt8) (z : Int) (m : Nat) (hz : -9223372036854775808 ≤ z ∧ z < 9223372036854775808) (hBl : B.length ≤ 140737488351232) (hm : 8 * m ≤ 16) (hb1 : ((rdE B.length z m) != 0) = false) (i : Nat) (hi : i ≤ m) (hb2 : (decide (((i : Nat) : Int) < ((m : Nat) : Int))) = false) (w0 : World) (F : World → Prop) : Reg Try.prog 10 (regOps Try.f52 10) false 40 [(0, (.slice a (B).length c)), (1, (.int .i64 z)), (2, (.int .i64 ((m : Nat) : Int))), (6, (.int .u16 0)), (7, (.int .i64 0)), (8, (.int .i64 0)), (10, (.int .u16 ((leN B z.toNat i : Nat) : Int))), (19, (.int .i64 ((m : Nat) : Int))), (20, (.int .i64 ((i : Nat) : Int))), (21, (.bool false))] w0 [] F
    (fun _ => [(6, (.int .u16 ((leN B z.toNat i : Nat) : Int))), (7, (.int .i64 (z + ((m : Nat) : Int)))), (8, (.int .i64 0))])
    (fun _ => []) := by
  refine reg_seq [0, 1, 3, 7, 15, 31, 63] [6, 7, 8] 7
    (fun _ ι => ([(.int .u16 ((leN B z.toNat i : Nat) : Int)), (.int .i64 z), (.int .i64 ((m : Nat) : Int)), (.int .i64 (z + ((m : Nat) : Int))), (.int .u16 ((leN B z.toNat i : Nat) : Int)), (.int .i64 (z + ((m : Nat) : Int))), (.int .i64 0)] : List Value).getD ι undef)
    (fun _ ι => ([{}, {}, {}, {}, {}, {}, {}] : List Eff).getD ι {})
    (by as_aux_lemma => kernel_rfl) (by as_aux_lemma => kernel_rfl) (fun _ => by as_aux_lemma => kernel_rfl) (fun _ => by as_aux_lemma => kernel_rfl) ⟨⟨⟨⟨⟨⟨⟨trivial, ?_⟩, ?_⟩, ?_⟩, ?_⟩, ?_⟩, ?_⟩, ?_⟩
  · exact o_run 0 [] [] (fun _ _ => []) (fun _ _ => by as_aux_lemma => kernel_rfl)
  · exact o_run 1 [] [] (fun _ _ => []) (fun _ _ => by as_aux_lemma => kernel_rfl)
  · exact o_run 2 [] [] (fun _ _ => []) (fun _ _ => by as_aux_lemma => kernel_rfl)
  · exact o_as 3 (fun _ => (.int .i64 (IntKind.i64.wrap (z + ((m : Nat) : Int))))) (fun _ => (.int .i64 (z + ((m : Nat) : Int)))) (fun _ _ => by as_aux_lemma => kernel_rfl) (fun _ => congrArg (Value.int .i64) (i64N (by have := bne0' hb1; have := rdE_in (bne0' hb1); have := of_decide_eq_false hb2; have := hz; have := hBl; have := hm; have := hi; omega)))
  · exact o_run 4 [] [] (fun _ _ => []) (fun _ _ => by as_aux_lemma => kernel_rfl)
  · exact o_run 5 [] [] (fun _ _ => []) (fun _ _ => by as_aux_lemma => kernel_rfl)
  · exact o_run 6 [] [] (fun _ _ => []) (fun _ _ => by as_aux_lemma => kernel_rfl)
theorem read16_any (a : Option Addr) (c : Nat) (B : List UInt8) (z : Int) (m : Nat) (hz : -9223372036854775808 ≤ z ∧ z < 9223372036854775808) (hBl : B.length ≤ 140737488351232) (hm : 8 * m ≤ 16) (w0 : World) (hf0 : Bs w0 a c B) : Calls Try.prog 52 #[(.slice a (B).length c), (.int .i64 z), (.int .i64 ((m : Nat) : Int))] w0 (fun ε w' => ε = .returned (.tuple #[(.int .u16 ((rdV B z m : Nat) : Int)), (.int .i64 (rdN B.length z m)), (.int .i64 (rdE B.length z m))]) ∧ Below w0.heap.size w0 w') := by
  refine Calls.of_ok (n := 40) (F := (fun w => Bs w a c B ∧ True)) Try.func52 rfl rfl rfl (by simp) (hf0.pers0.and persT) ?_
  refine ok_seq_r (by as_aux_lemma => kernel_rfl) (read16_any_r1 a c B z m _ _) (fun _ => ?_)
  refine ok_seq ?_
  refine ok_seq_r (by as_aux_lemma => kernel_rfl) (read16_any_r2 a c B z m hz hBl hm _ _) (fun _ => ?_)
  refine ok_seq_r (by as_aux_lemma => kernel_rfl) (read16_any_r3 a c B z m _ _) (fun _ => ?_)
  refine ok_cond (b := (rdE B.length z m) != 0) (by as_aux_lemma => kernel_rfl) (fun hb1 => ?_) (fun hb1 => ?_)
  ·
    rw [hb1]
    refine ok_seq_r (by as_aux_lemma => kernel_rfl) (read16_any_r4 a c B z m _ _) (fun _ => ?_)
    refine ok_ret ?_
    refine mt_then_r ?_
    exact meets_ret (v := (.tuple #[(.int .u16 0), (.int .i64 0), (.int .i64 (rdE B.length z m))])) [] (dup []) (by as_aux_lemma => kernel_rfl) (by as_aux_lemma => kernel_rfl) (eqs_dup _) (fun _ hS => ⟨congrArg Ending.returned (rdT_err rfl (bne0 hb1)), hS.below⟩)
  ·
    rw [hb1]
    refine ok_skip ?_
    refine mt_then ?_
    refine ok_seq_r (by as_aux_lemma => kernel_rfl) (read16_any_r5 a c B z m _ _) (fun _ => ?_)
    refine ok_seq ?_
    refine ok_seq_r (by as_aux_lemma => kernel_rfl) (read16_any_r6 a c B z m _ _) (fun _ => ?_)
    refine ok_block ?_
    refine ok_loop (σ := Nat) (fun i => [(0, (.slice a (B).length c)), (1, (.int .i64 z)), (2, (.int .i64 ((m : Nat) : Int))), (6, (.int .u16 0)), (7, (.int .i64 0)), (8, (.int .i64 0)), (10, (.int .u16 ((leN B z.toNat i : Nat) : Int))), (19, (.int .i64 ((m : Nat) : Int))), (20, (.int .i64 ((i : Nat) : Int)))]) (fun _ => []) (fun i => m - i)
      (fun i => (i ≤ m)) 0 (Nat.zero_le m) (by as_aux_lemma => kernel_rfl) .slnil ?_
    rintro i hi
    change Ok Try.prog _ _ 40 [(0, (.slice a (B).length c)), (1, (.int .i64 z)), (2, (.int .i64 ((m : Nat) : Int))), (6, (.int .u16 0)), (7, (.int .i64 0)), (8, (.int .i64 0)), (10, (.int .u16 ((leN B z.toNat i : Nat) : Int))), (19, (.int .i64 ((m : Nat) : Int))), (20, (.int .i64 ((i : Nat) : Int)))] _ [] (fun w => Bs w a c B ∧ True)
    refine ok_seq_r (by as_aux_lemma => kernel_rfl) (read16_any_r7 a c B z m i _ _) (fun _ => ?_)
    refine ok_seq ?_
    refine ok_cond (b := decide (((i : Nat) : Int) < ((m : Nat) : Int))) (by as_aux_lemma => kernel_rfl) (fun hb2 => ?_) (fun hb2 => ?_)
    ·
      rw [hb2]
      refine ok_skip ?_
      refine mt_then ?_
      refine ok_seq ?_
      refine ok_block ?_
      refine ok_seq_r (by as_aux_lemma => kernel_rfl) (read16_any_r8 a c B z m i _ _) (fun _ => ?_)
      refine ok_rf (by as_aux_lemma => kernel_rfl) (read16_any_r9 a c B z m hz hBl hm hb1 i hi hb2 _) (fun _ => ?_)
      refine mt_block_n ?_
      refine mt_then ?_
      refine ok_r (by as_aux_lemma => kernel_rfl) (read16_any_r10 a c B z m hz hBl hm hb1 i hi hb2 _ _) (fun _ => ?_)
      exact mt_round (i + 1) (by show m - (i + 1) < m - i; have := bne0' hb1; have := rdE_in (bne0' hb1); have := of_decide_eq_true hb2; have := hz; have := hBl; have := hm; have := hi; omega) (by show i + 1 ≤ m; have := bne0' hb1; have := rdE_in (bne0' hb1); have := of_decide_eq_true hb2; have := hz; have := hBl; have := hm; have := hi; omega) (by as_aux_lemma => kernel_rfl) .slnil
    ·
      rw [hb2]
      refine ok_exit ?_
      refine mt_then_e ?_
      refine mt_then_e ?_
      refine mt_block_h ?_
      refine mt_then ?_
      refine ok_seq_r (by as_aux_lemma => kernel_rfl) (read16_any_r11 a c B z m hz hBl hm hb1 i hi hb2 _ _) (fun _ => ?_)
      refine ok_ret ?_
      exact meets_ret (v := (.tuple #[(.int .u16 ((leN B z.toNat i : Nat) : Int)), (.int .i64 (z + ((m : Nat) : Int))), (.int .i64 0)])) [] (dup []) (by as_aux_lemma => kernel_rfl) (by as_aux_lemma => kernel_rfl) (eqs_dup _) (fun _ hS => ⟨congrArg Ending.returned (rdT_ok (bne0' hb1) (by have := bne0' hb1; have := rdE_in (bne0' hb1); have := of_decide_eq_false hb2; have := hz; have := hBl; have := hm; have := hi; omega)), hS.below⟩)
theorem u16_any_r1 (a : Option Addr) (c : Nat) (B : List UInt8) (z : Int) (w0 : World) (F : World → Prop) : Reg Try.prog 0 (regOps Try.f32 0) false 13 [(0, (.slice a (B).length c)), (1, (.int .i64 z))] w0 [] F
    (fun _ => [(0, (.slice a (B).length c)), (1, (.int .i64 z)), (4, (.int .u16 0)), (5, (.int .i64 0)), (6, (.int .i64 0))])
    (fun _ => []) := by
  refine reg_seq [0, 1, 3] [0, 1, 4, 5, 6] 3
    (fun _ ι => ([(.int .u16 0), (.int .i64 0), (.int .i64 0)] : List Value).getD ι undef)
    (fun _ ι => ([{}, {}, {}] : List Eff).getD ι {})
    (by as_aux_lemma => kernel_rfl) (by as_aux_lemma => kernel_rfl) (fun _ => by as_aux_lemma => kernel_rfl) (fun _ => by as_aux_lemma => kernel_rfl) ⟨⟨⟨trivial, ?_⟩, ?_⟩, ?_⟩
  · exact o_run 0 [] [] (fun _ _ => []) (fun _ _ => by as_aux_lemma => kernel_rfl)
  · exact o_run 1 [] [] (fun _ _ => []) (fun _ _ => by as_aux_lemma => kernel_rfl)
  · exact o_run 2 [] [] (fun _ _ => []) (fun _ _ => by as_aux_lemma => kernel_rfl)
theorem u16_any_r2 (a : Option Addr) (c : Nat) (B : List UInt8) (z : Int) (hz : -9223372036854775808 ≤ z ∧ z < 9223372036854775808) (hBl : B.length ≤ 140737488351232) (w0 : World) : RegF Try.prog 1 (regOps Try.f32 1) false 13 [(0, (.slice a (B).length c)), (1, (.int .i64 z)), (4, (.int .u16 0)), (5, (.int .i64 0)), (6, (.int .i64 0))] w0 [] (fun w => Bs w a c B ∧ True)
    (fun _ => [(4, (.int .u16 ((rdV B z 2 : Nat) : Int))), (5, (.int .i64 (rdN B.length z 2))), (6, (.int .i64 (rdE B.length z 2)))])
    (fun _ => []) (fun _ => (fun w => Bs w a c B ∧ True)) := by
  refine reg_seq_f [0, 1, 3, 7, 15, 31, 63, 127, 255] [4, 5, 6] 9
    (fun _ ι => ([(.slice a (B).length c), (.int .i64 z), (.tuple #[(.int .u16 ((rdV B z 2 : Nat) : Int)), (.int .i64 (rdN B.length z 2)), (.int .i64 (rdE B.length z 2))]), (.int .u16 ((rdV B z 2 : Nat) : Int)), (.int .i64 (rdN B.length z 2)), (.int .i64 (rdE B.length z 2)), (.int .u16 ((rdV B z 2 : Nat) : Int)), (.int .i64 (rdN B.length z 2)), (.int .i64 (rdE B.length z 2))] : List Value).getD ι undef)
    (fun _ ι => ([{}, {}, {}, {}, {}, {}, {}, {}, {}] : List Eff).getD ι {})
    (fun _ ι => ([(fun _ => True), (fun _ => True), (fun _ => True), (fun _ => True), (fun _ => True), (fun _ => True), (fun _ => True), (fun _ => True), (fun _ => True)] : List (World → Prop)).getD ι (fun _ => True))
    (by as_aux_lemma => kernel_rfl) (by as_aux_lemma => kernel_rfl) (fun _ => by as_aux_lemma => kernel_rfl) (fun _ => by as_aux_lemma => kernel_rfl) (fun _ _ hF _ => ⟨hF.1, trivial⟩) ⟨⟨⟨⟨⟨⟨⟨⟨⟨trivial, ?_⟩, ?_⟩, ?_⟩, ?_⟩, ?_⟩, ?_⟩, ?_⟩, ?_⟩, ?_⟩
  · exact Obl.brings (o_run 0 [] [] (fun _ _ => []) (fun _ _ => by as_aux_lemma => kernel_rfl)) (fun _ _ => trivial)
  · exact Obl.brings (o_run 1 [] [] (fun _ _ => []) (fun _ _ => by as_aux_lemma => kernel_rfl)) (fun _ _ => trivial)
  · exact o_callP 2 52 (fun _ => #[(.slice a (B).length c), (.int .i64 z), (.int .i64 2)]) (fun _ => (.tuple #[(.int .u16 ((rdV B z 2 : Nat) : Int)), (.int .i64 (rdN B.length z 2)), (.int .i64 (rdE B.length z 2))])) (fun _ _ => (by as_aux_lemma => kernel_rfl)) (fun _ => (by as_aux_lemma => kernel_rfl)) (fun _ _ => (by as_aux_lemma => kernel_rfl)) (fun _ _ => trivial) (fun _ _ w hG => read16_any a c B z 2 (by have := hz; have := hBl; omega) hBl (by decide) w hG.facts0.now.1)
  · exact Obl.brings (o_run 3 [] [] (fun _ _ => []) (fun _ _ => by as_aux_lemma => kernel_rfl)) (fun _ _ => trivial)
  · exact Obl.brings (o_run 4 [] [] (fun _ _ => []) (fun _ _ => by as_aux_lemma => kernel_rfl)) (fun _ _ => trivial)
  · exact Obl.brings (o_run 5 [] [] (fun _ _ => []) (fun _ _ => by as_aux_lemma => kernel_rfl)) (fun _ _ => trivial)
  · exact Obl.brings (o_run 6 [] [] (fun _ _ => []) (fun _ _ => by as_aux_lemma => kernel_rfl)) (fun _ _ => trivial)
  · exact Obl.brings (o_run 7 [] [] (fun _ _ => []) (fun _ _ => by as_aux_lemma => kernel_rfl)) (fun _ _ => trivial)
  · exact Obl.brings (o_run 8 [] [] (fun _ _ => []) (fun _ _ => by as_aux_lemma => kernel_rfl)) (fun _ _ => trivial)
theorem u16_any (a : Option Addr) (c : Nat) (B : List UInt8) (z : Int) (hz : -9223372036854775808 ≤ z ∧ z < 9223372036854775808) (hBl : B.length ≤ 140737488351232) (w0 : World) (hf0 : Bs w0 a c B) : Calls Try.prog 32 #[(.slice a (B).length c), (.int .i64 z)] w0 (fun ε w' => ε = .returned (.tuple #[(.int .u16 ((rdV B z 2 : Nat) : Int)), (.int .i64 (rdN B.length z 2)), (.int .i64 (rdE B.length z 2))]) ∧ Below w0.heap.size w0 w') := by
  refine Calls.of_ok (n := 13) (F := (fun w => Bs w a c B ∧ True)) Try.func32 rfl rfl rfl (by simp) (hf0.pers0.and persT) ?_
  refine ok_seq_r (by as_aux_lemma => kernel_rfl) (u16_any_r1 a c B z _ _) (fun _ => ?_)
  refine ok_seq_rf (by as_aux_lemma => kernel_rfl) (u16_any_r2 a c B z hz hBl _) (fun _ => ?_)
  refine ok_ret ?_
  exact meets_ret (v := (.tuple #[(.int .u16 ((rdV B z 2 : Nat) : Int)), (.int .i64 (rdN B.length z 2)), (.int .i64 (rdE B.length z 2))])) [] (dup []) (by as_aux_lemma => kernel_rfl) (by as_aux_lemma => kernel_rfl) (eqs_dup _) (fun _ hS => ⟨rfl, hS.below⟩)
theorem read32_any_r1 (a : Option Addr) (c : Nat) (B : List UInt8) (z : Int) (m : Nat) (w0 : World) (F : World → Prop) : Reg Try.prog 0 (regOps Try.f53 0) false 40 [(0, (.slice a (B).length c)), (1, (.int .i64 z)), (2, (.int .i64 ((m : Nat) : Int)))] w0 [] F
    (fun _ => [(0, (.slice a (B).length c)), (1, (.int .i64 z)), (2, (.int .i64 ((m : Nat) : Int))), (6, (.int .u32 0)), (7, (.int .i64 0)), (8, (.int .i64 0))])
    (fun _ => []) := by
  refine reg_seq [0, 1, 3] [0, 1, 2, 6, 7, 8] 3
    (fun _ ι => ([(.int .u32 0), (.int .i64 0), (.int .i64 0)] : List Value).getD ι undef)
    (fun _ ι => ([{}, {}, {}] : List Eff).getD ι {})
    (by as_aux_lemma => kernel_rfl) (by as_aux_lemma => kernel_rfl) (fun _ => by as_aux_lemma => kernel_rfl) (fun _ => by as_aux_lemma => kernel_rfl) ⟨⟨⟨trivial, ?_⟩, ?_⟩, ?_⟩
  · exact o_run 0 [] [] (fun _ _ => []) (fun _ _ => by as_aux_lemma => kernel_rfl)
  · exact o_run 1 [] [] (fun _ _ => []) (fun _ _ => by as_aux_lemma => kernel_rfl)
  · exact o_run 2 [] [] (fun _ _ => []) (fun _ _ => by as_aux_lemma => kernel_rfl)
theorem read32_any_r2 (a : Option Addr) (c : Nat) (B : List UInt8) (z : Int) (m : Nat) (hz : -9223372036854775808 ≤ z ∧ z < 9223372036854775808) (hBl : B.length ≤ 140737488351232) (hm : 8 * m ≤ 32) (w0 : World) (F : World → Prop) : Reg Try.prog 1 (regOps Try.f53 1) false 40 [(0, (.slice a (B).length c)), (1, (.int .i64 z)), (2, (.int .i64 ((m : Nat) : Int))), (6, (.int .u32 0)), (7, (.int .i64 0)), (8, (.int .i64 0))] w0 [] F
    (fun _ => [(0, (.slice a (B).length c)), (1, (.int .i64 z)), (2, (.int .i64 ((m : Nat) : Int))), (6, (.int .u32 0)), (7, (.int .i64 0)), (8, (.int .i64 0)), (9, (.int .i64 (rdE B.length z m)))])
    (fun _ => []) := by
  refine reg_seq [0, 1, 3, 7, 15] [0, 1, 2, 6, 7, 8, 9] 5
    (fun _ ι => ([(.slice a (B).length c), (.int .i64 z), (.int .i64 ((m : Nat) : Int)), (.int .i64 (rdE B.length z m)), (.int .i64 (rdE B.length z m))] : List Value).getD ι undef)
    (fun _ ι => ([{}, {}, {}, {}, {}] : List Eff).getD ι {})
    (by as_aux_lemma => kernel_rfl) (by as_aux_lemma => kernel_rfl) (fun _ => by as_aux_lemma => kernel_rfl) (fun _ => by as_aux_lemma => kernel_rfl) ⟨⟨⟨⟨⟨trivial, ?_⟩, ?_⟩, ?_⟩, ?_⟩, ?_⟩
  · exact o_run 0 [] [] (fun _ _ => []) (fun _ _ => by as_aux_lemma => kernel_rfl)
  · exact o_run 1 [] [] (fun _ _ => []) (fun _ _ => by as_aux_lemma => kernel_rfl)
  · exact o_run 2 [] [] (fun _ _ => []) (fun _ _ => by as_aux_lemma => kernel_rfl)
  · exact o_call 3 55 (fun _ => #[(.slice a (B).length c), (.int .i64 z), (.int .i64 ((m : Nat) : Int))]) (fun _ => (.int .i64 (rdE B.length z m))) (fun _ _ => by as_aux_lemma => kernel_rfl) (fun _ w => (fun w => room_any a c B z m (by have := hz; have := hBl; have := hm; omega) hBl (by have := hz; have := hBl; have := hm; omega) w) w)
  · exact o_run 4 [] [] (fun _ _ => []) (fun _ _ => by as_aux_lemma => kernel_rfl)
theorem read32_any_r3 (a : Option Addr) (c : Nat) (B : List UInt8) (z : Int) (m : Nat) (w0 : World) (F : World → Prop) : Reg Try.prog 2 (regOps Try.f53 2) false 40 [(0, (.slice a (B).length c)), (1, (.int .i64 z)), (2, (.int .i64 ((m : Nat) : Int))), (6, (.int .u32 0)), (7, (.int .i64 0)), (8, (.int .i64 0)), (9, (.int .i64 (rdE B.length z m)))] w0 [] F
    (fun _ => [(0, (.slice a (B).length c)), (1, (.int .i64 z)), (2, (.int .i64 ((m : Nat) : Int))), (6, (.int .u32 0)), (7, (.int .i64 0)), (8, (.int .i64 0)), (9, (.int .i64 (rdE B.length z m))), (17, (.bool ((rdE B.length z m) != 0)))])
    (fun _ => []) := by
  refine reg_seq [0, 1] [0, 1, 2, 6, 7, 8, 9, 17] 2
    (fun _ ι => ([(.int .i64 (rdE B.length z m)), (.bool ((rdE B.length z m) != 0))] : List Value).getD ι undef)
    (fun _ ι => ([{}, {}] : List Eff).getD ι {})
    (by as_aux_lemma => kernel_rfl) (by as_aux_lemma => kernel_rfl) (fun _ => by as_aux_lemma => kernel_rfl) (fun _ => by as_aux_lemma => kernel_rfl) ⟨⟨trivial, ?_⟩, ?_⟩
  · exact o_run 0 [] [] (fun _ _ => []) (fun _ _ => by as_aux_lemma => kernel_rfl)
  · exact o_run 1 [] [] (fun _ _ => []) (fun _ _ => by as_aux_lemma => kernel_rfl)
theorem read32_any_r4 (a : Option Addr) (c : Nat) (B : List UInt8) (z : Int) (m : Nat) (w0 : World) (F : World → Prop) : Reg Try.prog 3 (regOps Try.f53 3) false 40 [(0, (.slice a (B).length c)), (1, (.int .i64 z)), (2, (.int .i64 ((m : Nat) : Int))), (6, (.int .u32 0)), (7, (.int .i64 0)), (8, (.int .i64 0)), (9, (.int .i64 (rdE B.length z m))), (17, (.bool true))] w0 [] F
    (fun _ => [(0, (.slice a (B).length c)), (1, (.int .i64 z)), (2, (.int .i64 ((m : Nat) : Int))), (6, (.int .u32 0)), (7, (.int .i64 0)), (8, (.int .i64 (rdE B.length z m)))])
    (fun _ => []) := by
  refine reg_seq [0, 1, 3, 7] [0, 1, 2, 6, 7, 8] 4
    (fun _ ι => ([(.int .i64 (rdE B.length z m)), (.int .u32 0), (.int .i64 0), (.int .i64 (rdE B.length z m))] : List Value).getD ι undef)
    (fun _ ι => ([{}, {}, {}, {}] : List Eff).getD ι {})
    (by as_aux_lemma => kernel_rfl) (by as_aux_lemma => kernel_rfl) (fun _ => by as_aux_lemma => kernel_rfl) (fun _ => by as_aux_lemma => kernel_rfl) ⟨⟨⟨⟨trivial, ?_⟩, ?_⟩, ?_⟩, ?_⟩
  · exact o_run 0 [] [] (fun _ _ => []) (fun _ _ => by as_aux_lemma => kernel_rfl)
  · exact o_run 1 [] [] (fun _ _ => []) (fun _ _ => by as_aux_lemma => kernel_rfl)
  · exact o_run 2 [] [] (fun _ _ => []) (fun _ _ => by as_aux_lemma => kernel_rfl)
  · exact o_run 3 [] [] (fun _ _ => []) (fun _ _ => by as_aux_lemma => kernel_rfl)
theorem read32_any_r5 (a : Option Addr) (c : Nat) (B : List UInt8) (z : Int) (m : Nat) (w0 : World) (F : World → Prop) : Reg Try.prog 4 (regOps Try.f53 4) false 40 [(0, (.slice a (B).length c)), (1, (.int .i64 z)), (2, (.int .i64 ((m : Nat) : Int))), (6, (.int .u32 0)), (7, (.int .i64 0)), (8, (.int .i64 0)), (9, (.int .i64 (rdE B.length z m))), (17, (.bool false))] w0 [] F
    (fun _ => [(0, (.slice a (B).length c)), (1, (.int .i64 z)), (2, (.int .i64 ((m : Nat) : Int))), (6, (.int .u32 0)), (7, (.int .i64 0)), (8, (.int .i64 0)), (10, (.int .u32 0))])
    (fun _ => []) := by
  refine reg_seq [0] [0, 1, 2, 6, 7, 8, 10] 1
    (fun _ ι => ([(.int .u32 0)] : List Value).getD ι undef)
    (fun _ ι => ([{}] : List Eff).getD ι {})
    (by as_aux_lemma => kernel_rfl) (by as_aux_lemma => kernel_rfl) (fun _ => by as_aux_lemma => kernel_rfl) (fun _ => by as_aux_lemma => kernel_rfl) ⟨trivial, ?_⟩
  · exact o_run 0 [] [] (fun _ _ => []) (fun _ _ => by as_aux_lemma => kernel_rfl)
theorem read32_any_r6 (a : Option Addr) (c : Nat) (B : List UInt8) (z : Int) (m : Nat) (w0 : World) (F : World → Prop) : Reg Try.prog 5 (regOps Try.f53 5) false 40 [(0, (.slice a (B).length c)), (1, (.int .i64 z)), (2, (.int .i64 ((m : Nat) : Int))), (6, (.int .u32 0)), (7, (.int .i64 0)), (8, (.int .i64 0)), (10, (.int .u32 0))] w0 [] F
    (fun _ => [(0, (.slice a (B).length c)), (1, (.int .i64 z)), (2, (.int .i64 ((m : Nat) : Int))), (6, (.int .u32 0)), (7, (.int .i64 0)), (8, (.int .i64 0)), (10, (.int .u32 0)), (19, (.int .i64 ((m : Nat) : Int))), (20, (.int .i64 0))])
    (fun _ => []) := by
  refine reg_seq [0, 1] [0, 1, 2, 6, 7, 8, 10, 19, 20] 2
    (fun _ ι => ([(.int .i64 ((m : Nat) : Int)), (.int .i64 0)] : List Value).getD ι undef)
    (fun _ ι => ([{}, {}] : List Eff).getD ι {})
    (by as_aux_lemma => kernel_rfl) (by as_aux_lemma => kernel_rfl) (fun _ => by as_aux_lemma => kernel_rfl) (fun _ => by as_aux_lemma => kernel_rfl) ⟨⟨trivial, ?_⟩, ?_⟩
  · exact o_run 0 [] [] (fun _ _ => []) (fun _ _ => by as_aux_lemma => kernel_rfl)
  · exact o_run 1 [] [] (fun _ _ => []) (fun _ _ => by as_aux_lemma => kernel_rfl)
theorem read32_any_r7 (a : Option Addr) (c : Nat) (B : List UInt8) (z : Int) (m : Nat) (i : Nat) (w0 : World) (F : World → Prop) : Reg Try.prog 6 (regOps Try.f53 6) false 40 [(0, (.slice a (B).length c)), (1, (.int .i64 z)), (2, (.int .i64 ((m : Nat) : Int))), (6, (.int .u32 0)), (7, (.int .i64 0)), (8, (.int .i64 0)), (10, (.int .u32 ((leN B z.toNat i : Nat) : Int))), (19, (.int .i64 ((m : Nat) : Int))), (20, (.int .i64 ((i : Nat) : Int)))] w0 [] F
    (fun _ => [(0, (.slice a (B).length c)), (1, (.int .i64 z)), (2, (.int .i64 ((m : Nat) : Int))), (6, (.int .u32 0)), (7, (.int .i64 0)), (8, (.int .i64 0)), (10, (.int .u32 ((leN B z.toNat i : Nat) : Int))), (19, (.int .i64 ((m : Nat) : Int))), (20, (.int .i64 ((i : Nat) : Int))), (21, (.bool (decide (((i : Nat) : Int) < ((m : Nat) : Int)))))])
    (fun _ => []) := by
  refine reg_seq [0] [0, 1, 2, 6, 7, 8, 10, 19, 20, 21] 1
    (fun _ ι => ([(.bool (decide (((i : Nat) : Int) < ((m : Nat) : Int))))] : List Value).getD ι undef)
    (fun _ ι => ([{}] : List Eff).getD ι {})
    (by as_aux_lemma => kernel_rfl) (by as_aux_lemma => kernel_rfl) (fun _ => by as_aux_lemma => kernel_rfl) (fun _ => by as_aux_lemma => kernel_rfl) ⟨trivial, ?_⟩
  · exact o_run 0 [] [] (fun _ _ => []) (fun _ _ => by as_aux_lemma => kernel_rfl)
theorem read32_any_r8 (a : Option Addr) (c : Nat) (B : List UInt8) (z : Int) (m : Nat) (i : Nat) (w0 : World) (F : World → Prop) : Reg Try.prog 7 (regOps Try.f53 7) false 40 [(0, (.slice a (B).length c)), (1, (.int .i64 z)), (2, (.int .i64 ((m : Nat) : Int))), (6, (.int .u32 0)), (7, (.int .i64 0)), (8, (.int .i64 0)), (10, (.int .u32 ((leN B z.toNat i : Nat) : Int))), (19, (.int .i64 ((m : Nat) : Int))), (20, (.int .i64 ((i : Nat) : Int))), (21, (.bool true))] w0 [] F
    (fun _ => [(0, (.slice a (B).length c)), (1, (.int .i64 z)), (2, (.int .i64 ((m : Nat) : Int))), (6, (.int .u32 0)), (7, (.int .i64 0)), (8, (.int .i64 0)), (10, (.int .u32 ((leN B z.toNat i : Nat) : Int))), (11, (.int .i64 ((i : Nat) : Int))), (19, (.int .i64 ((m : Nat) : Int))), (20, (.int .i64 ((i : Nat) : Int)))])
    (fun _ => []) := by
  refine reg_seq [0, 1] [0, 1, 2, 6, 7, 8, 10, 11, 19, 20] 2
    (fun _ ι => ([(.int .i64 ((i : Nat) : Int)), (.int .i64 ((i : Nat) : Int))] : List Value).getD ι undef)
    (fun _ ι => ([{}, {}] : List Eff).getD ι {})
    (by as_aux_lemma => kernel_rfl) (by as_aux_lemma => kernel_rfl) (fun _ => by as_aux_lemma => kernel_rfl) (fun _ => by as_aux_lemma => kernel_rfl) ⟨⟨trivial, ?_⟩, ?_⟩
  · exact o_run 0 [] [] (fun _ _ => []) (fun _ _ => by as_aux_lemma => kernel_rfl)
  · exact o_run 1 [] [] (fun _ _ => []) (fun _ _ => by as_aux_lemma => kernel_rfl)
theorem read32_any_r9 (a : Option Addr) (c : Nat) (B : List UInt8) (z : Int) (m : Nat) (hz : -9223372036854775808 ≤ z ∧ z < 9223372036854775808) (hBl : B.length ≤ 140737488351232) (hm : 8 * m ≤ 32) (hb1 : ((rdE B.length z m) != 0) = false) (i : Nat) (hi : i ≤ m) (hb2 : (decide (((i : Nat) : Int) < ((m : Nat) : Int))) = true) (w0 : World) : RegF Try.prog 8 (regOps Try.f53 8) false 40 [(0, (.slice a (B).length c)), (1, (.int .i64 z)), (2, (.int .i64 ((m : Nat) : Int))), (6, (.int .u32 0)), (7, (.int .i64 0)), (8, (.int .i64 0)), (10, (.int .u32 ((leN B z.toNat i : Nat) : Int))), (11, (.int .i64 ((i : Nat) : Int))), (19, (.int .i64 ((m : Nat) : Int))), (20, (.int .i64 ((i : Nat) : Int)))] w0 [] (fun w => Bs w a c B ∧ True)
    (fun _ => [(0, (.slice a (B).length c)), (1, (.int .i64 z)), (2, (.int .i64 ((m : Nat) : Int))), (6, (.int .u32 0)), (7, (.int .i64 0)), (8, (.int .i64 0)), (10, (.int .u32 ((leN B z.toNat (i + 1) : Nat) : Int))), (19, (.int .i64 ((m : Nat) : Int))), (20, (.int .i64 ((i : Nat) : Int)))])
    (fun _ => []) (fun _ => (fun w => Bs w a c B ∧ True)) := by
  refine reg_seq_f [0, 1, 3, 7, 15, 31, 63, 127, 255, 511, 1023, 2047, 4095] [0, 1, 2, 6, 7, 8, 10, 19, 20] 13
    (fun _ ι => ([(.int .u32 ((leN B z.toNat i : Nat) : Int)), (.slice a (B).length c), (.int .i64 z), (.int .i64 ((i : Nat) : Int)), (.int .i64 (z + ((i : Nat) : Int))), (.pointer (adr a (z.toNat + i))), (.int .u8 ((gB B (z.toNat + i) : Nat) : Int)), (.int .u32 ((gB B (z.toNat + i) : Nat) : Int)), (.int .i64 ((i : Nat) : Int)), (.int .i64 ((8 * i : Nat) : Int)), (.int .u32 ((gB B (z.toNat + i) * 256 ^ i : Nat) : Int)), (.int .u32 ((leN B z.toNat (i + 1) : Nat) : Int)), (.int .u32 ((leN B z.toNat (i + 1) : Nat) : Int))] : List Value).getD ι undef)
    (fun _ ι => ([{}, {}, {}, {}, {}, {}, {}, {}, {}, {}, {}, {}, {}] : List Eff).getD ι {})
    (fun _ ι => ([(fun _ => True), (fun _ => True), (fun _ => True), (fun _ => True), (fun _ => True), (fun _ => True), (fun _ => True), (fun _ => True), (fun _ => True), (fun _ => True), (fun _ => True), (fun _ => True), (fun _ => True)] : List (World → Prop)).getD ι (fun _ => True))
    (by as_aux_lemma => kernel_rfl) (by as_aux_lemma => kernel_rfl) (fun _ => by as_aux_lemma => kernel_rfl) (fun _ => by as_aux_lemma => kernel_rfl) (fun _ _ hF _ => ⟨hF.1, trivial⟩) ⟨⟨⟨⟨⟨⟨⟨⟨⟨⟨⟨⟨⟨trivial, ?_⟩, ?_⟩, ?_⟩, ?_⟩, ?_⟩, ?_⟩, ?_⟩, ?_⟩, ?_⟩, ?_⟩, ?_⟩, ?_⟩, ?_⟩
  · exact Obl.brings (o_run 0 [] [] (fun _ _ => []) (fun _ _ => by as_aux_lemma => kernel_rfl)) (fun _ _ => trivial)
  · exact Obl.brings (o_run 1 [] [] (fun _ _ => []) (fun _ _ => by as_aux_lemma => kernel_rfl)) (fun _ _ => trivial)
  · exact Obl.brings (o_run 2 [] [] (fun _ _ => []) (fun _ _ => by as_aux_lemma => kernel_rfl)) (fun _ _ => trivial)
  · exact Obl.brings (o_run 3 [] [] (fun _ _ => []) (fun _ _ => by as_aux_lemma => kernel_rfl)) (fun _ _ => trivial)
  · exact Obl.brings (o_as 4 (fun _ => (.int .i64 (IntKind.i64.wrap (z + ((i : Nat) : Int))))) (fun _ => (.int .i64 (z + ((i : Nat) : Int)))) (fun _ _ => by as_aux_lemma => kernel_rfl) (fun _ => congrArg (Value.int .i64) (i64N (by have := bne0' hb1; have := rdE_in (bne0' hb1); have := of_decide_eq_true hb2; have := hz; have := hBl; have := hm; have := hi; omega)))) (fun _ _ => trivial)
  · exact o_semF 5 (fun _ => do pure (Next.value (← Instr.indexAt 22 (.slice a (B).length c) (.int .i64 (z + ((i : Nat) : Int)))))) (fun _ => (.pointer (adr a (z.toNat + i)))) (fun _ => (by as_aux_lemma => kernel_rfl)) (fun _ => (by as_aux_lemma => kernel_rfl)) (fun _ _ _ hG => idx_bytes Try.underlying22 u8i hG.facts0.now.1 rfl ((show z + ((i : Nat) : Int) = ((z.toNat + i : Nat) : Int) ∧ z.toNat + i < (B).length from ⟨(by have := bne0' hb1; have := rdE_in (bne0' hb1); have := of_decide_eq_true hb2; have := hz; have := hBl; have := hm; have := hi; omega), (by have := bne0' hb1; have := rdE_in (bne0' hb1); have := of_decide_eq_true hb2; have := hz; have := hBl; have := hm; have := hi; omega)⟩)).1 ((show z + ((i : Nat) : Int) = ((z.toNat + i : Nat) : Int) ∧ z.toNat + i < (B).length from ⟨(by have := bne0' hb1; have := rdE_in (bne0' hb1); have := of_decide_eq_true hb2; have := hz; have := hBl; have := hm; have := hi; omega), (by have := bne0' hb1; have := rdE_in (bne0' hb1); have := of_decide_eq_true hb2; have := hz; have := hBl; have := hm; have := hi; omega)⟩)).2) (fun _ _ _ _ => persT)
  · exact o_semF 6 (fun _ => do pure (Next.value (← Instr.loadAt 5 (.pointer (adr a (z.toNat + i)))))) (fun _ => (.int .u8 ((gB B (z.toNat + i) : Nat) : Int))) (fun _ => (by as_aux_lemma => kernel_rfl)) (fun _ => (by as_aux_lemma => kernel_rfl)) (fun _ _ _ hG => ld_bytes Try.isAgg5 hG.facts0.now.1 ((show z + ((i : Nat) : Int) = ((z.toNat + i : Nat) : Int) ∧ z.toNat + i < (B).length from ⟨(by have := bne0' hb1; have := rdE_in (bne0' hb1); have := of_decide_eq_true hb2; have := hz; have := hBl; have := hm; have := hi; omega), (by have := bne0' hb1; have := rdE_in (bne0' hb1); have := of_decide_eq_true hb2; have := hz; have := hBl; have := hm; have := hi; omega)⟩)).2) (fun _ _ _ _ => persT)
  · exact Obl.brings (o_as 7 (fun _ => (.int .u32 (IntKind.u32.wrap (((gB B (z.toNat + i) : Nat) : Int))))) (fun _ => (.int .u32 ((gB B (z.toNat + i) : Nat) : Int))) (fun _ _ => by as_aux_lemma => kernel_rfl) (fun _ => congrArg (Value.int .u32) (gB_in (k := .u32) rfl (by decide) B (z.toNat + i)))) (fun _ _ => trivial)
  · exact Obl.brings (o_run 8 [] [] (fun _ _ => []) (fun _ _ => by as_aux_lemma => kernel_rfl)) (fun _ _ => trivial)
  · exact Obl.brings (o_as 9 (fun _ => (.int .i64 (IntKind.i64.wrap (8 * ((i : Nat) : Int))))) (fun _ => (.int .i64 ((8 * i : Nat) : Int))) (fun _ _ => by as_aux_lemma => kernel_rfl) (fun _ => congrArg (Value.int .i64) (wrap_mulN 8 i (by have := bne0' hb1; have := rdE_in (bne0' hb1); have := of_decide_eq_true hb2; have := hz; have := hBl; have := hm; have := hi; omega)))) (fun _ _ => trivial)
  · exact Obl.brings (o_bin 10 .shl 37 (fun _ => (.int .u32 ((gB B (z.toNat + i) : Nat) : Int))) (fun _ => (.int .i64 ((8 * i : Nat) : Int))) (fun _ => (.int .u32 ((gB B (z.toNat + i) * 256 ^ i : Nat) : Int))) (fun _ => by as_aux_lemma => kernel_rfl) (fun _ _ _ _ => by as_aux_lemma => kernel_rfl) (fun _ w => run_shl8 (k := .u32) rfl B (z.toNat + i) i (by show 8 * (i + 1) ≤ 32; have := bne0' hb1; have := rdE_in (bne0' hb1); have := of_decide_eq_true hb2; have := hz; have := hBl; have := hm; have := hi; omega) w)) (fun _ _ => trivial)
  · exact Obl.brings (o_as 11 (fun _ => (.int .u32 (bits .or .u32 ((leN B z.toNat i : Nat) : Int) ((gB B (z.toNat + i) * 256 ^ i : Nat) : Int)))) (fun _ => (.int .u32 ((leN B z.toNat (i + 1) : Nat) : Int))) (fun _ _ => by as_aux_lemma => kernel_rfl) (fun _ => congrArg (Value.int .u32) (or_leN (k := .u32) rfl B z.toNat i (by show 8 * (i + 1) ≤ 32; have := bne0' hb1; have := rdE_in (bne0' hb1); have := of_decide_eq_true hb2; have := hz; have := hBl; have := hm; have := hi; omega)))) (fun _ _ => trivial)
  · exact Obl.brings (o_run 12 [] [] (fun _ _ => []) (fun _ _ => by as_aux_lemma => kernel_rfl)) (fun _ _ => trivial)
theorem read32_any_r10 (a : Option Addr) (c : Nat) (B : List UInt8) (z : Int) (m : Nat) (hz : -9223372036854775808 ≤ z ∧ z < 9223372036854775808) (hBl : B.length ≤ 140737488351232) (hm : 8 * m ≤ 32) (hb1 : ((rdE B.length z m) != 0) = false) (i : Nat) (hi : i ≤ m) (hb2 : (decide (((i : Nat) : Int) < ((m : Nat) : Int))) = true) (w0 : World) (F : World → Prop) : Reg Try.prog 9 (regOps Try.f53 9) false 40 [(0, (.slice a (B).length c)), (1, (.int .i64 z)), (2, (.int .i64 ((m : Nat) : Int))), (6, (.int .u32 0)), (7, (.int .i64 0)), (8, (.int .i64 0)), (10, (.int .u32 ((leN B z.toNat (i + 1) : Nat) : Int))), (19, (.int .i64 ((m : Nat) : Int))), (20, (.int .i64 ((i : Nat) : Int)))] w0 [] F
    (fun _ => [(0, (.slice a (B).length c)), (1, (.int .i64 z)), (2, (.int .i64 ((m : Nat) : Int))), (6, (.int .u32 0)), (7, (.int .i64 0)), (8, (.int .i64 0)), (10, (.int .u32 ((leN B z.toNat (i + 1) : Nat) : Int))), (19, (.int .i64 ((m : Nat) : Int))), (20, (.int .i64 ((i + 1 : Nat) : Int)))])
    (fun _ => []) := by
  refine reg_seq [0, 1] [0, 1, 2, 6, 7, 8, 10, 19, 20] 2
    (fun _ ι => ([(.int .i64 ((i + 1 : Nat) : Int)), (.int .i64 ((i + 1 : Nat) : Int))] : List Value).getD ι undef)
    (fun _ ι => ([{}, {}] : List Eff).getD ι {})
    (by as_aux_lemma => kernel_rfl) (by as_aux_lemma => kernel_rfl) (fun _ => by as_aux_lemma => kernel_rfl) (fun _ => by as_aux_lemma => kernel_rfl) ⟨⟨trivial, ?_⟩, ?_⟩
  · exact o_as 0 (fun _ => (.int .i64 (IntKind.i64.wrap (((i : Nat) : Int) + 1)))) (fun _ => (.int .i64 ((i + 1 : Nat) : Int))) (fun _ _ => by as_aux_lemma => kernel_rfl) (fun _ => congrArg (Value.int .i64) (wrap_addN i 1 (by have := bne0' hb1; have := rdE_in (bne0' hb1); have := of_decide_eq_true hb2; have := hz; have := hBl; have := hm; have := hi; omega)))
  · exact o_run 1 [] [] (fun _ _ => []) (fun _ _ => by as_aux_lemma => kernel_rfl)
theorem read32_any_r11 (a : Option Addr) (c : Nat) (B : List UInt8) (z : Int) (m : Nat) (hz : -9223372036854775808 ≤ z ∧ z < 9223372036854775808) (hBl : B.length ≤ 140737488351232) (hm : 8 * m ≤ 32) (hb1 : ((rdE B.length z m) != 0) = false) (i : Nat) (hi : i ≤ m) (hb2 : (decide (((i : Nat) : Int) < ((m : Nat) : Int))) = false) (w0 : World) (F : World → Prop) : Reg Try.prog 10 (regOps Try.f53 10) false 40 [(0, (.slice a (B).length c)), (1, (.int .i64 z)), (2, (.int .i64 ((m : Nat) : Int))), (6, (.int .u32 0)), (7, (.int .i64 0)), (8, (.int .i64 0)), (10, (.int .u32 ((leN B z.toNat i : Nat) : Int))), (19, (.int .i64 ((m : Nat) : Int))), (20, (.int .i64 ((i : Nat) : Int))), (21, (.bool false))] w0 [] F
    (fun _ => [(6, (.int .u32 ((leN B z.toNat i : Nat) : Int))), (7, (.int .i64 (z + ((m : Nat) : Int)))), (8, (.int .i64 0))])
    (fun _ => []) := by
  refine reg_seq [0, 1, 3, 7, 15, 31, 63] [6, 7, 8] 7
    (fun _ ι => ([(.int .u32 ((leN B z.toNat i : Nat) : Int)), (.int .i64 z), (.int .i64 ((m : Nat) : Int)), (.int .i64 (z + ((m : Nat) : Int))), (.int .u32 ((leN B z.toNat i : Nat) : Int)), (.int .i64 (z + ((m : Nat) : Int))), (.int .i64 0)] : List Value).getD ι undef)
    (fun _ ι => ([{}, {}, {}, {}, {}, {}, {}] : List Eff).getD ι {})
    (by as_aux_lemma => kernel_rfl) (by as_aux_lemma => kernel_rfl) (fun _ => by as_aux_lemma => kernel_rfl) (fun _ => by as_aux_lemma => kernel_rfl) ⟨⟨⟨⟨⟨⟨⟨trivial, ?_⟩, ?_⟩, ?_⟩, ?_⟩, ?_⟩, ?_⟩, ?_⟩
  · exact o_run 0 [] [] (fun _ _ => []) (fun _ _ => by as_aux_lemma => kernel_rfl)
  · exact o_run 1 [] [] (fun _ _ => []) (fun _ _ => by as_aux_lemma => kernel_rfl)
  · exact o_run 2 [] [] (fun _ _ => []) (fun _ _ => by as_aux_lemma => kernel_rfl)
  · exact o_as 3 (fun _ => (.int .i64 (IntKind.i64.wrap (z + ((m : Nat) : Int))))) (fun _ => (.int .i64 (z + ((m : Nat) : Int)))) (fun _ _ => by as_aux_lemma => kernel_rfl) (fun _ => congrArg (Value.int .i64) (i64N (by have := bne0' hb1; have := rdE_in (bne0' hb1); have := of_decide_eq_false hb2; have := hz; have := hBl; have := hm; have := hi; omega)))
  · exact o_run 4 [] [] (fun _ _ => []) (fun _ _ => by as_aux_lemma => kernel_rfl)
  · exact o_run 5 [] [] (fun _ _ => []) (fun _ _ => by as_aux_lemma => kernel_rfl)
  · exact o_run 6 [] [] (fun _ _ => []) (fun _ _ => by as_aux_lemma => kernel_rfl)
theorem read32_any (a : Option Addr) (c : Nat) (B : List UInt8) (z : Int) (m : Nat) (hz : -9223372036854775808 ≤ z ∧ z < 9223372036854775808) (hBl : B.length ≤ 140737488351232) (hm : 8 * m ≤ 32) (w0 : World) (hf0 : Bs w0 a c B) : Calls Try.prog 53 #[(.slice a (B).length c), (.int .i64 z), (.int .i64 ((m : Nat) : Int))] w0 (fun ε w' => ε = .returned (.tuple #[(.int .u32 ((rdV B z m : Nat) : Int)), (.int .i64 (rdN B.length z m)), (.int .i64 (rdE B.length z m))]) ∧ Below w0.heap.size w0 w') := by
  refine Calls.of_ok (n := 40) (F := (fun w => Bs w a c B ∧ True)) Try.func53 rfl rfl rfl (by simp) (hf0.pers0.and persT) ?_
  refine ok_seq_r (by as_aux_lemma => kernel_rfl) (read32_any_r1 a c B z m _ _) (fun _ => ?_)
  refine ok_seq ?_
  refine ok_seq_r (by as_aux_lemma => kernel_rfl) (read32_any_r2 a c B z m hz hBl hm _ _) (fun _ => ?_)
  refine ok_seq_r (by as_aux_lemma => kernel_rfl) (read32_any_r3 a c B z m _ _) (fun _ => ?_)
  refine ok_cond (b := (rdE B.length z m) != 0) (by as_aux_lemma => kernel_rfl) (fun hb1 => ?_) (fun hb1 => ?_)
  ·
    rw [hb1]
    refine ok_seq_r (by as_aux_lemma => kernel_rfl) (read32_any_r4 a c B z m _ _) (fun _ => ?_)
    refine ok_ret ?_
    refine mt_then_r ?_
    exact meets_ret (v := (.tuple #[(.int .u32 0), (.int .i64 0), (.int .i64 (rdE B.length z m))])) [] (dup []) (by as_aux_lemma => kernel_rfl) (by as_aux_lemma => kernel_rfl) (eqs_dup _) (fun _ hS => ⟨congrArg Ending.returned (rdT_err rfl (bne0 hb1)), hS.below⟩)
  ·
    rw [hb1]
    refine ok_skip ?_
    refine mt_then ?_
    refine ok_seq_r (by as_aux_lemma => kernel_rfl) (read32_any_r5 a c B z m _ _) (fun _ => ?_)
    refine ok_seq ?_
    refine ok_seq_r (by as_aux_lemma => kernel_rfl) (read32_any_r6 a c B z m _ _) (fun _ => ?_)
    refine ok_block ?_
    refine ok_loop (σ := Nat) (fun i => [(0, (.slice a (B).length c)), (1, (.int .i64 z)), (2, (.int .i64 ((m : Nat) : Int))), (6, (.int .u32 0)), (7, (.int .i64 0)), (8, (.int .i64 0)), (10, (.int .u32 ((leN B z.toNat i : Nat) : Int))), (19, (.int .i64 ((m : Nat) : Int))), (20, (.int .i64 ((i : Nat) : Int)))]) (fun _ => []) (fun i => m - i)
      (fun i => (i ≤ m)) 0 (Nat.zero_le m) (by as_aux_lemma => kernel_rfl) .slnil ?_
    rintro i hi
    change Ok Try.prog _ _ 40 [(0, (.slice a (B).length c)), (1, (.int .i64 z)), (2, (.int .i64 ((m : Nat) : Int))), (6, (.int .u32 0)), (7, (.int .i64 0)), (8, (.int .i64 0)), (10, (.int .u32 ((leN B z.toNat i : Nat) : Int))), (19, (.int .i64 ((m : Nat) : Int))), (20, (.int .i64 ((i : Nat) : Int)))] _ [] (fun w => Bs w a c B ∧ True)
    refine ok_seq_r (by as_aux_lemma => kernel_rfl) (read32_any_r7 a c B z m i _ _) (fun _ => ?_)
    refine ok_seq ?_
    refine ok_cond (b := decide (((i : Nat) : Int) < ((m : Nat) : Int))) (by as_aux_lemma => kernel_rfl) (fun hb2 => ?_) (fun hb2 => ?_)
    ·
      rw [hb2]
      refine ok_skip ?_
      refine mt_then ?_
      refine ok_seq ?_
      refine ok_block ?_
      refine ok_seq_r (by as_aux_lemma => kernel_rfl) (read32_any_r8 a c B z m i _ _) (fun _ => ?_)
      refine ok_rf (by as_aux_lemma => kernel_rfl) (read32_any_r9 a c B z m hz hBl hm hb1 i hi hb2 _) (fun _ => ?_)
      refine mt_block_n ?_
      refine mt_then ?_
      refine ok_r (by as_aux_lemma => kernel_rfl) (read32_any_r10 a c B z m hz hBl hm hb1 i hi hb2 _ _) (fun _ => ?_)
      exact mt_round (i + 1) (by show m - (i + 1) < m - i; have := bne0' hb1; have := rdE_in (bne0' hb1); have := of_decide_eq_true hb2; have := hz; have := hBl; have := hm; have := hi; omega) (by show i + 1 ≤ m; have := bne0' hb1; have := rdE_in (bne0' hb1); have := of_decide_eq_true hb2; have := hz; have := hBl; have := hm; have := hi; omega) (by as_aux_lemma => kernel_rfl) .slnil
    ·
      rw [hb2]
      refine ok_exit ?_
      refine mt_then_e ?_
      refine mt_then_e ?_
      refine mt_block_h ?_
      refine mt_then ?_
      refine ok_seq_r (by as_aux_lemma => kernel_rfl) (read32_any_r11 a c B z m hz hBl hm hb1 i hi hb2 _ _) (fun _ => ?_)
      refine ok_ret ?_
      exact meets_ret (v := (.tuple #[(.int .u32 ((leN B z.toNat i : Nat) : Int)), (.int .i64 (z + ((m : Nat) : Int))), (.int .i64 0)])) [] (dup []) (by as_aux_lemma => kernel_rfl) (by as_aux_lemma => kernel_rfl) (eqs_dup _) (fun _ hS => ⟨congrArg Ending.returned (rdT_ok (bne0' hb1) (by have := bne0' hb1; have := rdE_in (bne0' hb1); have := of_decide_eq_false hb2; have := hz; have := hBl; have := hm; have := hi; omega)), hS.below⟩)
theorem u32_any_r1 (a : Option Addr) (c : Nat) (B : List UInt8) (z : Int) (w0 : World) (F : World → Prop) : Reg Try.prog 0 (regOps Try.f34 0) false 13 [(0, (.slice a (B).length c)), (1, (.int .i64 z))] w0 [] F
    (fun _ => [(0, (.slice a (B).length c)), (1, (.int .i64 z)), (4, (.int .u32 0)), (5, (.int .i64 0)), (6, (.int .i64 0))])
    (fun _ => []) := by
  refine reg_seq [0, 1, 3] [0, 1, 4, 5, 6] 3
    (fun _ ι => ([(.int .u32 0), (.int .i64 0), (.int .i64 0)] : List Value).getD ι undef)
    (fun _ ι => ([{}, {}, {}] : List Eff).getD ι {})
    (by as_aux_lemma => kernel_rfl) (by as_aux_lemma => kernel_rfl) (fun _ => by as_aux_lemma => kernel_rfl) (fun _ => by as_aux_lemma => kernel_rfl) ⟨⟨⟨trivial, ?_⟩, ?_⟩, ?_⟩
  · exact o_run 0 [] [] (fun _ _ => []) (fun _ _ => by as_aux_lemma => kernel_rfl)
  · exact o_run 1 [] [] (fun _ _ => []) (fun _ _ => by as_aux_lemma => kernel_rfl)
  · exact o_run 2 [] [] (fun _ _ => []) (fun _ _ => by as_aux_lemma => kernel_rfl)
theorem u32_any_r2 (a : Option Addr) (c : Nat) (B : List UInt8) (z : Int) (hz : -9223372036854775808 ≤ z ∧ z < 9223372036854775808) (hBl : B.length ≤ 140737488351232) (w0 : World) : RegF Try.prog 1 (regOps Try.f34 1) false 13 [(0, (.slice a (B).length c)), (1, (.int .i64 z)), (4, (.int .u32 0)), (5, (.int .i64 0)), (6, (.int .i64 0))] w0 [] (fun w => Bs w a c B ∧ True)
    (fun _ => [(4, (.int .u32 ((rdV B z 4 : Nat) : Int))), (5, (.int .i64 (rdN B.length z 4))), (6, (.int .i64 (rdE B.length z 4)))])
    (fun _ => []) (fun _ => (fun w => Bs w a c B ∧ True)) := by
  refine reg_seq_f [0, 1, 3, 7, 15, 31, 63, 127, 255] [4, 5, 6] 9
    (fun _ ι => ([(.slice a (B).length c), (.int .i64 z), (.tuple #[(.int .u32 ((rdV B z 4 : Nat) : Int)), (.int .i64 (rdN B.length z 4)), (.int .i64 (rdE B.length z 4))]), (.int .u32 ((rdV B z 4 : Nat) : Int)), (.int .i64 (rdN B.length z 4)), (.int .i64 (rdE B.length z 4)), (.int .u32 ((rdV B z 4 : Nat) : Int)), (.int .i64 (rdN B.length z 4)), (.int .i64 (rdE B.length z 4))] : List Value).getD ι undef)
    (fun _ ι => ([{}, {}, {}, {}, {}, {}, {}, {}, {}] : List Eff).getD ι {})
    (fun _ ι => ([(fun _ => True), (fun _ => True), (fun _ => True), (fun _ => True), (fun _ => True), (fun _ => True), (fun _ => True), (fun _ => True), (fun _ => True)] : List (World → Prop)).getD ι (fun _ => True))
    (by as_aux_lemma => kernel_rfl) (by as_aux_lemma => kernel_rfl) (fun _ => by as_aux_lemma => kernel_rfl) (fun _ => by as_aux_lemma => kernel_rfl) (fun _ _ hF _ => ⟨hF.1, trivial⟩) ⟨⟨⟨⟨⟨⟨⟨⟨⟨trivial, ?_⟩, ?_⟩, ?_⟩, ?_⟩, ?_⟩, ?_⟩, ?_⟩, ?_⟩, ?_⟩
  · exact Obl.brings (o_run 0 [] [] (fun _ _ => []) (fun _ _ => by as_aux_lemma => kernel_rfl)) (fun _ _ => trivial)
  · exact Obl.brings (o_run 1 [] [] (fun _ _ => []) (fun _ _ => by as_aux_lemma => kernel_rfl)) (fun _ _ => trivial)
  · exact o_callP 2 53 (fun _ => #[(.slice a (B).length c), (.int .i64 z), (.int .i64 4)]) (fun _ => (.tuple #[(.int .u32 ((rdV B z 4 : Nat) : Int)), (.int .i64 (rdN B.length z 4)), (.int .i64 (rdE B.length z 4))])) (fun _ _ => (by as_aux_lemma => kernel_rfl)) (fun _ => (by as_aux_lemma => kernel_rfl)) (fun _ _ => (by as_aux_lemma => kernel_rfl)) (fun _ _ => trivial) (fun _ _ w hG => read32_any a c B z 4 (by have := hz; have := hBl; omega) hBl (by decide) w hG.facts0.now.1)
  · exact Obl.brings (o_run 3 [] [] (fun _ _ => []) (fun _ _ => by as_aux_lemma => kernel_rfl)) (fun _ _ => trivial)
  · exact Obl.brings (o_run 4 [] [] (fun _ _ => []) (fun _ _ => by as_aux_lemma => kernel_rfl)) (fun _ _ => trivial)
  · exact Obl.brings (o_run 5 [] [] (fun _ _ => []) (fun _ _ => by as_aux_lemma => kernel_rfl)) (fun _ _ => trivial)
  · exact Obl.brings (o_run 6 [] [] (fun _ _ => []) (fun _ _ => by as_aux_lemma => kernel_rfl)) (fun _ _ => trivial)
  · exact Obl.brings (o_run 7 [] [] (fun _ _ => []) (fun _ _ => by as_aux_lemma => kernel_rfl)) (fun _ _ => trivial)
  · exact Obl.brings (o_run 8 [] [] (fun _ _ => []) (fun _ _ => by as_aux_lemma => kernel_rfl)) (fun _ _ => trivial)
theorem u32_any (a : Option Addr) (c : Nat) (B : List UInt8) (z : Int) (hz : -9223372036854775808 ≤ z ∧ z < 9223372036854775808) (hBl : B.length ≤ 140737488351232) (w0 : World) (hf0 : Bs w0 a c B) : Calls Try.prog 34 #[(.slice a (B).length c), (.int .i64 z)] w0 (fun ε w' => ε = .returned (.tuple #[(.int .u32 ((rdV B z 4 : Nat) : Int)), (.int .i64 (rdN B.length z 4)), (.int .i64 (rdE B.length z 4))]) ∧ Below w0.heap.size w0 w') := by
  refine Calls.of_ok (n := 13) (F := (fun w => Bs w a c B ∧ True)) Try.func34 rfl rfl rfl (by simp) (hf0.pers0.and persT) ?_
  refine ok_seq_r (by as_aux_lemma => kernel_rfl) (u32_any_r1 a c B z _ _) (fun _ => ?_)
  refine ok_seq_rf (by as_aux_lemma => kernel_rfl) (u32_any_r2 a c B z hz hBl _) (fun _ => ?_)
  refine ok_ret ?_
  exact meets_ret (v := (.tuple #[(.int .u32 ((rdV B z 4 : Nat) : Int)), (.int .i64 (rdN B.length z 4)), (.int .i64 (rdE B.length z 4))])) [] (dup []) (by as_aux_lemma => kernel_rfl) (by as_aux_lemma => kernel_rfl) (eqs_dup _) (fun _ hS => ⟨rfl, hS.below⟩)
theorem read64_any_r1 (a : Option Addr) (c : Nat) (B : List UInt8) (z : Int) (m : Nat) (w0 : World) (F : World → Prop) : Reg Try.prog 0 (regOps Try.f54 0) false 40 [(0, (.slice a (B).length c)), (1, (.int .i64 z)), (2, (.int .i64 ((m : Nat) : Int)))] w0 [] F
    (fun _ => [(0, (.slice a (B).length c)), (1, (.int .i64 z)), (2, (.int .i64 ((m : Nat) : Int))), (6, (.int .u64 0)), (7, (.int .i64 0)), (8, (.int .i64 0))])
    (fun _ => []) := by
  refine reg_seq [0, 1, 3] [0, 1, 2, 6, 7, 8] 3
    (fun _ ι => ([(.int .u64 0), (.int .i64 0), (.int .i64 0)] : List Value).getD ι undef)
    (fun _ ι => ([{}, {}, {}] : List Eff).getD ι {})
    (by as_aux_lemma => kernel_rfl) (by as_aux_lemma => kernel_rfl) (fun _ => by as_aux_lemma => kernel_rfl) (fun _ => by as_aux_lemma => kernel_rfl) ⟨⟨⟨trivial, ?_⟩, ?_⟩, ?_⟩
  · exact o_run 0 [] [] (fun _ _ => []) (fun _ _ => by as_aux_lemma => kernel_rfl)
  · exact o_run 1 [] [] (fun _ _ => []) (fun _ _ => by as_aux_lemma => kernel_rfl)
  · exact o_run 2 [] [] (fun _ _ => []) (fun _ _ => by as_aux_lemma => kernel_rfl)
theorem read64_any_r2 (a : Option Addr) (c : Nat) (B : List UInt8) (z : Int) (m : Nat) (hz : -9223372036854775808 ≤ z ∧ z < 9223372036854775808) (hBl : B.length ≤ 140737488351232) (hm : 8 * m ≤ 64) (w0 : World) (F : World → Prop) : Reg Try.prog 1 (regOps Try.f54 1) false 40 [(0, (.slice a (B).length c)), (1, (.int .i64 z)), (2, (.int .i64 ((m : Nat) : Int))), (6, (.int .u64 0)), (7, (.int .i64 0)), (8, (.int .i64 0))] w0 [] F
    (fun _ => [(0, (.slice a (B).length c)), (1, (.int .i64 z)), (2, (.int .i64 ((m : Nat) : Int))), (6, (.int .u64 0)), (7, (.int .i64 0)), (8, (.int .i64 0)), (9, (.int .i64 (rdE B.length z m)))])
    (fun _ => []) := by
  refine reg_seq [0, 1, 3, 7, 15] [0, 1, 2, 6, 7, 8, 9] 5
    (fun _ ι => ([(.slice a (B).length c), (.int .i64 z), (.int .i64 ((m : Nat) : Int)), (.int .i64 (rdE B.length z m)), (.int .i64 (rdE B.length z m))] : List Value).getD ι undef)
    (fun _ ι => ([{}, {}, {}, {}, {}] : List Eff).getD ι {})
    (by as_aux_lemma => kernel_rfl) (by as_aux_lemma => kernel_rfl) (fun _ => by as_aux_lemma => kernel_rfl) (fun _ => by as_aux_lemma => kernel_rfl) ⟨⟨⟨⟨⟨trivial, ?_⟩, ?_⟩, ?_⟩, ?_⟩, ?_⟩
  · exact o_run 0 [] [] (fun _ _ => []) (fun _ _ => by as_aux_lemma => kernel_rfl)
  · exact o_run 1 [] [] (fun _ _ => []) (fun _ _ => by as_aux_lemma => kernel_rfl)
  · exact o_run 2 [] [] (fun _ _ => []) (fun _ _ => by as_aux_lemma => kernel_rfl)
  · exact o_call 3 55 (fun _ => #[(.slice a (B).length c), (.int .i64 z), (.int .i64 ((m : Nat) : Int))]) (fun _ => (.int .i64 (rdE B.length z m))) (fun _ _ => by as_aux_lemma => kernel_rfl) (fun _ w => (fun w => room_any a c B z m (by have := hz; have := hBl; have := hm; omega) hBl (by have := hz; have := hBl; have := hm; omega) w) w)
  · exact o_run 4 [] [] (fun _ _ => []) (fun _ _ => by as_aux_lemma => kernel_rfl)
theorem read64_any_r3 (a : Option Addr) (c : Nat) (B : List UInt8) (z : Int) (m : Nat) (w0 : World) (F : World → Prop) : Reg Try.prog 2 (regOps Try.f54 2) false 40 [(0, (.slice a (B).length c)), (1, (.int .i64 z)), (2, (.int .i64 ((m : Nat) : Int))), (6, (.int .u64 0)), (7, (.int .i64 0)), (8, (.int .i64 0)), (9, (.int .i64 (rdE B.length z m)))] w0 [] F
    (fun _ => [(0, (.slice a (B).length c)), (1, (.int .i64 z)), (2, (.int .i64 ((m : Nat) : Int))), (6, (.int .u64 0)), (7, (.int .i64 0)), (8, (.int .i64 0)), (9, (.int .i64 (rdE B.length z m))), (17, (.bool ((rdE B.length z m) != 0)))])
    (fun _ => []) := by
  refine reg_seq [0, 1] [0, 1, 2, 6, 7, 8, 9, 17] 2
    (fun _ ι => ([(.int .i64 (rdE B.length z m)), (.bool ((rdE B.length z m) != 0))] : List Value).getD ι undef)
    (fun _ ι => ([{}, {}] : List Eff).getD ι {})
    (by as_aux_lemma => kernel_rfl) (by as_aux_lemma => kernel_rfl) (fun _ => by as_aux_lemma => kernel_rfl) (fun _ => by as_aux_lemma => kernel_rfl) ⟨⟨trivial, ?_⟩, ?_⟩
  · exact o_run 0 [] [] (fun _ _ => []) (fun _ _ => by as_aux_lemma => kernel_rfl)
  · exact o_run 1 [] [] (fun _ _ => []) (fun _ _ => by as_aux_lemma => kernel_rfl)
theorem read64_any_r4 (a : Option Addr) (c : Nat) (B : List UInt8) (z : Int) (m : Nat) (w0 : World) (F : World → Prop) : Reg Try.prog 3 (regOps Try.f54 3) false 40 [(0, (.slice a (B).length c)), (1, (.int .i64 z)), (2, (.int .i64 ((m : Nat) : Int))), (6, (.int .u64 0)), (7, (.int .i64 0)), (8, (.int .i64 0)), (9, (.int .i64 (rdE B.length z m))), (17, (.bool true))] w0 [] F
    (fun _ => [(0, (.slice a (B).length c)), (1, (.int .i64 z)), (2, (.int .i64 ((m : Nat) : Int))), (6, (.int .u64 0)), (7, (.int .i64 0)), (8, (.int .i64 (rdE B.length z m)))])
    (fun _ => []) := by
  refine reg_seq [0, 1, 3, 7] [0, 1, 2, 6, 7, 8] 4
    (fun _ ι => ([(.int .i64 (rdE B.length z m)), (.int .u64 0), (.int .i64 0), (.int .i64 (rdE B.length z m))] : List Value).getD ι undef)
    (fun _ ι => ([{}, {}, {}, {}] : List Eff).getD ι {})
    (by as_aux_lemma => kernel_rfl) (by as_aux_lemma => kernel_rfl) (fun _ => by as_aux_lemma => kernel_rfl) (fun _ => by as_aux_lemma => kernel_rfl) ⟨⟨⟨⟨trivial, ?_⟩, ?_⟩, ?_⟩, ?_⟩
  · exact o_run 0 [] [] (fun _ _ => []) (fun _ _ => by as_aux_lemma => kernel_rfl)
  · exact o_run 1 [] [] (fun _ _ => []) (fun _ _ => by as_aux_lemma => kernel_rfl)
  · exact o_run 2 [] [] (fun _ _ => []) (fun _ _ => by as_aux_lemma => kernel_rfl)
  · exact o_run 3 [] [] (fun _ _ => []) (fun _ _ => by as_aux_lemma => kernel_rfl)
theorem read64_any_r5 (a : Option Addr) (c : Nat) (B : List UInt8) (z : Int) (m : Nat) (w0 : World) (F : World → Prop) : Reg Try.prog 4 (regOps Try.f54 4) false 40 [(0, (.slice a (B).length c)), (1, (.int .i64 z)), (2, (.int .i64 ((m : Nat) : Int))), (6, (.int .u64 0)), (7, (.int .i64 0)), (8, (.int .i64 0)), (9, (.int .i64 (rdE B.length z m))), (17, (.bool false))] w0 [] F
    (fun _ => [(0, (.slice a (B).length c)), (1, (.int .i64 z)), (2, (.int .i64 ((m : Nat) : Int))), (6, (.int .u64 0)), (7, (.int .i64 0)), (8, (.int .i64 0)), (10, (.int .u64 0))])
    (fun _ => []) := by
  refine reg_seq [0] [0, 1, 2, 6, 7, 8, 10] 1
    (fun _ ι => ([(.int .u64 0)] : List Value).getD ι undef)
    (fun _ ι => ([{}] : List Eff).getD ι {})
    (by as_aux_lemma => kernel_rfl) (by as_aux_lemma => kernel_rfl) (fun _ => by as_aux_lemma => kernel_rfl) (fun _ => by as_aux_lemma => kernel_rfl) ⟨trivial, ?_⟩
  · exact o_run 0 [] [] (fun _ _ => []) (fun _ _ => by as_aux_lemma => kernel_rfl)
theorem read64_any_r6 (a : Option Addr) (c : Nat) (B : List UInt8) (z : Int) (m : Nat) (w0 : World) (F : World → Prop) : Reg Try.prog 5 (regOps Try.f54 5) false 40 [(0, (.slice a (B).length c)), (1, (.int .i64 z)), (2, (.int .i64 ((m : Nat) : Int))), (6, (.int .u64 0)), (7, (.int .i64 0)), (8, (.int .i64 0)), (10, (.int .u64 0))] w0 [] F
    (fun _ => [(0, (.slice a (B).length c)), (1, (.int .i64 z)), (2, (.int .i64 ((m : Nat) : Int))), (6, (.int .u64 0)), (7, (.int .i64 0)), (8, (.int .i64 0)), (10, (.int .u64 0)), (19, (.int .i64 ((m : Nat) : Int))), (20, (.int .i64 0))])
    (fun _ => []) := by
  refine reg_seq [0, 1] [0, 1, 2, 6, 7, 8, 10, 19, 20] 2
    (fun _ ι => ([(.int .i64 ((m : Nat) : Int)), (.int .i64 0)] : List Value).getD ι undef)
    (fun _ ι => ([{}, {}] : List Eff).getD ι {})
    (by as_aux_lemma => kernel_rfl) (by as_aux_lemma => kernel_rfl) (fun _ => by as_aux_lemma => kernel_rfl) (fun _ => by as_aux_lemma => kernel_rfl) ⟨⟨trivial, ?_⟩, ?_⟩
  · exact o_run 0 [] [] (fun _ _ => []) (fun _ _ => by as_aux_lemma => kernel_rfl)
  · exact o_run 1 [] [] (fun _ _ => []) (fun _ _ => by as_aux_lemma => kernel_rfl)
theorem read64_any_r7 (a : Option Addr) (c : Nat) (B : List UInt8) (z : Int) (m : Nat) (i : Nat) (w0 : World) (F : World → Prop) : Reg Try.prog 6 (regOps Try.f54 6) false 40 [(0, (.slice a (B).length c)), (1, (.int .i64 z)), (2, (.int .i64 ((m : Nat) : Int))), (6, (.int .u64 0)), (7, (.int .i64 0)), (8, (.int .i64 0)), (10, (.int .u64 ((leN B z.toNat i : Nat) : Int))), (19, (.int .i64 ((m : Nat) : Int))), (20, (.int .i64 ((i : Nat) : Int)))] w0 [] F
    (fun _ => [(0, (.slice a (B).length c)), (1, (.int .i64 z)), (2, (.int .i64 ((m : Nat) : Int))), (6, (.int .u64 0)), (7, (.int .i64 0)), (8, (.int .i64 0)), (10, (.int .u64 ((leN B z.toNat i : Nat) : Int))), (19, (.int .i64 ((m : Nat) : Int))), (20, (.int .i64 ((i : Nat) : Int))), (21, (.bool (decide (((i : Nat) : Int) < ((m : Nat) : Int)))))])
    (fun _ => []) := by
  refine reg_seq [0] [0, 1, 2, 6, 7, 8, 10, 19, 20, 21] 1
    (fun _ ι => ([(.bool (decide (((i : Nat) : Int) < ((m : Nat) : Int))))] : List Value).getD ι undef)
    (fun _ ι => ([{}] : List Eff).getD ι {})
    (by as_aux_lemma => kernel_rfl) (by as_aux_lemma => kernel_rfl) (fun _ => by as_aux_lemma => kernel_rfl) (fun _ => by as_aux_lemma => kernel_rfl) ⟨trivial, ?_⟩
  · exact o_run 0 [] [] (fun _ _ => []) (fun _ _ => by as_aux_lemma => kernel_rfl)
theorem read64_any_r8 (a : Option Addr) (c : Nat) (B : List UInt8) (z : Int) (m : Nat) (i : Nat) (w0 : World) (F : World → Prop) : Reg Try.prog 7 (regOps Try.f54 7) false 40 [(0, (.slice a (B).length c)), (1, (.int .i64 z)), (2, (.int .i64 ((m : Nat) : Int))), (6, (.int .u64 0)), (7, (.int .i64 0)), (8, (.int .i64 0)), (10, (.int .u64 ((leN B z.toNat i : Nat) : Int))), (19, (.int .i64 ((m : Nat) : Int))), (20, (.int .i64 ((i : Nat) : Int))), (21, (.bool true))] w0 [] F
    (fun _ => [(0, (.slice a (B).length c)), (1, (.int .i64 z)), (2, (.int .i64 ((m : Nat) : Int))), (6, (.int .u64 0)), (7, (.int .i64 0)), (8, (.int .i64 0)), (10, (.int .u64 ((leN B z.toNat i : Nat) : Int))), (11, (.int .i64 ((i : Nat) : Int))), (19, (.int .i64 ((m : Nat) : Int))), (20, (.int .i64 ((i : Nat) : Int)))])
    (fun _ => []) := by
  refine reg_seq [0, 1] [0, 1, 2, 6, 7, 8, 10, 11, 19, 20] 2
    (fun _ ι => ([(.int .i64 ((i : Nat) : Int)), (.int .i64 ((i : Nat) : Int))] : List Value).getD ι undef)
    (fun _ ι => ([{}, {}] : List Eff).getD ι {})
    (by as_aux_lemma => kernel_rfl) (by as_aux_lemma => kernel_rfl) (fun _ => by as_aux_lemma => kernel_rfl) (fun _ => by as_aux_lemma => kernel_rfl) ⟨⟨trivial, ?_⟩, ?_⟩
  · exact o_run 0 [] [] (fun _ _ => []) (fun _ _ => by as_aux_lemma => kernel_rfl)
  · exact o_run 1 [] [] (fun _ _ => []) (fun _ _ => by as_aux_lemma => kernel_rfl)
theorem read64_any_r9 (a : Option Addr) (c : Nat) (B : List UInt8) (z : Int) (m : Nat) (hz : -9223372036854775808 ≤ z ∧ z < 9223372036854775808) (hBl : B.length ≤ 140737488351232) (hm : 8 * m ≤ 64) (hb1 : ((rdE B.length z m) != 0) = false) (i : Nat) (hi : i ≤ m) (hb2 : (decide (((i : Nat) : Int) < ((m : Nat) : Int))) = true) (w0 : World) : RegF Try.prog 8 (regOps Try.f54 8) false 40 [(0, (.slice a (B).length c)), (1, (.int .i64 z)), (2, (.int .i64 ((m : Nat) : Int))), (6, (.int .u64 0)), (7, (.int .i64 0)), (8, (.int .i64 0)), (10, (.int .u64 ((leN B z.toNat i : Nat) : Int))), (11, (.int .i64 ((i : Nat) : Int))), (19, (.int .i64 ((m : Nat) : Int))), (20, (.int .i64 ((i : Nat) : Int)))] w0 [] (fun w => Bs w a c B ∧ True)
    (fun _ => [(0, (.slice a (B).length c)), (1, (.int .i64 z)), (2, (.int .i64 ((m : Nat) : Int))), (6, (.int .u64 0)), (7, (.int .i64 0)), (8, (.int .i64 0)), (10, (.int .u64 ((leN B z.toNat (i + 1) : Nat) : Int))), (19, (.int .i64 ((m : Nat) : Int))), (20, (.int .i64 ((i : Nat) : Int)))])
    (fun _ => []) (fun _ => (fun w => Bs w a c B ∧ True)) := by
  refine reg_seq_f [0, 1, 3, 7, 15, 31, 63, 127, 255, 511, 1023, 2047, 4095] [0, 1, 2, 6, 7, 8, 10, 19, 20] 13
    (fun _ ι => ([(.int .u64 ((leN B z.toNat i : Nat) : Int)), (.slice a (B).length c), (.int .i64 z), (.int .i64 ((i : Nat) : Int)), (.int .i64 (z + ((i : Nat) : Int))), (.pointer (adr a (z.toNat + i))), (.int .u8 ((gB B (z.toNat + i) : Nat) : Int)), (.int .u64 ((gB B (z.toNat + i) : Nat) : Int)), (.int .i64 ((i : Nat) : Int)), (.int .i64 ((8 * i : Nat) : Int)), (.int .u64 ((gB B (z.toNat + i) * 256 ^ i : Nat) : Int)), (.int .u64 ((leN B z.toNat (i + 1) : Nat) : Int)), (.int .u64 ((leN B z.toNat (i + 1) : Nat) : Int))] : List Value).getD ι undef)
    (fun _ ι => ([{}, {}, {}, {}, {}, {}, {}, {}, {}, {}, {}, {}, {}] : List Eff).getD ι {})
    (fun _ ι => ([(fun _ => True), (fun _ => True), (fun _ => True), (fun _ => True), (fun _ => True), (fun _ => True), (fun _ => True), (fun _ => True), (fun _ => True), (fun _ => True), (fun _ => True), (fun _ => True), (fun _ => True)] : List (World → Prop)).getD ι (fun _ => True))
    (by as_aux_lemma => kernel_rfl) (by as_aux_lemma => kernel_rfl) (fun _ => by as_aux_lemma => kernel_rfl) (fun _ => by as_aux_lemma => kernel_rfl) (fun _ _ hF _ => ⟨hF.1, trivial⟩) ⟨⟨⟨⟨⟨⟨⟨⟨⟨⟨⟨⟨⟨trivial, ?_⟩, ?_⟩, ?_⟩, ?_⟩, ?_⟩, ?_⟩, ?_⟩, ?_⟩, ?_⟩, ?_⟩, ?_⟩, ?_⟩, ?_⟩
  · exact Obl.brings (o_run 0 [] [] (fun _ _ => []) (fun _ _ => by as_aux_lemma => kernel_rfl)) (fun _ _ => trivial)
  · exact Obl.brings (o_run 1 [] [] (fun _ _ => []) (fun _ _ => by as_aux_lemma => kernel_rfl)) (fun _ _ => trivial)
  · exact Obl.brings (o_run 2 [] [] (fun _ _ => []) (fun _ _ => by as_aux_lemma => kernel_rfl)) (fun _ _ => trivial)
  · exact Obl.brings (o_run 3 [] [] (fun _ _ => []) (fun _ _ => by as_aux_lemma => kernel_rfl)) (fun _ _ => trivial)
  · exact Obl.brings (o_as 4 (fun _ => (.int .i64 (IntKind.i64.wrap (z + ((i : Nat) : Int))))) (fun _ => (.int .i64 (z + ((i : Nat) : Int)))) (fun _ _ => by as_aux_lemma => kernel_rfl) (fun _ => congrArg (Value.int .i64) (i64N (by have := bne0' hb1; have := rdE_in (bne0' hb1); have := of_decide_eq_true hb2; have := hz; have := hBl; have := hm; have := hi; omega)))) (fun _ _ => trivial)
  · exact o_semF 5 (fun _ => do pure (Next.value (← Instr.indexAt 22 (.slice a (B).length c) (.int .i64 (z + ((i : Nat) : Int)))))) (fun _ => (.pointer (adr a (z.toNat + i)))) (fun _ => (by as_aux_lemma => kernel_rfl)) (fun _ => (by as_aux_lemma => kernel_rfl)) (fun _ _ _ hG => idx_bytes Try.underlying22 u8i hG.facts0.now.1 rfl ((show z + ((i : Nat) : Int) = ((z.toNat + i : Nat) : Int) ∧ z.toNat + i < (B).length from ⟨(by have := bne0' hb1; have := rdE_in (bne0' hb1); have := of_decide_eq_true hb2; have := hz; have := hBl; have := hm; have := hi; omega), (by have := bne0' hb1; have := rdE_in (bne0' hb1); have := of_decide_eq_true hb2; have := hz; have := hBl; have := hm; have := hi; omega)⟩)).1 ((show z + ((i : Nat) : Int) = ((z.toNat + i : Nat) : Int) ∧ z.toNat + i < (B).length from ⟨(by have := bne0' hb1; have := rdE_in (bne0' hb1); have := of_decide_eq_true hb2; have := hz; have := hBl; have := hm; have := hi; omega), (by have := bne0' hb1; have := rdE_in (bne0' hb1); have := of_decide_eq_true hb2; have := hz; have := hBl; have := hm; have := hi; omega)⟩)).2) (fun _ _ _ _ => persT)
  · exact o_semF 6 (fun _ => do pure (Next.value (← Instr.loadAt 5 (.pointer (adr a (z.toNat + i)))))) (fun _ => (.int .u8 ((gB B (z.toNat + i) : Nat) : Int))) (fun _ => (by as_aux_lemma => kernel_rfl)) (fun _ => (by as_aux_lemma => kernel_rfl)) (fun _ _ _ hG => ld_bytes Try.isAgg5 hG.facts0.now.1 ((show z + ((i : Nat) : Int) = ((z.toNat + i : Nat) : Int) ∧ z.toNat + i < (B).length from ⟨(by have := bne0' hb1; have := rdE_in (bne0' hb1); have := of_decide_eq_true hb2; have := hz; have := hBl; have := hm; have := hi; omega), (by have := bne0' hb1; have := rdE_in (bne0' hb1); have := of_decide_eq_true hb2; have := hz; have := hBl; have := hm; have := hi; omega)⟩)).2) (fun _ _ _ _ => persT)
  · exact Obl.brings (o_as 7 (fun _ => (.int .u64 (IntKind.u64.wrap (((gB B (z.toNat + i) : Nat) : Int))))) (fun _ => (.int .u64 ((gB B (z.toNat + i) : Nat) : Int))) (fun _ _ => by as_aux_lemma => kernel_rfl) (fun _ => congrArg (Value.int .u64) (gB_in (k := .u64) rfl (by decide) B (z.toNat + i)))) (fun _ _ => trivial)
  · exact Obl.brings (o_run 8 [] [] (fun _ _ => []) (fun _ _ => by as_aux_lemma => kernel_rfl)) (fun _ _ => trivial)
  · exact Obl.brings (o_as 9 (fun _ => (.int .i64 (IntKind.i64.wrap (8 * ((i : Nat) : Int))))) (fun _ => (.int .i64 ((8 * i : Nat) : Int))) (fun _ _ => by as_aux_lemma => kernel_rfl) (fun _ => congrArg (Value.int .i64) (wrap_mulN 8 i (by have := bne0' hb1; have := rdE_in (bne0' hb1); have := of_decide_eq_true hb2; have := hz; have := hBl; have := hm; have := hi; omega)))) (fun _ _ => trivial)
  · exact Obl.brings (o_bin 10 .shl 23 (fun _ => (.int .u64 ((gB B (z.toNat + i) : Nat) : Int))) (fun _ => (.int .i64 ((8 * i : Nat) : Int))) (fun _ => (.int .u64 ((gB B (z.toNat + i) * 256 ^ i : Nat) : Int))) (fun _ => by as_aux_lemma => kernel_rfl) (fun _ _ _ _ => by as_aux_lemma => kernel_rfl) (fun _ w => run_shl8 (k := .u64) rfl B (z.toNat + i) i (by show 8 * (i + 1) ≤ 64; have := bne0' hb1; have := rdE_in (bne0' hb1); have := of_decide_eq_true hb2; have := hz; have := hBl; have := hm; have := hi; omega) w)) (fun _ _ => trivial)
  · exact Obl.brings (o_as 11 (fun _ => (.int .u64 (bits .or .u64 ((leN B z.toNat i : Nat) : Int) ((gB B (z.toNat + i) * 256 ^ i : Nat) : Int)))) (fun _ => (.int .u64 ((leN B z.toNat (i + 1) : Nat) : Int))) (fun _ _ => by as_aux_lemma => kernel_rfl) (fun _ => congrArg (Value.int .u64) (or_leN (k := .u64) rfl B z.toNat i (by show 8 * (i + 1) ≤ 64; have := bne0' hb1; have := rdE_in (bne0' hb1); have := of_decide_eq_true hb2; have := hz; have := hBl; have := hm; have := hi; omega)))) (fun _ _ => trivial)
  · exact Obl.brings (o_run 12 [] [] (fun _ _ => []) (fun _ _ => by as_aux_lemma => kernel_rfl)) (fun _ _ => trivial)
theorem read64_any_r10 (a : Option Addr) (c : Nat) (B : List UInt8) (z : Int) (m : Nat) (hz : -9223372036854775808 ≤ z ∧ z < 9223372036854775808) (hBl : B.length ≤ 140737488351232) (hm : 8 * m ≤ 64) (hb1 : ((rdE B.length z m) != 0) = false) (i : Nat) (hi : i ≤ m) (hb2 : (decide (((i : Nat) : Int) < ((m : Nat) : Int))) = true) (w0 : World) (F : World → Prop) : Reg Try.prog 9 (regOps Try.f54 9) false 40 [(0, (.slice a (B).length c)), (1, (.int .i64 z)), (2, (.int .i64 ((m : Nat) : Int))), (6, (.int .u64 0)), (7, (.int .i64 0)), (8, (.int .i64 0)), (10, (.int .u64 ((leN B z.toNat (i + 1) : Nat) : Int))), (19, (.int .i64 ((m : Nat) : Int))), (20, (.int .i64 ((i : Nat) : Int)))] w0 [] F
    (fun _ => [(0, (.slice a (B).length c)), (1, (.int .i64 z)), (2, (.int .i64 ((m : Nat) : Int))), (6, (.int .u64 0)), (7, (.int .i64 0)), (8, (.int .i64 0)), (10, (.int .u64 ((leN B z.toNat (i + 1) : Nat) : Int))), (19, (.int .i64 ((m : Nat) : Int))), (20, (.int .i64 ((i + 1 : Nat) : Int)))])
    (fun _ => []) := by
  refine reg_seq [0, 1] [0, 1, 2, 6, 7, 8, 10, 19, 20] 2
    (fun _ ι => ([(.int .i64 ((i + 1 : Nat) : Int)), (.int .i64 ((i + 1 : Nat) : Int))] : List Value).getD ι undef)
    (fun _ ι => ([{}, {}] : List Eff).getD ι {})
    (by as_aux_lemma => kernel_rfl) (by as_aux_lemma => kernel_rfl) (fun _ => by as_aux_lemma => kernel_rfl) (fun _ => by as_aux_lemma => kernel_rfl) ⟨⟨trivial, ?_⟩, ?_⟩
  · exact o_as 0 (fun _ => (.int .i64 (IntKind.i64.wrap (((i : Nat) : Int) + 1)))) (fun _ => (.int .i64 ((i + 1 : Nat) : Int))) (fun _ _ => by as_aux_lemma => kernel_rfl) (fun _ => congrArg (Value.int .i64) (wrap_addN i 1 (by have := bne0' hb1; have := rdE_in (bne0' hb1); have := of_decide_eq_true hb2; have := hz; have := hBl; have := hm; have := hi; omega)))
  · exact o_run 1 [] [] (fun _ _ => []) (fun _ _ => by as_aux_lemma => kernel_rfl)
theorem read64_any_r11 (a : Option Addr) (c : Nat) (B : List UInt8) (z : Int) (m : Nat) (hz : -9223372036854775808 ≤ z ∧ z < 9223372036854775808) (hBl : B.length ≤ 140737488351232) (hm : 8 * m ≤ 64) (hb1 : ((rdE B.length z m) != 0) = false) (i : Nat) (hi : i ≤ m) (hb2 : (decide (((i : Nat) : Int) < ((m : Nat) : Int))) = false) (w0 : World) (F : World → Prop) : Reg Try.prog 10 (regOps Try.f54 10) false 40 [(0, (.slice a (B).length c)), (1, (.int .i64 z)), (2, (.int .i64 ((m : Nat) : Int))), (6, (.int .u64 0)), (7, (.int .i64 0)), (8, (.int .i64 0)), (10, (.int .u64 ((leN B z.toNat i : Nat) : Int))), (19, (.int .i64 ((m : Nat) : Int))), (20, (.int .i64 ((i : Nat) : Int))), (21, (.bool false))] w0 [] F
    (fun _ => [(6, (.int .u64 ((leN B z.toNat i : Nat) : Int))), (7, (.int .i64 (z + ((m : Nat) : Int)))), (8, (.int .i64 0))])
    (fun _ => []) := by
  refine reg_seq [0, 1, 3, 7, 15, 31, 63] [6, 7, 8] 7
    (fun _ ι => ([(.int .u64 ((leN B z.toNat i : Nat) : Int)), (.int .i64 z), (.int .i64 ((m : Nat) : Int)), (.int .i64 (z + ((m : Nat) : Int))), (.int .u64 ((leN B z.toNat i : Nat) : Int)), (.int .i64 (z + ((m : Nat) : Int))), (.int .i64 0)] : List Value).getD ι undef)
    (fun _ ι => ([{}, {}, {}, {}, {}, {}, {}] : List Eff).getD ι {})
    (by as_aux_lemma => kernel_rfl) (by as_aux_lemma => kernel_rfl) (fun _ => by as_aux_lemma => kernel_rfl) (fun _ => by as_aux_lemma => kernel_rfl) ⟨⟨⟨⟨⟨⟨⟨trivial, ?_⟩, ?_⟩, ?_⟩, ?_⟩, ?_⟩, ?_⟩, ?_⟩
  · exact o_run 0 [] [] (fun _ _ => []) (fun _ _ => by as_aux_lemma => kernel_rfl)
  · exact o_run 1 [] [] (fun _ _ => []) (fun _ _ => by as_aux_lemma => kernel_rfl)
  · exact o_run 2 [] [] (fun _ _ => []) (fun _ _ => by as_aux_lemma => kernel_rfl)
  · exact o_as 3 (fun _ => (.int .i64 (IntKind.i64.wrap (z + ((m : Nat) : Int))))) (fun _ => (.int .i64 (z + ((m : Nat) : Int)))) (fun _ _ => by as_aux_lemma => kernel_rfl) (fun _ => congrArg (Value.int .i64) (i64N (by have := bne0' hb1; have := rdE_in (bne0' hb1); have := of_decide_eq_false hb2; have := hz; have := hBl; have := hm; have := hi; omega)))
  · exact o_run 4 [] [] (fun _ _ => []) (fun _ _ => by as_aux_lemma => kernel_rfl)
  · exact o_run 5 [] [] (fun _ _ => []) (fun _ _ => by as_aux_lemma => kernel_rfl)
  · exact o_run 6 [] [] (fun _ _ => []) (fun _ _ => by as_aux_lemma => kernel_rfl)
theorem read64_any (a : Option Addr) (c : Nat) (B : List UInt8) (z : Int) (m : Nat) (hz : -9223372036854775808 ≤ z ∧ z < 9223372036854775808) (hBl : B.length ≤ 140737488351232) (hm : 8 * m ≤ 64) (w0 : World) (hf0 : Bs w0 a c B) : Calls Try.prog 54 #[(.slice a (B).length c), (.int .i64 z), (.int .i64 ((m : Nat) : Int))] w0 (fun ε w' => ε = .returned (.tuple #[(.int .u64 ((rdV B z m : Nat) : Int)), (.int .i64 (rdN B.length z m)), (.int .i64 (rdE B.length z m))]) ∧ Below w0.heap.size w0 w') := by
  refine Calls.of_ok (n := 40) (F := (fun w => Bs w a c B ∧ True)) Try.func54 rfl rfl rfl (by simp) (hf0.pers0.and persT) ?_
  refine ok_seq_r (by as_aux_lemma => kernel_rfl) (read64_any_r1 a c B z m _ _) (fun _ => ?_)
  refine ok_seq ?_
  refine ok_seq_r (by as_aux_lemma => kernel_rfl) (read64_any_r2 a c B z m hz hBl hm _ _) (fun _ => ?_)
  refine ok_seq_r (by as_aux_lemma => kernel_rfl) (read64_any_r3 a c B z m _ _) (fun _ => ?_)
  refine ok_cond (b := (rdE B.length z m) != 0) (by as_aux_lemma => kernel_rfl) (fun hb1 => ?_) (fun hb1 => ?_)
  ·
    rw [hb1]
    refine ok_seq_r (by as_aux_lemma => kernel_rfl) (read64_any_r4 a c B z m _ _) (fun _ => ?_)
    refine ok_ret ?_
    refine mt_then_r ?_
    exact meets_ret (v := (.tuple #[(.int .u64 0), (.int .i64 0), (.int .i64 (rdE B.length z m))])) [] (dup []) (by as_aux_lemma => kernel_rfl) (by as_aux_lemma => kernel_rfl) (eqs_dup _) (fun _ hS => ⟨congrArg Ending.returned (rdT_err rfl (bne0 hb1)), hS.below⟩)
  ·
    rw [hb1]
    refine ok_skip ?_
    refine mt_then ?_
    refine ok_seq_r (by as_aux_lemma => kernel_rfl) (read64_any_r5 a c B z m _ _) (fun _ => ?_)
    refine ok_seq ?_
    refine ok_seq_r (by as_aux_lemma => kernel_rfl) (read64_any_r6 a c B z m _ _) (fun _ => ?_)
    refine ok_block ?_
    refine ok_loop (σ := Nat) (fun i => [(0, (.slice a (B).length c)), (1, (.int .i64 z)), (2, (.int .i64 ((m : Nat) : Int))), (6, (.int .u64 0)), (7, (.int .i64 0)), (8, (.int .i64 0)), (10, (.int .u64 ((leN B z.toNat i : Nat) : Int))), (19, (.int .i64 ((m : Nat) : Int))), (20, (.int .i64 ((i : Nat) : Int)))]) (fun _ => []) (fun i => m - i)
      (fun i => (i ≤ m)) 0 (Nat.zero_le m) (by as_aux_lemma => kernel_rfl) .slnil ?_
    rintro i hi
    change Ok Try.prog _ _ 40 [(0, (.slice a (B).length c)), (1, (.int .i64 z)), (2, (.int .i64 ((m : Nat) : Int))), (6, (.int .u64 0)), (7, (.int .i64 0)), (8, (.int .i64 0)), (10, (.int .u64 ((leN B z.toNat i : Nat) : Int))), (19, (.int .i64 ((m : Nat) : Int))), (20, (.int .i64 ((i : Nat) : Int)))] _ [] (fun w => Bs w a c B ∧ True)
    refine ok_seq_r (by as_aux_lemma => kernel_rfl) (read64_any_r7 a c B z m i _ _) (fun _ => ?_)
    refine ok_seq ?_
    refine ok_cond (b := decide (((i : Nat) : Int) < ((m : Nat) : Int))) (by as_aux_lemma => kernel_rfl) (fun hb2 => ?_) (fun hb2 => ?_)
    ·
      rw [hb2]
      refine ok_skip ?_
      refine mt_then ?_
      refine ok_seq ?_
      refine ok_block ?_
      refine ok_seq_r (by as_aux_lemma => kernel_rfl) (read64_any_r8 a c B z m i _ _) (fun _ => ?_)
      refine ok_rf (by as_aux_lemma => kernel_rfl) (read64_any_r9 a c B z m hz hBl hm hb1 i hi hb2 _) (fun _ => ?_)
      refine mt_block_n ?_
      refine mt_then ?_
      refine ok_r (by as_aux_lemma => kernel_rfl) (read64_any_r10 a c B z m hz hBl hm hb1 i hi hb2 _ _) (fun _ => ?_)
      exact mt_round (i + 1) (by show m - (i + 1) < m - i; have := bne0' hb1; have := rdE_in (bne0' hb1); have := of_decide_eq_true hb2; have := hz; have := hBl; have := hm; have := hi; omega) (by show i + 1 ≤ m; have := bne0' hb1; have := rdE_in (bne0' hb1); have := of_decide_eq_true hb2; have := hz; have := hBl; have := hm; have := hi; omega) (by as_aux_lemma => kernel_rfl) .slnil
    ·
      rw [hb2]
      refine ok_exit ?_
      refine mt_then_e ?_
      refine mt_then_e ?_
      refine mt_block_h ?_
      refine mt_then ?_
      refine ok_seq_r (by as_aux_lemma => kernel_rfl) (read64_any_r11 a c B z m hz hBl hm hb1 i hi hb2 _ _) (fun _ => ?_)
      refine ok_ret ?_
      exact meets_ret (v := (.tuple #[(.int .u64 ((leN B z.toNat i : Nat) : Int)), (.int .i64 (z + ((m : Nat) : Int))), (.int .i64 0)])) [] (dup []) (by as_aux_lemma => kernel_rfl) (by as_aux_lemma => kernel_rfl) (eqs_dup _) (fun _ hS => ⟨congrArg Ending.returned (rdT_ok (bne0' hb1) (by have := bne0' hb1; have := rdE_in (bne0' hb1); have := of_decide_eq_false hb2; have := hz; have := hBl; have := hm; have := hi; omega)), hS.below⟩)
theorem u64_any_r1 (a : Option Addr) (c : Nat) (B : List UInt8) (z : Int) (w0 : World) (F : World → Prop) : Reg Try.prog 0 (regOps Try.f36 0) false 13 [(0, (.slice a (B).length c)), (1, (.int .i64 z))] w0 [] F
    (fun _ => [(0, (.slice a (B).length c)), (1, (.int .i64 z)), (4, (.int .u64 0)), (5, (.int .i64 0)), (6, (.int .i64 0))])
    (fun _ => []) := by
  refine reg_seq [0, 1, 3] [0, 1, 4, 5, 6] 3
    (fun _ ι => ([(.int .u64 0), (.int .i64 0), (.int .i64 0)] : List Value).getD ι undef)
    (fun _ ι => ([{}, {}, {}] : List Eff).getD ι {})
    (by as_aux_lemma => kernel_rfl) (by as_aux_lemma => kernel_rfl) (fun _ => by as_aux_lemma => kernel_rfl) (fun _ => by as_aux_lemma => kernel_rfl) ⟨⟨⟨trivial, ?_⟩, ?_⟩, ?_⟩
  · exact o_run 0 [] [] (fun _ _ => []) (fun _ _ => by as_aux_lemma => kernel_rfl)
  · exact o_run 1 [] [] (fun _ _ => []) (fun _ _ => by as_aux_lemma => kernel_rfl)
  · exact o_run 2 [] [] (fun _ _ => []) (fun _ _ => by as_aux_lemma => kernel_rfl)
theorem u64_any_r2 (a : Option Addr) (c : Nat) (B : List UInt8) (z : Int) (hz : -9223372036854775808 ≤ z ∧ z < 9223372036854775808) (hBl : B.length ≤ 140737488351232) (w0 : World) : RegF Try.prog 1 (regOps Try.f36 1) false 13 [(0, (.slice a (B).length c)), (1, (.int .i64 z)), (4, (.int .u64 0)), (5, (.int .i64 0)), (6, (.int .i64 0))] w0 [] (fun w => Bs w a c B ∧ True)
    (fun _ => [(4, (.int .u64 ((rdV B z 8 : Nat) : Int))), (5, (.int .i64 (rdN B.length z 8))), (6, (.int .i64 (rdE B.length z 8)))])
    (fun _ => []) (fun _ => (fun w => Bs w a c B ∧ True)) := by
  refine reg_seq_f [0, 1, 3, 7, 15, 31, 63, 127, 255] [4, 5, 6] 9
    (fun _ ι => ([(.slice a (B).length c), (.int .i64 z), (.tuple #[(.int .u64 ((rdV B z 8 : Nat) : Int)), (.int .i64 (rdN B.length z 8)), (.int .i64 (rdE B.length z 8))]), (.int .u64 ((rdV B z 8 : Nat) : Int)), (.int .i64 (rdN B.length z 8)), (.int .i64 (rdE B.length z 8)), (.int .u64 ((rdV B z 8 : Nat) : Int)), (.int .i64 (rdN B.length z 8)), (.int .i64 (rdE B.length z 8))] : List Value).getD ι undef)
    (fun _ ι => ([{}, {}, {}, {}, {}, {}, {}, {}, {}] : List Eff).getD ι {})
    (fun _ ι => ([(fun _ => True), (fun _ => True), (fun _ => True), (fun _ => True), (fun _ => True), (fun _ => True), (fun _ => True), (fun _ => True), (fun _ => True)] : List (World → Prop)).getD ι (fun _ => True))
    (by as_aux_lemma => kernel_rfl) (by as_aux_lemma => kernel_rfl) (fun _ => by as_aux_lemma => kernel_rfl) (fun _ => by as_aux_lemma => kernel_rfl) (fun _ _ hF _ => ⟨hF.1, trivial⟩) ⟨⟨⟨⟨⟨⟨⟨⟨⟨trivial, ?_⟩, ?_⟩, ?_⟩, ?_⟩, ?_⟩, ?_⟩, ?_⟩, ?_⟩, ?_⟩
  · exact Obl.brings (o_run 0 [] [] (fun _ _ => []) (fun _ _ => by as_aux_lemma => kernel_rfl)) (fun _ _ => trivial)
  · exact Obl.brings (o_run 1 [] [] (fun _ _ => []) (fun _ _ => by as_aux_lemma => kernel_rfl)) (fun _ _ => trivial)
  · exact o_callP 2 54 (fun _ => #[(.slice a (B).length c), (.int .i64 z), (.int .i64 8)]) (fun _ => (.tuple #[(.int .u64 ((rdV B z 8 : Nat) : Int)), (.int .i64 (rdN B.length z 8)), (.int .i64 (rdE B.length z 8))])) (fun _ _ => (by as_aux_lemma => kernel_rfl)) (fun _ => (by as_aux_lemma => kernel_rfl)) (fun _ _ => (by as_aux_lemma => kernel_rfl)) (fun _ _ => trivial) (fun _ _ w hG => read64_any a c B z 8 (by have := hz; have := hBl; omega) hBl (by decide) w hG.facts0.now.1)
  · exact Obl.brings (o_run 3 [] [] (fun _ _ => []) (fun _ _ => by as_aux_lemma => kernel_rfl)) (fun _ _ => trivial)
  · exact Obl.brings (o_run 4 [] [] (fun _ _ => []) (fun _ _ => by as_aux_lemma => kernel_rfl)) (fun _ _ => trivial)
  · exact Obl.brings (o_run 5 [] [] (fun _ _ => []) (fun _ _ => by as_aux_lemma => kernel_rfl)) (fun _ _ => trivial)
  · exact Obl.brings (o_run 6 [] [] (fun _ _ => []) (fun _ _ => by as_aux_lemma => kernel_rfl)) (fun _ _ => trivial)
  · exact Obl.brings (o_run 7 [] [] (fun _ _ => []) (fun _ _ => by as_aux_lemma => kernel_rfl)) (fun _ _ => trivial)
  · exact Obl.brings (o_run 8 [] [] (fun _ _ => []) (fun _ _ => by as_aux_lemma => kernel_rfl)) (fun _ _ => trivial)
theorem u64_any (a : Option Addr) (c : Nat) (B : List UInt8) (z : Int) (hz : -9223372036854775808 ≤ z ∧ z < 9223372036854775808) (hBl : B.length ≤ 140737488351232) (w0 : World) (hf0 : Bs w0 a c B) : Calls Try.prog 36 #[(.slice a (B).length c), (.int .i64 z)] w0 (fun ε w' => ε = .returned (.tuple #[(.int .u64 ((rdV B z 8 : Nat) : Int)), (.int .i64 (rdN B.length z 8)), (.int .i64 (rdE B.length z 8))]) ∧ Below w0.heap.size w0 w') := by
  refine Calls.of_ok (n := 13) (F := (fun w => Bs w a c B ∧ True)) Try.func36 rfl rfl rfl (by simp) (hf0.pers0.and persT) ?_
  refine ok_seq_r (by as_aux_lemma => kernel_rfl) (u64_any_r1 a c B z _ _) (fun _ => ?_)
  refine ok_seq_rf (by as_aux_lemma => kernel_rfl) (u64_any_r2 a c B z hz hBl _) (fun _ => ?_)
  refine ok_ret ?_
  exact meets_ret (v := (.tuple #[(.int .u64 ((rdV B z 8 : Nat) : Int)), (.int .i64 (rdN B.length z 8)), (.int .i64 (rdE B.length z 8))])) [] (dup []) (by as_aux_lemma => kernel_rfl) (by as_aux_lemma => kernel_rfl) (eqs_dup _) (fun _ hS => ⟨rfl, hS.below⟩)
theorem number_any_r1 (a : Option Addr) (c : Nat) (B : List UInt8) (z : Int) (m : Nat) (w0 : World) (F : World → Prop) : Reg Try.prog 0 (regOps Try.f46 0) false 45 [(0, (.slice a (B).length c)), (1, (.int .i64 z)), (2, (.int .i64 ((m : Nat) : Int)))] w0 [] F
    (fun _ => [(0, (.slice a (B).length c)), (1, (.int .i64 z)), (2, (.int .i64 ((m : Nat) : Int))), (6, (.int .u64 0)), (7, (.int .i64 0)), (8, (.int .i64 0))])
    (fun _ => []) := by
  refine reg_seq [0, 1, 3] [0, 1, 2, 6, 7, 8] 3
    (fun _ ι => ([(.int .u64 0), (.int .i64 0), (.int .i64 0)] : List Value).getD ι undef)
    (fun _ ι => ([{}, {}, {}] : List Eff).getD ι {})
    (by as_aux_lemma => kernel_rfl) (by as_aux_lemma => kernel_rfl) (fun _ => by as_aux_lemma => kernel_rfl) (fun _ => by as_aux_lemma => kernel_rfl) ⟨⟨⟨trivial, ?_⟩, ?_⟩, ?_⟩
  · exact o_run 0 [] [] (fun _ _ => []) (fun _ _ => by as_aux_lemma => kernel_rfl)
  · exact o_run 1 [] [] (fun _ _ => []) (fun _ _ => by as_aux_lemma => kernel_rfl)
  · exact o_run 2 [] [] (fun _ _ => []) (fun _ _ => by as_aux_lemma => kernel_rfl)
theorem number_any_r2 (a : Option Addr) (c : Nat) (B : List UInt8) (z : Int) (m : Nat) (hb1 : (decide (z < 0)) = true) (w0 : World) (F : World → Prop) : Reg Try.prog 1 (regOps Try.f46 1) false 45 [(0, (.slice a (B).length c)), (1, (.int .i64 z)), (2, (.int .i64 ((m : Nat) : Int))), (6, (.int .u64 0)), (7, (.int .i64 0)), (8, (.int .i64 0))] w0 [] F
    (fun _ => [(0, (.slice a (B).length c)), (1, (.int .i64 z)), (2, (.int .i64 ((m : Nat) : Int))), (6, (.int .u64 0)), (7, (.int .i64 0)), (8, (.int .i64 0)), (18, (.bool true))])
    (fun _ => []) := by
  refine reg_seq [0, 1, 3, 7, 15, 31, 63, 127] [0, 1, 2, 6, 7, 8, 18] 8
    (fun _ ι => ([(.int .i64 z), (.bool true), (.bool true), undef, undef, undef, undef, (.bool true)] : List Value).getD ι undef)
    (fun _ ι => ([{}, {}, {}, {}, {}, {}, {}, {}] : List Eff).getD ι {})
    (by as_aux_lemma => kernel_rfl) (by as_aux_lemma => kernel_rfl) (fun _ => by as_aux_lemma => kernel_rfl) (fun _ => by as_aux_lemma => kernel_rfl) ⟨⟨⟨⟨⟨⟨⟨⟨trivial, ?_⟩, ?_⟩, ?_⟩, ?_⟩, ?_⟩, ?_⟩, ?_⟩, ?_⟩
  · exact o_run 0 [] [] (fun _ _ => []) (fun _ _ => by as_aux_lemma => kernel_rfl)
  · exact o_as 1 (fun _ => (.bool (decide (z < 0)))) (fun _ => (.bool true)) (fun _ _ => by as_aux_lemma => kernel_rfl) (fun _ => congrArg Value.bool hb1)
  · exact o_run 2 [] [] (fun _ _ => []) (fun _ _ => by as_aux_lemma => kernel_rfl)
  · exact o_skip 3 (fun _ => by as_aux_lemma => kernel_rfl)
  · exact o_skip 4 (fun _ => by as_aux_lemma => kernel_rfl)
  · exact o_skip 5 (fun _ => by as_aux_lemma => kernel_rfl)
  · exact o_skip 6 (fun _ => by as_aux_lemma => kernel_rfl)
  · exact o_run 7 [] [] (fun _ _ => []) (fun _ _ => by as_aux_lemma => kernel_rfl)
theorem number_any_r3 (a : Option Addr) (c : Nat) (B : List UInt8) (z : Int) (m : Nat) (w0 : World) (F : World → Prop) : Reg Try.prog 2 (regOps Try.f46 2) false 45 [(0, (.slice a (B).length c)), (1, (.int .i64 z)), (2, (.int .i64 ((m : Nat) : Int))), (6, (.int .u64 0)), (7, (.int .i64 0)), (8, (.int .i64 0)), (18, (.bool true))] w0 [] F
    (fun _ => [(0, (.slice a (B).length c)), (1, (.int .i64 z)), (2, (.int .i64 ((m : Nat) : Int))), (6, (.int .u64 0)), (7, (.int .i64 0)), (8, (.int .i64 5))])
    (fun _ => []) := by
  refine reg_seq [0, 1, 3] [0, 1, 2, 6, 7, 8] 3
    (fun _ ι => ([(.int .u64 0), (.int .i64 0), (.int .i64 5)] : List Value).getD ι undef)
    (fun _ ι => ([{}, {}, {}] : List Eff).getD ι {})
    (by as_aux_lemma => kernel_rfl) (by as_aux_lemma => kernel_rfl) (fun _ => by as_aux_lemma => kernel_rfl) (fun _ => by as_aux_lemma => kernel_rfl) ⟨⟨⟨trivial, ?_⟩, ?_⟩, ?_⟩
  · exact o_run 0 [] [] (fun _ _ => []) (fun _ _ => by as_aux_lemma => kernel_rfl)
  · exact o_run 1 [] [] (fun _ _ => []) (fun _ _ => by as_aux_lemma => kernel_rfl)
  · exact o_run 2 [] [] (fun _ _ => []) (fun _ _ => by as_aux_lemma => kernel_rfl)
theorem number_any_r4 (a : Option Addr) (c : Nat) (B : List UInt8) (z : Int) (m : Nat) (hb1 : (decide (z < 0)) = false) (w0 : World) (F : World → Prop) : Reg Try.prog 1 (regOps Try.f46 1) false 45 [(0, (.slice a (B).length c)), (1, (.int .i64 z)), (2, (.int .i64 ((m : Nat) : Int))), (6, (.int .u64 0)), (7, (.int .i64 0)), (8, (.int .i64 0))] w0 [] F
    (fun _ => [(0, (.slice a (B).length c)), (1, (.int .i64 z)), (2, (.int .i64 ((m : Nat) : Int))), (6, (.int .u64 0)), (7, (.int .i64 0)), (8, (.int .i64 0)), (18, (.bool (decide ((((B).length : Nat) : Int) < z))))])
    (fun _ => []) := by
  refine reg_seq [0, 1, 3, 7, 15, 31, 63, 127] [0, 1, 2, 6, 7, 8, 18] 8
    (fun _ ι => ([(.int .i64 z), (.bool false), (.bool false), (.int .i64 z), (.slice a (B).length c), (.int .i64 (((B).length : Nat) : Int)), (.bool (decide ((((B).length : Nat) : Int) < z))), (.bool (decide ((((B).length : Nat) : Int) < z)))] : List Value).getD ι undef)
    (fun _ ι => ([{}, {}, {}, {}, {}, {}, {}, {}] : List Eff).getD ι {})
    (by as_aux_lemma => kernel_rfl) (by as_aux_lemma => kernel_rfl) (fun _ => by as_aux_lemma => kernel_rfl) (fun _ => by as_aux_lemma => kernel_rfl) ⟨⟨⟨⟨⟨⟨⟨⟨trivial, ?_⟩, ?_⟩, ?_⟩, ?_⟩, ?_⟩, ?_⟩, ?_⟩, ?_⟩
  · exact o_run 0 [] [] (fun _ _ => []) (fun _ _ => by as_aux_lemma => kernel_rfl)
  · exact o_as 1 (fun _ => (.bool (decide (z < 0)))) (fun _ => (.bool false)) (fun _ _ => by as_aux_lemma => kernel_rfl) (fun _ => congrArg Value.bool hb1)
  · exact o_run 2 [] [] (fun _ _ => []) (fun _ _ => by as_aux_lemma => kernel_rfl)
  · exact o_run 3 [] [] (fun _ _ => []) (fun _ _ => by as_aux_lemma => kernel_rfl)
  · exact o_run 4 [] [] (fun _ _ => []) (fun _ _ => by as_aux_lemma => kernel_rfl)
  · exact o_run 5 [] [] (fun _ _ => []) (fun _ _ => by as_aux_lemma => kernel_rfl)
  · exact o_run 6 [] [] (fun _ _ => []) (fun _ _ => by as_aux_lemma => kernel_rfl)
  · exact o_run 7 [] [] (fun _ _ => []) (fun _ _ => by as_aux_lemma => kernel_rfl)
theorem number_any_r5 (a : Option Addr) (c : Nat) (B : List UInt8) (z : Int) (m : Nat) (w0 : World) (F : World → Prop) : Reg Try.prog 2 (regOps Try.f46 2) false 45 [(0, (.slice a (B).length c)), (1, (.int .i64 z)), (2, (.int .i64 ((m : Nat) : Int))), (6, (.int .u64 0)), (7, (.int .i64 0)), (8, (.int .i64 0)), (18, (.bool true))] w0 [] F
    (fun _ => [(0, (.slice a (B).length c)), (1, (.int .i64 z)), (2, (.int .i64 ((m : Nat) : Int))), (6, (.int .u64 0)), (7, (.int .i64 0)), (8, (.int .i64 5))])
    (fun _ => []) := by
  refine reg_seq [0, 1, 3] [0, 1, 2, 6, 7, 8] 3
    (fun _ ι => ([(.int .u64 0), (.int .i64 0), (.int .i64 5)] : List Value).getD ι undef)
    (fun _ ι => ([{}, {}, {}] : List Eff).getD ι {})
    (by as_aux_lemma => kernel_rfl) (by as_aux_lemma => kernel_rfl) (fun _ => by as_aux_lemma => kernel_rfl) (fun _ => by as_aux_lemma => kernel_rfl) ⟨⟨⟨trivial, ?_⟩, ?_⟩, ?_⟩
  · exact o_run 0 [] [] (fun _ _ => []) (fun _ _ => by as_aux_lemma => kernel_rfl)
  · exact o_run 1 [] [] (fun _ _ => []) (fun _ _ => by as_aux_lemma => kernel_rfl)
  · exact o_run 2 [] [] (fun _ _ => []) (fun _ _ => by as_aux_lemma => kernel_rfl)
theorem number_any_r6 (a : Option Addr) (c : Nat) (B : List UInt8) (z : Int) (m : Nat) (hz : -9223372036854775808 ≤ z ∧ z < 9223372036854775808) (hBl : B.length ≤ 140737488351232) (hm : m ≤ 8) (hb1 : (decide (z < 0)) = false) (hb2 : (decide ((((B).length : Nat) : Int) < z)) = false) (w0 : World) (F : World → Prop) : Reg Try.prog 3 (regOps Try.f46 3) false 45 [(0, (.slice a (B).length c)), (1, (.int .i64 z)), (2, (.int .i64 ((m : Nat) : Int))), (6, (.int .u64 0)), (7, (.int .i64 0)), (8, (.int .i64 0)), (18, (.bool false))] w0 [] F
    (fun _ => [(0, (.slice a (B).length c)), (1, (.int .i64 z)), (2, (.int .i64 ((m : Nat) : Int))), (6, (.int .u64 0)), (7, (.int .i64 0)), (8, (.int .i64 0)), (24, (.bool (decide (((((B).length : Nat) : Int) - z) < ((m : Nat) : Int)))))])
    (fun _ => []) := by
  refine reg_seq [0, 1, 3, 7, 15, 31] [0, 1, 2, 6, 7, 8, 24] 6
    (fun _ ι => ([(.slice a (B).length c), (.int .i64 (((B).length : Nat) : Int)), (.int .i64 z), (.int .i64 ((((B).length : Nat) : Int) - z)), (.int .i64 ((m : Nat) : Int)), (.bool (decide (((((B).length : Nat) : Int) - z) < ((m : Nat) : Int))))] : List Value).getD ι undef)
    (fun _ ι => ([{}, {}, {}, {}, {}, {}] : List Eff).getD ι {})
    (by as_aux_lemma => kernel_rfl) (by as_aux_lemma => kernel_rfl) (fun _ => by as_aux_lemma => kernel_rfl) (fun _ => by as_aux_lemma => kernel_rfl) ⟨⟨⟨⟨⟨⟨trivial, ?_⟩, ?_⟩, ?_⟩, ?_⟩, ?_⟩, ?_⟩
  · exact o_run 0 [] [] (fun _ _ => []) (fun _ _ => by as_aux_lemma => kernel_rfl)
  · exact o_run 1 [] [] (fun _ _ => []) (fun _ _ => by as_aux_lemma => kernel_rfl)
  · exact o_run 2 [] [] (fun _ _ => []) (fun _ _ => by as_aux_lemma => kernel_rfl)
  · exact o_as 3 (fun _ => (.int .i64 (IntKind.i64.wrap ((((B).length : Nat) : Int) - z)))) (fun _ => (.int .i64 ((((B).length : Nat) : Int) - z))) (fun _ _ => by as_aux_lemma => kernel_rfl) (fun _ => congrArg (Value.int .i64) (i64N (by have := of_decide_eq_false hb1; have := of_decide_eq_false hb2; have := hz; have := hBl; have := hm; omega)))
  · exact o_run 4 [] [] (fun _ _ => []) (fun _ _ => by as_aux_lemma => kernel_rfl)
  · exact o_run 5 [] [] (fun _ _ => []) (fun _ _ => by as_aux_lemma => kernel_rfl)
theorem number_any_r7 (a : Option Addr) (c : Nat) (B : List UInt8) (z : Int) (m : Nat) (w0 : World) (F : World → Prop) : Reg Try.prog 4 (regOps Try.f46 4) false 45 [(0, (.slice a (B).length c)), (1, (.int .i64 z)), (2, (.int .i64 ((m : Nat) : Int))), (6, (.int .u64 0)), (7, (.int .i64 0)), (8, (.int .i64 0)), (24, (.bool true))] w0 [] F
    (fun _ => [(0, (.slice a (B).length c)), (1, (.int .i64 z)), (2, (.int .i64 ((m : Nat) : Int))), (6, (.int .u64 0)), (7, (.int .i64 0)), (8, (.int .i64 1))])
    (fun _ => []) := by
  refine reg_seq [0, 1, 3] [0, 1, 2, 6, 7, 8] 3
    (fun _ ι => ([(.int .u64 0), (.int .i64 0), (.int .i64 1)] : List Value).getD ι undef)
    (fun _ ι => ([{}, {}, {}] : List Eff).getD ι {})
    (by as_aux_lemma => kernel_rfl) (by as_aux_lemma => kernel_rfl) (fun _ => by as_aux_lemma => kernel_rfl) (fun _ => by as_aux_lemma => kernel_rfl) ⟨⟨⟨trivial, ?_⟩, ?_⟩, ?_⟩
  · exact o_run 0 [] [] (fun _ _ => []) (fun _ _ => by as_aux_lemma => kernel_rfl)
  · exact o_run 1 [] [] (fun _ _ => []) (fun _ _ => by as_aux_lemma => kernel_rfl)
  · exact o_run 2 [] [] (fun _ _ => []) (fun _ _ => by as_aux_lemma => kernel_rfl)
theorem number_any_r8 (a : Option Addr) (c : Nat) (B : List UInt8) (z : Int) (m : Nat) (w0 : World) (F : World → Prop) : Reg Try.prog 5 (regOps Try.f46 5) false 45 [(0, (.slice a (B).length c)), (1, (.int .i64 z)), (2, (.int .i64 ((m : Nat) : Int))), (6, (.int .u64 0)), (7, (.int .i64 0)), (8, (.int .i64 0)), (24, (.bool false))] w0 [] F
    (fun _ => [(0, (.slice a (B).length c)), (1, (.int .i64 z)), (2, (.int .i64 ((m : Nat) : Int))), (6, (.int .u64 0)), (7, (.int .i64 0)), (8, (.int .i64 0)), (9, (.int .u64 0))])
    (fun _ => []) := by
  refine reg_seq [0] [0, 1, 2, 6, 7, 8, 9] 1
    (fun _ ι => ([(.int .u64 0)] : List Value).getD ι undef)
    (fun _ ι => ([{}] : List Eff).getD ι {})
    (by as_aux_lemma => kernel_rfl) (by as_aux_lemma => kernel_rfl) (fun _ => by as_aux_lemma => kernel_rfl) (fun _ => by as_aux_lemma => kernel_rfl) ⟨trivial, ?_⟩
  · exact o_run 0 [] [] (fun _ _ => []) (fun _ _ => by as_aux_lemma => kernel_rfl)
theorem number_any_r9 (a : Option Addr) (c : Nat) (B : List UInt8) (z : Int) (m : Nat) (hz : -9223372036854775808 ≤ z ∧ z < 9223372036854775808) (hBl : B.length ≤ 140737488351232) (hm : m ≤ 8) (hb1 : (decide (z < 0)) = false) (hb2 : (decide ((((B).length : Nat) : Int) < z)) = false) (hb3 : (decide (((((B).length : Nat) : Int) - z) < ((m : Nat) : Int))) = false) (w0 : World) (F : World → Prop) : Reg Try.prog 6 (regOps Try.f46 6) false 45 [(0, (.slice a (B).length c)), (1, (.int .i64 z)), (2, (.int .i64 ((m : Nat) : Int))), (6, (.int .u64 0)), (7, (.int .i64 0)), (8, (.int .i64 0)), (9, (.int .u64 0))] w0 [] F
    (fun _ => [(0, (.slice a (B).length c)), (1, (.int .i64 z)), (2, (.int .i64 ((m : Nat) : Int))), (6, (.int .u64 0)), (7, (.int .i64 0)), (8, (.int .i64 0)), (9, (.int .u64 0)), (10, (.int .i64 (((m : Nat) : Int) - 1 - ((0 : Nat) : Int))))])
    (fun _ => []) := by
  refine reg_seq [0, 1, 3] [0, 1, 2, 6, 7, 8, 9, 10] 3
    (fun _ ι => ([(.int .i64 ((m : Nat) : Int)), (.int .i64 (((m : Nat) : Int) - 1 - ((0 : Nat) : Int))), (.int .i64 (((m : Nat) : Int) - 1 - ((0 : Nat) : Int)))] : List Value).getD ι undef)
    (fun _ ι => ([{}, {}, {}] : List Eff).getD ι {})
    (by as_aux_lemma => kernel_rfl) (by as_aux_lemma => kernel_rfl) (fun _ => by as_aux_lemma => kernel_rfl) (fun _ => by as_aux_lemma => kernel_rfl) ⟨⟨⟨trivial, ?_⟩, ?_⟩, ?_⟩
  · exact o_run 0 [] [] (fun _ _ => []) (fun _ _ => by as_aux_lemma => kernel_rfl)
  · exact o_as 1 (fun _ => (.int .i64 (IntKind.i64.wrap (((m : Nat) : Int) - 1)))) (fun _ => (.int .i64 (((m : Nat) : Int) - 1 - ((0 : Nat) : Int)))) (fun _ _ => by as_aux_lemma => kernel_rfl) (fun _ => congrArg (Value.int .i64) ((i64N (by have := of_decide_eq_false hb1; have := of_decide_eq_false hb2; have := of_decide_eq_false hb3; have := hz; have := hBl; have := hm; omega)).trans (by omega)))
  · exact o_run 2 [] [] (fun _ _ => []) (fun _ _ => by as_aux_lemma => kernel_rfl)
theorem number_any_r10 (a : Option Addr) (c : Nat) (B : List UInt8) (z : Int) (m : Nat) (k : Nat) (w0 : World) (F : World → Prop) : Reg Try.prog 7 (regOps Try.f46 7) false 45 [(0, (.slice a (B).length c)), (1, (.int .i64 z)), (2, (.int .i64 ((m : Nat) : Int))), (6, (.int .u64 0)), (7, (.int .i64 0)), (8, (.int .i64 0)), (9, (.int .u64 ((leN B (z.toNat + (m - k)) k : Nat) : Int))), (10, (.int .i64 (((m : Nat) : Int) - 1 - ((k : Nat) : Int))))] w0 [] F
    (fun _ => [(0, (.slice a (B).length c)), (1, (.int .i64 z)), (2, (.int .i64 ((m : Nat) : Int))), (6, (.int .u64 0)), (7, (.int .i64 0)), (8, (.int .i64 0)), (9, (.int .u64 ((leN B (z.toNat + (m - k)) k : Nat) : Int))), (10, (.int .i64 (((m : Nat) : Int) - 1 - ((k : Nat) : Int)))), (28, (.bool (decide (0 ≤ (((m : Nat) : Int) - 1 - ((k : Nat) : Int))))))])
    (fun _ => []) := by
  refine reg_seq [0, 1] [0, 1, 2, 6, 7, 8, 9, 10, 28] 2
    (fun _ ι => ([(.int .i64 (((m : Nat) : Int) - 1 - ((k : Nat) : Int))), (.bool (decide (0 ≤ (((m : Nat) : Int) - 1 - ((k : Nat) : Int)))))] : List Value).getD ι undef)
    (fun _ ι => ([{}, {}] : List Eff).getD ι {})
    (by as_aux_lemma => kernel_rfl) (by as_aux_lemma => kernel_rfl) (fun _ => by as_aux_lemma => kernel_rfl) (fun _ => by as_aux_lemma => kernel_rfl) ⟨⟨trivial, ?_⟩, ?_⟩
  · exact o_run 0 [] [] (fun _ _ => []) (fun _ _ => by as_aux_lemma => kernel_rfl)
  · exact o_run 1 [] [] (fun _ _ => []) (fun _ _ => by as_aux_lemma => kernel_rfl)
theorem number_any_r11 (a : Option Addr) (c : Nat) (B : List UInt8) (z : Int) (m : Nat) (hz : -9223372036854775808 ≤ z ∧ z < 9223372036854775808) (hBl : B.length ≤ 140737488351232) (hm : m ≤ 8) (hb1 : (decide (z < 0)) = false) (hb2 : (decide ((((B).length : Nat) : Int) < z)) = false) (hb3 : (decide (((((B).length : Nat) : Int) - z) < ((m : Nat) : Int))) = false) (k : Nat) (hk : k ≤ m) (hb4 : (decide (0 ≤ (((m : Nat) : Int) - 1 - ((k : Nat) : Int)))) = true) (w0 : World) : RegF Try.prog 9 (regOps Try.f46 9) false 45 [(0, (.slice a (B).length c)), (1, (.int .i64 z)), (2, (.int .i64 ((m : Nat) : Int))), (6, (.int .u64 0)), (7, (.int .i64 0)), (8, (.int .i64 0)), (9, (.int .u64 ((leN B (z.toNat + (m - k)) k : Nat) : Int))), (10, (.int .i64 (((m : Nat) : Int) - 1 - ((k : Nat) : Int)))), (28, (.bool true))] w0 [] (fun w => Bs w a c B ∧ True)
    (fun _ => [(0, (.slice a (B).length c)), (1, (.int .i64 z)), (2, (.int .i64 ((m : Nat) : Int))), (6, (.int .u64 0)), (7, (.int .i64 0)), (8, (.int .i64 0)), (9, (.int .u64 ((leN B (z.toNat + (m - (k + 1))) (k + 1) : Nat) : Int))), (10, (.int .i64 (((m : Nat) : Int) - 1 - ((k : Nat) : Int))))])
    (fun _ => []) (fun _ => (fun w => Bs w a c B ∧ True)) := by
  refine reg_seq_f [0, 1, 3, 7, 15, 31, 63, 127, 255, 511, 1023] [0, 1, 2, 6, 7, 8, 9, 10] 11
    (fun _ ι => ([(.int .u64 ((leN B (z.toNat + (m - k)) k : Nat) : Int)), (.int .u64 ((leN B (z.toNat + (m - k)) k * 256 : Nat) : Int)), (.slice a (B).length c), (.int .i64 z), (.int .i64 (((m : Nat) : Int) - 1 - ((k : Nat) : Int))), (.int .i64 (z + (((m : Nat) : Int) - 1 - ((k : Nat) : Int)))), (.pointer (adr a (z.toNat + (m - 1 - k)))), (.int .u8 ((gB B (z.toNat + (m - 1 - k)) : Nat) : Int)), (.int .u64 ((gB B (z.toNat + (m - 1 - k)) : Nat) : Int)), (.int .u64 ((leN B (z.toNat + (m - (k + 1))) (k + 1) : Nat) : Int)), (.int .u64 ((leN B (z.toNat + (m - (k + 1))) (k + 1) : Nat) : Int))] : List Value).getD ι undef)
    (fun _ ι => ([{}, {}, {}, {}, {}, {}, {}, {}, {}, {}, {}] : List Eff).getD ι {})
    (fun _ ι => ([(fun _ => True), (fun _ => True), (fun _ => True), (fun _ => True), (fun _ => True), (fun _ => True), (fun _ => True), (fun _ => True), (fun _ => True), (fun _ => True), (fun _ => True)] : List (World → Prop)).getD ι (fun _ => True))
    (by as_aux_lemma => kernel_rfl) (by as_aux_lemma => kernel_rfl) (fun _ => by as_aux_lemma => kernel_rfl) (fun _ => by as_aux_lemma => kernel_rfl) (fun _ _ hF _ => ⟨hF.1, trivial⟩) ⟨⟨⟨⟨⟨⟨⟨⟨⟨⟨⟨trivial, ?_⟩, ?_⟩, ?_⟩, ?_⟩, ?_⟩, ?_⟩, ?_⟩, ?_⟩, ?_⟩, ?_⟩, ?_⟩
  · exact Obl.brings (o_run 0 [] [] (fun _ _ => []) (fun _ _ => by as_aux_lemma => kernel_rfl)) (fun _ _ => trivial)
  · exact Obl.brings (o_bin 1 .shl 23 (fun _ => (.int .u64 ((leN B (z.toNat + (m - k)) k : Nat) : Int))) (fun _ => (.int .u64 8)) (fun _ => (.int .u64 ((leN B (z.toNat + (m - k)) k * 256 : Nat) : Int))) (fun _ => by as_aux_lemma => kernel_rfl) (fun _ _ _ _ => by as_aux_lemma => kernel_rfl) (fun _ w => run_num8 B (z.toNat + (m - k)) (by have := of_decide_eq_false hb1; have := of_decide_eq_false hb2; have := of_decide_eq_false hb3; have := of_decide_eq_true hb4; have := hz; have := hBl; have := hm; have := hk; omega) w)) (fun _ _ => trivial)
  · exact Obl.brings (o_run 2 [] [] (fun _ _ => []) (fun _ _ => by as_aux_lemma => kernel_rfl)) (fun _ _ => trivial)
  · exact Obl.brings (o_run 3 [] [] (fun _ _ => []) (fun _ _ => by as_aux_lemma => kernel_rfl)) (fun _ _ => trivial)
  · exact Obl.brings (o_run 4 [] [] (fun _ _ => []) (fun _ _ => by as_aux_lemma => kernel_rfl)) (fun _ _ => trivial)
  · exact Obl.brings (o_as 5 (fun _ => (.int .i64 (IntKind.i64.wrap (z + (((m : Nat) : Int) - 1 - ((k : Nat) : Int)))))) (fun _ => (.int .i64 (z + (((m : Nat) : Int) - 1 - ((k : Nat) : Int))))) (fun _ _ => by as_aux_lemma => kernel_rfl) (fun _ => congrArg (Value.int .i64) (i64N (by have := of_decide_eq_false hb1; have := of_decide_eq_false hb2; have := of_decide_eq_false hb3; have := of_decide_eq_true hb4; have := hz; have := hBl; have := hm; have := hk; omega)))) (fun _ _ => trivial)
  · exact o_semF 6 (fun _ => do pure (Next.value (← Instr.indexAt 22 (.slice a (B).length c) (.int .i64 (z + (((m : Nat) : Int) - 1 - ((k : Nat) : Int))))))) (fun _ => (.pointer (adr a (z.toNat + (m - 1 - k))))) (fun _ => (by as_aux_lemma => kernel_rfl)) (fun _ => (by as_aux_lemma => kernel_rfl)) (fun _ _ _ hG => idx_bytes Try.underlying22 u8i hG.facts0.now.1 rfl ((show z + (((m : Nat) : Int) - 1 - ((k : Nat) : Int)) = ((z.toNat + (m - 1 - k) : Nat) : Int) ∧ z.toNat + (m - 1 - k) < (B).length from ⟨(by have := of_decide_eq_false hb1; have := of_decide_eq_false hb2; have := of_decide_eq_false hb3; have := of_decide_eq_true hb4; have := hz; have := hBl; have := hm; have := hk; omega), (by have := of_decide_eq_false hb1; have := of_decide_eq_false hb2; have := of_decide_eq_false hb3; have := of_decide_eq_true hb4; have := hz; have := hBl; have := hm; have := hk; omega)⟩)).1 ((show z + (((m : Nat) : Int) - 1 - ((k : Nat) : Int)) = ((z.toNat + (m - 1 - k) : Nat) : Int) ∧ z.toNat + (m - 1 - k) < (B).length from ⟨(by have := of_decide_eq_false hb1; have := of_decide_eq_false hb2; have := of_decide_eq_false hb3; have := of_decide_eq_true hb4; have := hz; have := hBl; have := hm; have := hk; omega), (by have := of_decide_eq_false hb1; have := of_decide_eq_false hb2; have := of_decide_eq_false hb3; have := of_decide_eq_true hb4; have := hz; have := hBl; have := hm; have := hk; omega)⟩)).2) (fun _ _ _ _ => persT)
  · exact o_semF 7 (fun _ => do pure (Next.value (← Instr.loadAt 5 (.pointer (adr a (z.toNat + (m - 1 - k))))))) (fun _ => (.int .u8 ((gB B (z.toNat + (m - 1 - k)) : Nat) : Int))) (fun _ => (by as_aux_lemma => kernel_rfl)) (fun _ => (by as_aux_lemma => kernel_rfl)) (fun _ _ _ hG => ld_bytes Try.isAgg5 hG.facts0.now.1 ((show z + (((m : Nat) : Int) - 1 - ((k : Nat) : Int)) = ((z.toNat + (m - 1 - k) : Nat) : Int) ∧ z.toNat + (m - 1 - k) < (B).length from ⟨(by have := of_decide_eq_false hb1; have := of_decide_eq_false hb2; have := of_decide_eq_false hb3; have := of_decide_eq_true hb4; have := hz; have := hBl; have := hm; have := hk; omega), (by have := of_decide_eq_false hb1; have := of_decide_eq_false hb2; have := of_decide_eq_false hb3; have := of_decide_eq_true hb4; have := hz; have := hBl; have := hm; have := hk; omega)⟩)).2) (fun _ _ _ _ => persT)
  · exact Obl.brings (o_as 8 (fun _ => (.int .u64 (IntKind.u64.wrap (((gB B (z.toNat + (m - 1 - k)) : Nat) : Int))))) (fun _ => (.int .u64 ((gB B (z.toNat + (m - 1 - k)) : Nat) : Int))) (fun _ _ => by as_aux_lemma => kernel_rfl) (fun _ => congrArg (Value.int .u64) (u64N (by have := of_decide_eq_false hb1; have := of_decide_eq_false hb2; have := of_decide_eq_false hb3; have := of_decide_eq_true hb4; have := hz; have := hBl; have := hm; have := hk; have := gB_lt B (z.toNat + (m - 1 - k)); omega)))) (fun _ _ => trivial)
  · exact Obl.brings (o_as 9 (fun _ => (.int .u64 (bits .or .u64 ((leN B (z.toNat + (m - k)) k * 256 : Nat) : Int) ((gB B (z.toNat + (m - 1 - k)) : Nat) : Int)))) (fun _ => (.int .u64 ((leN B (z.toNat + (m - (k + 1))) (k + 1) : Nat) : Int))) (fun _ _ => by as_aux_lemma => kernel_rfl) (fun _ => congrArg (Value.int .u64) (or_num B z.toNat (by have := of_decide_eq_false hb1; have := of_decide_eq_false hb2; have := of_decide_eq_false hb3; have := of_decide_eq_true hb4; have := hz; have := hBl; have := hm; have := hk; omega) hm))) (fun _ _ => trivial)
  · exact Obl.brings (o_run 10 [] [] (fun _ _ => []) (fun _ _ => by as_aux_lemma => kernel_rfl)) (fun _ _ => trivial)
theorem number_any_r12 (a : Option Addr) (c : Nat) (B : List UInt8) (z : Int) (m : Nat) (hz : -9223372036854775808 ≤ z ∧ z < 9223372036854775808) (hBl : B.length ≤ 140737488351232) (hm : m ≤ 8) (hb1 : (decide (z < 0)) = false) (hb2 : (decide ((((B).length : Nat) : Int) < z)) = false) (hb3 : (decide (((((B).length : Nat) : Int) - z) < ((m : Nat) : Int))) = false) (k : Nat) (hk : k ≤ m) (hb4 : (decide (0 ≤ (((m : Nat) : Int) - 1 - ((k : Nat) : Int)))) = true) (w0 : World) (F : World → Prop) : Reg Try.prog 8 (regOps Try.f46 8) false 45 [(0, (.slice a (B).length c)), (1, (.int .i64 z)), (2, (.int .i64 ((m : Nat) : Int))), (6, (.int .u64 0)), (7, (.int .i64 0)), (8, (.int .i64 0)), (9, (.int .u64 ((leN B (z.toNat + (m - (k + 1))) (k + 1) : Nat) : Int))), (10, (.int .i64 (((m : Nat) : Int) - 1 - ((k : Nat) : Int))))] w0 [] F
    (fun _ => [(0, (.slice a (B).length c)), (1, (.int .i64 z)), (2, (.int .i64 ((m : Nat) : Int))), (6, (.int .u64 0)), (7, (.int .i64 0)), (8, (.int .i64 0)), (9, (.int .u64 ((leN B (z.toNat + (m - (k + 1))) (k + 1) : Nat) : Int))), (10, (.int .i64 (((m : Nat) : Int) - 1 - ((k + 1 : Nat) : Int))))])
    (fun _ => []) := by
  refine reg_seq [0, 1, 3] [0, 1, 2, 6, 7, 8, 9, 10] 3
    (fun _ ι => ([(.int .i64 (((m : Nat) : Int) - 1 - ((k : Nat) : Int))), (.int .i64 (((m : Nat) : Int) - 1 - ((k + 1 : Nat) : Int))), (.int .i64 (((m : Nat) : Int) - 1 - ((k + 1 : Nat) : Int)))] : List Value).getD ι undef)
    (fun _ ι => ([{}, {}, {}] : List Eff).getD ι {})
    (by as_aux_lemma => kernel_rfl) (by as_aux_lemma => kernel_rfl) (fun _ => by as_aux_lemma => kernel_rfl) (fun _ => by as_aux_lemma => kernel_rfl) ⟨⟨⟨trivial, ?_⟩, ?_⟩, ?_⟩
  · exact o_run 0 [] [] (fun _ _ => []) (fun _ _ => by as_aux_lemma => kernel_rfl)
  · exact o_as 1 (fun _ => (.int .i64 (IntKind.i64.wrap ((((m : Nat) : Int) - 1 - ((k : Nat) : Int)) - 1)))) (fun _ => (.int .i64 (((m : Nat) : Int) - 1 - ((k + 1 : Nat) : Int)))) (fun _ _ => by as_aux_lemma => kernel_rfl) (fun _ => congrArg (Value.int .i64) ((i64N (by have := of_decide_eq_false hb1; have := of_decide_eq_false hb2; have := of_decide_eq_false hb3; have := of_decide_eq_true hb4; have := hz; have := hBl; have := hm; have := hk; omega)).trans (by omega)))
  · exact o_run 2 [] [] (fun _ _ => []) (fun _ _ => by as_aux_lemma => kernel_rfl)
theorem number_any_r13 (a : Option Addr) (c : Nat) (B : List UInt8) (z : Int) (m : Nat) (hz : -9223372036854775808 ≤ z ∧ z < 9223372036854775808) (hBl : B.length ≤ 140737488351232) (hm : m ≤ 8) (hb1 : (decide (z < 0)) = false) (hb2 : (decide ((((B).length : Nat) : Int) < z)) = false) (hb3 : (decide (((((B).length : Nat) : Int) - z) < ((m : Nat) : Int))) = false) (k : Nat) (hk : k ≤ m) (hb4 : (decide (0 ≤ (((m : Nat) : Int) - 1 - ((k : Nat) : Int)))) = false) (w0 : World) (F : World → Prop) : Reg Try.prog 10 (regOps Try.f46 10) false 45 [(0, (.slice a (B).length c)), (1, (.int .i64 z)), (2, (.int .i64 ((m : Nat) : Int))), (6, (.int .u64 0)), (7, (.int .i64 0)), (8, (.int .i64 0)), (9, (.int .u64 ((leN B (z.toNat + (m - k)) k : Nat) : Int))), (10, (.int .i64 (((m : Nat) : Int) - 1 - ((k : Nat) : Int)))), (28, (.bool false))] w0 [] F
    (fun _ => [(6, (.int .u64 ((leN B (z.toNat + (m - k)) k : Nat) : Int))), (7, (.int .i64 (z + ((m : Nat) : Int)))), (8, (.int .i64 0))])
    (fun _ => []) := by
  refine reg_seq [0, 1, 3, 7, 15, 31, 63] [6, 7, 8] 7
    (fun _ ι => ([(.int .u64 ((leN B (z.toNat + (m - k)) k : Nat) : Int)), (.int .i64 z), (.int .i64 ((m : Nat) : Int)), (.int .i64 (z + ((m : Nat) : Int))), (.int .u64 ((leN B (z.toNat + (m - k)) k : Nat) : Int)), (.int .i64 (z + ((m : Nat) : Int))), (.int .i64 0)] : List Value).getD ι undef)
    (fun _ ι => ([{}, {}, {}, {}, {}, {}, {}] : List Eff).getD ι {})
    (by as_aux_lemma => kernel_rfl) (by as_aux_lemma => kernel_rfl) (fun _ => by as_aux_lemma => kernel_rfl) (fun _ => by as_aux_lemma => kernel_rfl) ⟨⟨⟨⟨⟨⟨⟨trivial, ?_⟩, ?_⟩, ?_⟩, ?_⟩, ?_⟩, ?_⟩, ?_⟩
  · exact o_run 0 [] [] (fun _ _ => []) (fun _ _ => by as_aux_lemma => kernel_rfl)
  · exact o_run 1 [] [] (fun _ _ => []) (fun _ _ => by as_aux_lemma => kernel_rfl)
  · exact o_run 2 [] [] (fun _ _ => []) (fun _ _ => by as_aux_lemma => kernel_rfl)
  · exact o_as 3 (fun _ => (.int .i64 (IntKind.i64.wrap (z + ((m : Nat) : Int))))) (fun _ => (.int .i64 (z + ((m : Nat) : Int)))) (fun _ _ => by as_aux_lemma => kernel_rfl) (fun _ => congrArg (Value.int .i64) (i64N (by have := of_decide_eq_false hb1; have := of_decide_eq_false hb2; have := of_decide_eq_false hb3; have := of_decide_eq_false hb4; have := hz; have := hBl; have := hm; have := hk; omega)))
  · exact o_run 4 [] [] (fun _ _ => []) (fun _ _ => by as_aux_lemma => kernel_rfl)
  · exact o_run 5 [] [] (fun _ _ => []) (fun _ _ => by as_aux_lemma => kernel_rfl)
  · exact o_run 6 [] [] (fun _ _ => []) (fun _ _ => by as_aux_lemma => kernel_rfl)
theorem number_any (a : Option Addr) (c : Nat) (B : List UInt8) (z : Int) (m : Nat) (hz : -9223372036854775808 ≤ z ∧ z < 9223372036854775808) (hBl : B.length ≤ 140737488351232) (hm : m ≤ 8) (w0 : World) (hf0 : Bs w0 a c B) : Calls Try.prog 46 #[(.slice a (B).length c), (.int .i64 z), (.int .i64 ((m : Nat) : Int))] w0 (fun ε w' => ε = .returned (.tuple #[(.int .u64 ((rdV B z m : Nat) : Int)), (.int .i64 (rdN B.length z m)), (.int .i64 (rdE B.length z m))]) ∧ Below w0.heap.size w0 w') := by
  refine Calls.of_ok (n := 45) (F := (fun w => Bs w a c B ∧ True)) Try.func46 rfl rfl rfl (by simp) (hf0.pers0.and persT) ?_
  refine ok_seq_r (by as_aux_lemma => kernel_rfl) (number_any_r1 a c B z m _ _) (fun _ => ?_)
  refine ok_seq ?_
  rcases Bool.eq_false_or_eq_true (decide (z < 0)) with hb1 | hb1
  ·
    refine ok_seq_r (by as_aux_lemma => kernel_rfl) (number_any_r2 a c B z m hb1 _ _) (fun _ => ?_)
    refine ok_yes (by as_aux_lemma => kernel_rfl) ?_
    refine ok_seq_r (by as_aux_lemma => kernel_rfl) (number_any_r3 a c B z m _ _) (fun _ => ?_)
    refine ok_ret ?_
    refine mt_then_r ?_
    exact meets_ret (v := (.tuple #[(.int .u64 0), (.int .i64 0), (.int .i64 5)])) [] (dup []) (by as_aux_lemma => kernel_rfl) (by as_aux_lemma => kernel_rfl) (eqs_dup _) (fun _ hS => ⟨congrArg Ending.returned (rdT_err (rdE5 (by have := of_decide_eq_true hb1; have := hz; have := hBl; have := hm; omega)) (by decide)), hS.below⟩)
  ·
    refine ok_seq_r (by as_aux_lemma => kernel_rfl) (number_any_r4 a c B z m hb1 _ _) (fun _ => ?_)
    refine ok_cond (b := decide ((((B).length : Nat) : Int) < z)) (by as_aux_lemma => kernel_rfl) (fun hb2 => ?_) (fun hb2 => ?_)
    ·
      rw [hb2]
      refine ok_seq_r (by as_aux_lemma => kernel_rfl) (number_any_r5 a c B z m _ _) (fun _ => ?_)
      refine ok_ret ?_
      refine mt_then_r ?_
      exact meets_ret (v := (.tuple #[(.int .u64 0), (.int .i64 0), (.int .i64 5)])) [] (dup []) (by as_aux_lemma => kernel_rfl) (by as_aux_lemma => kernel_rfl) (eqs_dup _) (fun _ hS => ⟨congrArg Ending.returned (rdT_err (rdE5 (by have := of_decide_eq_false hb1; have := of_decide_eq_true hb2; have := hz; have := hBl; have := hm; omega)) (by decide)), hS.below⟩)
    ·
      rw [hb2]
      refine ok_skip ?_
      refine mt_then ?_
      refine ok_seq ?_
      refine ok_seq_r (by as_aux_lemma => kernel_rfl) (number_any_r6 a c B z m hz hBl hm hb1 hb2 _ _) (fun _ => ?_)
      refine ok_cond (b := decide (((((B).length : Nat) : Int) - z) < ((m : Nat) : Int))) (by as_aux_lemma => kernel_rfl) (fun hb3 => ?_) (fun hb3 => ?_)
      ·
        rw [hb3]
        refine ok_seq_r (by as_aux_lemma => kernel_rfl) (number_any_r7 a c B z m _ _) (fun _ => ?_)
        refine ok_ret ?_
        refine mt_then_r ?_
        exact meets_ret (v := (.tuple #[(.int .u64 0), (.int .i64 0), (.int .i64 1)])) [] (dup []) (by as_aux_lemma => kernel_rfl) (by as_aux_lemma => kernel_rfl) (eqs_dup _) (fun _ hS => ⟨congrArg Ending.returned (rdT_err (rdE1 (by have := of_decide_eq_false hb1; have := of_decide_eq_false hb2; have := of_decide_eq_true hb3; have := hz; have := hBl; have := hm; omega) (by have := of_decide_eq_false hb1; have := of_decide_eq_false hb2; have := of_decide_eq_true hb3; have := hz; have := hBl; have := hm; omega)) (by decide)), hS.below⟩)
      ·
        rw [hb3]
        refine ok_skip ?_
        refine mt_then ?_
        refine ok_seq_r (by as_aux_lemma => kernel_rfl) (number_any_r8 a c B z m _ _) (fun _ => ?_)
        refine ok_seq ?_
        refine ok_seq_r (by as_aux_lemma => kernel_rfl) (number_any_r9 a c B z m hz hBl hm hb1 hb2 hb3 _ _) (fun _ => ?_)
        refine ok_block ?_
        refine ok_loop (σ := Nat) (fun k => [(0, (.slice a (B).length c)), (1, (.int .i64 z)), (2, (.int .i64 ((m : Nat) : Int))), (6, (.int .u64 0)), (7, (.int .i64 0)), (8, (.int .i64 0)), (9, (.int .u64 ((leN B (z.toNat + (m - k)) k : Nat) : Int))), (10, (.int .i64 (((m : Nat) : Int) - 1 - ((k : Nat) : Int))))]) (fun _ => []) (fun k => m - k)
          (fun k => (k ≤ m)) 0 (Nat.zero_le m) (by as_aux_lemma => kernel_rfl) .slnil ?_
        rintro k hk
        change Ok Try.prog _ _ 45 [(0, (.slice a (B).length c)), (1, (.int .i64 z)), (2, (.int .i64 ((m : Nat) : Int))), (6, (.int .u64 0)), (7, (.int .i64 0)), (8, (.int .i64 0)), (9, (.int .u64 ((leN B (z.toNat + (m - k)) k : Nat) : Int))), (10, (.int .i64 (((m : Nat) : Int) - 1 - ((k : Nat) : Int))))] _ [] (fun w => Bs w a c B ∧ True)
        refine ok_seq ?_
        refine ok_seq_r (by as_aux_lemma => kernel_rfl) (number_any_r10 a c B z m k _ _) (fun _ => ?_)
        refine ok_cond (b := decide (0 ≤ (((m : Nat) : Int) - 1 - ((k : Nat) : Int)))) (by as_aux_lemma => kernel_rfl) (fun hb4 => ?_) (fun hb4 => ?_)
        ·
          rw [hb4]
          refine ok_skip ?_
          refine mt_then ?_
          refine ok_seq ?_
          refine ok_block ?_
          refine ok_rf (by as_aux_lemma => kernel_rfl) (number_any_r11 a c B z m hz hBl hm hb1 hb2 hb3 k hk hb4 _) (fun _ => ?_)
          refine mt_block_n ?_
          refine mt_then ?_
          refine ok_r (by as_aux_lemma => kernel_rfl) (number_any_r12 a c B z m hz hBl hm hb1 hb2 hb3 k hk hb4 _ _) (fun _ => ?_)
          exact mt_round (k + 1) (by show m - (k + 1) < m - k; have := of_decide_eq_false hb1; have := of_decide_eq_false hb2; have := of_decide_eq_false hb3; have := of_decide_eq_true hb4; have := hz; have := hBl; have := hm; have := hk; omega) (by show k + 1 ≤ m; have := of_decide_eq_false hb1; have := of_decide_eq_false hb2; have := of_decide_eq_false hb3; have := of_decide_eq_true hb4; have := hz; have := hBl; have := hm; have := hk; omega) (by as_aux_lemma => kernel_rfl) .slnil
        ·
          rw [hb4]
          refine ok_exit ?_
          refine mt_then_e ?_
          refine mt_then_e ?_
          refine mt_block_h ?_
          refine mt_then ?_
          refine ok_seq_r (by as_aux_lemma => kernel_rfl) (number_any_r13 a c B z m hz hBl hm hb1 hb2 hb3 k hk hb4 _ _) (fun _ => ?_)
          refine ok_ret ?_
          exact meets_ret (v := (.tuple #[(.int .u64 ((leN B (z.toNat + (m - k)) k : Nat) : Int)), (.int .i64 (z + ((m : Nat) : Int))), (.int .i64 0)])) [] (dup []) (by as_aux_lemma => kernel_rfl) (by as_aux_lemma => kernel_rfl) (eqs_dup _) (fun _ hS => ⟨congrArg Ending.returned ((by rw [num_end (show k = m by have := of_decide_eq_false hb1; have := of_decide_eq_false hb2; have := of_decide_eq_false hb3; have := of_decide_eq_false hb4; have := hz; have := hBl; have := hm; have := hk; omega)]; exact rdT_ok (rdE0 (by have := of_decide_eq_false hb1; have := of_decide_eq_false hb2; have := of_decide_eq_false hb3; have := of_decide_eq_false hb4; have := hz; have := hBl; have := hm; have := hk; omega) (by have := of_decide_eq_false hb1; have := of_decide_eq_false hb2; have := of_decide_eq_false hb3; have := of_decide_eq_false hb4; have := hz; have := hBl; have := hm; have := hk; omega)) rfl)), hS.below⟩)
theorem ru8_any_r1 (a : Option Addr) (c : Nat) (B : List UInt8) (z : Int) (w0 : World) (F : World → Prop) : Reg Try.prog 0 (regOps Try.f31 0) false 21 [(0, (.slice a (B).length c)), (1, (.int .i64 z))] w0 [] F
    (fun _ => [(0, (.slice a (B).length c)), (1, (.int .i64 z)), (4, (.int .u8 0)), (5, (.int .i64 0)), (6, (.int .i64 0))])
    (fun _ => []) := by
  refine reg_seq [0, 1, 3] [0, 1, 4, 5, 6] 3
    (fun _ ι => ([(.int .u8 0), (.int .i64 0), (.int .i64 0)] : List Value).getD ι undef)
    (fun _ ι => ([{}, {}, {}] : List Eff).getD ι {})
    (by as_aux_lemma => kernel_rfl) (by as_aux_lemma => kernel_rfl) (fun _ => by as_aux_lemma => kernel_rfl) (fun _ => by as_aux_lemma => kernel_rfl) ⟨⟨⟨trivial, ?_⟩, ?_⟩, ?_⟩
  · exact o_run 0 [] [] (fun _ _ => []) (fun _ _ => by as_aux_lemma => kernel_rfl)
  · exact o_run 1 [] [] (fun _ _ => []) (fun _ _ => by as_aux_lemma => kernel_rfl)
  · exact o_run 2 [] [] (fun _ _ => []) (fun _ _ => by as_aux_lemma => kernel_rfl)
theorem ru8_any_r2 (a : Option Addr) (c : Nat) (B : List UInt8) (z : Int) (hz : -9223372036854775808 ≤ z ∧ z < 9223372036854775808) (hBl : B.length ≤ 140737488351232) (w0 : World) : RegF Try.prog 1 (regOps Try.f31 1) false 21 [(0, (.slice a (B).length c)), (1, (.int .i64 z)), (4, (.int .u8 0)), (5, (.int .i64 0)), (6, (.int .i64 0))] w0 [] (fun w => Bs w a c B ∧ True)
    (fun _ => [(4, (.int .u8 0)), (5, (.int .i64 0)), (6, (.int .i64 0)), (7, (.int .u64 ((rdV B z 1 : Nat) : Int))), (8, (.int .i64 (rdN B.length z 1))), (9, (.int .i64 (rdE B.length z 1)))])
    (fun _ => []) (fun _ => (fun w => Bs w a c B ∧ True)) := by
  refine reg_seq_f [0, 1, 3, 7, 15, 31, 63, 127, 255, 511] [4, 5, 6, 7, 8, 9] 10
    (fun _ ι => ([(.slice a (B).length c), (.int .i64 z), (.tuple #[(.int .u64 ((rdV B z 1 : Nat) : Int)), (.int .i64 (rdN B.length z 1)), (.int .i64 (rdE B.length z 1))]), (.tuple #[(.int .u64 ((rdV B z 1 : Nat) : Int)), (.int .i64 (rdN B.length z 1)), (.int .i64 (rdE B.length z 1))]), (.int .u64 ((rdV B z 1 : Nat) : Int)), (.int .i64 (rdN B.length z 1)), (.int .i64 (rdE B.length z 1)), (.int .u64 ((rdV B z 1 : Nat) : Int)), (.int .i64 (rdN B.length z 1)), (.int .i64 (rdE B.length z 1))] : List Value).getD ι undef)
    (fun _ ι => ([{}, {}, {}, {}, {}, {}, {}, {}, {}, {}] : List Eff).getD ι {})
    (fun _ ι => ([(fun _ => True), (fun _ => True), (fun _ => True), (fun _ => True), (fun _ => True), (fun _ => True), (fun _ => True), (fun _ => True), (fun _ => True), (fun _ => True)] : List (World → Prop)).getD ι (fun _ => True))
    (by as_aux_lemma => kernel_rfl) (by as_aux_lemma => kernel_rfl) (fun _ => by as_aux_lemma => kernel_rfl) (fun _ => by as_aux_lemma => kernel_rfl) (fun _ _ hF _ => ⟨hF.1, trivial⟩) ⟨⟨⟨⟨⟨⟨⟨⟨⟨⟨trivial, ?_⟩, ?_⟩, ?_⟩, ?_⟩, ?_⟩, ?_⟩, ?_⟩, ?_⟩, ?_⟩, ?_⟩
  · exact Obl.brings (o_run 0 [] [] (fun _ _ => []) (fun _ _ => by as_aux_lemma => kernel_rfl)) (fun _ _ => trivial)
  · exact Obl.brings (o_run 1 [] [] (fun _ _ => []) (fun _ _ => by as_aux_lemma => kernel_rfl)) (fun _ _ => trivial)
  · exact o_callP 2 46 (fun _ => #[(.slice a (B).length c), (.int .i64 z), (.int .i64 1)]) (fun _ => (.tuple #[(.int .u64 ((rdV B z 1 : Nat) : Int)), (.int .i64 (rdN B.length z 1)), (.int .i64 (rdE B.length z 1))])) (fun _ _ => (by as_aux_lemma => kernel_rfl)) (fun _ => (by as_aux_lemma => kernel_rfl)) (fun _ _ => (by as_aux_lemma => kernel_rfl)) (fun _ _ => trivial) (fun _ _ w hG => number_any a c B z 1 (by have := hz; have := hBl; omega) hBl (by decide) w hG.facts0.now.1)
  · exact Obl.brings (o_run 3 [] [] (fun _ _ => []) (fun _ _ => by as_aux_lemma => kernel_rfl)) (fun _ _ => trivial)
  · exact Obl.brings (o_run 4 [] [] (fun _ _ => []) (fun _ _ => by as_aux_lemma => kernel_rfl)) (fun _ _ => trivial)
  · exact Obl.brings (o_run 5 [] [] (fun _ _ => []) (fun _ _ => by as_aux_lemma => kernel_rfl)) (fun _ _ => trivial)
  · exact Obl.brings (o_run 6 [] [] (fun _ _ => []) (fun _ _ => by as_aux_lemma => kernel_rfl)) (fun _ _ => trivial)
  · exact Obl.brings (o_run 7 [] [] (fun _ _ => []) (fun _ _ => by as_aux_lemma => kernel_rfl)) (fun _ _ => trivial)
  · exact Obl.brings (o_run 8 [] [] (fun _ _ => []) (fun _ _ => by as_aux_lemma => kernel_rfl)) (fun _ _ => trivial)
  · exact Obl.brings (o_run 9 [] [] (fun _ _ => []) (fun _ _ => by as_aux_lemma => kernel_rfl)) (fun _ _ => trivial)
theorem ru8_any_r3 (B : List UInt8) (z : Int) (hz : -9223372036854775808 ≤ z ∧ z < 9223372036854775808) (hBl : B.length ≤ 140737488351232) (w0 : World) (F : World → Prop) : Reg Try.prog 2 (regOps Try.f31 2) false 21 [(4, (.int .u8 0)), (5, (.int .i64 0)), (6, (.int .i64 0)), (7, (.int .u64 ((rdV B z 1 : Nat) : Int))), (8, (.int .i64 (rdN B.length z 1))), (9, (.int .i64 (rdE B.length z 1)))] w0 [] F
    (fun _ => [(4, (.int .u8 ((rdV B z 1 : Nat) : Int))), (5, (.int .i64 (rdN B.length z 1))), (6, (.int .i64 (rdE B.length z 1)))])
    (fun _ => []) := by
  refine reg_seq [0, 1, 3, 7, 15, 31, 63] [4, 5, 6] 7
    (fun _ ι => ([(.int .u64 ((rdV B z 1 : Nat) : Int)), (.int .u8 ((rdV B z 1 : Nat) : Int)), (.int .i64 (rdN B.length z 1)), (.int .i64 (rdE B.length z 1)), (.int .u8 ((rdV B z 1 : Nat) : Int)), (.int .i64 (rdN B.length z 1)), (.int .i64 (rdE B.length z 1))] : List Value).getD ι undef)
    (fun _ ι => ([{}, {}, {}, {}, {}, {}, {}] : List Eff).getD ι {})
    (by as_aux_lemma => kernel_rfl) (by as_aux_lemma => kernel_rfl) (fun _ => by as_aux_lemma => kernel_rfl) (fun _ => by as_aux_lemma => kernel_rfl) ⟨⟨⟨⟨⟨⟨⟨trivial, ?_⟩, ?_⟩, ?_⟩, ?_⟩, ?_⟩, ?_⟩, ?_⟩
  · exact o_run 0 [] [] (fun _ _ => []) (fun _ _ => by as_aux_lemma => kernel_rfl)
  · exact o_as 1 (fun _ => (.int .u8 (IntKind.u8.wrap (((rdV B z 1 : Nat) : Int))))) (fun _ => (.int .u8 ((rdV B z 1 : Nat) : Int))) (fun _ _ => by as_aux_lemma => kernel_rfl) (fun _ => congrArg (Value.int .u8) (u8N (by have := hz; have := hBl; have := rdV_lt B z 1; omega)))
  · exact o_run 2 [] [] (fun _ _ => []) (fun _ _ => by as_aux_lemma => kernel_rfl)
  · exact o_run 3 [] [] (fun _ _ => []) (fun _ _ => by as_aux_lemma => kernel_rfl)
  · exact o_run 4 [] [] (fun _ _ => []) (fun _ _ => by as_aux_lemma => kernel_rfl)
  · exact o_run 5 [] [] (fun _ _ => []) (fun _ _ => by as_aux_lemma => kernel_rfl)
  · exact o_run 6 [] [] (fun _ _ => []) (fun _ _ => by as_aux_lemma => kernel_rfl)
theorem ru8_any (a : Option Addr) (c : Nat) (B : List UInt8) (z : Int) (hz : -9223372036854775808 ≤ z ∧ z < 9223372036854775808) (hBl : B.length ≤ 140737488351232) (w0 : World) (hf0 : Bs w0 a c B) : Calls Try.prog 31 #[(.slice a (B).length c), (.int .i64 z)] w0 (fun ε w' => ε = .returned (.tuple #[(.int .u8 ((rdV B z 1 : Nat) : Int)), (.int .i64 (rdN B.length z 1)), (.int .i64 (rdE B.length z 1))]) ∧ Below w0.heap.size w0 w') := by
  refine Calls.of_ok (n := 21) (F := (fun w => Bs w a c B ∧ True)) Try.func31 rfl rfl rfl (by simp) (hf0.pers0.and persT) ?_
  refine ok_seq_r (by as_aux_lemma => kernel_rfl) (ru8_any_r1 a c B z _ _) (fun _ => ?_)
  refine ok_seq_rf (by as_aux_lemma => kernel_rfl) (ru8_any_r2 a c B z hz hBl _) (fun _ => ?_)
  refine ok_seq_r (by as_aux_lemma => kernel_rfl) (ru8_any_r3 B z hz hBl _ _) (fun _ => ?_)
  refine ok_ret ?_
  exact meets_ret (v := (.tuple #[(.int .u8 ((rdV B z 1 : Nat) : Int)), (.int .i64 (rdN B.length z 1)), (.int .i64 (rdE B.length z 1))])) [] (dup []) (by as_aux_lemma => kernel_rfl) (by as_aux_lemma => kernel_rfl) (eqs_dup _) (fun _ hS => ⟨rfl, hS.below⟩)
theorem ru16_any_r1 (a : Option Addr) (c : Nat) (B : List UInt8) (z : Int) (w0 : World) (F : World → Prop) : Reg Try.prog 0 (regOps Try.f33 0) false 21 [(0, (.slice a (B).length c)), (1, (.int .i64 z))] w0 [] F
    (fun _ => [(0, (.slice a (B).length c)), (1, (.int .i64 z)), (4, (.int .u16 0)), (5, (.int .i64 0)), (6, (.int .i64 0))])
    (fun _ => []) := by
  refine reg_seq [0, 1, 3] [0, 1, 4, 5, 6] 3
    (fun _ ι => ([(.int .u16 0), (.int .i64 0), (.int .i64 0)] : List Value).getD ι undef)
    (fun _ ι => ([{}, {}, {}] : List Eff).getD ι {})
    (by as_aux_lemma => kernel_rfl) (by as_aux_lemma => kernel_rfl) (fun _ => by as_aux_lemma => kernel_rfl) (fun _ => by as_aux_lemma => kernel_rfl) ⟨⟨⟨trivial, ?_⟩, ?_⟩, ?_⟩
  · exact o_run 0 [] [] (fun _ _ => []) (fun _ _ => by as_aux_lemma => kernel_rfl)
  · exact o_run 1 [] [] (fun _ _ => []) (fun _ _ => by as_aux_lemma => kernel_rfl)
  · exact o_run 2 [] [] (fun _ _ => []) (fun _ _ => by as_aux_lemma => kernel_rfl)
theorem ru16_any_r2 (a : Option Addr) (c : Nat) (B : List UInt8) (z : Int) (hz : -9223372036854775808 ≤ z ∧ z < 9223372036854775808) (hBl : B.length ≤ 140737488351232) (w0 : World) : RegF Try.prog 1 (regOps Try.f33 1) false 21 [(0, (.slice a (B).length c)), (1, (.int .i64 z)), (4, (.int .u16 0)), (5, (.int .i64 0)), (6, (.int .i64 0))] w0 [] (fun w => Bs w a c B ∧ True)
    (fun _ => [(4, (.int .u16 0)), (5, (.int .i64 0)), (6, (.int .i64 0)), (7, (.int .u64 ((rdV B z 2 : Nat) : Int))), (8, (.int .i64 (rdN B.length z 2))), (9, (.int .i64 (rdE B.length z 2)))])
    (fun _ => []) (fun _ => (fun w => Bs w a c B ∧ True)) := by
  refine reg_seq_f [0, 1, 3, 7, 15, 31, 63, 127, 255, 511] [4, 5, 6, 7, 8, 9] 10
    (fun _ ι => ([(.slice a (B).length c), (.int .i64 z), (.tuple #[(.int .u64 ((rdV B z 2 : Nat) : Int)), (.int .i64 (rdN B.length z 2)), (.int .i64 (rdE B.length z 2))]), (.tuple #[(.int .u64 ((rdV B z 2 : Nat) : Int)), (.int .i64 (rdN B.length z 2)), (.int .i64 (rdE B.length z 2))]), (.int .u64 ((rdV B z 2 : Nat) : Int)), (.int .i64 (rdN B.length z 2)), (.int .i64 (rdE B.length z 2)), (.int .u64 ((rdV B z 2 : Nat) : Int)), (.int .i64 (rdN B.length z 2)), (.int .i64 (rdE B.length z 2))] : List Value).getD ι undef)
    (fun _ ι => ([{}, {}, {}, {}, {}, {}, {}, {}, {}, {}] : List Eff).getD ι {})
    (fun _ ι => ([(fun _ => True), (fun _ => True), (fun _ => True), (fun _ => True), (fun _ => True), (fun _ => True), (fun _ => True), (fun _ => True), (fun _ => True), (fun _ => True)] : List (World → Prop)).getD ι (fun _ => True))
    (by as_aux_lemma => kernel_rfl) (by as_aux_lemma => kernel_rfl) (fun _ => by as_aux_lemma => kernel_rfl) (fun _ => by as_aux_lemma => kernel_rfl) (fun _ _ hF _ => ⟨hF.1, trivial⟩) ⟨⟨⟨⟨⟨⟨⟨⟨⟨⟨trivial, ?_⟩, ?_⟩, ?_⟩, ?_⟩, ?_⟩, ?_⟩, ?_⟩, ?_⟩, ?_⟩, ?_⟩
  · exact Obl.brings (o_run 0 [] [] (fun _ _ => []) (fun _ _ => by as_aux_lemma => kernel_rfl)) (fun _ _ => trivial)
  · exact Obl.brings (o_run 1 [] [] (fun _ _ => []) (fun _ _ => by as_aux_lemma => kernel_rfl)) (fun _ _ => trivial)
  · exact o_callP 2 46 (fun _ => #[(.slice a (B).length c), (.int .i64 z), (.int .i64 2)]) (fun _ => (.tuple #[(.int .u64 ((rdV B z 2 : Nat) : Int)), (.int .i64 (rdN B.length z 2)), (.int .i64 (rdE B.length z 2))])) (fun _ _ => (by as_aux_lemma => kernel_rfl)) (fun _ => (by as_aux_lemma => kernel_rfl)) (fun _ _ => (by as_aux_lemma => kernel_rfl)) (fun _ _ => trivial) (fun _ _ w hG => number_any a c B z 2 (by have := hz; have := hBl; omega) hBl (by decide) w hG.facts0.now.1)
  · exact Obl.brings (o_run 3 [] [] (fun _ _ => []) (fun _ _ => by as_aux_lemma => kernel_rfl)) (fun _ _ => trivial)
  · exact Obl.brings (o_run 4 [] [] (fun _ _ => []) (fun _ _ => by as_aux_lemma => kernel_rfl)) (fun _ _ => trivial)
  · exact Obl.brings (o_run 5 [] [] (fun _ _ => []) (fun _ _ => by as_aux_lemma => kernel_rfl)) (fun _ _ => trivial)
  · exact Obl.brings (o_run 6 [] [] (fun _ _ => []) (fun _ _ => by as_aux_lemma => kernel_rfl)) (fun _ _ => trivial)
  · exact Obl.brings (o_run 7 [] [] (fun _ _ => []) (fun _ _ => by as_aux_lemma => kernel_rfl)) (fun _ _ => trivial)
  · exact Obl.brings (o_run 8 [] [] (fun _ _ => []) (fun _ _ => by as_aux_lemma => kernel_rfl)) (fun _ _ => trivial)
  · exact Obl.brings (o_run 9 [] [] (fun _ _ => []) (fun _ _ => by as_aux_lemma => kernel_rfl)) (fun _ _ => trivial)
theorem ru16_any_r3 (B : List UInt8) (z : Int) (hz : -9223372036854775808 ≤ z ∧ z < 9223372036854775808) (hBl : B.length ≤ 140737488351232) (w0 : World) (F : World → Prop) : Reg Try.prog 2 (regOps Try.f33 2) false 21 [(4, (.int .u16 0)), (5, (.int .i64 0)), (6, (.int .i64 0)), (7, (.int .u64 ((rdV B z 2 : Nat) : Int))), (8, (.int .i64 (rdN B.length z 2))), (9, (.int .i64 (rdE B.length z 2)))] w0 [] F
    (fun _ => [(4, (.int .u16 ((rdV B z 2 : Nat) : Int))), (5, (.int .i64 (rdN B.length z 2))), (6, (.int .i64 (rdE B.length z 2)))])
    (fun _ => []) := by
  refine reg_seq [0, 1, 3, 7, 15, 31, 63] [4, 5, 6] 7
    (fun _ ι => ([(.int .u64 ((rdV B z 2 : Nat) : Int)), (.int .u16 ((rdV B z 2 : Nat) : Int)), (.int .i64 (rdN B.length z 2)), (.int .i64 (rdE B.length z 2)), (.int .u16 ((rdV B z 2 : Nat) : Int)), (.int .i64 (rdN B.length z 2)), (.int .i64 (rdE B.length z 2))] : List Value).getD ι undef)
    (fun _ ι => ([{}, {}, {}, {}, {}, {}, {}] : List Eff).getD ι {})
    (by as_aux_lemma => kernel_rfl) (by as_aux_lemma => kernel_rfl) (fun _ => by as_aux_lemma => kernel_rfl) (fun _ => by as_aux_lemma => kernel_rfl) ⟨⟨⟨⟨⟨⟨⟨trivial, ?_⟩, ?_⟩, ?_⟩, ?_⟩, ?_⟩, ?_⟩, ?_⟩
  · exact o_run 0 [] [] (fun _ _ => []) (fun _ _ => by as_aux_lemma => kernel_rfl)
  · exact o_as 1 (fun _ => (.int .u16 (IntKind.u16.wrap (((rdV B z 2 : Nat) : Int))))) (fun _ => (.int .u16 ((rdV B z 2 : Nat) : Int))) (fun _ _ => by as_aux_lemma => kernel_rfl) (fun _ => congrArg (Value.int .u16) (u16N (by have := hz; have := hBl; have := rdV_lt B z 2; omega)))
  · exact o_run 2 [] [] (fun _ _ => []) (fun _ _ => by as_aux_lemma => kernel_rfl)
  · exact o_run 3 [] [] (fun _ _ => []) (fun _ _ => by as_aux_lemma => kernel_rfl)
  · exact o_run 4 [] [] (fun _ _ => []) (fun _ _ => by as_aux_lemma => kernel_rfl)
  · exact o_run 5 [] [] (fun _ _ => []) (fun _ _ => by as_aux_lemma => kernel_rfl)
  · exact o_run 6 [] [] (fun _ _ => []) (fun _ _ => by as_aux_lemma => kernel_rfl)
theorem ru16_any (a : Option Addr) (c : Nat) (B : List UInt8) (z : Int) (hz : -9223372036854775808 ≤ z ∧ z < 9223372036854775808) (hBl : B.length ≤ 140737488351232) (w0 : World) (hf0 : Bs w0 a c B) : Calls Try.prog 33 #[(.slice a (B).length c), (.int .i64 z)] w0 (fun ε w' => ε = .returned (.tuple #[(.int .u16 ((rdV B z 2 : Nat) : Int)), (.int .i64 (rdN B.length z 2)), (.int .i64 (rdE B.length z 2))]) ∧ Below w0.heap.size w0 w') := by
  refine Calls.of_ok (n := 21) (F := (fun w => Bs w a c B ∧ True)) Try.func33 rfl rfl rfl (by simp) (hf0.pers0.and persT) ?_
  refine ok_seq_r (by as_aux_lemma => kernel_rfl) (ru16_any_r1 a c B z _ _) (fun _ => ?_)
  refine ok_seq_rf (by as_aux_lemma => kernel_rfl) (ru16_any_r2 a c B z hz hBl _) (fun _ => ?_)
  refine ok_seq_r (by as_aux_lemma => kernel_rfl) (ru16_any_r3 B z hz hBl _ _) (fun _ => ?_)
  refine ok_ret ?_
  exact meets_ret (v := (.tuple #[(.int .u16 ((rdV B z 2 : Nat) : Int)), (.int .i64 (rdN B.length z 2)), (.int .i64 (rdE B.length z 2))])) [] (dup []) (by as_aux_lemma => kernel_rfl) (by as_aux_lemma => kernel_rfl) (eqs_dup _) (fun _ hS => ⟨rfl, hS.below⟩)
theorem ru32_any_r1 (a : Option Addr) (c : Nat) (B : List UInt8) (z : Int) (w0 : World) (F : World → Prop) : Reg Try.prog 0 (regOps Try.f35 0) false 21 [(0, (.slice a (B).length c)), (1, (.int .i64 z))] w0 [] F
    (fun _ => [(0, (.slice a (B).length c)), (1, (.int .i64 z)), (4, (.int .u32 0)), (5, (.int .i64 0)), (6, (.int .i64 0))])
    (fun _ => []) := by
  refine reg_seq [0, 1, 3] [0, 1, 4, 5, 6] 3
    (fun _ ι => ([(.int .u32 0), (.int .i64 0), (.int .i64 0)] : List Value).getD ι undef)
    (fun _ ι => ([{}, {}, {}] : List Eff).getD ι {})
    (by as_aux_lemma => kernel_rfl) (by as_aux_lemma => kernel_rfl) (fun _ => by as_aux_lemma => kernel_rfl) (fun _ => by as_aux_lemma => kernel_rfl) ⟨⟨⟨trivial, ?_⟩, ?_⟩, ?_⟩
  · exact o_run 0 [] [] (fun _ _ => []) (fun _ _ => by as_aux_lemma => kernel_rfl)
  · exact o_run 1 [] [] (fun _ _ => []) (fun _ _ => by as_aux_lemma => kernel_rfl)
  · exact o_run 2 [] [] (fun _ _ => []) (fun _ _ => by as_aux_lemma => kernel_rfl)
theorem ru32_any_r2 (a : Option Addr) (c : Nat) (B : List UInt8) (z : Int) (hz : -9223372036854775808 ≤ z ∧ z < 9223372036854775808) (hBl : B.length ≤ 140737488351232) (w0 : World) : RegF Try.prog 1 (regOps Try.f35 1) false 21 [(0, (.slice a (B).length c)), (1, (.int .i64 z)), (4, (.int .u32 0)), (5, (.int .i64 0)), (6, (.int .i64 0))] w0 [] (fun w => Bs w a c B ∧ True)
    (fun _ => [(4, (.int .u32 0)), (5, (.int .i64 0)), (6, (.int .i64 0)), (7, (.int .u64 ((rdV B z 4 : Nat) : Int))), (8, (.int .i64 (rdN B.length z 4))), (9, (.int .i64 (rdE B.length z 4)))])
    (fun _ => []) (fun _ => (fun w => Bs w a c B ∧ True)) := by
  refine reg_seq_f [0, 1, 3, 7, 15, 31, 63, 127, 255, 511] [4, 5, 6, 7, 8, 9] 10
    (fun _ ι => ([(.slice a (B).length c), (.int .i64 z), (.tuple #[(.int .u64 ((rdV B z 4 : Nat) : Int)), (.int .i64 (rdN B.length z 4)), (.int .i64 (rdE B.length z 4))]), (.tuple #[(.int .u64 ((rdV B z 4 : Nat) : Int)), (.int .i64 (rdN B.length z 4)), (.int .i64 (rdE B.length z 4))]), (.int .u64 ((rdV B z 4 : Nat) : Int)), (.int .i64 (rdN B.length z 4)), (.int .i64 (rdE B.length z 4)), (.int .u64 ((rdV B z 4 : Nat) : Int)), (.int .i64 (rdN B.length z 4)), (.int .i64 (rdE B.length z 4))] : List Value).getD ι undef)
    (fun _ ι => ([{}, {}, {}, {}, {}, {}, {}, {}, {}, {}] : List Eff).getD ι {})
    (fun _ ι => ([(fun _ => True), (fun _ => True), (fun _ => True), (fun _ => True), (fun _ => True), (fun _ => True), (fun _ => True), (fun _ => True), (fun _ => True), (fun _ => True)] : List (World → Prop)).getD ι (fun _ => True))
    (by as_aux_lemma => kernel_rfl) (by as_aux_lemma => kernel_rfl) (fun _ => by as_aux_lemma => kernel_rfl) (fun _ => by as_aux_lemma => kernel_rfl) (fun _ _ hF _ => ⟨hF.1, trivial⟩) ⟨⟨⟨⟨⟨⟨⟨⟨⟨⟨trivial, ?_⟩, ?_⟩, ?_⟩, ?_⟩, ?_⟩, ?_⟩, ?_⟩, ?_⟩, ?_⟩, ?_⟩
  · exact Obl.brings (o_run 0 [] [] (fun _ _ => []) (fun _ _ => by as_aux_lemma => kernel_rfl)) (fun _ _ => trivial)
  · exact Obl.brings (o_run 1 [] [] (fun _ _ => []) (fun _ _ => by as_aux_lemma => kernel_rfl)) (fun _ _ => trivial)
  · exact o_callP 2 46 (fun _ => #[(.slice a (B).length c), (.int .i64 z), (.int .i64 4)]) (fun _ => (.tuple #[(.int .u64 ((rdV B z 4 : Nat) : Int)), (.int .i64 (rdN B.length z 4)), (.int .i64 (rdE B.length z 4))])) (fun _ _ => (by as_aux_lemma => kernel_rfl)) (fun _ => (by as_aux_lemma => kernel_rfl)) (fun _ _ => (by as_aux_lemma => kernel_rfl)) (fun _ _ => trivial) (fun _ _ w hG => number_any a c B z 4 (by have := hz; have := hBl; omega) hBl (by decide) w hG.facts0.now.1)
  · exact Obl.brings (o_run 3 [] [] (fun _ _ => []) (fun _ _ => by as_aux_lemma => kernel_rfl)) (fun _ _ => trivial)
  · exact Obl.brings (o_run 4 [] [] (fun _ _ => []) (fun _ _ => by as_aux_lemma => kernel_rfl)) (fun _ _ => trivial)
  · exact Obl.brings (o_run 5 [] [] (fun _ _ => []) (fun _ _ => by as_aux_lemma => kernel_rfl)) (fun _ _ => trivial)
  · exact Obl.brings (o_run 6 [] [] (fun _ _ => []) (fun _ _ => by as_aux_lemma => kernel_rfl)) (fun _ _ => trivial)
  · exact Obl.brings (o_run 7 [] [] (fun _ _ => []) (fun _ _ => by as_aux_lemma => kernel_rfl)) (fun _ _ => trivial)
  · exact Obl.brings (o_run 8 [] [] (fun _ _ => []) (fun _ _ => by as_aux_lemma => kernel_rfl)) (fun _ _ => trivial)
  · exact Obl.brings (o_run 9 [] [] (fun _ _ => []) (fun _ _ => by as_aux_lemma => kernel_rfl)) (fun _ _ => trivial)
theorem ru32_any_r3 (B : List UInt8) (z : Int) (hz : -9223372036854775808 ≤ z ∧ z < 9223372036854775808) (hBl : B.length ≤ 140737488351232) (w0 : World) (F : World → Prop) : Reg Try.prog 2 (regOps Try.f35 2) false 21 [(4, (.int .u32 0)), (5, (.int .i64 0)), (6, (.int .i64 0)), (7, (.int .u64 ((rdV B z 4 : Nat) : Int))), (8, (.int .i64 (rdN B.length z 4))), (9, (.int .i64 (rdE B.length z 4)))] w0 [] F
    (fun _ => [(4, (.int .u32 ((rdV B z 4 : Nat) : Int))), (5, (.int .i64 (rdN B.length z 4))), (6, (.int .i64 (rdE B.length z 4)))])
    (fun _ => []) := by
  refine reg_seq [0, 1, 3, 7, 15, 31, 63] [4, 5, 6] 7
    (fun _ ι => ([(.int .u64 ((rdV B z 4 : Nat) : Int)), (.int .u32 ((rdV B z 4 : Nat) : Int)), (.int .i64 (rdN B.length z 4)), (.int .i64 (rdE B.length z 4)), (.int .u32 ((rdV B z 4 : Nat) : Int)), (.int .i64 (rdN B.length z 4)), (.int .i64 (rdE B.length z 4))] : List Value).getD ι undef)
    (fun _ ι => ([{}, {}, {}, {}, {}, {}, {}] : List Eff).getD ι {})
    (by as_aux_lemma => kernel_rfl) (by as_aux_lemma => kernel_rfl) (fun _ => by as_aux_lemma => kernel_rfl) (fun _ => by as_aux_lemma => kernel_rfl) ⟨⟨⟨⟨⟨⟨⟨trivial, ?_⟩, ?_⟩, ?_⟩, ?_⟩, ?_⟩, ?_⟩, ?_⟩
  · exact o_run 0 [] [] (fun _ _ => []) (fun _ _ => by as_aux_lemma => kernel_rfl)
  · exact o_as 1 (fun _ => (.int .u32 (IntKind.u32.wrap (((rdV B z 4 : Nat) : Int))))) (fun _ => (.int .u32 ((rdV B z 4 : Nat) : Int))) (fun _ _ => by as_aux_lemma => kernel_rfl) (fun _ => congrArg (Value.int .u32) (u32N (by have := hz; have := hBl; have := rdV_lt B z 4; omega)))
  · exact o_run 2 [] [] (fun _ _ => []) (fun _ _ => by as_aux_lemma => kernel_rfl)
  · exact o_run 3 [] [] (fun _ _ => []) (fun _ _ => by as_aux_lemma => kernel_rfl)
  · exact o_run 4 [] [] (fun _ _ => []) (fun _ _ => by as_aux_lemma => kernel_rfl)
  · exact o_run 5 [] [] (fun _ _ => []) (fun _ _ => by as_aux_lemma => kernel_rfl)
  · exact o_run 6 [] [] (fun _ _ => []) (fun _ _ => by as_aux_lemma => kernel_rfl)
theorem ru32_any (a : Option Addr) (c : Nat) (B : List UInt8) (z : Int) (hz : -9223372036854775808 ≤ z ∧ z < 9223372036854775808) (hBl : B.length ≤ 140737488351232) (w0 : World) (hf0 : Bs w0 a c B) : Calls Try.prog 35 #[(.slice a (B).length c), (.int .i64 z)] w0 (fun ε w' => ε = .returned (.tuple #[(.int .u32 ((rdV B z 4 : Nat) : Int)), (.int .i64 (rdN B.length z 4)), (.int .i64 (rdE B.length z 4))]) ∧ Below w0.heap.size w0 w') := by
  refine Calls.of_ok (n := 21) (F := (fun w => Bs w a c B ∧ True)) Try.func35 rfl rfl rfl (by simp) (hf0.pers0.and persT) ?_
  refine ok_seq_r (by as_aux_lemma => kernel_rfl) (ru32_any_r1 a c B z _ _) (fun _ => ?_)
  refine ok_seq_rf (by as_aux_lemma => kernel_rfl) (ru32_any_r2 a c B z hz hBl _) (fun _ => ?_)
  refine ok_seq_r (by as_aux_lemma => kernel_rfl) (ru32_any_r3 B z hz hBl _ _) (fun _ => ?_)
  refine ok_ret ?_
  exact meets_ret (v := (.tuple #[(.int .u32 ((rdV B z 4 : Nat) : Int)), (.int .i64 (rdN B.length z 4)), (.int .i64 (rdE B.length z 4))])) [] (dup []) (by as_aux_lemma => kernel_rfl) (by as_aux_lemma => kernel_rfl) (eqs_dup _) (fun _ hS => ⟨rfl, hS.below⟩)
theorem ru64_any_r1 (a : Option Addr) (c : Nat) (B : List UInt8) (z : Int) (w0 : World) (F : World → Prop) : Reg Try.prog 0 (regOps Try.f37 0) false 13 [(0, (.slice a (B).length c)), (1, (.int .i64 z))] w0 [] F
    (fun _ => [(0, (.slice a (B).length c)), (1, (.int .i64 z)), (4, (.int .u64 0)), (5, (.int .i64 0)), (6, (.int .i64 0))])
    (fun _ => []) := by
  refine reg_seq [0, 1, 3] [0, 1, 4, 5, 6] 3
    (fun _ ι => ([(.int .u64 0), (.int .i64 0), (.int .i64 0)] : List Value).getD ι undef)
    (fun _ ι => ([{}, {}, {}] : List Eff).getD ι {})
    (by as_aux_lemma => kernel_rfl) (by as_aux_lemma => kernel_rfl) (fun _ => by as_aux_lemma => kernel_rfl) (fun _ => by as_aux_lemma => kernel_rfl) ⟨⟨⟨trivial, ?_⟩, ?_⟩, ?_⟩
  · exact o_run 0 [] [] (fun _ _ => []) (fun _ _ => by as_aux_lemma => kernel_rfl)
  · exact o_run 1 [] [] (fun _ _ => []) (fun _ _ => by as_aux_lemma => kernel_rfl)
  · exact o_run 2 [] [] (fun _ _ => []) (fun _ _ => by as_aux_lemma => kernel_rfl)
theorem ru64_any_r2 (a : Option Addr) (c : Nat) (B : List UInt8) (z : Int) (hz : -9223372036854775808 ≤ z ∧ z < 9223372036854775808) (hBl : B.length ≤ 140737488351232) (w0 : World) : RegF Try.prog 1 (regOps Try.f37 1) false 13 [(0, (.slice a (B).length c)), (1, (.int .i64 z)), (4, (.int .u64 0)), (5, (.int .i64 0)), (6, (.int .i64 0))] w0 [] (fun w => Bs w a c B ∧ True)
    (fun _ => [(4, (.int .u64 ((rdV B z 8 : Nat) : Int))), (5, (.int .i64 (rdN B.length z 8))), (6, (.int .i64 (rdE B.length z 8)))])
    (fun _ => []) (fun _ => (fun w => Bs w a c B ∧ True)) := by
  refine reg_seq_f [0, 1, 3, 7, 15, 31, 63, 127, 255] [4, 5, 6] 9
    (fun _ ι => ([(.slice a (B).length c), (.int .i64 z), (.tuple #[(.int .u64 ((rdV B z 8 : Nat) : Int)), (.int .i64 (rdN B.length z 8)), (.int .i64 (rdE B.length z 8))]), (.int .u64 ((rdV B z 8 : Nat) : Int)), (.int .i64 (rdN B.length z 8)), (.int .i64 (rdE B.length z 8)), (.int .u64 ((rdV B z 8 : Nat) : Int)), (.int .i64 (rdN B.length z 8)), (.int .i64 (rdE B.length z 8))] : List Value).getD ι undef)
    (fun _ ι => ([{}, {}, {}, {}, {}, {}, {}, {}, {}] : List Eff).getD ι {})
    (fun _ ι => ([(fun _ => True), (fun _ => True), (fun _ => True), (fun _ => True), (fun _ => True), (fun _ => True), (fun _ => True), (fun _ => True), (fun _ => True)] : List (World → Prop)).getD ι (fun _ => True))
    (by as_aux_lemma => kernel_rfl) (by as_aux_lemma => kernel_rfl) (fun _ => by as_aux_lemma => kernel_rfl) (fun _ => by as_aux_lemma => kernel_rfl) (fun _ _ hF _ => ⟨hF.1, trivial⟩) ⟨⟨⟨⟨⟨⟨⟨⟨⟨trivial, ?_⟩, ?_⟩, ?_⟩, ?_⟩, ?_⟩, ?_⟩, ?_⟩, ?_⟩, ?_⟩
  · exact Obl.brings (o_run 0 [] [] (fun _ _ => []) (fun _ _ => by as_aux_lemma => kernel_rfl)) (fun _ _ => trivial)
  · exact Obl.brings (o_run 1 [] [] (fun _ _ => []) (fun _ _ => by as_aux_lemma => kernel_rfl)) (fun _ _ => trivial)
  · exact o_callP 2 46 (fun _ => #[(.slice a (B).length c), (.int .i64 z), (.int .i64 8)]) (fun _ => (.tuple #[(.int .u64 ((rdV B z 8 : Nat) : Int)), (.int .i64 (rdN B.length z 8)), (.int .i64 (rdE B.length z 8))])) (fun _ _ => (by as_aux_lemma => kernel_rfl)) (fun _ => (by as_aux_lemma => kernel_rfl)) (fun _ _ => (by as_aux_lemma => kernel_rfl)) (fun _ _ => trivial) (fun _ _ w hG => number_any a c B z 8 (by have := hz; have := hBl; omega) hBl (by decide) w hG.facts0.now.1)
  · exact Obl.brings (o_run 3 [] [] (fun _ _ => []) (fun _ _ => by as_aux_lemma => kernel_rfl)) (fun _ _ => trivial)
  · exact Obl.brings (o_run 4 [] [] (fun _ _ => []) (fun _ _ => by as_aux_lemma => kernel_rfl)) (fun _ _ => trivial)
  · exact Obl.brings (o_run 5 [] [] (fun _ _ => []) (fun _ _ => by as_aux_lemma => kernel_rfl)) (fun _ _ => trivial)
  · exact Obl.brings (o_run 6 [] [] (fun _ _ => []) (fun _ _ => by as_aux_lemma => kernel_rfl)) (fun _ _ => trivial)
  · exact Obl.brings (o_run 7 [] [] (fun _ _ => []) (fun _ _ => by as_aux_lemma => kernel_rfl)) (fun _ _ => trivial)
  · exact Obl.brings (o_run 8 [] [] (fun _ _ => []) (fun _ _ => by as_aux_lemma => kernel_rfl)) (fun _ _ => trivial)
theorem ru64_any (a : Option Addr) (c : Nat) (B : List UInt8) (z : Int) (hz : -9223372036854775808 ≤ z ∧ z < 9223372036854775808) (hBl : B.length ≤ 140737488351232) (w0 : World) (hf0 : Bs w0 a c B) : Calls Try.prog 37 #[(.slice a (B).length c), (.int .i64 z)] w0 (fun ε w' => ε = .returned (.tuple #[(.int .u64 ((rdV B z 8 : Nat) : Int)), (.int .i64 (rdN B.length z 8)), (.int .i64 (rdE B.length z 8))]) ∧ Below w0.heap.size w0 w') := by
  refine Calls.of_ok (n := 13) (F := (fun w => Bs w a c B ∧ True)) Try.func37 rfl rfl rfl (by simp) (hf0.pers0.and persT) ?_
  refine ok_seq_r (by as_aux_lemma => kernel_rfl) (ru64_any_r1 a c B z _ _) (fun _ => ?_)
  refine ok_seq_rf (by as_aux_lemma => kernel_rfl) (ru64_any_r2 a c B z hz hBl _) (fun _ => ?_)
  refine ok_ret ?_
  exact meets_ret (v := (.tuple #[(.int .u64 ((rdV B z 8 : Nat) : Int)), (.int .i64 (rdN B.length z 8)), (.int .i64 (rdE B.length z 8))])) [] (dup []) (by as_aux_lemma => kernel_rfl) (by as_aux_lemma => kernel_rfl) (eqs_dup _) (fun _ hS => ⟨rfl, hS.below⟩)
theorem end_any_r1 (a : Option Addr) (c : Nat) (B : List UInt8) (z : Int) (w0 : World) (F : World → Prop) : Reg Try.prog 0 (regOps Try.f40 0) false 19 [(0, (.slice a (B).length c)), (1, (.int .i64 z))] w0 [] F
    (fun _ => [(0, (.slice a (B).length c)), (1, (.int .i64 z)), (4, (.int .i64 0))])
    (fun _ => []) := by
  refine reg_seq [0] [0, 1, 4] 1
    (fun _ ι => ([(.int .i64 0)] : List Value).getD ι undef)
    (fun _ ι => ([{}] : List Eff).getD ι {})
    (by as_aux_lemma => kernel_rfl) (by as_aux_lemma => kernel_rfl) (fun _ => by as_aux_lemma => kernel_rfl) (fun _ => by as_aux_lemma => kernel_rfl) ⟨trivial, ?_⟩
  · exact o_run 0 [] [] (fun _ _ => []) (fun _ _ => by as_aux_lemma => kernel_rfl)
theorem end_any_r2 (a : Option Addr) (c : Nat) (B : List UInt8) (z : Int) (hb1 : (decide (z < 0)) = true) (w0 : World) (F : World → Prop) : Reg Try.prog 1 (regOps Try.f40 1) false 19 [(0, (.slice a (B).length c)), (1, (.int .i64 z)), (4, (.int .i64 0))] w0 [] F
    (fun _ => [(0, (.slice a (B).length c)), (1, (.int .i64 z)), (4, (.int .i64 0)), (5, (.bool true))])
    (fun _ => []) := by
  refine reg_seq [0, 1, 3, 7, 15, 31, 63, 127, 255] [0, 1, 4, 5] 9
    (fun _ ι => ([(.int .i64 z), (.bool true), (.bool true), undef, undef, undef, undef, (.bool true), (.bool true)] : List Value).getD ι undef)
    (fun _ ι => ([{}, {}, {}, {}, {}, {}, {}, {}, {}] : List Eff).getD ι {})
    (by as_aux_lemma => kernel_rfl) (by as_aux_lemma => kernel_rfl) (fun _ => by as_aux_lemma => kernel_rfl) (fun _ => by as_aux_lemma => kernel_rfl) ⟨⟨⟨⟨⟨⟨⟨⟨⟨trivial, ?_⟩, ?_⟩, ?_⟩, ?_⟩, ?_⟩, ?_⟩, ?_⟩, ?_⟩, ?_⟩
  · exact o_run 0 [] [] (fun _ _ => []) (fun _ _ => by as_aux_lemma => kernel_rfl)
  · exact o_as 1 (fun _ => (.bool (decide (z < 0)))) (fun _ => (.bool true)) (fun _ _ => by as_aux_lemma => kernel_rfl) (fun _ => congrArg Value.bool hb1)
  · exact o_run 2 [] [] (fun _ _ => []) (fun _ _ => by as_aux_lemma => kernel_rfl)
  · exact o_skip 3 (fun _ => by as_aux_lemma => kernel_rfl)
  · exact o_skip 4 (fun _ => by as_aux_lemma => kernel_rfl)
  · exact o_skip 5 (fun _ => by as_aux_lemma => kernel_rfl)
  · exact o_skip 6 (fun _ => by as_aux_lemma => kernel_rfl)
  · exact o_run 7 [] [] (fun _ _ => []) (fun _ _ => by as_aux_lemma => kernel_rfl)
  · exact o_run 8 [] [] (fun _ _ => []) (fun _ _ => by as_aux_lemma => kernel_rfl)
theorem end_any_r3 (a : Option Addr) (c : Nat) (B : List UInt8) (z : Int) (w0 : World) (F : World → Prop) : Reg Try.prog 2 (regOps Try.f40 2) false 19 [(0, (.slice a (B).length c)), (1, (.int .i64 z)), (4, (.int .i64 0)), (5, (.bool true))] w0 [] F
    (fun _ => [(4, (.int .i64 5))])
    (fun _ => []) := by
  refine reg_seq [0] [4] 1
    (fun _ ι => ([(.int .i64 5)] : List Value).getD ι undef)
    (fun _ ι => ([{}] : List Eff).getD ι {})
    (by as_aux_lemma => kernel_rfl) (by as_aux_lemma => kernel_rfl) (fun _ => by as_aux_lemma => kernel_rfl) (fun _ => by as_aux_lemma => kernel_rfl) ⟨trivial, ?_⟩
  · exact o_run 0 [] [] (fun _ _ => []) (fun _ _ => by as_aux_lemma => kernel_rfl)
theorem end_any_r4 (a : Option Addr) (c : Nat) (B : List UInt8) (z : Int) (hb1 : (decide (z < 0)) = false) (w0 : World) (F : World → Prop) : Reg Try.prog 1 (regOps Try.f40 1) false 19 [(0, (.slice a (B).length c)), (1, (.int .i64 z)), (4, (.int .i64 0))] w0 [] F
    (fun _ => [(0, (.slice a (B).length c)), (1, (.int .i64 z)), (4, (.int .i64 0)), (5, (.bool (decide ((((B).length : Nat) : Int) < z))))])
    (fun _ => []) := by
  refine reg_seq [0, 1, 3, 7, 15, 31, 63, 127, 255] [0, 1, 4, 5] 9
    (fun _ ι => ([(.int .i64 z), (.bool false), (.bool false), (.int .i64 z), (.slice a (B).length c), (.int .i64 (((B).length : Nat) : Int)), (.bool (decide ((((B).length : Nat) : Int) < z))), (.bool (decide ((((B).length : Nat) : Int) < z))), (.bool (decide ((((B).length : Nat) : Int) < z)))] : List Value).getD ι undef)
    (fun _ ι => ([{}, {}, {}, {}, {}, {}, {}, {}, {}] : List Eff).getD ι {})
    (by as_aux_lemma => kernel_rfl) (by as_aux_lemma => kernel_rfl) (fun _ => by as_aux_lemma => kernel_rfl) (fun _ => by as_aux_lemma => kernel_rfl) ⟨⟨⟨⟨⟨⟨⟨⟨⟨trivial, ?_⟩, ?_⟩, ?_⟩, ?_⟩, ?_⟩, ?_⟩, ?_⟩, ?_⟩, ?_⟩
  · exact o_run 0 [] [] (fun _ _ => []) (fun _ _ => by as_aux_lemma => kernel_rfl)
  · exact o_as 1 (fun _ => (.bool (decide (z < 0)))) (fun _ => (.bool false)) (fun _ _ => by as_aux_lemma => kernel_rfl) (fun _ => congrArg Value.bool hb1)
  · exact o_run 2 [] [] (fun _ _ => []) (fun _ _ => by as_aux_lemma => kernel_rfl)
  · exact o_run 3 [] [] (fun _ _ => []) (fun _ _ => by as_aux_lemma => kernel_rfl)
  · exact o_run 4 [] [] (fun _ _ => []) (fun _ _ => by as_aux_lemma => kernel_rfl)
  · exact o_run 5 [] [] (fun _ _ => []) (fun _ _ => by as_aux_lemma => kernel_rfl)
  · exact o_run 6 [] [] (fun _ _ => []) (fun _ _ => by as_aux_lemma => kernel_rfl)
  · exact o_run 7 [] [] (fun _ _ => []) (fun _ _ => by as_aux_lemma => kernel_rfl)
  · exact o_run 8 [] [] (fun _ _ => []) (fun _ _ => by as_aux_lemma => kernel_rfl)
theorem end_any_r5 (a : Option Addr) (c : Nat) (B : List UInt8) (z : Int) (w0 : World) (F : World → Prop) : Reg Try.prog 2 (regOps Try.f40 2) false 19 [(0, (.slice a (B).length c)), (1, (.int .i64 z)), (4, (.int .i64 0)), (5, (.bool true))] w0 [] F
    (fun _ => [(4, (.int .i64 5))])
    (fun _ => []) := by
  refine reg_seq [0] [4] 1
    (fun _ ι => ([(.int .i64 5)] : List Value).getD ι undef)
    (fun _ ι => ([{}] : List Eff).getD ι {})
    (by as_aux_lemma => kernel_rfl) (by as_aux_lemma => kernel_rfl) (fun _ => by as_aux_lemma => kernel_rfl) (fun _ => by as_aux_lemma => kernel_rfl) ⟨trivial, ?_⟩
  · exact o_run 0 [] [] (fun _ _ => []) (fun _ _ => by as_aux_lemma => kernel_rfl)
theorem end_any_r6 (a : Option Addr) (c : Nat) (B : List UInt8) (z : Int) (w0 : World) (F : World → Prop) : Reg Try.prog 3 (regOps Try.f40 3) false 19 [(0, (.slice a (B).length c)), (1, (.int .i64 z)), (4, (.int .i64 0)), (5, (.bool false))] w0 [] F
    (fun _ => [(4, (.int .i64 0)), (14, (.bool (decide (z < (((B).length : Nat) : Int)))))])
    (fun _ => []) := by
  refine reg_seq [0, 1, 3, 7, 15] [4, 14] 5
    (fun _ ι => ([(.int .i64 z), (.slice a (B).length c), (.int .i64 (((B).length : Nat) : Int)), (.bool (decide (z < (((B).length : Nat) : Int)))), (.bool (decide (z < (((B).length : Nat) : Int))))] : List Value).getD ι undef)
    (fun _ ι => ([{}, {}, {}, {}, {}] : List Eff).getD ι {})
    (by as_aux_lemma => kernel_rfl) (by as_aux_lemma => kernel_rfl) (fun _ => by as_aux_lemma => kernel_rfl) (fun _ => by as_aux_lemma => kernel_rfl) ⟨⟨⟨⟨⟨trivial, ?_⟩, ?_⟩, ?_⟩, ?_⟩, ?_⟩
  · exact o_run 0 [] [] (fun _ _ => []) (fun _ _ => by as_aux_lemma => kernel_rfl)
  · exact o_run 1 [] [] (fun _ _ => []) (fun _ _ => by as_aux_lemma => kernel_rfl)
  · exact o_run 2 [] [] (fun _ _ => []) (fun _ _ => by as_aux_lemma => kernel_rfl)
  · exact o_run 3 [] [] (fun _ _ => []) (fun _ _ => by as_aux_lemma => kernel_rfl)
  · exact o_run 4 [] [] (fun _ _ => []) (fun _ _ => by as_aux_lemma => kernel_rfl)
theorem end_any_r7  (w0 : World) (F : World → Prop) : Reg Try.prog 4 (regOps Try.f40 4) false 19 [(4, (.int .i64 0)), (14, (.bool true))] w0 [] F
    (fun _ => [(4, (.int .i64 2))])
    (fun _ => []) := by
  refine reg_seq [0] [4] 1
    (fun _ ι => ([(.int .i64 2)] : List Value).getD ι undef)
    (fun _ ι => ([{}] : List Eff).getD ι {})
    (by as_aux_lemma => kernel_rfl) (by as_aux_lemma => kernel_rfl) (fun _ => by as_aux_lemma => kernel_rfl) (fun _ => by as_aux_lemma => kernel_rfl) ⟨trivial, ?_⟩
  · exact o_run 0 [] [] (fun _ _ => []) (fun _ _ => by as_aux_lemma => kernel_rfl)
theorem end_any_r8  (w0 : World) (F : World → Prop) : Reg Try.prog 5 (regOps Try.f40 5) false 19 [(4, (.int .i64 0)), (14, (.bool false))] w0 [] F
    (fun _ => [(4, (.int .i64 0))])
    (fun _ => []) := by
  refine reg_seq [0] [4] 1
    (fun _ ι => ([(.int .i64 0)] : List Value).getD ι undef)
    (fun _ ι => ([{}] : List Eff).getD ι {})
    (by as_aux_lemma => kernel_rfl) (by as_aux_lemma => kernel_rfl) (fun _ => by as_aux_lemma => kernel_rfl) (fun _ => by as_aux_lemma => kernel_rfl) ⟨trivial, ?_⟩
  · exact o_run 0 [] [] (fun _ _ => []) (fun _ _ => by as_aux_lemma => kernel_rfl)
theorem end_any (a : Option Addr) (c : Nat) (B : List UInt8) (z : Int) (hz : -9223372036854775808 ≤ z ∧ z < 9223372036854775808) (hBl : B.length ≤ 140737488351232) (w0 : World) : Calls Try.prog 40 #[(.slice a (B).length c), (.int .i64 z)] w0 (fun ε w' => ε = .returned (.int .i64 (enE (B).length z)) ∧ Below w0.heap.size w0 w') := by
  refine Calls.of_ok (n := 19) (F := (fun _ => True)) Try.func40 rfl rfl rfl (by simp) persT ?_
  refine ok_seq_r (by as_aux_lemma => kernel_rfl) (end_any_r1 a c B z _ _) (fun _ => ?_)
  refine ok_seq ?_
  refine ok_block ?_
  rcases Bool.eq_false_or_eq_true (decide (z < 0)) with hb1 | hb1
  ·
    refine ok_seq_r (by as_aux_lemma => kernel_rfl) (end_any_r2 a c B z hb1 _ _) (fun _ => ?_)
    refine ok_yes (by as_aux_lemma => kernel_rfl) ?_
    refine ok_seq_r (by as_aux_lemma => kernel_rfl) (end_any_r3 a c B z _ _) (fun _ => ?_)
    refine ok_ret ?_
    refine mt_block_r ?_
    refine mt_then_r ?_
    exact meets_ret (v := (.int .i64 5)) [] (dup []) (by as_aux_lemma => kernel_rfl) (by as_aux_lemma => kernel_rfl) (eqs_dup _) (fun _ hS => ⟨congrArg (fun x => Ending.returned (.int .i64 x)) ((en5 (by have := of_decide_eq_true hb1; have := hz; have := hBl; omega)).symm), hS.below⟩)
  ·
    refine ok_seq_r (by as_aux_lemma => kernel_rfl) (end_any_r4 a c B z hb1 _ _) (fun _ => ?_)
    refine ok_cond (b := decide ((((B).length : Nat) : Int) < z)) (by as_aux_lemma => kernel_rfl) (fun hb2 => ?_) (fun hb2 => ?_)
    ·
      rw [hb2]
      refine ok_seq_r (by as_aux_lemma => kernel_rfl) (end_any_r5 a c B z _ _) (fun _ => ?_)
      refine ok_ret ?_
      refine mt_block_r ?_
      refine mt_then_r ?_
      exact meets_ret (v := (.int .i64 5)) [] (dup []) (by as_aux_lemma => kernel_rfl) (by as_aux_lemma => kernel_rfl) (eqs_dup _) (fun _ hS => ⟨congrArg (fun x => Ending.returned (.int .i64 x)) ((en5 (by have := of_decide_eq_false hb1; have := of_decide_eq_true hb2; have := hz; have := hBl; omega)).symm), hS.below⟩)
    ·
      rw [hb2]
      refine ok_seq_r (by as_aux_lemma => kernel_rfl) (end_any_r6 a c B z _ _) (fun _ => ?_)
      refine ok_cond (b := decide (z < (((B).length : Nat) : Int))) (by as_aux_lemma => kernel_rfl) (fun hb3 => ?_) (fun hb3 => ?_)
      ·
        rw [hb3]
        refine ok_seq_r (by as_aux_lemma => kernel_rfl) (end_any_r7 _ _) (fun _ => ?_)
        refine ok_ret ?_
        refine mt_block_r ?_
        refine mt_then_r ?_
        exact meets_ret (v := (.int .i64 2)) [] (dup []) (by as_aux_lemma => kernel_rfl) (by as_aux_lemma => kernel_rfl) (eqs_dup _) (fun _ hS => ⟨congrArg (fun x => Ending.returned (.int .i64 x)) ((en2 (by have := of_decide_eq_false hb1; have := of_decide_eq_false hb2; have := of_decide_eq_true hb3; have := hz; have := hBl; omega) (by have := of_decide_eq_false hb1; have := of_decide_eq_false hb2; have := of_decide_eq_true hb3; have := hz; have := hBl; omega)).symm), hS.below⟩)
      ·
        rw [hb3]
        refine ok_skip ?_
        refine mt_block_n ?_
        refine mt_then ?_
        refine ok_seq_r (by as_aux_lemma => kernel_rfl) (end_any_r8 _ _) (fun _ => ?_)
        refine ok_ret ?_
        exact meets_ret (v := (.int .i64 0)) [] (dup []) (by as_aux_lemma => kernel_rfl) (by as_aux_lemma => kernel_rfl) (eqs_dup _) (fun _ hS => ⟨congrArg (fun x => Ending.returned (.int .i64 x)) ((en0 (by have := of_decide_eq_false hb1; have := of_decide_eq_false hb2; have := of_decide_eq_false hb3; have := hz; have := hBl; omega) (by have := of_decide_eq_false hb1; have := of_decide_eq_false hb2; have := of_decide_eq_false hb3; have := hz; have := hBl; omega)).symm), hS.below⟩)
theorem rend_any_r1 (a : Option Addr) (c : Nat) (B : List UInt8) (z : Int) (w0 : World) (F : World → Prop) : Reg Try.prog 0 (regOps Try.f41 0) false 19 [(0, (.slice a (B).length c)), (1, (.int .i64 z))] w0 [] F
    (fun _ => [(0, (.slice a (B).length c)), (1, (.int .i64 z)), (4, (.int .i64 0))])
    (fun _ => []) := by
  refine reg_seq [0] [0, 1, 4] 1
    (fun _ ι => ([(.int .i64 0)] : List Value).getD ι undef)
    (fun _ ι => ([{}] : List Eff).getD ι {})
    (by as_aux_lemma => kernel_rfl) (by as_aux_lemma => kernel_rfl) (fun _ => by as_aux_lemma => kernel_rfl) (fun _ => by as_aux_lemma => kernel_rfl) ⟨trivial, ?_⟩
  · exact o_run 0 [] [] (fun _ _ => []) (fun _ _ => by as_aux_lemma => kernel_rfl)
theorem rend_any_r2 (a : Option Addr) (c : Nat) (B : List UInt8) (z : Int) (hb1 : (decide (z < 0)) = true) (w0 : World) (F : World → Prop) : Reg Try.prog 1 (regOps Try.f41 1) false 19 [(0, (.slice a (B).length c)), (1, (.int .i64 z)), (4, (.int .i64 0))] w0 [] F
    (fun _ => [(0, (.slice a (B).length c)), (1, (.int .i64 z)), (4, (.int .i64 0)), (5, (.bool true))])
    (fun _ => []) := by
  refine reg_seq [0, 1, 3, 7, 15, 31, 63, 127, 255] [0, 1, 4, 5] 9
    (fun _ ι => ([(.int .i64 z), (.bool true), (.bool true), undef, undef, undef, undef, (.bool true), (.bool true)] : List Value).getD ι undef)
    (fun _ ι => ([{}, {}, {}, {}, {}, {}, {}, {}, {}] : List Eff).getD ι {})
    (by as_aux_lemma => kernel_rfl) (by as_aux_lemma => kernel_rfl) (fun _ => by as_aux_lemma => kernel_rfl) (fun _ => by as_aux_lemma => kernel_rfl) ⟨⟨⟨⟨⟨⟨⟨⟨⟨trivial, ?_⟩, ?_⟩, ?_⟩, ?_⟩, ?_⟩, ?_⟩, ?_⟩, ?_⟩, ?_⟩
  · exact o_run 0 [] [] (fun _ _ => []) (fun _ _ => by as_aux_lemma => kernel_rfl)
  · exact o_as 1 (fun _ => (.bool (decide (z < 0)))) (fun _ => (.bool true)) (fun _ _ => by as_aux_lemma => kernel_rfl) (fun _ => congrArg Value.bool hb1)
  · exact o_run 2 [] [] (fun _ _ => []) (fun _ _ => by as_aux_lemma => kernel_rfl)
  · exact o_skip 3 (fun _ => by as_aux_lemma => kernel_rfl)
  · exact o_skip 4 (fun _ => by as_aux_lemma => kernel_rfl)
  · exact o_skip 5 (fun _ => by as_aux_lemma => kernel_rfl)
  · exact o_skip 6 (fun _ => by as_aux_lemma => kernel_rfl)
  · exact o_run 7 [] [] (fun _ _ => []) (fun _ _ => by as_aux_lemma => kernel_rfl)
  · exact o_run 8 [] [] (fun _ _ => []) (fun _ _ => by as_aux_lemma => kernel_rfl)
theorem rend_any_r3 (a : Option Addr) (c : Nat) (B : List UInt8) (z : Int) (w0 : World) (F : World → Prop) : Reg Try.prog 2 (regOps Try.f41 2) false 19 [(0, (.slice a (B).length c)), (1, (.int .i64 z)), (4, (.int .i64 0)), (5, (.bool true))] w0 [] F
    (fun _ => [(4, (.int .i64 5))])
    (fun _ => []) := by
  refine reg_seq [0] [4] 1
    (fun _ ι => ([(.int .i64 5)] : List Value).getD ι undef)
    (fun _ ι => ([{}] : List Eff).getD ι {})
    (by as_aux_lemma => kernel_rfl) (by as_aux_lemma => kernel_rfl) (fun _ => by as_aux_lemma => kernel_rfl) (fun _ => by as_aux_lemma => kernel_rfl) ⟨trivial, ?_⟩
  · exact o_run 0 [] [] (fun _ _ => []) (fun _ _ => by as_aux_lemma => kernel_rfl)
theorem rend_any_r4 (a : Option Addr) (c : Nat) (B : List UInt8) (z : Int) (hb1 : (decide (z < 0)) = false) (w0 : World) (F : World → Prop) : Reg Try.prog 1 (regOps Try.f41 1) false 19 [(0, (.slice a (B).length c)), (1, (.int .i64 z)), (4, (.int .i64 0))] w0 [] F
    (fun _ => [(0, (.slice a (B).length c)), (1, (.int .i64 z)), (4, (.int .i64 0)), (5, (.bool (decide ((((B).length : Nat) : Int) < z))))])
    (fun _ => []) := by
  refine reg_seq [0, 1, 3, 7, 15, 31, 63, 127, 255] [0, 1, 4, 5] 9
    (fun _ ι => ([(.int .i64 z), (.bool false), (.bool false), (.int .i64 z), (.slice a (B).length c), (.int .i64 (((B).length : Nat) : Int)), (.bool (decide ((((B).length : Nat) : Int) < z))), (.bool (decide ((((B).length : Nat) : Int) < z))), (.bool (decide ((((B).length : Nat) : Int) < z)))] : List Value).getD ι undef)
    (fun _ ι => ([{}, {}, {}, {}, {}, {}, {}, {}, {}] : List Eff).getD ι {})
    (by as_aux_lemma => kernel_rfl) (by as_aux_lemma => kernel_rfl) (fun _ => by as_aux_lemma => kernel_rfl) (fun _ => by as_aux_lemma => kernel_rfl) ⟨⟨⟨⟨⟨⟨⟨⟨⟨trivial, ?_⟩, ?_⟩, ?_⟩, ?_⟩, ?_⟩, ?_⟩, ?_⟩, ?_⟩, ?_⟩
  · exact o_run 0 [] [] (fun _ _ => []) (fun _ _ => by as_aux_lemma => kernel_rfl)
  · exact o_as 1 (fun _ => (.bool (decide (z < 0)))) (fun _ => (.bool false)) (fun _ _ => by as_aux_lemma => kernel_rfl) (fun _ => congrArg Value.bool hb1)
  · exact o_run 2 [] [] (fun _ _ => []) (fun _ _ => by as_aux_lemma => kernel_rfl)
  · exact o_run 3 [] [] (fun _ _ => []) (fun _ _ => by as_aux_lemma => kernel_rfl)
  · exact o_run 4 [] [] (fun _ _ => []) (fun _ _ => by as_aux_lemma => kernel_rfl)
  · exact o_run 5 [] [] (fun _ _ => []) (fun _ _ => by as_aux_lemma => kernel_rfl)
  · exact o_run 6 [] [] (fun _ _ => []) (fun _ _ => by as_aux_lemma => kernel_rfl)
  · exact o_run 7 [] [] (fun _ _ => []) (fun _ _ => by as_aux_lemma => kernel_rfl)
  · exact o_run 8 [] [] (fun _ _ => []) (fun _ _ => by as_aux_lemma => kernel_rfl)
theorem rend_any_r5 (a : Option Addr) (c : Nat) (B : List UInt8) (z : Int) (w0 : World) (F : World → Prop) : Reg Try.prog 2 (regOps Try.f41 2) false 19 [(0, (.slice a (B).length c)), (1, (.int .i64 z)), (4, (.int .i64 0)), (5, (.bool true))] w0 [] F
    (fun _ => [(4, (.int .i64 5))])
    (fun _ => []) := by
  refine reg_seq [0] [4] 1
    (fun _ ι => ([(.int .i64 5)] : List Value).getD ι undef)
    (fun _ ι => ([{}] : List Eff).getD ι {})
    (by as_aux_lemma => kernel_rfl) (by as_aux_lemma => kernel_rfl) (fun _ => by as_aux_lemma => kernel_rfl) (fun _ => by as_aux_lemma => kernel_rfl) ⟨trivial, ?_⟩
  · exact o_run 0 [] [] (fun _ _ => []) (fun _ _ => by as_aux_lemma => kernel_rfl)
theorem rend_any_r6 (a : Option Addr) (c : Nat) (B : List UInt8) (z : Int) (w0 : World) (F : World → Prop) : Reg Try.prog 3 (regOps Try.f41 3) false 19 [(0, (.slice a (B).length c)), (1, (.int .i64 z)), (4, (.int .i64 0)), (5, (.bool false))] w0 [] F
    (fun _ => [(4, (.int .i64 0)), (14, (.bool (decide (z < (((B).length : Nat) : Int)))))])
    (fun _ => []) := by
  refine reg_seq [0, 1, 3, 7, 15] [4, 14] 5
    (fun _ ι => ([(.int .i64 z), (.slice a (B).length c), (.int .i64 (((B).length : Nat) : Int)), (.bool (decide (z < (((B).length : Nat) : Int)))), (.bool (decide (z < (((B).length : Nat) : Int))))] : List Value).getD ι undef)
    (fun _ ι => ([{}, {}, {}, {}, {}] : List Eff).getD ι {})
    (by as_aux_lemma => kernel_rfl) (by as_aux_lemma => kernel_rfl) (fun _ => by as_aux_lemma => kernel_rfl) (fun _ => by as_aux_lemma => kernel_rfl) ⟨⟨⟨⟨⟨trivial, ?_⟩, ?_⟩, ?_⟩, ?_⟩, ?_⟩
  · exact o_run 0 [] [] (fun _ _ => []) (fun _ _ => by as_aux_lemma => kernel_rfl)
  · exact o_run 1 [] [] (fun _ _ => []) (fun _ _ => by as_aux_lemma => kernel_rfl)
  · exact o_run 2 [] [] (fun _ _ => []) (fun _ _ => by as_aux_lemma => kernel_rfl)
  · exact o_run 3 [] [] (fun _ _ => []) (fun _ _ => by as_aux_lemma => kernel_rfl)
  · exact o_run 4 [] [] (fun _ _ => []) (fun _ _ => by as_aux_lemma => kernel_rfl)
theorem rend_any_r7  (w0 : World) (F : World → Prop) : Reg Try.prog 4 (regOps Try.f41 4) false 19 [(4, (.int .i64 0)), (14, (.bool true))] w0 [] F
    (fun _ => [(4, (.int .i64 2))])
    (fun _ => []) := by
  refine reg_seq [0] [4] 1
    (fun _ ι => ([(.int .i64 2)] : List Value).getD ι undef)
    (fun _ ι => ([{}] : List Eff).getD ι {})
    (by as_aux_lemma => kernel_rfl) (by as_aux_lemma => kernel_rfl) (fun _ => by as_aux_lemma => kernel_rfl) (fun _ => by as_aux_lemma => kernel_rfl) ⟨trivial, ?_⟩
  · exact o_run 0 [] [] (fun _ _ => []) (fun _ _ => by as_aux_lemma => kernel_rfl)
theorem rend_any_r8  (w0 : World) (F : World → Prop) : Reg Try.prog 5 (regOps Try.f41 5) false 19 [(4, (.int .i64 0)), (14, (.bool false))] w0 [] F
    (fun _ => [(4, (.int .i64 0))])
    (fun _ => []) := by
  refine reg_seq [0] [4] 1
    (fun _ ι => ([(.int .i64 0)] : List Value).getD ι undef)
    (fun _ ι => ([{}] : List Eff).getD ι {})
    (by as_aux_lemma => kernel_rfl) (by as_aux_lemma => kernel_rfl) (fun _ => by as_aux_lemma => kernel_rfl) (fun _ => by as_aux_lemma => kernel_rfl) ⟨trivial, ?_⟩
  · exact o_run 0 [] [] (fun _ _ => []) (fun _ _ => by as_aux_lemma => kernel_rfl)
theorem rend_any (a : Option Addr) (c : Nat) (B : List UInt8) (z : Int) (hz : -9223372036854775808 ≤ z ∧ z < 9223372036854775808) (hBl : B.length ≤ 140737488351232) (w0 : World) : Calls Try.prog 41 #[(.slice a (B).length c), (.int .i64 z)] w0 (fun ε w' => ε = .returned (.int .i64 (enE (B).length z)) ∧ Below w0.heap.size w0 w') := by
  refine Calls.of_ok (n := 19) (F := (fun _ => True)) Try.func41 rfl rfl rfl (by simp) persT ?_
  refine ok_seq_r (by as_aux_lemma => kernel_rfl) (rend_any_r1 a c B z _ _) (fun _ => ?_)
  refine ok_seq ?_
  refine ok_block ?_
  rcases Bool.eq_false_or_eq_true (decide (z < 0)) with hb1 | hb1
  ·
    refine ok_seq_r (by as_aux_lemma => kernel_rfl) (rend_any_r2 a c B z hb1 _ _) (fun _ => ?_)
    refine ok_yes (by as_aux_lemma => kernel_rfl) ?_
    refine ok_seq_r (by as_aux_lemma => kernel_rfl) (rend_any_r3 a c B z _ _) (fun _ => ?_)
    refine ok_ret ?_
    refine mt_block_r ?_
    refine mt_then_r ?_
    exact meets_ret (v := (.int .i64 5)) [] (dup []) (by as_aux_lemma => kernel_rfl) (by as_aux_lemma => kernel_rfl) (eqs_dup _) (fun _ hS => ⟨congrArg (fun x => Ending.returned (.int .i64 x)) ((en5 (by have := of_decide_eq_true hb1; have := hz; have := hBl; omega)).symm), hS.below⟩)
  ·
    refine ok_seq_r (by as_aux_lemma => kernel_rfl) (rend_any_r4 a c B z hb1 _ _) (fun _ => ?_)
    refine ok_cond (b := decide ((((B).length : Nat) : Int) < z)) (by as_aux_lemma => kernel_rfl) (fun hb2 => ?_) (fun hb2 => ?_)
    ·
      rw [hb2]
      refine ok_seq_r (by as_aux_lemma => kernel_rfl) (rend_any_r5 a c B z _ _) (fun _ => ?_)
      refine ok_ret ?_
      refine mt_block_r ?_
      refine mt_then_r ?_
      exact meets_ret (v := (.int .i64 5)) [] (dup []) (by as_aux_lemma => kernel_rfl) (by as_aux_lemma => kernel_rfl) (eqs_dup _) (fun _ hS => ⟨congrArg (fun x => Ending.returned (.int .i64 x)) ((en5 (by have := of_decide_eq_false hb1; have := of_decide_eq_true hb2; have := hz; have := hBl; omega)).symm), hS.below⟩)
    ·
      rw [hb2]
      refine ok_seq_r (by as_aux_lemma => kernel_rfl) (rend_any_r6 a c B z _ _) (fun _ => ?_)
      refine ok_cond (b := decide (z < (((B).length : Nat) : Int))) (by as_aux_lemma => kernel_rfl) (fun hb3 => ?_) (fun hb3 => ?_)
      ·
        rw [hb3]
        refine ok_seq_r (by as_aux_lemma => kernel_rfl) (rend_any_r7 _ _) (fun _ => ?_)
        refine ok_ret ?_
        refine mt_block_r ?_
        refine mt_then_r ?_
        exact meets_ret (v := (.int .i64 2)) [] (dup []) (by as_aux_lemma => kernel_rfl) (by as_aux_lemma => kernel_rfl) (eqs_dup _) (fun _ hS => ⟨congrArg (fun x => Ending.returned (.int .i64 x)) ((en2 (by have := of_decide_eq_false hb1; have := of_decide_eq_false hb2; have := of_decide_eq_true hb3; have := hz; have := hBl; omega) (by have := of_decide_eq_false hb1; have := of_decide_eq_false hb2; have := of_decide_eq_true hb3; have := hz; have := hBl; omega)).symm), hS.below⟩)
      ·
        rw [hb3]
        refine ok_skip ?_
        refine mt_block_n ?_
        refine mt_then ?_
        refine ok_seq_r (by as_aux_lemma => kernel_rfl) (rend_any_r8 _ _) (fun _ => ?_)
        refine ok_ret ?_
        exact meets_ret (v := (.int .i64 0)) [] (dup []) (by as_aux_lemma => kernel_rfl) (by as_aux_lemma => kernel_rfl) (eqs_dup _) (fun _ hS => ⟨congrArg (fun x => Ending.returned (.int .i64 x)) ((en0 (by have := of_decide_eq_false hb1; have := of_decide_eq_false hb2; have := of_decide_eq_false hb3; have := hz; have := hBl; omega) (by have := of_decide_eq_false hb1; have := of_decide_eq_false hb2; have := of_decide_eq_false hb3; have := hz; have := hBl; omega)).symm), hS.below⟩)
end Go.Proofs.Ytclccfibfkcagaa
