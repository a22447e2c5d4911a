/-
  The law CodecSizes: the walk.
-/
import Derived.Test.YtclccfibfkcagaaCSane
namespace Go.Proofs.Ytclccfibfkcagaa
open Go Go.RowKit
set_option maxRecDepth 100000
theorem codecSizes_any_r1 (a : Option Addr) (c : Nat) (B : List UInt8) (z : Int) (q : Nat) (w0 : World) (F : World → Prop) : Reg Try.prog 0 (regOps Try.f3 0) false 44 [(0, (.slice a (B).length c)), (1, (.int .i64 z)), (2, (.int .u64 ((q : Nat) : Int)))] w0 [] F
    (fun _ => [(0, (.slice a (B).length c)), (1, (.int .i64 z)), (2, (.int .u64 ((q : Nat) : Int))), (6, (.bool false))])
    (fun _ => []) := by
  refine reg_seq [0] [0, 1, 2, 6] 1
    (fun _ ι => ([(.bool false)] : List Value).getD ι undef)
    (fun _ ι => ([{}] : List Eff).getD ι {})
    (by as_aux_lemma => kernel_rfl) (by as_aux_lemma => kernel_rfl) (fun _ => by as_aux_lemma => kernel_rfl) (fun _ => by as_aux_lemma => kernel_rfl) ⟨trivial, ?_⟩
  · exact o_run 0 [] [] (fun _ _ => []) (fun _ _ => by as_aux_lemma => kernel_rfl)
theorem codecSizes_any_r2 (a : Option Addr) (c : Nat) (B : List UInt8) (z : Int) (q : Nat) (w0 : World) (F : World → Prop) : Reg Try.prog 1 (regOps Try.f3 1) false 44 [(0, (.slice a (B).length c)), (1, (.int .i64 z)), (2, (.int .u64 ((q : Nat) : Int))), (6, (.bool false))] w0 [] F
    (fun _ => [(0, (.slice a (B).length c)), (1, (.int .i64 z)), (2, (.int .u64 ((q : Nat) : Int))), (6, (.bool false)), (14, (.bool false))])
    (fun _ => []) := by
  refine reg_seq [0, 1] [0, 1, 2, 6, 14] 2
    (fun _ ι => ([(.bool true), (.bool false)] : List Value).getD ι undef)
    (fun _ ι => ([{}, {}] : List Eff).getD ι {})
    (by as_aux_lemma => kernel_rfl) (by as_aux_lemma => kernel_rfl) (fun _ => by as_aux_lemma => kernel_rfl) (fun _ => by as_aux_lemma => kernel_rfl) ⟨⟨trivial, ?_⟩, ?_⟩
  · exact o_call 0 12 (fun _ => #[]) (fun _ => (.bool true)) (fun _ _ => by as_aux_lemma => kernel_rfl) (fun _ w => (fun w => sane_any w) w)
  · exact o_run 1 [] [] (fun _ _ => []) (fun _ _ => by as_aux_lemma => kernel_rfl)
theorem codecSizes_any_r3 (a : Option Addr) (c : Nat) (B : List UInt8) (z : Int) (q : Nat) (hBl : B.length ≤ 140737488351232) (hz : -9223372036854775808 ≤ z ∧ z < 9223372036854775808) (hq : q < 18446744073709551616) (w0 : World) : RegF Try.prog 3 (regOps Try.f3 3) false 44 [(0, (.slice a (B).length c)), (1, (.int .i64 z)), (2, (.int .u64 ((q : Nat) : Int))), (6, (.bool false)), (14, (.bool false))] w0 [] (fun w => Bs w a c B ∧ True)
    (fun _ => [(0, (.slice a (B).length c)), (1, (.int .i64 z)), (2, (.int .u64 ((q : Nat) : Int))), (6, (.bool false)), (7, (.int .u64 ((szV B z q : Nat) : Int))), (8, (.int .i64 (szN B z q))), (9, (.int .i64 (szE B z q)))])
    (fun _ => []) (fun _ => (fun w => Bs w a c B ∧ True)) := by
  refine reg_seq_f [0, 1, 3, 7, 15, 31, 63, 127, 255, 511, 1023] [0, 1, 2, 6, 7, 8, 9] 11
    (fun _ ι => ([(.slice a (B).length c), (.int .i64 z), (.int .u64 ((q : Nat) : Int)), (.tuple #[(.int .u64 ((szV B z q : Nat) : Int)), (.int .i64 (szN B z q)), (.int .i64 (szE B z q))]), (.tuple #[(.int .u64 ((szV B z q : Nat) : Int)), (.int .i64 (szN B z q)), (.int .i64 (szE B z q))]), (.int .u64 ((szV B z q : Nat) : Int)), (.int .i64 (szN B z q)), (.int .i64 (szE B z q)), (.int .u64 ((szV B z q : Nat) : Int)), (.int .i64 (szN B z q)), (.int .i64 (szE B z q))] : List Value).getD ι undef)
    (fun _ ι => ([{}, {}, {}, {}, {}, {}, {}, {}, {}, {}, {}] : List Eff).getD ι {})
    (fun _ ι => ([(fun _ => True), (fun _ => True), (fun _ => True), (fun _ => True), (fun _ => True), (fun _ => True), (fun _ => True), (fun _ => True), (fun _ => True), (fun _ => True), (fun _ => True)] : List (World → Prop)).getD ι (fun _ => True))
    (by as_aux_lemma => kernel_rfl) (by as_aux_lemma => kernel_rfl) (fun _ => by as_aux_lemma => kernel_rfl) (fun _ => by as_aux_lemma => kernel_rfl) (fun _ _ hF _ => ⟨hF.1, trivial⟩) ⟨⟨⟨⟨⟨⟨⟨⟨⟨⟨⟨trivial, ?_⟩, ?_⟩, ?_⟩, ?_⟩, ?_⟩, ?_⟩, ?_⟩, ?_⟩, ?_⟩, ?_⟩, ?_⟩
  · exact Obl.brings (o_run 0 [] [] (fun _ _ => []) (fun _ _ => by as_aux_lemma => kernel_rfl)) (fun _ _ => trivial)
  · exact Obl.brings (o_run 1 [] [] (fun _ _ => []) (fun _ _ => by as_aux_lemma => kernel_rfl)) (fun _ _ => trivial)
  · exact Obl.brings (o_run 2 [] [] (fun _ _ => []) (fun _ _ => by as_aux_lemma => kernel_rfl)) (fun _ _ => trivial)
  · exact o_callP 3 13 (fun _ => #[(.slice a (B).length c), (.int .i64 z), (.int .u64 ((q : Nat) : Int))]) (fun _ => (.tuple #[(.int .u64 ((szV B z q : Nat) : Int)), (.int .i64 (szN B z q)), (.int .i64 (szE B z q))])) (fun _ _ => (by as_aux_lemma => kernel_rfl)) (fun _ => (by as_aux_lemma => kernel_rfl)) (fun _ _ => (by as_aux_lemma => kernel_rfl)) (fun _ _ => trivial) (fun _ _ w hG => size_any a c B z q (by have := hBl; have := hz; have := hq; omega) hBl (by have := hBl; have := hz; have := hq; omega) w hG.facts0.now.1)
  · exact Obl.brings (o_run 4 [] [] (fun _ _ => []) (fun _ _ => by as_aux_lemma => kernel_rfl)) (fun _ _ => trivial)
  · exact Obl.brings (o_run 5 [] [] (fun _ _ => []) (fun _ _ => by as_aux_lemma => kernel_rfl)) (fun _ _ => trivial)
  · exact Obl.brings (o_run 6 [] [] (fun _ _ => []) (fun _ _ => by as_aux_lemma => kernel_rfl)) (fun _ _ => trivial)
  · exact Obl.brings (o_run 7 [] [] (fun _ _ => []) (fun _ _ => by as_aux_lemma => kernel_rfl)) (fun _ _ => trivial)
  · exact Obl.brings (o_run 8 [] [] (fun _ _ => []) (fun _ _ => by as_aux_lemma => kernel_rfl)) (fun _ _ => trivial)
  · exact Obl.brings (o_run 9 [] [] (fun _ _ => []) (fun _ _ => by as_aux_lemma => kernel_rfl)) (fun _ _ => trivial)
  · exact Obl.brings (o_run 10 [] [] (fun _ _ => []) (fun _ _ => by as_aux_lemma => kernel_rfl)) (fun _ _ => trivial)
theorem codecSizes_any_r4 (a : Option Addr) (c : Nat) (B : List UInt8) (z : Int) (q : Nat) (hBl : B.length ≤ 140737488351232) (hz : -9223372036854775808 ≤ z ∧ z < 9223372036854775808) (hq : q < 18446744073709551616) (w0 : World) : RegF Try.prog 4 (regOps Try.f3 4) false 44 [(0, (.slice a (B).length c)), (1, (.int .i64 z)), (2, (.int .u64 ((q : Nat) : Int))), (6, (.bool false)), (7, (.int .u64 ((szV B z q : Nat) : Int))), (8, (.int .i64 (szN B z q))), (9, (.int .i64 (szE B z q)))] w0 [] (fun w => Bs w a c B ∧ True)
    (fun _ => [(6, (.bool false)), (7, (.int .u64 ((szV B z q : Nat) : Int))), (8, (.int .i64 (szN B z q))), (9, (.int .i64 (szE B z q))), (10, (.int .u64 ((szV B z q : Nat) : Int))), (11, (.int .i64 (szN B z q))), (12, (.int .i64 (szE B z q)))])
    (fun _ => []) (fun _ => (fun w => Bs w a c B ∧ True)) := by
  refine reg_seq_f [0, 1, 3, 7, 15, 31, 63, 127, 255, 511, 1023] [6, 7, 8, 9, 10, 11, 12] 11
    (fun _ ι => ([(.slice a (B).length c), (.int .i64 z), (.int .u64 ((q : Nat) : Int)), (.tuple #[(.int .u64 ((szV B z q : Nat) : Int)), (.int .i64 (szN B z q)), (.int .i64 (szE B z q))]), (.tuple #[(.int .u64 ((szV B z q : Nat) : Int)), (.int .i64 (szN B z q)), (.int .i64 (szE B z q))]), (.int .u64 ((szV B z q : Nat) : Int)), (.int .i64 (szN B z q)), (.int .i64 (szE B z q)), (.int .u64 ((szV B z q : Nat) : Int)), (.int .i64 (szN B z q)), (.int .i64 (szE B z q))] : List Value).getD ι undef)
    (fun _ ι => ([{}, {}, {}, {}, {}, {}, {}, {}, {}, {}, {}] : List Eff).getD ι {})
    (fun _ ι => ([(fun _ => True), (fun _ => True), (fun _ => True), (fun _ => True), (fun _ => True), (fun _ => True), (fun _ => True), (fun _ => True), (fun _ => True), (fun _ => True), (fun _ => True)] : List (World → Prop)).getD ι (fun _ => True))
    (by as_aux_lemma => kernel_rfl) (by as_aux_lemma => kernel_rfl) (fun _ => by as_aux_lemma => kernel_rfl) (fun _ => by as_aux_lemma => kernel_rfl) (fun _ _ hF _ => ⟨hF.1, trivial⟩) ⟨⟨⟨⟨⟨⟨⟨⟨⟨⟨⟨trivial, ?_⟩, ?_⟩, ?_⟩, ?_⟩, ?_⟩, ?_⟩, ?_⟩, ?_⟩, ?_⟩, ?_⟩, ?_⟩
  · exact Obl.brings (o_run 0 [] [] (fun _ _ => []) (fun _ _ => by as_aux_lemma => kernel_rfl)) (fun _ _ => trivial)
  · exact Obl.brings (o_run 1 [] [] (fun _ _ => []) (fun _ _ => by as_aux_lemma => kernel_rfl)) (fun _ _ => trivial)
  · exact Obl.brings (o_run 2 [] [] (fun _ _ => []) (fun _ _ => by as_aux_lemma => kernel_rfl)) (fun _ _ => trivial)
  · exact o_callP 3 14 (fun _ => #[(.slice a (B).length c), (.int .i64 z), (.int .u64 ((q : Nat) : Int))]) (fun _ => (.tuple #[(.int .u64 ((szV B z q : Nat) : Int)), (.int .i64 (szN B z q)), (.int .i64 (szE B z q))])) (fun _ _ => (by as_aux_lemma => kernel_rfl)) (fun _ => (by as_aux_lemma => kernel_rfl)) (fun _ _ => (by as_aux_lemma => kernel_rfl)) (fun _ _ => trivial) (fun _ _ w hG => rsize_any a c B z q (by have := hBl; have := hz; have := hq; omega) hBl (by have := hBl; have := hz; have := hq; omega) w hG.facts0.now.1)
  · exact Obl.brings (o_run 4 [] [] (fun _ _ => []) (fun _ _ => by as_aux_lemma => kernel_rfl)) (fun _ _ => trivial)
  · exact Obl.brings (o_run 5 [] [] (fun _ _ => []) (fun _ _ => by as_aux_lemma => kernel_rfl)) (fun _ _ => trivial)
  · exact Obl.brings (o_run 6 [] [] (fun _ _ => []) (fun _ _ => by as_aux_lemma => kernel_rfl)) (fun _ _ => trivial)
  · exact Obl.brings (o_run 7 [] [] (fun _ _ => []) (fun _ _ => by as_aux_lemma => kernel_rfl)) (fun _ _ => trivial)
  · exact Obl.brings (o_run 8 [] [] (fun _ _ => []) (fun _ _ => by as_aux_lemma => kernel_rfl)) (fun _ _ => trivial)
  · exact Obl.brings (o_run 9 [] [] (fun _ _ => []) (fun _ _ => by as_aux_lemma => kernel_rfl)) (fun _ _ => trivial)
  · exact Obl.brings (o_run 10 [] [] (fun _ _ => []) (fun _ _ => by as_aux_lemma => kernel_rfl)) (fun _ _ => trivial)
theorem codecSizes_any_r5 (B : List UInt8) (z : Int) (q : Nat) (w0 : World) (F : World → Prop) : Reg Try.prog 5 (regOps Try.f3 5) false 44 [(6, (.bool false)), (7, (.int .u64 ((szV B z q : Nat) : Int))), (8, (.int .i64 (szN B z q))), (9, (.int .i64 (szE B z q))), (10, (.int .u64 ((szV B z q : Nat) : Int))), (11, (.int .i64 (szN B z q))), (12, (.int .i64 (szE B z q)))] w0 [] F
    (fun _ => [(6, (.bool true))])
    (fun _ => []) := by
  refine reg_seq [0, 1, 3, 7, 15, 31, 63, 127, 255, 511, 1023, 2047, 4095, 8191] [6] 14
    (fun _ ι => ([(.int .u64 ((szV B z q : Nat) : Int)), (.int .u64 ((szV B z q : Nat) : Int)), (.bool true), (.bool true), (.int .i64 (szN B z q)), (.int .i64 (szN B z q)), (.bool true), (.bool true), (.bool true), (.int .i64 (szE B z q)), (.int .i64 (szE B z q)), (.bool true), (.bool true), (.bool true)] : List Value).getD ι undef)
    (fun _ ι => ([{}, {}, {}, {}, {}, {}, {}, {}, {}, {}, {}, {}, {}, {}] : List Eff).getD ι {})
    (by as_aux_lemma => kernel_rfl) (by as_aux_lemma => kernel_rfl) (fun _ => by as_aux_lemma => kernel_rfl) (fun _ => by as_aux_lemma => kernel_rfl) ⟨⟨⟨⟨⟨⟨⟨⟨⟨⟨⟨⟨⟨⟨trivial, ?_⟩, ?_⟩, ?_⟩, ?_⟩, ?_⟩, ?_⟩, ?_⟩, ?_⟩, ?_⟩, ?_⟩, ?_⟩, ?_⟩, ?_⟩, ?_⟩
  · exact o_run 0 [] [] (fun _ _ => []) (fun _ _ => by as_aux_lemma => kernel_rfl)
  · exact o_run 1 [] [] (fun _ _ => []) (fun _ _ => by as_aux_lemma => kernel_rfl)
  · exact o_as 2 (fun _ => (.bool (((szV B z q : Nat) : Int) == ((szV B z q : Nat) : Int)))) (fun _ => (.bool true)) (fun _ _ => by as_aux_lemma => kernel_rfl) (fun _ => congrArg Value.bool (beq_self_eq_true _))
  · exact o_run 3 [] [] (fun _ _ => []) (fun _ _ => by as_aux_lemma => kernel_rfl)
  · exact o_run 4 [] [] (fun _ _ => []) (fun _ _ => by as_aux_lemma => kernel_rfl)
  · exact o_run 5 [] [] (fun _ _ => []) (fun _ _ => by as_aux_lemma => kernel_rfl)
  · exact o_as 6 (fun _ => (.bool ((szN B z q) == (szN B z q)))) (fun _ => (.bool true)) (fun _ _ => by as_aux_lemma => kernel_rfl) (fun _ => congrArg Value.bool (beq_self_eq_true _))
  · exact o_run 7 [] [] (fun _ _ => []) (fun _ _ => by as_aux_lemma => kernel_rfl)
  · exact o_run 8 [] [] (fun _ _ => []) (fun _ _ => by as_aux_lemma => kernel_rfl)
  · exact o_run 9 [] [] (fun _ _ => []) (fun _ _ => by as_aux_lemma => kernel_rfl)
  · exact o_run 10 [] [] (fun _ _ => []) (fun _ _ => by as_aux_lemma => kernel_rfl)
  · exact o_as 11 (fun _ => (.bool ((szE B z q) == (szE B z q)))) (fun _ => (.bool true)) (fun _ _ => by as_aux_lemma => kernel_rfl) (fun _ => congrArg Value.bool (beq_self_eq_true _))
  · exact o_run 12 [] [] (fun _ _ => []) (fun _ _ => by as_aux_lemma => kernel_rfl)
  · exact o_run 13 [] [] (fun _ _ => []) (fun _ _ => by as_aux_lemma => kernel_rfl)
theorem codecSizes_any (a : Option Addr) (c : Nat) (B : List UInt8) (z : Int) (q : Nat) (hBl : B.length ≤ 140737488351232) (hz : -9223372036854775808 ≤ z ∧ z < 9223372036854775808) (hq : q < 18446744073709551616) (w0 : World) (hf0 : Bs w0 a c B) : Calls Try.prog 3 #[(.slice a (B).length c), (.int .i64 z), (.int .u64 ((q : Nat) : Int))] w0 (fun ε w' => ε = .returned (.bool true) ∧ Below w0.heap.size w0 w') := by
  refine Calls.of_ok (n := 44) (F := (fun w => Bs w a c B ∧ True)) Try.func3 rfl rfl rfl (by simp) (hf0.pers0.and persT) ?_
  refine ok_seq_r (by as_aux_lemma => kernel_rfl) (codecSizes_any_r1 a c B z q _ _) (fun _ => ?_)
  refine ok_seq ?_
  refine ok_seq_r (by as_aux_lemma => kernel_rfl) (codecSizes_any_r2 a c B z q _ _) (fun _ => ?_)
  refine ok_no (by as_aux_lemma => kernel_rfl) ?_
  refine ok_skip ?_
  refine mt_then ?_
  refine ok_seq_rf (by as_aux_lemma => kernel_rfl) (codecSizes_any_r3 a c B z q hBl hz hq _) (fun _ => ?_)
  refine ok_seq_rf (by as_aux_lemma => kernel_rfl) (codecSizes_any_r4 a c B z q hBl hz hq _) (fun _ => ?_)
  refine ok_seq_r (by as_aux_lemma => kernel_rfl) (codecSizes_any_r5 B z q _ _) (fun _ => ?_)
  refine ok_ret ?_
  exact meets_ret (v := (.bool true)) [] (dup []) (by as_aux_lemma => kernel_rfl) (by as_aux_lemma => kernel_rfl) (eqs_dup _) (fun _ hS => ⟨rfl, hS.below⟩)
end Go.Proofs.Ytclccfibfkcagaa
