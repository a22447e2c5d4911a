/-
  The codec reads sizes: the walks.
-/
import Derived.Test.YtclccfibfkcagaaCRead
namespace Go.Proofs.Ytclccfibfkcagaa
open Go Go.RowKit
set_option maxRecDepth 100000
theorem size_any_r1 (a : Option Addr) (c : Nat) (B : List UInt8) (z : Int) (q : Nat) (w0 : World) (F : World → Prop) : Reg Try.prog 0 (regOps Try.f13 0) false 74 [(0, (.slice a (B).length c)), (1, (.int .i64 z)), (2, (.int .u64 ((q : Nat) : Int)))] w0 [] F
    (fun _ => [(0, (.slice a (B).length c)), (1, (.int .i64 z)), (2, (.int .u64 ((q : Nat) : Int))), (6, (.int .u64 0)), (7, (.int .i64 0)), (8, (.int .i64 0))])
    (fun _ => []) := by
  refine reg_seq [0, 1, 3] [0, 1, 2, 6, 7, 8] 3
    (fun _ ι => ([(.int .u64 0), (.int .i64 0), (.int .i64 0)] : List Value).getD ι undef)
    (fun _ ι => ([{}, {}, {}] : List Eff).getD ι {})
    (by as_aux_lemma => kernel_rfl) (by as_aux_lemma => kernel_rfl) (fun _ => by as_aux_lemma => kernel_rfl) (fun _ => by as_aux_lemma => kernel_rfl) ⟨⟨⟨trivial, ?_⟩, ?_⟩, ?_⟩
  · exact o_run 0 [] [] (fun _ _ => []) (fun _ _ => by as_aux_lemma => kernel_rfl)
  · exact o_run 1 [] [] (fun _ _ => []) (fun _ _ => by as_aux_lemma => kernel_rfl)
  · exact o_run 2 [] [] (fun _ _ => []) (fun _ _ => by as_aux_lemma => kernel_rfl)
theorem size_any_r2 (a : Option Addr) (c : Nat) (B : List UInt8) (z : Int) (q : Nat) (hz : -9223372036854775808 ≤ z ∧ z < 9223372036854775808) (hBl : B.length ≤ 140737488351232) (hq : q < 18446744073709551616) (w0 : World) : RegF Try.prog 1 (regOps Try.f13 1) false 74 [(0, (.slice a (B).length c)), (1, (.int .i64 z)), (2, (.int .u64 ((q : Nat) : Int))), (6, (.int .u64 0)), (7, (.int .i64 0)), (8, (.int .i64 0))] w0 [] (fun w => Bs w a c B ∧ True)
    (fun _ => [(0, (.slice a (B).length c)), (2, (.int .u64 ((q : Nat) : Int))), (6, (.int .u64 0)), (7, (.int .i64 0)), (8, (.int .i64 0)), (9, (.int .u8 ((rdV B z 1 : Nat) : Int))), (10, (.int .i64 (rdN B.length z 1))), (11, (.int .i64 (rdE B.length z 1)))])
    (fun _ => []) (fun _ => (fun w => Bs w a c B ∧ True)) := by
  refine reg_seq_f [0, 1, 3, 7, 15, 31, 63, 127, 255, 511] [0, 2, 6, 7, 8, 9, 10, 11] 10
    (fun _ ι => ([(.slice a (B).length c), (.int .i64 z), (.tuple #[(.int .u8 ((rdV B z 1 : Nat) : Int)), (.int .i64 (rdN B.length z 1)), (.int .i64 (rdE B.length z 1))]), (.tuple #[(.int .u8 ((rdV B z 1 : Nat) : Int)), (.int .i64 (rdN B.length z 1)), (.int .i64 (rdE B.length z 1))]), (.int .u8 ((rdV B z 1 : Nat) : Int)), (.int .i64 (rdN B.length z 1)), (.int .i64 (rdE B.length z 1)), (.int .u8 ((rdV B z 1 : Nat) : Int)), (.int .i64 (rdN B.length z 1)), (.int .i64 (rdE B.length z 1))] : List Value).getD ι undef)
    (fun _ ι => ([{}, {}, {}, {}, {}, {}, {}, {}, {}, {}] : List Eff).getD ι {})
    (fun _ ι => ([(fun _ => True), (fun _ => True), (fun _ => True), (fun _ => True), (fun _ => True), (fun _ => True), (fun _ => True), (fun _ => True), (fun _ => True), (fun _ => True)] : List (World → Prop)).getD ι (fun _ => True))
    (by as_aux_lemma => kernel_rfl) (by as_aux_lemma => kernel_rfl) (fun _ => by as_aux_lemma => kernel_rfl) (fun _ => by as_aux_lemma => kernel_rfl) (fun _ _ hF _ => ⟨hF.1, trivial⟩) ⟨⟨⟨⟨⟨⟨⟨⟨⟨⟨trivial, ?_⟩, ?_⟩, ?_⟩, ?_⟩, ?_⟩, ?_⟩, ?_⟩, ?_⟩, ?_⟩, ?_⟩
  · exact Obl.brings (o_run 0 [] [] (fun _ _ => []) (fun _ _ => by as_aux_lemma => kernel_rfl)) (fun _ _ => trivial)
  · exact Obl.brings (o_run 1 [] [] (fun _ _ => []) (fun _ _ => by as_aux_lemma => kernel_rfl)) (fun _ _ => trivial)
  · exact o_callP 2 30 (fun _ => #[(.slice a (B).length c), (.int .i64 z)]) (fun _ => (.tuple #[(.int .u8 ((rdV B z 1 : Nat) : Int)), (.int .i64 (rdN B.length z 1)), (.int .i64 (rdE B.length z 1))])) (fun _ _ => (by as_aux_lemma => kernel_rfl)) (fun _ => (by as_aux_lemma => kernel_rfl)) (fun _ _ => (by as_aux_lemma => kernel_rfl)) (fun _ _ => trivial) (fun _ _ w hG => u8_any a c B z (by have := hz; have := hBl; have := hq; omega) hBl w hG.facts0.now.1)
  · exact Obl.brings (o_run 3 [] [] (fun _ _ => []) (fun _ _ => by as_aux_lemma => kernel_rfl)) (fun _ _ => trivial)
  · exact Obl.brings (o_run 4 [] [] (fun _ _ => []) (fun _ _ => by as_aux_lemma => kernel_rfl)) (fun _ _ => trivial)
  · exact Obl.brings (o_run 5 [] [] (fun _ _ => []) (fun _ _ => by as_aux_lemma => kernel_rfl)) (fun _ _ => trivial)
  · exact Obl.brings (o_run 6 [] [] (fun _ _ => []) (fun _ _ => by as_aux_lemma => kernel_rfl)) (fun _ _ => trivial)
  · exact Obl.brings (o_run 7 [] [] (fun _ _ => []) (fun _ _ => by as_aux_lemma => kernel_rfl)) (fun _ _ => trivial)
  · exact Obl.brings (o_run 8 [] [] (fun _ _ => []) (fun _ _ => by as_aux_lemma => kernel_rfl)) (fun _ _ => trivial)
  · exact Obl.brings (o_run 9 [] [] (fun _ _ => []) (fun _ _ => by as_aux_lemma => kernel_rfl)) (fun _ _ => trivial)
theorem size_any_r3 (a : Option Addr) (c : Nat) (B : List UInt8) (z : Int) (q : Nat) (w0 : World) (F : World → Prop) : Reg Try.prog 2 (regOps Try.f13 2) false 74 [(0, (.slice a (B).length c)), (2, (.int .u64 ((q : Nat) : Int))), (6, (.int .u64 0)), (7, (.int .i64 0)), (8, (.int .i64 0)), (9, (.int .u8 ((rdV B z 1 : Nat) : Int))), (10, (.int .i64 (rdN B.length z 1))), (11, (.int .i64 (rdE B.length z 1)))] w0 [] F
    (fun _ => [(0, (.slice a (B).length c)), (2, (.int .u64 ((q : Nat) : Int))), (6, (.int .u64 0)), (7, (.int .i64 0)), (8, (.int .i64 0)), (9, (.int .u8 ((rdV B z 1 : Nat) : Int))), (10, (.int .i64 (rdN B.length z 1))), (11, (.int .i64 (rdE B.length z 1))), (24, (.bool ((rdE B.length z 1) != 0)))])
    (fun _ => []) := by
  refine reg_seq [0, 1] [0, 2, 6, 7, 8, 9, 10, 11, 24] 2
    (fun _ ι => ([(.int .i64 (rdE B.length z 1)), (.bool ((rdE B.length z 1) != 0))] : List Value).getD ι undef)
    (fun _ ι => ([{}, {}] : List Eff).getD ι {})
    (by as_aux_lemma => kernel_rfl) (by as_aux_lemma => kernel_rfl) (fun _ => by as_aux_lemma => kernel_rfl) (fun _ => by as_aux_lemma => kernel_rfl) ⟨⟨trivial, ?_⟩, ?_⟩
  · exact o_run 0 [] [] (fun _ _ => []) (fun _ _ => by as_aux_lemma => kernel_rfl)
  · exact o_run 1 [] [] (fun _ _ => []) (fun _ _ => by as_aux_lemma => kernel_rfl)
theorem size_any_r4 (a : Option Addr) (c : Nat) (B : List UInt8) (z : Int) (q : Nat) (w0 : World) (F : World → Prop) : Reg Try.prog 3 (regOps Try.f13 3) false 74 [(0, (.slice a (B).length c)), (2, (.int .u64 ((q : Nat) : Int))), (6, (.int .u64 0)), (7, (.int .i64 0)), (8, (.int .i64 0)), (9, (.int .u8 ((rdV B z 1 : Nat) : Int))), (10, (.int .i64 (rdN B.length z 1))), (11, (.int .i64 (rdE B.length z 1))), (24, (.bool true))] w0 [] F
    (fun _ => [(0, (.slice a (B).length c)), (2, (.int .u64 ((q : Nat) : Int))), (6, (.int .u64 0)), (7, (.int .i64 0)), (8, (.int .i64 (rdE B.length z 1))), (9, (.int .u8 ((rdV B z 1 : Nat) : Int))), (10, (.int .i64 (rdN B.length z 1))), (11, (.int .i64 (rdE B.length z 1)))])
    (fun _ => []) := by
  refine reg_seq [0, 1, 3, 7] [0, 2, 6, 7, 8, 9, 10, 11] 4
    (fun _ ι => ([(.int .i64 (rdE B.length z 1)), (.int .u64 0), (.int .i64 0), (.int .i64 (rdE B.length z 1))] : List Value).getD ι undef)
    (fun _ ι => ([{}, {}, {}, {}] : List Eff).getD ι {})
    (by as_aux_lemma => kernel_rfl) (by as_aux_lemma => kernel_rfl) (fun _ => by as_aux_lemma => kernel_rfl) (fun _ => by as_aux_lemma => kernel_rfl) ⟨⟨⟨⟨trivial, ?_⟩, ?_⟩, ?_⟩, ?_⟩
  · exact o_run 0 [] [] (fun _ _ => []) (fun _ _ => by as_aux_lemma => kernel_rfl)
  · exact o_run 1 [] [] (fun _ _ => []) (fun _ _ => by as_aux_lemma => kernel_rfl)
  · exact o_run 2 [] [] (fun _ _ => []) (fun _ _ => by as_aux_lemma => kernel_rfl)
  · exact o_run 3 [] [] (fun _ _ => []) (fun _ _ => by as_aux_lemma => kernel_rfl)
theorem size_any_r5 (a : Option Addr) (c : Nat) (B : List UInt8) (z : Int) (q : Nat) (hz : -9223372036854775808 ≤ z ∧ z < 9223372036854775808) (hBl : B.length ≤ 140737488351232) (hq : q < 18446744073709551616) (hb1 : ((rdE B.length z 1) != 0) = false) (w0 : World) (F : World → Prop) : Reg Try.prog 4 (regOps Try.f13 4) false 74 [(0, (.slice a (B).length c)), (2, (.int .u64 ((q : Nat) : Int))), (6, (.int .u64 0)), (7, (.int .i64 0)), (8, (.int .i64 0)), (9, (.int .u8 ((rdV B z 1 : Nat) : Int))), (10, (.int .i64 (rdN B.length z 1))), (11, (.int .i64 (rdE B.length z 1))), (24, (.bool false))] w0 [] F
    (fun _ => [(0, (.slice a (B).length c)), (2, (.int .u64 ((q : Nat) : Int))), (6, (.int .u64 0)), (7, (.int .i64 0)), (8, (.int .i64 0)), (9, (.int .u8 ((rdV B z 1 : Nat) : Int))), (10, (.int .i64 (rdN B.length z 1))), (11, (.int .i64 (rdE B.length z 1))), (12, (.int .u64 ((rdV B z 1 : Nat) : Int))), (13, (.int .u64 0))])
    (fun _ => []) := by
  refine reg_seq [0, 1, 3, 7] [0, 2, 6, 7, 8, 9, 10, 11, 12, 13] 4
    (fun _ ι => ([(.int .u8 ((rdV B z 1 : Nat) : Int)), (.int .u64 ((rdV B z 1 : Nat) : Int)), (.int .u64 ((rdV B z 1 : Nat) : Int)), (.int .u64 0)] : List Value).getD ι undef)
    (fun _ ι => ([{}, {}, {}, {}] : List Eff).getD ι {})
    (by as_aux_lemma => kernel_rfl) (by as_aux_lemma => kernel_rfl) (fun _ => by as_aux_lemma => kernel_rfl) (fun _ => by as_aux_lemma => kernel_rfl) ⟨⟨⟨⟨trivial, ?_⟩, ?_⟩, ?_⟩, ?_⟩
  · exact o_run 0 [] [] (fun _ _ => []) (fun _ _ => by as_aux_lemma => kernel_rfl)
  · exact o_as 1 (fun _ => (.int .u64 (IntKind.u64.wrap (((rdV B z 1 : Nat) : Int))))) (fun _ => (.int .u64 ((rdV B z 1 : Nat) : Int))) (fun _ _ => by as_aux_lemma => kernel_rfl) (fun _ => congrArg (Value.int .u64) (u64N (by have := bne0' hb1; have := rdE_in (bne0' hb1); have := hz; have := hBl; have := hq; have := rdV_lt B z 1; omega)))
  · exact o_run 2 [] [] (fun _ _ => []) (fun _ _ => by as_aux_lemma => kernel_rfl)
  · exact o_run 3 [] [] (fun _ _ => []) (fun _ _ => by as_aux_lemma => kernel_rfl)
theorem size_any_r6 (a : Option Addr) (c : Nat) (B : List UInt8) (z : Int) (q : Nat) (w0 : World) (F : World → Prop) : Reg Try.prog 5 (regOps Try.f13 5) false 74 [(0, (.slice a (B).length c)), (2, (.int .u64 ((q : Nat) : Int))), (6, (.int .u64 0)), (7, (.int .i64 0)), (8, (.int .i64 0)), (9, (.int .u8 ((rdV B z 1 : Nat) : Int))), (10, (.int .i64 (rdN B.length z 1))), (11, (.int .i64 (rdE B.length z 1))), (12, (.int .u64 ((rdV B z 1 : Nat) : Int))), (13, (.int .u64 0))] w0 [] F
    (fun _ => [(0, (.slice a (B).length c)), (2, (.int .u64 ((q : Nat) : Int))), (6, (.int .u64 0)), (7, (.int .i64 0)), (8, (.int .i64 0)), (10, (.int .i64 (rdN B.length z 1))), (11, (.int .i64 (rdE B.length z 1))), (12, (.int .u64 ((rdV B z 1 : Nat) : Int))), (13, (.int .u64 0)), (28, (.int .u8 ((rdV B z 1 : Nat) : Int)))])
    (fun _ => []) := by
  refine reg_seq [0] [0, 2, 6, 7, 8, 10, 11, 12, 13, 28] 1
    (fun _ ι => ([(.int .u8 ((rdV B z 1 : Nat) : Int))] : List Value).getD ι undef)
    (fun _ ι => ([{}] : List Eff).getD ι {})
    (by as_aux_lemma => kernel_rfl) (by as_aux_lemma => kernel_rfl) (fun _ => by as_aux_lemma => kernel_rfl) (fun _ => by as_aux_lemma => kernel_rfl) ⟨trivial, ?_⟩
  · exact o_run 0 [] [] (fun _ _ => []) (fun _ _ => by as_aux_lemma => kernel_rfl)
theorem size_any_r7 (a : Option Addr) (c : Nat) (B : List UInt8) (z : Int) (q : Nat) (w0 : World) (F : World → Prop) : Reg Try.prog 6 (regOps Try.f13 6) false 74 [(0, (.slice a (B).length c)), (2, (.int .u64 ((q : Nat) : Int))), (6, (.int .u64 0)), (7, (.int .i64 0)), (8, (.int .i64 0)), (10, (.int .i64 (rdN B.length z 1))), (11, (.int .i64 (rdE B.length z 1))), (12, (.int .u64 ((rdV B z 1 : Nat) : Int))), (13, (.int .u64 0)), (28, (.int .u8 ((rdV B z 1 : Nat) : Int)))] w0 [] F
    (fun _ => [(0, (.slice a (B).length c)), (2, (.int .u64 ((q : Nat) : Int))), (6, (.int .u64 0)), (7, (.int .i64 0)), (8, (.int .i64 0)), (10, (.int .i64 (rdN B.length z 1))), (11, (.int .i64 (rdE B.length z 1))), (12, (.int .u64 ((rdV B z 1 : Nat) : Int))), (13, (.int .u64 0)), (28, (.int .u8 ((rdV B z 1 : Nat) : Int))), (29, (.bool (((rdV B z 1 : Nat) : Int) == 253)))])
    (fun _ => []) := by
  refine reg_seq [0, 1] [0, 2, 6, 7, 8, 10, 11, 12, 13, 28, 29] 2
    (fun _ ι => ([(.bool (((rdV B z 1 : Nat) : Int) == 253)), (.bool (((rdV B z 1 : Nat) : Int) == 253))] : List Value).getD ι undef)
    (fun _ ι => ([{}, {}] : List Eff).getD ι {})
    (by as_aux_lemma => kernel_rfl) (by as_aux_lemma => kernel_rfl) (fun _ => by as_aux_lemma => kernel_rfl) (fun _ => by as_aux_lemma => kernel_rfl) ⟨⟨trivial, ?_⟩, ?_⟩
  · exact o_run 0 [] [] (fun _ _ => []) (fun _ _ => by as_aux_lemma => kernel_rfl)
  · exact o_run 1 [] [] (fun _ _ => []) (fun _ _ => by as_aux_lemma => kernel_rfl)
theorem size_any_r8 (a : Option Addr) (c : Nat) (B : List UInt8) (z : Int) (q : Nat) (w0 : World) (F : World → Prop) : Reg Try.prog 7 (regOps Try.f13 7) false 74 [(0, (.slice a (B).length c)), (2, (.int .u64 ((q : Nat) : Int))), (6, (.int .u64 0)), (7, (.int .i64 0)), (8, (.int .i64 0)), (10, (.int .i64 (rdN B.length z 1))), (11, (.int .i64 (rdE B.length z 1))), (12, (.int .u64 ((rdV B z 1 : Nat) : Int))), (13, (.int .u64 0)), (28, (.int .u8 ((rdV B z 1 : Nat) : Int))), (29, (.bool true))] w0 [] F
    (fun _ => [(0, (.slice a (B).length c)), (2, (.int .u64 ((q : Nat) : Int))), (6, (.int .u64 0)), (7, (.int .i64 0)), (8, (.int .i64 0)), (10, (.int .i64 (rdN B.length z 1))), (11, (.int .i64 (rdE B.length z 1))), (12, (.int .u64 ((rdV B z 1 : Nat) : Int))), (13, (.int .u64 0)), (14, (.int .u16 0))])
    (fun _ => []) := by
  refine reg_seq [0] [0, 2, 6, 7, 8, 10, 11, 12, 13, 14] 1
    (fun _ ι => ([(.int .u16 0)] : List Value).getD ι undef)
    (fun _ ι => ([{}] : List Eff).getD ι {})
    (by as_aux_lemma => kernel_rfl) (by as_aux_lemma => kernel_rfl) (fun _ => by as_aux_lemma => kernel_rfl) (fun _ => by as_aux_lemma => kernel_rfl) ⟨trivial, ?_⟩
  · exact o_run 0 [] [] (fun _ _ => []) (fun _ _ => by as_aux_lemma => kernel_rfl)
theorem size_any_r9 (a : Option Addr) (c : Nat) (B : List UInt8) (z : Int) (q : Nat) (hBl : B.length ≤ 140737488351232) (w0 : World) : RegF Try.prog 8 (regOps Try.f13 8) false 74 [(0, (.slice a (B).length c)), (2, (.int .u64 ((q : Nat) : Int))), (6, (.int .u64 0)), (7, (.int .i64 0)), (8, (.int .i64 0)), (10, (.int .i64 (rdN B.length z 1))), (11, (.int .i64 (rdE B.length z 1))), (12, (.int .u64 ((rdV B z 1 : Nat) : Int))), (13, (.int .u64 0)), (14, (.int .u16 0))] w0 [] (fun w => Bs w a c B ∧ True)
    (fun _ => [(2, (.int .u64 ((q : Nat) : Int))), (6, (.int .u64 0)), (7, (.int .i64 0)), (8, (.int .i64 0)), (10, (.int .i64 (rdN B.length (rdN B.length z 1) 2))), (11, (.int .i64 (rdE B.length (rdN B.length z 1) 2))), (12, (.int .u64 ((rdV B z 1 : Nat) : Int))), (13, (.int .u64 0)), (14, (.int .u16 ((rdV B (rdN B.length z 1) 2 : Nat) : Int)))])
    (fun _ => []) (fun _ => (fun w => Bs w a c B ∧ True)) := by
  refine reg_seq_f [0, 1, 3, 7, 15, 31, 63, 127, 255, 511] [2, 6, 7, 8, 10, 11, 12, 13, 14] 10
    (fun _ ι => ([(.slice a (B).length c), (.int .i64 (rdN B.length z 1)), (.tuple #[(.int .u16 ((rdV B (rdN B.length z 1) 2 : Nat) : Int)), (.int .i64 (rdN B.length (rdN B.length z 1) 2)), (.int .i64 (rdE B.length (rdN B.length z 1) 2))]), (.tuple #[(.int .u16 ((rdV B (rdN B.length z 1) 2 : Nat) : Int)), (.int .i64 (rdN B.length (rdN B.length z 1) 2)), (.int .i64 (rdE B.length (rdN B.length z 1) 2))]), (.int .u16 ((rdV B (rdN B.length z 1) 2 : Nat) : Int)), (.int .i64 (rdN B.length (rdN B.length z 1) 2)), (.int .i64 (rdE B.length (rdN B.length z 1) 2)), (.int .u16 ((rdV B (rdN B.length z 1) 2 : Nat) : Int)), (.int .i64 (rdN B.length (rdN B.length z 1) 2)), (.int .i64 (rdE B.length (rdN B.length z 1) 2))] : List Value).getD ι undef)
    (fun _ ι => ([{}, {}, {}, {}, {}, {}, {}, {}, {}, {}] : List Eff).getD ι {})
    (fun _ ι => ([(fun _ => True), (fun _ => True), (fun _ => True), (fun _ => True), (fun _ => True), (fun _ => True), (fun _ => True), (fun _ => True), (fun _ => True), (fun _ => True)] : List (World → Prop)).getD ι (fun _ => True))
    (by as_aux_lemma => kernel_rfl) (by as_aux_lemma => kernel_rfl) (fun _ => by as_aux_lemma => kernel_rfl) (fun _ => by as_aux_lemma => kernel_rfl) (fun _ _ hF _ => ⟨hF.1, trivial⟩) ⟨⟨⟨⟨⟨⟨⟨⟨⟨⟨trivial, ?_⟩, ?_⟩, ?_⟩, ?_⟩, ?_⟩, ?_⟩, ?_⟩, ?_⟩, ?_⟩, ?_⟩
  · exact Obl.brings (o_run 0 [] [] (fun _ _ => []) (fun _ _ => by as_aux_lemma => kernel_rfl)) (fun _ _ => trivial)
  · exact Obl.brings (o_run 1 [] [] (fun _ _ => []) (fun _ _ => by as_aux_lemma => kernel_rfl)) (fun _ _ => trivial)
  · exact o_callP 2 32 (fun _ => #[(.slice a (B).length c), (.int .i64 (rdN B.length z 1))]) (fun _ => (.tuple #[(.int .u16 ((rdV B (rdN B.length z 1) 2 : Nat) : Int)), (.int .i64 (rdN B.length (rdN B.length z 1) 2)), (.int .i64 (rdE B.length (rdN B.length z 1) 2))])) (fun _ _ => (by as_aux_lemma => kernel_rfl)) (fun _ => (by as_aux_lemma => kernel_rfl)) (fun _ _ => (by as_aux_lemma => kernel_rfl)) (fun _ _ => trivial) (fun _ _ w hG => u16_any a c B (rdN B.length z 1) (by have := rdN_rng hBl z 1; have := hBl; omega) hBl w hG.facts0.now.1)
  · exact Obl.brings (o_run 3 [] [] (fun _ _ => []) (fun _ _ => by as_aux_lemma => kernel_rfl)) (fun _ _ => trivial)
  · exact Obl.brings (o_run 4 [] [] (fun _ _ => []) (fun _ _ => by as_aux_lemma => kernel_rfl)) (fun _ _ => trivial)
  · exact Obl.brings (o_run 5 [] [] (fun _ _ => []) (fun _ _ => by as_aux_lemma => kernel_rfl)) (fun _ _ => trivial)
  · exact Obl.brings (o_run 6 [] [] (fun _ _ => []) (fun _ _ => by as_aux_lemma => kernel_rfl)) (fun _ _ => trivial)
  · exact Obl.brings (o_run 7 [] [] (fun _ _ => []) (fun _ _ => by as_aux_lemma => kernel_rfl)) (fun _ _ => trivial)
  · exact Obl.brings (o_run 8 [] [] (fun _ _ => []) (fun _ _ => by as_aux_lemma => kernel_rfl)) (fun _ _ => trivial)
  · exact Obl.brings (o_run 9 [] [] (fun _ _ => []) (fun _ _ => by as_aux_lemma => kernel_rfl)) (fun _ _ => trivial)
theorem size_any_r10 (B : List UInt8) (z : Int) (q : Nat) (hz : -9223372036854775808 ≤ z ∧ z < 9223372036854775808) (hBl : B.length ≤ 140737488351232) (hq : q < 18446744073709551616) (hb1 : ((rdE B.length z 1) != 0) = false) (w0 : World) (F : World → Prop) : Reg Try.prog 9 (regOps Try.f13 9) false 74 [(2, (.int .u64 ((q : Nat) : Int))), (6, (.int .u64 0)), (7, (.int .i64 0)), (8, (.int .i64 0)), (10, (.int .i64 (rdN B.length (rdN B.length z 1) 2))), (11, (.int .i64 (rdE B.length (rdN B.length z 1) 2))), (12, (.int .u64 ((rdV B z 1 : Nat) : Int))), (13, (.int .u64 0)), (14, (.int .u16 ((rdV B (rdN B.length z 1) 2 : Nat) : Int)))] w0 [] F
    (fun _ => [(2, (.int .u64 ((q : Nat) : Int))), (6, (.int .u64 0)), (7, (.int .i64 0)), (8, (.int .i64 0)), (10, (.int .i64 (rdN B.length (rdN B.length z 1) 2))), (11, (.int .i64 (rdE B.length (rdN B.length z 1) 2))), (12, (.int .u64 ((rdV B (rdN B.length z 1) 2 : Nat) : Int))), (13, (.int .u64 253))])
    (fun _ => []) := by
  refine reg_seq [0, 1, 3, 7] [2, 6, 7, 8, 10, 11, 12, 13] 4
    (fun _ ι => ([(.int .u16 ((rdV B (rdN B.length z 1) 2 : Nat) : Int)), (.int .u64 ((rdV B (rdN B.length z 1) 2 : Nat) : Int)), (.int .u64 ((rdV B (rdN B.length z 1) 2 : Nat) : Int)), (.int .u64 253)] : List Value).getD ι undef)
    (fun _ ι => ([{}, {}, {}, {}] : List Eff).getD ι {})
    (by as_aux_lemma => kernel_rfl) (by as_aux_lemma => kernel_rfl) (fun _ => by as_aux_lemma => kernel_rfl) (fun _ => by as_aux_lemma => kernel_rfl) ⟨⟨⟨⟨trivial, ?_⟩, ?_⟩, ?_⟩, ?_⟩
  · exact o_run 0 [] [] (fun _ _ => []) (fun _ _ => by as_aux_lemma => kernel_rfl)
  · exact o_as 1 (fun _ => (.int .u64 (IntKind.u64.wrap (((rdV B (rdN B.length z 1) 2 : Nat) : Int))))) (fun _ => (.int .u64 ((rdV B (rdN B.length z 1) 2 : Nat) : Int))) (fun _ _ => by as_aux_lemma => kernel_rfl) (fun _ => congrArg (Value.int .u64) (u64N (by have := bne0' hb1; have := rdE_in (bne0' hb1); have := hz; have := hBl; have := hq; have := rdV_lt B (rdN B.length z 1) 2; omega)))
  · exact o_run 2 [] [] (fun _ _ => []) (fun _ _ => by as_aux_lemma => kernel_rfl)
  · exact o_run 3 [] [] (fun _ _ => []) (fun _ _ => by as_aux_lemma => kernel_rfl)
theorem size_any_r11 (B : List UInt8) (z : Int) (q : Nat) (w0 : World) (F : World → Prop) : Reg Try.prog 17 (regOps Try.f13 17) false 74 [(2, (.int .u64 ((q : Nat) : Int))), (6, (.int .u64 0)), (7, (.int .i64 0)), (8, (.int .i64 0)), (10, (.int .i64 (rdN B.length (rdN B.length z 1) 2))), (11, (.int .i64 (rdE B.length (rdN B.length z 1) 2))), (12, (.int .u64 ((rdV B (rdN B.length z 1) 2 : Nat) : Int))), (13, (.int .u64 253))] w0 [] F
    (fun _ => [(2, (.int .u64 ((q : Nat) : Int))), (6, (.int .u64 0)), (7, (.int .i64 0)), (8, (.int .i64 0)), (10, (.int .i64 (rdN B.length (rdN B.length z 1) 2))), (11, (.int .i64 (rdE B.length (rdN B.length z 1) 2))), (12, (.int .u64 ((rdV B (rdN B.length z 1) 2 : Nat) : Int))), (13, (.int .u64 253)), (60, (.bool ((rdE B.length (rdN B.length z 1) 2) != 0)))])
    (fun _ => []) := by
  refine reg_seq [0, 1, 3] [2, 6, 7, 8, 10, 11, 12, 13, 60] 3
    (fun _ ι => ([(.int .i64 (rdE B.length (rdN B.length z 1) 2)), (.bool ((rdE B.length (rdN B.length z 1) 2) != 0)), (.bool ((rdE B.length (rdN B.length z 1) 2) != 0))] : List Value).getD ι undef)
    (fun _ ι => ([{}, {}, {}] : List Eff).getD ι {})
    (by as_aux_lemma => kernel_rfl) (by as_aux_lemma => kernel_rfl) (fun _ => by as_aux_lemma => kernel_rfl) (fun _ => by as_aux_lemma => kernel_rfl) ⟨⟨⟨trivial, ?_⟩, ?_⟩, ?_⟩
  · exact o_run 0 [] [] (fun _ _ => []) (fun _ _ => by as_aux_lemma => kernel_rfl)
  · exact o_run 1 [] [] (fun _ _ => []) (fun _ _ => by as_aux_lemma => kernel_rfl)
  · exact o_run 2 [] [] (fun _ _ => []) (fun _ _ => by as_aux_lemma => kernel_rfl)
theorem size_any_r12 (B : List UInt8) (z : Int) (q : Nat) (w0 : World) (F : World → Prop) : Reg Try.prog 18 (regOps Try.f13 18) false 74 [(2, (.int .u64 ((q : Nat) : Int))), (6, (.int .u64 0)), (7, (.int .i64 0)), (8, (.int .i64 0)), (10, (.int .i64 (rdN B.length (rdN B.length z 1) 2))), (11, (.int .i64 (rdE B.length (rdN B.length z 1) 2))), (12, (.int .u64 ((rdV B (rdN B.length z 1) 2 : Nat) : Int))), (13, (.int .u64 253)), (60, (.bool true))] w0 [] F
    (fun _ => [(6, (.int .u64 0)), (7, (.int .i64 0)), (8, (.int .i64 (rdE B.length (rdN B.length z 1) 2))), (10, (.int .i64 (rdN B.length (rdN B.length z 1) 2))), (12, (.int .u64 ((rdV B (rdN B.length z 1) 2 : Nat) : Int)))])
    (fun _ => []) := by
  refine reg_seq [0, 1, 3, 7] [6, 7, 8, 10, 12] 4
    (fun _ ι => ([(.int .i64 (rdE B.length (rdN B.length z 1) 2)), (.int .u64 0), (.int .i64 0), (.int .i64 (rdE B.length (rdN B.length z 1) 2))] : List Value).getD ι undef)
    (fun _ ι => ([{}, {}, {}, {}] : List Eff).getD ι {})
    (by as_aux_lemma => kernel_rfl) (by as_aux_lemma => kernel_rfl) (fun _ => by as_aux_lemma => kernel_rfl) (fun _ => by as_aux_lemma => kernel_rfl) ⟨⟨⟨⟨trivial, ?_⟩, ?_⟩, ?_⟩, ?_⟩
  · exact o_run 0 [] [] (fun _ _ => []) (fun _ _ => by as_aux_lemma => kernel_rfl)
  · exact o_run 1 [] [] (fun _ _ => []) (fun _ _ => by as_aux_lemma => kernel_rfl)
  · exact o_run 2 [] [] (fun _ _ => []) (fun _ _ => by as_aux_lemma => kernel_rfl)
  · exact o_run 3 [] [] (fun _ _ => []) (fun _ _ => by as_aux_lemma => kernel_rfl)
theorem size_any_r13 (B : List UInt8) (z : Int) (q : Nat) (w0 : World) (F : World → Prop) : Reg Try.prog 19 (regOps Try.f13 19) false 74 [(2, (.int .u64 ((q : Nat) : Int))), (6, (.int .u64 0)), (7, (.int .i64 0)), (8, (.int .i64 0)), (10, (.int .i64 (rdN B.length (rdN B.length z 1) 2))), (11, (.int .i64 (rdE B.length (rdN B.length z 1) 2))), (12, (.int .u64 ((rdV B (rdN B.length z 1) 2 : Nat) : Int))), (13, (.int .u64 253)), (60, (.bool false))] w0 [] F
    (fun _ => [(2, (.int .u64 ((q : Nat) : Int))), (6, (.int .u64 0)), (7, (.int .i64 0)), (8, (.int .i64 0)), (10, (.int .i64 (rdN B.length (rdN B.length z 1) 2))), (12, (.int .u64 ((rdV B (rdN B.length z 1) 2 : Nat) : Int))), (64, (.bool (decide (((rdV B (rdN B.length z 1) 2 : Nat) : Int) < 253))))])
    (fun _ => []) := by
  refine reg_seq [0, 1, 3, 7] [2, 6, 7, 8, 10, 12, 64] 4
    (fun _ ι => ([(.int .u64 ((rdV B (rdN B.length z 1) 2 : Nat) : Int)), (.int .u64 253), (.bool (decide (((rdV B (rdN B.length z 1) 2 : Nat) : Int) < 253))), (.bool (decide (((rdV B (rdN B.length z 1) 2 : Nat) : Int) < 253)))] : List Value).getD ι undef)
    (fun _ ι => ([{}, {}, {}, {}] : List Eff).getD ι {})
    (by as_aux_lemma => kernel_rfl) (by as_aux_lemma => kernel_rfl) (fun _ => by as_aux_lemma => kernel_rfl) (fun _ => by as_aux_lemma => kernel_rfl) ⟨⟨⟨⟨trivial, ?_⟩, ?_⟩, ?_⟩, ?_⟩
  · exact o_run 0 [] [] (fun _ _ => []) (fun _ _ => by as_aux_lemma => kernel_rfl)
  · exact o_run 1 [] [] (fun _ _ => []) (fun _ _ => by as_aux_lemma => kernel_rfl)
  · exact o_run 2 [] [] (fun _ _ => []) (fun _ _ => by as_aux_lemma => kernel_rfl)
  · exact o_run 3 [] [] (fun _ _ => []) (fun _ _ => by as_aux_lemma => kernel_rfl)
theorem size_any_r14 (B : List UInt8) (z : Int) (q : Nat) (w0 : World) (F : World → Prop) : Reg Try.prog 20 (regOps Try.f13 20) false 74 [(2, (.int .u64 ((q : Nat) : Int))), (6, (.int .u64 0)), (7, (.int .i64 0)), (8, (.int .i64 0)), (10, (.int .i64 (rdN B.length (rdN B.length z 1) 2))), (12, (.int .u64 ((rdV B (rdN B.length z 1) 2 : Nat) : Int))), (64, (.bool true))] w0 [] F
    (fun _ => [(6, (.int .u64 0)), (7, (.int .i64 0)), (8, (.int .i64 3)), (10, (.int .i64 (rdN B.length (rdN B.length z 1) 2))), (12, (.int .u64 ((rdV B (rdN B.length z 1) 2 : Nat) : Int)))])
    (fun _ => []) := by
  refine reg_seq [0, 1, 3] [6, 7, 8, 10, 12] 3
    (fun _ ι => ([(.int .u64 0), (.int .i64 0), (.int .i64 3)] : List Value).getD ι undef)
    (fun _ ι => ([{}, {}, {}] : List Eff).getD ι {})
    (by as_aux_lemma => kernel_rfl) (by as_aux_lemma => kernel_rfl) (fun _ => by as_aux_lemma => kernel_rfl) (fun _ => by as_aux_lemma => kernel_rfl) ⟨⟨⟨trivial, ?_⟩, ?_⟩, ?_⟩
  · exact o_run 0 [] [] (fun _ _ => []) (fun _ _ => by as_aux_lemma => kernel_rfl)
  · exact o_run 1 [] [] (fun _ _ => []) (fun _ _ => by as_aux_lemma => kernel_rfl)
  · exact o_run 2 [] [] (fun _ _ => []) (fun _ _ => by as_aux_lemma => kernel_rfl)
theorem size_any_r15 (B : List UInt8) (z : Int) (q : Nat) (w0 : World) (F : World → Prop) : Reg Try.prog 21 (regOps Try.f13 21) false 74 [(2, (.int .u64 ((q : Nat) : Int))), (6, (.int .u64 0)), (7, (.int .i64 0)), (8, (.int .i64 0)), (10, (.int .i64 (rdN B.length (rdN B.length z 1) 2))), (12, (.int .u64 ((rdV B (rdN B.length z 1) 2 : Nat) : Int))), (64, (.bool false))] w0 [] F
    (fun _ => [(6, (.int .u64 0)), (7, (.int .i64 0)), (8, (.int .i64 0)), (10, (.int .i64 (rdN B.length (rdN B.length z 1) 2))), (12, (.int .u64 ((rdV B (rdN B.length z 1) 2 : Nat) : Int))), (68, (.bool (decide (((q : Nat) : Int) < ((rdV B (rdN B.length z 1) 2 : Nat) : Int)))))])
    (fun _ => []) := by
  refine reg_seq [0, 1, 3, 7] [6, 7, 8, 10, 12, 68] 4
    (fun _ ι => ([(.int .u64 ((rdV B (rdN B.length z 1) 2 : Nat) : Int)), (.int .u64 ((q : Nat) : Int)), (.bool (decide (((q : Nat) : Int) < ((rdV B (rdN B.length z 1) 2 : Nat) : Int)))), (.bool (decide (((q : Nat) : Int) < ((rdV B (rdN B.length z 1) 2 : Nat) : Int))))] : List Value).getD ι undef)
    (fun _ ι => ([{}, {}, {}, {}] : List Eff).getD ι {})
    (by as_aux_lemma => kernel_rfl) (by as_aux_lemma => kernel_rfl) (fun _ => by as_aux_lemma => kernel_rfl) (fun _ => by as_aux_lemma => kernel_rfl) ⟨⟨⟨⟨trivial, ?_⟩, ?_⟩, ?_⟩, ?_⟩
  · exact o_run 0 [] [] (fun _ _ => []) (fun _ _ => by as_aux_lemma => kernel_rfl)
  · exact o_run 1 [] [] (fun _ _ => []) (fun _ _ => by as_aux_lemma => kernel_rfl)
  · exact o_run 2 [] [] (fun _ _ => []) (fun _ _ => by as_aux_lemma => kernel_rfl)
  · exact o_run 3 [] [] (fun _ _ => []) (fun _ _ => by as_aux_lemma => kernel_rfl)
theorem size_any_r16 (B : List UInt8) (z : Int) (w0 : World) (F : World → Prop) : Reg Try.prog 22 (regOps Try.f13 22) false 74 [(6, (.int .u64 0)), (7, (.int .i64 0)), (8, (.int .i64 0)), (10, (.int .i64 (rdN B.length (rdN B.length z 1) 2))), (12, (.int .u64 ((rdV B (rdN B.length z 1) 2 : Nat) : Int))), (68, (.bool true))] w0 [] F
    (fun _ => [(6, (.int .u64 0)), (7, (.int .i64 0)), (8, (.int .i64 4)), (10, (.int .i64 (rdN B.length (rdN B.length z 1) 2))), (12, (.int .u64 ((rdV B (rdN B.length z 1) 2 : Nat) : Int)))])
    (fun _ => []) := by
  refine reg_seq [0, 1, 3] [6, 7, 8, 10, 12] 3
    (fun _ ι => ([(.int .u64 0), (.int .i64 0), (.int .i64 4)] : List Value).getD ι undef)
    (fun _ ι => ([{}, {}, {}] : List Eff).getD ι {})
    (by as_aux_lemma => kernel_rfl) (by as_aux_lemma => kernel_rfl) (fun _ => by as_aux_lemma => kernel_rfl) (fun _ => by as_aux_lemma => kernel_rfl) ⟨⟨⟨trivial, ?_⟩, ?_⟩, ?_⟩
  · exact o_run 0 [] [] (fun _ _ => []) (fun _ _ => by as_aux_lemma => kernel_rfl)
  · exact o_run 1 [] [] (fun _ _ => []) (fun _ _ => by as_aux_lemma => kernel_rfl)
  · exact o_run 2 [] [] (fun _ _ => []) (fun _ _ => by as_aux_lemma => kernel_rfl)
theorem size_any_r17 (B : List UInt8) (z : Int) (w0 : World) (F : World → Prop) : Reg Try.prog 23 (regOps Try.f13 23) false 74 [(6, (.int .u64 0)), (7, (.int .i64 0)), (8, (.int .i64 0)), (10, (.int .i64 (rdN B.length (rdN B.length z 1) 2))), (12, (.int .u64 ((rdV B (rdN B.length z 1) 2 : Nat) : Int))), (68, (.bool false))] w0 [] F
    (fun _ => [(6, (.int .u64 ((rdV B (rdN B.length z 1) 2 : Nat) : Int))), (7, (.int .i64 (rdN B.length (rdN B.length z 1) 2))), (8, (.int .i64 0))])
    (fun _ => []) := by
  refine reg_seq [0, 1, 3, 7, 15] [6, 7, 8] 5
    (fun _ ι => ([(.int .u64 ((rdV B (rdN B.length z 1) 2 : Nat) : Int)), (.int .i64 (rdN B.length (rdN B.length z 1) 2)), (.int .u64 ((rdV B (rdN B.length z 1) 2 : Nat) : Int)), (.int .i64 (rdN B.length (rdN B.length z 1) 2)), (.int .i64 0)] : List Value).getD ι undef)
    (fun _ ι => ([{}, {}, {}, {}, {}] : List Eff).getD ι {})
    (by as_aux_lemma => kernel_rfl) (by as_aux_lemma => kernel_rfl) (fun _ => by as_aux_lemma => kernel_rfl) (fun _ => by as_aux_lemma => kernel_rfl) ⟨⟨⟨⟨⟨trivial, ?_⟩, ?_⟩, ?_⟩, ?_⟩, ?_⟩
  · exact o_run 0 [] [] (fun _ _ => []) (fun _ _ => by as_aux_lemma => kernel_rfl)
  · exact o_run 1 [] [] (fun _ _ => []) (fun _ _ => by as_aux_lemma => kernel_rfl)
  · exact o_run 2 [] [] (fun _ _ => []) (fun _ _ => by as_aux_lemma => kernel_rfl)
  · exact o_run 3 [] [] (fun _ _ => []) (fun _ _ => by as_aux_lemma => kernel_rfl)
  · exact o_run 4 [] [] (fun _ _ => []) (fun _ _ => by as_aux_lemma => kernel_rfl)
theorem size_any_r18 (a : Option Addr) (c : Nat) (B : List UInt8) (z : Int) (q : Nat) (w0 : World) (F : World → Prop) : Reg Try.prog 10 (regOps Try.f13 10) false 74 [(0, (.slice a (B).length c)), (2, (.int .u64 ((q : Nat) : Int))), (6, (.int .u64 0)), (7, (.int .i64 0)), (8, (.int .i64 0)), (10, (.int .i64 (rdN B.length z 1))), (11, (.int .i64 (rdE B.length z 1))), (12, (.int .u64 ((rdV B z 1 : Nat) : Int))), (13, (.int .u64 0)), (28, (.int .u8 ((rdV B z 1 : Nat) : Int))), (29, (.bool false))] w0 [] F
    (fun _ => [(0, (.slice a (B).length c)), (2, (.int .u64 ((q : Nat) : Int))), (6, (.int .u64 0)), (7, (.int .i64 0)), (8, (.int .i64 0)), (10, (.int .i64 (rdN B.length z 1))), (11, (.int .i64 (rdE B.length z 1))), (12, (.int .u64 ((rdV B z 1 : Nat) : Int))), (13, (.int .u64 0)), (28, (.int .u8 ((rdV B z 1 : Nat) : Int))), (40, (.bool (((rdV B z 1 : Nat) : Int) == 254)))])
    (fun _ => []) := by
  refine reg_seq [0, 1] [0, 2, 6, 7, 8, 10, 11, 12, 13, 28, 40] 2
    (fun _ ι => ([(.bool (((rdV B z 1 : Nat) : Int) == 254)), (.bool (((rdV B z 1 : Nat) : Int) == 254))] : List Value).getD ι undef)
    (fun _ ι => ([{}, {}] : List Eff).getD ι {})
    (by as_aux_lemma => kernel_rfl) (by as_aux_lemma => kernel_rfl) (fun _ => by as_aux_lemma => kernel_rfl) (fun _ => by as_aux_lemma => kernel_rfl) ⟨⟨trivial, ?_⟩, ?_⟩
  · exact o_run 0 [] [] (fun _ _ => []) (fun _ _ => by as_aux_lemma => kernel_rfl)
  · exact o_run 1 [] [] (fun _ _ => []) (fun _ _ => by as_aux_lemma => kernel_rfl)
theorem size_any_r19 (a : Option Addr) (c : Nat) (B : List UInt8) (z : Int) (q : Nat) (w0 : World) (F : World → Prop) : Reg Try.prog 11 (regOps Try.f13 11) false 74 [(0, (.slice a (B).length c)), (2, (.int .u64 ((q : Nat) : Int))), (6, (.int .u64 0)), (7, (.int .i64 0)), (8, (.int .i64 0)), (10, (.int .i64 (rdN B.length z 1))), (11, (.int .i64 (rdE B.length z 1))), (12, (.int .u64 ((rdV B z 1 : Nat) : Int))), (13, (.int .u64 0)), (28, (.int .u8 ((rdV B z 1 : Nat) : Int))), (40, (.bool true))] w0 [] F
    (fun _ => [(0, (.slice a (B).length c)), (2, (.int .u64 ((q : Nat) : Int))), (6, (.int .u64 0)), (7, (.int .i64 0)), (8, (.int .i64 0)), (10, (.int .i64 (rdN B.length z 1))), (11, (.int .i64 (rdE B.length z 1))), (12, (.int .u64 ((rdV B z 1 : Nat) : Int))), (13, (.int .u64 0)), (15, (.int .u32 0))])
    (fun _ => []) := by
  refine reg_seq [0] [0, 2, 6, 7, 8, 10, 11, 12, 13, 15] 1
    (fun _ ι => ([(.int .u32 0)] : List Value).getD ι undef)
    (fun _ ι => ([{}] : List Eff).getD ι {})
    (by as_aux_lemma => kernel_rfl) (by as_aux_lemma => kernel_rfl) (fun _ => by as_aux_lemma => kernel_rfl) (fun _ => by as_aux_lemma => kernel_rfl) ⟨trivial, ?_⟩
  · exact o_run 0 [] [] (fun _ _ => []) (fun _ _ => by as_aux_lemma => kernel_rfl)
theorem size_any_r20 (a : Option Addr) (c : Nat) (B : List UInt8) (z : Int) (q : Nat) (hBl : B.length ≤ 140737488351232) (w0 : World) : RegF Try.prog 12 (regOps Try.f13 12) false 74 [(0, (.slice a (B).length c)), (2, (.int .u64 ((q : Nat) : Int))), (6, (.int .u64 0)), (7, (.int .i64 0)), (8, (.int .i64 0)), (10, (.int .i64 (rdN B.length z 1))), (11, (.int .i64 (rdE B.length z 1))), (12, (.int .u64 ((rdV B z 1 : Nat) : Int))), (13, (.int .u64 0)), (15, (.int .u32 0))] w0 [] (fun w => Bs w a c B ∧ True)
    (fun _ => [(2, (.int .u64 ((q : Nat) : Int))), (6, (.int .u64 0)), (7, (.int .i64 0)), (8, (.int .i64 0)), (10, (.int .i64 (rdN B.length (rdN B.length z 1) 4))), (11, (.int .i64 (rdE B.length (rdN B.length z 1) 4))), (12, (.int .u64 ((rdV B z 1 : Nat) : Int))), (13, (.int .u64 0)), (15, (.int .u32 ((rdV B (rdN B.length z 1) 4 : Nat) : Int)))])
    (fun _ => []) (fun _ => (fun w => Bs w a c B ∧ True)) := by
  refine reg_seq_f [0, 1, 3, 7, 15, 31, 63, 127, 255, 511] [2, 6, 7, 8, 10, 11, 12, 13, 15] 10
    (fun _ ι => ([(.slice a (B).length c), (.int .i64 (rdN B.length z 1)), (.tuple #[(.int .u32 ((rdV B (rdN B.length z 1) 4 : Nat) : Int)), (.int .i64 (rdN B.length (rdN B.length z 1) 4)), (.int .i64 (rdE B.length (rdN B.length z 1) 4))]), (.tuple #[(.int .u32 ((rdV B (rdN B.length z 1) 4 : Nat) : Int)), (.int .i64 (rdN B.length (rdN B.length z 1) 4)), (.int .i64 (rdE B.length (rdN B.length z 1) 4))]), (.int .u32 ((rdV B (rdN B.length z 1) 4 : Nat) : Int)), (.int .i64 (rdN B.length (rdN B.length z 1) 4)), (.int .i64 (rdE B.length (rdN B.length z 1) 4)), (.int .u32 ((rdV B (rdN B.length z 1) 4 : Nat) : Int)), (.int .i64 (rdN B.length (rdN B.length z 1) 4)), (.int .i64 (rdE B.length (rdN B.length z 1) 4))] : List Value).getD ι undef)
    (fun _ ι => ([{}, {}, {}, {}, {}, {}, {}, {}, {}, {}] : List Eff).getD ι {})
    (fun _ ι => ([(fun _ => True), (fun _ => True), (fun _ => True), (fun _ => True), (fun _ => True), (fun _ => True), (fun _ => True), (fun _ => True), (fun _ => True), (fun _ => True)] : List (World → Prop)).getD ι (fun _ => True))
    (by as_aux_lemma => kernel_rfl) (by as_aux_lemma => kernel_rfl) (fun _ => by as_aux_lemma => kernel_rfl) (fun _ => by as_aux_lemma => kernel_rfl) (fun _ _ hF _ => ⟨hF.1, trivial⟩) ⟨⟨⟨⟨⟨⟨⟨⟨⟨⟨trivial, ?_⟩, ?_⟩, ?_⟩, ?_⟩, ?_⟩, ?_⟩, ?_⟩, ?_⟩, ?_⟩, ?_⟩
  · exact Obl.brings (o_run 0 [] [] (fun _ _ => []) (fun _ _ => by as_aux_lemma => kernel_rfl)) (fun _ _ => trivial)
  · exact Obl.brings (o_run 1 [] [] (fun _ _ => []) (fun _ _ => by as_aux_lemma => kernel_rfl)) (fun _ _ => trivial)
  · exact o_callP 2 34 (fun _ => #[(.slice a (B).length c), (.int .i64 (rdN B.length z 1))]) (fun _ => (.tuple #[(.int .u32 ((rdV B (rdN B.length z 1) 4 : Nat) : Int)), (.int .i64 (rdN B.length (rdN B.length z 1) 4)), (.int .i64 (rdE B.length (rdN B.length z 1) 4))])) (fun _ _ => (by as_aux_lemma => kernel_rfl)) (fun _ => (by as_aux_lemma => kernel_rfl)) (fun _ _ => (by as_aux_lemma => kernel_rfl)) (fun _ _ => trivial) (fun _ _ w hG => u32_any a c B (rdN B.length z 1) (by have := rdN_rng hBl z 1; have := hBl; omega) hBl w hG.facts0.now.1)
  · exact Obl.brings (o_run 3 [] [] (fun _ _ => []) (fun _ _ => by as_aux_lemma => kernel_rfl)) (fun _ _ => trivial)
  · exact Obl.brings (o_run 4 [] [] (fun _ _ => []) (fun _ _ => by as_aux_lemma => kernel_rfl)) (fun _ _ => trivial)
  · exact Obl.brings (o_run 5 [] [] (fun _ _ => []) (fun _ _ => by as_aux_lemma => kernel_rfl)) (fun _ _ => trivial)
  · exact Obl.brings (o_run 6 [] [] (fun _ _ => []) (fun _ _ => by as_aux_lemma => kernel_rfl)) (fun _ _ => trivial)
  · exact Obl.brings (o_run 7 [] [] (fun _ _ => []) (fun _ _ => by as_aux_lemma => kernel_rfl)) (fun _ _ => trivial)
  · exact Obl.brings (o_run 8 [] [] (fun _ _ => []) (fun _ _ => by as_aux_lemma => kernel_rfl)) (fun _ _ => trivial)
  · exact Obl.brings (o_run 9 [] [] (fun _ _ => []) (fun _ _ => by as_aux_lemma => kernel_rfl)) (fun _ _ => trivial)
theorem size_any_r21 (B : List UInt8) (z : Int) (q : Nat) (hz : -9223372036854775808 ≤ z ∧ z < 9223372036854775808) (hBl : B.length ≤ 140737488351232) (hq : q < 18446744073709551616) (hb1 : ((rdE B.length z 1) != 0) = false) (w0 : World) (F : World → Prop) : Reg Try.prog 13 (regOps Try.f13 13) false 74 [(2, (.int .u64 ((q : Nat) : Int))), (6, (.int .u64 0)), (7, (.int .i64 0)), (8, (.int .i64 0)), (10, (.int .i64 (rdN B.length (rdN B.length z 1) 4))), (11, (.int .i64 (rdE B.length (rdN B.length z 1) 4))), (12, (.int .u64 ((rdV B z 1 : Nat) : Int))), (13, (.int .u64 0)), (15, (.int .u32 ((rdV B (rdN B.length z 1) 4 : Nat) : Int)))] w0 [] F
    (fun _ => [(2, (.int .u64 ((q : Nat) : Int))), (6, (.int .u64 0)), (7, (.int .i64 0)), (8, (.int .i64 0)), (10, (.int .i64 (rdN B.length (rdN B.length z 1) 4))), (11, (.int .i64 (rdE B.length (rdN B.length z 1) 4))), (12, (.int .u64 ((rdV B (rdN B.length z 1) 4 : Nat) : Int))), (13, (.int .u64 65536))])
    (fun _ => []) := by
  refine reg_seq [0, 1, 3, 7] [2, 6, 7, 8, 10, 11, 12, 13] 4
    (fun _ ι => ([(.int .u32 ((rdV B (rdN B.length z 1) 4 : Nat) : Int)), (.int .u64 ((rdV B (rdN B.length z 1) 4 : Nat) : Int)), (.int .u64 ((rdV B (rdN B.length z 1) 4 : Nat) : Int)), (.int .u64 65536)] : List Value).getD ι undef)
    (fun _ ι => ([{}, {}, {}, {}] : List Eff).getD ι {})
    (by as_aux_lemma => kernel_rfl) (by as_aux_lemma => kernel_rfl) (fun _ => by as_aux_lemma => kernel_rfl) (fun _ => by as_aux_lemma => kernel_rfl) ⟨⟨⟨⟨trivial, ?_⟩, ?_⟩, ?_⟩, ?_⟩
  · exact o_run 0 [] [] (fun _ _ => []) (fun _ _ => by as_aux_lemma => kernel_rfl)
  · exact o_as 1 (fun _ => (.int .u64 (IntKind.u64.wrap (((rdV B (rdN B.length z 1) 4 : Nat) : Int))))) (fun _ => (.int .u64 ((rdV B (rdN B.length z 1) 4 : Nat) : Int))) (fun _ _ => by as_aux_lemma => kernel_rfl) (fun _ => congrArg (Value.int .u64) (u64N (by have := bne0' hb1; have := rdE_in (bne0' hb1); have := hz; have := hBl; have := hq; have := rdV_lt B (rdN B.length z 1) 4; omega)))
  · exact o_run 2 [] [] (fun _ _ => []) (fun _ _ => by as_aux_lemma => kernel_rfl)
  · exact o_run 3 [] [] (fun _ _ => []) (fun _ _ => by as_aux_lemma => kernel_rfl)
theorem size_any_r22 (B : List UInt8) (z : Int) (q : Nat) (w0 : World) (F : World → Prop) : Reg Try.prog 17 (regOps Try.f13 17) false 74 [(2, (.int .u64 ((q : Nat) : Int))), (6, (.int .u64 0)), (7, (.int .i64 0)), (8, (.int .i64 0)), (10, (.int .i64 (rdN B.length (rdN B.length z 1) 4))), (11, (.int .i64 (rdE B.length (rdN B.length z 1) 4))), (12, (.int .u64 ((rdV B (rdN B.length z 1) 4 : Nat) : Int))), (13, (.int .u64 65536))] w0 [] F
    (fun _ => [(2, (.int .u64 ((q : Nat) : Int))), (6, (.int .u64 0)), (7, (.int .i64 0)), (8, (.int .i64 0)), (10, (.int .i64 (rdN B.length (rdN B.length z 1) 4))), (11, (.int .i64 (rdE B.length (rdN B.length z 1) 4))), (12, (.int .u64 ((rdV B (rdN B.length z 1) 4 : Nat) : Int))), (13, (.int .u64 65536)), (60, (.bool ((rdE B.length (rdN B.length z 1) 4) != 0)))])
    (fun _ => []) := by
  refine reg_seq [0, 1, 3] [2, 6, 7, 8, 10, 11, 12, 13, 60] 3
    (fun _ ι => ([(.int .i64 (rdE B.length (rdN B.length z 1) 4)), (.bool ((rdE B.length (rdN B.length z 1) 4) != 0)), (.bool ((rdE B.length (rdN B.length z 1) 4) != 0))] : List Value).getD ι undef)
    (fun _ ι => ([{}, {}, {}] : List Eff).getD ι {})
    (by as_aux_lemma => kernel_rfl) (by as_aux_lemma => kernel_rfl) (fun _ => by as_aux_lemma => kernel_rfl) (fun _ => by as_aux_lemma => kernel_rfl) ⟨⟨⟨trivial, ?_⟩, ?_⟩, ?_⟩
  · exact o_run 0 [] [] (fun _ _ => []) (fun _ _ => by as_aux_lemma => kernel_rfl)
  · exact o_run 1 [] [] (fun _ _ => []) (fun _ _ => by as_aux_lemma => kernel_rfl)
  · exact o_run 2 [] [] (fun _ _ => []) (fun _ _ => by as_aux_lemma => kernel_rfl)
theorem size_any_r23 (B : List UInt8) (z : Int) (q : Nat) (w0 : World) (F : World → Prop) : Reg Try.prog 18 (regOps Try.f13 18) false 74 [(2, (.int .u64 ((q : Nat) : Int))), (6, (.int .u64 0)), (7, (.int .i64 0)), (8, (.int .i64 0)), (10, (.int .i64 (rdN B.length (rdN B.length z 1) 4))), (11, (.int .i64 (rdE B.length (rdN B.length z 1) 4))), (12, (.int .u64 ((rdV B (rdN B.length z 1) 4 : Nat) : Int))), (13, (.int .u64 65536)), (60, (.bool true))] w0 [] F
    (fun _ => [(6, (.int .u64 0)), (7, (.int .i64 0)), (8, (.int .i64 (rdE B.length (rdN B.length z 1) 4))), (10, (.int .i64 (rdN B.length (rdN B.length z 1) 4))), (12, (.int .u64 ((rdV B (rdN B.length z 1) 4 : Nat) : Int)))])
    (fun _ => []) := by
  refine reg_seq [0, 1, 3, 7] [6, 7, 8, 10, 12] 4
    (fun _ ι => ([(.int .i64 (rdE B.length (rdN B.length z 1) 4)), (.int .u64 0), (.int .i64 0), (.int .i64 (rdE B.length (rdN B.length z 1) 4))] : List Value).getD ι undef)
    (fun _ ι => ([{}, {}, {}, {}] : List Eff).getD ι {})
    (by as_aux_lemma => kernel_rfl) (by as_aux_lemma => kernel_rfl) (fun _ => by as_aux_lemma => kernel_rfl) (fun _ => by as_aux_lemma => kernel_rfl) ⟨⟨⟨⟨trivial, ?_⟩, ?_⟩, ?_⟩, ?_⟩
  · exact o_run 0 [] [] (fun _ _ => []) (fun _ _ => by as_aux_lemma => kernel_rfl)
  · exact o_run 1 [] [] (fun _ _ => []) (fun _ _ => by as_aux_lemma => kernel_rfl)
  · exact o_run 2 [] [] (fun _ _ => []) (fun _ _ => by as_aux_lemma => kernel_rfl)
  · exact o_run 3 [] [] (fun _ _ => []) (fun _ _ => by as_aux_lemma => kernel_rfl)
theorem size_any_r24 (B : List UInt8) (z : Int) (q : Nat) (w0 : World) (F : World → Prop) : Reg Try.prog 19 (regOps Try.f13 19) false 74 [(2, (.int .u64 ((q : Nat) : Int))), (6, (.int .u64 0)), (7, (.int .i64 0)), (8, (.int .i64 0)), (10, (.int .i64 (rdN B.length (rdN B.length z 1) 4))), (11, (.int .i64 (rdE B.length (rdN B.length z 1) 4))), (12, (.int .u64 ((rdV B (rdN B.length z 1) 4 : Nat) : Int))), (13, (.int .u64 65536)), (60, (.bool false))] w0 [] F
    (fun _ => [(2, (.int .u64 ((q : Nat) : Int))), (6, (.int .u64 0)), (7, (.int .i64 0)), (8, (.int .i64 0)), (10, (.int .i64 (rdN B.length (rdN B.length z 1) 4))), (12, (.int .u64 ((rdV B (rdN B.length z 1) 4 : Nat) : Int))), (64, (.bool (decide (((rdV B (rdN B.length z 1) 4 : Nat) : Int) < 65536))))])
    (fun _ => []) := by
  refine reg_seq [0, 1, 3, 7] [2, 6, 7, 8, 10, 12, 64] 4
    (fun _ ι => ([(.int .u64 ((rdV B (rdN B.length z 1) 4 : Nat) : Int)), (.int .u64 65536), (.bool (decide (((rdV B (rdN B.length z 1) 4 : Nat) : Int) < 65536))), (.bool (decide (((rdV B (rdN B.length z 1) 4 : Nat) : Int) < 65536)))] : List Value).getD ι undef)
    (fun _ ι => ([{}, {}, {}, {}] : List Eff).getD ι {})
    (by as_aux_lemma => kernel_rfl) (by as_aux_lemma => kernel_rfl) (fun _ => by as_aux_lemma => kernel_rfl) (fun _ => by as_aux_lemma => kernel_rfl) ⟨⟨⟨⟨trivial, ?_⟩, ?_⟩, ?_⟩, ?_⟩
  · exact o_run 0 [] [] (fun _ _ => []) (fun _ _ => by as_aux_lemma => kernel_rfl)
  · exact o_run 1 [] [] (fun _ _ => []) (fun _ _ => by as_aux_lemma => kernel_rfl)
  · exact o_run 2 [] [] (fun _ _ => []) (fun _ _ => by as_aux_lemma => kernel_rfl)
  · exact o_run 3 [] [] (fun _ _ => []) (fun _ _ => by as_aux_lemma => kernel_rfl)
theorem size_any_r25 (B : List UInt8) (z : Int) (q : Nat) (w0 : World) (F : World → Prop) : Reg Try.prog 20 (regOps Try.f13 20) false 74 [(2, (.int .u64 ((q : Nat) : Int))), (6, (.int .u64 0)), (7, (.int .i64 0)), (8, (.int .i64 0)), (10, (.int .i64 (rdN B.length (rdN B.length z 1) 4))), (12, (.int .u64 ((rdV B (rdN B.length z 1) 4 : Nat) : Int))), (64, (.bool true))] w0 [] F
    (fun _ => [(6, (.int .u64 0)), (7, (.int .i64 0)), (8, (.int .i64 3)), (10, (.int .i64 (rdN B.length (rdN B.length z 1) 4))), (12, (.int .u64 ((rdV B (rdN B.length z 1) 4 : Nat) : Int)))])
    (fun _ => []) := by
  refine reg_seq [0, 1, 3] [6, 7, 8, 10, 12] 3
    (fun _ ι => ([(.int .u64 0), (.int .i64 0), (.int .i64 3)] : List Value).getD ι undef)
    (fun _ ι => ([{}, {}, {}] : List Eff).getD ι {})
    (by as_aux_lemma => kernel_rfl) (by as_aux_lemma => kernel_rfl) (fun _ => by as_aux_lemma => kernel_rfl) (fun _ => by as_aux_lemma => kernel_rfl) ⟨⟨⟨trivial, ?_⟩, ?_⟩, ?_⟩
  · exact o_run 0 [] [] (fun _ _ => []) (fun _ _ => by as_aux_lemma => kernel_rfl)
  · exact o_run 1 [] [] (fun _ _ => []) (fun _ _ => by as_aux_lemma => kernel_rfl)
  · exact o_run 2 [] [] (fun _ _ => []) (fun _ _ => by as_aux_lemma => kernel_rfl)
theorem size_any_r26 (B : List UInt8) (z : Int) (q : Nat) (w0 : World) (F : World → Prop) : Reg Try.prog 21 (regOps Try.f13 21) false 74 [(2, (.int .u64 ((q : Nat) : Int))), (6, (.int .u64 0)), (7, (.int .i64 0)), (8, (.int .i64 0)), (10, (.int .i64 (rdN B.length (rdN B.length z 1) 4))), (12, (.int .u64 ((rdV B (rdN B.length z 1) 4 : Nat) : Int))), (64, (.bool false))] w0 [] F
    (fun _ => [(6, (.int .u64 0)), (7, (.int .i64 0)), (8, (.int .i64 0)), (10, (.int .i64 (rdN B.length (rdN B.length z 1) 4))), (12, (.int .u64 ((rdV B (rdN B.length z 1) 4 : Nat) : Int))), (68, (.bool (decide (((q : Nat) : Int) < ((rdV B (rdN B.length z 1) 4 : Nat) : Int)))))])
    (fun _ => []) := by
  refine reg_seq [0, 1, 3, 7] [6, 7, 8, 10, 12, 68] 4
    (fun _ ι => ([(.int .u64 ((rdV B (rdN B.length z 1) 4 : Nat) : Int)), (.int .u64 ((q : Nat) : Int)), (.bool (decide (((q : Nat) : Int) < ((rdV B (rdN B.length z 1) 4 : Nat) : Int)))), (.bool (decide (((q : Nat) : Int) < ((rdV B (rdN B.length z 1) 4 : Nat) : Int))))] : List Value).getD ι undef)
    (fun _ ι => ([{}, {}, {}, {}] : List Eff).getD ι {})
    (by as_aux_lemma => kernel_rfl) (by as_aux_lemma => kernel_rfl) (fun _ => by as_aux_lemma => kernel_rfl) (fun _ => by as_aux_lemma => kernel_rfl) ⟨⟨⟨⟨trivial, ?_⟩, ?_⟩, ?_⟩, ?_⟩
  · exact o_run 0 [] [] (fun _ _ => []) (fun _ _ => by as_aux_lemma => kernel_rfl)
  · exact o_run 1 [] [] (fun _ _ => []) (fun _ _ => by as_aux_lemma => kernel_rfl)
  · exact o_run 2 [] [] (fun _ _ => []) (fun _ _ => by as_aux_lemma => kernel_rfl)
  · exact o_run 3 [] [] (fun _ _ => []) (fun _ _ => by as_aux_lemma => kernel_rfl)
theorem size_any_r27 (B : List UInt8) (z : Int) (w0 : World) (F : World → Prop) : Reg Try.prog 22 (regOps Try.f13 22) false 74 [(6, (.int .u64 0)), (7, (.int .i64 0)), (8, (.int .i64 0)), (10, (.int .i64 (rdN B.length (rdN B.length z 1) 4))), (12, (.int .u64 ((rdV B (rdN B.length z 1) 4 : Nat) : Int))), (68, (.bool true))] w0 [] F
    (fun _ => [(6, (.int .u64 0)), (7, (.int .i64 0)), (8, (.int .i64 4)), (10, (.int .i64 (rdN B.length (rdN B.length z 1) 4))), (12, (.int .u64 ((rdV B (rdN B.length z 1) 4 : Nat) : Int)))])
    (fun _ => []) := by
  refine reg_seq [0, 1, 3] [6, 7, 8, 10, 12] 3
    (fun _ ι => ([(.int .u64 0), (.int .i64 0), (.int .i64 4)] : List Value).getD ι undef)
    (fun _ ι => ([{}, {}, {}] : List Eff).getD ι {})
    (by as_aux_lemma => kernel_rfl) (by as_aux_lemma => kernel_rfl) (fun _ => by as_aux_lemma => kernel_rfl) (fun _ => by as_aux_lemma => kernel_rfl) ⟨⟨⟨trivial, ?_⟩, ?_⟩, ?_⟩
  · exact o_run 0 [] [] (fun _ _ => []) (fun _ _ => by as_aux_lemma => kernel_rfl)
  · exact o_run 1 [] [] (fun _ _ => []) (fun _ _ => by as_aux_lemma => kernel_rfl)
  · exact o_run 2 [] [] (fun _ _ => []) (fun _ _ => by as_aux_lemma => kernel_rfl)
theorem size_any_r28 (B : List UInt8) (z : Int) (w0 : World) (F : World → Prop) : Reg Try.prog 23 (regOps Try.f13 23) false 74 [(6, (.int .u64 0)), (7, (.int .i64 0)), (8, (.int .i64 0)), (10, (.int .i64 (rdN B.length (rdN B.length z 1) 4))), (12, (.int .u64 ((rdV B (rdN B.length z 1) 4 : Nat) : Int))), (68, (.bool false))] w0 [] F
    (fun _ => [(6, (.int .u64 ((rdV B (rdN B.length z 1) 4 : Nat) : Int))), (7, (.int .i64 (rdN B.length (rdN B.length z 1) 4))), (8, (.int .i64 0))])
    (fun _ => []) := by
  refine reg_seq [0, 1, 3, 7, 15] [6, 7, 8] 5
    (fun _ ι => ([(.int .u64 ((rdV B (rdN B.length z 1) 4 : Nat) : Int)), (.int .i64 (rdN B.length (rdN B.length z 1) 4)), (.int .u64 ((rdV B (rdN B.length z 1) 4 : Nat) : Int)), (.int .i64 (rdN B.length (rdN B.length z 1) 4)), (.int .i64 0)] : List Value).getD ι undef)
    (fun _ ι => ([{}, {}, {}, {}, {}] : List Eff).getD ι {})
    (by as_aux_lemma => kernel_rfl) (by as_aux_lemma => kernel_rfl) (fun _ => by as_aux_lemma => kernel_rfl) (fun _ => by as_aux_lemma => kernel_rfl) ⟨⟨⟨⟨⟨trivial, ?_⟩, ?_⟩, ?_⟩, ?_⟩, ?_⟩
  · exact o_run 0 [] [] (fun _ _ => []) (fun _ _ => by as_aux_lemma => kernel_rfl)
  · exact o_run 1 [] [] (fun _ _ => []) (fun _ _ => by as_aux_lemma => kernel_rfl)
  · exact o_run 2 [] [] (fun _ _ => []) (fun _ _ => by as_aux_lemma => kernel_rfl)
  · exact o_run 3 [] [] (fun _ _ => []) (fun _ _ => by as_aux_lemma => kernel_rfl)
  · exact o_run 4 [] [] (fun _ _ => []) (fun _ _ => by as_aux_lemma => kernel_rfl)
theorem size_any_r29 (a : Option Addr) (c : Nat) (B : List UInt8) (z : Int) (q : Nat) (w0 : World) (F : World → Prop) : Reg Try.prog 14 (regOps Try.f13 14) false 74 [(0, (.slice a (B).length c)), (2, (.int .u64 ((q : Nat) : Int))), (6, (.int .u64 0)), (7, (.int .i64 0)), (8, (.int .i64 0)), (10, (.int .i64 (rdN B.length z 1))), (11, (.int .i64 (rdE B.length z 1))), (12, (.int .u64 ((rdV B z 1 : Nat) : Int))), (13, (.int .u64 0)), (28, (.int .u8 ((rdV B z 1 : Nat) : Int))), (40, (.bool false))] w0 [] F
    (fun _ => [(0, (.slice a (B).length c)), (2, (.int .u64 ((q : Nat) : Int))), (6, (.int .u64 0)), (7, (.int .i64 0)), (8, (.int .i64 0)), (10, (.int .i64 (rdN B.length z 1))), (11, (.int .i64 (rdE B.length z 1))), (12, (.int .u64 ((rdV B z 1 : Nat) : Int))), (13, (.int .u64 0)), (51, (.bool (((rdV B z 1 : Nat) : Int) == 255)))])
    (fun _ => []) := by
  refine reg_seq [0, 1] [0, 2, 6, 7, 8, 10, 11, 12, 13, 51] 2
    (fun _ ι => ([(.bool (((rdV B z 1 : Nat) : Int) == 255)), (.bool (((rdV B z 1 : Nat) : Int) == 255))] : List Value).getD ι undef)
    (fun _ ι => ([{}, {}] : List Eff).getD ι {})
    (by as_aux_lemma => kernel_rfl) (by as_aux_lemma => kernel_rfl) (fun _ => by as_aux_lemma => kernel_rfl) (fun _ => by as_aux_lemma => kernel_rfl) ⟨⟨trivial, ?_⟩, ?_⟩
  · exact o_run 0 [] [] (fun _ _ => []) (fun _ _ => by as_aux_lemma => kernel_rfl)
  · exact o_run 1 [] [] (fun _ _ => []) (fun _ _ => by as_aux_lemma => kernel_rfl)
theorem size_any_r30 (a : Option Addr) (c : Nat) (B : List UInt8) (z : Int) (q : Nat) (hBl : B.length ≤ 140737488351232) (w0 : World) : RegF Try.prog 15 (regOps Try.f13 15) false 74 [(0, (.slice a (B).length c)), (2, (.int .u64 ((q : Nat) : Int))), (6, (.int .u64 0)), (7, (.int .i64 0)), (8, (.int .i64 0)), (10, (.int .i64 (rdN B.length z 1))), (11, (.int .i64 (rdE B.length z 1))), (12, (.int .u64 ((rdV B z 1 : Nat) : Int))), (13, (.int .u64 0)), (51, (.bool true))] w0 [] (fun w => Bs w a c B ∧ True)
    (fun _ => [(2, (.int .u64 ((q : Nat) : Int))), (6, (.int .u64 0)), (7, (.int .i64 0)), (8, (.int .i64 0)), (10, (.int .i64 (rdN B.length (rdN B.length z 1) 8))), (11, (.int .i64 (rdE B.length (rdN B.length z 1) 8))), (12, (.int .u64 ((rdV B (rdN B.length z 1) 8 : Nat) : Int))), (13, (.int .u64 0))])
    (fun _ => []) (fun _ => (fun w => Bs w a c B ∧ True)) := by
  refine reg_seq_f [0, 1, 3, 7, 15, 31, 63, 127, 255, 511] [2, 6, 7, 8, 10, 11, 12, 13] 10
    (fun _ ι => ([(.slice a (B).length c), (.int .i64 (rdN B.length z 1)), (.tuple #[(.int .u64 ((rdV B (rdN B.length z 1) 8 : Nat) : Int)), (.int .i64 (rdN B.length (rdN B.length z 1) 8)), (.int .i64 (rdE B.length (rdN B.length z 1) 8))]), (.tuple #[(.int .u64 ((rdV B (rdN B.length z 1) 8 : Nat) : Int)), (.int .i64 (rdN B.length (rdN B.length z 1) 8)), (.int .i64 (rdE B.length (rdN B.length z 1) 8))]), (.int .u64 ((rdV B (rdN B.length z 1) 8 : Nat) : Int)), (.int .i64 (rdN B.length (rdN B.length z 1) 8)), (.int .i64 (rdE B.length (rdN B.length z 1) 8)), (.int .u64 ((rdV B (rdN B.length z 1) 8 : Nat) : Int)), (.int .i64 (rdN B.length (rdN B.length z 1) 8)), (.int .i64 (rdE B.length (rdN B.length z 1) 8))] : List Value).getD ι undef)
    (fun _ ι => ([{}, {}, {}, {}, {}, {}, {}, {}, {}, {}] : List Eff).getD ι {})
    (fun _ ι => ([(fun _ => True), (fun _ => True), (fun _ => True), (fun _ => True), (fun _ => True), (fun _ => True), (fun _ => True), (fun _ => True), (fun _ => True), (fun _ => True)] : List (World → Prop)).getD ι (fun _ => True))
    (by as_aux_lemma => kernel_rfl) (by as_aux_lemma => kernel_rfl) (fun _ => by as_aux_lemma => kernel_rfl) (fun _ => by as_aux_lemma => kernel_rfl) (fun _ _ hF _ => ⟨hF.1, trivial⟩) ⟨⟨⟨⟨⟨⟨⟨⟨⟨⟨trivial, ?_⟩, ?_⟩, ?_⟩, ?_⟩, ?_⟩, ?_⟩, ?_⟩, ?_⟩, ?_⟩, ?_⟩
  · exact Obl.brings (o_run 0 [] [] (fun _ _ => []) (fun _ _ => by as_aux_lemma => kernel_rfl)) (fun _ _ => trivial)
  · exact Obl.brings (o_run 1 [] [] (fun _ _ => []) (fun _ _ => by as_aux_lemma => kernel_rfl)) (fun _ _ => trivial)
  · exact o_callP 2 36 (fun _ => #[(.slice a (B).length c), (.int .i64 (rdN B.length z 1))]) (fun _ => (.tuple #[(.int .u64 ((rdV B (rdN B.length z 1) 8 : Nat) : Int)), (.int .i64 (rdN B.length (rdN B.length z 1) 8)), (.int .i64 (rdE B.length (rdN B.length z 1) 8))])) (fun _ _ => (by as_aux_lemma => kernel_rfl)) (fun _ => (by as_aux_lemma => kernel_rfl)) (fun _ _ => (by as_aux_lemma => kernel_rfl)) (fun _ _ => trivial) (fun _ _ w hG => u64_any a c B (rdN B.length z 1) (by have := rdN_rng hBl z 1; have := hBl; omega) hBl w hG.facts0.now.1)
  · exact Obl.brings (o_run 3 [] [] (fun _ _ => []) (fun _ _ => by as_aux_lemma => kernel_rfl)) (fun _ _ => trivial)
  · exact Obl.brings (o_run 4 [] [] (fun _ _ => []) (fun _ _ => by as_aux_lemma => kernel_rfl)) (fun _ _ => trivial)
  · exact Obl.brings (o_run 5 [] [] (fun _ _ => []) (fun _ _ => by as_aux_lemma => kernel_rfl)) (fun _ _ => trivial)
  · exact Obl.brings (o_run 6 [] [] (fun _ _ => []) (fun _ _ => by as_aux_lemma => kernel_rfl)) (fun _ _ => trivial)
  · exact Obl.brings (o_run 7 [] [] (fun _ _ => []) (fun _ _ => by as_aux_lemma => kernel_rfl)) (fun _ _ => trivial)
  · exact Obl.brings (o_run 8 [] [] (fun _ _ => []) (fun _ _ => by as_aux_lemma => kernel_rfl)) (fun _ _ => trivial)
  · exact Obl.brings (o_run 9 [] [] (fun _ _ => []) (fun _ _ => by as_aux_lemma => kernel_rfl)) (fun _ _ => trivial)
theorem size_any_r31 (B : List UInt8) (z : Int) (q : Nat) (w0 : World) (F : World → Prop) : Reg Try.prog 16 (regOps Try.f13 16) false 74 [(2, (.int .u64 ((q : Nat) : Int))), (6, (.int .u64 0)), (7, (.int .i64 0)), (8, (.int .i64 0)), (10, (.int .i64 (rdN B.length (rdN B.length z 1) 8))), (11, (.int .i64 (rdE B.length (rdN B.length z 1) 8))), (12, (.int .u64 ((rdV B (rdN B.length z 1) 8 : Nat) : Int))), (13, (.int .u64 0))] w0 [] F
    (fun _ => [(2, (.int .u64 ((q : Nat) : Int))), (6, (.int .u64 0)), (7, (.int .i64 0)), (8, (.int .i64 0)), (10, (.int .i64 (rdN B.length (rdN B.length z 1) 8))), (11, (.int .i64 (rdE B.length (rdN B.length z 1) 8))), (12, (.int .u64 ((rdV B (rdN B.length z 1) 8 : Nat) : Int))), (13, (.int .u64 4294967296))])
    (fun _ => []) := by
  refine reg_seq [0] [2, 6, 7, 8, 10, 11, 12, 13] 1
    (fun _ ι => ([(.int .u64 4294967296)] : List Value).getD ι undef)
    (fun _ ι => ([{}] : List Eff).getD ι {})
    (by as_aux_lemma => kernel_rfl) (by as_aux_lemma => kernel_rfl) (fun _ => by as_aux_lemma => kernel_rfl) (fun _ => by as_aux_lemma => kernel_rfl) ⟨trivial, ?_⟩
  · exact o_run 0 [] [] (fun _ _ => []) (fun _ _ => by as_aux_lemma => kernel_rfl)
theorem size_any_r32 (B : List UInt8) (z : Int) (q : Nat) (w0 : World) (F : World → Prop) : Reg Try.prog 17 (regOps Try.f13 17) false 74 [(2, (.int .u64 ((q : Nat) : Int))), (6, (.int .u64 0)), (7, (.int .i64 0)), (8, (.int .i64 0)), (10, (.int .i64 (rdN B.length (rdN B.length z 1) 8))), (11, (.int .i64 (rdE B.length (rdN B.length z 1) 8))), (12, (.int .u64 ((rdV B (rdN B.length z 1) 8 : Nat) : Int))), (13, (.int .u64 4294967296))] w0 [] F
    (fun _ => [(2, (.int .u64 ((q : Nat) : Int))), (6, (.int .u64 0)), (7, (.int .i64 0)), (8, (.int .i64 0)), (10, (.int .i64 (rdN B.length (rdN B.length z 1) 8))), (11, (.int .i64 (rdE B.length (rdN B.length z 1) 8))), (12, (.int .u64 ((rdV B (rdN B.length z 1) 8 : Nat) : Int))), (13, (.int .u64 4294967296)), (60, (.bool ((rdE B.length (rdN B.length z 1) 8) != 0)))])
    (fun _ => []) := by
  refine reg_seq [0, 1, 3] [2, 6, 7, 8, 10, 11, 12, 13, 60] 3
    (fun _ ι => ([(.int .i64 (rdE B.length (rdN B.length z 1) 8)), (.bool ((rdE B.length (rdN B.length z 1) 8) != 0)), (.bool ((rdE B.length (rdN B.length z 1) 8) != 0))] : List Value).getD ι undef)
    (fun _ ι => ([{}, {}, {}] : List Eff).getD ι {})
    (by as_aux_lemma => kernel_rfl) (by as_aux_lemma => kernel_rfl) (fun _ => by as_aux_lemma => kernel_rfl) (fun _ => by as_aux_lemma => kernel_rfl) ⟨⟨⟨trivial, ?_⟩, ?_⟩, ?_⟩
  · exact o_run 0 [] [] (fun _ _ => []) (fun _ _ => by as_aux_lemma => kernel_rfl)
  · exact o_run 1 [] [] (fun _ _ => []) (fun _ _ => by as_aux_lemma => kernel_rfl)
  · exact o_run 2 [] [] (fun _ _ => []) (fun _ _ => by as_aux_lemma => kernel_rfl)
theorem size_any_r33 (B : List UInt8) (z : Int) (q : Nat) (w0 : World) (F : World → Prop) : Reg Try.prog 18 (regOps Try.f13 18) false 74 [(2, (.int .u64 ((q : Nat) : Int))), (6, (.int .u64 0)), (7, (.int .i64 0)), (8, (.int .i64 0)), (10, (.int .i64 (rdN B.length (rdN B.length z 1) 8))), (11, (.int .i64 (rdE B.length (rdN B.length z 1) 8))), (12, (.int .u64 ((rdV B (rdN B.length z 1) 8 : Nat) : Int))), (13, (.int .u64 4294967296)), (60, (.bool true))] w0 [] F
    (fun _ => [(6, (.int .u64 0)), (7, (.int .i64 0)), (8, (.int .i64 (rdE B.length (rdN B.length z 1) 8))), (10, (.int .i64 (rdN B.length (rdN B.length z 1) 8))), (12, (.int .u64 ((rdV B (rdN B.length z 1) 8 : Nat) : Int)))])
    (fun _ => []) := by
  refine reg_seq [0, 1, 3, 7] [6, 7, 8, 10, 12] 4
    (fun _ ι => ([(.int .i64 (rdE B.length (rdN B.length z 1) 8)), (.int .u64 0), (.int .i64 0), (.int .i64 (rdE B.length (rdN B.length z 1) 8))] : List Value).getD ι undef)
    (fun _ ι => ([{}, {}, {}, {}] : List Eff).getD ι {})
    (by as_aux_lemma => kernel_rfl) (by as_aux_lemma => kernel_rfl) (fun _ => by as_aux_lemma => kernel_rfl) (fun _ => by as_aux_lemma => kernel_rfl) ⟨⟨⟨⟨trivial, ?_⟩, ?_⟩, ?_⟩, ?_⟩
  · exact o_run 0 [] [] (fun _ _ => []) (fun _ _ => by as_aux_lemma => kernel_rfl)
  · exact o_run 1 [] [] (fun _ _ => []) (fun _ _ => by as_aux_lemma => kernel_rfl)
  · exact o_run 2 [] [] (fun _ _ => []) (fun _ _ => by as_aux_lemma => kernel_rfl)
  · exact o_run 3 [] [] (fun _ _ => []) (fun _ _ => by as_aux_lemma => kernel_rfl)
theorem size_any_r34 (B : List UInt8) (z : Int) (q : Nat) (w0 : World) (F : World → Prop) : Reg Try.prog 19 (regOps Try.f13 19) false 74 [(2, (.int .u64 ((q : Nat) : Int))), (6, (.int .u64 0)), (7, (.int .i64 0)), (8, (.int .i64 0)), (10, (.int .i64 (rdN B.length (rdN B.length z 1) 8))), (11, (.int .i64 (rdE B.length (rdN B.length z 1) 8))), (12, (.int .u64 ((rdV B (rdN B.length z 1) 8 : Nat) : Int))), (13, (.int .u64 4294967296)), (60, (.bool false))] w0 [] F
    (fun _ => [(2, (.int .u64 ((q : Nat) : Int))), (6, (.int .u64 0)), (7, (.int .i64 0)), (8, (.int .i64 0)), (10, (.int .i64 (rdN B.length (rdN B.length z 1) 8))), (12, (.int .u64 ((rdV B (rdN B.length z 1) 8 : Nat) : Int))), (64, (.bool (decide (((rdV B (rdN B.length z 1) 8 : Nat) : Int) < 4294967296))))])
    (fun _ => []) := by
  refine reg_seq [0, 1, 3, 7] [2, 6, 7, 8, 10, 12, 64] 4
    (fun _ ι => ([(.int .u64 ((rdV B (rdN B.length z 1) 8 : Nat) : Int)), (.int .u64 4294967296), (.bool (decide (((rdV B (rdN B.length z 1) 8 : Nat) : Int) < 4294967296))), (.bool (decide (((rdV B (rdN B.length z 1) 8 : Nat) : Int) < 4294967296)))] : List Value).getD ι undef)
    (fun _ ι => ([{}, {}, {}, {}] : List Eff).getD ι {})
    (by as_aux_lemma => kernel_rfl) (by as_aux_lemma => kernel_rfl) (fun _ => by as_aux_lemma => kernel_rfl) (fun _ => by as_aux_lemma => kernel_rfl) ⟨⟨⟨⟨trivial, ?_⟩, ?_⟩, ?_⟩, ?_⟩
  · exact o_run 0 [] [] (fun _ _ => []) (fun _ _ => by as_aux_lemma => kernel_rfl)
  · exact o_run 1 [] [] (fun _ _ => []) (fun _ _ => by as_aux_lemma => kernel_rfl)
  · exact o_run 2 [] [] (fun _ _ => []) (fun _ _ => by as_aux_lemma => kernel_rfl)
  · exact o_run 3 [] [] (fun _ _ => []) (fun _ _ => by as_aux_lemma => kernel_rfl)
theorem size_any_r35 (B : List UInt8) (z : Int) (q : Nat) (w0 : World) (F : World → Prop) : Reg Try.prog 20 (regOps Try.f13 20) false 74 [(2, (.int .u64 ((q : Nat) : Int))), (6, (.int .u64 0)), (7, (.int .i64 0)), (8, (.int .i64 0)), (10, (.int .i64 (rdN B.length (rdN B.length z 1) 8))), (12, (.int .u64 ((rdV B (rdN B.length z 1) 8 : Nat) : Int))), (64, (.bool true))] w0 [] F
    (fun _ => [(6, (.int .u64 0)), (7, (.int .i64 0)), (8, (.int .i64 3)), (10, (.int .i64 (rdN B.length (rdN B.length z 1) 8))), (12, (.int .u64 ((rdV B (rdN B.length z 1) 8 : Nat) : Int)))])
    (fun _ => []) := by
  refine reg_seq [0, 1, 3] [6, 7, 8, 10, 12] 3
    (fun _ ι => ([(.int .u64 0), (.int .i64 0), (.int .i64 3)] : List Value).getD ι undef)
    (fun _ ι => ([{}, {}, {}] : List Eff).getD ι {})
    (by as_aux_lemma => kernel_rfl) (by as_aux_lemma => kernel_rfl) (fun _ => by as_aux_lemma => kernel_rfl) (fun _ => by as_aux_lemma => kernel_rfl) ⟨⟨⟨trivial, ?_⟩, ?_⟩, ?_⟩
  · exact o_run 0 [] [] (fun _ _ => []) (fun _ _ => by as_aux_lemma => kernel_rfl)
  · exact o_run 1 [] [] (fun _ _ => []) (fun _ _ => by as_aux_lemma => kernel_rfl)
  · exact o_run 2 [] [] (fun _ _ => []) (fun _ _ => by as_aux_lemma => kernel_rfl)
theorem size_any_r36 (B : List UInt8) (z : Int) (q : Nat) (w0 : World) (F : World → Prop) : Reg Try.prog 21 (regOps Try.f13 21) false 74 [(2, (.int .u64 ((q : Nat) : Int))), (6, (.int .u64 0)), (7, (.int .i64 0)), (8, (.int .i64 0)), (10, (.int .i64 (rdN B.length (rdN B.length z 1) 8))), (12, (.int .u64 ((rdV B (rdN B.length z 1) 8 : Nat) : Int))), (64, (.bool false))] w0 [] F
    (fun _ => [(6, (.int .u64 0)), (7, (.int .i64 0)), (8, (.int .i64 0)), (10, (.int .i64 (rdN B.length (rdN B.length z 1) 8))), (12, (.int .u64 ((rdV B (rdN B.length z 1) 8 : Nat) : Int))), (68, (.bool (decide (((q : Nat) : Int) < ((rdV B (rdN B.length z 1) 8 : Nat) : Int)))))])
    (fun _ => []) := by
  refine reg_seq [0, 1, 3, 7] [6, 7, 8, 10, 12, 68] 4
    (fun _ ι => ([(.int .u64 ((rdV B (rdN B.length z 1) 8 : Nat) : Int)), (.int .u64 ((q : Nat) : Int)), (.bool (decide (((q : Nat) : Int) < ((rdV B (rdN B.length z 1) 8 : Nat) : Int)))), (.bool (decide (((q : Nat) : Int) < ((rdV B (rdN B.length z 1) 8 : Nat) : Int))))] : List Value).getD ι undef)
    (fun _ ι => ([{}, {}, {}, {}] : List Eff).getD ι {})
    (by as_aux_lemma => kernel_rfl) (by as_aux_lemma => kernel_rfl) (fun _ => by as_aux_lemma => kernel_rfl) (fun _ => by as_aux_lemma => kernel_rfl) ⟨⟨⟨⟨trivial, ?_⟩, ?_⟩, ?_⟩, ?_⟩
  · exact o_run 0 [] [] (fun _ _ => []) (fun _ _ => by as_aux_lemma => kernel_rfl)
  · exact o_run 1 [] [] (fun _ _ => []) (fun _ _ => by as_aux_lemma => kernel_rfl)
  · exact o_run 2 [] [] (fun _ _ => []) (fun _ _ => by as_aux_lemma => kernel_rfl)
  · exact o_run 3 [] [] (fun _ _ => []) (fun _ _ => by as_aux_lemma => kernel_rfl)
theorem size_any_r37 (B : List UInt8) (z : Int) (w0 : World) (F : World → Prop) : Reg Try.prog 22 (regOps Try.f13 22) false 74 [(6, (.int .u64 0)), (7, (.int .i64 0)), (8, (.int .i64 0)), (10, (.int .i64 (rdN B.length (rdN B.length z 1) 8))), (12, (.int .u64 ((rdV B (rdN B.length z 1) 8 : Nat) : Int))), (68, (.bool true))] w0 [] F
    (fun _ => [(6, (.int .u64 0)), (7, (.int .i64 0)), (8, (.int .i64 4)), (10, (.int .i64 (rdN B.length (rdN B.length z 1) 8))), (12, (.int .u64 ((rdV B (rdN B.length z 1) 8 : Nat) : Int)))])
    (fun _ => []) := by
  refine reg_seq [0, 1, 3] [6, 7, 8, 10, 12] 3
    (fun _ ι => ([(.int .u64 0), (.int .i64 0), (.int .i64 4)] : List Value).getD ι undef)
    (fun _ ι => ([{}, {}, {}] : List Eff).getD ι {})
    (by as_aux_lemma => kernel_rfl) (by as_aux_lemma => kernel_rfl) (fun _ => by as_aux_lemma => kernel_rfl) (fun _ => by as_aux_lemma => kernel_rfl) ⟨⟨⟨trivial, ?_⟩, ?_⟩, ?_⟩
  · exact o_run 0 [] [] (fun _ _ => []) (fun _ _ => by as_aux_lemma => kernel_rfl)
  · exact o_run 1 [] [] (fun _ _ => []) (fun _ _ => by as_aux_lemma => kernel_rfl)
  · exact o_run 2 [] [] (fun _ _ => []) (fun _ _ => by as_aux_lemma => kernel_rfl)
theorem size_any_r38 (B : List UInt8) (z : Int) (w0 : World) (F : World → Prop) : Reg Try.prog 23 (regOps Try.f13 23) false 74 [(6, (.int .u64 0)), (7, (.int .i64 0)), (8, (.int .i64 0)), (10, (.int .i64 (rdN B.length (rdN B.length z 1) 8))), (12, (.int .u64 ((rdV B (rdN B.length z 1) 8 : Nat) : Int))), (68, (.bool false))] w0 [] F
    (fun _ => [(6, (.int .u64 ((rdV B (rdN B.length z 1) 8 : Nat) : Int))), (7, (.int .i64 (rdN B.length (rdN B.length z 1) 8))), (8, (.int .i64 0))])
    (fun _ => []) := by
  refine reg_seq [0, 1, 3, 7, 15] [6, 7, 8] 5
    (fun _ ι => ([(.int .u64 ((rdV B (rdN B.length z 1) 8 : Nat) : Int)), (.int .i64 (rdN B.length (rdN B.length z 1) 8)), (.int .u64 ((rdV B (rdN B.length z 1) 8 : Nat) : Int)), (.int .i64 (rdN B.length (rdN B.length z 1) 8)), (.int .i64 0)] : List Value).getD ι undef)
    (fun _ ι => ([{}, {}, {}, {}, {}] : List Eff).getD ι {})
    (by as_aux_lemma => kernel_rfl) (by as_aux_lemma => kernel_rfl) (fun _ => by as_aux_lemma => kernel_rfl) (fun _ => by as_aux_lemma => kernel_rfl) ⟨⟨⟨⟨⟨trivial, ?_⟩, ?_⟩, ?_⟩, ?_⟩, ?_⟩
  · exact o_run 0 [] [] (fun _ _ => []) (fun _ _ => by as_aux_lemma => kernel_rfl)
  · exact o_run 1 [] [] (fun _ _ => []) (fun _ _ => by as_aux_lemma => kernel_rfl)
  · exact o_run 2 [] [] (fun _ _ => []) (fun _ _ => by as_aux_lemma => kernel_rfl)
  · exact o_run 3 [] [] (fun _ _ => []) (fun _ _ => by as_aux_lemma => kernel_rfl)
  · exact o_run 4 [] [] (fun _ _ => []) (fun _ _ => by as_aux_lemma => kernel_rfl)
theorem size_any_r39 (a : Option Addr) (c : Nat) (B : List UInt8) (z : Int) (q : Nat) (hb1 : ((rdE B.length z 1) != 0) = false) (w0 : World) (F : World → Prop) : Reg Try.prog 17 (regOps Try.f13 17) false 74 [(0, (.slice a (B).length c)), (2, (.int .u64 ((q : Nat) : Int))), (6, (.int .u64 0)), (7, (.int .i64 0)), (8, (.int .i64 0)), (10, (.int .i64 (rdN B.length z 1))), (11, (.int .i64 (rdE B.length z 1))), (12, (.int .u64 ((rdV B z 1 : Nat) : Int))), (13, (.int .u64 0)), (51, (.bool false))] w0 [] F
    (fun _ => [(2, (.int .u64 ((q : Nat) : Int))), (6, (.int .u64 0)), (7, (.int .i64 0)), (8, (.int .i64 0)), (10, (.int .i64 (rdN B.length z 1))), (11, (.int .i64 (rdE B.length z 1))), (12, (.int .u64 ((rdV B z 1 : Nat) : Int))), (13, (.int .u64 0)), (60, (.bool false))])
    (fun _ => []) := by
  refine reg_seq [0, 1, 3] [2, 6, 7, 8, 10, 11, 12, 13, 60] 3
    (fun _ ι => ([(.int .i64 (rdE B.length z 1)), (.bool false), (.bool false)] : List Value).getD ι undef)
    (fun _ ι => ([{}, {}, {}] : List Eff).getD ι {})
    (by as_aux_lemma => kernel_rfl) (by as_aux_lemma => kernel_rfl) (fun _ => by as_aux_lemma => kernel_rfl) (fun _ => by as_aux_lemma => kernel_rfl) ⟨⟨⟨trivial, ?_⟩, ?_⟩, ?_⟩
  · exact o_run 0 [] [] (fun _ _ => []) (fun _ _ => by as_aux_lemma => kernel_rfl)
  · exact o_as 1 (fun _ => (.bool ((rdE B.length z 1) != 0))) (fun _ => (.bool false)) (fun _ _ => by as_aux_lemma => kernel_rfl) (fun _ => congrArg Value.bool hb1)
  · exact o_run 2 [] [] (fun _ _ => []) (fun _ _ => by as_aux_lemma => kernel_rfl)
theorem size_any_r40 (B : List UInt8) (z : Int) (q : Nat) (w0 : World) (F : World → Prop) : Reg Try.prog 19 (regOps Try.f13 19) false 74 [(2, (.int .u64 ((q : Nat) : Int))), (6, (.int .u64 0)), (7, (.int .i64 0)), (8, (.int .i64 0)), (10, (.int .i64 (rdN B.length z 1))), (11, (.int .i64 (rdE B.length z 1))), (12, (.int .u64 ((rdV B z 1 : Nat) : Int))), (13, (.int .u64 0)), (60, (.bool false))] w0 [] F
    (fun _ => [(2, (.int .u64 ((q : Nat) : Int))), (6, (.int .u64 0)), (7, (.int .i64 0)), (8, (.int .i64 0)), (10, (.int .i64 (rdN B.length z 1))), (12, (.int .u64 ((rdV B z 1 : Nat) : Int))), (64, (.bool false))])
    (fun _ => []) := by
  refine reg_seq [0, 1, 3, 7] [2, 6, 7, 8, 10, 12, 64] 4
    (fun _ ι => ([(.int .u64 ((rdV B z 1 : Nat) : Int)), (.int .u64 0), (.bool false), (.bool false)] : List Value).getD ι undef)
    (fun _ ι => ([{}, {}, {}, {}] : List Eff).getD ι {})
    (by as_aux_lemma => kernel_rfl) (by as_aux_lemma => kernel_rfl) (fun _ => by as_aux_lemma => kernel_rfl) (fun _ => by as_aux_lemma => kernel_rfl) ⟨⟨⟨⟨trivial, ?_⟩, ?_⟩, ?_⟩, ?_⟩
  · exact o_run 0 [] [] (fun _ _ => []) (fun _ _ => by as_aux_lemma => kernel_rfl)
  · exact o_run 1 [] [] (fun _ _ => []) (fun _ _ => by as_aux_lemma => kernel_rfl)
  · exact o_as 2 (fun _ => (.bool (decide (((rdV B z 1 : Nat) : Int) < 0)))) (fun _ => (.bool false)) (fun _ _ => by as_aux_lemma => kernel_rfl) (fun _ => congrArg Value.bool (decide_eq_false (by omega)))
  · exact o_run 3 [] [] (fun _ _ => []) (fun _ _ => by as_aux_lemma => kernel_rfl)
theorem size_any_r41 (B : List UInt8) (z : Int) (q : Nat) (w0 : World) (F : World → Prop) : Reg Try.prog 21 (regOps Try.f13 21) false 74 [(2, (.int .u64 ((q : Nat) : Int))), (6, (.int .u64 0)), (7, (.int .i64 0)), (8, (.int .i64 0)), (10, (.int .i64 (rdN B.length z 1))), (12, (.int .u64 ((rdV B z 1 : Nat) : Int))), (64, (.bool false))] w0 [] F
    (fun _ => [(6, (.int .u64 0)), (7, (.int .i64 0)), (8, (.int .i64 0)), (10, (.int .i64 (rdN B.length z 1))), (12, (.int .u64 ((rdV B z 1 : Nat) : Int))), (68, (.bool (decide (((q : Nat) : Int) < ((rdV B z 1 : Nat) : Int)))))])
    (fun _ => []) := by
  refine reg_seq [0, 1, 3, 7] [6, 7, 8, 10, 12, 68] 4
    (fun _ ι => ([(.int .u64 ((rdV B z 1 : Nat) : Int)), (.int .u64 ((q : Nat) : Int)), (.bool (decide (((q : Nat) : Int) < ((rdV B z 1 : Nat) : Int)))), (.bool (decide (((q : Nat) : Int) < ((rdV B z 1 : Nat) : Int))))] : List Value).getD ι undef)
    (fun _ ι => ([{}, {}, {}, {}] : List Eff).getD ι {})
    (by as_aux_lemma => kernel_rfl) (by as_aux_lemma => kernel_rfl) (fun _ => by as_aux_lemma => kernel_rfl) (fun _ => by as_aux_lemma => kernel_rfl) ⟨⟨⟨⟨trivial, ?_⟩, ?_⟩, ?_⟩, ?_⟩
  · exact o_run 0 [] [] (fun _ _ => []) (fun _ _ => by as_aux_lemma => kernel_rfl)
  · exact o_run 1 [] [] (fun _ _ => []) (fun _ _ => by as_aux_lemma => kernel_rfl)
  · exact o_run 2 [] [] (fun _ _ => []) (fun _ _ => by as_aux_lemma => kernel_rfl)
  · exact o_run 3 [] [] (fun _ _ => []) (fun _ _ => by as_aux_lemma => kernel_rfl)
theorem size_any_r42 (B : List UInt8) (z : Int) (w0 : World) (F : World → Prop) : Reg Try.prog 22 (regOps Try.f13 22) false 74 [(6, (.int .u64 0)), (7, (.int .i64 0)), (8, (.int .i64 0)), (10, (.int .i64 (rdN B.length z 1))), (12, (.int .u64 ((rdV B z 1 : Nat) : Int))), (68, (.bool true))] w0 [] F
    (fun _ => [(6, (.int .u64 0)), (7, (.int .i64 0)), (8, (.int .i64 4)), (10, (.int .i64 (rdN B.length z 1))), (12, (.int .u64 ((rdV B z 1 : Nat) : Int)))])
    (fun _ => []) := by
  refine reg_seq [0, 1, 3] [6, 7, 8, 10, 12] 3
    (fun _ ι => ([(.int .u64 0), (.int .i64 0), (.int .i64 4)] : List Value).getD ι undef)
    (fun _ ι => ([{}, {}, {}] : List Eff).getD ι {})
    (by as_aux_lemma => kernel_rfl) (by as_aux_lemma => kernel_rfl) (fun _ => by as_aux_lemma => kernel_rfl) (fun _ => by as_aux_lemma => kernel_rfl) ⟨⟨⟨trivial, ?_⟩, ?_⟩, ?_⟩
  · exact o_run 0 [] [] (fun _ _ => []) (fun _ _ => by as_aux_lemma => kernel_rfl)
  · exact o_run 1 [] [] (fun _ _ => []) (fun _ _ => by as_aux_lemma => kernel_rfl)
  · exact o_run 2 [] [] (fun _ _ => []) (fun _ _ => by as_aux_lemma => kernel_rfl)
theorem size_any_r43 (B : List UInt8) (z : Int) (w0 : World) (F : World → Prop) : Reg Try.prog 23 (regOps Try.f13 23) false 74 [(6, (.int .u64 0)), (7, (.int .i64 0)), (8, (.int .i64 0)), (10, (.int .i64 (rdN B.length z 1))), (12, (.int .u64 ((rdV B z 1 : Nat) : Int))), (68, (.bool false))] w0 [] F
    (fun _ => [(6, (.int .u64 ((rdV B z 1 : Nat) : Int))), (7, (.int .i64 (rdN B.length z 1))), (8, (.int .i64 0))])
    (fun _ => []) := by
  refine reg_seq [0, 1, 3, 7, 15] [6, 7, 8] 5
    (fun _ ι => ([(.int .u64 ((rdV B z 1 : Nat) : Int)), (.int .i64 (rdN B.length z 1)), (.int .u64 ((rdV B z 1 : Nat) : Int)), (.int .i64 (rdN B.length z 1)), (.int .i64 0)] : List Value).getD ι undef)
    (fun _ ι => ([{}, {}, {}, {}, {}] : List Eff).getD ι {})
    (by as_aux_lemma => kernel_rfl) (by as_aux_lemma => kernel_rfl) (fun _ => by as_aux_lemma => kernel_rfl) (fun _ => by as_aux_lemma => kernel_rfl) ⟨⟨⟨⟨⟨trivial, ?_⟩, ?_⟩, ?_⟩, ?_⟩, ?_⟩
  · exact o_run 0 [] [] (fun _ _ => []) (fun _ _ => by as_aux_lemma => kernel_rfl)
  · exact o_run 1 [] [] (fun _ _ => []) (fun _ _ => by as_aux_lemma => kernel_rfl)
  · exact o_run 2 [] [] (fun _ _ => []) (fun _ _ => by as_aux_lemma => kernel_rfl)
  · exact o_run 3 [] [] (fun _ _ => []) (fun _ _ => by as_aux_lemma => kernel_rfl)
  · exact o_run 4 [] [] (fun _ _ => []) (fun _ _ => by as_aux_lemma => kernel_rfl)
theorem size_any (a : Option Addr) (c : Nat) (B : List UInt8) (z : Int) (q : Nat) (hz : -9223372036854775808 ≤ z ∧ z < 9223372036854775808) (hBl : B.length ≤ 140737488351232) (hq : q < 18446744073709551616) (w0 : World) (hf0 : Bs w0 a c B) : Calls Try.prog 13 #[(.slice a (B).length c), (.int .i64 z), (.int .u64 ((q : Nat) : Int))] w0 (fun ε w' => ε = .returned (.tuple #[(.int .u64 ((szV B z q : Nat) : Int)), (.int .i64 (szN B z q)), (.int .i64 (szE B z q))]) ∧ Below w0.heap.size w0 w') := by
  refine Calls.of_ok (n := 74) (F := (fun w => Bs w a c B ∧ True)) Try.func13 rfl rfl rfl (by simp) (hf0.pers0.and persT) ?_
  refine ok_seq_r (by as_aux_lemma => kernel_rfl) (size_any_r1 a c B z q _ _) (fun _ => ?_)
  refine ok_seq_rf (by as_aux_lemma => kernel_rfl) (size_any_r2 a c B z q hz hBl hq _) (fun _ => ?_)
  refine ok_seq ?_
  refine ok_seq_r (by as_aux_lemma => kernel_rfl) (size_any_r3 a c B z q _ _) (fun _ => ?_)
  refine ok_cond (b := (rdE B.length z 1) != 0) (by as_aux_lemma => kernel_rfl) (fun hb1 => ?_) (fun hb1 => ?_)
  ·
    rw [hb1]
    refine ok_seq_r (by as_aux_lemma => kernel_rfl) (size_any_r4 a c B z q _ _) (fun _ => ?_)
    refine ok_ret ?_
    refine mt_then_r ?_
    exact meets_ret (v := (.tuple #[(.int .u64 0), (.int .i64 0), (.int .i64 (rdE B.length z 1))])) [] (dup []) (by as_aux_lemma => kernel_rfl) (by as_aux_lemma => kernel_rfl) (eqs_dup _) (fun _ hS => ⟨congrArg Ending.returned (szT_of (sz_err1 rfl (bne0 hb1))), hS.below⟩)
  ·
    rw [hb1]
    refine ok_skip ?_
    refine mt_then ?_
    refine ok_seq_r (by as_aux_lemma => kernel_rfl) (size_any_r5 a c B z q hz hBl hq hb1 _ _) (fun _ => ?_)
    refine ok_seq ?_
    refine ok_seq_r (by as_aux_lemma => kernel_rfl) (size_any_r6 a c B z q _ _) (fun _ => ?_)
    refine ok_block ?_
    refine ok_seq_r (by as_aux_lemma => kernel_rfl) (size_any_r7 a c B z q _ _) (fun _ => ?_)
    refine ok_cond (b := ((rdV B z 1 : Nat) : Int) == 253) (by as_aux_lemma => kernel_rfl) (fun hb2 => ?_) (fun hb2 => ?_)
    ·
      rw [hb2]
      refine ok_seq_r (by as_aux_lemma => kernel_rfl) (size_any_r8 a c B z q _ _) (fun _ => ?_)
      refine ok_seq_rf (by as_aux_lemma => kernel_rfl) (size_any_r9 a c B z q hBl _) (fun _ => ?_)
      refine ok_r (by as_aux_lemma => kernel_rfl) (size_any_r10 B z q hz hBl hq hb1 _ _) (fun _ => ?_)
      refine mt_block_n ?_
      refine mt_then ?_
      refine ok_seq ?_
      refine ok_block ?_
      refine ok_seq_r (by as_aux_lemma => kernel_rfl) (size_any_r11 B z q _ _) (fun _ => ?_)
      refine ok_cond (b := (rdE B.length (rdN B.length z 1) 2) != 0) (by as_aux_lemma => kernel_rfl) (fun hb3 => ?_) (fun hb3 => ?_)
      ·
        rw [hb3]
        refine ok_seq_r (by as_aux_lemma => kernel_rfl) (size_any_r12 B z q _ _) (fun _ => ?_)
        refine ok_ret ?_
        refine mt_block_r ?_
        refine mt_then_r ?_
        exact meets_ret (v := (.tuple #[(.int .u64 0), (.int .i64 0), (.int .i64 (rdE B.length (rdN B.length z 1) 2))])) [] (dup []) (by as_aux_lemma => kernel_rfl) (by as_aux_lemma => kernel_rfl) (eqs_dup _) (fun _ hS => ⟨congrArg Ending.returned (szT_of (sz_err2 (m := 253) (w := 2) (bne0' hb1) (eqN (k := 253) hb2) (by decide) (by decide) rfl (bne0 hb3))), hS.below⟩)
      ·
        rw [hb3]
        refine ok_seq_r (by as_aux_lemma => kernel_rfl) (size_any_r13 B z q _ _) (fun _ => ?_)
        refine ok_cond (b := decide (((rdV B (rdN B.length z 1) 2 : Nat) : Int) < 253)) (by as_aux_lemma => kernel_rfl) (fun hb4 => ?_) (fun hb4 => ?_)
        ·
          rw [hb4]
          refine ok_seq_r (by as_aux_lemma => kernel_rfl) (size_any_r14 B z q _ _) (fun _ => ?_)
          refine ok_ret ?_
          refine mt_block_r ?_
          refine mt_then_r ?_
          exact meets_ret (v := (.tuple #[(.int .u64 0), (.int .i64 0), (.int .i64 3)])) [] (dup []) (by as_aux_lemma => kernel_rfl) (by as_aux_lemma => kernel_rfl) (eqs_dup _) (fun _ hS => ⟨congrArg Ending.returned (szT_of (sz_can2 (m := 253) (w := 2) (bne0' hb1) (eqN (k := 253) hb2) (by decide) (by decide) (szLeast_253 rfl) (bne0' hb3) (by have := bne0' hb1; have := rdE_in (bne0' hb1); have := bne0' hb3; have := rdE_in (bne0' hb3); have := of_decide_eq_true hb4; have := hz; have := hBl; have := hq; omega))), hS.below⟩)
        ·
          rw [hb4]
          refine ok_seq_r (by as_aux_lemma => kernel_rfl) (size_any_r15 B z q _ _) (fun _ => ?_)
          refine ok_cond (b := decide (((q : Nat) : Int) < ((rdV B (rdN B.length z 1) 2 : Nat) : Int))) (by as_aux_lemma => kernel_rfl) (fun hb5 => ?_) (fun hb5 => ?_)
          ·
            rw [hb5]
            refine ok_seq_r (by as_aux_lemma => kernel_rfl) (size_any_r16 B z _ _) (fun _ => ?_)
            refine ok_ret ?_
            refine mt_block_r ?_
            refine mt_then_r ?_
            exact meets_ret (v := (.tuple #[(.int .u64 0), (.int .i64 0), (.int .i64 4)])) [] (dup []) (by as_aux_lemma => kernel_rfl) (by as_aux_lemma => kernel_rfl) (eqs_dup _) (fun _ hS => ⟨congrArg Ending.returned (szT_of (sz_lim2 (m := 253) (w := 2) (bne0' hb1) (eqN (k := 253) hb2) (by decide) (by decide) (szLeast_253 rfl) (bne0' hb3) (by have := bne0' hb1; have := rdE_in (bne0' hb1); have := bne0' hb3; have := rdE_in (bne0' hb3); have := of_decide_eq_false hb4; have := of_decide_eq_true hb5; have := hz; have := hBl; have := hq; omega) (by have := bne0' hb1; have := rdE_in (bne0' hb1); have := bne0' hb3; have := rdE_in (bne0' hb3); have := of_decide_eq_false hb4; have := of_decide_eq_true hb5; have := hz; have := hBl; have := hq; omega))), hS.below⟩)
          ·
            rw [hb5]
            refine ok_skip ?_
            refine mt_block_n ?_
            refine mt_then ?_
            refine ok_seq_r (by as_aux_lemma => kernel_rfl) (size_any_r17 B z _ _) (fun _ => ?_)
            refine ok_ret ?_
            exact meets_ret (v := (.tuple #[(.int .u64 ((rdV B (rdN B.length z 1) 2 : Nat) : Int)), (.int .i64 (rdN B.length (rdN B.length z 1) 2)), (.int .i64 0)])) [] (dup []) (by as_aux_lemma => kernel_rfl) (by as_aux_lemma => kernel_rfl) (eqs_dup _) (fun _ hS => ⟨congrArg Ending.returned (szT_of (sz_ok2 (m := 253) (w := 2) (bne0' hb1) (eqN (k := 253) hb2) (by decide) (by decide) (szLeast_253 rfl) (bne0' hb3) (by have := bne0' hb1; have := rdE_in (bne0' hb1); have := bne0' hb3; have := rdE_in (bne0' hb3); have := of_decide_eq_false hb4; have := of_decide_eq_false hb5; have := hz; have := hBl; have := hq; omega) (by have := bne0' hb1; have := rdE_in (bne0' hb1); have := bne0' hb3; have := rdE_in (bne0' hb3); have := of_decide_eq_false hb4; have := of_decide_eq_false hb5; have := hz; have := hBl; have := hq; omega))), hS.below⟩)
    ·
      rw [hb2]
      refine ok_seq_r (by as_aux_lemma => kernel_rfl) (size_any_r18 a c B z q _ _) (fun _ => ?_)
      refine ok_cond (b := ((rdV B z 1 : Nat) : Int) == 254) (by as_aux_lemma => kernel_rfl) (fun hb6 => ?_) (fun hb6 => ?_)
      ·
        rw [hb6]
        refine ok_seq_r (by as_aux_lemma => kernel_rfl) (size_any_r19 a c B z q _ _) (fun _ => ?_)
        refine ok_seq_rf (by as_aux_lemma => kernel_rfl) (size_any_r20 a c B z q hBl _) (fun _ => ?_)
        refine ok_r (by as_aux_lemma => kernel_rfl) (size_any_r21 B z q hz hBl hq hb1 _ _) (fun _ => ?_)
        refine mt_block_n ?_
        refine mt_then ?_
        refine ok_seq ?_
        refine ok_block ?_
        refine ok_seq_r (by as_aux_lemma => kernel_rfl) (size_any_r22 B z q _ _) (fun _ => ?_)
        refine ok_cond (b := (rdE B.length (rdN B.length z 1) 4) != 0) (by as_aux_lemma => kernel_rfl) (fun hb7 => ?_) (fun hb7 => ?_)
        ·
          rw [hb7]
          refine ok_seq_r (by as_aux_lemma => kernel_rfl) (size_any_r23 B z q _ _) (fun _ => ?_)
          refine ok_ret ?_
          refine mt_block_r ?_
          refine mt_then_r ?_
          exact meets_ret (v := (.tuple #[(.int .u64 0), (.int .i64 0), (.int .i64 (rdE B.length (rdN B.length z 1) 4))])) [] (dup []) (by as_aux_lemma => kernel_rfl) (by as_aux_lemma => kernel_rfl) (eqs_dup _) (fun _ hS => ⟨congrArg Ending.returned (szT_of (sz_err2 (m := 254) (w := 4) (bne0' hb1) (eqN (k := 254) hb6) (by decide) (by decide) rfl (bne0 hb7))), hS.below⟩)
        ·
          rw [hb7]
          refine ok_seq_r (by as_aux_lemma => kernel_rfl) (size_any_r24 B z q _ _) (fun _ => ?_)
          refine ok_cond (b := decide (((rdV B (rdN B.length z 1) 4 : Nat) : Int) < 65536)) (by as_aux_lemma => kernel_rfl) (fun hb8 => ?_) (fun hb8 => ?_)
          ·
            rw [hb8]
            refine ok_seq_r (by as_aux_lemma => kernel_rfl) (size_any_r25 B z q _ _) (fun _ => ?_)
            refine ok_ret ?_
            refine mt_block_r ?_
            refine mt_then_r ?_
            exact meets_ret (v := (.tuple #[(.int .u64 0), (.int .i64 0), (.int .i64 3)])) [] (dup []) (by as_aux_lemma => kernel_rfl) (by as_aux_lemma => kernel_rfl) (eqs_dup _) (fun _ hS => ⟨congrArg Ending.returned (szT_of (sz_can2 (m := 254) (w := 4) (bne0' hb1) (eqN (k := 254) hb6) (by decide) (by decide) (szLeast_254 rfl) (bne0' hb7) (by have := bne0' hb1; have := rdE_in (bne0' hb1); have := bne0' hb7; have := rdE_in (bne0' hb7); have := of_decide_eq_true hb8; have := hz; have := hBl; have := hq; omega))), hS.below⟩)
          ·
            rw [hb8]
            refine ok_seq_r (by as_aux_lemma => kernel_rfl) (size_any_r26 B z q _ _) (fun _ => ?_)
            refine ok_cond (b := decide (((q : Nat) : Int) < ((rdV B (rdN B.length z 1) 4 : Nat) : Int))) (by as_aux_lemma => kernel_rfl) (fun hb9 => ?_) (fun hb9 => ?_)
            ·
              rw [hb9]
              refine ok_seq_r (by as_aux_lemma => kernel_rfl) (size_any_r27 B z _ _) (fun _ => ?_)
              refine ok_ret ?_
              refine mt_block_r ?_
              refine mt_then_r ?_
              exact meets_ret (v := (.tuple #[(.int .u64 0), (.int .i64 0), (.int .i64 4)])) [] (dup []) (by as_aux_lemma => kernel_rfl) (by as_aux_lemma => kernel_rfl) (eqs_dup _) (fun _ hS => ⟨congrArg Ending.returned (szT_of (sz_lim2 (m := 254) (w := 4) (bne0' hb1) (eqN (k := 254) hb6) (by decide) (by decide) (szLeast_254 rfl) (bne0' hb7) (by have := bne0' hb1; have := rdE_in (bne0' hb1); have := bne0' hb7; have := rdE_in (bne0' hb7); have := of_decide_eq_false hb8; have := of_decide_eq_true hb9; have := hz; have := hBl; have := hq; omega) (by have := bne0' hb1; have := rdE_in (bne0' hb1); have := bne0' hb7; have := rdE_in (bne0' hb7); have := of_decide_eq_false hb8; have := of_decide_eq_true hb9; have := hz; have := hBl; have := hq; omega))), hS.below⟩)
            ·
              rw [hb9]
              refine ok_skip ?_
              refine mt_block_n ?_
              refine mt_then ?_
              refine ok_seq_r (by as_aux_lemma => kernel_rfl) (size_any_r28 B z _ _) (fun _ => ?_)
              refine ok_ret ?_
              exact meets_ret (v := (.tuple #[(.int .u64 ((rdV B (rdN B.length z 1) 4 : Nat) : Int)), (.int .i64 (rdN B.length (rdN B.length z 1) 4)), (.int .i64 0)])) [] (dup []) (by as_aux_lemma => kernel_rfl) (by as_aux_lemma => kernel_rfl) (eqs_dup _) (fun _ hS => ⟨congrArg Ending.returned (szT_of (sz_ok2 (m := 254) (w := 4) (bne0' hb1) (eqN (k := 254) hb6) (by decide) (by decide) (szLeast_254 rfl) (bne0' hb7) (by have := bne0' hb1; have := rdE_in (bne0' hb1); have := bne0' hb7; have := rdE_in (bne0' hb7); have := of_decide_eq_false hb8; have := of_decide_eq_false hb9; have := hz; have := hBl; have := hq; omega) (by have := bne0' hb1; have := rdE_in (bne0' hb1); have := bne0' hb7; have := rdE_in (bne0' hb7); have := of_decide_eq_false hb8; have := of_decide_eq_false hb9; have := hz; have := hBl; have := hq; omega))), hS.below⟩)
      ·
        rw [hb6]
        refine ok_seq_r (by as_aux_lemma => kernel_rfl) (size_any_r29 a c B z q _ _) (fun _ => ?_)
        refine ok_cond (b := ((rdV B z 1 : Nat) : Int) == 255) (by as_aux_lemma => kernel_rfl) (fun hb10 => ?_) (fun hb10 => ?_)
        ·
          rw [hb10]
          refine ok_seq_rf (by as_aux_lemma => kernel_rfl) (size_any_r30 a c B z q hBl _) (fun _ => ?_)
          refine ok_r (by as_aux_lemma => kernel_rfl) (size_any_r31 B z q _ _) (fun _ => ?_)
          refine mt_block_n ?_
          refine mt_then ?_
          refine ok_seq ?_
          refine ok_block ?_
          refine ok_seq_r (by as_aux_lemma => kernel_rfl) (size_any_r32 B z q _ _) (fun _ => ?_)
          refine ok_cond (b := (rdE B.length (rdN B.length z 1) 8) != 0) (by as_aux_lemma => kernel_rfl) (fun hb11 => ?_) (fun hb11 => ?_)
          ·
            rw [hb11]
            refine ok_seq_r (by as_aux_lemma => kernel_rfl) (size_any_r33 B z q _ _) (fun _ => ?_)
            refine ok_ret ?_
            refine mt_block_r ?_
            refine mt_then_r ?_
            exact meets_ret (v := (.tuple #[(.int .u64 0), (.int .i64 0), (.int .i64 (rdE B.length (rdN B.length z 1) 8))])) [] (dup []) (by as_aux_lemma => kernel_rfl) (by as_aux_lemma => kernel_rfl) (eqs_dup _) (fun _ hS => ⟨congrArg Ending.returned (szT_of (sz_err2 (m := 255) (w := 8) (bne0' hb1) (eqN (k := 255) hb10) (by decide) (by decide) rfl (bne0 hb11))), hS.below⟩)
          ·
            rw [hb11]
            refine ok_seq_r (by as_aux_lemma => kernel_rfl) (size_any_r34 B z q _ _) (fun _ => ?_)
            refine ok_cond (b := decide (((rdV B (rdN B.length z 1) 8 : Nat) : Int) < 4294967296)) (by as_aux_lemma => kernel_rfl) (fun hb12 => ?_) (fun hb12 => ?_)
            ·
              rw [hb12]
              refine ok_seq_r (by as_aux_lemma => kernel_rfl) (size_any_r35 B z q _ _) (fun _ => ?_)
              refine ok_ret ?_
              refine mt_block_r ?_
              refine mt_then_r ?_
              exact meets_ret (v := (.tuple #[(.int .u64 0), (.int .i64 0), (.int .i64 3)])) [] (dup []) (by as_aux_lemma => kernel_rfl) (by as_aux_lemma => kernel_rfl) (eqs_dup _) (fun _ hS => ⟨congrArg Ending.returned (szT_of (sz_can2 (m := 255) (w := 8) (bne0' hb1) (eqN (k := 255) hb10) (by decide) (by decide) (szLeast_255 rfl) (bne0' hb11) (by have := bne0' hb1; have := rdE_in (bne0' hb1); have := bne0' hb11; have := rdE_in (bne0' hb11); have := of_decide_eq_true hb12; have := hz; have := hBl; have := hq; omega))), hS.below⟩)
            ·
              rw [hb12]
              refine ok_seq_r (by as_aux_lemma => kernel_rfl) (size_any_r36 B z q _ _) (fun _ => ?_)
              refine ok_cond (b := decide (((q : Nat) : Int) < ((rdV B (rdN B.length z 1) 8 : Nat) : Int))) (by as_aux_lemma => kernel_rfl) (fun hb13 => ?_) (fun hb13 => ?_)
              ·
                rw [hb13]
                refine ok_seq_r (by as_aux_lemma => kernel_rfl) (size_any_r37 B z _ _) (fun _ => ?_)
                refine ok_ret ?_
                refine mt_block_r ?_
                refine mt_then_r ?_
                exact meets_ret (v := (.tuple #[(.int .u64 0), (.int .i64 0), (.int .i64 4)])) [] (dup []) (by as_aux_lemma => kernel_rfl) (by as_aux_lemma => kernel_rfl) (eqs_dup _) (fun _ hS => ⟨congrArg Ending.returned (szT_of (sz_lim2 (m := 255) (w := 8) (bne0' hb1) (eqN (k := 255) hb10) (by decide) (by decide) (szLeast_255 rfl) (bne0' hb11) (by have := bne0' hb1; have := rdE_in (bne0' hb1); have := bne0' hb11; have := rdE_in (bne0' hb11); have := of_decide_eq_false hb12; have := of_decide_eq_true hb13; have := hz; have := hBl; have := hq; omega) (by have := bne0' hb1; have := rdE_in (bne0' hb1); have := bne0' hb11; have := rdE_in (bne0' hb11); have := of_decide_eq_false hb12; have := of_decide_eq_true hb13; have := hz; have := hBl; have := hq; omega))), hS.below⟩)
              ·
                rw [hb13]
                refine ok_skip ?_
                refine mt_block_n ?_
                refine mt_then ?_
                refine ok_seq_r (by as_aux_lemma => kernel_rfl) (size_any_r38 B z _ _) (fun _ => ?_)
                refine ok_ret ?_
                exact meets_ret (v := (.tuple #[(.int .u64 ((rdV B (rdN B.length z 1) 8 : Nat) : Int)), (.int .i64 (rdN B.length (rdN B.length z 1) 8)), (.int .i64 0)])) [] (dup []) (by as_aux_lemma => kernel_rfl) (by as_aux_lemma => kernel_rfl) (eqs_dup _) (fun _ hS => ⟨congrArg Ending.returned (szT_of (sz_ok2 (m := 255) (w := 8) (bne0' hb1) (eqN (k := 255) hb10) (by decide) (by decide) (szLeast_255 rfl) (bne0' hb11) (by have := bne0' hb1; have := rdE_in (bne0' hb1); have := bne0' hb11; have := rdE_in (bne0' hb11); have := of_decide_eq_false hb12; have := of_decide_eq_false hb13; have := hz; have := hBl; have := hq; omega) (by have := bne0' hb1; have := rdE_in (bne0' hb1); have := bne0' hb11; have := rdE_in (bne0' hb11); have := of_decide_eq_false hb12; have := of_decide_eq_false hb13; have := hz; have := hBl; have := hq; omega))), hS.below⟩)
        ·
          rw [hb10]
          refine ok_skip ?_
          refine mt_block_n ?_
          refine mt_then ?_
          refine ok_seq ?_
          refine ok_block ?_
          refine ok_seq_r (by as_aux_lemma => kernel_rfl) (size_any_r39 a c B z q hb1 _ _) (fun _ => ?_)
          refine ok_no (by as_aux_lemma => kernel_rfl) ?_
          refine ok_seq_r (by as_aux_lemma => kernel_rfl) (size_any_r40 B z q _ _) (fun _ => ?_)
          refine ok_no (by as_aux_lemma => kernel_rfl) ?_
          refine ok_seq_r (by as_aux_lemma => kernel_rfl) (size_any_r41 B z q _ _) (fun _ => ?_)
          refine ok_cond (b := decide (((q : Nat) : Int) < ((rdV B z 1 : Nat) : Int))) (by as_aux_lemma => kernel_rfl) (fun hb14 => ?_) (fun hb14 => ?_)
          ·
            rw [hb14]
            refine ok_seq_r (by as_aux_lemma => kernel_rfl) (size_any_r42 B z _ _) (fun _ => ?_)
            refine ok_ret ?_
            refine mt_block_r ?_
            refine mt_then_r ?_
            exact meets_ret (v := (.tuple #[(.int .u64 0), (.int .i64 0), (.int .i64 4)])) [] (dup []) (by as_aux_lemma => kernel_rfl) (by as_aux_lemma => kernel_rfl) (eqs_dup _) (fun _ hS => ⟨congrArg Ending.returned (szT_of (sz_lim1 (bne0' hb1) (small_mark hb2 hb6 hb10 (rdV_lt B z 1)) (by have := bne0' hb1; have := rdE_in (bne0' hb1); have := of_decide_eq_true hb14; have := hz; have := hBl; have := hq; omega))), hS.below⟩)
          ·
            rw [hb14]
            refine ok_skip ?_
            refine mt_block_n ?_
            refine mt_then ?_
            refine ok_seq_r (by as_aux_lemma => kernel_rfl) (size_any_r43 B z _ _) (fun _ => ?_)
            refine ok_ret ?_
            exact meets_ret (v := (.tuple #[(.int .u64 ((rdV B z 1 : Nat) : Int)), (.int .i64 (rdN B.length z 1)), (.int .i64 0)])) [] (dup []) (by as_aux_lemma => kernel_rfl) (by as_aux_lemma => kernel_rfl) (eqs_dup _) (fun _ hS => ⟨congrArg Ending.returned (szT_of (sz_ok1 (bne0' hb1) (small_mark hb2 hb6 hb10 (rdV_lt B z 1)) (by have := bne0' hb1; have := rdE_in (bne0' hb1); have := of_decide_eq_false hb14; have := hz; have := hBl; have := hq; omega))), hS.below⟩)
theorem rsize_any_r1 (a : Option Addr) (c : Nat) (B : List UInt8) (z : Int) (q : Nat) (w0 : World) (F : World → Prop) : Reg Try.prog 0 (regOps Try.f14 0) false 68 [(0, (.slice a (B).length c)), (1, (.int .i64 z)), (2, (.int .u64 ((q : Nat) : Int)))] w0 [] F
    (fun _ => [(0, (.slice a (B).length c)), (1, (.int .i64 z)), (2, (.int .u64 ((q : Nat) : Int))), (6, (.int .u64 0)), (7, (.int .i64 0)), (8, (.int .i64 0))])
    (fun _ => []) := by
  refine reg_seq [0, 1, 3] [0, 1, 2, 6, 7, 8] 3
    (fun _ ι => ([(.int .u64 0), (.int .i64 0), (.int .i64 0)] : List Value).getD ι undef)
    (fun _ ι => ([{}, {}, {}] : List Eff).getD ι {})
    (by as_aux_lemma => kernel_rfl) (by as_aux_lemma => kernel_rfl) (fun _ => by as_aux_lemma => kernel_rfl) (fun _ => by as_aux_lemma => kernel_rfl) ⟨⟨⟨trivial, ?_⟩, ?_⟩, ?_⟩
  · exact o_run 0 [] [] (fun _ _ => []) (fun _ _ => by as_aux_lemma => kernel_rfl)
  · exact o_run 1 [] [] (fun _ _ => []) (fun _ _ => by as_aux_lemma => kernel_rfl)
  · exact o_run 2 [] [] (fun _ _ => []) (fun _ _ => by as_aux_lemma => kernel_rfl)
theorem rsize_any_r2 (a : Option Addr) (c : Nat) (B : List UInt8) (z : Int) (q : Nat) (hz : -9223372036854775808 ≤ z ∧ z < 9223372036854775808) (hBl : B.length ≤ 140737488351232) (hq : q < 18446744073709551616) (w0 : World) : RegF Try.prog 1 (regOps Try.f14 1) false 68 [(0, (.slice a (B).length c)), (1, (.int .i64 z)), (2, (.int .u64 ((q : Nat) : Int))), (6, (.int .u64 0)), (7, (.int .i64 0)), (8, (.int .i64 0))] w0 [] (fun w => Bs w a c B ∧ True)
    (fun _ => [(0, (.slice a (B).length c)), (2, (.int .u64 ((q : Nat) : Int))), (6, (.int .u64 0)), (7, (.int .i64 0)), (8, (.int .i64 0)), (9, (.int .u64 ((rdV B z 1 : Nat) : Int))), (10, (.int .i64 (rdN B.length z 1))), (11, (.int .i64 (rdE B.length z 1)))])
    (fun _ => []) (fun _ => (fun w => Bs w a c B ∧ True)) := by
  refine reg_seq_f [0, 1, 3, 7, 15, 31, 63, 127, 255, 511] [0, 2, 6, 7, 8, 9, 10, 11] 10
    (fun _ ι => ([(.slice a (B).length c), (.int .i64 z), (.tuple #[(.int .u64 ((rdV B z 1 : Nat) : Int)), (.int .i64 (rdN B.length z 1)), (.int .i64 (rdE B.length z 1))]), (.tuple #[(.int .u64 ((rdV B z 1 : Nat) : Int)), (.int .i64 (rdN B.length z 1)), (.int .i64 (rdE B.length z 1))]), (.int .u64 ((rdV B z 1 : Nat) : Int)), (.int .i64 (rdN B.length z 1)), (.int .i64 (rdE B.length z 1)), (.int .u64 ((rdV B z 1 : Nat) : Int)), (.int .i64 (rdN B.length z 1)), (.int .i64 (rdE B.length z 1))] : List Value).getD ι undef)
    (fun _ ι => ([{}, {}, {}, {}, {}, {}, {}, {}, {}, {}] : List Eff).getD ι {})
    (fun _ ι => ([(fun _ => True), (fun _ => True), (fun _ => True), (fun _ => True), (fun _ => True), (fun _ => True), (fun _ => True), (fun _ => True), (fun _ => True), (fun _ => True)] : List (World → Prop)).getD ι (fun _ => True))
    (by as_aux_lemma => kernel_rfl) (by as_aux_lemma => kernel_rfl) (fun _ => by as_aux_lemma => kernel_rfl) (fun _ => by as_aux_lemma => kernel_rfl) (fun _ _ hF _ => ⟨hF.1, trivial⟩) ⟨⟨⟨⟨⟨⟨⟨⟨⟨⟨trivial, ?_⟩, ?_⟩, ?_⟩, ?_⟩, ?_⟩, ?_⟩, ?_⟩, ?_⟩, ?_⟩, ?_⟩
  · exact Obl.brings (o_run 0 [] [] (fun _ _ => []) (fun _ _ => by as_aux_lemma => kernel_rfl)) (fun _ _ => trivial)
  · exact Obl.brings (o_run 1 [] [] (fun _ _ => []) (fun _ _ => by as_aux_lemma => kernel_rfl)) (fun _ _ => trivial)
  · exact o_callP 2 46 (fun _ => #[(.slice a (B).length c), (.int .i64 z), (.int .i64 1)]) (fun _ => (.tuple #[(.int .u64 ((rdV B z 1 : Nat) : Int)), (.int .i64 (rdN B.length z 1)), (.int .i64 (rdE B.length z 1))])) (fun _ _ => (by as_aux_lemma => kernel_rfl)) (fun _ => (by as_aux_lemma => kernel_rfl)) (fun _ _ => (by as_aux_lemma => kernel_rfl)) (fun _ _ => trivial) (fun _ _ w hG => number_any a c B z 1 (by have := hz; have := hBl; have := hq; omega) hBl (by decide) w hG.facts0.now.1)
  · exact Obl.brings (o_run 3 [] [] (fun _ _ => []) (fun _ _ => by as_aux_lemma => kernel_rfl)) (fun _ _ => trivial)
  · exact Obl.brings (o_run 4 [] [] (fun _ _ => []) (fun _ _ => by as_aux_lemma => kernel_rfl)) (fun _ _ => trivial)
  · exact Obl.brings (o_run 5 [] [] (fun _ _ => []) (fun _ _ => by as_aux_lemma => kernel_rfl)) (fun _ _ => trivial)
  · exact Obl.brings (o_run 6 [] [] (fun _ _ => []) (fun _ _ => by as_aux_lemma => kernel_rfl)) (fun _ _ => trivial)
  · exact Obl.brings (o_run 7 [] [] (fun _ _ => []) (fun _ _ => by as_aux_lemma => kernel_rfl)) (fun _ _ => trivial)
  · exact Obl.brings (o_run 8 [] [] (fun _ _ => []) (fun _ _ => by as_aux_lemma => kernel_rfl)) (fun _ _ => trivial)
  · exact Obl.brings (o_run 9 [] [] (fun _ _ => []) (fun _ _ => by as_aux_lemma => kernel_rfl)) (fun _ _ => trivial)
theorem rsize_any_r3 (a : Option Addr) (c : Nat) (B : List UInt8) (z : Int) (q : Nat) (w0 : World) (F : World → Prop) : Reg Try.prog 2 (regOps Try.f14 2) false 68 [(0, (.slice a (B).length c)), (2, (.int .u64 ((q : Nat) : Int))), (6, (.int .u64 0)), (7, (.int .i64 0)), (8, (.int .i64 0)), (9, (.int .u64 ((rdV B z 1 : Nat) : Int))), (10, (.int .i64 (rdN B.length z 1))), (11, (.int .i64 (rdE B.length z 1)))] w0 [] F
    (fun _ => [(0, (.slice a (B).length c)), (2, (.int .u64 ((q : Nat) : Int))), (6, (.int .u64 0)), (7, (.int .i64 0)), (8, (.int .i64 0)), (9, (.int .u64 ((rdV B z 1 : Nat) : Int))), (10, (.int .i64 (rdN B.length z 1))), (11, (.int .i64 (rdE B.length z 1))), (22, (.bool ((rdE B.length z 1) != 0)))])
    (fun _ => []) := by
  refine reg_seq [0, 1] [0, 2, 6, 7, 8, 9, 10, 11, 22] 2
    (fun _ ι => ([(.int .i64 (rdE B.length z 1)), (.bool ((rdE B.length z 1) != 0))] : List Value).getD ι undef)
    (fun _ ι => ([{}, {}] : List Eff).getD ι {})
    (by as_aux_lemma => kernel_rfl) (by as_aux_lemma => kernel_rfl) (fun _ => by as_aux_lemma => kernel_rfl) (fun _ => by as_aux_lemma => kernel_rfl) ⟨⟨trivial, ?_⟩, ?_⟩
  · exact o_run 0 [] [] (fun _ _ => []) (fun _ _ => by as_aux_lemma => kernel_rfl)
  · exact o_run 1 [] [] (fun _ _ => []) (fun _ _ => by as_aux_lemma => kernel_rfl)
theorem rsize_any_r4 (a : Option Addr) (c : Nat) (B : List UInt8) (z : Int) (q : Nat) (w0 : World) (F : World → Prop) : Reg Try.prog 3 (regOps Try.f14 3) false 68 [(0, (.slice a (B).length c)), (2, (.int .u64 ((q : Nat) : Int))), (6, (.int .u64 0)), (7, (.int .i64 0)), (8, (.int .i64 0)), (9, (.int .u64 ((rdV B z 1 : Nat) : Int))), (10, (.int .i64 (rdN B.length z 1))), (11, (.int .i64 (rdE B.length z 1))), (22, (.bool true))] w0 [] F
    (fun _ => [(0, (.slice a (B).length c)), (2, (.int .u64 ((q : Nat) : Int))), (6, (.int .u64 0)), (7, (.int .i64 0)), (8, (.int .i64 (rdE B.length z 1))), (9, (.int .u64 ((rdV B z 1 : Nat) : Int))), (10, (.int .i64 (rdN B.length z 1))), (11, (.int .i64 (rdE B.length z 1)))])
    (fun _ => []) := by
  refine reg_seq [0, 1, 3, 7] [0, 2, 6, 7, 8, 9, 10, 11] 4
    (fun _ ι => ([(.int .i64 (rdE B.length z 1)), (.int .u64 0), (.int .i64 0), (.int .i64 (rdE B.length z 1))] : List Value).getD ι undef)
    (fun _ ι => ([{}, {}, {}, {}] : List Eff).getD ι {})
    (by as_aux_lemma => kernel_rfl) (by as_aux_lemma => kernel_rfl) (fun _ => by as_aux_lemma => kernel_rfl) (fun _ => by as_aux_lemma => kernel_rfl) ⟨⟨⟨⟨trivial, ?_⟩, ?_⟩, ?_⟩, ?_⟩
  · exact o_run 0 [] [] (fun _ _ => []) (fun _ _ => by as_aux_lemma => kernel_rfl)
  · exact o_run 1 [] [] (fun _ _ => []) (fun _ _ => by as_aux_lemma => kernel_rfl)
  · exact o_run 2 [] [] (fun _ _ => []) (fun _ _ => by as_aux_lemma => kernel_rfl)
  · exact o_run 3 [] [] (fun _ _ => []) (fun _ _ => by as_aux_lemma => kernel_rfl)
theorem rsize_any_r5 (a : Option Addr) (c : Nat) (B : List UInt8) (z : Int) (q : Nat) (w0 : World) (F : World → Prop) : Reg Try.prog 4 (regOps Try.f14 4) false 68 [(0, (.slice a (B).length c)), (2, (.int .u64 ((q : Nat) : Int))), (6, (.int .u64 0)), (7, (.int .i64 0)), (8, (.int .i64 0)), (9, (.int .u64 ((rdV B z 1 : Nat) : Int))), (10, (.int .i64 (rdN B.length z 1))), (11, (.int .i64 (rdE B.length z 1))), (22, (.bool false))] w0 [] F
    (fun _ => [(0, (.slice a (B).length c)), (2, (.int .u64 ((q : Nat) : Int))), (6, (.int .u64 0)), (7, (.int .i64 0)), (8, (.int .i64 0)), (9, (.int .u64 ((rdV B z 1 : Nat) : Int))), (10, (.int .i64 (rdN B.length z 1))), (11, (.int .i64 (rdE B.length z 1))), (12, (.int .u64 ((rdV B z 1 : Nat) : Int)))])
    (fun _ => []) := by
  refine reg_seq [0, 1] [0, 2, 6, 7, 8, 9, 10, 11, 12] 2
    (fun _ ι => ([(.int .u64 ((rdV B z 1 : Nat) : Int)), (.int .u64 ((rdV B z 1 : Nat) : Int))] : List Value).getD ι undef)
    (fun _ ι => ([{}, {}] : List Eff).getD ι {})
    (by as_aux_lemma => kernel_rfl) (by as_aux_lemma => kernel_rfl) (fun _ => by as_aux_lemma => kernel_rfl) (fun _ => by as_aux_lemma => kernel_rfl) ⟨⟨trivial, ?_⟩, ?_⟩
  · exact o_run 0 [] [] (fun _ _ => []) (fun _ _ => by as_aux_lemma => kernel_rfl)
  · exact o_run 1 [] [] (fun _ _ => []) (fun _ _ => by as_aux_lemma => kernel_rfl)
theorem rsize_any_r6 (a : Option Addr) (c : Nat) (B : List UInt8) (z : Int) (q : Nat) (w0 : World) (F : World → Prop) : Reg Try.prog 5 (regOps Try.f14 5) false 68 [(0, (.slice a (B).length c)), (2, (.int .u64 ((q : Nat) : Int))), (6, (.int .u64 0)), (7, (.int .i64 0)), (8, (.int .i64 0)), (9, (.int .u64 ((rdV B z 1 : Nat) : Int))), (10, (.int .i64 (rdN B.length z 1))), (11, (.int .i64 (rdE B.length z 1))), (12, (.int .u64 ((rdV B z 1 : Nat) : Int)))] w0 [] F
    (fun _ => [(0, (.slice a (B).length c)), (2, (.int .u64 ((q : Nat) : Int))), (6, (.int .u64 0)), (7, (.int .i64 0)), (8, (.int .i64 0)), (9, (.int .u64 ((rdV B z 1 : Nat) : Int))), (10, (.int .i64 (rdN B.length z 1))), (11, (.int .i64 (rdE B.length z 1))), (12, (.int .u64 ((rdV B z 1 : Nat) : Int))), (26, (.bool (decide (253 ≤ ((rdV B z 1 : Nat) : Int)))))])
    (fun _ => []) := by
  refine reg_seq [0, 1] [0, 2, 6, 7, 8, 9, 10, 11, 12, 26] 2
    (fun _ ι => ([(.int .u64 ((rdV B z 1 : Nat) : Int)), (.bool (decide (253 ≤ ((rdV B z 1 : Nat) : Int))))] : List Value).getD ι undef)
    (fun _ ι => ([{}, {}] : List Eff).getD ι {})
    (by as_aux_lemma => kernel_rfl) (by as_aux_lemma => kernel_rfl) (fun _ => by as_aux_lemma => kernel_rfl) (fun _ => by as_aux_lemma => kernel_rfl) ⟨⟨trivial, ?_⟩, ?_⟩
  · exact o_run 0 [] [] (fun _ _ => []) (fun _ _ => by as_aux_lemma => kernel_rfl)
  · exact o_run 1 [] [] (fun _ _ => []) (fun _ _ => by as_aux_lemma => kernel_rfl)
theorem rsize_any_r7 (a : Option Addr) (c : Nat) (B : List UInt8) (z : Int) (q : Nat) (hz : -9223372036854775808 ≤ z ∧ z < 9223372036854775808) (hBl : B.length ≤ 140737488351232) (hq : q < 18446744073709551616) (hb1 : ((rdE B.length z 1) != 0) = false) (hb2 : (decide (253 ≤ ((rdV B z 1 : Nat) : Int))) = true) (w0 : World) (F : World → Prop) : Reg Try.prog 6 (regOps Try.f14 6) false 68 [(0, (.slice a (B).length c)), (2, (.int .u64 ((q : Nat) : Int))), (6, (.int .u64 0)), (7, (.int .i64 0)), (8, (.int .i64 0)), (9, (.int .u64 ((rdV B z 1 : Nat) : Int))), (10, (.int .i64 (rdN B.length z 1))), (11, (.int .i64 (rdE B.length z 1))), (12, (.int .u64 ((rdV B z 1 : Nat) : Int))), (26, (.bool true))] w0 [] F
    (fun _ => [(0, (.slice a (B).length c)), (2, (.int .u64 ((q : Nat) : Int))), (6, (.int .u64 0)), (7, (.int .i64 0)), (8, (.int .i64 0)), (9, (.int .u64 ((rdV B z 1 : Nat) : Int))), (10, (.int .i64 (rdN B.length z 1))), (11, (.int .i64 (rdE B.length z 1))), (12, (.int .u64 ((rdV B z 1 : Nat) : Int))), (13, (.int .i64 ((2 ^ (rdV B z 1 - 252) : Nat) : Int)))])
    (fun _ => []) := by
  refine reg_seq [0, 1, 3, 7] [0, 2, 6, 7, 8, 9, 10, 11, 12, 13] 4
    (fun _ ι => ([(.int .u64 ((rdV B z 1 : Nat) : Int)), (.int .u64 ((rdV B z 1 - 253 : Nat) : Int)), (.int .i64 ((2 ^ (rdV B z 1 - 252) : Nat) : Int)), (.int .i64 ((2 ^ (rdV B z 1 - 252) : Nat) : Int))] : List Value).getD ι undef)
    (fun _ ι => ([{}, {}, {}, {}] : List Eff).getD ι {})
    (by as_aux_lemma => kernel_rfl) (by as_aux_lemma => kernel_rfl) (fun _ => by as_aux_lemma => kernel_rfl) (fun _ => by as_aux_lemma => kernel_rfl) ⟨⟨⟨⟨trivial, ?_⟩, ?_⟩, ?_⟩, ?_⟩
  · exact o_run 0 [] [] (fun _ _ => []) (fun _ _ => by as_aux_lemma => kernel_rfl)
  · exact o_as 1 (fun _ => (.int .u64 (IntKind.u64.wrap (((rdV B z 1 : Nat) : Int) - 253)))) (fun _ => (.int .u64 ((rdV B z 1 - 253 : Nat) : Int))) (fun _ _ => by as_aux_lemma => kernel_rfl) (fun _ => congrArg (Value.int .u64) (u64_sub253 (rdV_lt B z 1) (by have := bne0' hb1; have := rdE_in (bne0' hb1); have := of_decide_eq_true hb2; have := hz; have := hBl; have := hq; omega)))
  · exact o_bin 2 .shl 3 (fun _ => (.int .i64 2)) (fun _ => (.int .u64 ((rdV B z 1 - 253 : Nat) : Int))) (fun _ => (.int .i64 ((2 ^ (rdV B z 1 - 252) : Nat) : Int))) (fun _ => by as_aux_lemma => kernel_rfl) (fun _ _ _ _ => by as_aux_lemma => kernel_rfl) (fun _ w => run_shl_sz (rdV_lt B z 1) (by have := bne0' hb1; have := rdE_in (bne0' hb1); have := of_decide_eq_true hb2; have := hz; have := hBl; have := hq; omega) w)
  · exact o_run 3 [] [] (fun _ _ => []) (fun _ _ => by as_aux_lemma => kernel_rfl)
theorem rsize_any_r8 (a : Option Addr) (c : Nat) (B : List UInt8) (z : Int) (q : Nat) (hBl : B.length ≤ 140737488351232) (w0 : World) : RegF Try.prog 7 (regOps Try.f14 7) false 68 [(0, (.slice a (B).length c)), (2, (.int .u64 ((q : Nat) : Int))), (6, (.int .u64 0)), (7, (.int .i64 0)), (8, (.int .i64 0)), (9, (.int .u64 ((rdV B z 1 : Nat) : Int))), (10, (.int .i64 (rdN B.length z 1))), (11, (.int .i64 (rdE B.length z 1))), (12, (.int .u64 ((rdV B z 1 : Nat) : Int))), (13, (.int .i64 ((2 ^ (rdV B z 1 - 252) : Nat) : Int)))] w0 [] (fun w => Bs w a c B ∧ True)
    (fun _ => [(2, (.int .u64 ((q : Nat) : Int))), (6, (.int .u64 0)), (7, (.int .i64 0)), (8, (.int .i64 0)), (9, (.int .u64 ((rdV B z 1 : Nat) : Int))), (10, (.int .i64 (rdN B.length (rdN B.length z 1) (2 ^ (rdV B z 1 - 252))))), (11, (.int .i64 (rdE B.length (rdN B.length z 1) (2 ^ (rdV B z 1 - 252))))), (12, (.int .u64 ((rdV B (rdN B.length z 1) (2 ^ (rdV B z 1 - 252)) : Nat) : Int)))])
    (fun _ => []) (fun _ => (fun w => Bs w a c B ∧ True)) := by
  refine reg_seq_f [0, 1, 3, 7, 15, 31, 63, 127, 255, 511, 1023] [2, 6, 7, 8, 9, 10, 11, 12] 11
    (fun _ ι => ([(.slice a (B).length c), (.int .i64 (rdN B.length z 1)), (.int .i64 ((2 ^ (rdV B z 1 - 252) : Nat) : Int)), (.tuple #[(.int .u64 ((rdV B (rdN B.length z 1) (2 ^ (rdV B z 1 - 252)) : Nat) : Int)), (.int .i64 (rdN B.length (rdN B.length z 1) (2 ^ (rdV B z 1 - 252)))), (.int .i64 (rdE B.length (rdN B.length z 1) (2 ^ (rdV B z 1 - 252))))]), (.tuple #[(.int .u64 ((rdV B (rdN B.length z 1) (2 ^ (rdV B z 1 - 252)) : Nat) : Int)), (.int .i64 (rdN B.length (rdN B.length z 1) (2 ^ (rdV B z 1 - 252)))), (.int .i64 (rdE B.length (rdN B.length z 1) (2 ^ (rdV B z 1 - 252))))]), (.int .u64 ((rdV B (rdN B.length z 1) (2 ^ (rdV B z 1 - 252)) : Nat) : Int)), (.int .i64 (rdN B.length (rdN B.length z 1) (2 ^ (rdV B z 1 - 252)))), (.int .i64 (rdE B.length (rdN B.length z 1) (2 ^ (rdV B z 1 - 252)))), (.int .u64 ((rdV B (rdN B.length z 1) (2 ^ (rdV B z 1 - 252)) : Nat) : Int)), (.int .i64 (rdN B.length (rdN B.length z 1) (2 ^ (rdV B z 1 - 252)))), (.int .i64 (rdE B.length (rdN B.length z 1) (2 ^ (rdV B z 1 - 252))))] : List Value).getD ι undef)
    (fun _ ι => ([{}, {}, {}, {}, {}, {}, {}, {}, {}, {}, {}] : List Eff).getD ι {})
    (fun _ ι => ([(fun _ => True), (fun _ => True), (fun _ => True), (fun _ => True), (fun _ => True), (fun _ => True), (fun _ => True), (fun _ => True), (fun _ => True), (fun _ => True), (fun _ => True)] : List (World → Prop)).getD ι (fun _ => True))
    (by as_aux_lemma => kernel_rfl) (by as_aux_lemma => kernel_rfl) (fun _ => by as_aux_lemma => kernel_rfl) (fun _ => by as_aux_lemma => kernel_rfl) (fun _ _ hF _ => ⟨hF.1, trivial⟩) ⟨⟨⟨⟨⟨⟨⟨⟨⟨⟨⟨trivial, ?_⟩, ?_⟩, ?_⟩, ?_⟩, ?_⟩, ?_⟩, ?_⟩, ?_⟩, ?_⟩, ?_⟩, ?_⟩
  · exact Obl.brings (o_run 0 [] [] (fun _ _ => []) (fun _ _ => by as_aux_lemma => kernel_rfl)) (fun _ _ => trivial)
  · exact Obl.brings (o_run 1 [] [] (fun _ _ => []) (fun _ _ => by as_aux_lemma => kernel_rfl)) (fun _ _ => trivial)
  · exact Obl.brings (o_run 2 [] [] (fun _ _ => []) (fun _ _ => by as_aux_lemma => kernel_rfl)) (fun _ _ => trivial)
  · exact o_callP 3 46 (fun _ => #[(.slice a (B).length c), (.int .i64 (rdN B.length z 1)), (.int .i64 ((2 ^ (rdV B z 1 - 252) : Nat) : Int))]) (fun _ => (.tuple #[(.int .u64 ((rdV B (rdN B.length z 1) (2 ^ (rdV B z 1 - 252)) : Nat) : Int)), (.int .i64 (rdN B.length (rdN B.length z 1) (2 ^ (rdV B z 1 - 252)))), (.int .i64 (rdE B.length (rdN B.length z 1) (2 ^ (rdV B z 1 - 252))))])) (fun _ _ => (by as_aux_lemma => kernel_rfl)) (fun _ => (by as_aux_lemma => kernel_rfl)) (fun _ _ => (by as_aux_lemma => kernel_rfl)) (fun _ _ => trivial) (fun _ _ w hG => number_any a c B (rdN B.length z 1) (2 ^ (rdV B z 1 - 252)) (by have := rdN_rng hBl z 1; have := hBl; omega) hBl (szw_le (rdV_lt B z 1)) w hG.facts0.now.1)
  · exact Obl.brings (o_run 4 [] [] (fun _ _ => []) (fun _ _ => by as_aux_lemma => kernel_rfl)) (fun _ _ => trivial)
  · exact Obl.brings (o_run 5 [] [] (fun _ _ => []) (fun _ _ => by as_aux_lemma => kernel_rfl)) (fun _ _ => trivial)
  · exact Obl.brings (o_run 6 [] [] (fun _ _ => []) (fun _ _ => by as_aux_lemma => kernel_rfl)) (fun _ _ => trivial)
  · exact Obl.brings (o_run 7 [] [] (fun _ _ => []) (fun _ _ => by as_aux_lemma => kernel_rfl)) (fun _ _ => trivial)
  · exact Obl.brings (o_run 8 [] [] (fun _ _ => []) (fun _ _ => by as_aux_lemma => kernel_rfl)) (fun _ _ => trivial)
  · exact Obl.brings (o_run 9 [] [] (fun _ _ => []) (fun _ _ => by as_aux_lemma => kernel_rfl)) (fun _ _ => trivial)
  · exact Obl.brings (o_run 10 [] [] (fun _ _ => []) (fun _ _ => by as_aux_lemma => kernel_rfl)) (fun _ _ => trivial)
theorem rsize_any_r9 (B : List UInt8) (z : Int) (q : Nat) (w0 : World) (F : World → Prop) : Reg Try.prog 8 (regOps Try.f14 8) false 68 [(2, (.int .u64 ((q : Nat) : Int))), (6, (.int .u64 0)), (7, (.int .i64 0)), (8, (.int .i64 0)), (9, (.int .u64 ((rdV B z 1 : Nat) : Int))), (10, (.int .i64 (rdN B.length (rdN B.length z 1) (2 ^ (rdV B z 1 - 252))))), (11, (.int .i64 (rdE B.length (rdN B.length z 1) (2 ^ (rdV B z 1 - 252))))), (12, (.int .u64 ((rdV B (rdN B.length z 1) (2 ^ (rdV B z 1 - 252)) : Nat) : Int)))] w0 [] F
    (fun _ => [(2, (.int .u64 ((q : Nat) : Int))), (6, (.int .u64 0)), (7, (.int .i64 0)), (8, (.int .i64 0)), (9, (.int .u64 ((rdV B z 1 : Nat) : Int))), (10, (.int .i64 (rdN B.length (rdN B.length z 1) (2 ^ (rdV B z 1 - 252))))), (11, (.int .i64 (rdE B.length (rdN B.length z 1) (2 ^ (rdV B z 1 - 252))))), (12, (.int .u64 ((rdV B (rdN B.length z 1) (2 ^ (rdV B z 1 - 252)) : Nat) : Int))), (39, (.bool ((rdE B.length (rdN B.length z 1) (2 ^ (rdV B z 1 - 252))) != 0)))])
    (fun _ => []) := by
  refine reg_seq [0, 1] [2, 6, 7, 8, 9, 10, 11, 12, 39] 2
    (fun _ ι => ([(.int .i64 (rdE B.length (rdN B.length z 1) (2 ^ (rdV B z 1 - 252)))), (.bool ((rdE B.length (rdN B.length z 1) (2 ^ (rdV B z 1 - 252))) != 0))] : List Value).getD ι undef)
    (fun _ ι => ([{}, {}] : List Eff).getD ι {})
    (by as_aux_lemma => kernel_rfl) (by as_aux_lemma => kernel_rfl) (fun _ => by as_aux_lemma => kernel_rfl) (fun _ => by as_aux_lemma => kernel_rfl) ⟨⟨trivial, ?_⟩, ?_⟩
  · exact o_run 0 [] [] (fun _ _ => []) (fun _ _ => by as_aux_lemma => kernel_rfl)
  · exact o_run 1 [] [] (fun _ _ => []) (fun _ _ => by as_aux_lemma => kernel_rfl)
theorem rsize_any_r10 (B : List UInt8) (z : Int) (q : Nat) (w0 : World) (F : World → Prop) : Reg Try.prog 9 (regOps Try.f14 9) false 68 [(2, (.int .u64 ((q : Nat) : Int))), (6, (.int .u64 0)), (7, (.int .i64 0)), (8, (.int .i64 0)), (9, (.int .u64 ((rdV B z 1 : Nat) : Int))), (10, (.int .i64 (rdN B.length (rdN B.length z 1) (2 ^ (rdV B z 1 - 252))))), (11, (.int .i64 (rdE B.length (rdN B.length z 1) (2 ^ (rdV B z 1 - 252))))), (12, (.int .u64 ((rdV B (rdN B.length z 1) (2 ^ (rdV B z 1 - 252)) : Nat) : Int))), (39, (.bool true))] w0 [] F
    (fun _ => [(2, (.int .u64 ((q : Nat) : Int))), (6, (.int .u64 0)), (7, (.int .i64 0)), (8, (.int .i64 (rdE B.length (rdN B.length z 1) (2 ^ (rdV B z 1 - 252))))), (9, (.int .u64 ((rdV B z 1 : Nat) : Int))), (10, (.int .i64 (rdN B.length (rdN B.length z 1) (2 ^ (rdV B z 1 - 252))))), (12, (.int .u64 ((rdV B (rdN B.length z 1) (2 ^ (rdV B z 1 - 252)) : Nat) : Int)))])
    (fun _ => []) := by
  refine reg_seq [0, 1, 3, 7] [2, 6, 7, 8, 9, 10, 12] 4
    (fun _ ι => ([(.int .i64 (rdE B.length (rdN B.length z 1) (2 ^ (rdV B z 1 - 252)))), (.int .u64 0), (.int .i64 0), (.int .i64 (rdE B.length (rdN B.length z 1) (2 ^ (rdV B z 1 - 252))))] : List Value).getD ι undef)
    (fun _ ι => ([{}, {}, {}, {}] : List Eff).getD ι {})
    (by as_aux_lemma => kernel_rfl) (by as_aux_lemma => kernel_rfl) (fun _ => by as_aux_lemma => kernel_rfl) (fun _ => by as_aux_lemma => kernel_rfl) ⟨⟨⟨⟨trivial, ?_⟩, ?_⟩, ?_⟩, ?_⟩
  · exact o_run 0 [] [] (fun _ _ => []) (fun _ _ => by as_aux_lemma => kernel_rfl)
  · exact o_run 1 [] [] (fun _ _ => []) (fun _ _ => by as_aux_lemma => kernel_rfl)
  · exact o_run 2 [] [] (fun _ _ => []) (fun _ _ => by as_aux_lemma => kernel_rfl)
  · exact o_run 3 [] [] (fun _ _ => []) (fun _ _ => by as_aux_lemma => kernel_rfl)
theorem rsize_any_r11 (B : List UInt8) (z : Int) (q : Nat) (hb4 : (((rdV B z 1 : Nat) : Int) == 253) = true) (hb5 : (decide (((rdV B (rdN B.length z 1) (2 ^ (rdV B z 1 - 252)) : Nat) : Int) < 253)) = true) (w0 : World) (F : World → Prop) : Reg Try.prog 10 (regOps Try.f14 10) false 68 [(2, (.int .u64 ((q : Nat) : Int))), (6, (.int .u64 0)), (7, (.int .i64 0)), (8, (.int .i64 0)), (9, (.int .u64 ((rdV B z 1 : Nat) : Int))), (10, (.int .i64 (rdN B.length (rdN B.length z 1) (2 ^ (rdV B z 1 - 252))))), (11, (.int .i64 (rdE B.length (rdN B.length z 1) (2 ^ (rdV B z 1 - 252))))), (12, (.int .u64 ((rdV B (rdN B.length z 1) (2 ^ (rdV B z 1 - 252)) : Nat) : Int))), (39, (.bool false))] w0 [] F
    (fun _ => [(2, (.int .u64 ((q : Nat) : Int))), (6, (.int .u64 0)), (7, (.int .i64 0)), (8, (.int .i64 0)), (10, (.int .i64 (rdN B.length (rdN B.length z 1) (2 ^ (rdV B z 1 - 252))))), (12, (.int .u64 ((rdV B (rdN B.length z 1) (2 ^ (rdV B z 1 - 252)) : Nat) : Int))), (62, (.bool true))])
    (fun _ => []) := by
  refine reg_seq [0, 1, 3, 7, 15, 31, 63, 127, 255, 511, 1023, 2047, 4095, 8191, 16383, 32767, 65535, 131071, 262143, 524287, 1048575, 2097151] [2, 6, 7, 8, 10, 12, 62] 22
    (fun _ ι => ([(.int .u64 ((rdV B z 1 : Nat) : Int)), (.bool true), (.bool true), (.int .u64 ((rdV B (rdN B.length z 1) (2 ^ (rdV B z 1 - 252)) : Nat) : Int)), (.bool true), (.bool true), (.bool true), undef, undef, undef, undef, undef, undef, (.bool true), (.bool true), undef, undef, undef, undef, undef, undef, (.bool true)] : List Value).getD ι undef)
    (fun _ ι => ([{}, {}, {}, {}, {}, {}, {}, {}, {}, {}, {}, {}, {}, {}, {}, {}, {}, {}, {}, {}, {}, {}] : List Eff).getD ι {})
    (by as_aux_lemma => kernel_rfl) (by as_aux_lemma => kernel_rfl) (fun _ => by as_aux_lemma => kernel_rfl) (fun _ => by as_aux_lemma => kernel_rfl) ⟨⟨⟨⟨⟨⟨⟨⟨⟨⟨⟨⟨⟨⟨⟨⟨⟨⟨⟨⟨⟨⟨trivial, ?_⟩, ?_⟩, ?_⟩, ?_⟩, ?_⟩, ?_⟩, ?_⟩, ?_⟩, ?_⟩, ?_⟩, ?_⟩, ?_⟩, ?_⟩, ?_⟩, ?_⟩, ?_⟩, ?_⟩, ?_⟩, ?_⟩, ?_⟩, ?_⟩, ?_⟩
  · exact o_run 0 [] [] (fun _ _ => []) (fun _ _ => by as_aux_lemma => kernel_rfl)
  · exact o_as 1 (fun _ => (.bool (((rdV B z 1 : Nat) : Int) == 253))) (fun _ => (.bool true)) (fun _ _ => by as_aux_lemma => kernel_rfl) (fun _ => congrArg Value.bool hb4)
  · exact o_run 2 [] [] (fun _ _ => []) (fun _ _ => by as_aux_lemma => kernel_rfl)
  · exact o_run 3 [] [] (fun _ _ => []) (fun _ _ => by as_aux_lemma => kernel_rfl)
  · exact o_as 4 (fun _ => (.bool (decide (((rdV B (rdN B.length z 1) (2 ^ (rdV B z 1 - 252)) : Nat) : Int) < 253)))) (fun _ => (.bool true)) (fun _ _ => by as_aux_lemma => kernel_rfl) (fun _ => congrArg Value.bool hb5)
  · exact o_run 5 [] [] (fun _ _ => []) (fun _ _ => by as_aux_lemma => kernel_rfl)
  · exact o_run 6 [] [] (fun _ _ => []) (fun _ _ => by as_aux_lemma => kernel_rfl)
  · exact o_skip 7 (fun _ => by as_aux_lemma => kernel_rfl)
  · exact o_skip 8 (fun _ => by as_aux_lemma => kernel_rfl)
  · exact o_skip 9 (fun _ => by as_aux_lemma => kernel_rfl)
  · exact o_skip 10 (fun _ => by as_aux_lemma => kernel_rfl)
  · exact o_skip 11 (fun _ => by as_aux_lemma => kernel_rfl)
  · exact o_skip 12 (fun _ => by as_aux_lemma => kernel_rfl)
  · exact o_run 13 [] [] (fun _ _ => []) (fun _ _ => by as_aux_lemma => kernel_rfl)
  · exact o_run 14 [] [] (fun _ _ => []) (fun _ _ => by as_aux_lemma => kernel_rfl)
  · exact o_skip 15 (fun _ => by as_aux_lemma => kernel_rfl)
  · exact o_skip 16 (fun _ => by as_aux_lemma => kernel_rfl)
  · exact o_skip 17 (fun _ => by as_aux_lemma => kernel_rfl)
  · exact o_skip 18 (fun _ => by as_aux_lemma => kernel_rfl)
  · exact o_skip 19 (fun _ => by as_aux_lemma => kernel_rfl)
  · exact o_skip 20 (fun _ => by as_aux_lemma => kernel_rfl)
  · exact o_run 21 [] [] (fun _ _ => []) (fun _ _ => by as_aux_lemma => kernel_rfl)
theorem rsize_any_r12 (B : List UInt8) (z : Int) (q : Nat) (w0 : World) (F : World → Prop) : Reg Try.prog 11 (regOps Try.f14 11) false 68 [(2, (.int .u64 ((q : Nat) : Int))), (6, (.int .u64 0)), (7, (.int .i64 0)), (8, (.int .i64 0)), (10, (.int .i64 (rdN B.length (rdN B.length z 1) (2 ^ (rdV B z 1 - 252))))), (12, (.int .u64 ((rdV B (rdN B.length z 1) (2 ^ (rdV B z 1 - 252)) : Nat) : Int))), (62, (.bool true))] w0 [] F
    (fun _ => [(2, (.int .u64 ((q : Nat) : Int))), (6, (.int .u64 0)), (7, (.int .i64 0)), (8, (.int .i64 3)), (10, (.int .i64 (rdN B.length (rdN B.length z 1) (2 ^ (rdV B z 1 - 252))))), (12, (.int .u64 ((rdV B (rdN B.length z 1) (2 ^ (rdV B z 1 - 252)) : Nat) : Int)))])
    (fun _ => []) := by
  refine reg_seq [0, 1, 3] [2, 6, 7, 8, 10, 12] 3
    (fun _ ι => ([(.int .u64 0), (.int .i64 0), (.int .i64 3)] : List Value).getD ι undef)
    (fun _ ι => ([{}, {}, {}] : List Eff).getD ι {})
    (by as_aux_lemma => kernel_rfl) (by as_aux_lemma => kernel_rfl) (fun _ => by as_aux_lemma => kernel_rfl) (fun _ => by as_aux_lemma => kernel_rfl) ⟨⟨⟨trivial, ?_⟩, ?_⟩, ?_⟩
  · exact o_run 0 [] [] (fun _ _ => []) (fun _ _ => by as_aux_lemma => kernel_rfl)
  · exact o_run 1 [] [] (fun _ _ => []) (fun _ _ => by as_aux_lemma => kernel_rfl)
  · exact o_run 2 [] [] (fun _ _ => []) (fun _ _ => by as_aux_lemma => kernel_rfl)
theorem rsize_any_r13 (B : List UInt8) (z : Int) (q : Nat) (hb4 : (((rdV B z 1 : Nat) : Int) == 253) = true) (hb5 : (decide (((rdV B (rdN B.length z 1) (2 ^ (rdV B z 1 - 252)) : Nat) : Int) < 253)) = false) (w0 : World) (F : World → Prop) : Reg Try.prog 10 (regOps Try.f14 10) false 68 [(2, (.int .u64 ((q : Nat) : Int))), (6, (.int .u64 0)), (7, (.int .i64 0)), (8, (.int .i64 0)), (9, (.int .u64 ((rdV B z 1 : Nat) : Int))), (10, (.int .i64 (rdN B.length (rdN B.length z 1) (2 ^ (rdV B z 1 - 252))))), (11, (.int .i64 (rdE B.length (rdN B.length z 1) (2 ^ (rdV B z 1 - 252))))), (12, (.int .u64 ((rdV B (rdN B.length z 1) (2 ^ (rdV B z 1 - 252)) : Nat) : Int))), (39, (.bool false))] w0 [] F
    (fun _ => [(2, (.int .u64 ((q : Nat) : Int))), (6, (.int .u64 0)), (7, (.int .i64 0)), (8, (.int .i64 0)), (10, (.int .i64 (rdN B.length (rdN B.length z 1) (2 ^ (rdV B z 1 - 252))))), (12, (.int .u64 ((rdV B (rdN B.length z 1) (2 ^ (rdV B z 1 - 252)) : Nat) : Int))), (62, (.bool false))])
    (fun _ => []) := by
  refine reg_seq [0, 1, 3, 7, 15, 31, 63, 127, 255, 511, 1023, 2047, 4095, 8191, 16383, 32767, 65535, 131071, 262143, 524287, 1048575, 2097151] [2, 6, 7, 8, 10, 12, 62] 22
    (fun _ ι => ([(.int .u64 ((rdV B z 1 : Nat) : Int)), (.bool true), (.bool true), (.int .u64 ((rdV B (rdN B.length z 1) (2 ^ (rdV B z 1 - 252)) : Nat) : Int)), (.bool false), (.bool false), (.bool false), (.int .u64 ((rdV B z 1 : Nat) : Int)), (.bool false), (.bool false), undef, undef, (.bool false), (.bool false), (.bool false), (.int .u64 ((rdV B z 1 : Nat) : Int)), (.bool false), (.bool false), undef, undef, (.bool false), (.bool false)] : List Value).getD ι undef)
    (fun _ ι => ([{}, {}, {}, {}, {}, {}, {}, {}, {}, {}, {}, {}, {}, {}, {}, {}, {}, {}, {}, {}, {}, {}] : List Eff).getD ι {})
    (by as_aux_lemma => kernel_rfl) (by as_aux_lemma => kernel_rfl) (fun _ => by as_aux_lemma => kernel_rfl) (fun _ => by as_aux_lemma => kernel_rfl) ⟨⟨⟨⟨⟨⟨⟨⟨⟨⟨⟨⟨⟨⟨⟨⟨⟨⟨⟨⟨⟨⟨trivial, ?_⟩, ?_⟩, ?_⟩, ?_⟩, ?_⟩, ?_⟩, ?_⟩, ?_⟩, ?_⟩, ?_⟩, ?_⟩, ?_⟩, ?_⟩, ?_⟩, ?_⟩, ?_⟩, ?_⟩, ?_⟩, ?_⟩, ?_⟩, ?_⟩, ?_⟩
  · exact o_run 0 [] [] (fun _ _ => []) (fun _ _ => by as_aux_lemma => kernel_rfl)
  · exact o_as 1 (fun _ => (.bool (((rdV B z 1 : Nat) : Int) == 253))) (fun _ => (.bool true)) (fun _ _ => by as_aux_lemma => kernel_rfl) (fun _ => congrArg Value.bool hb4)
  · exact o_run 2 [] [] (fun _ _ => []) (fun _ _ => by as_aux_lemma => kernel_rfl)
  · exact o_run 3 [] [] (fun _ _ => []) (fun _ _ => by as_aux_lemma => kernel_rfl)
  · exact o_as 4 (fun _ => (.bool (decide (((rdV B (rdN B.length z 1) (2 ^ (rdV B z 1 - 252)) : Nat) : Int) < 253)))) (fun _ => (.bool false)) (fun _ _ => by as_aux_lemma => kernel_rfl) (fun _ => congrArg Value.bool hb5)
  · exact o_run 5 [] [] (fun _ _ => []) (fun _ _ => by as_aux_lemma => kernel_rfl)
  · exact o_run 6 [] [] (fun _ _ => []) (fun _ _ => by as_aux_lemma => kernel_rfl)
  · exact o_run 7 [] [] (fun _ _ => []) (fun _ _ => by as_aux_lemma => kernel_rfl)
  · exact o_as 8 (fun _ => (.bool (((rdV B z 1 : Nat) : Int) == 254))) (fun _ => (.bool false)) (fun _ _ => by as_aux_lemma => kernel_rfl) (fun _ => congrArg Value.bool (beq_other (eqN (k := 253) hb4) (by decide)))
  · exact o_run 9 [] [] (fun _ _ => []) (fun _ _ => by as_aux_lemma => kernel_rfl)
  · exact o_skip 10 (fun _ => by as_aux_lemma => kernel_rfl)
  · exact o_skip 11 (fun _ => by as_aux_lemma => kernel_rfl)
  · exact o_run 12 [] [] (fun _ _ => []) (fun _ _ => by as_aux_lemma => kernel_rfl)
  · exact o_run 13 [] [] (fun _ _ => []) (fun _ _ => by as_aux_lemma => kernel_rfl)
  · exact o_run 14 [] [] (fun _ _ => []) (fun _ _ => by as_aux_lemma => kernel_rfl)
  · exact o_run 15 [] [] (fun _ _ => []) (fun _ _ => by as_aux_lemma => kernel_rfl)
  · exact o_as 16 (fun _ => (.bool (((rdV B z 1 : Nat) : Int) == 255))) (fun _ => (.bool false)) (fun _ _ => by as_aux_lemma => kernel_rfl) (fun _ => congrArg Value.bool (beq_other (eqN (k := 253) hb4) (by decide)))
  · exact o_run 17 [] [] (fun _ _ => []) (fun _ _ => by as_aux_lemma => kernel_rfl)
  · exact o_skip 18 (fun _ => by as_aux_lemma => kernel_rfl)
  · exact o_skip 19 (fun _ => by as_aux_lemma => kernel_rfl)
  · exact o_run 20 [] [] (fun _ _ => []) (fun _ _ => by as_aux_lemma => kernel_rfl)
  · exact o_run 21 [] [] (fun _ _ => []) (fun _ _ => by as_aux_lemma => kernel_rfl)
theorem rsize_any_r14 (B : List UInt8) (z : Int) (q : Nat) (w0 : World) (F : World → Prop) : Reg Try.prog 12 (regOps Try.f14 12) false 68 [(2, (.int .u64 ((q : Nat) : Int))), (6, (.int .u64 0)), (7, (.int .i64 0)), (8, (.int .i64 0)), (10, (.int .i64 (rdN B.length (rdN B.length z 1) (2 ^ (rdV B z 1 - 252))))), (12, (.int .u64 ((rdV B (rdN B.length z 1) (2 ^ (rdV B z 1 - 252)) : Nat) : Int))), (62, (.bool false))] w0 [] F
    (fun _ => [(6, (.int .u64 0)), (7, (.int .i64 0)), (8, (.int .i64 0)), (10, (.int .i64 (rdN B.length (rdN B.length z 1) (2 ^ (rdV B z 1 - 252))))), (12, (.int .u64 ((rdV B (rdN B.length z 1) (2 ^ (rdV B z 1 - 252)) : Nat) : Int))), (65, (.bool (decide (((q : Nat) : Int) < ((rdV B (rdN B.length z 1) (2 ^ (rdV B z 1 - 252)) : Nat) : Int)))))])
    (fun _ => []) := by
  refine reg_seq [0, 1, 3] [6, 7, 8, 10, 12, 65] 3
    (fun _ ι => ([(.int .u64 ((rdV B (rdN B.length z 1) (2 ^ (rdV B z 1 - 252)) : Nat) : Int)), (.int .u64 ((q : Nat) : Int)), (.bool (decide (((q : Nat) : Int) < ((rdV B (rdN B.length z 1) (2 ^ (rdV B z 1 - 252)) : Nat) : Int))))] : List Value).getD ι undef)
    (fun _ ι => ([{}, {}, {}] : List Eff).getD ι {})
    (by as_aux_lemma => kernel_rfl) (by as_aux_lemma => kernel_rfl) (fun _ => by as_aux_lemma => kernel_rfl) (fun _ => by as_aux_lemma => kernel_rfl) ⟨⟨⟨trivial, ?_⟩, ?_⟩, ?_⟩
  · exact o_run 0 [] [] (fun _ _ => []) (fun _ _ => by as_aux_lemma => kernel_rfl)
  · exact o_run 1 [] [] (fun _ _ => []) (fun _ _ => by as_aux_lemma => kernel_rfl)
  · exact o_run 2 [] [] (fun _ _ => []) (fun _ _ => by as_aux_lemma => kernel_rfl)
theorem rsize_any_r15 (B : List UInt8) (z : Int) (w0 : World) (F : World → Prop) : Reg Try.prog 13 (regOps Try.f14 13) false 68 [(6, (.int .u64 0)), (7, (.int .i64 0)), (8, (.int .i64 0)), (10, (.int .i64 (rdN B.length (rdN B.length z 1) (2 ^ (rdV B z 1 - 252))))), (12, (.int .u64 ((rdV B (rdN B.length z 1) (2 ^ (rdV B z 1 - 252)) : Nat) : Int))), (65, (.bool true))] w0 [] F
    (fun _ => [(6, (.int .u64 0)), (7, (.int .i64 0)), (8, (.int .i64 4)), (10, (.int .i64 (rdN B.length (rdN B.length z 1) (2 ^ (rdV B z 1 - 252))))), (12, (.int .u64 ((rdV B (rdN B.length z 1) (2 ^ (rdV B z 1 - 252)) : Nat) : Int)))])
    (fun _ => []) := by
  refine reg_seq [0, 1, 3] [6, 7, 8, 10, 12] 3
    (fun _ ι => ([(.int .u64 0), (.int .i64 0), (.int .i64 4)] : List Value).getD ι undef)
    (fun _ ι => ([{}, {}, {}] : List Eff).getD ι {})
    (by as_aux_lemma => kernel_rfl) (by as_aux_lemma => kernel_rfl) (fun _ => by as_aux_lemma => kernel_rfl) (fun _ => by as_aux_lemma => kernel_rfl) ⟨⟨⟨trivial, ?_⟩, ?_⟩, ?_⟩
  · exact o_run 0 [] [] (fun _ _ => []) (fun _ _ => by as_aux_lemma => kernel_rfl)
  · exact o_run 1 [] [] (fun _ _ => []) (fun _ _ => by as_aux_lemma => kernel_rfl)
  · exact o_run 2 [] [] (fun _ _ => []) (fun _ _ => by as_aux_lemma => kernel_rfl)
theorem rsize_any_r16 (B : List UInt8) (z : Int) (w0 : World) (F : World → Prop) : Reg Try.prog 14 (regOps Try.f14 14) false 68 [(6, (.int .u64 0)), (7, (.int .i64 0)), (8, (.int .i64 0)), (10, (.int .i64 (rdN B.length (rdN B.length z 1) (2 ^ (rdV B z 1 - 252))))), (12, (.int .u64 ((rdV B (rdN B.length z 1) (2 ^ (rdV B z 1 - 252)) : Nat) : Int))), (65, (.bool false))] w0 [] F
    (fun _ => [(6, (.int .u64 ((rdV B (rdN B.length z 1) (2 ^ (rdV B z 1 - 252)) : Nat) : Int))), (7, (.int .i64 (rdN B.length (rdN B.length z 1) (2 ^ (rdV B z 1 - 252))))), (8, (.int .i64 0))])
    (fun _ => []) := by
  refine reg_seq [0, 1, 3, 7, 15] [6, 7, 8] 5
    (fun _ ι => ([(.int .u64 ((rdV B (rdN B.length z 1) (2 ^ (rdV B z 1 - 252)) : Nat) : Int)), (.int .i64 (rdN B.length (rdN B.length z 1) (2 ^ (rdV B z 1 - 252)))), (.int .u64 ((rdV B (rdN B.length z 1) (2 ^ (rdV B z 1 - 252)) : Nat) : Int)), (.int .i64 (rdN B.length (rdN B.length z 1) (2 ^ (rdV B z 1 - 252)))), (.int .i64 0)] : List Value).getD ι undef)
    (fun _ ι => ([{}, {}, {}, {}, {}] : List Eff).getD ι {})
    (by as_aux_lemma => kernel_rfl) (by as_aux_lemma => kernel_rfl) (fun _ => by as_aux_lemma => kernel_rfl) (fun _ => by as_aux_lemma => kernel_rfl) ⟨⟨⟨⟨⟨trivial, ?_⟩, ?_⟩, ?_⟩, ?_⟩, ?_⟩
  · exact o_run 0 [] [] (fun _ _ => []) (fun _ _ => by as_aux_lemma => kernel_rfl)
  · exact o_run 1 [] [] (fun _ _ => []) (fun _ _ => by as_aux_lemma => kernel_rfl)
  · exact o_run 2 [] [] (fun _ _ => []) (fun _ _ => by as_aux_lemma => kernel_rfl)
  · exact o_run 3 [] [] (fun _ _ => []) (fun _ _ => by as_aux_lemma => kernel_rfl)
  · exact o_run 4 [] [] (fun _ _ => []) (fun _ _ => by as_aux_lemma => kernel_rfl)
theorem rsize_any_r17 (B : List UInt8) (z : Int) (q : Nat) (hb4 : (((rdV B z 1 : Nat) : Int) == 253) = false) (hb7 : (((rdV B z 1 : Nat) : Int) == 254) = true) (hb8 : (decide (((rdV B (rdN B.length z 1) (2 ^ (rdV B z 1 - 252)) : Nat) : Int) < 65536)) = true) (w0 : World) (F : World → Prop) : Reg Try.prog 10 (regOps Try.f14 10) false 68 [(2, (.int .u64 ((q : Nat) : Int))), (6, (.int .u64 0)), (7, (.int .i64 0)), (8, (.int .i64 0)), (9, (.int .u64 ((rdV B z 1 : Nat) : Int))), (10, (.int .i64 (rdN B.length (rdN B.length z 1) (2 ^ (rdV B z 1 - 252))))), (11, (.int .i64 (rdE B.length (rdN B.length z 1) (2 ^ (rdV B z 1 - 252))))), (12, (.int .u64 ((rdV B (rdN B.length z 1) (2 ^ (rdV B z 1 - 252)) : Nat) : Int))), (39, (.bool false))] w0 [] F
    (fun _ => [(2, (.int .u64 ((q : Nat) : Int))), (6, (.int .u64 0)), (7, (.int .i64 0)), (8, (.int .i64 0)), (10, (.int .i64 (rdN B.length (rdN B.length z 1) (2 ^ (rdV B z 1 - 252))))), (12, (.int .u64 ((rdV B (rdN B.length z 1) (2 ^ (rdV B z 1 - 252)) : Nat) : Int))), (62, (.bool true))])
    (fun _ => []) := by
  refine reg_seq [0, 1, 3, 7, 15, 31, 63, 127, 255, 511, 1023, 2047, 4095, 8191, 16383, 32767, 65535, 131071, 262143, 524287, 1048575, 2097151] [2, 6, 7, 8, 10, 12, 62] 22
    (fun _ ι => ([(.int .u64 ((rdV B z 1 : Nat) : Int)), (.bool false), (.bool false), undef, undef, (.bool false), (.bool false), (.int .u64 ((rdV B z 1 : Nat) : Int)), (.bool true), (.bool true), (.int .u64 ((rdV B (rdN B.length z 1) (2 ^ (rdV B z 1 - 252)) : Nat) : Int)), (.bool true), (.bool true), (.bool true), (.bool true), undef, undef, undef, undef, undef, undef, (.bool true)] : List Value).getD ι undef)
    (fun _ ι => ([{}, {}, {}, {}, {}, {}, {}, {}, {}, {}, {}, {}, {}, {}, {}, {}, {}, {}, {}, {}, {}, {}] : List Eff).getD ι {})
    (by as_aux_lemma => kernel_rfl) (by as_aux_lemma => kernel_rfl) (fun _ => by as_aux_lemma => kernel_rfl) (fun _ => by as_aux_lemma => kernel_rfl) ⟨⟨⟨⟨⟨⟨⟨⟨⟨⟨⟨⟨⟨⟨⟨⟨⟨⟨⟨⟨⟨⟨trivial, ?_⟩, ?_⟩, ?_⟩, ?_⟩, ?_⟩, ?_⟩, ?_⟩, ?_⟩, ?_⟩, ?_⟩, ?_⟩, ?_⟩, ?_⟩, ?_⟩, ?_⟩, ?_⟩, ?_⟩, ?_⟩, ?_⟩, ?_⟩, ?_⟩, ?_⟩
  · exact o_run 0 [] [] (fun _ _ => []) (fun _ _ => by as_aux_lemma => kernel_rfl)
  · exact o_as 1 (fun _ => (.bool (((rdV B z 1 : Nat) : Int) == 253))) (fun _ => (.bool false)) (fun _ _ => by as_aux_lemma => kernel_rfl) (fun _ => congrArg Value.bool hb4)
  · exact o_run 2 [] [] (fun _ _ => []) (fun _ _ => by as_aux_lemma => kernel_rfl)
  · exact o_skip 3 (fun _ => by as_aux_lemma => kernel_rfl)
  · exact o_skip 4 (fun _ => by as_aux_lemma => kernel_rfl)
  · exact o_run 5 [] [] (fun _ _ => []) (fun _ _ => by as_aux_lemma => kernel_rfl)
  · exact o_run 6 [] [] (fun _ _ => []) (fun _ _ => by as_aux_lemma => kernel_rfl)
  · exact o_run 7 [] [] (fun _ _ => []) (fun _ _ => by as_aux_lemma => kernel_rfl)
  · exact o_as 8 (fun _ => (.bool (((rdV B z 1 : Nat) : Int) == 254))) (fun _ => (.bool true)) (fun _ _ => by as_aux_lemma => kernel_rfl) (fun _ => congrArg Value.bool hb7)
  · exact o_run 9 [] [] (fun _ _ => []) (fun _ _ => by as_aux_lemma => kernel_rfl)
  · exact o_run 10 [] [] (fun _ _ => []) (fun _ _ => by as_aux_lemma => kernel_rfl)
  · exact o_as 11 (fun _ => (.bool (decide (((rdV B (rdN B.length z 1) (2 ^ (rdV B z 1 - 252)) : Nat) : Int) < 65536)))) (fun _ => (.bool true)) (fun _ _ => by as_aux_lemma => kernel_rfl) (fun _ => congrArg Value.bool hb8)
  · exact o_run 12 [] [] (fun _ _ => []) (fun _ _ => by as_aux_lemma => kernel_rfl)
  · exact o_run 13 [] [] (fun _ _ => []) (fun _ _ => by as_aux_lemma => kernel_rfl)
  · exact o_run 14 [] [] (fun _ _ => []) (fun _ _ => by as_aux_lemma => kernel_rfl)
  · exact o_skip 15 (fun _ => by as_aux_lemma => kernel_rfl)
  · exact o_skip 16 (fun _ => by as_aux_lemma => kernel_rfl)
  · exact o_skip 17 (fun _ => by as_aux_lemma => kernel_rfl)
  · exact o_skip 18 (fun _ => by as_aux_lemma => kernel_rfl)
  · exact o_skip 19 (fun _ => by as_aux_lemma => kernel_rfl)
  · exact o_skip 20 (fun _ => by as_aux_lemma => kernel_rfl)
  · exact o_run 21 [] [] (fun _ _ => []) (fun _ _ => by as_aux_lemma => kernel_rfl)
theorem rsize_any_r18 (B : List UInt8) (z : Int) (q : Nat) (w0 : World) (F : World → Prop) : Reg Try.prog 11 (regOps Try.f14 11) false 68 [(2, (.int .u64 ((q : Nat) : Int))), (6, (.int .u64 0)), (7, (.int .i64 0)), (8, (.int .i64 0)), (10, (.int .i64 (rdN B.length (rdN B.length z 1) (2 ^ (rdV B z 1 - 252))))), (12, (.int .u64 ((rdV B (rdN B.length z 1) (2 ^ (rdV B z 1 - 252)) : Nat) : Int))), (62, (.bool true))] w0 [] F
    (fun _ => [(2, (.int .u64 ((q : Nat) : Int))), (6, (.int .u64 0)), (7, (.int .i64 0)), (8, (.int .i64 3)), (10, (.int .i64 (rdN B.length (rdN B.length z 1) (2 ^ (rdV B z 1 - 252))))), (12, (.int .u64 ((rdV B (rdN B.length z 1) (2 ^ (rdV B z 1 - 252)) : Nat) : Int)))])
    (fun _ => []) := by
  refine reg_seq [0, 1, 3] [2, 6, 7, 8, 10, 12] 3
    (fun _ ι => ([(.int .u64 0), (.int .i64 0), (.int .i64 3)] : List Value).getD ι undef)
    (fun _ ι => ([{}, {}, {}] : List Eff).getD ι {})
    (by as_aux_lemma => kernel_rfl) (by as_aux_lemma => kernel_rfl) (fun _ => by as_aux_lemma => kernel_rfl) (fun _ => by as_aux_lemma => kernel_rfl) ⟨⟨⟨trivial, ?_⟩, ?_⟩, ?_⟩
  · exact o_run 0 [] [] (fun _ _ => []) (fun _ _ => by as_aux_lemma => kernel_rfl)
  · exact o_run 1 [] [] (fun _ _ => []) (fun _ _ => by as_aux_lemma => kernel_rfl)
  · exact o_run 2 [] [] (fun _ _ => []) (fun _ _ => by as_aux_lemma => kernel_rfl)
theorem rsize_any_r19 (B : List UInt8) (z : Int) (q : Nat) (hb4 : (((rdV B z 1 : Nat) : Int) == 253) = false) (hb7 : (((rdV B z 1 : Nat) : Int) == 254) = true) (hb8 : (decide (((rdV B (rdN B.length z 1) (2 ^ (rdV B z 1 - 252)) : Nat) : Int) < 65536)) = false) (w0 : World) (F : World → Prop) : Reg Try.prog 10 (regOps Try.f14 10) false 68 [(2, (.int .u64 ((q : Nat) : Int))), (6, (.int .u64 0)), (7, (.int .i64 0)), (8, (.int .i64 0)), (9, (.int .u64 ((rdV B z 1 : Nat) : Int))), (10, (.int .i64 (rdN B.length (rdN B.length z 1) (2 ^ (rdV B z 1 - 252))))), (11, (.int .i64 (rdE B.length (rdN B.length z 1) (2 ^ (rdV B z 1 - 252))))), (12, (.int .u64 ((rdV B (rdN B.length z 1) (2 ^ (rdV B z 1 - 252)) : Nat) : Int))), (39, (.bool false))] w0 [] F
    (fun _ => [(2, (.int .u64 ((q : Nat) : Int))), (6, (.int .u64 0)), (7, (.int .i64 0)), (8, (.int .i64 0)), (10, (.int .i64 (rdN B.length (rdN B.length z 1) (2 ^ (rdV B z 1 - 252))))), (12, (.int .u64 ((rdV B (rdN B.length z 1) (2 ^ (rdV B z 1 - 252)) : Nat) : Int))), (62, (.bool false))])
    (fun _ => []) := by
  refine reg_seq [0, 1, 3, 7, 15, 31, 63, 127, 255, 511, 1023, 2047, 4095, 8191, 16383, 32767, 65535, 131071, 262143, 524287, 1048575, 2097151] [2, 6, 7, 8, 10, 12, 62] 22
    (fun _ ι => ([(.int .u64 ((rdV B z 1 : Nat) : Int)), (.bool false), (.bool false), undef, undef, (.bool false), (.bool false), (.int .u64 ((rdV B z 1 : Nat) : Int)), (.bool true), (.bool true), (.int .u64 ((rdV B (rdN B.length z 1) (2 ^ (rdV B z 1 - 252)) : Nat) : Int)), (.bool false), (.bool false), (.bool false), (.bool false), (.int .u64 ((rdV B z 1 : Nat) : Int)), (.bool false), (.bool false), undef, undef, (.bool false), (.bool false)] : List Value).getD ι undef)
    (fun _ ι => ([{}, {}, {}, {}, {}, {}, {}, {}, {}, {}, {}, {}, {}, {}, {}, {}, {}, {}, {}, {}, {}, {}] : List Eff).getD ι {})
    (by as_aux_lemma => kernel_rfl) (by as_aux_lemma => kernel_rfl) (fun _ => by as_aux_lemma => kernel_rfl) (fun _ => by as_aux_lemma => kernel_rfl) ⟨⟨⟨⟨⟨⟨⟨⟨⟨⟨⟨⟨⟨⟨⟨⟨⟨⟨⟨⟨⟨⟨trivial, ?_⟩, ?_⟩, ?_⟩, ?_⟩, ?_⟩, ?_⟩, ?_⟩, ?_⟩, ?_⟩, ?_⟩, ?_⟩, ?_⟩, ?_⟩, ?_⟩, ?_⟩, ?_⟩, ?_⟩, ?_⟩, ?_⟩, ?_⟩, ?_⟩, ?_⟩
  · exact o_run 0 [] [] (fun _ _ => []) (fun _ _ => by as_aux_lemma => kernel_rfl)
  · exact o_as 1 (fun _ => (.bool (((rdV B z 1 : Nat) : Int) == 253))) (fun _ => (.bool false)) (fun _ _ => by as_aux_lemma => kernel_rfl) (fun _ => congrArg Value.bool hb4)
  · exact o_run 2 [] [] (fun _ _ => []) (fun _ _ => by as_aux_lemma => kernel_rfl)
  · exact o_skip 3 (fun _ => by as_aux_lemma => kernel_rfl)
  · exact o_skip 4 (fun _ => by as_aux_lemma => kernel_rfl)
  · exact o_run 5 [] [] (fun _ _ => []) (fun _ _ => by as_aux_lemma => kernel_rfl)
  · exact o_run 6 [] [] (fun _ _ => []) (fun _ _ => by as_aux_lemma => kernel_rfl)
  · exact o_run 7 [] [] (fun _ _ => []) (fun _ _ => by as_aux_lemma => kernel_rfl)
  · exact o_as 8 (fun _ => (.bool (((rdV B z 1 : Nat) : Int) == 254))) (fun _ => (.bool true)) (fun _ _ => by as_aux_lemma => kernel_rfl) (fun _ => congrArg Value.bool hb7)
  · exact o_run 9 [] [] (fun _ _ => []) (fun _ _ => by as_aux_lemma => kernel_rfl)
  · exact o_run 10 [] [] (fun _ _ => []) (fun _ _ => by as_aux_lemma => kernel_rfl)
  · exact o_as 11 (fun _ => (.bool (decide (((rdV B (rdN B.length z 1) (2 ^ (rdV B z 1 - 252)) : Nat) : Int) < 65536)))) (fun _ => (.bool false)) (fun _ _ => by as_aux_lemma => kernel_rfl) (fun _ => congrArg Value.bool hb8)
  · exact o_run 12 [] [] (fun _ _ => []) (fun _ _ => by as_aux_lemma => kernel_rfl)
  · exact o_run 13 [] [] (fun _ _ => []) (fun _ _ => by as_aux_lemma => kernel_rfl)
  · exact o_run 14 [] [] (fun _ _ => []) (fun _ _ => by as_aux_lemma => kernel_rfl)
  · exact o_run 15 [] [] (fun _ _ => []) (fun _ _ => by as_aux_lemma => kernel_rfl)
  · exact o_as 16 (fun _ => (.bool (((rdV B z 1 : Nat) : Int) == 255))) (fun _ => (.bool false)) (fun _ _ => by as_aux_lemma => kernel_rfl) (fun _ => congrArg Value.bool (beq_other (eqN (k := 254) hb7) (by decide)))
  · exact o_run 17 [] [] (fun _ _ => []) (fun _ _ => by as_aux_lemma => kernel_rfl)
  · exact o_skip 18 (fun _ => by as_aux_lemma => kernel_rfl)
  · exact o_skip 19 (fun _ => by as_aux_lemma => kernel_rfl)
  · exact o_run 20 [] [] (fun _ _ => []) (fun _ _ => by as_aux_lemma => kernel_rfl)
  · exact o_run 21 [] [] (fun _ _ => []) (fun _ _ => by as_aux_lemma => kernel_rfl)
theorem rsize_any_r20 (B : List UInt8) (z : Int) (q : Nat) (w0 : World) (F : World → Prop) : Reg Try.prog 12 (regOps Try.f14 12) false 68 [(2, (.int .u64 ((q : Nat) : Int))), (6, (.int .u64 0)), (7, (.int .i64 0)), (8, (.int .i64 0)), (10, (.int .i64 (rdN B.length (rdN B.length z 1) (2 ^ (rdV B z 1 - 252))))), (12, (.int .u64 ((rdV B (rdN B.length z 1) (2 ^ (rdV B z 1 - 252)) : Nat) : Int))), (62, (.bool false))] w0 [] F
    (fun _ => [(6, (.int .u64 0)), (7, (.int .i64 0)), (8, (.int .i64 0)), (10, (.int .i64 (rdN B.length (rdN B.length z 1) (2 ^ (rdV B z 1 - 252))))), (12, (.int .u64 ((rdV B (rdN B.length z 1) (2 ^ (rdV B z 1 - 252)) : Nat) : Int))), (65, (.bool (decide (((q : Nat) : Int) < ((rdV B (rdN B.length z 1) (2 ^ (rdV B z 1 - 252)) : Nat) : Int)))))])
    (fun _ => []) := by
  refine reg_seq [0, 1, 3] [6, 7, 8, 10, 12, 65] 3
    (fun _ ι => ([(.int .u64 ((rdV B (rdN B.length z 1) (2 ^ (rdV B z 1 - 252)) : Nat) : Int)), (.int .u64 ((q : Nat) : Int)), (.bool (decide (((q : Nat) : Int) < ((rdV B (rdN B.length z 1) (2 ^ (rdV B z 1 - 252)) : Nat) : Int))))] : List Value).getD ι undef)
    (fun _ ι => ([{}, {}, {}] : List Eff).getD ι {})
    (by as_aux_lemma => kernel_rfl) (by as_aux_lemma => kernel_rfl) (fun _ => by as_aux_lemma => kernel_rfl) (fun _ => by as_aux_lemma => kernel_rfl) ⟨⟨⟨trivial, ?_⟩, ?_⟩, ?_⟩
  · exact o_run 0 [] [] (fun _ _ => []) (fun _ _ => by as_aux_lemma => kernel_rfl)
  · exact o_run 1 [] [] (fun _ _ => []) (fun _ _ => by as_aux_lemma => kernel_rfl)
  · exact o_run 2 [] [] (fun _ _ => []) (fun _ _ => by as_aux_lemma => kernel_rfl)
theorem rsize_any_r21 (B : List UInt8) (z : Int) (w0 : World) (F : World → Prop) : Reg Try.prog 13 (regOps Try.f14 13) false 68 [(6, (.int .u64 0)), (7, (.int .i64 0)), (8, (.int .i64 0)), (10, (.int .i64 (rdN B.length (rdN B.length z 1) (2 ^ (rdV B z 1 - 252))))), (12, (.int .u64 ((rdV B (rdN B.length z 1) (2 ^ (rdV B z 1 - 252)) : Nat) : Int))), (65, (.bool true))] w0 [] F
    (fun _ => [(6, (.int .u64 0)), (7, (.int .i64 0)), (8, (.int .i64 4)), (10, (.int .i64 (rdN B.length (rdN B.length z 1) (2 ^ (rdV B z 1 - 252))))), (12, (.int .u64 ((rdV B (rdN B.length z 1) (2 ^ (rdV B z 1 - 252)) : Nat) : Int)))])
    (fun _ => []) := by
  refine reg_seq [0, 1, 3] [6, 7, 8, 10, 12] 3
    (fun _ ι => ([(.int .u64 0), (.int .i64 0), (.int .i64 4)] : List Value).getD ι undef)
    (fun _ ι => ([{}, {}, {}] : List Eff).getD ι {})
    (by as_aux_lemma => kernel_rfl) (by as_aux_lemma => kernel_rfl) (fun _ => by as_aux_lemma => kernel_rfl) (fun _ => by as_aux_lemma => kernel_rfl) ⟨⟨⟨trivial, ?_⟩, ?_⟩, ?_⟩
  · exact o_run 0 [] [] (fun _ _ => []) (fun _ _ => by as_aux_lemma => kernel_rfl)
  · exact o_run 1 [] [] (fun _ _ => []) (fun _ _ => by as_aux_lemma => kernel_rfl)
  · exact o_run 2 [] [] (fun _ _ => []) (fun _ _ => by as_aux_lemma => kernel_rfl)
theorem rsize_any_r22 (B : List UInt8) (z : Int) (w0 : World) (F : World → Prop) : Reg Try.prog 14 (regOps Try.f14 14) false 68 [(6, (.int .u64 0)), (7, (.int .i64 0)), (8, (.int .i64 0)), (10, (.int .i64 (rdN B.length (rdN B.length z 1) (2 ^ (rdV B z 1 - 252))))), (12, (.int .u64 ((rdV B (rdN B.length z 1) (2 ^ (rdV B z 1 - 252)) : Nat) : Int))), (65, (.bool false))] w0 [] F
    (fun _ => [(6, (.int .u64 ((rdV B (rdN B.length z 1) (2 ^ (rdV B z 1 - 252)) : Nat) : Int))), (7, (.int .i64 (rdN B.length (rdN B.length z 1) (2 ^ (rdV B z 1 - 252))))), (8, (.int .i64 0))])
    (fun _ => []) := by
  refine reg_seq [0, 1, 3, 7, 15] [6, 7, 8] 5
    (fun _ ι => ([(.int .u64 ((rdV B (rdN B.length z 1) (2 ^ (rdV B z 1 - 252)) : Nat) : Int)), (.int .i64 (rdN B.length (rdN B.length z 1) (2 ^ (rdV B z 1 - 252)))), (.int .u64 ((rdV B (rdN B.length z 1) (2 ^ (rdV B z 1 - 252)) : Nat) : Int)), (.int .i64 (rdN B.length (rdN B.length z 1) (2 ^ (rdV B z 1 - 252)))), (.int .i64 0)] : List Value).getD ι undef)
    (fun _ ι => ([{}, {}, {}, {}, {}] : List Eff).getD ι {})
    (by as_aux_lemma => kernel_rfl) (by as_aux_lemma => kernel_rfl) (fun _ => by as_aux_lemma => kernel_rfl) (fun _ => by as_aux_lemma => kernel_rfl) ⟨⟨⟨⟨⟨trivial, ?_⟩, ?_⟩, ?_⟩, ?_⟩, ?_⟩
  · exact o_run 0 [] [] (fun _ _ => []) (fun _ _ => by as_aux_lemma => kernel_rfl)
  · exact o_run 1 [] [] (fun _ _ => []) (fun _ _ => by as_aux_lemma => kernel_rfl)
  · exact o_run 2 [] [] (fun _ _ => []) (fun _ _ => by as_aux_lemma => kernel_rfl)
  · exact o_run 3 [] [] (fun _ _ => []) (fun _ _ => by as_aux_lemma => kernel_rfl)
  · exact o_run 4 [] [] (fun _ _ => []) (fun _ _ => by as_aux_lemma => kernel_rfl)
theorem rsize_any_r23 (B : List UInt8) (z : Int) (q : Nat) (hb2 : (decide (253 ≤ ((rdV B z 1 : Nat) : Int))) = true) (hb4 : (((rdV B z 1 : Nat) : Int) == 253) = false) (hb7 : (((rdV B z 1 : Nat) : Int) == 254) = false) (w0 : World) (F : World → Prop) : Reg Try.prog 10 (regOps Try.f14 10) false 68 [(2, (.int .u64 ((q : Nat) : Int))), (6, (.int .u64 0)), (7, (.int .i64 0)), (8, (.int .i64 0)), (9, (.int .u64 ((rdV B z 1 : Nat) : Int))), (10, (.int .i64 (rdN B.length (rdN B.length z 1) (2 ^ (rdV B z 1 - 252))))), (11, (.int .i64 (rdE B.length (rdN B.length z 1) (2 ^ (rdV B z 1 - 252))))), (12, (.int .u64 ((rdV B (rdN B.length z 1) (2 ^ (rdV B z 1 - 252)) : Nat) : Int))), (39, (.bool false))] w0 [] F
    (fun _ => [(2, (.int .u64 ((q : Nat) : Int))), (6, (.int .u64 0)), (7, (.int .i64 0)), (8, (.int .i64 0)), (10, (.int .i64 (rdN B.length (rdN B.length z 1) (2 ^ (rdV B z 1 - 252))))), (12, (.int .u64 ((rdV B (rdN B.length z 1) (2 ^ (rdV B z 1 - 252)) : Nat) : Int))), (62, (.bool (decide (((rdV B (rdN B.length z 1) (2 ^ (rdV B z 1 - 252)) : Nat) : Int) < 4294967296))))])
    (fun _ => []) := by
  refine reg_seq [0, 1, 3, 7, 15, 31, 63, 127, 255, 511, 1023, 2047, 4095, 8191, 16383, 32767, 65535, 131071, 262143, 524287, 1048575, 2097151] [2, 6, 7, 8, 10, 12, 62] 22
    (fun _ ι => ([(.int .u64 ((rdV B z 1 : Nat) : Int)), (.bool false), (.bool false), undef, undef, (.bool false), (.bool false), (.int .u64 ((rdV B z 1 : Nat) : Int)), (.bool false), (.bool false), undef, undef, (.bool false), (.bool false), (.bool false), (.int .u64 ((rdV B z 1 : Nat) : Int)), (.bool true), (.bool true), (.int .u64 ((rdV B (rdN B.length z 1) (2 ^ (rdV B z 1 - 252)) : Nat) : Int)), (.bool (decide (((rdV B (rdN B.length z 1) (2 ^ (rdV B z 1 - 252)) : Nat) : Int) < 4294967296))), (.bool (decide (((rdV B (rdN B.length z 1) (2 ^ (rdV B z 1 - 252)) : Nat) : Int) < 4294967296))), (.bool (decide (((rdV B (rdN B.length z 1) (2 ^ (rdV B z 1 - 252)) : Nat) : Int) < 4294967296)))] : List Value).getD ι undef)
    (fun _ ι => ([{}, {}, {}, {}, {}, {}, {}, {}, {}, {}, {}, {}, {}, {}, {}, {}, {}, {}, {}, {}, {}, {}] : List Eff).getD ι {})
    (by as_aux_lemma => kernel_rfl) (by as_aux_lemma => kernel_rfl) (fun _ => by as_aux_lemma => kernel_rfl) (fun _ => by as_aux_lemma => kernel_rfl) ⟨⟨⟨⟨⟨⟨⟨⟨⟨⟨⟨⟨⟨⟨⟨⟨⟨⟨⟨⟨⟨⟨trivial, ?_⟩, ?_⟩, ?_⟩, ?_⟩, ?_⟩, ?_⟩, ?_⟩, ?_⟩, ?_⟩, ?_⟩, ?_⟩, ?_⟩, ?_⟩, ?_⟩, ?_⟩, ?_⟩, ?_⟩, ?_⟩, ?_⟩, ?_⟩, ?_⟩, ?_⟩
  · exact o_run 0 [] [] (fun _ _ => []) (fun _ _ => by as_aux_lemma => kernel_rfl)
  · exact o_as 1 (fun _ => (.bool (((rdV B z 1 : Nat) : Int) == 253))) (fun _ => (.bool false)) (fun _ _ => by as_aux_lemma => kernel_rfl) (fun _ => congrArg Value.bool hb4)
  · exact o_run 2 [] [] (fun _ _ => []) (fun _ _ => by as_aux_lemma => kernel_rfl)
  · exact o_skip 3 (fun _ => by as_aux_lemma => kernel_rfl)
  · exact o_skip 4 (fun _ => by as_aux_lemma => kernel_rfl)
  · exact o_run 5 [] [] (fun _ _ => []) (fun _ _ => by as_aux_lemma => kernel_rfl)
  · exact o_run 6 [] [] (fun _ _ => []) (fun _ _ => by as_aux_lemma => kernel_rfl)
  · exact o_run 7 [] [] (fun _ _ => []) (fun _ _ => by as_aux_lemma => kernel_rfl)
  · exact o_as 8 (fun _ => (.bool (((rdV B z 1 : Nat) : Int) == 254))) (fun _ => (.bool false)) (fun _ _ => by as_aux_lemma => kernel_rfl) (fun _ => congrArg Value.bool hb7)
  · exact o_run 9 [] [] (fun _ _ => []) (fun _ _ => by as_aux_lemma => kernel_rfl)
  · exact o_skip 10 (fun _ => by as_aux_lemma => kernel_rfl)
  · exact o_skip 11 (fun _ => by as_aux_lemma => kernel_rfl)
  · exact o_run 12 [] [] (fun _ _ => []) (fun _ _ => by as_aux_lemma => kernel_rfl)
  · exact o_run 13 [] [] (fun _ _ => []) (fun _ _ => by as_aux_lemma => kernel_rfl)
  · exact o_run 14 [] [] (fun _ _ => []) (fun _ _ => by as_aux_lemma => kernel_rfl)
  · exact o_run 15 [] [] (fun _ _ => []) (fun _ _ => by as_aux_lemma => kernel_rfl)
  · exact o_as 16 (fun _ => (.bool (((rdV B z 1 : Nat) : Int) == 255))) (fun _ => (.bool true)) (fun _ _ => by as_aux_lemma => kernel_rfl) (fun _ => congrArg Value.bool (mark_255 (rdV_lt B z 1) hb2 hb4 hb7))
  · exact o_run 17 [] [] (fun _ _ => []) (fun _ _ => by as_aux_lemma => kernel_rfl)
  · exact o_run 18 [] [] (fun _ _ => []) (fun _ _ => by as_aux_lemma => kernel_rfl)
  · exact o_run 19 [] [] (fun _ _ => []) (fun _ _ => by as_aux_lemma => kernel_rfl)
  · exact o_run 20 [] [] (fun _ _ => []) (fun _ _ => by as_aux_lemma => kernel_rfl)
  · exact o_run 21 [] [] (fun _ _ => []) (fun _ _ => by as_aux_lemma => kernel_rfl)
theorem rsize_any_r24 (B : List UInt8) (z : Int) (q : Nat) (w0 : World) (F : World → Prop) : Reg Try.prog 11 (regOps Try.f14 11) false 68 [(2, (.int .u64 ((q : Nat) : Int))), (6, (.int .u64 0)), (7, (.int .i64 0)), (8, (.int .i64 0)), (10, (.int .i64 (rdN B.length (rdN B.length z 1) (2 ^ (rdV B z 1 - 252))))), (12, (.int .u64 ((rdV B (rdN B.length z 1) (2 ^ (rdV B z 1 - 252)) : Nat) : Int))), (62, (.bool true))] w0 [] F
    (fun _ => [(2, (.int .u64 ((q : Nat) : Int))), (6, (.int .u64 0)), (7, (.int .i64 0)), (8, (.int .i64 3)), (10, (.int .i64 (rdN B.length (rdN B.length z 1) (2 ^ (rdV B z 1 - 252))))), (12, (.int .u64 ((rdV B (rdN B.length z 1) (2 ^ (rdV B z 1 - 252)) : Nat) : Int)))])
    (fun _ => []) := by
  refine reg_seq [0, 1, 3] [2, 6, 7, 8, 10, 12] 3
    (fun _ ι => ([(.int .u64 0), (.int .i64 0), (.int .i64 3)] : List Value).getD ι undef)
    (fun _ ι => ([{}, {}, {}] : List Eff).getD ι {})
    (by as_aux_lemma => kernel_rfl) (by as_aux_lemma => kernel_rfl) (fun _ => by as_aux_lemma => kernel_rfl) (fun _ => by as_aux_lemma => kernel_rfl) ⟨⟨⟨trivial, ?_⟩, ?_⟩, ?_⟩
  · exact o_run 0 [] [] (fun _ _ => []) (fun _ _ => by as_aux_lemma => kernel_rfl)
  · exact o_run 1 [] [] (fun _ _ => []) (fun _ _ => by as_aux_lemma => kernel_rfl)
  · exact o_run 2 [] [] (fun _ _ => []) (fun _ _ => by as_aux_lemma => kernel_rfl)
theorem rsize_any_r25 (B : List UInt8) (z : Int) (q : Nat) (w0 : World) (F : World → Prop) : Reg Try.prog 12 (regOps Try.f14 12) false 68 [(2, (.int .u64 ((q : Nat) : Int))), (6, (.int .u64 0)), (7, (.int .i64 0)), (8, (.int .i64 0)), (10, (.int .i64 (rdN B.length (rdN B.length z 1) (2 ^ (rdV B z 1 - 252))))), (12, (.int .u64 ((rdV B (rdN B.length z 1) (2 ^ (rdV B z 1 - 252)) : Nat) : Int))), (62, (.bool false))] w0 [] F
    (fun _ => [(6, (.int .u64 0)), (7, (.int .i64 0)), (8, (.int .i64 0)), (10, (.int .i64 (rdN B.length (rdN B.length z 1) (2 ^ (rdV B z 1 - 252))))), (12, (.int .u64 ((rdV B (rdN B.length z 1) (2 ^ (rdV B z 1 - 252)) : Nat) : Int))), (65, (.bool (decide (((q : Nat) : Int) < ((rdV B (rdN B.length z 1) (2 ^ (rdV B z 1 - 252)) : Nat) : Int)))))])
    (fun _ => []) := by
  refine reg_seq [0, 1, 3] [6, 7, 8, 10, 12, 65] 3
    (fun _ ι => ([(.int .u64 ((rdV B (rdN B.length z 1) (2 ^ (rdV B z 1 - 252)) : Nat) : Int)), (.int .u64 ((q : Nat) : Int)), (.bool (decide (((q : Nat) : Int) < ((rdV B (rdN B.length z 1) (2 ^ (rdV B z 1 - 252)) : Nat) : Int))))] : List Value).getD ι undef)
    (fun _ ι => ([{}, {}, {}] : List Eff).getD ι {})
    (by as_aux_lemma => kernel_rfl) (by as_aux_lemma => kernel_rfl) (fun _ => by as_aux_lemma => kernel_rfl) (fun _ => by as_aux_lemma => kernel_rfl) ⟨⟨⟨trivial, ?_⟩, ?_⟩, ?_⟩
  · exact o_run 0 [] [] (fun _ _ => []) (fun _ _ => by as_aux_lemma => kernel_rfl)
  · exact o_run 1 [] [] (fun _ _ => []) (fun _ _ => by as_aux_lemma => kernel_rfl)
  · exact o_run 2 [] [] (fun _ _ => []) (fun _ _ => by as_aux_lemma => kernel_rfl)
theorem rsize_any_r26 (B : List UInt8) (z : Int) (w0 : World) (F : World → Prop) : Reg Try.prog 13 (regOps Try.f14 13) false 68 [(6, (.int .u64 0)), (7, (.int .i64 0)), (8, (.int .i64 0)), (10, (.int .i64 (rdN B.length (rdN B.length z 1) (2 ^ (rdV B z 1 - 252))))), (12, (.int .u64 ((rdV B (rdN B.length z 1) (2 ^ (rdV B z 1 - 252)) : Nat) : Int))), (65, (.bool true))] w0 [] F
    (fun _ => [(6, (.int .u64 0)), (7, (.int .i64 0)), (8, (.int .i64 4)), (10, (.int .i64 (rdN B.length (rdN B.length z 1) (2 ^ (rdV B z 1 - 252))))), (12, (.int .u64 ((rdV B (rdN B.length z 1) (2 ^ (rdV B z 1 - 252)) : Nat) : Int)))])
    (fun _ => []) := by
  refine reg_seq [0, 1, 3] [6, 7, 8, 10, 12] 3
    (fun _ ι => ([(.int .u64 0), (.int .i64 0), (.int .i64 4)] : List Value).getD ι undef)
    (fun _ ι => ([{}, {}, {}] : List Eff).getD ι {})
    (by as_aux_lemma => kernel_rfl) (by as_aux_lemma => kernel_rfl) (fun _ => by as_aux_lemma => kernel_rfl) (fun _ => by as_aux_lemma => kernel_rfl) ⟨⟨⟨trivial, ?_⟩, ?_⟩, ?_⟩
  · exact o_run 0 [] [] (fun _ _ => []) (fun _ _ => by as_aux_lemma => kernel_rfl)
  · exact o_run 1 [] [] (fun _ _ => []) (fun _ _ => by as_aux_lemma => kernel_rfl)
  · exact o_run 2 [] [] (fun _ _ => []) (fun _ _ => by as_aux_lemma => kernel_rfl)
theorem rsize_any_r27 (B : List UInt8) (z : Int) (w0 : World) (F : World → Prop) : Reg Try.prog 14 (regOps Try.f14 14) false 68 [(6, (.int .u64 0)), (7, (.int .i64 0)), (8, (.int .i64 0)), (10, (.int .i64 (rdN B.length (rdN B.length z 1) (2 ^ (rdV B z 1 - 252))))), (12, (.int .u64 ((rdV B (rdN B.length z 1) (2 ^ (rdV B z 1 - 252)) : Nat) : Int))), (65, (.bool false))] w0 [] F
    (fun _ => [(6, (.int .u64 ((rdV B (rdN B.length z 1) (2 ^ (rdV B z 1 - 252)) : Nat) : Int))), (7, (.int .i64 (rdN B.length (rdN B.length z 1) (2 ^ (rdV B z 1 - 252))))), (8, (.int .i64 0))])
    (fun _ => []) := by
  refine reg_seq [0, 1, 3, 7, 15] [6, 7, 8] 5
    (fun _ ι => ([(.int .u64 ((rdV B (rdN B.length z 1) (2 ^ (rdV B z 1 - 252)) : Nat) : Int)), (.int .i64 (rdN B.length (rdN B.length z 1) (2 ^ (rdV B z 1 - 252)))), (.int .u64 ((rdV B (rdN B.length z 1) (2 ^ (rdV B z 1 - 252)) : Nat) : Int)), (.int .i64 (rdN B.length (rdN B.length z 1) (2 ^ (rdV B z 1 - 252)))), (.int .i64 0)] : List Value).getD ι undef)
    (fun _ ι => ([{}, {}, {}, {}, {}] : List Eff).getD ι {})
    (by as_aux_lemma => kernel_rfl) (by as_aux_lemma => kernel_rfl) (fun _ => by as_aux_lemma => kernel_rfl) (fun _ => by as_aux_lemma => kernel_rfl) ⟨⟨⟨⟨⟨trivial, ?_⟩, ?_⟩, ?_⟩, ?_⟩, ?_⟩
  · exact o_run 0 [] [] (fun _ _ => []) (fun _ _ => by as_aux_lemma => kernel_rfl)
  · exact o_run 1 [] [] (fun _ _ => []) (fun _ _ => by as_aux_lemma => kernel_rfl)
  · exact o_run 2 [] [] (fun _ _ => []) (fun _ _ => by as_aux_lemma => kernel_rfl)
  · exact o_run 3 [] [] (fun _ _ => []) (fun _ _ => by as_aux_lemma => kernel_rfl)
  · exact o_run 4 [] [] (fun _ _ => []) (fun _ _ => by as_aux_lemma => kernel_rfl)
theorem rsize_any_r28 (a : Option Addr) (c : Nat) (B : List UInt8) (z : Int) (q : Nat) (w0 : World) (F : World → Prop) : Reg Try.prog 12 (regOps Try.f14 12) false 68 [(0, (.slice a (B).length c)), (2, (.int .u64 ((q : Nat) : Int))), (6, (.int .u64 0)), (7, (.int .i64 0)), (8, (.int .i64 0)), (9, (.int .u64 ((rdV B z 1 : Nat) : Int))), (10, (.int .i64 (rdN B.length z 1))), (11, (.int .i64 (rdE B.length z 1))), (12, (.int .u64 ((rdV B z 1 : Nat) : Int))), (26, (.bool false))] w0 [] F
    (fun _ => [(6, (.int .u64 0)), (7, (.int .i64 0)), (8, (.int .i64 0)), (10, (.int .i64 (rdN B.length z 1))), (12, (.int .u64 ((rdV B z 1 : Nat) : Int))), (65, (.bool (decide (((q : Nat) : Int) < ((rdV B z 1 : Nat) : Int)))))])
    (fun _ => []) := by
  refine reg_seq [0, 1, 3] [6, 7, 8, 10, 12, 65] 3
    (fun _ ι => ([(.int .u64 ((rdV B z 1 : Nat) : Int)), (.int .u64 ((q : Nat) : Int)), (.bool (decide (((q : Nat) : Int) < ((rdV B z 1 : Nat) : Int))))] : List Value).getD ι undef)
    (fun _ ι => ([{}, {}, {}] : List Eff).getD ι {})
    (by as_aux_lemma => kernel_rfl) (by as_aux_lemma => kernel_rfl) (fun _ => by as_aux_lemma => kernel_rfl) (fun _ => by as_aux_lemma => kernel_rfl) ⟨⟨⟨trivial, ?_⟩, ?_⟩, ?_⟩
  · exact o_run 0 [] [] (fun _ _ => []) (fun _ _ => by as_aux_lemma => kernel_rfl)
  · exact o_run 1 [] [] (fun _ _ => []) (fun _ _ => by as_aux_lemma => kernel_rfl)
  · exact o_run 2 [] [] (fun _ _ => []) (fun _ _ => by as_aux_lemma => kernel_rfl)
theorem rsize_any_r29 (B : List UInt8) (z : Int) (w0 : World) (F : World → Prop) : Reg Try.prog 13 (regOps Try.f14 13) false 68 [(6, (.int .u64 0)), (7, (.int .i64 0)), (8, (.int .i64 0)), (10, (.int .i64 (rdN B.length z 1))), (12, (.int .u64 ((rdV B z 1 : Nat) : Int))), (65, (.bool true))] w0 [] F
    (fun _ => [(6, (.int .u64 0)), (7, (.int .i64 0)), (8, (.int .i64 4)), (10, (.int .i64 (rdN B.length z 1))), (12, (.int .u64 ((rdV B z 1 : Nat) : Int)))])
    (fun _ => []) := by
  refine reg_seq [0, 1, 3] [6, 7, 8, 10, 12] 3
    (fun _ ι => ([(.int .u64 0), (.int .i64 0), (.int .i64 4)] : List Value).getD ι undef)
    (fun _ ι => ([{}, {}, {}] : List Eff).getD ι {})
    (by as_aux_lemma => kernel_rfl) (by as_aux_lemma => kernel_rfl) (fun _ => by as_aux_lemma => kernel_rfl) (fun _ => by as_aux_lemma => kernel_rfl) ⟨⟨⟨trivial, ?_⟩, ?_⟩, ?_⟩
  · exact o_run 0 [] [] (fun _ _ => []) (fun _ _ => by as_aux_lemma => kernel_rfl)
  · exact o_run 1 [] [] (fun _ _ => []) (fun _ _ => by as_aux_lemma => kernel_rfl)
  · exact o_run 2 [] [] (fun _ _ => []) (fun _ _ => by as_aux_lemma => kernel_rfl)
theorem rsize_any_r30 (B : List UInt8) (z : Int) (w0 : World) (F : World → Prop) : Reg Try.prog 14 (regOps Try.f14 14) false 68 [(6, (.int .u64 0)), (7, (.int .i64 0)), (8, (.int .i64 0)), (10, (.int .i64 (rdN B.length z 1))), (12, (.int .u64 ((rdV B z 1 : Nat) : Int))), (65, (.bool false))] w0 [] F
    (fun _ => [(6, (.int .u64 ((rdV B z 1 : Nat) : Int))), (7, (.int .i64 (rdN B.length z 1))), (8, (.int .i64 0))])
    (fun _ => []) := by
  refine reg_seq [0, 1, 3, 7, 15] [6, 7, 8] 5
    (fun _ ι => ([(.int .u64 ((rdV B z 1 : Nat) : Int)), (.int .i64 (rdN B.length z 1)), (.int .u64 ((rdV B z 1 : Nat) : Int)), (.int .i64 (rdN B.length z 1)), (.int .i64 0)] : List Value).getD ι undef)
    (fun _ ι => ([{}, {}, {}, {}, {}] : List Eff).getD ι {})
    (by as_aux_lemma => kernel_rfl) (by as_aux_lemma => kernel_rfl) (fun _ => by as_aux_lemma => kernel_rfl) (fun _ => by as_aux_lemma => kernel_rfl) ⟨⟨⟨⟨⟨trivial, ?_⟩, ?_⟩, ?_⟩, ?_⟩, ?_⟩
  · exact o_run 0 [] [] (fun _ _ => []) (fun _ _ => by as_aux_lemma => kernel_rfl)
  · exact o_run 1 [] [] (fun _ _ => []) (fun _ _ => by as_aux_lemma => kernel_rfl)
  · exact o_run 2 [] [] (fun _ _ => []) (fun _ _ => by as_aux_lemma => kernel_rfl)
  · exact o_run 3 [] [] (fun _ _ => []) (fun _ _ => by as_aux_lemma => kernel_rfl)
  · exact o_run 4 [] [] (fun _ _ => []) (fun _ _ => by as_aux_lemma => kernel_rfl)
theorem rsize_any (a : Option Addr) (c : Nat) (B : List UInt8) (z : Int) (q : Nat) (hz : -9223372036854775808 ≤ z ∧ z < 9223372036854775808) (hBl : B.length ≤ 140737488351232) (hq : q < 18446744073709551616) (w0 : World) (hf0 : Bs w0 a c B) : Calls Try.prog 14 #[(.slice a (B).length c), (.int .i64 z), (.int .u64 ((q : Nat) : Int))] w0 (fun ε w' => ε = .returned (.tuple #[(.int .u64 ((szV B z q : Nat) : Int)), (.int .i64 (szN B z q)), (.int .i64 (szE B z q))]) ∧ Below w0.heap.size w0 w') := by
  refine Calls.of_ok (n := 68) (F := (fun w => Bs w a c B ∧ True)) Try.func14 rfl rfl rfl (by simp) (hf0.pers0.and persT) ?_
  refine ok_seq_r (by as_aux_lemma => kernel_rfl) (rsize_any_r1 a c B z q _ _) (fun _ => ?_)
  refine ok_seq_rf (by as_aux_lemma => kernel_rfl) (rsize_any_r2 a c B z q hz hBl hq _) (fun _ => ?_)
  refine ok_seq ?_
  refine ok_seq_r (by as_aux_lemma => kernel_rfl) (rsize_any_r3 a c B z q _ _) (fun _ => ?_)
  refine ok_cond (b := (rdE B.length z 1) != 0) (by as_aux_lemma => kernel_rfl) (fun hb1 => ?_) (fun hb1 => ?_)
  ·
    rw [hb1]
    refine ok_seq_r (by as_aux_lemma => kernel_rfl) (rsize_any_r4 a c B z q _ _) (fun _ => ?_)
    refine ok_ret ?_
    refine mt_then_r ?_
    exact meets_ret (v := (.tuple #[(.int .u64 0), (.int .i64 0), (.int .i64 (rdE B.length z 1))])) [] (dup []) (by as_aux_lemma => kernel_rfl) (by as_aux_lemma => kernel_rfl) (eqs_dup _) (fun _ hS => ⟨congrArg Ending.returned (szT_of (sz_err1 rfl (bne0 hb1))), hS.below⟩)
  ·
    rw [hb1]
    refine ok_skip ?_
    refine mt_then ?_
    refine ok_seq_r (by as_aux_lemma => kernel_rfl) (rsize_any_r5 a c B z q _ _) (fun _ => ?_)
    refine ok_seq ?_
    refine ok_seq_r (by as_aux_lemma => kernel_rfl) (rsize_any_r6 a c B z q _ _) (fun _ => ?_)
    refine ok_cond (b := decide (253 ≤ ((rdV B z 1 : Nat) : Int))) (by as_aux_lemma => kernel_rfl) (fun hb2 => ?_) (fun hb2 => ?_)
    ·
      rw [hb2]
      refine ok_seq_r (by as_aux_lemma => kernel_rfl) (rsize_any_r7 a c B z q hz hBl hq hb1 hb2 _ _) (fun _ => ?_)
      refine ok_seq_rf (by as_aux_lemma => kernel_rfl) (rsize_any_r8 a c B z q hBl _) (fun _ => ?_)
      refine ok_seq ?_
      refine ok_seq_r (by as_aux_lemma => kernel_rfl) (rsize_any_r9 B z q _ _) (fun _ => ?_)
      refine ok_cond (b := (rdE B.length (rdN B.length z 1) (2 ^ (rdV B z 1 - 252))) != 0) (by as_aux_lemma => kernel_rfl) (fun hb3 => ?_) (fun hb3 => ?_)
      ·
        rw [hb3]
        refine ok_seq_r (by as_aux_lemma => kernel_rfl) (rsize_any_r10 B z q _ _) (fun _ => ?_)
        refine ok_ret ?_
        refine mt_then_r ?_
        refine mt_then_r ?_
        exact meets_ret (v := (.tuple #[(.int .u64 0), (.int .i64 0), (.int .i64 (rdE B.length (rdN B.length z 1) (2 ^ (rdV B z 1 - 252))))])) [] (dup []) (by as_aux_lemma => kernel_rfl) (by as_aux_lemma => kernel_rfl) (eqs_dup _) (fun _ hS => ⟨congrArg Ending.returned (szT_of (sz_err2 (bne0' hb1) (m := rdV B z 1) rfl (by have := bne0' hb1; have := rdE_in (bne0' hb1); have := of_decide_eq_true hb2; have := bne0 hb3; have := hz; have := hBl; have := hq; omega) rfl rfl (bne0 hb3))), hS.below⟩)
      ·
        rw [hb3]
        refine ok_skip ?_
        refine mt_then ?_
        rcases Bool.eq_false_or_eq_true (((rdV B z 1 : Nat) : Int) == 253) with hb4 | hb4
        ·
          rcases Bool.eq_false_or_eq_true (decide (((rdV B (rdN B.length z 1) (2 ^ (rdV B z 1 - 252)) : Nat) : Int) < 253)) with hb5 | hb5
          ·
            refine ok_seq_r (by as_aux_lemma => kernel_rfl) (rsize_any_r11 B z q hb4 hb5 _ _) (fun _ => ?_)
            refine ok_yes (by as_aux_lemma => kernel_rfl) ?_
            refine ok_seq_r (by as_aux_lemma => kernel_rfl) (rsize_any_r12 B z q _ _) (fun _ => ?_)
            refine ok_ret ?_
            refine mt_then_r ?_
            exact meets_ret (v := (.tuple #[(.int .u64 0), (.int .i64 0), (.int .i64 3)])) [] (dup []) (by as_aux_lemma => kernel_rfl) (by as_aux_lemma => kernel_rfl) (eqs_dup _) (fun _ hS => ⟨congrArg Ending.returned (szT_of (sz_can2 (bne0' hb1) (m := rdV B z 1) rfl (by have := bne0' hb1; have := rdE_in (bne0' hb1); have := of_decide_eq_true hb2; have := bne0' hb3; have := rdE_in (bne0' hb3); have := of_decide_eq_true hb5; have := hz; have := hBl; have := hq; omega) rfl (szLeast_253 (eqN (k := 253) hb4)) (bne0' hb3) (by have := bne0' hb1; have := rdE_in (bne0' hb1); have := of_decide_eq_true hb2; have := bne0' hb3; have := rdE_in (bne0' hb3); have := of_decide_eq_true hb5; have := hz; have := hBl; have := hq; omega))), hS.below⟩)
          ·
            refine ok_seq_r (by as_aux_lemma => kernel_rfl) (rsize_any_r13 B z q hb4 hb5 _ _) (fun _ => ?_)
            refine ok_no (by as_aux_lemma => kernel_rfl) ?_
            refine ok_skip ?_
            refine mt_then ?_
            refine ok_seq ?_
            refine ok_seq_r (by as_aux_lemma => kernel_rfl) (rsize_any_r14 B z q _ _) (fun _ => ?_)
            refine ok_cond (b := decide (((q : Nat) : Int) < ((rdV B (rdN B.length z 1) (2 ^ (rdV B z 1 - 252)) : Nat) : Int))) (by as_aux_lemma => kernel_rfl) (fun hb6 => ?_) (fun hb6 => ?_)
            ·
              rw [hb6]
              refine ok_seq_r (by as_aux_lemma => kernel_rfl) (rsize_any_r15 B z _ _) (fun _ => ?_)
              refine ok_ret ?_
              refine mt_then_r ?_
              exact meets_ret (v := (.tuple #[(.int .u64 0), (.int .i64 0), (.int .i64 4)])) [] (dup []) (by as_aux_lemma => kernel_rfl) (by as_aux_lemma => kernel_rfl) (eqs_dup _) (fun _ hS => ⟨congrArg Ending.returned (szT_of (sz_lim2 (bne0' hb1) (m := rdV B z 1) rfl (by have := bne0' hb1; have := rdE_in (bne0' hb1); have := of_decide_eq_true hb2; have := bne0' hb3; have := rdE_in (bne0' hb3); have := of_decide_eq_false hb5; have := of_decide_eq_true hb6; have := hz; have := hBl; have := hq; omega) rfl (szLeast_253 (eqN (k := 253) hb4)) (bne0' hb3) (by have := bne0' hb1; have := rdE_in (bne0' hb1); have := of_decide_eq_true hb2; have := bne0' hb3; have := rdE_in (bne0' hb3); have := of_decide_eq_false hb5; have := of_decide_eq_true hb6; have := hz; have := hBl; have := hq; omega) (by have := bne0' hb1; have := rdE_in (bne0' hb1); have := of_decide_eq_true hb2; have := bne0' hb3; have := rdE_in (bne0' hb3); have := of_decide_eq_false hb5; have := of_decide_eq_true hb6; have := hz; have := hBl; have := hq; omega))), hS.below⟩)
            ·
              rw [hb6]
              refine ok_skip ?_
              refine mt_then ?_
              refine ok_seq_r (by as_aux_lemma => kernel_rfl) (rsize_any_r16 B z _ _) (fun _ => ?_)
              refine ok_ret ?_
              exact meets_ret (v := (.tuple #[(.int .u64 ((rdV B (rdN B.length z 1) (2 ^ (rdV B z 1 - 252)) : Nat) : Int)), (.int .i64 (rdN B.length (rdN B.length z 1) (2 ^ (rdV B z 1 - 252)))), (.int .i64 0)])) [] (dup []) (by as_aux_lemma => kernel_rfl) (by as_aux_lemma => kernel_rfl) (eqs_dup _) (fun _ hS => ⟨congrArg Ending.returned (szT_of (sz_ok2 (bne0' hb1) (m := rdV B z 1) rfl (by have := bne0' hb1; have := rdE_in (bne0' hb1); have := of_decide_eq_true hb2; have := bne0' hb3; have := rdE_in (bne0' hb3); have := of_decide_eq_false hb5; have := of_decide_eq_false hb6; have := hz; have := hBl; have := hq; omega) rfl (szLeast_253 (eqN (k := 253) hb4)) (bne0' hb3) (by have := bne0' hb1; have := rdE_in (bne0' hb1); have := of_decide_eq_true hb2; have := bne0' hb3; have := rdE_in (bne0' hb3); have := of_decide_eq_false hb5; have := of_decide_eq_false hb6; have := hz; have := hBl; have := hq; omega) (by have := bne0' hb1; have := rdE_in (bne0' hb1); have := of_decide_eq_true hb2; have := bne0' hb3; have := rdE_in (bne0' hb3); have := of_decide_eq_false hb5; have := of_decide_eq_false hb6; have := hz; have := hBl; have := hq; omega))), hS.below⟩)
        ·
          rcases Bool.eq_false_or_eq_true (((rdV B z 1 : Nat) : Int) == 254) with hb7 | hb7
          ·
            rcases Bool.eq_false_or_eq_true (decide (((rdV B (rdN B.length z 1) (2 ^ (rdV B z 1 - 252)) : Nat) : Int) < 65536)) with hb8 | hb8
            ·
              refine ok_seq_r (by as_aux_lemma => kernel_rfl) (rsize_any_r17 B z q hb4 hb7 hb8 _ _) (fun _ => ?_)
              refine ok_yes (by as_aux_lemma => kernel_rfl) ?_
              refine ok_seq_r (by as_aux_lemma => kernel_rfl) (rsize_any_r18 B z q _ _) (fun _ => ?_)
              refine ok_ret ?_
              refine mt_then_r ?_
              exact meets_ret (v := (.tuple #[(.int .u64 0), (.int .i64 0), (.int .i64 3)])) [] (dup []) (by as_aux_lemma => kernel_rfl) (by as_aux_lemma => kernel_rfl) (eqs_dup _) (fun _ hS => ⟨congrArg Ending.returned (szT_of (sz_can2 (bne0' hb1) (m := rdV B z 1) rfl (by have := bne0' hb1; have := rdE_in (bne0' hb1); have := of_decide_eq_true hb2; have := bne0' hb3; have := rdE_in (bne0' hb3); have := of_decide_eq_true hb8; have := hz; have := hBl; have := hq; omega) rfl (szLeast_254 (eqN (k := 254) hb7)) (bne0' hb3) (by have := bne0' hb1; have := rdE_in (bne0' hb1); have := of_decide_eq_true hb2; have := bne0' hb3; have := rdE_in (bne0' hb3); have := of_decide_eq_true hb8; have := hz; have := hBl; have := hq; omega))), hS.below⟩)
            ·
              refine ok_seq_r (by as_aux_lemma => kernel_rfl) (rsize_any_r19 B z q hb4 hb7 hb8 _ _) (fun _ => ?_)
              refine ok_no (by as_aux_lemma => kernel_rfl) ?_
              refine ok_skip ?_
              refine mt_then ?_
              refine ok_seq ?_
              refine ok_seq_r (by as_aux_lemma => kernel_rfl) (rsize_any_r20 B z q _ _) (fun _ => ?_)
              refine ok_cond (b := decide (((q : Nat) : Int) < ((rdV B (rdN B.length z 1) (2 ^ (rdV B z 1 - 252)) : Nat) : Int))) (by as_aux_lemma => kernel_rfl) (fun hb9 => ?_) (fun hb9 => ?_)
              ·
                rw [hb9]
                refine ok_seq_r (by as_aux_lemma => kernel_rfl) (rsize_any_r21 B z _ _) (fun _ => ?_)
                refine ok_ret ?_
                refine mt_then_r ?_
                exact meets_ret (v := (.tuple #[(.int .u64 0), (.int .i64 0), (.int .i64 4)])) [] (dup []) (by as_aux_lemma => kernel_rfl) (by as_aux_lemma => kernel_rfl) (eqs_dup _) (fun _ hS => ⟨congrArg Ending.returned (szT_of (sz_lim2 (bne0' hb1) (m := rdV B z 1) rfl (by have := bne0' hb1; have := rdE_in (bne0' hb1); have := of_decide_eq_true hb2; have := bne0' hb3; have := rdE_in (bne0' hb3); have := of_decide_eq_false hb8; have := of_decide_eq_true hb9; have := hz; have := hBl; have := hq; omega) rfl (szLeast_254 (eqN (k := 254) hb7)) (bne0' hb3) (by have := bne0' hb1; have := rdE_in (bne0' hb1); have := of_decide_eq_true hb2; have := bne0' hb3; have := rdE_in (bne0' hb3); have := of_decide_eq_false hb8; have := of_decide_eq_true hb9; have := hz; have := hBl; have := hq; omega) (by have := bne0' hb1; have := rdE_in (bne0' hb1); have := of_decide_eq_true hb2; have := bne0' hb3; have := rdE_in (bne0' hb3); have := of_decide_eq_false hb8; have := of_decide_eq_true hb9; have := hz; have := hBl; have := hq; omega))), hS.below⟩)
              ·
                rw [hb9]
                refine ok_skip ?_
                refine mt_then ?_
                refine ok_seq_r (by as_aux_lemma => kernel_rfl) (rsize_any_r22 B z _ _) (fun _ => ?_)
                refine ok_ret ?_
                exact meets_ret (v := (.tuple #[(.int .u64 ((rdV B (rdN B.length z 1) (2 ^ (rdV B z 1 - 252)) : Nat) : Int)), (.int .i64 (rdN B.length (rdN B.length z 1) (2 ^ (rdV B z 1 - 252)))), (.int .i64 0)])) [] (dup []) (by as_aux_lemma => kernel_rfl) (by as_aux_lemma => kernel_rfl) (eqs_dup _) (fun _ hS => ⟨congrArg Ending.returned (szT_of (sz_ok2 (bne0' hb1) (m := rdV B z 1) rfl (by have := bne0' hb1; have := rdE_in (bne0' hb1); have := of_decide_eq_true hb2; have := bne0' hb3; have := rdE_in (bne0' hb3); have := of_decide_eq_false hb8; have := of_decide_eq_false hb9; have := hz; have := hBl; have := hq; omega) rfl (szLeast_254 (eqN (k := 254) hb7)) (bne0' hb3) (by have := bne0' hb1; have := rdE_in (bne0' hb1); have := of_decide_eq_true hb2; have := bne0' hb3; have := rdE_in (bne0' hb3); have := of_decide_eq_false hb8; have := of_decide_eq_false hb9; have := hz; have := hBl; have := hq; omega) (by have := bne0' hb1; have := rdE_in (bne0' hb1); have := of_decide_eq_true hb2; have := bne0' hb3; have := rdE_in (bne0' hb3); have := of_decide_eq_false hb8; have := of_decide_eq_false hb9; have := hz; have := hBl; have := hq; omega))), hS.below⟩)
          ·
            refine ok_seq_r (by as_aux_lemma => kernel_rfl) (rsize_any_r23 B z q hb2 hb4 hb7 _ _) (fun _ => ?_)
            refine ok_cond (b := decide (((rdV B (rdN B.length z 1) (2 ^ (rdV B z 1 - 252)) : Nat) : Int) < 4294967296)) (by as_aux_lemma => kernel_rfl) (fun hb10 => ?_) (fun hb10 => ?_)
            ·
              rw [hb10]
              refine ok_seq_r (by as_aux_lemma => kernel_rfl) (rsize_any_r24 B z q _ _) (fun _ => ?_)
              refine ok_ret ?_
              refine mt_then_r ?_
              exact meets_ret (v := (.tuple #[(.int .u64 0), (.int .i64 0), (.int .i64 3)])) [] (dup []) (by as_aux_lemma => kernel_rfl) (by as_aux_lemma => kernel_rfl) (eqs_dup _) (fun _ hS => ⟨congrArg Ending.returned (szT_of (sz_can2 (bne0' hb1) (m := rdV B z 1) rfl (by have := bne0' hb1; have := rdE_in (bne0' hb1); have := of_decide_eq_true hb2; have := bne0' hb3; have := rdE_in (bne0' hb3); have := of_decide_eq_true hb10; have := hz; have := hBl; have := hq; omega) rfl (szLeast_0 (neN (k := 253) hb4) (neN (k := 254) hb7)) (bne0' hb3) (by have := bne0' hb1; have := rdE_in (bne0' hb1); have := of_decide_eq_true hb2; have := bne0' hb3; have := rdE_in (bne0' hb3); have := of_decide_eq_true hb10; have := hz; have := hBl; have := hq; omega))), hS.below⟩)
            ·
              rw [hb10]
              refine ok_skip ?_
              refine mt_then ?_
              refine ok_seq ?_
              refine ok_seq_r (by as_aux_lemma => kernel_rfl) (rsize_any_r25 B z q _ _) (fun _ => ?_)
              refine ok_cond (b := decide (((q : Nat) : Int) < ((rdV B (rdN B.length z 1) (2 ^ (rdV B z 1 - 252)) : Nat) : Int))) (by as_aux_lemma => kernel_rfl) (fun hb11 => ?_) (fun hb11 => ?_)
              ·
                rw [hb11]
                refine ok_seq_r (by as_aux_lemma => kernel_rfl) (rsize_any_r26 B z _ _) (fun _ => ?_)
                refine ok_ret ?_
                refine mt_then_r ?_
                exact meets_ret (v := (.tuple #[(.int .u64 0), (.int .i64 0), (.int .i64 4)])) [] (dup []) (by as_aux_lemma => kernel_rfl) (by as_aux_lemma => kernel_rfl) (eqs_dup _) (fun _ hS => ⟨congrArg Ending.returned (szT_of (sz_lim2 (bne0' hb1) (m := rdV B z 1) rfl (by have := bne0' hb1; have := rdE_in (bne0' hb1); have := of_decide_eq_true hb2; have := bne0' hb3; have := rdE_in (bne0' hb3); have := of_decide_eq_false hb10; have := of_decide_eq_true hb11; have := hz; have := hBl; have := hq; omega) rfl (szLeast_0 (neN (k := 253) hb4) (neN (k := 254) hb7)) (bne0' hb3) (by have := bne0' hb1; have := rdE_in (bne0' hb1); have := of_decide_eq_true hb2; have := bne0' hb3; have := rdE_in (bne0' hb3); have := of_decide_eq_false hb10; have := of_decide_eq_true hb11; have := hz; have := hBl; have := hq; omega) (by have := bne0' hb1; have := rdE_in (bne0' hb1); have := of_decide_eq_true hb2; have := bne0' hb3; have := rdE_in (bne0' hb3); have := of_decide_eq_false hb10; have := of_decide_eq_true hb11; have := hz; have := hBl; have := hq; omega))), hS.below⟩)
              ·
                rw [hb11]
                refine ok_skip ?_
                refine mt_then ?_
                refine ok_seq_r (by as_aux_lemma => kernel_rfl) (rsize_any_r27 B z _ _) (fun _ => ?_)
                refine ok_ret ?_
                exact meets_ret (v := (.tuple #[(.int .u64 ((rdV B (rdN B.length z 1) (2 ^ (rdV B z 1 - 252)) : Nat) : Int)), (.int .i64 (rdN B.length (rdN B.length z 1) (2 ^ (rdV B z 1 - 252)))), (.int .i64 0)])) [] (dup []) (by as_aux_lemma => kernel_rfl) (by as_aux_lemma => kernel_rfl) (eqs_dup _) (fun _ hS => ⟨congrArg Ending.returned (szT_of (sz_ok2 (bne0' hb1) (m := rdV B z 1) rfl (by have := bne0' hb1; have := rdE_in (bne0' hb1); have := of_decide_eq_true hb2; have := bne0' hb3; have := rdE_in (bne0' hb3); have := of_decide_eq_false hb10; have := of_decide_eq_false hb11; have := hz; have := hBl; have := hq; omega) rfl (szLeast_0 (neN (k := 253) hb4) (neN (k := 254) hb7)) (bne0' hb3) (by have := bne0' hb1; have := rdE_in (bne0' hb1); have := of_decide_eq_true hb2; have := bne0' hb3; have := rdE_in (bne0' hb3); have := of_decide_eq_false hb10; have := of_decide_eq_false hb11; have := hz; have := hBl; have := hq; omega) (by have := bne0' hb1; have := rdE_in (bne0' hb1); have := of_decide_eq_true hb2; have := bne0' hb3; have := rdE_in (bne0' hb3); have := of_decide_eq_false hb10; have := of_decide_eq_false hb11; have := hz; have := hBl; have := hq; omega))), hS.below⟩)
    ·
      rw [hb2]
      refine ok_skip ?_
      refine mt_then ?_
      refine ok_seq ?_
      refine ok_seq_r (by as_aux_lemma => kernel_rfl) (rsize_any_r28 a c B z q _ _) (fun _ => ?_)
      refine ok_cond (b := decide (((q : Nat) : Int) < ((rdV B z 1 : Nat) : Int))) (by as_aux_lemma => kernel_rfl) (fun hb12 => ?_) (fun hb12 => ?_)
      ·
        rw [hb12]
        refine ok_seq_r (by as_aux_lemma => kernel_rfl) (rsize_any_r29 B z _ _) (fun _ => ?_)
        refine ok_ret ?_
        refine mt_then_r ?_
        exact meets_ret (v := (.tuple #[(.int .u64 0), (.int .i64 0), (.int .i64 4)])) [] (dup []) (by as_aux_lemma => kernel_rfl) (by as_aux_lemma => kernel_rfl) (eqs_dup _) (fun _ hS => ⟨congrArg Ending.returned (szT_of (sz_lim1 (bne0' hb1) (by have := bne0' hb1; have := rdE_in (bne0' hb1); have := of_decide_eq_false hb2; have := of_decide_eq_true hb12; have := hz; have := hBl; have := hq; omega) (by have := bne0' hb1; have := rdE_in (bne0' hb1); have := of_decide_eq_false hb2; have := of_decide_eq_true hb12; have := hz; have := hBl; have := hq; omega))), hS.below⟩)
      ·
        rw [hb12]
        refine ok_skip ?_
        refine mt_then ?_
        refine ok_seq_r (by as_aux_lemma => kernel_rfl) (rsize_any_r30 B z _ _) (fun _ => ?_)
        refine ok_ret ?_
        exact meets_ret (v := (.tuple #[(.int .u64 ((rdV B z 1 : Nat) : Int)), (.int .i64 (rdN B.length z 1)), (.int .i64 0)])) [] (dup []) (by as_aux_lemma => kernel_rfl) (by as_aux_lemma => kernel_rfl) (eqs_dup _) (fun _ hS => ⟨congrArg Ending.returned (szT_of (sz_ok1 (bne0' hb1) (by have := bne0' hb1; have := rdE_in (bne0' hb1); have := of_decide_eq_false hb2; have := of_decide_eq_false hb12; have := hz; have := hBl; have := hq; omega) (by have := bne0' hb1; have := rdE_in (bne0' hb1); have := of_decide_eq_false hb2; have := of_decide_eq_false hb12; have := hz; have := hBl; have := hq; omega))), hS.below⟩)
end Go.Proofs.Ytclccfibfkcagaa
