/-
  The codec reads byte strings and digests: the walks.
-/
import Derived.Test.YtclccfibfkcagaaCSize
import Derived.Test.YtclccfibfkcagaaCAppend2
namespace Go.Proofs.Ytclccfibfkcagaa
open Go Go.RowKit
set_option maxRecDepth 100000
theorem bytes_any_r1 (a : Option Addr) (c : Nat) (B : List UInt8) (z : Int) (y : Int) (w0 : World) (F : World → Prop) : Reg Try.prog 0 (regOps Try.f28 0) false 44 [(0, (.slice a (B).length c)), (1, (.int .i64 z)), (2, (.int .i64 y))] w0 [] F
    (fun _ => [(0, (.slice a (B).length c)), (1, (.int .i64 z)), (2, (.int .i64 y)), (6, (.slice none 0 0)), (7, (.int .i64 0)), (8, (.int .i64 0))])
    (fun _ => []) := by
  refine reg_seq [0, 1, 3] [0, 1, 2, 6, 7, 8] 3
    (fun _ ι => ([(.slice none 0 0), (.int .i64 0), (.int .i64 0)] : List Value).getD ι undef)
    (fun _ ι => ([{}, {}, {}] : List Eff).getD ι {})
    (by as_aux_lemma => kernel_rfl) (by as_aux_lemma => kernel_rfl) (fun _ => by as_aux_lemma => kernel_rfl) (fun _ => by as_aux_lemma => kernel_rfl) ⟨⟨⟨trivial, ?_⟩, ?_⟩, ?_⟩
  · exact o_run 0 [] [] (fun _ _ => []) (fun _ _ => by as_aux_lemma => kernel_rfl)
  · exact o_run 1 [] [] (fun _ _ => []) (fun _ _ => by as_aux_lemma => kernel_rfl)
  · exact o_run 2 [] [] (fun _ _ => []) (fun _ _ => by as_aux_lemma => kernel_rfl)
theorem bytes_any_r2 (a : Option Addr) (c : Nat) (B : List UInt8) (z : Int) (y : Int) (w0 : World) (F : World → Prop) : Reg Try.prog 1 (regOps Try.f28 1) false 44 [(0, (.slice a (B).length c)), (1, (.int .i64 z)), (2, (.int .i64 y)), (6, (.slice none 0 0)), (7, (.int .i64 0)), (8, (.int .i64 0))] w0 [] F
    (fun _ => [(0, (.slice a (B).length c)), (1, (.int .i64 z)), (2, (.int .i64 y)), (6, (.slice none 0 0)), (7, (.int .i64 0)), (8, (.int .i64 0)), (14, (.bool (decide (y < 0))))])
    (fun _ => []) := by
  refine reg_seq [0, 1] [0, 1, 2, 6, 7, 8, 14] 2
    (fun _ ι => ([(.int .i64 y), (.bool (decide (y < 0)))] : List Value).getD ι undef)
    (fun _ ι => ([{}, {}] : List Eff).getD ι {})
    (by as_aux_lemma => kernel_rfl) (by as_aux_lemma => kernel_rfl) (fun _ => by as_aux_lemma => kernel_rfl) (fun _ => by as_aux_lemma => kernel_rfl) ⟨⟨trivial, ?_⟩, ?_⟩
  · exact o_run 0 [] [] (fun _ _ => []) (fun _ _ => by as_aux_lemma => kernel_rfl)
  · exact o_run 1 [] [] (fun _ _ => []) (fun _ _ => by as_aux_lemma => kernel_rfl)
theorem bytes_any_r3 (a : Option Addr) (c : Nat) (B : List UInt8) (z : Int) (y : Int) (w0 : World) (F : World → Prop) : Reg Try.prog 2 (regOps Try.f28 2) false 44 [(0, (.slice a (B).length c)), (1, (.int .i64 z)), (2, (.int .i64 y)), (6, (.slice none 0 0)), (7, (.int .i64 0)), (8, (.int .i64 0)), (14, (.bool true))] w0 [] F
    (fun _ => [(0, (.slice a (B).length c)), (1, (.int .i64 z)), (2, (.int .i64 y)), (6, (.slice none 0 0)), (7, (.int .i64 0)), (8, (.int .i64 5))])
    (fun _ => []) := by
  refine reg_seq [0, 1, 3] [0, 1, 2, 6, 7, 8] 3
    (fun _ ι => ([(.slice none 0 0), (.int .i64 0), (.int .i64 5)] : List Value).getD ι undef)
    (fun _ ι => ([{}, {}, {}] : List Eff).getD ι {})
    (by as_aux_lemma => kernel_rfl) (by as_aux_lemma => kernel_rfl) (fun _ => by as_aux_lemma => kernel_rfl) (fun _ => by as_aux_lemma => kernel_rfl) ⟨⟨⟨trivial, ?_⟩, ?_⟩, ?_⟩
  · exact o_run 0 [] [] (fun _ _ => []) (fun _ _ => by as_aux_lemma => kernel_rfl)
  · exact o_run 1 [] [] (fun _ _ => []) (fun _ _ => by as_aux_lemma => kernel_rfl)
  · exact o_run 2 [] [] (fun _ _ => []) (fun _ _ => by as_aux_lemma => kernel_rfl)
theorem bytes_any_r4 (a : Option Addr) (c : Nat) (B : List UInt8) (z : Int) (y : Int) (hz : -9223372036854775808 ≤ z ∧ z < 9223372036854775808) (hy : -9223372036854775808 ≤ y ∧ y < 9223372036854775808) (hBl : B.length ≤ 140737488351232) (hb1 : (decide (y < 0)) = false) (w0 : World) : RegF Try.prog 3 (regOps Try.f28 3) false 44 [(0, (.slice a (B).length c)), (1, (.int .i64 z)), (2, (.int .i64 y)), (6, (.slice none 0 0)), (7, (.int .i64 0)), (8, (.int .i64 0)), (14, (.bool false))] w0 [] (fun w => Bs w a c B ∧ True)
    (fun _ => [(0, (.slice a (B).length c)), (6, (.slice none 0 0)), (7, (.int .i64 0)), (8, (.int .i64 0)), (9, (.int .u64 ((szV B z y.toNat : Nat) : Int))), (10, (.int .i64 (szN B z y.toNat))), (11, (.int .i64 (szE B z y.toNat)))])
    (fun _ => []) (fun _ => (fun w => Bs w a c B ∧ True)) := by
  refine reg_seq_f [0, 1, 3, 7, 15, 31, 63, 127, 255, 511, 1023, 2047] [0, 6, 7, 8, 9, 10, 11] 12
    (fun _ ι => ([(.slice a (B).length c), (.int .i64 z), (.int .i64 y), (.int .u64 ((y.toNat : Nat) : Int)), (.tuple #[(.int .u64 ((szV B z y.toNat : Nat) : Int)), (.int .i64 (szN B z y.toNat)), (.int .i64 (szE B z y.toNat))]), (.tuple #[(.int .u64 ((szV B z y.toNat : Nat) : Int)), (.int .i64 (szN B z y.toNat)), (.int .i64 (szE B z y.toNat))]), (.int .u64 ((szV B z y.toNat : Nat) : Int)), (.int .i64 (szN B z y.toNat)), (.int .i64 (szE B z y.toNat)), (.int .u64 ((szV B z y.toNat : Nat) : Int)), (.int .i64 (szN B z y.toNat)), (.int .i64 (szE B z y.toNat))] : List Value).getD ι undef)
    (fun _ ι => ([{}, {}, {}, {}, {}, {}, {}, {}, {}, {}, {}, {}] : List Eff).getD ι {})
    (fun _ ι => ([(fun _ => True), (fun _ => True), (fun _ => True), (fun _ => True), (fun _ => True), (fun _ => True), (fun _ => True), (fun _ => True), (fun _ => True), (fun _ => True), (fun _ => True), (fun _ => True)] : List (World → Prop)).getD ι (fun _ => True))
    (by as_aux_lemma => kernel_rfl) (by as_aux_lemma => kernel_rfl) (fun _ => by as_aux_lemma => kernel_rfl) (fun _ => by as_aux_lemma => kernel_rfl) (fun _ _ hF _ => ⟨hF.1, trivial⟩) ⟨⟨⟨⟨⟨⟨⟨⟨⟨⟨⟨⟨trivial, ?_⟩, ?_⟩, ?_⟩, ?_⟩, ?_⟩, ?_⟩, ?_⟩, ?_⟩, ?_⟩, ?_⟩, ?_⟩, ?_⟩
  · exact Obl.brings (o_run 0 [] [] (fun _ _ => []) (fun _ _ => by as_aux_lemma => kernel_rfl)) (fun _ _ => trivial)
  · exact Obl.brings (o_run 1 [] [] (fun _ _ => []) (fun _ _ => by as_aux_lemma => kernel_rfl)) (fun _ _ => trivial)
  · exact Obl.brings (o_run 2 [] [] (fun _ _ => []) (fun _ _ => by as_aux_lemma => kernel_rfl)) (fun _ _ => trivial)
  · exact Obl.brings (o_as 3 (fun _ => (.int .u64 (IntKind.u64.wrap (y)))) (fun _ => (.int .u64 ((y.toNat : Nat) : Int))) (fun _ _ => by as_aux_lemma => kernel_rfl) (fun _ => congrArg (Value.int .u64) (u64_int (by have := of_decide_eq_false hb1; have := hz; have := hBl; have := hy; omega) (by have := of_decide_eq_false hb1; have := hz; have := hBl; have := hy; omega)))) (fun _ _ => trivial)
  · exact o_callP 4 13 (fun _ => #[(.slice a (B).length c), (.int .i64 z), (.int .u64 ((y.toNat : Nat) : Int))]) (fun _ => (.tuple #[(.int .u64 ((szV B z y.toNat : Nat) : Int)), (.int .i64 (szN B z y.toNat)), (.int .i64 (szE B z y.toNat))])) (fun _ _ => (by as_aux_lemma => kernel_rfl)) (fun _ => (by as_aux_lemma => kernel_rfl)) (fun _ _ => (by as_aux_lemma => kernel_rfl)) (fun _ _ => trivial) (fun _ _ w hG => size_any a c B z y.toNat (by have := of_decide_eq_false hb1; have := hz; have := hBl; have := hy; omega) hBl (by have := of_decide_eq_false hb1; have := hz; have := hBl; have := hy; omega) w hG.facts0.now.1)
  · exact Obl.brings (o_run 5 [] [] (fun _ _ => []) (fun _ _ => by as_aux_lemma => kernel_rfl)) (fun _ _ => trivial)
  · exact Obl.brings (o_run 6 [] [] (fun _ _ => []) (fun _ _ => by as_aux_lemma => kernel_rfl)) (fun _ _ => trivial)
  · exact Obl.brings (o_run 7 [] [] (fun _ _ => []) (fun _ _ => by as_aux_lemma => kernel_rfl)) (fun _ _ => trivial)
  · exact Obl.brings (o_run 8 [] [] (fun _ _ => []) (fun _ _ => by as_aux_lemma => kernel_rfl)) (fun _ _ => trivial)
  · exact Obl.brings (o_run 9 [] [] (fun _ _ => []) (fun _ _ => by as_aux_lemma => kernel_rfl)) (fun _ _ => trivial)
  · exact Obl.brings (o_run 10 [] [] (fun _ _ => []) (fun _ _ => by as_aux_lemma => kernel_rfl)) (fun _ _ => trivial)
  · exact Obl.brings (o_run 11 [] [] (fun _ _ => []) (fun _ _ => by as_aux_lemma => kernel_rfl)) (fun _ _ => trivial)
theorem bytes_any_r5 (a : Option Addr) (c : Nat) (B : List UInt8) (z : Int) (y : Int) (w0 : World) (F : World → Prop) : Reg Try.prog 4 (regOps Try.f28 4) false 44 [(0, (.slice a (B).length c)), (6, (.slice none 0 0)), (7, (.int .i64 0)), (8, (.int .i64 0)), (9, (.int .u64 ((szV B z y.toNat : Nat) : Int))), (10, (.int .i64 (szN B z y.toNat))), (11, (.int .i64 (szE B z y.toNat)))] w0 [] F
    (fun _ => [(0, (.slice a (B).length c)), (6, (.slice none 0 0)), (7, (.int .i64 0)), (8, (.int .i64 0)), (9, (.int .u64 ((szV B z y.toNat : Nat) : Int))), (10, (.int .i64 (szN B z y.toNat))), (11, (.int .i64 (szE B z y.toNat))), (25, (.bool ((szE B z y.toNat) != 0)))])
    (fun _ => []) := by
  refine reg_seq [0, 1] [0, 6, 7, 8, 9, 10, 11, 25] 2
    (fun _ ι => ([(.int .i64 (szE B z y.toNat)), (.bool ((szE B z y.toNat) != 0))] : List Value).getD ι undef)
    (fun _ ι => ([{}, {}] : List Eff).getD ι {})
    (by as_aux_lemma => kernel_rfl) (by as_aux_lemma => kernel_rfl) (fun _ => by as_aux_lemma => kernel_rfl) (fun _ => by as_aux_lemma => kernel_rfl) ⟨⟨trivial, ?_⟩, ?_⟩
  · exact o_run 0 [] [] (fun _ _ => []) (fun _ _ => by as_aux_lemma => kernel_rfl)
  · exact o_run 1 [] [] (fun _ _ => []) (fun _ _ => by as_aux_lemma => kernel_rfl)
theorem bytes_any_r6 (a : Option Addr) (c : Nat) (B : List UInt8) (z : Int) (y : Int) (w0 : World) (F : World → Prop) : Reg Try.prog 5 (regOps Try.f28 5) false 44 [(0, (.slice a (B).length c)), (6, (.slice none 0 0)), (7, (.int .i64 0)), (8, (.int .i64 0)), (9, (.int .u64 ((szV B z y.toNat : Nat) : Int))), (10, (.int .i64 (szN B z y.toNat))), (11, (.int .i64 (szE B z y.toNat))), (25, (.bool true))] w0 [] F
    (fun _ => [(0, (.slice a (B).length c)), (6, (.slice none 0 0)), (7, (.int .i64 0)), (8, (.int .i64 (szE B z y.toNat))), (9, (.int .u64 ((szV B z y.toNat : Nat) : Int))), (10, (.int .i64 (szN B z y.toNat)))])
    (fun _ => []) := by
  refine reg_seq [0, 1, 3, 7] [0, 6, 7, 8, 9, 10] 4
    (fun _ ι => ([(.int .i64 (szE B z y.toNat)), (.slice none 0 0), (.int .i64 0), (.int .i64 (szE B z y.toNat))] : List Value).getD ι undef)
    (fun _ ι => ([{}, {}, {}, {}] : List Eff).getD ι {})
    (by as_aux_lemma => kernel_rfl) (by as_aux_lemma => kernel_rfl) (fun _ => by as_aux_lemma => kernel_rfl) (fun _ => by as_aux_lemma => kernel_rfl) ⟨⟨⟨⟨trivial, ?_⟩, ?_⟩, ?_⟩, ?_⟩
  · exact o_run 0 [] [] (fun _ _ => []) (fun _ _ => by as_aux_lemma => kernel_rfl)
  · exact o_run 1 [] [] (fun _ _ => []) (fun _ _ => by as_aux_lemma => kernel_rfl)
  · exact o_run 2 [] [] (fun _ _ => []) (fun _ _ => by as_aux_lemma => kernel_rfl)
  · exact o_run 3 [] [] (fun _ _ => []) (fun _ _ => by as_aux_lemma => kernel_rfl)
theorem bytes_any_r7 (a : Option Addr) (c : Nat) (B : List UInt8) (z : Int) (y : Int) (hz : -9223372036854775808 ≤ z ∧ z < 9223372036854775808) (hy : -9223372036854775808 ≤ y ∧ y < 9223372036854775808) (hBl : B.length ≤ 140737488351232) (hb1 : (decide (y < 0)) = false) (hb2 : ((szE B z y.toNat) != 0) = false) (w0 : World) (F : World → Prop) : Reg Try.prog 6 (regOps Try.f28 6) false 44 [(0, (.slice a (B).length c)), (6, (.slice none 0 0)), (7, (.int .i64 0)), (8, (.int .i64 0)), (9, (.int .u64 ((szV B z y.toNat : Nat) : Int))), (10, (.int .i64 (szN B z y.toNat))), (11, (.int .i64 (szE B z y.toNat))), (25, (.bool false))] w0 [] F
    (fun _ => [(0, (.slice a (B).length c)), (6, (.slice none 0 0)), (7, (.int .i64 0)), (8, (.int .i64 0)), (9, (.int .u64 ((szV B z y.toNat : Nat) : Int))), (10, (.int .i64 (szN B z y.toNat))), (33, (.bool (decide (((B.length - (szN B z y.toNat).toNat : Nat) : Int) < ((szV B z y.toNat : Nat) : Int)))))])
    (fun _ => []) := by
  refine reg_seq [0, 1, 3, 7, 15, 31, 63] [0, 6, 7, 8, 9, 10, 33] 7
    (fun _ ι => ([(.int .u64 ((szV B z y.toNat : Nat) : Int)), (.slice a (B).length c), (.int .i64 (((B).length : Nat) : Int)), (.int .i64 (szN B z y.toNat)), (.int .i64 ((((B).length : Nat) : Int) - (szN B z y.toNat))), (.int .u64 ((B.length - (szN B z y.toNat).toNat : Nat) : Int)), (.bool (decide (((B.length - (szN B z y.toNat).toNat : Nat) : Int) < ((szV B z y.toNat : Nat) : Int))))] : List Value).getD ι undef)
    (fun _ ι => ([{}, {}, {}, {}, {}, {}, {}] : List Eff).getD ι {})
    (by as_aux_lemma => kernel_rfl) (by as_aux_lemma => kernel_rfl) (fun _ => by as_aux_lemma => kernel_rfl) (fun _ => by as_aux_lemma => kernel_rfl) ⟨⟨⟨⟨⟨⟨⟨trivial, ?_⟩, ?_⟩, ?_⟩, ?_⟩, ?_⟩, ?_⟩, ?_⟩
  · exact o_run 0 [] [] (fun _ _ => []) (fun _ _ => by as_aux_lemma => kernel_rfl)
  · exact o_run 1 [] [] (fun _ _ => []) (fun _ _ => by as_aux_lemma => kernel_rfl)
  · exact o_run 2 [] [] (fun _ _ => []) (fun _ _ => by as_aux_lemma => kernel_rfl)
  · exact o_run 3 [] [] (fun _ _ => []) (fun _ _ => by as_aux_lemma => kernel_rfl)
  · exact o_as 4 (fun _ => (.int .i64 (IntKind.i64.wrap ((((B).length : Nat) : Int) - (szN B z y.toNat))))) (fun _ => (.int .i64 ((((B).length : Nat) : Int) - (szN B z y.toNat)))) (fun _ _ => by as_aux_lemma => kernel_rfl) (fun _ => congrArg (Value.int .i64) (i64N (by have := of_decide_eq_false hb1; have := bne0' hb2; have := hz; have := hBl; have := hy; have := szN_rng hBl z y.toNat; have := szV_lt B z y.toNat; omega)))
  · exact o_as 5 (fun _ => (.int .u64 (IntKind.u64.wrap ((((B).length : Nat) : Int) - (szN B z y.toNat))))) (fun _ => (.int .u64 ((B.length - (szN B z y.toNat).toNat : Nat) : Int))) (fun _ _ => by as_aux_lemma => kernel_rfl) (fun _ => congrArg (Value.int .u64) ((u64_int (by have := of_decide_eq_false hb1; have := bne0' hb2; have := hz; have := hBl; have := hy; have := szN_rng hBl z y.toNat; have := szV_lt B z y.toNat; omega) (by have := of_decide_eq_false hb1; have := bne0' hb2; have := hz; have := hBl; have := hy; have := szN_rng hBl z y.toNat; have := szV_lt B z y.toNat; omega)).trans (by have := szN_rng hBl z y.toNat; omega)))
  · exact o_run 6 [] [] (fun _ _ => []) (fun _ _ => by as_aux_lemma => kernel_rfl)
theorem bytes_any_r8 (a : Option Addr) (c : Nat) (B : List UInt8) (z : Int) (y : Int) (w0 : World) (F : World → Prop) : Reg Try.prog 7 (regOps Try.f28 7) false 44 [(0, (.slice a (B).length c)), (6, (.slice none 0 0)), (7, (.int .i64 0)), (8, (.int .i64 0)), (9, (.int .u64 ((szV B z y.toNat : Nat) : Int))), (10, (.int .i64 (szN B z y.toNat))), (33, (.bool true))] w0 [] F
    (fun _ => [(0, (.slice a (B).length c)), (6, (.slice none 0 0)), (7, (.int .i64 0)), (8, (.int .i64 1)), (9, (.int .u64 ((szV B z y.toNat : Nat) : Int))), (10, (.int .i64 (szN B z y.toNat)))])
    (fun _ => []) := by
  refine reg_seq [0, 1, 3] [0, 6, 7, 8, 9, 10] 3
    (fun _ ι => ([(.slice none 0 0), (.int .i64 0), (.int .i64 1)] : List Value).getD ι undef)
    (fun _ ι => ([{}, {}, {}] : List Eff).getD ι {})
    (by as_aux_lemma => kernel_rfl) (by as_aux_lemma => kernel_rfl) (fun _ => by as_aux_lemma => kernel_rfl) (fun _ => by as_aux_lemma => kernel_rfl) ⟨⟨⟨trivial, ?_⟩, ?_⟩, ?_⟩
  · exact o_run 0 [] [] (fun _ _ => []) (fun _ _ => by as_aux_lemma => kernel_rfl)
  · exact o_run 1 [] [] (fun _ _ => []) (fun _ _ => by as_aux_lemma => kernel_rfl)
  · exact o_run 2 [] [] (fun _ _ => []) (fun _ _ => by as_aux_lemma => kernel_rfl)
theorem bytes_any_r9 (a : Option Addr) (c : Nat) (B : List UInt8) (z : Int) (y : Int) (hz : -9223372036854775808 ≤ z ∧ z < 9223372036854775808) (hy : -9223372036854775808 ≤ y ∧ y < 9223372036854775808) (hBl : B.length ≤ 140737488351232) (hb1 : (decide (y < 0)) = false) (hb2 : ((szE B z y.toNat) != 0) = false) (hb3 : (decide (((B.length - (szN B z y.toNat).toNat : Nat) : Int) < ((szV B z y.toNat : Nat) : Int))) = false) (w0 : World) (F : World → Prop) : Reg Try.prog 8 (regOps Try.f28 8) false 44 [(0, (.slice a (B).length c)), (6, (.slice none 0 0)), (7, (.int .i64 0)), (8, (.int .i64 0)), (9, (.int .u64 ((szV B z y.toNat : Nat) : Int))), (10, (.int .i64 (szN B z y.toNat))), (33, (.bool false))] w0 [] F
    (fun _ => [(0, (.slice a (B).length c)), (6, (.slice none 0 0)), (7, (.int .i64 0)), (8, (.int .i64 0)), (10, (.int .i64 (szN B z y.toNat))), (12, (.int .i64 ((szN B z y.toNat) + ((szV B z y.toNat : Nat) : Int))))])
    (fun _ => []) := by
  refine reg_seq [0, 1, 3, 7, 15] [0, 6, 7, 8, 10, 12] 5
    (fun _ ι => ([(.int .i64 (szN B z y.toNat)), (.int .u64 ((szV B z y.toNat : Nat) : Int)), (.int .i64 ((szV B z y.toNat : Nat) : Int)), (.int .i64 ((szN B z y.toNat) + ((szV B z y.toNat : Nat) : Int))), (.int .i64 ((szN B z y.toNat) + ((szV B z y.toNat : Nat) : Int)))] : List Value).getD ι undef)
    (fun _ ι => ([{}, {}, {}, {}, {}] : List Eff).getD ι {})
    (by as_aux_lemma => kernel_rfl) (by as_aux_lemma => kernel_rfl) (fun _ => by as_aux_lemma => kernel_rfl) (fun _ => by as_aux_lemma => kernel_rfl) ⟨⟨⟨⟨⟨trivial, ?_⟩, ?_⟩, ?_⟩, ?_⟩, ?_⟩
  · exact o_run 0 [] [] (fun _ _ => []) (fun _ _ => by as_aux_lemma => kernel_rfl)
  · exact o_run 1 [] [] (fun _ _ => []) (fun _ _ => by as_aux_lemma => kernel_rfl)
  · exact o_as 2 (fun _ => (.int .i64 (IntKind.i64.wrap (((szV B z y.toNat : Nat) : Int))))) (fun _ => (.int .i64 ((szV B z y.toNat : Nat) : Int))) (fun _ _ => by as_aux_lemma => kernel_rfl) (fun _ => congrArg (Value.int .i64) (i64N (by have := of_decide_eq_false hb1; have := bne0' hb2; have := of_decide_eq_false hb3; have := hz; have := hBl; have := hy; have := szN_rng hBl z y.toNat; have := szV_lt B z y.toNat; omega)))
  · exact o_as 3 (fun _ => (.int .i64 (IntKind.i64.wrap ((szN B z y.toNat) + ((szV B z y.toNat : Nat) : Int))))) (fun _ => (.int .i64 ((szN B z y.toNat) + ((szV B z y.toNat : Nat) : Int)))) (fun _ _ => by as_aux_lemma => kernel_rfl) (fun _ => congrArg (Value.int .i64) (i64N (by have := of_decide_eq_false hb1; have := bne0' hb2; have := of_decide_eq_false hb3; have := hz; have := hBl; have := hy; have := szN_rng hBl z y.toNat; have := szV_lt B z y.toNat; omega)))
  · exact o_run 4 [] [] (fun _ _ => []) (fun _ _ => by as_aux_lemma => kernel_rfl)
theorem bytes_any_r10 (a : Option Addr) (c : Nat) (B : List UInt8) (z : Int) (y : Int) (hz : -9223372036854775808 ≤ z ∧ z < 9223372036854775808) (hy : -9223372036854775808 ≤ y ∧ y < 9223372036854775808) (hBl : B.length ≤ 140737488351232) (hb1 : (decide (y < 0)) = false) (hb2 : ((szE B z y.toNat) != 0) = false) (hb3 : (decide (((B.length - (szN B z y.toNat).toNat : Nat) : Int) < ((szV B z y.toNat : Nat) : Int))) = false) (w0 : World) : RegF Try.prog 9 (regOps Try.f28 9) false 44 [(0, (.slice a (B).length c)), (6, (.slice none 0 0)), (7, (.int .i64 0)), (8, (.int .i64 0)), (10, (.int .i64 (szN B z y.toNat))), (12, (.int .i64 ((szN B z y.toNat) + ((szV B z y.toNat : Nat) : Int))))] w0 [] (fun w => Bs w a c B ∧ True)
    (fun ρ => [(6, (.slice (oa ρ 4) ((mid B ((szN B z y.toNat).toNat) ((szN B z y.toNat).toNat + szV B z y.toNat)) ++ ([] : List UInt8)).length (nb ρ 4))), (7, (.int .i64 ((szN B z y.toNat) + ((szV B z y.toNat : Nat) : Int)))), (8, (.int .i64 0))])
    (fun _ => []) (fun ρ => (fun w => Bs w a c B ∧ Bs w (sadr a ((szN B z y.toNat).toNat) c) (c - ((szN B z y.toNat).toNat)) (mid B ((szN B z y.toNat).toNat) ((szN B z y.toNat).toNat + szV B z y.toNat)) ∧ Fs w0 w (oa ρ 4) (nb ρ 4) ((mid B ((szN B z y.toNat).toNat) ((szN B z y.toNat).toNat + szV B z y.toNat)) ++ ([] : List UInt8)) ∧ True)) := by
  refine reg_seq_f [0, 1, 3, 7, 15, 31, 63, 127, 255] [6, 7, 8] 9
    (fun ρ ι => ([(.slice a (B).length c), (.int .i64 (szN B z y.toNat)), (.int .i64 ((szN B z y.toNat) + ((szV B z y.toNat : Nat) : Int))), (.slice (sadr a ((szN B z y.toNat).toNat) c) (mid B ((szN B z y.toNat).toNat) ((szN B z y.toNat).toNat + szV B z y.toNat)).length (c - ((szN B z y.toNat).toNat))), (.slice (oa ρ 4) ((mid B ((szN B z y.toNat).toNat) ((szN B z y.toNat).toNat + szV B z y.toNat)) ++ ([] : List UInt8)).length (nb ρ 4)), (.int .i64 ((szN B z y.toNat) + ((szV B z y.toNat : Nat) : Int))), (.slice (oa ρ 4) ((mid B ((szN B z y.toNat).toNat) ((szN B z y.toNat).toNat + szV B z y.toNat)) ++ ([] : List UInt8)).length (nb ρ 4)), (.int .i64 ((szN B z y.toNat) + ((szV B z y.toNat : Nat) : Int))), (.int .i64 0)] : List Value).getD ι undef)
    (fun _ ι => ([{}, {}, {}, {}, {}, {}, {}, {}, {}] : List Eff).getD ι {})
    (fun ρ ι => ([(fun _ => True), (fun _ => True), (fun _ => True), (fun w => Bs w (sadr a ((szN B z y.toNat).toNat) c) (c - ((szN B z y.toNat).toNat)) (mid B ((szN B z y.toNat).toNat) ((szN B z y.toNat).toNat + szV B z y.toNat))), (fun w => Fs w0 w (oa ρ 4) (nb ρ 4) ((mid B ((szN B z y.toNat).toNat) ((szN B z y.toNat).toNat + szV B z y.toNat)) ++ ([] : List UInt8))), (fun _ => True), (fun _ => True), (fun _ => True), (fun _ => True)] : List (World → Prop)).getD ι (fun _ => True))
    (by as_aux_lemma => kernel_rfl) (by as_aux_lemma => kernel_rfl) (fun _ => by as_aux_lemma => kernel_rfl) (fun _ => by as_aux_lemma => kernel_rfl) (fun _ _ hF hf => ⟨hF.1, hf 3 (by omega), hf 4 (by omega), trivial⟩) ⟨⟨⟨⟨⟨⟨⟨⟨⟨trivial, ?_⟩, ?_⟩, ?_⟩, ?_⟩, ?_⟩, ?_⟩, ?_⟩, ?_⟩, ?_⟩
  · exact Obl.brings (o_run 0 [] [] (fun _ _ => []) (fun _ _ => by as_aux_lemma => kernel_rfl)) (fun _ _ => trivial)
  · exact Obl.brings (o_run 1 [] [] (fun _ _ => []) (fun _ _ => by as_aux_lemma => kernel_rfl)) (fun _ _ => trivial)
  · exact Obl.brings (o_run 2 [] [] (fun _ _ => []) (fun _ _ => by as_aux_lemma => kernel_rfl)) (fun _ _ => trivial)
  · exact o_semF 3 (fun _ => do pure (Next.value (← Instr.sliceAt 22 (.slice a (B).length c) (some (.int .i64 (szN B z y.toNat))) (some (.int .i64 ((szN B z y.toNat) + ((szV B z y.toNat : Nat) : Int)))) none))) (fun _ => (.slice (sadr a ((szN B z y.toNat).toNat) c) (mid B ((szN B z y.toNat).toNat) ((szN B z y.toNat).toNat + szV B z y.toNat)).length (c - ((szN B z y.toNat).toNat)))) (fun _ => (by as_aux_lemma => kernel_rfl)) (fun _ => (by as_aux_lemma => kernel_rfl)) (fun _ _ _ hG => slice_bytes (l := (szN B z y.toNat).toNat) (k := (szN B z y.toNat).toNat + szV B z y.toNat) Try.underlying22 u8i hG.facts0.now.1 rfl (Or.inr (congrArg (fun z => some (Value.int .i64 z)) ((by have := of_decide_eq_false hb1; have := bne0' hb2; have := of_decide_eq_false hb3; have := hz; have := hBl; have := hy; have := szN_rng hBl z y.toNat; have := szV_lt B z y.toNat; omega)))) (Or.inr (congrArg (fun z => some (Value.int .i64 z)) ((by have := of_decide_eq_false hb1; have := bne0' hb2; have := of_decide_eq_false hb3; have := hz; have := hBl; have := hy; have := szN_rng hBl z y.toNat; have := szV_lt B z y.toNat; omega)))) ((by omega)) ((by have := of_decide_eq_false hb1; have := bne0' hb2; have := of_decide_eq_false hb3; have := hz; have := hBl; have := hy; have := szN_rng hBl z y.toNat; have := szV_lt B z y.toNat; omega))) (fun _ _ w hG => (hG.facts0).mono (fun _ hF => (hF).1.mid ((by omega)) ((by have := of_decide_eq_false hb1; have := bne0' hb2; have := of_decide_eq_false hb3; have := hz; have := hBl; have := hy; have := szN_rng hBl z y.toNat; have := szV_lt B z y.toNat; omega))))
  · exact o_callB 4 47 (fun _ => #[(.slice (sadr a ((szN B z y.toNat).toNat) c) (mid B ((szN B z y.toNat).toNat) ((szN B z y.toNat).toNat + szV B z y.toNat)).length (c - ((szN B z y.toNat).toNat))), (.slice none 0 0)]) (fun _ α κ => (.slice α ((mid B ((szN B z y.toNat).toNat) ((szN B z y.toNat).toNat + szV B z y.toNat)) ++ ([] : List UInt8)).length κ)) (fun _ => (mid B ((szN B z y.toNat).toNat) ((szN B z y.toNat).toNat + szV B z y.toNat)) ++ ([] : List UInt8)) (fun _ _ => (by as_aux_lemma => kernel_rfl)) (fun _ _ => (by as_aux_lemma => kernel_rfl)) (fun _ _ => (by as_aux_lemma => kernel_rfl)) (fun _ _ => (by as_aux_lemma => kernel_rfl)) (fun _ _ w hG => extend_any (sadr a ((szN B z y.toNat).toNat) c) (c - ((szN B z y.toNat).toNat)) (mid B ((szN B z y.toNat).toNat) ((szN B z y.toNat).toNat + szV B z y.toNat)) none 0 ([] : List UInt8) (by have := mid_length B (szN B z y.toNat).toNat ((szN B z y.toNat).toNat + szV B z y.toNat) (by have := of_decide_eq_false hb1; have := bne0' hb2; have := of_decide_eq_false hb3; have := hz; have := hBl; have := hy; have := szN_rng hBl z y.toNat; have := szV_lt B z y.toNat; omega); simp only [List.length_nil]; have := of_decide_eq_false hb1; have := bne0' hb2; have := of_decide_eq_false hb3; have := hz; have := hBl; have := hy; have := szN_rng hBl z y.toNat; have := szV_lt B z y.toNat; omega) w (show Bs w (sadr a ((szN B z y.toNat).toNat) c) (c - ((szN B z y.toNat).toNat)) (mid B ((szN B z y.toNat).toNat) ((szN B z y.toNat).toNat + szV B z y.toNat)) from (hG.facts 3 rfl).now) Bs.nil)
  · exact Obl.brings (o_run 5 [] [] (fun _ _ => []) (fun _ _ => by as_aux_lemma => kernel_rfl)) (fun _ _ => trivial)
  · exact Obl.brings (o_run 6 [] [] (fun _ _ => []) (fun _ _ => by as_aux_lemma => kernel_rfl)) (fun _ _ => trivial)
  · exact Obl.brings (o_run 7 [] [] (fun _ _ => []) (fun _ _ => by as_aux_lemma => kernel_rfl)) (fun _ _ => trivial)
  · exact Obl.brings (o_run 8 [] [] (fun _ _ => []) (fun _ _ => by as_aux_lemma => kernel_rfl)) (fun _ _ => trivial)
theorem bytes_any (a : Option Addr) (c : Nat) (B : List UInt8) (z : Int) (y : Int) (hz : -9223372036854775808 ≤ z ∧ z < 9223372036854775808) (hy : -9223372036854775808 ≤ y ∧ y < 9223372036854775808) (hBl : B.length ≤ 140737488351232) (w0 : World) (hf0 : Bs w0 a c B) : Calls Try.prog 28 #[(.slice a (B).length c), (.int .i64 z), (.int .i64 y)] w0 (fun ε w' => ∃ α κ, ε = .returned (.tuple #[(.slice α (byX B z y).length κ), (.int .i64 (byN B z y)), (.int .i64 (byE B z y))]) ∧ Below w0.heap.size w0 w' ∧ Fs w0 w' α κ (byX B z y)) := by
  refine Calls.of_ok (n := 44) (F := (fun w => Bs w a c B ∧ True)) Try.func28 rfl rfl rfl (by simp) (hf0.pers0.and persT) ?_
  refine ok_seq_r (by as_aux_lemma => kernel_rfl) (bytes_any_r1 a c B z y _ _) (fun _ => ?_)
  refine ok_seq ?_
  refine ok_seq_r (by as_aux_lemma => kernel_rfl) (bytes_any_r2 a c B z y _ _) (fun _ => ?_)
  refine ok_cond (b := decide (y < 0)) (by as_aux_lemma => kernel_rfl) (fun hb1 => ?_) (fun hb1 => ?_)
  ·
    rw [hb1]
    refine ok_seq_r (by as_aux_lemma => kernel_rfl) (bytes_any_r3 a c B z y _ _) (fun _ => ?_)
    refine ok_ret ?_
    refine mt_then_r ?_
    exact meets_ret (v := (.tuple #[(.slice none 0 0), (.int .i64 0), (.int .i64 5)])) [] (dup []) (by as_aux_lemma => kernel_rfl) (by as_aux_lemma => kernel_rfl) (eqs_dup _) (fun _ hS => ⟨none, 0, congrArg Ending.returned (by_v (xs := []) (by5 (by have := of_decide_eq_true hb1; have := hz; have := hBl; have := hy; omega))), hS.below, fs_eq (by_x (by5 (by have := of_decide_eq_true hb1; have := hz; have := hBl; have := hy; omega))) Fs.nil⟩)
  ·
    rw [hb1]
    refine ok_skip ?_
    refine mt_then ?_
    refine ok_seq_rf (by as_aux_lemma => kernel_rfl) (bytes_any_r4 a c B z y hz hy hBl hb1 _) (fun _ => ?_)
    refine ok_seq ?_
    refine ok_seq_r (by as_aux_lemma => kernel_rfl) (bytes_any_r5 a c B z y _ _) (fun _ => ?_)
    refine ok_cond (b := (szE B z y.toNat) != 0) (by as_aux_lemma => kernel_rfl) (fun hb2 => ?_) (fun hb2 => ?_)
    ·
      rw [hb2]
      refine ok_seq_r (by as_aux_lemma => kernel_rfl) (bytes_any_r6 a c B z y _ _) (fun _ => ?_)
      refine ok_ret ?_
      refine mt_then_r ?_
      exact meets_ret (v := (.tuple #[(.slice none 0 0), (.int .i64 0), (.int .i64 (szE B z y.toNat))])) [] (dup []) (by as_aux_lemma => kernel_rfl) (by as_aux_lemma => kernel_rfl) (eqs_dup _) (fun _ hS => ⟨none, 0, congrArg Ending.returned (by_v (xs := []) (byS (by have := of_decide_eq_false hb1; have := bne0 hb2; have := hz; have := hBl; have := hy; omega) (bne0 hb2))), hS.below, fs_eq (by_x (byS (by have := of_decide_eq_false hb1; have := bne0 hb2; have := hz; have := hBl; have := hy; omega) (bne0 hb2))) Fs.nil⟩)
    ·
      rw [hb2]
      refine ok_skip ?_
      refine mt_then ?_
      refine ok_seq ?_
      refine ok_seq_r (by as_aux_lemma => kernel_rfl) (bytes_any_r7 a c B z y hz hy hBl hb1 hb2 _ _) (fun _ => ?_)
      refine ok_cond (b := decide (((B.length - (szN B z y.toNat).toNat : Nat) : Int) < ((szV B z y.toNat : Nat) : Int))) (by as_aux_lemma => kernel_rfl) (fun hb3 => ?_) (fun hb3 => ?_)
      ·
        rw [hb3]
        refine ok_seq_r (by as_aux_lemma => kernel_rfl) (bytes_any_r8 a c B z y _ _) (fun _ => ?_)
        refine ok_ret ?_
        refine mt_then_r ?_
        exact meets_ret (v := (.tuple #[(.slice none 0 0), (.int .i64 0), (.int .i64 1)])) [] (dup []) (by as_aux_lemma => kernel_rfl) (by as_aux_lemma => kernel_rfl) (eqs_dup _) (fun _ hS => ⟨none, 0, congrArg Ending.returned (by_v (xs := []) (by1 (by have := of_decide_eq_false hb1; have := bne0' hb2; have := of_decide_eq_true hb3; have := hz; have := hBl; have := hy; omega) (bne0' hb2) (by have := of_decide_eq_false hb1; have := bne0' hb2; have := of_decide_eq_true hb3; have := hz; have := hBl; have := hy; have := szN_rng hBl z y.toNat; have := szV_lt B z y.toNat; omega))), hS.below, fs_eq (by_x (by1 (by have := of_decide_eq_false hb1; have := bne0' hb2; have := of_decide_eq_true hb3; have := hz; have := hBl; have := hy; omega) (bne0' hb2) (by have := of_decide_eq_false hb1; have := bne0' hb2; have := of_decide_eq_true hb3; have := hz; have := hBl; have := hy; have := szN_rng hBl z y.toNat; have := szV_lt B z y.toNat; omega))) Fs.nil⟩)
      ·
        rw [hb3]
        refine ok_skip ?_
        refine mt_then ?_
        refine ok_seq_r (by as_aux_lemma => kernel_rfl) (bytes_any_r9 a c B z y hz hy hBl hb1 hb2 hb3 _ _) (fun _ => ?_)
        refine ok_seq_rf (by as_aux_lemma => kernel_rfl) (bytes_any_r10 a c B z y hz hy hBl hb1 hb2 hb3 _) (fun ρ10 => ?_)
        refine ok_ret ?_
        exact meets_ret (v := (.tuple #[(.slice (oa ρ10 4) ((mid B ((szN B z y.toNat).toNat) ((szN B z y.toNat).toNat + szV B z y.toNat)) ++ ([] : List UInt8)).length (nb ρ10 4)), (.int .i64 ((szN B z y.toNat) + ((szV B z y.toNat : Nat) : Int))), (.int .i64 0)])) [] (dup []) (by as_aux_lemma => kernel_rfl) (by as_aux_lemma => kernel_rfl) (eqs_dup _) (fun _ hS => ⟨oa ρ10 4, nb ρ10 4, congrArg Ending.returned (by rw [List.append_nil]; exact by_v (by0 (by have := of_decide_eq_false hb1; have := bne0' hb2; have := of_decide_eq_false hb3; have := hz; have := hBl; have := hy; omega) (bne0' hb2) (by have := of_decide_eq_false hb1; have := bne0' hb2; have := of_decide_eq_false hb3; have := hz; have := hBl; have := hy; have := szN_rng hBl z y.toNat; have := szV_lt B z y.toNat; omega))), hS.below, fs_eq ((List.append_nil _).trans (by_x (by0 (by have := of_decide_eq_false hb1; have := bne0' hb2; have := of_decide_eq_false hb3; have := hz; have := hBl; have := hy; omega) (bne0' hb2) (by have := of_decide_eq_false hb1; have := bne0' hb2; have := of_decide_eq_false hb3; have := hz; have := hBl; have := hy; have := szN_rng hBl z y.toNat; have := szV_lt B z y.toNat; omega)))) hS.facts.now.2.2.1⟩)
theorem rbytes_any_r1 (a : Option Addr) (c : Nat) (B : List UInt8) (z : Int) (y : Int) (w0 : World) (F : World → Prop) : Reg Try.prog 0 (regOps Try.f29 0) false 45 [(0, (.slice a (B).length c)), (1, (.int .i64 z)), (2, (.int .i64 y))] w0 [] F
    (fun _ => [(0, (.slice a (B).length c)), (1, (.int .i64 z)), (2, (.int .i64 y)), (6, (.slice none 0 0)), (7, (.int .i64 0)), (8, (.int .i64 0))])
    (fun _ => []) := by
  refine reg_seq [0, 1, 3] [0, 1, 2, 6, 7, 8] 3
    (fun _ ι => ([(.slice none 0 0), (.int .i64 0), (.int .i64 0)] : List Value).getD ι undef)
    (fun _ ι => ([{}, {}, {}] : List Eff).getD ι {})
    (by as_aux_lemma => kernel_rfl) (by as_aux_lemma => kernel_rfl) (fun _ => by as_aux_lemma => kernel_rfl) (fun _ => by as_aux_lemma => kernel_rfl) ⟨⟨⟨trivial, ?_⟩, ?_⟩, ?_⟩
  · exact o_run 0 [] [] (fun _ _ => []) (fun _ _ => by as_aux_lemma => kernel_rfl)
  · exact o_run 1 [] [] (fun _ _ => []) (fun _ _ => by as_aux_lemma => kernel_rfl)
  · exact o_run 2 [] [] (fun _ _ => []) (fun _ _ => by as_aux_lemma => kernel_rfl)
theorem rbytes_any_r2 (a : Option Addr) (c : Nat) (B : List UInt8) (z : Int) (y : Int) (w0 : World) (F : World → Prop) : Reg Try.prog 1 (regOps Try.f29 1) false 45 [(0, (.slice a (B).length c)), (1, (.int .i64 z)), (2, (.int .i64 y)), (6, (.slice none 0 0)), (7, (.int .i64 0)), (8, (.int .i64 0))] w0 [] F
    (fun _ => [(0, (.slice a (B).length c)), (1, (.int .i64 z)), (2, (.int .i64 y)), (6, (.slice none 0 0)), (7, (.int .i64 0)), (8, (.int .i64 0)), (13, (.bool (decide (y < 0))))])
    (fun _ => []) := by
  refine reg_seq [0, 1] [0, 1, 2, 6, 7, 8, 13] 2
    (fun _ ι => ([(.int .i64 y), (.bool (decide (y < 0)))] : List Value).getD ι undef)
    (fun _ ι => ([{}, {}] : List Eff).getD ι {})
    (by as_aux_lemma => kernel_rfl) (by as_aux_lemma => kernel_rfl) (fun _ => by as_aux_lemma => kernel_rfl) (fun _ => by as_aux_lemma => kernel_rfl) ⟨⟨trivial, ?_⟩, ?_⟩
  · exact o_run 0 [] [] (fun _ _ => []) (fun _ _ => by as_aux_lemma => kernel_rfl)
  · exact o_run 1 [] [] (fun _ _ => []) (fun _ _ => by as_aux_lemma => kernel_rfl)
theorem rbytes_any_r3 (a : Option Addr) (c : Nat) (B : List UInt8) (z : Int) (y : Int) (w0 : World) (F : World → Prop) : Reg Try.prog 2 (regOps Try.f29 2) false 45 [(0, (.slice a (B).length c)), (1, (.int .i64 z)), (2, (.int .i64 y)), (6, (.slice none 0 0)), (7, (.int .i64 0)), (8, (.int .i64 0)), (13, (.bool true))] w0 [] F
    (fun _ => [(0, (.slice a (B).length c)), (1, (.int .i64 z)), (2, (.int .i64 y)), (6, (.slice none 0 0)), (7, (.int .i64 0)), (8, (.int .i64 5))])
    (fun _ => []) := by
  refine reg_seq [0, 1, 3] [0, 1, 2, 6, 7, 8] 3
    (fun _ ι => ([(.slice none 0 0), (.int .i64 0), (.int .i64 5)] : List Value).getD ι undef)
    (fun _ ι => ([{}, {}, {}] : List Eff).getD ι {})
    (by as_aux_lemma => kernel_rfl) (by as_aux_lemma => kernel_rfl) (fun _ => by as_aux_lemma => kernel_rfl) (fun _ => by as_aux_lemma => kernel_rfl) ⟨⟨⟨trivial, ?_⟩, ?_⟩, ?_⟩
  · exact o_run 0 [] [] (fun _ _ => []) (fun _ _ => by as_aux_lemma => kernel_rfl)
  · exact o_run 1 [] [] (fun _ _ => []) (fun _ _ => by as_aux_lemma => kernel_rfl)
  · exact o_run 2 [] [] (fun _ _ => []) (fun _ _ => by as_aux_lemma => kernel_rfl)
theorem rbytes_any_r4 (a : Option Addr) (c : Nat) (B : List UInt8) (z : Int) (y : Int) (hz : -9223372036854775808 ≤ z ∧ z < 9223372036854775808) (hy : -9223372036854775808 ≤ y ∧ y < 9223372036854775808) (hBl : B.length ≤ 140737488351232) (hb1 : (decide (y < 0)) = false) (w0 : World) : RegF Try.prog 3 (regOps Try.f29 3) false 45 [(0, (.slice a (B).length c)), (1, (.int .i64 z)), (2, (.int .i64 y)), (6, (.slice none 0 0)), (7, (.int .i64 0)), (8, (.int .i64 0)), (13, (.bool false))] w0 [] (fun w => Bs w a c B ∧ True)
    (fun _ => [(0, (.slice a (B).length c)), (6, (.slice none 0 0)), (7, (.int .i64 0)), (8, (.int .i64 0)), (9, (.int .u64 ((szV B z y.toNat : Nat) : Int))), (10, (.int .i64 (szN B z y.toNat))), (11, (.int .i64 (szE B z y.toNat)))])
    (fun _ => []) (fun _ => (fun w => Bs w a c B ∧ True)) := by
  refine reg_seq_f [0, 1, 3, 7, 15, 31, 63, 127, 255, 511, 1023, 2047] [0, 6, 7, 8, 9, 10, 11] 12
    (fun _ ι => ([(.slice a (B).length c), (.int .i64 z), (.int .i64 y), (.int .u64 ((y.toNat : Nat) : Int)), (.tuple #[(.int .u64 ((szV B z y.toNat : Nat) : Int)), (.int .i64 (szN B z y.toNat)), (.int .i64 (szE B z y.toNat))]), (.tuple #[(.int .u64 ((szV B z y.toNat : Nat) : Int)), (.int .i64 (szN B z y.toNat)), (.int .i64 (szE B z y.toNat))]), (.int .u64 ((szV B z y.toNat : Nat) : Int)), (.int .i64 (szN B z y.toNat)), (.int .i64 (szE B z y.toNat)), (.int .u64 ((szV B z y.toNat : Nat) : Int)), (.int .i64 (szN B z y.toNat)), (.int .i64 (szE B z y.toNat))] : List Value).getD ι undef)
    (fun _ ι => ([{}, {}, {}, {}, {}, {}, {}, {}, {}, {}, {}, {}] : List Eff).getD ι {})
    (fun _ ι => ([(fun _ => True), (fun _ => True), (fun _ => True), (fun _ => True), (fun _ => True), (fun _ => True), (fun _ => True), (fun _ => True), (fun _ => True), (fun _ => True), (fun _ => True), (fun _ => True)] : List (World → Prop)).getD ι (fun _ => True))
    (by as_aux_lemma => kernel_rfl) (by as_aux_lemma => kernel_rfl) (fun _ => by as_aux_lemma => kernel_rfl) (fun _ => by as_aux_lemma => kernel_rfl) (fun _ _ hF _ => ⟨hF.1, trivial⟩) ⟨⟨⟨⟨⟨⟨⟨⟨⟨⟨⟨⟨trivial, ?_⟩, ?_⟩, ?_⟩, ?_⟩, ?_⟩, ?_⟩, ?_⟩, ?_⟩, ?_⟩, ?_⟩, ?_⟩, ?_⟩
  · exact Obl.brings (o_run 0 [] [] (fun _ _ => []) (fun _ _ => by as_aux_lemma => kernel_rfl)) (fun _ _ => trivial)
  · exact Obl.brings (o_run 1 [] [] (fun _ _ => []) (fun _ _ => by as_aux_lemma => kernel_rfl)) (fun _ _ => trivial)
  · exact Obl.brings (o_run 2 [] [] (fun _ _ => []) (fun _ _ => by as_aux_lemma => kernel_rfl)) (fun _ _ => trivial)
  · exact Obl.brings (o_as 3 (fun _ => (.int .u64 (IntKind.u64.wrap (y)))) (fun _ => (.int .u64 ((y.toNat : Nat) : Int))) (fun _ _ => by as_aux_lemma => kernel_rfl) (fun _ => congrArg (Value.int .u64) (u64_int (by have := of_decide_eq_false hb1; have := hz; have := hBl; have := hy; omega) (by have := of_decide_eq_false hb1; have := hz; have := hBl; have := hy; omega)))) (fun _ _ => trivial)
  · exact o_callP 4 14 (fun _ => #[(.slice a (B).length c), (.int .i64 z), (.int .u64 ((y.toNat : Nat) : Int))]) (fun _ => (.tuple #[(.int .u64 ((szV B z y.toNat : Nat) : Int)), (.int .i64 (szN B z y.toNat)), (.int .i64 (szE B z y.toNat))])) (fun _ _ => (by as_aux_lemma => kernel_rfl)) (fun _ => (by as_aux_lemma => kernel_rfl)) (fun _ _ => (by as_aux_lemma => kernel_rfl)) (fun _ _ => trivial) (fun _ _ w hG => rsize_any a c B z y.toNat (by have := of_decide_eq_false hb1; have := hz; have := hBl; have := hy; omega) hBl (by have := of_decide_eq_false hb1; have := hz; have := hBl; have := hy; omega) w hG.facts0.now.1)
  · exact Obl.brings (o_run 5 [] [] (fun _ _ => []) (fun _ _ => by as_aux_lemma => kernel_rfl)) (fun _ _ => trivial)
  · exact Obl.brings (o_run 6 [] [] (fun _ _ => []) (fun _ _ => by as_aux_lemma => kernel_rfl)) (fun _ _ => trivial)
  · exact Obl.brings (o_run 7 [] [] (fun _ _ => []) (fun _ _ => by as_aux_lemma => kernel_rfl)) (fun _ _ => trivial)
  · exact Obl.brings (o_run 8 [] [] (fun _ _ => []) (fun _ _ => by as_aux_lemma => kernel_rfl)) (fun _ _ => trivial)
  · exact Obl.brings (o_run 9 [] [] (fun _ _ => []) (fun _ _ => by as_aux_lemma => kernel_rfl)) (fun _ _ => trivial)
  · exact Obl.brings (o_run 10 [] [] (fun _ _ => []) (fun _ _ => by as_aux_lemma => kernel_rfl)) (fun _ _ => trivial)
  · exact Obl.brings (o_run 11 [] [] (fun _ _ => []) (fun _ _ => by as_aux_lemma => kernel_rfl)) (fun _ _ => trivial)
theorem rbytes_any_r5 (a : Option Addr) (c : Nat) (B : List UInt8) (z : Int) (y : Int) (w0 : World) (F : World → Prop) : Reg Try.prog 4 (regOps Try.f29 4) false 45 [(0, (.slice a (B).length c)), (6, (.slice none 0 0)), (7, (.int .i64 0)), (8, (.int .i64 0)), (9, (.int .u64 ((szV B z y.toNat : Nat) : Int))), (10, (.int .i64 (szN B z y.toNat))), (11, (.int .i64 (szE B z y.toNat)))] w0 [] F
    (fun _ => [(0, (.slice a (B).length c)), (6, (.slice none 0 0)), (7, (.int .i64 0)), (8, (.int .i64 0)), (9, (.int .u64 ((szV B z y.toNat : Nat) : Int))), (10, (.int .i64 (szN B z y.toNat))), (11, (.int .i64 (szE B z y.toNat))), (24, (.bool ((szE B z y.toNat) != 0)))])
    (fun _ => []) := by
  refine reg_seq [0, 1] [0, 6, 7, 8, 9, 10, 11, 24] 2
    (fun _ ι => ([(.int .i64 (szE B z y.toNat)), (.bool ((szE B z y.toNat) != 0))] : List Value).getD ι undef)
    (fun _ ι => ([{}, {}] : List Eff).getD ι {})
    (by as_aux_lemma => kernel_rfl) (by as_aux_lemma => kernel_rfl) (fun _ => by as_aux_lemma => kernel_rfl) (fun _ => by as_aux_lemma => kernel_rfl) ⟨⟨trivial, ?_⟩, ?_⟩
  · exact o_run 0 [] [] (fun _ _ => []) (fun _ _ => by as_aux_lemma => kernel_rfl)
  · exact o_run 1 [] [] (fun _ _ => []) (fun _ _ => by as_aux_lemma => kernel_rfl)
theorem rbytes_any_r6 (a : Option Addr) (c : Nat) (B : List UInt8) (z : Int) (y : Int) (w0 : World) (F : World → Prop) : Reg Try.prog 5 (regOps Try.f29 5) false 45 [(0, (.slice a (B).length c)), (6, (.slice none 0 0)), (7, (.int .i64 0)), (8, (.int .i64 0)), (9, (.int .u64 ((szV B z y.toNat : Nat) : Int))), (10, (.int .i64 (szN B z y.toNat))), (11, (.int .i64 (szE B z y.toNat))), (24, (.bool true))] w0 [] F
    (fun _ => [(0, (.slice a (B).length c)), (6, (.slice none 0 0)), (7, (.int .i64 0)), (8, (.int .i64 (szE B z y.toNat))), (9, (.int .u64 ((szV B z y.toNat : Nat) : Int))), (10, (.int .i64 (szN B z y.toNat)))])
    (fun _ => []) := by
  refine reg_seq [0, 1, 3, 7] [0, 6, 7, 8, 9, 10] 4
    (fun _ ι => ([(.int .i64 (szE B z y.toNat)), (.slice none 0 0), (.int .i64 0), (.int .i64 (szE B z y.toNat))] : List Value).getD ι undef)
    (fun _ ι => ([{}, {}, {}, {}] : List Eff).getD ι {})
    (by as_aux_lemma => kernel_rfl) (by as_aux_lemma => kernel_rfl) (fun _ => by as_aux_lemma => kernel_rfl) (fun _ => by as_aux_lemma => kernel_rfl) ⟨⟨⟨⟨trivial, ?_⟩, ?_⟩, ?_⟩, ?_⟩
  · exact o_run 0 [] [] (fun _ _ => []) (fun _ _ => by as_aux_lemma => kernel_rfl)
  · exact o_run 1 [] [] (fun _ _ => []) (fun _ _ => by as_aux_lemma => kernel_rfl)
  · exact o_run 2 [] [] (fun _ _ => []) (fun _ _ => by as_aux_lemma => kernel_rfl)
  · exact o_run 3 [] [] (fun _ _ => []) (fun _ _ => by as_aux_lemma => kernel_rfl)
theorem rbytes_any_r7 (a : Option Addr) (c : Nat) (B : List UInt8) (z : Int) (y : Int) (hz : -9223372036854775808 ≤ z ∧ z < 9223372036854775808) (hy : -9223372036854775808 ≤ y ∧ y < 9223372036854775808) (hBl : B.length ≤ 140737488351232) (hb1 : (decide (y < 0)) = false) (hb2 : ((szE B z y.toNat) != 0) = false) (w0 : World) (F : World → Prop) : Reg Try.prog 6 (regOps Try.f29 6) false 45 [(0, (.slice a (B).length c)), (6, (.slice none 0 0)), (7, (.int .i64 0)), (8, (.int .i64 0)), (9, (.int .u64 ((szV B z y.toNat : Nat) : Int))), (10, (.int .i64 (szN B z y.toNat))), (11, (.int .i64 (szE B z y.toNat))), (24, (.bool false))] w0 [] F
    (fun _ => [(0, (.slice a (B).length c)), (6, (.slice none 0 0)), (7, (.int .i64 0)), (8, (.int .i64 0)), (9, (.int .u64 ((szV B z y.toNat : Nat) : Int))), (10, (.int .i64 (szN B z y.toNat))), (32, (.bool (decide (((B.length - (szN B z y.toNat).toNat : Nat) : Int) < ((szV B z y.toNat : Nat) : Int)))))])
    (fun _ => []) := by
  refine reg_seq [0, 1, 3, 7, 15, 31, 63] [0, 6, 7, 8, 9, 10, 32] 7
    (fun _ ι => ([(.slice a (B).length c), (.int .i64 (((B).length : Nat) : Int)), (.int .i64 (szN B z y.toNat)), (.int .i64 ((((B).length : Nat) : Int) - (szN B z y.toNat))), (.int .u64 ((B.length - (szN B z y.toNat).toNat : Nat) : Int)), (.int .u64 ((szV B z y.toNat : Nat) : Int)), (.bool (decide (((B.length - (szN B z y.toNat).toNat : Nat) : Int) < ((szV B z y.toNat : Nat) : Int))))] : List Value).getD ι undef)
    (fun _ ι => ([{}, {}, {}, {}, {}, {}, {}] : List Eff).getD ι {})
    (by as_aux_lemma => kernel_rfl) (by as_aux_lemma => kernel_rfl) (fun _ => by as_aux_lemma => kernel_rfl) (fun _ => by as_aux_lemma => kernel_rfl) ⟨⟨⟨⟨⟨⟨⟨trivial, ?_⟩, ?_⟩, ?_⟩, ?_⟩, ?_⟩, ?_⟩, ?_⟩
  · exact o_run 0 [] [] (fun _ _ => []) (fun _ _ => by as_aux_lemma => kernel_rfl)
  · exact o_run 1 [] [] (fun _ _ => []) (fun _ _ => by as_aux_lemma => kernel_rfl)
  · exact o_run 2 [] [] (fun _ _ => []) (fun _ _ => by as_aux_lemma => kernel_rfl)
  · exact o_as 3 (fun _ => (.int .i64 (IntKind.i64.wrap ((((B).length : Nat) : Int) - (szN B z y.toNat))))) (fun _ => (.int .i64 ((((B).length : Nat) : Int) - (szN B z y.toNat)))) (fun _ _ => by as_aux_lemma => kernel_rfl) (fun _ => congrArg (Value.int .i64) (i64N (by have := of_decide_eq_false hb1; have := bne0' hb2; have := hz; have := hBl; have := hy; have := szN_rng hBl z y.toNat; have := szV_lt B z y.toNat; omega)))
  · exact o_as 4 (fun _ => (.int .u64 (IntKind.u64.wrap ((((B).length : Nat) : Int) - (szN B z y.toNat))))) (fun _ => (.int .u64 ((B.length - (szN B z y.toNat).toNat : Nat) : Int))) (fun _ _ => by as_aux_lemma => kernel_rfl) (fun _ => congrArg (Value.int .u64) ((u64_int (by have := of_decide_eq_false hb1; have := bne0' hb2; have := hz; have := hBl; have := hy; have := szN_rng hBl z y.toNat; have := szV_lt B z y.toNat; omega) (by have := of_decide_eq_false hb1; have := bne0' hb2; have := hz; have := hBl; have := hy; have := szN_rng hBl z y.toNat; have := szV_lt B z y.toNat; omega)).trans (by have := szN_rng hBl z y.toNat; omega)))
  · exact o_run 5 [] [] (fun _ _ => []) (fun _ _ => by as_aux_lemma => kernel_rfl)
  · exact o_run 6 [] [] (fun _ _ => []) (fun _ _ => by as_aux_lemma => kernel_rfl)
theorem rbytes_any_r8 (a : Option Addr) (c : Nat) (B : List UInt8) (z : Int) (y : Int) (w0 : World) (F : World → Prop) : Reg Try.prog 7 (regOps Try.f29 7) false 45 [(0, (.slice a (B).length c)), (6, (.slice none 0 0)), (7, (.int .i64 0)), (8, (.int .i64 0)), (9, (.int .u64 ((szV B z y.toNat : Nat) : Int))), (10, (.int .i64 (szN B z y.toNat))), (32, (.bool true))] w0 [] F
    (fun _ => [(0, (.slice a (B).length c)), (6, (.slice none 0 0)), (7, (.int .i64 0)), (8, (.int .i64 1)), (9, (.int .u64 ((szV B z y.toNat : Nat) : Int))), (10, (.int .i64 (szN B z y.toNat)))])
    (fun _ => []) := by
  refine reg_seq [0, 1, 3] [0, 6, 7, 8, 9, 10] 3
    (fun _ ι => ([(.slice none 0 0), (.int .i64 0), (.int .i64 1)] : List Value).getD ι undef)
    (fun _ ι => ([{}, {}, {}] : List Eff).getD ι {})
    (by as_aux_lemma => kernel_rfl) (by as_aux_lemma => kernel_rfl) (fun _ => by as_aux_lemma => kernel_rfl) (fun _ => by as_aux_lemma => kernel_rfl) ⟨⟨⟨trivial, ?_⟩, ?_⟩, ?_⟩
  · exact o_run 0 [] [] (fun _ _ => []) (fun _ _ => by as_aux_lemma => kernel_rfl)
  · exact o_run 1 [] [] (fun _ _ => []) (fun _ _ => by as_aux_lemma => kernel_rfl)
  · exact o_run 2 [] [] (fun _ _ => []) (fun _ _ => by as_aux_lemma => kernel_rfl)
theorem rbytes_any_r9 (a : Option Addr) (c : Nat) (B : List UInt8) (z : Int) (y : Int) (hz : -9223372036854775808 ≤ z ∧ z < 9223372036854775808) (hy : -9223372036854775808 ≤ y ∧ y < 9223372036854775808) (hBl : B.length ≤ 140737488351232) (hb1 : (decide (y < 0)) = false) (hb2 : ((szE B z y.toNat) != 0) = false) (hb3 : (decide (((B.length - (szN B z y.toNat).toNat : Nat) : Int) < ((szV B z y.toNat : Nat) : Int))) = false) (w0 : World) : RegF Try.prog 8 (regOps Try.f29 8) false 45 [(0, (.slice a (B).length c)), (6, (.slice none 0 0)), (7, (.int .i64 0)), (8, (.int .i64 0)), (9, (.int .u64 ((szV B z y.toNat : Nat) : Int))), (10, (.int .i64 (szN B z y.toNat))), (32, (.bool false))] w0 [] (fun w => Bs w a c B ∧ True)
    (fun ρ => [(6, (.slice (oa ρ 7) (([] : List UInt8) ++ (mid B ((szN B z y.toNat).toNat) ((szN B z y.toNat).toNat + szV B z y.toNat))).length (nb ρ 7))), (7, (.int .i64 ((szN B z y.toNat) + ((szV B z y.toNat : Nat) : Int)))), (8, (.int .i64 0))])
    (fun _ => []) (fun ρ => (fun w => Bs w a c B ∧ Bs w (sadr a ((szN B z y.toNat).toNat) c) (c - ((szN B z y.toNat).toNat)) (mid B ((szN B z y.toNat).toNat) ((szN B z y.toNat).toNat + szV B z y.toNat)) ∧ Fs w0 w (oa ρ 7) (nb ρ 7) (([] : List UInt8) ++ (mid B ((szN B z y.toNat).toNat) ((szN B z y.toNat).toNat + szV B z y.toNat))) ∧ True)) := by
  refine reg_seq_f [0, 1, 3, 7, 15, 31, 63, 127, 255, 511, 1023, 2047, 4095, 8191, 16383] [6, 7, 8] 15
    (fun ρ ι => ([(.slice a (B).length c), (.int .i64 (szN B z y.toNat)), (.int .i64 (szN B z y.toNat)), (.int .u64 ((szV B z y.toNat : Nat) : Int)), (.int .i64 ((szV B z y.toNat : Nat) : Int)), (.int .i64 ((szN B z y.toNat) + ((szV B z y.toNat : Nat) : Int))), (.slice (sadr a ((szN B z y.toNat).toNat) c) (mid B ((szN B z y.toNat).toNat) ((szN B z y.toNat).toNat + szV B z y.toNat)).length (c - ((szN B z y.toNat).toNat))), (.slice (oa ρ 7) (([] : List UInt8) ++ (mid B ((szN B z y.toNat).toNat) ((szN B z y.toNat).toNat + szV B z y.toNat))).length (nb ρ 7)), (.int .i64 (szN B z y.toNat)), (.int .u64 ((szV B z y.toNat : Nat) : Int)), (.int .i64 ((szV B z y.toNat : Nat) : Int)), (.int .i64 ((szN B z y.toNat) + ((szV B z y.toNat : Nat) : Int))), (.slice (oa ρ 7) (([] : List UInt8) ++ (mid B ((szN B z y.toNat).toNat) ((szN B z y.toNat).toNat + szV B z y.toNat))).length (nb ρ 7)), (.int .i64 ((szN B z y.toNat) + ((szV B z y.toNat : Nat) : Int))), (.int .i64 0)] : List Value).getD ι undef)
    (fun _ ι => ([{}, {}, {}, {}, {}, {}, {}, {}, {}, {}, {}, {}, {}, {}, {}] : List Eff).getD ι {})
    (fun ρ ι => ([(fun _ => True), (fun _ => True), (fun _ => True), (fun _ => True), (fun _ => True), (fun _ => True), (fun w => Bs w (sadr a ((szN B z y.toNat).toNat) c) (c - ((szN B z y.toNat).toNat)) (mid B ((szN B z y.toNat).toNat) ((szN B z y.toNat).toNat + szV B z y.toNat))), (fun w => Fs w0 w (oa ρ 7) (nb ρ 7) (([] : List UInt8) ++ (mid B ((szN B z y.toNat).toNat) ((szN B z y.toNat).toNat + szV B z y.toNat)))), (fun _ => True), (fun _ => True), (fun _ => True), (fun _ => True), (fun _ => True), (fun _ => True), (fun _ => True)] : List (World → Prop)).getD ι (fun _ => True))
    (by as_aux_lemma => kernel_rfl) (by as_aux_lemma => kernel_rfl) (fun _ => by as_aux_lemma => kernel_rfl) (fun _ => by as_aux_lemma => kernel_rfl) (fun _ _ hF hf => ⟨hF.1, hf 6 (by omega), hf 7 (by omega), trivial⟩) ⟨⟨⟨⟨⟨⟨⟨⟨⟨⟨⟨⟨⟨⟨⟨trivial, ?_⟩, ?_⟩, ?_⟩, ?_⟩, ?_⟩, ?_⟩, ?_⟩, ?_⟩, ?_⟩, ?_⟩, ?_⟩, ?_⟩, ?_⟩, ?_⟩, ?_⟩
  · exact Obl.brings (o_run 0 [] [] (fun _ _ => []) (fun _ _ => by as_aux_lemma => kernel_rfl)) (fun _ _ => trivial)
  · exact Obl.brings (o_run 1 [] [] (fun _ _ => []) (fun _ _ => by as_aux_lemma => kernel_rfl)) (fun _ _ => trivial)
  · exact Obl.brings (o_run 2 [] [] (fun _ _ => []) (fun _ _ => by as_aux_lemma => kernel_rfl)) (fun _ _ => trivial)
  · exact Obl.brings (o_run 3 [] [] (fun _ _ => []) (fun _ _ => by as_aux_lemma => kernel_rfl)) (fun _ _ => trivial)
  · exact Obl.brings (o_as 4 (fun _ => (.int .i64 (IntKind.i64.wrap (((szV B z y.toNat : Nat) : Int))))) (fun _ => (.int .i64 ((szV B z y.toNat : Nat) : Int))) (fun _ _ => by as_aux_lemma => kernel_rfl) (fun _ => congrArg (Value.int .i64) (i64N (by have := of_decide_eq_false hb1; have := bne0' hb2; have := of_decide_eq_false hb3; have := hz; have := hBl; have := hy; have := szN_rng hBl z y.toNat; have := szV_lt B z y.toNat; omega)))) (fun _ _ => trivial)
  · exact Obl.brings (o_as 5 (fun _ => (.int .i64 (IntKind.i64.wrap ((szN B z y.toNat) + ((szV B z y.toNat : Nat) : Int))))) (fun _ => (.int .i64 ((szN B z y.toNat) + ((szV B z y.toNat : Nat) : Int)))) (fun _ _ => by as_aux_lemma => kernel_rfl) (fun _ => congrArg (Value.int .i64) (i64N (by have := of_decide_eq_false hb1; have := bne0' hb2; have := of_decide_eq_false hb3; have := hz; have := hBl; have := hy; have := szN_rng hBl z y.toNat; have := szV_lt B z y.toNat; omega)))) (fun _ _ => trivial)
  · exact o_semF 6 (fun _ => do pure (Next.value (← Instr.sliceAt 22 (.slice a (B).length c) (some (.int .i64 (szN B z y.toNat))) (some (.int .i64 ((szN B z y.toNat) + ((szV B z y.toNat : Nat) : Int)))) none))) (fun _ => (.slice (sadr a ((szN B z y.toNat).toNat) c) (mid B ((szN B z y.toNat).toNat) ((szN B z y.toNat).toNat + szV B z y.toNat)).length (c - ((szN B z y.toNat).toNat)))) (fun _ => (by as_aux_lemma => kernel_rfl)) (fun _ => (by as_aux_lemma => kernel_rfl)) (fun _ _ _ hG => slice_bytes (l := (szN B z y.toNat).toNat) (k := (szN B z y.toNat).toNat + szV B z y.toNat) Try.underlying22 u8i hG.facts0.now.1 rfl (Or.inr (congrArg (fun z => some (Value.int .i64 z)) ((by have := of_decide_eq_false hb1; have := bne0' hb2; have := of_decide_eq_false hb3; have := hz; have := hBl; have := hy; have := szN_rng hBl z y.toNat; have := szV_lt B z y.toNat; omega)))) (Or.inr (congrArg (fun z => some (Value.int .i64 z)) ((by have := of_decide_eq_false hb1; have := bne0' hb2; have := of_decide_eq_false hb3; have := hz; have := hBl; have := hy; have := szN_rng hBl z y.toNat; have := szV_lt B z y.toNat; omega)))) ((by omega)) ((by have := of_decide_eq_false hb1; have := bne0' hb2; have := of_decide_eq_false hb3; have := hz; have := hBl; have := hy; have := szN_rng hBl z y.toNat; have := szV_lt B z y.toNat; omega))) (fun _ _ w hG => (hG.facts0).mono (fun _ hF => (hF).1.mid ((by omega)) ((by have := of_decide_eq_false hb1; have := bne0' hb2; have := of_decide_eq_false hb3; have := hz; have := hBl; have := hy; have := szN_rng hBl z y.toNat; have := szV_lt B z y.toNat; omega))))
  · exact o_callB 7 49 (fun _ => #[(.slice none 0 0), (.slice (sadr a ((szN B z y.toNat).toNat) c) (mid B ((szN B z y.toNat).toNat) ((szN B z y.toNat).toNat + szV B z y.toNat)).length (c - ((szN B z y.toNat).toNat)))]) (fun _ α κ => (.slice α (([] : List UInt8) ++ (mid B ((szN B z y.toNat).toNat) ((szN B z y.toNat).toNat + szV B z y.toNat))).length κ)) (fun _ => ([] : List UInt8) ++ (mid B ((szN B z y.toNat).toNat) ((szN B z y.toNat).toNat + szV B z y.toNat))) (fun _ _ => (by as_aux_lemma => kernel_rfl)) (fun _ _ => (by as_aux_lemma => kernel_rfl)) (fun _ _ => (by as_aux_lemma => kernel_rfl)) (fun _ _ => (by as_aux_lemma => kernel_rfl)) (fun _ _ w hG => joined_any none 0 ([] : List UInt8) (sadr a ((szN B z y.toNat).toNat) c) (c - ((szN B z y.toNat).toNat)) (mid B ((szN B z y.toNat).toNat) ((szN B z y.toNat).toNat + szV B z y.toNat)) (by have := mid_length B (szN B z y.toNat).toNat ((szN B z y.toNat).toNat + szV B z y.toNat) (by have := of_decide_eq_false hb1; have := bne0' hb2; have := of_decide_eq_false hb3; have := hz; have := hBl; have := hy; have := szN_rng hBl z y.toNat; have := szV_lt B z y.toNat; omega); simp only [List.length_nil]; have := of_decide_eq_false hb1; have := bne0' hb2; have := of_decide_eq_false hb3; have := hz; have := hBl; have := hy; have := szN_rng hBl z y.toNat; have := szV_lt B z y.toNat; omega) w Bs.nil (show Bs w (sadr a ((szN B z y.toNat).toNat) c) (c - ((szN B z y.toNat).toNat)) (mid B ((szN B z y.toNat).toNat) ((szN B z y.toNat).toNat + szV B z y.toNat)) from (hG.facts 6 rfl).now))
  · exact Obl.brings (o_run 8 [] [] (fun _ _ => []) (fun _ _ => by as_aux_lemma => kernel_rfl)) (fun _ _ => trivial)
  · exact Obl.brings (o_run 9 [] [] (fun _ _ => []) (fun _ _ => by as_aux_lemma => kernel_rfl)) (fun _ _ => trivial)
  · exact Obl.brings (o_as 10 (fun _ => (.int .i64 (IntKind.i64.wrap (((szV B z y.toNat : Nat) : Int))))) (fun _ => (.int .i64 ((szV B z y.toNat : Nat) : Int))) (fun _ _ => by as_aux_lemma => kernel_rfl) (fun _ => congrArg (Value.int .i64) (i64N (by have := of_decide_eq_false hb1; have := bne0' hb2; have := of_decide_eq_false hb3; have := hz; have := hBl; have := hy; have := szN_rng hBl z y.toNat; have := szV_lt B z y.toNat; omega)))) (fun _ _ => trivial)
  · exact Obl.brings (o_as 11 (fun _ => (.int .i64 (IntKind.i64.wrap ((szN B z y.toNat) + ((szV B z y.toNat : Nat) : Int))))) (fun _ => (.int .i64 ((szN B z y.toNat) + ((szV B z y.toNat : Nat) : Int)))) (fun _ _ => by as_aux_lemma => kernel_rfl) (fun _ => congrArg (Value.int .i64) (i64N (by have := of_decide_eq_false hb1; have := bne0' hb2; have := of_decide_eq_false hb3; have := hz; have := hBl; have := hy; have := szN_rng hBl z y.toNat; have := szV_lt B z y.toNat; omega)))) (fun _ _ => trivial)
  · exact Obl.brings (o_run 12 [] [] (fun _ _ => []) (fun _ _ => by as_aux_lemma => kernel_rfl)) (fun _ _ => trivial)
  · exact Obl.brings (o_run 13 [] [] (fun _ _ => []) (fun _ _ => by as_aux_lemma => kernel_rfl)) (fun _ _ => trivial)
  · exact Obl.brings (o_run 14 [] [] (fun _ _ => []) (fun _ _ => by as_aux_lemma => kernel_rfl)) (fun _ _ => trivial)
theorem rbytes_any (a : Option Addr) (c : Nat) (B : List UInt8) (z : Int) (y : Int) (hz : -9223372036854775808 ≤ z ∧ z < 9223372036854775808) (hy : -9223372036854775808 ≤ y ∧ y < 9223372036854775808) (hBl : B.length ≤ 140737488351232) (w0 : World) (hf0 : Bs w0 a c B) : Calls Try.prog 29 #[(.slice a (B).length c), (.int .i64 z), (.int .i64 y)] w0 (fun ε w' => ∃ α κ, ε = .returned (.tuple #[(.slice α (byX B z y).length κ), (.int .i64 (byN B z y)), (.int .i64 (byE B z y))]) ∧ Below w0.heap.size w0 w' ∧ Fs w0 w' α κ (byX B z y)) := by
  refine Calls.of_ok (n := 45) (F := (fun w => Bs w a c B ∧ True)) Try.func29 rfl rfl rfl (by simp) (hf0.pers0.and persT) ?_
  refine ok_seq_r (by as_aux_lemma => kernel_rfl) (rbytes_any_r1 a c B z y _ _) (fun _ => ?_)
  refine ok_seq ?_
  refine ok_seq_r (by as_aux_lemma => kernel_rfl) (rbytes_any_r2 a c B z y _ _) (fun _ => ?_)
  refine ok_cond (b := decide (y < 0)) (by as_aux_lemma => kernel_rfl) (fun hb1 => ?_) (fun hb1 => ?_)
  ·
    rw [hb1]
    refine ok_seq_r (by as_aux_lemma => kernel_rfl) (rbytes_any_r3 a c B z y _ _) (fun _ => ?_)
    refine ok_ret ?_
    refine mt_then_r ?_
    exact meets_ret (v := (.tuple #[(.slice none 0 0), (.int .i64 0), (.int .i64 5)])) [] (dup []) (by as_aux_lemma => kernel_rfl) (by as_aux_lemma => kernel_rfl) (eqs_dup _) (fun _ hS => ⟨none, 0, congrArg Ending.returned (by_v (xs := []) (by5 (by have := of_decide_eq_true hb1; have := hz; have := hBl; have := hy; omega))), hS.below, fs_eq (by_x (by5 (by have := of_decide_eq_true hb1; have := hz; have := hBl; have := hy; omega))) Fs.nil⟩)
  ·
    rw [hb1]
    refine ok_skip ?_
    refine mt_then ?_
    refine ok_seq_rf (by as_aux_lemma => kernel_rfl) (rbytes_any_r4 a c B z y hz hy hBl hb1 _) (fun _ => ?_)
    refine ok_seq ?_
    refine ok_seq_r (by as_aux_lemma => kernel_rfl) (rbytes_any_r5 a c B z y _ _) (fun _ => ?_)
    refine ok_cond (b := (szE B z y.toNat) != 0) (by as_aux_lemma => kernel_rfl) (fun hb2 => ?_) (fun hb2 => ?_)
    ·
      rw [hb2]
      refine ok_seq_r (by as_aux_lemma => kernel_rfl) (rbytes_any_r6 a c B z y _ _) (fun _ => ?_)
      refine ok_ret ?_
      refine mt_then_r ?_
      exact meets_ret (v := (.tuple #[(.slice none 0 0), (.int .i64 0), (.int .i64 (szE B z y.toNat))])) [] (dup []) (by as_aux_lemma => kernel_rfl) (by as_aux_lemma => kernel_rfl) (eqs_dup _) (fun _ hS => ⟨none, 0, congrArg Ending.returned (by_v (xs := []) (byS (by have := of_decide_eq_false hb1; have := bne0 hb2; have := hz; have := hBl; have := hy; omega) (bne0 hb2))), hS.below, fs_eq (by_x (byS (by have := of_decide_eq_false hb1; have := bne0 hb2; have := hz; have := hBl; have := hy; omega) (bne0 hb2))) Fs.nil⟩)
    ·
      rw [hb2]
      refine ok_skip ?_
      refine mt_then ?_
      refine ok_seq ?_
      refine ok_seq_r (by as_aux_lemma => kernel_rfl) (rbytes_any_r7 a c B z y hz hy hBl hb1 hb2 _ _) (fun _ => ?_)
      refine ok_cond (b := decide (((B.length - (szN B z y.toNat).toNat : Nat) : Int) < ((szV B z y.toNat : Nat) : Int))) (by as_aux_lemma => kernel_rfl) (fun hb3 => ?_) (fun hb3 => ?_)
      ·
        rw [hb3]
        refine ok_seq_r (by as_aux_lemma => kernel_rfl) (rbytes_any_r8 a c B z y _ _) (fun _ => ?_)
        refine ok_ret ?_
        refine mt_then_r ?_
        exact meets_ret (v := (.tuple #[(.slice none 0 0), (.int .i64 0), (.int .i64 1)])) [] (dup []) (by as_aux_lemma => kernel_rfl) (by as_aux_lemma => kernel_rfl) (eqs_dup _) (fun _ hS => ⟨none, 0, congrArg Ending.returned (by_v (xs := []) (by1 (by have := of_decide_eq_false hb1; have := bne0' hb2; have := of_decide_eq_true hb3; have := hz; have := hBl; have := hy; omega) (bne0' hb2) (by have := of_decide_eq_false hb1; have := bne0' hb2; have := of_decide_eq_true hb3; have := hz; have := hBl; have := hy; have := szN_rng hBl z y.toNat; have := szV_lt B z y.toNat; omega))), hS.below, fs_eq (by_x (by1 (by have := of_decide_eq_false hb1; have := bne0' hb2; have := of_decide_eq_true hb3; have := hz; have := hBl; have := hy; omega) (bne0' hb2) (by have := of_decide_eq_false hb1; have := bne0' hb2; have := of_decide_eq_true hb3; have := hz; have := hBl; have := hy; have := szN_rng hBl z y.toNat; have := szV_lt B z y.toNat; omega))) Fs.nil⟩)
      ·
        rw [hb3]
        refine ok_skip ?_
        refine mt_then ?_
        refine ok_seq_rf (by as_aux_lemma => kernel_rfl) (rbytes_any_r9 a c B z y hz hy hBl hb1 hb2 hb3 _) (fun ρ9 => ?_)
        refine ok_ret ?_
        exact meets_ret (v := (.tuple #[(.slice (oa ρ9 7) (([] : List UInt8) ++ (mid B ((szN B z y.toNat).toNat) ((szN B z y.toNat).toNat + szV B z y.toNat))).length (nb ρ9 7)), (.int .i64 ((szN B z y.toNat) + ((szV B z y.toNat : Nat) : Int))), (.int .i64 0)])) [] (dup []) (by as_aux_lemma => kernel_rfl) (by as_aux_lemma => kernel_rfl) (eqs_dup _) (fun _ hS => ⟨oa ρ9 7, nb ρ9 7, congrArg Ending.returned (by_v (by0 (by have := of_decide_eq_false hb1; have := bne0' hb2; have := of_decide_eq_false hb3; have := hz; have := hBl; have := hy; omega) (bne0' hb2) (by have := of_decide_eq_false hb1; have := bne0' hb2; have := of_decide_eq_false hb3; have := hz; have := hBl; have := hy; have := szN_rng hBl z y.toNat; have := szV_lt B z y.toNat; omega))), hS.below, fs_eq (by_x (by0 (by have := of_decide_eq_false hb1; have := bne0' hb2; have := of_decide_eq_false hb3; have := hz; have := hBl; have := hy; omega) (bne0' hb2) (by have := of_decide_eq_false hb1; have := bne0' hb2; have := of_decide_eq_false hb3; have := hz; have := hBl; have := hy; have := szN_rng hBl z y.toNat; have := szV_lt B z y.toNat; omega))) hS.facts.now.2.2.1⟩)
theorem hash_any_r1 (a : Option Addr) (c : Nat) (B : List UInt8) (z : Int) (w0 : World) (F : World → Prop) : Reg Try.prog 0 (regOps Try.f38 0) false 24 [(0, (.slice a (B).length c)), (1, (.int .i64 z))] w0 [] F
    (fun ρ => [(0, (.slice a (B).length c)), (1, (.int .i64 z)), (4, (.pointer (some ⟨nb ρ 0, 0, none⟩))), (5, (.int .i64 0)), (6, (.int .i64 0))])
    (fun ρ => [(nb ρ 0, (.cells (hB 0) 32 (0, 0)))]) := by
  refine reg_seq [0, 1, 3] [0, 1, 4, 5, 6] 3
    (fun ρ ι => ([(.pointer (some ⟨nb ρ 0, 0, none⟩)), (.int .i64 0), (.int .i64 0)] : List Value).getD ι undef)
    (fun ρ ι => ([{ news := [(nb ρ 0, (.cells (hB 0) 32 (0, 0)))] }, {}, {}] : List Eff).getD ι {})
    (by as_aux_lemma => kernel_rfl) (by as_aux_lemma => kernel_rfl) (fun _ => by as_aux_lemma => kernel_rfl) (fun _ => by as_aux_lemma => kernel_rfl) ⟨⟨⟨trivial, ?_⟩, ?_⟩, ?_⟩
  · exact o_run 0 [] [] (fun _ _ => []) (fun _ _ => by as_aux_lemma => kernel_rfl)
  · exact o_run 1 [] [] (fun _ _ => []) (fun _ _ => by as_aux_lemma => kernel_rfl)
  · exact o_run 2 [] [] (fun _ _ => []) (fun _ _ => by as_aux_lemma => kernel_rfl)
theorem hash_any_r2 (a : Option Addr) (c : Nat) (B : List UInt8) (z : Int) (ρ1 : Nat → Orc) (w0 : World) (F : World → Prop) : Reg Try.prog 1 (regOps Try.f38 1) false 24 [(0, (.slice a (B).length c)), (1, (.int .i64 z)), (4, (.pointer (some ⟨nb ρ1 0, 0, none⟩))), (5, (.int .i64 0)), (6, (.int .i64 0))] w0 [(nb ρ1 0, (.cells (hB 0) 32 (0, 0)))] F
    (fun ρ => [(0, (.slice a (B).length c)), (1, (.int .i64 z)), (4, (.pointer (some ⟨nb ρ1 0, 0, none⟩))), (5, (.int .i64 0)), (6, (.int .i64 0)), (7, (.pointer (some ⟨nb ρ 0, 0, none⟩)))])
    (fun ρ => [(nb ρ1 0, (.cells (hB 0) 32 (0, 0))), (nb ρ 0, (.cells (hB 0) 32 (0, 0)))]) := by
  refine reg_seq [0] [0, 1, 4, 5, 6, 7] 1
    (fun ρ ι => ([(.pointer (some ⟨nb ρ 0, 0, none⟩))] : List Value).getD ι undef)
    (fun ρ ι => ([{ news := [(nb ρ 0, (.cells (hB 0) 32 (0, 0)))] }] : List Eff).getD ι {})
    (by as_aux_lemma => kernel_rfl) (by as_aux_lemma => kernel_rfl) (fun _ => by as_aux_lemma => kernel_rfl) (fun _ => by as_aux_lemma => kernel_rfl) ⟨trivial, ?_⟩
  · exact o_run 0 [] [] (fun _ _ => []) (fun _ _ => by as_aux_lemma => kernel_rfl)
theorem hash_any_r3 (a : Option Addr) (c : Nat) (B : List UInt8) (z : Int) (hz : -9223372036854775808 ≤ z ∧ z < 9223372036854775808) (hBl : B.length ≤ 140737488351232) (ρ1 : Nat → Orc) (ρ2 : Nat → Orc) (w0 : World) (F : World → Prop) : Reg Try.prog 2 (regOps Try.f38 2) false 24 [(0, (.slice a (B).length c)), (1, (.int .i64 z)), (4, (.pointer (some ⟨nb ρ1 0, 0, none⟩))), (5, (.int .i64 0)), (6, (.int .i64 0)), (7, (.pointer (some ⟨nb ρ2 0, 0, none⟩)))] w0 [(nb ρ1 0, (.cells (hB 0) 32 (0, 0))), (nb ρ2 0, (.cells (hB 0) 32 (0, 0)))] F
    (fun _ => [(0, (.slice a (B).length c)), (1, (.int .i64 z)), (4, (.pointer (some ⟨nb ρ1 0, 0, none⟩))), (5, (.int .i64 0)), (6, (.int .i64 0)), (7, (.pointer (some ⟨nb ρ2 0, 0, none⟩))), (8, (.int .i64 (rdE B.length z 32)))])
    (fun _ => [(nb ρ1 0, (.cells (hB 0) 32 (0, 0))), (nb ρ2 0, (.cells (hB 0) 32 (0, 0)))]) := by
  refine reg_seq [0, 1, 3, 7] [0, 1, 4, 5, 6, 7, 8] 4
    (fun _ ι => ([(.slice a (B).length c), (.int .i64 z), (.int .i64 (rdE B.length z 32)), (.int .i64 (rdE B.length z 32))] : List Value).getD ι undef)
    (fun _ ι => ([{}, {}, {}, {}] : List Eff).getD ι {})
    (by as_aux_lemma => kernel_rfl) (by as_aux_lemma => kernel_rfl) (fun _ => by as_aux_lemma => kernel_rfl) (fun _ => by as_aux_lemma => kernel_rfl) ⟨⟨⟨⟨trivial, ?_⟩, ?_⟩, ?_⟩, ?_⟩
  · exact o_run 0 [] [] (fun _ _ => []) (fun _ _ => by as_aux_lemma => kernel_rfl)
  · exact o_run 1 [] [] (fun _ _ => []) (fun _ _ => by as_aux_lemma => kernel_rfl)
  · exact o_call 2 55 (fun _ => #[(.slice a (B).length c), (.int .i64 z), (.int .i64 32)]) (fun _ => (.int .i64 (rdE B.length z 32))) (fun _ _ => by as_aux_lemma => kernel_rfl) (fun _ w => (fun w => room_any a c B z 32 (by have := hz; have := hBl; omega) hBl (by have := hz; have := hBl; omega) w) w)
  · exact o_run 3 [] [] (fun _ _ => []) (fun _ _ => by as_aux_lemma => kernel_rfl)
theorem hash_any_r4 (a : Option Addr) (c : Nat) (B : List UInt8) (z : Int) (ρ1 : Nat → Orc) (ρ2 : Nat → Orc) (w0 : World) (F : World → Prop) : Reg Try.prog 3 (regOps Try.f38 3) false 24 [(0, (.slice a (B).length c)), (1, (.int .i64 z)), (4, (.pointer (some ⟨nb ρ1 0, 0, none⟩))), (5, (.int .i64 0)), (6, (.int .i64 0)), (7, (.pointer (some ⟨nb ρ2 0, 0, none⟩))), (8, (.int .i64 (rdE B.length z 32)))] w0 [(nb ρ1 0, (.cells (hB 0) 32 (0, 0))), (nb ρ2 0, (.cells (hB 0) 32 (0, 0)))] F
    (fun _ => [(0, (.slice a (B).length c)), (1, (.int .i64 z)), (4, (.pointer (some ⟨nb ρ1 0, 0, none⟩))), (5, (.int .i64 0)), (6, (.int .i64 0)), (7, (.pointer (some ⟨nb ρ2 0, 0, none⟩))), (8, (.int .i64 (rdE B.length z 32))), (13, (.bool ((rdE B.length z 32) != 0)))])
    (fun _ => [(nb ρ1 0, (.cells (hB 0) 32 (0, 0))), (nb ρ2 0, (.cells (hB 0) 32 (0, 0)))]) := by
  refine reg_seq [0, 1] [0, 1, 4, 5, 6, 7, 8, 13] 2
    (fun _ ι => ([(.int .i64 (rdE B.length z 32)), (.bool ((rdE B.length z 32) != 0))] : List Value).getD ι undef)
    (fun _ ι => ([{}, {}] : List Eff).getD ι {})
    (by as_aux_lemma => kernel_rfl) (by as_aux_lemma => kernel_rfl) (fun _ => by as_aux_lemma => kernel_rfl) (fun _ => by as_aux_lemma => kernel_rfl) ⟨⟨trivial, ?_⟩, ?_⟩
  · exact o_run 0 [] [] (fun _ _ => []) (fun _ _ => by as_aux_lemma => kernel_rfl)
  · exact o_run 1 [] [] (fun _ _ => []) (fun _ _ => by as_aux_lemma => kernel_rfl)
theorem hash_any_r5 (a : Option Addr) (c : Nat) (B : List UInt8) (z : Int) (ρ1 : Nat → Orc) (ρ2 : Nat → Orc) (w0 : World) (F : World → Prop) : Reg Try.prog 4 (regOps Try.f38 4) false 24 [(0, (.slice a (B).length c)), (1, (.int .i64 z)), (4, (.pointer (some ⟨nb ρ1 0, 0, none⟩))), (5, (.int .i64 0)), (6, (.int .i64 0)), (7, (.pointer (some ⟨nb ρ2 0, 0, none⟩))), (8, (.int .i64 (rdE B.length z 32))), (13, (.bool true))] w0 [(nb ρ1 0, (.cells (hB 0) 32 (0, 0))), (nb ρ2 0, (.cells (hB 0) 32 (0, 0)))] F
    (fun _ => [(0, (.slice a (B).length c)), (1, (.int .i64 z)), (4, (.pointer (some ⟨nb ρ1 0, 0, none⟩))), (5, (.int .i64 0)), (6, (.int .i64 (rdE B.length z 32))), (7, (.pointer (some ⟨nb ρ2 0, 0, none⟩)))])
    (fun _ => [(nb ρ1 0, (.cells #[(.int .u8 (byt 0 0)), (.int .u8 (byt 0 1)), (.int .u8 (byt 0 2)), (.int .u8 (byt 0 3)), (.int .u8 (byt 0 4)), (.int .u8 (byt 0 5)), (.int .u8 (byt 0 6)), (.int .u8 (byt 0 7)), (.int .u8 (byt 0 8)), (.int .u8 (byt 0 9)), (.int .u8 (byt 0 10)), (.int .u8 (byt 0 11)), (.int .u8 (byt 0 12)), (.int .u8 (byt 0 13)), (.int .u8 (byt 0 14)), (.int .u8 (byt 0 15)), (.int .u8 (byt 0 16)), (.int .u8 (byt 0 17)), (.int .u8 (byt 0 18)), (.int .u8 (byt 0 19)), (.int .u8 (byt 0 20)), (.int .u8 (byt 0 21)), (.int .u8 (byt 0 22)), (.int .u8 (byt 0 23)), (.int .u8 (byt 0 24)), (.int .u8 (byt 0 25)), (.int .u8 (byt 0 26)), (.int .u8 (byt 0 27)), (.int .u8 (byt 0 28)), (.int .u8 (byt 0 29)), (.int .u8 (byt 0 30)), (.int .u8 (byt 0 31))] 32 (0, 0))), (nb ρ2 0, (.cells (hB 0) 32 (0, 0)))]) := by
  refine reg_seq [0, 1, 3, 7, 15] [0, 1, 4, 5, 6, 7] 5
    (fun _ ι => ([(.agg #[(.int .u8 (byt 0 0)), (.int .u8 (byt 0 1)), (.int .u8 (byt 0 2)), (.int .u8 (byt 0 3)), (.int .u8 (byt 0 4)), (.int .u8 (byt 0 5)), (.int .u8 (byt 0 6)), (.int .u8 (byt 0 7)), (.int .u8 (byt 0 8)), (.int .u8 (byt 0 9)), (.int .u8 (byt 0 10)), (.int .u8 (byt 0 11)), (.int .u8 (byt 0 12)), (.int .u8 (byt 0 13)), (.int .u8 (byt 0 14)), (.int .u8 (byt 0 15)), (.int .u8 (byt 0 16)), (.int .u8 (byt 0 17)), (.int .u8 (byt 0 18)), (.int .u8 (byt 0 19)), (.int .u8 (byt 0 20)), (.int .u8 (byt 0 21)), (.int .u8 (byt 0 22)), (.int .u8 (byt 0 23)), (.int .u8 (byt 0 24)), (.int .u8 (byt 0 25)), (.int .u8 (byt 0 26)), (.int .u8 (byt 0 27)), (.int .u8 (byt 0 28)), (.int .u8 (byt 0 29)), (.int .u8 (byt 0 30)), (.int .u8 (byt 0 31))]), (.int .i64 (rdE B.length z 32)), undef, (.int .i64 0), (.int .i64 (rdE B.length z 32))] : List Value).getD ι undef)
    (fun _ ι => ([{}, {}, { puts := [(0, (.cells #[(.int .u8 (byt 0 0)), (.int .u8 (byt 0 1)), (.int .u8 (byt 0 2)), (.int .u8 (byt 0 3)), (.int .u8 (byt 0 4)), (.int .u8 (byt 0 5)), (.int .u8 (byt 0 6)), (.int .u8 (byt 0 7)), (.int .u8 (byt 0 8)), (.int .u8 (byt 0 9)), (.int .u8 (byt 0 10)), (.int .u8 (byt 0 11)), (.int .u8 (byt 0 12)), (.int .u8 (byt 0 13)), (.int .u8 (byt 0 14)), (.int .u8 (byt 0 15)), (.int .u8 (byt 0 16)), (.int .u8 (byt 0 17)), (.int .u8 (byt 0 18)), (.int .u8 (byt 0 19)), (.int .u8 (byt 0 20)), (.int .u8 (byt 0 21)), (.int .u8 (byt 0 22)), (.int .u8 (byt 0 23)), (.int .u8 (byt 0 24)), (.int .u8 (byt 0 25)), (.int .u8 (byt 0 26)), (.int .u8 (byt 0 27)), (.int .u8 (byt 0 28)), (.int .u8 (byt 0 29)), (.int .u8 (byt 0 30)), (.int .u8 (byt 0 31))] 32 (0, 0)))] }, {}, {}] : List Eff).getD ι {})
    (by as_aux_lemma => kernel_rfl) (by as_aux_lemma => kernel_rfl) (fun _ => by as_aux_lemma => kernel_rfl) (fun _ => by as_aux_lemma => kernel_rfl) ⟨⟨⟨⟨⟨trivial, ?_⟩, ?_⟩, ?_⟩, ?_⟩, ?_⟩
  · exact o_run 0 [] [] (fun _ _ => []) (fun _ _ => by as_aux_lemma => kernel_rfl)
  · exact o_run 1 [] [] (fun _ _ => []) (fun _ _ => by as_aux_lemma => kernel_rfl)
  · exact o_run 2 [0] [] (fun _ _ => [nb ρ1 0, nb ρ1 0, nb ρ1 0, nb ρ1 0, nb ρ1 0, nb ρ1 0, nb ρ1 0, nb ρ1 0, nb ρ1 0, nb ρ1 0, nb ρ1 0, nb ρ1 0, nb ρ1 0, nb ρ1 0, nb ρ1 0, nb ρ1 0, nb ρ1 0, nb ρ1 0, nb ρ1 0, nb ρ1 0, nb ρ1 0, nb ρ1 0, nb ρ1 0, nb ρ1 0, nb ρ1 0, nb ρ1 0, nb ρ1 0, nb ρ1 0, nb ρ1 0, nb ρ1 0, nb ρ1 0, nb ρ1 0]) (fun _ _ => by as_aux_lemma => kernel_rfl)
  · exact o_run 3 [] [] (fun _ _ => []) (fun _ _ => by as_aux_lemma => kernel_rfl)
  · exact o_run 4 [] [] (fun _ _ => []) (fun _ _ => by as_aux_lemma => kernel_rfl)
theorem hash_any_r6 (a : Option Addr) (c : Nat) (B : List UInt8) (z : Int) (hz : -9223372036854775808 ≤ z ∧ z < 9223372036854775808) (hBl : B.length ≤ 140737488351232) (hb1 : ((rdE B.length z 32) != 0) = false) (ρ1 : Nat → Orc) (ρ2 : Nat → Orc) (w0 : World) : RegF Try.prog 5 (regOps Try.f38 5) true 24 [(0, (.slice a (B).length c)), (1, (.int .i64 z)), (4, (.pointer (some ⟨nb ρ1 0, 0, none⟩))), (5, (.int .i64 0)), (6, (.int .i64 0)), (7, (.pointer (some ⟨nb ρ2 0, 0, none⟩))), (8, (.int .i64 (rdE B.length z 32))), (13, (.bool false))] w0 [(nb ρ1 0, (.cells (hB 0) 32 (0, 0))), (nb ρ2 0, (.cells (hB 0) 32 (0, 0)))] (fun w => Bs w a c B ∧ True)
    (fun _ => [(1, (.int .i64 z)), (4, (.pointer (some ⟨nb ρ1 0, 0, none⟩))), (5, (.int .i64 0)), (6, (.int .i64 0)), (7, (.pointer (some ⟨nb ρ2 0, 0, none⟩)))])
    (fun _ => [(nb ρ1 0, (.cells (hB 0) 32 (0, 0))), (nb ρ2 0, (.cells (hB (nB ((mid B z.toNat B.length).take 32))) 32 (0, 0)))]) (fun _ => (fun w => Bs w a c B ∧ Bs w (sadr a z.toNat c) (c - z.toNat) (mid B z.toNat B.length) ∧ True)) := by
  refine reg_drawn_f [0, 0, 0, 6, 15] [1, 4, 5, 6, 7] 5
    (fun _ ι => ([(.slice (some ⟨nb ρ2 0, 0, none⟩) (hL 0).length 32), (.slice a (B).length c), (.int .i64 z), (.slice (sadr a z.toNat c) (mid B z.toNat B.length).length (c - z.toNat)), (.int .i64 ((Nat.min (mid B z.toNat B.length).length 32 : Nat) : Int))] : List Value).getD ι undef)
    (fun _ ι => ([{}, {}, {}, {}, { puts := [(1, (.cells (hB (nB ((mid B z.toNat B.length).take 32))) 32 (0, 0)))] }] : List Eff).getD ι {})
    (fun _ ι => ([(fun _ => True), (fun _ => True), (fun _ => True), (fun w => Bs w (sadr a z.toNat c) (c - z.toNat) (mid B z.toNat B.length)), (fun _ => True)] : List (World → Prop)).getD ι (fun _ => True))
    (by as_aux_lemma => kernel_rfl) (by as_aux_lemma => kernel_rfl) (by as_aux_lemma => kernel_rfl) (fun _ => by as_aux_lemma => kernel_rfl) (fun _ => by as_aux_lemma => kernel_rfl) (fun _ _ hF hf => ⟨hF.1, hf 3 (by omega), trivial⟩) ⟨⟨⟨⟨⟨trivial, ?_⟩, ?_⟩, ?_⟩, ?_⟩, ?_⟩
  · exact Obl.brings (o_run 0 [] [] (fun _ _ => []) (fun _ _ => by as_aux_lemma => kernel_rfl)) (fun _ _ => trivial)
  · exact Obl.brings (o_run 1 [] [] (fun _ _ => []) (fun _ _ => by as_aux_lemma => kernel_rfl)) (fun _ _ => trivial)
  · exact Obl.brings (o_run 2 [] [] (fun _ _ => []) (fun _ _ => by as_aux_lemma => kernel_rfl)) (fun _ _ => trivial)
  · exact o_semF 3 (fun _ => do pure (Next.value (← Instr.sliceAt 22 (.slice a (B).length c) (some (.int .i64 z)) none none))) (fun _ => (.slice (sadr a z.toNat c) (mid B z.toNat B.length).length (c - z.toNat))) (fun _ => (by as_aux_lemma => kernel_rfl)) (fun _ => (by as_aux_lemma => kernel_rfl)) (fun _ _ _ hG => slice_bytes (l := z.toNat) (k := B.length) Try.underlying22 u8i hG.facts0.now.1 rfl (Or.inr (congrArg (fun z => some (Value.int .i64 z)) ((by have := bne0' hb1; have := rdE_in (bne0' hb1); have := hz; have := hBl; omega)))) (Or.inl ⟨rfl, rfl⟩) ((by have := bne0' hb1; have := rdE_in (bne0' hb1); have := hz; have := hBl; omega)) ((Nat.le_refl _))) (fun _ _ w hG => (hG.facts0).mono (fun _ hF => (hF).1.mid ((by have := bne0' hb1; have := rdE_in (bne0' hb1); have := hz; have := hBl; omega)) ((Nat.le_refl _))))
  · exact o_put1 4 1 (fun _ => do pure (Next.value (← Builtin.copy_ #[22, 22] 3 #[(.slice (some ⟨nb ρ2 0, 0, none⟩) 32 32), (.slice (sadr a z.toNat c) (mid B z.toNat B.length).length (c - z.toNat))]))) (fun _ => nb ρ2 0) (fun _ => (.cells (hB 0) 32 (0, 0))) (fun _ => (.cells (hB (nB ((mid B z.toNat B.length).take 32))) 32 (0, 0))) (fun _ => (.int .i64 ((Nat.min (mid B z.toNat B.length).length 32 : Nat) : Int))) (fun _ => (by as_aux_lemma => kernel_rfl)) (fun _ => (by as_aux_lemma => kernel_rfl)) (fun _ => (by as_aux_lemma => kernel_rfl)) (fun _ => (by as_aux_lemma => kernel_rfl)) (fun _ _ => trivial) (fun _ _ w hG hg => (by as_aux_lemma => (rw [← copy_hash ((by rw [mid_length _ _ _ (Nat.le_refl _)]; have := bne0' hb1; have := rdE_in (bne0' hb1); have := hz; have := hBl; omega))]; exact copy_row Try.underlying22 u8i hg (show Bs w (sadr a z.toNat c) (c - z.toNat) (mid B z.toNat B.length) from (hG.facts 3 rfl).now) rfl (by rw [hB_size]; exact Nat.le_refl _))))
theorem hash_any_r7 (B : List UInt8) (z : Int) (hz : -9223372036854775808 ≤ z ∧ z < 9223372036854775808) (hBl : B.length ≤ 140737488351232) (hb1 : ((rdE B.length z 32) != 0) = false) (ρ1 : Nat → Orc) (ρ2 : Nat → Orc) (w0 : World) (F : World → Prop) : Reg Try.prog 6 (regOps Try.f38 6) false 24 [(1, (.int .i64 z)), (4, (.pointer (some ⟨nb ρ1 0, 0, none⟩))), (5, (.int .i64 0)), (6, (.int .i64 0)), (7, (.pointer (some ⟨nb ρ2 0, 0, none⟩)))] w0 [(nb ρ1 0, (.cells (hB 0) 32 (0, 0))), (nb ρ2 0, (.cells (hB (nB ((mid B z.toNat B.length).take 32))) 32 (0, 0)))] F
    (fun _ => [(4, (.pointer (some ⟨nb ρ1 0, 0, none⟩))), (5, (.int .i64 (z + 32))), (6, (.int .i64 0))])
    (fun _ => [(nb ρ1 0, (.cells (hB (nB ((mid B z.toNat B.length).take 32))) 32 (0, 0))), (nb ρ2 0, (.cells (hB (nB ((mid B z.toNat B.length).take 32))) 32 (0, 0)))]) := by
  refine reg_seq [0, 1, 3, 7, 15, 31] [4, 5, 6] 6
    (fun _ ι => ([(.agg (hB (nB ((mid B z.toNat B.length).take 32)))), (.int .i64 z), (.int .i64 (z + 32)), undef, (.int .i64 (z + 32)), (.int .i64 0)] : List Value).getD ι undef)
    (fun _ ι => ([{}, {}, {}, { puts := [(0, (.cells (hB (nB ((mid B z.toNat B.length).take 32))) 32 (0, 0)))] }, {}, {}] : List Eff).getD ι {})
    (by as_aux_lemma => kernel_rfl) (by as_aux_lemma => kernel_rfl) (fun _ => by as_aux_lemma => kernel_rfl) (fun _ => by as_aux_lemma => kernel_rfl) ⟨⟨⟨⟨⟨⟨trivial, ?_⟩, ?_⟩, ?_⟩, ?_⟩, ?_⟩, ?_⟩
  · exact o_run 0 [1] [] (fun _ _ => [nb ρ2 0, nb ρ2 0, nb ρ2 0, nb ρ2 0, nb ρ2 0, nb ρ2 0, nb ρ2 0, nb ρ2 0, nb ρ2 0, nb ρ2 0, nb ρ2 0, nb ρ2 0, nb ρ2 0, nb ρ2 0, nb ρ2 0, nb ρ2 0, nb ρ2 0, nb ρ2 0, nb ρ2 0, nb ρ2 0, nb ρ2 0, nb ρ2 0, nb ρ2 0, nb ρ2 0, nb ρ2 0, nb ρ2 0, nb ρ2 0, nb ρ2 0, nb ρ2 0, nb ρ2 0, nb ρ2 0, nb ρ2 0]) (fun _ _ => by as_aux_lemma => kernel_rfl)
  · exact o_run 1 [] [] (fun _ _ => []) (fun _ _ => by as_aux_lemma => kernel_rfl)
  · exact o_as 2 (fun _ => (.int .i64 (IntKind.i64.wrap (z + 32)))) (fun _ => (.int .i64 (z + 32))) (fun _ _ => by as_aux_lemma => kernel_rfl) (fun _ => congrArg (Value.int .i64) (i64N (by have := bne0' hb1; have := rdE_in (bne0' hb1); have := hz; have := hBl; omega)))
  · exact o_run 3 [0] [] (fun _ _ => [nb ρ1 0, nb ρ1 0, nb ρ1 0, nb ρ1 0, nb ρ1 0, nb ρ1 0, nb ρ1 0, nb ρ1 0, nb ρ1 0, nb ρ1 0, nb ρ1 0, nb ρ1 0, nb ρ1 0, nb ρ1 0, nb ρ1 0, nb ρ1 0, nb ρ1 0, nb ρ1 0, nb ρ1 0, nb ρ1 0, nb ρ1 0, nb ρ1 0, nb ρ1 0, nb ρ1 0, nb ρ1 0, nb ρ1 0, nb ρ1 0, nb ρ1 0, nb ρ1 0, nb ρ1 0, nb ρ1 0, nb ρ1 0]) (fun _ _ => by as_aux_lemma => kernel_rfl)
  · exact o_run 4 [] [] (fun _ _ => []) (fun _ _ => by as_aux_lemma => kernel_rfl)
  · exact o_run 5 [] [] (fun _ _ => []) (fun _ _ => by as_aux_lemma => kernel_rfl)
theorem hash_any (a : Option Addr) (c : Nat) (B : List UInt8) (z : Int) (hz : -9223372036854775808 ≤ z ∧ z < 9223372036854775808) (hBl : B.length ≤ 140737488351232) (w0 : World) (hf0 : Bs w0 a c B) : Calls Try.prog 38 #[(.slice a (B).length c), (.int .i64 z)] w0 (fun ε w' => ε = .returned (.tuple #[(.agg (hB (hsV B z))), (.int .i64 (rdN B.length z 32)), (.int .i64 (rdE B.length z 32))]) ∧ Below w0.heap.size w0 w') := by
  refine Calls.of_ok (n := 24) (F := (fun w => Bs w a c B ∧ True)) Try.func38 rfl rfl rfl (by simp) (hf0.pers0.and persT) ?_
  refine ok_seq_r (by as_aux_lemma => kernel_rfl) (hash_any_r1 a c B z _ _) (fun ρ1 => ?_)
  refine ok_seq_r (by as_aux_lemma => kernel_rfl) (hash_any_r2 a c B z ρ1 _ _) (fun ρ2 => ?_)
  refine ok_seq ?_
  refine ok_seq_r (by as_aux_lemma => kernel_rfl) (hash_any_r3 a c B z hz hBl ρ1 ρ2 _ _) (fun _ => ?_)
  refine ok_seq_r (by as_aux_lemma => kernel_rfl) (hash_any_r4 a c B z ρ1 ρ2 _ _) (fun _ => ?_)
  refine ok_cond (b := (rdE B.length z 32) != 0) (by as_aux_lemma => kernel_rfl) (fun hb1 => ?_) (fun hb1 => ?_)
  ·
    rw [hb1]
    refine ok_seq_r (by as_aux_lemma => kernel_rfl) (hash_any_r5 a c B z ρ1 ρ2 _ _) (fun _ => ?_)
    refine ok_ret ?_
    refine mt_then_r ?_
    exact meets_ret (v := (.tuple #[(.agg #[(.int .u8 (byt 0 0)), (.int .u8 (byt 0 1)), (.int .u8 (byt 0 2)), (.int .u8 (byt 0 3)), (.int .u8 (byt 0 4)), (.int .u8 (byt 0 5)), (.int .u8 (byt 0 6)), (.int .u8 (byt 0 7)), (.int .u8 (byt 0 8)), (.int .u8 (byt 0 9)), (.int .u8 (byt 0 10)), (.int .u8 (byt 0 11)), (.int .u8 (byt 0 12)), (.int .u8 (byt 0 13)), (.int .u8 (byt 0 14)), (.int .u8 (byt 0 15)), (.int .u8 (byt 0 16)), (.int .u8 (byt 0 17)), (.int .u8 (byt 0 18)), (.int .u8 (byt 0 19)), (.int .u8 (byt 0 20)), (.int .u8 (byt 0 21)), (.int .u8 (byt 0 22)), (.int .u8 (byt 0 23)), (.int .u8 (byt 0 24)), (.int .u8 (byt 0 25)), (.int .u8 (byt 0 26)), (.int .u8 (byt 0 27)), (.int .u8 (byt 0 28)), (.int .u8 (byt 0 29)), (.int .u8 (byt 0 30)), (.int .u8 (byt 0 31))]), (.int .i64 0), (.int .i64 (rdE B.length z 32))])) [0, 0, 0, 0, 0, 0, 0, 0, 0, 0, 0, 0, 0, 0, 0, 0, 0, 0, 0, 0, 0, 0, 0, 0, 0, 0, 0, 0, 0, 0, 0, 0] (dup [nb ρ1 0, nb ρ1 0, nb ρ1 0, nb ρ1 0, nb ρ1 0, nb ρ1 0, nb ρ1 0, nb ρ1 0, nb ρ1 0, nb ρ1 0, nb ρ1 0, nb ρ1 0, nb ρ1 0, nb ρ1 0, nb ρ1 0, nb ρ1 0, nb ρ1 0, nb ρ1 0, nb ρ1 0, nb ρ1 0, nb ρ1 0, nb ρ1 0, nb ρ1 0, nb ρ1 0, nb ρ1 0, nb ρ1 0, nb ρ1 0, nb ρ1 0, nb ρ1 0, nb ρ1 0, nb ρ1 0, nb ρ1 0]) (by as_aux_lemma => kernel_rfl) (by as_aux_lemma => kernel_rfl) (eqs_dup _) (fun _ hS => ⟨congrArg Ending.returned (hs_err rfl (bne0 hb1)), hS.below⟩)
  ·
    rw [hb1]
    refine ok_skip ?_
    refine mt_then ?_
    refine ok_seq_rf (by as_aux_lemma => kernel_rfl) (hash_any_r6 a c B z hz hBl hb1 ρ1 ρ2 _) (fun _ => ?_)
    refine ok_seq_r (by as_aux_lemma => kernel_rfl) (hash_any_r7 B z hz hBl hb1 ρ1 ρ2 _ _) (fun _ => ?_)
    refine ok_ret ?_
    exact meets_ret (v := (.tuple #[(.agg (hB (nB ((mid B z.toNat B.length).take 32)))), (.int .i64 (z + 32)), (.int .i64 0)])) [0, 0, 0, 0, 0, 0, 0, 0, 0, 0, 0, 0, 0, 0, 0, 0, 0, 0, 0, 0, 0, 0, 0, 0, 0, 0, 0, 0, 0, 0, 0, 0] (dup [nb ρ1 0, nb ρ1 0, nb ρ1 0, nb ρ1 0, nb ρ1 0, nb ρ1 0, nb ρ1 0, nb ρ1 0, nb ρ1 0, nb ρ1 0, nb ρ1 0, nb ρ1 0, nb ρ1 0, nb ρ1 0, nb ρ1 0, nb ρ1 0, nb ρ1 0, nb ρ1 0, nb ρ1 0, nb ρ1 0, nb ρ1 0, nb ρ1 0, nb ρ1 0, nb ρ1 0, nb ρ1 0, nb ρ1 0, nb ρ1 0, nb ρ1 0, nb ρ1 0, nb ρ1 0, nb ρ1 0, nb ρ1 0]) (by as_aux_lemma => kernel_rfl) (by as_aux_lemma => kernel_rfl) (eqs_dup _) (fun _ hS => ⟨congrArg Ending.returned (hs_ok (bne0' hb1)), hS.below⟩)
theorem rhash_any_r1 (a : Option Addr) (c : Nat) (B : List UInt8) (z : Int) (w0 : World) (F : World → Prop) : Reg Try.prog 0 (regOps Try.f39 0) false 31 [(0, (.slice a (B).length c)), (1, (.int .i64 z))] w0 [] F
    (fun ρ => [(0, (.slice a (B).length c)), (1, (.int .i64 z)), (4, (.pointer (some ⟨nb ρ 0, 0, none⟩))), (5, (.int .i64 0)), (6, (.int .i64 0))])
    (fun ρ => [(nb ρ 0, (.cells (hB 0) 32 (0, 0)))]) := by
  refine reg_seq [0, 1, 3] [0, 1, 4, 5, 6] 3
    (fun ρ ι => ([(.pointer (some ⟨nb ρ 0, 0, none⟩)), (.int .i64 0), (.int .i64 0)] : List Value).getD ι undef)
    (fun ρ ι => ([{ news := [(nb ρ 0, (.cells (hB 0) 32 (0, 0)))] }, {}, {}] : List Eff).getD ι {})
    (by as_aux_lemma => kernel_rfl) (by as_aux_lemma => kernel_rfl) (fun _ => by as_aux_lemma => kernel_rfl) (fun _ => by as_aux_lemma => kernel_rfl) ⟨⟨⟨trivial, ?_⟩, ?_⟩, ?_⟩
  · exact o_run 0 [] [] (fun _ _ => []) (fun _ _ => by as_aux_lemma => kernel_rfl)
  · exact o_run 1 [] [] (fun _ _ => []) (fun _ _ => by as_aux_lemma => kernel_rfl)
  · exact o_run 2 [] [] (fun _ _ => []) (fun _ _ => by as_aux_lemma => kernel_rfl)
theorem rhash_any_r2 (a : Option Addr) (c : Nat) (B : List UInt8) (z : Int) (ρ1 : Nat → Orc) (w0 : World) (F : World → Prop) : Reg Try.prog 1 (regOps Try.f39 1) false 31 [(0, (.slice a (B).length c)), (1, (.int .i64 z)), (4, (.pointer (some ⟨nb ρ1 0, 0, none⟩))), (5, (.int .i64 0)), (6, (.int .i64 0))] w0 [(nb ρ1 0, (.cells (hB 0) 32 (0, 0)))] F
    (fun ρ => [(0, (.slice a (B).length c)), (1, (.int .i64 z)), (4, (.pointer (some ⟨nb ρ1 0, 0, none⟩))), (5, (.int .i64 0)), (6, (.int .i64 0)), (7, (.pointer (some ⟨nb ρ 0, 0, none⟩)))])
    (fun ρ => [(nb ρ1 0, (.cells (hB 0) 32 (0, 0))), (nb ρ 0, (.cells (hB 0) 32 (0, 0)))]) := by
  refine reg_seq [0] [0, 1, 4, 5, 6, 7] 1
    (fun ρ ι => ([(.pointer (some ⟨nb ρ 0, 0, none⟩))] : List Value).getD ι undef)
    (fun ρ ι => ([{ news := [(nb ρ 0, (.cells (hB 0) 32 (0, 0)))] }] : List Eff).getD ι {})
    (by as_aux_lemma => kernel_rfl) (by as_aux_lemma => kernel_rfl) (fun _ => by as_aux_lemma => kernel_rfl) (fun _ => by as_aux_lemma => kernel_rfl) ⟨trivial, ?_⟩
  · exact o_run 0 [] [] (fun _ _ => []) (fun _ _ => by as_aux_lemma => kernel_rfl)
theorem rhash_any_r3 (a : Option Addr) (c : Nat) (B : List UInt8) (z : Int) (hb1 : (decide (z < 0)) = true) (ρ1 : Nat → Orc) (ρ2 : Nat → Orc) (w0 : World) (F : World → Prop) : Reg Try.prog 2 (regOps Try.f39 2) false 31 [(0, (.slice a (B).length c)), (1, (.int .i64 z)), (4, (.pointer (some ⟨nb ρ1 0, 0, none⟩))), (5, (.int .i64 0)), (6, (.int .i64 0)), (7, (.pointer (some ⟨nb ρ2 0, 0, none⟩)))] w0 [(nb ρ1 0, (.cells (hB 0) 32 (0, 0))), (nb ρ2 0, (.cells (hB 0) 32 (0, 0)))] F
    (fun _ => [(0, (.slice a (B).length c)), (1, (.int .i64 z)), (4, (.pointer (some ⟨nb ρ1 0, 0, none⟩))), (5, (.int .i64 0)), (6, (.int .i64 0)), (7, (.pointer (some ⟨nb ρ2 0, 0, none⟩))), (15, (.bool true))])
    (fun _ => [(nb ρ1 0, (.cells (hB 0) 32 (0, 0))), (nb ρ2 0, (.cells (hB 0) 32 (0, 0)))]) := by
  refine reg_seq [0, 1, 3, 7, 15, 31, 63, 127] [0, 1, 4, 5, 6, 7, 15] 8
    (fun _ ι => ([(.int .i64 z), (.bool true), (.bool true), undef, undef, undef, undef, (.bool true)] : List Value).getD ι undef)
    (fun _ ι => ([{}, {}, {}, {}, {}, {}, {}, {}] : List Eff).getD ι {})
    (by as_aux_lemma => kernel_rfl) (by as_aux_lemma => kernel_rfl) (fun _ => by as_aux_lemma => kernel_rfl) (fun _ => by as_aux_lemma => kernel_rfl) ⟨⟨⟨⟨⟨⟨⟨⟨trivial, ?_⟩, ?_⟩, ?_⟩, ?_⟩, ?_⟩, ?_⟩, ?_⟩, ?_⟩
  · exact o_run 0 [] [] (fun _ _ => []) (fun _ _ => by as_aux_lemma => kernel_rfl)
  · exact o_as 1 (fun _ => (.bool (decide (z < 0)))) (fun _ => (.bool true)) (fun _ _ => by as_aux_lemma => kernel_rfl) (fun _ => congrArg Value.bool hb1)
  · exact o_run 2 [] [] (fun _ _ => []) (fun _ _ => by as_aux_lemma => kernel_rfl)
  · exact o_skip 3 (fun _ => by as_aux_lemma => kernel_rfl)
  · exact o_skip 4 (fun _ => by as_aux_lemma => kernel_rfl)
  · exact o_skip 5 (fun _ => by as_aux_lemma => kernel_rfl)
  · exact o_skip 6 (fun _ => by as_aux_lemma => kernel_rfl)
  · exact o_run 7 [] [] (fun _ _ => []) (fun _ _ => by as_aux_lemma => kernel_rfl)
theorem rhash_any_r4 (a : Option Addr) (c : Nat) (B : List UInt8) (z : Int) (ρ1 : Nat → Orc) (ρ2 : Nat → Orc) (w0 : World) (F : World → Prop) : Reg Try.prog 3 (regOps Try.f39 3) false 31 [(0, (.slice a (B).length c)), (1, (.int .i64 z)), (4, (.pointer (some ⟨nb ρ1 0, 0, none⟩))), (5, (.int .i64 0)), (6, (.int .i64 0)), (7, (.pointer (some ⟨nb ρ2 0, 0, none⟩))), (15, (.bool true))] w0 [(nb ρ1 0, (.cells (hB 0) 32 (0, 0))), (nb ρ2 0, (.cells (hB 0) 32 (0, 0)))] F
    (fun _ => [(0, (.slice a (B).length c)), (1, (.int .i64 z)), (4, (.pointer (some ⟨nb ρ1 0, 0, none⟩))), (5, (.int .i64 0)), (6, (.int .i64 5)), (7, (.pointer (some ⟨nb ρ2 0, 0, none⟩)))])
    (fun _ => [(nb ρ1 0, (.cells (hB 0) 32 (0, 0))), (nb ρ2 0, (.cells (hB 0) 32 (0, 0)))]) := by
  refine reg_seq [0, 1, 3, 7] [0, 1, 4, 5, 6, 7] 4
    (fun _ ι => ([(.agg (hB 0)), undef, (.int .i64 0), (.int .i64 5)] : List Value).getD ι undef)
    (fun _ ι => ([{}, { puts := [(0, (.cells (hB 0) 32 (0, 0)))] }, {}, {}] : List Eff).getD ι {})
    (by as_aux_lemma => kernel_rfl) (by as_aux_lemma => kernel_rfl) (fun _ => by as_aux_lemma => kernel_rfl) (fun _ => by as_aux_lemma => kernel_rfl) ⟨⟨⟨⟨trivial, ?_⟩, ?_⟩, ?_⟩, ?_⟩
  · exact o_run 0 [1] [] (fun _ _ => [nb ρ2 0, nb ρ2 0, nb ρ2 0, nb ρ2 0, nb ρ2 0, nb ρ2 0, nb ρ2 0, nb ρ2 0, nb ρ2 0, nb ρ2 0, nb ρ2 0, nb ρ2 0, nb ρ2 0, nb ρ2 0, nb ρ2 0, nb ρ2 0, nb ρ2 0, nb ρ2 0, nb ρ2 0, nb ρ2 0, nb ρ2 0, nb ρ2 0, nb ρ2 0, nb ρ2 0, nb ρ2 0, nb ρ2 0, nb ρ2 0, nb ρ2 0, nb ρ2 0, nb ρ2 0, nb ρ2 0, nb ρ2 0]) (fun _ _ => by as_aux_lemma => kernel_rfl)
  · exact o_run 1 [0] [] (fun _ _ => [nb ρ1 0, nb ρ1 0, nb ρ1 0, nb ρ1 0, nb ρ1 0, nb ρ1 0, nb ρ1 0, nb ρ1 0, nb ρ1 0, nb ρ1 0, nb ρ1 0, nb ρ1 0, nb ρ1 0, nb ρ1 0, nb ρ1 0, nb ρ1 0, nb ρ1 0, nb ρ1 0, nb ρ1 0, nb ρ1 0, nb ρ1 0, nb ρ1 0, nb ρ1 0, nb ρ1 0, nb ρ1 0, nb ρ1 0, nb ρ1 0, nb ρ1 0, nb ρ1 0, nb ρ1 0, nb ρ1 0, nb ρ1 0]) (fun _ _ => by as_aux_lemma => kernel_rfl)
  · exact o_run 2 [] [] (fun _ _ => []) (fun _ _ => by as_aux_lemma => kernel_rfl)
  · exact o_run 3 [] [] (fun _ _ => []) (fun _ _ => by as_aux_lemma => kernel_rfl)
theorem rhash_any_r5 (a : Option Addr) (c : Nat) (B : List UInt8) (z : Int) (hb1 : (decide (z < 0)) = false) (ρ1 : Nat → Orc) (ρ2 : Nat → Orc) (w0 : World) (F : World → Prop) : Reg Try.prog 2 (regOps Try.f39 2) false 31 [(0, (.slice a (B).length c)), (1, (.int .i64 z)), (4, (.pointer (some ⟨nb ρ1 0, 0, none⟩))), (5, (.int .i64 0)), (6, (.int .i64 0)), (7, (.pointer (some ⟨nb ρ2 0, 0, none⟩)))] w0 [(nb ρ1 0, (.cells (hB 0) 32 (0, 0))), (nb ρ2 0, (.cells (hB 0) 32 (0, 0)))] F
    (fun _ => [(0, (.slice a (B).length c)), (1, (.int .i64 z)), (4, (.pointer (some ⟨nb ρ1 0, 0, none⟩))), (5, (.int .i64 0)), (6, (.int .i64 0)), (7, (.pointer (some ⟨nb ρ2 0, 0, none⟩))), (15, (.bool (decide ((((B).length : Nat) : Int) < z))))])
    (fun _ => [(nb ρ1 0, (.cells (hB 0) 32 (0, 0))), (nb ρ2 0, (.cells (hB 0) 32 (0, 0)))]) := by
  refine reg_seq [0, 1, 3, 7, 15, 31, 63, 127] [0, 1, 4, 5, 6, 7, 15] 8
    (fun _ ι => ([(.int .i64 z), (.bool false), (.bool false), (.int .i64 z), (.slice a (B).length c), (.int .i64 (((B).length : Nat) : Int)), (.bool (decide ((((B).length : Nat) : Int) < z))), (.bool (decide ((((B).length : Nat) : Int) < z)))] : List Value).getD ι undef)
    (fun _ ι => ([{}, {}, {}, {}, {}, {}, {}, {}] : List Eff).getD ι {})
    (by as_aux_lemma => kernel_rfl) (by as_aux_lemma => kernel_rfl) (fun _ => by as_aux_lemma => kernel_rfl) (fun _ => by as_aux_lemma => kernel_rfl) ⟨⟨⟨⟨⟨⟨⟨⟨trivial, ?_⟩, ?_⟩, ?_⟩, ?_⟩, ?_⟩, ?_⟩, ?_⟩, ?_⟩
  · exact o_run 0 [] [] (fun _ _ => []) (fun _ _ => by as_aux_lemma => kernel_rfl)
  · exact o_as 1 (fun _ => (.bool (decide (z < 0)))) (fun _ => (.bool false)) (fun _ _ => by as_aux_lemma => kernel_rfl) (fun _ => congrArg Value.bool hb1)
  · exact o_run 2 [] [] (fun _ _ => []) (fun _ _ => by as_aux_lemma => kernel_rfl)
  · exact o_run 3 [] [] (fun _ _ => []) (fun _ _ => by as_aux_lemma => kernel_rfl)
  · exact o_run 4 [] [] (fun _ _ => []) (fun _ _ => by as_aux_lemma => kernel_rfl)
  · exact o_run 5 [] [] (fun _ _ => []) (fun _ _ => by as_aux_lemma => kernel_rfl)
  · exact o_run 6 [] [] (fun _ _ => []) (fun _ _ => by as_aux_lemma => kernel_rfl)
  · exact o_run 7 [] [] (fun _ _ => []) (fun _ _ => by as_aux_lemma => kernel_rfl)
theorem rhash_any_r6 (a : Option Addr) (c : Nat) (B : List UInt8) (z : Int) (ρ1 : Nat → Orc) (ρ2 : Nat → Orc) (w0 : World) (F : World → Prop) : Reg Try.prog 3 (regOps Try.f39 3) false 31 [(0, (.slice a (B).length c)), (1, (.int .i64 z)), (4, (.pointer (some ⟨nb ρ1 0, 0, none⟩))), (5, (.int .i64 0)), (6, (.int .i64 0)), (7, (.pointer (some ⟨nb ρ2 0, 0, none⟩))), (15, (.bool true))] w0 [(nb ρ1 0, (.cells (hB 0) 32 (0, 0))), (nb ρ2 0, (.cells (hB 0) 32 (0, 0)))] F
    (fun _ => [(0, (.slice a (B).length c)), (1, (.int .i64 z)), (4, (.pointer (some ⟨nb ρ1 0, 0, none⟩))), (5, (.int .i64 0)), (6, (.int .i64 5)), (7, (.pointer (some ⟨nb ρ2 0, 0, none⟩)))])
    (fun _ => [(nb ρ1 0, (.cells (hB 0) 32 (0, 0))), (nb ρ2 0, (.cells (hB 0) 32 (0, 0)))]) := by
  refine reg_seq [0, 1, 3, 7] [0, 1, 4, 5, 6, 7] 4
    (fun _ ι => ([(.agg (hB 0)), undef, (.int .i64 0), (.int .i64 5)] : List Value).getD ι undef)
    (fun _ ι => ([{}, { puts := [(0, (.cells (hB 0) 32 (0, 0)))] }, {}, {}] : List Eff).getD ι {})
    (by as_aux_lemma => kernel_rfl) (by as_aux_lemma => kernel_rfl) (fun _ => by as_aux_lemma => kernel_rfl) (fun _ => by as_aux_lemma => kernel_rfl) ⟨⟨⟨⟨trivial, ?_⟩, ?_⟩, ?_⟩, ?_⟩
  · exact o_run 0 [1] [] (fun _ _ => [nb ρ2 0, nb ρ2 0, nb ρ2 0, nb ρ2 0, nb ρ2 0, nb ρ2 0, nb ρ2 0, nb ρ2 0, nb ρ2 0, nb ρ2 0, nb ρ2 0, nb ρ2 0, nb ρ2 0, nb ρ2 0, nb ρ2 0, nb ρ2 0, nb ρ2 0, nb ρ2 0, nb ρ2 0, nb ρ2 0, nb ρ2 0, nb ρ2 0, nb ρ2 0, nb ρ2 0, nb ρ2 0, nb ρ2 0, nb ρ2 0, nb ρ2 0, nb ρ2 0, nb ρ2 0, nb ρ2 0, nb ρ2 0]) (fun _ _ => by as_aux_lemma => kernel_rfl)
  · exact o_run 1 [0] [] (fun _ _ => [nb ρ1 0, nb ρ1 0, nb ρ1 0, nb ρ1 0, nb ρ1 0, nb ρ1 0, nb ρ1 0, nb ρ1 0, nb ρ1 0, nb ρ1 0, nb ρ1 0, nb ρ1 0, nb ρ1 0, nb ρ1 0, nb ρ1 0, nb ρ1 0, nb ρ1 0, nb ρ1 0, nb ρ1 0, nb ρ1 0, nb ρ1 0, nb ρ1 0, nb ρ1 0, nb ρ1 0, nb ρ1 0, nb ρ1 0, nb ρ1 0, nb ρ1 0, nb ρ1 0, nb ρ1 0, nb ρ1 0, nb ρ1 0]) (fun _ _ => by as_aux_lemma => kernel_rfl)
  · exact o_run 2 [] [] (fun _ _ => []) (fun _ _ => by as_aux_lemma => kernel_rfl)
  · exact o_run 3 [] [] (fun _ _ => []) (fun _ _ => by as_aux_lemma => kernel_rfl)
theorem rhash_any_r7 (a : Option Addr) (c : Nat) (B : List UInt8) (z : Int) (hz : -9223372036854775808 ≤ z ∧ z < 9223372036854775808) (hBl : B.length ≤ 140737488351232) (hb1 : (decide (z < 0)) = false) (hb2 : (decide ((((B).length : Nat) : Int) < z)) = false) (ρ1 : Nat → Orc) (ρ2 : Nat → Orc) (w0 : World) (F : World → Prop) : Reg Try.prog 4 (regOps Try.f39 4) false 31 [(0, (.slice a (B).length c)), (1, (.int .i64 z)), (4, (.pointer (some ⟨nb ρ1 0, 0, none⟩))), (5, (.int .i64 0)), (6, (.int .i64 0)), (7, (.pointer (some ⟨nb ρ2 0, 0, none⟩))), (15, (.bool false))] w0 [(nb ρ1 0, (.cells (hB 0) 32 (0, 0))), (nb ρ2 0, (.cells (hB 0) 32 (0, 0)))] F
    (fun _ => [(0, (.slice a (B).length c)), (1, (.int .i64 z)), (4, (.pointer (some ⟨nb ρ1 0, 0, none⟩))), (5, (.int .i64 0)), (6, (.int .i64 0)), (7, (.pointer (some ⟨nb ρ2 0, 0, none⟩))), (21, (.bool (decide (((((B).length : Nat) : Int) - z) < 32))))])
    (fun _ => [(nb ρ1 0, (.cells (hB 0) 32 (0, 0))), (nb ρ2 0, (.cells (hB 0) 32 (0, 0)))]) := by
  refine reg_seq [0, 1, 3, 7, 15] [0, 1, 4, 5, 6, 7, 21] 5
    (fun _ ι => ([(.slice a (B).length c), (.int .i64 (((B).length : Nat) : Int)), (.int .i64 z), (.int .i64 ((((B).length : Nat) : Int) - z)), (.bool (decide (((((B).length : Nat) : Int) - z) < 32)))] : List Value).getD ι undef)
    (fun _ ι => ([{}, {}, {}, {}, {}] : List Eff).getD ι {})
    (by as_aux_lemma => kernel_rfl) (by as_aux_lemma => kernel_rfl) (fun _ => by as_aux_lemma => kernel_rfl) (fun _ => by as_aux_lemma => kernel_rfl) ⟨⟨⟨⟨⟨trivial, ?_⟩, ?_⟩, ?_⟩, ?_⟩, ?_⟩
  · exact o_run 0 [] [] (fun _ _ => []) (fun _ _ => by as_aux_lemma => kernel_rfl)
  · exact o_run 1 [] [] (fun _ _ => []) (fun _ _ => by as_aux_lemma => kernel_rfl)
  · exact o_run 2 [] [] (fun _ _ => []) (fun _ _ => by as_aux_lemma => kernel_rfl)
  · exact o_as 3 (fun _ => (.int .i64 (IntKind.i64.wrap ((((B).length : Nat) : Int) - z)))) (fun _ => (.int .i64 ((((B).length : Nat) : Int) - z))) (fun _ _ => by as_aux_lemma => kernel_rfl) (fun _ => congrArg (Value.int .i64) (i64N (by have := of_decide_eq_false hb1; have := of_decide_eq_false hb2; have := hz; have := hBl; omega)))
  · exact o_run 4 [] [] (fun _ _ => []) (fun _ _ => by as_aux_lemma => kernel_rfl)
theorem rhash_any_r8 (a : Option Addr) (c : Nat) (B : List UInt8) (z : Int) (ρ1 : Nat → Orc) (ρ2 : Nat → Orc) (w0 : World) (F : World → Prop) : Reg Try.prog 5 (regOps Try.f39 5) false 31 [(0, (.slice a (B).length c)), (1, (.int .i64 z)), (4, (.pointer (some ⟨nb ρ1 0, 0, none⟩))), (5, (.int .i64 0)), (6, (.int .i64 0)), (7, (.pointer (some ⟨nb ρ2 0, 0, none⟩))), (21, (.bool true))] w0 [(nb ρ1 0, (.cells (hB 0) 32 (0, 0))), (nb ρ2 0, (.cells (hB 0) 32 (0, 0)))] F
    (fun _ => [(0, (.slice a (B).length c)), (1, (.int .i64 z)), (4, (.pointer (some ⟨nb ρ1 0, 0, none⟩))), (5, (.int .i64 0)), (6, (.int .i64 1)), (7, (.pointer (some ⟨nb ρ2 0, 0, none⟩)))])
    (fun _ => [(nb ρ1 0, (.cells (hB 0) 32 (0, 0))), (nb ρ2 0, (.cells (hB 0) 32 (0, 0)))]) := by
  refine reg_seq [0, 1, 3, 7] [0, 1, 4, 5, 6, 7] 4
    (fun _ ι => ([(.agg (hB 0)), undef, (.int .i64 0), (.int .i64 1)] : List Value).getD ι undef)
    (fun _ ι => ([{}, { puts := [(0, (.cells (hB 0) 32 (0, 0)))] }, {}, {}] : List Eff).getD ι {})
    (by as_aux_lemma => kernel_rfl) (by as_aux_lemma => kernel_rfl) (fun _ => by as_aux_lemma => kernel_rfl) (fun _ => by as_aux_lemma => kernel_rfl) ⟨⟨⟨⟨trivial, ?_⟩, ?_⟩, ?_⟩, ?_⟩
  · exact o_run 0 [1] [] (fun _ _ => [nb ρ2 0, nb ρ2 0, nb ρ2 0, nb ρ2 0, nb ρ2 0, nb ρ2 0, nb ρ2 0, nb ρ2 0, nb ρ2 0, nb ρ2 0, nb ρ2 0, nb ρ2 0, nb ρ2 0, nb ρ2 0, nb ρ2 0, nb ρ2 0, nb ρ2 0, nb ρ2 0, nb ρ2 0, nb ρ2 0, nb ρ2 0, nb ρ2 0, nb ρ2 0, nb ρ2 0, nb ρ2 0, nb ρ2 0, nb ρ2 0, nb ρ2 0, nb ρ2 0, nb ρ2 0, nb ρ2 0, nb ρ2 0]) (fun _ _ => by as_aux_lemma => kernel_rfl)
  · exact o_run 1 [0] [] (fun _ _ => [nb ρ1 0, nb ρ1 0, nb ρ1 0, nb ρ1 0, nb ρ1 0, nb ρ1 0, nb ρ1 0, nb ρ1 0, nb ρ1 0, nb ρ1 0, nb ρ1 0, nb ρ1 0, nb ρ1 0, nb ρ1 0, nb ρ1 0, nb ρ1 0, nb ρ1 0, nb ρ1 0, nb ρ1 0, nb ρ1 0, nb ρ1 0, nb ρ1 0, nb ρ1 0, nb ρ1 0, nb ρ1 0, nb ρ1 0, nb ρ1 0, nb ρ1 0, nb ρ1 0, nb ρ1 0, nb ρ1 0, nb ρ1 0]) (fun _ _ => by as_aux_lemma => kernel_rfl)
  · exact o_run 2 [] [] (fun _ _ => []) (fun _ _ => by as_aux_lemma => kernel_rfl)
  · exact o_run 3 [] [] (fun _ _ => []) (fun _ _ => by as_aux_lemma => kernel_rfl)
theorem rhash_any_r9 (a : Option Addr) (c : Nat) (B : List UInt8) (z : Int) (hz : -9223372036854775808 ≤ z ∧ z < 9223372036854775808) (hBl : B.length ≤ 140737488351232) (hb1 : (decide (z < 0)) = false) (hb2 : (decide ((((B).length : Nat) : Int) < z)) = false) (hb3 : (decide (((((B).length : Nat) : Int) - z) < 32)) = false) (ρ1 : Nat → Orc) (ρ2 : Nat → Orc) (w0 : World) : RegF Try.prog 6 (regOps Try.f39 6) true 31 [(0, (.slice a (B).length c)), (1, (.int .i64 z)), (4, (.pointer (some ⟨nb ρ1 0, 0, none⟩))), (5, (.int .i64 0)), (6, (.int .i64 0)), (7, (.pointer (some ⟨nb ρ2 0, 0, none⟩))), (21, (.bool false))] w0 [(nb ρ1 0, (.cells (hB 0) 32 (0, 0))), (nb ρ2 0, (.cells (hB 0) 32 (0, 0)))] (fun w => Bs w a c B ∧ True)
    (fun _ => [(1, (.int .i64 z)), (4, (.pointer (some ⟨nb ρ1 0, 0, none⟩))), (5, (.int .i64 0)), (6, (.int .i64 0)), (7, (.pointer (some ⟨nb ρ2 0, 0, none⟩)))])
    (fun _ => [(nb ρ1 0, (.cells (hB 0) 32 (0, 0))), (nb ρ2 0, (.cells (hB (nB ((mid B z.toNat B.length).take 32))) 32 (0, 0)))]) (fun _ => (fun w => Bs w a c B ∧ Bs w (sadr a z.toNat c) (c - z.toNat) (mid B z.toNat B.length) ∧ True)) := by
  refine reg_drawn_f [0, 0, 0, 6, 15] [1, 4, 5, 6, 7] 5
    (fun _ ι => ([(.slice (some ⟨nb ρ2 0, 0, none⟩) (hL 0).length 32), (.slice a (B).length c), (.int .i64 z), (.slice (sadr a z.toNat c) (mid B z.toNat B.length).length (c - z.toNat)), (.int .i64 ((Nat.min (mid B z.toNat B.length).length 32 : Nat) : Int))] : List Value).getD ι undef)
    (fun _ ι => ([{}, {}, {}, {}, { puts := [(1, (.cells (hB (nB ((mid B z.toNat B.length).take 32))) 32 (0, 0)))] }] : List Eff).getD ι {})
    (fun _ ι => ([(fun _ => True), (fun _ => True), (fun _ => True), (fun w => Bs w (sadr a z.toNat c) (c - z.toNat) (mid B z.toNat B.length)), (fun _ => True)] : List (World → Prop)).getD ι (fun _ => True))
    (by as_aux_lemma => kernel_rfl) (by as_aux_lemma => kernel_rfl) (by as_aux_lemma => kernel_rfl) (fun _ => by as_aux_lemma => kernel_rfl) (fun _ => by as_aux_lemma => kernel_rfl) (fun _ _ hF hf => ⟨hF.1, hf 3 (by omega), trivial⟩) ⟨⟨⟨⟨⟨trivial, ?_⟩, ?_⟩, ?_⟩, ?_⟩, ?_⟩
  · exact Obl.brings (o_run 0 [] [] (fun _ _ => []) (fun _ _ => by as_aux_lemma => kernel_rfl)) (fun _ _ => trivial)
  · exact Obl.brings (o_run 1 [] [] (fun _ _ => []) (fun _ _ => by as_aux_lemma => kernel_rfl)) (fun _ _ => trivial)
  · exact Obl.brings (o_run 2 [] [] (fun _ _ => []) (fun _ _ => by as_aux_lemma => kernel_rfl)) (fun _ _ => trivial)
  · exact o_semF 3 (fun _ => do pure (Next.value (← Instr.sliceAt 22 (.slice a (B).length c) (some (.int .i64 z)) none none))) (fun _ => (.slice (sadr a z.toNat c) (mid B z.toNat B.length).length (c - z.toNat))) (fun _ => (by as_aux_lemma => kernel_rfl)) (fun _ => (by as_aux_lemma => kernel_rfl)) (fun _ _ _ hG => slice_bytes (l := z.toNat) (k := B.length) Try.underlying22 u8i hG.facts0.now.1 rfl (Or.inr (congrArg (fun z => some (Value.int .i64 z)) ((by have := of_decide_eq_false hb1; have := of_decide_eq_false hb2; have := of_decide_eq_false hb3; have := hz; have := hBl; omega)))) (Or.inl ⟨rfl, rfl⟩) ((by have := of_decide_eq_false hb1; have := of_decide_eq_false hb2; have := of_decide_eq_false hb3; have := hz; have := hBl; omega)) ((Nat.le_refl _))) (fun _ _ w hG => (hG.facts0).mono (fun _ hF => (hF).1.mid ((by have := of_decide_eq_false hb1; have := of_decide_eq_false hb2; have := of_decide_eq_false hb3; have := hz; have := hBl; omega)) ((Nat.le_refl _))))
  · exact o_put1 4 1 (fun _ => do pure (Next.value (← Builtin.copy_ #[22, 22] 3 #[(.slice (some ⟨nb ρ2 0, 0, none⟩) 32 32), (.slice (sadr a z.toNat c) (mid B z.toNat B.length).length (c - z.toNat))]))) (fun _ => nb ρ2 0) (fun _ => (.cells (hB 0) 32 (0, 0))) (fun _ => (.cells (hB (nB ((mid B z.toNat B.length).take 32))) 32 (0, 0))) (fun _ => (.int .i64 ((Nat.min (mid B z.toNat B.length).length 32 : Nat) : Int))) (fun _ => (by as_aux_lemma => kernel_rfl)) (fun _ => (by as_aux_lemma => kernel_rfl)) (fun _ => (by as_aux_lemma => kernel_rfl)) (fun _ => (by as_aux_lemma => kernel_rfl)) (fun _ _ => trivial) (fun _ _ w hG hg => (by as_aux_lemma => (rw [← copy_hash ((by rw [mid_length _ _ _ (Nat.le_refl _)]; have := of_decide_eq_false hb1; have := of_decide_eq_false hb2; have := of_decide_eq_false hb3; have := hz; have := hBl; omega))]; exact copy_row Try.underlying22 u8i hg (show Bs w (sadr a z.toNat c) (c - z.toNat) (mid B z.toNat B.length) from (hG.facts 3 rfl).now) rfl (by rw [hB_size]; exact Nat.le_refl _))))
theorem rhash_any_r10 (B : List UInt8) (z : Int) (hz : -9223372036854775808 ≤ z ∧ z < 9223372036854775808) (hBl : B.length ≤ 140737488351232) (hb1 : (decide (z < 0)) = false) (hb2 : (decide ((((B).length : Nat) : Int) < z)) = false) (hb3 : (decide (((((B).length : Nat) : Int) - z) < 32)) = false) (ρ1 : Nat → Orc) (ρ2 : Nat → Orc) (w0 : World) (F : World → Prop) : Reg Try.prog 7 (regOps Try.f39 7) false 31 [(1, (.int .i64 z)), (4, (.pointer (some ⟨nb ρ1 0, 0, none⟩))), (5, (.int .i64 0)), (6, (.int .i64 0)), (7, (.pointer (some ⟨nb ρ2 0, 0, none⟩)))] w0 [(nb ρ1 0, (.cells (hB 0) 32 (0, 0))), (nb ρ2 0, (.cells (hB (nB ((mid B z.toNat B.length).take 32))) 32 (0, 0)))] F
    (fun _ => [(4, (.pointer (some ⟨nb ρ1 0, 0, none⟩))), (5, (.int .i64 (z + 32))), (6, (.int .i64 0))])
    (fun _ => [(nb ρ1 0, (.cells (hB (nB ((mid B z.toNat B.length).take 32))) 32 (0, 0))), (nb ρ2 0, (.cells (hB (nB ((mid B z.toNat B.length).take 32))) 32 (0, 0)))]) := by
  refine reg_seq [0, 1, 3, 7, 15, 31] [4, 5, 6] 6
    (fun _ ι => ([(.agg (hB (nB ((mid B z.toNat B.length).take 32)))), (.int .i64 z), (.int .i64 (z + 32)), undef, (.int .i64 (z + 32)), (.int .i64 0)] : List Value).getD ι undef)
    (fun _ ι => ([{}, {}, {}, { puts := [(0, (.cells (hB (nB ((mid B z.toNat B.length).take 32))) 32 (0, 0)))] }, {}, {}] : List Eff).getD ι {})
    (by as_aux_lemma => kernel_rfl) (by as_aux_lemma => kernel_rfl) (fun _ => by as_aux_lemma => kernel_rfl) (fun _ => by as_aux_lemma => kernel_rfl) ⟨⟨⟨⟨⟨⟨trivial, ?_⟩, ?_⟩, ?_⟩, ?_⟩, ?_⟩, ?_⟩
  · exact o_run 0 [1] [] (fun _ _ => [nb ρ2 0, nb ρ2 0, nb ρ2 0, nb ρ2 0, nb ρ2 0, nb ρ2 0, nb ρ2 0, nb ρ2 0, nb ρ2 0, nb ρ2 0, nb ρ2 0, nb ρ2 0, nb ρ2 0, nb ρ2 0, nb ρ2 0, nb ρ2 0, nb ρ2 0, nb ρ2 0, nb ρ2 0, nb ρ2 0, nb ρ2 0, nb ρ2 0, nb ρ2 0, nb ρ2 0, nb ρ2 0, nb ρ2 0, nb ρ2 0, nb ρ2 0, nb ρ2 0, nb ρ2 0, nb ρ2 0, nb ρ2 0]) (fun _ _ => by as_aux_lemma => kernel_rfl)
  · exact o_run 1 [] [] (fun _ _ => []) (fun _ _ => by as_aux_lemma => kernel_rfl)
  · exact o_as 2 (fun _ => (.int .i64 (IntKind.i64.wrap (z + 32)))) (fun _ => (.int .i64 (z + 32))) (fun _ _ => by as_aux_lemma => kernel_rfl) (fun _ => congrArg (Value.int .i64) (i64N (by have := of_decide_eq_false hb1; have := of_decide_eq_false hb2; have := of_decide_eq_false hb3; have := hz; have := hBl; omega)))
  · exact o_run 3 [0] [] (fun _ _ => [nb ρ1 0, nb ρ1 0, nb ρ1 0, nb ρ1 0, nb ρ1 0, nb ρ1 0, nb ρ1 0, nb ρ1 0, nb ρ1 0, nb ρ1 0, nb ρ1 0, nb ρ1 0, nb ρ1 0, nb ρ1 0, nb ρ1 0, nb ρ1 0, nb ρ1 0, nb ρ1 0, nb ρ1 0, nb ρ1 0, nb ρ1 0, nb ρ1 0, nb ρ1 0, nb ρ1 0, nb ρ1 0, nb ρ1 0, nb ρ1 0, nb ρ1 0, nb ρ1 0, nb ρ1 0, nb ρ1 0, nb ρ1 0]) (fun _ _ => by as_aux_lemma => kernel_rfl)
  · exact o_run 4 [] [] (fun _ _ => []) (fun _ _ => by as_aux_lemma => kernel_rfl)
  · exact o_run 5 [] [] (fun _ _ => []) (fun _ _ => by as_aux_lemma => kernel_rfl)
theorem rhash_any (a : Option Addr) (c : Nat) (B : List UInt8) (z : Int) (hz : -9223372036854775808 ≤ z ∧ z < 9223372036854775808) (hBl : B.length ≤ 140737488351232) (w0 : World) (hf0 : Bs w0 a c B) : Calls Try.prog 39 #[(.slice a (B).length c), (.int .i64 z)] w0 (fun ε w' => ε = .returned (.tuple #[(.agg (hB (hsV B z))), (.int .i64 (rdN B.length z 32)), (.int .i64 (rdE B.length z 32))]) ∧ Below w0.heap.size w0 w') := by
  refine Calls.of_ok (n := 31) (F := (fun w => Bs w a c B ∧ True)) Try.func39 rfl rfl rfl (by simp) (hf0.pers0.and persT) ?_
  refine ok_seq_r (by as_aux_lemma => kernel_rfl) (rhash_any_r1 a c B z _ _) (fun ρ1 => ?_)
  refine ok_seq_r (by as_aux_lemma => kernel_rfl) (rhash_any_r2 a c B z ρ1 _ _) (fun ρ2 => ?_)
  refine ok_seq ?_
  rcases Bool.eq_false_or_eq_true (decide (z < 0)) with hb1 | hb1
  ·
    refine ok_seq_r (by as_aux_lemma => kernel_rfl) (rhash_any_r3 a c B z hb1 ρ1 ρ2 _ _) (fun _ => ?_)
    refine ok_yes (by as_aux_lemma => kernel_rfl) ?_
    refine ok_seq_r (by as_aux_lemma => kernel_rfl) (rhash_any_r4 a c B z ρ1 ρ2 _ _) (fun _ => ?_)
    refine ok_ret ?_
    refine mt_then_r ?_
    exact meets_ret (v := (.tuple #[(.agg (hB 0)), (.int .i64 0), (.int .i64 5)])) [0, 0, 0, 0, 0, 0, 0, 0, 0, 0, 0, 0, 0, 0, 0, 0, 0, 0, 0, 0, 0, 0, 0, 0, 0, 0, 0, 0, 0, 0, 0, 0] (dup [nb ρ1 0, nb ρ1 0, nb ρ1 0, nb ρ1 0, nb ρ1 0, nb ρ1 0, nb ρ1 0, nb ρ1 0, nb ρ1 0, nb ρ1 0, nb ρ1 0, nb ρ1 0, nb ρ1 0, nb ρ1 0, nb ρ1 0, nb ρ1 0, nb ρ1 0, nb ρ1 0, nb ρ1 0, nb ρ1 0, nb ρ1 0, nb ρ1 0, nb ρ1 0, nb ρ1 0, nb ρ1 0, nb ρ1 0, nb ρ1 0, nb ρ1 0, nb ρ1 0, nb ρ1 0, nb ρ1 0, nb ρ1 0]) (by as_aux_lemma => kernel_rfl) (by as_aux_lemma => kernel_rfl) (eqs_dup _) (fun _ hS => ⟨congrArg Ending.returned (hs_err (rdE5 (by have := of_decide_eq_true hb1; have := hz; have := hBl; omega)) (by decide)), hS.below⟩)
  ·
    refine ok_seq_r (by as_aux_lemma => kernel_rfl) (rhash_any_r5 a c B z hb1 ρ1 ρ2 _ _) (fun _ => ?_)
    refine ok_cond (b := decide ((((B).length : Nat) : Int) < z)) (by as_aux_lemma => kernel_rfl) (fun hb2 => ?_) (fun hb2 => ?_)
    ·
      rw [hb2]
      refine ok_seq_r (by as_aux_lemma => kernel_rfl) (rhash_any_r6 a c B z ρ1 ρ2 _ _) (fun _ => ?_)
      refine ok_ret ?_
      refine mt_then_r ?_
      exact meets_ret (v := (.tuple #[(.agg (hB 0)), (.int .i64 0), (.int .i64 5)])) [0, 0, 0, 0, 0, 0, 0, 0, 0, 0, 0, 0, 0, 0, 0, 0, 0, 0, 0, 0, 0, 0, 0, 0, 0, 0, 0, 0, 0, 0, 0, 0] (dup [nb ρ1 0, nb ρ1 0, nb ρ1 0, nb ρ1 0, nb ρ1 0, nb ρ1 0, nb ρ1 0, nb ρ1 0, nb ρ1 0, nb ρ1 0, nb ρ1 0, nb ρ1 0, nb ρ1 0, nb ρ1 0, nb ρ1 0, nb ρ1 0, nb ρ1 0, nb ρ1 0, nb ρ1 0, nb ρ1 0, nb ρ1 0, nb ρ1 0, nb ρ1 0, nb ρ1 0, nb ρ1 0, nb ρ1 0, nb ρ1 0, nb ρ1 0, nb ρ1 0, nb ρ1 0, nb ρ1 0, nb ρ1 0]) (by as_aux_lemma => kernel_rfl) (by as_aux_lemma => kernel_rfl) (eqs_dup _) (fun _ hS => ⟨congrArg Ending.returned (hs_err (rdE5 (by have := of_decide_eq_false hb1; have := of_decide_eq_true hb2; have := hz; have := hBl; omega)) (by decide)), hS.below⟩)
    ·
      rw [hb2]
      refine ok_skip ?_
      refine mt_then ?_
      refine ok_seq ?_
      refine ok_seq_r (by as_aux_lemma => kernel_rfl) (rhash_any_r7 a c B z hz hBl hb1 hb2 ρ1 ρ2 _ _) (fun _ => ?_)
      refine ok_cond (b := decide (((((B).length : Nat) : Int) - z) < 32)) (by as_aux_lemma => kernel_rfl) (fun hb3 => ?_) (fun hb3 => ?_)
      ·
        rw [hb3]
        refine ok_seq_r (by as_aux_lemma => kernel_rfl) (rhash_any_r8 a c B z ρ1 ρ2 _ _) (fun _ => ?_)
        refine ok_ret ?_
        refine mt_then_r ?_
        exact meets_ret (v := (.tuple #[(.agg (hB 0)), (.int .i64 0), (.int .i64 1)])) [0, 0, 0, 0, 0, 0, 0, 0, 0, 0, 0, 0, 0, 0, 0, 0, 0, 0, 0, 0, 0, 0, 0, 0, 0, 0, 0, 0, 0, 0, 0, 0] (dup [nb ρ1 0, nb ρ1 0, nb ρ1 0, nb ρ1 0, nb ρ1 0, nb ρ1 0, nb ρ1 0, nb ρ1 0, nb ρ1 0, nb ρ1 0, nb ρ1 0, nb ρ1 0, nb ρ1 0, nb ρ1 0, nb ρ1 0, nb ρ1 0, nb ρ1 0, nb ρ1 0, nb ρ1 0, nb ρ1 0, nb ρ1 0, nb ρ1 0, nb ρ1 0, nb ρ1 0, nb ρ1 0, nb ρ1 0, nb ρ1 0, nb ρ1 0, nb ρ1 0, nb ρ1 0, nb ρ1 0, nb ρ1 0]) (by as_aux_lemma => kernel_rfl) (by as_aux_lemma => kernel_rfl) (eqs_dup _) (fun _ hS => ⟨congrArg Ending.returned (hs_err (rdE1 (by have := of_decide_eq_false hb1; have := of_decide_eq_false hb2; have := of_decide_eq_true hb3; have := hz; have := hBl; omega) (by have := of_decide_eq_false hb1; have := of_decide_eq_false hb2; have := of_decide_eq_true hb3; have := hz; have := hBl; omega)) (by decide)), hS.below⟩)
      ·
        rw [hb3]
        refine ok_skip ?_
        refine mt_then ?_
        refine ok_seq_rf (by as_aux_lemma => kernel_rfl) (rhash_any_r9 a c B z hz hBl hb1 hb2 hb3 ρ1 ρ2 _) (fun _ => ?_)
        refine ok_seq_r (by as_aux_lemma => kernel_rfl) (rhash_any_r10 B z hz hBl hb1 hb2 hb3 ρ1 ρ2 _ _) (fun _ => ?_)
        refine ok_ret ?_
        exact meets_ret (v := (.tuple #[(.agg (hB (nB ((mid B z.toNat B.length).take 32)))), (.int .i64 (z + 32)), (.int .i64 0)])) [0, 0, 0, 0, 0, 0, 0, 0, 0, 0, 0, 0, 0, 0, 0, 0, 0, 0, 0, 0, 0, 0, 0, 0, 0, 0, 0, 0, 0, 0, 0, 0] (dup [nb ρ1 0, nb ρ1 0, nb ρ1 0, nb ρ1 0, nb ρ1 0, nb ρ1 0, nb ρ1 0, nb ρ1 0, nb ρ1 0, nb ρ1 0, nb ρ1 0, nb ρ1 0, nb ρ1 0, nb ρ1 0, nb ρ1 0, nb ρ1 0, nb ρ1 0, nb ρ1 0, nb ρ1 0, nb ρ1 0, nb ρ1 0, nb ρ1 0, nb ρ1 0, nb ρ1 0, nb ρ1 0, nb ρ1 0, nb ρ1 0, nb ρ1 0, nb ρ1 0, nb ρ1 0, nb ρ1 0, nb ρ1 0]) (by as_aux_lemma => kernel_rfl) (by as_aux_lemma => kernel_rfl) (eqs_dup _) (fun _ hS => ⟨congrArg Ending.returned (hs_ok (rdE0 (by have := of_decide_eq_false hb1; have := of_decide_eq_false hb2; have := of_decide_eq_false hb3; have := hz; have := hBl; omega) (by have := of_decide_eq_false hb1; have := of_decide_eq_false hb2; have := of_decide_eq_false hb3; have := hz; have := hBl; omega))), hS.below⟩)
theorem same_any_r1 (a : Option Addr) (c : Nat) (B : List UInt8) (a2 : Option Addr) (c2 : Nat) (S : List UInt8) (w0 : World) (F : World → Prop) : Reg Try.prog 0 (regOps Try.f16 0) false 10 [(0, (.slice a (B).length c)), (1, (.slice a2 (S).length c2))] w0 [] F
    (fun _ => [(0, (.slice a (B).length c)), (1, (.slice a2 (S).length c2)), (4, (.bool false))])
    (fun _ => []) := by
  refine reg_seq [0] [0, 1, 4] 1
    (fun _ ι => ([(.bool false)] : List Value).getD ι undef)
    (fun _ ι => ([{}] : List Eff).getD ι {})
    (by as_aux_lemma => kernel_rfl) (by as_aux_lemma => kernel_rfl) (fun _ => by as_aux_lemma => kernel_rfl) (fun _ => by as_aux_lemma => kernel_rfl) ⟨trivial, ?_⟩
  · exact o_run 0 [] [] (fun _ _ => []) (fun _ _ => by as_aux_lemma => kernel_rfl)
theorem same_any_r2 (a : Option Addr) (c : Nat) (B : List UInt8) (a2 : Option Addr) (c2 : Nat) (S : List UInt8) (w0 : World) : RegF Try.prog 1 (regOps Try.f16 1) false 10 [(0, (.slice a (B).length c)), (1, (.slice a2 (S).length c2)), (4, (.bool false))] w0 [] (fun w => Bs w a c B ∧ Bs w a2 c2 S ∧ True)
    (fun _ => [(4, (.bool (decide (B = S))))])
    (fun _ => []) (fun _ => (fun w => Bs w a c B ∧ Bs w a2 c2 S ∧ True)) := by
  refine reg_seq_f [0, 1, 3, 7, 15, 31] [4] 6
    (fun _ ι => ([(.slice a (B).length c), (.string (strB B)), (.slice a2 (S).length c2), (.string (strB S)), (.bool (decide (B = S))), (.bool (decide (B = S)))] : List Value).getD ι undef)
    (fun _ ι => ([{}, {}, {}, {}, {}, {}] : List Eff).getD ι {})
    (fun _ ι => ([(fun _ => True), (fun _ => True), (fun _ => True), (fun _ => True), (fun _ => True), (fun _ => True)] : List (World → Prop)).getD ι (fun _ => True))
    (by as_aux_lemma => kernel_rfl) (by as_aux_lemma => kernel_rfl) (fun _ => by as_aux_lemma => kernel_rfl) (fun _ => by as_aux_lemma => kernel_rfl) (fun _ _ hF _ => ⟨hF.1, hF.2.1, trivial⟩) ⟨⟨⟨⟨⟨⟨trivial, ?_⟩, ?_⟩, ?_⟩, ?_⟩, ?_⟩, ?_⟩
  · exact Obl.brings (o_run 0 [] [] (fun _ _ => []) (fun _ _ => by as_aux_lemma => kernel_rfl)) (fun _ _ => trivial)
  · exact o_semF 1 (fun _ => do pure (Next.value (← convert 22 9 (.slice a (B).length c)))) (fun _ => (.string (strB B))) (fun _ => (by as_aux_lemma => kernel_rfl)) (fun _ => (by as_aux_lemma => kernel_rfl)) (fun _ _ _ hG => str_bytes (xs := B) Try.underlying22 Try.underlying5 Try.underlying9 hG.facts0.now.1 rfl) (fun _ _ _ _ => persT)
  · exact Obl.brings (o_run 2 [] [] (fun _ _ => []) (fun _ _ => by as_aux_lemma => kernel_rfl)) (fun _ _ => trivial)
  · exact o_semF 3 (fun _ => do pure (Next.value (← convert 22 9 (.slice a2 (S).length c2)))) (fun _ => (.string (strB S))) (fun _ => (by as_aux_lemma => kernel_rfl)) (fun _ => (by as_aux_lemma => kernel_rfl)) (fun _ _ _ hG => str_bytes (xs := S) Try.underlying22 Try.underlying5 Try.underlying9 hG.facts0.now.2.1 rfl) (fun _ _ _ _ => persT)
  · exact Obl.brings (o_bin 4 .eql 9 (fun _ => (.string (strB B))) (fun _ => (.string (strB S))) (fun _ => (.bool (decide (B = S)))) (fun _ => by as_aux_lemma => kernel_rfl) (fun _ _ _ _ => by as_aux_lemma => kernel_rfl) (fun _ w => eql_str B S w)) (fun _ _ => trivial)
  · exact Obl.brings (o_run 5 [] [] (fun _ _ => []) (fun _ _ => by as_aux_lemma => kernel_rfl)) (fun _ _ => trivial)
theorem same_any (a : Option Addr) (c : Nat) (B : List UInt8) (a2 : Option Addr) (c2 : Nat) (S : List UInt8) (w0 : World) (hf0 : Bs w0 a c B) (hf1 : Bs w0 a2 c2 S) : Calls Try.prog 16 #[(.slice a (B).length c), (.slice a2 (S).length c2)] w0 (fun ε w' => ε = .returned (.bool (decide (B = S))) ∧ Below w0.heap.size w0 w') := by
  refine Calls.of_ok (n := 10) (F := (fun w => Bs w a c B ∧ Bs w a2 c2 S ∧ True)) Try.func16 rfl rfl rfl (by simp) (hf0.pers0.and (hf1.pers0.and persT)) ?_
  refine ok_seq_r (by as_aux_lemma => kernel_rfl) (same_any_r1 a c B a2 c2 S _ _) (fun _ => ?_)
  refine ok_seq_rf (by as_aux_lemma => kernel_rfl) (same_any_r2 a c B a2 c2 S _) (fun _ => ?_)
  refine ok_ret ?_
  exact meets_ret (v := (.bool (decide (B = S)))) [] (dup []) (by as_aux_lemma => kernel_rfl) (by as_aux_lemma => kernel_rfl) (eqs_dup _) (fun _ hS => ⟨rfl, hS.below⟩)
theorem same_eq (a : Option Addr) (c : Nat) (B : List UInt8) (a2 : Option Addr) (c2 : Nat) (w0 : World) (h1 : Bs w0 a c B) (h2 : Bs w0 a2 c2 B) : Calls Try.prog 16 #[.slice a B.length c, .slice a2 B.length c2] w0 (fun ε w' => ε = .returned (.bool true) ∧ Below w0.heap.size w0 w') := (same_any a c B a2 c2 B w0 h1 h2).mono fun ε w' ⟨h, hb⟩ => ⟨h.trans (by rw [decide_eq_true rfl]), hb⟩
end Go.Proofs.Ytclccfibfkcagaa
