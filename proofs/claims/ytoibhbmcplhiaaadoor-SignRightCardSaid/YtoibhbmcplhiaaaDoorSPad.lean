/-
  SHA-256: padding, rows: the walks.
-/
import Derived.Test.YtoibhbmcplhiaaaDoorGhost12
namespace Go.Proofs.YtoibhbmcplhiaaaDoor
open Go Go.RowKit
set_option maxRecDepth 100000
theorem pad_any_r1 (n : Nat) (w0 : World) (F : World → Prop) : Reg Tryd.prog 0 (regOps Tryd.f88 0) false 33 [(0, (.int .u64 ((n : Nat) : Int)))] w0 [] F
    (fun _ => [(0, (.int .u64 ((n : Nat) : Int))), (2, (.slice none 0 0))])
    (fun _ => []) := by
  refine reg_seq [0] [0, 2] 1
    (fun _ ι => ([(.slice none 0 0)] : List Value).getD ι undef)
    (fun _ ι => ([{}] : List Eff).getD ι {})
    (by kernel_rfl) (by kernel_rfl) (fun _ => by kernel_rfl) (fun _ => by kernel_rfl) ⟨trivial, ?_⟩
  · exact o_run 0 [] [] (fun _ _ => []) (fun _ _ => by kernel_rfl)
theorem pad_any_r2 (n : Nat) (hn : n ≤ 140737488351232) (w0 : World) (F : World → Prop) : Reg Tryd.prog 1 (regOps Tryd.f88 1) false 33 [(0, (.int .u64 ((n : Nat) : Int))), (2, (.slice none 0 0))] w0 [] F
    (fun _ => [(0, (.int .u64 ((n : Nat) : Int))), (2, (.slice none 0 0)), (3, (.int .u64 ((zeros n : Nat) : Int)))])
    (fun _ => []) := by
  refine reg_seq [0, 1, 3, 7, 15, 31] [0, 2, 3] 6
    (fun _ ι => ([(.int .u64 ((n : Nat) : Int)), (.int .u64 ((n + 9 : Nat) : Int)), (.int .u64 (((n + 9) % 64 : Nat) : Int)), (.int .u64 ((64 - ((n + 9) % 64) : Nat) : Int)), (.int .u64 ((zeros n : Nat) : Int)), (.int .u64 ((zeros n : Nat) : Int))] : List Value).getD ι undef)
    (fun _ ι => ([{}, {}, {}, {}, {}, {}] : List Eff).getD ι {})
    (by kernel_rfl) (by kernel_rfl) (fun _ => by kernel_rfl) (fun _ => by kernel_rfl) ⟨⟨⟨⟨⟨⟨trivial, ?_⟩, ?_⟩, ?_⟩, ?_⟩, ?_⟩, ?_⟩
  · exact o_run 0 [] [] (fun _ _ => []) (fun _ _ => by kernel_rfl)
  · exact o_as 1 (fun _ => (.int .u64 (IntKind.u64.wrap (((n : Nat) : Int) + 9)))) (fun _ => (.int .u64 ((n + 9 : Nat) : Int))) (fun _ _ => by kernel_rfl) (fun _ => congrArg (Value.int .u64) (u64_addN n 9 (by have := hn; have := zeros_lt n; omega)))
  · exact o_bin 2 .rem 22 (fun _ => (.int .u64 ((n + 9 : Nat) : Int))) (fun _ => (.int .u64 64)) (fun _ => (.int .u64 (((n + 9) % 64 : Nat) : Int))) (fun _ => by kernel_rfl) (fun _ _ _ _ => by kernel_rfl) (fun _ w => run_remU (k := .u64) (n := (n + 9)) (d := 64) (by decide) w)
  · exact o_as 3 (fun _ => (.int .u64 (IntKind.u64.wrap (64 - (((n + 9) % 64 : Nat) : Int))))) (fun _ => (.int .u64 ((64 - ((n + 9) % 64) : Nat) : Int))) (fun _ _ => by kernel_rfl) (fun _ => congrArg (Value.int .u64) (u64_subN 64 ((n + 9) % 64) (by have := hn; have := zeros_lt n; omega) (by have := hn; have := zeros_lt n; omega)))
  · exact o_bin 4 .rem 22 (fun _ => (.int .u64 ((64 - ((n + 9) % 64) : Nat) : Int))) (fun _ => (.int .u64 64)) (fun _ => (.int .u64 ((zeros n : Nat) : Int))) (fun _ => by kernel_rfl) (fun _ _ _ _ => by kernel_rfl) (fun _ w => run_remU (k := .u64) (n := 64 - (n + 9) % 64) (d := 64) (by decide) w)
  · exact o_run 5 [] [] (fun _ _ => []) (fun _ _ => by kernel_rfl)
theorem pad_any_r3 (n : Nat) (hn : n ≤ 140737488351232) (w0 : World) : RegF Tryd.prog 2 (regOps Tryd.f88 2) false 33 [(0, (.int .u64 ((n : Nat) : Int))), (2, (.slice none 0 0)), (3, (.int .u64 ((zeros n : Nat) : Int)))] w0 [] (fun _ => True)
    (fun ρ => [(0, (.int .u64 ((n : Nat) : Int))), (2, (.slice none 0 0)), (4, (.slice (some ⟨nb ρ 4, 0, none⟩) (List.replicate (zeros n + 1) (0 : UInt8)).length (9 + (zeros n))))])
    (fun ρ => [(nb ρ 4, (.cells (zB (9 + (zeros n))) 5 (0, 0)))]) (fun _ => (fun _ => True)) := by
  refine reg_seq_f [0, 1, 3, 7, 15, 31] [0, 2, 4] 6
    (fun ρ ι => ([(.int .u64 ((zeros n : Nat) : Int)), (.int .u64 ((zeros n + 1 : Nat) : Int)), (.int .u64 ((zeros n : Nat) : Int)), (.int .u64 ((9 + (zeros n) : Nat) : Int)), (.slice (some ⟨nb ρ 4, 0, none⟩) (List.replicate (zeros n + 1) (0 : UInt8)).length (9 + (zeros n))), (.slice (some ⟨nb ρ 4, 0, none⟩) (List.replicate (zeros n + 1) (0 : UInt8)).length (9 + (zeros n)))] : List Value).getD ι undef)
    (fun ρ ι => ([{}, {}, {}, {}, { news := [(nb ρ 4, (.cells (zB (9 + (zeros n))) 5 (0, 0)))] }, {}] : List Eff).getD ι {})
    (fun _ ι => ([(fun _ => True), (fun _ => True), (fun _ => True), (fun _ => True), (fun _ => True), (fun _ => True)] : List (World → Prop)).getD ι (fun _ => True))
    (by kernel_rfl) (by kernel_rfl) (fun _ => by kernel_rfl) (fun _ => by kernel_rfl) (fun _ _ _ _ => trivial) ⟨⟨⟨⟨⟨⟨trivial, ?_⟩, ?_⟩, ?_⟩, ?_⟩, ?_⟩, ?_⟩
  · exact Obl.brings (o_run 0 [] [] (fun _ _ => []) (fun _ _ => by kernel_rfl)) (fun _ _ => trivial)
  · exact Obl.brings (o_as 1 (fun _ => (.int .u64 (IntKind.u64.wrap (1 + ((zeros n : Nat) : Int))))) (fun _ => (.int .u64 ((zeros n + 1 : Nat) : Int))) (fun _ _ => by kernel_rfl) (fun _ => congrArg (Value.int .u64) ((u64_addN 1 (zeros n) (by have := hn; have := zeros_lt n; omega)).trans (by omega)))) (fun _ _ => trivial)
  · exact Obl.brings (o_run 2 [] [] (fun _ _ => []) (fun _ _ => by kernel_rfl)) (fun _ _ => trivial)
  · exact Obl.brings (o_as 3 (fun _ => (.int .u64 (IntKind.u64.wrap (9 + ((zeros n : Nat) : Int))))) (fun _ => (.int .u64 ((9 + (zeros n) : Nat) : Int))) (fun _ _ => by kernel_rfl) (fun _ => congrArg (Value.int .u64) (u64_addN 9 (zeros n) (by have := hn; have := zeros_lt n; omega)))) (fun _ _ => trivial)
  · exact o_new1 4 (fun _ => do pure (Next.value (← Instr.makeSlice 46 (.int .u64 ((zeros n + 1 : Nat) : Int)) (.int .u64 ((9 + (zeros n) : Nat) : Int))))) (fun _ z => (.slice (some ⟨z.headD 0, 0, none⟩) (List.replicate (zeros n + 1) (0 : UInt8)).length (9 + (zeros n)))) (fun _ _ => (.cells (zB (9 + (zeros n))) 5 (0, 0))) (fun _ _ => (by kernel_rfl)) (fun _ => (by kernel_rfl)) (fun _ _ => trivial) (fun _ _ w _ => make_rowL Tryd.underlying46 u8i (List.replicate (zeros n + 1) (0 : UInt8)) ((rfl).trans (by rw [List.length_replicate])) (rfl) (by have := hn; have := zeros_lt n; rw [List.length_replicate]; omega) (by have := hn; have := zeros_lt n; omega) w)
  · exact Obl.brings (o_run 5 [] [] (fun _ _ => []) (fun _ _ => by kernel_rfl)) (fun _ _ => trivial)
theorem pad_any_r4 (n : Nat) (hn : n ≤ 140737488351232) (ρ3 : Nat → Orc) (w0 : World) (F : World → Prop) : Reg Tryd.prog 3 (regOps Tryd.f88 3) false 33 [(0, (.int .u64 ((n : Nat) : Int))), (2, (.slice none 0 0)), (4, (.slice (some ⟨nb ρ3 4, 0, none⟩) (List.replicate (zeros n + 1) (0 : UInt8)).length (9 + (zeros n))))] w0 [(nb ρ3 4, (.cells (zB (9 + (zeros n))) 5 (0, 0)))] F
    (fun _ => [(0, (.int .u64 ((n : Nat) : Int))), (2, (.slice none 0 0)), (4, (.slice (some ⟨nb ρ3 4, 0, none⟩) (List.replicate (zeros n + 1) (0 : UInt8)).length (9 + (zeros n))))])
    (fun _ => [(nb ρ3 4, (.cells ((zB (9 + zeros n)).setIfInBounds 0 (.int .u8 128)) 5 (0, 0)))]) := by
  refine reg_seq [0, 1, 3] [0, 2, 4] 3
    (fun _ ι => ([(.slice (some ⟨nb ρ3 4, 0, none⟩) (List.replicate (zeros n + 1) (0 : UInt8)).length (9 + (zeros n))), (.pointer (some ⟨nb ρ3 4, 0, none⟩)), undef] : List Value).getD ι undef)
    (fun _ ι => ([{}, {}, { puts := [(0, (.cells ((zB (9 + zeros n)).setIfInBounds 0 (.int .u8 128)) 5 (0, 0)))] }] : List Eff).getD ι {})
    (by kernel_rfl) (by kernel_rfl) (fun _ => by kernel_rfl) (fun _ => by kernel_rfl) ⟨⟨⟨trivial, ?_⟩, ?_⟩, ?_⟩
  · exact o_run 0 [] [] (fun _ _ => []) (fun _ _ => by kernel_rfl)
  · exact o_sem 1 (fun _ => do pure (Next.value (← Instr.indexAt 46 (.slice (some ⟨nb ρ3 4, 0, none⟩) (List.replicate (zeros n + 1) (0 : UInt8)).length (9 + (zeros n))) (.int .i64 0)))) (fun _ => (.pointer (some ⟨nb ρ3 4, 0, none⟩))) (fun _ => (by kernel_rfl)) (fun _ => (by kernel_rfl)) (fun _ w => idx_row Tryd.underlying46 u8i ((show 0 = ((0 : Nat) : Int) ∧ 0 < (List.replicate (zeros n + 1) (0 : UInt8)).length from ⟨rfl, (by have := hn; have := zeros_lt n; rw [List.length_replicate]; omega)⟩)).1 ((show 0 = ((0 : Nat) : Int) ∧ 0 < (List.replicate (zeros n + 1) (0 : UInt8)).length from ⟨rfl, (by have := hn; have := zeros_lt n; rw [List.length_replicate]; omega)⟩)).2 w)
  · exact o_st 2 0 5 (fun _ => nb ρ3 4) (fun _ => 0) (fun _ => (zB (9 + (zeros n)))) (fun _ => ((zB (9 + zeros n)).setIfInBounds 0 (.int .u8 128))) 5 (fun _ => (.int .u8 128)) (fun _ => by kernel_rfl) Tryd.sizeOf5 (fun _ => rfl) (fun _ => (by rw [zB_size]; omega)) (fun _ => rfl)
theorem pad_any_r5 (n : Nat) (ρ3 : Nat → Orc) (w0 : World) (F : World → Prop) : Reg Tryd.prog 4 (regOps Tryd.f88 4) false 33 [(0, (.int .u64 ((n : Nat) : Int))), (2, (.slice none 0 0)), (4, (.slice (some ⟨nb ρ3 4, 0, none⟩) (List.replicate (zeros n + 1) (0 : UInt8)).length (9 + (zeros n))))] w0 [(nb ρ3 4, (.cells ((zB (9 + zeros n)).setIfInBounds 0 (.int .u8 128)) 5 (0, 0)))] F
    (fun _ => [(0, (.int .u64 ((n : Nat) : Int))), (2, (.slice none 0 0)), (4, (.slice (some ⟨nb ρ3 4, 0, none⟩) (List.replicate (zeros n + 1) (0 : UInt8)).length (9 + (zeros n)))), (18, (.int .i64 0))])
    (fun _ => [(nb ρ3 4, (.cells ((zB (9 + zeros n)).setIfInBounds 0 (.int .u8 128)) 5 (0, 0)))]) := by
  refine reg_seq [0] [0, 2, 4, 18] 1
    (fun _ ι => ([(.int .i64 0)] : List Value).getD ι undef)
    (fun _ ι => ([{}] : List Eff).getD ι {})
    (by kernel_rfl) (by kernel_rfl) (fun _ => by kernel_rfl) (fun _ => by kernel_rfl) ⟨trivial, ?_⟩
  · exact o_run 0 [] [] (fun _ _ => []) (fun _ _ => by kernel_rfl)
theorem pad_any_r6 (n : Nat) (i : Nat) (X : List UInt8) (C : Array Value) (ρ3 : Nat → Orc) (w0 : World) (F : World → Prop) : Reg Tryd.prog 5 (regOps Tryd.f88 5) false 33 [(0, (.int .u64 ((n : Nat) : Int))), (2, (.slice none 0 0)), (4, (.slice (some ⟨nb ρ3 4, 0, none⟩) (X).length (9 + zeros n))), (18, (.int .i64 ((i : Nat) : Int)))] w0 [(nb ρ3 4, (.cells C 5 (0, 0)))] F
    (fun _ => [(0, (.int .u64 ((n : Nat) : Int))), (2, (.slice none 0 0)), (4, (.slice (some ⟨nb ρ3 4, 0, none⟩) (X).length (9 + zeros n))), (18, (.int .i64 ((i : Nat) : Int))), (19, (.bool (decide (((i : Nat) : Int) < 8))))])
    (fun _ => [(nb ρ3 4, (.cells C 5 (0, 0)))]) := by
  refine reg_seq [0] [0, 2, 4, 18, 19] 1
    (fun _ ι => ([(.bool (decide (((i : Nat) : Int) < 8)))] : List Value).getD ι undef)
    (fun _ ι => ([{}] : List Eff).getD ι {})
    (by kernel_rfl) (by kernel_rfl) (fun _ => by kernel_rfl) (fun _ => by kernel_rfl) ⟨trivial, ?_⟩
  · exact o_run 0 [] [] (fun _ _ => []) (fun _ _ => by kernel_rfl)
theorem pad_any_r7 (n : Nat) (i : Nat) (X : List UInt8) (C : Array Value) (ρ3 : Nat → Orc) (w0 : World) (F : World → Prop) : Reg Tryd.prog 6 (regOps Tryd.f88 6) false 33 [(0, (.int .u64 ((n : Nat) : Int))), (2, (.slice none 0 0)), (4, (.slice (some ⟨nb ρ3 4, 0, none⟩) (X).length (9 + zeros n))), (18, (.int .i64 ((i : Nat) : Int))), (19, (.bool true))] w0 [(nb ρ3 4, (.cells C 5 (0, 0)))] F
    (fun _ => [(0, (.int .u64 ((n : Nat) : Int))), (2, (.slice none 0 0)), (4, (.slice (some ⟨nb ρ3 4, 0, none⟩) (X).length (9 + zeros n))), (5, (.int .i64 ((i : Nat) : Int))), (18, (.int .i64 ((i : Nat) : Int)))])
    (fun _ => [(nb ρ3 4, (.cells C 5 (0, 0)))]) := by
  refine reg_seq [0, 1] [0, 2, 4, 5, 18] 2
    (fun _ ι => ([(.int .i64 ((i : Nat) : Int)), (.int .i64 ((i : Nat) : Int))] : List Value).getD ι undef)
    (fun _ ι => ([{}, {}] : List Eff).getD ι {})
    (by kernel_rfl) (by kernel_rfl) (fun _ => by kernel_rfl) (fun _ => by kernel_rfl) ⟨⟨trivial, ?_⟩, ?_⟩
  · exact o_run 0 [] [] (fun _ _ => []) (fun _ _ => by kernel_rfl)
  · exact o_run 1 [] [] (fun _ _ => []) (fun _ _ => by kernel_rfl)
theorem pad_any_r8 (n : Nat) (hn : n ≤ 140737488351232) (i : Nat) (X : List UInt8) (C : Array Value) (hi : i ≤ 8) (hX : X = 128 :: (List.replicate (zeros n) 0 ++ be8 (8 * n) i)) (hs : C.size = 9 + zeros n) (hb1 : (decide (((i : Nat) : Int) < 8)) = true) (ρ3 : Nat → Orc) (w0 : World) : RegF Tryd.prog 7 (regOps Tryd.f88 7) false 33 [(0, (.int .u64 ((n : Nat) : Int))), (2, (.slice none 0 0)), (4, (.slice (some ⟨nb ρ3 4, 0, none⟩) (X).length (9 + zeros n))), (5, (.int .i64 ((i : Nat) : Int))), (18, (.int .i64 ((i : Nat) : Int)))] w0 [(nb ρ3 4, (.cells C 5 (0, 0)))] (fun _ => True)
    (fun _ => [(0, (.int .u64 ((n : Nat) : Int))), (2, (.slice none 0 0)), (4, (.slice (some ⟨nb ρ3 4, 0, none⟩) (X ++ ([ob ((8 * n / 2 ^ (56 - 8 * i) % 256 : Nat) : Int)] : List UInt8)).length (9 + zeros n))), (18, (.int .i64 ((i : Nat) : Int)))])
    (fun ρ => [(nb ρ3 4, (.cells (inpl C (X).length (bs ([ob ((8 * n / 2 ^ (56 - 8 * i) % 256 : Nat) : Int)] : List UInt8))) 5 (0, 0))), (nb ρ 8, (.cells #[(.int .u8 ((8 * n / 2 ^ (56 - 8 * i) % 256 : Nat) : Int))] 5 (0, 0)))]) (fun _ => (fun _ => True)) := by
  refine reg_seq_f [0, 1, 3, 7, 15, 31, 63, 127, 255, 511, 1023] [0, 2, 4, 18] 11
    (fun ρ ι => ([(.slice (some ⟨nb ρ3 4, 0, none⟩) (X).length (9 + zeros n)), (.int .u64 ((n : Nat) : Int)), (.int .u64 ((8 * n : Nat) : Int)), (.int .i64 ((i : Nat) : Int)), (.int .i64 ((8 * i : Nat) : Int)), (.int .i64 ((56 - 8 * i : Nat) : Int)), (.int .u64 ((8 * n / 2 ^ (56 - 8 * i) : Nat) : Int)), (.int .u8 ((8 * n / 2 ^ (56 - 8 * i) % 256 : Nat) : Int)), (.slice (some ⟨nb ρ 8, 0, none⟩) (([ob ((8 * n / 2 ^ (56 - 8 * i) % 256 : Nat) : Int)] : List UInt8)).length 1), (.slice (some ⟨nb ρ3 4, 0, none⟩) (X ++ ([ob ((8 * n / 2 ^ (56 - 8 * i) % 256 : Nat) : Int)] : List UInt8)).length (9 + zeros n)), (.slice (some ⟨nb ρ3 4, 0, none⟩) (X ++ ([ob ((8 * n / 2 ^ (56 - 8 * i) % 256 : Nat) : Int)] : List UInt8)).length (9 + zeros n))] : List Value).getD ι undef)
    (fun ρ ι => ([{}, {}, {}, {}, {}, {}, {}, {}, { news := [(nb ρ 8, (.cells #[(.int .u8 ((8 * n / 2 ^ (56 - 8 * i) % 256 : Nat) : Int))] 5 (0, 0)))] }, { puts := [(0, (.cells (inpl C (X).length (bs ([ob ((8 * n / 2 ^ (56 - 8 * i) % 256 : Nat) : Int)] : List UInt8))) 5 (0, 0)))] }, {}] : List Eff).getD ι {})
    (fun _ ι => ([(fun _ => True), (fun _ => True), (fun _ => True), (fun _ => True), (fun _ => True), (fun _ => True), (fun _ => True), (fun _ => True), (fun _ => True), (fun _ => True), (fun _ => True)] : List (World → Prop)).getD ι (fun _ => True))
    (by kernel_rfl) (by kernel_rfl) (fun _ => by kernel_rfl) (fun _ => by kernel_rfl) (fun _ _ _ _ => trivial) ⟨⟨⟨⟨⟨⟨⟨⟨⟨⟨⟨trivial, ?_⟩, ?_⟩, ?_⟩, ?_⟩, ?_⟩, ?_⟩, ?_⟩, ?_⟩, ?_⟩, ?_⟩, ?_⟩
  · exact Obl.brings (o_run 0 [] [] (fun _ _ => []) (fun _ _ => by kernel_rfl)) (fun _ _ => trivial)
  · exact Obl.brings (o_run 1 [] [] (fun _ _ => []) (fun _ _ => by kernel_rfl)) (fun _ _ => trivial)
  · exact Obl.brings (o_as 2 (fun _ => (.int .u64 (IntKind.u64.wrap (8 * ((n : Nat) : Int))))) (fun _ => (.int .u64 ((8 * n : Nat) : Int))) (fun _ _ => by kernel_rfl) (fun _ => congrArg (Value.int .u64) (u64_mulN 8 n (by have := of_decide_eq_true hb1; have := hn; have := zeros_lt n; have := hi; have := pad_len hX; omega)))) (fun _ _ => trivial)
  · exact Obl.brings (o_run 3 [] [] (fun _ _ => []) (fun _ _ => by kernel_rfl)) (fun _ _ => trivial)
  · exact Obl.brings (o_as 4 (fun _ => (.int .i64 (IntKind.i64.wrap (8 * ((i : Nat) : Int))))) (fun _ => (.int .i64 ((8 * i : Nat) : Int))) (fun _ _ => by kernel_rfl) (fun _ => congrArg (Value.int .i64) (wrap_mulN 8 i (by have := of_decide_eq_true hb1; have := hn; have := zeros_lt n; have := hi; have := pad_len hX; omega)))) (fun _ _ => trivial)
  · exact Obl.brings (o_as 5 (fun _ => (.int .i64 (IntKind.i64.wrap (56 - ((8 * i : Nat) : Int))))) (fun _ => (.int .i64 ((56 - 8 * i : Nat) : Int))) (fun _ _ => by kernel_rfl) (fun _ => congrArg (Value.int .i64) ((i64N (by have := of_decide_eq_true hb1; have := hn; have := zeros_lt n; have := hi; have := pad_len hX; omega)).trans (by have := of_decide_eq_true hb1; have := hn; have := zeros_lt n; have := hi; have := pad_len hX; omega)))) (fun _ _ => trivial)
  · exact Obl.brings (o_bin 6 .shr 22 (fun _ => (.int .u64 ((8 * n : Nat) : Int))) (fun _ => (.int .i64 ((56 - 8 * i : Nat) : Int))) (fun _ => (.int .u64 ((8 * n / 2 ^ (56 - 8 * i) : Nat) : Int))) (fun _ => by kernel_rfl) (fun _ _ _ _ => by kernel_rfl) (fun _ w => run_shrU (k := .u64) (x := 8 * n) (c := 56 - 8 * i) (by have := of_decide_eq_true hb1; have := hn; have := zeros_lt n; have := hi; have := pad_len hX; show 8 * n < 18446744073709551616; omega) w)) (fun _ _ => trivial)
  · exact Obl.brings (o_as 7 (fun _ => (.int .u8 (IntKind.u8.wrap (((8 * n / 2 ^ (56 - 8 * i) : Nat) : Int))))) (fun _ => (.int .u8 ((8 * n / 2 ^ (56 - 8 * i) % 256 : Nat) : Int))) (fun _ _ => by kernel_rfl) (fun _ => congrArg (Value.int .u8) (u8M (8 * n / 2 ^ (56 - 8 * i))))) (fun _ _ => trivial)
  · exact Obl.brings (o_run 8 [] [] (fun _ _ => []) (fun _ _ => by kernel_rfl)) (fun _ _ => trivial)
  · exact o_put1 9 0 (fun ρ => do pure (Next.value (← Builtin.append_ #[46, 46] 46 #[(.slice (some ⟨nb ρ3 4, 0, none⟩) (X).length (9 + zeros n)), (.slice (some ⟨nb ρ 8, 0, none⟩) (([ob ((8 * n / 2 ^ (56 - 8 * i) % 256 : Nat) : Int)] : List UInt8)).length 1)]))) (fun _ => nb ρ3 4) (fun _ => (.cells C 5 (0, 0))) (fun _ => (.cells (inpl C (X).length (bs ([ob ((8 * n / 2 ^ (56 - 8 * i) % 256 : Nat) : Int)] : List UInt8))) 5 (0, 0))) (fun _ => (.slice (some ⟨nb ρ3 4, 0, none⟩) (X ++ ([ob ((8 * n / 2 ^ (56 - 8 * i) % 256 : Nat) : Int)] : List UInt8)).length (9 + zeros n))) (fun _ => (by kernel_rfl)) (fun _ => (by kernel_rfl)) (fun _ => (by kernel_rfl)) (fun _ => (by kernel_rfl)) (fun _ _ => trivial) (fun ρ _ _ hG hg => app_roomL Tryd.underlying46 u8i hg (Bs.src (tx := 46) Tryd.underlying46 (Bs.of_hd (hG.known (g := nb ρ 8) (o := (.cells #[(.int .u8 ((8 * n / 2 ^ (56 - 8 * i) % 256 : Nat) : Int))] 5 (0, 0))) 65 (by kernel_rfl) (by kernel_rfl)) (hd1 ((by omega))) (Nat.le_refl 1) (Nat.le_of_ble_eq_true rfl))) hs ((by have := of_decide_eq_true hb1; have := hn; have := zeros_lt n; have := hi; have := pad_len hX; simp only [List.length_cons, List.length_nil]; omega)))
  · exact Obl.brings (o_run 10 [] [] (fun _ _ => []) (fun _ _ => by kernel_rfl)) (fun _ _ => trivial)
theorem pad_any_r9 (n : Nat) (hn : n ≤ 140737488351232) (i : Nat) (X : List UInt8) (C : Array Value) (hi : i ≤ 8) (hX : X = 128 :: (List.replicate (zeros n) 0 ++ be8 (8 * n) i)) (hb1 : (decide (((i : Nat) : Int) < 8)) = true) (ρ3 : Nat → Orc) (ρ8 : Nat → Orc) (w0 : World) (F : World → Prop) : Reg Tryd.prog 8 (regOps Tryd.f88 8) false 33 [(0, (.int .u64 ((n : Nat) : Int))), (2, (.slice none 0 0)), (4, (.slice (some ⟨nb ρ3 4, 0, none⟩) (X ++ ([ob ((8 * n / 2 ^ (56 - 8 * i) % 256 : Nat) : Int)] : List UInt8)).length (9 + zeros n))), (18, (.int .i64 ((i : Nat) : Int)))] w0 [(nb ρ3 4, (.cells (inpl C (X).length (bs ([ob ((8 * n / 2 ^ (56 - 8 * i) % 256 : Nat) : Int)] : List UInt8))) 5 (0, 0))), (nb ρ8 8, (.cells #[(.int .u8 ((8 * n / 2 ^ (56 - 8 * i) % 256 : Nat) : Int))] 5 (0, 0)))] F
    (fun _ => [(0, (.int .u64 ((n : Nat) : Int))), (2, (.slice none 0 0)), (4, (.slice (some ⟨nb ρ3 4, 0, none⟩) (X ++ ([ob ((8 * n / 2 ^ (56 - 8 * i) % 256 : Nat) : Int)] : List UInt8)).length (9 + zeros n))), (18, (.int .i64 ((i + 1 : Nat) : Int)))])
    (fun _ => [(nb ρ3 4, (.cells (inpl C (X).length (bs ([ob ((8 * n / 2 ^ (56 - 8 * i) % 256 : Nat) : Int)] : List UInt8))) 5 (0, 0))), (nb ρ8 8, (.cells #[(.int .u8 ((8 * n / 2 ^ (56 - 8 * i) % 256 : Nat) : Int))] 5 (0, 0)))]) := by
  refine reg_seq [0, 1] [0, 2, 4, 18] 2
    (fun _ ι => ([(.int .i64 ((i + 1 : Nat) : Int)), (.int .i64 ((i + 1 : Nat) : Int))] : List Value).getD ι undef)
    (fun _ ι => ([{}, {}] : List Eff).getD ι {})
    (by kernel_rfl) (by kernel_rfl) (fun _ => by kernel_rfl) (fun _ => by kernel_rfl) ⟨⟨trivial, ?_⟩, ?_⟩
  · exact o_as 0 (fun _ => (.int .i64 (IntKind.i64.wrap (((i : Nat) : Int) + 1)))) (fun _ => (.int .i64 ((i + 1 : Nat) : Int))) (fun _ _ => by kernel_rfl) (fun _ => congrArg (Value.int .i64) (wrap_addN i 1 (by have := of_decide_eq_true hb1; have := hn; have := zeros_lt n; have := hi; have := pad_len hX; omega)))
  · exact o_run 1 [] [] (fun _ _ => []) (fun _ _ => by kernel_rfl)
theorem pad_any_r10 (n : Nat) (i : Nat) (X : List UInt8) (C : Array Value) (ρ3 : Nat → Orc) (w0 : World) (F : World → Prop) : Reg Tryd.prog 9 (regOps Tryd.f88 9) false 33 [(0, (.int .u64 ((n : Nat) : Int))), (2, (.slice none 0 0)), (4, (.slice (some ⟨nb ρ3 4, 0, none⟩) (X).length (9 + zeros n))), (18, (.int .i64 ((i : Nat) : Int))), (19, (.bool false))] w0 [(nb ρ3 4, (.cells C 5 (0, 0)))] F
    (fun _ => [(2, (.slice (some ⟨nb ρ3 4, 0, none⟩) (X).length (9 + zeros n)))])
    (fun _ => [(nb ρ3 4, (.cells C 5 (0, 0)))]) := by
  refine reg_seq [0, 1] [2] 2
    (fun _ ι => ([(.slice (some ⟨nb ρ3 4, 0, none⟩) (X).length (9 + zeros n)), (.slice (some ⟨nb ρ3 4, 0, none⟩) (X).length (9 + zeros n))] : List Value).getD ι undef)
    (fun _ ι => ([{}, {}] : List Eff).getD ι {})
    (by kernel_rfl) (by kernel_rfl) (fun _ => by kernel_rfl) (fun _ => by kernel_rfl) ⟨⟨trivial, ?_⟩, ?_⟩
  · exact o_run 0 [] [] (fun _ _ => []) (fun _ _ => by kernel_rfl)
  · exact o_run 1 [] [] (fun _ _ => []) (fun _ _ => by kernel_rfl)
theorem pad_any (n : Nat) (hn : n ≤ 140737488351232) (w0 : World) : Calls Tryd.prog 88 #[(.int .u64 ((n : Nat) : Int))] w0 (fun ε w' => ∃ α κ, ε = .returned (.slice α (padN n).length κ) ∧ Below w0.heap.size w0 w' ∧ Fs w0 w' α κ (padN n)) := by
  refine Calls.of_ok (n := 33) (F := (fun _ => True)) Tryd.func88 rfl rfl rfl (by simp) (persTrue (fun _ => trivial)) ?_
  refine ok_seq_r (by kernel_rfl) (pad_any_r1 n _ _) (fun _ => ?_)
  refine ok_seq_r (by kernel_rfl) (pad_any_r2 n hn _ _) (fun _ => ?_)
  refine ok_seq_rf (by kernel_rfl) (pad_any_r3 n hn _) (fun ρ3 => ?_)
  refine ok_seq_r (by kernel_rfl) (pad_any_r4 n hn ρ3 _ _) (fun _ => ?_)
  refine ok_seq ?_
  refine ok_seq_r (by kernel_rfl) (pad_any_r5 n ρ3 _ _) (fun _ => ?_)
  refine ok_block ?_
  refine ok_loop (σ := Nat × (List UInt8) × (Array Value)) (fun ⟨i, X, _⟩ => [(0, (.int .u64 ((n : Nat) : Int))), (2, (.slice none 0 0)), (4, (.slice (some ⟨nb ρ3 4, 0, none⟩) (X).length (9 + zeros n))), (18, (.int .i64 ((i : Nat) : Int)))]) (fun ⟨_, _, C⟩ => [(nb ρ3 4, (.cells C 5 (0, 0)))]) (fun ⟨i, _, _⟩ => 8 - i)
    (fun ⟨i, X, C⟩ => (i ≤ 8) ∧ (X = 128 :: (List.replicate (zeros n) 0 ++ be8 (8 * n) i)) ∧ (Hd C X) ∧ (C.size = 9 + zeros n)) (0, 128 :: List.replicate (zeros n) (0 : UInt8), (zB (9 + zeros n)).setIfInBounds 0 (.int .u8 128)) (⟨by decide, by simp [be8], pad_hd0 n, by rw [Array.size_setIfInBounds, zB_size]⟩) (by kernel_rfl) (.cons_cons _ .slnil) ?_
  rintro ⟨i, X, C⟩ ⟨hi, hX, hC, hs⟩
  change Ok Tryd.prog _ _ 33 [(0, (.int .u64 ((n : Nat) : Int))), (2, (.slice none 0 0)), (4, (.slice (some ⟨nb ρ3 4, 0, none⟩) (X).length (9 + zeros n))), (18, (.int .i64 ((i : Nat) : Int)))] _ [(nb ρ3 4, (.cells C 5 (0, 0)))] (fun _ => True)
  refine ok_seq_r (by kernel_rfl) (pad_any_r6 n i X C ρ3 _ _) (fun _ => ?_)
  refine ok_seq ?_
  refine ok_cond (b := decide (((i : Nat) : Int) < 8)) (by kernel_rfl) (fun hb1 => ?_) (fun hb1 => ?_)
  ·
    rw [hb1]
    refine ok_skip ?_
    refine mt_then ?_
    refine ok_seq ?_
    refine ok_block ?_
    refine ok_seq_r (by kernel_rfl) (pad_any_r7 n i X C ρ3 _ _) (fun _ => ?_)
    refine ok_rf (by kernel_rfl) (pad_any_r8 n hn i X C hi hX hs hb1 ρ3 _) (fun ρ8 => ?_)
    refine mt_block_n ?_
    refine mt_then ?_
    refine ok_r (by kernel_rfl) (pad_any_r9 n hn i X C hi hX hb1 ρ3 ρ8 _ _) (fun _ => ?_)
    exact mt_round (i + 1, X ++ ([ob ((8 * n / 2 ^ (56 - 8 * i) % 256 : Nat) : Int)] : List UInt8), inpl C (X).length (bs ([ob ((8 * n / 2 ^ (56 - 8 * i) % 256 : Nat) : Int)] : List UInt8))) (by show 8 - (i + 1) < 8 - i; have := of_decide_eq_true hb1; have := hn; have := zeros_lt n; have := hi; have := pad_len hX; omega) (⟨(by have := of_decide_eq_true hb1; have := hn; have := zeros_lt n; have := hi; have := pad_len hX; omega), pad_next hX, (Hd.inpl hC rfl), ((inpl_size _ _ _ (room_le hs ((by have := of_decide_eq_true hb1; have := hn; have := zeros_lt n; have := hi; have := pad_len hX; simp only [List.length_cons, List.length_nil]; omega)))).trans hs)⟩) (by kernel_rfl) (.cons_cons _ (.cons _ .slnil))
  ·
    rw [hb1]
    refine ok_exit ?_
    refine mt_then_e ?_
    refine mt_then_e ?_
    refine mt_block_h ?_
    refine mt_then ?_
    refine ok_seq_r (by kernel_rfl) (pad_any_r10 n i X C ρ3 _ _) (fun _ => ?_)
    refine ok_ret ?_
    exact meets_ret (v := (.slice (some ⟨nb ρ3 4, 0, none⟩) (X).length (9 + zeros n))) [] (dup []) (by kernel_rfl) (by kernel_rfl) (eqs_dup _) (fun _ hS => ⟨(some ⟨nb ρ3 4, 0, none⟩), 9 + zeros n, congrArg Ending.returned (by rw [(pad_end hX (by have := of_decide_eq_false hb1; have := hn; have := zeros_lt n; have := hi; have := pad_len hX; omega))]), hS.below, fs_eq ((pad_end hX (by have := of_decide_eq_false hb1; have := hn; have := zeros_lt n; have := hi; have := pad_len hX; omega))) (hS.fresh (.head _) hC (by have := hn; have := zeros_lt n; have := hi; have := pad_len hX; omega) (by have := hn; have := zeros_lt n; have := hi; have := pad_len hX; omega))⟩)
theorem shrow_any_r1 (g : Nat) (n : Nat) (w0 : World) (F : World → Prop) : Reg Tryd.prog 0 (regOps Tryd.f74 0) false 17 [(0, (.slice (some ⟨g, 0, none⟩) n n))] w0 [] F
    (fun _ => [(0, (.slice (some ⟨g, 0, none⟩) n n)), (2, (.slice none 0 0))])
    (fun _ => []) := by
  refine reg_seq [0] [0, 2] 1
    (fun _ ι => ([(.slice none 0 0)] : List Value).getD ι undef)
    (fun _ ι => ([{}] : List Eff).getD ι {})
    (by kernel_rfl) (by kernel_rfl) (fun _ => by kernel_rfl) (fun _ => by kernel_rfl) ⟨trivial, ?_⟩
  · exact o_run 0 [] [] (fun _ _ => []) (fun _ _ => by kernel_rfl)
theorem shrow_any_r2 (g : Nat) (n : Nat) (w0 : World) (F : World → Prop) : Reg Tryd.prog 1 (regOps Tryd.f74 1) false 17 [(0, (.slice (some ⟨g, 0, none⟩) n n)), (2, (.slice none 0 0))] w0 [] F
    (fun _ => [(0, (.slice (some ⟨g, 0, none⟩) n n)), (2, (.slice none 0 0)), (3, (.slice none 0 0))])
    (fun _ => []) := by
  refine reg_seq [0] [0, 2, 3] 1
    (fun _ ι => ([(.slice none 0 0)] : List Value).getD ι undef)
    (fun _ ι => ([{}] : List Eff).getD ι {})
    (by kernel_rfl) (by kernel_rfl) (fun _ => by kernel_rfl) (fun _ => by kernel_rfl) ⟨trivial, ?_⟩
  · exact o_run 0 [] [] (fun _ _ => []) (fun _ _ => by kernel_rfl)
theorem shrow_any_r3 (g : Nat) (n : Nat) (w0 : World) (F : World → Prop) : Reg Tryd.prog 2 (regOps Tryd.f74 2) false 17 [(0, (.slice (some ⟨g, 0, none⟩) n n)), (2, (.slice none 0 0)), (3, (.slice none 0 0))] w0 [] F
    (fun _ => [(2, (.slice none 0 0)), (3, (.slice none 0 0)), (6, (.slice (some ⟨g, 0, none⟩) n n)), (7, (.int .i64 ((n : Nat) : Int))), (8, (.int .i64 0))])
    (fun _ => []) := by
  refine reg_seq [0, 1, 3] [2, 3, 6, 7, 8] 3
    (fun _ ι => ([(.slice (some ⟨g, 0, none⟩) n n), (.int .i64 ((n : Nat) : Int)), (.int .i64 0)] : List Value).getD ι undef)
    (fun _ ι => ([{}, {}, {}] : List Eff).getD ι {})
    (by kernel_rfl) (by kernel_rfl) (fun _ => by kernel_rfl) (fun _ => by kernel_rfl) ⟨⟨⟨trivial, ?_⟩, ?_⟩, ?_⟩
  · exact o_run 0 [] [] (fun _ _ => []) (fun _ _ => by kernel_rfl)
  · exact o_run 1 [] [] (fun _ _ => []) (fun _ _ => by kernel_rfl)
  · exact o_run 2 [] [] (fun _ _ => []) (fun _ _ => by kernel_rfl)
theorem shrow_any_r4 (g : Nat) (n : Nat) (i : Nat) (w0 : World) (F : World → Prop) : Reg Tryd.prog 3 (regOps Tryd.f74 3) false 17 [(2, (.slice none 0 0)), (3, (.slice none 0 0)), (6, (.slice (some ⟨g, 0, none⟩) n n)), (7, (.int .i64 ((n : Nat) : Int))), (8, (.int .i64 ((i : Nat) : Int)))] w0 [] F
    (fun _ => [(2, (.slice none 0 0)), (3, (.slice none 0 0)), (6, (.slice (some ⟨g, 0, none⟩) n n)), (7, (.int .i64 ((n : Nat) : Int))), (8, (.int .i64 ((i : Nat) : Int))), (9, (.bool (decide (((i : Nat) : Int) < ((n : Nat) : Int)))))])
    (fun _ => []) := by
  refine reg_seq [0] [2, 3, 6, 7, 8, 9] 1
    (fun _ ι => ([(.bool (decide (((i : Nat) : Int) < ((n : Nat) : Int))))] : List Value).getD ι undef)
    (fun _ ι => ([{}] : List Eff).getD ι {})
    (by kernel_rfl) (by kernel_rfl) (fun _ => by kernel_rfl) (fun _ => by kernel_rfl) ⟨trivial, ?_⟩
  · exact o_run 0 [] [] (fun _ _ => []) (fun _ _ => by kernel_rfl)
theorem shrow_any_r5 (g : Nat) (n : Nat) (pa : Nat → Option Addr) (pc : Nat → Nat) (pB : Nat → List UInt8) (hn : n ≤ 16) (hl : (catB pB n).length ≤ 140737488351232) (i : Nat) (hi : i ≤ n) (h0i : i = 0) (hb1 : (decide (((i : Nat) : Int) < ((n : Nat) : Int))) = true) (w0 : World) : RegF Tryd.prog 4 (regOps Tryd.f74 4) false 17 [(2, (.slice none 0 0)), (3, (.slice none 0 0)), (6, (.slice (some ⟨g, 0, none⟩) n n)), (7, (.int .i64 ((n : Nat) : Int))), (8, (.int .i64 ((i : Nat) : Int))), (9, (.bool true))] w0 [] (fun w => Kb w g (rowS n pa pc pB) ∧ AllB w n pa pc pB ∧ True)
    (fun _ => [(2, (.slice none 0 0)), (3, (.slice none 0 0)), (5, (.slice (pa i) (pB i).length (pc i))), (6, (.slice (some ⟨g, 0, none⟩) n n)), (7, (.int .i64 ((n : Nat) : Int))), (8, (.int .i64 ((i : Nat) : Int)))])
    (fun _ => []) (fun _ => (fun w => Kb w g (rowS n pa pc pB) ∧ AllB w n pa pc pB ∧ True)) := by
  refine reg_seq_f [0, 1, 3] [2, 3, 5, 6, 7, 8] 3
    (fun _ ι => ([(.pointer (some ⟨g, i, none⟩)), (.slice (pa i) (pB i).length (pc i)), (.slice (pa i) (pB i).length (pc i))] : List Value).getD ι undef)
    (fun _ ι => ([{}, {}, {}] : List Eff).getD ι {})
    (fun _ ι => ([(fun _ => True), (fun _ => True), (fun _ => True)] : List (World → Prop)).getD ι (fun _ => True))
    (by kernel_rfl) (by kernel_rfl) (fun _ => by kernel_rfl) (fun _ => by kernel_rfl) (fun _ _ hF _ => ⟨hF.1, hF.2.1, trivial⟩) ⟨⟨⟨trivial, ?_⟩, ?_⟩, ?_⟩
  · exact Obl.brings (o_sem 0 (fun _ => do pure (Next.value (← Instr.indexAt 67 (.slice (some ⟨g, 0, none⟩) n n) (.int .i64 ((i : Nat) : Int))))) (fun _ => (.pointer (some ⟨g, i, none⟩))) (fun _ => (by kernel_rfl)) (fun _ => (by kernel_rfl)) (fun _ w => idx_rowS Tryd.underlying67 Tryd.sizeOf46 ((show ((i : Nat) : Int) = ((i : Nat) : Int) ∧ i < n from ⟨rfl, (by have := of_decide_eq_true hb1; have := hl; have := hn; have := hi; have := h0i; omega)⟩)).1 ((show ((i : Nat) : Int) = ((i : Nat) : Int) ∧ i < n from ⟨rfl, (by have := of_decide_eq_true hb1; have := hl; have := hn; have := hi; have := h0i; omega)⟩)).2 w)) (fun _ _ => trivial)
  · exact o_semF 1 (fun _ => do pure (Next.value (← Instr.loadAt 46 (.pointer (some ⟨g, i, none⟩))))) (fun _ => (.slice (pa i) (pB i).length (pc i))) (fun _ => (by kernel_rfl)) (fun _ => (by kernel_rfl)) (fun _ _ _ hG => ld_blk Tryd.isAgg46 (hG.facts0.now.1) (rowS_get (by have := of_decide_eq_true hb1; have := hl; have := hn; have := hi; have := h0i; omega))) (fun _ _ _ _ => persT)
  · exact Obl.brings (o_run 2 [] [] (fun _ _ => []) (fun _ _ => by kernel_rfl)) (fun _ _ => trivial)
theorem shrow_any_r6 (g : Nat) (n : Nat) (pa : Nat → Option Addr) (pc : Nat → Nat) (pB : Nat → List UInt8) (hn : n ≤ 16) (hl : (catB pB n).length ≤ 140737488351232) (h0 : 0 < (pB 0).length) (i : Nat) (hi : i ≤ n) (h0i : i = 0) (hb1 : (decide (((i : Nat) : Int) < ((n : Nat) : Int))) = true) (w0 : World) : RegF Tryd.prog 5 (regOps Tryd.f74 5) false 17 [(2, (.slice none 0 0)), (3, (.slice none 0 0)), (5, (.slice (pa i) (pB i).length (pc i))), (6, (.slice (some ⟨g, 0, none⟩) n n)), (7, (.int .i64 ((n : Nat) : Int))), (8, (.int .i64 ((i : Nat) : Int)))] w0 [] (fun w => Kb w g (rowS n pa pc pB) ∧ AllB w n pa pc pB ∧ True)
    (fun ρ => [(2, (.slice none 0 0)), (3, (.slice (some ⟨nb ρ 2, 0, none⟩) (pB i).length ((pB i).length + nb2 ρ 2))), (6, (.slice (some ⟨g, 0, none⟩) n n)), (7, (.int .i64 ((n : Nat) : Int))), (8, (.int .i64 ((i : Nat) : Int)))])
    (fun ρ => [(nb ρ 2, (.cells ((bs (pB i)).toArray ++ zB (nb2 ρ 2)) 5 (0, 0)))]) (fun _ => (fun w => Kb w g (rowS n pa pc pB) ∧ AllB w n pa pc pB ∧ True)) := by
  refine reg_seq_f [0, 1, 3, 7] [2, 3, 6, 7, 8] 4
    (fun ρ ι => ([(.slice none 0 0), (.slice (pa i) (pB i).length (pc i)), (.slice (some ⟨nb ρ 2, 0, none⟩) (pB i).length ((pB i).length + nb2 ρ 2)), (.slice (some ⟨nb ρ 2, 0, none⟩) (pB i).length ((pB i).length + nb2 ρ 2))] : List Value).getD ι undef)
    (fun ρ ι => ([{}, {}, { news := [(nb ρ 2, (.cells ((bs (pB i)).toArray ++ zB (nb2 ρ 2)) 5 (0, 0)))] }, {}] : List Eff).getD ι {})
    (fun _ ι => ([(fun _ => True), (fun _ => True), (fun _ => True), (fun _ => True)] : List (World → Prop)).getD ι (fun _ => True))
    (by kernel_rfl) (by kernel_rfl) (fun _ => by kernel_rfl) (fun _ => by kernel_rfl) (fun _ _ hF _ => ⟨hF.1, hF.2.1, trivial⟩) ⟨⟨⟨⟨trivial, ?_⟩, ?_⟩, ?_⟩, ?_⟩
  · exact Obl.brings (o_run 0 [] [] (fun _ _ => []) (fun _ _ => by kernel_rfl)) (fun _ _ => trivial)
  · exact Obl.brings (o_run 1 [] [] (fun _ _ => []) (fun _ _ => by kernel_rfl)) (fun _ _ => trivial)
  · exact o_new1 2 (fun _ => do pure (Next.value (← Builtin.append_ #[46, 46] 46 #[(.slice none 0 0), (.slice (pa i) (pB i).length (pc i))]))) (fun _ z => (.slice (some ⟨z.headD 0, 0, none⟩) (pB i).length ((pB i).length + z.tail.headD 0))) (fun _ z => (.cells ((bs (pB i)).toArray ++ zB (z.tail.headD 0)) 5 (0, 0))) (fun _ _ => (by kernel_rfl)) (fun _ => (by kernel_rfl)) (fun _ _ => trivial) (fun _ _ _ hG => app_nilL Tryd.underlying46 u8i (Bs.src (tx := 46) Tryd.underlying46 (hG.facts0.now.2.1 i (by have := of_decide_eq_true hb1; have := hl; have := hn; have := hi; have := h0i; omega))) ((by rw [h0i]; exact h0)) ((by have h1 := (catB_next pB (show i < n by have := of_decide_eq_true hb1; have := hl; have := hn; have := hi; have := h0i; omega)); have := hl; omega)))
  · exact Obl.brings (o_run 3 [] [] (fun _ _ => []) (fun _ _ => by kernel_rfl)) (fun _ _ => trivial)
theorem shrow_any_r7 (g : Nat) (n : Nat) (pB : Nat → List UInt8) (hn : n ≤ 16) (hl : (catB pB n).length ≤ 140737488351232) (i : Nat) (hi : i ≤ n) (h0i : i = 0) (hb1 : (decide (((i : Nat) : Int) < ((n : Nat) : Int))) = true) (ρ6 : Nat → Orc) (w0 : World) (F : World → Prop) : Reg Tryd.prog 6 (regOps Tryd.f74 6) false 17 [(2, (.slice none 0 0)), (3, (.slice (some ⟨nb ρ6 2, 0, none⟩) (pB i).length ((pB i).length + nb2 ρ6 2))), (6, (.slice (some ⟨g, 0, none⟩) n n)), (7, (.int .i64 ((n : Nat) : Int))), (8, (.int .i64 ((i : Nat) : Int)))] w0 [(nb ρ6 2, (.cells ((bs (pB i)).toArray ++ zB (nb2 ρ6 2)) 5 (0, 0)))] F
    (fun _ => [(2, (.slice none 0 0)), (3, (.slice (some ⟨nb ρ6 2, 0, none⟩) (pB i).length ((pB i).length + nb2 ρ6 2))), (6, (.slice (some ⟨g, 0, none⟩) n n)), (7, (.int .i64 ((n : Nat) : Int))), (8, (.int .i64 ((i + 1 : Nat) : Int)))])
    (fun _ => [(nb ρ6 2, (.cells ((bs (pB i)).toArray ++ zB (nb2 ρ6 2)) 5 (0, 0)))]) := by
  refine reg_seq [0, 1] [2, 3, 6, 7, 8] 2
    (fun _ ι => ([(.int .i64 ((i + 1 : Nat) : Int)), (.int .i64 ((i + 1 : Nat) : Int))] : List Value).getD ι undef)
    (fun _ ι => ([{}, {}] : List Eff).getD ι {})
    (by kernel_rfl) (by kernel_rfl) (fun _ => by kernel_rfl) (fun _ => by kernel_rfl) ⟨⟨trivial, ?_⟩, ?_⟩
  · exact o_as 0 (fun _ => (.int .i64 (IntKind.i64.wrap (((i : Nat) : Int) + 1)))) (fun _ => (.int .i64 ((i + 1 : Nat) : Int))) (fun _ _ => by kernel_rfl) (fun _ => congrArg (Value.int .i64) (wrap_addN i 1 (by have := of_decide_eq_true hb1; have := hl; have := hn; have := hi; have := h0i; omega)))
  · exact o_run 1 [] [] (fun _ _ => []) (fun _ _ => by kernel_rfl)
theorem shrow_any_r8 (g : Nat) (n : Nat) (i : Nat) (w0 : World) (F : World → Prop) : Reg Tryd.prog 7 (regOps Tryd.f74 7) false 17 [(2, (.slice none 0 0)), (3, (.slice none 0 0)), (6, (.slice (some ⟨g, 0, none⟩) n n)), (7, (.int .i64 ((n : Nat) : Int))), (8, (.int .i64 ((i : Nat) : Int))), (9, (.bool false))] w0 [] F
    (fun _ => [(2, (.slice none 0 0))])
    (fun _ => []) := by
  refine reg_seq [0, 1] [2] 2
    (fun _ ι => ([(.slice none 0 0), (.slice none 0 0)] : List Value).getD ι undef)
    (fun _ ι => ([{}, {}] : List Eff).getD ι {})
    (by kernel_rfl) (by kernel_rfl) (fun _ => by kernel_rfl) (fun _ => by kernel_rfl) ⟨⟨trivial, ?_⟩, ?_⟩
  · exact o_run 0 [] [] (fun _ _ => []) (fun _ _ => by kernel_rfl)
  · exact o_run 1 [] [] (fun _ _ => []) (fun _ _ => by kernel_rfl)
theorem shrow_any_r9 (g : Nat) (n : Nat) (i : Nat) (q : Nat) (X : List UInt8) (C : Array Value) (κ : Nat) (w0 : World) (F : World → Prop) : Reg Tryd.prog 3 (regOps Tryd.f74 3) false 17 [(2, (.slice none 0 0)), (3, (.slice (some ⟨q, 0, none⟩) (X).length κ)), (6, (.slice (some ⟨g, 0, none⟩) n n)), (7, (.int .i64 ((n : Nat) : Int))), (8, (.int .i64 ((i : Nat) : Int)))] w0 [(q, (.cells C 5 (0, 0)))] F
    (fun _ => [(2, (.slice none 0 0)), (3, (.slice (some ⟨q, 0, none⟩) (X).length κ)), (6, (.slice (some ⟨g, 0, none⟩) n n)), (7, (.int .i64 ((n : Nat) : Int))), (8, (.int .i64 ((i : Nat) : Int))), (9, (.bool (decide (((i : Nat) : Int) < ((n : Nat) : Int)))))])
    (fun _ => [(q, (.cells C 5 (0, 0)))]) := by
  refine reg_seq [0] [2, 3, 6, 7, 8, 9] 1
    (fun _ ι => ([(.bool (decide (((i : Nat) : Int) < ((n : Nat) : Int))))] : List Value).getD ι undef)
    (fun _ ι => ([{}] : List Eff).getD ι {})
    (by kernel_rfl) (by kernel_rfl) (fun _ => by kernel_rfl) (fun _ => by kernel_rfl) ⟨trivial, ?_⟩
  · exact o_run 0 [] [] (fun _ _ => []) (fun _ _ => by kernel_rfl)
theorem shrow_any_r10 (g : Nat) (n : Nat) (pa : Nat → Option Addr) (pc : Nat → Nat) (pB : Nat → List UInt8) (hn : n ≤ 16) (hl : (catB pB n).length ≤ 140737488351232) (i : Nat) (q : Nat) (X : List UInt8) (C : Array Value) (κ : Nat) (hi : i ≤ n) (hb2 : (decide (((i : Nat) : Int) < ((n : Nat) : Int))) = true) (w0 : World) : RegF Tryd.prog 4 (regOps Tryd.f74 4) false 17 [(2, (.slice none 0 0)), (3, (.slice (some ⟨q, 0, none⟩) (X).length κ)), (6, (.slice (some ⟨g, 0, none⟩) n n)), (7, (.int .i64 ((n : Nat) : Int))), (8, (.int .i64 ((i : Nat) : Int))), (9, (.bool true))] w0 [(q, (.cells C 5 (0, 0)))] (fun w => Kb w g (rowS n pa pc pB) ∧ AllB w n pa pc pB ∧ True)
    (fun _ => [(2, (.slice none 0 0)), (3, (.slice (some ⟨q, 0, none⟩) (X).length κ)), (5, (.slice (pa i) (pB i).length (pc i))), (6, (.slice (some ⟨g, 0, none⟩) n n)), (7, (.int .i64 ((n : Nat) : Int))), (8, (.int .i64 ((i : Nat) : Int)))])
    (fun _ => [(q, (.cells C 5 (0, 0)))]) (fun _ => (fun w => Kb w g (rowS n pa pc pB) ∧ AllB w n pa pc pB ∧ True)) := by
  refine reg_seq_f [0, 1, 3] [2, 3, 5, 6, 7, 8] 3
    (fun _ ι => ([(.pointer (some ⟨g, i, none⟩)), (.slice (pa i) (pB i).length (pc i)), (.slice (pa i) (pB i).length (pc i))] : List Value).getD ι undef)
    (fun _ ι => ([{}, {}, {}] : List Eff).getD ι {})
    (fun _ ι => ([(fun _ => True), (fun _ => True), (fun _ => True)] : List (World → Prop)).getD ι (fun _ => True))
    (by kernel_rfl) (by kernel_rfl) (fun _ => by kernel_rfl) (fun _ => by kernel_rfl) (fun _ _ hF _ => ⟨hF.1, hF.2.1, trivial⟩) ⟨⟨⟨trivial, ?_⟩, ?_⟩, ?_⟩
  · exact Obl.brings (o_sem 0 (fun _ => do pure (Next.value (← Instr.indexAt 67 (.slice (some ⟨g, 0, none⟩) n n) (.int .i64 ((i : Nat) : Int))))) (fun _ => (.pointer (some ⟨g, i, none⟩))) (fun _ => (by kernel_rfl)) (fun _ => (by kernel_rfl)) (fun _ w => idx_rowS Tryd.underlying67 Tryd.sizeOf46 ((show ((i : Nat) : Int) = ((i : Nat) : Int) ∧ i < n from ⟨rfl, (by have := of_decide_eq_true hb2; have := hl; have := hn; have := hi; omega)⟩)).1 ((show ((i : Nat) : Int) = ((i : Nat) : Int) ∧ i < n from ⟨rfl, (by have := of_decide_eq_true hb2; have := hl; have := hn; have := hi; omega)⟩)).2 w)) (fun _ _ => trivial)
  · exact o_semF 1 (fun _ => do pure (Next.value (← Instr.loadAt 46 (.pointer (some ⟨g, i, none⟩))))) (fun _ => (.slice (pa i) (pB i).length (pc i))) (fun _ => (by kernel_rfl)) (fun _ => (by kernel_rfl)) (fun _ _ _ hG => ld_blk Tryd.isAgg46 (hG.facts0.now.1) (rowS_get (by have := of_decide_eq_true hb2; have := hl; have := hn; have := hi; omega))) (fun _ _ _ _ => persT)
  · exact Obl.brings (o_run 2 [] [] (fun _ _ => []) (fun _ _ => by kernel_rfl)) (fun _ _ => trivial)
theorem shrow_any_r11 (g : Nat) (n : Nat) (pa : Nat → Option Addr) (pc : Nat → Nat) (pB : Nat → List UInt8) (hn : n ≤ 16) (hl : (catB pB n).length ≤ 140737488351232) (i : Nat) (q : Nat) (X : List UInt8) (C : Array Value) (κ : Nat) (hi : i ≤ n) (hs : C.size = κ) (hb2 : (decide (((i : Nat) : Int) < ((n : Nat) : Int))) = true) (hb3 : (decide ((X).length + (pB i).length ≤ κ)) = true) (w0 : World) : RegF Tryd.prog 5 (regOps Tryd.f74 5) false 17 [(2, (.slice none 0 0)), (3, (.slice (some ⟨q, 0, none⟩) (X).length κ)), (5, (.slice (pa i) (pB i).length (pc i))), (6, (.slice (some ⟨g, 0, none⟩) n n)), (7, (.int .i64 ((n : Nat) : Int))), (8, (.int .i64 ((i : Nat) : Int)))] w0 [(q, (.cells C 5 (0, 0)))] (fun w => Kb w g (rowS n pa pc pB) ∧ AllB w n pa pc pB ∧ True)
    (fun _ => [(2, (.slice none 0 0)), (3, (.slice (some ⟨q, 0, none⟩) (X ++ (pB i)).length κ)), (6, (.slice (some ⟨g, 0, none⟩) n n)), (7, (.int .i64 ((n : Nat) : Int))), (8, (.int .i64 ((i : Nat) : Int)))])
    (fun _ => [(q, (.cells (inpl C (X).length (bs (pB i))) 5 (0, 0)))]) (fun _ => (fun w => Kb w g (rowS n pa pc pB) ∧ AllB w n pa pc pB ∧ True)) := by
  refine reg_seq_f [0, 1, 3, 7] [2, 3, 6, 7, 8] 4
    (fun _ ι => ([(.slice (some ⟨q, 0, none⟩) (X).length κ), (.slice (pa i) (pB i).length (pc i)), (.slice (some ⟨q, 0, none⟩) (X ++ (pB i)).length κ), (.slice (some ⟨q, 0, none⟩) (X ++ (pB i)).length κ)] : List Value).getD ι undef)
    (fun _ ι => ([{}, {}, { puts := [(0, (.cells (inpl C (X).length (bs (pB i))) 5 (0, 0)))] }, {}] : List Eff).getD ι {})
    (fun _ ι => ([(fun _ => True), (fun _ => True), (fun _ => True), (fun _ => True)] : List (World → Prop)).getD ι (fun _ => True))
    (by kernel_rfl) (by kernel_rfl) (fun _ => by kernel_rfl) (fun _ => by kernel_rfl) (fun _ _ hF _ => ⟨hF.1, hF.2.1, trivial⟩) ⟨⟨⟨⟨trivial, ?_⟩, ?_⟩, ?_⟩, ?_⟩
  · exact Obl.brings (o_run 0 [] [] (fun _ _ => []) (fun _ _ => by kernel_rfl)) (fun _ _ => trivial)
  · exact Obl.brings (o_run 1 [] [] (fun _ _ => []) (fun _ _ => by kernel_rfl)) (fun _ _ => trivial)
  · exact o_put1 2 0 (fun _ => do pure (Next.value (← Builtin.append_ #[46, 46] 46 #[(.slice (some ⟨q, 0, none⟩) (X).length κ), (.slice (pa i) (pB i).length (pc i))]))) (fun _ => q) (fun _ => (.cells C 5 (0, 0))) (fun _ => (.cells (inpl C (X).length (bs (pB i))) 5 (0, 0))) (fun _ => (.slice (some ⟨q, 0, none⟩) (X ++ (pB i)).length κ)) (fun _ => (by kernel_rfl)) (fun _ => (by kernel_rfl)) (fun _ => (by kernel_rfl)) (fun _ => (by kernel_rfl)) (fun _ _ => trivial) (fun _ _ _ hG hg => app_roomL Tryd.underlying46 u8i hg (Bs.src (tx := 46) Tryd.underlying46 (hG.facts0.now.2.1 i (by have := of_decide_eq_true hb2; have := of_decide_eq_true hb3; have := hl; have := hn; have := hi; omega))) hs (of_decide_eq_true hb3))
  · exact Obl.brings (o_run 3 [] [] (fun _ _ => []) (fun _ _ => by kernel_rfl)) (fun _ _ => trivial)
theorem shrow_any_r12 (g : Nat) (n : Nat) (pB : Nat → List UInt8) (hn : n ≤ 16) (hl : (catB pB n).length ≤ 140737488351232) (i : Nat) (q : Nat) (X : List UInt8) (C : Array Value) (κ : Nat) (hi : i ≤ n) (hb2 : (decide (((i : Nat) : Int) < ((n : Nat) : Int))) = true) (hb3 : (decide ((X).length + (pB i).length ≤ κ)) = true) (w0 : World) (F : World → Prop) : Reg Tryd.prog 6 (regOps Tryd.f74 6) false 17 [(2, (.slice none 0 0)), (3, (.slice (some ⟨q, 0, none⟩) (X ++ (pB i)).length κ)), (6, (.slice (some ⟨g, 0, none⟩) n n)), (7, (.int .i64 ((n : Nat) : Int))), (8, (.int .i64 ((i : Nat) : Int)))] w0 [(q, (.cells (inpl C (X).length (bs (pB i))) 5 (0, 0)))] F
    (fun _ => [(2, (.slice none 0 0)), (3, (.slice (some ⟨q, 0, none⟩) (X ++ (pB i)).length κ)), (6, (.slice (some ⟨g, 0, none⟩) n n)), (7, (.int .i64 ((n : Nat) : Int))), (8, (.int .i64 ((i + 1 : Nat) : Int)))])
    (fun _ => [(q, (.cells (inpl C (X).length (bs (pB i))) 5 (0, 0)))]) := by
  refine reg_seq [0, 1] [2, 3, 6, 7, 8] 2
    (fun _ ι => ([(.int .i64 ((i + 1 : Nat) : Int)), (.int .i64 ((i + 1 : Nat) : Int))] : List Value).getD ι undef)
    (fun _ ι => ([{}, {}] : List Eff).getD ι {})
    (by kernel_rfl) (by kernel_rfl) (fun _ => by kernel_rfl) (fun _ => by kernel_rfl) ⟨⟨trivial, ?_⟩, ?_⟩
  · exact o_as 0 (fun _ => (.int .i64 (IntKind.i64.wrap (((i : Nat) : Int) + 1)))) (fun _ => (.int .i64 ((i + 1 : Nat) : Int))) (fun _ _ => by kernel_rfl) (fun _ => congrArg (Value.int .i64) (wrap_addN i 1 (by have := of_decide_eq_true hb2; have := of_decide_eq_true hb3; have := hl; have := hn; have := hi; omega)))
  · exact o_run 1 [] [] (fun _ _ => []) (fun _ _ => by kernel_rfl)
theorem shrow_any_r13 (g : Nat) (n : Nat) (pa : Nat → Option Addr) (pc : Nat → Nat) (pB : Nat → List UInt8) (hn : n ≤ 16) (hl : (catB pB n).length ≤ 140737488351232) (i : Nat) (q : Nat) (X : List UInt8) (C : Array Value) (κ : Nat) (hi : i ≤ n) (hX : X = catB pB i) (hs : C.size = κ) (hle : X.length ≤ κ) (hb2 : (decide (((i : Nat) : Int) < ((n : Nat) : Int))) = true) (hb3 : (decide ((X).length + (pB i).length ≤ κ)) = false) (w0 : World) : RegF Tryd.prog 5 (regOps Tryd.f74 5) false 17 [(2, (.slice none 0 0)), (3, (.slice (some ⟨q, 0, none⟩) (X).length κ)), (5, (.slice (pa i) (pB i).length (pc i))), (6, (.slice (some ⟨g, 0, none⟩) n n)), (7, (.int .i64 ((n : Nat) : Int))), (8, (.int .i64 ((i : Nat) : Int)))] w0 [(q, (.cells C 5 (0, 0)))] (fun w => Kb w g (rowS n pa pc pB) ∧ AllB w n pa pc pB ∧ True)
    (fun ρ => [(2, (.slice none 0 0)), (3, (.slice (some ⟨nb ρ 2, 0, none⟩) (X ++ (pB i)).length ((X ++ (pB i)).length + nb2 ρ 2))), (6, (.slice (some ⟨g, 0, none⟩) n n)), (7, (.int .i64 ((n : Nat) : Int))), (8, (.int .i64 ((i : Nat) : Int)))])
    (fun ρ => [(q, (.cells C 5 (0, 0))), (nb ρ 2, (.cells (grow C (X).length (bs (pB i)) (nb2 ρ 2)) 5 (0, 0)))]) (fun _ => (fun w => Kb w g (rowS n pa pc pB) ∧ AllB w n pa pc pB ∧ True)) := by
  refine reg_seq_f [0, 1, 3, 7] [2, 3, 6, 7, 8] 4
    (fun ρ ι => ([(.slice (some ⟨q, 0, none⟩) (X).length κ), (.slice (pa i) (pB i).length (pc i)), (.slice (some ⟨nb ρ 2, 0, none⟩) (X ++ (pB i)).length ((X ++ (pB i)).length + nb2 ρ 2)), (.slice (some ⟨nb ρ 2, 0, none⟩) (X ++ (pB i)).length ((X ++ (pB i)).length + nb2 ρ 2))] : List Value).getD ι undef)
    (fun ρ ι => ([{}, {}, { news := [(nb ρ 2, (.cells (grow C (X).length (bs (pB i)) (nb2 ρ 2)) 5 (0, 0)))] }, {}] : List Eff).getD ι {})
    (fun _ ι => ([(fun _ => True), (fun _ => True), (fun _ => True), (fun _ => True)] : List (World → Prop)).getD ι (fun _ => True))
    (by kernel_rfl) (by kernel_rfl) (fun _ => by kernel_rfl) (fun _ => by kernel_rfl) (fun _ _ hF _ => ⟨hF.1, hF.2.1, trivial⟩) ⟨⟨⟨⟨trivial, ?_⟩, ?_⟩, ?_⟩, ?_⟩
  · exact Obl.brings (o_run 0 [] [] (fun _ _ => []) (fun _ _ => by kernel_rfl)) (fun _ _ => trivial)
  · exact Obl.brings (o_run 1 [] [] (fun _ _ => []) (fun _ _ => by kernel_rfl)) (fun _ _ => trivial)
  · exact o_new1 2 (fun _ => do pure (Next.value (← Builtin.append_ #[46, 46] 46 #[(.slice (some ⟨q, 0, none⟩) (X).length κ), (.slice (pa i) (pB i).length (pc i))]))) (fun _ z => (.slice (some ⟨z.headD 0, 0, none⟩) (X ++ (pB i)).length ((X ++ (pB i)).length + z.tail.headD 0))) (fun _ z => (.cells (grow C (X).length (bs (pB i)) (z.tail.headD 0)) 5 (0, 0))) (fun _ _ => (by kernel_rfl)) (fun _ => (by kernel_rfl)) (fun _ _ => trivial) (fun _ _ _ hG => app_growL Tryd.underlying46 u8i (hG.known (g := q) (o := (.cells C 5 (0, 0))) 0 (by kernel_rfl) (by kernel_rfl)) (Bs.src (tx := 46) Tryd.underlying46 (hG.facts0.now.2.1 i (by have := of_decide_eq_true hb2; have := of_decide_eq_false hb3; have := hl; have := hn; have := hi; omega))) hs hle (Nat.lt_of_not_le (of_decide_eq_false hb3)) ((by have h1 := (catB_next pB (show i < n by have := of_decide_eq_true hb2; have := of_decide_eq_false hb3; have := hl; have := hn; have := hi; omega)); rw [← hX] at h1; exact Nat.le_trans h1 hl)))
  · exact Obl.brings (o_run 3 [] [] (fun _ _ => []) (fun _ _ => by kernel_rfl)) (fun _ _ => trivial)
theorem shrow_any_r14 (g : Nat) (n : Nat) (pB : Nat → List UInt8) (hn : n ≤ 16) (hl : (catB pB n).length ≤ 140737488351232) (i : Nat) (q : Nat) (X : List UInt8) (C : Array Value) (κ : Nat) (hi : i ≤ n) (hb2 : (decide (((i : Nat) : Int) < ((n : Nat) : Int))) = true) (hb3 : (decide ((X).length + (pB i).length ≤ κ)) = false) (ρ13 : Nat → Orc) (w0 : World) (F : World → Prop) : Reg Tryd.prog 6 (regOps Tryd.f74 6) false 17 [(2, (.slice none 0 0)), (3, (.slice (some ⟨nb ρ13 2, 0, none⟩) (X ++ (pB i)).length ((X ++ (pB i)).length + nb2 ρ13 2))), (6, (.slice (some ⟨g, 0, none⟩) n n)), (7, (.int .i64 ((n : Nat) : Int))), (8, (.int .i64 ((i : Nat) : Int)))] w0 [(q, (.cells C 5 (0, 0))), (nb ρ13 2, (.cells (grow C (X).length (bs (pB i)) (nb2 ρ13 2)) 5 (0, 0)))] F
    (fun _ => [(2, (.slice none 0 0)), (3, (.slice (some ⟨nb ρ13 2, 0, none⟩) (X ++ (pB i)).length ((X ++ (pB i)).length + nb2 ρ13 2))), (6, (.slice (some ⟨g, 0, none⟩) n n)), (7, (.int .i64 ((n : Nat) : Int))), (8, (.int .i64 ((i + 1 : Nat) : Int)))])
    (fun _ => [(q, (.cells C 5 (0, 0))), (nb ρ13 2, (.cells (grow C (X).length (bs (pB i)) (nb2 ρ13 2)) 5 (0, 0)))]) := by
  refine reg_seq [0, 1] [2, 3, 6, 7, 8] 2
    (fun _ ι => ([(.int .i64 ((i + 1 : Nat) : Int)), (.int .i64 ((i + 1 : Nat) : Int))] : List Value).getD ι undef)
    (fun _ ι => ([{}, {}] : List Eff).getD ι {})
    (by kernel_rfl) (by kernel_rfl) (fun _ => by kernel_rfl) (fun _ => by kernel_rfl) ⟨⟨trivial, ?_⟩, ?_⟩
  · exact o_as 0 (fun _ => (.int .i64 (IntKind.i64.wrap (((i : Nat) : Int) + 1)))) (fun _ => (.int .i64 ((i + 1 : Nat) : Int))) (fun _ _ => by kernel_rfl) (fun _ => congrArg (Value.int .i64) (wrap_addN i 1 (by have := of_decide_eq_true hb2; have := of_decide_eq_false hb3; have := hl; have := hn; have := hi; omega)))
  · exact o_run 1 [] [] (fun _ _ => []) (fun _ _ => by kernel_rfl)
theorem shrow_any_r15 (g : Nat) (n : Nat) (i : Nat) (q : Nat) (X : List UInt8) (C : Array Value) (κ : Nat) (w0 : World) (F : World → Prop) : Reg Tryd.prog 7 (regOps Tryd.f74 7) false 17 [(2, (.slice none 0 0)), (3, (.slice (some ⟨q, 0, none⟩) (X).length κ)), (6, (.slice (some ⟨g, 0, none⟩) n n)), (7, (.int .i64 ((n : Nat) : Int))), (8, (.int .i64 ((i : Nat) : Int))), (9, (.bool false))] w0 [(q, (.cells C 5 (0, 0)))] F
    (fun _ => [(2, (.slice (some ⟨q, 0, none⟩) (X).length κ))])
    (fun _ => [(q, (.cells C 5 (0, 0)))]) := by
  refine reg_seq [0, 1] [2] 2
    (fun _ ι => ([(.slice (some ⟨q, 0, none⟩) (X).length κ), (.slice (some ⟨q, 0, none⟩) (X).length κ)] : List Value).getD ι undef)
    (fun _ ι => ([{}, {}] : List Eff).getD ι {})
    (by kernel_rfl) (by kernel_rfl) (fun _ => by kernel_rfl) (fun _ => by kernel_rfl) ⟨⟨trivial, ?_⟩, ?_⟩
  · exact o_run 0 [] [] (fun _ _ => []) (fun _ _ => by kernel_rfl)
  · exact o_run 1 [] [] (fun _ _ => []) (fun _ _ => by kernel_rfl)
theorem shrow_any (g : Nat) (n : Nat) (pa : Nat → Option Addr) (pc : Nat → Nat) (pB : Nat → List UInt8) (hn : n ≤ 16) (hl : (catB pB n).length ≤ 140737488351232) (h0 : 0 < (pB 0).length) (w0 : World) (hf0 : Kb w0 g (rowS n pa pc pB)) (hf1 : AllB w0 n pa pc pB) : Calls Tryd.prog 74 #[(.slice (some ⟨g, 0, none⟩) n n)] w0 (fun ε w' => ∃ α κ, ε = .returned (.slice α (catB pB n).length κ) ∧ Below w0.heap.size w0 w' ∧ Fs w0 w' α κ (catB pB n)) := by
  refine Calls.of_ok (n := 17) (F := (fun w => Kb w g (rowS n pa pc pB) ∧ AllB w n pa pc pB ∧ True)) Tryd.func74 rfl rfl rfl (by simp) (hf0.pers0.and (hf1.pers0.and persT)) ?_
  refine ok_seq_r (by kernel_rfl) (shrow_any_r1 g n _ _) (fun _ => ?_)
  refine ok_seq_r (by kernel_rfl) (shrow_any_r2 g n _ _) (fun _ => ?_)
  refine ok_seq ?_
  refine ok_seq_r (by kernel_rfl) (shrow_any_r3 g n _ _) (fun _ => ?_)
  refine ok_block ?_
  refine ok_loop (σ := (Nat) ⊕ (Nat × Nat × (List UInt8) × (Array Value) × Nat)) (fun s => match s with | Sum.inl i => [(2, (.slice none 0 0)), (3, (.slice none 0 0)), (6, (.slice (some ⟨g, 0, none⟩) n n)), (7, (.int .i64 ((n : Nat) : Int))), (8, (.int .i64 ((i : Nat) : Int)))] | Sum.inr ⟨i, q, X, _, κ⟩ => [(2, (.slice none 0 0)), (3, (.slice (some ⟨q, 0, none⟩) (X).length κ)), (6, (.slice (some ⟨g, 0, none⟩) n n)), (7, (.int .i64 ((n : Nat) : Int))), (8, (.int .i64 ((i : Nat) : Int)))]) (fun s => match s with | Sum.inl _ => [] | Sum.inr ⟨_, q, _, C, _⟩ => [(q, (.cells C 5 (0, 0)))]) (fun s => match s with | Sum.inl i => n - i | Sum.inr ⟨i, _, _, _, _⟩ => n - i)
    (fun s => match s with | Sum.inl i => (i ≤ n) ∧ (i = 0) | Sum.inr ⟨i, _, X, C, κ⟩ => (i ≤ n) ∧ (X = catB pB i) ∧ (Hd C X) ∧ (C.size = κ) ∧ (X.length ≤ κ)) (Sum.inl 0) (⟨Nat.zero_le _, rfl⟩) (by kernel_rfl) .slnil ?_
  rintro (i | ⟨i, q, X, C, κ⟩)
  ·
    rintro ⟨hi, h0i⟩
    change Ok Tryd.prog _ _ 17 [(2, (.slice none 0 0)), (3, (.slice none 0 0)), (6, (.slice (some ⟨g, 0, none⟩) n n)), (7, (.int .i64 ((n : Nat) : Int))), (8, (.int .i64 ((i : Nat) : Int)))] _ [] (fun w => Kb w g (rowS n pa pc pB) ∧ AllB w n pa pc pB ∧ True)
    refine ok_seq_r (by kernel_rfl) (shrow_any_r4 g n i _ _) (fun _ => ?_)
    refine ok_seq ?_
    refine ok_cond (b := decide (((i : Nat) : Int) < ((n : Nat) : Int))) (by kernel_rfl) (fun hb1 => ?_) (fun hb1 => ?_)
    ·
      rw [hb1]
      refine ok_skip ?_
      refine mt_then ?_
      refine ok_seq ?_
      refine ok_block ?_
      refine ok_seq_rf (by kernel_rfl) (shrow_any_r5 g n pa pc pB hn hl i hi h0i hb1 _) (fun _ => ?_)
      refine ok_rf (by kernel_rfl) (shrow_any_r6 g n pa pc pB hn hl h0 i hi h0i hb1 _) (fun ρ6 => ?_)
      refine mt_block_n ?_
      refine mt_then ?_
      refine ok_r (by kernel_rfl) (shrow_any_r7 g n pB hn hl i hi h0i hb1 ρ6 _ _) (fun _ => ?_)
      exact mt_round (Sum.inr (i + 1, nb ρ6 2, pB i, (bs (pB i)).toArray ++ zB (nb2 ρ6 2), (pB i).length + nb2 ρ6 2)) (by show n - (i + 1) < n - i; have := of_decide_eq_true hb1; have := hl; have := hn; have := hi; have := h0i; omega) (⟨(by have := of_decide_eq_true hb1; have := hl; have := hn; have := hi; have := h0i; omega), (by rw [h0i]; rfl), (Hd.fresh _ _), (fresh_size _ _), (Nat.le_add_right _ _)⟩) (by kernel_rfl) (.cons_cons _ .slnil)
    ·
      rw [hb1]
      refine ok_exit ?_
      refine mt_then_e ?_
      refine mt_then_e ?_
      refine mt_block_h ?_
      refine mt_then ?_
      refine ok_seq_r (by kernel_rfl) (shrow_any_r8 g n i _ _) (fun _ => ?_)
      refine ok_ret ?_
      exact meets_ret (v := (.slice none 0 0)) [] (dup []) (by kernel_rfl) (by kernel_rfl) (eqs_dup _) (fun _ hS => ⟨none, 0, congrArg Ending.returned (by rw [← (show ([] : List UInt8) = catB pB n by rw [show n = 0 by have := of_decide_eq_false hb1; have := hl; have := hn; have := hi; have := h0i; omega]; rfl)]; rfl), hS.below, fs_eq ((show ([] : List UInt8) = catB pB n by rw [show n = 0 by have := of_decide_eq_false hb1; have := hl; have := hn; have := hi; have := h0i; omega]; rfl)) Fs.nil⟩)
  ·
    rintro ⟨hi, hX, hC, hs, hle⟩
    change Ok Tryd.prog _ _ 17 [(2, (.slice none 0 0)), (3, (.slice (some ⟨q, 0, none⟩) (X).length κ)), (6, (.slice (some ⟨g, 0, none⟩) n n)), (7, (.int .i64 ((n : Nat) : Int))), (8, (.int .i64 ((i : Nat) : Int)))] _ [(q, (.cells C 5 (0, 0)))] (fun w => Kb w g (rowS n pa pc pB) ∧ AllB w n pa pc pB ∧ True)
    refine ok_seq_r (by kernel_rfl) (shrow_any_r9 g n i q X C κ _ _) (fun _ => ?_)
    refine ok_seq ?_
    refine ok_cond (b := decide (((i : Nat) : Int) < ((n : Nat) : Int))) (by kernel_rfl) (fun hb2 => ?_) (fun hb2 => ?_)
    ·
      rw [hb2]
      refine ok_skip ?_
      refine mt_then ?_
      refine ok_seq ?_
      refine ok_block ?_
      refine ok_seq_rf (by kernel_rfl) (shrow_any_r10 g n pa pc pB hn hl i q X C κ hi hb2 _) (fun _ => ?_)
      rcases Bool.eq_false_or_eq_true (decide ((X).length + (pB i).length ≤ κ)) with hb3 | hb3
      ·
        refine ok_rf (by kernel_rfl) (shrow_any_r11 g n pa pc pB hn hl i q X C κ hi hs hb2 hb3 _) (fun _ => ?_)
        refine mt_block_n ?_
        refine mt_then ?_
        refine ok_r (by kernel_rfl) (shrow_any_r12 g n pB hn hl i q X C κ hi hb2 hb3 _ _) (fun _ => ?_)
        exact mt_round (Sum.inr (i + 1, q, X ++ (pB i), inpl C (X).length (bs (pB i)), κ)) (by show n - (i + 1) < n - i; have := of_decide_eq_true hb2; have := of_decide_eq_true hb3; have := hl; have := hn; have := hi; omega) (⟨(by have := of_decide_eq_true hb2; have := of_decide_eq_true hb3; have := hl; have := hn; have := hi; omega), (by rw [hX]; rfl), (Hd.inpl hC rfl), ((inpl_size _ _ _ (room_le hs (of_decide_eq_true hb3))).trans hs), (len_app (of_decide_eq_true hb3))⟩) (by kernel_rfl) (.cons_cons _ .slnil)
      ·
        refine ok_rf (by kernel_rfl) (shrow_any_r13 g n pa pc pB hn hl i q X C κ hi hX hs hle hb2 hb3 _) (fun ρ13 => ?_)
        refine mt_block_n ?_
        refine mt_then ?_
        refine ok_r (by kernel_rfl) (shrow_any_r14 g n pB hn hl i q X C κ hi hb2 hb3 ρ13 _ _) (fun _ => ?_)
        exact mt_round (Sum.inr (i + 1, nb ρ13 2, X ++ (pB i), grow C (X).length (bs (pB i)) (nb2 ρ13 2), (X ++ (pB i)).length + nb2 ρ13 2)) (by show n - (i + 1) < n - i; have := of_decide_eq_true hb2; have := of_decide_eq_false hb3; have := hl; have := hn; have := hi; omega) (⟨(by have := of_decide_eq_true hb2; have := of_decide_eq_false hb3; have := hl; have := hn; have := hi; omega), (by rw [hX]; rfl), (Hd.grow hC rfl), (grow_sizeL hC), (Nat.le_add_right _ _)⟩) (by kernel_rfl) (.cons _ (.cons_cons _ .slnil))
    ·
      rw [hb2]
      refine ok_exit ?_
      refine mt_then_e ?_
      refine mt_then_e ?_
      refine mt_block_h ?_
      refine mt_then ?_
      refine ok_seq_r (by kernel_rfl) (shrow_any_r15 g n i q X C κ _ _) (fun _ => ?_)
      refine ok_ret ?_
      exact meets_ret (v := (.slice (some ⟨q, 0, none⟩) (X).length κ)) [] (dup []) (by kernel_rfl) (by kernel_rfl) (eqs_dup _) (fun _ hS => ⟨(some ⟨q, 0, none⟩), κ, congrArg Ending.returned (by rw [← (show X = catB pB n from hX.trans (by rw [show i = n by have := of_decide_eq_false hb2; have := hl; have := hn; have := hi; omega]))]), hS.below, fs_eq ((show X = catB pB n from hX.trans (by rw [show i = n by have := of_decide_eq_false hb2; have := hl; have := hn; have := hi; omega]))) (hS.fresh (.head _) hC hle (by rw [hX]; exact Nat.le_trans (catB_le pB hi) hl))⟩)
theorem sgrow_any_r1 (g : Nat) (n : Nat) (w0 : World) (F : World → Prop) : Reg Tryd.prog 0 (regOps Tryd.f45 0) false 17 [(0, (.slice (some ⟨g, 0, none⟩) n n))] w0 [] F
    (fun _ => [(0, (.slice (some ⟨g, 0, none⟩) n n)), (2, (.slice none 0 0))])
    (fun _ => []) := by
  refine reg_seq [0] [0, 2] 1
    (fun _ ι => ([(.slice none 0 0)] : List Value).getD ι undef)
    (fun _ ι => ([{}] : List Eff).getD ι {})
    (by kernel_rfl) (by kernel_rfl) (fun _ => by kernel_rfl) (fun _ => by kernel_rfl) ⟨trivial, ?_⟩
  · exact o_run 0 [] [] (fun _ _ => []) (fun _ _ => by kernel_rfl)
theorem sgrow_any_r2 (g : Nat) (n : Nat) (w0 : World) (F : World → Prop) : Reg Tryd.prog 1 (regOps Tryd.f45 1) false 17 [(0, (.slice (some ⟨g, 0, none⟩) n n)), (2, (.slice none 0 0))] w0 [] F
    (fun _ => [(0, (.slice (some ⟨g, 0, none⟩) n n)), (2, (.slice none 0 0)), (3, (.slice none 0 0))])
    (fun _ => []) := by
  refine reg_seq [0] [0, 2, 3] 1
    (fun _ ι => ([(.slice none 0 0)] : List Value).getD ι undef)
    (fun _ ι => ([{}] : List Eff).getD ι {})
    (by kernel_rfl) (by kernel_rfl) (fun _ => by kernel_rfl) (fun _ => by kernel_rfl) ⟨trivial, ?_⟩
  · exact o_run 0 [] [] (fun _ _ => []) (fun _ _ => by kernel_rfl)
theorem sgrow_any_r3 (g : Nat) (n : Nat) (w0 : World) (F : World → Prop) : Reg Tryd.prog 2 (regOps Tryd.f45 2) false 17 [(0, (.slice (some ⟨g, 0, none⟩) n n)), (2, (.slice none 0 0)), (3, (.slice none 0 0))] w0 [] F
    (fun _ => [(2, (.slice none 0 0)), (3, (.slice none 0 0)), (6, (.slice (some ⟨g, 0, none⟩) n n)), (7, (.int .i64 ((n : Nat) : Int))), (8, (.int .i64 0))])
    (fun _ => []) := by
  refine reg_seq [0, 1, 3] [2, 3, 6, 7, 8] 3
    (fun _ ι => ([(.slice (some ⟨g, 0, none⟩) n n), (.int .i64 ((n : Nat) : Int)), (.int .i64 0)] : List Value).getD ι undef)
    (fun _ ι => ([{}, {}, {}] : List Eff).getD ι {})
    (by kernel_rfl) (by kernel_rfl) (fun _ => by kernel_rfl) (fun _ => by kernel_rfl) ⟨⟨⟨trivial, ?_⟩, ?_⟩, ?_⟩
  · exact o_run 0 [] [] (fun _ _ => []) (fun _ _ => by kernel_rfl)
  · exact o_run 1 [] [] (fun _ _ => []) (fun _ _ => by kernel_rfl)
  · exact o_run 2 [] [] (fun _ _ => []) (fun _ _ => by kernel_rfl)
theorem sgrow_any_r4 (g : Nat) (n : Nat) (i : Nat) (w0 : World) (F : World → Prop) : Reg Tryd.prog 3 (regOps Tryd.f45 3) false 17 [(2, (.slice none 0 0)), (3, (.slice none 0 0)), (6, (.slice (some ⟨g, 0, none⟩) n n)), (7, (.int .i64 ((n : Nat) : Int))), (8, (.int .i64 ((i : Nat) : Int)))] w0 [] F
    (fun _ => [(2, (.slice none 0 0)), (3, (.slice none 0 0)), (6, (.slice (some ⟨g, 0, none⟩) n n)), (7, (.int .i64 ((n : Nat) : Int))), (8, (.int .i64 ((i : Nat) : Int))), (9, (.bool (decide (((i : Nat) : Int) < ((n : Nat) : Int)))))])
    (fun _ => []) := by
  refine reg_seq [0] [2, 3, 6, 7, 8, 9] 1
    (fun _ ι => ([(.bool (decide (((i : Nat) : Int) < ((n : Nat) : Int))))] : List Value).getD ι undef)
    (fun _ ι => ([{}] : List Eff).getD ι {})
    (by kernel_rfl) (by kernel_rfl) (fun _ => by kernel_rfl) (fun _ => by kernel_rfl) ⟨trivial, ?_⟩
  · exact o_run 0 [] [] (fun _ _ => []) (fun _ _ => by kernel_rfl)
theorem sgrow_any_r5 (g : Nat) (n : Nat) (pA : Nat → Nat) (hn : n ≤ 16) (hl : (catB (fun k => hL (pA k)) n).length ≤ 140737488351232) (i : Nat) (hi : i ≤ n) (h0i : i = 0) (hb1 : (decide (((i : Nat) : Int) < ((n : Nat) : Int))) = true) (w0 : World) : RegF Tryd.prog 4 (regOps Tryd.f45 4) false 17 [(2, (.slice none 0 0)), (3, (.slice none 0 0)), (6, (.slice (some ⟨g, 0, none⟩) n n)), (7, (.int .i64 ((n : Nat) : Int))), (8, (.int .i64 ((i : Nat) : Int))), (9, (.bool true))] w0 [] (fun w => Kb w g (rowH n pA) ∧ True)
    (fun ρ => [(2, (.slice none 0 0)), (3, (.slice none 0 0)), (5, (pt (nb ρ 2))), (6, (.slice (some ⟨g, 0, none⟩) n n)), (7, (.int .i64 ((n : Nat) : Int))), (8, (.int .i64 ((i : Nat) : Int)))])
    (fun ρ => [(nb ρ 2, (.cells (hB (pA i)) 26 (0, 0)))]) (fun _ => (fun w => Kb w g (rowH n pA) ∧ True)) := by
  refine reg_seq_f [0, 1, 3, 7] [2, 3, 5, 6, 7, 8] 4
    (fun ρ ι => ([(.pointer (some ⟨g, i * 32, none⟩)), (.agg (hB (pA i))), (pt (nb ρ 2)), undef] : List Value).getD ι undef)
    (fun ρ ι => ([{}, {}, { news := [(nb ρ 2, (.cells (hB 0) 26 (0, 0)))] }, { puts := [(16, (.cells (hB (pA i)) 26 (0, 0)))] }] : List Eff).getD ι {})
    (fun _ ι => ([(fun _ => True), (fun _ => True), (fun _ => True), (fun _ => True)] : List (World → Prop)).getD ι (fun _ => True))
    (by kernel_rfl) (by kernel_rfl) (fun _ => by kernel_rfl) (fun _ => by kernel_rfl) (fun _ _ hF _ => ⟨hF.1, trivial⟩) ⟨⟨⟨⟨trivial, ?_⟩, ?_⟩, ?_⟩, ?_⟩
  · exact Obl.brings (o_sem 0 (fun _ => do pure (Next.value (← Instr.indexAt 66 (.slice (some ⟨g, 0, none⟩) n n) (.int .i64 ((i : Nat) : Int))))) (fun _ => (.pointer (some ⟨g, i * 32, none⟩))) (fun _ => (by kernel_rfl)) (fun _ => (by kernel_rfl)) (fun _ w => idx_rowN Tryd.underlying66 Tryd.sizeOf26 ((show ((i : Nat) : Int) = ((i : Nat) : Int) ∧ i < n from ⟨rfl, (by have := of_decide_eq_true hb1; have := hl; have := hn; have := hi; have := h0i; omega)⟩)).1 ((show ((i : Nat) : Int) = ((i : Nat) : Int) ∧ i < n from ⟨rfl, (by have := of_decide_eq_true hb1; have := hl; have := hn; have := hi; have := h0i; omega)⟩)).2 w)) (fun _ _ => trivial)
  · exact o_semF 1 (fun _ => do pure (Next.value (← Instr.loadAt 26 (.pointer (some ⟨g, i * 32, none⟩))))) (fun _ => (.agg (hB (pA i)))) (fun _ => (by kernel_rfl)) (fun _ => (by kernel_rfl)) (fun _ _ _ hG => ld_hash Tryd.isAgg26 Tryd.sizeOf26 (hG.facts0.now.1) (fun _ hj => rowH_get (by have := of_decide_eq_true hb1; have := hl; have := hn; have := hi; have := h0i; omega) hj)) (fun _ _ _ _ => persT)
  · exact Obl.brings (o_run 2 [] [] (fun _ _ => []) (fun _ _ => by kernel_rfl)) (fun _ _ => trivial)
  · exact Obl.brings (o_run 3 [16] [] (fun ρ _ => [nb ρ 2, nb ρ 2, nb ρ 2, nb ρ 2, nb ρ 2, nb ρ 2, nb ρ 2, nb ρ 2, nb ρ 2, nb ρ 2, nb ρ 2, nb ρ 2, nb ρ 2, nb ρ 2, nb ρ 2, nb ρ 2, nb ρ 2, nb ρ 2, nb ρ 2, nb ρ 2, nb ρ 2, nb ρ 2, nb ρ 2, nb ρ 2, nb ρ 2, nb ρ 2, nb ρ 2, nb ρ 2, nb ρ 2, nb ρ 2, nb ρ 2, nb ρ 2]) (fun _ _ => by kernel_rfl)) (fun _ _ => trivial)
theorem sgrow_any_r6 (g : Nat) (n : Nat) (pA : Nat → Nat) (hn : n ≤ 16) (hl : (catB (fun k => hL (pA k)) n).length ≤ 140737488351232) (i : Nat) (hi : i ≤ n) (h0i : i = 0) (hb1 : (decide (((i : Nat) : Int) < ((n : Nat) : Int))) = true) (ρ5 : Nat → Orc) (w0 : World) : RegF Tryd.prog 5 (regOps Tryd.f45 5) false 17 [(2, (.slice none 0 0)), (3, (.slice none 0 0)), (5, (pt (nb ρ5 2))), (6, (.slice (some ⟨g, 0, none⟩) n n)), (7, (.int .i64 ((n : Nat) : Int))), (8, (.int .i64 ((i : Nat) : Int)))] w0 [(nb ρ5 2, (.cells (hB (pA i)) 26 (0, 0)))] (fun w => Kb w g (rowH n pA) ∧ True)
    (fun ρ => [(2, (.slice none 0 0)), (3, (.slice (some ⟨nb ρ 2, 0, none⟩) (hL (pA i)).length ((hL (pA i)).length + nb2 ρ 2))), (6, (.slice (some ⟨g, 0, none⟩) n n)), (7, (.int .i64 ((n : Nat) : Int))), (8, (.int .i64 ((i : Nat) : Int)))])
    (fun ρ => [(nb ρ5 2, (.cells (hB (pA i)) 26 (0, 0))), (nb ρ 2, (.cells ((bs (hL (pA i))).toArray ++ zB (nb2 ρ 2)) 5 (0, 0)))]) (fun _ => (fun w => Kb w g (rowH n pA) ∧ True)) := by
  refine reg_seq_f [0, 1, 3, 7] [2, 3, 6, 7, 8] 4
    (fun ρ ι => ([(.slice none 0 0), (.slice (some ⟨nb ρ5 2, 0, none⟩) (hL (pA i)).length 32), (.slice (some ⟨nb ρ 2, 0, none⟩) (hL (pA i)).length ((hL (pA i)).length + nb2 ρ 2)), (.slice (some ⟨nb ρ 2, 0, none⟩) (hL (pA i)).length ((hL (pA i)).length + nb2 ρ 2))] : List Value).getD ι undef)
    (fun ρ ι => ([{}, {}, { news := [(nb ρ 2, (.cells ((bs (hL (pA i))).toArray ++ zB (nb2 ρ 2)) 5 (0, 0)))] }, {}] : List Eff).getD ι {})
    (fun _ ι => ([(fun _ => True), (fun _ => True), (fun _ => True), (fun _ => True)] : List (World → Prop)).getD ι (fun _ => True))
    (by kernel_rfl) (by kernel_rfl) (fun _ => by kernel_rfl) (fun _ => by kernel_rfl) (fun _ _ hF _ => ⟨hF.1, trivial⟩) ⟨⟨⟨⟨trivial, ?_⟩, ?_⟩, ?_⟩, ?_⟩
  · exact Obl.brings (o_run 0 [] [] (fun _ _ => []) (fun _ _ => by kernel_rfl)) (fun _ _ => trivial)
  · exact Obl.brings (o_run 1 [] [] (fun _ _ => []) (fun _ _ => by kernel_rfl)) (fun _ _ => trivial)
  · exact o_new1 2 (fun _ => do pure (Next.value (← Builtin.append_ #[46, 46] 46 #[(.slice none 0 0), (.slice (some ⟨nb ρ5 2, 0, none⟩) (hL (pA i)).length 32)]))) (fun _ z => (.slice (some ⟨z.headD 0, 0, none⟩) (hL (pA i)).length ((hL (pA i)).length + z.tail.headD 0))) (fun _ z => (.cells ((bs (hL (pA i))).toArray ++ zB (z.tail.headD 0)) 5 (0, 0))) (fun _ _ => (by kernel_rfl)) (fun _ => (by kernel_rfl)) (fun _ _ => trivial) (fun _ _ _ hG => app_nilL Tryd.underlying46 u8i (Bs.src (tx := 46) Tryd.underlying46 (Bs.of_hd (c := 32) (hG.known (g := nb ρ5 2) (o := (.cells (hB (pA i)) 26 (0, 0))) 0 (by kernel_rfl) (by kernel_rfl)) (hd_hB _) (Nat.le_refl _) (Nat.le_of_ble_eq_true rfl))) ((by rw [h0i]; exact (by rw [hL_length]; decide))) ((by have h1 := (catB_next (fun k => hL (pA k)) (show i < n by have := of_decide_eq_true hb1; have := hl; have := hn; have := hi; have := h0i; omega)); have := hl; omega)))
  · exact Obl.brings (o_run 3 [] [] (fun _ _ => []) (fun _ _ => by kernel_rfl)) (fun _ _ => trivial)
theorem sgrow_any_r7 (g : Nat) (n : Nat) (pA : Nat → Nat) (hn : n ≤ 16) (hl : (catB (fun k => hL (pA k)) n).length ≤ 140737488351232) (i : Nat) (hi : i ≤ n) (h0i : i = 0) (hb1 : (decide (((i : Nat) : Int) < ((n : Nat) : Int))) = true) (ρ5 : Nat → Orc) (ρ6 : Nat → Orc) (w0 : World) (F : World → Prop) : Reg Tryd.prog 6 (regOps Tryd.f45 6) false 17 [(2, (.slice none 0 0)), (3, (.slice (some ⟨nb ρ6 2, 0, none⟩) (hL (pA i)).length ((hL (pA i)).length + nb2 ρ6 2))), (6, (.slice (some ⟨g, 0, none⟩) n n)), (7, (.int .i64 ((n : Nat) : Int))), (8, (.int .i64 ((i : Nat) : Int)))] w0 [(nb ρ5 2, (.cells (hB (pA i)) 26 (0, 0))), (nb ρ6 2, (.cells ((bs (hL (pA i))).toArray ++ zB (nb2 ρ6 2)) 5 (0, 0)))] F
    (fun _ => [(2, (.slice none 0 0)), (3, (.slice (some ⟨nb ρ6 2, 0, none⟩) (hL (pA i)).length ((hL (pA i)).length + nb2 ρ6 2))), (6, (.slice (some ⟨g, 0, none⟩) n n)), (7, (.int .i64 ((n : Nat) : Int))), (8, (.int .i64 ((i + 1 : Nat) : Int)))])
    (fun _ => [(nb ρ5 2, (.cells (hB (pA i)) 26 (0, 0))), (nb ρ6 2, (.cells ((bs (hL (pA i))).toArray ++ zB (nb2 ρ6 2)) 5 (0, 0)))]) := by
  refine reg_seq [0, 1] [2, 3, 6, 7, 8] 2
    (fun _ ι => ([(.int .i64 ((i + 1 : Nat) : Int)), (.int .i64 ((i + 1 : Nat) : Int))] : List Value).getD ι undef)
    (fun _ ι => ([{}, {}] : List Eff).getD ι {})
    (by kernel_rfl) (by kernel_rfl) (fun _ => by kernel_rfl) (fun _ => by kernel_rfl) ⟨⟨trivial, ?_⟩, ?_⟩
  · exact o_as 0 (fun _ => (.int .i64 (IntKind.i64.wrap (((i : Nat) : Int) + 1)))) (fun _ => (.int .i64 ((i + 1 : Nat) : Int))) (fun _ _ => by kernel_rfl) (fun _ => congrArg (Value.int .i64) (wrap_addN i 1 (by have := of_decide_eq_true hb1; have := hl; have := hn; have := hi; have := h0i; omega)))
  · exact o_run 1 [] [] (fun _ _ => []) (fun _ _ => by kernel_rfl)
theorem sgrow_any_r8 (g : Nat) (n : Nat) (i : Nat) (w0 : World) (F : World → Prop) : Reg Tryd.prog 7 (regOps Tryd.f45 7) false 17 [(2, (.slice none 0 0)), (3, (.slice none 0 0)), (6, (.slice (some ⟨g, 0, none⟩) n n)), (7, (.int .i64 ((n : Nat) : Int))), (8, (.int .i64 ((i : Nat) : Int))), (9, (.bool false))] w0 [] F
    (fun _ => [(2, (.slice none 0 0))])
    (fun _ => []) := by
  refine reg_seq [0, 1] [2] 2
    (fun _ ι => ([(.slice none 0 0), (.slice none 0 0)] : List Value).getD ι undef)
    (fun _ ι => ([{}, {}] : List Eff).getD ι {})
    (by kernel_rfl) (by kernel_rfl) (fun _ => by kernel_rfl) (fun _ => by kernel_rfl) ⟨⟨trivial, ?_⟩, ?_⟩
  · exact o_run 0 [] [] (fun _ _ => []) (fun _ _ => by kernel_rfl)
  · exact o_run 1 [] [] (fun _ _ => []) (fun _ _ => by kernel_rfl)
theorem sgrow_any_r9 (g : Nat) (n : Nat) (i : Nat) (q : Nat) (X : List UInt8) (C : Array Value) (κ : Nat) (w0 : World) (F : World → Prop) : Reg Tryd.prog 3 (regOps Tryd.f45 3) false 17 [(2, (.slice none 0 0)), (3, (.slice (some ⟨q, 0, none⟩) (X).length κ)), (6, (.slice (some ⟨g, 0, none⟩) n n)), (7, (.int .i64 ((n : Nat) : Int))), (8, (.int .i64 ((i : Nat) : Int)))] w0 [(q, (.cells C 5 (0, 0)))] F
    (fun _ => [(2, (.slice none 0 0)), (3, (.slice (some ⟨q, 0, none⟩) (X).length κ)), (6, (.slice (some ⟨g, 0, none⟩) n n)), (7, (.int .i64 ((n : Nat) : Int))), (8, (.int .i64 ((i : Nat) : Int))), (9, (.bool (decide (((i : Nat) : Int) < ((n : Nat) : Int)))))])
    (fun _ => [(q, (.cells C 5 (0, 0)))]) := by
  refine reg_seq [0] [2, 3, 6, 7, 8, 9] 1
    (fun _ ι => ([(.bool (decide (((i : Nat) : Int) < ((n : Nat) : Int))))] : List Value).getD ι undef)
    (fun _ ι => ([{}] : List Eff).getD ι {})
    (by kernel_rfl) (by kernel_rfl) (fun _ => by kernel_rfl) (fun _ => by kernel_rfl) ⟨trivial, ?_⟩
  · exact o_run 0 [] [] (fun _ _ => []) (fun _ _ => by kernel_rfl)
theorem sgrow_any_r10 (g : Nat) (n : Nat) (pA : Nat → Nat) (hn : n ≤ 16) (hl : (catB (fun k => hL (pA k)) n).length ≤ 140737488351232) (i : Nat) (q : Nat) (X : List UInt8) (C : Array Value) (κ : Nat) (hi : i ≤ n) (hb2 : (decide (((i : Nat) : Int) < ((n : Nat) : Int))) = true) (w0 : World) : RegF Tryd.prog 4 (regOps Tryd.f45 4) false 17 [(2, (.slice none 0 0)), (3, (.slice (some ⟨q, 0, none⟩) (X).length κ)), (6, (.slice (some ⟨g, 0, none⟩) n n)), (7, (.int .i64 ((n : Nat) : Int))), (8, (.int .i64 ((i : Nat) : Int))), (9, (.bool true))] w0 [(q, (.cells C 5 (0, 0)))] (fun w => Kb w g (rowH n pA) ∧ True)
    (fun ρ => [(2, (.slice none 0 0)), (3, (.slice (some ⟨q, 0, none⟩) (X).length κ)), (5, (pt (nb ρ 2))), (6, (.slice (some ⟨g, 0, none⟩) n n)), (7, (.int .i64 ((n : Nat) : Int))), (8, (.int .i64 ((i : Nat) : Int)))])
    (fun ρ => [(q, (.cells C 5 (0, 0))), (nb ρ 2, (.cells (hB (pA i)) 26 (0, 0)))]) (fun _ => (fun w => Kb w g (rowH n pA) ∧ True)) := by
  refine reg_seq_f [0, 1, 3, 7] [2, 3, 5, 6, 7, 8] 4
    (fun ρ ι => ([(.pointer (some ⟨g, i * 32, none⟩)), (.agg (hB (pA i))), (pt (nb ρ 2)), undef] : List Value).getD ι undef)
    (fun ρ ι => ([{}, {}, { news := [(nb ρ 2, (.cells (hB 0) 26 (0, 0)))] }, { puts := [(17, (.cells (hB (pA i)) 26 (0, 0)))] }] : List Eff).getD ι {})
    (fun _ ι => ([(fun _ => True), (fun _ => True), (fun _ => True), (fun _ => True)] : List (World → Prop)).getD ι (fun _ => True))
    (by kernel_rfl) (by kernel_rfl) (fun _ => by kernel_rfl) (fun _ => by kernel_rfl) (fun _ _ hF _ => ⟨hF.1, trivial⟩) ⟨⟨⟨⟨trivial, ?_⟩, ?_⟩, ?_⟩, ?_⟩
  · exact Obl.brings (o_sem 0 (fun _ => do pure (Next.value (← Instr.indexAt 66 (.slice (some ⟨g, 0, none⟩) n n) (.int .i64 ((i : Nat) : Int))))) (fun _ => (.pointer (some ⟨g, i * 32, none⟩))) (fun _ => (by kernel_rfl)) (fun _ => (by kernel_rfl)) (fun _ w => idx_rowN Tryd.underlying66 Tryd.sizeOf26 ((show ((i : Nat) : Int) = ((i : Nat) : Int) ∧ i < n from ⟨rfl, (by have := of_decide_eq_true hb2; have := hl; have := hn; have := hi; omega)⟩)).1 ((show ((i : Nat) : Int) = ((i : Nat) : Int) ∧ i < n from ⟨rfl, (by have := of_decide_eq_true hb2; have := hl; have := hn; have := hi; omega)⟩)).2 w)) (fun _ _ => trivial)
  · exact o_semF 1 (fun _ => do pure (Next.value (← Instr.loadAt 26 (.pointer (some ⟨g, i * 32, none⟩))))) (fun _ => (.agg (hB (pA i)))) (fun _ => (by kernel_rfl)) (fun _ => (by kernel_rfl)) (fun _ _ _ hG => ld_hash Tryd.isAgg26 Tryd.sizeOf26 (hG.facts0.now.1) (fun _ hj => rowH_get (by have := of_decide_eq_true hb2; have := hl; have := hn; have := hi; omega) hj)) (fun _ _ _ _ => persT)
  · exact Obl.brings (o_run 2 [] [] (fun _ _ => []) (fun _ _ => by kernel_rfl)) (fun _ _ => trivial)
  · exact Obl.brings (o_run 3 [17] [] (fun ρ _ => [nb ρ 2, nb ρ 2, nb ρ 2, nb ρ 2, nb ρ 2, nb ρ 2, nb ρ 2, nb ρ 2, nb ρ 2, nb ρ 2, nb ρ 2, nb ρ 2, nb ρ 2, nb ρ 2, nb ρ 2, nb ρ 2, nb ρ 2, nb ρ 2, nb ρ 2, nb ρ 2, nb ρ 2, nb ρ 2, nb ρ 2, nb ρ 2, nb ρ 2, nb ρ 2, nb ρ 2, nb ρ 2, nb ρ 2, nb ρ 2, nb ρ 2, nb ρ 2]) (fun _ _ => by kernel_rfl)) (fun _ _ => trivial)
theorem sgrow_any_r11 (g : Nat) (n : Nat) (pA : Nat → Nat) (i : Nat) (q : Nat) (X : List UInt8) (C : Array Value) (κ : Nat) (hs : C.size = κ) (hb3 : (decide ((X).length + (hL (pA i)).length ≤ κ)) = true) (ρ10 : Nat → Orc) (w0 : World) : RegF Tryd.prog 5 (regOps Tryd.f45 5) false 17 [(2, (.slice none 0 0)), (3, (.slice (some ⟨q, 0, none⟩) (X).length κ)), (5, (pt (nb ρ10 2))), (6, (.slice (some ⟨g, 0, none⟩) n n)), (7, (.int .i64 ((n : Nat) : Int))), (8, (.int .i64 ((i : Nat) : Int)))] w0 [(q, (.cells C 5 (0, 0))), (nb ρ10 2, (.cells (hB (pA i)) 26 (0, 0)))] (fun w => Kb w g (rowH n pA) ∧ True)
    (fun _ => [(2, (.slice none 0 0)), (3, (.slice (some ⟨q, 0, none⟩) (X ++ (hL (pA i))).length κ)), (6, (.slice (some ⟨g, 0, none⟩) n n)), (7, (.int .i64 ((n : Nat) : Int))), (8, (.int .i64 ((i : Nat) : Int)))])
    (fun _ => [(q, (.cells (inpl C (X).length (bs (hL (pA i)))) 5 (0, 0))), (nb ρ10 2, (.cells (hB (pA i)) 26 (0, 0)))]) (fun _ => (fun w => Kb w g (rowH n pA) ∧ True)) := by
  refine reg_seq_f [0, 1, 3, 7] [2, 3, 6, 7, 8] 4
    (fun _ ι => ([(.slice (some ⟨q, 0, none⟩) (X).length κ), (.slice (some ⟨nb ρ10 2, 0, none⟩) (hL (pA i)).length 32), (.slice (some ⟨q, 0, none⟩) (X ++ (hL (pA i))).length κ), (.slice (some ⟨q, 0, none⟩) (X ++ (hL (pA i))).length κ)] : List Value).getD ι undef)
    (fun _ ι => ([{}, {}, { puts := [(0, (.cells (inpl C (X).length (bs (hL (pA i)))) 5 (0, 0)))] }, {}] : List Eff).getD ι {})
    (fun _ ι => ([(fun _ => True), (fun _ => True), (fun _ => True), (fun _ => True)] : List (World → Prop)).getD ι (fun _ => True))
    (by kernel_rfl) (by kernel_rfl) (fun _ => by kernel_rfl) (fun _ => by kernel_rfl) (fun _ _ hF _ => ⟨hF.1, trivial⟩) ⟨⟨⟨⟨trivial, ?_⟩, ?_⟩, ?_⟩, ?_⟩
  · exact Obl.brings (o_run 0 [] [] (fun _ _ => []) (fun _ _ => by kernel_rfl)) (fun _ _ => trivial)
  · exact Obl.brings (o_run 1 [] [] (fun _ _ => []) (fun _ _ => by kernel_rfl)) (fun _ _ => trivial)
  · exact o_put1 2 0 (fun _ => do pure (Next.value (← Builtin.append_ #[46, 46] 46 #[(.slice (some ⟨q, 0, none⟩) (X).length κ), (.slice (some ⟨nb ρ10 2, 0, none⟩) (hL (pA i)).length 32)]))) (fun _ => q) (fun _ => (.cells C 5 (0, 0))) (fun _ => (.cells (inpl C (X).length (bs (hL (pA i)))) 5 (0, 0))) (fun _ => (.slice (some ⟨q, 0, none⟩) (X ++ (hL (pA i))).length κ)) (fun _ => (by kernel_rfl)) (fun _ => (by kernel_rfl)) (fun _ => (by kernel_rfl)) (fun _ => (by kernel_rfl)) (fun _ _ => trivial) (fun _ _ _ hG hg => app_roomL Tryd.underlying46 u8i hg (Bs.src (tx := 46) Tryd.underlying46 (Bs.of_hd (c := 32) (hG.known (g := nb ρ10 2) (o := (.cells (hB (pA i)) 26 (0, 0))) 1 (by kernel_rfl) (by kernel_rfl)) (hd_hB _) (Nat.le_refl _) (Nat.le_of_ble_eq_true rfl))) hs (of_decide_eq_true hb3))
  · exact Obl.brings (o_run 3 [] [] (fun _ _ => []) (fun _ _ => by kernel_rfl)) (fun _ _ => trivial)
theorem sgrow_any_r12 (g : Nat) (n : Nat) (pA : Nat → Nat) (hn : n ≤ 16) (hl : (catB (fun k => hL (pA k)) n).length ≤ 140737488351232) (i : Nat) (q : Nat) (X : List UInt8) (C : Array Value) (κ : Nat) (hi : i ≤ n) (hb2 : (decide (((i : Nat) : Int) < ((n : Nat) : Int))) = true) (hb3 : (decide ((X).length + (hL (pA i)).length ≤ κ)) = true) (ρ10 : Nat → Orc) (w0 : World) (F : World → Prop) : Reg Tryd.prog 6 (regOps Tryd.f45 6) false 17 [(2, (.slice none 0 0)), (3, (.slice (some ⟨q, 0, none⟩) (X ++ (hL (pA i))).length κ)), (6, (.slice (some ⟨g, 0, none⟩) n n)), (7, (.int .i64 ((n : Nat) : Int))), (8, (.int .i64 ((i : Nat) : Int)))] w0 [(q, (.cells (inpl C (X).length (bs (hL (pA i)))) 5 (0, 0))), (nb ρ10 2, (.cells (hB (pA i)) 26 (0, 0)))] F
    (fun _ => [(2, (.slice none 0 0)), (3, (.slice (some ⟨q, 0, none⟩) (X ++ (hL (pA i))).length κ)), (6, (.slice (some ⟨g, 0, none⟩) n n)), (7, (.int .i64 ((n : Nat) : Int))), (8, (.int .i64 ((i + 1 : Nat) : Int)))])
    (fun _ => [(q, (.cells (inpl C (X).length (bs (hL (pA i)))) 5 (0, 0))), (nb ρ10 2, (.cells (hB (pA i)) 26 (0, 0)))]) := by
  refine reg_seq [0, 1] [2, 3, 6, 7, 8] 2
    (fun _ ι => ([(.int .i64 ((i + 1 : Nat) : Int)), (.int .i64 ((i + 1 : Nat) : Int))] : List Value).getD ι undef)
    (fun _ ι => ([{}, {}] : List Eff).getD ι {})
    (by kernel_rfl) (by kernel_rfl) (fun _ => by kernel_rfl) (fun _ => by kernel_rfl) ⟨⟨trivial, ?_⟩, ?_⟩
  · exact o_as 0 (fun _ => (.int .i64 (IntKind.i64.wrap (((i : Nat) : Int) + 1)))) (fun _ => (.int .i64 ((i + 1 : Nat) : Int))) (fun _ _ => by kernel_rfl) (fun _ => congrArg (Value.int .i64) (wrap_addN i 1 (by have := of_decide_eq_true hb2; have := of_decide_eq_true hb3; have := hl; have := hn; have := hi; omega)))
  · exact o_run 1 [] [] (fun _ _ => []) (fun _ _ => by kernel_rfl)
theorem sgrow_any_r13 (g : Nat) (n : Nat) (pA : Nat → Nat) (hn : n ≤ 16) (hl : (catB (fun k => hL (pA k)) n).length ≤ 140737488351232) (i : Nat) (q : Nat) (X : List UInt8) (C : Array Value) (κ : Nat) (hi : i ≤ n) (hX : X = catB (fun k => hL (pA k)) i) (hs : C.size = κ) (hle : X.length ≤ κ) (hb2 : (decide (((i : Nat) : Int) < ((n : Nat) : Int))) = true) (hb3 : (decide ((X).length + (hL (pA i)).length ≤ κ)) = false) (ρ10 : Nat → Orc) (w0 : World) : RegF Tryd.prog 5 (regOps Tryd.f45 5) false 17 [(2, (.slice none 0 0)), (3, (.slice (some ⟨q, 0, none⟩) (X).length κ)), (5, (pt (nb ρ10 2))), (6, (.slice (some ⟨g, 0, none⟩) n n)), (7, (.int .i64 ((n : Nat) : Int))), (8, (.int .i64 ((i : Nat) : Int)))] w0 [(q, (.cells C 5 (0, 0))), (nb ρ10 2, (.cells (hB (pA i)) 26 (0, 0)))] (fun w => Kb w g (rowH n pA) ∧ True)
    (fun ρ => [(2, (.slice none 0 0)), (3, (.slice (some ⟨nb ρ 2, 0, none⟩) (X ++ (hL (pA i))).length ((X ++ (hL (pA i))).length + nb2 ρ 2))), (6, (.slice (some ⟨g, 0, none⟩) n n)), (7, (.int .i64 ((n : Nat) : Int))), (8, (.int .i64 ((i : Nat) : Int)))])
    (fun ρ => [(q, (.cells C 5 (0, 0))), (nb ρ10 2, (.cells (hB (pA i)) 26 (0, 0))), (nb ρ 2, (.cells (grow C (X).length (bs (hL (pA i))) (nb2 ρ 2)) 5 (0, 0)))]) (fun _ => (fun w => Kb w g (rowH n pA) ∧ True)) := by
  refine reg_seq_f [0, 1, 3, 7] [2, 3, 6, 7, 8] 4
    (fun ρ ι => ([(.slice (some ⟨q, 0, none⟩) (X).length κ), (.slice (some ⟨nb ρ10 2, 0, none⟩) (hL (pA i)).length 32), (.slice (some ⟨nb ρ 2, 0, none⟩) (X ++ (hL (pA i))).length ((X ++ (hL (pA i))).length + nb2 ρ 2)), (.slice (some ⟨nb ρ 2, 0, none⟩) (X ++ (hL (pA i))).length ((X ++ (hL (pA i))).length + nb2 ρ 2))] : List Value).getD ι undef)
    (fun ρ ι => ([{}, {}, { news := [(nb ρ 2, (.cells (grow C (X).length (bs (hL (pA i))) (nb2 ρ 2)) 5 (0, 0)))] }, {}] : List Eff).getD ι {})
    (fun _ ι => ([(fun _ => True), (fun _ => True), (fun _ => True), (fun _ => True)] : List (World → Prop)).getD ι (fun _ => True))
    (by kernel_rfl) (by kernel_rfl) (fun _ => by kernel_rfl) (fun _ => by kernel_rfl) (fun _ _ hF _ => ⟨hF.1, trivial⟩) ⟨⟨⟨⟨trivial, ?_⟩, ?_⟩, ?_⟩, ?_⟩
  · exact Obl.brings (o_run 0 [] [] (fun _ _ => []) (fun _ _ => by kernel_rfl)) (fun _ _ => trivial)
  · exact Obl.brings (o_run 1 [] [] (fun _ _ => []) (fun _ _ => by kernel_rfl)) (fun _ _ => trivial)
  · exact o_new1 2 (fun _ => do pure (Next.value (← Builtin.append_ #[46, 46] 46 #[(.slice (some ⟨q, 0, none⟩) (X).length κ), (.slice (some ⟨nb ρ10 2, 0, none⟩) (hL (pA i)).length 32)]))) (fun _ z => (.slice (some ⟨z.headD 0, 0, none⟩) (X ++ (hL (pA i))).length ((X ++ (hL (pA i))).length + z.tail.headD 0))) (fun _ z => (.cells (grow C (X).length (bs (hL (pA i))) (z.tail.headD 0)) 5 (0, 0))) (fun _ _ => (by kernel_rfl)) (fun _ => (by kernel_rfl)) (fun _ _ => trivial) (fun _ _ _ hG => app_growL Tryd.underlying46 u8i (hG.known (g := q) (o := (.cells C 5 (0, 0))) 0 (by kernel_rfl) (by kernel_rfl)) (Bs.src (tx := 46) Tryd.underlying46 (Bs.of_hd (c := 32) (hG.known (g := nb ρ10 2) (o := (.cells (hB (pA i)) 26 (0, 0))) 1 (by kernel_rfl) (by kernel_rfl)) (hd_hB _) (Nat.le_refl _) (Nat.le_of_ble_eq_true rfl))) hs hle (Nat.lt_of_not_le (of_decide_eq_false hb3)) ((by have h1 := (catB_next (fun k => hL (pA k)) (show i < n by have := of_decide_eq_true hb2; have := of_decide_eq_false hb3; have := hl; have := hn; have := hi; omega)); rw [← hX] at h1; exact Nat.le_trans h1 hl)))
  · exact Obl.brings (o_run 3 [] [] (fun _ _ => []) (fun _ _ => by kernel_rfl)) (fun _ _ => trivial)
theorem sgrow_any_r14 (g : Nat) (n : Nat) (pA : Nat → Nat) (hn : n ≤ 16) (hl : (catB (fun k => hL (pA k)) n).length ≤ 140737488351232) (i : Nat) (q : Nat) (X : List UInt8) (C : Array Value) (κ : Nat) (hi : i ≤ n) (hb2 : (decide (((i : Nat) : Int) < ((n : Nat) : Int))) = true) (hb3 : (decide ((X).length + (hL (pA i)).length ≤ κ)) = false) (ρ10 : Nat → Orc) (ρ13 : Nat → Orc) (w0 : World) (F : World → Prop) : Reg Tryd.prog 6 (regOps Tryd.f45 6) false 17 [(2, (.slice none 0 0)), (3, (.slice (some ⟨nb ρ13 2, 0, none⟩) (X ++ (hL (pA i))).length ((X ++ (hL (pA i))).length + nb2 ρ13 2))), (6, (.slice (some ⟨g, 0, none⟩) n n)), (7, (.int .i64 ((n : Nat) : Int))), (8, (.int .i64 ((i : Nat) : Int)))] w0 [(q, (.cells C 5 (0, 0))), (nb ρ10 2, (.cells (hB (pA i)) 26 (0, 0))), (nb ρ13 2, (.cells (grow C (X).length (bs (hL (pA i))) (nb2 ρ13 2)) 5 (0, 0)))] F
    (fun _ => [(2, (.slice none 0 0)), (3, (.slice (some ⟨nb ρ13 2, 0, none⟩) (X ++ (hL (pA i))).length ((X ++ (hL (pA i))).length + nb2 ρ13 2))), (6, (.slice (some ⟨g, 0, none⟩) n n)), (7, (.int .i64 ((n : Nat) : Int))), (8, (.int .i64 ((i + 1 : Nat) : Int)))])
    (fun _ => [(q, (.cells C 5 (0, 0))), (nb ρ10 2, (.cells (hB (pA i)) 26 (0, 0))), (nb ρ13 2, (.cells (grow C (X).length (bs (hL (pA i))) (nb2 ρ13 2)) 5 (0, 0)))]) := by
  refine reg_seq [0, 1] [2, 3, 6, 7, 8] 2
    (fun _ ι => ([(.int .i64 ((i + 1 : Nat) : Int)), (.int .i64 ((i + 1 : Nat) : Int))] : List Value).getD ι undef)
    (fun _ ι => ([{}, {}] : List Eff).getD ι {})
    (by kernel_rfl) (by kernel_rfl) (fun _ => by kernel_rfl) (fun _ => by kernel_rfl) ⟨⟨trivial, ?_⟩, ?_⟩
  · exact o_as 0 (fun _ => (.int .i64 (IntKind.i64.wrap (((i : Nat) : Int) + 1)))) (fun _ => (.int .i64 ((i + 1 : Nat) : Int))) (fun _ _ => by kernel_rfl) (fun _ => congrArg (Value.int .i64) (wrap_addN i 1 (by have := of_decide_eq_true hb2; have := of_decide_eq_false hb3; have := hl; have := hn; have := hi; omega)))
  · exact o_run 1 [] [] (fun _ _ => []) (fun _ _ => by kernel_rfl)
theorem sgrow_any_r15 (g : Nat) (n : Nat) (i : Nat) (q : Nat) (X : List UInt8) (C : Array Value) (κ : Nat) (w0 : World) (F : World → Prop) : Reg Tryd.prog 7 (regOps Tryd.f45 7) false 17 [(2, (.slice none 0 0)), (3, (.slice (some ⟨q, 0, none⟩) (X).length κ)), (6, (.slice (some ⟨g, 0, none⟩) n n)), (7, (.int .i64 ((n : Nat) : Int))), (8, (.int .i64 ((i : Nat) : Int))), (9, (.bool false))] w0 [(q, (.cells C 5 (0, 0)))] F
    (fun _ => [(2, (.slice (some ⟨q, 0, none⟩) (X).length κ))])
    (fun _ => [(q, (.cells C 5 (0, 0)))]) := by
  refine reg_seq [0, 1] [2] 2
    (fun _ ι => ([(.slice (some ⟨q, 0, none⟩) (X).length κ), (.slice (some ⟨q, 0, none⟩) (X).length κ)] : List Value).getD ι undef)
    (fun _ ι => ([{}, {}] : List Eff).getD ι {})
    (by kernel_rfl) (by kernel_rfl) (fun _ => by kernel_rfl) (fun _ => by kernel_rfl) ⟨⟨trivial, ?_⟩, ?_⟩
  · exact o_run 0 [] [] (fun _ _ => []) (fun _ _ => by kernel_rfl)
  · exact o_run 1 [] [] (fun _ _ => []) (fun _ _ => by kernel_rfl)
theorem sgrow_any (g : Nat) (n : Nat) (pA : Nat → Nat) (hn : n ≤ 16) (hl : (catB (fun k => hL (pA k)) n).length ≤ 140737488351232) (_hpA : ∀ k, pA k < M) (w0 : World) (hf0 : Kb w0 g (rowH n pA)) : Calls Tryd.prog 45 #[(.slice (some ⟨g, 0, none⟩) n n)] w0 (fun ε w' => ∃ α κ, ε = .returned (.slice α (catB (fun k => hL (pA k)) n).length κ) ∧ Below w0.heap.size w0 w' ∧ Fs w0 w' α κ (catB (fun k => hL (pA k)) n)) := by
  refine Calls.of_ok (n := 17) (F := (fun w => Kb w g (rowH n pA) ∧ True)) Tryd.func45 rfl rfl rfl (by simp) (hf0.pers0.and persT) ?_
  refine ok_seq_r (by kernel_rfl) (sgrow_any_r1 g n _ _) (fun _ => ?_)
  refine ok_seq_r (by kernel_rfl) (sgrow_any_r2 g n _ _) (fun _ => ?_)
  refine ok_seq ?_
  refine ok_seq_r (by kernel_rfl) (sgrow_any_r3 g n _ _) (fun _ => ?_)
  refine ok_block ?_
  refine ok_loop (σ := (Nat) ⊕ (Nat × Nat × (List UInt8) × (Array Value) × Nat)) (fun s => match s with | Sum.inl i => [(2, (.slice none 0 0)), (3, (.slice none 0 0)), (6, (.slice (some ⟨g, 0, none⟩) n n)), (7, (.int .i64 ((n : Nat) : Int))), (8, (.int .i64 ((i : Nat) : Int)))] | Sum.inr ⟨i, q, X, _, κ⟩ => [(2, (.slice none 0 0)), (3, (.slice (some ⟨q, 0, none⟩) (X).length κ)), (6, (.slice (some ⟨g, 0, none⟩) n n)), (7, (.int .i64 ((n : Nat) : Int))), (8, (.int .i64 ((i : Nat) : Int)))]) (fun s => match s with | Sum.inl _ => [] | Sum.inr ⟨_, q, _, C, _⟩ => [(q, (.cells C 5 (0, 0)))]) (fun s => match s with | Sum.inl i => n - i | Sum.inr ⟨i, _, _, _, _⟩ => n - i)
    (fun s => match s with | Sum.inl i => (i ≤ n) ∧ (i = 0) | Sum.inr ⟨i, _, X, C, κ⟩ => (i ≤ n) ∧ (X = catB (fun k => hL (pA k)) i) ∧ (Hd C X) ∧ (C.size = κ) ∧ (X.length ≤ κ)) (Sum.inl 0) (⟨Nat.zero_le _, rfl⟩) (by kernel_rfl) .slnil ?_
  rintro (i | ⟨i, q, X, C, κ⟩)
  ·
    rintro ⟨hi, h0i⟩
    change Ok Tryd.prog _ _ 17 [(2, (.slice none 0 0)), (3, (.slice none 0 0)), (6, (.slice (some ⟨g, 0, none⟩) n n)), (7, (.int .i64 ((n : Nat) : Int))), (8, (.int .i64 ((i : Nat) : Int)))] _ [] (fun w => Kb w g (rowH n pA) ∧ True)
    refine ok_seq_r (by kernel_rfl) (sgrow_any_r4 g n i _ _) (fun _ => ?_)
    refine ok_seq ?_
    refine ok_cond (b := decide (((i : Nat) : Int) < ((n : Nat) : Int))) (by kernel_rfl) (fun hb1 => ?_) (fun hb1 => ?_)
    ·
      rw [hb1]
      refine ok_skip ?_
      refine mt_then ?_
      refine ok_seq ?_
      refine ok_block ?_
      refine ok_seq_rf (by kernel_rfl) (sgrow_any_r5 g n pA hn hl i hi h0i hb1 _) (fun ρ5 => ?_)
      refine ok_rf (by kernel_rfl) (sgrow_any_r6 g n pA hn hl i hi h0i hb1 ρ5 _) (fun ρ6 => ?_)
      refine mt_block_n ?_
      refine mt_then ?_
      refine ok_r (by kernel_rfl) (sgrow_any_r7 g n pA hn hl i hi h0i hb1 ρ5 ρ6 _ _) (fun _ => ?_)
      exact mt_round (Sum.inr (i + 1, nb ρ6 2, hL (pA i), (bs (hL (pA i))).toArray ++ zB (nb2 ρ6 2), (hL (pA i)).length + nb2 ρ6 2)) (by show n - (i + 1) < n - i; have := of_decide_eq_true hb1; have := hl; have := hn; have := hi; have := h0i; omega) (⟨(by have := of_decide_eq_true hb1; have := hl; have := hn; have := hi; have := h0i; omega), (by rw [h0i]; rfl), (Hd.fresh _ _), (fresh_size _ _), (Nat.le_add_right _ _)⟩) (by kernel_rfl) (.cons _ (.cons_cons _ .slnil))
    ·
      rw [hb1]
      refine ok_exit ?_
      refine mt_then_e ?_
      refine mt_then_e ?_
      refine mt_block_h ?_
      refine mt_then ?_
      refine ok_seq_r (by kernel_rfl) (sgrow_any_r8 g n i _ _) (fun _ => ?_)
      refine ok_ret ?_
      exact meets_ret (v := (.slice none 0 0)) [] (dup []) (by kernel_rfl) (by kernel_rfl) (eqs_dup _) (fun _ hS => ⟨none, 0, congrArg Ending.returned (by rw [← (show ([] : List UInt8) = catB (fun k => hL (pA k)) n by rw [show n = 0 by have := of_decide_eq_false hb1; have := hl; have := hn; have := hi; have := h0i; omega]; rfl)]; rfl), hS.below, fs_eq ((show ([] : List UInt8) = catB (fun k => hL (pA k)) n by rw [show n = 0 by have := of_decide_eq_false hb1; have := hl; have := hn; have := hi; have := h0i; omega]; rfl)) Fs.nil⟩)
  ·
    rintro ⟨hi, hX, hC, hs, hle⟩
    change Ok Tryd.prog _ _ 17 [(2, (.slice none 0 0)), (3, (.slice (some ⟨q, 0, none⟩) (X).length κ)), (6, (.slice (some ⟨g, 0, none⟩) n n)), (7, (.int .i64 ((n : Nat) : Int))), (8, (.int .i64 ((i : Nat) : Int)))] _ [(q, (.cells C 5 (0, 0)))] (fun w => Kb w g (rowH n pA) ∧ True)
    refine ok_seq_r (by kernel_rfl) (sgrow_any_r9 g n i q X C κ _ _) (fun _ => ?_)
    refine ok_seq ?_
    refine ok_cond (b := decide (((i : Nat) : Int) < ((n : Nat) : Int))) (by kernel_rfl) (fun hb2 => ?_) (fun hb2 => ?_)
    ·
      rw [hb2]
      refine ok_skip ?_
      refine mt_then ?_
      refine ok_seq ?_
      refine ok_block ?_
      refine ok_seq_rf (by kernel_rfl) (sgrow_any_r10 g n pA hn hl i q X C κ hi hb2 _) (fun ρ10 => ?_)
      rcases Bool.eq_false_or_eq_true (decide ((X).length + (hL (pA i)).length ≤ κ)) with hb3 | hb3
      ·
        refine ok_rf (by kernel_rfl) (sgrow_any_r11 g n pA i q X C κ hs hb3 ρ10 _) (fun _ => ?_)
        refine mt_block_n ?_
        refine mt_then ?_
        refine ok_r (by kernel_rfl) (sgrow_any_r12 g n pA hn hl i q X C κ hi hb2 hb3 ρ10 _ _) (fun _ => ?_)
        exact mt_round (Sum.inr (i + 1, q, X ++ (hL (pA i)), inpl C (X).length (bs (hL (pA i))), κ)) (by show n - (i + 1) < n - i; have := of_decide_eq_true hb2; have := of_decide_eq_true hb3; have := hl; have := hn; have := hi; omega) (⟨(by have := of_decide_eq_true hb2; have := of_decide_eq_true hb3; have := hl; have := hn; have := hi; omega), (by rw [hX]; rfl), (Hd.inpl hC rfl), ((inpl_size _ _ _ (room_le hs (of_decide_eq_true hb3))).trans hs), (len_app (of_decide_eq_true hb3))⟩) (by kernel_rfl) (.cons_cons _ (.cons _ .slnil))
      ·
        refine ok_rf (by kernel_rfl) (sgrow_any_r13 g n pA hn hl i q X C κ hi hX hs hle hb2 hb3 ρ10 _) (fun ρ13 => ?_)
        refine mt_block_n ?_
        refine mt_then ?_
        refine ok_r (by kernel_rfl) (sgrow_any_r14 g n pA hn hl i q X C κ hi hb2 hb3 ρ10 ρ13 _ _) (fun _ => ?_)
        exact mt_round (Sum.inr (i + 1, nb ρ13 2, X ++ (hL (pA i)), grow C (X).length (bs (hL (pA i))) (nb2 ρ13 2), (X ++ (hL (pA i))).length + nb2 ρ13 2)) (by show n - (i + 1) < n - i; have := of_decide_eq_true hb2; have := of_decide_eq_false hb3; have := hl; have := hn; have := hi; omega) (⟨(by have := of_decide_eq_true hb2; have := of_decide_eq_false hb3; have := hl; have := hn; have := hi; omega), (by rw [hX]; rfl), (Hd.grow hC rfl), (grow_sizeL hC), (Nat.le_add_right _ _)⟩) (by kernel_rfl) (.cons _ (.cons _ (.cons_cons _ .slnil)))
    ·
      rw [hb2]
      refine ok_exit ?_
      refine mt_then_e ?_
      refine mt_then_e ?_
      refine mt_block_h ?_
      refine mt_then ?_
      refine ok_seq_r (by kernel_rfl) (sgrow_any_r15 g n i q X C κ _ _) (fun _ => ?_)
      refine ok_ret ?_
      exact meets_ret (v := (.slice (some ⟨q, 0, none⟩) (X).length κ)) [] (dup []) (by kernel_rfl) (by kernel_rfl) (eqs_dup _) (fun _ hS => ⟨(some ⟨q, 0, none⟩), κ, congrArg Ending.returned (by rw [← (show X = catB (fun k => hL (pA k)) n from hX.trans (by rw [show i = n by have := of_decide_eq_false hb2; have := hl; have := hn; have := hi; omega]))]), hS.below, fs_eq ((show X = catB (fun k => hL (pA k)) n from hX.trans (by rw [show i = n by have := of_decide_eq_false hb2; have := hl; have := hn; have := hi; omega]))) (hS.fresh (.head _) hC hle (by rw [hX]; exact Nat.le_trans (catB_le (fun k => hL (pA k)) hi) hl))⟩)
theorem shrow2_any (g : Nat) (a0 : Option Addr) (c0 : Nat) (B0 : List UInt8) (a1 : Option Addr) (c1 : Nat) (B1 : List UInt8) (hl : B0.length + B1.length ≤ 140737488351232) (h0 : 0 < B0.length) (w0 : World) (hf0 : Kb w0 g #[.slice a0 B0.length c0, .slice a1 B1.length c1]) (hf1 : Bs w0 a0 c0 B0) (hf2 : Bs w0 a1 c1 B1) : Calls Tryd.prog 74 #[.slice (some ⟨g, 0, none⟩) 2 2] w0 (fun ε w' => ∃ α κ, ε = .returned (.slice α (B0 ++ B1).length κ) ∧ Below w0.heap.size w0 w' ∧ Fs w0 w' α κ (B0 ++ B1)) := shrow_any g 2 (fun k => [a0, a1].getD k none) (fun k => [c0, c1].getD k 0) (fun k => [B0, B1].getD k []) (by decide) (by show (([] ++ B0) ++ B1).length ≤ _; simp only [List.length_append, List.length_nil]; omega) h0 w0 hf0 (allB2 hf1 hf2)
theorem sgrow2_any (g : Nat) (A0 A1 : Nat) (h0 : A0 < M) (h1 : A1 < M) (w0 : World) (hf0 : Kb w0 g (hB A0 ++ hB A1)) : Calls Tryd.prog 45 #[.slice (some ⟨g, 0, none⟩) 2 2] w0 (fun ε w' => ∃ α κ, ε = .returned (.slice α (hL A0 ++ hL A1).length κ) ∧ Below w0.heap.size w0 w' ∧ Fs w0 w' α κ (hL A0 ++ hL A1)) := sgrow_any g 2 (fun k => [A0, A1].getD k 0) (by decide) (by show (([] ++ hL A0) ++ hL A1).length ≤ _; simp only [List.length_append, List.length_nil, hL_length]; omega) (allM2 h0 h1) w0 (by rw [rowH2]; exact hf0)
theorem shrow3_any (g : Nat) (a0 : Option Addr) (c0 : Nat) (B0 : List UInt8) (a1 : Option Addr) (c1 : Nat) (B1 : List UInt8) (a2 : Option Addr) (c2 : Nat) (B2 : List UInt8) (hl : B0.length + B1.length + B2.length ≤ 140737488351232) (h0 : 0 < B0.length) (w0 : World) (hf0 : Kb w0 g #[.slice a0 B0.length c0, .slice a1 B1.length c1, .slice a2 B2.length c2]) (hf1 : Bs w0 a0 c0 B0) (hf2 : Bs w0 a1 c1 B1) (hf3 : Bs w0 a2 c2 B2) : Calls Tryd.prog 74 #[.slice (some ⟨g, 0, none⟩) 3 3] w0 (fun ε w' => ∃ α κ, ε = .returned (.slice α ((B0 ++ B1) ++ B2).length κ) ∧ Below w0.heap.size w0 w' ∧ Fs w0 w' α κ ((B0 ++ B1) ++ B2)) := shrow_any g 3 (fun k => [a0, a1, a2].getD k none) (fun k => [c0, c1, c2].getD k 0) (fun k => [B0, B1, B2].getD k []) (by decide) (by show ((([] ++ B0) ++ B1) ++ B2).length ≤ _; simp only [List.length_append, List.length_nil]; omega) h0 w0 hf0 (allB3 hf1 hf2 hf3)
theorem sgrow3_any (g : Nat) (A0 A1 A2 : Nat) (h0 : A0 < M) (h1 : A1 < M) (h2 : A2 < M) (w0 : World) (hf0 : Kb w0 g (hB A0 ++ hB A1 ++ hB A2)) : Calls Tryd.prog 45 #[.slice (some ⟨g, 0, none⟩) 3 3] w0 (fun ε w' => ∃ α κ, ε = .returned (.slice α ((hL A0 ++ hL A1) ++ hL A2).length κ) ∧ Below w0.heap.size w0 w' ∧ Fs w0 w' α κ ((hL A0 ++ hL A1) ++ hL A2)) := sgrow_any g 3 (fun k => [A0, A1, A2].getD k 0) (by decide) (by show ((([] ++ hL A0) ++ hL A1) ++ hL A2).length ≤ _; simp only [List.length_append, List.length_nil, hL_length]; omega) (allM3 h0 h1 h2) w0 (by rw [rowH3]; exact hf0)
end Go.Proofs.YtoibhbmcplhiaaaDoor
