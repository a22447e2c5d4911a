/-
  The codec reads digits of base 16: the walks.
-/
import Derived.Test.YtclccfibfkcagaaCHex
namespace Go.Proofs.Ytclccfibfkcagaa
open Go Go.RowKit
set_option maxRecDepth 100000
theorem unhex_any_r1 (S : List UInt8) (w0 : World) (F : World → Prop) : Reg Try.prog 0 (regOps Try.f42 0) false 47 [(0, (.string (strB S)))] w0 [] F
    (fun _ => [(0, (.string (strB S))), (2, (.slice none 0 0)), (3, (.int .i64 0))])
    (fun _ => []) := by
  refine reg_seq [0, 1] [0, 2, 3] 2
    (fun _ ι => ([(.slice none 0 0), (.int .i64 0)] : List Value).getD ι undef)
    (fun _ ι => ([{}, {}] : List Eff).getD ι {})
    (by as_aux_lemma => kernel_rfl) (by as_aux_lemma => kernel_rfl) (fun _ => by as_aux_lemma => kernel_rfl) (fun _ => by as_aux_lemma => kernel_rfl) ⟨⟨trivial, ?_⟩, ?_⟩
  · exact o_run 0 [] [] (fun _ _ => []) (fun _ _ => by as_aux_lemma => kernel_rfl)
  · exact o_run 1 [] [] (fun _ _ => []) (fun _ _ => by as_aux_lemma => kernel_rfl)
theorem unhex_any_r2 (S : List UInt8) (w0 : World) (F : World → Prop) : Reg Try.prog 1 (regOps Try.f42 1) false 47 [(0, (.string (strB S))), (2, (.slice none 0 0)), (3, (.int .i64 0))] w0 [] F
    (fun _ => [(0, (.string (strB S))), (2, (.slice none 0 0)), (3, (.int .i64 0)), (10, (.bool (decide (400000 < (((S).length : Nat) : Int)))))])
    (fun _ => []) := by
  refine reg_seq [0, 1, 3] [0, 2, 3, 10] 3
    (fun _ ι => ([(.string (strB S)), (.int .i64 (((S).length : Nat) : Int)), (.bool (decide (400000 < (((S).length : Nat) : Int))))] : List Value).getD ι undef)
    (fun _ ι => ([{}, {}, {}] : List Eff).getD ι {})
    (by as_aux_lemma => kernel_rfl) (by as_aux_lemma => kernel_rfl) (fun _ => by as_aux_lemma => kernel_rfl) (fun _ => by as_aux_lemma => kernel_rfl) ⟨⟨⟨trivial, ?_⟩, ?_⟩, ?_⟩
  · exact o_run 0 [] [] (fun _ _ => []) (fun _ _ => by as_aux_lemma => kernel_rfl)
  · exact o_run 1 [] [] (fun _ _ => []) (fun _ _ => by as_aux_lemma => kernel_rfl)
  · exact o_run 2 [] [] (fun _ _ => []) (fun _ _ => by as_aux_lemma => kernel_rfl)
theorem unhex_any_r3 (S : List UInt8) (w0 : World) (F : World → Prop) : Reg Try.prog 2 (regOps Try.f42 2) false 47 [(0, (.string (strB S))), (2, (.slice none 0 0)), (3, (.int .i64 0)), (10, (.bool true))] w0 [] F
    (fun _ => [(0, (.string (strB S))), (2, (.slice none 0 0)), (3, (.int .i64 4))])
    (fun _ => []) := by
  refine reg_seq [0, 1] [0, 2, 3] 2
    (fun _ ι => ([(.slice none 0 0), (.int .i64 4)] : List Value).getD ι undef)
    (fun _ ι => ([{}, {}] : List Eff).getD ι {})
    (by as_aux_lemma => kernel_rfl) (by as_aux_lemma => kernel_rfl) (fun _ => by as_aux_lemma => kernel_rfl) (fun _ => by as_aux_lemma => kernel_rfl) ⟨⟨trivial, ?_⟩, ?_⟩
  · exact o_run 0 [] [] (fun _ _ => []) (fun _ _ => by as_aux_lemma => kernel_rfl)
  · exact o_run 1 [] [] (fun _ _ => []) (fun _ _ => by as_aux_lemma => kernel_rfl)
theorem unhex_any_r4 (S : List UInt8) (w0 : World) (F : World → Prop) : Reg Try.prog 3 (regOps Try.f42 3) false 47 [(0, (.string (strB S))), (2, (.slice none 0 0)), (3, (.int .i64 0)), (10, (.bool false))] w0 [] F
    (fun _ => [(0, (.string (strB S))), (2, (.slice none 0 0)), (3, (.int .i64 0)), (14, (.bool (((((S).length) % 2 : Nat) : Int) != 0)))])
    (fun _ => []) := by
  refine reg_seq [0, 1, 3, 7] [0, 2, 3, 14] 4
    (fun _ ι => ([(.string (strB S)), (.int .i64 (((S).length : Nat) : Int)), (.int .i64 ((((S).length) % 2 : Nat) : Int)), (.bool (((((S).length) % 2 : Nat) : Int) != 0))] : List Value).getD ι undef)
    (fun _ ι => ([{}, {}, {}, {}] : List Eff).getD ι {})
    (by as_aux_lemma => kernel_rfl) (by as_aux_lemma => kernel_rfl) (fun _ => by as_aux_lemma => kernel_rfl) (fun _ => by as_aux_lemma => kernel_rfl) ⟨⟨⟨⟨trivial, ?_⟩, ?_⟩, ?_⟩, ?_⟩
  · exact o_run 0 [] [] (fun _ _ => []) (fun _ _ => by as_aux_lemma => kernel_rfl)
  · exact o_run 1 [] [] (fun _ _ => []) (fun _ _ => by as_aux_lemma => kernel_rfl)
  · exact o_bin 2 .rem 3 (fun _ => (.int .i64 (((S).length : Nat) : Int))) (fun _ => (.int .i64 2)) (fun _ => (.int .i64 ((((S).length) % 2 : Nat) : Int))) (fun _ => by as_aux_lemma => kernel_rfl) (fun _ _ _ _ => by as_aux_lemma => kernel_rfl) (fun _ w => run_remU (k := .i64) (n := ((S).length)) (d := 2) (by decide) w)
  · exact o_run 3 [] [] (fun _ _ => []) (fun _ _ => by as_aux_lemma => kernel_rfl)
theorem unhex_any_r5 (S : List UInt8) (w0 : World) (F : World → Prop) : Reg Try.prog 4 (regOps Try.f42 4) false 47 [(0, (.string (strB S))), (2, (.slice none 0 0)), (3, (.int .i64 0)), (14, (.bool true))] w0 [] F
    (fun _ => [(0, (.string (strB S))), (2, (.slice none 0 0)), (3, (.int .i64 7))])
    (fun _ => []) := by
  refine reg_seq [0, 1] [0, 2, 3] 2
    (fun _ ι => ([(.slice none 0 0), (.int .i64 7)] : List Value).getD ι undef)
    (fun _ ι => ([{}, {}] : List Eff).getD ι {})
    (by as_aux_lemma => kernel_rfl) (by as_aux_lemma => kernel_rfl) (fun _ => by as_aux_lemma => kernel_rfl) (fun _ => by as_aux_lemma => kernel_rfl) ⟨⟨trivial, ?_⟩, ?_⟩
  · exact o_run 0 [] [] (fun _ _ => []) (fun _ _ => by as_aux_lemma => kernel_rfl)
  · exact o_run 1 [] [] (fun _ _ => []) (fun _ _ => by as_aux_lemma => kernel_rfl)
theorem unhex_any_r6 (S : List UInt8) (hb1 : (decide (400000 < (((S).length : Nat) : Int))) = false) (hb2 : (((((S).length) % 2 : Nat) : Int) != 0) = false) (w0 : World) : RegF Try.prog 5 (regOps Try.f42 5) false 47 [(0, (.string (strB S))), (2, (.slice none 0 0)), (3, (.int .i64 0)), (14, (.bool false))] w0 [] (fun _ => True)
    (fun ρ => [(0, (.string (strB S))), (2, (.slice none 0 0)), (3, (.int .i64 0)), (4, (.slice (some ⟨nb ρ 3, 0, none⟩) (List.replicate (((S).length) / 2) (0 : UInt8)).length (((S).length) / 2)))])
    (fun ρ => [(nb ρ 3, (.cells (zB (((S).length) / 2)) 5 (0, 0)))]) (fun _ => (fun _ => True)) := by
  refine reg_seq_f [0, 1, 3, 7, 15] [0, 2, 3, 4] 5
    (fun ρ ι => ([(.string (strB S)), (.int .i64 (((S).length : Nat) : Int)), (.int .i64 ((((S).length) / 2 : Nat) : Int)), (.slice (some ⟨nb ρ 3, 0, none⟩) (List.replicate (((S).length) / 2) (0 : UInt8)).length (((S).length) / 2)), (.slice (some ⟨nb ρ 3, 0, none⟩) (List.replicate (((S).length) / 2) (0 : UInt8)).length (((S).length) / 2))] : List Value).getD ι undef)
    (fun ρ ι => ([{}, {}, {}, { news := [(nb ρ 3, (.cells (zB (((S).length) / 2)) 5 (0, 0)))] }, {}] : List Eff).getD ι {})
    (fun _ ι => ([(fun _ => True), (fun _ => True), (fun _ => True), (fun _ => True), (fun _ => True)] : List (World → Prop)).getD ι (fun _ => True))
    (by as_aux_lemma => kernel_rfl) (by as_aux_lemma => kernel_rfl) (fun _ => by as_aux_lemma => kernel_rfl) (fun _ => by as_aux_lemma => kernel_rfl) (fun _ _ _ _ => trivial) ⟨⟨⟨⟨⟨trivial, ?_⟩, ?_⟩, ?_⟩, ?_⟩, ?_⟩
  · exact Obl.brings (o_run 0 [] [] (fun _ _ => []) (fun _ _ => by as_aux_lemma => kernel_rfl)) (fun _ _ => trivial)
  · exact Obl.brings (o_run 1 [] [] (fun _ _ => []) (fun _ _ => by as_aux_lemma => kernel_rfl)) (fun _ _ => trivial)
  · exact Obl.brings (o_bin 2 .quo 3 (fun _ => (.int .i64 (((S).length : Nat) : Int))) (fun _ => (.int .i64 2)) (fun _ => (.int .i64 ((((S).length) / 2 : Nat) : Int))) (fun _ => by as_aux_lemma => kernel_rfl) (fun _ _ _ _ => by as_aux_lemma => kernel_rfl) (fun _ w => run_quoI (n := ((S).length)) (d := 2) (by decide) (by have := of_decide_eq_false hb1; have := bne0' hb2; omega) w)) (fun _ _ => trivial)
  · exact o_new1 3 (fun _ => do pure (Next.value (← Instr.makeSlice 22 (.int .i64 ((((S).length) / 2 : Nat) : Int)) (.int .i64 ((((S).length) / 2 : Nat) : Int))))) (fun _ z => (.slice (some ⟨z.headD 0, 0, none⟩) (List.replicate (((S).length) / 2) (0 : UInt8)).length (((S).length) / 2))) (fun _ _ => (.cells (zB (((S).length) / 2)) 5 (0, 0))) (fun _ _ => (by as_aux_lemma => kernel_rfl)) (fun _ => (by as_aux_lemma => kernel_rfl)) (fun _ _ => trivial) (fun _ _ w _ => make_rowL Try.underlying22 u8i (List.replicate (((S).length) / 2) (0 : UInt8)) ((rfl).trans (by rw [List.length_replicate])) (rfl) (Nat.le_of_eq (List.length_replicate ..)) (by have := of_decide_eq_false hb1; have := bne0' hb2; omega) w)
  · exact Obl.brings (o_run 4 [] [] (fun _ _ => []) (fun _ _ => by as_aux_lemma => kernel_rfl)) (fun _ _ => trivial)
theorem unhex_any_r7 (S : List UInt8) (ρ6 : Nat → Orc) (w0 : World) (F : World → Prop) : Reg Try.prog 6 (regOps Try.f42 6) false 47 [(0, (.string (strB S))), (2, (.slice none 0 0)), (3, (.int .i64 0)), (4, (.slice (some ⟨nb ρ6 3, 0, none⟩) (List.replicate (((S).length) / 2) (0 : UInt8)).length (((S).length) / 2)))] w0 [(nb ρ6 3, (.cells (zB (((S).length) / 2)) 5 (0, 0)))] F
    (fun _ => [(0, (.string (strB S))), (2, (.slice none 0 0)), (3, (.int .i64 0)), (4, (.slice (some ⟨nb ρ6 3, 0, none⟩) (List.replicate (((S).length) / 2) (0 : UInt8)).length (((S).length) / 2))), (20, (.int .i64 (((S).length : Nat) : Int))), (21, (.int .i64 0))])
    (fun _ => [(nb ρ6 3, (.cells (zB (((S).length) / 2)) 5 (0, 0)))]) := by
  refine reg_seq [0, 1, 3] [0, 2, 3, 4, 20, 21] 3
    (fun _ ι => ([(.string (strB S)), (.int .i64 (((S).length : Nat) : Int)), (.int .i64 0)] : List Value).getD ι undef)
    (fun _ ι => ([{}, {}, {}] : List Eff).getD ι {})
    (by as_aux_lemma => kernel_rfl) (by as_aux_lemma => kernel_rfl) (fun _ => by as_aux_lemma => kernel_rfl) (fun _ => by as_aux_lemma => kernel_rfl) ⟨⟨⟨trivial, ?_⟩, ?_⟩, ?_⟩
  · exact o_run 0 [] [] (fun _ _ => []) (fun _ _ => by as_aux_lemma => kernel_rfl)
  · exact o_run 1 [] [] (fun _ _ => []) (fun _ _ => by as_aux_lemma => kernel_rfl)
  · exact o_run 2 [] [] (fun _ _ => []) (fun _ _ => by as_aux_lemma => kernel_rfl)
theorem unhex_any_r8 (S : List UInt8) (i : Nat) (C : Array Value) (ρ6 : Nat → Orc) (w0 : World) (F : World → Prop) : Reg Try.prog 7 (regOps Try.f42 7) false 47 [(0, (.string (strB S))), (4, (.slice (some ⟨nb ρ6 3, 0, none⟩) (List.replicate (((S).length) / 2) (0 : UInt8)).length (((S).length) / 2))), (20, (.int .i64 (((S).length : Nat) : Int))), (21, (.int .i64 ((i : Nat) : Int)))] w0 [(nb ρ6 3, (.cells C 5 (0, 0)))] F
    (fun _ => [(0, (.string (strB S))), (4, (.slice (some ⟨nb ρ6 3, 0, none⟩) (List.replicate (((S).length) / 2) (0 : UInt8)).length (((S).length) / 2))), (20, (.int .i64 (((S).length : Nat) : Int))), (21, (.int .i64 ((i : Nat) : Int))), (22, (.bool (decide (((i : Nat) : Int) < (((S).length : Nat) : Int)))))])
    (fun _ => [(nb ρ6 3, (.cells C 5 (0, 0)))]) := by
  refine reg_seq [0] [0, 4, 20, 21, 22] 1
    (fun _ ι => ([(.bool (decide (((i : Nat) : Int) < (((S).length : Nat) : Int))))] : List Value).getD ι undef)
    (fun _ ι => ([{}] : List Eff).getD ι {})
    (by as_aux_lemma => kernel_rfl) (by as_aux_lemma => kernel_rfl) (fun _ => by as_aux_lemma => kernel_rfl) (fun _ => by as_aux_lemma => kernel_rfl) ⟨trivial, ?_⟩
  · exact o_run 0 [] [] (fun _ _ => []) (fun _ _ => by as_aux_lemma => kernel_rfl)
theorem unhex_any_r9 (S : List UInt8) (i : Nat) (C : Array Value) (ρ6 : Nat → Orc) (w0 : World) (F : World → Prop) : Reg Try.prog 8 (regOps Try.f42 8) false 47 [(0, (.string (strB S))), (4, (.slice (some ⟨nb ρ6 3, 0, none⟩) (List.replicate (((S).length) / 2) (0 : UInt8)).length (((S).length) / 2))), (20, (.int .i64 (((S).length : Nat) : Int))), (21, (.int .i64 ((i : Nat) : Int))), (22, (.bool true))] w0 [(nb ρ6 3, (.cells C 5 (0, 0)))] F
    (fun _ => [(0, (.string (strB S))), (4, (.slice (some ⟨nb ρ6 3, 0, none⟩) (List.replicate (((S).length) / 2) (0 : UInt8)).length (((S).length) / 2))), (5, (.int .i64 ((i : Nat) : Int))), (20, (.int .i64 (((S).length : Nat) : Int))), (21, (.int .i64 ((i : Nat) : Int)))])
    (fun _ => [(nb ρ6 3, (.cells C 5 (0, 0)))]) := by
  refine reg_seq [0, 1] [0, 4, 5, 20, 21] 2
    (fun _ ι => ([(.int .i64 ((i : Nat) : Int)), (.int .i64 ((i : Nat) : Int))] : List Value).getD ι undef)
    (fun _ ι => ([{}, {}] : List Eff).getD ι {})
    (by as_aux_lemma => kernel_rfl) (by as_aux_lemma => kernel_rfl) (fun _ => by as_aux_lemma => kernel_rfl) (fun _ => by as_aux_lemma => kernel_rfl) ⟨⟨trivial, ?_⟩, ?_⟩
  · exact o_run 0 [] [] (fun _ _ => []) (fun _ _ => by as_aux_lemma => kernel_rfl)
  · exact o_run 1 [] [] (fun _ _ => []) (fun _ _ => by as_aux_lemma => kernel_rfl)
theorem unhex_any_r10 (S : List UInt8) (hb1 : (decide (400000 < (((S).length : Nat) : Int))) = false) (hb2 : (((((S).length) % 2 : Nat) : Int) != 0) = false) (i : Nat) (C : Array Value) (hi : i ≤ S.length) (hb3 : (decide (((i : Nat) : Int) < (((S).length : Nat) : Int))) = true) (ρ6 : Nat → Orc) (w0 : World) (F : World → Prop) : Reg Try.prog 9 (regOps Try.f42 9) false 47 [(0, (.string (strB S))), (4, (.slice (some ⟨nb ρ6 3, 0, none⟩) (List.replicate (((S).length) / 2) (0 : UInt8)).length (((S).length) / 2))), (5, (.int .i64 ((i : Nat) : Int))), (20, (.int .i64 (((S).length : Nat) : Int))), (21, (.int .i64 ((i : Nat) : Int)))] w0 [(nb ρ6 3, (.cells C 5 (0, 0)))] F
    (fun _ => [(0, (.string (strB S))), (4, (.slice (some ⟨nb ρ6 3, 0, none⟩) (List.replicate (((S).length) / 2) (0 : UInt8)).length (((S).length) / 2))), (5, (.int .i64 ((i : Nat) : Int))), (6, (.int .u8 ((dg (gB S i) : Nat) : Int))), (7, (.bool (dgB (gB S i)))), (20, (.int .i64 (((S).length : Nat) : Int))), (21, (.int .i64 ((i : Nat) : Int)))])
    (fun _ => [(nb ρ6 3, (.cells C 5 (0, 0)))]) := by
  refine reg_seq [0, 1, 3, 7, 15, 31, 63, 127, 255] [0, 4, 5, 6, 7, 20, 21] 9
    (fun _ ι => ([(.string (strB S)), (.int .i64 ((i : Nat) : Int)), (.int .u8 ((gB S i : Nat) : Int)), (.tuple #[(.int .u8 ((dg (gB S i) : Nat) : Int)), (.bool (dgB (gB S i)))]), (.tuple #[(.int .u8 ((dg (gB S i) : Nat) : Int)), (.bool (dgB (gB S i)))]), (.int .u8 ((dg (gB S i) : Nat) : Int)), (.bool (dgB (gB S i))), (.int .u8 ((dg (gB S i) : Nat) : Int)), (.bool (dgB (gB S i)))] : List Value).getD ι undef)
    (fun _ ι => ([{}, {}, {}, {}, {}, {}, {}, {}, {}] : List Eff).getD ι {})
    (by as_aux_lemma => kernel_rfl) (by as_aux_lemma => kernel_rfl) (fun _ => by as_aux_lemma => kernel_rfl) (fun _ => by as_aux_lemma => kernel_rfl) ⟨⟨⟨⟨⟨⟨⟨⟨⟨trivial, ?_⟩, ?_⟩, ?_⟩, ?_⟩, ?_⟩, ?_⟩, ?_⟩, ?_⟩, ?_⟩
  · exact o_run 0 [] [] (fun _ _ => []) (fun _ _ => by as_aux_lemma => kernel_rfl)
  · exact o_run 1 [] [] (fun _ _ => []) (fun _ _ => by as_aux_lemma => kernel_rfl)
  · exact o_sem 2 (fun _ => do pure (Next.value (← Instr.index 9 (.string (strB S)) (.int .i64 ((i : Nat) : Int))))) (fun _ => (.int .u8 ((gB S i : Nat) : Int))) (fun _ => (by as_aux_lemma => kernel_rfl)) (fun _ => (by as_aux_lemma => kernel_rfl)) (fun _ w => idx_str (S := S) Try.underlying9 ((show ((i : Nat) : Int) = ((i : Nat) : Int) ∧ i < (S).length from ⟨rfl, (by have := of_decide_eq_false hb1; have := of_decide_eq_true hb3; have := bne0' hb2; have := hi; omega)⟩)).1 ((show ((i : Nat) : Int) = ((i : Nat) : Int) ∧ i < (S).length from ⟨rfl, (by have := of_decide_eq_false hb1; have := of_decide_eq_true hb3; have := bne0' hb2; have := hi; omega)⟩)).2 w)
  · exact o_call 3 56 (fun _ => #[(.int .u8 ((gB S i : Nat) : Int))]) (fun _ => (.tuple #[(.int .u8 ((dg (gB S i) : Nat) : Int)), (.bool (dgB (gB S i)))])) (fun _ _ => by as_aux_lemma => kernel_rfl) (fun _ w => (fun w => digit_any (gB S i) (by have := of_decide_eq_false hb1; have := of_decide_eq_true hb3; have := bne0' hb2; have := hi; have := gB_lt S i; omega) w) w)
  · exact o_run 4 [] [] (fun _ _ => []) (fun _ _ => by as_aux_lemma => kernel_rfl)
  · exact o_run 5 [] [] (fun _ _ => []) (fun _ _ => by as_aux_lemma => kernel_rfl)
  · exact o_run 6 [] [] (fun _ _ => []) (fun _ _ => by as_aux_lemma => kernel_rfl)
  · exact o_run 7 [] [] (fun _ _ => []) (fun _ _ => by as_aux_lemma => kernel_rfl)
  · exact o_run 8 [] [] (fun _ _ => []) (fun _ _ => by as_aux_lemma => kernel_rfl)
theorem unhex_any_r11 (S : List UInt8) (i : Nat) (C : Array Value) (ρ6 : Nat → Orc) (w0 : World) (F : World → Prop) : Reg Try.prog 10 (regOps Try.f42 10) false 47 [(0, (.string (strB S))), (4, (.slice (some ⟨nb ρ6 3, 0, none⟩) (List.replicate (((S).length) / 2) (0 : UInt8)).length (((S).length) / 2))), (5, (.int .i64 ((i : Nat) : Int))), (6, (.int .u8 ((dg (gB S i) : Nat) : Int))), (7, (.bool (dgB (gB S i)))), (20, (.int .i64 (((S).length : Nat) : Int))), (21, (.int .i64 ((i : Nat) : Int)))] w0 [(nb ρ6 3, (.cells C 5 (0, 0)))] F
    (fun _ => [(0, (.string (strB S))), (4, (.slice (some ⟨nb ρ6 3, 0, none⟩) (List.replicate (((S).length) / 2) (0 : UInt8)).length (((S).length) / 2))), (5, (.int .i64 ((i : Nat) : Int))), (6, (.int .u8 ((dg (gB S i) : Nat) : Int))), (20, (.int .i64 (((S).length : Nat) : Int))), (21, (.int .i64 ((i : Nat) : Int))), (32, (.bool (!(dgB (gB S i)))))])
    (fun _ => [(nb ρ6 3, (.cells C 5 (0, 0)))]) := by
  refine reg_seq [0, 1] [0, 4, 5, 6, 20, 21, 32] 2
    (fun _ ι => ([(.bool (dgB (gB S i))), (.bool (!(dgB (gB S i))))] : List Value).getD ι undef)
    (fun _ ι => ([{}, {}] : List Eff).getD ι {})
    (by as_aux_lemma => kernel_rfl) (by as_aux_lemma => kernel_rfl) (fun _ => by as_aux_lemma => kernel_rfl) (fun _ => by as_aux_lemma => kernel_rfl) ⟨⟨trivial, ?_⟩, ?_⟩
  · exact o_run 0 [] [] (fun _ _ => []) (fun _ _ => by as_aux_lemma => kernel_rfl)
  · exact o_run 1 [] [] (fun _ _ => []) (fun _ _ => by as_aux_lemma => kernel_rfl)
theorem unhex_any_r12 (S : List UInt8) (i : Nat) (C : Array Value) (ρ6 : Nat → Orc) (w0 : World) (F : World → Prop) : Reg Try.prog 11 (regOps Try.f42 11) false 47 [(0, (.string (strB S))), (4, (.slice (some ⟨nb ρ6 3, 0, none⟩) (List.replicate (((S).length) / 2) (0 : UInt8)).length (((S).length) / 2))), (5, (.int .i64 ((i : Nat) : Int))), (6, (.int .u8 ((dg (gB S i) : Nat) : Int))), (20, (.int .i64 (((S).length : Nat) : Int))), (21, (.int .i64 ((i : Nat) : Int))), (32, (.bool true))] w0 [(nb ρ6 3, (.cells C 5 (0, 0)))] F
    (fun _ => [(0, (.string (strB S))), (2, (.slice none 0 0)), (3, (.int .i64 7)), (4, (.slice (some ⟨nb ρ6 3, 0, none⟩) (List.replicate (((S).length) / 2) (0 : UInt8)).length (((S).length) / 2))), (5, (.int .i64 ((i : Nat) : Int))), (6, (.int .u8 ((dg (gB S i) : Nat) : Int))), (20, (.int .i64 (((S).length : Nat) : Int))), (21, (.int .i64 ((i : Nat) : Int)))])
    (fun _ => [(nb ρ6 3, (.cells C 5 (0, 0)))]) := by
  refine reg_seq [0, 1] [0, 2, 3, 4, 5, 6, 20, 21] 2
    (fun _ ι => ([(.slice none 0 0), (.int .i64 7)] : List Value).getD ι undef)
    (fun _ ι => ([{}, {}] : List Eff).getD ι {})
    (by as_aux_lemma => kernel_rfl) (by as_aux_lemma => kernel_rfl) (fun _ => by as_aux_lemma => kernel_rfl) (fun _ => by as_aux_lemma => kernel_rfl) ⟨⟨trivial, ?_⟩, ?_⟩
  · exact o_run 0 [] [] (fun _ _ => []) (fun _ _ => by as_aux_lemma => kernel_rfl)
  · exact o_run 1 [] [] (fun _ _ => []) (fun _ _ => by as_aux_lemma => kernel_rfl)
theorem unhex_any_r13 (S : List UInt8) (hb1 : (decide (400000 < (((S).length : Nat) : Int))) = false) (hb2 : (((((S).length) % 2 : Nat) : Int) != 0) = false) (i : Nat) (C : Array Value) (hi : i ≤ S.length) (hC : C = unC S i) (hb3 : (decide (((i : Nat) : Int) < (((S).length : Nat) : Int))) = true) (ρ6 : Nat → Orc) (w0 : World) (F : World → Prop) : Reg Try.prog 12 (regOps Try.f42 12) false 47 [(0, (.string (strB S))), (4, (.slice (some ⟨nb ρ6 3, 0, none⟩) (List.replicate (((S).length) / 2) (0 : UInt8)).length (((S).length) / 2))), (5, (.int .i64 ((i : Nat) : Int))), (6, (.int .u8 ((dg (gB S i) : Nat) : Int))), (20, (.int .i64 (((S).length : Nat) : Int))), (21, (.int .i64 ((i : Nat) : Int))), (32, (.bool false))] w0 [(nb ρ6 3, (.cells C 5 (0, 0)))] F
    (fun _ => [(0, (.string (strB S))), (4, (.slice (some ⟨nb ρ6 3, 0, none⟩) (List.replicate (((S).length) / 2) (0 : UInt8)).length (((S).length) / 2))), (20, (.int .i64 (((S).length : Nat) : Int))), (21, (.int .i64 ((i : Nat) : Int)))])
    (fun _ => [(nb ρ6 3, (.cells (C.setIfInBounds (i / 2) (.int .u8 ((unV S i : Nat) : Int))) 5 (0, 0)))]) := by
  refine reg_seq [0, 1, 3, 7, 15, 31, 63, 127, 255, 511, 1023, 2047, 4095] [0, 4, 20, 21] 13
    (fun _ ι => ([(.slice (some ⟨nb ρ6 3, 0, none⟩) (List.replicate (((S).length) / 2) (0 : UInt8)).length (((S).length) / 2)), (.int .i64 ((i : Nat) : Int)), (.int .i64 ((i / 2 : Nat) : Int)), (.slice (some ⟨nb ρ6 3, 0, none⟩) (List.replicate (((S).length) / 2) (0 : UInt8)).length (((S).length) / 2)), (.int .i64 ((i : Nat) : Int)), (.int .i64 ((i / 2 : Nat) : Int)), (.pointer (some ⟨nb ρ6 3, i / 2, none⟩)), (.int .u8 ((un1 S i (i / 2) : Nat) : Int)), (.int .u8 ((un1 S i (i / 2) * 16 : Nat) : Int)), (.int .u8 ((dg (gB S i) : Nat) : Int)), (.int .u8 ((unV S i : Nat) : Int)), (.pointer (some ⟨nb ρ6 3, i / 2, none⟩)), undef] : List Value).getD ι undef)
    (fun _ ι => ([{}, {}, {}, {}, {}, {}, {}, {}, {}, {}, {}, {}, { puts := [(0, (.cells (C.setIfInBounds (i / 2) (.int .u8 ((unV S i : Nat) : Int))) 5 (0, 0)))] }] : List Eff).getD ι {})
    (by as_aux_lemma => kernel_rfl) (by as_aux_lemma => kernel_rfl) (fun _ => by as_aux_lemma => kernel_rfl) (fun _ => by as_aux_lemma => kernel_rfl) ⟨⟨⟨⟨⟨⟨⟨⟨⟨⟨⟨⟨⟨trivial, ?_⟩, ?_⟩, ?_⟩, ?_⟩, ?_⟩, ?_⟩, ?_⟩, ?_⟩, ?_⟩, ?_⟩, ?_⟩, ?_⟩, ?_⟩
  · exact o_run 0 [] [] (fun _ _ => []) (fun _ _ => by as_aux_lemma => kernel_rfl)
  · exact o_run 1 [] [] (fun _ _ => []) (fun _ _ => by as_aux_lemma => kernel_rfl)
  · exact o_bin 2 .quo 3 (fun _ => (.int .i64 ((i : Nat) : Int))) (fun _ => (.int .i64 2)) (fun _ => (.int .i64 ((i / 2 : Nat) : Int))) (fun _ => by as_aux_lemma => kernel_rfl) (fun _ _ _ _ => by as_aux_lemma => kernel_rfl) (fun _ w => run_quoI (n := i) (d := 2) (by decide) (by have := of_decide_eq_false hb1; have := of_decide_eq_true hb3; have := bne0' hb2; have := hi; omega) w)
  · exact o_run 3 [] [] (fun _ _ => []) (fun _ _ => by as_aux_lemma => kernel_rfl)
  · exact o_run 4 [] [] (fun _ _ => []) (fun _ _ => by as_aux_lemma => kernel_rfl)
  · exact o_bin 5 .quo 3 (fun _ => (.int .i64 ((i : Nat) : Int))) (fun _ => (.int .i64 2)) (fun _ => (.int .i64 ((i / 2 : Nat) : Int))) (fun _ => by as_aux_lemma => kernel_rfl) (fun _ _ _ _ => by as_aux_lemma => kernel_rfl) (fun _ w => run_quoI (n := i) (d := 2) (by decide) (by have := of_decide_eq_false hb1; have := of_decide_eq_true hb3; have := bne0' hb2; have := hi; omega) w)
  · exact o_sem 6 (fun _ => do pure (Next.value (← Instr.indexAt 22 (.slice (some ⟨nb ρ6 3, 0, none⟩) (List.replicate (((S).length) / 2) (0 : UInt8)).length (((S).length) / 2)) (.int .i64 ((i / 2 : Nat) : Int))))) (fun _ => (.pointer (some ⟨nb ρ6 3, i / 2, none⟩))) (fun _ => (by as_aux_lemma => kernel_rfl)) (fun _ => (by as_aux_lemma => kernel_rfl)) (fun _ w => idx_row Try.underlying22 u8i ((show ((i / 2 : Nat) : Int) = (((i / 2) : Nat) : Int) ∧ (i / 2) < (List.replicate (((S).length) / 2) (0 : UInt8)).length from ⟨rfl, (by rw [List.length_replicate]; have := of_decide_eq_false hb1; have := of_decide_eq_true hb3; have := bne0' hb2; have := hi; omega)⟩)).1 ((show ((i / 2 : Nat) : Int) = (((i / 2) : Nat) : Int) ∧ (i / 2) < (List.replicate (((S).length) / 2) (0 : UInt8)).length from ⟨rfl, (by rw [List.length_replicate]; have := of_decide_eq_false hb1; have := of_decide_eq_true hb3; have := bne0' hb2; have := hi; omega)⟩)).2 w)
  · exact o_ld 7 0 5 (fun _ => nb ρ6 3) (fun _ => i / 2) (fun _ => C) 5 (0, 0) (fun _ => (.int .u8 ((un1 S i (i / 2) : Nat) : Int))) (fun _ => by as_aux_lemma => kernel_rfl) Try.isAgg5 (fun _ => (by rw [hC]; exact unC_get (by have := of_decide_eq_false hb1; have := of_decide_eq_true hb3; have := bne0' hb2; have := hi; omega)))
  · exact o_bin 8 .shl 5 (fun _ => (.int .u8 ((un1 S i (i / 2) : Nat) : Int))) (fun _ => (.int .u64 4)) (fun _ => (.int .u8 ((un1 S i (i / 2) * 16 : Nat) : Int))) (fun _ => by as_aux_lemma => kernel_rfl) (fun _ _ _ _ => by as_aux_lemma => kernel_rfl) (fun _ w => run_un4 S i w)
  · exact o_run 9 [] [] (fun _ _ => []) (fun _ _ => by as_aux_lemma => kernel_rfl)
  · exact o_as 10 (fun _ => (.int .u8 (bits .or .u8 ((un1 S i (i / 2) * 16 : Nat) : Int) ((dg (gB S i) : Nat) : Int)))) (fun _ => (.int .u8 ((unV S i : Nat) : Int))) (fun _ _ => by as_aux_lemma => kernel_rfl) (fun _ => congrArg (Value.int .u8) (un_or i))
  · exact o_sem 11 (fun _ => do pure (Next.value (← Instr.indexAt 22 (.slice (some ⟨nb ρ6 3, 0, none⟩) (List.replicate (((S).length) / 2) (0 : UInt8)).length (((S).length) / 2)) (.int .i64 ((i / 2 : Nat) : Int))))) (fun _ => (.pointer (some ⟨nb ρ6 3, i / 2, none⟩))) (fun _ => (by as_aux_lemma => kernel_rfl)) (fun _ => (by as_aux_lemma => kernel_rfl)) (fun _ w => idx_row Try.underlying22 u8i ((show ((i / 2 : Nat) : Int) = (((i / 2) : Nat) : Int) ∧ (i / 2) < (List.replicate (((S).length) / 2) (0 : UInt8)).length from ⟨rfl, (by rw [List.length_replicate]; have := of_decide_eq_false hb1; have := of_decide_eq_true hb3; have := bne0' hb2; have := hi; omega)⟩)).1 ((show ((i / 2 : Nat) : Int) = (((i / 2) : Nat) : Int) ∧ (i / 2) < (List.replicate (((S).length) / 2) (0 : UInt8)).length from ⟨rfl, (by rw [List.length_replicate]; have := of_decide_eq_false hb1; have := of_decide_eq_true hb3; have := bne0' hb2; have := hi; omega)⟩)).2 w)
  · exact o_st 12 0 5 (fun _ => nb ρ6 3) (fun _ => i / 2) (fun _ => C) (fun _ => (C.setIfInBounds (i / 2) (.int .u8 ((unV S i : Nat) : Int)))) 5 (fun _ => (.int .u8 ((unV S i : Nat) : Int))) (fun _ => by as_aux_lemma => kernel_rfl) Try.sizeOf5 (fun _ => rfl) (fun _ => (by rw [hC, unC_size]; have := of_decide_eq_false hb1; have := of_decide_eq_true hb3; have := bne0' hb2; have := hi; omega)) (fun _ => rfl)
theorem unhex_any_r14 (S : List UInt8) (hb1 : (decide (400000 < (((S).length : Nat) : Int))) = false) (hb2 : (((((S).length) % 2 : Nat) : Int) != 0) = false) (i : Nat) (C : Array Value) (hi : i ≤ S.length) (hb3 : (decide (((i : Nat) : Int) < (((S).length : Nat) : Int))) = true) (ρ6 : Nat → Orc) (w0 : World) (F : World → Prop) : Reg Try.prog 13 (regOps Try.f42 13) false 47 [(0, (.string (strB S))), (4, (.slice (some ⟨nb ρ6 3, 0, none⟩) (List.replicate (((S).length) / 2) (0 : UInt8)).length (((S).length) / 2))), (20, (.int .i64 (((S).length : Nat) : Int))), (21, (.int .i64 ((i : Nat) : Int)))] w0 [(nb ρ6 3, (.cells (C.setIfInBounds (i / 2) (.int .u8 ((unV S i : Nat) : Int))) 5 (0, 0)))] F
    (fun _ => [(0, (.string (strB S))), (4, (.slice (some ⟨nb ρ6 3, 0, none⟩) (List.replicate (((S).length) / 2) (0 : UInt8)).length (((S).length) / 2))), (20, (.int .i64 (((S).length : Nat) : Int))), (21, (.int .i64 ((i + 1 : Nat) : Int)))])
    (fun _ => [(nb ρ6 3, (.cells (C.setIfInBounds (i / 2) (.int .u8 ((unV S i : Nat) : Int))) 5 (0, 0)))]) := by
  refine reg_seq [0, 1] [0, 4, 20, 21] 2
    (fun _ ι => ([(.int .i64 ((i + 1 : Nat) : Int)), (.int .i64 ((i + 1 : Nat) : Int))] : List Value).getD ι undef)
    (fun _ ι => ([{}, {}] : List Eff).getD ι {})
    (by as_aux_lemma => kernel_rfl) (by as_aux_lemma => kernel_rfl) (fun _ => by as_aux_lemma => kernel_rfl) (fun _ => by as_aux_lemma => kernel_rfl) ⟨⟨trivial, ?_⟩, ?_⟩
  · exact o_as 0 (fun _ => (.int .i64 (IntKind.i64.wrap (((i : Nat) : Int) + 1)))) (fun _ => (.int .i64 ((i + 1 : Nat) : Int))) (fun _ _ => by as_aux_lemma => kernel_rfl) (fun _ => congrArg (Value.int .i64) (wrap_addN i 1 (by have := of_decide_eq_false hb1; have := of_decide_eq_true hb3; have := bne0' hb2; have := hi; omega)))
  · exact o_run 1 [] [] (fun _ _ => []) (fun _ _ => by as_aux_lemma => kernel_rfl)
theorem unhex_any_r15 (S : List UInt8) (i : Nat) (C : Array Value) (ρ6 : Nat → Orc) (w0 : World) (F : World → Prop) : Reg Try.prog 14 (regOps Try.f42 14) false 47 [(0, (.string (strB S))), (4, (.slice (some ⟨nb ρ6 3, 0, none⟩) (List.replicate (((S).length) / 2) (0 : UInt8)).length (((S).length) / 2))), (20, (.int .i64 (((S).length : Nat) : Int))), (21, (.int .i64 ((i : Nat) : Int))), (22, (.bool false))] w0 [(nb ρ6 3, (.cells C 5 (0, 0)))] F
    (fun _ => [(2, (.slice (some ⟨nb ρ6 3, 0, none⟩) (List.replicate (((S).length) / 2) (0 : UInt8)).length (((S).length) / 2))), (3, (.int .i64 0))])
    (fun _ => [(nb ρ6 3, (.cells C 5 (0, 0)))]) := by
  refine reg_seq [0, 1, 3] [2, 3] 3
    (fun _ ι => ([(.slice (some ⟨nb ρ6 3, 0, none⟩) (List.replicate (((S).length) / 2) (0 : UInt8)).length (((S).length) / 2)), (.slice (some ⟨nb ρ6 3, 0, none⟩) (List.replicate (((S).length) / 2) (0 : UInt8)).length (((S).length) / 2)), (.int .i64 0)] : List Value).getD ι undef)
    (fun _ ι => ([{}, {}, {}] : List Eff).getD ι {})
    (by as_aux_lemma => kernel_rfl) (by as_aux_lemma => kernel_rfl) (fun _ => by as_aux_lemma => kernel_rfl) (fun _ => by as_aux_lemma => kernel_rfl) ⟨⟨⟨trivial, ?_⟩, ?_⟩, ?_⟩
  · exact o_run 0 [] [] (fun _ _ => []) (fun _ _ => by as_aux_lemma => kernel_rfl)
  · exact o_run 1 [] [] (fun _ _ => []) (fun _ _ => by as_aux_lemma => kernel_rfl)
  · exact o_run 2 [] [] (fun _ _ => []) (fun _ _ => by as_aux_lemma => kernel_rfl)
theorem unhex_any (S : List UInt8) (w0 : World) : Calls Try.prog 42 #[(.string (strB S))] w0 (fun ε w' => ∃ α κ, ε = .returned (.tuple #[(.slice α (uhX S).length κ), (.int .i64 (uhE S))]) ∧ Below w0.heap.size w0 w' ∧ Fs w0 w' α κ (uhX S)) := by
  refine Calls.of_ok (n := 47) (F := (fun _ => True)) Try.func42 rfl rfl rfl (by simp) persT ?_
  refine ok_seq_r (by as_aux_lemma => kernel_rfl) (unhex_any_r1 S _ _) (fun _ => ?_)
  refine ok_seq ?_
  refine ok_seq_r (by as_aux_lemma => kernel_rfl) (unhex_any_r2 S _ _) (fun _ => ?_)
  refine ok_cond (b := decide (400000 < (((S).length : Nat) : Int))) (by as_aux_lemma => kernel_rfl) (fun hb1 => ?_) (fun hb1 => ?_)
  ·
    rw [hb1]
    refine ok_seq_r (by as_aux_lemma => kernel_rfl) (unhex_any_r3 S _ _) (fun _ => ?_)
    refine ok_ret ?_
    refine mt_then_r ?_
    exact meets_ret (v := (.tuple #[(.slice none 0 0), (.int .i64 4)])) [] (dup []) (by as_aux_lemma => kernel_rfl) (by as_aux_lemma => kernel_rfl) (eqs_dup _) (fun _ hS => ⟨none, 0, congrArg Ending.returned (uh_v (xs := []) (uh4 (by have := of_decide_eq_true hb1; omega))), hS.below, fs_eq (uh_x (uh4 (by have := of_decide_eq_true hb1; omega))) Fs.nil⟩)
  ·
    rw [hb1]
    refine ok_skip ?_
    refine mt_then ?_
    refine ok_seq ?_
    refine ok_seq_r (by as_aux_lemma => kernel_rfl) (unhex_any_r4 S _ _) (fun _ => ?_)
    refine ok_cond (b := ((((S).length) % 2 : Nat) : Int) != 0) (by as_aux_lemma => kernel_rfl) (fun hb2 => ?_) (fun hb2 => ?_)
    ·
      rw [hb2]
      refine ok_seq_r (by as_aux_lemma => kernel_rfl) (unhex_any_r5 S _ _) (fun _ => ?_)
      refine ok_ret ?_
      refine mt_then_r ?_
      exact meets_ret (v := (.tuple #[(.slice none 0 0), (.int .i64 7)])) [] (dup []) (by as_aux_lemma => kernel_rfl) (by as_aux_lemma => kernel_rfl) (eqs_dup _) (fun _ hS => ⟨none, 0, congrArg Ending.returned (uh_v (xs := []) (uh7 (by have := of_decide_eq_false hb1; have := bne0 hb2; omega) (by have := of_decide_eq_false hb1; have := bne0 hb2; omega))), hS.below, fs_eq (uh_x (uh7 (by have := of_decide_eq_false hb1; have := bne0 hb2; omega) (by have := of_decide_eq_false hb1; have := bne0 hb2; omega))) Fs.nil⟩)
    ·
      rw [hb2]
      refine ok_skip ?_
      refine mt_then ?_
      refine ok_seq_rf (by as_aux_lemma => kernel_rfl) (unhex_any_r6 S hb1 hb2 _) (fun ρ6 => ?_)
      refine ok_seq ?_
      refine ok_seq_r (by as_aux_lemma => kernel_rfl) (unhex_any_r7 S ρ6 _ _) (fun _ => ?_)
      refine ok_block ?_
      refine ok_loop (σ := Nat × (Array Value)) (fun ⟨i, _⟩ => [(0, (.string (strB S))), (4, (.slice (some ⟨nb ρ6 3, 0, none⟩) (List.replicate (((S).length) / 2) (0 : UInt8)).length (((S).length) / 2))), (20, (.int .i64 (((S).length : Nat) : Int))), (21, (.int .i64 ((i : Nat) : Int)))]) (fun ⟨_, C⟩ => [(nb ρ6 3, (.cells C 5 (0, 0)))]) (fun ⟨i, _⟩ => S.length - i)
        (fun ⟨i, C⟩ => (i ≤ S.length) ∧ (∀ j, j < i → dgB (gB S j) = true) ∧ (C = unC S i)) (0, zB (((S).length) / 2)) (⟨Nat.zero_le _, fun j hj => absurd hj (Nat.not_lt_zero j), (unC_zero S).symm⟩) (by as_aux_lemma => kernel_rfl) (.cons_cons _ .slnil) ?_
      rintro ⟨i, C⟩ ⟨hi, hD, hC⟩
      change Ok Try.prog _ _ 47 [(0, (.string (strB S))), (4, (.slice (some ⟨nb ρ6 3, 0, none⟩) (List.replicate (((S).length) / 2) (0 : UInt8)).length (((S).length) / 2))), (20, (.int .i64 (((S).length : Nat) : Int))), (21, (.int .i64 ((i : Nat) : Int)))] _ [(nb ρ6 3, (.cells C 5 (0, 0)))] (fun _ => True)
      refine ok_seq_r (by as_aux_lemma => kernel_rfl) (unhex_any_r8 S i C ρ6 _ _) (fun _ => ?_)
      refine ok_seq ?_
      refine ok_cond (b := decide (((i : Nat) : Int) < (((S).length : Nat) : Int))) (by as_aux_lemma => kernel_rfl) (fun hb3 => ?_) (fun hb3 => ?_)
      ·
        rw [hb3]
        refine ok_skip ?_
        refine mt_then ?_
        refine ok_seq ?_
        refine ok_block ?_
        refine ok_seq_r (by as_aux_lemma => kernel_rfl) (unhex_any_r9 S i C ρ6 _ _) (fun _ => ?_)
        refine ok_seq_r (by as_aux_lemma => kernel_rfl) (unhex_any_r10 S hb1 hb2 i C hi hb3 ρ6 _ _) (fun _ => ?_)
        refine ok_seq ?_
        refine ok_seq_r (by as_aux_lemma => kernel_rfl) (unhex_any_r11 S i C ρ6 _ _) (fun _ => ?_)
        refine ok_cond (b := !(dgB (gB S i))) (by as_aux_lemma => kernel_rfl) (fun hb4 => ?_) (fun hb4 => ?_)
        ·
          rw [hb4]
          refine ok_seq_r (by as_aux_lemma => kernel_rfl) (unhex_any_r12 S i C ρ6 _ _) (fun _ => ?_)
          refine ok_ret ?_
          refine mt_then_r ?_
          refine mt_block_r ?_
          refine mt_then_r ?_
          refine mt_then_r ?_
          refine mt_block_r ?_
          refine mt_then_r ?_
          exact meets_ret (v := (.tuple #[(.slice none 0 0), (.int .i64 7)])) [] (dup []) (by as_aux_lemma => kernel_rfl) (by as_aux_lemma => kernel_rfl) (eqs_dup _) (fun _ hS => ⟨none, 0, congrArg Ending.returned (uh_v (xs := []) (uh_bad (by have := of_decide_eq_false hb1; have := of_decide_eq_true hb3; have := bne0' hb2; have := hi; omega) (by have := of_decide_eq_false hb1; have := of_decide_eq_true hb3; have := bne0' hb2; have := hi; omega) (by have := of_decide_eq_false hb1; have := of_decide_eq_true hb3; have := bne0' hb2; have := hi; omega) (not_t hb4))), hS.below, fs_eq (uh_x (uh_bad (by have := of_decide_eq_false hb1; have := of_decide_eq_true hb3; have := bne0' hb2; have := hi; omega) (by have := of_decide_eq_false hb1; have := of_decide_eq_true hb3; have := bne0' hb2; have := hi; omega) (by have := of_decide_eq_false hb1; have := of_decide_eq_true hb3; have := bne0' hb2; have := hi; omega) (not_t hb4))) Fs.nil⟩)
        ·
          rw [hb4]
          refine ok_skip ?_
          refine mt_then ?_
          refine ok_r (by as_aux_lemma => kernel_rfl) (unhex_any_r13 S hb1 hb2 i C hi hC hb3 ρ6 _ _) (fun _ => ?_)
          refine mt_block_n ?_
          refine mt_then ?_
          refine ok_r (by as_aux_lemma => kernel_rfl) (unhex_any_r14 S hb1 hb2 i C hi hb3 ρ6 _ _) (fun _ => ?_)
          exact mt_round (i + 1, C.setIfInBounds (i / 2) (.int .u8 ((unV S i : Nat) : Int))) (by show S.length - (i + 1) < S.length - i; have := of_decide_eq_false hb1; have := of_decide_eq_true hb3; have := bne0' hb2; have := hi; omega) (⟨(by have := of_decide_eq_false hb1; have := of_decide_eq_true hb3; have := bne0' hb2; have := hi; omega), dg_next hD (not_f hb4), by rw [hC]; exact unC_set (by have := of_decide_eq_false hb1; have := of_decide_eq_true hb3; have := bne0' hb2; have := hi; omega)⟩) (by as_aux_lemma => kernel_rfl) (.cons_cons _ .slnil)
      ·
        rw [hb3]
        refine ok_exit ?_
        refine mt_then_e ?_
        refine mt_then_e ?_
        refine mt_block_h ?_
        refine mt_then ?_
        refine ok_seq_r (by as_aux_lemma => kernel_rfl) (unhex_any_r15 S i C ρ6 _ _) (fun _ => ?_)
        refine ok_ret ?_
        exact meets_ret (v := (.tuple #[(.slice (some ⟨nb ρ6 3, 0, none⟩) (List.replicate (((S).length) / 2) (0 : UInt8)).length (((S).length) / 2)), (.int .i64 0)])) [] (dup []) (by as_aux_lemma => kernel_rfl) (by as_aux_lemma => kernel_rfl) (eqs_dup _) (fun _ hS => ⟨(some ⟨nb ρ6 3, 0, none⟩), ((S).length) / 2, congrArg Ending.returned (by rw [un_row (i := i)]; exact uh_v (uh_ok (by have := of_decide_eq_false hb1; have := of_decide_eq_false hb3; have := bne0' hb2; have := hi; omega) (by have := of_decide_eq_false hb1; have := of_decide_eq_false hb3; have := bne0' hb2; have := hi; omega) (by have := of_decide_eq_false hb1; have := of_decide_eq_false hb3; have := bne0' hb2; have := hi; omega) hD (un_end (by have := of_decide_eq_false hb1; have := of_decide_eq_false hb3; have := bne0' hb2; have := hi; omega) (by have := of_decide_eq_false hb1; have := of_decide_eq_false hb3; have := bne0' hb2; have := hi; omega)))), hS.below, fs_eq (uh_x (uh_ok (by have := of_decide_eq_false hb1; have := of_decide_eq_false hb3; have := bne0' hb2; have := hi; omega) (by have := of_decide_eq_false hb1; have := of_decide_eq_false hb3; have := bne0' hb2; have := hi; omega) (by have := of_decide_eq_false hb1; have := of_decide_eq_false hb3; have := bne0' hb2; have := hi; omega) hD (un_end (by have := of_decide_eq_false hb1; have := of_decide_eq_false hb3; have := bne0' hb2; have := hi; omega) (by have := of_decide_eq_false hb1; have := of_decide_eq_false hb3; have := bne0' hb2; have := hi; omega)))) (hS.fresh (.head _) (by rw [hC]; exact Hd.all _) (Nat.le_of_eq (unL_length S i)) (by rw [unL_length]; have := of_decide_eq_false hb1; have := bne0' hb2; omega))⟩)
theorem runhex_any_r1 (S : List UInt8) (w0 : World) (F : World → Prop) : Reg Try.prog 0 (regOps Try.f43 0) false 52 [(0, (.string (strB S)))] w0 [] F
    (fun _ => [(0, (.string (strB S))), (2, (.slice none 0 0)), (3, (.int .i64 0))])
    (fun _ => []) := by
  refine reg_seq [0, 1] [0, 2, 3] 2
    (fun _ ι => ([(.slice none 0 0), (.int .i64 0)] : List Value).getD ι undef)
    (fun _ ι => ([{}, {}] : List Eff).getD ι {})
    (by as_aux_lemma => kernel_rfl) (by as_aux_lemma => kernel_rfl) (fun _ => by as_aux_lemma => kernel_rfl) (fun _ => by as_aux_lemma => kernel_rfl) ⟨⟨trivial, ?_⟩, ?_⟩
  · exact o_run 0 [] [] (fun _ _ => []) (fun _ _ => by as_aux_lemma => kernel_rfl)
  · exact o_run 1 [] [] (fun _ _ => []) (fun _ _ => by as_aux_lemma => kernel_rfl)
theorem runhex_any_r2 (S : List UInt8) (w0 : World) (F : World → Prop) : Reg Try.prog 1 (regOps Try.f43 1) false 52 [(0, (.string (strB S))), (2, (.slice none 0 0)), (3, (.int .i64 0))] w0 [] F
    (fun _ => [(0, (.string (strB S))), (2, (.slice none 0 0)), (3, (.int .i64 0)), (12, (.bool (decide (400000 < (((S).length : Nat) : Int)))))])
    (fun _ => []) := by
  refine reg_seq [0, 1, 3] [0, 2, 3, 12] 3
    (fun _ ι => ([(.string (strB S)), (.int .i64 (((S).length : Nat) : Int)), (.bool (decide (400000 < (((S).length : Nat) : Int))))] : List Value).getD ι undef)
    (fun _ ι => ([{}, {}, {}] : List Eff).getD ι {})
    (by as_aux_lemma => kernel_rfl) (by as_aux_lemma => kernel_rfl) (fun _ => by as_aux_lemma => kernel_rfl) (fun _ => by as_aux_lemma => kernel_rfl) ⟨⟨⟨trivial, ?_⟩, ?_⟩, ?_⟩
  · exact o_run 0 [] [] (fun _ _ => []) (fun _ _ => by as_aux_lemma => kernel_rfl)
  · exact o_run 1 [] [] (fun _ _ => []) (fun _ _ => by as_aux_lemma => kernel_rfl)
  · exact o_run 2 [] [] (fun _ _ => []) (fun _ _ => by as_aux_lemma => kernel_rfl)
theorem runhex_any_r3 (S : List UInt8) (w0 : World) (F : World → Prop) : Reg Try.prog 2 (regOps Try.f43 2) false 52 [(0, (.string (strB S))), (2, (.slice none 0 0)), (3, (.int .i64 0)), (12, (.bool true))] w0 [] F
    (fun _ => [(0, (.string (strB S))), (2, (.slice none 0 0)), (3, (.int .i64 4))])
    (fun _ => []) := by
  refine reg_seq [0, 1] [0, 2, 3] 2
    (fun _ ι => ([(.slice none 0 0), (.int .i64 4)] : List Value).getD ι undef)
    (fun _ ι => ([{}, {}] : List Eff).getD ι {})
    (by as_aux_lemma => kernel_rfl) (by as_aux_lemma => kernel_rfl) (fun _ => by as_aux_lemma => kernel_rfl) (fun _ => by as_aux_lemma => kernel_rfl) ⟨⟨trivial, ?_⟩, ?_⟩
  · exact o_run 0 [] [] (fun _ _ => []) (fun _ _ => by as_aux_lemma => kernel_rfl)
  · exact o_run 1 [] [] (fun _ _ => []) (fun _ _ => by as_aux_lemma => kernel_rfl)
theorem runhex_any_r4 (S : List UInt8) (w0 : World) (F : World → Prop) : Reg Try.prog 3 (regOps Try.f43 3) false 52 [(0, (.string (strB S))), (2, (.slice none 0 0)), (3, (.int .i64 0)), (12, (.bool false))] w0 [] F
    (fun _ => [(0, (.string (strB S))), (2, (.slice none 0 0)), (3, (.int .i64 0)), (16, (.bool (((((S).length) % 2 : Nat) : Int) != 0)))])
    (fun _ => []) := by
  refine reg_seq [0, 1, 3, 7] [0, 2, 3, 16] 4
    (fun _ ι => ([(.string (strB S)), (.int .i64 (((S).length : Nat) : Int)), (.int .i64 ((((S).length) % 2 : Nat) : Int)), (.bool (((((S).length) % 2 : Nat) : Int) != 0))] : List Value).getD ι undef)
    (fun _ ι => ([{}, {}, {}, {}] : List Eff).getD ι {})
    (by as_aux_lemma => kernel_rfl) (by as_aux_lemma => kernel_rfl) (fun _ => by as_aux_lemma => kernel_rfl) (fun _ => by as_aux_lemma => kernel_rfl) ⟨⟨⟨⟨trivial, ?_⟩, ?_⟩, ?_⟩, ?_⟩
  · exact o_run 0 [] [] (fun _ _ => []) (fun _ _ => by as_aux_lemma => kernel_rfl)
  · exact o_run 1 [] [] (fun _ _ => []) (fun _ _ => by as_aux_lemma => kernel_rfl)
  · exact o_bin 2 .rem 3 (fun _ => (.int .i64 (((S).length : Nat) : Int))) (fun _ => (.int .i64 2)) (fun _ => (.int .i64 ((((S).length) % 2 : Nat) : Int))) (fun _ => by as_aux_lemma => kernel_rfl) (fun _ _ _ _ => by as_aux_lemma => kernel_rfl) (fun _ w => run_remU (k := .i64) (n := ((S).length)) (d := 2) (by decide) w)
  · exact o_run 3 [] [] (fun _ _ => []) (fun _ _ => by as_aux_lemma => kernel_rfl)
theorem runhex_any_r5 (S : List UInt8) (w0 : World) (F : World → Prop) : Reg Try.prog 4 (regOps Try.f43 4) false 52 [(0, (.string (strB S))), (2, (.slice none 0 0)), (3, (.int .i64 0)), (16, (.bool true))] w0 [] F
    (fun _ => [(0, (.string (strB S))), (2, (.slice none 0 0)), (3, (.int .i64 7))])
    (fun _ => []) := by
  refine reg_seq [0, 1] [0, 2, 3] 2
    (fun _ ι => ([(.slice none 0 0), (.int .i64 7)] : List Value).getD ι undef)
    (fun _ ι => ([{}, {}] : List Eff).getD ι {})
    (by as_aux_lemma => kernel_rfl) (by as_aux_lemma => kernel_rfl) (fun _ => by as_aux_lemma => kernel_rfl) (fun _ => by as_aux_lemma => kernel_rfl) ⟨⟨trivial, ?_⟩, ?_⟩
  · exact o_run 0 [] [] (fun _ _ => []) (fun _ _ => by as_aux_lemma => kernel_rfl)
  · exact o_run 1 [] [] (fun _ _ => []) (fun _ _ => by as_aux_lemma => kernel_rfl)
theorem runhex_any_r6 (S : List UInt8) (w0 : World) (F : World → Prop) : Reg Try.prog 5 (regOps Try.f43 5) false 52 [(0, (.string (strB S))), (2, (.slice none 0 0)), (3, (.int .i64 0)), (16, (.bool false))] w0 [] F
    (fun _ => [(0, (.string (strB S))), (2, (.slice none 0 0)), (3, (.int .i64 0)), (4, (.slice none 0 0))])
    (fun _ => []) := by
  refine reg_seq [0] [0, 2, 3, 4] 1
    (fun _ ι => ([(.slice none 0 0)] : List Value).getD ι undef)
    (fun _ ι => ([{}] : List Eff).getD ι {})
    (by as_aux_lemma => kernel_rfl) (by as_aux_lemma => kernel_rfl) (fun _ => by as_aux_lemma => kernel_rfl) (fun _ => by as_aux_lemma => kernel_rfl) ⟨trivial, ?_⟩
  · exact o_run 0 [] [] (fun _ _ => []) (fun _ _ => by as_aux_lemma => kernel_rfl)
theorem runhex_any_r7 (S : List UInt8) (w0 : World) (F : World → Prop) : Reg Try.prog 6 (regOps Try.f43 6) false 52 [(0, (.string (strB S))), (2, (.slice none 0 0)), (3, (.int .i64 0)), (4, (.slice none 0 0))] w0 [] F
    (fun _ => [(0, (.string (strB S))), (2, (.slice none 0 0)), (3, (.int .i64 0)), (4, (.slice none 0 0)), (5, (.int .i64 0))])
    (fun _ => []) := by
  refine reg_seq [0] [0, 2, 3, 4, 5] 1
    (fun _ ι => ([(.int .i64 0)] : List Value).getD ι undef)
    (fun _ ι => ([{}] : List Eff).getD ι {})
    (by as_aux_lemma => kernel_rfl) (by as_aux_lemma => kernel_rfl) (fun _ => by as_aux_lemma => kernel_rfl) (fun _ => by as_aux_lemma => kernel_rfl) ⟨trivial, ?_⟩
  · exact o_run 0 [] [] (fun _ _ => []) (fun _ _ => by as_aux_lemma => kernel_rfl)
theorem runhex_any_r8 (S : List UInt8) (k : Nat) (w0 : World) (F : World → Prop) : Reg Try.prog 7 (regOps Try.f43 7) false 52 [(0, (.string (strB S))), (4, (.slice none 0 0)), (5, (.int .i64 ((2 * k : Nat) : Int)))] w0 [] F
    (fun _ => [(0, (.string (strB S))), (4, (.slice none 0 0)), (5, (.int .i64 ((2 * k : Nat) : Int))), (20, (.bool (decide (((2 * k : Nat) : Int) < (((S).length : Nat) : Int)))))])
    (fun _ => []) := by
  refine reg_seq [0, 1, 3, 7] [0, 4, 5, 20] 4
    (fun _ ι => ([(.int .i64 ((2 * k : Nat) : Int)), (.string (strB S)), (.int .i64 (((S).length : Nat) : Int)), (.bool (decide (((2 * k : Nat) : Int) < (((S).length : Nat) : Int))))] : List Value).getD ι undef)
    (fun _ ι => ([{}, {}, {}, {}] : List Eff).getD ι {})
    (by as_aux_lemma => kernel_rfl) (by as_aux_lemma => kernel_rfl) (fun _ => by as_aux_lemma => kernel_rfl) (fun _ => by as_aux_lemma => kernel_rfl) ⟨⟨⟨⟨trivial, ?_⟩, ?_⟩, ?_⟩, ?_⟩
  · exact o_run 0 [] [] (fun _ _ => []) (fun _ _ => by as_aux_lemma => kernel_rfl)
  · exact o_run 1 [] [] (fun _ _ => []) (fun _ _ => by as_aux_lemma => kernel_rfl)
  · exact o_run 2 [] [] (fun _ _ => []) (fun _ _ => by as_aux_lemma => kernel_rfl)
  · exact o_run 3 [] [] (fun _ _ => []) (fun _ _ => by as_aux_lemma => kernel_rfl)
theorem runhex_any_r9 (S : List UInt8) (hb1 : (decide (400000 < (((S).length : Nat) : Int))) = false) (hb2 : (((((S).length) % 2 : Nat) : Int) != 0) = false) (k : Nat) (hk : 2 * k ≤ S.length) (h0 : k = 0) (hb3 : (decide (((2 * k : Nat) : Int) < (((S).length : Nat) : Int))) = true) (w0 : World) (F : World → Prop) : Reg Try.prog 9 (regOps Try.f43 9) false 52 [(0, (.string (strB S))), (4, (.slice none 0 0)), (5, (.int .i64 ((2 * k : Nat) : Int))), (20, (.bool true))] w0 [] F
    (fun _ => [(0, (.string (strB S))), (4, (.slice none 0 0)), (5, (.int .i64 ((2 * k : Nat) : Int))), (6, (.int .u8 ((dg (gB S (2 * k)) : Nat) : Int))), (7, (.bool (dgB (gB S (2 * k)))))])
    (fun _ => []) := by
  refine reg_seq [0, 1, 3, 7, 15, 31, 63, 127, 255] [0, 4, 5, 6, 7] 9
    (fun _ ι => ([(.string (strB S)), (.int .i64 ((2 * k : Nat) : Int)), (.int .u8 ((gB S (2 * k) : Nat) : Int)), (.tuple #[(.int .u8 ((dg (gB S (2 * k)) : Nat) : Int)), (.bool (dgB (gB S (2 * k))))]), (.tuple #[(.int .u8 ((dg (gB S (2 * k)) : Nat) : Int)), (.bool (dgB (gB S (2 * k))))]), (.int .u8 ((dg (gB S (2 * k)) : Nat) : Int)), (.bool (dgB (gB S (2 * k)))), (.int .u8 ((dg (gB S (2 * k)) : Nat) : Int)), (.bool (dgB (gB S (2 * k))))] : List Value).getD ι undef)
    (fun _ ι => ([{}, {}, {}, {}, {}, {}, {}, {}, {}] : List Eff).getD ι {})
    (by as_aux_lemma => kernel_rfl) (by as_aux_lemma => kernel_rfl) (fun _ => by as_aux_lemma => kernel_rfl) (fun _ => by as_aux_lemma => kernel_rfl) ⟨⟨⟨⟨⟨⟨⟨⟨⟨trivial, ?_⟩, ?_⟩, ?_⟩, ?_⟩, ?_⟩, ?_⟩, ?_⟩, ?_⟩, ?_⟩
  · exact o_run 0 [] [] (fun _ _ => []) (fun _ _ => by as_aux_lemma => kernel_rfl)
  · exact o_run 1 [] [] (fun _ _ => []) (fun _ _ => by as_aux_lemma => kernel_rfl)
  · exact o_sem 2 (fun _ => do pure (Next.value (← Instr.index 9 (.string (strB S)) (.int .i64 ((2 * k : Nat) : Int))))) (fun _ => (.int .u8 ((gB S (2 * k) : Nat) : Int))) (fun _ => (by as_aux_lemma => kernel_rfl)) (fun _ => (by as_aux_lemma => kernel_rfl)) (fun _ w => idx_str (S := S) Try.underlying9 ((show ((2 * k : Nat) : Int) = (((2 * k) : Nat) : Int) ∧ (2 * k) < (S).length from ⟨rfl, (by have := of_decide_eq_false hb1; have := of_decide_eq_true hb3; have := bne0' hb2; have := hk; have := h0; have := dg_lt (gB S (2 * k)); have := dg_lt (gB S (2 * k + 1)); have := uhP_length S k; omega)⟩)).1 ((show ((2 * k : Nat) : Int) = (((2 * k) : Nat) : Int) ∧ (2 * k) < (S).length from ⟨rfl, (by have := of_decide_eq_false hb1; have := of_decide_eq_true hb3; have := bne0' hb2; have := hk; have := h0; have := dg_lt (gB S (2 * k)); have := dg_lt (gB S (2 * k + 1)); have := uhP_length S k; omega)⟩)).2 w)
  · exact o_call 3 57 (fun _ => #[(.int .u8 ((gB S (2 * k) : Nat) : Int))]) (fun _ => (.tuple #[(.int .u8 ((dg (gB S (2 * k)) : Nat) : Int)), (.bool (dgB (gB S (2 * k))))])) (fun _ _ => by as_aux_lemma => kernel_rfl) (fun _ w => (fun w => half_any (gB S (2 * k)) (by have := of_decide_eq_false hb1; have := of_decide_eq_true hb3; have := bne0' hb2; have := hk; have := h0; have := dg_lt (gB S (2 * k)); have := dg_lt (gB S (2 * k + 1)); have := uhP_length S k; have := gB_lt S (2 * k); omega) w) w)
  · exact o_run 4 [] [] (fun _ _ => []) (fun _ _ => by as_aux_lemma => kernel_rfl)
  · exact o_run 5 [] [] (fun _ _ => []) (fun _ _ => by as_aux_lemma => kernel_rfl)
  · exact o_run 6 [] [] (fun _ _ => []) (fun _ _ => by as_aux_lemma => kernel_rfl)
  · exact o_run 7 [] [] (fun _ _ => []) (fun _ _ => by as_aux_lemma => kernel_rfl)
  · exact o_run 8 [] [] (fun _ _ => []) (fun _ _ => by as_aux_lemma => kernel_rfl)
theorem runhex_any_r10 (S : List UInt8) (hb1 : (decide (400000 < (((S).length : Nat) : Int))) = false) (hb2 : (((((S).length) % 2 : Nat) : Int) != 0) = false) (k : Nat) (hk : 2 * k ≤ S.length) (h0 : k = 0) (hb3 : (decide (((2 * k : Nat) : Int) < (((S).length : Nat) : Int))) = true) (w0 : World) (F : World → Prop) : Reg Try.prog 10 (regOps Try.f43 10) false 52 [(0, (.string (strB S))), (4, (.slice none 0 0)), (5, (.int .i64 ((2 * k : Nat) : Int))), (6, (.int .u8 ((dg (gB S (2 * k)) : Nat) : Int))), (7, (.bool (dgB (gB S (2 * k)))))] w0 [] F
    (fun _ => [(0, (.string (strB S))), (4, (.slice none 0 0)), (5, (.int .i64 ((2 * k : Nat) : Int))), (6, (.int .u8 ((dg (gB S (2 * k)) : Nat) : Int))), (7, (.bool (dgB (gB S (2 * k))))), (8, (.int .u8 ((dg (gB S ((2 * k) + 1)) : Nat) : Int))), (9, (.bool (dgB (gB S ((2 * k) + 1)))))])
    (fun _ => []) := by
  refine reg_seq [0, 1, 3, 7, 15, 31, 63, 127, 255, 511] [0, 4, 5, 6, 7, 8, 9] 10
    (fun _ ι => ([(.string (strB S)), (.int .i64 ((2 * k : Nat) : Int)), (.int .i64 (((2 * k) + 1 : Nat) : Int)), (.int .u8 ((gB S ((2 * k) + 1) : Nat) : Int)), (.tuple #[(.int .u8 ((dg (gB S ((2 * k) + 1)) : Nat) : Int)), (.bool (dgB (gB S ((2 * k) + 1))))]), (.tuple #[(.int .u8 ((dg (gB S ((2 * k) + 1)) : Nat) : Int)), (.bool (dgB (gB S ((2 * k) + 1))))]), (.int .u8 ((dg (gB S ((2 * k) + 1)) : Nat) : Int)), (.bool (dgB (gB S ((2 * k) + 1)))), (.int .u8 ((dg (gB S ((2 * k) + 1)) : Nat) : Int)), (.bool (dgB (gB S ((2 * k) + 1))))] : List Value).getD ι undef)
    (fun _ ι => ([{}, {}, {}, {}, {}, {}, {}, {}, {}, {}] : List Eff).getD ι {})
    (by as_aux_lemma => kernel_rfl) (by as_aux_lemma => kernel_rfl) (fun _ => by as_aux_lemma => kernel_rfl) (fun _ => by as_aux_lemma => kernel_rfl) ⟨⟨⟨⟨⟨⟨⟨⟨⟨⟨trivial, ?_⟩, ?_⟩, ?_⟩, ?_⟩, ?_⟩, ?_⟩, ?_⟩, ?_⟩, ?_⟩, ?_⟩
  · exact o_run 0 [] [] (fun _ _ => []) (fun _ _ => by as_aux_lemma => kernel_rfl)
  · exact o_run 1 [] [] (fun _ _ => []) (fun _ _ => by as_aux_lemma => kernel_rfl)
  · exact o_as 2 (fun _ => (.int .i64 (IntKind.i64.wrap (((2 * k : Nat) : Int) + 1)))) (fun _ => (.int .i64 (((2 * k) + 1 : Nat) : Int))) (fun _ _ => by as_aux_lemma => kernel_rfl) (fun _ => congrArg (Value.int .i64) (wrap_addN (2 * k) 1 (by have := of_decide_eq_false hb1; have := of_decide_eq_true hb3; have := bne0' hb2; have := hk; have := h0; have := dg_lt (gB S (2 * k)); have := dg_lt (gB S (2 * k + 1)); have := uhP_length S k; omega)))
  · exact o_sem 3 (fun _ => do pure (Next.value (← Instr.index 9 (.string (strB S)) (.int .i64 (((2 * k) + 1 : Nat) : Int))))) (fun _ => (.int .u8 ((gB S ((2 * k) + 1) : Nat) : Int))) (fun _ => (by as_aux_lemma => kernel_rfl)) (fun _ => (by as_aux_lemma => kernel_rfl)) (fun _ w => idx_str (S := S) Try.underlying9 ((show (((2 * k) + 1 : Nat) : Int) = ((((2 * k) + 1) : Nat) : Int) ∧ ((2 * k) + 1) < (S).length from ⟨rfl, (by have := of_decide_eq_false hb1; have := of_decide_eq_true hb3; have := bne0' hb2; have := hk; have := h0; have := dg_lt (gB S (2 * k)); have := dg_lt (gB S (2 * k + 1)); have := uhP_length S k; omega)⟩)).1 ((show (((2 * k) + 1 : Nat) : Int) = ((((2 * k) + 1) : Nat) : Int) ∧ ((2 * k) + 1) < (S).length from ⟨rfl, (by have := of_decide_eq_false hb1; have := of_decide_eq_true hb3; have := bne0' hb2; have := hk; have := h0; have := dg_lt (gB S (2 * k)); have := dg_lt (gB S (2 * k + 1)); have := uhP_length S k; omega)⟩)).2 w)
  · exact o_call 4 57 (fun _ => #[(.int .u8 ((gB S ((2 * k) + 1) : Nat) : Int))]) (fun _ => (.tuple #[(.int .u8 ((dg (gB S ((2 * k) + 1)) : Nat) : Int)), (.bool (dgB (gB S ((2 * k) + 1))))])) (fun _ _ => by as_aux_lemma => kernel_rfl) (fun _ w => (fun w => half_any (gB S ((2 * k) + 1)) (by have := of_decide_eq_false hb1; have := of_decide_eq_true hb3; have := bne0' hb2; have := hk; have := h0; have := dg_lt (gB S (2 * k)); have := dg_lt (gB S (2 * k + 1)); have := uhP_length S k; have := gB_lt S ((2 * k) + 1); omega) w) w)
  · exact o_run 5 [] [] (fun _ _ => []) (fun _ _ => by as_aux_lemma => kernel_rfl)
  · exact o_run 6 [] [] (fun _ _ => []) (fun _ _ => by as_aux_lemma => kernel_rfl)
  · exact o_run 7 [] [] (fun _ _ => []) (fun _ _ => by as_aux_lemma => kernel_rfl)
  · exact o_run 8 [] [] (fun _ _ => []) (fun _ _ => by as_aux_lemma => kernel_rfl)
  · exact o_run 9 [] [] (fun _ _ => []) (fun _ _ => by as_aux_lemma => kernel_rfl)
theorem runhex_any_r11 (S : List UInt8) (k : Nat) (w0 : World) (F : World → Prop) : Reg Try.prog 11 (regOps Try.f43 11) false 52 [(0, (.string (strB S))), (4, (.slice none 0 0)), (5, (.int .i64 ((2 * k : Nat) : Int))), (6, (.int .u8 ((dg (gB S (2 * k)) : Nat) : Int))), (7, (.bool true)), (8, (.int .u8 ((dg (gB S ((2 * k) + 1)) : Nat) : Int))), (9, (.bool (dgB (gB S ((2 * k) + 1)))))] w0 [] F
    (fun _ => [(0, (.string (strB S))), (4, (.slice none 0 0)), (5, (.int .i64 ((2 * k : Nat) : Int))), (6, (.int .u8 ((dg (gB S (2 * k)) : Nat) : Int))), (8, (.int .u8 ((dg (gB S ((2 * k) + 1)) : Nat) : Int))), (43, (.bool (!(dgB (gB S ((2 * k) + 1))))))])
    (fun _ => []) := by
  refine reg_seq [0, 1, 3, 7, 15, 31] [0, 4, 5, 6, 8, 43] 6
    (fun _ ι => ([(.bool true), (.bool false), (.bool false), (.bool (dgB (gB S ((2 * k) + 1)))), (.bool (!(dgB (gB S ((2 * k) + 1))))), (.bool (!(dgB (gB S ((2 * k) + 1)))))] : List Value).getD ι undef)
    (fun _ ι => ([{}, {}, {}, {}, {}, {}] : List Eff).getD ι {})
    (by as_aux_lemma => kernel_rfl) (by as_aux_lemma => kernel_rfl) (fun _ => by as_aux_lemma => kernel_rfl) (fun _ => by as_aux_lemma => kernel_rfl) ⟨⟨⟨⟨⟨⟨trivial, ?_⟩, ?_⟩, ?_⟩, ?_⟩, ?_⟩, ?_⟩
  · exact o_run 0 [] [] (fun _ _ => []) (fun _ _ => by as_aux_lemma => kernel_rfl)
  · exact o_run 1 [] [] (fun _ _ => []) (fun _ _ => by as_aux_lemma => kernel_rfl)
  · exact o_run 2 [] [] (fun _ _ => []) (fun _ _ => by as_aux_lemma => kernel_rfl)
  · exact o_run 3 [] [] (fun _ _ => []) (fun _ _ => by as_aux_lemma => kernel_rfl)
  · exact o_run 4 [] [] (fun _ _ => []) (fun _ _ => by as_aux_lemma => kernel_rfl)
  · exact o_run 5 [] [] (fun _ _ => []) (fun _ _ => by as_aux_lemma => kernel_rfl)
theorem runhex_any_r12 (S : List UInt8) (k : Nat) (w0 : World) (F : World → Prop) : Reg Try.prog 12 (regOps Try.f43 12) false 52 [(0, (.string (strB S))), (4, (.slice none 0 0)), (5, (.int .i64 ((2 * k : Nat) : Int))), (6, (.int .u8 ((dg (gB S (2 * k)) : Nat) : Int))), (8, (.int .u8 ((dg (gB S ((2 * k) + 1)) : Nat) : Int))), (43, (.bool true))] w0 [] F
    (fun _ => [(0, (.string (strB S))), (2, (.slice none 0 0)), (3, (.int .i64 7)), (4, (.slice none 0 0)), (5, (.int .i64 ((2 * k : Nat) : Int))), (6, (.int .u8 ((dg (gB S (2 * k)) : Nat) : Int))), (8, (.int .u8 ((dg (gB S ((2 * k) + 1)) : Nat) : Int)))])
    (fun _ => []) := by
  refine reg_seq [0, 1] [0, 2, 3, 4, 5, 6, 8] 2
    (fun _ ι => ([(.slice none 0 0), (.int .i64 7)] : List Value).getD ι undef)
    (fun _ ι => ([{}, {}] : List Eff).getD ι {})
    (by as_aux_lemma => kernel_rfl) (by as_aux_lemma => kernel_rfl) (fun _ => by as_aux_lemma => kernel_rfl) (fun _ => by as_aux_lemma => kernel_rfl) ⟨⟨trivial, ?_⟩, ?_⟩
  · exact o_run 0 [] [] (fun _ _ => []) (fun _ _ => by as_aux_lemma => kernel_rfl)
  · exact o_run 1 [] [] (fun _ _ => []) (fun _ _ => by as_aux_lemma => kernel_rfl)
theorem runhex_any_r13 (S : List UInt8) (hb1 : (decide (400000 < (((S).length : Nat) : Int))) = false) (hb2 : (((((S).length) % 2 : Nat) : Int) != 0) = false) (k : Nat) (hk : 2 * k ≤ S.length) (h0 : k = 0) (hb3 : (decide (((2 * k : Nat) : Int) < (((S).length : Nat) : Int))) = true) (w0 : World) : RegF Try.prog 13 (regOps Try.f43 13) false 52 [(0, (.string (strB S))), (4, (.slice none 0 0)), (5, (.int .i64 ((2 * k : Nat) : Int))), (6, (.int .u8 ((dg (gB S (2 * k)) : Nat) : Int))), (8, (.int .u8 ((dg (gB S ((2 * k) + 1)) : Nat) : Int))), (43, (.bool false))] w0 [] (fun _ => True)
    (fun ρ => [(0, (.string (strB S))), (4, (.slice (some ⟨nb ρ 6, 0, none⟩) (([ob ((uh1 S k : Nat) : Int)] : List UInt8)).length ((([ob ((uh1 S k : Nat) : Int)] : List UInt8)).length + nb2 ρ 6))), (5, (.int .i64 ((2 * k : Nat) : Int)))])
    (fun ρ => [(nb ρ 5, (.cells #[(.int .u8 ((uh1 S k : Nat) : Int))] 5 (0, 0))), (nb ρ 6, (.cells ((bs ([ob ((uh1 S k : Nat) : Int)] : List UInt8)).toArray ++ zB (nb2 ρ 6)) 5 (0, 0)))]) (fun _ => (fun _ => True)) := by
  refine reg_seq_f [0, 1, 3, 7, 15, 31, 63, 127] [0, 4, 5] 8
    (fun ρ ι => ([(.slice none 0 0), (.int .u8 ((dg (gB S (2 * k)) : Nat) : Int)), (.int .u8 (16 * ((dg (gB S (2 * k)) : Nat) : Int))), (.int .u8 ((dg (gB S ((2 * k) + 1)) : Nat) : Int)), (.int .u8 ((uh1 S k : Nat) : Int)), (.slice (some ⟨nb ρ 5, 0, none⟩) (([ob ((uh1 S k : Nat) : Int)] : List UInt8)).length 1), (.slice (some ⟨nb ρ 6, 0, none⟩) (([ob ((uh1 S k : Nat) : Int)] : List UInt8)).length ((([ob ((uh1 S k : Nat) : Int)] : List UInt8)).length + nb2 ρ 6)), (.slice (some ⟨nb ρ 6, 0, none⟩) (([ob ((uh1 S k : Nat) : Int)] : List UInt8)).length ((([ob ((uh1 S k : Nat) : Int)] : List UInt8)).length + nb2 ρ 6))] : List Value).getD ι undef)
    (fun ρ ι => ([{}, {}, {}, {}, {}, { news := [(nb ρ 5, (.cells #[(.int .u8 ((uh1 S k : Nat) : Int))] 5 (0, 0)))] }, { news := [(nb ρ 6, (.cells ((bs ([ob ((uh1 S k : Nat) : Int)] : List UInt8)).toArray ++ zB (nb2 ρ 6)) 5 (0, 0)))] }, {}] : List Eff).getD ι {})
    (fun _ ι => ([(fun _ => True), (fun _ => True), (fun _ => True), (fun _ => True), (fun _ => True), (fun _ => True), (fun _ => True), (fun _ => True)] : List (World → Prop)).getD ι (fun _ => True))
    (by as_aux_lemma => kernel_rfl) (by as_aux_lemma => kernel_rfl) (fun _ => by as_aux_lemma => kernel_rfl) (fun _ => by as_aux_lemma => kernel_rfl) (fun _ _ _ _ => trivial) ⟨⟨⟨⟨⟨⟨⟨⟨trivial, ?_⟩, ?_⟩, ?_⟩, ?_⟩, ?_⟩, ?_⟩, ?_⟩, ?_⟩
  · exact Obl.brings (o_run 0 [] [] (fun _ _ => []) (fun _ _ => by as_aux_lemma => kernel_rfl)) (fun _ _ => trivial)
  · exact Obl.brings (o_run 1 [] [] (fun _ _ => []) (fun _ _ => by as_aux_lemma => kernel_rfl)) (fun _ _ => trivial)
  · exact Obl.brings (o_as 2 (fun _ => (.int .u8 (IntKind.u8.wrap (16 * ((dg (gB S (2 * k)) : Nat) : Int))))) (fun _ => (.int .u8 (16 * ((dg (gB S (2 * k)) : Nat) : Int)))) (fun _ _ => by as_aux_lemma => kernel_rfl) (fun _ => congrArg (Value.int .u8) (u8I (by have := of_decide_eq_false hb1; have := of_decide_eq_true hb3; have := bne0' hb2; have := hk; have := h0; have := dg_lt (gB S (2 * k)); have := dg_lt (gB S (2 * k + 1)); have := uhP_length S k; omega)))) (fun _ _ => trivial)
  · exact Obl.brings (o_run 3 [] [] (fun _ _ => []) (fun _ _ => by as_aux_lemma => kernel_rfl)) (fun _ _ => trivial)
  · exact Obl.brings (o_as 4 (fun _ => (.int .u8 (IntKind.u8.wrap ((16 * ((dg (gB S (2 * k)) : Nat) : Int)) + ((dg (gB S ((2 * k) + 1)) : Nat) : Int))))) (fun _ => (.int .u8 ((uh1 S k : Nat) : Int))) (fun _ _ => by as_aux_lemma => kernel_rfl) (fun _ => congrArg (Value.int .u8) ((u8I (by have := of_decide_eq_false hb1; have := of_decide_eq_true hb3; have := bne0' hb2; have := hk; have := h0; have := dg_lt (gB S (2 * k)); have := dg_lt (gB S (2 * k + 1)); have := uhP_length S k; omega)).trans (by rw [uh1]; omega)))) (fun _ _ => trivial)
  · exact Obl.brings (o_run 5 [] [] (fun _ _ => []) (fun _ _ => by as_aux_lemma => kernel_rfl)) (fun _ _ => trivial)
  · exact o_new1 6 (fun ρ => do pure (Next.value (← Builtin.append_ #[22, 22] 22 #[(.slice none 0 0), (.slice (some ⟨nb ρ 5, 0, none⟩) (([ob ((uh1 S k : Nat) : Int)] : List UInt8)).length 1)]))) (fun _ z => (.slice (some ⟨z.headD 0, 0, none⟩) (([ob ((uh1 S k : Nat) : Int)] : List UInt8)).length ((([ob ((uh1 S k : Nat) : Int)] : List UInt8)).length + z.tail.headD 0))) (fun _ z => (.cells ((bs ([ob ((uh1 S k : Nat) : Int)] : List UInt8)).toArray ++ zB (z.tail.headD 0)) 5 (0, 0))) (fun _ _ => (by as_aux_lemma => kernel_rfl)) (fun _ => (by as_aux_lemma => kernel_rfl)) (fun _ _ => trivial) (fun ρ _ _ hG => app_nilL Try.underlying22 u8i (Bs.src (tx := 22) Try.underlying22 (Bs.of_hd (hG.known (g := nb ρ 5) (o := (.cells #[(.int .u8 ((uh1 S k : Nat) : Int))] 5 (0, 0))) 40 (by as_aux_lemma => kernel_rfl) (by as_aux_lemma => kernel_rfl)) (hd1 ((by have := uh1_lt S k; omega))) (Nat.le_refl 1) (Nat.le_of_ble_eq_true rfl))) ((Nat.zero_lt_succ _)) ((Nat.le_of_ble_eq_true rfl)))
  · exact Obl.brings (o_run 7 [] [] (fun _ _ => []) (fun _ _ => by as_aux_lemma => kernel_rfl)) (fun _ _ => trivial)
theorem runhex_any_r14 (S : List UInt8) (hb1 : (decide (400000 < (((S).length : Nat) : Int))) = false) (hb2 : (((((S).length) % 2 : Nat) : Int) != 0) = false) (k : Nat) (hk : 2 * k ≤ S.length) (h0 : k = 0) (hb3 : (decide (((2 * k : Nat) : Int) < (((S).length : Nat) : Int))) = true) (ρ13 : Nat → Orc) (w0 : World) (F : World → Prop) : Reg Try.prog 8 (regOps Try.f43 8) false 52 [(0, (.string (strB S))), (4, (.slice (some ⟨nb ρ13 6, 0, none⟩) (([ob ((uh1 S k : Nat) : Int)] : List UInt8)).length ((([ob ((uh1 S k : Nat) : Int)] : List UInt8)).length + nb2 ρ13 6))), (5, (.int .i64 ((2 * k : Nat) : Int)))] w0 [(nb ρ13 5, (.cells #[(.int .u8 ((uh1 S k : Nat) : Int))] 5 (0, 0))), (nb ρ13 6, (.cells ((bs ([ob ((uh1 S k : Nat) : Int)] : List UInt8)).toArray ++ zB (nb2 ρ13 6)) 5 (0, 0)))] F
    (fun _ => [(0, (.string (strB S))), (4, (.slice (some ⟨nb ρ13 6, 0, none⟩) (([ob ((uh1 S k : Nat) : Int)] : List UInt8)).length ((([ob ((uh1 S k : Nat) : Int)] : List UInt8)).length + nb2 ρ13 6))), (5, (.int .i64 ((2 * (k + 1) : Nat) : Int)))])
    (fun _ => [(nb ρ13 5, (.cells #[(.int .u8 ((uh1 S k : Nat) : Int))] 5 (0, 0))), (nb ρ13 6, (.cells ((bs ([ob ((uh1 S k : Nat) : Int)] : List UInt8)).toArray ++ zB (nb2 ρ13 6)) 5 (0, 0)))]) := by
  refine reg_seq [0, 1, 3] [0, 4, 5] 3
    (fun _ ι => ([(.int .i64 ((2 * k : Nat) : Int)), (.int .i64 ((2 * (k + 1) : Nat) : Int)), (.int .i64 ((2 * (k + 1) : Nat) : Int))] : List Value).getD ι undef)
    (fun _ ι => ([{}, {}, {}] : List Eff).getD ι {})
    (by as_aux_lemma => kernel_rfl) (by as_aux_lemma => kernel_rfl) (fun _ => by as_aux_lemma => kernel_rfl) (fun _ => by as_aux_lemma => kernel_rfl) ⟨⟨⟨trivial, ?_⟩, ?_⟩, ?_⟩
  · exact o_run 0 [] [] (fun _ _ => []) (fun _ _ => by as_aux_lemma => kernel_rfl)
  · exact o_as 1 (fun _ => (.int .i64 (IntKind.i64.wrap (((2 * k : Nat) : Int) + 2)))) (fun _ => (.int .i64 ((2 * (k + 1) : Nat) : Int))) (fun _ _ => by as_aux_lemma => kernel_rfl) (fun _ => congrArg (Value.int .i64) ((i64N (by have := of_decide_eq_false hb1; have := of_decide_eq_true hb3; have := bne0' hb2; have := hk; have := h0; have := dg_lt (gB S (2 * k)); have := dg_lt (gB S (2 * k + 1)); have := uhP_length S k; omega)).trans (by omega)))
  · exact o_run 2 [] [] (fun _ _ => []) (fun _ _ => by as_aux_lemma => kernel_rfl)
theorem runhex_any_r15 (S : List UInt8) (k : Nat) (w0 : World) (F : World → Prop) : Reg Try.prog 11 (regOps Try.f43 11) false 52 [(0, (.string (strB S))), (4, (.slice none 0 0)), (5, (.int .i64 ((2 * k : Nat) : Int))), (6, (.int .u8 ((dg (gB S (2 * k)) : Nat) : Int))), (7, (.bool false)), (8, (.int .u8 ((dg (gB S ((2 * k) + 1)) : Nat) : Int))), (9, (.bool (dgB (gB S ((2 * k) + 1)))))] w0 [] F
    (fun _ => [(0, (.string (strB S))), (4, (.slice none 0 0)), (5, (.int .i64 ((2 * k : Nat) : Int))), (6, (.int .u8 ((dg (gB S (2 * k)) : Nat) : Int))), (8, (.int .u8 ((dg (gB S ((2 * k) + 1)) : Nat) : Int))), (43, (.bool true))])
    (fun _ => []) := by
  refine reg_seq [0, 1, 3, 7, 15, 31] [0, 4, 5, 6, 8, 43] 6
    (fun _ ι => ([(.bool false), (.bool true), (.bool true), undef, undef, (.bool true)] : List Value).getD ι undef)
    (fun _ ι => ([{}, {}, {}, {}, {}, {}] : List Eff).getD ι {})
    (by as_aux_lemma => kernel_rfl) (by as_aux_lemma => kernel_rfl) (fun _ => by as_aux_lemma => kernel_rfl) (fun _ => by as_aux_lemma => kernel_rfl) ⟨⟨⟨⟨⟨⟨trivial, ?_⟩, ?_⟩, ?_⟩, ?_⟩, ?_⟩, ?_⟩
  · exact o_run 0 [] [] (fun _ _ => []) (fun _ _ => by as_aux_lemma => kernel_rfl)
  · exact o_run 1 [] [] (fun _ _ => []) (fun _ _ => by as_aux_lemma => kernel_rfl)
  · exact o_run 2 [] [] (fun _ _ => []) (fun _ _ => by as_aux_lemma => kernel_rfl)
  · exact o_skip 3 (fun _ => by as_aux_lemma => kernel_rfl)
  · exact o_skip 4 (fun _ => by as_aux_lemma => kernel_rfl)
  · exact o_run 5 [] [] (fun _ _ => []) (fun _ _ => by as_aux_lemma => kernel_rfl)
theorem runhex_any_r16 (S : List UInt8) (k : Nat) (w0 : World) (F : World → Prop) : Reg Try.prog 12 (regOps Try.f43 12) false 52 [(0, (.string (strB S))), (4, (.slice none 0 0)), (5, (.int .i64 ((2 * k : Nat) : Int))), (6, (.int .u8 ((dg (gB S (2 * k)) : Nat) : Int))), (8, (.int .u8 ((dg (gB S ((2 * k) + 1)) : Nat) : Int))), (43, (.bool true))] w0 [] F
    (fun _ => [(0, (.string (strB S))), (2, (.slice none 0 0)), (3, (.int .i64 7)), (4, (.slice none 0 0)), (5, (.int .i64 ((2 * k : Nat) : Int))), (6, (.int .u8 ((dg (gB S (2 * k)) : Nat) : Int))), (8, (.int .u8 ((dg (gB S ((2 * k) + 1)) : Nat) : Int)))])
    (fun _ => []) := by
  refine reg_seq [0, 1] [0, 2, 3, 4, 5, 6, 8] 2
    (fun _ ι => ([(.slice none 0 0), (.int .i64 7)] : List Value).getD ι undef)
    (fun _ ι => ([{}, {}] : List Eff).getD ι {})
    (by as_aux_lemma => kernel_rfl) (by as_aux_lemma => kernel_rfl) (fun _ => by as_aux_lemma => kernel_rfl) (fun _ => by as_aux_lemma => kernel_rfl) ⟨⟨trivial, ?_⟩, ?_⟩
  · exact o_run 0 [] [] (fun _ _ => []) (fun _ _ => by as_aux_lemma => kernel_rfl)
  · exact o_run 1 [] [] (fun _ _ => []) (fun _ _ => by as_aux_lemma => kernel_rfl)
theorem runhex_any_r17 (S : List UInt8) (k : Nat) (w0 : World) (F : World → Prop) : Reg Try.prog 14 (regOps Try.f43 14) false 52 [(0, (.string (strB S))), (4, (.slice none 0 0)), (5, (.int .i64 ((2 * k : Nat) : Int))), (20, (.bool false))] w0 [] F
    (fun _ => [(2, (.slice none 0 0)), (3, (.int .i64 0))])
    (fun _ => []) := by
  refine reg_seq [0, 1, 3] [2, 3] 3
    (fun _ ι => ([(.slice none 0 0), (.slice none 0 0), (.int .i64 0)] : List Value).getD ι undef)
    (fun _ ι => ([{}, {}, {}] : List Eff).getD ι {})
    (by as_aux_lemma => kernel_rfl) (by as_aux_lemma => kernel_rfl) (fun _ => by as_aux_lemma => kernel_rfl) (fun _ => by as_aux_lemma => kernel_rfl) ⟨⟨⟨trivial, ?_⟩, ?_⟩, ?_⟩
  · exact o_run 0 [] [] (fun _ _ => []) (fun _ _ => by as_aux_lemma => kernel_rfl)
  · exact o_run 1 [] [] (fun _ _ => []) (fun _ _ => by as_aux_lemma => kernel_rfl)
  · exact o_run 2 [] [] (fun _ _ => []) (fun _ _ => by as_aux_lemma => kernel_rfl)
theorem runhex_any_r18 (S : List UInt8) (k : Nat) (g : Nat) (X : List UInt8) (C : Array Value) (κ : Nat) (w0 : World) (F : World → Prop) : Reg Try.prog 7 (regOps Try.f43 7) false 52 [(0, (.string (strB S))), (4, (.slice (some ⟨g, 0, none⟩) (X).length κ)), (5, (.int .i64 ((2 * k : Nat) : Int)))] w0 [(g, (.cells C 5 (0, 0)))] F
    (fun _ => [(0, (.string (strB S))), (4, (.slice (some ⟨g, 0, none⟩) (X).length κ)), (5, (.int .i64 ((2 * k : Nat) : Int))), (20, (.bool (decide (((2 * k : Nat) : Int) < (((S).length : Nat) : Int)))))])
    (fun _ => [(g, (.cells C 5 (0, 0)))]) := by
  refine reg_seq [0, 1, 3, 7] [0, 4, 5, 20] 4
    (fun _ ι => ([(.int .i64 ((2 * k : Nat) : Int)), (.string (strB S)), (.int .i64 (((S).length : Nat) : Int)), (.bool (decide (((2 * k : Nat) : Int) < (((S).length : Nat) : Int))))] : List Value).getD ι undef)
    (fun _ ι => ([{}, {}, {}, {}] : List Eff).getD ι {})
    (by as_aux_lemma => kernel_rfl) (by as_aux_lemma => kernel_rfl) (fun _ => by as_aux_lemma => kernel_rfl) (fun _ => by as_aux_lemma => kernel_rfl) ⟨⟨⟨⟨trivial, ?_⟩, ?_⟩, ?_⟩, ?_⟩
  · exact o_run 0 [] [] (fun _ _ => []) (fun _ _ => by as_aux_lemma => kernel_rfl)
  · exact o_run 1 [] [] (fun _ _ => []) (fun _ _ => by as_aux_lemma => kernel_rfl)
  · exact o_run 2 [] [] (fun _ _ => []) (fun _ _ => by as_aux_lemma => kernel_rfl)
  · exact o_run 3 [] [] (fun _ _ => []) (fun _ _ => by as_aux_lemma => kernel_rfl)
theorem runhex_any_r19 (S : List UInt8) (hb1 : (decide (400000 < (((S).length : Nat) : Int))) = false) (hb2 : (((((S).length) % 2 : Nat) : Int) != 0) = false) (k : Nat) (g : Nat) (X : List UInt8) (C : Array Value) (κ : Nat) (hk : 2 * k ≤ S.length) (hX : X = uhP S k) (hb6 : (decide (((2 * k : Nat) : Int) < (((S).length : Nat) : Int))) = true) (w0 : World) (F : World → Prop) : Reg Try.prog 9 (regOps Try.f43 9) false 52 [(0, (.string (strB S))), (4, (.slice (some ⟨g, 0, none⟩) (X).length κ)), (5, (.int .i64 ((2 * k : Nat) : Int))), (20, (.bool true))] w0 [(g, (.cells C 5 (0, 0)))] F
    (fun _ => [(0, (.string (strB S))), (4, (.slice (some ⟨g, 0, none⟩) (X).length κ)), (5, (.int .i64 ((2 * k : Nat) : Int))), (6, (.int .u8 ((dg (gB S (2 * k)) : Nat) : Int))), (7, (.bool (dgB (gB S (2 * k)))))])
    (fun _ => [(g, (.cells C 5 (0, 0)))]) := by
  refine reg_seq [0, 1, 3, 7, 15, 31, 63, 127, 255] [0, 4, 5, 6, 7] 9
    (fun _ ι => ([(.string (strB S)), (.int .i64 ((2 * k : Nat) : Int)), (.int .u8 ((gB S (2 * k) : Nat) : Int)), (.tuple #[(.int .u8 ((dg (gB S (2 * k)) : Nat) : Int)), (.bool (dgB (gB S (2 * k))))]), (.tuple #[(.int .u8 ((dg (gB S (2 * k)) : Nat) : Int)), (.bool (dgB (gB S (2 * k))))]), (.int .u8 ((dg (gB S (2 * k)) : Nat) : Int)), (.bool (dgB (gB S (2 * k)))), (.int .u8 ((dg (gB S (2 * k)) : Nat) : Int)), (.bool (dgB (gB S (2 * k))))] : List Value).getD ι undef)
    (fun _ ι => ([{}, {}, {}, {}, {}, {}, {}, {}, {}] : List Eff).getD ι {})
    (by as_aux_lemma => kernel_rfl) (by as_aux_lemma => kernel_rfl) (fun _ => by as_aux_lemma => kernel_rfl) (fun _ => by as_aux_lemma => kernel_rfl) ⟨⟨⟨⟨⟨⟨⟨⟨⟨trivial, ?_⟩, ?_⟩, ?_⟩, ?_⟩, ?_⟩, ?_⟩, ?_⟩, ?_⟩, ?_⟩
  · exact o_run 0 [] [] (fun _ _ => []) (fun _ _ => by as_aux_lemma => kernel_rfl)
  · exact o_run 1 [] [] (fun _ _ => []) (fun _ _ => by as_aux_lemma => kernel_rfl)
  · exact o_sem 2 (fun _ => do pure (Next.value (← Instr.index 9 (.string (strB S)) (.int .i64 ((2 * k : Nat) : Int))))) (fun _ => (.int .u8 ((gB S (2 * k) : Nat) : Int))) (fun _ => (by as_aux_lemma => kernel_rfl)) (fun _ => (by as_aux_lemma => kernel_rfl)) (fun _ w => idx_str (S := S) Try.underlying9 ((show ((2 * k : Nat) : Int) = (((2 * k) : Nat) : Int) ∧ (2 * k) < (S).length from ⟨rfl, (by have := of_decide_eq_false hb1; have := of_decide_eq_true hb6; have := bne0' hb2; have := hk; have := dg_lt (gB S (2 * k)); have := dg_lt (gB S (2 * k + 1)); have := uhP_length S k; have := congrArg List.length hX; omega)⟩)).1 ((show ((2 * k : Nat) : Int) = (((2 * k) : Nat) : Int) ∧ (2 * k) < (S).length from ⟨rfl, (by have := of_decide_eq_false hb1; have := of_decide_eq_true hb6; have := bne0' hb2; have := hk; have := dg_lt (gB S (2 * k)); have := dg_lt (gB S (2 * k + 1)); have := uhP_length S k; have := congrArg List.length hX; omega)⟩)).2 w)
  · exact o_call 3 57 (fun _ => #[(.int .u8 ((gB S (2 * k) : Nat) : Int))]) (fun _ => (.tuple #[(.int .u8 ((dg (gB S (2 * k)) : Nat) : Int)), (.bool (dgB (gB S (2 * k))))])) (fun _ _ => by as_aux_lemma => kernel_rfl) (fun _ w => (fun w => half_any (gB S (2 * k)) (by have := of_decide_eq_false hb1; have := of_decide_eq_true hb6; have := bne0' hb2; have := hk; have := dg_lt (gB S (2 * k)); have := dg_lt (gB S (2 * k + 1)); have := uhP_length S k; have := congrArg List.length hX; have := gB_lt S (2 * k); omega) w) w)
  · exact o_run 4 [] [] (fun _ _ => []) (fun _ _ => by as_aux_lemma => kernel_rfl)
  · exact o_run 5 [] [] (fun _ _ => []) (fun _ _ => by as_aux_lemma => kernel_rfl)
  · exact o_run 6 [] [] (fun _ _ => []) (fun _ _ => by as_aux_lemma => kernel_rfl)
  · exact o_run 7 [] [] (fun _ _ => []) (fun _ _ => by as_aux_lemma => kernel_rfl)
  · exact o_run 8 [] [] (fun _ _ => []) (fun _ _ => by as_aux_lemma => kernel_rfl)
theorem runhex_any_r20 (S : List UInt8) (hb1 : (decide (400000 < (((S).length : Nat) : Int))) = false) (hb2 : (((((S).length) % 2 : Nat) : Int) != 0) = false) (k : Nat) (g : Nat) (X : List UInt8) (C : Array Value) (κ : Nat) (hk : 2 * k ≤ S.length) (hX : X = uhP S k) (hb6 : (decide (((2 * k : Nat) : Int) < (((S).length : Nat) : Int))) = true) (w0 : World) (F : World → Prop) : Reg Try.prog 10 (regOps Try.f43 10) false 52 [(0, (.string (strB S))), (4, (.slice (some ⟨g, 0, none⟩) (X).length κ)), (5, (.int .i64 ((2 * k : Nat) : Int))), (6, (.int .u8 ((dg (gB S (2 * k)) : Nat) : Int))), (7, (.bool (dgB (gB S (2 * k)))))] w0 [(g, (.cells C 5 (0, 0)))] F
    (fun _ => [(0, (.string (strB S))), (4, (.slice (some ⟨g, 0, none⟩) (X).length κ)), (5, (.int .i64 ((2 * k : Nat) : Int))), (6, (.int .u8 ((dg (gB S (2 * k)) : Nat) : Int))), (7, (.bool (dgB (gB S (2 * k))))), (8, (.int .u8 ((dg (gB S ((2 * k) + 1)) : Nat) : Int))), (9, (.bool (dgB (gB S ((2 * k) + 1)))))])
    (fun _ => [(g, (.cells C 5 (0, 0)))]) := by
  refine reg_seq [0, 1, 3, 7, 15, 31, 63, 127, 255, 511] [0, 4, 5, 6, 7, 8, 9] 10
    (fun _ ι => ([(.string (strB S)), (.int .i64 ((2 * k : Nat) : Int)), (.int .i64 (((2 * k) + 1 : Nat) : Int)), (.int .u8 ((gB S ((2 * k) + 1) : Nat) : Int)), (.tuple #[(.int .u8 ((dg (gB S ((2 * k) + 1)) : Nat) : Int)), (.bool (dgB (gB S ((2 * k) + 1))))]), (.tuple #[(.int .u8 ((dg (gB S ((2 * k) + 1)) : Nat) : Int)), (.bool (dgB (gB S ((2 * k) + 1))))]), (.int .u8 ((dg (gB S ((2 * k) + 1)) : Nat) : Int)), (.bool (dgB (gB S ((2 * k) + 1)))), (.int .u8 ((dg (gB S ((2 * k) + 1)) : Nat) : Int)), (.bool (dgB (gB S ((2 * k) + 1))))] : List Value).getD ι undef)
    (fun _ ι => ([{}, {}, {}, {}, {}, {}, {}, {}, {}, {}] : List Eff).getD ι {})
    (by as_aux_lemma => kernel_rfl) (by as_aux_lemma => kernel_rfl) (fun _ => by as_aux_lemma => kernel_rfl) (fun _ => by as_aux_lemma => kernel_rfl) ⟨⟨⟨⟨⟨⟨⟨⟨⟨⟨trivial, ?_⟩, ?_⟩, ?_⟩, ?_⟩, ?_⟩, ?_⟩, ?_⟩, ?_⟩, ?_⟩, ?_⟩
  · exact o_run 0 [] [] (fun _ _ => []) (fun _ _ => by as_aux_lemma => kernel_rfl)
  · exact o_run 1 [] [] (fun _ _ => []) (fun _ _ => by as_aux_lemma => kernel_rfl)
  · exact o_as 2 (fun _ => (.int .i64 (IntKind.i64.wrap (((2 * k : Nat) : Int) + 1)))) (fun _ => (.int .i64 (((2 * k) + 1 : Nat) : Int))) (fun _ _ => by as_aux_lemma => kernel_rfl) (fun _ => congrArg (Value.int .i64) (wrap_addN (2 * k) 1 (by have := of_decide_eq_false hb1; have := of_decide_eq_true hb6; have := bne0' hb2; have := hk; have := dg_lt (gB S (2 * k)); have := dg_lt (gB S (2 * k + 1)); have := uhP_length S k; have := congrArg List.length hX; omega)))
  · exact o_sem 3 (fun _ => do pure (Next.value (← Instr.index 9 (.string (strB S)) (.int .i64 (((2 * k) + 1 : Nat) : Int))))) (fun _ => (.int .u8 ((gB S ((2 * k) + 1) : Nat) : Int))) (fun _ => (by as_aux_lemma => kernel_rfl)) (fun _ => (by as_aux_lemma => kernel_rfl)) (fun _ w => idx_str (S := S) Try.underlying9 ((show (((2 * k) + 1 : Nat) : Int) = ((((2 * k) + 1) : Nat) : Int) ∧ ((2 * k) + 1) < (S).length from ⟨rfl, (by have := of_decide_eq_false hb1; have := of_decide_eq_true hb6; have := bne0' hb2; have := hk; have := dg_lt (gB S (2 * k)); have := dg_lt (gB S (2 * k + 1)); have := uhP_length S k; have := congrArg List.length hX; omega)⟩)).1 ((show (((2 * k) + 1 : Nat) : Int) = ((((2 * k) + 1) : Nat) : Int) ∧ ((2 * k) + 1) < (S).length from ⟨rfl, (by have := of_decide_eq_false hb1; have := of_decide_eq_true hb6; have := bne0' hb2; have := hk; have := dg_lt (gB S (2 * k)); have := dg_lt (gB S (2 * k + 1)); have := uhP_length S k; have := congrArg List.length hX; omega)⟩)).2 w)
  · exact o_call 4 57 (fun _ => #[(.int .u8 ((gB S ((2 * k) + 1) : Nat) : Int))]) (fun _ => (.tuple #[(.int .u8 ((dg (gB S ((2 * k) + 1)) : Nat) : Int)), (.bool (dgB (gB S ((2 * k) + 1))))])) (fun _ _ => by as_aux_lemma => kernel_rfl) (fun _ w => (fun w => half_any (gB S ((2 * k) + 1)) (by have := of_decide_eq_false hb1; have := of_decide_eq_true hb6; have := bne0' hb2; have := hk; have := dg_lt (gB S (2 * k)); have := dg_lt (gB S (2 * k + 1)); have := uhP_length S k; have := congrArg List.length hX; have := gB_lt S ((2 * k) + 1); omega) w) w)
  · exact o_run 5 [] [] (fun _ _ => []) (fun _ _ => by as_aux_lemma => kernel_rfl)
  · exact o_run 6 [] [] (fun _ _ => []) (fun _ _ => by as_aux_lemma => kernel_rfl)
  · exact o_run 7 [] [] (fun _ _ => []) (fun _ _ => by as_aux_lemma => kernel_rfl)
  · exact o_run 8 [] [] (fun _ _ => []) (fun _ _ => by as_aux_lemma => kernel_rfl)
  · exact o_run 9 [] [] (fun _ _ => []) (fun _ _ => by as_aux_lemma => kernel_rfl)
theorem runhex_any_r21 (S : List UInt8) (k : Nat) (g : Nat) (X : List UInt8) (C : Array Value) (κ : Nat) (w0 : World) (F : World → Prop) : Reg Try.prog 11 (regOps Try.f43 11) false 52 [(0, (.string (strB S))), (4, (.slice (some ⟨g, 0, none⟩) (X).length κ)), (5, (.int .i64 ((2 * k : Nat) : Int))), (6, (.int .u8 ((dg (gB S (2 * k)) : Nat) : Int))), (7, (.bool true)), (8, (.int .u8 ((dg (gB S ((2 * k) + 1)) : Nat) : Int))), (9, (.bool (dgB (gB S ((2 * k) + 1)))))] w0 [(g, (.cells C 5 (0, 0)))] F
    (fun _ => [(0, (.string (strB S))), (4, (.slice (some ⟨g, 0, none⟩) (X).length κ)), (5, (.int .i64 ((2 * k : Nat) : Int))), (6, (.int .u8 ((dg (gB S (2 * k)) : Nat) : Int))), (8, (.int .u8 ((dg (gB S ((2 * k) + 1)) : Nat) : Int))), (43, (.bool (!(dgB (gB S ((2 * k) + 1))))))])
    (fun _ => [(g, (.cells C 5 (0, 0)))]) := by
  refine reg_seq [0, 1, 3, 7, 15, 31] [0, 4, 5, 6, 8, 43] 6
    (fun _ ι => ([(.bool true), (.bool false), (.bool false), (.bool (dgB (gB S ((2 * k) + 1)))), (.bool (!(dgB (gB S ((2 * k) + 1))))), (.bool (!(dgB (gB S ((2 * k) + 1)))))] : List Value).getD ι undef)
    (fun _ ι => ([{}, {}, {}, {}, {}, {}] : List Eff).getD ι {})
    (by as_aux_lemma => kernel_rfl) (by as_aux_lemma => kernel_rfl) (fun _ => by as_aux_lemma => kernel_rfl) (fun _ => by as_aux_lemma => kernel_rfl) ⟨⟨⟨⟨⟨⟨trivial, ?_⟩, ?_⟩, ?_⟩, ?_⟩, ?_⟩, ?_⟩
  · exact o_run 0 [] [] (fun _ _ => []) (fun _ _ => by as_aux_lemma => kernel_rfl)
  · exact o_run 1 [] [] (fun _ _ => []) (fun _ _ => by as_aux_lemma => kernel_rfl)
  · exact o_run 2 [] [] (fun _ _ => []) (fun _ _ => by as_aux_lemma => kernel_rfl)
  · exact o_run 3 [] [] (fun _ _ => []) (fun _ _ => by as_aux_lemma => kernel_rfl)
  · exact o_run 4 [] [] (fun _ _ => []) (fun _ _ => by as_aux_lemma => kernel_rfl)
  · exact o_run 5 [] [] (fun _ _ => []) (fun _ _ => by as_aux_lemma => kernel_rfl)
theorem runhex_any_r22 (S : List UInt8) (k : Nat) (g : Nat) (X : List UInt8) (C : Array Value) (κ : Nat) (w0 : World) (F : World → Prop) : Reg Try.prog 12 (regOps Try.f43 12) false 52 [(0, (.string (strB S))), (4, (.slice (some ⟨g, 0, none⟩) (X).length κ)), (5, (.int .i64 ((2 * k : Nat) : Int))), (6, (.int .u8 ((dg (gB S (2 * k)) : Nat) : Int))), (8, (.int .u8 ((dg (gB S ((2 * k) + 1)) : Nat) : Int))), (43, (.bool true))] w0 [(g, (.cells C 5 (0, 0)))] F
    (fun _ => [(0, (.string (strB S))), (2, (.slice none 0 0)), (3, (.int .i64 7)), (4, (.slice (some ⟨g, 0, none⟩) (X).length κ)), (5, (.int .i64 ((2 * k : Nat) : Int))), (6, (.int .u8 ((dg (gB S (2 * k)) : Nat) : Int))), (8, (.int .u8 ((dg (gB S ((2 * k) + 1)) : Nat) : Int)))])
    (fun _ => [(g, (.cells C 5 (0, 0)))]) := by
  refine reg_seq [0, 1] [0, 2, 3, 4, 5, 6, 8] 2
    (fun _ ι => ([(.slice none 0 0), (.int .i64 7)] : List Value).getD ι undef)
    (fun _ ι => ([{}, {}] : List Eff).getD ι {})
    (by as_aux_lemma => kernel_rfl) (by as_aux_lemma => kernel_rfl) (fun _ => by as_aux_lemma => kernel_rfl) (fun _ => by as_aux_lemma => kernel_rfl) ⟨⟨trivial, ?_⟩, ?_⟩
  · exact o_run 0 [] [] (fun _ _ => []) (fun _ _ => by as_aux_lemma => kernel_rfl)
  · exact o_run 1 [] [] (fun _ _ => []) (fun _ _ => by as_aux_lemma => kernel_rfl)
theorem runhex_any_r23 (S : List UInt8) (hb1 : (decide (400000 < (((S).length : Nat) : Int))) = false) (hb2 : (((((S).length) % 2 : Nat) : Int) != 0) = false) (k : Nat) (g : Nat) (X : List UInt8) (C : Array Value) (κ : Nat) (hk : 2 * k ≤ S.length) (hX : X = uhP S k) (hs : C.size = κ) (hb6 : (decide (((2 * k : Nat) : Int) < (((S).length : Nat) : Int))) = true) (hb9 : (decide ((X).length + (([ob ((uh1 S k : Nat) : Int)] : List UInt8)).length ≤ κ)) = true) (w0 : World) : RegF Try.prog 13 (regOps Try.f43 13) false 52 [(0, (.string (strB S))), (4, (.slice (some ⟨g, 0, none⟩) (X).length κ)), (5, (.int .i64 ((2 * k : Nat) : Int))), (6, (.int .u8 ((dg (gB S (2 * k)) : Nat) : Int))), (8, (.int .u8 ((dg (gB S ((2 * k) + 1)) : Nat) : Int))), (43, (.bool false))] w0 [(g, (.cells C 5 (0, 0)))] (fun _ => True)
    (fun _ => [(0, (.string (strB S))), (4, (.slice (some ⟨g, 0, none⟩) (X ++ ([ob ((uh1 S k : Nat) : Int)] : List UInt8)).length κ)), (5, (.int .i64 ((2 * k : Nat) : Int)))])
    (fun ρ => [(g, (.cells (inpl C (X).length (bs ([ob ((uh1 S k : Nat) : Int)] : List UInt8))) 5 (0, 0))), (nb ρ 5, (.cells #[(.int .u8 ((uh1 S k : Nat) : Int))] 5 (0, 0)))]) (fun _ => (fun _ => True)) := by
  refine reg_seq_f [0, 1, 3, 7, 15, 31, 63, 127] [0, 4, 5] 8
    (fun ρ ι => ([(.slice (some ⟨g, 0, none⟩) (X).length κ), (.int .u8 ((dg (gB S (2 * k)) : Nat) : Int)), (.int .u8 (16 * ((dg (gB S (2 * k)) : Nat) : Int))), (.int .u8 ((dg (gB S ((2 * k) + 1)) : Nat) : Int)), (.int .u8 ((uh1 S k : Nat) : Int)), (.slice (some ⟨nb ρ 5, 0, none⟩) (([ob ((uh1 S k : Nat) : Int)] : List UInt8)).length 1), (.slice (some ⟨g, 0, none⟩) (X ++ ([ob ((uh1 S k : Nat) : Int)] : List UInt8)).length κ), (.slice (some ⟨g, 0, none⟩) (X ++ ([ob ((uh1 S k : Nat) : Int)] : List UInt8)).length κ)] : List Value).getD ι undef)
    (fun ρ ι => ([{}, {}, {}, {}, {}, { news := [(nb ρ 5, (.cells #[(.int .u8 ((uh1 S k : Nat) : Int))] 5 (0, 0)))] }, { puts := [(0, (.cells (inpl C (X).length (bs ([ob ((uh1 S k : Nat) : Int)] : List UInt8))) 5 (0, 0)))] }, {}] : List Eff).getD ι {})
    (fun _ ι => ([(fun _ => True), (fun _ => True), (fun _ => True), (fun _ => True), (fun _ => True), (fun _ => True), (fun _ => True), (fun _ => True)] : List (World → Prop)).getD ι (fun _ => True))
    (by as_aux_lemma => kernel_rfl) (by as_aux_lemma => kernel_rfl) (fun _ => by as_aux_lemma => kernel_rfl) (fun _ => by as_aux_lemma => kernel_rfl) (fun _ _ _ _ => trivial) ⟨⟨⟨⟨⟨⟨⟨⟨trivial, ?_⟩, ?_⟩, ?_⟩, ?_⟩, ?_⟩, ?_⟩, ?_⟩, ?_⟩
  · exact Obl.brings (o_run 0 [] [] (fun _ _ => []) (fun _ _ => by as_aux_lemma => kernel_rfl)) (fun _ _ => trivial)
  · exact Obl.brings (o_run 1 [] [] (fun _ _ => []) (fun _ _ => by as_aux_lemma => kernel_rfl)) (fun _ _ => trivial)
  · exact Obl.brings (o_as 2 (fun _ => (.int .u8 (IntKind.u8.wrap (16 * ((dg (gB S (2 * k)) : Nat) : Int))))) (fun _ => (.int .u8 (16 * ((dg (gB S (2 * k)) : Nat) : Int)))) (fun _ _ => by as_aux_lemma => kernel_rfl) (fun _ => congrArg (Value.int .u8) (u8I (by have := of_decide_eq_false hb1; have := of_decide_eq_true hb6; have := of_decide_eq_true hb9; have := bne0' hb2; have := hk; have := dg_lt (gB S (2 * k)); have := dg_lt (gB S (2 * k + 1)); have := uhP_length S k; have := congrArg List.length hX; omega)))) (fun _ _ => trivial)
  · exact Obl.brings (o_run 3 [] [] (fun _ _ => []) (fun _ _ => by as_aux_lemma => kernel_rfl)) (fun _ _ => trivial)
  · exact Obl.brings (o_as 4 (fun _ => (.int .u8 (IntKind.u8.wrap ((16 * ((dg (gB S (2 * k)) : Nat) : Int)) + ((dg (gB S ((2 * k) + 1)) : Nat) : Int))))) (fun _ => (.int .u8 ((uh1 S k : Nat) : Int))) (fun _ _ => by as_aux_lemma => kernel_rfl) (fun _ => congrArg (Value.int .u8) ((u8I (by have := of_decide_eq_false hb1; have := of_decide_eq_true hb6; have := of_decide_eq_true hb9; have := bne0' hb2; have := hk; have := dg_lt (gB S (2 * k)); have := dg_lt (gB S (2 * k + 1)); have := uhP_length S k; have := congrArg List.length hX; omega)).trans (by rw [uh1]; omega)))) (fun _ _ => trivial)
  · exact Obl.brings (o_run 5 [] [] (fun _ _ => []) (fun _ _ => by as_aux_lemma => kernel_rfl)) (fun _ _ => trivial)
  · exact o_put1 6 0 (fun ρ => do pure (Next.value (← Builtin.append_ #[22, 22] 22 #[(.slice (some ⟨g, 0, none⟩) (X).length κ), (.slice (some ⟨nb ρ 5, 0, none⟩) (([ob ((uh1 S k : Nat) : Int)] : List UInt8)).length 1)]))) (fun _ => g) (fun _ => (.cells C 5 (0, 0))) (fun _ => (.cells (inpl C (X).length (bs ([ob ((uh1 S k : Nat) : Int)] : List UInt8))) 5 (0, 0))) (fun _ => (.slice (some ⟨g, 0, none⟩) (X ++ ([ob ((uh1 S k : Nat) : Int)] : List UInt8)).length κ)) (fun _ => (by as_aux_lemma => kernel_rfl)) (fun _ => (by as_aux_lemma => kernel_rfl)) (fun _ => (by as_aux_lemma => kernel_rfl)) (fun _ => (by as_aux_lemma => kernel_rfl)) (fun _ _ => trivial) (fun ρ _ _ hG hg => app_roomL Try.underlying22 u8i hg (Bs.src (tx := 22) Try.underlying22 (Bs.of_hd (hG.known (g := nb ρ 5) (o := (.cells #[(.int .u8 ((uh1 S k : Nat) : Int))] 5 (0, 0))) 41 (by as_aux_lemma => kernel_rfl) (by as_aux_lemma => kernel_rfl)) (hd1 ((by have := uh1_lt S k; omega))) (Nat.le_refl 1) (Nat.le_of_ble_eq_true rfl))) hs (of_decide_eq_true hb9))
  · exact Obl.brings (o_run 7 [] [] (fun _ _ => []) (fun _ _ => by as_aux_lemma => kernel_rfl)) (fun _ _ => trivial)
theorem runhex_any_r24 (S : List UInt8) (hb1 : (decide (400000 < (((S).length : Nat) : Int))) = false) (hb2 : (((((S).length) % 2 : Nat) : Int) != 0) = false) (k : Nat) (g : Nat) (X : List UInt8) (C : Array Value) (κ : Nat) (hk : 2 * k ≤ S.length) (hX : X = uhP S k) (hb6 : (decide (((2 * k : Nat) : Int) < (((S).length : Nat) : Int))) = true) (hb9 : (decide ((X).length + (([ob ((uh1 S k : Nat) : Int)] : List UInt8)).length ≤ κ)) = true) (ρ23 : Nat → Orc) (w0 : World) (F : World → Prop) : Reg Try.prog 8 (regOps Try.f43 8) false 52 [(0, (.string (strB S))), (4, (.slice (some ⟨g, 0, none⟩) (X ++ ([ob ((uh1 S k : Nat) : Int)] : List UInt8)).length κ)), (5, (.int .i64 ((2 * k : Nat) : Int)))] w0 [(g, (.cells (inpl C (X).length (bs ([ob ((uh1 S k : Nat) : Int)] : List UInt8))) 5 (0, 0))), (nb ρ23 5, (.cells #[(.int .u8 ((uh1 S k : Nat) : Int))] 5 (0, 0)))] F
    (fun _ => [(0, (.string (strB S))), (4, (.slice (some ⟨g, 0, none⟩) (X ++ ([ob ((uh1 S k : Nat) : Int)] : List UInt8)).length κ)), (5, (.int .i64 ((2 * (k + 1) : Nat) : Int)))])
    (fun _ => [(g, (.cells (inpl C (X).length (bs ([ob ((uh1 S k : Nat) : Int)] : List UInt8))) 5 (0, 0))), (nb ρ23 5, (.cells #[(.int .u8 ((uh1 S k : Nat) : Int))] 5 (0, 0)))]) := by
  refine reg_seq [0, 1, 3] [0, 4, 5] 3
    (fun _ ι => ([(.int .i64 ((2 * k : Nat) : Int)), (.int .i64 ((2 * (k + 1) : Nat) : Int)), (.int .i64 ((2 * (k + 1) : Nat) : Int))] : List Value).getD ι undef)
    (fun _ ι => ([{}, {}, {}] : List Eff).getD ι {})
    (by as_aux_lemma => kernel_rfl) (by as_aux_lemma => kernel_rfl) (fun _ => by as_aux_lemma => kernel_rfl) (fun _ => by as_aux_lemma => kernel_rfl) ⟨⟨⟨trivial, ?_⟩, ?_⟩, ?_⟩
  · exact o_run 0 [] [] (fun _ _ => []) (fun _ _ => by as_aux_lemma => kernel_rfl)
  · exact o_as 1 (fun _ => (.int .i64 (IntKind.i64.wrap (((2 * k : Nat) : Int) + 2)))) (fun _ => (.int .i64 ((2 * (k + 1) : Nat) : Int))) (fun _ _ => by as_aux_lemma => kernel_rfl) (fun _ => congrArg (Value.int .i64) ((i64N (by have := of_decide_eq_false hb1; have := of_decide_eq_true hb6; have := of_decide_eq_true hb9; have := bne0' hb2; have := hk; have := dg_lt (gB S (2 * k)); have := dg_lt (gB S (2 * k + 1)); have := uhP_length S k; have := congrArg List.length hX; omega)).trans (by omega)))
  · exact o_run 2 [] [] (fun _ _ => []) (fun _ _ => by as_aux_lemma => kernel_rfl)
theorem runhex_any_r25 (S : List UInt8) (hb1 : (decide (400000 < (((S).length : Nat) : Int))) = false) (hb2 : (((((S).length) % 2 : Nat) : Int) != 0) = false) (k : Nat) (g : Nat) (X : List UInt8) (C : Array Value) (κ : Nat) (hk : 2 * k ≤ S.length) (hX : X = uhP S k) (hs : C.size = κ) (hle : X.length ≤ κ) (hb6 : (decide (((2 * k : Nat) : Int) < (((S).length : Nat) : Int))) = true) (hb9 : (decide ((X).length + (([ob ((uh1 S k : Nat) : Int)] : List UInt8)).length ≤ κ)) = false) (w0 : World) : RegF Try.prog 13 (regOps Try.f43 13) false 52 [(0, (.string (strB S))), (4, (.slice (some ⟨g, 0, none⟩) (X).length κ)), (5, (.int .i64 ((2 * k : Nat) : Int))), (6, (.int .u8 ((dg (gB S (2 * k)) : Nat) : Int))), (8, (.int .u8 ((dg (gB S ((2 * k) + 1)) : Nat) : Int))), (43, (.bool false))] w0 [(g, (.cells C 5 (0, 0)))] (fun _ => True)
    (fun ρ => [(0, (.string (strB S))), (4, (.slice (some ⟨nb ρ 6, 0, none⟩) (X ++ ([ob ((uh1 S k : Nat) : Int)] : List UInt8)).length ((X ++ ([ob ((uh1 S k : Nat) : Int)] : List UInt8)).length + nb2 ρ 6))), (5, (.int .i64 ((2 * k : Nat) : Int)))])
    (fun ρ => [(g, (.cells C 5 (0, 0))), (nb ρ 5, (.cells #[(.int .u8 ((uh1 S k : Nat) : Int))] 5 (0, 0))), (nb ρ 6, (.cells (grow C (X).length (bs ([ob ((uh1 S k : Nat) : Int)] : List UInt8)) (nb2 ρ 6)) 5 (0, 0)))]) (fun _ => (fun _ => True)) := by
  refine reg_seq_f [0, 1, 3, 7, 15, 31, 63, 127] [0, 4, 5] 8
    (fun ρ ι => ([(.slice (some ⟨g, 0, none⟩) (X).length κ), (.int .u8 ((dg (gB S (2 * k)) : Nat) : Int)), (.int .u8 (16 * ((dg (gB S (2 * k)) : Nat) : Int))), (.int .u8 ((dg (gB S ((2 * k) + 1)) : Nat) : Int)), (.int .u8 ((uh1 S k : Nat) : Int)), (.slice (some ⟨nb ρ 5, 0, none⟩) (([ob ((uh1 S k : Nat) : Int)] : List UInt8)).length 1), (.slice (some ⟨nb ρ 6, 0, none⟩) (X ++ ([ob ((uh1 S k : Nat) : Int)] : List UInt8)).length ((X ++ ([ob ((uh1 S k : Nat) : Int)] : List UInt8)).length + nb2 ρ 6)), (.slice (some ⟨nb ρ 6, 0, none⟩) (X ++ ([ob ((uh1 S k : Nat) : Int)] : List UInt8)).length ((X ++ ([ob ((uh1 S k : Nat) : Int)] : List UInt8)).length + nb2 ρ 6))] : List Value).getD ι undef)
    (fun ρ ι => ([{}, {}, {}, {}, {}, { news := [(nb ρ 5, (.cells #[(.int .u8 ((uh1 S k : Nat) : Int))] 5 (0, 0)))] }, { news := [(nb ρ 6, (.cells (grow C (X).length (bs ([ob ((uh1 S k : Nat) : Int)] : List UInt8)) (nb2 ρ 6)) 5 (0, 0)))] }, {}] : List Eff).getD ι {})
    (fun _ ι => ([(fun _ => True), (fun _ => True), (fun _ => True), (fun _ => True), (fun _ => True), (fun _ => True), (fun _ => True), (fun _ => True)] : List (World → Prop)).getD ι (fun _ => True))
    (by as_aux_lemma => kernel_rfl) (by as_aux_lemma => kernel_rfl) (fun _ => by as_aux_lemma => kernel_rfl) (fun _ => by as_aux_lemma => kernel_rfl) (fun _ _ _ _ => trivial) ⟨⟨⟨⟨⟨⟨⟨⟨trivial, ?_⟩, ?_⟩, ?_⟩, ?_⟩, ?_⟩, ?_⟩, ?_⟩, ?_⟩
  · exact Obl.brings (o_run 0 [] [] (fun _ _ => []) (fun _ _ => by as_aux_lemma => kernel_rfl)) (fun _ _ => trivial)
  · exact Obl.brings (o_run 1 [] [] (fun _ _ => []) (fun _ _ => by as_aux_lemma => kernel_rfl)) (fun _ _ => trivial)
  · exact Obl.brings (o_as 2 (fun _ => (.int .u8 (IntKind.u8.wrap (16 * ((dg (gB S (2 * k)) : Nat) : Int))))) (fun _ => (.int .u8 (16 * ((dg (gB S (2 * k)) : Nat) : Int)))) (fun _ _ => by as_aux_lemma => kernel_rfl) (fun _ => congrArg (Value.int .u8) (u8I (by have := of_decide_eq_false hb1; have := of_decide_eq_true hb6; have := of_decide_eq_false hb9; have := bne0' hb2; have := hk; have := dg_lt (gB S (2 * k)); have := dg_lt (gB S (2 * k + 1)); have := uhP_length S k; have := congrArg List.length hX; omega)))) (fun _ _ => trivial)
  · exact Obl.brings (o_run 3 [] [] (fun _ _ => []) (fun _ _ => by as_aux_lemma => kernel_rfl)) (fun _ _ => trivial)
  · exact Obl.brings (o_as 4 (fun _ => (.int .u8 (IntKind.u8.wrap ((16 * ((dg (gB S (2 * k)) : Nat) : Int)) + ((dg (gB S ((2 * k) + 1)) : Nat) : Int))))) (fun _ => (.int .u8 ((uh1 S k : Nat) : Int))) (fun _ _ => by as_aux_lemma => kernel_rfl) (fun _ => congrArg (Value.int .u8) ((u8I (by have := of_decide_eq_false hb1; have := of_decide_eq_true hb6; have := of_decide_eq_false hb9; have := bne0' hb2; have := hk; have := dg_lt (gB S (2 * k)); have := dg_lt (gB S (2 * k + 1)); have := uhP_length S k; have := congrArg List.length hX; omega)).trans (by rw [uh1]; omega)))) (fun _ _ => trivial)
  · exact Obl.brings (o_run 5 [] [] (fun _ _ => []) (fun _ _ => by as_aux_lemma => kernel_rfl)) (fun _ _ => trivial)
  · exact o_new1 6 (fun ρ => do pure (Next.value (← Builtin.append_ #[22, 22] 22 #[(.slice (some ⟨g, 0, none⟩) (X).length κ), (.slice (some ⟨nb ρ 5, 0, none⟩) (([ob ((uh1 S k : Nat) : Int)] : List UInt8)).length 1)]))) (fun _ z => (.slice (some ⟨z.headD 0, 0, none⟩) (X ++ ([ob ((uh1 S k : Nat) : Int)] : List UInt8)).length ((X ++ ([ob ((uh1 S k : Nat) : Int)] : List UInt8)).length + z.tail.headD 0))) (fun _ z => (.cells (grow C (X).length (bs ([ob ((uh1 S k : Nat) : Int)] : List UInt8)) (z.tail.headD 0)) 5 (0, 0))) (fun _ _ => (by as_aux_lemma => kernel_rfl)) (fun _ => (by as_aux_lemma => kernel_rfl)) (fun _ _ => trivial) (fun ρ _ _ hG => app_growL Try.underlying22 u8i (hG.known (g := g) (o := (.cells C 5 (0, 0))) 0 (by as_aux_lemma => kernel_rfl) (by as_aux_lemma => kernel_rfl)) (Bs.src (tx := 22) Try.underlying22 (Bs.of_hd (hG.known (g := nb ρ 5) (o := (.cells #[(.int .u8 ((uh1 S k : Nat) : Int))] 5 (0, 0))) 41 (by as_aux_lemma => kernel_rfl) (by as_aux_lemma => kernel_rfl)) (hd1 ((by have := uh1_lt S k; omega))) (Nat.le_refl 1) (Nat.le_of_ble_eq_true rfl))) hs hle (Nat.lt_of_not_le (of_decide_eq_false hb9)) ((by simp only [List.length_cons, List.length_nil]; have := of_decide_eq_false hb1; have := of_decide_eq_true hb6; have := of_decide_eq_false hb9; have := bne0' hb2; have := hk; have := dg_lt (gB S (2 * k)); have := dg_lt (gB S (2 * k + 1)); have := uhP_length S k; have := congrArg List.length hX; omega)))
  · exact Obl.brings (o_run 7 [] [] (fun _ _ => []) (fun _ _ => by as_aux_lemma => kernel_rfl)) (fun _ _ => trivial)
theorem runhex_any_r26 (S : List UInt8) (hb1 : (decide (400000 < (((S).length : Nat) : Int))) = false) (hb2 : (((((S).length) % 2 : Nat) : Int) != 0) = false) (k : Nat) (g : Nat) (X : List UInt8) (C : Array Value) (κ : Nat) (hk : 2 * k ≤ S.length) (hX : X = uhP S k) (hb6 : (decide (((2 * k : Nat) : Int) < (((S).length : Nat) : Int))) = true) (hb9 : (decide ((X).length + (([ob ((uh1 S k : Nat) : Int)] : List UInt8)).length ≤ κ)) = false) (ρ25 : Nat → Orc) (w0 : World) (F : World → Prop) : Reg Try.prog 8 (regOps Try.f43 8) false 52 [(0, (.string (strB S))), (4, (.slice (some ⟨nb ρ25 6, 0, none⟩) (X ++ ([ob ((uh1 S k : Nat) : Int)] : List UInt8)).length ((X ++ ([ob ((uh1 S k : Nat) : Int)] : List UInt8)).length + nb2 ρ25 6))), (5, (.int .i64 ((2 * k : Nat) : Int)))] w0 [(g, (.cells C 5 (0, 0))), (nb ρ25 5, (.cells #[(.int .u8 ((uh1 S k : Nat) : Int))] 5 (0, 0))), (nb ρ25 6, (.cells (grow C (X).length (bs ([ob ((uh1 S k : Nat) : Int)] : List UInt8)) (nb2 ρ25 6)) 5 (0, 0)))] F
    (fun _ => [(0, (.string (strB S))), (4, (.slice (some ⟨nb ρ25 6, 0, none⟩) (X ++ ([ob ((uh1 S k : Nat) : Int)] : List UInt8)).length ((X ++ ([ob ((uh1 S k : Nat) : Int)] : List UInt8)).length + nb2 ρ25 6))), (5, (.int .i64 ((2 * (k + 1) : Nat) : Int)))])
    (fun _ => [(g, (.cells C 5 (0, 0))), (nb ρ25 5, (.cells #[(.int .u8 ((uh1 S k : Nat) : Int))] 5 (0, 0))), (nb ρ25 6, (.cells (grow C (X).length (bs ([ob ((uh1 S k : Nat) : Int)] : List UInt8)) (nb2 ρ25 6)) 5 (0, 0)))]) := by
  refine reg_seq [0, 1, 3] [0, 4, 5] 3
    (fun _ ι => ([(.int .i64 ((2 * k : Nat) : Int)), (.int .i64 ((2 * (k + 1) : Nat) : Int)), (.int .i64 ((2 * (k + 1) : Nat) : Int))] : List Value).getD ι undef)
    (fun _ ι => ([{}, {}, {}] : List Eff).getD ι {})
    (by as_aux_lemma => kernel_rfl) (by as_aux_lemma => kernel_rfl) (fun _ => by as_aux_lemma => kernel_rfl) (fun _ => by as_aux_lemma => kernel_rfl) ⟨⟨⟨trivial, ?_⟩, ?_⟩, ?_⟩
  · exact o_run 0 [] [] (fun _ _ => []) (fun _ _ => by as_aux_lemma => kernel_rfl)
  · exact o_as 1 (fun _ => (.int .i64 (IntKind.i64.wrap (((2 * k : Nat) : Int) + 2)))) (fun _ => (.int .i64 ((2 * (k + 1) : Nat) : Int))) (fun _ _ => by as_aux_lemma => kernel_rfl) (fun _ => congrArg (Value.int .i64) ((i64N (by have := of_decide_eq_false hb1; have := of_decide_eq_true hb6; have := of_decide_eq_false hb9; have := bne0' hb2; have := hk; have := dg_lt (gB S (2 * k)); have := dg_lt (gB S (2 * k + 1)); have := uhP_length S k; have := congrArg List.length hX; omega)).trans (by omega)))
  · exact o_run 2 [] [] (fun _ _ => []) (fun _ _ => by as_aux_lemma => kernel_rfl)
theorem runhex_any_r27 (S : List UInt8) (k : Nat) (g : Nat) (X : List UInt8) (C : Array Value) (κ : Nat) (w0 : World) (F : World → Prop) : Reg Try.prog 11 (regOps Try.f43 11) false 52 [(0, (.string (strB S))), (4, (.slice (some ⟨g, 0, none⟩) (X).length κ)), (5, (.int .i64 ((2 * k : Nat) : Int))), (6, (.int .u8 ((dg (gB S (2 * k)) : Nat) : Int))), (7, (.bool false)), (8, (.int .u8 ((dg (gB S ((2 * k) + 1)) : Nat) : Int))), (9, (.bool (dgB (gB S ((2 * k) + 1)))))] w0 [(g, (.cells C 5 (0, 0)))] F
    (fun _ => [(0, (.string (strB S))), (4, (.slice (some ⟨g, 0, none⟩) (X).length κ)), (5, (.int .i64 ((2 * k : Nat) : Int))), (6, (.int .u8 ((dg (gB S (2 * k)) : Nat) : Int))), (8, (.int .u8 ((dg (gB S ((2 * k) + 1)) : Nat) : Int))), (43, (.bool true))])
    (fun _ => [(g, (.cells C 5 (0, 0)))]) := by
  refine reg_seq [0, 1, 3, 7, 15, 31] [0, 4, 5, 6, 8, 43] 6
    (fun _ ι => ([(.bool false), (.bool true), (.bool true), undef, undef, (.bool true)] : List Value).getD ι undef)
    (fun _ ι => ([{}, {}, {}, {}, {}, {}] : List Eff).getD ι {})
    (by as_aux_lemma => kernel_rfl) (by as_aux_lemma => kernel_rfl) (fun _ => by as_aux_lemma => kernel_rfl) (fun _ => by as_aux_lemma => kernel_rfl) ⟨⟨⟨⟨⟨⟨trivial, ?_⟩, ?_⟩, ?_⟩, ?_⟩, ?_⟩, ?_⟩
  · exact o_run 0 [] [] (fun _ _ => []) (fun _ _ => by as_aux_lemma => kernel_rfl)
  · exact o_run 1 [] [] (fun _ _ => []) (fun _ _ => by as_aux_lemma => kernel_rfl)
  · exact o_run 2 [] [] (fun _ _ => []) (fun _ _ => by as_aux_lemma => kernel_rfl)
  · exact o_skip 3 (fun _ => by as_aux_lemma => kernel_rfl)
  · exact o_skip 4 (fun _ => by as_aux_lemma => kernel_rfl)
  · exact o_run 5 [] [] (fun _ _ => []) (fun _ _ => by as_aux_lemma => kernel_rfl)
theorem runhex_any_r28 (S : List UInt8) (k : Nat) (g : Nat) (X : List UInt8) (C : Array Value) (κ : Nat) (w0 : World) (F : World → Prop) : Reg Try.prog 12 (regOps Try.f43 12) false 52 [(0, (.string (strB S))), (4, (.slice (some ⟨g, 0, none⟩) (X).length κ)), (5, (.int .i64 ((2 * k : Nat) : Int))), (6, (.int .u8 ((dg (gB S (2 * k)) : Nat) : Int))), (8, (.int .u8 ((dg (gB S ((2 * k) + 1)) : Nat) : Int))), (43, (.bool true))] w0 [(g, (.cells C 5 (0, 0)))] F
    (fun _ => [(0, (.string (strB S))), (2, (.slice none 0 0)), (3, (.int .i64 7)), (4, (.slice (some ⟨g, 0, none⟩) (X).length κ)), (5, (.int .i64 ((2 * k : Nat) : Int))), (6, (.int .u8 ((dg (gB S (2 * k)) : Nat) : Int))), (8, (.int .u8 ((dg (gB S ((2 * k) + 1)) : Nat) : Int)))])
    (fun _ => [(g, (.cells C 5 (0, 0)))]) := by
  refine reg_seq [0, 1] [0, 2, 3, 4, 5, 6, 8] 2
    (fun _ ι => ([(.slice none 0 0), (.int .i64 7)] : List Value).getD ι undef)
    (fun _ ι => ([{}, {}] : List Eff).getD ι {})
    (by as_aux_lemma => kernel_rfl) (by as_aux_lemma => kernel_rfl) (fun _ => by as_aux_lemma => kernel_rfl) (fun _ => by as_aux_lemma => kernel_rfl) ⟨⟨trivial, ?_⟩, ?_⟩
  · exact o_run 0 [] [] (fun _ _ => []) (fun _ _ => by as_aux_lemma => kernel_rfl)
  · exact o_run 1 [] [] (fun _ _ => []) (fun _ _ => by as_aux_lemma => kernel_rfl)
theorem runhex_any_r29 (S : List UInt8) (k : Nat) (g : Nat) (X : List UInt8) (C : Array Value) (κ : Nat) (w0 : World) (F : World → Prop) : Reg Try.prog 14 (regOps Try.f43 14) false 52 [(0, (.string (strB S))), (4, (.slice (some ⟨g, 0, none⟩) (X).length κ)), (5, (.int .i64 ((2 * k : Nat) : Int))), (20, (.bool false))] w0 [(g, (.cells C 5 (0, 0)))] F
    (fun _ => [(2, (.slice (some ⟨g, 0, none⟩) (X).length κ)), (3, (.int .i64 0))])
    (fun _ => [(g, (.cells C 5 (0, 0)))]) := by
  refine reg_seq [0, 1, 3] [2, 3] 3
    (fun _ ι => ([(.slice (some ⟨g, 0, none⟩) (X).length κ), (.slice (some ⟨g, 0, none⟩) (X).length κ), (.int .i64 0)] : List Value).getD ι undef)
    (fun _ ι => ([{}, {}, {}] : List Eff).getD ι {})
    (by as_aux_lemma => kernel_rfl) (by as_aux_lemma => kernel_rfl) (fun _ => by as_aux_lemma => kernel_rfl) (fun _ => by as_aux_lemma => kernel_rfl) ⟨⟨⟨trivial, ?_⟩, ?_⟩, ?_⟩
  · exact o_run 0 [] [] (fun _ _ => []) (fun _ _ => by as_aux_lemma => kernel_rfl)
  · exact o_run 1 [] [] (fun _ _ => []) (fun _ _ => by as_aux_lemma => kernel_rfl)
  · exact o_run 2 [] [] (fun _ _ => []) (fun _ _ => by as_aux_lemma => kernel_rfl)
theorem runhex_any (S : List UInt8) (w0 : World) : Calls Try.prog 43 #[(.string (strB S))] w0 (fun ε w' => ∃ α κ, ε = .returned (.tuple #[(.slice α (uhX S).length κ), (.int .i64 (uhE S))]) ∧ Below w0.heap.size w0 w' ∧ Fs w0 w' α κ (uhX S)) := by
  refine Calls.of_ok (n := 52) (F := (fun _ => True)) Try.func43 rfl rfl rfl (by simp) persT ?_
  refine ok_seq_r (by as_aux_lemma => kernel_rfl) (runhex_any_r1 S _ _) (fun _ => ?_)
  refine ok_seq ?_
  refine ok_seq_r (by as_aux_lemma => kernel_rfl) (runhex_any_r2 S _ _) (fun _ => ?_)
  refine ok_cond (b := decide (400000 < (((S).length : Nat) : Int))) (by as_aux_lemma => kernel_rfl) (fun hb1 => ?_) (fun hb1 => ?_)
  ·
    rw [hb1]
    refine ok_seq_r (by as_aux_lemma => kernel_rfl) (runhex_any_r3 S _ _) (fun _ => ?_)
    refine ok_ret ?_
    refine mt_then_r ?_
    exact meets_ret (v := (.tuple #[(.slice none 0 0), (.int .i64 4)])) [] (dup []) (by as_aux_lemma => kernel_rfl) (by as_aux_lemma => kernel_rfl) (eqs_dup _) (fun _ hS => ⟨none, 0, congrArg Ending.returned (uh_v (xs := []) (uh4 (by have := of_decide_eq_true hb1; omega))), hS.below, fs_eq (uh_x (uh4 (by have := of_decide_eq_true hb1; omega))) Fs.nil⟩)
  ·
    rw [hb1]
    refine ok_skip ?_
    refine mt_then ?_
    refine ok_seq ?_
    refine ok_seq_r (by as_aux_lemma => kernel_rfl) (runhex_any_r4 S _ _) (fun _ => ?_)
    refine ok_cond (b := ((((S).length) % 2 : Nat) : Int) != 0) (by as_aux_lemma => kernel_rfl) (fun hb2 => ?_) (fun hb2 => ?_)
    ·
      rw [hb2]
      refine ok_seq_r (by as_aux_lemma => kernel_rfl) (runhex_any_r5 S _ _) (fun _ => ?_)
      refine ok_ret ?_
      refine mt_then_r ?_
      exact meets_ret (v := (.tuple #[(.slice none 0 0), (.int .i64 7)])) [] (dup []) (by as_aux_lemma => kernel_rfl) (by as_aux_lemma => kernel_rfl) (eqs_dup _) (fun _ hS => ⟨none, 0, congrArg Ending.returned (uh_v (xs := []) (uh7 (by have := of_decide_eq_false hb1; have := bne0 hb2; omega) (by have := of_decide_eq_false hb1; have := bne0 hb2; omega))), hS.below, fs_eq (uh_x (uh7 (by have := of_decide_eq_false hb1; have := bne0 hb2; omega) (by have := of_decide_eq_false hb1; have := bne0 hb2; omega))) Fs.nil⟩)
    ·
      rw [hb2]
      refine ok_skip ?_
      refine mt_then ?_
      refine ok_seq_r (by as_aux_lemma => kernel_rfl) (runhex_any_r6 S _ _) (fun _ => ?_)
      refine ok_seq ?_
      refine ok_seq_r (by as_aux_lemma => kernel_rfl) (runhex_any_r7 S _ _) (fun _ => ?_)
      refine ok_block ?_
      refine ok_loop (σ := (Nat) ⊕ (Nat × Nat × (List UInt8) × (Array Value) × Nat)) (fun s => match s with | Sum.inl k => [(0, (.string (strB S))), (4, (.slice none 0 0)), (5, (.int .i64 ((2 * k : Nat) : Int)))] | Sum.inr ⟨k, g, X, _, κ⟩ => [(0, (.string (strB S))), (4, (.slice (some ⟨g, 0, none⟩) (X).length κ)), (5, (.int .i64 ((2 * k : Nat) : Int)))]) (fun s => match s with | Sum.inl _ => [] | Sum.inr ⟨_, g, _, C, _⟩ => [(g, (.cells C 5 (0, 0)))]) (fun s => match s with | Sum.inl k => S.length - 2 * k | Sum.inr ⟨k, _, _, _, _⟩ => S.length - 2 * k)
        (fun s => match s with | Sum.inl k => (2 * k ≤ S.length) ∧ (∀ j, j < 2 * k → dgB (gB S j) = true) ∧ (k = 0) | Sum.inr ⟨k, _, X, C, κ⟩ => (2 * k ≤ S.length) ∧ (∀ j, j < 2 * k → dgB (gB S j) = true) ∧ (X = uhP S k) ∧ (Hd C X) ∧ (C.size = κ) ∧ (X.length ≤ κ)) (Sum.inl 0) (⟨Nat.zero_le _, fun j hj => absurd hj (Nat.not_lt_zero j), rfl⟩) (by as_aux_lemma => kernel_rfl) .slnil ?_
      rintro (k | ⟨k, g, X, C, κ⟩)
      ·
        rintro ⟨hk, hD, h0⟩
        change Ok Try.prog _ _ 52 [(0, (.string (strB S))), (4, (.slice none 0 0)), (5, (.int .i64 ((2 * k : Nat) : Int)))] _ [] (fun _ => True)
        refine ok_seq ?_
        refine ok_seq_r (by as_aux_lemma => kernel_rfl) (runhex_any_r8 S k _ _) (fun _ => ?_)
        refine ok_cond (b := decide (((2 * k : Nat) : Int) < (((S).length : Nat) : Int))) (by as_aux_lemma => kernel_rfl) (fun hb3 => ?_) (fun hb3 => ?_)
        ·
          rw [hb3]
          refine ok_skip ?_
          refine mt_then ?_
          refine ok_seq ?_
          refine ok_block ?_
          refine ok_seq_r (by as_aux_lemma => kernel_rfl) (runhex_any_r9 S hb1 hb2 k hk h0 hb3 _ _) (fun _ => ?_)
          refine ok_seq_r (by as_aux_lemma => kernel_rfl) (runhex_any_r10 S hb1 hb2 k hk h0 hb3 _ _) (fun _ => ?_)
          refine ok_seq ?_
          rcases Bool.eq_false_or_eq_true (dgB (gB S (2 * k))) with hb4 | hb4
          ·
            rw [hb4]
            refine ok_seq_r (by as_aux_lemma => kernel_rfl) (runhex_any_r11 S k _ _) (fun _ => ?_)
            refine ok_cond (b := !(dgB (gB S ((2 * k) + 1)))) (by as_aux_lemma => kernel_rfl) (fun hb5 => ?_) (fun hb5 => ?_)
            ·
              rw [hb5]
              refine ok_seq_r (by as_aux_lemma => kernel_rfl) (runhex_any_r12 S k _ _) (fun _ => ?_)
              refine ok_ret ?_
              refine mt_then_r ?_
              refine mt_block_r ?_
              refine mt_then_r ?_
              refine mt_then_r ?_
              refine mt_block_r ?_
              refine mt_then_r ?_
              exact meets_ret (v := (.tuple #[(.slice none 0 0), (.int .i64 7)])) [] (dup []) (by as_aux_lemma => kernel_rfl) (by as_aux_lemma => kernel_rfl) (eqs_dup _) (fun _ hS => ⟨none, 0, congrArg Ending.returned (uh_v (xs := []) (uh_bad (by have := of_decide_eq_false hb1; have := of_decide_eq_true hb3; have := bne0' hb2; have := hk; have := h0; have := dg_lt (gB S (2 * k)); have := dg_lt (gB S (2 * k + 1)); have := uhP_length S k; omega) (by have := of_decide_eq_false hb1; have := of_decide_eq_true hb3; have := bne0' hb2; have := hk; have := h0; have := dg_lt (gB S (2 * k)); have := dg_lt (gB S (2 * k + 1)); have := uhP_length S k; omega) (by have := of_decide_eq_false hb1; have := of_decide_eq_true hb3; have := bne0' hb2; have := hk; have := h0; have := dg_lt (gB S (2 * k)); have := dg_lt (gB S (2 * k + 1)); have := uhP_length S k; omega) (not_t hb5))), hS.below, fs_eq (uh_x (uh_bad (by have := of_decide_eq_false hb1; have := of_decide_eq_true hb3; have := bne0' hb2; have := hk; have := h0; have := dg_lt (gB S (2 * k)); have := dg_lt (gB S (2 * k + 1)); have := uhP_length S k; omega) (by have := of_decide_eq_false hb1; have := of_decide_eq_true hb3; have := bne0' hb2; have := hk; have := h0; have := dg_lt (gB S (2 * k)); have := dg_lt (gB S (2 * k + 1)); have := uhP_length S k; omega) (by have := of_decide_eq_false hb1; have := of_decide_eq_true hb3; have := bne0' hb2; have := hk; have := h0; have := dg_lt (gB S (2 * k)); have := dg_lt (gB S (2 * k + 1)); have := uhP_length S k; omega) (not_t hb5))) Fs.nil⟩)
            ·
              rw [hb5]
              refine ok_skip ?_
              refine mt_then ?_
              refine ok_rf (by as_aux_lemma => kernel_rfl) (runhex_any_r13 S hb1 hb2 k hk h0 hb3 _) (fun ρ13 => ?_)
              refine mt_block_n ?_
              refine mt_then ?_
              refine ok_r (by as_aux_lemma => kernel_rfl) (runhex_any_r14 S hb1 hb2 k hk h0 hb3 ρ13 _ _) (fun _ => ?_)
              exact mt_round (Sum.inr (k + 1, nb ρ13 6, ([ob ((uh1 S k : Nat) : Int)] : List UInt8), (bs ([ob ((uh1 S k : Nat) : Int)] : List UInt8)).toArray ++ zB (nb2 ρ13 6), (([ob ((uh1 S k : Nat) : Int)] : List UInt8)).length + nb2 ρ13 6)) (by show S.length - 2 * (k + 1) < S.length - 2 * k; have := of_decide_eq_false hb1; have := of_decide_eq_true hb3; have := bne0' hb2; have := hk; have := h0; have := dg_lt (gB S (2 * k)); have := dg_lt (gB S (2 * k + 1)); have := uhP_length S k; omega) (⟨(by have := of_decide_eq_false hb1; have := of_decide_eq_true hb3; have := bne0' hb2; have := hk; have := h0; have := dg_lt (gB S (2 * k)); have := dg_lt (gB S (2 * k + 1)); have := uhP_length S k; omega), dg_next (dg_next hD hb4) (not_f hb5), (by rw [uhP_succ, h0]; rfl), (Hd.fresh _ _), (fresh_size _ _), (Nat.le_add_right _ _)⟩) (by as_aux_lemma => kernel_rfl) (.cons _ (.cons_cons _ .slnil))
          ·
            rw [hb4]
            refine ok_seq_r (by as_aux_lemma => kernel_rfl) (runhex_any_r15 S k _ _) (fun _ => ?_)
            refine ok_yes (by as_aux_lemma => kernel_rfl) ?_
            refine ok_seq_r (by as_aux_lemma => kernel_rfl) (runhex_any_r16 S k _ _) (fun _ => ?_)
            refine ok_ret ?_
            refine mt_then_r ?_
            refine mt_block_r ?_
            refine mt_then_r ?_
            refine mt_then_r ?_
            refine mt_block_r ?_
            refine mt_then_r ?_
            exact meets_ret (v := (.tuple #[(.slice none 0 0), (.int .i64 7)])) [] (dup []) (by as_aux_lemma => kernel_rfl) (by as_aux_lemma => kernel_rfl) (eqs_dup _) (fun _ hS => ⟨none, 0, congrArg Ending.returned (uh_v (xs := []) (uh_bad (by have := of_decide_eq_false hb1; have := of_decide_eq_true hb3; have := bne0' hb2; have := hk; have := h0; have := dg_lt (gB S (2 * k)); have := dg_lt (gB S (2 * k + 1)); have := uhP_length S k; omega) (by have := of_decide_eq_false hb1; have := of_decide_eq_true hb3; have := bne0' hb2; have := hk; have := h0; have := dg_lt (gB S (2 * k)); have := dg_lt (gB S (2 * k + 1)); have := uhP_length S k; omega) (by have := of_decide_eq_false hb1; have := of_decide_eq_true hb3; have := bne0' hb2; have := hk; have := h0; have := dg_lt (gB S (2 * k)); have := dg_lt (gB S (2 * k + 1)); have := uhP_length S k; omega) hb4)), hS.below, fs_eq (uh_x (uh_bad (by have := of_decide_eq_false hb1; have := of_decide_eq_true hb3; have := bne0' hb2; have := hk; have := h0; have := dg_lt (gB S (2 * k)); have := dg_lt (gB S (2 * k + 1)); have := uhP_length S k; omega) (by have := of_decide_eq_false hb1; have := of_decide_eq_true hb3; have := bne0' hb2; have := hk; have := h0; have := dg_lt (gB S (2 * k)); have := dg_lt (gB S (2 * k + 1)); have := uhP_length S k; omega) (by have := of_decide_eq_false hb1; have := of_decide_eq_true hb3; have := bne0' hb2; have := hk; have := h0; have := dg_lt (gB S (2 * k)); have := dg_lt (gB S (2 * k + 1)); have := uhP_length S k; omega) hb4)) Fs.nil⟩)
        ·
          rw [hb3]
          refine ok_exit ?_
          refine mt_then_e ?_
          refine mt_then_e ?_
          refine mt_block_h ?_
          refine mt_then ?_
          refine ok_seq_r (by as_aux_lemma => kernel_rfl) (runhex_any_r17 S k _ _) (fun _ => ?_)
          refine ok_ret ?_
          exact meets_ret (v := (.tuple #[(.slice none 0 0), (.int .i64 0)])) [] (dup []) (by as_aux_lemma => kernel_rfl) (by as_aux_lemma => kernel_rfl) (eqs_dup _) (fun _ hS => ⟨none, 0, congrArg Ending.returned (uh_v (xs := []) (uh_ok (by have := of_decide_eq_false hb1; have := of_decide_eq_false hb3; have := bne0' hb2; have := hk; have := h0; have := dg_lt (gB S (2 * k)); have := dg_lt (gB S (2 * k + 1)); have := uhP_length S k; omega) (by have := of_decide_eq_false hb1; have := of_decide_eq_false hb3; have := bne0' hb2; have := hk; have := h0; have := dg_lt (gB S (2 * k)); have := dg_lt (gB S (2 * k + 1)); have := uhP_length S k; omega) (by have := of_decide_eq_false hb1; have := of_decide_eq_false hb3; have := bne0' hb2; have := hk; have := h0; have := dg_lt (gB S (2 * k)); have := dg_lt (gB S (2 * k + 1)); have := uhP_length S k; omega) hD (by rw [show S.length / 2 = 0 by have := of_decide_eq_false hb1; have := of_decide_eq_false hb3; have := bne0' hb2; have := hk; have := h0; have := dg_lt (gB S (2 * k)); have := dg_lt (gB S (2 * k + 1)); have := uhP_length S k; omega]; rfl))), hS.below, fs_eq (uh_x (uh_ok (by have := of_decide_eq_false hb1; have := of_decide_eq_false hb3; have := bne0' hb2; have := hk; have := h0; have := dg_lt (gB S (2 * k)); have := dg_lt (gB S (2 * k + 1)); have := uhP_length S k; omega) (by have := of_decide_eq_false hb1; have := of_decide_eq_false hb3; have := bne0' hb2; have := hk; have := h0; have := dg_lt (gB S (2 * k)); have := dg_lt (gB S (2 * k + 1)); have := uhP_length S k; omega) (by have := of_decide_eq_false hb1; have := of_decide_eq_false hb3; have := bne0' hb2; have := hk; have := h0; have := dg_lt (gB S (2 * k)); have := dg_lt (gB S (2 * k + 1)); have := uhP_length S k; omega) hD (by rw [show S.length / 2 = 0 by have := of_decide_eq_false hb1; have := of_decide_eq_false hb3; have := bne0' hb2; have := hk; have := h0; have := dg_lt (gB S (2 * k)); have := dg_lt (gB S (2 * k + 1)); have := uhP_length S k; omega]; rfl))) Fs.nil⟩)
      ·
        rintro ⟨hk, hD, hX, hC, hs, hle⟩
        change Ok Try.prog _ _ 52 [(0, (.string (strB S))), (4, (.slice (some ⟨g, 0, none⟩) (X).length κ)), (5, (.int .i64 ((2 * k : Nat) : Int)))] _ [(g, (.cells C 5 (0, 0)))] (fun _ => True)
        refine ok_seq ?_
        refine ok_seq_r (by as_aux_lemma => kernel_rfl) (runhex_any_r18 S k g X C κ _ _) (fun _ => ?_)
        refine ok_cond (b := decide (((2 * k : Nat) : Int) < (((S).length : Nat) : Int))) (by as_aux_lemma => kernel_rfl) (fun hb6 => ?_) (fun hb6 => ?_)
        ·
          rw [hb6]
          refine ok_skip ?_
          refine mt_then ?_
          refine ok_seq ?_
          refine ok_block ?_
          refine ok_seq_r (by as_aux_lemma => kernel_rfl) (runhex_any_r19 S hb1 hb2 k g X C κ hk hX hb6 _ _) (fun _ => ?_)
          refine ok_seq_r (by as_aux_lemma => kernel_rfl) (runhex_any_r20 S hb1 hb2 k g X C κ hk hX hb6 _ _) (fun _ => ?_)
          refine ok_seq ?_
          rcases Bool.eq_false_or_eq_true (dgB (gB S (2 * k))) with hb7 | hb7
          ·
            rw [hb7]
            refine ok_seq_r (by as_aux_lemma => kernel_rfl) (runhex_any_r21 S k g X C κ _ _) (fun _ => ?_)
            refine ok_cond (b := !(dgB (gB S ((2 * k) + 1)))) (by as_aux_lemma => kernel_rfl) (fun hb8 => ?_) (fun hb8 => ?_)
            ·
              rw [hb8]
              refine ok_seq_r (by as_aux_lemma => kernel_rfl) (runhex_any_r22 S k g X C κ _ _) (fun _ => ?_)
              refine ok_ret ?_
              refine mt_then_r ?_
              refine mt_block_r ?_
              refine mt_then_r ?_
              refine mt_then_r ?_
              refine mt_block_r ?_
              refine mt_then_r ?_
              exact meets_ret (v := (.tuple #[(.slice none 0 0), (.int .i64 7)])) [] (dup []) (by as_aux_lemma => kernel_rfl) (by as_aux_lemma => kernel_rfl) (eqs_dup _) (fun _ hS => ⟨none, 0, congrArg Ending.returned (uh_v (xs := []) (uh_bad (by have := of_decide_eq_false hb1; have := of_decide_eq_true hb6; have := bne0' hb2; have := hk; have := dg_lt (gB S (2 * k)); have := dg_lt (gB S (2 * k + 1)); have := uhP_length S k; have := congrArg List.length hX; omega) (by have := of_decide_eq_false hb1; have := of_decide_eq_true hb6; have := bne0' hb2; have := hk; have := dg_lt (gB S (2 * k)); have := dg_lt (gB S (2 * k + 1)); have := uhP_length S k; have := congrArg List.length hX; omega) (by have := of_decide_eq_false hb1; have := of_decide_eq_true hb6; have := bne0' hb2; have := hk; have := dg_lt (gB S (2 * k)); have := dg_lt (gB S (2 * k + 1)); have := uhP_length S k; have := congrArg List.length hX; omega) (not_t hb8))), hS.below, fs_eq (uh_x (uh_bad (by have := of_decide_eq_false hb1; have := of_decide_eq_true hb6; have := bne0' hb2; have := hk; have := dg_lt (gB S (2 * k)); have := dg_lt (gB S (2 * k + 1)); have := uhP_length S k; have := congrArg List.length hX; omega) (by have := of_decide_eq_false hb1; have := of_decide_eq_true hb6; have := bne0' hb2; have := hk; have := dg_lt (gB S (2 * k)); have := dg_lt (gB S (2 * k + 1)); have := uhP_length S k; have := congrArg List.length hX; omega) (by have := of_decide_eq_false hb1; have := of_decide_eq_true hb6; have := bne0' hb2; have := hk; have := dg_lt (gB S (2 * k)); have := dg_lt (gB S (2 * k + 1)); have := uhP_length S k; have := congrArg List.length hX; omega) (not_t hb8))) Fs.nil⟩)
            ·
              rw [hb8]
              refine ok_skip ?_
              refine mt_then ?_
              rcases Bool.eq_false_or_eq_true (decide ((X).length + (([ob ((uh1 S k : Nat) : Int)] : List UInt8)).length ≤ κ)) with hb9 | hb9
              ·
                refine ok_rf (by as_aux_lemma => kernel_rfl) (runhex_any_r23 S hb1 hb2 k g X C κ hk hX hs hb6 hb9 _) (fun ρ23 => ?_)
                refine mt_block_n ?_
                refine mt_then ?_
                refine ok_r (by as_aux_lemma => kernel_rfl) (runhex_any_r24 S hb1 hb2 k g X C κ hk hX hb6 hb9 ρ23 _ _) (fun _ => ?_)
                exact mt_round (Sum.inr (k + 1, g, X ++ ([ob ((uh1 S k : Nat) : Int)] : List UInt8), inpl C (X).length (bs ([ob ((uh1 S k : Nat) : Int)] : List UInt8)), κ)) (by show S.length - 2 * (k + 1) < S.length - 2 * k; have := of_decide_eq_false hb1; have := of_decide_eq_true hb6; have := of_decide_eq_true hb9; have := bne0' hb2; have := hk; have := dg_lt (gB S (2 * k)); have := dg_lt (gB S (2 * k + 1)); have := uhP_length S k; have := congrArg List.length hX; omega) (⟨(by have := of_decide_eq_false hb1; have := of_decide_eq_true hb6; have := of_decide_eq_true hb9; have := bne0' hb2; have := hk; have := dg_lt (gB S (2 * k)); have := dg_lt (gB S (2 * k + 1)); have := uhP_length S k; have := congrArg List.length hX; omega), dg_next (dg_next hD hb7) (not_f hb8), (by rw [uhP_succ, hX]), (Hd.inpl hC rfl), ((inpl_size _ _ _ (room_le hs (of_decide_eq_true hb9))).trans hs), (len_app (of_decide_eq_true hb9))⟩) (by as_aux_lemma => kernel_rfl) (.cons_cons _ (.cons _ .slnil))
              ·
                refine ok_rf (by as_aux_lemma => kernel_rfl) (runhex_any_r25 S hb1 hb2 k g X C κ hk hX hs hle hb6 hb9 _) (fun ρ25 => ?_)
                refine mt_block_n ?_
                refine mt_then ?_
                refine ok_r (by as_aux_lemma => kernel_rfl) (runhex_any_r26 S hb1 hb2 k g X C κ hk hX hb6 hb9 ρ25 _ _) (fun _ => ?_)
                exact mt_round (Sum.inr (k + 1, nb ρ25 6, X ++ ([ob ((uh1 S k : Nat) : Int)] : List UInt8), grow C (X).length (bs ([ob ((uh1 S k : Nat) : Int)] : List UInt8)) (nb2 ρ25 6), (X ++ ([ob ((uh1 S k : Nat) : Int)] : List UInt8)).length + nb2 ρ25 6)) (by show S.length - 2 * (k + 1) < S.length - 2 * k; have := of_decide_eq_false hb1; have := of_decide_eq_true hb6; have := of_decide_eq_false hb9; have := bne0' hb2; have := hk; have := dg_lt (gB S (2 * k)); have := dg_lt (gB S (2 * k + 1)); have := uhP_length S k; have := congrArg List.length hX; omega) (⟨(by have := of_decide_eq_false hb1; have := of_decide_eq_true hb6; have := of_decide_eq_false hb9; have := bne0' hb2; have := hk; have := dg_lt (gB S (2 * k)); have := dg_lt (gB S (2 * k + 1)); have := uhP_length S k; have := congrArg List.length hX; omega), dg_next (dg_next hD hb7) (not_f hb8), (by rw [uhP_succ, hX]), (Hd.grow hC rfl), (grow_sizeL hC), (Nat.le_add_right _ _)⟩) (by as_aux_lemma => kernel_rfl) (.cons _ (.cons _ (.cons_cons _ .slnil)))
          ·
            rw [hb7]
            refine ok_seq_r (by as_aux_lemma => kernel_rfl) (runhex_any_r27 S k g X C κ _ _) (fun _ => ?_)
            refine ok_yes (by as_aux_lemma => kernel_rfl) ?_
            refine ok_seq_r (by as_aux_lemma => kernel_rfl) (runhex_any_r28 S k g X C κ _ _) (fun _ => ?_)
            refine ok_ret ?_
            refine mt_then_r ?_
            refine mt_block_r ?_
            refine mt_then_r ?_
            refine mt_then_r ?_
            refine mt_block_r ?_
            refine mt_then_r ?_
            exact meets_ret (v := (.tuple #[(.slice none 0 0), (.int .i64 7)])) [] (dup []) (by as_aux_lemma => kernel_rfl) (by as_aux_lemma => kernel_rfl) (eqs_dup _) (fun _ hS => ⟨none, 0, congrArg Ending.returned (uh_v (xs := []) (uh_bad (by have := of_decide_eq_false hb1; have := of_decide_eq_true hb6; have := bne0' hb2; have := hk; have := dg_lt (gB S (2 * k)); have := dg_lt (gB S (2 * k + 1)); have := uhP_length S k; have := congrArg List.length hX; omega) (by have := of_decide_eq_false hb1; have := of_decide_eq_true hb6; have := bne0' hb2; have := hk; have := dg_lt (gB S (2 * k)); have := dg_lt (gB S (2 * k + 1)); have := uhP_length S k; have := congrArg List.length hX; omega) (by have := of_decide_eq_false hb1; have := of_decide_eq_true hb6; have := bne0' hb2; have := hk; have := dg_lt (gB S (2 * k)); have := dg_lt (gB S (2 * k + 1)); have := uhP_length S k; have := congrArg List.length hX; omega) hb7)), hS.below, fs_eq (uh_x (uh_bad (by have := of_decide_eq_false hb1; have := of_decide_eq_true hb6; have := bne0' hb2; have := hk; have := dg_lt (gB S (2 * k)); have := dg_lt (gB S (2 * k + 1)); have := uhP_length S k; have := congrArg List.length hX; omega) (by have := of_decide_eq_false hb1; have := of_decide_eq_true hb6; have := bne0' hb2; have := hk; have := dg_lt (gB S (2 * k)); have := dg_lt (gB S (2 * k + 1)); have := uhP_length S k; have := congrArg List.length hX; omega) (by have := of_decide_eq_false hb1; have := of_decide_eq_true hb6; have := bne0' hb2; have := hk; have := dg_lt (gB S (2 * k)); have := dg_lt (gB S (2 * k + 1)); have := uhP_length S k; have := congrArg List.length hX; omega) hb7)) Fs.nil⟩)
        ·
          rw [hb6]
          refine ok_exit ?_
          refine mt_then_e ?_
          refine mt_then_e ?_
          refine mt_block_h ?_
          refine mt_then ?_
          refine ok_seq_r (by as_aux_lemma => kernel_rfl) (runhex_any_r29 S k g X C κ _ _) (fun _ => ?_)
          refine ok_ret ?_
          exact meets_ret (v := (.tuple #[(.slice (some ⟨g, 0, none⟩) (X).length κ), (.int .i64 0)])) [] (dup []) (by as_aux_lemma => kernel_rfl) (by as_aux_lemma => kernel_rfl) (eqs_dup _) (fun _ hS => ⟨(some ⟨g, 0, none⟩), κ, congrArg Ending.returned (uh_v (uh_ok (by have := of_decide_eq_false hb1; have := of_decide_eq_false hb6; have := bne0' hb2; have := hk; have := dg_lt (gB S (2 * k)); have := dg_lt (gB S (2 * k + 1)); have := uhP_length S k; have := congrArg List.length hX; omega) (by have := of_decide_eq_false hb1; have := of_decide_eq_false hb6; have := bne0' hb2; have := hk; have := dg_lt (gB S (2 * k)); have := dg_lt (gB S (2 * k + 1)); have := uhP_length S k; have := congrArg List.length hX; omega) (by have := of_decide_eq_false hb1; have := of_decide_eq_false hb6; have := bne0' hb2; have := hk; have := dg_lt (gB S (2 * k)); have := dg_lt (gB S (2 * k + 1)); have := uhP_length S k; have := congrArg List.length hX; omega) hD (by rw [hX, show S.length / 2 = k by have := of_decide_eq_false hb1; have := of_decide_eq_false hb6; have := bne0' hb2; have := hk; have := dg_lt (gB S (2 * k)); have := dg_lt (gB S (2 * k + 1)); have := uhP_length S k; have := congrArg List.length hX; omega]))), hS.below, fs_eq (uh_x (uh_ok (by have := of_decide_eq_false hb1; have := of_decide_eq_false hb6; have := bne0' hb2; have := hk; have := dg_lt (gB S (2 * k)); have := dg_lt (gB S (2 * k + 1)); have := uhP_length S k; have := congrArg List.length hX; omega) (by have := of_decide_eq_false hb1; have := of_decide_eq_false hb6; have := bne0' hb2; have := hk; have := dg_lt (gB S (2 * k)); have := dg_lt (gB S (2 * k + 1)); have := uhP_length S k; have := congrArg List.length hX; omega) (by have := of_decide_eq_false hb1; have := of_decide_eq_false hb6; have := bne0' hb2; have := hk; have := dg_lt (gB S (2 * k)); have := dg_lt (gB S (2 * k + 1)); have := uhP_length S k; have := congrArg List.length hX; omega) hD (by rw [hX, show S.length / 2 = k by have := of_decide_eq_false hb1; have := of_decide_eq_false hb6; have := bne0' hb2; have := hk; have := dg_lt (gB S (2 * k)); have := dg_lt (gB S (2 * k + 1)); have := uhP_length S k; have := congrArg List.length hX; omega]))) (hS.fresh (.head _) hC hle (by have := of_decide_eq_false hb1; have := bne0' hb2; have := hk; have := uhP_length S k; have := congrArg List.length hX; omega))⟩)
end Go.Proofs.Ytclccfibfkcagaa
