/-
  The law CodecLimits: the walk.
-/
import Derived.Test.YtclccfibfkcagaaCSane
import Derived.Test.YtclccfibfkcagaaCLaws
namespace Go.Proofs.Ytclccfibfkcagaa
open Go Go.RowKit
set_option maxRecDepth 100000
theorem codecLimits_any_r1 (n : Nat) (w0 : World) (F : World → Prop) : Reg Try.prog 0 (regOps Try.f10 0) false 62 [(0, (.int .u8 ((n : Nat) : Int)))] w0 [] F
    (fun _ => [(0, (.int .u8 ((n : Nat) : Int))), (2, (.bool false))])
    (fun _ => []) := by
  refine reg_seq [0] [0, 2] 1
    (fun _ ι => ([(.bool false)] : List Value).getD ι undef)
    (fun _ ι => ([{}] : List Eff).getD ι {})
    (by as_aux_lemma => kernel_rfl) (by as_aux_lemma => kernel_rfl) (fun _ => by as_aux_lemma => kernel_rfl) (fun _ => by as_aux_lemma => kernel_rfl) ⟨trivial, ?_⟩
  · exact o_run 0 [] [] (fun _ _ => []) (fun _ _ => by as_aux_lemma => kernel_rfl)
theorem codecLimits_any_r2 (n : Nat) (w0 : World) (F : World → Prop) : Reg Try.prog 1 (regOps Try.f10 1) false 62 [(0, (.int .u8 ((n : Nat) : Int))), (2, (.bool false))] w0 [] F
    (fun _ => [(0, (.int .u8 ((n : Nat) : Int))), (2, (.bool false)), (8, (.bool false))])
    (fun _ => []) := by
  refine reg_seq [0, 1] [0, 2, 8] 2
    (fun _ ι => ([(.bool true), (.bool false)] : List Value).getD ι undef)
    (fun _ ι => ([{}, {}] : List Eff).getD ι {})
    (by as_aux_lemma => kernel_rfl) (by as_aux_lemma => kernel_rfl) (fun _ => by as_aux_lemma => kernel_rfl) (fun _ => by as_aux_lemma => kernel_rfl) ⟨⟨trivial, ?_⟩, ?_⟩
  · exact o_call 0 12 (fun _ => #[]) (fun _ => (.bool true)) (fun _ _ => by as_aux_lemma => kernel_rfl) (fun _ w => (fun w => sane_any w) w)
  · exact o_run 1 [] [] (fun _ _ => []) (fun _ _ => by as_aux_lemma => kernel_rfl)
theorem codecLimits_any_r3 (n : Nat) (hn : n < 256) (w0 : World) : RegF Try.prog 3 (regOps Try.f10 3) false 62 [(0, (.int .u8 ((n : Nat) : Int))), (2, (.bool false)), (8, (.bool false))] w0 [] (fun _ => True)
    (fun ρ => [(2, (.bool false)), (3, (.slice (some ⟨nb ρ 4, 0, none⟩) (List.replicate (399998 + (n % 5)) (0 : UInt8)).length (399998 + (n % 5))))])
    (fun ρ => [(nb ρ 4, (.cells (zB (399998 + (n % 5))) 5 (0, 0)))]) (fun _ => (fun _ => True)) := by
  refine reg_seq_f [0, 1, 3, 7, 15, 31] [2, 3] 6
    (fun ρ ι => ([(.int .u8 ((n : Nat) : Int)), (.int .u8 ((n % 5 : Nat) : Int)), (.int .i64 ((n % 5 : Nat) : Int)), (.int .i64 ((399998 + (n % 5) : Nat) : Int)), (.slice (some ⟨nb ρ 4, 0, none⟩) (List.replicate (399998 + (n % 5)) (0 : UInt8)).length (399998 + (n % 5))), (.slice (some ⟨nb ρ 4, 0, none⟩) (List.replicate (399998 + (n % 5)) (0 : UInt8)).length (399998 + (n % 5)))] : List Value).getD ι undef)
    (fun ρ ι => ([{}, {}, {}, {}, { news := [(nb ρ 4, (.cells (zB (399998 + (n % 5))) 5 (0, 0)))] }, {}] : List Eff).getD ι {})
    (fun _ ι => ([(fun _ => True), (fun _ => True), (fun _ => True), (fun _ => True), (fun _ => True), (fun _ => True)] : List (World → Prop)).getD ι (fun _ => True))
    (by as_aux_lemma => kernel_rfl) (by as_aux_lemma => kernel_rfl) (fun _ => by as_aux_lemma => kernel_rfl) (fun _ => by as_aux_lemma => kernel_rfl) (fun _ _ _ _ => trivial) ⟨⟨⟨⟨⟨⟨trivial, ?_⟩, ?_⟩, ?_⟩, ?_⟩, ?_⟩, ?_⟩
  · exact Obl.brings (o_run 0 [] [] (fun _ _ => []) (fun _ _ => by as_aux_lemma => kernel_rfl)) (fun _ _ => trivial)
  · exact Obl.brings (o_bin 1 .rem 5 (fun _ => (.int .u8 ((n : Nat) : Int))) (fun _ => (.int .u8 5)) (fun _ => (.int .u8 ((n % 5 : Nat) : Int))) (fun _ => by as_aux_lemma => kernel_rfl) (fun _ _ _ _ => by as_aux_lemma => kernel_rfl) (fun _ w => run_remU (k := .u8) (n := n) (d := 5) (by decide) w)) (fun _ _ => trivial)
  · exact Obl.brings (o_as 2 (fun _ => (.int .i64 (IntKind.i64.wrap (((n % 5 : Nat) : Int))))) (fun _ => (.int .i64 ((n % 5 : Nat) : Int))) (fun _ _ => by as_aux_lemma => kernel_rfl) (fun _ => congrArg (Value.int .i64) (i64N (by have := hn; have := List.length_replicate (n := 399998 + (n % 5)) (a := (0 : UInt8)); omega)))) (fun _ _ => trivial)
  · exact Obl.brings (o_as 3 (fun _ => (.int .i64 (IntKind.i64.wrap (399998 + ((n % 5 : Nat) : Int))))) (fun _ => (.int .i64 ((399998 + (n % 5) : Nat) : Int))) (fun _ _ => by as_aux_lemma => kernel_rfl) (fun _ => congrArg (Value.int .i64) (wrap_addN 399998 (n % 5) (by have := hn; have := List.length_replicate (n := 399998 + (n % 5)) (a := (0 : UInt8)); omega)))) (fun _ _ => trivial)
  · exact o_new1 4 (fun _ => do pure (Next.value (← Instr.makeSlice 22 (.int .i64 ((399998 + (n % 5) : Nat) : Int)) (.int .i64 ((399998 + (n % 5) : Nat) : Int))))) (fun _ z => (.slice (some ⟨z.headD 0, 0, none⟩) (List.replicate (399998 + (n % 5)) (0 : UInt8)).length (399998 + (n % 5)))) (fun _ _ => (.cells (zB (399998 + (n % 5))) 5 (0, 0))) (fun _ _ => (by as_aux_lemma => kernel_rfl)) (fun _ => (by as_aux_lemma => kernel_rfl)) (fun _ _ => trivial) (fun _ _ w _ => make_rowL Try.underlying22 u8i (List.replicate (399998 + (n % 5)) (0 : UInt8)) ((rfl).trans (by rw [List.length_replicate])) (rfl) (Nat.le_of_eq (List.length_replicate ..)) (by omega) w)
  · exact Obl.brings (o_run 5 [] [] (fun _ _ => []) (fun _ _ => by as_aux_lemma => kernel_rfl)) (fun _ _ => trivial)
theorem codecLimits_any_r4 (n : Nat) (ρ3 : Nat → Orc) (w0 : World) (F : World → Prop) : Reg Try.prog 4 (regOps Try.f10 4) false 62 [(2, (.bool false)), (3, (.slice (some ⟨nb ρ3 4, 0, none⟩) (List.replicate (399998 + (n % 5)) (0 : UInt8)).length (399998 + (n % 5))))] w0 [(nb ρ3 4, (.cells (zB (399998 + (n % 5))) 5 (0, 0)))] F
    (fun _ => [(2, (.bool false)), (3, (.slice (some ⟨nb ρ3 4, 0, none⟩) (List.replicate (399998 + (n % 5)) (0 : UInt8)).length (399998 + (n % 5)))), (15, (.int .i64 (((List.replicate (399998 + (n % 5)) (0 : UInt8)).length : Nat) : Int))), (16, (.int .i64 0))])
    (fun _ => [(nb ρ3 4, (.cells (zB (399998 + (n % 5))) 5 (0, 0)))]) := by
  refine reg_seq [0, 1, 3] [2, 3, 15, 16] 3
    (fun _ ι => ([(.slice (some ⟨nb ρ3 4, 0, none⟩) (List.replicate (399998 + (n % 5)) (0 : UInt8)).length (399998 + (n % 5))), (.int .i64 (((List.replicate (399998 + (n % 5)) (0 : UInt8)).length : Nat) : Int)), (.int .i64 0)] : List Value).getD ι undef)
    (fun _ ι => ([{}, {}, {}] : List Eff).getD ι {})
    (by as_aux_lemma => kernel_rfl) (by as_aux_lemma => kernel_rfl) (fun _ => by as_aux_lemma => kernel_rfl) (fun _ => by as_aux_lemma => kernel_rfl) ⟨⟨⟨trivial, ?_⟩, ?_⟩, ?_⟩
  · exact o_run 0 [] [] (fun _ _ => []) (fun _ _ => by as_aux_lemma => kernel_rfl)
  · exact o_run 1 [] [] (fun _ _ => []) (fun _ _ => by as_aux_lemma => kernel_rfl)
  · exact o_run 2 [] [] (fun _ _ => []) (fun _ _ => by as_aux_lemma => kernel_rfl)
theorem codecLimits_any_r5 (n : Nat) (i : Nat) (C : Array Value) (ρ3 : Nat → Orc) (w0 : World) (F : World → Prop) : Reg Try.prog 5 (regOps Try.f10 5) false 62 [(2, (.bool false)), (3, (.slice (some ⟨nb ρ3 4, 0, none⟩) (List.replicate (399998 + (n % 5)) (0 : UInt8)).length (399998 + (n % 5)))), (15, (.int .i64 (((List.replicate (399998 + (n % 5)) (0 : UInt8)).length : Nat) : Int))), (16, (.int .i64 ((i : Nat) : Int)))] w0 [(nb ρ3 4, (.cells C 5 (0, 0)))] F
    (fun _ => [(2, (.bool false)), (3, (.slice (some ⟨nb ρ3 4, 0, none⟩) (List.replicate (399998 + (n % 5)) (0 : UInt8)).length (399998 + (n % 5)))), (15, (.int .i64 (((List.replicate (399998 + (n % 5)) (0 : UInt8)).length : Nat) : Int))), (16, (.int .i64 ((i : Nat) : Int))), (17, (.bool (decide (((i : Nat) : Int) < (((List.replicate (399998 + (n % 5)) (0 : UInt8)).length : Nat) : Int)))))])
    (fun _ => [(nb ρ3 4, (.cells C 5 (0, 0)))]) := by
  refine reg_seq [0] [2, 3, 15, 16, 17] 1
    (fun _ ι => ([(.bool (decide (((i : Nat) : Int) < (((List.replicate (399998 + (n % 5)) (0 : UInt8)).length : Nat) : Int))))] : List Value).getD ι undef)
    (fun _ ι => ([{}] : List Eff).getD ι {})
    (by as_aux_lemma => kernel_rfl) (by as_aux_lemma => kernel_rfl) (fun _ => by as_aux_lemma => kernel_rfl) (fun _ => by as_aux_lemma => kernel_rfl) ⟨trivial, ?_⟩
  · exact o_run 0 [] [] (fun _ _ => []) (fun _ _ => by as_aux_lemma => kernel_rfl)
theorem codecLimits_any_r6 (n : Nat) (i : Nat) (C : Array Value) (ρ3 : Nat → Orc) (w0 : World) (F : World → Prop) : Reg Try.prog 6 (regOps Try.f10 6) false 62 [(2, (.bool false)), (3, (.slice (some ⟨nb ρ3 4, 0, none⟩) (List.replicate (399998 + (n % 5)) (0 : UInt8)).length (399998 + (n % 5)))), (15, (.int .i64 (((List.replicate (399998 + (n % 5)) (0 : UInt8)).length : Nat) : Int))), (16, (.int .i64 ((i : Nat) : Int))), (17, (.bool true))] w0 [(nb ρ3 4, (.cells C 5 (0, 0)))] F
    (fun _ => [(2, (.bool false)), (3, (.slice (some ⟨nb ρ3 4, 0, none⟩) (List.replicate (399998 + (n % 5)) (0 : UInt8)).length (399998 + (n % 5)))), (4, (.int .i64 ((i : Nat) : Int))), (15, (.int .i64 (((List.replicate (399998 + (n % 5)) (0 : UInt8)).length : Nat) : Int))), (16, (.int .i64 ((i : Nat) : Int)))])
    (fun _ => [(nb ρ3 4, (.cells C 5 (0, 0)))]) := by
  refine reg_seq [0, 1] [2, 3, 4, 15, 16] 2
    (fun _ ι => ([(.int .i64 ((i : Nat) : Int)), (.int .i64 ((i : Nat) : Int))] : List Value).getD ι undef)
    (fun _ ι => ([{}, {}] : List Eff).getD ι {})
    (by as_aux_lemma => kernel_rfl) (by as_aux_lemma => kernel_rfl) (fun _ => by as_aux_lemma => kernel_rfl) (fun _ => by as_aux_lemma => kernel_rfl) ⟨⟨trivial, ?_⟩, ?_⟩
  · exact o_run 0 [] [] (fun _ _ => []) (fun _ _ => by as_aux_lemma => kernel_rfl)
  · exact o_run 1 [] [] (fun _ _ => []) (fun _ _ => by as_aux_lemma => kernel_rfl)
theorem codecLimits_any_r7 (n : Nat) (hn : n < 256) (i : Nat) (C : Array Value) (hi : i ≤ 399998 + (n % 5)) (hC : C = limC (399998 + (n % 5)) i) (hb1 : (decide (((i : Nat) : Int) < (((List.replicate (399998 + (n % 5)) (0 : UInt8)).length : Nat) : Int))) = true) (ρ3 : Nat → Orc) (w0 : World) (F : World → Prop) : Reg Try.prog 7 (regOps Try.f10 7) false 62 [(2, (.bool false)), (3, (.slice (some ⟨nb ρ3 4, 0, none⟩) (List.replicate (399998 + (n % 5)) (0 : UInt8)).length (399998 + (n % 5)))), (4, (.int .i64 ((i : Nat) : Int))), (15, (.int .i64 (((List.replicate (399998 + (n % 5)) (0 : UInt8)).length : Nat) : Int))), (16, (.int .i64 ((i : Nat) : Int)))] w0 [(nb ρ3 4, (.cells C 5 (0, 0)))] F
    (fun _ => [(2, (.bool false)), (3, (.slice (some ⟨nb ρ3 4, 0, none⟩) (List.replicate (399998 + (n % 5)) (0 : UInt8)).length (399998 + (n % 5)))), (15, (.int .i64 (((List.replicate (399998 + (n % 5)) (0 : UInt8)).length : Nat) : Int))), (16, (.int .i64 ((i : Nat) : Int)))])
    (fun _ => [(nb ρ3 4, (.cells (C.setIfInBounds i (.int .u8 102)) 5 (0, 0)))]) := by
  refine reg_seq [0, 1, 3, 7] [2, 3, 15, 16] 4
    (fun _ ι => ([(.slice (some ⟨nb ρ3 4, 0, none⟩) (List.replicate (399998 + (n % 5)) (0 : UInt8)).length (399998 + (n % 5))), (.int .i64 ((i : Nat) : Int)), (.pointer (some ⟨nb ρ3 4, i, none⟩)), undef] : List Value).getD ι undef)
    (fun _ ι => ([{}, {}, {}, { puts := [(0, (.cells (C.setIfInBounds i (.int .u8 102)) 5 (0, 0)))] }] : List Eff).getD ι {})
    (by as_aux_lemma => kernel_rfl) (by as_aux_lemma => kernel_rfl) (fun _ => by as_aux_lemma => kernel_rfl) (fun _ => by as_aux_lemma => kernel_rfl) ⟨⟨⟨⟨trivial, ?_⟩, ?_⟩, ?_⟩, ?_⟩
  · exact o_run 0 [] [] (fun _ _ => []) (fun _ _ => by as_aux_lemma => kernel_rfl)
  · exact o_run 1 [] [] (fun _ _ => []) (fun _ _ => by as_aux_lemma => kernel_rfl)
  · exact o_sem 2 (fun _ => do pure (Next.value (← Instr.indexAt 22 (.slice (some ⟨nb ρ3 4, 0, none⟩) (List.replicate (399998 + (n % 5)) (0 : UInt8)).length (399998 + (n % 5))) (.int .i64 ((i : Nat) : Int))))) (fun _ => (.pointer (some ⟨nb ρ3 4, i, none⟩))) (fun _ => (by as_aux_lemma => kernel_rfl)) (fun _ => (by as_aux_lemma => kernel_rfl)) (fun _ w => idx_row Try.underlying22 u8i ((show ((i : Nat) : Int) = ((i : Nat) : Int) ∧ i < (List.replicate (399998 + (n % 5)) (0 : UInt8)).length from ⟨rfl, (by have := of_decide_eq_true hb1; have := hn; have := List.length_replicate (n := 399998 + (n % 5)) (a := (0 : UInt8)); have := hi; omega)⟩)).1 ((show ((i : Nat) : Int) = ((i : Nat) : Int) ∧ i < (List.replicate (399998 + (n % 5)) (0 : UInt8)).length from ⟨rfl, (by have := of_decide_eq_true hb1; have := hn; have := List.length_replicate (n := 399998 + (n % 5)) (a := (0 : UInt8)); have := hi; omega)⟩)).2 w)
  · exact o_st 3 0 5 (fun _ => nb ρ3 4) (fun _ => i) (fun _ => C) (fun _ => (C.setIfInBounds i (.int .u8 102))) 5 (fun _ => (.int .u8 102)) (fun _ => by as_aux_lemma => kernel_rfl) Try.sizeOf5 (fun _ => rfl) (fun _ => (by rw [hC, lim_size hi]; have := of_decide_eq_true hb1; have := hn; have := List.length_replicate (n := 399998 + (n % 5)) (a := (0 : UInt8)); have := hi; omega)) (fun _ => rfl)
theorem codecLimits_any_r8 (n : Nat) (hn : n < 256) (i : Nat) (C : Array Value) (hi : i ≤ 399998 + (n % 5)) (hb1 : (decide (((i : Nat) : Int) < (((List.replicate (399998 + (n % 5)) (0 : UInt8)).length : Nat) : Int))) = true) (ρ3 : Nat → Orc) (w0 : World) (F : World → Prop) : Reg Try.prog 8 (regOps Try.f10 8) false 62 [(2, (.bool false)), (3, (.slice (some ⟨nb ρ3 4, 0, none⟩) (List.replicate (399998 + (n % 5)) (0 : UInt8)).length (399998 + (n % 5)))), (15, (.int .i64 (((List.replicate (399998 + (n % 5)) (0 : UInt8)).length : Nat) : Int))), (16, (.int .i64 ((i : Nat) : Int)))] w0 [(nb ρ3 4, (.cells (C.setIfInBounds i (.int .u8 102)) 5 (0, 0)))] F
    (fun _ => [(2, (.bool false)), (3, (.slice (some ⟨nb ρ3 4, 0, none⟩) (List.replicate (399998 + (n % 5)) (0 : UInt8)).length (399998 + (n % 5)))), (15, (.int .i64 (((List.replicate (399998 + (n % 5)) (0 : UInt8)).length : Nat) : Int))), (16, (.int .i64 ((i + 1 : Nat) : Int)))])
    (fun _ => [(nb ρ3 4, (.cells (C.setIfInBounds i (.int .u8 102)) 5 (0, 0)))]) := by
  refine reg_seq [0, 1] [2, 3, 15, 16] 2
    (fun _ ι => ([(.int .i64 ((i + 1 : Nat) : Int)), (.int .i64 ((i + 1 : Nat) : Int))] : List Value).getD ι undef)
    (fun _ ι => ([{}, {}] : List Eff).getD ι {})
    (by as_aux_lemma => kernel_rfl) (by as_aux_lemma => kernel_rfl) (fun _ => by as_aux_lemma => kernel_rfl) (fun _ => by as_aux_lemma => kernel_rfl) ⟨⟨trivial, ?_⟩, ?_⟩
  · exact o_as 0 (fun _ => (.int .i64 (IntKind.i64.wrap (((i : Nat) : Int) + 1)))) (fun _ => (.int .i64 ((i + 1 : Nat) : Int))) (fun _ _ => by as_aux_lemma => kernel_rfl) (fun _ => congrArg (Value.int .i64) (wrap_addN i 1 (by have := of_decide_eq_true hb1; have := hn; have := List.length_replicate (n := 399998 + (n % 5)) (a := (0 : UInt8)); have := hi; omega)))
  · exact o_run 1 [] [] (fun _ _ => []) (fun _ _ => by as_aux_lemma => kernel_rfl)
theorem codecLimits_any_r9 (n : Nat) (i : Nat) (C : Array Value) (hi : i ≤ 399998 + (n % 5)) (hC : C = limC (399998 + (n % 5)) i) (ρ3 : Nat → Orc) (w0 : World) : RegF Try.prog 9 (regOps Try.f10 9) false 62 [(2, (.bool false)), (3, (.slice (some ⟨nb ρ3 4, 0, none⟩) (List.replicate (399998 + (n % 5)) (0 : UInt8)).length (399998 + (n % 5)))), (15, (.int .i64 (((List.replicate (399998 + (n % 5)) (0 : UInt8)).length : Nat) : Int))), (16, (.int .i64 ((i : Nat) : Int))), (17, (.bool false))] w0 [(nb ρ3 4, (.cells C 5 (0, 0)))] (fun _ => True)
    (fun ρ => [(2, (.bool false)), (3, (.slice (some ⟨nb ρ3 4, 0, none⟩) (List.replicate (399998 + (n % 5)) (0 : UInt8)).length (399998 + (n % 5)))), (5, (.slice (oa ρ 2) (uhX (List.replicate i (102 : UInt8) ++ List.replicate (399998 + (n % 5) - i) (0 : UInt8))).length (nb ρ 2))), (6, (.int .i64 (uhE (List.replicate i (102 : UInt8) ++ List.replicate (399998 + (n % 5) - i) (0 : UInt8)))))])
    (fun _ => [(nb ρ3 4, (.cells C 5 (0, 0)))]) (fun ρ => (fun w => Fs w0 w (oa ρ 2) (nb ρ 2) (uhX (List.replicate i (102 : UInt8) ++ List.replicate (399998 + (n % 5) - i) (0 : UInt8))) ∧ True)) := by
  refine reg_seq_f [0, 1, 3, 7, 15, 31, 63, 127] [2, 3, 5, 6] 8
    (fun ρ ι => ([(.slice (some ⟨nb ρ3 4, 0, none⟩) (List.replicate (399998 + (n % 5)) (0 : UInt8)).length (399998 + (n % 5))), (.string (strB (List.replicate i (102 : UInt8) ++ List.replicate (399998 + (n % 5) - i) (0 : UInt8)))), (.tuple #[(.slice (oa ρ 2) (uhX (List.replicate i (102 : UInt8) ++ List.replicate (399998 + (n % 5) - i) (0 : UInt8))).length (nb ρ 2)), (.int .i64 (uhE (List.replicate i (102 : UInt8) ++ List.replicate (399998 + (n % 5) - i) (0 : UInt8))))]), (.tuple #[(.slice (oa ρ 2) (uhX (List.replicate i (102 : UInt8) ++ List.replicate (399998 + (n % 5) - i) (0 : UInt8))).length (nb ρ 2)), (.int .i64 (uhE (List.replicate i (102 : UInt8) ++ List.replicate (399998 + (n % 5) - i) (0 : UInt8))))]), (.slice (oa ρ 2) (uhX (List.replicate i (102 : UInt8) ++ List.replicate (399998 + (n % 5) - i) (0 : UInt8))).length (nb ρ 2)), (.int .i64 (uhE (List.replicate i (102 : UInt8) ++ List.replicate (399998 + (n % 5) - i) (0 : UInt8)))), (.slice (oa ρ 2) (uhX (List.replicate i (102 : UInt8) ++ List.replicate (399998 + (n % 5) - i) (0 : UInt8))).length (nb ρ 2)), (.int .i64 (uhE (List.replicate i (102 : UInt8) ++ List.replicate (399998 + (n % 5) - i) (0 : UInt8))))] : List Value).getD ι undef)
    (fun _ ι => ([{}, {}, {}, {}, {}, {}, {}, {}] : List Eff).getD ι {})
    (fun ρ ι => ([(fun _ => True), (fun _ => True), (fun w => Fs w0 w (oa ρ 2) (nb ρ 2) (uhX (List.replicate i (102 : UInt8) ++ List.replicate (399998 + (n % 5) - i) (0 : UInt8)))), (fun _ => True), (fun _ => True), (fun _ => True), (fun _ => True), (fun _ => True)] : List (World → Prop)).getD ι (fun _ => True))
    (by as_aux_lemma => kernel_rfl) (by as_aux_lemma => kernel_rfl) (fun _ => by as_aux_lemma => kernel_rfl) (fun _ => by as_aux_lemma => kernel_rfl) (fun _ _ _ hf => ⟨hf 2 (by omega), trivial⟩) ⟨⟨⟨⟨⟨⟨⟨⟨trivial, ?_⟩, ?_⟩, ?_⟩, ?_⟩, ?_⟩, ?_⟩, ?_⟩, ?_⟩
  · exact Obl.brings (o_run 0 [] [] (fun _ _ => []) (fun _ _ => by as_aux_lemma => kernel_rfl)) (fun _ _ => trivial)
  · exact o_semF 1 (fun _ => do pure (Next.value (← convert 22 9 (.slice (some ⟨nb ρ3 4, 0, none⟩) (List.replicate (399998 + (n % 5)) (0 : UInt8)).length (399998 + (n % 5)))))) (fun _ => (.string (strB (List.replicate i (102 : UInt8) ++ List.replicate (399998 + (n % 5) - i) (0 : UInt8))))) (fun _ => (by as_aux_lemma => kernel_rfl)) (fun _ => (by as_aux_lemma => kernel_rfl)) (fun _ _ _ hG => str_bytes (xs := List.replicate i (102 : UInt8) ++ List.replicate (399998 + (n % 5) - i) (0 : UInt8)) Try.underlying22 Try.underlying5 Try.underlying9 (Bs.of_hd (hG.known (g := nb ρ3 4) (o := (.cells C 5 (0, 0))) 0 (by as_aux_lemma => kernel_rfl) (by as_aux_lemma => kernel_rfl)) (by rw [hC]; exact Hd.all _) (by have := hi; simp only [List.length_append, List.length_replicate]; omega) (by have := hi; simp only [List.length_append, List.length_replicate]; omega)) (by have := hi; simp only [List.length_append, List.length_replicate]; omega)) (fun _ _ _ _ => persT)
  · exact o_callB 2 42 (fun _ => #[(.string (strB (List.replicate i (102 : UInt8) ++ List.replicate (399998 + (n % 5) - i) (0 : UInt8))))]) (fun _ α κ => (.tuple #[(.slice α (uhX (List.replicate i (102 : UInt8) ++ List.replicate (399998 + (n % 5) - i) (0 : UInt8))).length κ), (.int .i64 (uhE (List.replicate i (102 : UInt8) ++ List.replicate (399998 + (n % 5) - i) (0 : UInt8))))])) (fun _ => uhX (List.replicate i (102 : UInt8) ++ List.replicate (399998 + (n % 5) - i) (0 : UInt8))) (fun _ _ => (by as_aux_lemma => kernel_rfl)) (fun _ _ => (by as_aux_lemma => kernel_rfl)) (fun _ _ => (by as_aux_lemma => kernel_rfl)) (fun _ _ => (by as_aux_lemma => kernel_rfl)) (fun _ _ w _ => unhex_any (List.replicate i (102 : UInt8) ++ List.replicate (399998 + (n % 5) - i) (0 : UInt8)) w )
  · exact Obl.brings (o_run 3 [] [] (fun _ _ => []) (fun _ _ => by as_aux_lemma => kernel_rfl)) (fun _ _ => trivial)
  · exact Obl.brings (o_run 4 [] [] (fun _ _ => []) (fun _ _ => by as_aux_lemma => kernel_rfl)) (fun _ _ => trivial)
  · exact Obl.brings (o_run 5 [] [] (fun _ _ => []) (fun _ _ => by as_aux_lemma => kernel_rfl)) (fun _ _ => trivial)
  · exact Obl.brings (o_run 6 [] [] (fun _ _ => []) (fun _ _ => by as_aux_lemma => kernel_rfl)) (fun _ _ => trivial)
  · exact Obl.brings (o_run 7 [] [] (fun _ _ => []) (fun _ _ => by as_aux_lemma => kernel_rfl)) (fun _ _ => trivial)
theorem codecLimits_any_r10 (n : Nat) (i : Nat) (C : Array Value) (ρ3 : Nat → Orc) (ρ9 : Nat → Orc) (w0 : World) (F : World → Prop) : Reg Try.prog 10 (regOps Try.f10 10) false 62 [(2, (.bool false)), (3, (.slice (some ⟨nb ρ3 4, 0, none⟩) (List.replicate (399998 + (n % 5)) (0 : UInt8)).length (399998 + (n % 5)))), (5, (.slice (oa ρ9 2) (uhX (List.replicate i (102 : UInt8) ++ List.replicate (399998 + (n % 5) - i) (0 : UInt8))).length (nb ρ9 2))), (6, (.int .i64 (uhE (List.replicate i (102 : UInt8) ++ List.replicate (399998 + (n % 5) - i) (0 : UInt8)))))] w0 [(nb ρ3 4, (.cells C 5 (0, 0)))] F
    (fun _ => [(2, (.bool false)), (3, (.slice (some ⟨nb ρ3 4, 0, none⟩) (List.replicate (399998 + (n % 5)) (0 : UInt8)).length (399998 + (n % 5)))), (5, (.slice (oa ρ9 2) (uhX (List.replicate i (102 : UInt8) ++ List.replicate (399998 + (n % 5) - i) (0 : UInt8))).length (nb ρ9 2))), (6, (.int .i64 (uhE (List.replicate i (102 : UInt8) ++ List.replicate (399998 + (n % 5) - i) (0 : UInt8))))), (29, (.bool (decide (400000 < (((List.replicate (399998 + (n % 5)) (0 : UInt8)).length : Nat) : Int)))))])
    (fun _ => [(nb ρ3 4, (.cells C 5 (0, 0)))]) := by
  refine reg_seq [0, 1, 3, 7] [2, 3, 5, 6, 29] 4
    (fun _ ι => ([(.slice (some ⟨nb ρ3 4, 0, none⟩) (List.replicate (399998 + (n % 5)) (0 : UInt8)).length (399998 + (n % 5))), (.int .i64 (((List.replicate (399998 + (n % 5)) (0 : UInt8)).length : Nat) : Int)), (.bool (decide (400000 < (((List.replicate (399998 + (n % 5)) (0 : UInt8)).length : Nat) : Int)))), (.bool (decide (400000 < (((List.replicate (399998 + (n % 5)) (0 : UInt8)).length : Nat) : Int))))] : List Value).getD ι undef)
    (fun _ ι => ([{}, {}, {}, {}] : List Eff).getD ι {})
    (by as_aux_lemma => kernel_rfl) (by as_aux_lemma => kernel_rfl) (fun _ => by as_aux_lemma => kernel_rfl) (fun _ => by as_aux_lemma => kernel_rfl) ⟨⟨⟨⟨trivial, ?_⟩, ?_⟩, ?_⟩, ?_⟩
  · exact o_run 0 [] [] (fun _ _ => []) (fun _ _ => by as_aux_lemma => kernel_rfl)
  · exact o_run 1 [] [] (fun _ _ => []) (fun _ _ => by as_aux_lemma => kernel_rfl)
  · exact o_run 2 [] [] (fun _ _ => []) (fun _ _ => by as_aux_lemma => kernel_rfl)
  · exact o_run 3 [] [] (fun _ _ => []) (fun _ _ => by as_aux_lemma => kernel_rfl)
theorem codecLimits_any_r11 (n : Nat) (hn : n < 256) (i : Nat) (C : Array Value) (hi : i ≤ 399998 + (n % 5)) (hb1 : (decide (((i : Nat) : Int) < (((List.replicate (399998 + (n % 5)) (0 : UInt8)).length : Nat) : Int))) = false) (hb2 : (decide (400000 < (((List.replicate (399998 + (n % 5)) (0 : UInt8)).length : Nat) : Int))) = true) (ρ3 : Nat → Orc) (ρ9 : Nat → Orc) (w0 : World) (F : World → Prop) : Reg Try.prog 11 (regOps Try.f10 11) false 62 [(2, (.bool false)), (3, (.slice (some ⟨nb ρ3 4, 0, none⟩) (List.replicate (399998 + (n % 5)) (0 : UInt8)).length (399998 + (n % 5)))), (5, (.slice (oa ρ9 2) (uhX (List.replicate i (102 : UInt8) ++ List.replicate (399998 + (n % 5) - i) (0 : UInt8))).length (nb ρ9 2))), (6, (.int .i64 (uhE (List.replicate i (102 : UInt8) ++ List.replicate (399998 + (n % 5) - i) (0 : UInt8))))), (29, (.bool true))] w0 [(nb ρ3 4, (.cells C 5 (0, 0)))] F
    (fun _ => [(2, (.bool true)), (3, (.slice (some ⟨nb ρ3 4, 0, none⟩) (List.replicate (399998 + (n % 5)) (0 : UInt8)).length (399998 + (n % 5)))), (5, (.slice (oa ρ9 2) (uhX (List.replicate i (102 : UInt8) ++ List.replicate (399998 + (n % 5) - i) (0 : UInt8))).length (nb ρ9 2))), (6, (.int .i64 (uhE (List.replicate i (102 : UInt8) ++ List.replicate (399998 + (n % 5) - i) (0 : UInt8)))))])
    (fun _ => [(nb ρ3 4, (.cells C 5 (0, 0)))]) := by
  refine reg_seq [0, 1, 3, 7, 15, 31, 63, 127] [2, 3, 5, 6] 8
    (fun _ ι => ([(.int .i64 (uhE (List.replicate i (102 : UInt8) ++ List.replicate (399998 + (n % 5) - i) (0 : UInt8)))), (.bool true), (.bool true), (.slice (oa ρ9 2) (uhX (List.replicate i (102 : UInt8) ++ List.replicate (399998 + (n % 5) - i) (0 : UInt8))).length (nb ρ9 2)), (.int .i64 (((uhX (List.replicate i (102 : UInt8) ++ List.replicate (399998 + (n % 5) - i) (0 : UInt8))).length : Nat) : Int)), (.bool true), (.bool true), (.bool true)] : List Value).getD ι undef)
    (fun _ ι => ([{}, {}, {}, {}, {}, {}, {}, {}] : List Eff).getD ι {})
    (by as_aux_lemma => kernel_rfl) (by as_aux_lemma => kernel_rfl) (fun _ => by as_aux_lemma => kernel_rfl) (fun _ => by as_aux_lemma => kernel_rfl) ⟨⟨⟨⟨⟨⟨⟨⟨trivial, ?_⟩, ?_⟩, ?_⟩, ?_⟩, ?_⟩, ?_⟩, ?_⟩, ?_⟩
  · exact o_run 0 [] [] (fun _ _ => []) (fun _ _ => by as_aux_lemma => kernel_rfl)
  · exact o_as 1 (fun _ => (.bool ((uhE (List.replicate i (102 : UInt8) ++ List.replicate (399998 + (n % 5) - i) (0 : UInt8))) == 4))) (fun _ => (.bool true)) (fun _ _ => by as_aux_lemma => kernel_rfl) (fun _ => congrArg Value.bool (by rw [lim_end (show i = 399998 + (n % 5) by have := of_decide_eq_false hb1; have := of_decide_eq_true hb2; have := hn; have := List.length_replicate (n := 399998 + (n % 5)) (a := (0 : UInt8)); have := hi; omega), (lim4 (by have := of_decide_eq_false hb1; have := of_decide_eq_true hb2; have := hn; have := List.length_replicate (n := 399998 + (n % 5)) (a := (0 : UInt8)); have := hi; omega)).2]; rfl))
  · exact o_run 2 [] [] (fun _ _ => []) (fun _ _ => by as_aux_lemma => kernel_rfl)
  · exact o_run 3 [] [] (fun _ _ => []) (fun _ _ => by as_aux_lemma => kernel_rfl)
  · exact o_run 4 [] [] (fun _ _ => []) (fun _ _ => by as_aux_lemma => kernel_rfl)
  · exact o_as 5 (fun _ => (.bool ((((uhX (List.replicate i (102 : UInt8) ++ List.replicate (399998 + (n % 5) - i) (0 : UInt8))).length : Nat) : Int) == 0))) (fun _ => (.bool true)) (fun _ _ => by as_aux_lemma => kernel_rfl) (fun _ => congrArg Value.bool (by rw [lim_end (show i = 399998 + (n % 5) by have := of_decide_eq_false hb1; have := of_decide_eq_true hb2; have := hn; have := List.length_replicate (n := 399998 + (n % 5)) (a := (0 : UInt8)); have := hi; omega), (lim4 (by have := of_decide_eq_false hb1; have := of_decide_eq_true hb2; have := hn; have := List.length_replicate (n := 399998 + (n % 5)) (a := (0 : UInt8)); have := hi; omega)).1]; rfl))
  · exact o_run 6 [] [] (fun _ _ => []) (fun _ _ => by as_aux_lemma => kernel_rfl)
  · exact o_run 7 [] [] (fun _ _ => []) (fun _ _ => by as_aux_lemma => kernel_rfl)
theorem codecLimits_any_r12 (n : Nat) (i : Nat) (C : Array Value) (ρ3 : Nat → Orc) (ρ9 : Nat → Orc) (w0 : World) (F : World → Prop) : Reg Try.prog 12 (regOps Try.f10 12) false 62 [(2, (.bool false)), (3, (.slice (some ⟨nb ρ3 4, 0, none⟩) (List.replicate (399998 + (n % 5)) (0 : UInt8)).length (399998 + (n % 5)))), (5, (.slice (oa ρ9 2) (uhX (List.replicate i (102 : UInt8) ++ List.replicate (399998 + (n % 5) - i) (0 : UInt8))).length (nb ρ9 2))), (6, (.int .i64 (uhE (List.replicate i (102 : UInt8) ++ List.replicate (399998 + (n % 5) - i) (0 : UInt8))))), (29, (.bool false))] w0 [(nb ρ3 4, (.cells C 5 (0, 0)))] F
    (fun _ => [(2, (.bool false)), (3, (.slice (some ⟨nb ρ3 4, 0, none⟩) (List.replicate (399998 + (n % 5)) (0 : UInt8)).length (399998 + (n % 5)))), (5, (.slice (oa ρ9 2) (uhX (List.replicate i (102 : UInt8) ++ List.replicate (399998 + (n % 5) - i) (0 : UInt8))).length (nb ρ9 2))), (6, (.int .i64 (uhE (List.replicate i (102 : UInt8) ++ List.replicate (399998 + (n % 5) - i) (0 : UInt8))))), (40, (.bool (((((List.replicate (399998 + (n % 5)) (0 : UInt8)).length) % 2 : Nat) : Int) == 1)))])
    (fun _ => [(nb ρ3 4, (.cells C 5 (0, 0)))]) := by
  refine reg_seq [0, 1, 3, 7, 15] [2, 3, 5, 6, 40] 5
    (fun _ ι => ([(.slice (some ⟨nb ρ3 4, 0, none⟩) (List.replicate (399998 + (n % 5)) (0 : UInt8)).length (399998 + (n % 5))), (.int .i64 (((List.replicate (399998 + (n % 5)) (0 : UInt8)).length : Nat) : Int)), (.int .i64 ((((List.replicate (399998 + (n % 5)) (0 : UInt8)).length) % 2 : Nat) : Int)), (.bool (((((List.replicate (399998 + (n % 5)) (0 : UInt8)).length) % 2 : Nat) : Int) == 1)), (.bool (((((List.replicate (399998 + (n % 5)) (0 : UInt8)).length) % 2 : Nat) : Int) == 1))] : List Value).getD ι undef)
    (fun _ ι => ([{}, {}, {}, {}, {}] : List Eff).getD ι {})
    (by as_aux_lemma => kernel_rfl) (by as_aux_lemma => kernel_rfl) (fun _ => by as_aux_lemma => kernel_rfl) (fun _ => by as_aux_lemma => kernel_rfl) ⟨⟨⟨⟨⟨trivial, ?_⟩, ?_⟩, ?_⟩, ?_⟩, ?_⟩
  · exact o_run 0 [] [] (fun _ _ => []) (fun _ _ => by as_aux_lemma => kernel_rfl)
  · exact o_run 1 [] [] (fun _ _ => []) (fun _ _ => by as_aux_lemma => kernel_rfl)
  · exact o_bin 2 .rem 3 (fun _ => (.int .i64 (((List.replicate (399998 + (n % 5)) (0 : UInt8)).length : Nat) : Int))) (fun _ => (.int .i64 2)) (fun _ => (.int .i64 ((((List.replicate (399998 + (n % 5)) (0 : UInt8)).length) % 2 : Nat) : Int))) (fun _ => by as_aux_lemma => kernel_rfl) (fun _ _ _ _ => by as_aux_lemma => kernel_rfl) (fun _ w => run_remU (k := .i64) (n := ((List.replicate (399998 + (n % 5)) (0 : UInt8)).length)) (d := 2) (by decide) w)
  · exact o_run 3 [] [] (fun _ _ => []) (fun _ _ => by as_aux_lemma => kernel_rfl)
  · exact o_run 4 [] [] (fun _ _ => []) (fun _ _ => by as_aux_lemma => kernel_rfl)
theorem codecLimits_any_r13 (n : Nat) (hn : n < 256) (i : Nat) (C : Array Value) (hi : i ≤ 399998 + (n % 5)) (hb1 : (decide (((i : Nat) : Int) < (((List.replicate (399998 + (n % 5)) (0 : UInt8)).length : Nat) : Int))) = false) (hb2 : (decide (400000 < (((List.replicate (399998 + (n % 5)) (0 : UInt8)).length : Nat) : Int))) = false) (hb3 : (((((List.replicate (399998 + (n % 5)) (0 : UInt8)).length) % 2 : Nat) : Int) == 1) = true) (ρ3 : Nat → Orc) (ρ9 : Nat → Orc) (w0 : World) (F : World → Prop) : Reg Try.prog 13 (regOps Try.f10 13) false 62 [(2, (.bool false)), (3, (.slice (some ⟨nb ρ3 4, 0, none⟩) (List.replicate (399998 + (n % 5)) (0 : UInt8)).length (399998 + (n % 5)))), (5, (.slice (oa ρ9 2) (uhX (List.replicate i (102 : UInt8) ++ List.replicate (399998 + (n % 5) - i) (0 : UInt8))).length (nb ρ9 2))), (6, (.int .i64 (uhE (List.replicate i (102 : UInt8) ++ List.replicate (399998 + (n % 5) - i) (0 : UInt8))))), (40, (.bool true))] w0 [(nb ρ3 4, (.cells C 5 (0, 0)))] F
    (fun _ => [(2, (.bool true)), (3, (.slice (some ⟨nb ρ3 4, 0, none⟩) (List.replicate (399998 + (n % 5)) (0 : UInt8)).length (399998 + (n % 5)))), (5, (.slice (oa ρ9 2) (uhX (List.replicate i (102 : UInt8) ++ List.replicate (399998 + (n % 5) - i) (0 : UInt8))).length (nb ρ9 2))), (6, (.int .i64 (uhE (List.replicate i (102 : UInt8) ++ List.replicate (399998 + (n % 5) - i) (0 : UInt8)))))])
    (fun _ => [(nb ρ3 4, (.cells C 5 (0, 0)))]) := by
  refine reg_seq [0, 1, 3, 7, 15, 31, 63, 127] [2, 3, 5, 6] 8
    (fun _ ι => ([(.int .i64 (uhE (List.replicate i (102 : UInt8) ++ List.replicate (399998 + (n % 5) - i) (0 : UInt8)))), (.bool true), (.bool true), (.slice (oa ρ9 2) (uhX (List.replicate i (102 : UInt8) ++ List.replicate (399998 + (n % 5) - i) (0 : UInt8))).length (nb ρ9 2)), (.int .i64 (((uhX (List.replicate i (102 : UInt8) ++ List.replicate (399998 + (n % 5) - i) (0 : UInt8))).length : Nat) : Int)), (.bool true), (.bool true), (.bool true)] : List Value).getD ι undef)
    (fun _ ι => ([{}, {}, {}, {}, {}, {}, {}, {}] : List Eff).getD ι {})
    (by as_aux_lemma => kernel_rfl) (by as_aux_lemma => kernel_rfl) (fun _ => by as_aux_lemma => kernel_rfl) (fun _ => by as_aux_lemma => kernel_rfl) ⟨⟨⟨⟨⟨⟨⟨⟨trivial, ?_⟩, ?_⟩, ?_⟩, ?_⟩, ?_⟩, ?_⟩, ?_⟩, ?_⟩
  · exact o_run 0 [] [] (fun _ _ => []) (fun _ _ => by as_aux_lemma => kernel_rfl)
  · exact o_as 1 (fun _ => (.bool ((uhE (List.replicate i (102 : UInt8) ++ List.replicate (399998 + (n % 5) - i) (0 : UInt8))) == 7))) (fun _ => (.bool true)) (fun _ _ => by as_aux_lemma => kernel_rfl) (fun _ => congrArg Value.bool (by rw [lim_end (show i = 399998 + (n % 5) by have := of_decide_eq_false hb1; have := of_decide_eq_false hb2; have := hn; have := List.length_replicate (n := 399998 + (n % 5)) (a := (0 : UInt8)); have := hi; have := eqN (k := 1) hb3; omega), (lim7 (by have := of_decide_eq_false hb1; have := of_decide_eq_false hb2; have := hn; have := List.length_replicate (n := 399998 + (n % 5)) (a := (0 : UInt8)); have := hi; have := eqN (k := 1) hb3; omega) (by have := of_decide_eq_false hb1; have := of_decide_eq_false hb2; have := hn; have := List.length_replicate (n := 399998 + (n % 5)) (a := (0 : UInt8)); have := hi; have := eqN (k := 1) hb3; omega)).2]; rfl))
  · exact o_run 2 [] [] (fun _ _ => []) (fun _ _ => by as_aux_lemma => kernel_rfl)
  · exact o_run 3 [] [] (fun _ _ => []) (fun _ _ => by as_aux_lemma => kernel_rfl)
  · exact o_run 4 [] [] (fun _ _ => []) (fun _ _ => by as_aux_lemma => kernel_rfl)
  · exact o_as 5 (fun _ => (.bool ((((uhX (List.replicate i (102 : UInt8) ++ List.replicate (399998 + (n % 5) - i) (0 : UInt8))).length : Nat) : Int) == 0))) (fun _ => (.bool true)) (fun _ _ => by as_aux_lemma => kernel_rfl) (fun _ => congrArg Value.bool (by rw [lim_end (show i = 399998 + (n % 5) by have := of_decide_eq_false hb1; have := of_decide_eq_false hb2; have := hn; have := List.length_replicate (n := 399998 + (n % 5)) (a := (0 : UInt8)); have := hi; have := eqN (k := 1) hb3; omega), (lim7 (by have := of_decide_eq_false hb1; have := of_decide_eq_false hb2; have := hn; have := List.length_replicate (n := 399998 + (n % 5)) (a := (0 : UInt8)); have := hi; have := eqN (k := 1) hb3; omega) (by have := of_decide_eq_false hb1; have := of_decide_eq_false hb2; have := hn; have := List.length_replicate (n := 399998 + (n % 5)) (a := (0 : UInt8)); have := hi; have := eqN (k := 1) hb3; omega)).1]; rfl))
  · exact o_run 6 [] [] (fun _ _ => []) (fun _ _ => by as_aux_lemma => kernel_rfl)
  · exact o_run 7 [] [] (fun _ _ => []) (fun _ _ => by as_aux_lemma => kernel_rfl)
theorem codecLimits_any_r14 (n : Nat) (hn : n < 256) (i : Nat) (C : Array Value) (hi : i ≤ 399998 + (n % 5)) (hb1 : (decide (((i : Nat) : Int) < (((List.replicate (399998 + (n % 5)) (0 : UInt8)).length : Nat) : Int))) = false) (hb2 : (decide (400000 < (((List.replicate (399998 + (n % 5)) (0 : UInt8)).length : Nat) : Int))) = false) (hb3 : (((((List.replicate (399998 + (n % 5)) (0 : UInt8)).length) % 2 : Nat) : Int) == 1) = false) (ρ3 : Nat → Orc) (ρ9 : Nat → Orc) (w0 : World) (F : World → Prop) : Reg Try.prog 14 (regOps Try.f10 14) false 62 [(2, (.bool false)), (3, (.slice (some ⟨nb ρ3 4, 0, none⟩) (List.replicate (399998 + (n % 5)) (0 : UInt8)).length (399998 + (n % 5)))), (5, (.slice (oa ρ9 2) (uhX (List.replicate i (102 : UInt8) ++ List.replicate (399998 + (n % 5) - i) (0 : UInt8))).length (nb ρ9 2))), (6, (.int .i64 (uhE (List.replicate i (102 : UInt8) ++ List.replicate (399998 + (n % 5) - i) (0 : UInt8))))), (40, (.bool false))] w0 [(nb ρ3 4, (.cells C 5 (0, 0)))] F
    (fun _ => [(2, (.bool true))])
    (fun _ => [(nb ρ3 4, (.cells C 5 (0, 0)))]) := by
  refine reg_seq [0, 1, 3, 7, 15, 31, 63, 127, 255, 511, 1023] [2] 11
    (fun _ ι => ([(.int .i64 (uhE (List.replicate i (102 : UInt8) ++ List.replicate (399998 + (n % 5) - i) (0 : UInt8)))), (.bool true), (.bool true), (.slice (oa ρ9 2) (uhX (List.replicate i (102 : UInt8) ++ List.replicate (399998 + (n % 5) - i) (0 : UInt8))).length (nb ρ9 2)), (.int .i64 (((uhX (List.replicate i (102 : UInt8) ++ List.replicate (399998 + (n % 5) - i) (0 : UInt8))).length : Nat) : Int)), (.slice (some ⟨nb ρ3 4, 0, none⟩) (List.replicate (399998 + (n % 5)) (0 : UInt8)).length (399998 + (n % 5))), (.int .i64 (((List.replicate (399998 + (n % 5)) (0 : UInt8)).length : Nat) : Int)), (.int .i64 ((((List.replicate (399998 + (n % 5)) (0 : UInt8)).length) / 2 : Nat) : Int)), (.bool true), (.bool true), (.bool true)] : List Value).getD ι undef)
    (fun _ ι => ([{}, {}, {}, {}, {}, {}, {}, {}, {}, {}, {}] : List Eff).getD ι {})
    (by as_aux_lemma => kernel_rfl) (by as_aux_lemma => kernel_rfl) (fun _ => by as_aux_lemma => kernel_rfl) (fun _ => by as_aux_lemma => kernel_rfl) ⟨⟨⟨⟨⟨⟨⟨⟨⟨⟨⟨trivial, ?_⟩, ?_⟩, ?_⟩, ?_⟩, ?_⟩, ?_⟩, ?_⟩, ?_⟩, ?_⟩, ?_⟩, ?_⟩
  · exact o_run 0 [] [] (fun _ _ => []) (fun _ _ => by as_aux_lemma => kernel_rfl)
  · exact o_as 1 (fun _ => (.bool ((uhE (List.replicate i (102 : UInt8) ++ List.replicate (399998 + (n % 5) - i) (0 : UInt8))) == 0))) (fun _ => (.bool true)) (fun _ _ => by as_aux_lemma => kernel_rfl) (fun _ => congrArg Value.bool (by rw [lim_end (show i = 399998 + (n % 5) by have := of_decide_eq_false hb1; have := of_decide_eq_false hb2; have := hn; have := List.length_replicate (n := 399998 + (n % 5)) (a := (0 : UInt8)); have := hi; have := bneq1 hb3; omega), (lim0 (by have := of_decide_eq_false hb1; have := of_decide_eq_false hb2; have := hn; have := List.length_replicate (n := 399998 + (n % 5)) (a := (0 : UInt8)); have := hi; have := bneq1 hb3; omega) (by have := of_decide_eq_false hb1; have := of_decide_eq_false hb2; have := hn; have := List.length_replicate (n := 399998 + (n % 5)) (a := (0 : UInt8)); have := hi; have := bneq1 hb3; omega)).2]; rfl))
  · exact o_run 2 [] [] (fun _ _ => []) (fun _ _ => by as_aux_lemma => kernel_rfl)
  · exact o_run 3 [] [] (fun _ _ => []) (fun _ _ => by as_aux_lemma => kernel_rfl)
  · exact o_run 4 [] [] (fun _ _ => []) (fun _ _ => by as_aux_lemma => kernel_rfl)
  · exact o_run 5 [] [] (fun _ _ => []) (fun _ _ => by as_aux_lemma => kernel_rfl)
  · exact o_run 6 [] [] (fun _ _ => []) (fun _ _ => by as_aux_lemma => kernel_rfl)
  · exact o_bin 7 .quo 3 (fun _ => (.int .i64 (((List.replicate (399998 + (n % 5)) (0 : UInt8)).length : Nat) : Int))) (fun _ => (.int .i64 2)) (fun _ => (.int .i64 ((((List.replicate (399998 + (n % 5)) (0 : UInt8)).length) / 2 : Nat) : Int))) (fun _ => by as_aux_lemma => kernel_rfl) (fun _ _ _ _ => by as_aux_lemma => kernel_rfl) (fun _ w => run_quoI (n := ((List.replicate (399998 + (n % 5)) (0 : UInt8)).length)) (d := 2) (by decide) (by have := of_decide_eq_false hb1; have := of_decide_eq_false hb2; have := hn; have := List.length_replicate (n := 399998 + (n % 5)) (a := (0 : UInt8)); have := hi; have := bneq1 hb3; omega) w)
  · exact o_as 8 (fun _ => (.bool ((((uhX (List.replicate i (102 : UInt8) ++ List.replicate (399998 + (n % 5) - i) (0 : UInt8))).length : Nat) : Int) == ((((List.replicate (399998 + (n % 5)) (0 : UInt8)).length) / 2 : Nat) : Int)))) (fun _ => (.bool true)) (fun _ _ => by as_aux_lemma => kernel_rfl) (fun _ => congrArg Value.bool (by rw [lim_end (show i = 399998 + (n % 5) by have := of_decide_eq_false hb1; have := of_decide_eq_false hb2; have := hn; have := List.length_replicate (n := 399998 + (n % 5)) (a := (0 : UInt8)); have := hi; have := bneq1 hb3; omega), (lim0 (by have := of_decide_eq_false hb1; have := of_decide_eq_false hb2; have := hn; have := List.length_replicate (n := 399998 + (n % 5)) (a := (0 : UInt8)); have := hi; have := bneq1 hb3; omega) (by have := of_decide_eq_false hb1; have := of_decide_eq_false hb2; have := hn; have := List.length_replicate (n := 399998 + (n % 5)) (a := (0 : UInt8)); have := hi; have := bneq1 hb3; omega)).1, List.length_replicate]; exact beq_self_eq_true _))
  · exact o_run 9 [] [] (fun _ _ => []) (fun _ _ => by as_aux_lemma => kernel_rfl)
  · exact o_run 10 [] [] (fun _ _ => []) (fun _ _ => by as_aux_lemma => kernel_rfl)
theorem codecLimits_any (n : Nat) (hn : n < 256) (w0 : World) : Calls Try.prog 10 #[(.int .u8 ((n : Nat) : Int))] w0 (fun ε w' => ε = .returned (.bool true) ∧ Below w0.heap.size w0 w') := by
  refine Calls.of_ok (n := 62) (F := (fun _ => True)) Try.func10 rfl rfl rfl (by simp) persT ?_
  refine ok_seq_r (by as_aux_lemma => kernel_rfl) (codecLimits_any_r1 n _ _) (fun _ => ?_)
  refine ok_seq ?_
  refine ok_seq_r (by as_aux_lemma => kernel_rfl) (codecLimits_any_r2 n _ _) (fun _ => ?_)
  refine ok_no (by as_aux_lemma => kernel_rfl) ?_
  refine ok_skip ?_
  refine mt_then ?_
  refine ok_seq_rf (by as_aux_lemma => kernel_rfl) (codecLimits_any_r3 n hn _) (fun ρ3 => ?_)
  refine ok_seq ?_
  refine ok_seq_r (by as_aux_lemma => kernel_rfl) (codecLimits_any_r4 n ρ3 _ _) (fun _ => ?_)
  refine ok_block ?_
  refine ok_loop (σ := Nat × (Array Value)) (fun ⟨i, _⟩ => [(2, (.bool false)), (3, (.slice (some ⟨nb ρ3 4, 0, none⟩) (List.replicate (399998 + (n % 5)) (0 : UInt8)).length (399998 + (n % 5)))), (15, (.int .i64 (((List.replicate (399998 + (n % 5)) (0 : UInt8)).length : Nat) : Int))), (16, (.int .i64 ((i : Nat) : Int)))]) (fun ⟨_, C⟩ => [(nb ρ3 4, (.cells C 5 (0, 0)))]) (fun ⟨i, _⟩ => 399998 + (n % 5) - i)
    (fun ⟨i, C⟩ => (i ≤ 399998 + (n % 5)) ∧ (C = limC (399998 + (n % 5)) i)) (0, zB (399998 + (n % 5))) (⟨Nat.zero_le _, by simp [limC, zB]⟩) (by as_aux_lemma => kernel_rfl) (.cons_cons _ .slnil) ?_
  rintro ⟨i, C⟩ ⟨hi, hC⟩
  change Ok Try.prog _ _ 62 [(2, (.bool false)), (3, (.slice (some ⟨nb ρ3 4, 0, none⟩) (List.replicate (399998 + (n % 5)) (0 : UInt8)).length (399998 + (n % 5)))), (15, (.int .i64 (((List.replicate (399998 + (n % 5)) (0 : UInt8)).length : Nat) : Int))), (16, (.int .i64 ((i : Nat) : Int)))] _ [(nb ρ3 4, (.cells C 5 (0, 0)))] (fun _ => True)
  refine ok_seq_r (by as_aux_lemma => kernel_rfl) (codecLimits_any_r5 n i C ρ3 _ _) (fun _ => ?_)
  refine ok_seq ?_
  refine ok_cond (b := decide (((i : Nat) : Int) < (((List.replicate (399998 + (n % 5)) (0 : UInt8)).length : Nat) : Int))) (by as_aux_lemma => kernel_rfl) (fun hb1 => ?_) (fun hb1 => ?_)
  ·
    rw [hb1]
    refine ok_skip ?_
    refine mt_then ?_
    refine ok_seq ?_
    refine ok_block ?_
    refine ok_seq_r (by as_aux_lemma => kernel_rfl) (codecLimits_any_r6 n i C ρ3 _ _) (fun _ => ?_)
    refine ok_r (by as_aux_lemma => kernel_rfl) (codecLimits_any_r7 n hn i C hi hC hb1 ρ3 _ _) (fun _ => ?_)
    refine mt_block_n ?_
    refine mt_then ?_
    refine ok_r (by as_aux_lemma => kernel_rfl) (codecLimits_any_r8 n hn i C hi hb1 ρ3 _ _) (fun _ => ?_)
    exact mt_round (i + 1, C.setIfInBounds i (.int .u8 102)) (by show 399998 + (n % 5) - (i + 1) < 399998 + (n % 5) - i; have := of_decide_eq_true hb1; have := hn; have := List.length_replicate (n := 399998 + (n % 5)) (a := (0 : UInt8)); have := hi; omega) (⟨(by have := of_decide_eq_true hb1; have := hn; have := List.length_replicate (n := 399998 + (n % 5)) (a := (0 : UInt8)); have := hi; omega), by rw [hC]; exact lim_set (by have := of_decide_eq_true hb1; have := hn; have := List.length_replicate (n := 399998 + (n % 5)) (a := (0 : UInt8)); have := hi; omega)⟩) (by as_aux_lemma => kernel_rfl) (.cons_cons _ .slnil)
  ·
    rw [hb1]
    refine ok_exit ?_
    refine mt_then_e ?_
    refine mt_then_e ?_
    refine mt_block_h ?_
    refine mt_then ?_
    refine ok_seq_rf (by as_aux_lemma => kernel_rfl) (codecLimits_any_r9 n i C hi hC ρ3 _) (fun ρ9 => ?_)
    refine ok_seq ?_
    refine ok_block ?_
    refine ok_seq_r (by as_aux_lemma => kernel_rfl) (codecLimits_any_r10 n i C ρ3 ρ9 _ _) (fun _ => ?_)
    refine ok_cond (b := decide (400000 < (((List.replicate (399998 + (n % 5)) (0 : UInt8)).length : Nat) : Int))) (by as_aux_lemma => kernel_rfl) (fun hb2 => ?_) (fun hb2 => ?_)
    ·
      rw [hb2]
      refine ok_seq_r (by as_aux_lemma => kernel_rfl) (codecLimits_any_r11 n hn i C hi hb1 hb2 ρ3 ρ9 _ _) (fun _ => ?_)
      refine ok_ret ?_
      refine mt_block_r ?_
      refine mt_then_r ?_
      exact meets_ret (v := (.bool true)) [] (dup []) (by as_aux_lemma => kernel_rfl) (by as_aux_lemma => kernel_rfl) (eqs_dup _) (fun _ hS => ⟨rfl, hS.below⟩)
    ·
      rw [hb2]
      refine ok_seq_r (by as_aux_lemma => kernel_rfl) (codecLimits_any_r12 n i C ρ3 ρ9 _ _) (fun _ => ?_)
      refine ok_cond (b := ((((List.replicate (399998 + (n % 5)) (0 : UInt8)).length) % 2 : Nat) : Int) == 1) (by as_aux_lemma => kernel_rfl) (fun hb3 => ?_) (fun hb3 => ?_)
      ·
        rw [hb3]
        refine ok_seq_r (by as_aux_lemma => kernel_rfl) (codecLimits_any_r13 n hn i C hi hb1 hb2 hb3 ρ3 ρ9 _ _) (fun _ => ?_)
        refine ok_ret ?_
        refine mt_block_r ?_
        refine mt_then_r ?_
        exact meets_ret (v := (.bool true)) [] (dup []) (by as_aux_lemma => kernel_rfl) (by as_aux_lemma => kernel_rfl) (eqs_dup _) (fun _ hS => ⟨rfl, hS.below⟩)
      ·
        rw [hb3]
        refine ok_skip ?_
        refine mt_block_n ?_
        refine mt_then ?_
        refine ok_seq_r (by as_aux_lemma => kernel_rfl) (codecLimits_any_r14 n hn i C hi hb1 hb2 hb3 ρ3 ρ9 _ _) (fun _ => ?_)
        refine ok_ret ?_
        exact meets_ret (v := (.bool true)) [] (dup []) (by as_aux_lemma => kernel_rfl) (by as_aux_lemma => kernel_rfl) (eqs_dup _) (fun _ hS => ⟨rfl, hS.below⟩)
end Go.Proofs.Ytclccfibfkcagaa
