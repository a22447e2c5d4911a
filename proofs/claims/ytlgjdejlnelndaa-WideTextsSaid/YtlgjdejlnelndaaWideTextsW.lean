/-
  The law WideTexts: the walk.
-/
import Derived.Test.YtlgjdejlnelndaaWParse
import Derived.Test.YtlgjdejlnelndaaSane
namespace Go.Proofs.Ytlgjdejlnelndaa
open Go Go.RowKit
set_option maxRecDepth 100000
theorem wideTexts_any_r1 (A : Nat) (S : List UInt8) (w0 : World) (F : World → Prop) : Reg Try.prog 0 (regOps Try.f8 0) false 54 [(0, (U A)), (1, (.string (strB S)))] w0 [] F
    (fun ρ => [(1, (.string (strB S))), (2, (pt (nb ρ 0))), (4, (.bool false))])
    (fun ρ => [(nb ρ 0, (.cells (cU A) 24 (0, 0)))]) := by
  refine reg_seq [0, 1] [1, 2, 4] 2
    (fun ρ ι => ([(pt (nb ρ 0)), (.bool false)] : List Value).getD ι undef)
    (fun ρ ι => ([{ news := [(nb ρ 0, (.cells (cU A) 24 (0, 0)))] }, {}] : List Eff).getD ι {})
    (by kernel_rfl) (by kernel_rfl) (fun _ => by kernel_rfl) (fun _ => by kernel_rfl) ⟨⟨trivial, ?_⟩, ?_⟩
  · exact o_run 0 [] [] (fun _ _ => []) (fun _ _ => by kernel_rfl)
  · exact o_run 1 [] [] (fun _ _ => []) (fun _ _ => by kernel_rfl)
theorem wideTexts_any_r2 (A : Nat) (S : List UInt8) (ρ1 : Nat → Orc) (w0 : World) (F : World → Prop) : Reg Try.prog 1 (regOps Try.f8 1) false 54 [(1, (.string (strB S))), (2, (pt (nb ρ1 0))), (4, (.bool false))] w0 [(nb ρ1 0, (.cells (cU A) 24 (0, 0)))] F
    (fun ρ => [(1, (.string (strB S))), (2, (pt (nb ρ1 0))), (4, (.bool false)), (5, (pt (nb ρ 5))), (6, (.int .i64 (parseE S)))])
    (fun ρ => [(nb ρ1 0, (.cells (cU A) 24 (0, 0))), (nb ρ 5, (.cells (cU (parseV S)) 24 (0, 0)))]) := by
  refine reg_seq [0, 1, 3, 7, 15, 31, 63, 127] [1, 2, 4, 5, 6] 8
    (fun ρ ι => ([(.string (strB S)), (.tuple #[(U (parseV S)), (.int .i64 (parseE S))]), (.tuple #[(U (parseV S)), (.int .i64 (parseE S))]), (U (parseV S)), (.int .i64 (parseE S)), (pt (nb ρ 5)), undef, (.int .i64 (parseE S))] : List Value).getD ι undef)
    (fun ρ ι => ([{}, {}, {}, {}, {}, { news := [(nb ρ 5, (.cells (cU 0) 24 (0, 0)))] }, { puts := [(41, (.cells (cU (parseV S)) 24 (0, 0)))] }, {}] : List Eff).getD ι {})
    (by kernel_rfl) (by kernel_rfl) (fun _ => by kernel_rfl) (fun _ => by kernel_rfl) ⟨⟨⟨⟨⟨⟨⟨⟨trivial, ?_⟩, ?_⟩, ?_⟩, ?_⟩, ?_⟩, ?_⟩, ?_⟩, ?_⟩
  · exact o_run 0 [] [] (fun _ _ => []) (fun _ _ => by kernel_rfl)
  · exact o_call 1 39 (fun _ => #[(.string (strB S))]) (fun _ => (.tuple #[(U (parseV S)), (.int .i64 (parseE S))])) (fun _ _ => by kernel_rfl) (fun _ w => (fun w => parse_any S w) w)
  · exact o_run 2 [] [] (fun _ _ => []) (fun _ _ => by kernel_rfl)
  · exact o_run 3 [] [] (fun _ _ => []) (fun _ _ => by kernel_rfl)
  · exact o_run 4 [] [] (fun _ _ => []) (fun _ _ => by kernel_rfl)
  · exact o_run 5 [] [] (fun _ _ => []) (fun _ _ => by kernel_rfl)
  · exact o_run 6 [41] [] (fun ρ _ => [nb ρ 5, nb ρ 5, nb ρ 5, nb ρ 5]) (fun _ _ => by kernel_rfl)
  · exact o_run 7 [] [] (fun _ _ => []) (fun _ _ => by kernel_rfl)
theorem wideTexts_any_r3 (A : Nat) (S : List UInt8) (ρ1 : Nat → Orc) (ρ2 : Nat → Orc) (w0 : World) (F : World → Prop) : Reg Try.prog 2 (regOps Try.f8 2) false 54 [(1, (.string (strB S))), (2, (pt (nb ρ1 0))), (4, (.bool false)), (5, (pt (nb ρ2 5))), (6, (.int .i64 (parseE S)))] w0 [(nb ρ1 0, (.cells (cU A) 24 (0, 0))), (nb ρ2 5, (.cells (cU (parseV S)) 24 (0, 0)))] F
    (fun ρ => [(2, (pt (nb ρ1 0))), (4, (.bool false)), (5, (pt (nb ρ2 5))), (6, (.int .i64 (parseE S))), (7, (pt (nb ρ 5))), (8, (.int .i64 (parseE S)))])
    (fun ρ => [(nb ρ1 0, (.cells (cU A) 24 (0, 0))), (nb ρ2 5, (.cells (cU (parseV S)) 24 (0, 0))), (nb ρ 5, (.cells (cU (parseV S)) 24 (0, 0)))]) := by
  refine reg_seq [0, 1, 3, 7, 15, 31, 63, 127] [2, 4, 5, 6, 7, 8] 8
    (fun ρ ι => ([(.string (strB S)), (.tuple #[(U (parseV S)), (.int .i64 (parseE S))]), (.tuple #[(U (parseV S)), (.int .i64 (parseE S))]), (U (parseV S)), (.int .i64 (parseE S)), (pt (nb ρ 5)), undef, (.int .i64 (parseE S))] : List Value).getD ι undef)
    (fun ρ ι => ([{}, {}, {}, {}, {}, { news := [(nb ρ 5, (.cells (cU 0) 24 (0, 0)))] }, { puts := [(42, (.cells (cU (parseV S)) 24 (0, 0)))] }, {}] : List Eff).getD ι {})
    (by kernel_rfl) (by kernel_rfl) (fun _ => by kernel_rfl) (fun _ => by kernel_rfl) ⟨⟨⟨⟨⟨⟨⟨⟨trivial, ?_⟩, ?_⟩, ?_⟩, ?_⟩, ?_⟩, ?_⟩, ?_⟩, ?_⟩
  · exact o_run 0 [] [] (fun _ _ => []) (fun _ _ => by kernel_rfl)
  · exact o_call 1 40 (fun _ => #[(.string (strB S))]) (fun _ => (.tuple #[(U (parseV S)), (.int .i64 (parseE S))])) (fun _ _ => by kernel_rfl) (fun _ w => (fun w => rparse_any S w) w)
  · exact o_run 2 [] [] (fun _ _ => []) (fun _ _ => by kernel_rfl)
  · exact o_run 3 [] [] (fun _ _ => []) (fun _ _ => by kernel_rfl)
  · exact o_run 4 [] [] (fun _ _ => []) (fun _ _ => by kernel_rfl)
  · exact o_run 5 [] [] (fun _ _ => []) (fun _ _ => by kernel_rfl)
  · exact o_run 6 [42] [] (fun ρ _ => [nb ρ 5, nb ρ 5, nb ρ 5, nb ρ 5]) (fun _ _ => by kernel_rfl)
  · exact o_run 7 [] [] (fun _ _ => []) (fun _ _ => by kernel_rfl)
theorem wideTexts_any_r4 (A : Nat) (S : List UInt8) (hA : A < M) (ρ1 : Nat → Orc) (ρ2 : Nat → Orc) (ρ3 : Nat → Orc) (w0 : World) (F : World → Prop) : Reg Try.prog 3 (regOps Try.f8 3) false 54 [(2, (pt (nb ρ1 0))), (4, (.bool false)), (5, (pt (nb ρ2 5))), (6, (.int .i64 (parseE S))), (7, (pt (nb ρ3 5))), (8, (.int .i64 (parseE S)))] w0 [(nb ρ1 0, (.cells (cU A) 24 (0, 0))), (nb ρ2 5, (.cells (cU (parseV S)) 24 (0, 0))), (nb ρ3 5, (.cells (cU (parseV S)) 24 (0, 0)))] F
    (fun ρ => [(2, (pt (nb ρ1 0))), (4, (.bool false)), (5, (pt (nb ρ2 5))), (6, (.int .i64 (parseE S))), (7, (pt (nb ρ3 5))), (8, (.int .i64 (parseE S))), (9, (pt (nb ρ 6))), (10, (.int .i64 0))])
    (fun ρ => [(nb ρ1 0, (.cells (cU A) 24 (0, 0))), (nb ρ2 5, (.cells (cU (parseV S)) 24 (0, 0))), (nb ρ3 5, (.cells (cU (parseV S)) 24 (0, 0))), (nb ρ 6, (.cells (cU A) 24 (0, 0)))]) := by
  refine reg_seq [0, 1, 3, 7, 15, 31, 63, 127, 255] [2, 4, 5, 6, 7, 8, 9, 10] 9
    (fun ρ ι => ([(U A), (.string (strB (decL A))), (.tuple #[(U A), (.int .i64 0)]), (.tuple #[(U A), (.int .i64 0)]), (U A), (.int .i64 0), (pt (nb ρ 6)), undef, (.int .i64 0)] : List Value).getD ι undef)
    (fun ρ ι => ([{}, {}, {}, {}, {}, {}, { news := [(nb ρ 6, (.cells (cU 0) 24 (0, 0)))] }, { puts := [(51, (.cells (cU A) 24 (0, 0)))] }, {}] : List Eff).getD ι {})
    (by kernel_rfl) (by kernel_rfl) (fun _ => by kernel_rfl) (fun _ => by kernel_rfl) ⟨⟨⟨⟨⟨⟨⟨⟨⟨trivial, ?_⟩, ?_⟩, ?_⟩, ?_⟩, ?_⟩, ?_⟩, ?_⟩, ?_⟩, ?_⟩
  · exact o_run 0 [0] [] (fun _ _ => [nb ρ1 0, nb ρ1 0, nb ρ1 0, nb ρ1 0]) (fun _ _ => by kernel_rfl)
  · exact o_call 1 41 (fun _ => #[(U A)]) (fun _ => (.string (strB (decL A)))) (fun _ _ => by kernel_rfl) (fun _ w => (fun w => textL_any A w hA) w)
  · exact o_call 2 39 (fun _ => #[(.string (strB (decL A)))]) (fun _ => (.tuple #[(U A), (.int .i64 0)])) (fun _ _ => by kernel_rfl) (fun _ w => (fun w => parse_text A w hA) w)
  · exact o_run 3 [] [] (fun _ _ => []) (fun _ _ => by kernel_rfl)
  · exact o_run 4 [] [] (fun _ _ => []) (fun _ _ => by kernel_rfl)
  · exact o_run 5 [] [] (fun _ _ => []) (fun _ _ => by kernel_rfl)
  · exact o_run 6 [] [] (fun _ _ => []) (fun _ _ => by kernel_rfl)
  · exact o_run 7 [51] [] (fun ρ _ => [nb ρ 6, nb ρ 6, nb ρ 6, nb ρ 6]) (fun _ _ => by kernel_rfl)
  · exact o_run 8 [] [] (fun _ _ => []) (fun _ _ => by kernel_rfl)
theorem wideTexts_any_r5 (A : Nat) (S : List UInt8) (hA : A < M) (ρ1 : Nat → Orc) (ρ2 : Nat → Orc) (ρ3 : Nat → Orc) (ρ4 : Nat → Orc) (w0 : World) (F : World → Prop) : Reg Try.prog 4 (regOps Try.f8 4) true 54 [(2, (pt (nb ρ1 0))), (4, (.bool false)), (5, (pt (nb ρ2 5))), (6, (.int .i64 (parseE S))), (7, (pt (nb ρ3 5))), (8, (.int .i64 (parseE S))), (9, (pt (nb ρ4 6))), (10, (.int .i64 0))] w0 [(nb ρ1 0, (.cells (cU A) 24 (0, 0))), (nb ρ2 5, (.cells (cU (parseV S)) 24 (0, 0))), (nb ρ3 5, (.cells (cU (parseV S)) 24 (0, 0))), (nb ρ4 6, (.cells (cU A) 24 (0, 0)))] F
    (fun _ => [(4, (.bool true))])
    (fun _ => [(nb ρ1 0, (.cells (cU A) 24 (0, 0))), (nb ρ2 5, (.cells (cU (parseV S)) 24 (0, 0))), (nb ρ3 5, (.cells (cU (parseV S)) 24 (0, 0))), (nb ρ4 6, (.cells (cU A) 24 (0, 0)))]) := by
  refine reg_drawn [0, 1, 3, 7, 3, 31, 63, 127, 255, 511, 511, 2047, 4095, 8191, 16383, 16383, 65535, 131071, 262143, 524287, 1048575, 2097151, 4194303, 8388607, 8388607, 33554431, 67108863, 134217727] [4] 28
    (fun _ ι => ([(.bool true), (.bool true), (U A), (.string (strB (decL A))), (U A), (.string (strB (decL A))), (.bool true), (.bool true), (.bool true), (U (parseV S)), (U (parseV S)), (.bool true), (.bool true), (.bool true), (.int .i64 (parseE S)), (.int .i64 (parseE S)), (.bool true), (.bool true), (.bool true), (.int .i64 0), (.bool true), (.bool true), (.bool true), (U A), (U A), (.bool true), (.bool true), (.bool true)] : List Value).getD ι undef)
    (fun _ ι => ([{}, {}, {}, {}, {}, {}, {}, {}, {}, {}, {}, {}, {}, {}, {}, {}, {}, {}, {}, {}, {}, {}, {}, {}, {}, {}, {}, {}] : List Eff).getD ι {})
    (by kernel_rfl) (by kernel_rfl) (by kernel_rfl) (fun _ => by kernel_rfl) (fun _ => by kernel_rfl) ⟨⟨⟨⟨⟨⟨⟨⟨⟨⟨⟨⟨⟨⟨⟨⟨⟨⟨⟨⟨⟨⟨⟨⟨⟨⟨⟨⟨trivial, ?_⟩, ?_⟩, ?_⟩, ?_⟩, ?_⟩, ?_⟩, ?_⟩, ?_⟩, ?_⟩, ?_⟩, ?_⟩, ?_⟩, ?_⟩, ?_⟩, ?_⟩, ?_⟩, ?_⟩, ?_⟩, ?_⟩, ?_⟩, ?_⟩, ?_⟩, ?_⟩, ?_⟩, ?_⟩, ?_⟩, ?_⟩, ?_⟩
  · exact o_call 0 17 (fun _ => #[]) (fun _ => (.bool true)) (fun _ _ => by kernel_rfl) (fun _ w => (fun w => sane_any w) w)
  · exact o_run 1 [] [] (fun _ _ => []) (fun _ _ => by kernel_rfl)
  · exact o_run 2 [0] [] (fun _ _ => [nb ρ1 0, nb ρ1 0, nb ρ1 0, nb ρ1 0]) (fun _ _ => by kernel_rfl)
  · exact o_call 3 41 (fun _ => #[(U A)]) (fun _ => (.string (strB (decL A)))) (fun _ _ => by kernel_rfl) (fun _ w => (fun w => textL_any A w hA) w)
  · exact o_run 4 [0] [] (fun _ _ => [nb ρ1 0, nb ρ1 0, nb ρ1 0, nb ρ1 0]) (fun _ _ => by kernel_rfl)
  · exact o_call 5 42 (fun _ => #[(U A)]) (fun _ => (.string (strB (decL A)))) (fun _ _ => by kernel_rfl) (fun _ w => (fun w => rtext_any A w hA) w)
  · exact o_bin 6 .eql 9 (fun _ => (.string (strB (decL A)))) (fun _ => (.string (strB (decL A)))) (fun _ => (.bool true)) (fun _ => by kernel_rfl) (fun _ _ _ _ => by kernel_rfl) (fun _ w => eql_str_same (decL A) w)
  · exact o_run 7 [] [] (fun _ _ => []) (fun _ _ => by kernel_rfl)
  · exact o_run 8 [] [] (fun _ _ => []) (fun _ _ => by kernel_rfl)
  · exact o_run 9 [1] [] (fun _ _ => [nb ρ2 5, nb ρ2 5, nb ρ2 5, nb ρ2 5]) (fun _ _ => by kernel_rfl)
  · exact o_run 10 [2] [] (fun _ _ => [nb ρ3 5, nb ρ3 5, nb ρ3 5, nb ρ3 5]) (fun _ _ => by kernel_rfl)
  · exact o_bin 11 .eql 24 (fun _ => (U (parseV S))) (fun _ => (U (parseV S))) (fun _ => (.bool true)) (fun _ => by kernel_rfl) (fun _ _ _ _ => by kernel_rfl) (fun _ _ => eqlU_same (parseV S) (parseV_lt S) _)
  · exact o_run 12 [] [] (fun _ _ => []) (fun _ _ => by kernel_rfl)
  · exact o_run 13 [] [] (fun _ _ => []) (fun _ _ => by kernel_rfl)
  · exact o_run 14 [] [] (fun _ _ => []) (fun _ _ => by kernel_rfl)
  · exact o_run 15 [] [] (fun _ _ => []) (fun _ _ => by kernel_rfl)
  · exact o_as 16 (fun _ => (.bool ((parseE S) == (parseE S)))) (fun _ => (.bool true)) (fun _ _ => by kernel_rfl) (fun _ => congrArg Value.bool (beq_self_eq_true _))
  · exact o_run 17 [] [] (fun _ _ => []) (fun _ _ => by kernel_rfl)
  · exact o_run 18 [] [] (fun _ _ => []) (fun _ _ => by kernel_rfl)
  · exact o_run 19 [] [] (fun _ _ => []) (fun _ _ => by kernel_rfl)
  · exact o_run 20 [] [] (fun _ _ => []) (fun _ _ => by kernel_rfl)
  · exact o_run 21 [] [] (fun _ _ => []) (fun _ _ => by kernel_rfl)
  · exact o_run 22 [] [] (fun _ _ => []) (fun _ _ => by kernel_rfl)
  · exact o_run 23 [3] [] (fun _ _ => [nb ρ4 6, nb ρ4 6, nb ρ4 6, nb ρ4 6]) (fun _ _ => by kernel_rfl)
  · exact o_run 24 [0] [] (fun _ _ => [nb ρ1 0, nb ρ1 0, nb ρ1 0, nb ρ1 0]) (fun _ _ => by kernel_rfl)
  · exact o_bin 25 .eql 24 (fun _ => (U A)) (fun _ => (U A)) (fun _ => (.bool true)) (fun _ => by kernel_rfl) (fun _ _ _ _ => by kernel_rfl) (fun _ _ => eqlU_same A hA _)
  · exact o_run 26 [] [] (fun _ _ => []) (fun _ _ => by kernel_rfl)
  · exact o_run 27 [] [] (fun _ _ => []) (fun _ _ => by kernel_rfl)
theorem wideTexts_any (A : Nat) (S : List UInt8) (hA : A < M) (w0 : World) : Calls Try.prog 8 #[(U A), (.string (strB S))] w0 (fun ε w' => ε = .returned (.bool true) ∧ Below w0.heap.size w0 w') := by
  refine Calls.of_ok (n := 54) (F := (fun _ => True)) Try.func8 rfl rfl rfl (by simp) (persTrue (fun _ => trivial)) ?_
  refine ok_seq_r (by kernel_rfl) (wideTexts_any_r1 A S _ _) (fun ρ1 => ?_)
  refine ok_seq_r (by kernel_rfl) (wideTexts_any_r2 A S ρ1 _ _) (fun ρ2 => ?_)
  refine ok_seq_r (by kernel_rfl) (wideTexts_any_r3 A S ρ1 ρ2 _ _) (fun ρ3 => ?_)
  refine ok_seq_r (by kernel_rfl) (wideTexts_any_r4 A S hA ρ1 ρ2 ρ3 _ _) (fun ρ4 => ?_)
  refine ok_seq_r (by kernel_rfl) (wideTexts_any_r5 A S hA ρ1 ρ2 ρ3 ρ4 _ _) (fun _ => ?_)
  refine ok_ret ?_
  exact meets_ret (v := (.bool true)) [] (dup []) (by kernel_rfl) (by kernel_rfl) (eqs_dup _) (fun _ hS => ⟨rfl, hS.below⟩)
end Go.Proofs.Ytlgjdejlnelndaa
