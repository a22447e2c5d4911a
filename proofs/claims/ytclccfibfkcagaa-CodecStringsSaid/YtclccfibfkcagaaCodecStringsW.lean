/-
  The law CodecStrings: the walk.
-/
import Derived.Test.YtclccfibfkcagaaCSane
namespace Go.Proofs.Ytclccfibfkcagaa
open Go Go.RowKit
set_option maxRecDepth 100000
theorem codecStrings_any_r1 (a : Option Addr) (c : Nat) (B : List UInt8) (z : Int) (y : Int) (w0 : World) (F : World → Prop) : Reg Try.prog 0 (regOps Try.f6 0) false 44 [(0, (.slice a (B).length c)), (1, (.int .i64 z)), (2, (.int .i64 y))] w0 [] F
    (fun _ => [(0, (.slice a (B).length c)), (1, (.int .i64 z)), (2, (.int .i64 y)), (6, (.bool false))])
    (fun _ => []) := by
  refine reg_seq [0] [0, 1, 2, 6] 1
    (fun _ ι => ([(.bool false)] : List Value).getD ι undef)
    (fun _ ι => ([{}] : List Eff).getD ι {})
    (by as_aux_lemma => kernel_rfl) (by as_aux_lemma => kernel_rfl) (fun _ => by as_aux_lemma => kernel_rfl) (fun _ => by as_aux_lemma => kernel_rfl) ⟨trivial, ?_⟩
  · exact o_run 0 [] [] (fun _ _ => []) (fun _ _ => by as_aux_lemma => kernel_rfl)
theorem codecStrings_any_r2 (a : Option Addr) (c : Nat) (B : List UInt8) (z : Int) (y : Int) (w0 : World) (F : World → Prop) : Reg Try.prog 1 (regOps Try.f6 1) false 44 [(0, (.slice a (B).length c)), (1, (.int .i64 z)), (2, (.int .i64 y)), (6, (.bool false))] w0 [] F
    (fun _ => [(0, (.slice a (B).length c)), (1, (.int .i64 z)), (2, (.int .i64 y)), (6, (.bool false)), (14, (.bool false))])
    (fun _ => []) := by
  refine reg_seq [0, 1] [0, 1, 2, 6, 14] 2
    (fun _ ι => ([(.bool true), (.bool false)] : List Value).getD ι undef)
    (fun _ ι => ([{}, {}] : List Eff).getD ι {})
    (by as_aux_lemma => kernel_rfl) (by as_aux_lemma => kernel_rfl) (fun _ => by as_aux_lemma => kernel_rfl) (fun _ => by as_aux_lemma => kernel_rfl) ⟨⟨trivial, ?_⟩, ?_⟩
  · exact o_call 0 12 (fun _ => #[]) (fun _ => (.bool true)) (fun _ _ => by as_aux_lemma => kernel_rfl) (fun _ w => (fun w => sane_any w) w)
  · exact o_run 1 [] [] (fun _ _ => []) (fun _ _ => by as_aux_lemma => kernel_rfl)
theorem codecStrings_any_r3 (a : Option Addr) (c : Nat) (B : List UInt8) (z : Int) (y : Int) (hBl : B.length ≤ 140737488351232) (hz : -9223372036854775808 ≤ z ∧ z < 9223372036854775808) (hy : -9223372036854775808 ≤ y ∧ y < 9223372036854775808) (w0 : World) : RegF Try.prog 3 (regOps Try.f6 3) false 44 [(0, (.slice a (B).length c)), (1, (.int .i64 z)), (2, (.int .i64 y)), (6, (.bool false)), (14, (.bool false))] w0 [] (fun w => Bs w a c B ∧ True)
    (fun ρ => [(0, (.slice a (B).length c)), (1, (.int .i64 z)), (2, (.int .i64 y)), (6, (.bool false)), (7, (.slice (oa ρ 3) (byX B z y).length (nb ρ 3))), (8, (.int .i64 (byN B z y))), (9, (.int .i64 (byE B z y)))])
    (fun _ => []) (fun ρ => (fun w => Bs w a c B ∧ Fs w0 w (oa ρ 3) (nb ρ 3) (byX B z y) ∧ True)) := by
  refine reg_seq_f [0, 1, 3, 7, 15, 31, 63, 127, 255, 511, 1023] [0, 1, 2, 6, 7, 8, 9] 11
    (fun ρ ι => ([(.slice a (B).length c), (.int .i64 z), (.int .i64 y), (.tuple #[(.slice (oa ρ 3) (byX B z y).length (nb ρ 3)), (.int .i64 (byN B z y)), (.int .i64 (byE B z y))]), (.tuple #[(.slice (oa ρ 3) (byX B z y).length (nb ρ 3)), (.int .i64 (byN B z y)), (.int .i64 (byE B z y))]), (.slice (oa ρ 3) (byX B z y).length (nb ρ 3)), (.int .i64 (byN B z y)), (.int .i64 (byE B z y)), (.slice (oa ρ 3) (byX B z y).length (nb ρ 3)), (.int .i64 (byN B z y)), (.int .i64 (byE B z y))] : List Value).getD ι undef)
    (fun _ ι => ([{}, {}, {}, {}, {}, {}, {}, {}, {}, {}, {}] : List Eff).getD ι {})
    (fun ρ ι => ([(fun _ => True), (fun _ => True), (fun _ => True), (fun w => Fs w0 w (oa ρ 3) (nb ρ 3) (byX B z y)), (fun _ => True), (fun _ => True), (fun _ => True), (fun _ => True), (fun _ => True), (fun _ => True), (fun _ => True)] : List (World → Prop)).getD ι (fun _ => True))
    (by as_aux_lemma => kernel_rfl) (by as_aux_lemma => kernel_rfl) (fun _ => by as_aux_lemma => kernel_rfl) (fun _ => by as_aux_lemma => kernel_rfl) (fun _ _ hF hf => ⟨hF.1, hf 3 (by omega), trivial⟩) ⟨⟨⟨⟨⟨⟨⟨⟨⟨⟨⟨trivial, ?_⟩, ?_⟩, ?_⟩, ?_⟩, ?_⟩, ?_⟩, ?_⟩, ?_⟩, ?_⟩, ?_⟩, ?_⟩
  · exact Obl.brings (o_run 0 [] [] (fun _ _ => []) (fun _ _ => by as_aux_lemma => kernel_rfl)) (fun _ _ => trivial)
  · exact Obl.brings (o_run 1 [] [] (fun _ _ => []) (fun _ _ => by as_aux_lemma => kernel_rfl)) (fun _ _ => trivial)
  · exact Obl.brings (o_run 2 [] [] (fun _ _ => []) (fun _ _ => by as_aux_lemma => kernel_rfl)) (fun _ _ => trivial)
  · exact o_callB 3 28 (fun _ => #[(.slice a (B).length c), (.int .i64 z), (.int .i64 y)]) (fun _ α κ => (.tuple #[(.slice α (byX B z y).length κ), (.int .i64 (byN B z y)), (.int .i64 (byE B z y))])) (fun _ => byX B z y) (fun _ _ => (by as_aux_lemma => kernel_rfl)) (fun _ _ => (by as_aux_lemma => kernel_rfl)) (fun _ _ => (by as_aux_lemma => kernel_rfl)) (fun _ _ => (by as_aux_lemma => kernel_rfl)) (fun _ _ w hG => bytes_any a c B z y (by have := hBl; have := hz; have := hy; omega) (by have := hBl; have := hz; have := hy; omega) hBl w hG.facts0.now.1)
  · exact Obl.brings (o_run 4 [] [] (fun _ _ => []) (fun _ _ => by as_aux_lemma => kernel_rfl)) (fun _ _ => trivial)
  · exact Obl.brings (o_run 5 [] [] (fun _ _ => []) (fun _ _ => by as_aux_lemma => kernel_rfl)) (fun _ _ => trivial)
  · exact Obl.brings (o_run 6 [] [] (fun _ _ => []) (fun _ _ => by as_aux_lemma => kernel_rfl)) (fun _ _ => trivial)
  · exact Obl.brings (o_run 7 [] [] (fun _ _ => []) (fun _ _ => by as_aux_lemma => kernel_rfl)) (fun _ _ => trivial)
  · exact Obl.brings (o_run 8 [] [] (fun _ _ => []) (fun _ _ => by as_aux_lemma => kernel_rfl)) (fun _ _ => trivial)
  · exact Obl.brings (o_run 9 [] [] (fun _ _ => []) (fun _ _ => by as_aux_lemma => kernel_rfl)) (fun _ _ => trivial)
  · exact Obl.brings (o_run 10 [] [] (fun _ _ => []) (fun _ _ => by as_aux_lemma => kernel_rfl)) (fun _ _ => trivial)
theorem codecStrings_any_r4 (a : Option Addr) (c : Nat) (B : List UInt8) (z : Int) (y : Int) (hBl : B.length ≤ 140737488351232) (hz : -9223372036854775808 ≤ z ∧ z < 9223372036854775808) (hy : -9223372036854775808 ≤ y ∧ y < 9223372036854775808) (ρ3 : Nat → Orc) (w0 : World) : RegF Try.prog 4 (regOps Try.f6 4) false 44 [(0, (.slice a (B).length c)), (1, (.int .i64 z)), (2, (.int .i64 y)), (6, (.bool false)), (7, (.slice (oa ρ3 3) (byX B z y).length (nb ρ3 3))), (8, (.int .i64 (byN B z y))), (9, (.int .i64 (byE B z y)))] w0 [] (fun w => Bs w a c B ∧ Fs w0 w (oa ρ3 3) (nb ρ3 3) (byX B z y) ∧ True)
    (fun ρ => [(6, (.bool false)), (7, (.slice (oa ρ3 3) (byX B z y).length (nb ρ3 3))), (8, (.int .i64 (byN B z y))), (9, (.int .i64 (byE B z y))), (10, (.slice (oa ρ 3) (byX B z y).length (nb ρ 3))), (11, (.int .i64 (byN B z y))), (12, (.int .i64 (byE B z y)))])
    (fun _ => []) (fun ρ => (fun w => Bs w a c B ∧ Fs w0 w (oa ρ3 3) (nb ρ3 3) (byX B z y) ∧ Fs w0 w (oa ρ 3) (nb ρ 3) (byX B z y) ∧ True)) := by
  refine reg_seq_f [0, 1, 3, 7, 15, 31, 63, 127, 255, 511, 1023] [6, 7, 8, 9, 10, 11, 12] 11
    (fun ρ ι => ([(.slice a (B).length c), (.int .i64 z), (.int .i64 y), (.tuple #[(.slice (oa ρ 3) (byX B z y).length (nb ρ 3)), (.int .i64 (byN B z y)), (.int .i64 (byE B z y))]), (.tuple #[(.slice (oa ρ 3) (byX B z y).length (nb ρ 3)), (.int .i64 (byN B z y)), (.int .i64 (byE B z y))]), (.slice (oa ρ 3) (byX B z y).length (nb ρ 3)), (.int .i64 (byN B z y)), (.int .i64 (byE B z y)), (.slice (oa ρ 3) (byX B z y).length (nb ρ 3)), (.int .i64 (byN B z y)), (.int .i64 (byE B z y))] : List Value).getD ι undef)
    (fun _ ι => ([{}, {}, {}, {}, {}, {}, {}, {}, {}, {}, {}] : List Eff).getD ι {})
    (fun ρ ι => ([(fun _ => True), (fun _ => True), (fun _ => True), (fun w => Fs w0 w (oa ρ 3) (nb ρ 3) (byX B z y)), (fun _ => True), (fun _ => True), (fun _ => True), (fun _ => True), (fun _ => True), (fun _ => True), (fun _ => True)] : List (World → Prop)).getD ι (fun _ => True))
    (by as_aux_lemma => kernel_rfl) (by as_aux_lemma => kernel_rfl) (fun _ => by as_aux_lemma => kernel_rfl) (fun _ => by as_aux_lemma => kernel_rfl) (fun _ _ hF hf => ⟨hF.1, hF.2.1, hf 3 (by omega), trivial⟩) ⟨⟨⟨⟨⟨⟨⟨⟨⟨⟨⟨trivial, ?_⟩, ?_⟩, ?_⟩, ?_⟩, ?_⟩, ?_⟩, ?_⟩, ?_⟩, ?_⟩, ?_⟩, ?_⟩
  · exact Obl.brings (o_run 0 [] [] (fun _ _ => []) (fun _ _ => by as_aux_lemma => kernel_rfl)) (fun _ _ => trivial)
  · exact Obl.brings (o_run 1 [] [] (fun _ _ => []) (fun _ _ => by as_aux_lemma => kernel_rfl)) (fun _ _ => trivial)
  · exact Obl.brings (o_run 2 [] [] (fun _ _ => []) (fun _ _ => by as_aux_lemma => kernel_rfl)) (fun _ _ => trivial)
  · exact o_callB 3 29 (fun _ => #[(.slice a (B).length c), (.int .i64 z), (.int .i64 y)]) (fun _ α κ => (.tuple #[(.slice α (byX B z y).length κ), (.int .i64 (byN B z y)), (.int .i64 (byE B z y))])) (fun _ => byX B z y) (fun _ _ => (by as_aux_lemma => kernel_rfl)) (fun _ _ => (by as_aux_lemma => kernel_rfl)) (fun _ _ => (by as_aux_lemma => kernel_rfl)) (fun _ _ => (by as_aux_lemma => kernel_rfl)) (fun _ _ w hG => rbytes_any a c B z y (by have := hBl; have := hz; have := hy; omega) (by have := hBl; have := hz; have := hy; omega) hBl w hG.facts0.now.1)
  · exact Obl.brings (o_run 4 [] [] (fun _ _ => []) (fun _ _ => by as_aux_lemma => kernel_rfl)) (fun _ _ => trivial)
  · exact Obl.brings (o_run 5 [] [] (fun _ _ => []) (fun _ _ => by as_aux_lemma => kernel_rfl)) (fun _ _ => trivial)
  · exact Obl.brings (o_run 6 [] [] (fun _ _ => []) (fun _ _ => by as_aux_lemma => kernel_rfl)) (fun _ _ => trivial)
  · exact Obl.brings (o_run 7 [] [] (fun _ _ => []) (fun _ _ => by as_aux_lemma => kernel_rfl)) (fun _ _ => trivial)
  · exact Obl.brings (o_run 8 [] [] (fun _ _ => []) (fun _ _ => by as_aux_lemma => kernel_rfl)) (fun _ _ => trivial)
  · exact Obl.brings (o_run 9 [] [] (fun _ _ => []) (fun _ _ => by as_aux_lemma => kernel_rfl)) (fun _ _ => trivial)
  · exact Obl.brings (o_run 10 [] [] (fun _ _ => []) (fun _ _ => by as_aux_lemma => kernel_rfl)) (fun _ _ => trivial)
theorem codecStrings_any_r5 (a : Option Addr) (c : Nat) (B : List UInt8) (z : Int) (y : Int) (ρ3 : Nat → Orc) (ρ4 : Nat → Orc) (w0 : World) : RegF Try.prog 5 (regOps Try.f6 5) false 44 [(6, (.bool false)), (7, (.slice (oa ρ3 3) (byX B z y).length (nb ρ3 3))), (8, (.int .i64 (byN B z y))), (9, (.int .i64 (byE B z y))), (10, (.slice (oa ρ4 3) (byX B z y).length (nb ρ4 3))), (11, (.int .i64 (byN B z y))), (12, (.int .i64 (byE B z y)))] w0 [] (fun w => Bs w a c B ∧ Fs w0 w (oa ρ3 3) (nb ρ3 3) (byX B z y) ∧ Fs w0 w (oa ρ4 3) (nb ρ4 3) (byX B z y) ∧ True)
    (fun _ => [(6, (.bool true))])
    (fun _ => []) (fun _ => (fun w => Bs w a c B ∧ Fs w0 w (oa ρ3 3) (nb ρ3 3) (byX B z y) ∧ Fs w0 w (oa ρ4 3) (nb ρ4 3) (byX B z y) ∧ True)) := by
  refine reg_seq_f [0, 1, 3, 7, 15, 31, 63, 127, 255, 511, 1023, 2047, 4095, 8191] [6] 14
    (fun _ ι => ([(.slice (oa ρ3 3) (byX B z y).length (nb ρ3 3)), (.slice (oa ρ4 3) (byX B z y).length (nb ρ4 3)), (.bool true), (.bool true), (.int .i64 (byN B z y)), (.int .i64 (byN B z y)), (.bool true), (.bool true), (.bool true), (.int .i64 (byE B z y)), (.int .i64 (byE B z y)), (.bool true), (.bool true), (.bool true)] : List Value).getD ι undef)
    (fun _ ι => ([{}, {}, {}, {}, {}, {}, {}, {}, {}, {}, {}, {}, {}, {}] : List Eff).getD ι {})
    (fun _ ι => ([(fun _ => True), (fun _ => True), (fun _ => True), (fun _ => True), (fun _ => True), (fun _ => True), (fun _ => True), (fun _ => True), (fun _ => True), (fun _ => True), (fun _ => True), (fun _ => True), (fun _ => True), (fun _ => True)] : List (World → Prop)).getD ι (fun _ => True))
    (by as_aux_lemma => kernel_rfl) (by as_aux_lemma => kernel_rfl) (fun _ => by as_aux_lemma => kernel_rfl) (fun _ => by as_aux_lemma => kernel_rfl) (fun _ _ hF _ => ⟨hF.1, hF.2.1, hF.2.2.1, trivial⟩) ⟨⟨⟨⟨⟨⟨⟨⟨⟨⟨⟨⟨⟨⟨trivial, ?_⟩, ?_⟩, ?_⟩, ?_⟩, ?_⟩, ?_⟩, ?_⟩, ?_⟩, ?_⟩, ?_⟩, ?_⟩, ?_⟩, ?_⟩, ?_⟩
  · exact Obl.brings (o_run 0 [] [] (fun _ _ => []) (fun _ _ => by as_aux_lemma => kernel_rfl)) (fun _ _ => trivial)
  · exact Obl.brings (o_run 1 [] [] (fun _ _ => []) (fun _ _ => by as_aux_lemma => kernel_rfl)) (fun _ _ => trivial)
  · exact o_callP 2 16 (fun _ => #[(.slice (oa ρ3 3) (byX B z y).length (nb ρ3 3)), (.slice (oa ρ4 3) (byX B z y).length (nb ρ4 3))]) (fun _ => (.bool true)) (fun _ _ => (by as_aux_lemma => kernel_rfl)) (fun _ => (by as_aux_lemma => kernel_rfl)) (fun _ _ => (by as_aux_lemma => kernel_rfl)) (fun _ _ => trivial) (fun _ _ w hG => same_eq (oa ρ3 3) (nb ρ3 3) (byX B z y) (oa ρ4 3) (nb ρ4 3) w hG.facts0.now.2.1.1 hG.facts0.now.2.2.1.1)
  · exact Obl.brings (o_run 3 [] [] (fun _ _ => []) (fun _ _ => by as_aux_lemma => kernel_rfl)) (fun _ _ => trivial)
  · exact Obl.brings (o_run 4 [] [] (fun _ _ => []) (fun _ _ => by as_aux_lemma => kernel_rfl)) (fun _ _ => trivial)
  · exact Obl.brings (o_run 5 [] [] (fun _ _ => []) (fun _ _ => by as_aux_lemma => kernel_rfl)) (fun _ _ => trivial)
  · exact Obl.brings (o_as 6 (fun _ => (.bool ((byN B z y) == (byN B z y)))) (fun _ => (.bool true)) (fun _ _ => by as_aux_lemma => kernel_rfl) (fun _ => congrArg Value.bool (beq_self_eq_true _))) (fun _ _ => trivial)
  · exact Obl.brings (o_run 7 [] [] (fun _ _ => []) (fun _ _ => by as_aux_lemma => kernel_rfl)) (fun _ _ => trivial)
  · exact Obl.brings (o_run 8 [] [] (fun _ _ => []) (fun _ _ => by as_aux_lemma => kernel_rfl)) (fun _ _ => trivial)
  · exact Obl.brings (o_run 9 [] [] (fun _ _ => []) (fun _ _ => by as_aux_lemma => kernel_rfl)) (fun _ _ => trivial)
  · exact Obl.brings (o_run 10 [] [] (fun _ _ => []) (fun _ _ => by as_aux_lemma => kernel_rfl)) (fun _ _ => trivial)
  · exact Obl.brings (o_as 11 (fun _ => (.bool ((byE B z y) == (byE B z y)))) (fun _ => (.bool true)) (fun _ _ => by as_aux_lemma => kernel_rfl) (fun _ => congrArg Value.bool (beq_self_eq_true _))) (fun _ _ => trivial)
  · exact Obl.brings (o_run 12 [] [] (fun _ _ => []) (fun _ _ => by as_aux_lemma => kernel_rfl)) (fun _ _ => trivial)
  · exact Obl.brings (o_run 13 [] [] (fun _ _ => []) (fun _ _ => by as_aux_lemma => kernel_rfl)) (fun _ _ => trivial)
theorem codecStrings_any (a : Option Addr) (c : Nat) (B : List UInt8) (z : Int) (y : Int) (hBl : B.length ≤ 140737488351232) (hz : -9223372036854775808 ≤ z ∧ z < 9223372036854775808) (hy : -9223372036854775808 ≤ y ∧ y < 9223372036854775808) (w0 : World) (hf0 : Bs w0 a c B) : Calls Try.prog 6 #[(.slice a (B).length c), (.int .i64 z), (.int .i64 y)] w0 (fun ε w' => ε = .returned (.bool true) ∧ Below w0.heap.size w0 w') := by
  refine Calls.of_ok (n := 44) (F := (fun w => Bs w a c B ∧ True)) Try.func6 rfl rfl rfl (by simp) (hf0.pers0.and persT) ?_
  refine ok_seq_r (by as_aux_lemma => kernel_rfl) (codecStrings_any_r1 a c B z y _ _) (fun _ => ?_)
  refine ok_seq ?_
  refine ok_seq_r (by as_aux_lemma => kernel_rfl) (codecStrings_any_r2 a c B z y _ _) (fun _ => ?_)
  refine ok_no (by as_aux_lemma => kernel_rfl) ?_
  refine ok_skip ?_
  refine mt_then ?_
  refine ok_seq_rf (by as_aux_lemma => kernel_rfl) (codecStrings_any_r3 a c B z y hBl hz hy _) (fun ρ3 => ?_)
  refine ok_seq_rf (by as_aux_lemma => kernel_rfl) (codecStrings_any_r4 a c B z y hBl hz hy ρ3 _) (fun ρ4 => ?_)
  refine ok_seq_rf (by as_aux_lemma => kernel_rfl) (codecStrings_any_r5 a c B z y ρ3 ρ4 _) (fun _ => ?_)
  refine ok_ret ?_
  exact meets_ret (v := (.bool true)) [] (dup []) (by as_aux_lemma => kernel_rfl) (by as_aux_lemma => kernel_rfl) (eqs_dup _) (fun _ hS => ⟨rfl, hS.below⟩)
end Go.Proofs.Ytclccfibfkcagaa
