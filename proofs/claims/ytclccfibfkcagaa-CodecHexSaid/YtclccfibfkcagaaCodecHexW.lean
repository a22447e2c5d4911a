/-
  The law CodecHex: the walk.
-/
import Derived.Test.YtclccfibfkcagaaCSane
import Derived.Test.YtclccfibfkcagaaCLaws
namespace Go.Proofs.Ytclccfibfkcagaa
open Go Go.RowKit
set_option maxRecDepth 100000
theorem codecHex_any_r1 (a : Option Addr) (c : Nat) (B : List UInt8) (S : List UInt8) (w0 : World) (F : World → Prop) : Reg Try.prog 0 (regOps Try.f9 0) false 66 [(0, (.slice a (B).length c)), (1, (.string (strB S)))] w0 [] F
    (fun _ => [(0, (.slice a (B).length c)), (1, (.string (strB S))), (4, (.bool false))])
    (fun _ => []) := by
  refine reg_seq [0] [0, 1, 4] 1
    (fun _ ι => ([(.bool false)] : List Value).getD ι undef)
    (fun _ ι => ([{}] : List Eff).getD ι {})
    (by as_aux_lemma => kernel_rfl) (by as_aux_lemma => kernel_rfl) (fun _ => by as_aux_lemma => kernel_rfl) (fun _ => by as_aux_lemma => kernel_rfl) ⟨trivial, ?_⟩
  · exact o_run 0 [] [] (fun _ _ => []) (fun _ _ => by as_aux_lemma => kernel_rfl)
theorem codecHex_any_r2 (a : Option Addr) (c : Nat) (B : List UInt8) (S : List UInt8) (w0 : World) (F : World → Prop) : Reg Try.prog 1 (regOps Try.f9 1) false 66 [(0, (.slice a (B).length c)), (1, (.string (strB S))), (4, (.bool false))] w0 [] F
    (fun _ => [(0, (.slice a (B).length c)), (1, (.string (strB S))), (4, (.bool false)), (12, (.bool false))])
    (fun _ => []) := by
  refine reg_seq [0, 1] [0, 1, 4, 12] 2
    (fun _ ι => ([(.bool true), (.bool false)] : List Value).getD ι undef)
    (fun _ ι => ([{}, {}] : List Eff).getD ι {})
    (by as_aux_lemma => kernel_rfl) (by as_aux_lemma => kernel_rfl) (fun _ => by as_aux_lemma => kernel_rfl) (fun _ => by as_aux_lemma => kernel_rfl) ⟨⟨trivial, ?_⟩, ?_⟩
  · exact o_call 0 12 (fun _ => #[]) (fun _ => (.bool true)) (fun _ _ => by as_aux_lemma => kernel_rfl) (fun _ w => (fun w => sane_any w) w)
  · exact o_run 1 [] [] (fun _ _ => []) (fun _ _ => by as_aux_lemma => kernel_rfl)
theorem codecHex_any_r3 (a : Option Addr) (c : Nat) (B : List UInt8) (S : List UInt8) (hb1 : (decide (2000 < (((B).length : Nat) : Int))) = true) (w0 : World) (F : World → Prop) : Reg Try.prog 3 (regOps Try.f9 3) false 66 [(0, (.slice a (B).length c)), (1, (.string (strB S))), (4, (.bool false)), (12, (.bool false))] w0 [] F
    (fun _ => [(0, (.slice a (B).length c)), (1, (.string (strB S))), (4, (.bool false)), (25, (.bool true))])
    (fun _ => []) := by
  refine reg_seq [0, 1, 3, 7, 15, 31, 63, 127, 255, 511, 1023, 2047, 4095] [0, 1, 4, 25] 13
    (fun _ ι => ([(.slice a (B).length c), (.int .i64 (((B).length : Nat) : Int)), (.bool true), (.bool true), undef, undef, undef, undef, undef, undef, undef, undef, (.bool true)] : List Value).getD ι undef)
    (fun _ ι => ([{}, {}, {}, {}, {}, {}, {}, {}, {}, {}, {}, {}, {}] : List Eff).getD ι {})
    (by as_aux_lemma => kernel_rfl) (by as_aux_lemma => kernel_rfl) (fun _ => by as_aux_lemma => kernel_rfl) (fun _ => by as_aux_lemma => kernel_rfl) ⟨⟨⟨⟨⟨⟨⟨⟨⟨⟨⟨⟨⟨trivial, ?_⟩, ?_⟩, ?_⟩, ?_⟩, ?_⟩, ?_⟩, ?_⟩, ?_⟩, ?_⟩, ?_⟩, ?_⟩, ?_⟩, ?_⟩
  · exact o_run 0 [] [] (fun _ _ => []) (fun _ _ => by as_aux_lemma => kernel_rfl)
  · exact o_run 1 [] [] (fun _ _ => []) (fun _ _ => by as_aux_lemma => kernel_rfl)
  · exact o_as 2 (fun _ => (.bool (decide (2000 < (((B).length : Nat) : Int))))) (fun _ => (.bool true)) (fun _ _ => by as_aux_lemma => kernel_rfl) (fun _ => congrArg Value.bool hb1)
  · exact o_run 3 [] [] (fun _ _ => []) (fun _ _ => by as_aux_lemma => kernel_rfl)
  · exact o_skip 4 (fun _ => by as_aux_lemma => kernel_rfl)
  · exact o_skip 5 (fun _ => by as_aux_lemma => kernel_rfl)
  · exact o_skip 6 (fun _ => by as_aux_lemma => kernel_rfl)
  · exact o_skip 7 (fun _ => by as_aux_lemma => kernel_rfl)
  · exact o_skip 8 (fun _ => by as_aux_lemma => kernel_rfl)
  · exact o_skip 9 (fun _ => by as_aux_lemma => kernel_rfl)
  · exact o_skip 10 (fun _ => by as_aux_lemma => kernel_rfl)
  · exact o_skip 11 (fun _ => by as_aux_lemma => kernel_rfl)
  · exact o_run 12 [] [] (fun _ _ => []) (fun _ _ => by as_aux_lemma => kernel_rfl)
theorem codecHex_any_r4 (a : Option Addr) (c : Nat) (B : List UInt8) (S : List UInt8) (w0 : World) (F : World → Prop) : Reg Try.prog 4 (regOps Try.f9 4) false 66 [(0, (.slice a (B).length c)), (1, (.string (strB S))), (4, (.bool false)), (25, (.bool true))] w0 [] F
    (fun _ => [(0, (.slice a (B).length c)), (1, (.string (strB S))), (4, (.bool true))])
    (fun _ => []) := by
  refine reg_seq [0] [0, 1, 4] 1
    (fun _ ι => ([(.bool true)] : List Value).getD ι undef)
    (fun _ ι => ([{}] : List Eff).getD ι {})
    (by as_aux_lemma => kernel_rfl) (by as_aux_lemma => kernel_rfl) (fun _ => by as_aux_lemma => kernel_rfl) (fun _ => by as_aux_lemma => kernel_rfl) ⟨trivial, ?_⟩
  · exact o_run 0 [] [] (fun _ _ => []) (fun _ _ => by as_aux_lemma => kernel_rfl)
theorem codecHex_any_r5 (a : Option Addr) (c : Nat) (B : List UInt8) (S : List UInt8) (hb1 : (decide (2000 < (((B).length : Nat) : Int))) = false) (hb2 : (decide (4000 < (((S).length : Nat) : Int))) = true) (w0 : World) (F : World → Prop) : Reg Try.prog 3 (regOps Try.f9 3) false 66 [(0, (.slice a (B).length c)), (1, (.string (strB S))), (4, (.bool false)), (12, (.bool false))] w0 [] F
    (fun _ => [(0, (.slice a (B).length c)), (1, (.string (strB S))), (4, (.bool false)), (25, (.bool (decide ((((S).length : Nat) : Int) ≤ 400000))))])
    (fun _ => []) := by
  refine reg_seq [0, 1, 3, 7, 15, 31, 63, 127, 255, 511, 1023, 2047, 4095] [0, 1, 4, 25] 13
    (fun _ ι => ([(.slice a (B).length c), (.int .i64 (((B).length : Nat) : Int)), (.bool false), (.bool false), (.string (strB S)), (.int .i64 (((S).length : Nat) : Int)), (.bool true), (.bool true), (.string (strB S)), (.int .i64 (((S).length : Nat) : Int)), (.bool (decide ((((S).length : Nat) : Int) ≤ 400000))), (.bool (decide ((((S).length : Nat) : Int) ≤ 400000))), (.bool (decide ((((S).length : Nat) : Int) ≤ 400000)))] : List Value).getD ι undef)
    (fun _ ι => ([{}, {}, {}, {}, {}, {}, {}, {}, {}, {}, {}, {}, {}] : List Eff).getD ι {})
    (by as_aux_lemma => kernel_rfl) (by as_aux_lemma => kernel_rfl) (fun _ => by as_aux_lemma => kernel_rfl) (fun _ => by as_aux_lemma => kernel_rfl) ⟨⟨⟨⟨⟨⟨⟨⟨⟨⟨⟨⟨⟨trivial, ?_⟩, ?_⟩, ?_⟩, ?_⟩, ?_⟩, ?_⟩, ?_⟩, ?_⟩, ?_⟩, ?_⟩, ?_⟩, ?_⟩, ?_⟩
  · exact o_run 0 [] [] (fun _ _ => []) (fun _ _ => by as_aux_lemma => kernel_rfl)
  · exact o_run 1 [] [] (fun _ _ => []) (fun _ _ => by as_aux_lemma => kernel_rfl)
  · exact o_as 2 (fun _ => (.bool (decide (2000 < (((B).length : Nat) : Int))))) (fun _ => (.bool false)) (fun _ _ => by as_aux_lemma => kernel_rfl) (fun _ => congrArg Value.bool hb1)
  · exact o_run 3 [] [] (fun _ _ => []) (fun _ _ => by as_aux_lemma => kernel_rfl)
  · exact o_run 4 [] [] (fun _ _ => []) (fun _ _ => by as_aux_lemma => kernel_rfl)
  · exact o_run 5 [] [] (fun _ _ => []) (fun _ _ => by as_aux_lemma => kernel_rfl)
  · exact o_as 6 (fun _ => (.bool (decide (4000 < (((S).length : Nat) : Int))))) (fun _ => (.bool true)) (fun _ _ => by as_aux_lemma => kernel_rfl) (fun _ => congrArg Value.bool hb2)
  · exact o_run 7 [] [] (fun _ _ => []) (fun _ _ => by as_aux_lemma => kernel_rfl)
  · exact o_run 8 [] [] (fun _ _ => []) (fun _ _ => by as_aux_lemma => kernel_rfl)
  · exact o_run 9 [] [] (fun _ _ => []) (fun _ _ => by as_aux_lemma => kernel_rfl)
  · exact o_run 10 [] [] (fun _ _ => []) (fun _ _ => by as_aux_lemma => kernel_rfl)
  · exact o_run 11 [] [] (fun _ _ => []) (fun _ _ => by as_aux_lemma => kernel_rfl)
  · exact o_run 12 [] [] (fun _ _ => []) (fun _ _ => by as_aux_lemma => kernel_rfl)
theorem codecHex_any_r6 (a : Option Addr) (c : Nat) (B : List UInt8) (S : List UInt8) (w0 : World) (F : World → Prop) : Reg Try.prog 4 (regOps Try.f9 4) false 66 [(0, (.slice a (B).length c)), (1, (.string (strB S))), (4, (.bool false)), (25, (.bool true))] w0 [] F
    (fun _ => [(0, (.slice a (B).length c)), (1, (.string (strB S))), (4, (.bool true))])
    (fun _ => []) := by
  refine reg_seq [0] [0, 1, 4] 1
    (fun _ ι => ([(.bool true)] : List Value).getD ι undef)
    (fun _ ι => ([{}] : List Eff).getD ι {})
    (by as_aux_lemma => kernel_rfl) (by as_aux_lemma => kernel_rfl) (fun _ => by as_aux_lemma => kernel_rfl) (fun _ => by as_aux_lemma => kernel_rfl) ⟨trivial, ?_⟩
  · exact o_run 0 [] [] (fun _ _ => []) (fun _ _ => by as_aux_lemma => kernel_rfl)
theorem codecHex_any_r7 (a : Option Addr) (c : Nat) (B : List UInt8) (S : List UInt8) (w0 : World) : RegF Try.prog 5 (regOps Try.f9 5) false 66 [(0, (.slice a (B).length c)), (1, (.string (strB S))), (4, (.bool false)), (25, (.bool false))] w0 [] (fun w => Bs w a c B ∧ True)
    (fun ρ => [(0, (.slice a (B).length c)), (1, (.string (strB S))), (4, (.bool false)), (5, (.slice (oa ρ 1) (uhX S).length (nb ρ 1))), (6, (.int .i64 (uhE S)))])
    (fun _ => []) (fun ρ => (fun w => Bs w a c B ∧ Fs w0 w (oa ρ 1) (nb ρ 1) (uhX S) ∧ True)) := by
  refine reg_seq_f [0, 1, 3, 7, 15, 31, 63] [0, 1, 4, 5, 6] 7
    (fun ρ ι => ([(.string (strB S)), (.tuple #[(.slice (oa ρ 1) (uhX S).length (nb ρ 1)), (.int .i64 (uhE S))]), (.tuple #[(.slice (oa ρ 1) (uhX S).length (nb ρ 1)), (.int .i64 (uhE S))]), (.slice (oa ρ 1) (uhX S).length (nb ρ 1)), (.int .i64 (uhE S)), (.slice (oa ρ 1) (uhX S).length (nb ρ 1)), (.int .i64 (uhE S))] : List Value).getD ι undef)
    (fun _ ι => ([{}, {}, {}, {}, {}, {}, {}] : List Eff).getD ι {})
    (fun ρ ι => ([(fun _ => True), (fun w => Fs w0 w (oa ρ 1) (nb ρ 1) (uhX S)), (fun _ => True), (fun _ => True), (fun _ => True), (fun _ => True), (fun _ => True)] : List (World → Prop)).getD ι (fun _ => True))
    (by as_aux_lemma => kernel_rfl) (by as_aux_lemma => kernel_rfl) (fun _ => by as_aux_lemma => kernel_rfl) (fun _ => by as_aux_lemma => kernel_rfl) (fun _ _ hF hf => ⟨hF.1, hf 1 (by omega), trivial⟩) ⟨⟨⟨⟨⟨⟨⟨trivial, ?_⟩, ?_⟩, ?_⟩, ?_⟩, ?_⟩, ?_⟩, ?_⟩
  · exact Obl.brings (o_run 0 [] [] (fun _ _ => []) (fun _ _ => by as_aux_lemma => kernel_rfl)) (fun _ _ => trivial)
  · exact o_callB 1 42 (fun _ => #[(.string (strB S))]) (fun _ α κ => (.tuple #[(.slice α (uhX S).length κ), (.int .i64 (uhE S))])) (fun _ => uhX S) (fun _ _ => (by as_aux_lemma => kernel_rfl)) (fun _ _ => (by as_aux_lemma => kernel_rfl)) (fun _ _ => (by as_aux_lemma => kernel_rfl)) (fun _ _ => (by as_aux_lemma => kernel_rfl)) (fun _ _ w _ => unhex_any S w )
  · exact Obl.brings (o_run 2 [] [] (fun _ _ => []) (fun _ _ => by as_aux_lemma => kernel_rfl)) (fun _ _ => trivial)
  · exact Obl.brings (o_run 3 [] [] (fun _ _ => []) (fun _ _ => by as_aux_lemma => kernel_rfl)) (fun _ _ => trivial)
  · exact Obl.brings (o_run 4 [] [] (fun _ _ => []) (fun _ _ => by as_aux_lemma => kernel_rfl)) (fun _ _ => trivial)
  · exact Obl.brings (o_run 5 [] [] (fun _ _ => []) (fun _ _ => by as_aux_lemma => kernel_rfl)) (fun _ _ => trivial)
  · exact Obl.brings (o_run 6 [] [] (fun _ _ => []) (fun _ _ => by as_aux_lemma => kernel_rfl)) (fun _ _ => trivial)
theorem codecHex_any_r8 (a : Option Addr) (c : Nat) (B : List UInt8) (S : List UInt8) (ρ7 : Nat → Orc) (w0 : World) : RegF Try.prog 6 (regOps Try.f9 6) false 66 [(0, (.slice a (B).length c)), (1, (.string (strB S))), (4, (.bool false)), (5, (.slice (oa ρ7 1) (uhX S).length (nb ρ7 1))), (6, (.int .i64 (uhE S)))] w0 [] (fun w => Bs w a c B ∧ Fs w0 w (oa ρ7 1) (nb ρ7 1) (uhX S) ∧ True)
    (fun ρ => [(0, (.slice a (B).length c)), (4, (.bool false)), (5, (.slice (oa ρ7 1) (uhX S).length (nb ρ7 1))), (6, (.int .i64 (uhE S))), (7, (.slice (oa ρ 1) (uhX S).length (nb ρ 1))), (8, (.int .i64 (uhE S)))])
    (fun _ => []) (fun ρ => (fun w => Bs w a c B ∧ Fs w0 w (oa ρ7 1) (nb ρ7 1) (uhX S) ∧ Fs w0 w (oa ρ 1) (nb ρ 1) (uhX S) ∧ True)) := by
  refine reg_seq_f [0, 1, 3, 7, 15, 31, 63] [0, 4, 5, 6, 7, 8] 7
    (fun ρ ι => ([(.string (strB S)), (.tuple #[(.slice (oa ρ 1) (uhX S).length (nb ρ 1)), (.int .i64 (uhE S))]), (.tuple #[(.slice (oa ρ 1) (uhX S).length (nb ρ 1)), (.int .i64 (uhE S))]), (.slice (oa ρ 1) (uhX S).length (nb ρ 1)), (.int .i64 (uhE S)), (.slice (oa ρ 1) (uhX S).length (nb ρ 1)), (.int .i64 (uhE S))] : List Value).getD ι undef)
    (fun _ ι => ([{}, {}, {}, {}, {}, {}, {}] : List Eff).getD ι {})
    (fun ρ ι => ([(fun _ => True), (fun w => Fs w0 w (oa ρ 1) (nb ρ 1) (uhX S)), (fun _ => True), (fun _ => True), (fun _ => True), (fun _ => True), (fun _ => True)] : List (World → Prop)).getD ι (fun _ => True))
    (by as_aux_lemma => kernel_rfl) (by as_aux_lemma => kernel_rfl) (fun _ => by as_aux_lemma => kernel_rfl) (fun _ => by as_aux_lemma => kernel_rfl) (fun _ _ hF hf => ⟨hF.1, hF.2.1, hf 1 (by omega), trivial⟩) ⟨⟨⟨⟨⟨⟨⟨trivial, ?_⟩, ?_⟩, ?_⟩, ?_⟩, ?_⟩, ?_⟩, ?_⟩
  · exact Obl.brings (o_run 0 [] [] (fun _ _ => []) (fun _ _ => by as_aux_lemma => kernel_rfl)) (fun _ _ => trivial)
  · exact o_callB 1 43 (fun _ => #[(.string (strB S))]) (fun _ α κ => (.tuple #[(.slice α (uhX S).length κ), (.int .i64 (uhE S))])) (fun _ => uhX S) (fun _ _ => (by as_aux_lemma => kernel_rfl)) (fun _ _ => (by as_aux_lemma => kernel_rfl)) (fun _ _ => (by as_aux_lemma => kernel_rfl)) (fun _ _ => (by as_aux_lemma => kernel_rfl)) (fun _ _ w _ => runhex_any S w )
  · exact Obl.brings (o_run 2 [] [] (fun _ _ => []) (fun _ _ => by as_aux_lemma => kernel_rfl)) (fun _ _ => trivial)
  · exact Obl.brings (o_run 3 [] [] (fun _ _ => []) (fun _ _ => by as_aux_lemma => kernel_rfl)) (fun _ _ => trivial)
  · exact Obl.brings (o_run 4 [] [] (fun _ _ => []) (fun _ _ => by as_aux_lemma => kernel_rfl)) (fun _ _ => trivial)
  · exact Obl.brings (o_run 5 [] [] (fun _ _ => []) (fun _ _ => by as_aux_lemma => kernel_rfl)) (fun _ _ => trivial)
  · exact Obl.brings (o_run 6 [] [] (fun _ _ => []) (fun _ _ => by as_aux_lemma => kernel_rfl)) (fun _ _ => trivial)
theorem codecHex_any_r9 (a : Option Addr) (c : Nat) (B : List UInt8) (S : List UInt8) (hBl : B.length ≤ 140737488351232) (hSl : S.length ≤ 140737488351232) (hb1 : (decide (2000 < (((B).length : Nat) : Int))) = false) (hb2 : (decide (4000 < (((S).length : Nat) : Int))) = true) (hb3 : (decide ((((S).length : Nat) : Int) ≤ 400000)) = false) (ρ7 : Nat → Orc) (ρ8 : Nat → Orc) (w0 : World) : RegF Try.prog 7 (regOps Try.f9 7) false 66 [(0, (.slice a (B).length c)), (4, (.bool false)), (5, (.slice (oa ρ7 1) (uhX S).length (nb ρ7 1))), (6, (.int .i64 (uhE S))), (7, (.slice (oa ρ8 1) (uhX S).length (nb ρ8 1))), (8, (.int .i64 (uhE S)))] w0 [] (fun w => Bs w a c B ∧ Fs w0 w (oa ρ7 1) (nb ρ7 1) (uhX S) ∧ Fs w0 w (oa ρ8 1) (nb ρ8 1) (uhX S) ∧ True)
    (fun ρ => [(0, (.slice a (B).length c)), (4, (.bool false)), (5, (.slice (oa ρ7 1) (uhX S).length (nb ρ7 1))), (6, (.int .i64 (uhE S))), (7, (.slice (oa ρ8 1) (uhX S).length (nb ρ8 1))), (8, (.int .i64 (uhE S))), (9, (.slice (oa ρ 2) (uhX (hxS B)).length (nb ρ 2))), (10, (.int .i64 (uhE (hxS B))))])
    (fun _ => []) (fun ρ => (fun w => Bs w a c B ∧ Fs w0 w (oa ρ7 1) (nb ρ7 1) (uhX S) ∧ Fs w0 w (oa ρ8 1) (nb ρ8 1) (uhX S) ∧ Fs w0 w (oa ρ 2) (nb ρ 2) (uhX (hxS B)) ∧ True)) := by
  refine reg_seq_f [0, 1, 3, 7, 15, 31, 63, 127] [0, 4, 5, 6, 7, 8, 9, 10] 8
    (fun ρ ι => ([(.slice a (B).length c), (.string (strB (hxS B))), (.tuple #[(.slice (oa ρ 2) (uhX (hxS B)).length (nb ρ 2)), (.int .i64 (uhE (hxS B)))]), (.tuple #[(.slice (oa ρ 2) (uhX (hxS B)).length (nb ρ 2)), (.int .i64 (uhE (hxS B)))]), (.slice (oa ρ 2) (uhX (hxS B)).length (nb ρ 2)), (.int .i64 (uhE (hxS B))), (.slice (oa ρ 2) (uhX (hxS B)).length (nb ρ 2)), (.int .i64 (uhE (hxS B)))] : List Value).getD ι undef)
    (fun _ ι => ([{}, {}, {}, {}, {}, {}, {}, {}] : List Eff).getD ι {})
    (fun ρ ι => ([(fun _ => True), (fun _ => True), (fun w => Fs w0 w (oa ρ 2) (nb ρ 2) (uhX (hxS B))), (fun _ => True), (fun _ => True), (fun _ => True), (fun _ => True), (fun _ => True)] : List (World → Prop)).getD ι (fun _ => True))
    (by as_aux_lemma => kernel_rfl) (by as_aux_lemma => kernel_rfl) (fun _ => by as_aux_lemma => kernel_rfl) (fun _ => by as_aux_lemma => kernel_rfl) (fun _ _ hF hf => ⟨hF.1, hF.2.1, hF.2.2.1, hf 2 (by omega), trivial⟩) ⟨⟨⟨⟨⟨⟨⟨⟨trivial, ?_⟩, ?_⟩, ?_⟩, ?_⟩, ?_⟩, ?_⟩, ?_⟩, ?_⟩
  · exact Obl.brings (o_run 0 [] [] (fun _ _ => []) (fun _ _ => by as_aux_lemma => kernel_rfl)) (fun _ _ => trivial)
  · exact o_callP 1 44 (fun _ => #[(.slice a (B).length c)]) (fun _ => (.string (strB (hxS B)))) (fun _ _ => (by as_aux_lemma => kernel_rfl)) (fun _ => (by as_aux_lemma => kernel_rfl)) (fun _ _ => (by as_aux_lemma => kernel_rfl)) (fun _ _ => trivial) (fun _ _ w hG => hex_any a c B (by have := of_decide_eq_false hb1; have := of_decide_eq_true hb2; have := of_decide_eq_false hb3; have := hBl; have := hSl; omega) w hG.facts0.now.1)
  · exact o_callB 2 42 (fun _ => #[(.string (strB (hxS B)))]) (fun _ α κ => (.tuple #[(.slice α (uhX (hxS B)).length κ), (.int .i64 (uhE (hxS B)))])) (fun _ => uhX (hxS B)) (fun _ _ => (by as_aux_lemma => kernel_rfl)) (fun _ _ => (by as_aux_lemma => kernel_rfl)) (fun _ _ => (by as_aux_lemma => kernel_rfl)) (fun _ _ => (by as_aux_lemma => kernel_rfl)) (fun _ _ w _ => unhex_any (hxS B) w )
  · exact Obl.brings (o_run 3 [] [] (fun _ _ => []) (fun _ _ => by as_aux_lemma => kernel_rfl)) (fun _ _ => trivial)
  · exact Obl.brings (o_run 4 [] [] (fun _ _ => []) (fun _ _ => by as_aux_lemma => kernel_rfl)) (fun _ _ => trivial)
  · exact Obl.brings (o_run 5 [] [] (fun _ _ => []) (fun _ _ => by as_aux_lemma => kernel_rfl)) (fun _ _ => trivial)
  · exact Obl.brings (o_run 6 [] [] (fun _ _ => []) (fun _ _ => by as_aux_lemma => kernel_rfl)) (fun _ _ => trivial)
  · exact Obl.brings (o_run 7 [] [] (fun _ _ => []) (fun _ _ => by as_aux_lemma => kernel_rfl)) (fun _ _ => trivial)
theorem codecHex_any_r10 (a : Option Addr) (c : Nat) (B : List UInt8) (S : List UInt8) (hBl : B.length ≤ 140737488351232) (hSl : S.length ≤ 140737488351232) (hb1 : (decide (2000 < (((B).length : Nat) : Int))) = false) (hb2 : (decide (4000 < (((S).length : Nat) : Int))) = true) (hb3 : (decide ((((S).length : Nat) : Int) ≤ 400000)) = false) (ρ7 : Nat → Orc) (ρ8 : Nat → Orc) (ρ9 : Nat → Orc) (w0 : World) : RegF Try.prog 8 (regOps Try.f9 8) false 66 [(0, (.slice a (B).length c)), (4, (.bool false)), (5, (.slice (oa ρ7 1) (uhX S).length (nb ρ7 1))), (6, (.int .i64 (uhE S))), (7, (.slice (oa ρ8 1) (uhX S).length (nb ρ8 1))), (8, (.int .i64 (uhE S))), (9, (.slice (oa ρ9 2) (uhX (hxS B)).length (nb ρ9 2))), (10, (.int .i64 (uhE (hxS B))))] w0 [] (fun w => Bs w a c B ∧ Fs w0 w (oa ρ7 1) (nb ρ7 1) (uhX S) ∧ Fs w0 w (oa ρ8 1) (nb ρ8 1) (uhX S) ∧ Fs w0 w (oa ρ9 2) (nb ρ9 2) (uhX (hxS B)) ∧ True)
    (fun _ => [(4, (.bool true))])
    (fun _ => []) (fun _ => (fun w => Bs w a c B ∧ Fs w0 w (oa ρ7 1) (nb ρ7 1) (uhX S) ∧ Fs w0 w (oa ρ8 1) (nb ρ8 1) (uhX S) ∧ Fs w0 w (oa ρ9 2) (nb ρ9 2) (uhX (hxS B)) ∧ True)) := by
  refine reg_seq_f [0, 1, 3, 7, 15, 31, 63, 127, 255, 511, 1023, 2047, 4095, 8191, 16383, 32767, 65535, 131071, 262143, 524287, 1048575, 2097151, 4194303, 8388607, 16777215] [4] 25
    (fun _ ι => ([(.slice a (B).length c), (.string (strB (hxS B))), (.slice a (B).length c), (.string (strB (hxS B))), (.bool true), (.bool true), (.int .i64 (uhE S)), (.int .i64 (uhE S)), (.bool true), (.bool true), (.bool true), (.slice (oa ρ7 1) (uhX S).length (nb ρ7 1)), (.slice (oa ρ8 1) (uhX S).length (nb ρ8 1)), (.bool true), (.bool true), (.bool true), (.int .i64 (uhE (hxS B))), (.bool true), (.bool true), (.bool true), (.slice (oa ρ9 2) (uhX (hxS B)).length (nb ρ9 2)), (.slice a (B).length c), (.bool true), (.bool true), (.bool true)] : List Value).getD ι undef)
    (fun _ ι => ([{}, {}, {}, {}, {}, {}, {}, {}, {}, {}, {}, {}, {}, {}, {}, {}, {}, {}, {}, {}, {}, {}, {}, {}, {}] : List Eff).getD ι {})
    (fun _ ι => ([(fun _ => True), (fun _ => True), (fun _ => True), (fun _ => True), (fun _ => True), (fun _ => True), (fun _ => True), (fun _ => True), (fun _ => True), (fun _ => True), (fun _ => True), (fun _ => True), (fun _ => True), (fun _ => True), (fun _ => True), (fun _ => True), (fun _ => True), (fun _ => True), (fun _ => True), (fun _ => True), (fun _ => True), (fun _ => True), (fun _ => True), (fun _ => True), (fun _ => True)] : List (World → Prop)).getD ι (fun _ => True))
    (by as_aux_lemma => kernel_rfl) (by as_aux_lemma => kernel_rfl) (fun _ => by as_aux_lemma => kernel_rfl) (fun _ => by as_aux_lemma => kernel_rfl) (fun _ _ hF _ => ⟨hF.1, hF.2.1, hF.2.2.1, hF.2.2.2.1, trivial⟩) ⟨⟨⟨⟨⟨⟨⟨⟨⟨⟨⟨⟨⟨⟨⟨⟨⟨⟨⟨⟨⟨⟨⟨⟨⟨trivial, ?_⟩, ?_⟩, ?_⟩, ?_⟩, ?_⟩, ?_⟩, ?_⟩, ?_⟩, ?_⟩, ?_⟩, ?_⟩, ?_⟩, ?_⟩, ?_⟩, ?_⟩, ?_⟩, ?_⟩, ?_⟩, ?_⟩, ?_⟩, ?_⟩, ?_⟩, ?_⟩, ?_⟩, ?_⟩
  · exact Obl.brings (o_run 0 [] [] (fun _ _ => []) (fun _ _ => by as_aux_lemma => kernel_rfl)) (fun _ _ => trivial)
  · exact o_callP 1 44 (fun _ => #[(.slice a (B).length c)]) (fun _ => (.string (strB (hxS B)))) (fun _ _ => (by as_aux_lemma => kernel_rfl)) (fun _ => (by as_aux_lemma => kernel_rfl)) (fun _ _ => (by as_aux_lemma => kernel_rfl)) (fun _ _ => trivial) (fun _ _ w hG => hex_any a c B (by have := of_decide_eq_false hb1; have := of_decide_eq_true hb2; have := of_decide_eq_false hb3; have := hBl; have := hSl; omega) w hG.facts0.now.1)
  · exact Obl.brings (o_run 2 [] [] (fun _ _ => []) (fun _ _ => by as_aux_lemma => kernel_rfl)) (fun _ _ => trivial)
  · exact o_callP 3 45 (fun _ => #[(.slice a (B).length c)]) (fun _ => (.string (strB (hxS B)))) (fun _ _ => (by as_aux_lemma => kernel_rfl)) (fun _ => (by as_aux_lemma => kernel_rfl)) (fun _ _ => (by as_aux_lemma => kernel_rfl)) (fun _ _ => trivial) (fun _ _ w hG => rhex_any a c B (by have := of_decide_eq_false hb1; have := of_decide_eq_true hb2; have := of_decide_eq_false hb3; have := hBl; have := hSl; omega) w hG.facts0.now.1)
  · exact Obl.brings (o_bin 4 .eql 9 (fun _ => (.string (strB (hxS B)))) (fun _ => (.string (strB (hxS B)))) (fun _ => (.bool true)) (fun _ => by as_aux_lemma => kernel_rfl) (fun _ _ _ _ => by as_aux_lemma => kernel_rfl) (fun _ w => eql_str_same (hxS B) w)) (fun _ _ => trivial)
  · exact Obl.brings (o_run 5 [] [] (fun _ _ => []) (fun _ _ => by as_aux_lemma => kernel_rfl)) (fun _ _ => trivial)
  · exact Obl.brings (o_run 6 [] [] (fun _ _ => []) (fun _ _ => by as_aux_lemma => kernel_rfl)) (fun _ _ => trivial)
  · exact Obl.brings (o_run 7 [] [] (fun _ _ => []) (fun _ _ => by as_aux_lemma => kernel_rfl)) (fun _ _ => trivial)
  · exact Obl.brings (o_as 8 (fun _ => (.bool ((uhE S) == (uhE S)))) (fun _ => (.bool true)) (fun _ _ => by as_aux_lemma => kernel_rfl) (fun _ => congrArg Value.bool (beq_self_eq_true _))) (fun _ _ => trivial)
  · exact Obl.brings (o_run 9 [] [] (fun _ _ => []) (fun _ _ => by as_aux_lemma => kernel_rfl)) (fun _ _ => trivial)
  · exact Obl.brings (o_run 10 [] [] (fun _ _ => []) (fun _ _ => by as_aux_lemma => kernel_rfl)) (fun _ _ => trivial)
  · exact Obl.brings (o_run 11 [] [] (fun _ _ => []) (fun _ _ => by as_aux_lemma => kernel_rfl)) (fun _ _ => trivial)
  · exact Obl.brings (o_run 12 [] [] (fun _ _ => []) (fun _ _ => by as_aux_lemma => kernel_rfl)) (fun _ _ => trivial)
  · exact o_callP 13 16 (fun _ => #[(.slice (oa ρ7 1) (uhX S).length (nb ρ7 1)), (.slice (oa ρ8 1) (uhX S).length (nb ρ8 1))]) (fun _ => (.bool true)) (fun _ _ => (by as_aux_lemma => kernel_rfl)) (fun _ => (by as_aux_lemma => kernel_rfl)) (fun _ _ => (by as_aux_lemma => kernel_rfl)) (fun _ _ => trivial) (fun _ _ w hG => same_eq (oa ρ7 1) (nb ρ7 1) (uhX S) (oa ρ8 1) (nb ρ8 1) w hG.facts0.now.2.1.1 hG.facts0.now.2.2.1.1)
  · exact Obl.brings (o_run 14 [] [] (fun _ _ => []) (fun _ _ => by as_aux_lemma => kernel_rfl)) (fun _ _ => trivial)
  · exact Obl.brings (o_run 15 [] [] (fun _ _ => []) (fun _ _ => by as_aux_lemma => kernel_rfl)) (fun _ _ => trivial)
  · exact Obl.brings (o_run 16 [] [] (fun _ _ => []) (fun _ _ => by as_aux_lemma => kernel_rfl)) (fun _ _ => trivial)
  · exact Obl.brings (o_as 17 (fun _ => (.bool ((uhE (hxS B)) == 0))) (fun _ => (.bool true)) (fun _ _ => by as_aux_lemma => kernel_rfl) (fun _ => congrArg Value.bool (beq_zeroI (hx_back_e (by have := of_decide_eq_false hb1; have := of_decide_eq_true hb2; have := of_decide_eq_false hb3; have := hBl; have := hSl; omega))))) (fun _ _ => trivial)
  · exact Obl.brings (o_run 18 [] [] (fun _ _ => []) (fun _ _ => by as_aux_lemma => kernel_rfl)) (fun _ _ => trivial)
  · exact Obl.brings (o_run 19 [] [] (fun _ _ => []) (fun _ _ => by as_aux_lemma => kernel_rfl)) (fun _ _ => trivial)
  · exact Obl.brings (o_run 20 [] [] (fun _ _ => []) (fun _ _ => by as_aux_lemma => kernel_rfl)) (fun _ _ => trivial)
  · exact Obl.brings (o_run 21 [] [] (fun _ _ => []) (fun _ _ => by as_aux_lemma => kernel_rfl)) (fun _ _ => trivial)
  · exact o_callP 22 16 (fun _ => #[(.slice (oa ρ9 2) (uhX (hxS B)).length (nb ρ9 2)), (.slice a (B).length c)]) (fun _ => (.bool true)) (fun _ _ => (by as_aux_lemma => kernel_rfl)) (fun _ => (by as_aux_lemma => kernel_rfl)) (fun _ _ => (by as_aux_lemma => kernel_rfl)) (fun _ _ => trivial) (fun _ _ w hG => (by as_aux_lemma => (have h := same_any (oa ρ9 2) (nb ρ9 2) (uhX (hxS B)) a c B w hG.facts0.now.2.2.2.1.1 hG.facts0.now.1; rw [(decide_eq_true (hx_back_x (by have := of_decide_eq_false hb1; have := of_decide_eq_true hb2; have := of_decide_eq_false hb3; have := hBl; have := hSl; omega)))] at h; exact h)))
  · exact Obl.brings (o_run 23 [] [] (fun _ _ => []) (fun _ _ => by as_aux_lemma => kernel_rfl)) (fun _ _ => trivial)
  · exact Obl.brings (o_run 24 [] [] (fun _ _ => []) (fun _ _ => by as_aux_lemma => kernel_rfl)) (fun _ _ => trivial)
theorem codecHex_any_r11 (a : Option Addr) (c : Nat) (B : List UInt8) (S : List UInt8) (hb1 : (decide (2000 < (((B).length : Nat) : Int))) = false) (hb2 : (decide (4000 < (((S).length : Nat) : Int))) = false) (w0 : World) (F : World → Prop) : Reg Try.prog 3 (regOps Try.f9 3) false 66 [(0, (.slice a (B).length c)), (1, (.string (strB S))), (4, (.bool false)), (12, (.bool false))] w0 [] F
    (fun _ => [(0, (.slice a (B).length c)), (1, (.string (strB S))), (4, (.bool false)), (25, (.bool false))])
    (fun _ => []) := by
  refine reg_seq [0, 1, 3, 7, 15, 31, 63, 127, 255, 511, 1023, 2047, 4095] [0, 1, 4, 25] 13
    (fun _ ι => ([(.slice a (B).length c), (.int .i64 (((B).length : Nat) : Int)), (.bool false), (.bool false), (.string (strB S)), (.int .i64 (((S).length : Nat) : Int)), (.bool false), (.bool false), undef, undef, undef, (.bool false), (.bool false)] : List Value).getD ι undef)
    (fun _ ι => ([{}, {}, {}, {}, {}, {}, {}, {}, {}, {}, {}, {}, {}] : List Eff).getD ι {})
    (by as_aux_lemma => kernel_rfl) (by as_aux_lemma => kernel_rfl) (fun _ => by as_aux_lemma => kernel_rfl) (fun _ => by as_aux_lemma => kernel_rfl) ⟨⟨⟨⟨⟨⟨⟨⟨⟨⟨⟨⟨⟨trivial, ?_⟩, ?_⟩, ?_⟩, ?_⟩, ?_⟩, ?_⟩, ?_⟩, ?_⟩, ?_⟩, ?_⟩, ?_⟩, ?_⟩, ?_⟩
  · exact o_run 0 [] [] (fun _ _ => []) (fun _ _ => by as_aux_lemma => kernel_rfl)
  · exact o_run 1 [] [] (fun _ _ => []) (fun _ _ => by as_aux_lemma => kernel_rfl)
  · exact o_as 2 (fun _ => (.bool (decide (2000 < (((B).length : Nat) : Int))))) (fun _ => (.bool false)) (fun _ _ => by as_aux_lemma => kernel_rfl) (fun _ => congrArg Value.bool hb1)
  · exact o_run 3 [] [] (fun _ _ => []) (fun _ _ => by as_aux_lemma => kernel_rfl)
  · exact o_run 4 [] [] (fun _ _ => []) (fun _ _ => by as_aux_lemma => kernel_rfl)
  · exact o_run 5 [] [] (fun _ _ => []) (fun _ _ => by as_aux_lemma => kernel_rfl)
  · exact o_as 6 (fun _ => (.bool (decide (4000 < (((S).length : Nat) : Int))))) (fun _ => (.bool false)) (fun _ _ => by as_aux_lemma => kernel_rfl) (fun _ => congrArg Value.bool hb2)
  · exact o_run 7 [] [] (fun _ _ => []) (fun _ _ => by as_aux_lemma => kernel_rfl)
  · exact o_skip 8 (fun _ => by as_aux_lemma => kernel_rfl)
  · exact o_skip 9 (fun _ => by as_aux_lemma => kernel_rfl)
  · exact o_skip 10 (fun _ => by as_aux_lemma => kernel_rfl)
  · exact o_run 11 [] [] (fun _ _ => []) (fun _ _ => by as_aux_lemma => kernel_rfl)
  · exact o_run 12 [] [] (fun _ _ => []) (fun _ _ => by as_aux_lemma => kernel_rfl)
theorem codecHex_any_r12 (a : Option Addr) (c : Nat) (B : List UInt8) (S : List UInt8) (w0 : World) : RegF Try.prog 5 (regOps Try.f9 5) false 66 [(0, (.slice a (B).length c)), (1, (.string (strB S))), (4, (.bool false)), (25, (.bool false))] w0 [] (fun w => Bs w a c B ∧ True)
    (fun ρ => [(0, (.slice a (B).length c)), (1, (.string (strB S))), (4, (.bool false)), (5, (.slice (oa ρ 1) (uhX S).length (nb ρ 1))), (6, (.int .i64 (uhE S)))])
    (fun _ => []) (fun ρ => (fun w => Bs w a c B ∧ Fs w0 w (oa ρ 1) (nb ρ 1) (uhX S) ∧ True)) := by
  refine reg_seq_f [0, 1, 3, 7, 15, 31, 63] [0, 1, 4, 5, 6] 7
    (fun ρ ι => ([(.string (strB S)), (.tuple #[(.slice (oa ρ 1) (uhX S).length (nb ρ 1)), (.int .i64 (uhE S))]), (.tuple #[(.slice (oa ρ 1) (uhX S).length (nb ρ 1)), (.int .i64 (uhE S))]), (.slice (oa ρ 1) (uhX S).length (nb ρ 1)), (.int .i64 (uhE S)), (.slice (oa ρ 1) (uhX S).length (nb ρ 1)), (.int .i64 (uhE S))] : List Value).getD ι undef)
    (fun _ ι => ([{}, {}, {}, {}, {}, {}, {}] : List Eff).getD ι {})
    (fun ρ ι => ([(fun _ => True), (fun w => Fs w0 w (oa ρ 1) (nb ρ 1) (uhX S)), (fun _ => True), (fun _ => True), (fun _ => True), (fun _ => True), (fun _ => True)] : List (World → Prop)).getD ι (fun _ => True))
    (by as_aux_lemma => kernel_rfl) (by as_aux_lemma => kernel_rfl) (fun _ => by as_aux_lemma => kernel_rfl) (fun _ => by as_aux_lemma => kernel_rfl) (fun _ _ hF hf => ⟨hF.1, hf 1 (by omega), trivial⟩) ⟨⟨⟨⟨⟨⟨⟨trivial, ?_⟩, ?_⟩, ?_⟩, ?_⟩, ?_⟩, ?_⟩, ?_⟩
  · exact Obl.brings (o_run 0 [] [] (fun _ _ => []) (fun _ _ => by as_aux_lemma => kernel_rfl)) (fun _ _ => trivial)
  · exact o_callB 1 42 (fun _ => #[(.string (strB S))]) (fun _ α κ => (.tuple #[(.slice α (uhX S).length κ), (.int .i64 (uhE S))])) (fun _ => uhX S) (fun _ _ => (by as_aux_lemma => kernel_rfl)) (fun _ _ => (by as_aux_lemma => kernel_rfl)) (fun _ _ => (by as_aux_lemma => kernel_rfl)) (fun _ _ => (by as_aux_lemma => kernel_rfl)) (fun _ _ w _ => unhex_any S w )
  · exact Obl.brings (o_run 2 [] [] (fun _ _ => []) (fun _ _ => by as_aux_lemma => kernel_rfl)) (fun _ _ => trivial)
  · exact Obl.brings (o_run 3 [] [] (fun _ _ => []) (fun _ _ => by as_aux_lemma => kernel_rfl)) (fun _ _ => trivial)
  · exact Obl.brings (o_run 4 [] [] (fun _ _ => []) (fun _ _ => by as_aux_lemma => kernel_rfl)) (fun _ _ => trivial)
  · exact Obl.brings (o_run 5 [] [] (fun _ _ => []) (fun _ _ => by as_aux_lemma => kernel_rfl)) (fun _ _ => trivial)
  · exact Obl.brings (o_run 6 [] [] (fun _ _ => []) (fun _ _ => by as_aux_lemma => kernel_rfl)) (fun _ _ => trivial)
theorem codecHex_any_r13 (a : Option Addr) (c : Nat) (B : List UInt8) (S : List UInt8) (ρ12 : Nat → Orc) (w0 : World) : RegF Try.prog 6 (regOps Try.f9 6) false 66 [(0, (.slice a (B).length c)), (1, (.string (strB S))), (4, (.bool false)), (5, (.slice (oa ρ12 1) (uhX S).length (nb ρ12 1))), (6, (.int .i64 (uhE S)))] w0 [] (fun w => Bs w a c B ∧ Fs w0 w (oa ρ12 1) (nb ρ12 1) (uhX S) ∧ True)
    (fun ρ => [(0, (.slice a (B).length c)), (4, (.bool false)), (5, (.slice (oa ρ12 1) (uhX S).length (nb ρ12 1))), (6, (.int .i64 (uhE S))), (7, (.slice (oa ρ 1) (uhX S).length (nb ρ 1))), (8, (.int .i64 (uhE S)))])
    (fun _ => []) (fun ρ => (fun w => Bs w a c B ∧ Fs w0 w (oa ρ12 1) (nb ρ12 1) (uhX S) ∧ Fs w0 w (oa ρ 1) (nb ρ 1) (uhX S) ∧ True)) := by
  refine reg_seq_f [0, 1, 3, 7, 15, 31, 63] [0, 4, 5, 6, 7, 8] 7
    (fun ρ ι => ([(.string (strB S)), (.tuple #[(.slice (oa ρ 1) (uhX S).length (nb ρ 1)), (.int .i64 (uhE S))]), (.tuple #[(.slice (oa ρ 1) (uhX S).length (nb ρ 1)), (.int .i64 (uhE S))]), (.slice (oa ρ 1) (uhX S).length (nb ρ 1)), (.int .i64 (uhE S)), (.slice (oa ρ 1) (uhX S).length (nb ρ 1)), (.int .i64 (uhE S))] : List Value).getD ι undef)
    (fun _ ι => ([{}, {}, {}, {}, {}, {}, {}] : List Eff).getD ι {})
    (fun ρ ι => ([(fun _ => True), (fun w => Fs w0 w (oa ρ 1) (nb ρ 1) (uhX S)), (fun _ => True), (fun _ => True), (fun _ => True), (fun _ => True), (fun _ => True)] : List (World → Prop)).getD ι (fun _ => True))
    (by as_aux_lemma => kernel_rfl) (by as_aux_lemma => kernel_rfl) (fun _ => by as_aux_lemma => kernel_rfl) (fun _ => by as_aux_lemma => kernel_rfl) (fun _ _ hF hf => ⟨hF.1, hF.2.1, hf 1 (by omega), trivial⟩) ⟨⟨⟨⟨⟨⟨⟨trivial, ?_⟩, ?_⟩, ?_⟩, ?_⟩, ?_⟩, ?_⟩, ?_⟩
  · exact Obl.brings (o_run 0 [] [] (fun _ _ => []) (fun _ _ => by as_aux_lemma => kernel_rfl)) (fun _ _ => trivial)
  · exact o_callB 1 43 (fun _ => #[(.string (strB S))]) (fun _ α κ => (.tuple #[(.slice α (uhX S).length κ), (.int .i64 (uhE S))])) (fun _ => uhX S) (fun _ _ => (by as_aux_lemma => kernel_rfl)) (fun _ _ => (by as_aux_lemma => kernel_rfl)) (fun _ _ => (by as_aux_lemma => kernel_rfl)) (fun _ _ => (by as_aux_lemma => kernel_rfl)) (fun _ _ w _ => runhex_any S w )
  · exact Obl.brings (o_run 2 [] [] (fun _ _ => []) (fun _ _ => by as_aux_lemma => kernel_rfl)) (fun _ _ => trivial)
  · exact Obl.brings (o_run 3 [] [] (fun _ _ => []) (fun _ _ => by as_aux_lemma => kernel_rfl)) (fun _ _ => trivial)
  · exact Obl.brings (o_run 4 [] [] (fun _ _ => []) (fun _ _ => by as_aux_lemma => kernel_rfl)) (fun _ _ => trivial)
  · exact Obl.brings (o_run 5 [] [] (fun _ _ => []) (fun _ _ => by as_aux_lemma => kernel_rfl)) (fun _ _ => trivial)
  · exact Obl.brings (o_run 6 [] [] (fun _ _ => []) (fun _ _ => by as_aux_lemma => kernel_rfl)) (fun _ _ => trivial)
theorem codecHex_any_r14 (a : Option Addr) (c : Nat) (B : List UInt8) (S : List UInt8) (hBl : B.length ≤ 140737488351232) (hSl : S.length ≤ 140737488351232) (hb1 : (decide (2000 < (((B).length : Nat) : Int))) = false) (hb2 : (decide (4000 < (((S).length : Nat) : Int))) = false) (ρ12 : Nat → Orc) (ρ13 : Nat → Orc) (w0 : World) : RegF Try.prog 7 (regOps Try.f9 7) false 66 [(0, (.slice a (B).length c)), (4, (.bool false)), (5, (.slice (oa ρ12 1) (uhX S).length (nb ρ12 1))), (6, (.int .i64 (uhE S))), (7, (.slice (oa ρ13 1) (uhX S).length (nb ρ13 1))), (8, (.int .i64 (uhE S)))] w0 [] (fun w => Bs w a c B ∧ Fs w0 w (oa ρ12 1) (nb ρ12 1) (uhX S) ∧ Fs w0 w (oa ρ13 1) (nb ρ13 1) (uhX S) ∧ True)
    (fun ρ => [(0, (.slice a (B).length c)), (4, (.bool false)), (5, (.slice (oa ρ12 1) (uhX S).length (nb ρ12 1))), (6, (.int .i64 (uhE S))), (7, (.slice (oa ρ13 1) (uhX S).length (nb ρ13 1))), (8, (.int .i64 (uhE S))), (9, (.slice (oa ρ 2) (uhX (hxS B)).length (nb ρ 2))), (10, (.int .i64 (uhE (hxS B))))])
    (fun _ => []) (fun ρ => (fun w => Bs w a c B ∧ Fs w0 w (oa ρ12 1) (nb ρ12 1) (uhX S) ∧ Fs w0 w (oa ρ13 1) (nb ρ13 1) (uhX S) ∧ Fs w0 w (oa ρ 2) (nb ρ 2) (uhX (hxS B)) ∧ True)) := by
  refine reg_seq_f [0, 1, 3, 7, 15, 31, 63, 127] [0, 4, 5, 6, 7, 8, 9, 10] 8
    (fun ρ ι => ([(.slice a (B).length c), (.string (strB (hxS B))), (.tuple #[(.slice (oa ρ 2) (uhX (hxS B)).length (nb ρ 2)), (.int .i64 (uhE (hxS B)))]), (.tuple #[(.slice (oa ρ 2) (uhX (hxS B)).length (nb ρ 2)), (.int .i64 (uhE (hxS B)))]), (.slice (oa ρ 2) (uhX (hxS B)).length (nb ρ 2)), (.int .i64 (uhE (hxS B))), (.slice (oa ρ 2) (uhX (hxS B)).length (nb ρ 2)), (.int .i64 (uhE (hxS B)))] : List Value).getD ι undef)
    (fun _ ι => ([{}, {}, {}, {}, {}, {}, {}, {}] : List Eff).getD ι {})
    (fun ρ ι => ([(fun _ => True), (fun _ => True), (fun w => Fs w0 w (oa ρ 2) (nb ρ 2) (uhX (hxS B))), (fun _ => True), (fun _ => True), (fun _ => True), (fun _ => True), (fun _ => True)] : List (World → Prop)).getD ι (fun _ => True))
    (by as_aux_lemma => kernel_rfl) (by as_aux_lemma => kernel_rfl) (fun _ => by as_aux_lemma => kernel_rfl) (fun _ => by as_aux_lemma => kernel_rfl) (fun _ _ hF hf => ⟨hF.1, hF.2.1, hF.2.2.1, hf 2 (by omega), trivial⟩) ⟨⟨⟨⟨⟨⟨⟨⟨trivial, ?_⟩, ?_⟩, ?_⟩, ?_⟩, ?_⟩, ?_⟩, ?_⟩, ?_⟩
  · exact Obl.brings (o_run 0 [] [] (fun _ _ => []) (fun _ _ => by as_aux_lemma => kernel_rfl)) (fun _ _ => trivial)
  · exact o_callP 1 44 (fun _ => #[(.slice a (B).length c)]) (fun _ => (.string (strB (hxS B)))) (fun _ _ => (by as_aux_lemma => kernel_rfl)) (fun _ => (by as_aux_lemma => kernel_rfl)) (fun _ _ => (by as_aux_lemma => kernel_rfl)) (fun _ _ => trivial) (fun _ _ w hG => hex_any a c B (by have := of_decide_eq_false hb1; have := of_decide_eq_false hb2; have := hBl; have := hSl; omega) w hG.facts0.now.1)
  · exact o_callB 2 42 (fun _ => #[(.string (strB (hxS B)))]) (fun _ α κ => (.tuple #[(.slice α (uhX (hxS B)).length κ), (.int .i64 (uhE (hxS B)))])) (fun _ => uhX (hxS B)) (fun _ _ => (by as_aux_lemma => kernel_rfl)) (fun _ _ => (by as_aux_lemma => kernel_rfl)) (fun _ _ => (by as_aux_lemma => kernel_rfl)) (fun _ _ => (by as_aux_lemma => kernel_rfl)) (fun _ _ w _ => unhex_any (hxS B) w )
  · exact Obl.brings (o_run 3 [] [] (fun _ _ => []) (fun _ _ => by as_aux_lemma => kernel_rfl)) (fun _ _ => trivial)
  · exact Obl.brings (o_run 4 [] [] (fun _ _ => []) (fun _ _ => by as_aux_lemma => kernel_rfl)) (fun _ _ => trivial)
  · exact Obl.brings (o_run 5 [] [] (fun _ _ => []) (fun _ _ => by as_aux_lemma => kernel_rfl)) (fun _ _ => trivial)
  · exact Obl.brings (o_run 6 [] [] (fun _ _ => []) (fun _ _ => by as_aux_lemma => kernel_rfl)) (fun _ _ => trivial)
  · exact Obl.brings (o_run 7 [] [] (fun _ _ => []) (fun _ _ => by as_aux_lemma => kernel_rfl)) (fun _ _ => trivial)
theorem codecHex_any_r15 (a : Option Addr) (c : Nat) (B : List UInt8) (S : List UInt8) (hBl : B.length ≤ 140737488351232) (hSl : S.length ≤ 140737488351232) (hb1 : (decide (2000 < (((B).length : Nat) : Int))) = false) (hb2 : (decide (4000 < (((S).length : Nat) : Int))) = false) (ρ12 : Nat → Orc) (ρ13 : Nat → Orc) (ρ14 : Nat → Orc) (w0 : World) : RegF Try.prog 8 (regOps Try.f9 8) false 66 [(0, (.slice a (B).length c)), (4, (.bool false)), (5, (.slice (oa ρ12 1) (uhX S).length (nb ρ12 1))), (6, (.int .i64 (uhE S))), (7, (.slice (oa ρ13 1) (uhX S).length (nb ρ13 1))), (8, (.int .i64 (uhE S))), (9, (.slice (oa ρ14 2) (uhX (hxS B)).length (nb ρ14 2))), (10, (.int .i64 (uhE (hxS B))))] w0 [] (fun w => Bs w a c B ∧ Fs w0 w (oa ρ12 1) (nb ρ12 1) (uhX S) ∧ Fs w0 w (oa ρ13 1) (nb ρ13 1) (uhX S) ∧ Fs w0 w (oa ρ14 2) (nb ρ14 2) (uhX (hxS B)) ∧ True)
    (fun _ => [(4, (.bool true))])
    (fun _ => []) (fun _ => (fun w => Bs w a c B ∧ Fs w0 w (oa ρ12 1) (nb ρ12 1) (uhX S) ∧ Fs w0 w (oa ρ13 1) (nb ρ13 1) (uhX S) ∧ Fs w0 w (oa ρ14 2) (nb ρ14 2) (uhX (hxS B)) ∧ True)) := by
  refine reg_seq_f [0, 1, 3, 7, 15, 31, 63, 127, 255, 511, 1023, 2047, 4095, 8191, 16383, 32767, 65535, 131071, 262143, 524287, 1048575, 2097151, 4194303, 8388607, 16777215] [4] 25
    (fun _ ι => ([(.slice a (B).length c), (.string (strB (hxS B))), (.slice a (B).length c), (.string (strB (hxS B))), (.bool true), (.bool true), (.int .i64 (uhE S)), (.int .i64 (uhE S)), (.bool true), (.bool true), (.bool true), (.slice (oa ρ12 1) (uhX S).length (nb ρ12 1)), (.slice (oa ρ13 1) (uhX S).length (nb ρ13 1)), (.bool true), (.bool true), (.bool true), (.int .i64 (uhE (hxS B))), (.bool true), (.bool true), (.bool true), (.slice (oa ρ14 2) (uhX (hxS B)).length (nb ρ14 2)), (.slice a (B).length c), (.bool true), (.bool true), (.bool true)] : List Value).getD ι undef)
    (fun _ ι => ([{}, {}, {}, {}, {}, {}, {}, {}, {}, {}, {}, {}, {}, {}, {}, {}, {}, {}, {}, {}, {}, {}, {}, {}, {}] : List Eff).getD ι {})
    (fun _ ι => ([(fun _ => True), (fun _ => True), (fun _ => True), (fun _ => True), (fun _ => True), (fun _ => True), (fun _ => True), (fun _ => True), (fun _ => True), (fun _ => True), (fun _ => True), (fun _ => True), (fun _ => True), (fun _ => True), (fun _ => True), (fun _ => True), (fun _ => True), (fun _ => True), (fun _ => True), (fun _ => True), (fun _ => True), (fun _ => True), (fun _ => True), (fun _ => True), (fun _ => True)] : List (World → Prop)).getD ι (fun _ => True))
    (by as_aux_lemma => kernel_rfl) (by as_aux_lemma => kernel_rfl) (fun _ => by as_aux_lemma => kernel_rfl) (fun _ => by as_aux_lemma => kernel_rfl) (fun _ _ hF _ => ⟨hF.1, hF.2.1, hF.2.2.1, hF.2.2.2.1, trivial⟩) ⟨⟨⟨⟨⟨⟨⟨⟨⟨⟨⟨⟨⟨⟨⟨⟨⟨⟨⟨⟨⟨⟨⟨⟨⟨trivial, ?_⟩, ?_⟩, ?_⟩, ?_⟩, ?_⟩, ?_⟩, ?_⟩, ?_⟩, ?_⟩, ?_⟩, ?_⟩, ?_⟩, ?_⟩, ?_⟩, ?_⟩, ?_⟩, ?_⟩, ?_⟩, ?_⟩, ?_⟩, ?_⟩, ?_⟩, ?_⟩, ?_⟩, ?_⟩
  · exact Obl.brings (o_run 0 [] [] (fun _ _ => []) (fun _ _ => by as_aux_lemma => kernel_rfl)) (fun _ _ => trivial)
  · exact o_callP 1 44 (fun _ => #[(.slice a (B).length c)]) (fun _ => (.string (strB (hxS B)))) (fun _ _ => (by as_aux_lemma => kernel_rfl)) (fun _ => (by as_aux_lemma => kernel_rfl)) (fun _ _ => (by as_aux_lemma => kernel_rfl)) (fun _ _ => trivial) (fun _ _ w hG => hex_any a c B (by have := of_decide_eq_false hb1; have := of_decide_eq_false hb2; have := hBl; have := hSl; omega) w hG.facts0.now.1)
  · exact Obl.brings (o_run 2 [] [] (fun _ _ => []) (fun _ _ => by as_aux_lemma => kernel_rfl)) (fun _ _ => trivial)
  · exact o_callP 3 45 (fun _ => #[(.slice a (B).length c)]) (fun _ => (.string (strB (hxS B)))) (fun _ _ => (by as_aux_lemma => kernel_rfl)) (fun _ => (by as_aux_lemma => kernel_rfl)) (fun _ _ => (by as_aux_lemma => kernel_rfl)) (fun _ _ => trivial) (fun _ _ w hG => rhex_any a c B (by have := of_decide_eq_false hb1; have := of_decide_eq_false hb2; have := hBl; have := hSl; omega) w hG.facts0.now.1)
  · exact Obl.brings (o_bin 4 .eql 9 (fun _ => (.string (strB (hxS B)))) (fun _ => (.string (strB (hxS B)))) (fun _ => (.bool true)) (fun _ => by as_aux_lemma => kernel_rfl) (fun _ _ _ _ => by as_aux_lemma => kernel_rfl) (fun _ w => eql_str_same (hxS B) w)) (fun _ _ => trivial)
  · exact Obl.brings (o_run 5 [] [] (fun _ _ => []) (fun _ _ => by as_aux_lemma => kernel_rfl)) (fun _ _ => trivial)
  · exact Obl.brings (o_run 6 [] [] (fun _ _ => []) (fun _ _ => by as_aux_lemma => kernel_rfl)) (fun _ _ => trivial)
  · exact Obl.brings (o_run 7 [] [] (fun _ _ => []) (fun _ _ => by as_aux_lemma => kernel_rfl)) (fun _ _ => trivial)
  · exact Obl.brings (o_as 8 (fun _ => (.bool ((uhE S) == (uhE S)))) (fun _ => (.bool true)) (fun _ _ => by as_aux_lemma => kernel_rfl) (fun _ => congrArg Value.bool (beq_self_eq_true _))) (fun _ _ => trivial)
  · exact Obl.brings (o_run 9 [] [] (fun _ _ => []) (fun _ _ => by as_aux_lemma => kernel_rfl)) (fun _ _ => trivial)
  · exact Obl.brings (o_run 10 [] [] (fun _ _ => []) (fun _ _ => by as_aux_lemma => kernel_rfl)) (fun _ _ => trivial)
  · exact Obl.brings (o_run 11 [] [] (fun _ _ => []) (fun _ _ => by as_aux_lemma => kernel_rfl)) (fun _ _ => trivial)
  · exact Obl.brings (o_run 12 [] [] (fun _ _ => []) (fun _ _ => by as_aux_lemma => kernel_rfl)) (fun _ _ => trivial)
  · exact o_callP 13 16 (fun _ => #[(.slice (oa ρ12 1) (uhX S).length (nb ρ12 1)), (.slice (oa ρ13 1) (uhX S).length (nb ρ13 1))]) (fun _ => (.bool true)) (fun _ _ => (by as_aux_lemma => kernel_rfl)) (fun _ => (by as_aux_lemma => kernel_rfl)) (fun _ _ => (by as_aux_lemma => kernel_rfl)) (fun _ _ => trivial) (fun _ _ w hG => same_eq (oa ρ12 1) (nb ρ12 1) (uhX S) (oa ρ13 1) (nb ρ13 1) w hG.facts0.now.2.1.1 hG.facts0.now.2.2.1.1)
  · exact Obl.brings (o_run 14 [] [] (fun _ _ => []) (fun _ _ => by as_aux_lemma => kernel_rfl)) (fun _ _ => trivial)
  · exact Obl.brings (o_run 15 [] [] (fun _ _ => []) (fun _ _ => by as_aux_lemma => kernel_rfl)) (fun _ _ => trivial)
  · exact Obl.brings (o_run 16 [] [] (fun _ _ => []) (fun _ _ => by as_aux_lemma => kernel_rfl)) (fun _ _ => trivial)
  · exact Obl.brings (o_as 17 (fun _ => (.bool ((uhE (hxS B)) == 0))) (fun _ => (.bool true)) (fun _ _ => by as_aux_lemma => kernel_rfl) (fun _ => congrArg Value.bool (beq_zeroI (hx_back_e (by have := of_decide_eq_false hb1; have := of_decide_eq_false hb2; have := hBl; have := hSl; omega))))) (fun _ _ => trivial)
  · exact Obl.brings (o_run 18 [] [] (fun _ _ => []) (fun _ _ => by as_aux_lemma => kernel_rfl)) (fun _ _ => trivial)
  · exact Obl.brings (o_run 19 [] [] (fun _ _ => []) (fun _ _ => by as_aux_lemma => kernel_rfl)) (fun _ _ => trivial)
  · exact Obl.brings (o_run 20 [] [] (fun _ _ => []) (fun _ _ => by as_aux_lemma => kernel_rfl)) (fun _ _ => trivial)
  · exact Obl.brings (o_run 21 [] [] (fun _ _ => []) (fun _ _ => by as_aux_lemma => kernel_rfl)) (fun _ _ => trivial)
  · exact o_callP 22 16 (fun _ => #[(.slice (oa ρ14 2) (uhX (hxS B)).length (nb ρ14 2)), (.slice a (B).length c)]) (fun _ => (.bool true)) (fun _ _ => (by as_aux_lemma => kernel_rfl)) (fun _ => (by as_aux_lemma => kernel_rfl)) (fun _ _ => (by as_aux_lemma => kernel_rfl)) (fun _ _ => trivial) (fun _ _ w hG => (by as_aux_lemma => (have h := same_any (oa ρ14 2) (nb ρ14 2) (uhX (hxS B)) a c B w hG.facts0.now.2.2.2.1.1 hG.facts0.now.1; rw [(decide_eq_true (hx_back_x (by have := of_decide_eq_false hb1; have := of_decide_eq_false hb2; have := hBl; have := hSl; omega)))] at h; exact h)))
  · exact Obl.brings (o_run 23 [] [] (fun _ _ => []) (fun _ _ => by as_aux_lemma => kernel_rfl)) (fun _ _ => trivial)
  · exact Obl.brings (o_run 24 [] [] (fun _ _ => []) (fun _ _ => by as_aux_lemma => kernel_rfl)) (fun _ _ => trivial)
theorem codecHex_any (a : Option Addr) (c : Nat) (B : List UInt8) (S : List UInt8) (hBl : B.length ≤ 140737488351232) (hSl : S.length ≤ 140737488351232) (w0 : World) (hf0 : Bs w0 a c B) : Calls Try.prog 9 #[(.slice a (B).length c), (.string (strB S))] w0 (fun ε w' => ε = .returned (.bool true) ∧ Below w0.heap.size w0 w') := by
  refine Calls.of_ok (n := 66) (F := (fun w => Bs w a c B ∧ True)) Try.func9 rfl rfl rfl (by simp) (hf0.pers0.and persT) ?_
  refine ok_seq_r (by as_aux_lemma => kernel_rfl) (codecHex_any_r1 a c B S _ _) (fun _ => ?_)
  refine ok_seq ?_
  refine ok_seq_r (by as_aux_lemma => kernel_rfl) (codecHex_any_r2 a c B S _ _) (fun _ => ?_)
  refine ok_no (by as_aux_lemma => kernel_rfl) ?_
  refine ok_skip ?_
  refine mt_then ?_
  refine ok_seq ?_
  rcases Bool.eq_false_or_eq_true (decide (2000 < (((B).length : Nat) : Int))) with hb1 | hb1
  ·
    refine ok_seq_r (by as_aux_lemma => kernel_rfl) (codecHex_any_r3 a c B S hb1 _ _) (fun _ => ?_)
    refine ok_yes (by as_aux_lemma => kernel_rfl) ?_
    refine ok_seq_r (by as_aux_lemma => kernel_rfl) (codecHex_any_r4 a c B S _ _) (fun _ => ?_)
    refine ok_ret ?_
    refine mt_then_r ?_
    exact meets_ret (v := (.bool true)) [] (dup []) (by as_aux_lemma => kernel_rfl) (by as_aux_lemma => kernel_rfl) (eqs_dup _) (fun _ hS => ⟨rfl, hS.below⟩)
  ·
    rcases Bool.eq_false_or_eq_true (decide (4000 < (((S).length : Nat) : Int))) with hb2 | hb2
    ·
      refine ok_seq_r (by as_aux_lemma => kernel_rfl) (codecHex_any_r5 a c B S hb1 hb2 _ _) (fun _ => ?_)
      refine ok_cond (b := decide ((((S).length : Nat) : Int) ≤ 400000)) (by as_aux_lemma => kernel_rfl) (fun hb3 => ?_) (fun hb3 => ?_)
      ·
        rw [hb3]
        refine ok_seq_r (by as_aux_lemma => kernel_rfl) (codecHex_any_r6 a c B S _ _) (fun _ => ?_)
        refine ok_ret ?_
        refine mt_then_r ?_
        exact meets_ret (v := (.bool true)) [] (dup []) (by as_aux_lemma => kernel_rfl) (by as_aux_lemma => kernel_rfl) (eqs_dup _) (fun _ hS => ⟨rfl, hS.below⟩)
      ·
        rw [hb3]
        refine ok_skip ?_
        refine mt_then ?_
        refine ok_seq_rf (by as_aux_lemma => kernel_rfl) (codecHex_any_r7 a c B S _) (fun ρ7 => ?_)
        refine ok_seq_rf (by as_aux_lemma => kernel_rfl) (codecHex_any_r8 a c B S ρ7 _) (fun ρ8 => ?_)
        refine ok_seq_rf (by as_aux_lemma => kernel_rfl) (codecHex_any_r9 a c B S hBl hSl hb1 hb2 hb3 ρ7 ρ8 _) (fun ρ9 => ?_)
        refine ok_seq_rf (by as_aux_lemma => kernel_rfl) (codecHex_any_r10 a c B S hBl hSl hb1 hb2 hb3 ρ7 ρ8 ρ9 _) (fun _ => ?_)
        refine ok_ret ?_
        exact meets_ret (v := (.bool true)) [] (dup []) (by as_aux_lemma => kernel_rfl) (by as_aux_lemma => kernel_rfl) (eqs_dup _) (fun _ hS => ⟨rfl, hS.below⟩)
    ·
      refine ok_seq_r (by as_aux_lemma => kernel_rfl) (codecHex_any_r11 a c B S hb1 hb2 _ _) (fun _ => ?_)
      refine ok_no (by as_aux_lemma => kernel_rfl) ?_
      refine ok_skip ?_
      refine mt_then ?_
      refine ok_seq_rf (by as_aux_lemma => kernel_rfl) (codecHex_any_r12 a c B S _) (fun ρ12 => ?_)
      refine ok_seq_rf (by as_aux_lemma => kernel_rfl) (codecHex_any_r13 a c B S ρ12 _) (fun ρ13 => ?_)
      refine ok_seq_rf (by as_aux_lemma => kernel_rfl) (codecHex_any_r14 a c B S hBl hSl hb1 hb2 ρ12 ρ13 _) (fun ρ14 => ?_)
      refine ok_seq_rf (by as_aux_lemma => kernel_rfl) (codecHex_any_r15 a c B S hBl hSl hb1 hb2 ρ12 ρ13 ρ14 _) (fun _ => ?_)
      refine ok_ret ?_
      exact meets_ret (v := (.bool true)) [] (dup []) (by as_aux_lemma => kernel_rfl) (by as_aux_lemma => kernel_rfl) (eqs_dup _) (fun _ hS => ⟨rfl, hS.below⟩)
end Go.Proofs.Ytclccfibfkcagaa
