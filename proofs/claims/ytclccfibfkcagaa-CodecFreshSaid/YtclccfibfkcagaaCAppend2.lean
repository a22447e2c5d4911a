/-
  The codec appends sizes, byte strings, digests: the walks.
-/
import Derived.Test.YtclccfibfkcagaaCAppend
namespace Go.Proofs.Ytclccfibfkcagaa
open Go Go.RowKit
set_option maxRecDepth 100000
theorem appsize_any_r1 (a : Option Addr) (c : Nat) (B : List UInt8) (n : Nat) (w0 : World) (F : World → Prop) : Reg Try.prog 0 (regOps Try.f15 0) false 36 [(0, (.slice a (B).length c)), (1, (.int .u64 ((n : Nat) : Int)))] w0 [] F
    (fun _ => [(0, (.slice a (B).length c)), (1, (.int .u64 ((n : Nat) : Int))), (4, (.slice none 0 0))])
    (fun _ => []) := by
  refine reg_seq [0] [0, 1, 4] 1
    (fun _ ι => ([(.slice none 0 0)] : List Value).getD ι undef)
    (fun _ ι => ([{}] : List Eff).getD ι {})
    (by as_aux_lemma => kernel_rfl) (by as_aux_lemma => kernel_rfl) (fun _ => by as_aux_lemma => kernel_rfl) (fun _ => by as_aux_lemma => kernel_rfl) ⟨trivial, ?_⟩
  · exact o_run 0 [] [] (fun _ _ => []) (fun _ _ => by as_aux_lemma => kernel_rfl)
theorem appsize_any_r2 (a : Option Addr) (c : Nat) (B : List UInt8) (n : Nat) (w0 : World) (F : World → Prop) : Reg Try.prog 1 (regOps Try.f15 1) false 36 [(0, (.slice a (B).length c)), (1, (.int .u64 ((n : Nat) : Int))), (4, (.slice none 0 0))] w0 [] F
    (fun _ => [(0, (.slice a (B).length c)), (1, (.int .u64 ((n : Nat) : Int))), (4, (.slice none 0 0)), (5, (.bool (decide (((n : Nat) : Int) < 253))))])
    (fun _ => []) := by
  refine reg_seq [0, 1, 3] [0, 1, 4, 5] 3
    (fun _ ι => ([(.int .u64 ((n : Nat) : Int)), (.bool (decide (((n : Nat) : Int) < 253))), (.bool (decide (((n : Nat) : Int) < 253)))] : List Value).getD ι undef)
    (fun _ ι => ([{}, {}, {}] : List Eff).getD ι {})
    (by as_aux_lemma => kernel_rfl) (by as_aux_lemma => kernel_rfl) (fun _ => by as_aux_lemma => kernel_rfl) (fun _ => by as_aux_lemma => kernel_rfl) ⟨⟨⟨trivial, ?_⟩, ?_⟩, ?_⟩
  · exact o_run 0 [] [] (fun _ _ => []) (fun _ _ => by as_aux_lemma => kernel_rfl)
  · exact o_run 1 [] [] (fun _ _ => []) (fun _ _ => by as_aux_lemma => kernel_rfl)
  · exact o_run 2 [] [] (fun _ _ => []) (fun _ _ => by as_aux_lemma => kernel_rfl)
theorem appsize_any_r3 (a : Option Addr) (c : Nat) (B : List UInt8) (n : Nat) (hn : n < 18446744073709551616) (hl : B.length + 9 ≤ 140737488351232) (hb1 : (decide (((n : Nat) : Int) < 253)) = true) (w0 : World) : RegF Try.prog 2 (regOps Try.f15 2) false 36 [(0, (.slice a (B).length c)), (1, (.int .u64 ((n : Nat) : Int))), (4, (.slice none 0 0)), (5, (.bool true))] w0 [] (fun w => Bs w a c B ∧ True)
    (fun ρ => [(0, (.slice a (B).length c)), (1, (.int .u64 ((n : Nat) : Int))), (4, (.slice (oa ρ 4) (B ++ ([ob ((n : Nat) : Int)] : List UInt8)).length (nb ρ 4)))])
    (fun ρ => [(nb ρ 3, (.cells #[(.int .u8 ((n : Nat) : Int))] 5 (0, 0)))]) (fun ρ => (fun w => Bs w a c B ∧ Fs w0 w (oa ρ 4) (nb ρ 4) (B ++ ([ob ((n : Nat) : Int)] : List UInt8)) ∧ True)) := by
  refine reg_seq_f [0, 1, 3, 7, 15, 31] [0, 1, 4] 6
    (fun ρ ι => ([(.slice a (B).length c), (.int .u64 ((n : Nat) : Int)), (.int .u8 ((n : Nat) : Int)), (.slice (some ⟨nb ρ 3, 0, none⟩) (([ob ((n : Nat) : Int)] : List UInt8)).length 1), (.slice (oa ρ 4) (B ++ ([ob ((n : Nat) : Int)] : List UInt8)).length (nb ρ 4)), (.slice (oa ρ 4) (B ++ ([ob ((n : Nat) : Int)] : List UInt8)).length (nb ρ 4))] : List Value).getD ι undef)
    (fun ρ ι => ([{}, {}, {}, { news := [(nb ρ 3, (.cells #[(.int .u8 ((n : Nat) : Int))] 5 (0, 0)))] }, {}, {}] : List Eff).getD ι {})
    (fun ρ ι => ([(fun _ => True), (fun _ => True), (fun _ => True), (fun _ => True), (fun w => Fs w0 w (oa ρ 4) (nb ρ 4) (B ++ ([ob ((n : Nat) : Int)] : List UInt8))), (fun _ => True)] : List (World → Prop)).getD ι (fun _ => True))
    (by as_aux_lemma => kernel_rfl) (by as_aux_lemma => kernel_rfl) (fun _ => by as_aux_lemma => kernel_rfl) (fun _ => by as_aux_lemma => kernel_rfl) (fun _ _ hF hf => ⟨hF.1, hf 4 (by omega), trivial⟩) ⟨⟨⟨⟨⟨⟨trivial, ?_⟩, ?_⟩, ?_⟩, ?_⟩, ?_⟩, ?_⟩
  · exact Obl.brings (o_run 0 [] [] (fun _ _ => []) (fun _ _ => by as_aux_lemma => kernel_rfl)) (fun _ _ => trivial)
  · exact Obl.brings (o_run 1 [] [] (fun _ _ => []) (fun _ _ => by as_aux_lemma => kernel_rfl)) (fun _ _ => trivial)
  · exact Obl.brings (o_as 2 (fun _ => (.int .u8 (IntKind.u8.wrap (((n : Nat) : Int))))) (fun _ => (.int .u8 ((n : Nat) : Int))) (fun _ _ => by as_aux_lemma => kernel_rfl) (fun _ => congrArg (Value.int .u8) (u8N (by have := of_decide_eq_true hb1; have := hn; have := hl; omega)))) (fun _ _ => trivial)
  · exact Obl.brings (o_run 3 [] [] (fun _ _ => []) (fun _ _ => by as_aux_lemma => kernel_rfl)) (fun _ _ => trivial)
  · exact o_callB 4 47 (fun ρ => #[(.slice a (B).length c), (.slice (some ⟨nb ρ 3, 0, none⟩) (([ob ((n : Nat) : Int)] : List UInt8)).length 1)]) (fun _ α κ => (.slice α (B ++ ([ob ((n : Nat) : Int)] : List UInt8)).length κ)) (fun _ => B ++ ([ob ((n : Nat) : Int)] : List UInt8)) (fun _ _ => (by as_aux_lemma => kernel_rfl)) (fun _ _ => (by as_aux_lemma => kernel_rfl)) (fun _ _ => (by as_aux_lemma => kernel_rfl)) (fun _ _ => (by as_aux_lemma => kernel_rfl)) (fun ρ _ w hG => extend_any a c B (some ⟨nb ρ 3, 0, none⟩) 1 ([ob ((n : Nat) : Int)] : List UInt8) (by simp only [List.length_append, List.length_cons, List.length_nil, leB_length, hL_length]; have := of_decide_eq_true hb1; have := hn; have := hl; omega) w hG.facts0.now.1 (Bs.of_hd (hG.known (g := nb ρ 3) (o := (.cells #[(.int .u8 ((n : Nat) : Int))] 5 (0, 0))) 24 (by as_aux_lemma => kernel_rfl) (by as_aux_lemma => kernel_rfl)) (hd1 ((by have := of_decide_eq_true hb1; have := hn; have := hl; omega))) (Nat.le_refl 1) (Nat.le_of_ble_eq_true rfl)))
  · exact Obl.brings (o_run 5 [] [] (fun _ _ => []) (fun _ _ => by as_aux_lemma => kernel_rfl)) (fun _ _ => trivial)
theorem appsize_any_r4 (a : Option Addr) (c : Nat) (B : List UInt8) (n : Nat) (w0 : World) (F : World → Prop) : Reg Try.prog 3 (regOps Try.f15 3) false 36 [(0, (.slice a (B).length c)), (1, (.int .u64 ((n : Nat) : Int))), (4, (.slice none 0 0)), (5, (.bool false))] w0 [] F
    (fun _ => [(0, (.slice a (B).length c)), (1, (.int .u64 ((n : Nat) : Int))), (4, (.slice none 0 0)), (13, (.bool (decide (((n : Nat) : Int) < 65536))))])
    (fun _ => []) := by
  refine reg_seq [0, 1, 3] [0, 1, 4, 13] 3
    (fun _ ι => ([(.int .u64 ((n : Nat) : Int)), (.bool (decide (((n : Nat) : Int) < 65536))), (.bool (decide (((n : Nat) : Int) < 65536)))] : List Value).getD ι undef)
    (fun _ ι => ([{}, {}, {}] : List Eff).getD ι {})
    (by as_aux_lemma => kernel_rfl) (by as_aux_lemma => kernel_rfl) (fun _ => by as_aux_lemma => kernel_rfl) (fun _ => by as_aux_lemma => kernel_rfl) ⟨⟨⟨trivial, ?_⟩, ?_⟩, ?_⟩
  · exact o_run 0 [] [] (fun _ _ => []) (fun _ _ => by as_aux_lemma => kernel_rfl)
  · exact o_run 1 [] [] (fun _ _ => []) (fun _ _ => by as_aux_lemma => kernel_rfl)
  · exact o_run 2 [] [] (fun _ _ => []) (fun _ _ => by as_aux_lemma => kernel_rfl)
theorem appsize_any_r5 (a : Option Addr) (c : Nat) (B : List UInt8) (n : Nat) (hn : n < 18446744073709551616) (hl : B.length + 9 ≤ 140737488351232) (hb1 : (decide (((n : Nat) : Int) < 253)) = false) (hb2 : (decide (((n : Nat) : Int) < 65536)) = true) (w0 : World) : RegF Try.prog 4 (regOps Try.f15 4) false 36 [(0, (.slice a (B).length c)), (1, (.int .u64 ((n : Nat) : Int))), (4, (.slice none 0 0)), (13, (.bool true))] w0 [] (fun w => Bs w a c B ∧ True)
    (fun ρ => [(0, (.slice a (B).length c)), (1, (.int .u64 ((n : Nat) : Int))), (4, (.slice (oa ρ 5) ((B ++ ([253] : List UInt8)) ++ leB n 2).length (nb ρ 5)))])
    (fun ρ => [(nb ρ 1, (.cells #[(.int .u8 253)] 5 (0, 0)))]) (fun ρ => (fun w => Bs w a c B ∧ Fs w0 w (oa ρ 2) (nb ρ 2) (B ++ ([253] : List UInt8)) ∧ Fs w0 w (oa ρ 5) (nb ρ 5) ((B ++ ([253] : List UInt8)) ++ leB n 2) ∧ True)) := by
  refine reg_seq_f [0, 1, 3, 7, 15, 31, 63] [0, 1, 4] 7
    (fun ρ ι => ([(.slice a (B).length c), (.slice (some ⟨nb ρ 1, 0, none⟩) (([253] : List UInt8)).length 1), (.slice (oa ρ 2) (B ++ ([253] : List UInt8)).length (nb ρ 2)), (.int .u64 ((n : Nat) : Int)), (.int .u16 ((n : Nat) : Int)), (.slice (oa ρ 5) ((B ++ ([253] : List UInt8)) ++ leB n 2).length (nb ρ 5)), (.slice (oa ρ 5) ((B ++ ([253] : List UInt8)) ++ leB n 2).length (nb ρ 5))] : List Value).getD ι undef)
    (fun ρ ι => ([{}, { news := [(nb ρ 1, (.cells #[(.int .u8 253)] 5 (0, 0)))] }, {}, {}, {}, {}, {}] : List Eff).getD ι {})
    (fun ρ ι => ([(fun _ => True), (fun _ => True), (fun w => Fs w0 w (oa ρ 2) (nb ρ 2) (B ++ ([253] : List UInt8))), (fun _ => True), (fun _ => True), (fun w => Fs w0 w (oa ρ 5) (nb ρ 5) ((B ++ ([253] : List UInt8)) ++ leB n 2)), (fun _ => True)] : List (World → Prop)).getD ι (fun _ => True))
    (by as_aux_lemma => kernel_rfl) (by as_aux_lemma => kernel_rfl) (fun _ => by as_aux_lemma => kernel_rfl) (fun _ => by as_aux_lemma => kernel_rfl) (fun _ _ hF hf => ⟨hF.1, hf 2 (by omega), hf 5 (by omega), trivial⟩) ⟨⟨⟨⟨⟨⟨⟨trivial, ?_⟩, ?_⟩, ?_⟩, ?_⟩, ?_⟩, ?_⟩, ?_⟩
  · exact Obl.brings (o_run 0 [] [] (fun _ _ => []) (fun _ _ => by as_aux_lemma => kernel_rfl)) (fun _ _ => trivial)
  · exact Obl.brings (o_run 1 [] [] (fun _ _ => []) (fun _ _ => by as_aux_lemma => kernel_rfl)) (fun _ _ => trivial)
  · exact o_callB 2 47 (fun ρ => #[(.slice a (B).length c), (.slice (some ⟨nb ρ 1, 0, none⟩) (([253] : List UInt8)).length 1)]) (fun _ α κ => (.slice α (B ++ ([253] : List UInt8)).length κ)) (fun _ => B ++ ([253] : List UInt8)) (fun _ _ => (by as_aux_lemma => kernel_rfl)) (fun _ _ => (by as_aux_lemma => kernel_rfl)) (fun _ _ => (by as_aux_lemma => kernel_rfl)) (fun _ _ => (by as_aux_lemma => kernel_rfl)) (fun ρ _ w hG => extend_any a c B (some ⟨nb ρ 1, 0, none⟩) 1 ([253] : List UInt8) (by simp only [List.length_append, List.length_cons, List.length_nil, leB_length, hL_length]; have := of_decide_eq_false hb1; have := of_decide_eq_true hb2; have := hn; have := hl; omega) w hG.facts0.now.1 (Bs.of_hd (hG.known (g := nb ρ 1) (o := (.cells #[(.int .u8 253)] 5 (0, 0))) 8 (by as_aux_lemma => kernel_rfl) (by as_aux_lemma => kernel_rfl)) (rfl : Hd #[(.int .u8 253)] ([253] : List UInt8)) (Nat.le_refl 1) (Nat.le_of_ble_eq_true rfl)))
  · exact Obl.brings (o_run 3 [] [] (fun _ _ => []) (fun _ _ => by as_aux_lemma => kernel_rfl)) (fun _ _ => trivial)
  · exact Obl.brings (o_as 4 (fun _ => (.int .u16 (IntKind.u16.wrap (((n : Nat) : Int))))) (fun _ => (.int .u16 ((n : Nat) : Int))) (fun _ _ => by as_aux_lemma => kernel_rfl) (fun _ => congrArg (Value.int .u16) (u16N (by have := of_decide_eq_false hb1; have := of_decide_eq_true hb2; have := hn; have := hl; omega)))) (fun _ _ => trivial)
  · exact o_callB 5 17 (fun ρ => #[(.slice (oa ρ 2) (B ++ ([253] : List UInt8)).length (nb ρ 2)), (.int .u16 ((n : Nat) : Int))]) (fun _ α κ => (.slice α ((B ++ ([253] : List UInt8)) ++ leB n 2).length κ)) (fun _ => (B ++ ([253] : List UInt8)) ++ leB n 2) (fun _ _ => (by as_aux_lemma => kernel_rfl)) (fun _ _ => (by as_aux_lemma => kernel_rfl)) (fun _ _ => (by as_aux_lemma => kernel_rfl)) (fun _ _ => (by as_aux_lemma => kernel_rfl)) (fun ρ _ w hG => append16_any (oa ρ 2) (nb ρ 2) (B ++ ([253] : List UInt8)) n (by have := of_decide_eq_false hb1; have := of_decide_eq_true hb2; have := hn; have := hl; omega) (by simp only [List.length_append, List.length_cons, List.length_nil, leB_length, hL_length]; have := of_decide_eq_false hb1; have := of_decide_eq_true hb2; have := hn; have := hl; omega) w ((show Fs w0 w (oa ρ 2) (nb ρ 2) (B ++ ([253] : List UInt8)) from (hG.facts 2 rfl).now).1))
  · exact Obl.brings (o_run 6 [] [] (fun _ _ => []) (fun _ _ => by as_aux_lemma => kernel_rfl)) (fun _ _ => trivial)
theorem appsize_any_r6 (a : Option Addr) (c : Nat) (B : List UInt8) (n : Nat) (w0 : World) (F : World → Prop) : Reg Try.prog 5 (regOps Try.f15 5) false 36 [(0, (.slice a (B).length c)), (1, (.int .u64 ((n : Nat) : Int))), (4, (.slice none 0 0)), (13, (.bool false))] w0 [] F
    (fun _ => [(0, (.slice a (B).length c)), (1, (.int .u64 ((n : Nat) : Int))), (4, (.slice none 0 0)), (22, (.bool (decide (((n : Nat) : Int) < 4294967296))))])
    (fun _ => []) := by
  refine reg_seq [0, 1, 3] [0, 1, 4, 22] 3
    (fun _ ι => ([(.int .u64 ((n : Nat) : Int)), (.bool (decide (((n : Nat) : Int) < 4294967296))), (.bool (decide (((n : Nat) : Int) < 4294967296)))] : List Value).getD ι undef)
    (fun _ ι => ([{}, {}, {}] : List Eff).getD ι {})
    (by as_aux_lemma => kernel_rfl) (by as_aux_lemma => kernel_rfl) (fun _ => by as_aux_lemma => kernel_rfl) (fun _ => by as_aux_lemma => kernel_rfl) ⟨⟨⟨trivial, ?_⟩, ?_⟩, ?_⟩
  · exact o_run 0 [] [] (fun _ _ => []) (fun _ _ => by as_aux_lemma => kernel_rfl)
  · exact o_run 1 [] [] (fun _ _ => []) (fun _ _ => by as_aux_lemma => kernel_rfl)
  · exact o_run 2 [] [] (fun _ _ => []) (fun _ _ => by as_aux_lemma => kernel_rfl)
theorem appsize_any_r7 (a : Option Addr) (c : Nat) (B : List UInt8) (n : Nat) (hn : n < 18446744073709551616) (hl : B.length + 9 ≤ 140737488351232) (hb1 : (decide (((n : Nat) : Int) < 253)) = false) (hb2 : (decide (((n : Nat) : Int) < 65536)) = false) (hb3 : (decide (((n : Nat) : Int) < 4294967296)) = true) (w0 : World) : RegF Try.prog 6 (regOps Try.f15 6) false 36 [(0, (.slice a (B).length c)), (1, (.int .u64 ((n : Nat) : Int))), (4, (.slice none 0 0)), (22, (.bool true))] w0 [] (fun w => Bs w a c B ∧ True)
    (fun ρ => [(0, (.slice a (B).length c)), (1, (.int .u64 ((n : Nat) : Int))), (4, (.slice (oa ρ 5) ((B ++ ([254] : List UInt8)) ++ leB n 4).length (nb ρ 5)))])
    (fun ρ => [(nb ρ 1, (.cells #[(.int .u8 254)] 5 (0, 0)))]) (fun ρ => (fun w => Bs w a c B ∧ Fs w0 w (oa ρ 2) (nb ρ 2) (B ++ ([254] : List UInt8)) ∧ Fs w0 w (oa ρ 5) (nb ρ 5) ((B ++ ([254] : List UInt8)) ++ leB n 4) ∧ True)) := by
  refine reg_seq_f [0, 1, 3, 7, 15, 31, 63] [0, 1, 4] 7
    (fun ρ ι => ([(.slice a (B).length c), (.slice (some ⟨nb ρ 1, 0, none⟩) (([254] : List UInt8)).length 1), (.slice (oa ρ 2) (B ++ ([254] : List UInt8)).length (nb ρ 2)), (.int .u64 ((n : Nat) : Int)), (.int .u32 ((n : Nat) : Int)), (.slice (oa ρ 5) ((B ++ ([254] : List UInt8)) ++ leB n 4).length (nb ρ 5)), (.slice (oa ρ 5) ((B ++ ([254] : List UInt8)) ++ leB n 4).length (nb ρ 5))] : List Value).getD ι undef)
    (fun ρ ι => ([{}, { news := [(nb ρ 1, (.cells #[(.int .u8 254)] 5 (0, 0)))] }, {}, {}, {}, {}, {}] : List Eff).getD ι {})
    (fun ρ ι => ([(fun _ => True), (fun _ => True), (fun w => Fs w0 w (oa ρ 2) (nb ρ 2) (B ++ ([254] : List UInt8))), (fun _ => True), (fun _ => True), (fun w => Fs w0 w (oa ρ 5) (nb ρ 5) ((B ++ ([254] : List UInt8)) ++ leB n 4)), (fun _ => True)] : List (World → Prop)).getD ι (fun _ => True))
    (by as_aux_lemma => kernel_rfl) (by as_aux_lemma => kernel_rfl) (fun _ => by as_aux_lemma => kernel_rfl) (fun _ => by as_aux_lemma => kernel_rfl) (fun _ _ hF hf => ⟨hF.1, hf 2 (by omega), hf 5 (by omega), trivial⟩) ⟨⟨⟨⟨⟨⟨⟨trivial, ?_⟩, ?_⟩, ?_⟩, ?_⟩, ?_⟩, ?_⟩, ?_⟩
  · exact Obl.brings (o_run 0 [] [] (fun _ _ => []) (fun _ _ => by as_aux_lemma => kernel_rfl)) (fun _ _ => trivial)
  · exact Obl.brings (o_run 1 [] [] (fun _ _ => []) (fun _ _ => by as_aux_lemma => kernel_rfl)) (fun _ _ => trivial)
  · exact o_callB 2 47 (fun ρ => #[(.slice a (B).length c), (.slice (some ⟨nb ρ 1, 0, none⟩) (([254] : List UInt8)).length 1)]) (fun _ α κ => (.slice α (B ++ ([254] : List UInt8)).length κ)) (fun _ => B ++ ([254] : List UInt8)) (fun _ _ => (by as_aux_lemma => kernel_rfl)) (fun _ _ => (by as_aux_lemma => kernel_rfl)) (fun _ _ => (by as_aux_lemma => kernel_rfl)) (fun _ _ => (by as_aux_lemma => kernel_rfl)) (fun ρ _ w hG => extend_any a c B (some ⟨nb ρ 1, 0, none⟩) 1 ([254] : List UInt8) (by simp only [List.length_append, List.length_cons, List.length_nil, leB_length, hL_length]; have := of_decide_eq_false hb1; have := of_decide_eq_false hb2; have := of_decide_eq_true hb3; have := hn; have := hl; omega) w hG.facts0.now.1 (Bs.of_hd (hG.known (g := nb ρ 1) (o := (.cells #[(.int .u8 254)] 5 (0, 0))) 8 (by as_aux_lemma => kernel_rfl) (by as_aux_lemma => kernel_rfl)) (rfl : Hd #[(.int .u8 254)] ([254] : List UInt8)) (Nat.le_refl 1) (Nat.le_of_ble_eq_true rfl)))
  · exact Obl.brings (o_run 3 [] [] (fun _ _ => []) (fun _ _ => by as_aux_lemma => kernel_rfl)) (fun _ _ => trivial)
  · exact Obl.brings (o_as 4 (fun _ => (.int .u32 (IntKind.u32.wrap (((n : Nat) : Int))))) (fun _ => (.int .u32 ((n : Nat) : Int))) (fun _ _ => by as_aux_lemma => kernel_rfl) (fun _ => congrArg (Value.int .u32) (u32N (by have := of_decide_eq_false hb1; have := of_decide_eq_false hb2; have := of_decide_eq_true hb3; have := hn; have := hl; omega)))) (fun _ _ => trivial)
  · exact o_callB 5 19 (fun ρ => #[(.slice (oa ρ 2) (B ++ ([254] : List UInt8)).length (nb ρ 2)), (.int .u32 ((n : Nat) : Int))]) (fun _ α κ => (.slice α ((B ++ ([254] : List UInt8)) ++ leB n 4).length κ)) (fun _ => (B ++ ([254] : List UInt8)) ++ leB n 4) (fun _ _ => (by as_aux_lemma => kernel_rfl)) (fun _ _ => (by as_aux_lemma => kernel_rfl)) (fun _ _ => (by as_aux_lemma => kernel_rfl)) (fun _ _ => (by as_aux_lemma => kernel_rfl)) (fun ρ _ w hG => append32_any (oa ρ 2) (nb ρ 2) (B ++ ([254] : List UInt8)) n (by have := of_decide_eq_false hb1; have := of_decide_eq_false hb2; have := of_decide_eq_true hb3; have := hn; have := hl; omega) (by simp only [List.length_append, List.length_cons, List.length_nil, leB_length, hL_length]; have := of_decide_eq_false hb1; have := of_decide_eq_false hb2; have := of_decide_eq_true hb3; have := hn; have := hl; omega) w ((show Fs w0 w (oa ρ 2) (nb ρ 2) (B ++ ([254] : List UInt8)) from (hG.facts 2 rfl).now).1))
  · exact Obl.brings (o_run 6 [] [] (fun _ _ => []) (fun _ _ => by as_aux_lemma => kernel_rfl)) (fun _ _ => trivial)
theorem appsize_any_r8 (a : Option Addr) (c : Nat) (B : List UInt8) (n : Nat) (hn : n < 18446744073709551616) (hl : B.length + 9 ≤ 140737488351232) (hb1 : (decide (((n : Nat) : Int) < 253)) = false) (hb2 : (decide (((n : Nat) : Int) < 65536)) = false) (hb3 : (decide (((n : Nat) : Int) < 4294967296)) = false) (w0 : World) : RegF Try.prog 7 (regOps Try.f15 7) false 36 [(0, (.slice a (B).length c)), (1, (.int .u64 ((n : Nat) : Int))), (4, (.slice none 0 0)), (22, (.bool false))] w0 [] (fun w => Bs w a c B ∧ True)
    (fun ρ => [(4, (.slice (oa ρ 4) ((B ++ ([255] : List UInt8)) ++ leB n 8).length (nb ρ 4)))])
    (fun ρ => [(nb ρ 1, (.cells #[(.int .u8 255)] 5 (0, 0)))]) (fun ρ => (fun w => Bs w a c B ∧ Fs w0 w (oa ρ 2) (nb ρ 2) (B ++ ([255] : List UInt8)) ∧ Fs w0 w (oa ρ 4) (nb ρ 4) ((B ++ ([255] : List UInt8)) ++ leB n 8) ∧ True)) := by
  refine reg_seq_f [0, 1, 3, 7, 15, 31] [4] 6
    (fun ρ ι => ([(.slice a (B).length c), (.slice (some ⟨nb ρ 1, 0, none⟩) (([255] : List UInt8)).length 1), (.slice (oa ρ 2) (B ++ ([255] : List UInt8)).length (nb ρ 2)), (.int .u64 ((n : Nat) : Int)), (.slice (oa ρ 4) ((B ++ ([255] : List UInt8)) ++ leB n 8).length (nb ρ 4)), (.slice (oa ρ 4) ((B ++ ([255] : List UInt8)) ++ leB n 8).length (nb ρ 4))] : List Value).getD ι undef)
    (fun ρ ι => ([{}, { news := [(nb ρ 1, (.cells #[(.int .u8 255)] 5 (0, 0)))] }, {}, {}, {}, {}] : List Eff).getD ι {})
    (fun ρ ι => ([(fun _ => True), (fun _ => True), (fun w => Fs w0 w (oa ρ 2) (nb ρ 2) (B ++ ([255] : List UInt8))), (fun _ => True), (fun w => Fs w0 w (oa ρ 4) (nb ρ 4) ((B ++ ([255] : List UInt8)) ++ leB n 8)), (fun _ => True)] : List (World → Prop)).getD ι (fun _ => True))
    (by as_aux_lemma => kernel_rfl) (by as_aux_lemma => kernel_rfl) (fun _ => by as_aux_lemma => kernel_rfl) (fun _ => by as_aux_lemma => kernel_rfl) (fun _ _ hF hf => ⟨hF.1, hf 2 (by omega), hf 4 (by omega), trivial⟩) ⟨⟨⟨⟨⟨⟨trivial, ?_⟩, ?_⟩, ?_⟩, ?_⟩, ?_⟩, ?_⟩
  · exact Obl.brings (o_run 0 [] [] (fun _ _ => []) (fun _ _ => by as_aux_lemma => kernel_rfl)) (fun _ _ => trivial)
  · exact Obl.brings (o_run 1 [] [] (fun _ _ => []) (fun _ _ => by as_aux_lemma => kernel_rfl)) (fun _ _ => trivial)
  · exact o_callB 2 47 (fun ρ => #[(.slice a (B).length c), (.slice (some ⟨nb ρ 1, 0, none⟩) (([255] : List UInt8)).length 1)]) (fun _ α κ => (.slice α (B ++ ([255] : List UInt8)).length κ)) (fun _ => B ++ ([255] : List UInt8)) (fun _ _ => (by as_aux_lemma => kernel_rfl)) (fun _ _ => (by as_aux_lemma => kernel_rfl)) (fun _ _ => (by as_aux_lemma => kernel_rfl)) (fun _ _ => (by as_aux_lemma => kernel_rfl)) (fun ρ _ w hG => extend_any a c B (some ⟨nb ρ 1, 0, none⟩) 1 ([255] : List UInt8) (by simp only [List.length_append, List.length_cons, List.length_nil, leB_length, hL_length]; have := of_decide_eq_false hb1; have := of_decide_eq_false hb2; have := of_decide_eq_false hb3; have := hn; have := hl; omega) w hG.facts0.now.1 (Bs.of_hd (hG.known (g := nb ρ 1) (o := (.cells #[(.int .u8 255)] 5 (0, 0))) 8 (by as_aux_lemma => kernel_rfl) (by as_aux_lemma => kernel_rfl)) (rfl : Hd #[(.int .u8 255)] ([255] : List UInt8)) (Nat.le_refl 1) (Nat.le_of_ble_eq_true rfl)))
  · exact Obl.brings (o_run 3 [] [] (fun _ _ => []) (fun _ _ => by as_aux_lemma => kernel_rfl)) (fun _ _ => trivial)
  · exact o_callB 4 21 (fun ρ => #[(.slice (oa ρ 2) (B ++ ([255] : List UInt8)).length (nb ρ 2)), (.int .u64 ((n : Nat) : Int))]) (fun _ α κ => (.slice α ((B ++ ([255] : List UInt8)) ++ leB n 8).length κ)) (fun _ => (B ++ ([255] : List UInt8)) ++ leB n 8) (fun _ _ => (by as_aux_lemma => kernel_rfl)) (fun _ _ => (by as_aux_lemma => kernel_rfl)) (fun _ _ => (by as_aux_lemma => kernel_rfl)) (fun _ _ => (by as_aux_lemma => kernel_rfl)) (fun ρ _ w hG => append64_any (oa ρ 2) (nb ρ 2) (B ++ ([255] : List UInt8)) n (by have := of_decide_eq_false hb1; have := of_decide_eq_false hb2; have := of_decide_eq_false hb3; have := hn; have := hl; omega) (by simp only [List.length_append, List.length_cons, List.length_nil, leB_length, hL_length]; have := of_decide_eq_false hb1; have := of_decide_eq_false hb2; have := of_decide_eq_false hb3; have := hn; have := hl; omega) w ((show Fs w0 w (oa ρ 2) (nb ρ 2) (B ++ ([255] : List UInt8)) from (hG.facts 2 rfl).now).1))
  · exact Obl.brings (o_run 5 [] [] (fun _ _ => []) (fun _ _ => by as_aux_lemma => kernel_rfl)) (fun _ _ => trivial)
theorem appsize_any (a : Option Addr) (c : Nat) (B : List UInt8) (n : Nat) (hn : n < 18446744073709551616) (hl : B.length + 9 ≤ 140737488351232) (w0 : World) (hf0 : Bs w0 a c B) : Calls Try.prog 15 #[(.slice a (B).length c), (.int .u64 ((n : Nat) : Int))] w0 (fun ε w' => ∃ α κ, ε = .returned (.slice α (B ++ szB n).length κ) ∧ Below w0.heap.size w0 w' ∧ Fs w0 w' α κ (B ++ szB n)) := by
  refine Calls.of_ok (n := 36) (F := (fun w => Bs w a c B ∧ True)) Try.func15 rfl rfl rfl (by simp) (hf0.pers0.and persT) ?_
  refine ok_seq_r (by as_aux_lemma => kernel_rfl) (appsize_any_r1 a c B n _ _) (fun _ => ?_)
  refine ok_seq ?_
  refine ok_block ?_
  refine ok_seq_r (by as_aux_lemma => kernel_rfl) (appsize_any_r2 a c B n _ _) (fun _ => ?_)
  refine ok_cond (b := decide (((n : Nat) : Int) < 253)) (by as_aux_lemma => kernel_rfl) (fun hb1 => ?_) (fun hb1 => ?_)
  ·
    rw [hb1]
    refine ok_seq_rf (by as_aux_lemma => kernel_rfl) (appsize_any_r3 a c B n hn hl hb1 _) (fun ρ3 => ?_)
    refine ok_ret ?_
    refine mt_block_r ?_
    refine mt_then_r ?_
    exact meets_ret (v := (.slice (oa ρ3 4) (B ++ ([ob ((n : Nat) : Int)] : List UInt8)).length (nb ρ3 4))) [] (dup []) (by as_aux_lemma => kernel_rfl) (by as_aux_lemma => kernel_rfl) (eqs_dup _) (fun _ hS => ⟨oa ρ3 4, nb ρ3 4, congrArg Ending.returned (by rw [← szB1 (by have := of_decide_eq_true hb1; omega)]), hS.below, fs_eq (szB1 (by have := of_decide_eq_true hb1; omega)) hS.facts.now.2.1⟩)
  ·
    rw [hb1]
    refine ok_seq_r (by as_aux_lemma => kernel_rfl) (appsize_any_r4 a c B n _ _) (fun _ => ?_)
    refine ok_cond (b := decide (((n : Nat) : Int) < 65536)) (by as_aux_lemma => kernel_rfl) (fun hb2 => ?_) (fun hb2 => ?_)
    ·
      rw [hb2]
      refine ok_seq_rf (by as_aux_lemma => kernel_rfl) (appsize_any_r5 a c B n hn hl hb1 hb2 _) (fun ρ5 => ?_)
      refine ok_ret ?_
      refine mt_block_r ?_
      refine mt_then_r ?_
      exact meets_ret (v := (.slice (oa ρ5 5) ((B ++ ([253] : List UInt8)) ++ leB n 2).length (nb ρ5 5))) [] (dup []) (by as_aux_lemma => kernel_rfl) (by as_aux_lemma => kernel_rfl) (eqs_dup _) (fun _ hS => ⟨oa ρ5 5, nb ρ5 5, congrArg Ending.returned (by rw [← szB2 (by have := of_decide_eq_false hb1; omega) (by have := of_decide_eq_true hb2; omega)]), hS.below, fs_eq (szB2 (by have := of_decide_eq_false hb1; omega) (by have := of_decide_eq_true hb2; omega)) hS.facts.now.2.2.1⟩)
    ·
      rw [hb2]
      refine ok_seq_r (by as_aux_lemma => kernel_rfl) (appsize_any_r6 a c B n _ _) (fun _ => ?_)
      refine ok_cond (b := decide (((n : Nat) : Int) < 4294967296)) (by as_aux_lemma => kernel_rfl) (fun hb3 => ?_) (fun hb3 => ?_)
      ·
        rw [hb3]
        refine ok_seq_rf (by as_aux_lemma => kernel_rfl) (appsize_any_r7 a c B n hn hl hb1 hb2 hb3 _) (fun ρ7 => ?_)
        refine ok_ret ?_
        refine mt_block_r ?_
        refine mt_then_r ?_
        exact meets_ret (v := (.slice (oa ρ7 5) ((B ++ ([254] : List UInt8)) ++ leB n 4).length (nb ρ7 5))) [] (dup []) (by as_aux_lemma => kernel_rfl) (by as_aux_lemma => kernel_rfl) (eqs_dup _) (fun _ hS => ⟨oa ρ7 5, nb ρ7 5, congrArg Ending.returned (by rw [← szB4 (by have := of_decide_eq_false hb1; omega) (by have := of_decide_eq_false hb2; omega) (by have := of_decide_eq_true hb3; omega)]), hS.below, fs_eq (szB4 (by have := of_decide_eq_false hb1; omega) (by have := of_decide_eq_false hb2; omega) (by have := of_decide_eq_true hb3; omega)) hS.facts.now.2.2.1⟩)
      ·
        rw [hb3]
        refine ok_skip ?_
        refine mt_block_n ?_
        refine mt_then ?_
        refine ok_seq_rf (by as_aux_lemma => kernel_rfl) (appsize_any_r8 a c B n hn hl hb1 hb2 hb3 _) (fun ρ8 => ?_)
        refine ok_ret ?_
        exact meets_ret (v := (.slice (oa ρ8 4) ((B ++ ([255] : List UInt8)) ++ leB n 8).length (nb ρ8 4))) [] (dup []) (by as_aux_lemma => kernel_rfl) (by as_aux_lemma => kernel_rfl) (eqs_dup _) (fun _ hS => ⟨oa ρ8 4, nb ρ8 4, congrArg Ending.returned (by rw [← szB8 (by have := of_decide_eq_false hb1; omega) (by have := of_decide_eq_false hb2; omega) (by have := of_decide_eq_false hb3; omega)]), hS.below, fs_eq (szB8 (by have := of_decide_eq_false hb1; omega) (by have := of_decide_eq_false hb2; omega) (by have := of_decide_eq_false hb3; omega)) hS.facts.now.2.2.1⟩)
theorem appbytes_any_r1 (a : Option Addr) (c : Nat) (B : List UInt8) (a2 : Option Addr) (c2 : Nat) (S : List UInt8) (w0 : World) (F : World → Prop) : Reg Try.prog 0 (regOps Try.f24 0) false 12 [(0, (.slice a (B).length c)), (1, (.slice a2 (S).length c2))] w0 [] F
    (fun _ => [(0, (.slice a (B).length c)), (1, (.slice a2 (S).length c2)), (4, (.slice none 0 0))])
    (fun _ => []) := by
  refine reg_seq [0] [0, 1, 4] 1
    (fun _ ι => ([(.slice none 0 0)] : List Value).getD ι undef)
    (fun _ ι => ([{}] : List Eff).getD ι {})
    (by as_aux_lemma => kernel_rfl) (by as_aux_lemma => kernel_rfl) (fun _ => by as_aux_lemma => kernel_rfl) (fun _ => by as_aux_lemma => kernel_rfl) ⟨trivial, ?_⟩
  · exact o_run 0 [] [] (fun _ _ => []) (fun _ _ => by as_aux_lemma => kernel_rfl)
theorem appbytes_any_r2 (a : Option Addr) (c : Nat) (B : List UInt8) (a2 : Option Addr) (c2 : Nat) (S : List UInt8) (hl : B.length + S.length + 9 ≤ 140737488351232) (w0 : World) : RegF Try.prog 1 (regOps Try.f24 1) false 12 [(0, (.slice a (B).length c)), (1, (.slice a2 (S).length c2)), (4, (.slice none 0 0))] w0 [] (fun w => Bs w a c B ∧ Bs w a2 c2 S ∧ True)
    (fun ρ => [(4, (.slice (oa ρ 6) ((B ++ szB ((S).length)) ++ S).length (nb ρ 6)))])
    (fun _ => []) (fun ρ => (fun w => Bs w a c B ∧ Bs w a2 c2 S ∧ Fs w0 w (oa ρ 4) (nb ρ 4) (B ++ szB ((S).length)) ∧ Fs w0 w (oa ρ 6) (nb ρ 6) ((B ++ szB ((S).length)) ++ S) ∧ True)) := by
  refine reg_seq_f [0, 1, 3, 7, 15, 31, 63, 127] [4] 8
    (fun ρ ι => ([(.slice a (B).length c), (.slice a2 (S).length c2), (.int .i64 (((S).length : Nat) : Int)), (.int .u64 (((S).length : Nat) : Int)), (.slice (oa ρ 4) (B ++ szB ((S).length)).length (nb ρ 4)), (.slice a2 (S).length c2), (.slice (oa ρ 6) ((B ++ szB ((S).length)) ++ S).length (nb ρ 6)), (.slice (oa ρ 6) ((B ++ szB ((S).length)) ++ S).length (nb ρ 6))] : List Value).getD ι undef)
    (fun _ ι => ([{}, {}, {}, {}, {}, {}, {}, {}] : List Eff).getD ι {})
    (fun ρ ι => ([(fun _ => True), (fun _ => True), (fun _ => True), (fun _ => True), (fun w => Fs w0 w (oa ρ 4) (nb ρ 4) (B ++ szB ((S).length))), (fun _ => True), (fun w => Fs w0 w (oa ρ 6) (nb ρ 6) ((B ++ szB ((S).length)) ++ S)), (fun _ => True)] : List (World → Prop)).getD ι (fun _ => True))
    (by as_aux_lemma => kernel_rfl) (by as_aux_lemma => kernel_rfl) (fun _ => by as_aux_lemma => kernel_rfl) (fun _ => by as_aux_lemma => kernel_rfl) (fun _ _ hF hf => ⟨hF.1, hF.2.1, hf 4 (by omega), hf 6 (by omega), trivial⟩) ⟨⟨⟨⟨⟨⟨⟨⟨trivial, ?_⟩, ?_⟩, ?_⟩, ?_⟩, ?_⟩, ?_⟩, ?_⟩, ?_⟩
  · exact Obl.brings (o_run 0 [] [] (fun _ _ => []) (fun _ _ => by as_aux_lemma => kernel_rfl)) (fun _ _ => trivial)
  · exact Obl.brings (o_run 1 [] [] (fun _ _ => []) (fun _ _ => by as_aux_lemma => kernel_rfl)) (fun _ _ => trivial)
  · exact Obl.brings (o_run 2 [] [] (fun _ _ => []) (fun _ _ => by as_aux_lemma => kernel_rfl)) (fun _ _ => trivial)
  · exact Obl.brings (o_as 3 (fun _ => (.int .u64 (IntKind.u64.wrap ((((S).length : Nat) : Int))))) (fun _ => (.int .u64 (((S).length : Nat) : Int))) (fun _ _ => by as_aux_lemma => kernel_rfl) (fun _ => congrArg (Value.int .u64) (u64N (by have := hl; omega)))) (fun _ _ => trivial)
  · exact o_callB 4 15 (fun _ => #[(.slice a (B).length c), (.int .u64 (((S).length : Nat) : Int))]) (fun _ α κ => (.slice α (B ++ szB ((S).length)).length κ)) (fun _ => B ++ szB ((S).length)) (fun _ _ => (by as_aux_lemma => kernel_rfl)) (fun _ _ => (by as_aux_lemma => kernel_rfl)) (fun _ _ => (by as_aux_lemma => kernel_rfl)) (fun _ _ => (by as_aux_lemma => kernel_rfl)) (fun _ _ w hG => appsize_any a c B ((S).length) (by have := hl; omega) (by have := hl; omega) w hG.facts0.now.1)
  · exact Obl.brings (o_run 5 [] [] (fun _ _ => []) (fun _ _ => by as_aux_lemma => kernel_rfl)) (fun _ _ => trivial)
  · exact o_callB 6 47 (fun ρ => #[(.slice (oa ρ 4) (B ++ szB ((S).length)).length (nb ρ 4)), (.slice a2 (S).length c2)]) (fun _ α κ => (.slice α ((B ++ szB ((S).length)) ++ S).length κ)) (fun _ => (B ++ szB ((S).length)) ++ S) (fun _ _ => (by as_aux_lemma => kernel_rfl)) (fun _ _ => (by as_aux_lemma => kernel_rfl)) (fun _ _ => (by as_aux_lemma => kernel_rfl)) (fun _ _ => (by as_aux_lemma => kernel_rfl)) (fun ρ _ w hG => extend_any (oa ρ 4) (nb ρ 4) (B ++ szB ((S).length)) a2 c2 S (by simp only [List.length_append]; have := szB_len S.length; have := hl; omega) w ((show Fs w0 w (oa ρ 4) (nb ρ 4) (B ++ szB ((S).length)) from (hG.facts 4 rfl).now).1) hG.facts0.now.2.1)
  · exact Obl.brings (o_run 7 [] [] (fun _ _ => []) (fun _ _ => by as_aux_lemma => kernel_rfl)) (fun _ _ => trivial)
theorem appbytes_any (a : Option Addr) (c : Nat) (B : List UInt8) (a2 : Option Addr) (c2 : Nat) (S : List UInt8) (hl : B.length + S.length + 9 ≤ 140737488351232) (w0 : World) (hf0 : Bs w0 a c B) (hf1 : Bs w0 a2 c2 S) : Calls Try.prog 24 #[(.slice a (B).length c), (.slice a2 (S).length c2)] w0 (fun ε w' => ∃ α κ, ε = .returned (.slice α ((B ++ szB S.length) ++ S).length κ) ∧ Below w0.heap.size w0 w' ∧ Fs w0 w' α κ ((B ++ szB S.length) ++ S)) := by
  refine Calls.of_ok (n := 12) (F := (fun w => Bs w a c B ∧ Bs w a2 c2 S ∧ True)) Try.func24 rfl rfl rfl (by simp) (hf0.pers0.and (hf1.pers0.and persT)) ?_
  refine ok_seq_r (by as_aux_lemma => kernel_rfl) (appbytes_any_r1 a c B a2 c2 S _ _) (fun _ => ?_)
  refine ok_seq_rf (by as_aux_lemma => kernel_rfl) (appbytes_any_r2 a c B a2 c2 S hl _) (fun ρ2 => ?_)
  refine ok_ret ?_
  exact meets_ret (v := (.slice (oa ρ2 6) ((B ++ szB ((S).length)) ++ S).length (nb ρ2 6))) [] (dup []) (by as_aux_lemma => kernel_rfl) (by as_aux_lemma => kernel_rfl) (eqs_dup _) (fun _ hS => ⟨oa ρ2 6, nb ρ2 6, congrArg Ending.returned (rfl), hS.below, fs_eq (rfl) hS.facts.now.2.2.2.1⟩)
theorem apphash_any_r1 (a : Option Addr) (c : Nat) (B : List UInt8) (h : Nat) (w0 : World) (F : World → Prop) : Reg Try.prog 0 (regOps Try.f26 0) false 8 [(0, (.slice a (B).length c)), (1, (.agg (hB h)))] w0 [] F
    (fun ρ => [(0, (.slice a (B).length c)), (3, (.pointer (some ⟨nb ρ 0, 0, none⟩))), (4, (.slice none 0 0))])
    (fun ρ => [(nb ρ 0, (.cells (hB h) 32 (0, 0)))]) := by
  refine reg_seq [0, 1] [0, 3, 4] 2
    (fun ρ ι => ([(.pointer (some ⟨nb ρ 0, 0, none⟩)), (.slice none 0 0)] : List Value).getD ι undef)
    (fun ρ ι => ([{ news := [(nb ρ 0, (.cells (hB h) 32 (0, 0)))] }, {}] : List Eff).getD ι {})
    (by as_aux_lemma => kernel_rfl) (by as_aux_lemma => kernel_rfl) (fun _ => by as_aux_lemma => kernel_rfl) (fun _ => by as_aux_lemma => kernel_rfl) ⟨⟨trivial, ?_⟩, ?_⟩
  · exact o_run 0 [] [] (fun _ _ => []) (fun _ _ => by as_aux_lemma => kernel_rfl)
  · exact o_run 1 [] [] (fun _ _ => []) (fun _ _ => by as_aux_lemma => kernel_rfl)
theorem apphash_any_r2 (a : Option Addr) (c : Nat) (B : List UInt8) (h : Nat) (hl : B.length + 32 ≤ 140737488351232) (ρ1 : Nat → Orc) (w0 : World) : RegF Try.prog 1 (regOps Try.f26 1) false 8 [(0, (.slice a (B).length c)), (3, (.pointer (some ⟨nb ρ1 0, 0, none⟩))), (4, (.slice none 0 0))] w0 [(nb ρ1 0, (.cells (hB h) 32 (0, 0)))] (fun w => Bs w a c B ∧ True)
    (fun ρ => [(4, (.slice (oa ρ 2) (B ++ (hL h)).length (nb ρ 2)))])
    (fun _ => [(nb ρ1 0, (.cells (hB h) 32 (0, 0)))]) (fun ρ => (fun w => Bs w a c B ∧ Fs w0 w (oa ρ 2) (nb ρ 2) (B ++ (hL h)) ∧ True)) := by
  refine reg_seq_f [0, 1, 3, 7] [4] 4
    (fun ρ ι => ([(.slice a (B).length c), (.slice (some ⟨nb ρ1 0, 0, none⟩) (hL h).length 32), (.slice (oa ρ 2) (B ++ (hL h)).length (nb ρ 2)), (.slice (oa ρ 2) (B ++ (hL h)).length (nb ρ 2))] : List Value).getD ι undef)
    (fun _ ι => ([{}, {}, {}, {}] : List Eff).getD ι {})
    (fun ρ ι => ([(fun _ => True), (fun _ => True), (fun w => Fs w0 w (oa ρ 2) (nb ρ 2) (B ++ (hL h))), (fun _ => True)] : List (World → Prop)).getD ι (fun _ => True))
    (by as_aux_lemma => kernel_rfl) (by as_aux_lemma => kernel_rfl) (fun _ => by as_aux_lemma => kernel_rfl) (fun _ => by as_aux_lemma => kernel_rfl) (fun _ _ hF hf => ⟨hF.1, hf 2 (by omega), trivial⟩) ⟨⟨⟨⟨trivial, ?_⟩, ?_⟩, ?_⟩, ?_⟩
  · exact Obl.brings (o_run 0 [] [] (fun _ _ => []) (fun _ _ => by as_aux_lemma => kernel_rfl)) (fun _ _ => trivial)
  · exact Obl.brings (o_run 1 [] [] (fun _ _ => []) (fun _ _ => by as_aux_lemma => kernel_rfl)) (fun _ _ => trivial)
  · exact o_callB 2 47 (fun _ => #[(.slice a (B).length c), (.slice (some ⟨nb ρ1 0, 0, none⟩) (hL h).length 32)]) (fun _ α κ => (.slice α (B ++ (hL h)).length κ)) (fun _ => B ++ (hL h)) (fun _ _ => (by as_aux_lemma => kernel_rfl)) (fun _ _ => (by as_aux_lemma => kernel_rfl)) (fun _ _ => (by as_aux_lemma => kernel_rfl)) (fun _ _ => (by as_aux_lemma => kernel_rfl)) (fun _ _ w hG => extend_any a c B (some ⟨nb ρ1 0, 0, none⟩) 32 (hL h) (by simp only [List.length_append, List.length_cons, List.length_nil, leB_length, hL_length]; have := hl; omega) w hG.facts0.now.1 (Bs.of_hd (c := 32) (hG.known (g := nb ρ1 0) (o := (.cells (hB h) 32 (0, 0))) 0 (by as_aux_lemma => kernel_rfl) (by as_aux_lemma => kernel_rfl)) (hd_hB _) (Nat.le_refl _) (Nat.le_of_ble_eq_true rfl)))
  · exact Obl.brings (o_run 3 [] [] (fun _ _ => []) (fun _ _ => by as_aux_lemma => kernel_rfl)) (fun _ _ => trivial)
theorem apphash_any (a : Option Addr) (c : Nat) (B : List UInt8) (h : Nat) (_hh : h < M) (hl : B.length + 32 ≤ 140737488351232) (w0 : World) (hf0 : Bs w0 a c B) : Calls Try.prog 26 #[(.slice a (B).length c), (.agg (hB h))] w0 (fun ε w' => ∃ α κ, ε = .returned (.slice α (B ++ hL h).length κ) ∧ Below w0.heap.size w0 w' ∧ Fs w0 w' α κ (B ++ hL h)) := by
  refine Calls.of_ok (n := 8) (F := (fun w => Bs w a c B ∧ True)) Try.func26 rfl rfl rfl (by simp) (hf0.pers0.and persT) ?_
  refine ok_seq_r (by as_aux_lemma => kernel_rfl) (apphash_any_r1 a c B h _ _) (fun ρ1 => ?_)
  refine ok_seq_rf (by as_aux_lemma => kernel_rfl) (apphash_any_r2 a c B h hl ρ1 _) (fun ρ2 => ?_)
  refine ok_ret ?_
  exact meets_ret (v := (.slice (oa ρ2 2) (B ++ (hL h)).length (nb ρ2 2))) [] (dup []) (by as_aux_lemma => kernel_rfl) (by as_aux_lemma => kernel_rfl) (eqs_dup _) (fun _ hS => ⟨oa ρ2 2, nb ρ2 2, congrArg Ending.returned (rfl), hS.below, fs_eq (rfl) hS.facts.now.2.1⟩)
theorem rappsize_any_r1 (a : Option Addr) (c : Nat) (B : List UInt8) (n : Nat) (w0 : World) (F : World → Prop) : Reg Try.prog 0 (regOps Try.f23 0) false 36 [(0, (.slice a (B).length c)), (1, (.int .u64 ((n : Nat) : Int)))] w0 [] F
    (fun _ => [(0, (.slice a (B).length c)), (1, (.int .u64 ((n : Nat) : Int))), (4, (.slice none 0 0))])
    (fun _ => []) := by
  refine reg_seq [0] [0, 1, 4] 1
    (fun _ ι => ([(.slice none 0 0)] : List Value).getD ι undef)
    (fun _ ι => ([{}] : List Eff).getD ι {})
    (by as_aux_lemma => kernel_rfl) (by as_aux_lemma => kernel_rfl) (fun _ => by as_aux_lemma => kernel_rfl) (fun _ => by as_aux_lemma => kernel_rfl) ⟨trivial, ?_⟩
  · exact o_run 0 [] [] (fun _ _ => []) (fun _ _ => by as_aux_lemma => kernel_rfl)
theorem rappsize_any_r2 (a : Option Addr) (c : Nat) (B : List UInt8) (n : Nat) (w0 : World) (F : World → Prop) : Reg Try.prog 1 (regOps Try.f23 1) false 36 [(0, (.slice a (B).length c)), (1, (.int .u64 ((n : Nat) : Int))), (4, (.slice none 0 0))] w0 [] F
    (fun _ => [(0, (.slice a (B).length c)), (1, (.int .u64 ((n : Nat) : Int))), (4, (.slice none 0 0)), (5, (.bool (decide (((n : Nat) : Int) < 253))))])
    (fun _ => []) := by
  refine reg_seq [0, 1, 3] [0, 1, 4, 5] 3
    (fun _ ι => ([(.int .u64 ((n : Nat) : Int)), (.bool (decide (((n : Nat) : Int) < 253))), (.bool (decide (((n : Nat) : Int) < 253)))] : List Value).getD ι undef)
    (fun _ ι => ([{}, {}, {}] : List Eff).getD ι {})
    (by as_aux_lemma => kernel_rfl) (by as_aux_lemma => kernel_rfl) (fun _ => by as_aux_lemma => kernel_rfl) (fun _ => by as_aux_lemma => kernel_rfl) ⟨⟨⟨trivial, ?_⟩, ?_⟩, ?_⟩
  · exact o_run 0 [] [] (fun _ _ => []) (fun _ _ => by as_aux_lemma => kernel_rfl)
  · exact o_run 1 [] [] (fun _ _ => []) (fun _ _ => by as_aux_lemma => kernel_rfl)
  · exact o_run 2 [] [] (fun _ _ => []) (fun _ _ => by as_aux_lemma => kernel_rfl)
theorem rappsize_any_r3 (a : Option Addr) (c : Nat) (B : List UInt8) (n : Nat) (hn : n < 18446744073709551616) (hl : B.length + 9 ≤ 140737488351232) (hb1 : (decide (((n : Nat) : Int) < 253)) = true) (w0 : World) : RegF Try.prog 2 (regOps Try.f23 2) false 36 [(0, (.slice a (B).length c)), (1, (.int .u64 ((n : Nat) : Int))), (4, (.slice none 0 0)), (5, (.bool true))] w0 [] (fun w => Bs w a c B ∧ True)
    (fun ρ => [(0, (.slice a (B).length c)), (1, (.int .u64 ((n : Nat) : Int))), (4, (.slice (oa ρ 3) (B ++ (leB n 1)).length (nb ρ 3)))])
    (fun _ => []) (fun ρ => (fun w => Bs w a c B ∧ Fs w0 w (oa ρ 2) (nb ρ 2) (leB n 1) ∧ Fs w0 w (oa ρ 3) (nb ρ 3) (B ++ (leB n 1)) ∧ True)) := by
  refine reg_seq_f [0, 1, 3, 7, 15] [0, 1, 4] 5
    (fun ρ ι => ([(.slice a (B).length c), (.int .u64 ((n : Nat) : Int)), (.slice (oa ρ 2) (leB n 1).length (nb ρ 2)), (.slice (oa ρ 3) (B ++ (leB n 1)).length (nb ρ 3)), (.slice (oa ρ 3) (B ++ (leB n 1)).length (nb ρ 3))] : List Value).getD ι undef)
    (fun _ ι => ([{}, {}, {}, {}, {}] : List Eff).getD ι {})
    (fun ρ ι => ([(fun _ => True), (fun _ => True), (fun w => Fs w0 w (oa ρ 2) (nb ρ 2) (leB n 1)), (fun w => Fs w0 w (oa ρ 3) (nb ρ 3) (B ++ (leB n 1))), (fun _ => True)] : List (World → Prop)).getD ι (fun _ => True))
    (by as_aux_lemma => kernel_rfl) (by as_aux_lemma => kernel_rfl) (fun _ => by as_aux_lemma => kernel_rfl) (fun _ => by as_aux_lemma => kernel_rfl) (fun _ _ hF hf => ⟨hF.1, hf 2 (by omega), hf 3 (by omega), trivial⟩) ⟨⟨⟨⟨⟨trivial, ?_⟩, ?_⟩, ?_⟩, ?_⟩, ?_⟩
  · exact Obl.brings (o_run 0 [] [] (fun _ _ => []) (fun _ _ => by as_aux_lemma => kernel_rfl)) (fun _ _ => trivial)
  · exact Obl.brings (o_run 1 [] [] (fun _ _ => []) (fun _ _ => by as_aux_lemma => kernel_rfl)) (fun _ _ => trivial)
  · exact o_callB 2 50 (fun _ => #[(.int .u64 ((n : Nat) : Int)), (.int .i64 1)]) (fun _ α κ => (.slice α (leB n 1).length κ)) (fun _ => leB n 1) (fun _ _ => (by as_aux_lemma => kernel_rfl)) (fun _ _ => (by as_aux_lemma => kernel_rfl)) (fun _ _ => (by as_aux_lemma => kernel_rfl)) (fun _ _ => (by as_aux_lemma => kernel_rfl)) (fun _ _ w _ => little_any n 1 (by have := of_decide_eq_true hb1; have := hn; have := hl; omega) (by have := of_decide_eq_true hb1; have := hn; have := hl; omega) w )
  · exact o_callB 3 49 (fun ρ => #[(.slice a (B).length c), (.slice (oa ρ 2) (leB n 1).length (nb ρ 2))]) (fun _ α κ => (.slice α (B ++ (leB n 1)).length κ)) (fun _ => B ++ (leB n 1)) (fun _ _ => (by as_aux_lemma => kernel_rfl)) (fun _ _ => (by as_aux_lemma => kernel_rfl)) (fun _ _ => (by as_aux_lemma => kernel_rfl)) (fun _ _ => (by as_aux_lemma => kernel_rfl)) (fun ρ _ w hG => joined_any a c B (oa ρ 2) (nb ρ 2) (leB n 1) (by simp only [List.length_append, List.length_cons, List.length_nil, leB_length, hL_length]; have := of_decide_eq_true hb1; have := hn; have := hl; omega) w hG.facts0.now.1 ((show Fs w0 w (oa ρ 2) (nb ρ 2) (leB n 1) from (hG.facts 2 rfl).now).1))
  · exact Obl.brings (o_run 4 [] [] (fun _ _ => []) (fun _ _ => by as_aux_lemma => kernel_rfl)) (fun _ _ => trivial)
theorem rappsize_any_r4 (a : Option Addr) (c : Nat) (B : List UInt8) (n : Nat) (w0 : World) (F : World → Prop) : Reg Try.prog 3 (regOps Try.f23 3) false 36 [(0, (.slice a (B).length c)), (1, (.int .u64 ((n : Nat) : Int))), (4, (.slice none 0 0)), (5, (.bool false))] w0 [] F
    (fun _ => [(0, (.slice a (B).length c)), (1, (.int .u64 ((n : Nat) : Int))), (4, (.slice none 0 0)), (12, (.bool (decide (((n : Nat) : Int) < 65536))))])
    (fun _ => []) := by
  refine reg_seq [0, 1, 3] [0, 1, 4, 12] 3
    (fun _ ι => ([(.int .u64 ((n : Nat) : Int)), (.bool (decide (((n : Nat) : Int) < 65536))), (.bool (decide (((n : Nat) : Int) < 65536)))] : List Value).getD ι undef)
    (fun _ ι => ([{}, {}, {}] : List Eff).getD ι {})
    (by as_aux_lemma => kernel_rfl) (by as_aux_lemma => kernel_rfl) (fun _ => by as_aux_lemma => kernel_rfl) (fun _ => by as_aux_lemma => kernel_rfl) ⟨⟨⟨trivial, ?_⟩, ?_⟩, ?_⟩
  · exact o_run 0 [] [] (fun _ _ => []) (fun _ _ => by as_aux_lemma => kernel_rfl)
  · exact o_run 1 [] [] (fun _ _ => []) (fun _ _ => by as_aux_lemma => kernel_rfl)
  · exact o_run 2 [] [] (fun _ _ => []) (fun _ _ => by as_aux_lemma => kernel_rfl)
theorem rappsize_any_r5 (a : Option Addr) (c : Nat) (B : List UInt8) (n : Nat) (hn : n < 18446744073709551616) (hl : B.length + 9 ≤ 140737488351232) (hb1 : (decide (((n : Nat) : Int) < 253)) = false) (hb2 : (decide (((n : Nat) : Int) < 65536)) = true) (w0 : World) : RegF Try.prog 4 (regOps Try.f23 4) false 36 [(0, (.slice a (B).length c)), (1, (.int .u64 ((n : Nat) : Int))), (4, (.slice none 0 0)), (12, (.bool true))] w0 [] (fun w => Bs w a c B ∧ True)
    (fun ρ => [(0, (.slice a (B).length c)), (1, (.int .u64 ((n : Nat) : Int))), (4, (.slice (oa ρ 5) (B ++ (([253] : List UInt8) ++ (leB n 2))).length (nb ρ 5)))])
    (fun ρ => [(nb ρ 1, (.cells #[(.int .u8 253)] 5 (0, 0)))]) (fun ρ => (fun w => Bs w a c B ∧ Fs w0 w (oa ρ 3) (nb ρ 3) (leB n 2) ∧ Fs w0 w (oa ρ 4) (nb ρ 4) (([253] : List UInt8) ++ (leB n 2)) ∧ Fs w0 w (oa ρ 5) (nb ρ 5) (B ++ (([253] : List UInt8) ++ (leB n 2))) ∧ True)) := by
  refine reg_seq_f [0, 1, 3, 7, 15, 31, 63] [0, 1, 4] 7
    (fun ρ ι => ([(.slice a (B).length c), (.slice (some ⟨nb ρ 1, 0, none⟩) (([253] : List UInt8)).length 1), (.int .u64 ((n : Nat) : Int)), (.slice (oa ρ 3) (leB n 2).length (nb ρ 3)), (.slice (oa ρ 4) (([253] : List UInt8) ++ (leB n 2)).length (nb ρ 4)), (.slice (oa ρ 5) (B ++ (([253] : List UInt8) ++ (leB n 2))).length (nb ρ 5)), (.slice (oa ρ 5) (B ++ (([253] : List UInt8) ++ (leB n 2))).length (nb ρ 5))] : List Value).getD ι undef)
    (fun ρ ι => ([{}, { news := [(nb ρ 1, (.cells #[(.int .u8 253)] 5 (0, 0)))] }, {}, {}, {}, {}, {}] : List Eff).getD ι {})
    (fun ρ ι => ([(fun _ => True), (fun _ => True), (fun _ => True), (fun w => Fs w0 w (oa ρ 3) (nb ρ 3) (leB n 2)), (fun w => Fs w0 w (oa ρ 4) (nb ρ 4) (([253] : List UInt8) ++ (leB n 2))), (fun w => Fs w0 w (oa ρ 5) (nb ρ 5) (B ++ (([253] : List UInt8) ++ (leB n 2)))), (fun _ => True)] : List (World → Prop)).getD ι (fun _ => True))
    (by as_aux_lemma => kernel_rfl) (by as_aux_lemma => kernel_rfl) (fun _ => by as_aux_lemma => kernel_rfl) (fun _ => by as_aux_lemma => kernel_rfl) (fun _ _ hF hf => ⟨hF.1, hf 3 (by omega), hf 4 (by omega), hf 5 (by omega), trivial⟩) ⟨⟨⟨⟨⟨⟨⟨trivial, ?_⟩, ?_⟩, ?_⟩, ?_⟩, ?_⟩, ?_⟩, ?_⟩
  · exact Obl.brings (o_run 0 [] [] (fun _ _ => []) (fun _ _ => by as_aux_lemma => kernel_rfl)) (fun _ _ => trivial)
  · exact Obl.brings (o_run 1 [] [] (fun _ _ => []) (fun _ _ => by as_aux_lemma => kernel_rfl)) (fun _ _ => trivial)
  · exact Obl.brings (o_run 2 [] [] (fun _ _ => []) (fun _ _ => by as_aux_lemma => kernel_rfl)) (fun _ _ => trivial)
  · exact o_callB 3 50 (fun _ => #[(.int .u64 ((n : Nat) : Int)), (.int .i64 2)]) (fun _ α κ => (.slice α (leB n 2).length κ)) (fun _ => leB n 2) (fun _ _ => (by as_aux_lemma => kernel_rfl)) (fun _ _ => (by as_aux_lemma => kernel_rfl)) (fun _ _ => (by as_aux_lemma => kernel_rfl)) (fun _ _ => (by as_aux_lemma => kernel_rfl)) (fun _ _ w _ => little_any n 2 (by have := of_decide_eq_false hb1; have := of_decide_eq_true hb2; have := hn; have := hl; omega) (by have := of_decide_eq_false hb1; have := of_decide_eq_true hb2; have := hn; have := hl; omega) w )
  · exact o_callB 4 49 (fun ρ => #[(.slice (some ⟨nb ρ 1, 0, none⟩) (([253] : List UInt8)).length 1), (.slice (oa ρ 3) (leB n 2).length (nb ρ 3))]) (fun _ α κ => (.slice α (([253] : List UInt8) ++ (leB n 2)).length κ)) (fun _ => ([253] : List UInt8) ++ (leB n 2)) (fun _ _ => (by as_aux_lemma => kernel_rfl)) (fun _ _ => (by as_aux_lemma => kernel_rfl)) (fun _ _ => (by as_aux_lemma => kernel_rfl)) (fun _ _ => (by as_aux_lemma => kernel_rfl)) (fun ρ _ w hG => joined_any (some ⟨nb ρ 1, 0, none⟩) 1 ([253] : List UInt8) (oa ρ 3) (nb ρ 3) (leB n 2) (by simp only [List.length_append, List.length_cons, List.length_nil, leB_length, hL_length]; have := of_decide_eq_false hb1; have := of_decide_eq_true hb2; have := hn; have := hl; omega) w (Bs.of_hd (hG.known (g := nb ρ 1) (o := (.cells #[(.int .u8 253)] 5 (0, 0))) 8 (by as_aux_lemma => kernel_rfl) (by as_aux_lemma => kernel_rfl)) (rfl : Hd #[(.int .u8 253)] ([253] : List UInt8)) (Nat.le_refl 1) (Nat.le_of_ble_eq_true rfl)) ((show Fs w0 w (oa ρ 3) (nb ρ 3) (leB n 2) from (hG.facts 3 rfl).now).1))
  · exact o_callB 5 49 (fun ρ => #[(.slice a (B).length c), (.slice (oa ρ 4) (([253] : List UInt8) ++ (leB n 2)).length (nb ρ 4))]) (fun _ α κ => (.slice α (B ++ (([253] : List UInt8) ++ (leB n 2))).length κ)) (fun _ => B ++ (([253] : List UInt8) ++ (leB n 2))) (fun _ _ => (by as_aux_lemma => kernel_rfl)) (fun _ _ => (by as_aux_lemma => kernel_rfl)) (fun _ _ => (by as_aux_lemma => kernel_rfl)) (fun _ _ => (by as_aux_lemma => kernel_rfl)) (fun ρ _ w hG => joined_any a c B (oa ρ 4) (nb ρ 4) (([253] : List UInt8) ++ (leB n 2)) (by simp only [List.length_append, List.length_cons, List.length_nil, leB_length, hL_length]; have := of_decide_eq_false hb1; have := of_decide_eq_true hb2; have := hn; have := hl; omega) w hG.facts0.now.1 ((show Fs w0 w (oa ρ 4) (nb ρ 4) (([253] : List UInt8) ++ (leB n 2)) from (hG.facts 4 rfl).now).1))
  · exact Obl.brings (o_run 6 [] [] (fun _ _ => []) (fun _ _ => by as_aux_lemma => kernel_rfl)) (fun _ _ => trivial)
theorem rappsize_any_r6 (a : Option Addr) (c : Nat) (B : List UInt8) (n : Nat) (w0 : World) (F : World → Prop) : Reg Try.prog 5 (regOps Try.f23 5) false 36 [(0, (.slice a (B).length c)), (1, (.int .u64 ((n : Nat) : Int))), (4, (.slice none 0 0)), (12, (.bool false))] w0 [] F
    (fun _ => [(0, (.slice a (B).length c)), (1, (.int .u64 ((n : Nat) : Int))), (4, (.slice none 0 0)), (21, (.bool (decide (((n : Nat) : Int) < 4294967296))))])
    (fun _ => []) := by
  refine reg_seq [0, 1, 3] [0, 1, 4, 21] 3
    (fun _ ι => ([(.int .u64 ((n : Nat) : Int)), (.bool (decide (((n : Nat) : Int) < 4294967296))), (.bool (decide (((n : Nat) : Int) < 4294967296)))] : List Value).getD ι undef)
    (fun _ ι => ([{}, {}, {}] : List Eff).getD ι {})
    (by as_aux_lemma => kernel_rfl) (by as_aux_lemma => kernel_rfl) (fun _ => by as_aux_lemma => kernel_rfl) (fun _ => by as_aux_lemma => kernel_rfl) ⟨⟨⟨trivial, ?_⟩, ?_⟩, ?_⟩
  · exact o_run 0 [] [] (fun _ _ => []) (fun _ _ => by as_aux_lemma => kernel_rfl)
  · exact o_run 1 [] [] (fun _ _ => []) (fun _ _ => by as_aux_lemma => kernel_rfl)
  · exact o_run 2 [] [] (fun _ _ => []) (fun _ _ => by as_aux_lemma => kernel_rfl)
theorem rappsize_any_r7 (a : Option Addr) (c : Nat) (B : List UInt8) (n : Nat) (hn : n < 18446744073709551616) (hl : B.length + 9 ≤ 140737488351232) (hb1 : (decide (((n : Nat) : Int) < 253)) = false) (hb2 : (decide (((n : Nat) : Int) < 65536)) = false) (hb3 : (decide (((n : Nat) : Int) < 4294967296)) = true) (w0 : World) : RegF Try.prog 6 (regOps Try.f23 6) false 36 [(0, (.slice a (B).length c)), (1, (.int .u64 ((n : Nat) : Int))), (4, (.slice none 0 0)), (21, (.bool true))] w0 [] (fun w => Bs w a c B ∧ True)
    (fun ρ => [(0, (.slice a (B).length c)), (1, (.int .u64 ((n : Nat) : Int))), (4, (.slice (oa ρ 5) (B ++ (([254] : List UInt8) ++ (leB n 4))).length (nb ρ 5)))])
    (fun ρ => [(nb ρ 1, (.cells #[(.int .u8 254)] 5 (0, 0)))]) (fun ρ => (fun w => Bs w a c B ∧ Fs w0 w (oa ρ 3) (nb ρ 3) (leB n 4) ∧ Fs w0 w (oa ρ 4) (nb ρ 4) (([254] : List UInt8) ++ (leB n 4)) ∧ Fs w0 w (oa ρ 5) (nb ρ 5) (B ++ (([254] : List UInt8) ++ (leB n 4))) ∧ True)) := by
  refine reg_seq_f [0, 1, 3, 7, 15, 31, 63] [0, 1, 4] 7
    (fun ρ ι => ([(.slice a (B).length c), (.slice (some ⟨nb ρ 1, 0, none⟩) (([254] : List UInt8)).length 1), (.int .u64 ((n : Nat) : Int)), (.slice (oa ρ 3) (leB n 4).length (nb ρ 3)), (.slice (oa ρ 4) (([254] : List UInt8) ++ (leB n 4)).length (nb ρ 4)), (.slice (oa ρ 5) (B ++ (([254] : List UInt8) ++ (leB n 4))).length (nb ρ 5)), (.slice (oa ρ 5) (B ++ (([254] : List UInt8) ++ (leB n 4))).length (nb ρ 5))] : List Value).getD ι undef)
    (fun ρ ι => ([{}, { news := [(nb ρ 1, (.cells #[(.int .u8 254)] 5 (0, 0)))] }, {}, {}, {}, {}, {}] : List Eff).getD ι {})
    (fun ρ ι => ([(fun _ => True), (fun _ => True), (fun _ => True), (fun w => Fs w0 w (oa ρ 3) (nb ρ 3) (leB n 4)), (fun w => Fs w0 w (oa ρ 4) (nb ρ 4) (([254] : List UInt8) ++ (leB n 4))), (fun w => Fs w0 w (oa ρ 5) (nb ρ 5) (B ++ (([254] : List UInt8) ++ (leB n 4)))), (fun _ => True)] : List (World → Prop)).getD ι (fun _ => True))
    (by as_aux_lemma => kernel_rfl) (by as_aux_lemma => kernel_rfl) (fun _ => by as_aux_lemma => kernel_rfl) (fun _ => by as_aux_lemma => kernel_rfl) (fun _ _ hF hf => ⟨hF.1, hf 3 (by omega), hf 4 (by omega), hf 5 (by omega), trivial⟩) ⟨⟨⟨⟨⟨⟨⟨trivial, ?_⟩, ?_⟩, ?_⟩, ?_⟩, ?_⟩, ?_⟩, ?_⟩
  · exact Obl.brings (o_run 0 [] [] (fun _ _ => []) (fun _ _ => by as_aux_lemma => kernel_rfl)) (fun _ _ => trivial)
  · exact Obl.brings (o_run 1 [] [] (fun _ _ => []) (fun _ _ => by as_aux_lemma => kernel_rfl)) (fun _ _ => trivial)
  · exact Obl.brings (o_run 2 [] [] (fun _ _ => []) (fun _ _ => by as_aux_lemma => kernel_rfl)) (fun _ _ => trivial)
  · exact o_callB 3 50 (fun _ => #[(.int .u64 ((n : Nat) : Int)), (.int .i64 4)]) (fun _ α κ => (.slice α (leB n 4).length κ)) (fun _ => leB n 4) (fun _ _ => (by as_aux_lemma => kernel_rfl)) (fun _ _ => (by as_aux_lemma => kernel_rfl)) (fun _ _ => (by as_aux_lemma => kernel_rfl)) (fun _ _ => (by as_aux_lemma => kernel_rfl)) (fun _ _ w _ => little_any n 4 (by have := of_decide_eq_false hb1; have := of_decide_eq_false hb2; have := of_decide_eq_true hb3; have := hn; have := hl; omega) (by have := of_decide_eq_false hb1; have := of_decide_eq_false hb2; have := of_decide_eq_true hb3; have := hn; have := hl; omega) w )
  · exact o_callB 4 49 (fun ρ => #[(.slice (some ⟨nb ρ 1, 0, none⟩) (([254] : List UInt8)).length 1), (.slice (oa ρ 3) (leB n 4).length (nb ρ 3))]) (fun _ α κ => (.slice α (([254] : List UInt8) ++ (leB n 4)).length κ)) (fun _ => ([254] : List UInt8) ++ (leB n 4)) (fun _ _ => (by as_aux_lemma => kernel_rfl)) (fun _ _ => (by as_aux_lemma => kernel_rfl)) (fun _ _ => (by as_aux_lemma => kernel_rfl)) (fun _ _ => (by as_aux_lemma => kernel_rfl)) (fun ρ _ w hG => joined_any (some ⟨nb ρ 1, 0, none⟩) 1 ([254] : List UInt8) (oa ρ 3) (nb ρ 3) (leB n 4) (by simp only [List.length_append, List.length_cons, List.length_nil, leB_length, hL_length]; have := of_decide_eq_false hb1; have := of_decide_eq_false hb2; have := of_decide_eq_true hb3; have := hn; have := hl; omega) w (Bs.of_hd (hG.known (g := nb ρ 1) (o := (.cells #[(.int .u8 254)] 5 (0, 0))) 8 (by as_aux_lemma => kernel_rfl) (by as_aux_lemma => kernel_rfl)) (rfl : Hd #[(.int .u8 254)] ([254] : List UInt8)) (Nat.le_refl 1) (Nat.le_of_ble_eq_true rfl)) ((show Fs w0 w (oa ρ 3) (nb ρ 3) (leB n 4) from (hG.facts 3 rfl).now).1))
  · exact o_callB 5 49 (fun ρ => #[(.slice a (B).length c), (.slice (oa ρ 4) (([254] : List UInt8) ++ (leB n 4)).length (nb ρ 4))]) (fun _ α κ => (.slice α (B ++ (([254] : List UInt8) ++ (leB n 4))).length κ)) (fun _ => B ++ (([254] : List UInt8) ++ (leB n 4))) (fun _ _ => (by as_aux_lemma => kernel_rfl)) (fun _ _ => (by as_aux_lemma => kernel_rfl)) (fun _ _ => (by as_aux_lemma => kernel_rfl)) (fun _ _ => (by as_aux_lemma => kernel_rfl)) (fun ρ _ w hG => joined_any a c B (oa ρ 4) (nb ρ 4) (([254] : List UInt8) ++ (leB n 4)) (by simp only [List.length_append, List.length_cons, List.length_nil, leB_length, hL_length]; have := of_decide_eq_false hb1; have := of_decide_eq_false hb2; have := of_decide_eq_true hb3; have := hn; have := hl; omega) w hG.facts0.now.1 ((show Fs w0 w (oa ρ 4) (nb ρ 4) (([254] : List UInt8) ++ (leB n 4)) from (hG.facts 4 rfl).now).1))
  · exact Obl.brings (o_run 6 [] [] (fun _ _ => []) (fun _ _ => by as_aux_lemma => kernel_rfl)) (fun _ _ => trivial)
theorem rappsize_any_r8 (a : Option Addr) (c : Nat) (B : List UInt8) (n : Nat) (hn : n < 18446744073709551616) (hl : B.length + 9 ≤ 140737488351232) (hb1 : (decide (((n : Nat) : Int) < 253)) = false) (hb2 : (decide (((n : Nat) : Int) < 65536)) = false) (hb3 : (decide (((n : Nat) : Int) < 4294967296)) = false) (w0 : World) : RegF Try.prog 7 (regOps Try.f23 7) false 36 [(0, (.slice a (B).length c)), (1, (.int .u64 ((n : Nat) : Int))), (4, (.slice none 0 0)), (21, (.bool false))] w0 [] (fun w => Bs w a c B ∧ True)
    (fun ρ => [(4, (.slice (oa ρ 5) (B ++ (([255] : List UInt8) ++ (leB n 8))).length (nb ρ 5)))])
    (fun ρ => [(nb ρ 1, (.cells #[(.int .u8 255)] 5 (0, 0)))]) (fun ρ => (fun w => Bs w a c B ∧ Fs w0 w (oa ρ 3) (nb ρ 3) (leB n 8) ∧ Fs w0 w (oa ρ 4) (nb ρ 4) (([255] : List UInt8) ++ (leB n 8)) ∧ Fs w0 w (oa ρ 5) (nb ρ 5) (B ++ (([255] : List UInt8) ++ (leB n 8))) ∧ True)) := by
  refine reg_seq_f [0, 1, 3, 7, 15, 31, 63] [4] 7
    (fun ρ ι => ([(.slice a (B).length c), (.slice (some ⟨nb ρ 1, 0, none⟩) (([255] : List UInt8)).length 1), (.int .u64 ((n : Nat) : Int)), (.slice (oa ρ 3) (leB n 8).length (nb ρ 3)), (.slice (oa ρ 4) (([255] : List UInt8) ++ (leB n 8)).length (nb ρ 4)), (.slice (oa ρ 5) (B ++ (([255] : List UInt8) ++ (leB n 8))).length (nb ρ 5)), (.slice (oa ρ 5) (B ++ (([255] : List UInt8) ++ (leB n 8))).length (nb ρ 5))] : List Value).getD ι undef)
    (fun ρ ι => ([{}, { news := [(nb ρ 1, (.cells #[(.int .u8 255)] 5 (0, 0)))] }, {}, {}, {}, {}, {}] : List Eff).getD ι {})
    (fun ρ ι => ([(fun _ => True), (fun _ => True), (fun _ => True), (fun w => Fs w0 w (oa ρ 3) (nb ρ 3) (leB n 8)), (fun w => Fs w0 w (oa ρ 4) (nb ρ 4) (([255] : List UInt8) ++ (leB n 8))), (fun w => Fs w0 w (oa ρ 5) (nb ρ 5) (B ++ (([255] : List UInt8) ++ (leB n 8)))), (fun _ => True)] : List (World → Prop)).getD ι (fun _ => True))
    (by as_aux_lemma => kernel_rfl) (by as_aux_lemma => kernel_rfl) (fun _ => by as_aux_lemma => kernel_rfl) (fun _ => by as_aux_lemma => kernel_rfl) (fun _ _ hF hf => ⟨hF.1, hf 3 (by omega), hf 4 (by omega), hf 5 (by omega), trivial⟩) ⟨⟨⟨⟨⟨⟨⟨trivial, ?_⟩, ?_⟩, ?_⟩, ?_⟩, ?_⟩, ?_⟩, ?_⟩
  · exact Obl.brings (o_run 0 [] [] (fun _ _ => []) (fun _ _ => by as_aux_lemma => kernel_rfl)) (fun _ _ => trivial)
  · exact Obl.brings (o_run 1 [] [] (fun _ _ => []) (fun _ _ => by as_aux_lemma => kernel_rfl)) (fun _ _ => trivial)
  · exact Obl.brings (o_run 2 [] [] (fun _ _ => []) (fun _ _ => by as_aux_lemma => kernel_rfl)) (fun _ _ => trivial)
  · exact o_callB 3 50 (fun _ => #[(.int .u64 ((n : Nat) : Int)), (.int .i64 8)]) (fun _ α κ => (.slice α (leB n 8).length κ)) (fun _ => leB n 8) (fun _ _ => (by as_aux_lemma => kernel_rfl)) (fun _ _ => (by as_aux_lemma => kernel_rfl)) (fun _ _ => (by as_aux_lemma => kernel_rfl)) (fun _ _ => (by as_aux_lemma => kernel_rfl)) (fun _ _ w _ => little_any n 8 (by have := of_decide_eq_false hb1; have := of_decide_eq_false hb2; have := of_decide_eq_false hb3; have := hn; have := hl; omega) (by have := of_decide_eq_false hb1; have := of_decide_eq_false hb2; have := of_decide_eq_false hb3; have := hn; have := hl; omega) w )
  · exact o_callB 4 49 (fun ρ => #[(.slice (some ⟨nb ρ 1, 0, none⟩) (([255] : List UInt8)).length 1), (.slice (oa ρ 3) (leB n 8).length (nb ρ 3))]) (fun _ α κ => (.slice α (([255] : List UInt8) ++ (leB n 8)).length κ)) (fun _ => ([255] : List UInt8) ++ (leB n 8)) (fun _ _ => (by as_aux_lemma => kernel_rfl)) (fun _ _ => (by as_aux_lemma => kernel_rfl)) (fun _ _ => (by as_aux_lemma => kernel_rfl)) (fun _ _ => (by as_aux_lemma => kernel_rfl)) (fun ρ _ w hG => joined_any (some ⟨nb ρ 1, 0, none⟩) 1 ([255] : List UInt8) (oa ρ 3) (nb ρ 3) (leB n 8) (by simp only [List.length_append, List.length_cons, List.length_nil, leB_length, hL_length]; have := of_decide_eq_false hb1; have := of_decide_eq_false hb2; have := of_decide_eq_false hb3; have := hn; have := hl; omega) w (Bs.of_hd (hG.known (g := nb ρ 1) (o := (.cells #[(.int .u8 255)] 5 (0, 0))) 8 (by as_aux_lemma => kernel_rfl) (by as_aux_lemma => kernel_rfl)) (rfl : Hd #[(.int .u8 255)] ([255] : List UInt8)) (Nat.le_refl 1) (Nat.le_of_ble_eq_true rfl)) ((show Fs w0 w (oa ρ 3) (nb ρ 3) (leB n 8) from (hG.facts 3 rfl).now).1))
  · exact o_callB 5 49 (fun ρ => #[(.slice a (B).length c), (.slice (oa ρ 4) (([255] : List UInt8) ++ (leB n 8)).length (nb ρ 4))]) (fun _ α κ => (.slice α (B ++ (([255] : List UInt8) ++ (leB n 8))).length κ)) (fun _ => B ++ (([255] : List UInt8) ++ (leB n 8))) (fun _ _ => (by as_aux_lemma => kernel_rfl)) (fun _ _ => (by as_aux_lemma => kernel_rfl)) (fun _ _ => (by as_aux_lemma => kernel_rfl)) (fun _ _ => (by as_aux_lemma => kernel_rfl)) (fun ρ _ w hG => joined_any a c B (oa ρ 4) (nb ρ 4) (([255] : List UInt8) ++ (leB n 8)) (by simp only [List.length_append, List.length_cons, List.length_nil, leB_length, hL_length]; have := of_decide_eq_false hb1; have := of_decide_eq_false hb2; have := of_decide_eq_false hb3; have := hn; have := hl; omega) w hG.facts0.now.1 ((show Fs w0 w (oa ρ 4) (nb ρ 4) (([255] : List UInt8) ++ (leB n 8)) from (hG.facts 4 rfl).now).1))
  · exact Obl.brings (o_run 6 [] [] (fun _ _ => []) (fun _ _ => by as_aux_lemma => kernel_rfl)) (fun _ _ => trivial)
theorem rappsize_any (a : Option Addr) (c : Nat) (B : List UInt8) (n : Nat) (hn : n < 18446744073709551616) (hl : B.length + 9 ≤ 140737488351232) (w0 : World) (hf0 : Bs w0 a c B) : Calls Try.prog 23 #[(.slice a (B).length c), (.int .u64 ((n : Nat) : Int))] w0 (fun ε w' => ∃ α κ, ε = .returned (.slice α (B ++ szB n).length κ) ∧ Below w0.heap.size w0 w' ∧ Fs w0 w' α κ (B ++ szB n)) := by
  refine Calls.of_ok (n := 36) (F := (fun w => Bs w a c B ∧ True)) Try.func23 rfl rfl rfl (by simp) (hf0.pers0.and persT) ?_
  refine ok_seq_r (by as_aux_lemma => kernel_rfl) (rappsize_any_r1 a c B n _ _) (fun _ => ?_)
  refine ok_seq ?_
  refine ok_block ?_
  refine ok_seq_r (by as_aux_lemma => kernel_rfl) (rappsize_any_r2 a c B n _ _) (fun _ => ?_)
  refine ok_cond (b := decide (((n : Nat) : Int) < 253)) (by as_aux_lemma => kernel_rfl) (fun hb1 => ?_) (fun hb1 => ?_)
  ·
    rw [hb1]
    refine ok_seq_rf (by as_aux_lemma => kernel_rfl) (rappsize_any_r3 a c B n hn hl hb1 _) (fun ρ3 => ?_)
    refine ok_ret ?_
    refine mt_block_r ?_
    refine mt_then_r ?_
    exact meets_ret (v := (.slice (oa ρ3 3) (B ++ (leB n 1)).length (nb ρ3 3))) [] (dup []) (by as_aux_lemma => kernel_rfl) (by as_aux_lemma => kernel_rfl) (eqs_dup _) (fun _ hS => ⟨oa ρ3 3, nb ρ3 3, congrArg Ending.returned (by rw [← szR1 (by have := of_decide_eq_true hb1; omega)]), hS.below, fs_eq (szR1 (by have := of_decide_eq_true hb1; omega)) hS.facts.now.2.2.1⟩)
  ·
    rw [hb1]
    refine ok_seq_r (by as_aux_lemma => kernel_rfl) (rappsize_any_r4 a c B n _ _) (fun _ => ?_)
    refine ok_cond (b := decide (((n : Nat) : Int) < 65536)) (by as_aux_lemma => kernel_rfl) (fun hb2 => ?_) (fun hb2 => ?_)
    ·
      rw [hb2]
      refine ok_seq_rf (by as_aux_lemma => kernel_rfl) (rappsize_any_r5 a c B n hn hl hb1 hb2 _) (fun ρ5 => ?_)
      refine ok_ret ?_
      refine mt_block_r ?_
      refine mt_then_r ?_
      exact meets_ret (v := (.slice (oa ρ5 5) (B ++ (([253] : List UInt8) ++ (leB n 2))).length (nb ρ5 5))) [] (dup []) (by as_aux_lemma => kernel_rfl) (by as_aux_lemma => kernel_rfl) (eqs_dup _) (fun _ hS => ⟨oa ρ5 5, nb ρ5 5, congrArg Ending.returned (by rw [← szR2 (by have := of_decide_eq_false hb1; omega) (by have := of_decide_eq_true hb2; omega)]), hS.below, fs_eq (szR2 (by have := of_decide_eq_false hb1; omega) (by have := of_decide_eq_true hb2; omega)) hS.facts.now.2.2.2.1⟩)
    ·
      rw [hb2]
      refine ok_seq_r (by as_aux_lemma => kernel_rfl) (rappsize_any_r6 a c B n _ _) (fun _ => ?_)
      refine ok_cond (b := decide (((n : Nat) : Int) < 4294967296)) (by as_aux_lemma => kernel_rfl) (fun hb3 => ?_) (fun hb3 => ?_)
      ·
        rw [hb3]
        refine ok_seq_rf (by as_aux_lemma => kernel_rfl) (rappsize_any_r7 a c B n hn hl hb1 hb2 hb3 _) (fun ρ7 => ?_)
        refine ok_ret ?_
        refine mt_block_r ?_
        refine mt_then_r ?_
        exact meets_ret (v := (.slice (oa ρ7 5) (B ++ (([254] : List UInt8) ++ (leB n 4))).length (nb ρ7 5))) [] (dup []) (by as_aux_lemma => kernel_rfl) (by as_aux_lemma => kernel_rfl) (eqs_dup _) (fun _ hS => ⟨oa ρ7 5, nb ρ7 5, congrArg Ending.returned (by rw [← szR4 (by have := of_decide_eq_false hb1; omega) (by have := of_decide_eq_false hb2; omega) (by have := of_decide_eq_true hb3; omega)]), hS.below, fs_eq (szR4 (by have := of_decide_eq_false hb1; omega) (by have := of_decide_eq_false hb2; omega) (by have := of_decide_eq_true hb3; omega)) hS.facts.now.2.2.2.1⟩)
      ·
        rw [hb3]
        refine ok_skip ?_
        refine mt_block_n ?_
        refine mt_then ?_
        refine ok_seq_rf (by as_aux_lemma => kernel_rfl) (rappsize_any_r8 a c B n hn hl hb1 hb2 hb3 _) (fun ρ8 => ?_)
        refine ok_ret ?_
        exact meets_ret (v := (.slice (oa ρ8 5) (B ++ (([255] : List UInt8) ++ (leB n 8))).length (nb ρ8 5))) [] (dup []) (by as_aux_lemma => kernel_rfl) (by as_aux_lemma => kernel_rfl) (eqs_dup _) (fun _ hS => ⟨oa ρ8 5, nb ρ8 5, congrArg Ending.returned (by rw [← szR8 (by have := of_decide_eq_false hb1; omega) (by have := of_decide_eq_false hb2; omega) (by have := of_decide_eq_false hb3; omega)]), hS.below, fs_eq (szR8 (by have := of_decide_eq_false hb1; omega) (by have := of_decide_eq_false hb2; omega) (by have := of_decide_eq_false hb3; omega)) hS.facts.now.2.2.2.1⟩)
theorem rappbytes_any_r1 (a : Option Addr) (c : Nat) (B : List UInt8) (a2 : Option Addr) (c2 : Nat) (S : List UInt8) (w0 : World) (F : World → Prop) : Reg Try.prog 0 (regOps Try.f25 0) false 12 [(0, (.slice a (B).length c)), (1, (.slice a2 (S).length c2))] w0 [] F
    (fun _ => [(0, (.slice a (B).length c)), (1, (.slice a2 (S).length c2)), (4, (.slice none 0 0))])
    (fun _ => []) := by
  refine reg_seq [0] [0, 1, 4] 1
    (fun _ ι => ([(.slice none 0 0)] : List Value).getD ι undef)
    (fun _ ι => ([{}] : List Eff).getD ι {})
    (by as_aux_lemma => kernel_rfl) (by as_aux_lemma => kernel_rfl) (fun _ => by as_aux_lemma => kernel_rfl) (fun _ => by as_aux_lemma => kernel_rfl) ⟨trivial, ?_⟩
  · exact o_run 0 [] [] (fun _ _ => []) (fun _ _ => by as_aux_lemma => kernel_rfl)
theorem rappbytes_any_r2 (a : Option Addr) (c : Nat) (B : List UInt8) (a2 : Option Addr) (c2 : Nat) (S : List UInt8) (hl : B.length + S.length + 9 ≤ 140737488351232) (w0 : World) : RegF Try.prog 1 (regOps Try.f25 1) false 12 [(0, (.slice a (B).length c)), (1, (.slice a2 (S).length c2)), (4, (.slice none 0 0))] w0 [] (fun w => Bs w a c B ∧ Bs w a2 c2 S ∧ True)
    (fun ρ => [(4, (.slice (oa ρ 6) ((B ++ szB ((S).length)) ++ S).length (nb ρ 6)))])
    (fun _ => []) (fun ρ => (fun w => Bs w a c B ∧ Bs w a2 c2 S ∧ Fs w0 w (oa ρ 4) (nb ρ 4) (B ++ szB ((S).length)) ∧ Fs w0 w (oa ρ 6) (nb ρ 6) ((B ++ szB ((S).length)) ++ S) ∧ True)) := by
  refine reg_seq_f [0, 1, 3, 7, 15, 31, 63, 127] [4] 8
    (fun ρ ι => ([(.slice a (B).length c), (.slice a2 (S).length c2), (.int .i64 (((S).length : Nat) : Int)), (.int .u64 (((S).length : Nat) : Int)), (.slice (oa ρ 4) (B ++ szB ((S).length)).length (nb ρ 4)), (.slice a2 (S).length c2), (.slice (oa ρ 6) ((B ++ szB ((S).length)) ++ S).length (nb ρ 6)), (.slice (oa ρ 6) ((B ++ szB ((S).length)) ++ S).length (nb ρ 6))] : List Value).getD ι undef)
    (fun _ ι => ([{}, {}, {}, {}, {}, {}, {}, {}] : List Eff).getD ι {})
    (fun ρ ι => ([(fun _ => True), (fun _ => True), (fun _ => True), (fun _ => True), (fun w => Fs w0 w (oa ρ 4) (nb ρ 4) (B ++ szB ((S).length))), (fun _ => True), (fun w => Fs w0 w (oa ρ 6) (nb ρ 6) ((B ++ szB ((S).length)) ++ S)), (fun _ => True)] : List (World → Prop)).getD ι (fun _ => True))
    (by as_aux_lemma => kernel_rfl) (by as_aux_lemma => kernel_rfl) (fun _ => by as_aux_lemma => kernel_rfl) (fun _ => by as_aux_lemma => kernel_rfl) (fun _ _ hF hf => ⟨hF.1, hF.2.1, hf 4 (by omega), hf 6 (by omega), trivial⟩) ⟨⟨⟨⟨⟨⟨⟨⟨trivial, ?_⟩, ?_⟩, ?_⟩, ?_⟩, ?_⟩, ?_⟩, ?_⟩, ?_⟩
  · exact Obl.brings (o_run 0 [] [] (fun _ _ => []) (fun _ _ => by as_aux_lemma => kernel_rfl)) (fun _ _ => trivial)
  · exact Obl.brings (o_run 1 [] [] (fun _ _ => []) (fun _ _ => by as_aux_lemma => kernel_rfl)) (fun _ _ => trivial)
  · exact Obl.brings (o_run 2 [] [] (fun _ _ => []) (fun _ _ => by as_aux_lemma => kernel_rfl)) (fun _ _ => trivial)
  · exact Obl.brings (o_as 3 (fun _ => (.int .u64 (IntKind.u64.wrap ((((S).length : Nat) : Int))))) (fun _ => (.int .u64 (((S).length : Nat) : Int))) (fun _ _ => by as_aux_lemma => kernel_rfl) (fun _ => congrArg (Value.int .u64) (u64N (by have := hl; omega)))) (fun _ _ => trivial)
  · exact o_callB 4 23 (fun _ => #[(.slice a (B).length c), (.int .u64 (((S).length : Nat) : Int))]) (fun _ α κ => (.slice α (B ++ szB ((S).length)).length κ)) (fun _ => B ++ szB ((S).length)) (fun _ _ => (by as_aux_lemma => kernel_rfl)) (fun _ _ => (by as_aux_lemma => kernel_rfl)) (fun _ _ => (by as_aux_lemma => kernel_rfl)) (fun _ _ => (by as_aux_lemma => kernel_rfl)) (fun _ _ w hG => rappsize_any a c B ((S).length) (by have := hl; omega) (by have := hl; omega) w hG.facts0.now.1)
  · exact Obl.brings (o_run 5 [] [] (fun _ _ => []) (fun _ _ => by as_aux_lemma => kernel_rfl)) (fun _ _ => trivial)
  · exact o_callB 6 49 (fun ρ => #[(.slice (oa ρ 4) (B ++ szB ((S).length)).length (nb ρ 4)), (.slice a2 (S).length c2)]) (fun _ α κ => (.slice α ((B ++ szB ((S).length)) ++ S).length κ)) (fun _ => (B ++ szB ((S).length)) ++ S) (fun _ _ => (by as_aux_lemma => kernel_rfl)) (fun _ _ => (by as_aux_lemma => kernel_rfl)) (fun _ _ => (by as_aux_lemma => kernel_rfl)) (fun _ _ => (by as_aux_lemma => kernel_rfl)) (fun ρ _ w hG => joined_any (oa ρ 4) (nb ρ 4) (B ++ szB ((S).length)) a2 c2 S (by simp only [List.length_append]; have := szB_len S.length; have := hl; omega) w ((show Fs w0 w (oa ρ 4) (nb ρ 4) (B ++ szB ((S).length)) from (hG.facts 4 rfl).now).1) hG.facts0.now.2.1)
  · exact Obl.brings (o_run 7 [] [] (fun _ _ => []) (fun _ _ => by as_aux_lemma => kernel_rfl)) (fun _ _ => trivial)
theorem rappbytes_any (a : Option Addr) (c : Nat) (B : List UInt8) (a2 : Option Addr) (c2 : Nat) (S : List UInt8) (hl : B.length + S.length + 9 ≤ 140737488351232) (w0 : World) (hf0 : Bs w0 a c B) (hf1 : Bs w0 a2 c2 S) : Calls Try.prog 25 #[(.slice a (B).length c), (.slice a2 (S).length c2)] w0 (fun ε w' => ∃ α κ, ε = .returned (.slice α ((B ++ szB S.length) ++ S).length κ) ∧ Below w0.heap.size w0 w' ∧ Fs w0 w' α κ ((B ++ szB S.length) ++ S)) := by
  refine Calls.of_ok (n := 12) (F := (fun w => Bs w a c B ∧ Bs w a2 c2 S ∧ True)) Try.func25 rfl rfl rfl (by simp) (hf0.pers0.and (hf1.pers0.and persT)) ?_
  refine ok_seq_r (by as_aux_lemma => kernel_rfl) (rappbytes_any_r1 a c B a2 c2 S _ _) (fun _ => ?_)
  refine ok_seq_rf (by as_aux_lemma => kernel_rfl) (rappbytes_any_r2 a c B a2 c2 S hl _) (fun ρ2 => ?_)
  refine ok_ret ?_
  exact meets_ret (v := (.slice (oa ρ2 6) ((B ++ szB ((S).length)) ++ S).length (nb ρ2 6))) [] (dup []) (by as_aux_lemma => kernel_rfl) (by as_aux_lemma => kernel_rfl) (eqs_dup _) (fun _ hS => ⟨oa ρ2 6, nb ρ2 6, congrArg Ending.returned (rfl), hS.below, fs_eq (rfl) hS.facts.now.2.2.2.1⟩)
theorem rapphash_any_r1 (a : Option Addr) (c : Nat) (B : List UInt8) (h : Nat) (w0 : World) (F : World → Prop) : Reg Try.prog 0 (regOps Try.f27 0) false 8 [(0, (.slice a (B).length c)), (1, (.agg (hB h)))] w0 [] F
    (fun ρ => [(0, (.slice a (B).length c)), (3, (.pointer (some ⟨nb ρ 0, 0, none⟩))), (4, (.slice none 0 0))])
    (fun ρ => [(nb ρ 0, (.cells (hB h) 32 (0, 0)))]) := by
  refine reg_seq [0, 1] [0, 3, 4] 2
    (fun ρ ι => ([(.pointer (some ⟨nb ρ 0, 0, none⟩)), (.slice none 0 0)] : List Value).getD ι undef)
    (fun ρ ι => ([{ news := [(nb ρ 0, (.cells (hB h) 32 (0, 0)))] }, {}] : List Eff).getD ι {})
    (by as_aux_lemma => kernel_rfl) (by as_aux_lemma => kernel_rfl) (fun _ => by as_aux_lemma => kernel_rfl) (fun _ => by as_aux_lemma => kernel_rfl) ⟨⟨trivial, ?_⟩, ?_⟩
  · exact o_run 0 [] [] (fun _ _ => []) (fun _ _ => by as_aux_lemma => kernel_rfl)
  · exact o_run 1 [] [] (fun _ _ => []) (fun _ _ => by as_aux_lemma => kernel_rfl)
theorem rapphash_any_r2 (a : Option Addr) (c : Nat) (B : List UInt8) (h : Nat) (hl : B.length + 32 ≤ 140737488351232) (ρ1 : Nat → Orc) (w0 : World) : RegF Try.prog 1 (regOps Try.f27 1) false 8 [(0, (.slice a (B).length c)), (3, (.pointer (some ⟨nb ρ1 0, 0, none⟩))), (4, (.slice none 0 0))] w0 [(nb ρ1 0, (.cells (hB h) 32 (0, 0)))] (fun w => Bs w a c B ∧ True)
    (fun ρ => [(4, (.slice (oa ρ 2) (B ++ (hL h)).length (nb ρ 2)))])
    (fun _ => [(nb ρ1 0, (.cells (hB h) 32 (0, 0)))]) (fun ρ => (fun w => Bs w a c B ∧ Fs w0 w (oa ρ 2) (nb ρ 2) (B ++ (hL h)) ∧ True)) := by
  refine reg_seq_f [0, 1, 3, 7] [4] 4
    (fun ρ ι => ([(.slice a (B).length c), (.slice (some ⟨nb ρ1 0, 0, none⟩) (hL h).length 32), (.slice (oa ρ 2) (B ++ (hL h)).length (nb ρ 2)), (.slice (oa ρ 2) (B ++ (hL h)).length (nb ρ 2))] : List Value).getD ι undef)
    (fun _ ι => ([{}, {}, {}, {}] : List Eff).getD ι {})
    (fun ρ ι => ([(fun _ => True), (fun _ => True), (fun w => Fs w0 w (oa ρ 2) (nb ρ 2) (B ++ (hL h))), (fun _ => True)] : List (World → Prop)).getD ι (fun _ => True))
    (by as_aux_lemma => kernel_rfl) (by as_aux_lemma => kernel_rfl) (fun _ => by as_aux_lemma => kernel_rfl) (fun _ => by as_aux_lemma => kernel_rfl) (fun _ _ hF hf => ⟨hF.1, hf 2 (by omega), trivial⟩) ⟨⟨⟨⟨trivial, ?_⟩, ?_⟩, ?_⟩, ?_⟩
  · exact Obl.brings (o_run 0 [] [] (fun _ _ => []) (fun _ _ => by as_aux_lemma => kernel_rfl)) (fun _ _ => trivial)
  · exact Obl.brings (o_run 1 [] [] (fun _ _ => []) (fun _ _ => by as_aux_lemma => kernel_rfl)) (fun _ _ => trivial)
  · exact o_callB 2 49 (fun _ => #[(.slice a (B).length c), (.slice (some ⟨nb ρ1 0, 0, none⟩) (hL h).length 32)]) (fun _ α κ => (.slice α (B ++ (hL h)).length κ)) (fun _ => B ++ (hL h)) (fun _ _ => (by as_aux_lemma => kernel_rfl)) (fun _ _ => (by as_aux_lemma => kernel_rfl)) (fun _ _ => (by as_aux_lemma => kernel_rfl)) (fun _ _ => (by as_aux_lemma => kernel_rfl)) (fun _ _ w hG => joined_any a c B (some ⟨nb ρ1 0, 0, none⟩) 32 (hL h) (by simp only [List.length_append, List.length_cons, List.length_nil, leB_length, hL_length]; have := hl; omega) w hG.facts0.now.1 (Bs.of_hd (c := 32) (hG.known (g := nb ρ1 0) (o := (.cells (hB h) 32 (0, 0))) 0 (by as_aux_lemma => kernel_rfl) (by as_aux_lemma => kernel_rfl)) (hd_hB _) (Nat.le_refl _) (Nat.le_of_ble_eq_true rfl)))
  · exact Obl.brings (o_run 3 [] [] (fun _ _ => []) (fun _ _ => by as_aux_lemma => kernel_rfl)) (fun _ _ => trivial)
theorem rapphash_any (a : Option Addr) (c : Nat) (B : List UInt8) (h : Nat) (_hh : h < M) (hl : B.length + 32 ≤ 140737488351232) (w0 : World) (hf0 : Bs w0 a c B) : Calls Try.prog 27 #[(.slice a (B).length c), (.agg (hB h))] w0 (fun ε w' => ∃ α κ, ε = .returned (.slice α (B ++ hL h).length κ) ∧ Below w0.heap.size w0 w' ∧ Fs w0 w' α κ (B ++ hL h)) := by
  refine Calls.of_ok (n := 8) (F := (fun w => Bs w a c B ∧ True)) Try.func27 rfl rfl rfl (by simp) (hf0.pers0.and persT) ?_
  refine ok_seq_r (by as_aux_lemma => kernel_rfl) (rapphash_any_r1 a c B h _ _) (fun ρ1 => ?_)
  refine ok_seq_rf (by as_aux_lemma => kernel_rfl) (rapphash_any_r2 a c B h hl ρ1 _) (fun ρ2 => ?_)
  refine ok_ret ?_
  exact meets_ret (v := (.slice (oa ρ2 2) (B ++ (hL h)).length (nb ρ2 2))) [] (dup []) (by as_aux_lemma => kernel_rfl) (by as_aux_lemma => kernel_rfl) (eqs_dup _) (fun _ hS => ⟨oa ρ2 2, nb ρ2 2, congrArg Ending.returned (rfl), hS.below, fs_eq (rfl) hS.facts.now.2.1⟩)
end Go.Proofs.Ytclccfibfkcagaa
