/-
  The law WideBasics: the walk.
-/
import Derived.Test.YtlgjdejlnelndaaGNum
import Derived.Test.YtlgjdejlnelndaaGhost6
import Derived.Test.YtlgjdejlnelndaaSane
import Derived.Test.YtlgjdejlnelndaaRBytes
import Derived.Test.YtlgjdejlnelndaaLen
import Derived.Test.YtlgjdejlnelndaaBytes
import Derived.Test.YtlgjdejlnelndaaOpen
namespace Go.Proofs.Ytlgjdejlnelndaa
open Go Go.RowKit
set_option maxRecDepth 100000
theorem wideBasics_w_r1 (n : Int) (h : Nat) (a : Nat) (b : Nat) (w0 : World) : Reg Try.prog 0 (regOps Try.f5 0) false 61 [(0, (.int .u64 n)), (1, (.agg (hB h))), (2, (U a)), (3, (U b))] w0 [] (fun _ => True)
    (fun ρ => [(0, (.int .u64 n)), (5, (.pointer (some ⟨nb ρ 0, 0, none⟩))), (6, (.pointer (some ⟨nb ρ 1, 0, none⟩))), (7, (.pointer (some ⟨nb ρ 2, 0, none⟩))), (8, (.bool false))])
    (fun ρ => [(nb ρ 0, (.cells (hB h) 26 (0, 0))), (nb ρ 1, (.cells (cU a) 24 (0, 0))), (nb ρ 2, (.cells (cU b) 24 (0, 0)))]) := by
  refine reg_seq [0, 1, 3, 7] [0, 5, 6, 7, 8] 4
    (fun ρ ι => ([(.pointer (some ⟨nb ρ 0, 0, none⟩)), (.pointer (some ⟨nb ρ 1, 0, none⟩)), (.pointer (some ⟨nb ρ 2, 0, none⟩)), (.bool false)] : List Value).getD ι undef)
    (fun ρ ι => ([{ news := [(nb ρ 0, (.cells (hB h) 26 (0, 0)))] }, { news := [(nb ρ 1, (.cells (cU a) 24 (0, 0)))] }, { news := [(nb ρ 2, (.cells (cU b) 24 (0, 0)))] }, {}] : List Eff).getD ι {})
    (by as_aux_lemma => kernel_rfl) (by as_aux_lemma => kernel_rfl) (fun _ => by as_aux_lemma => kernel_rfl) (fun _ => by as_aux_lemma => kernel_rfl) ⟨⟨⟨⟨trivial, ?_⟩, ?_⟩, ?_⟩, ?_⟩
  · exact o_run 0 [] [] (fun _ _ => []) (fun _ _ => by as_aux_lemma => kernel_rfl)
  · exact o_run 1 [] [] (fun _ _ => []) (fun _ _ => by as_aux_lemma => kernel_rfl)
  · exact o_run 2 [] [] (fun _ _ => []) (fun _ _ => by as_aux_lemma => kernel_rfl)
  · exact o_run 3 [] [] (fun _ _ => []) (fun _ _ => by as_aux_lemma => kernel_rfl)
theorem wideBasics_w_r2 (n : Int) (h : Nat) (a : Nat) (b : Nat) (hh : h < M) (ha : a < M) (hb : b < M) (hnw : Word n) (ρ1 : Nat → Orc) (w0 : World) : Reg Try.prog 1 (regOps Try.f5 1) true 61 [(0, (.int .u64 n)), (5, (.pointer (some ⟨nb ρ1 0, 0, none⟩))), (6, (.pointer (some ⟨nb ρ1 1, 0, none⟩))), (7, (.pointer (some ⟨nb ρ1 2, 0, none⟩))), (8, (.bool false))] w0 [(nb ρ1 0, (.cells (hB h) 26 (0, 0))), (nb ρ1 1, (.cells (cU a) 24 (0, 0))), (nb ρ1 2, (.cells (cU b) 24 (0, 0)))] (fun _ => True)
    (fun _ => [(8, (.bool true))])
    (fun _ => [(nb ρ1 0, (.cells (hB h) 26 (0, 0))), (nb ρ1 1, (.cells (cU a) 24 (0, 0))), (nb ρ1 2, (.cells (cU b) 24 (0, 0)))]) := by
  refine reg_drawn [0, 1, 3, 7, 3, 31, 63, 127, 255, 511, 1023, 511, 4095, 8191, 16383, 32767, 65535, 131071, 65535, 524287, 1048575, 2097151, 4194303, 8388607, 8388607, 33554431, 8388607, 8388607, 268435455, 536870911, 1073741823, 2147483647, 4294967295, 8589934591, 4294967295, 34359738367, 68719476735, 137438953471, 274877906943, 549755813887, 1099511627775, 2199023255551, 549755813887, 8796093022207, 17592186044415, 35184372088831, 70368744177663, 140737488355327, 281474976710655, 70368744177663, 1125899906842623, 2251799813685247, 4503599627370495] [8] 53
    (fun _ ι => ([(.bool true), (.bool true), (.int .u64 n), (U n.toNat), (.int .u64 n), (U n.toNat), (.bool true), (.bool true), (.bool true), (.agg (hB h)), (U h), (.agg (hB h)), (U h), (.bool true), (.bool true), (.bool true), (U a), (.agg (hB a)), (U a), (.agg (hB a)), (.bool true), (.bool true), (.bool true), (U a), (U b), (.int .i64 (cmpN a b)), (U a), (U b), (.int .i64 (cmpN a b)), (.bool true), (.bool true), (.bool true), (U a), (.int .i64 ((lenN a : Nat) : Int)), (U a), (.int .i64 ((lenN a : Nat) : Int)), (.bool true), (.bool true), (.bool true), (.agg (hB h)), (U h), (.agg (hB h)), (.agg (hB h)), (.bool true), (.bool true), (.bool true), (U a), (.agg (hB a)), (U a), (U a), (.bool true), (.bool true), (.bool true)] : List Value).getD ι undef)
    (fun _ ι => ([{}, {}, {}, {}, {}, {}, {}, {}, {}, {}, {}, {}, {}, {}, {}, {}, {}, {}, {}, {}, {}, {}, {}, {}, {}, {}, {}, {}, {}, {}, {}, {}, {}, {}, {}, {}, {}, {}, {}, {}, {}, {}, {}, {}, {}, {}, {}, {}, {}, {}, {}, {}, {}] : List Eff).getD ι {})
    (by as_aux_lemma => kernel_rfl) (by as_aux_lemma => kernel_rfl) (by as_aux_lemma => kernel_rfl) (fun _ => by as_aux_lemma => kernel_rfl) (fun _ => by as_aux_lemma => kernel_rfl) ⟨⟨⟨⟨⟨⟨⟨⟨⟨⟨⟨⟨⟨⟨⟨⟨⟨⟨⟨⟨⟨⟨⟨⟨⟨⟨⟨⟨⟨⟨⟨⟨⟨⟨⟨⟨⟨⟨⟨⟨⟨⟨⟨⟨⟨⟨⟨⟨⟨⟨⟨⟨⟨trivial, ?_⟩, ?_⟩, ?_⟩, ?_⟩, ?_⟩, ?_⟩, ?_⟩, ?_⟩, ?_⟩, ?_⟩, ?_⟩, ?_⟩, ?_⟩, ?_⟩, ?_⟩, ?_⟩, ?_⟩, ?_⟩, ?_⟩, ?_⟩, ?_⟩, ?_⟩, ?_⟩, ?_⟩, ?_⟩, ?_⟩, ?_⟩, ?_⟩, ?_⟩, ?_⟩, ?_⟩, ?_⟩, ?_⟩, ?_⟩, ?_⟩, ?_⟩, ?_⟩, ?_⟩, ?_⟩, ?_⟩, ?_⟩, ?_⟩, ?_⟩, ?_⟩, ?_⟩, ?_⟩, ?_⟩, ?_⟩, ?_⟩, ?_⟩, ?_⟩, ?_⟩, ?_⟩
  · exact o_call 0 17 (fun _ => #[]) (fun _ => (.bool true)) (fun _ _ => by as_aux_lemma => kernel_rfl) (fun _ w => (fun w => sane_any w) w)
  · exact o_run 1 [] [] (fun _ _ => []) (fun _ _ => by as_aux_lemma => kernel_rfl)
  · exact o_run 2 [] [] (fun _ _ => []) (fun _ _ => by as_aux_lemma => kernel_rfl)
  · exact o_call 3 20 (fun _ => #[(.int .u64 n)]) (fun _ => (U n.toNat)) (fun _ _ => by as_aux_lemma => kernel_rfl) (fun _ w => (fun w => fromuint_any n w hnw) w)
  · exact o_run 4 [] [] (fun _ _ => []) (fun _ _ => by as_aux_lemma => kernel_rfl)
  · exact o_call 5 21 (fun _ => #[(.int .u64 n)]) (fun _ => (U n.toNat)) (fun _ _ => by as_aux_lemma => kernel_rfl) (fun _ w => (fun w => rfromuint_any n w hnw) w)
  · exact o_bin 6 .eql 24 (fun _ => (U n.toNat)) (fun _ => (U n.toNat)) (fun _ => (.bool true)) (fun _ => by as_aux_lemma => kernel_rfl) (fun _ _ _ _ => by as_aux_lemma => kernel_rfl) (fun _ _ => eqlU_same n.toNat (word_ltM hnw) _)
  · exact o_run 7 [] [] (fun _ _ => []) (fun _ _ => by as_aux_lemma => kernel_rfl)
  · exact o_run 8 [] [] (fun _ _ => []) (fun _ _ => by as_aux_lemma => kernel_rfl)
  · exact o_run 9 [0] [] (fun _ _ => [nb ρ1 0, nb ρ1 0, nb ρ1 0, nb ρ1 0, nb ρ1 0, nb ρ1 0, nb ρ1 0, nb ρ1 0, nb ρ1 0, nb ρ1 0, nb ρ1 0, nb ρ1 0, nb ρ1 0, nb ρ1 0, nb ρ1 0, nb ρ1 0, nb ρ1 0, nb ρ1 0, nb ρ1 0, nb ρ1 0, nb ρ1 0, nb ρ1 0, nb ρ1 0, nb ρ1 0, nb ρ1 0, nb ρ1 0, nb ρ1 0, nb ρ1 0, nb ρ1 0, nb ρ1 0, nb ρ1 0, nb ρ1 0]) (fun _ _ => by as_aux_lemma => kernel_rfl)
  · exact o_call 10 22 (fun _ => #[(.agg (hB h))]) (fun _ => (U h)) (fun _ _ => by as_aux_lemma => kernel_rfl) (fun _ w => (fun w => frombytes_any h w) w)
  · exact o_run 11 [0] [] (fun _ _ => [nb ρ1 0, nb ρ1 0, nb ρ1 0, nb ρ1 0, nb ρ1 0, nb ρ1 0, nb ρ1 0, nb ρ1 0, nb ρ1 0, nb ρ1 0, nb ρ1 0, nb ρ1 0, nb ρ1 0, nb ρ1 0, nb ρ1 0, nb ρ1 0, nb ρ1 0, nb ρ1 0, nb ρ1 0, nb ρ1 0, nb ρ1 0, nb ρ1 0, nb ρ1 0, nb ρ1 0, nb ρ1 0, nb ρ1 0, nb ρ1 0, nb ρ1 0, nb ρ1 0, nb ρ1 0, nb ρ1 0, nb ρ1 0]) (fun _ _ => by as_aux_lemma => kernel_rfl)
  · exact o_call 12 23 (fun _ => #[(.agg (hB h))]) (fun _ => (U h)) (fun _ _ => by as_aux_lemma => kernel_rfl) (fun _ w => (fun w => rfrombytes_any h w) w)
  · exact o_bin 13 .eql 24 (fun _ => (U h)) (fun _ => (U h)) (fun _ => (.bool true)) (fun _ => by as_aux_lemma => kernel_rfl) (fun _ _ _ _ => by as_aux_lemma => kernel_rfl) (fun _ _ => eqlU_same h hh _)
  · exact o_run 14 [] [] (fun _ _ => []) (fun _ _ => by as_aux_lemma => kernel_rfl)
  · exact o_run 15 [] [] (fun _ _ => []) (fun _ _ => by as_aux_lemma => kernel_rfl)
  · exact o_run 16 [1] [] (fun _ _ => [nb ρ1 1, nb ρ1 1, nb ρ1 1, nb ρ1 1]) (fun _ _ => by as_aux_lemma => kernel_rfl)
  · exact o_call 17 14 (fun _ => #[(U a)]) (fun _ => (.agg (hB a))) (fun _ _ => by as_aux_lemma => kernel_rfl) (fun _ w => (fun w => bytes_any a w) w)
  · exact o_run 18 [1] [] (fun _ _ => [nb ρ1 1, nb ρ1 1, nb ρ1 1, nb ρ1 1]) (fun _ _ => by as_aux_lemma => kernel_rfl)
  · exact o_call 19 24 (fun _ => #[(U a)]) (fun _ => (.agg (hB a))) (fun _ _ => by as_aux_lemma => kernel_rfl) (fun _ w => (fun w => rbytes_any a w) w)
  · exact o_bin 20 .eql 26 (fun _ => (.agg (hB a))) (fun _ => (.agg (hB a))) (fun _ => (.bool true)) (fun _ => by as_aux_lemma => kernel_rfl) (fun _ _ _ _ => by as_aux_lemma => kernel_rfl) (fun _ _ => eqlH_same a ha _)
  · exact o_run 21 [] [] (fun _ _ => []) (fun _ _ => by as_aux_lemma => kernel_rfl)
  · exact o_run 22 [] [] (fun _ _ => []) (fun _ _ => by as_aux_lemma => kernel_rfl)
  · exact o_run 23 [1] [] (fun _ _ => [nb ρ1 1, nb ρ1 1, nb ρ1 1, nb ρ1 1]) (fun _ _ => by as_aux_lemma => kernel_rfl)
  · exact o_run 24 [2] [] (fun _ _ => [nb ρ1 2, nb ρ1 2, nb ρ1 2, nb ρ1 2]) (fun _ _ => by as_aux_lemma => kernel_rfl)
  · exact o_call 25 16 (fun _ => #[(U a), (U b)]) (fun _ => (.int .i64 (cmpN a b))) (fun _ _ => by as_aux_lemma => kernel_rfl) (fun _ w => (fun w => cmp_any a b w ha hb) w)
  · exact o_run 26 [1] [] (fun _ _ => [nb ρ1 1, nb ρ1 1, nb ρ1 1, nb ρ1 1]) (fun _ _ => by as_aux_lemma => kernel_rfl)
  · exact o_run 27 [2] [] (fun _ _ => [nb ρ1 2, nb ρ1 2, nb ρ1 2, nb ρ1 2]) (fun _ _ => by as_aux_lemma => kernel_rfl)
  · exact o_call 28 25 (fun _ => #[(U a), (U b)]) (fun _ => (.int .i64 (cmpN a b))) (fun _ _ => by as_aux_lemma => kernel_rfl) (fun _ w => (fun w => rcmp_any a b w ha hb) w)
  · exact o_as 29 (fun _ => (.bool ((cmpN a b) == (cmpN a b)))) (fun _ => (.bool true)) (fun _ _ => by as_aux_lemma => kernel_rfl) (fun _ => congrArg Value.bool (beq_self_eq_true _))
  · exact o_run 30 [] [] (fun _ _ => []) (fun _ _ => by as_aux_lemma => kernel_rfl)
  · exact o_run 31 [] [] (fun _ _ => []) (fun _ _ => by as_aux_lemma => kernel_rfl)
  · exact o_run 32 [1] [] (fun _ _ => [nb ρ1 1, nb ρ1 1, nb ρ1 1, nb ρ1 1]) (fun _ _ => by as_aux_lemma => kernel_rfl)
  · exact o_call 33 26 (fun _ => #[(U a)]) (fun _ => (.int .i64 ((lenN a : Nat) : Int))) (fun _ _ => by as_aux_lemma => kernel_rfl) (fun _ w => (fun w => len_any a w ha) w)
  · exact o_run 34 [1] [] (fun _ _ => [nb ρ1 1, nb ρ1 1, nb ρ1 1, nb ρ1 1]) (fun _ _ => by as_aux_lemma => kernel_rfl)
  · exact o_call 35 27 (fun _ => #[(U a)]) (fun _ => (.int .i64 ((lenN a : Nat) : Int))) (fun _ _ => by as_aux_lemma => kernel_rfl) (fun _ w => (fun w => rlen_any a w ha) w)
  · exact o_as 36 (fun _ => (.bool (((lenN a : Nat) : Int) == ((lenN a : Nat) : Int)))) (fun _ => (.bool true)) (fun _ _ => by as_aux_lemma => kernel_rfl) (fun _ => congrArg Value.bool (beq_self_eq_true _))
  · exact o_run 37 [] [] (fun _ _ => []) (fun _ _ => by as_aux_lemma => kernel_rfl)
  · exact o_run 38 [] [] (fun _ _ => []) (fun _ _ => by as_aux_lemma => kernel_rfl)
  · exact o_run 39 [0] [] (fun _ _ => [nb ρ1 0, nb ρ1 0, nb ρ1 0, nb ρ1 0, nb ρ1 0, nb ρ1 0, nb ρ1 0, nb ρ1 0, nb ρ1 0, nb ρ1 0, nb ρ1 0, nb ρ1 0, nb ρ1 0, nb ρ1 0, nb ρ1 0, nb ρ1 0, nb ρ1 0, nb ρ1 0, nb ρ1 0, nb ρ1 0, nb ρ1 0, nb ρ1 0, nb ρ1 0, nb ρ1 0, nb ρ1 0, nb ρ1 0, nb ρ1 0, nb ρ1 0, nb ρ1 0, nb ρ1 0, nb ρ1 0, nb ρ1 0]) (fun _ _ => by as_aux_lemma => kernel_rfl)
  · exact o_call 40 22 (fun _ => #[(.agg (hB h))]) (fun _ => (U h)) (fun _ _ => by as_aux_lemma => kernel_rfl) (fun _ w => (fun w => frombytes_any h w) w)
  · exact o_call 41 14 (fun _ => #[(U h)]) (fun _ => (.agg (hB h))) (fun _ _ => by as_aux_lemma => kernel_rfl) (fun _ w => (fun w => bytes_any h w) w)
  · exact o_run 42 [0] [] (fun _ _ => [nb ρ1 0, nb ρ1 0, nb ρ1 0, nb ρ1 0, nb ρ1 0, nb ρ1 0, nb ρ1 0, nb ρ1 0, nb ρ1 0, nb ρ1 0, nb ρ1 0, nb ρ1 0, nb ρ1 0, nb ρ1 0, nb ρ1 0, nb ρ1 0, nb ρ1 0, nb ρ1 0, nb ρ1 0, nb ρ1 0, nb ρ1 0, nb ρ1 0, nb ρ1 0, nb ρ1 0, nb ρ1 0, nb ρ1 0, nb ρ1 0, nb ρ1 0, nb ρ1 0, nb ρ1 0, nb ρ1 0, nb ρ1 0]) (fun _ _ => by as_aux_lemma => kernel_rfl)
  · exact o_bin 43 .eql 26 (fun _ => (.agg (hB h))) (fun _ => (.agg (hB h))) (fun _ => (.bool true)) (fun _ => by as_aux_lemma => kernel_rfl) (fun _ _ _ _ => by as_aux_lemma => kernel_rfl) (fun _ _ => eqlH_same h hh _)
  · exact o_run 44 [] [] (fun _ _ => []) (fun _ _ => by as_aux_lemma => kernel_rfl)
  · exact o_run 45 [] [] (fun _ _ => []) (fun _ _ => by as_aux_lemma => kernel_rfl)
  · exact o_run 46 [1] [] (fun _ _ => [nb ρ1 1, nb ρ1 1, nb ρ1 1, nb ρ1 1]) (fun _ _ => by as_aux_lemma => kernel_rfl)
  · exact o_call 47 14 (fun _ => #[(U a)]) (fun _ => (.agg (hB a))) (fun _ _ => by as_aux_lemma => kernel_rfl) (fun _ w => (fun w => bytes_any a w) w)
  · exact o_call 48 22 (fun _ => #[(.agg (hB a))]) (fun _ => (U a)) (fun _ _ => by as_aux_lemma => kernel_rfl) (fun _ w => (fun w => frombytes_any a w) w)
  · exact o_run 49 [1] [] (fun _ _ => [nb ρ1 1, nb ρ1 1, nb ρ1 1, nb ρ1 1]) (fun _ _ => by as_aux_lemma => kernel_rfl)
  · exact o_bin 50 .eql 24 (fun _ => (U a)) (fun _ => (U a)) (fun _ => (.bool true)) (fun _ => by as_aux_lemma => kernel_rfl) (fun _ _ _ _ => by as_aux_lemma => kernel_rfl) (fun _ _ => eqlU_same a ha _)
  · exact o_run 51 [] [] (fun _ _ => []) (fun _ _ => by as_aux_lemma => kernel_rfl)
  · exact o_run 52 [] [] (fun _ _ => []) (fun _ _ => by as_aux_lemma => kernel_rfl)
theorem wideBasics_w (n : Int) (h : Nat) (a : Nat) (b : Nat) (hn : (Lit.int .u64 n).wf = true) (hh : h < M) (ha : a < M) (hb : b < M) (w0 : World) : Calls Try.prog 5 #[(.int .u64 n), (.agg (hB h)), (U a), (U b)] w0 (fun e w' => e = .returned (.bool true) ∧ Below w0.heap.size w0 w') := by
  refine Calls.of_ok (n := 61) (F := fun _ => True) Try.func5 rfl rfl rfl (by simp) (persTrue (fun _ => trivial)) ?_
  have hnw : Word n := bounds_of_u64 hn
  refine ok_seq_r (by as_aux_lemma => kernel_rfl) (wideBasics_w_r1 n h a b _) (fun ρ1 => ?_)
  refine ok_seq_r (by as_aux_lemma => kernel_rfl) (wideBasics_w_r2 n h a b hh ha hb hnw ρ1 _) (fun _ => ?_)
  refine ok_ret ?_
  exact meets_ret (v := (.bool true)) [] (dup []) (by as_aux_lemma => kernel_rfl) (by as_aux_lemma => kernel_rfl) (eqs_dup _) (fun _ hS => ⟨rfl, hS.below⟩)
theorem wideBasics_walk (n : Int) (h : Nat) (a : Nat) (b : Nat) (w0 : World) (hn : (Lit.int .u64 n).wf = true) (hh : h < M) (ha : a < M) (hb : b < M) : Calls Try.prog 5 #[(.int .u64 n), (.agg (hB h)), (U a), (U b)] w0 (fun e w' => e = .returned (.bool true) ∧ Below w0.heap.size w0 w') := wideBasics_w n h a b hn hh ha hb w0
end Go.Proofs.Ytlgjdejlnelndaa
