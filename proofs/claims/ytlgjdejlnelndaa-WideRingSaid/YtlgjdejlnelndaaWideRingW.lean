/-
  The law WideRing: the walk.
-/
import Derived.Test.YtlgjdejlnelndaaWModular
import Derived.Test.YtlgjdejlnelndaaSane
import Derived.Test.YtlgjdejlnelndaaRingNum
namespace Go.Proofs.Ytlgjdejlnelndaa
open Go Go.RowKit
set_option maxRecDepth 100000
theorem wideRing_w_r1 (a : Nat) (b : Nat) (c : Nat) (m : Nat) (w0 : World) : Reg Try.prog 0 (regOps Try.f11 0) false 97 [(0, (U a)), (1, (U b)), (2, (U c)), (3, (U m))] w0 [] (fun _ => True)
    (fun ρ => [(4, (.pointer (some ⟨nb ρ 0, 0, none⟩))), (5, (.pointer (some ⟨nb ρ 1, 0, none⟩))), (6, (.pointer (some ⟨nb ρ 2, 0, none⟩))), (7, (.pointer (some ⟨nb ρ 3, 0, none⟩))), (8, (.bool false))])
    (fun ρ => [(nb ρ 0, (.cells (cU a) 24 (0, 0))), (nb ρ 1, (.cells (cU b) 24 (0, 0))), (nb ρ 2, (.cells (cU c) 24 (0, 0))), (nb ρ 3, (.cells (cU m) 24 (0, 0)))]) := by
  refine reg_seq [0, 1, 3, 7, 15] [4, 5, 6, 7, 8] 5
    (fun ρ ι => ([(.pointer (some ⟨nb ρ 0, 0, none⟩)), (.pointer (some ⟨nb ρ 1, 0, none⟩)), (.pointer (some ⟨nb ρ 2, 0, none⟩)), (.pointer (some ⟨nb ρ 3, 0, none⟩)), (.bool false)] : List Value).getD ι undef)
    (fun ρ ι => ([{ news := [(nb ρ 0, (.cells (cU a) 24 (0, 0)))] }, { news := [(nb ρ 1, (.cells (cU b) 24 (0, 0)))] }, { news := [(nb ρ 2, (.cells (cU c) 24 (0, 0)))] }, { news := [(nb ρ 3, (.cells (cU m) 24 (0, 0)))] }, {}] : List Eff).getD ι {})
    (by as_aux_lemma => kernel_rfl) (by as_aux_lemma => kernel_rfl) (fun _ => by as_aux_lemma => kernel_rfl) (fun _ => by as_aux_lemma => kernel_rfl) ⟨⟨⟨⟨⟨trivial, ?_⟩, ?_⟩, ?_⟩, ?_⟩, ?_⟩
  · exact o_run 0 [] [] (fun _ _ => []) (fun _ _ => by as_aux_lemma => kernel_rfl)
  · exact o_run 1 [] [] (fun _ _ => []) (fun _ _ => by as_aux_lemma => kernel_rfl)
  · exact o_run 2 [] [] (fun _ _ => []) (fun _ _ => by as_aux_lemma => kernel_rfl)
  · exact o_run 3 [] [] (fun _ _ => []) (fun _ _ => by as_aux_lemma => kernel_rfl)
  · exact o_run 4 [] [] (fun _ _ => []) (fun _ _ => by as_aux_lemma => kernel_rfl)
theorem wideRing_w_r2 (a : Nat) (b : Nat) (c : Nat) (m : Nat) (ρ1 : Nat → Orc) (w0 : World) : Reg Try.prog 1 (regOps Try.f11 1) false 97 [(4, (.pointer (some ⟨nb ρ1 0, 0, none⟩))), (5, (.pointer (some ⟨nb ρ1 1, 0, none⟩))), (6, (.pointer (some ⟨nb ρ1 2, 0, none⟩))), (7, (.pointer (some ⟨nb ρ1 3, 0, none⟩))), (8, (.bool false))] w0 [(nb ρ1 0, (.cells (cU a) 24 (0, 0))), (nb ρ1 1, (.cells (cU b) 24 (0, 0))), (nb ρ1 2, (.cells (cU c) 24 (0, 0))), (nb ρ1 3, (.cells (cU m) 24 (0, 0)))] (fun _ => True)
    (fun _ => [(4, (.pointer (some ⟨nb ρ1 0, 0, none⟩))), (5, (.pointer (some ⟨nb ρ1 1, 0, none⟩))), (6, (.pointer (some ⟨nb ρ1 2, 0, none⟩))), (7, (.pointer (some ⟨nb ρ1 3, 0, none⟩))), (8, (.bool false)), (10, (.bool false))])
    (fun _ => [(nb ρ1 0, (.cells (cU a) 24 (0, 0))), (nb ρ1 1, (.cells (cU b) 24 (0, 0))), (nb ρ1 2, (.cells (cU c) 24 (0, 0))), (nb ρ1 3, (.cells (cU m) 24 (0, 0)))]) := by
  refine reg_seq [0, 1] [4, 5, 6, 7, 8, 10] 2
    (fun _ ι => ([(.bool true), (.bool false)] : List Value).getD ι undef)
    (fun _ ι => ([{}, {}] : List Eff).getD ι {})
    (by as_aux_lemma => kernel_rfl) (by as_aux_lemma => kernel_rfl) (fun _ => by as_aux_lemma => kernel_rfl) (fun _ => by as_aux_lemma => kernel_rfl) ⟨⟨trivial, ?_⟩, ?_⟩
  · exact o_call 0 17 (fun _ => #[]) (fun _ => (.bool true)) (fun _ _ => by as_aux_lemma => kernel_rfl) (fun _ w => (fun w => sane_any w) w)
  · exact o_run 1 [] [] (fun _ _ => []) (fun _ _ => by as_aux_lemma => kernel_rfl)
theorem wideRing_w_r3 (a : Nat) (b : Nat) (c : Nat) (m : Nat) (ha : a < M) (hb : b < M) (hm : m < M) (hk0 : (decide (addmN a b m = addmN b a m)) = true) (hk1 : (decide (mulmN a b m = mulmN b a m)) = true) (ρ1 : Nat → Orc) (w0 : World) : Reg Try.prog 3 (regOps Try.f11 3) true 97 [(4, (.pointer (some ⟨nb ρ1 0, 0, none⟩))), (5, (.pointer (some ⟨nb ρ1 1, 0, none⟩))), (6, (.pointer (some ⟨nb ρ1 2, 0, none⟩))), (7, (.pointer (some ⟨nb ρ1 3, 0, none⟩))), (8, (.bool false)), (10, (.bool false))] w0 [(nb ρ1 0, (.cells (cU a) 24 (0, 0))), (nb ρ1 1, (.cells (cU b) 24 (0, 0))), (nb ρ1 2, (.cells (cU c) 24 (0, 0))), (nb ρ1 3, (.cells (cU m) 24 (0, 0)))] (fun _ => True)
    (fun _ => [(4, (.pointer (some ⟨nb ρ1 0, 0, none⟩))), (5, (.pointer (some ⟨nb ρ1 1, 0, none⟩))), (6, (.pointer (some ⟨nb ρ1 2, 0, none⟩))), (7, (.pointer (some ⟨nb ρ1 3, 0, none⟩))), (8, (.bool false)), (30, (.bool false))])
    (fun _ => [(nb ρ1 0, (.cells (cU a) 24 (0, 0))), (nb ρ1 1, (.cells (cU b) 24 (0, 0))), (nb ρ1 2, (.cells (cU c) 24 (0, 0))), (nb ρ1 3, (.cells (cU m) 24 (0, 0)))]) := by
  refine reg_drawn [0, 0, 0, 7, 0, 0, 0, 127, 255, 511, 1023, 1023, 1023, 8191, 1023, 1023, 1023, 131071, 262143, 524287] [4, 5, 6, 7, 8, 30] 20
    (fun _ ι => ([(U a), (U b), (U m), (U (addmN a b m)), (U b), (U a), (U m), (U (addmN b a m)), (.bool false), (.bool false), (U a), (U b), (U m), (U (mulmN a b m)), (U b), (U a), (U m), (U (mulmN b a m)), (.bool false), (.bool false)] : List Value).getD ι undef)
    (fun _ ι => ([{}, {}, {}, {}, {}, {}, {}, {}, {}, {}, {}, {}, {}, {}, {}, {}, {}, {}, {}, {}] : List Eff).getD ι {})
    (by as_aux_lemma => kernel_rfl) (by as_aux_lemma => kernel_rfl) (by as_aux_lemma => kernel_rfl) (fun _ => by as_aux_lemma => kernel_rfl) (fun _ => by as_aux_lemma => kernel_rfl) ⟨⟨⟨⟨⟨⟨⟨⟨⟨⟨⟨⟨⟨⟨⟨⟨⟨⟨⟨⟨trivial, ?_⟩, ?_⟩, ?_⟩, ?_⟩, ?_⟩, ?_⟩, ?_⟩, ?_⟩, ?_⟩, ?_⟩, ?_⟩, ?_⟩, ?_⟩, ?_⟩, ?_⟩, ?_⟩, ?_⟩, ?_⟩, ?_⟩, ?_⟩
  · exact o_run 0 [0] [] (fun _ _ => [nb ρ1 0, nb ρ1 0, nb ρ1 0, nb ρ1 0]) (fun _ _ => by as_aux_lemma => kernel_rfl)
  · exact o_run 1 [1] [] (fun _ _ => [nb ρ1 1, nb ρ1 1, nb ρ1 1, nb ρ1 1]) (fun _ _ => by as_aux_lemma => kernel_rfl)
  · exact o_run 2 [3] [] (fun _ _ => [nb ρ1 3, nb ρ1 3, nb ρ1 3, nb ρ1 3]) (fun _ _ => by as_aux_lemma => kernel_rfl)
  · exact o_call 3 43 (fun _ => #[(U a), (U b), (U m)]) (fun _ => (U (addmN a b m))) (fun _ _ => by as_aux_lemma => kernel_rfl) (fun _ w => (fun w => addmod_any a b m w ha hb hm) w)
  · exact o_run 4 [1] [] (fun _ _ => [nb ρ1 1, nb ρ1 1, nb ρ1 1, nb ρ1 1]) (fun _ _ => by as_aux_lemma => kernel_rfl)
  · exact o_run 5 [0] [] (fun _ _ => [nb ρ1 0, nb ρ1 0, nb ρ1 0, nb ρ1 0]) (fun _ _ => by as_aux_lemma => kernel_rfl)
  · exact o_run 6 [3] [] (fun _ _ => [nb ρ1 3, nb ρ1 3, nb ρ1 3, nb ρ1 3]) (fun _ _ => by as_aux_lemma => kernel_rfl)
  · exact o_call 7 43 (fun _ => #[(U b), (U a), (U m)]) (fun _ => (U (addmN b a m))) (fun _ _ => by as_aux_lemma => kernel_rfl) (fun _ w => (fun w => addmod_any b a m w hb ha hm) w)
  · exact o_bin 8 .neq 24 (fun _ => (U (addmN a b m))) (fun _ => (U (addmN b a m))) (fun _ => (.bool false)) (fun _ => by as_aux_lemma => kernel_rfl) (fun _ _ _ _ => by as_aux_lemma => kernel_rfl) (fun _ _ => (neqU (addmN a b m) (addmN b a m) (addmN_lt _ _ hm) (addmN_lt _ _ hm) _).trans (by rw [hk0]; try rfl))
  · exact o_run 9 [] [] (fun _ _ => []) (fun _ _ => by as_aux_lemma => kernel_rfl)
  · exact o_run 10 [0] [] (fun _ _ => [nb ρ1 0, nb ρ1 0, nb ρ1 0, nb ρ1 0]) (fun _ _ => by as_aux_lemma => kernel_rfl)
  · exact o_run 11 [1] [] (fun _ _ => [nb ρ1 1, nb ρ1 1, nb ρ1 1, nb ρ1 1]) (fun _ _ => by as_aux_lemma => kernel_rfl)
  · exact o_run 12 [3] [] (fun _ _ => [nb ρ1 3, nb ρ1 3, nb ρ1 3, nb ρ1 3]) (fun _ _ => by as_aux_lemma => kernel_rfl)
  · exact o_call 13 47 (fun _ => #[(U a), (U b), (U m)]) (fun _ => (U (mulmN a b m))) (fun _ _ => by as_aux_lemma => kernel_rfl) (fun _ w => (fun w => mulmod_any a b m w ha hb hm) w)
  · exact o_run 14 [1] [] (fun _ _ => [nb ρ1 1, nb ρ1 1, nb ρ1 1, nb ρ1 1]) (fun _ _ => by as_aux_lemma => kernel_rfl)
  · exact o_run 15 [0] [] (fun _ _ => [nb ρ1 0, nb ρ1 0, nb ρ1 0, nb ρ1 0]) (fun _ _ => by as_aux_lemma => kernel_rfl)
  · exact o_run 16 [3] [] (fun _ _ => [nb ρ1 3, nb ρ1 3, nb ρ1 3, nb ρ1 3]) (fun _ _ => by as_aux_lemma => kernel_rfl)
  · exact o_call 17 47 (fun _ => #[(U b), (U a), (U m)]) (fun _ => (U (mulmN b a m))) (fun _ _ => by as_aux_lemma => kernel_rfl) (fun _ w => (fun w => mulmod_any b a m w hb ha hm) w)
  · exact o_bin 18 .neq 24 (fun _ => (U (mulmN a b m))) (fun _ => (U (mulmN b a m))) (fun _ => (.bool false)) (fun _ => by as_aux_lemma => kernel_rfl) (fun _ _ _ _ => by as_aux_lemma => kernel_rfl) (fun _ _ => (neqU (mulmN a b m) (mulmN b a m) (mulmN_lt _ _ hm) (mulmN_lt _ _ hm) _).trans (by rw [hk1]; try rfl))
  · exact o_run 19 [] [] (fun _ _ => []) (fun _ _ => by as_aux_lemma => kernel_rfl)
theorem wideRing_w_r4 (a : Nat) (b : Nat) (c : Nat) (m : Nat) (ha : a < M) (hb : b < M) (hc : c < M) (hm : m < M) (hk2 : (decide (addmN (addmN a b m) c m = addmN a (addmN b c m) m)) = true) (hk3 : (decide (mulmN (mulmN a b m) c m = mulmN a (mulmN b c m) m)) = true) (hk4 : (decide (mulmN a (addmN b c m) m = addmN (mulmN a b m) (mulmN a c m) m)) = true) (hk5 : (decide (addmN (submN a b m) b m = addmN a 0 m)) = true) (ρ1 : Nat → Orc) (w0 : World) : Reg Try.prog 5 (regOps Try.f11 5) true 97 [(4, (.pointer (some ⟨nb ρ1 0, 0, none⟩))), (5, (.pointer (some ⟨nb ρ1 1, 0, none⟩))), (6, (.pointer (some ⟨nb ρ1 2, 0, none⟩))), (7, (.pointer (some ⟨nb ρ1 3, 0, none⟩))), (8, (.bool false)), (30, (.bool false))] w0 [(nb ρ1 0, (.cells (cU a) 24 (0, 0))), (nb ρ1 1, (.cells (cU b) 24 (0, 0))), (nb ρ1 2, (.cells (cU c) 24 (0, 0))), (nb ρ1 3, (.cells (cU m) 24 (0, 0)))] (fun _ => True)
    (fun _ => [(8, (.bool true))])
    (fun _ => [(nb ρ1 0, (.cells (cU a) 24 (0, 0))), (nb ρ1 1, (.cells (cU b) 24 (0, 0))), (nb ρ1 2, (.cells (cU c) 24 (0, 0))), (nb ρ1 3, (.cells (cU m) 24 (0, 0)))]) := by
  refine reg_drawn [0, 0, 0, 7, 0, 0, 63, 0, 0, 0, 0, 1919, 0, 8191, 16383, 32767, 65535, 65535, 65535, 524287, 65535, 65535, 4194303, 65535, 65535, 65535, 65535, 125829119, 65535, 536870911, 1073741823, 2147483647, 4294967295, 8589934591, 8589934591, 8589934591, 8589934591, 128849018879, 8589934591, 549755813887, 8589934591, 8589934591, 8589934591, 8796093022207, 8589934591, 8589934591, 8589934591, 140737488355327, 8589934591, 562949953421311, 1125899906842623, 2251799813685247, 4503599627370495, 9007199254740991, 9007199254740991, 9007199254740991, 72057594037927935, 9007199254740991, 9007199254740991, 576460752303423487, 9007199254740991, 9007199254740991, 9007199254740991, 9223372036854775807, 18446744073709551615, 36893488147419103231, 73786976294838206463] [8] 67
    (fun _ ι => ([(U a), (U b), (U m), (U (addmN a b m)), (U c), (U m), (U (addmN (addmN a b m) c m)), (U a), (U b), (U c), (U m), (U (addmN b c m)), (U m), (U (addmN a (addmN b c m) m)), (.bool true), (.bool true), (U a), (U b), (U m), (U (mulmN a b m)), (U c), (U m), (U (mulmN (mulmN a b m) c m)), (U a), (U b), (U c), (U m), (U (mulmN b c m)), (U m), (U (mulmN a (mulmN b c m) m)), (.bool true), (.bool true), (.bool true), (U a), (U b), (U c), (U m), (U (addmN b c m)), (U m), (U (mulmN a (addmN b c m) m)), (U a), (U b), (U m), (U (mulmN a b m)), (U a), (U c), (U m), (U (mulmN a c m)), (U m), (U (addmN (mulmN a b m) (mulmN a c m) m)), (.bool true), (.bool true), (.bool true), (U a), (U b), (U m), (U (submN a b m)), (U b), (U m), (U (addmN (submN a b m) b m)), (U a), (U 0), (U m), (U (addmN a 0 m)), (.bool true), (.bool true), (.bool true)] : List Value).getD ι undef)
    (fun _ ι => ([{}, {}, {}, {}, {}, {}, {}, {}, {}, {}, {}, {}, {}, {}, {}, {}, {}, {}, {}, {}, {}, {}, {}, {}, {}, {}, {}, {}, {}, {}, {}, {}, {}, {}, {}, {}, {}, {}, {}, {}, {}, {}, {}, {}, {}, {}, {}, {}, {}, {}, {}, {}, {}, {}, {}, {}, {}, {}, {}, {}, {}, {}, {}, {}, {}, {}, {}] : List Eff).getD ι {})
    (by as_aux_lemma => kernel_rfl) (by as_aux_lemma => kernel_rfl) (by as_aux_lemma => kernel_rfl) (fun _ => by as_aux_lemma => kernel_rfl) (fun _ => by as_aux_lemma => kernel_rfl) ⟨⟨⟨⟨⟨⟨⟨⟨⟨⟨⟨⟨⟨⟨⟨⟨⟨⟨⟨⟨⟨⟨⟨⟨⟨⟨⟨⟨⟨⟨⟨⟨⟨⟨⟨⟨⟨⟨⟨⟨⟨⟨⟨⟨⟨⟨⟨⟨⟨⟨⟨⟨⟨⟨⟨⟨⟨⟨⟨⟨⟨⟨⟨⟨⟨⟨⟨trivial, ?_⟩, ?_⟩, ?_⟩, ?_⟩, ?_⟩, ?_⟩, ?_⟩, ?_⟩, ?_⟩, ?_⟩, ?_⟩, ?_⟩, ?_⟩, ?_⟩, ?_⟩, ?_⟩, ?_⟩, ?_⟩, ?_⟩, ?_⟩, ?_⟩, ?_⟩, ?_⟩, ?_⟩, ?_⟩, ?_⟩, ?_⟩, ?_⟩, ?_⟩, ?_⟩, ?_⟩, ?_⟩, ?_⟩, ?_⟩, ?_⟩, ?_⟩, ?_⟩, ?_⟩, ?_⟩, ?_⟩, ?_⟩, ?_⟩, ?_⟩, ?_⟩, ?_⟩, ?_⟩, ?_⟩, ?_⟩, ?_⟩, ?_⟩, ?_⟩, ?_⟩, ?_⟩, ?_⟩, ?_⟩, ?_⟩, ?_⟩, ?_⟩, ?_⟩, ?_⟩, ?_⟩, ?_⟩, ?_⟩, ?_⟩, ?_⟩, ?_⟩, ?_⟩
  · exact o_run 0 [0] [] (fun _ _ => [nb ρ1 0, nb ρ1 0, nb ρ1 0, nb ρ1 0]) (fun _ _ => by as_aux_lemma => kernel_rfl)
  · exact o_run 1 [1] [] (fun _ _ => [nb ρ1 1, nb ρ1 1, nb ρ1 1, nb ρ1 1]) (fun _ _ => by as_aux_lemma => kernel_rfl)
  · exact o_run 2 [3] [] (fun _ _ => [nb ρ1 3, nb ρ1 3, nb ρ1 3, nb ρ1 3]) (fun _ _ => by as_aux_lemma => kernel_rfl)
  · exact o_call 3 43 (fun _ => #[(U a), (U b), (U m)]) (fun _ => (U (addmN a b m))) (fun _ _ => by as_aux_lemma => kernel_rfl) (fun _ w => (fun w => addmod_any a b m w ha hb hm) w)
  · exact o_run 4 [2] [] (fun _ _ => [nb ρ1 2, nb ρ1 2, nb ρ1 2, nb ρ1 2]) (fun _ _ => by as_aux_lemma => kernel_rfl)
  · exact o_run 5 [3] [] (fun _ _ => [nb ρ1 3, nb ρ1 3, nb ρ1 3, nb ρ1 3]) (fun _ _ => by as_aux_lemma => kernel_rfl)
  · exact o_call 6 43 (fun _ => #[(U (addmN a b m)), (U c), (U m)]) (fun _ => (U (addmN (addmN a b m) c m))) (fun _ _ => by as_aux_lemma => kernel_rfl) (fun _ w => (fun w => addmod_any (addmN a b m) c m w (addmN_lt _ _ hm) hc hm) w)
  · exact o_run 7 [0] [] (fun _ _ => [nb ρ1 0, nb ρ1 0, nb ρ1 0, nb ρ1 0]) (fun _ _ => by as_aux_lemma => kernel_rfl)
  · exact o_run 8 [1] [] (fun _ _ => [nb ρ1 1, nb ρ1 1, nb ρ1 1, nb ρ1 1]) (fun _ _ => by as_aux_lemma => kernel_rfl)
  · exact o_run 9 [2] [] (fun _ _ => [nb ρ1 2, nb ρ1 2, nb ρ1 2, nb ρ1 2]) (fun _ _ => by as_aux_lemma => kernel_rfl)
  · exact o_run 10 [3] [] (fun _ _ => [nb ρ1 3, nb ρ1 3, nb ρ1 3, nb ρ1 3]) (fun _ _ => by as_aux_lemma => kernel_rfl)
  · exact o_call 11 43 (fun _ => #[(U b), (U c), (U m)]) (fun _ => (U (addmN b c m))) (fun _ _ => by as_aux_lemma => kernel_rfl) (fun _ w => (fun w => addmod_any b c m w hb hc hm) w)
  · exact o_run 12 [3] [] (fun _ _ => [nb ρ1 3, nb ρ1 3, nb ρ1 3, nb ρ1 3]) (fun _ _ => by as_aux_lemma => kernel_rfl)
  · exact o_call 13 43 (fun _ => #[(U a), (U (addmN b c m)), (U m)]) (fun _ => (U (addmN a (addmN b c m) m))) (fun _ _ => by as_aux_lemma => kernel_rfl) (fun _ w => (fun w => addmod_any a (addmN b c m) m w ha (addmN_lt _ _ hm) hm) w)
  · exact o_bin 14 .eql 24 (fun _ => (U (addmN (addmN a b m) c m))) (fun _ => (U (addmN a (addmN b c m) m))) (fun _ => (.bool true)) (fun _ => by as_aux_lemma => kernel_rfl) (fun _ _ _ _ => by as_aux_lemma => kernel_rfl) (fun _ _ => (eqlU (addmN (addmN a b m) c m) (addmN a (addmN b c m) m) (addmN_lt _ _ hm) (addmN_lt _ _ hm) _).trans (by rw [hk2]; try rfl))
  · exact o_run 15 [] [] (fun _ _ => []) (fun _ _ => by as_aux_lemma => kernel_rfl)
  · exact o_run 16 [0] [] (fun _ _ => [nb ρ1 0, nb ρ1 0, nb ρ1 0, nb ρ1 0]) (fun _ _ => by as_aux_lemma => kernel_rfl)
  · exact o_run 17 [1] [] (fun _ _ => [nb ρ1 1, nb ρ1 1, nb ρ1 1, nb ρ1 1]) (fun _ _ => by as_aux_lemma => kernel_rfl)
  · exact o_run 18 [3] [] (fun _ _ => [nb ρ1 3, nb ρ1 3, nb ρ1 3, nb ρ1 3]) (fun _ _ => by as_aux_lemma => kernel_rfl)
  · exact o_call 19 47 (fun _ => #[(U a), (U b), (U m)]) (fun _ => (U (mulmN a b m))) (fun _ _ => by as_aux_lemma => kernel_rfl) (fun _ w => (fun w => mulmod_any a b m w ha hb hm) w)
  · exact o_run 20 [2] [] (fun _ _ => [nb ρ1 2, nb ρ1 2, nb ρ1 2, nb ρ1 2]) (fun _ _ => by as_aux_lemma => kernel_rfl)
  · exact o_run 21 [3] [] (fun _ _ => [nb ρ1 3, nb ρ1 3, nb ρ1 3, nb ρ1 3]) (fun _ _ => by as_aux_lemma => kernel_rfl)
  · exact o_call 22 47 (fun _ => #[(U (mulmN a b m)), (U c), (U m)]) (fun _ => (U (mulmN (mulmN a b m) c m))) (fun _ _ => by as_aux_lemma => kernel_rfl) (fun _ w => (fun w => mulmod_any (mulmN a b m) c m w (mulmN_lt _ _ hm) hc hm) w)
  · exact o_run 23 [0] [] (fun _ _ => [nb ρ1 0, nb ρ1 0, nb ρ1 0, nb ρ1 0]) (fun _ _ => by as_aux_lemma => kernel_rfl)
  · exact o_run 24 [1] [] (fun _ _ => [nb ρ1 1, nb ρ1 1, nb ρ1 1, nb ρ1 1]) (fun _ _ => by as_aux_lemma => kernel_rfl)
  · exact o_run 25 [2] [] (fun _ _ => [nb ρ1 2, nb ρ1 2, nb ρ1 2, nb ρ1 2]) (fun _ _ => by as_aux_lemma => kernel_rfl)
  · exact o_run 26 [3] [] (fun _ _ => [nb ρ1 3, nb ρ1 3, nb ρ1 3, nb ρ1 3]) (fun _ _ => by as_aux_lemma => kernel_rfl)
  · exact o_call 27 47 (fun _ => #[(U b), (U c), (U m)]) (fun _ => (U (mulmN b c m))) (fun _ _ => by as_aux_lemma => kernel_rfl) (fun _ w => (fun w => mulmod_any b c m w hb hc hm) w)
  · exact o_run 28 [3] [] (fun _ _ => [nb ρ1 3, nb ρ1 3, nb ρ1 3, nb ρ1 3]) (fun _ _ => by as_aux_lemma => kernel_rfl)
  · exact o_call 29 47 (fun _ => #[(U a), (U (mulmN b c m)), (U m)]) (fun _ => (U (mulmN a (mulmN b c m) m))) (fun _ _ => by as_aux_lemma => kernel_rfl) (fun _ w => (fun w => mulmod_any a (mulmN b c m) m w ha (mulmN_lt _ _ hm) hm) w)
  · exact o_bin 30 .eql 24 (fun _ => (U (mulmN (mulmN a b m) c m))) (fun _ => (U (mulmN a (mulmN b c m) m))) (fun _ => (.bool true)) (fun _ => by as_aux_lemma => kernel_rfl) (fun _ _ _ _ => by as_aux_lemma => kernel_rfl) (fun _ _ => (eqlU (mulmN (mulmN a b m) c m) (mulmN a (mulmN b c m) m) (mulmN_lt _ _ hm) (mulmN_lt _ _ hm) _).trans (by rw [hk3]; try rfl))
  · exact o_run 31 [] [] (fun _ _ => []) (fun _ _ => by as_aux_lemma => kernel_rfl)
  · exact o_run 32 [] [] (fun _ _ => []) (fun _ _ => by as_aux_lemma => kernel_rfl)
  · exact o_run 33 [0] [] (fun _ _ => [nb ρ1 0, nb ρ1 0, nb ρ1 0, nb ρ1 0]) (fun _ _ => by as_aux_lemma => kernel_rfl)
  · exact o_run 34 [1] [] (fun _ _ => [nb ρ1 1, nb ρ1 1, nb ρ1 1, nb ρ1 1]) (fun _ _ => by as_aux_lemma => kernel_rfl)
  · exact o_run 35 [2] [] (fun _ _ => [nb ρ1 2, nb ρ1 2, nb ρ1 2, nb ρ1 2]) (fun _ _ => by as_aux_lemma => kernel_rfl)
  · exact o_run 36 [3] [] (fun _ _ => [nb ρ1 3, nb ρ1 3, nb ρ1 3, nb ρ1 3]) (fun _ _ => by as_aux_lemma => kernel_rfl)
  · exact o_call 37 43 (fun _ => #[(U b), (U c), (U m)]) (fun _ => (U (addmN b c m))) (fun _ _ => by as_aux_lemma => kernel_rfl) (fun _ w => (fun w => addmod_any b c m w hb hc hm) w)
  · exact o_run 38 [3] [] (fun _ _ => [nb ρ1 3, nb ρ1 3, nb ρ1 3, nb ρ1 3]) (fun _ _ => by as_aux_lemma => kernel_rfl)
  · exact o_call 39 47 (fun _ => #[(U a), (U (addmN b c m)), (U m)]) (fun _ => (U (mulmN a (addmN b c m) m))) (fun _ _ => by as_aux_lemma => kernel_rfl) (fun _ w => (fun w => mulmod_any a (addmN b c m) m w ha (addmN_lt _ _ hm) hm) w)
  · exact o_run 40 [0] [] (fun _ _ => [nb ρ1 0, nb ρ1 0, nb ρ1 0, nb ρ1 0]) (fun _ _ => by as_aux_lemma => kernel_rfl)
  · exact o_run 41 [1] [] (fun _ _ => [nb ρ1 1, nb ρ1 1, nb ρ1 1, nb ρ1 1]) (fun _ _ => by as_aux_lemma => kernel_rfl)
  · exact o_run 42 [3] [] (fun _ _ => [nb ρ1 3, nb ρ1 3, nb ρ1 3, nb ρ1 3]) (fun _ _ => by as_aux_lemma => kernel_rfl)
  · exact o_call 43 47 (fun _ => #[(U a), (U b), (U m)]) (fun _ => (U (mulmN a b m))) (fun _ _ => by as_aux_lemma => kernel_rfl) (fun _ w => (fun w => mulmod_any a b m w ha hb hm) w)
  · exact o_run 44 [0] [] (fun _ _ => [nb ρ1 0, nb ρ1 0, nb ρ1 0, nb ρ1 0]) (fun _ _ => by as_aux_lemma => kernel_rfl)
  · exact o_run 45 [2] [] (fun _ _ => [nb ρ1 2, nb ρ1 2, nb ρ1 2, nb ρ1 2]) (fun _ _ => by as_aux_lemma => kernel_rfl)
  · exact o_run 46 [3] [] (fun _ _ => [nb ρ1 3, nb ρ1 3, nb ρ1 3, nb ρ1 3]) (fun _ _ => by as_aux_lemma => kernel_rfl)
  · exact o_call 47 47 (fun _ => #[(U a), (U c), (U m)]) (fun _ => (U (mulmN a c m))) (fun _ _ => by as_aux_lemma => kernel_rfl) (fun _ w => (fun w => mulmod_any a c m w ha hc hm) w)
  · exact o_run 48 [3] [] (fun _ _ => [nb ρ1 3, nb ρ1 3, nb ρ1 3, nb ρ1 3]) (fun _ _ => by as_aux_lemma => kernel_rfl)
  · exact o_call 49 43 (fun _ => #[(U (mulmN a b m)), (U (mulmN a c m)), (U m)]) (fun _ => (U (addmN (mulmN a b m) (mulmN a c m) m))) (fun _ _ => by as_aux_lemma => kernel_rfl) (fun _ w => (fun w => addmod_any (mulmN a b m) (mulmN a c m) m w (mulmN_lt _ _ hm) (mulmN_lt _ _ hm) hm) w)
  · exact o_bin 50 .eql 24 (fun _ => (U (mulmN a (addmN b c m) m))) (fun _ => (U (addmN (mulmN a b m) (mulmN a c m) m))) (fun _ => (.bool true)) (fun _ => by as_aux_lemma => kernel_rfl) (fun _ _ _ _ => by as_aux_lemma => kernel_rfl) (fun _ _ => (eqlU (mulmN a (addmN b c m) m) (addmN (mulmN a b m) (mulmN a c m) m) (mulmN_lt _ _ hm) (addmN_lt _ _ hm) _).trans (by rw [hk4]; try rfl))
  · exact o_run 51 [] [] (fun _ _ => []) (fun _ _ => by as_aux_lemma => kernel_rfl)
  · exact o_run 52 [] [] (fun _ _ => []) (fun _ _ => by as_aux_lemma => kernel_rfl)
  · exact o_run 53 [0] [] (fun _ _ => [nb ρ1 0, nb ρ1 0, nb ρ1 0, nb ρ1 0]) (fun _ _ => by as_aux_lemma => kernel_rfl)
  · exact o_run 54 [1] [] (fun _ _ => [nb ρ1 1, nb ρ1 1, nb ρ1 1, nb ρ1 1]) (fun _ _ => by as_aux_lemma => kernel_rfl)
  · exact o_run 55 [3] [] (fun _ _ => [nb ρ1 3, nb ρ1 3, nb ρ1 3, nb ρ1 3]) (fun _ _ => by as_aux_lemma => kernel_rfl)
  · exact o_call 56 45 (fun _ => #[(U a), (U b), (U m)]) (fun _ => (U (submN a b m))) (fun _ _ => by as_aux_lemma => kernel_rfl) (fun _ w => (fun w => submod_any a b m w ha hb hm) w)
  · exact o_run 57 [1] [] (fun _ _ => [nb ρ1 1, nb ρ1 1, nb ρ1 1, nb ρ1 1]) (fun _ _ => by as_aux_lemma => kernel_rfl)
  · exact o_run 58 [3] [] (fun _ _ => [nb ρ1 3, nb ρ1 3, nb ρ1 3, nb ρ1 3]) (fun _ _ => by as_aux_lemma => kernel_rfl)
  · exact o_call 59 43 (fun _ => #[(U (submN a b m)), (U b), (U m)]) (fun _ => (U (addmN (submN a b m) b m))) (fun _ _ => by as_aux_lemma => kernel_rfl) (fun _ w => (fun w => addmod_any (submN a b m) b m w (submN_lt _ _ hm) hb hm) w)
  · exact o_run 60 [0] [] (fun _ _ => [nb ρ1 0, nb ρ1 0, nb ρ1 0, nb ρ1 0]) (fun _ _ => by as_aux_lemma => kernel_rfl)
  · exact o_run 61 [] [] (fun _ _ => []) (fun _ _ => by as_aux_lemma => kernel_rfl)
  · exact o_run 62 [3] [] (fun _ _ => [nb ρ1 3, nb ρ1 3, nb ρ1 3, nb ρ1 3]) (fun _ _ => by as_aux_lemma => kernel_rfl)
  · exact o_call 63 43 (fun _ => #[(U a), (U 0), (U m)]) (fun _ => (U (addmN a 0 m))) (fun _ _ => by as_aux_lemma => kernel_rfl) (fun _ w => (fun w => addmod_any a 0 m w ha (by decide +kernel) hm) w)
  · exact o_bin 64 .eql 24 (fun _ => (U (addmN (submN a b m) b m))) (fun _ => (U (addmN a 0 m))) (fun _ => (.bool true)) (fun _ => by as_aux_lemma => kernel_rfl) (fun _ _ _ _ => by as_aux_lemma => kernel_rfl) (fun _ _ => (eqlU (addmN (submN a b m) b m) (addmN a 0 m) (addmN_lt _ _ hm) (addmN_lt _ _ hm) _).trans (by rw [hk5]; try rfl))
  · exact o_run 65 [] [] (fun _ _ => []) (fun _ _ => by as_aux_lemma => kernel_rfl)
  · exact o_run 66 [] [] (fun _ _ => []) (fun _ _ => by as_aux_lemma => kernel_rfl)
theorem wideRing_w (a : Nat) (b : Nat) (c : Nat) (m : Nat) (ha : a < M) (hb : b < M) (hc : c < M) (hm : m < M) (w0 : World) : Calls Try.prog 11 #[(U a), (U b), (U c), (U m)] w0 (fun e w' => e = .returned (.bool true) ∧ Below w0.heap.size w0 w') := by
  refine Calls.of_ok (n := 97) (F := fun _ => True) Try.func11 rfl rfl rfl (by simp) (persTrue (fun _ => trivial)) ?_
  have hk0 : (decide (addmN a b m = addmN b a m)) = true := decide_eq_true (addm_comm a b m)
  have hk1 : (decide (mulmN a b m = mulmN b a m)) = true := decide_eq_true (mulm_comm a b m)
  have hk2 : (decide (addmN (addmN a b m) c m = addmN a (addmN b c m) m)) = true := decide_eq_true (addm_assoc a b c m)
  have hk3 : (decide (mulmN (mulmN a b m) c m = mulmN a (mulmN b c m) m)) = true := decide_eq_true (mulm_assoc a b c m)
  have hk4 : (decide (mulmN a (addmN b c m) m = addmN (mulmN a b m) (mulmN a c m) m)) = true := decide_eq_true (mulm_add a b c m)
  have hk5 : (decide (addmN (submN a b m) b m = addmN a 0 m)) = true := decide_eq_true (subm_add a b m)
  refine ok_seq_r (by as_aux_lemma => kernel_rfl) (wideRing_w_r1 a b c m _) (fun ρ1 => ?_)
  refine ok_seq ?_
  refine ok_seq_r (by as_aux_lemma => kernel_rfl) (wideRing_w_r2 a b c m ρ1 _) (fun _ => ?_)
  refine ok_no (by as_aux_lemma => kernel_rfl) ?_
  refine ok_skip ?_
  refine mt_then ?_
  refine ok_seq ?_
  refine ok_seq_r (by as_aux_lemma => kernel_rfl) (wideRing_w_r3 a b c m ha hb hm hk0 hk1 ρ1 _) (fun _ => ?_)
  refine ok_no (by as_aux_lemma => kernel_rfl) ?_
  refine ok_skip ?_
  refine mt_then ?_
  refine ok_seq_r (by as_aux_lemma => kernel_rfl) (wideRing_w_r4 a b c m ha hb hc hm hk2 hk3 hk4 hk5 ρ1 _) (fun _ => ?_)
  refine ok_ret ?_
  exact meets_ret (v := (.bool true)) [] (dup []) (by as_aux_lemma => kernel_rfl) (by as_aux_lemma => kernel_rfl) (eqs_dup _) (fun _ hS => ⟨rfl, hS.below⟩)
theorem wideRing_walk (a : Nat) (b : Nat) (c : Nat) (m : Nat) (w0 : World) (ha : a < M) (hb : b < M) (hc : c < M) (hm : m < M) : Calls Try.prog 11 #[(U a), (U b), (U c), (U m)] w0 (fun e w' => e = .returned (.bool true) ∧ Below w0.heap.size w0 w') := wideRing_w a b c m ha hb hc hm w0
end Go.Proofs.Ytlgjdejlnelndaa
