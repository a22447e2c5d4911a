/-
  The law GroupScalars: the walk.
-/
import Derived.Test.YtkiijahkmgmnnaaGGroup
import Derived.Test.YtkiijahkmgmnnaaOpen
namespace Go.Proofs.Ytkiijahkmgmnnaa
open Go Go.RowKit
set_option maxRecDepth 100000
theorem groupScalars_w_r1 (h : Nat) (a : Nat) (b : Nat) (w0 : World) : Reg Try.prog 0 (regOps Try.f14 0) false 40 [(0, (.agg (hB h))), (1, (U a)), (2, (U b))] w0 [] (fun _ => True)
    (fun ρ => [(3, (.pointer (some ⟨nb ρ 0, 0, none⟩))), (4, (.pointer (some ⟨nb ρ 1, 0, none⟩))), (5, (.pointer (some ⟨nb ρ 2, 0, none⟩))), (6, (.bool false))])
    (fun ρ => [(nb ρ 0, (.cells (hB h) 44 (0, 0))), (nb ρ 1, (.cells (cU a) 24 (0, 0))), (nb ρ 2, (.cells (cU b) 24 (0, 0)))]) := by
  refine reg_seq [0, 1, 3, 7] [3, 4, 5, 6] 4
    (fun ρ ι => ([(.pointer (some ⟨nb ρ 0, 0, none⟩)), (.pointer (some ⟨nb ρ 1, 0, none⟩)), (.pointer (some ⟨nb ρ 2, 0, none⟩)), (.bool false)] : List Value).getD ι undef)
    (fun ρ ι => ([{ news := [(nb ρ 0, (.cells (hB h) 44 (0, 0)))] }, { news := [(nb ρ 1, (.cells (cU a) 24 (0, 0)))] }, { news := [(nb ρ 2, (.cells (cU b) 24 (0, 0)))] }, {}] : List Eff).getD ι {})
    (by as_aux_lemma => kernel_rfl) (by as_aux_lemma => kernel_rfl) (fun _ => by as_aux_lemma => kernel_rfl) (fun _ => by as_aux_lemma => kernel_rfl) ⟨⟨⟨⟨trivial, ?_⟩, ?_⟩, ?_⟩, ?_⟩
  · exact o_run 0 [] [] (fun _ _ => []) (fun _ _ => by as_aux_lemma => kernel_rfl)
  · exact o_run 1 [] [] (fun _ _ => []) (fun _ _ => by as_aux_lemma => kernel_rfl)
  · exact o_run 2 [] [] (fun _ _ => []) (fun _ _ => by as_aux_lemma => kernel_rfl)
  · exact o_run 3 [] [] (fun _ _ => []) (fun _ _ => by as_aux_lemma => kernel_rfl)
theorem groupScalars_w_r2 (h : Nat) (a : Nat) (b : Nat) (hh : h < M) (ha : a < M) (hb : b < M) (ρ1 : Nat → Orc) (w0 : World) : Reg Try.prog 1 (regOps Try.f14 1) true 40 [(3, (.pointer (some ⟨nb ρ1 0, 0, none⟩))), (4, (.pointer (some ⟨nb ρ1 1, 0, none⟩))), (5, (.pointer (some ⟨nb ρ1 2, 0, none⟩))), (6, (.bool false))] w0 [(nb ρ1 0, (.cells (hB h) 44 (0, 0))), (nb ρ1 1, (.cells (cU a) 24 (0, 0))), (nb ρ1 2, (.cells (cU b) 24 (0, 0)))] (fun _ => True)
    (fun _ => [(6, (.bool true))])
    (fun _ => [(nb ρ1 0, (.cells (hB h) 44 (0, 0))), (nb ρ1 1, (.cells (cU a) 24 (0, 0))), (nb ρ1 2, (.cells (cU b) 24 (0, 0)))]) := by
  refine reg_drawn [0, 1, 3, 7, 3, 31, 63, 127, 255, 511, 511, 2047, 511, 511, 16383, 32767, 65535, 131071, 262143, 262143, 1048575, 262143, 262143, 8388607, 16777215, 33554431, 67108863, 134217727, 268435455, 134217727, 1073741823, 2147483647, 4294967295, 8589934591] [6] 34
    (fun _ ι => ([(.bool true), (.bool true), (.agg (hB h)), (U (addmN h 0 qP)), (.agg (hB h)), (U (addmN h 0 qP)), (.bool true), (.bool true), (.bool true), (U a), (U b), (U (addmN a b qP)), (U a), (U b), (U (addmN a b qP)), (.bool true), (.bool true), (.bool true), (U a), (U b), (U (mulmN a b qP)), (U a), (U b), (U (mulmN a b qP)), (.bool true), (.bool true), (.bool true), (U a), (U (submN 0 a qP)), (U a), (U (submN 0 a qP)), (.bool true), (.bool true), (.bool true)] : List Value).getD ι undef)
    (fun _ ι => ([{}, {}, {}, {}, {}, {}, {}, {}, {}, {}, {}, {}, {}, {}, {}, {}, {}, {}, {}, {}, {}, {}, {}, {}, {}, {}, {}, {}, {}, {}, {}, {}, {}, {}] : List Eff).getD ι {})
    (by as_aux_lemma => kernel_rfl) (by as_aux_lemma => kernel_rfl) (by as_aux_lemma => kernel_rfl) (fun _ => by as_aux_lemma => kernel_rfl) (fun _ => by as_aux_lemma => kernel_rfl) ⟨⟨⟨⟨⟨⟨⟨⟨⟨⟨⟨⟨⟨⟨⟨⟨⟨⟨⟨⟨⟨⟨⟨⟨⟨⟨⟨⟨⟨⟨⟨⟨⟨⟨trivial, ?_⟩, ?_⟩, ?_⟩, ?_⟩, ?_⟩, ?_⟩, ?_⟩, ?_⟩, ?_⟩, ?_⟩, ?_⟩, ?_⟩, ?_⟩, ?_⟩, ?_⟩, ?_⟩, ?_⟩, ?_⟩, ?_⟩, ?_⟩, ?_⟩, ?_⟩, ?_⟩, ?_⟩, ?_⟩, ?_⟩, ?_⟩, ?_⟩, ?_⟩, ?_⟩, ?_⟩, ?_⟩, ?_⟩, ?_⟩
  · exact o_call 0 15 (fun _ => #[]) (fun _ => (.bool true)) (fun _ _ => by as_aux_lemma => kernel_rfl) (fun _ w => (fun w => gsane_any w) w)
  · exact o_run 1 [] [] (fun _ _ => []) (fun _ _ => by as_aux_lemma => kernel_rfl)
  · exact o_run 2 [0] [] (fun _ _ => [nb ρ1 0, nb ρ1 0, nb ρ1 0, nb ρ1 0, nb ρ1 0, nb ρ1 0, nb ρ1 0, nb ρ1 0, nb ρ1 0, nb ρ1 0, nb ρ1 0, nb ρ1 0, nb ρ1 0, nb ρ1 0, nb ρ1 0, nb ρ1 0, nb ρ1 0, nb ρ1 0, nb ρ1 0, nb ρ1 0, nb ρ1 0, nb ρ1 0, nb ρ1 0, nb ρ1 0, nb ρ1 0, nb ρ1 0, nb ρ1 0, nb ρ1 0, nb ρ1 0, nb ρ1 0, nb ρ1 0, nb ρ1 0]) (fun _ _ => by as_aux_lemma => kernel_rfl)
  · exact o_call 3 49 (fun _ => #[(.agg (hB h))]) (fun _ => (U (addmN h 0 qP))) (fun _ _ => by as_aux_lemma => kernel_rfl) (fun _ w => (fun w => gscalar_any h w hh) w)
  · exact o_run 4 [0] [] (fun _ _ => [nb ρ1 0, nb ρ1 0, nb ρ1 0, nb ρ1 0, nb ρ1 0, nb ρ1 0, nb ρ1 0, nb ρ1 0, nb ρ1 0, nb ρ1 0, nb ρ1 0, nb ρ1 0, nb ρ1 0, nb ρ1 0, nb ρ1 0, nb ρ1 0, nb ρ1 0, nb ρ1 0, nb ρ1 0, nb ρ1 0, nb ρ1 0, nb ρ1 0, nb ρ1 0, nb ρ1 0, nb ρ1 0, nb ρ1 0, nb ρ1 0, nb ρ1 0, nb ρ1 0, nb ρ1 0, nb ρ1 0, nb ρ1 0]) (fun _ _ => by as_aux_lemma => kernel_rfl)
  · exact o_call 5 53 (fun _ => #[(.agg (hB h))]) (fun _ => (U (addmN h 0 qP))) (fun _ _ => by as_aux_lemma => kernel_rfl) (fun _ w => (fun w => rgscalar_any h w hh) w)
  · exact o_bin 6 .eql 24 (fun _ => (U (addmN h 0 qP))) (fun _ => (U (addmN h 0 qP))) (fun _ => (.bool true)) (fun _ => by as_aux_lemma => kernel_rfl) (fun _ _ _ _ => by as_aux_lemma => kernel_rfl) (fun _ _ => eqlU_same (addmN h 0 qP) (addmN_lt _ _ qP_lt) _)
  · exact o_run 7 [] [] (fun _ _ => []) (fun _ _ => by as_aux_lemma => kernel_rfl)
  · exact o_run 8 [] [] (fun _ _ => []) (fun _ _ => by as_aux_lemma => kernel_rfl)
  · exact o_run 9 [1] [] (fun _ _ => [nb ρ1 1, nb ρ1 1, nb ρ1 1, nb ρ1 1]) (fun _ _ => by as_aux_lemma => kernel_rfl)
  · exact o_run 10 [2] [] (fun _ _ => [nb ρ1 2, nb ρ1 2, nb ρ1 2, nb ρ1 2]) (fun _ _ => by as_aux_lemma => kernel_rfl)
  · exact o_call 11 51 (fun _ => #[(U a), (U b)]) (fun _ => (U (addmN a b qP))) (fun _ _ => by as_aux_lemma => kernel_rfl) (fun _ w => (fun w => gaddscalar_any a b w ha hb) w)
  · exact o_run 12 [1] [] (fun _ _ => [nb ρ1 1, nb ρ1 1, nb ρ1 1, nb ρ1 1]) (fun _ _ => by as_aux_lemma => kernel_rfl)
  · exact o_run 13 [2] [] (fun _ _ => [nb ρ1 2, nb ρ1 2, nb ρ1 2, nb ρ1 2]) (fun _ _ => by as_aux_lemma => kernel_rfl)
  · exact o_call 14 54 (fun _ => #[(U a), (U b)]) (fun _ => (U (addmN a b qP))) (fun _ _ => by as_aux_lemma => kernel_rfl) (fun _ w => (fun w => rgaddscalar_any a b w ha hb) w)
  · exact o_bin 15 .eql 24 (fun _ => (U (addmN a b qP))) (fun _ => (U (addmN a b qP))) (fun _ => (.bool true)) (fun _ => by as_aux_lemma => kernel_rfl) (fun _ _ _ _ => by as_aux_lemma => kernel_rfl) (fun _ _ => eqlU_same (addmN a b qP) (addmN_lt _ _ qP_lt) _)
  · exact o_run 16 [] [] (fun _ _ => []) (fun _ _ => by as_aux_lemma => kernel_rfl)
  · exact o_run 17 [] [] (fun _ _ => []) (fun _ _ => by as_aux_lemma => kernel_rfl)
  · exact o_run 18 [1] [] (fun _ _ => [nb ρ1 1, nb ρ1 1, nb ρ1 1, nb ρ1 1]) (fun _ _ => by as_aux_lemma => kernel_rfl)
  · exact o_run 19 [2] [] (fun _ _ => [nb ρ1 2, nb ρ1 2, nb ρ1 2, nb ρ1 2]) (fun _ _ => by as_aux_lemma => kernel_rfl)
  · exact o_call 20 55 (fun _ => #[(U a), (U b)]) (fun _ => (U (mulmN a b qP))) (fun _ _ => by as_aux_lemma => kernel_rfl) (fun _ w => (fun w => gmulscalar_any a b w ha hb) w)
  · exact o_run 21 [1] [] (fun _ _ => [nb ρ1 1, nb ρ1 1, nb ρ1 1, nb ρ1 1]) (fun _ _ => by as_aux_lemma => kernel_rfl)
  · exact o_run 22 [2] [] (fun _ _ => [nb ρ1 2, nb ρ1 2, nb ρ1 2, nb ρ1 2]) (fun _ _ => by as_aux_lemma => kernel_rfl)
  · exact o_call 23 56 (fun _ => #[(U a), (U b)]) (fun _ => (U (mulmN a b qP))) (fun _ _ => by as_aux_lemma => kernel_rfl) (fun _ w => (fun w => rgmulscalar_any a b w ha hb) w)
  · exact o_bin 24 .eql 24 (fun _ => (U (mulmN a b qP))) (fun _ => (U (mulmN a b qP))) (fun _ => (.bool true)) (fun _ => by as_aux_lemma => kernel_rfl) (fun _ _ _ _ => by as_aux_lemma => kernel_rfl) (fun _ _ => eqlU_same (mulmN a b qP) (mulmN_lt _ _ qP_lt) _)
  · exact o_run 25 [] [] (fun _ _ => []) (fun _ _ => by as_aux_lemma => kernel_rfl)
  · exact o_run 26 [] [] (fun _ _ => []) (fun _ _ => by as_aux_lemma => kernel_rfl)
  · exact o_run 27 [1] [] (fun _ _ => [nb ρ1 1, nb ρ1 1, nb ρ1 1, nb ρ1 1]) (fun _ _ => by as_aux_lemma => kernel_rfl)
  · exact o_call 28 52 (fun _ => #[(U a)]) (fun _ => (U (submN 0 a qP))) (fun _ _ => by as_aux_lemma => kernel_rfl) (fun _ w => (fun w => gnegscalar_any a w ha) w)
  · exact o_run 29 [1] [] (fun _ _ => [nb ρ1 1, nb ρ1 1, nb ρ1 1, nb ρ1 1]) (fun _ _ => by as_aux_lemma => kernel_rfl)
  · exact o_call 30 57 (fun _ => #[(U a)]) (fun _ => (U (submN 0 a qP))) (fun _ _ => by as_aux_lemma => kernel_rfl) (fun _ w => (fun w => rgnegscalar_any a w ha) w)
  · exact o_bin 31 .eql 24 (fun _ => (U (submN 0 a qP))) (fun _ => (U (submN 0 a qP))) (fun _ => (.bool true)) (fun _ => by as_aux_lemma => kernel_rfl) (fun _ _ _ _ => by as_aux_lemma => kernel_rfl) (fun _ _ => eqlU_same (submN 0 a qP) (submN_lt _ _ qP_lt) _)
  · exact o_run 32 [] [] (fun _ _ => []) (fun _ _ => by as_aux_lemma => kernel_rfl)
  · exact o_run 33 [] [] (fun _ _ => []) (fun _ _ => by as_aux_lemma => kernel_rfl)
theorem groupScalars_w (h : Nat) (a : Nat) (b : Nat) (hh : h < M) (ha : a < M) (hb : b < M) (w0 : World) : Calls Try.prog 14 #[(.agg (hB h)), (U a), (U b)] w0 (fun ε w' => ε = .returned (.bool true) ∧ Below w0.heap.size w0 w') := by
  refine Calls.of_ok (n := 40) (F := fun _ => True) Try.func14 rfl rfl rfl (by simp) (persTrue (fun _ => trivial)) ?_
  refine ok_seq_r (by as_aux_lemma => kernel_rfl) (groupScalars_w_r1 h a b _) (fun ρ1 => ?_)
  refine ok_seq_r (by as_aux_lemma => kernel_rfl) (groupScalars_w_r2 h a b hh ha hb ρ1 _) (fun _ => ?_)
  refine ok_ret ?_
  exact meets_ret (v := (.bool true)) [] (dup []) (by as_aux_lemma => kernel_rfl) (by as_aux_lemma => kernel_rfl) (eqs_dup _) (fun _ hS => ⟨rfl, hS.below⟩)
theorem groupScalars_walk (h : Nat) (a : Nat) (b : Nat) (w0 : World) (hh : h < M) (ha : a < M) (hb : b < M) : Calls Try.prog 14 #[(.agg (hB h)), (U a), (U b)] w0 (fun ε w' => ε = .returned (.bool true) ∧ Below w0.heap.size w0 w') := groupScalars_w h a b hh ha hb w0
end Go.Proofs.Ytkiijahkmgmnnaa
