/-
  The law WideExponents: the walk.
-/
import Derived.Test.YtlgjdejlnelndaaWExp
import Derived.Test.YtlgjdejlnelndaaSane
import Derived.Test.YtlgjdejlnelndaaOpen
import Derived.Test.YtlgjdejlnelndaaUndoNum
namespace Go.Proofs.Ytlgjdejlnelndaa
open Go Go.RowKit
set_option maxRecDepth 100000
theorem wideExponents_w_r1 (a : Nat) (m : Nat) (x : Int) (y : Int) (w0 : World) : Reg Try.prog 0 (regOps Try.f13 0) false 62 [(0, (U a)), (1, (U m)), (2, (.int .u64 x)), (3, (.int .u64 y))] w0 [] (fun _ => True)
    (fun ρ => [(2, (.int .u64 x)), (3, (.int .u64 y)), (4, (.pointer (some ⟨nb ρ 0, 0, none⟩))), (5, (.pointer (some ⟨nb ρ 1, 0, none⟩))), (8, (.bool false))])
    (fun ρ => [(nb ρ 0, (.cells (cU a) 24 (0, 0))), (nb ρ 1, (.cells (cU m) 24 (0, 0)))]) := by
  refine reg_seq [0, 1, 3] [2, 3, 4, 5, 8] 3
    (fun ρ ι => ([(.pointer (some ⟨nb ρ 0, 0, none⟩)), (.pointer (some ⟨nb ρ 1, 0, none⟩)), (.bool false)] : List Value).getD ι undef)
    (fun ρ ι => ([{ news := [(nb ρ 0, (.cells (cU a) 24 (0, 0)))] }, { news := [(nb ρ 1, (.cells (cU m) 24 (0, 0)))] }, {}] : List Eff).getD ι {})
    (by as_aux_lemma => kernel_rfl) (by as_aux_lemma => kernel_rfl) (fun _ => by as_aux_lemma => kernel_rfl) (fun _ => by as_aux_lemma => kernel_rfl) ⟨⟨⟨trivial, ?_⟩, ?_⟩, ?_⟩
  · exact o_run 0 [] [] (fun _ _ => []) (fun _ _ => by as_aux_lemma => kernel_rfl)
  · exact o_run 1 [] [] (fun _ _ => []) (fun _ _ => by as_aux_lemma => kernel_rfl)
  · exact o_run 2 [] [] (fun _ _ => []) (fun _ _ => by as_aux_lemma => kernel_rfl)
theorem wideExponents_w_r2 (a : Nat) (m : Nat) (x : Int) (y : Int) (ρ1 : Nat → Orc) (w0 : World) : Reg Try.prog 1 (regOps Try.f13 1) false 62 [(2, (.int .u64 x)), (3, (.int .u64 y)), (4, (.pointer (some ⟨nb ρ1 0, 0, none⟩))), (5, (.pointer (some ⟨nb ρ1 1, 0, none⟩))), (8, (.bool false))] w0 [(nb ρ1 0, (.cells (cU a) 24 (0, 0))), (nb ρ1 1, (.cells (cU m) 24 (0, 0)))] (fun _ => True)
    (fun _ => [(2, (.int .u64 x)), (3, (.int .u64 y)), (4, (.pointer (some ⟨nb ρ1 0, 0, none⟩))), (5, (.pointer (some ⟨nb ρ1 1, 0, none⟩))), (8, (.bool false)), (16, (.bool false))])
    (fun _ => [(nb ρ1 0, (.cells (cU a) 24 (0, 0))), (nb ρ1 1, (.cells (cU m) 24 (0, 0)))]) := by
  refine reg_seq [0, 1] [2, 3, 4, 5, 8, 16] 2
    (fun _ ι => ([(.bool true), (.bool false)] : List Value).getD ι undef)
    (fun _ ι => ([{}, {}] : List Eff).getD ι {})
    (by as_aux_lemma => kernel_rfl) (by as_aux_lemma => kernel_rfl) (fun _ => by as_aux_lemma => kernel_rfl) (fun _ => by as_aux_lemma => kernel_rfl) ⟨⟨trivial, ?_⟩, ?_⟩
  · exact o_call 0 17 (fun _ => #[]) (fun _ => (.bool true)) (fun _ _ => by as_aux_lemma => kernel_rfl) (fun _ w => (fun w => sane_any w) w)
  · exact o_run 1 [] [] (fun _ _ => []) (fun _ _ => by as_aux_lemma => kernel_rfl)
theorem wideExponents_w_r3 (a : Nat) (m : Nat) (x : Int) (y : Int) (hxw : Word x) (hyw : Word y) (ρ1 : Nat → Orc) (w0 : World) : Reg Try.prog 3 (regOps Try.f13 3) false 62 [(2, (.int .u64 x)), (3, (.int .u64 y)), (4, (.pointer (some ⟨nb ρ1 0, 0, none⟩))), (5, (.pointer (some ⟨nb ρ1 1, 0, none⟩))), (8, (.bool false)), (16, (.bool false))] w0 [(nb ρ1 0, (.cells (cU a) 24 (0, 0))), (nb ρ1 1, (.cells (cU m) 24 (0, 0)))] (fun _ => True)
    (fun ρ => [(4, (.pointer (some ⟨nb ρ1 0, 0, none⟩))), (5, (.pointer (some ⟨nb ρ1 1, 0, none⟩))), (8, (.bool false)), (9, (.pointer (some ⟨nb ρ 4, 0, none⟩))), (10, (.pointer (some ⟨nb ρ 5, 0, none⟩)))])
    (fun ρ => [(nb ρ1 0, (.cells (cU a) 24 (0, 0))), (nb ρ1 1, (.cells (cU m) 24 (0, 0))), (nb ρ 4, (.cells (cU x.toNat) 24 (0, 0))), (nb ρ 5, (.cells (cU y.toNat) 24 (0, 0)))]) := by
  refine reg_seq [0, 1, 3, 7, 15, 31, 63, 127] [4, 5, 8, 9, 10] 8
    (fun ρ ι => ([(.int .u64 x), (U x.toNat), (.int .u64 y), (U y.toNat), (.pointer (some ⟨nb ρ 4, 0, none⟩)), (.pointer (some ⟨nb ρ 5, 0, none⟩)), undef, undef] : List Value).getD ι undef)
    (fun ρ ι => ([{}, {}, {}, {}, { news := [(nb ρ 4, (.cells (cU 0) 24 (0, 0)))] }, { news := [(nb ρ 5, (.cells (cU 0) 24 (0, 0)))] }, { puts := [(34, (.cells (cU x.toNat) 24 (0, 0)))] }, { puts := [(42, (.cells (cU y.toNat) 24 (0, 0)))] }] : List Eff).getD ι {})
    (by as_aux_lemma => kernel_rfl) (by as_aux_lemma => kernel_rfl) (fun _ => by as_aux_lemma => kernel_rfl) (fun _ => by as_aux_lemma => kernel_rfl) ⟨⟨⟨⟨⟨⟨⟨⟨trivial, ?_⟩, ?_⟩, ?_⟩, ?_⟩, ?_⟩, ?_⟩, ?_⟩, ?_⟩
  · exact o_run 0 [] [] (fun _ _ => []) (fun _ _ => by as_aux_lemma => kernel_rfl)
  · exact o_as 1 (fun _ => (.agg #[(.int .u64 x), (.int .u64 0), (.int .u64 0), (.int .u64 0)])) (fun _ => (U x.toNat)) (fun _ _ => by as_aux_lemma => kernel_rfl) (fun _ => U_word hxw)
  · exact o_run 2 [] [] (fun _ _ => []) (fun _ _ => by as_aux_lemma => kernel_rfl)
  · exact o_as 3 (fun _ => (.agg #[(.int .u64 y), (.int .u64 0), (.int .u64 0), (.int .u64 0)])) (fun _ => (U y.toNat)) (fun _ _ => by as_aux_lemma => kernel_rfl) (fun _ => U_word hyw)
  · exact o_run 4 [] [] (fun _ _ => []) (fun _ _ => by as_aux_lemma => kernel_rfl)
  · exact o_run 5 [] [] (fun _ _ => []) (fun _ _ => by as_aux_lemma => kernel_rfl)
  · exact o_run 6 [34] [] (fun ρ _ => [nb ρ 4, nb ρ 4, nb ρ 4, nb ρ 4]) (fun _ _ => by as_aux_lemma => kernel_rfl)
  · exact o_run 7 [42] [] (fun ρ _ => [nb ρ 5, nb ρ 5, nb ρ 5, nb ρ 5]) (fun _ _ => by as_aux_lemma => kernel_rfl)
theorem wideExponents_w_r4 (a : Nat) (m : Nat) (x : Int) (y : Int) (hxw : Word x) (hyw : Word y) (ρ1 : Nat → Orc) (ρ3 : Nat → Orc) (w0 : World) : Reg Try.prog 4 (regOps Try.f13 4) false 62 [(4, (.pointer (some ⟨nb ρ1 0, 0, none⟩))), (5, (.pointer (some ⟨nb ρ1 1, 0, none⟩))), (8, (.bool false)), (9, (.pointer (some ⟨nb ρ3 4, 0, none⟩))), (10, (.pointer (some ⟨nb ρ3 5, 0, none⟩)))] w0 [(nb ρ1 0, (.cells (cU a) 24 (0, 0))), (nb ρ1 1, (.cells (cU m) 24 (0, 0))), (nb ρ3 4, (.cells (cU x.toNat) 24 (0, 0))), (nb ρ3 5, (.cells (cU y.toNat) 24 (0, 0)))] (fun _ => True)
    (fun ρ => [(4, (.pointer (some ⟨nb ρ1 0, 0, none⟩))), (5, (.pointer (some ⟨nb ρ1 1, 0, none⟩))), (8, (.bool false)), (9, (.pointer (some ⟨nb ρ3 4, 0, none⟩))), (10, (.pointer (some ⟨nb ρ3 5, 0, none⟩))), (11, (.pointer (some ⟨nb ρ 6, 0, none⟩)))])
    (fun ρ => [(nb ρ1 0, (.cells (cU a) 24 (0, 0))), (nb ρ1 1, (.cells (cU m) 24 (0, 0))), (nb ρ3 4, (.cells (cU x.toNat) 24 (0, 0))), (nb ρ3 5, (.cells (cU y.toNat) 24 (0, 0))), (nb ρ 6, (.cells (cU ((x.toNat + y.toNat) % M)) 24 (0, 0)))]) := by
  refine reg_seq [0, 1, 3, 7, 15, 31, 63, 127, 255] [4, 5, 8, 9, 10, 11] 9
    (fun ρ ι => ([(U x.toNat), (U y.toNat), (.tuple #[(U ((x.toNat + y.toNat) % M)), (.bool (decide (M ≤ x.toNat + y.toNat)))]), (.tuple #[(U ((x.toNat + y.toNat) % M)), (.bool (decide (M ≤ x.toNat + y.toNat)))]), (U ((x.toNat + y.toNat) % M)), (.bool (decide (M ≤ x.toNat + y.toNat))), (.pointer (some ⟨nb ρ 6, 0, none⟩)), undef, (.bool (decide (M ≤ x.toNat + y.toNat)))] : List Value).getD ι undef)
    (fun ρ ι => ([{}, {}, {}, {}, {}, {}, { news := [(nb ρ 6, (.cells (cU 0) 24 (0, 0)))] }, { puts := [(52, (.cells (cU ((x.toNat + y.toNat) % M)) 24 (0, 0)))] }, {}] : List Eff).getD ι {})
    (by as_aux_lemma => kernel_rfl) (by as_aux_lemma => kernel_rfl) (fun _ => by as_aux_lemma => kernel_rfl) (fun _ => by as_aux_lemma => kernel_rfl) ⟨⟨⟨⟨⟨⟨⟨⟨⟨trivial, ?_⟩, ?_⟩, ?_⟩, ?_⟩, ?_⟩, ?_⟩, ?_⟩, ?_⟩, ?_⟩
  · exact o_run 0 [2] [] (fun _ _ => [nb ρ3 4, nb ρ3 4, nb ρ3 4, nb ρ3 4]) (fun _ _ => by as_aux_lemma => kernel_rfl)
  · exact o_run 1 [3] [] (fun _ _ => [nb ρ3 5, nb ρ3 5, nb ρ3 5, nb ρ3 5]) (fun _ _ => by as_aux_lemma => kernel_rfl)
  · exact o_call 2 32 (fun _ => #[(U x.toNat), (U y.toNat)]) (fun _ => (.tuple #[(U ((x.toNat + y.toNat) % M)), (.bool (decide (M ≤ x.toNat + y.toNat)))])) (fun _ _ => by as_aux_lemma => kernel_rfl) (fun _ w => (fun w => add_any x.toNat y.toNat w (word_ltM hxw) (word_ltM hyw)) w)
  · exact o_run 3 [] [] (fun _ _ => []) (fun _ _ => by as_aux_lemma => kernel_rfl)
  · exact o_run 4 [] [] (fun _ _ => []) (fun _ _ => by as_aux_lemma => kernel_rfl)
  · exact o_run 5 [] [] (fun _ _ => []) (fun _ _ => by as_aux_lemma => kernel_rfl)
  · exact o_run 6 [] [] (fun _ _ => []) (fun _ _ => by as_aux_lemma => kernel_rfl)
  · exact o_run 7 [52] [] (fun ρ _ => [nb ρ 6, nb ρ 6, nb ρ 6, nb ρ 6]) (fun _ _ => by as_aux_lemma => kernel_rfl)
  · exact o_run 8 [] [] (fun _ _ => []) (fun _ _ => by as_aux_lemma => kernel_rfl)
theorem wideExponents_w_r5 (a : Nat) (m : Nat) (x : Int) (y : Int) (hxw : Word x) (hyw : Word y) (ρ1 : Nat → Orc) (ρ3 : Nat → Orc) (ρ4 : Nat → Orc) (w0 : World) : Reg Try.prog 5 (regOps Try.f13 5) false 62 [(4, (.pointer (some ⟨nb ρ1 0, 0, none⟩))), (5, (.pointer (some ⟨nb ρ1 1, 0, none⟩))), (8, (.bool false)), (9, (.pointer (some ⟨nb ρ3 4, 0, none⟩))), (10, (.pointer (some ⟨nb ρ3 5, 0, none⟩))), (11, (.pointer (some ⟨nb ρ4 6, 0, none⟩)))] w0 [(nb ρ1 0, (.cells (cU a) 24 (0, 0))), (nb ρ1 1, (.cells (cU m) 24 (0, 0))), (nb ρ3 4, (.cells (cU x.toNat) 24 (0, 0))), (nb ρ3 5, (.cells (cU y.toNat) 24 (0, 0))), (nb ρ4 6, (.cells (cU ((x.toNat + y.toNat) % M)) 24 (0, 0)))] (fun _ => True)
    (fun ρ => [(4, (.pointer (some ⟨nb ρ1 0, 0, none⟩))), (5, (.pointer (some ⟨nb ρ1 1, 0, none⟩))), (8, (.bool false)), (9, (.pointer (some ⟨nb ρ3 4, 0, none⟩))), (10, (.pointer (some ⟨nb ρ3 5, 0, none⟩))), (11, (.pointer (some ⟨nb ρ4 6, 0, none⟩))), (14, (.pointer (some ⟨nb ρ 7, 0, none⟩)))])
    (fun ρ => [(nb ρ1 0, (.cells (cU a) 24 (0, 0))), (nb ρ1 1, (.cells (cU m) 24 (0, 0))), (nb ρ3 4, (.cells (cU x.toNat) 24 (0, 0))), (nb ρ3 5, (.cells (cU y.toNat) 24 (0, 0))), (nb ρ4 6, (.cells (cU ((x.toNat + y.toNat) % M)) 24 (0, 0))), (nb ρ 6, (.cells (cU ((x.toNat * y.toNat) / M)) 24 (0, 0))), (nb ρ 7, (.cells (cU ((x.toNat * y.toNat) % M)) 24 (0, 0)))]) := by
  refine reg_seq [0, 1, 3, 7, 15, 31, 63, 127, 255, 511] [4, 5, 8, 9, 10, 11, 14] 10
    (fun ρ ι => ([(U x.toNat), (U y.toNat), (.tuple #[(U ((x.toNat * y.toNat) / M)), (U ((x.toNat * y.toNat) % M))]), (.tuple #[(U ((x.toNat * y.toNat) / M)), (U ((x.toNat * y.toNat) % M))]), (U ((x.toNat * y.toNat) / M)), (U ((x.toNat * y.toNat) % M)), (.pointer (some ⟨nb ρ 6, 0, none⟩)), (.pointer (some ⟨nb ρ 7, 0, none⟩)), undef, undef] : List Value).getD ι undef)
    (fun ρ ι => ([{}, {}, {}, {}, {}, {}, { news := [(nb ρ 6, (.cells (cU 0) 24 (0, 0)))] }, { news := [(nb ρ 7, (.cells (cU 0) 24 (0, 0)))] }, { puts := [(53, (.cells (cU ((x.toNat * y.toNat) / M)) 24 (0, 0)))] }, { puts := [(61, (.cells (cU ((x.toNat * y.toNat) % M)) 24 (0, 0)))] }] : List Eff).getD ι {})
    (by as_aux_lemma => kernel_rfl) (by as_aux_lemma => kernel_rfl) (fun _ => by as_aux_lemma => kernel_rfl) (fun _ => by as_aux_lemma => kernel_rfl) ⟨⟨⟨⟨⟨⟨⟨⟨⟨⟨trivial, ?_⟩, ?_⟩, ?_⟩, ?_⟩, ?_⟩, ?_⟩, ?_⟩, ?_⟩, ?_⟩, ?_⟩
  · exact o_run 0 [2] [] (fun _ _ => [nb ρ3 4, nb ρ3 4, nb ρ3 4, nb ρ3 4]) (fun _ _ => by as_aux_lemma => kernel_rfl)
  · exact o_run 1 [3] [] (fun _ _ => [nb ρ3 5, nb ρ3 5, nb ρ3 5, nb ρ3 5]) (fun _ _ => by as_aux_lemma => kernel_rfl)
  · exact o_call 2 35 (fun _ => #[(U x.toNat), (U y.toNat)]) (fun _ => (.tuple #[(U ((x.toNat * y.toNat) / M)), (U ((x.toNat * y.toNat) % M))])) (fun _ _ => by as_aux_lemma => kernel_rfl) (fun _ w => (fun w => mul_any x.toNat y.toNat w (word_ltM hxw) (word_ltM hyw)) w)
  · exact o_run 3 [] [] (fun _ _ => []) (fun _ _ => by as_aux_lemma => kernel_rfl)
  · exact o_run 4 [] [] (fun _ _ => []) (fun _ _ => by as_aux_lemma => kernel_rfl)
  · exact o_run 5 [] [] (fun _ _ => []) (fun _ _ => by as_aux_lemma => kernel_rfl)
  · exact o_run 6 [] [] (fun _ _ => []) (fun _ _ => by as_aux_lemma => kernel_rfl)
  · exact o_run 7 [] [] (fun _ _ => []) (fun _ _ => by as_aux_lemma => kernel_rfl)
  · exact o_run 8 [53] [] (fun ρ _ => [nb ρ 6, nb ρ 6, nb ρ 6, nb ρ 6]) (fun _ _ => by as_aux_lemma => kernel_rfl)
  · exact o_run 9 [61] [] (fun ρ _ => [nb ρ 7, nb ρ 7, nb ρ 7, nb ρ 7]) (fun _ _ => by as_aux_lemma => kernel_rfl)
theorem wideExponents_w_r6 (a : Nat) (m : Nat) (x : Int) (y : Int) (ha : a < M) (hm : m < M) (hxw : Word x) (hyw : Word y) (hk0 : (decide (expmN a ((x.toNat + y.toNat) % M) m = mulmN (expmN a x.toNat m) (expmN a y.toNat m) m)) = true) (hk1 : (decide (expmN a ((x.toNat * y.toNat) % M) m = expmN (expmN a x.toNat m) y.toNat m)) = true) (ρ1 : Nat → Orc) (ρ3 : Nat → Orc) (ρ4 : Nat → Orc) (ρ5 : Nat → Orc) (w0 : World) : Reg Try.prog 6 (regOps Try.f13 6) true 62 [(4, (.pointer (some ⟨nb ρ1 0, 0, none⟩))), (5, (.pointer (some ⟨nb ρ1 1, 0, none⟩))), (8, (.bool false)), (9, (.pointer (some ⟨nb ρ3 4, 0, none⟩))), (10, (.pointer (some ⟨nb ρ3 5, 0, none⟩))), (11, (.pointer (some ⟨nb ρ4 6, 0, none⟩))), (14, (.pointer (some ⟨nb ρ5 7, 0, none⟩)))] w0 [(nb ρ1 0, (.cells (cU a) 24 (0, 0))), (nb ρ1 1, (.cells (cU m) 24 (0, 0))), (nb ρ3 4, (.cells (cU x.toNat) 24 (0, 0))), (nb ρ3 5, (.cells (cU y.toNat) 24 (0, 0))), (nb ρ4 6, (.cells (cU ((x.toNat + y.toNat) % M)) 24 (0, 0))), (nb ρ5 6, (.cells (cU ((x.toNat * y.toNat) / M)) 24 (0, 0))), (nb ρ5 7, (.cells (cU ((x.toNat * y.toNat) % M)) 24 (0, 0)))] (fun _ => True)
    (fun _ => [(8, (.bool true))])
    (fun _ => [(nb ρ1 0, (.cells (cU a) 24 (0, 0))), (nb ρ1 1, (.cells (cU m) 24 (0, 0))), (nb ρ3 4, (.cells (cU x.toNat) 24 (0, 0))), (nb ρ3 5, (.cells (cU y.toNat) 24 (0, 0))), (nb ρ4 6, (.cells (cU ((x.toNat + y.toNat) % M)) 24 (0, 0))), (nb ρ5 6, (.cells (cU ((x.toNat * y.toNat) / M)) 24 (0, 0))), (nb ρ5 7, (.cells (cU ((x.toNat * y.toNat) % M)) 24 (0, 0)))]) := by
  refine reg_drawn [0, 0, 0, 7, 0, 0, 0, 127, 0, 0, 0, 2047, 0, 8191, 16383, 32767, 65535, 65535, 65535, 524287, 65535, 65535, 65535, 8388607, 65535, 65535, 67108863, 134217727, 268435455, 536870911] [8] 30
    (fun _ ι => ([(U a), (U ((x.toNat + y.toNat) % M)), (U m), (U (expmN a ((x.toNat + y.toNat) % M) m)), (U a), (U x.toNat), (U m), (U (expmN a x.toNat m)), (U a), (U y.toNat), (U m), (U (expmN a y.toNat m)), (U m), (U (mulmN (expmN a x.toNat m) (expmN a y.toNat m) m)), (.bool true), (.bool true), (U a), (U ((x.toNat * y.toNat) % M)), (U m), (U (expmN a ((x.toNat * y.toNat) % M) m)), (U a), (U x.toNat), (U m), (U (expmN a x.toNat m)), (U y.toNat), (U m), (U (expmN (expmN a x.toNat m) y.toNat m)), (.bool true), (.bool true), (.bool true)] : List Value).getD ι undef)
    (fun _ ι => ([{}, {}, {}, {}, {}, {}, {}, {}, {}, {}, {}, {}, {}, {}, {}, {}, {}, {}, {}, {}, {}, {}, {}, {}, {}, {}, {}, {}, {}, {}] : List Eff).getD ι {})
    (by as_aux_lemma => kernel_rfl) (by as_aux_lemma => kernel_rfl) (by as_aux_lemma => kernel_rfl) (fun _ => by as_aux_lemma => kernel_rfl) (fun _ => by as_aux_lemma => kernel_rfl) ⟨⟨⟨⟨⟨⟨⟨⟨⟨⟨⟨⟨⟨⟨⟨⟨⟨⟨⟨⟨⟨⟨⟨⟨⟨⟨⟨⟨⟨⟨trivial, ?_⟩, ?_⟩, ?_⟩, ?_⟩, ?_⟩, ?_⟩, ?_⟩, ?_⟩, ?_⟩, ?_⟩, ?_⟩, ?_⟩, ?_⟩, ?_⟩, ?_⟩, ?_⟩, ?_⟩, ?_⟩, ?_⟩, ?_⟩, ?_⟩, ?_⟩, ?_⟩, ?_⟩, ?_⟩, ?_⟩, ?_⟩, ?_⟩, ?_⟩, ?_⟩
  · exact o_run 0 [0] [] (fun _ _ => [nb ρ1 0, nb ρ1 0, nb ρ1 0, nb ρ1 0]) (fun _ _ => by as_aux_lemma => kernel_rfl)
  · exact o_run 1 [4] [] (fun _ _ => [nb ρ4 6, nb ρ4 6, nb ρ4 6, nb ρ4 6]) (fun _ _ => by as_aux_lemma => kernel_rfl)
  · exact o_run 2 [1] [] (fun _ _ => [nb ρ1 1, nb ρ1 1, nb ρ1 1, nb ρ1 1]) (fun _ _ => by as_aux_lemma => kernel_rfl)
  · exact o_call 3 49 (fun _ => #[(U a), (U ((x.toNat + y.toNat) % M)), (U m)]) (fun _ => (U (expmN a ((x.toNat + y.toNat) % M) m))) (fun _ _ => by as_aux_lemma => kernel_rfl) (fun _ w => (fun w => expmod_any a ((x.toNat + y.toNat) % M) m w ha (modM_lt _) hm) w)
  · exact o_run 4 [0] [] (fun _ _ => [nb ρ1 0, nb ρ1 0, nb ρ1 0, nb ρ1 0]) (fun _ _ => by as_aux_lemma => kernel_rfl)
  · exact o_run 5 [2] [] (fun _ _ => [nb ρ3 4, nb ρ3 4, nb ρ3 4, nb ρ3 4]) (fun _ _ => by as_aux_lemma => kernel_rfl)
  · exact o_run 6 [1] [] (fun _ _ => [nb ρ1 1, nb ρ1 1, nb ρ1 1, nb ρ1 1]) (fun _ _ => by as_aux_lemma => kernel_rfl)
  · exact o_call 7 49 (fun _ => #[(U a), (U x.toNat), (U m)]) (fun _ => (U (expmN a x.toNat m))) (fun _ _ => by as_aux_lemma => kernel_rfl) (fun _ w => (fun w => expmod_any a x.toNat m w ha (word_ltM hxw) hm) w)
  · exact o_run 8 [0] [] (fun _ _ => [nb ρ1 0, nb ρ1 0, nb ρ1 0, nb ρ1 0]) (fun _ _ => by as_aux_lemma => kernel_rfl)
  · exact o_run 9 [3] [] (fun _ _ => [nb ρ3 5, nb ρ3 5, nb ρ3 5, nb ρ3 5]) (fun _ _ => by as_aux_lemma => kernel_rfl)
  · exact o_run 10 [1] [] (fun _ _ => [nb ρ1 1, nb ρ1 1, nb ρ1 1, nb ρ1 1]) (fun _ _ => by as_aux_lemma => kernel_rfl)
  · exact o_call 11 49 (fun _ => #[(U a), (U y.toNat), (U m)]) (fun _ => (U (expmN a y.toNat m))) (fun _ _ => by as_aux_lemma => kernel_rfl) (fun _ w => (fun w => expmod_any a y.toNat m w ha (word_ltM hyw) hm) w)
  · exact o_run 12 [1] [] (fun _ _ => [nb ρ1 1, nb ρ1 1, nb ρ1 1, nb ρ1 1]) (fun _ _ => by as_aux_lemma => kernel_rfl)
  · exact o_call 13 47 (fun _ => #[(U (expmN a x.toNat m)), (U (expmN a y.toNat m)), (U m)]) (fun _ => (U (mulmN (expmN a x.toNat m) (expmN a y.toNat m) m))) (fun _ _ => by as_aux_lemma => kernel_rfl) (fun _ w => (fun w => mulmod_any (expmN a x.toNat m) (expmN a y.toNat m) m w (expmN_lt _ _ hm) (expmN_lt _ _ hm) hm) w)
  · exact o_bin 14 .eql 24 (fun _ => (U (expmN a ((x.toNat + y.toNat) % M) m))) (fun _ => (U (mulmN (expmN a x.toNat m) (expmN a y.toNat m) m))) (fun _ => (.bool true)) (fun _ => by as_aux_lemma => kernel_rfl) (fun _ _ _ _ => by as_aux_lemma => kernel_rfl) (fun _ _ => (eqlU (expmN a ((x.toNat + y.toNat) % M) m) (mulmN (expmN a x.toNat m) (expmN a y.toNat m) m) (expmN_lt _ _ hm) (mulmN_lt _ _ hm) _).trans (by rw [hk0]; try rfl))
  · exact o_run 15 [] [] (fun _ _ => []) (fun _ _ => by as_aux_lemma => kernel_rfl)
  · exact o_run 16 [0] [] (fun _ _ => [nb ρ1 0, nb ρ1 0, nb ρ1 0, nb ρ1 0]) (fun _ _ => by as_aux_lemma => kernel_rfl)
  · exact o_run 17 [6] [] (fun _ _ => [nb ρ5 7, nb ρ5 7, nb ρ5 7, nb ρ5 7]) (fun _ _ => by as_aux_lemma => kernel_rfl)
  · exact o_run 18 [1] [] (fun _ _ => [nb ρ1 1, nb ρ1 1, nb ρ1 1, nb ρ1 1]) (fun _ _ => by as_aux_lemma => kernel_rfl)
  · exact o_call 19 49 (fun _ => #[(U a), (U ((x.toNat * y.toNat) % M)), (U m)]) (fun _ => (U (expmN a ((x.toNat * y.toNat) % M) m))) (fun _ _ => by as_aux_lemma => kernel_rfl) (fun _ w => (fun w => expmod_any a ((x.toNat * y.toNat) % M) m w ha (modM_lt _) hm) w)
  · exact o_run 20 [0] [] (fun _ _ => [nb ρ1 0, nb ρ1 0, nb ρ1 0, nb ρ1 0]) (fun _ _ => by as_aux_lemma => kernel_rfl)
  · exact o_run 21 [2] [] (fun _ _ => [nb ρ3 4, nb ρ3 4, nb ρ3 4, nb ρ3 4]) (fun _ _ => by as_aux_lemma => kernel_rfl)
  · exact o_run 22 [1] [] (fun _ _ => [nb ρ1 1, nb ρ1 1, nb ρ1 1, nb ρ1 1]) (fun _ _ => by as_aux_lemma => kernel_rfl)
  · exact o_call 23 49 (fun _ => #[(U a), (U x.toNat), (U m)]) (fun _ => (U (expmN a x.toNat m))) (fun _ _ => by as_aux_lemma => kernel_rfl) (fun _ w => (fun w => expmod_any a x.toNat m w ha (word_ltM hxw) hm) w)
  · exact o_run 24 [3] [] (fun _ _ => [nb ρ3 5, nb ρ3 5, nb ρ3 5, nb ρ3 5]) (fun _ _ => by as_aux_lemma => kernel_rfl)
  · exact o_run 25 [1] [] (fun _ _ => [nb ρ1 1, nb ρ1 1, nb ρ1 1, nb ρ1 1]) (fun _ _ => by as_aux_lemma => kernel_rfl)
  · exact o_call 26 49 (fun _ => #[(U (expmN a x.toNat m)), (U y.toNat), (U m)]) (fun _ => (U (expmN (expmN a x.toNat m) y.toNat m))) (fun _ _ => by as_aux_lemma => kernel_rfl) (fun _ w => (fun w => expmod_any (expmN a x.toNat m) y.toNat m w (expmN_lt _ _ hm) (word_ltM hyw) hm) w)
  · exact o_bin 27 .eql 24 (fun _ => (U (expmN a ((x.toNat * y.toNat) % M) m))) (fun _ => (U (expmN (expmN a x.toNat m) y.toNat m))) (fun _ => (.bool true)) (fun _ => by as_aux_lemma => kernel_rfl) (fun _ _ _ _ => by as_aux_lemma => kernel_rfl) (fun _ _ => (eqlU (expmN a ((x.toNat * y.toNat) % M) m) (expmN (expmN a x.toNat m) y.toNat m) (expmN_lt _ _ hm) (expmN_lt _ _ hm) _).trans (by rw [hk1]; try rfl))
  · exact o_run 28 [] [] (fun _ _ => []) (fun _ _ => by as_aux_lemma => kernel_rfl)
  · exact o_run 29 [] [] (fun _ _ => []) (fun _ _ => by as_aux_lemma => kernel_rfl)
theorem wideExponents_w (a : Nat) (m : Nat) (x : Int) (y : Int) (ha : a < M) (hm : m < M) (hx : (Lit.int .u64 x).wf = true) (hy : (Lit.int .u64 y).wf = true) (w0 : World) : Calls Try.prog 13 #[(U a), (U m), (.int .u64 x), (.int .u64 y)] w0 (fun ε w' => ε = .returned (.bool true) ∧ Below w0.heap.size w0 w') := by
  refine Calls.of_ok (n := 62) (F := fun _ => True) Try.func13 rfl rfl rfl (by simp) (persTrue (fun _ => trivial)) ?_
  have hxw : Word x := bounds_of_u64 hx
  have hyw : Word y := bounds_of_u64 hy
  have hk0 : (decide (expmN a ((x.toNat + y.toNat) % M) m = mulmN (expmN a x.toNat m) (expmN a y.toNat m) m)) = true := decide_eq_true (expn_add (word_nat hxw) (word_nat hyw))
  have hk1 : (decide (expmN a ((x.toNat * y.toNat) % M) m = expmN (expmN a x.toNat m) y.toNat m)) = true := decide_eq_true (expn_mul (word_nat hxw) (word_nat hyw))
  refine ok_seq_r (by as_aux_lemma => kernel_rfl) (wideExponents_w_r1 a m x y _) (fun ρ1 => ?_)
  refine ok_seq ?_
  refine ok_seq_r (by as_aux_lemma => kernel_rfl) (wideExponents_w_r2 a m x y ρ1 _) (fun _ => ?_)
  refine ok_no (by as_aux_lemma => kernel_rfl) ?_
  refine ok_skip ?_
  refine mt_then ?_
  refine ok_seq_r (by as_aux_lemma => kernel_rfl) (wideExponents_w_r3 a m x y hxw hyw ρ1 _) (fun ρ3 => ?_)
  refine ok_seq_r (by as_aux_lemma => kernel_rfl) (wideExponents_w_r4 a m x y hxw hyw ρ1 ρ3 _) (fun ρ4 => ?_)
  refine ok_seq_r (by as_aux_lemma => kernel_rfl) (wideExponents_w_r5 a m x y hxw hyw ρ1 ρ3 ρ4 _) (fun ρ5 => ?_)
  refine ok_seq_r (by as_aux_lemma => kernel_rfl) (wideExponents_w_r6 a m x y ha hm hxw hyw hk0 hk1 ρ1 ρ3 ρ4 ρ5 _) (fun _ => ?_)
  refine ok_ret ?_
  exact meets_ret (v := (.bool true)) [] (dup []) (by as_aux_lemma => kernel_rfl) (by as_aux_lemma => kernel_rfl) (eqs_dup _) (fun _ hS => ⟨rfl, hS.below⟩)
theorem wideExponents_walk (a : Nat) (m : Nat) (x : Int) (y : Int) (w0 : World) (ha : a < M) (hm : m < M) (hx : (Lit.int .u64 x).wf = true) (hy : (Lit.int .u64 y).wf = true) : Calls Try.prog 13 #[(U a), (U m), (.int .u64 x), (.int .u64 y)] w0 (fun ε w' => ε = .returned (.bool true) ∧ Below w0.heap.size w0 w') := wideExponents_w a m x y ha hm hx hy w0
end Go.Proofs.Ytlgjdejlnelndaa
