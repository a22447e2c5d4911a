/-
  The law TargetRounds: the walk.
-/
import Derived.Test.YtkiijahkmgmnnaaTSane
import Derived.Test.YtkiijahkmgmnnaaOpen
import Derived.Test.YtkiijahkmgmnnaaTargetLaws2
namespace Go.Proofs.Ytkiijahkmgmnnaa
open Go Go.RowKit
set_option maxRecDepth 100000
theorem targetRounds_w_r1 (t : Nat) (b : Nat) (w0 : World) : Reg Try.prog 0 (regOps Try.f8 0) false 66 [(0, (U t)), (1, (.int .u32 ((b : Nat) : Int)))] w0 [] (fun _ => True)
    (fun ρ => [(1, (.int .u32 ((b : Nat) : Int))), (2, (.pointer (some ⟨nb ρ 0, 0, none⟩))), (4, (.bool false))])
    (fun ρ => [(nb ρ 0, (.cells (cU t) 24 (0, 0)))]) := by
  refine reg_seq [0, 1] [1, 2, 4] 2
    (fun ρ ι => ([(.pointer (some ⟨nb ρ 0, 0, none⟩)), (.bool false)] : List Value).getD ι undef)
    (fun ρ ι => ([{ news := [(nb ρ 0, (.cells (cU t) 24 (0, 0)))] }, {}] : List Eff).getD ι {})
    (by as_aux_lemma => kernel_rfl) (by as_aux_lemma => kernel_rfl) (fun _ => by as_aux_lemma => kernel_rfl) (fun _ => by as_aux_lemma => kernel_rfl) ⟨⟨trivial, ?_⟩, ?_⟩
  · exact o_run 0 [] [] (fun _ _ => []) (fun _ _ => by as_aux_lemma => kernel_rfl)
  · exact o_run 1 [] [] (fun _ _ => []) (fun _ _ => by as_aux_lemma => kernel_rfl)
theorem targetRounds_w_r2 (t : Nat) (b : Nat) (ρ1 : Nat → Orc) (w0 : World) : Reg Try.prog 1 (regOps Try.f8 1) false 66 [(1, (.int .u32 ((b : Nat) : Int))), (2, (.pointer (some ⟨nb ρ1 0, 0, none⟩))), (4, (.bool false))] w0 [(nb ρ1 0, (.cells (cU t) 24 (0, 0)))] (fun _ => True)
    (fun _ => [(1, (.int .u32 ((b : Nat) : Int))), (2, (.pointer (some ⟨nb ρ1 0, 0, none⟩))), (4, (.bool false)), (14, (.bool false))])
    (fun _ => [(nb ρ1 0, (.cells (cU t) 24 (0, 0)))]) := by
  refine reg_seq [0, 1] [1, 2, 4, 14] 2
    (fun _ ι => ([(.bool true), (.bool false)] : List Value).getD ι undef)
    (fun _ ι => ([{}, {}] : List Eff).getD ι {})
    (by as_aux_lemma => kernel_rfl) (by as_aux_lemma => kernel_rfl) (fun _ => by as_aux_lemma => kernel_rfl) (fun _ => by as_aux_lemma => kernel_rfl) ⟨⟨trivial, ?_⟩, ?_⟩
  · exact o_call 0 34 (fun _ => #[]) (fun _ => (.bool true)) (fun _ _ => by as_aux_lemma => kernel_rfl) (fun _ w => (fun w => tsane_any w) w)
  · exact o_run 1 [] [] (fun _ _ => []) (fun _ _ => by as_aux_lemma => kernel_rfl)
theorem targetRounds_w_r3 (t : Nat) (b : Nat) (hb : b < 4294967296) (ρ1 : Nat → Orc) (w0 : World) : Reg Try.prog 3 (regOps Try.f8 3) false 66 [(1, (.int .u32 ((b : Nat) : Int))), (2, (.pointer (some ⟨nb ρ1 0, 0, none⟩))), (4, (.bool false)), (14, (.bool false))] w0 [(nb ρ1 0, (.cells (cU t) 24 (0, 0)))] (fun _ => True)
    (fun ρ => [(2, (.pointer (some ⟨nb ρ1 0, 0, none⟩))), (4, (.bool false)), (5, (.pointer (some ⟨nb ρ 5, 0, none⟩))), (6, (.int .i64 (expE b)))])
    (fun ρ => [(nb ρ1 0, (.cells (cU t) 24 (0, 0))), (nb ρ 5, (.cells (cU (expV b)) 24 (0, 0)))]) := by
  refine reg_seq [0, 1, 3, 7, 15, 31, 63, 127] [2, 4, 5, 6] 8
    (fun ρ ι => ([(.int .u32 ((b : Nat) : Int)), (.tuple #[(U (expV b)), (.int .i64 (expE b))]), (.tuple #[(U (expV b)), (.int .i64 (expE b))]), (U (expV b)), (.int .i64 (expE b)), (.pointer (some ⟨nb ρ 5, 0, none⟩)), undef, (.int .i64 (expE b))] : List Value).getD ι undef)
    (fun ρ ι => ([{}, {}, {}, {}, {}, { news := [(nb ρ 5, (.cells (cU 0) 24 (0, 0)))] }, { puts := [(41, (.cells (cU (expV b)) 24 (0, 0)))] }, {}] : List Eff).getD ι {})
    (by as_aux_lemma => kernel_rfl) (by as_aux_lemma => kernel_rfl) (fun _ => by as_aux_lemma => kernel_rfl) (fun _ => by as_aux_lemma => kernel_rfl) ⟨⟨⟨⟨⟨⟨⟨⟨trivial, ?_⟩, ?_⟩, ?_⟩, ?_⟩, ?_⟩, ?_⟩, ?_⟩, ?_⟩
  · exact o_run 0 [] [] (fun _ _ => []) (fun _ _ => by as_aux_lemma => kernel_rfl)
  · exact o_call 1 32 (fun _ => #[(.int .u32 ((b : Nat) : Int))]) (fun _ => (.tuple #[(U (expV b)), (.int .i64 (expE b))])) (fun _ _ => by as_aux_lemma => kernel_rfl) (fun _ w => (fun w => expand_any b w hb) w)
  · exact o_run 2 [] [] (fun _ _ => []) (fun _ _ => by as_aux_lemma => kernel_rfl)
  · exact o_run 3 [] [] (fun _ _ => []) (fun _ _ => by as_aux_lemma => kernel_rfl)
  · exact o_run 4 [] [] (fun _ _ => []) (fun _ _ => by as_aux_lemma => kernel_rfl)
  · exact o_run 5 [] [] (fun _ _ => []) (fun _ _ => by as_aux_lemma => kernel_rfl)
  · exact o_run 6 [41] [] (fun ρ _ => [nb ρ 5, nb ρ 5, nb ρ 5, nb ρ 5]) (fun _ _ => by as_aux_lemma => kernel_rfl)
  · exact o_run 7 [] [] (fun _ _ => []) (fun _ _ => by as_aux_lemma => kernel_rfl)
theorem targetRounds_w_r4 (t : Nat) (b : Nat) (ρ1 : Nat → Orc) (ρ3 : Nat → Orc) (w0 : World) : Reg Try.prog 4 (regOps Try.f8 4) false 66 [(2, (.pointer (some ⟨nb ρ1 0, 0, none⟩))), (4, (.bool false)), (5, (.pointer (some ⟨nb ρ3 5, 0, none⟩))), (6, (.int .i64 (expE b)))] w0 [(nb ρ1 0, (.cells (cU t) 24 (0, 0))), (nb ρ3 5, (.cells (cU (expV b)) 24 (0, 0)))] (fun _ => True)
    (fun _ => [(2, (.pointer (some ⟨nb ρ1 0, 0, none⟩))), (4, (.bool false)), (5, (.pointer (some ⟨nb ρ3 5, 0, none⟩))), (21, (.bool (expB b)))])
    (fun _ => [(nb ρ1 0, (.cells (cU t) 24 (0, 0))), (nb ρ3 5, (.cells (cU (expV b)) 24 (0, 0)))]) := by
  refine reg_seq [0, 1] [2, 4, 5, 21] 2
    (fun _ ι => ([(.int .i64 (expE b)), (.bool (expB b))] : List Value).getD ι undef)
    (fun _ ι => ([{}, {}] : List Eff).getD ι {})
    (by as_aux_lemma => kernel_rfl) (by as_aux_lemma => kernel_rfl) (fun _ => by as_aux_lemma => kernel_rfl) (fun _ => by as_aux_lemma => kernel_rfl) ⟨⟨trivial, ?_⟩, ?_⟩
  · exact o_run 0 [] [] (fun _ _ => []) (fun _ _ => by as_aux_lemma => kernel_rfl)
  · exact o_as 1 (fun _ => (.bool ((expE b) == 0))) (fun _ => (.bool (expB b))) (fun _ _ => by as_aux_lemma => kernel_rfl) (fun _ => congrArg Value.bool (expE_ok b))
theorem targetRounds_w_r5 (t : Nat) (b : Nat) (ρ1 : Nat → Orc) (ρ3 : Nat → Orc) (w0 : World) : Reg Try.prog 5 (regOps Try.f8 5) false 66 [(2, (.pointer (some ⟨nb ρ1 0, 0, none⟩))), (4, (.bool false)), (5, (.pointer (some ⟨nb ρ3 5, 0, none⟩))), (21, (.bool true))] w0 [(nb ρ1 0, (.cells (cU t) 24 (0, 0))), (nb ρ3 5, (.cells (cU (expV b)) 24 (0, 0)))] (fun _ => True)
    (fun ρ => [(2, (.pointer (some ⟨nb ρ1 0, 0, none⟩))), (4, (.bool false)), (5, (.pointer (some ⟨nb ρ3 5, 0, none⟩))), (7, (.pointer (some ⟨nb ρ 6, 0, none⟩))), (8, (.int .i64 (expE (compN (expV b)))))])
    (fun ρ => [(nb ρ1 0, (.cells (cU t) 24 (0, 0))), (nb ρ3 5, (.cells (cU (expV b)) 24 (0, 0))), (nb ρ 6, (.cells (cU (expV (compN (expV b)))) 24 (0, 0)))]) := by
  refine reg_seq [0, 1, 3, 7, 15, 31, 63, 127, 255] [2, 4, 5, 7, 8] 9
    (fun ρ ι => ([(U (expV b)), (.int .u32 ((compN (expV b) : Nat) : Int)), (.tuple #[(U (expV (compN (expV b)))), (.int .i64 (expE (compN (expV b))))]), (.tuple #[(U (expV (compN (expV b)))), (.int .i64 (expE (compN (expV b))))]), (U (expV (compN (expV b)))), (.int .i64 (expE (compN (expV b)))), (.pointer (some ⟨nb ρ 6, 0, none⟩)), undef, (.int .i64 (expE (compN (expV b))))] : List Value).getD ι undef)
    (fun ρ ι => ([{}, {}, {}, {}, {}, {}, { news := [(nb ρ 6, (.cells (cU 0) 24 (0, 0)))] }, { puts := [(50, (.cells (cU (expV (compN (expV b)))) 24 (0, 0)))] }, {}] : List Eff).getD ι {})
    (by as_aux_lemma => kernel_rfl) (by as_aux_lemma => kernel_rfl) (fun _ => by as_aux_lemma => kernel_rfl) (fun _ => by as_aux_lemma => kernel_rfl) ⟨⟨⟨⟨⟨⟨⟨⟨⟨trivial, ?_⟩, ?_⟩, ?_⟩, ?_⟩, ?_⟩, ?_⟩, ?_⟩, ?_⟩, ?_⟩
  · exact o_run 0 [1] [] (fun _ _ => [nb ρ3 5, nb ρ3 5, nb ρ3 5, nb ρ3 5]) (fun _ _ => by as_aux_lemma => kernel_rfl)
  · exact o_call 1 35 (fun _ => #[(U (expV b))]) (fun _ => (.int .u32 ((compN (expV b) : Nat) : Int))) (fun _ _ => by as_aux_lemma => kernel_rfl) (fun _ w => (fun w => compact_any (expV b) w (expV_lt b)) w)
  · exact o_call 2 32 (fun _ => #[(.int .u32 ((compN (expV b) : Nat) : Int))]) (fun _ => (.tuple #[(U (expV (compN (expV b)))), (.int .i64 (expE (compN (expV b))))])) (fun _ _ => by as_aux_lemma => kernel_rfl) (fun _ w => (fun w => expand_any (compN (expV b)) w (compN_lt (expV_lt _))) w)
  · exact o_run 3 [] [] (fun _ _ => []) (fun _ _ => by as_aux_lemma => kernel_rfl)
  · exact o_run 4 [] [] (fun _ _ => []) (fun _ _ => by as_aux_lemma => kernel_rfl)
  · exact o_run 5 [] [] (fun _ _ => []) (fun _ _ => by as_aux_lemma => kernel_rfl)
  · exact o_run 6 [] [] (fun _ _ => []) (fun _ _ => by as_aux_lemma => kernel_rfl)
  · exact o_run 7 [50] [] (fun ρ _ => [nb ρ 6, nb ρ 6, nb ρ 6, nb ρ 6]) (fun _ _ => by as_aux_lemma => kernel_rfl)
  · exact o_run 8 [] [] (fun _ _ => []) (fun _ _ => by as_aux_lemma => kernel_rfl)
theorem targetRounds_w_r6 (t : Nat) (b : Nat) (hb1 : (expB b) = true) (ρ1 : Nat → Orc) (ρ3 : Nat → Orc) (ρ5 : Nat → Orc) (w0 : World) : Reg Try.prog 6 (regOps Try.f8 6) false 66 [(2, (.pointer (some ⟨nb ρ1 0, 0, none⟩))), (4, (.bool false)), (5, (.pointer (some ⟨nb ρ3 5, 0, none⟩))), (7, (.pointer (some ⟨nb ρ5 6, 0, none⟩))), (8, (.int .i64 (expE (compN (expV b)))))] w0 [(nb ρ1 0, (.cells (cU t) 24 (0, 0))), (nb ρ3 5, (.cells (cU (expV b)) 24 (0, 0))), (nb ρ5 6, (.cells (cU (expV (compN (expV b)))) 24 (0, 0)))] (fun _ => True)
    (fun _ => [(2, (.pointer (some ⟨nb ρ1 0, 0, none⟩))), (4, (.bool false)), (34, (.bool false))])
    (fun _ => [(nb ρ1 0, (.cells (cU t) 24 (0, 0))), (nb ρ3 5, (.cells (cU (expV b)) 24 (0, 0))), (nb ρ5 6, (.cells (cU (expV (compN (expV b)))) 24 (0, 0)))]) := by
  refine reg_seq [0, 1, 3, 7, 15, 31, 63] [2, 4, 34] 7
    (fun _ ι => ([(.int .i64 (expE (compN (expV b)))), (.bool false), (.bool false), (U (expV (compN (expV b)))), (U (expV b)), (.bool false), (.bool false)] : List Value).getD ι undef)
    (fun _ ι => ([{}, {}, {}, {}, {}, {}, {}] : List Eff).getD ι {})
    (by as_aux_lemma => kernel_rfl) (by as_aux_lemma => kernel_rfl) (fun _ => by as_aux_lemma => kernel_rfl) (fun _ => by as_aux_lemma => kernel_rfl) ⟨⟨⟨⟨⟨⟨⟨trivial, ?_⟩, ?_⟩, ?_⟩, ?_⟩, ?_⟩, ?_⟩, ?_⟩
  · exact o_run 0 [] [] (fun _ _ => []) (fun _ _ => by as_aux_lemma => kernel_rfl)
  · exact o_as 1 (fun _ => (.bool ((expE (compN (expV b))) != 0))) (fun _ => (.bool false)) (fun _ _ => by as_aux_lemma => kernel_rfl) (fun _ => congrArg Value.bool ((expE_no (compN (expV b))).trans (congrArg (fun z => !z) (round_b hb1))))
  · exact o_run 2 [] [] (fun _ _ => []) (fun _ _ => by as_aux_lemma => kernel_rfl)
  · exact o_run 3 [2] [] (fun _ _ => [nb ρ5 6, nb ρ5 6, nb ρ5 6, nb ρ5 6]) (fun _ _ => by as_aux_lemma => kernel_rfl)
  · exact o_run 4 [1] [] (fun _ _ => [nb ρ3 5, nb ρ3 5, nb ρ3 5, nb ρ3 5]) (fun _ _ => by as_aux_lemma => kernel_rfl)
  · exact o_bin 5 .neq 24 (fun _ => (U (expV (compN (expV b))))) (fun _ => (U (expV b))) (fun _ => (.bool false)) (fun _ => by as_aux_lemma => kernel_rfl) (fun _ _ _ _ => by as_aux_lemma => kernel_rfl) (fun _ _ => (neqU (expV (compN (expV b))) (expV b) (expV_lt (compN (expV b))) (expV_lt b) _).trans (by rw [(decide_eq_true (round_v hb1))]; try rfl))
  · exact o_run 6 [] [] (fun _ _ => []) (fun _ _ => by as_aux_lemma => kernel_rfl)
theorem targetRounds_w_r7 (t : Nat) (b : Nat) (ht : t < M) (ρ1 : Nat → Orc) (ρ3 : Nat → Orc) (ρ5 : Nat → Orc) (w0 : World) : Reg Try.prog 8 (regOps Try.f8 8) false 66 [(2, (.pointer (some ⟨nb ρ1 0, 0, none⟩))), (4, (.bool false)), (34, (.bool false))] w0 [(nb ρ1 0, (.cells (cU t) 24 (0, 0))), (nb ρ3 5, (.cells (cU (expV b)) 24 (0, 0))), (nb ρ5 6, (.cells (cU (expV (compN (expV b)))) 24 (0, 0)))] (fun _ => True)
    (fun _ => [(2, (.pointer (some ⟨nb ρ1 0, 0, none⟩))), (4, (.bool false)), (37, (.bool (decide (t = 0))))])
    (fun _ => [(nb ρ1 0, (.cells (cU t) 24 (0, 0))), (nb ρ3 5, (.cells (cU (expV b)) 24 (0, 0))), (nb ρ5 6, (.cells (cU (expV (compN (expV b)))) 24 (0, 0)))]) := by
  refine reg_seq [0, 1, 3] [2, 4, 37] 3
    (fun _ ι => ([(U t), (U 0), (.bool (decide (t = 0)))] : List Value).getD ι undef)
    (fun _ ι => ([{}, {}, {}] : List Eff).getD ι {})
    (by as_aux_lemma => kernel_rfl) (by as_aux_lemma => kernel_rfl) (fun _ => by as_aux_lemma => kernel_rfl) (fun _ => by as_aux_lemma => kernel_rfl) ⟨⟨⟨trivial, ?_⟩, ?_⟩, ?_⟩
  · exact o_run 0 [0] [] (fun _ _ => [nb ρ1 0, nb ρ1 0, nb ρ1 0, nb ρ1 0]) (fun _ _ => by as_aux_lemma => kernel_rfl)
  · exact o_run 1 [] [] (fun _ _ => []) (fun _ _ => by as_aux_lemma => kernel_rfl)
  · exact o_bin 2 .eql 24 (fun _ => (U t)) (fun _ => (U 0)) (fun _ => (.bool (decide (t = 0)))) (fun _ => by as_aux_lemma => kernel_rfl) (fun _ _ _ _ => by as_aux_lemma => kernel_rfl) (fun _ _ => eqlU t 0 ht (by decide +kernel) _)
theorem targetRounds_w_r8 (t : Nat) (b : Nat) (ht : t < M) (hb2 : (decide (t = 0)) = true) (ρ1 : Nat → Orc) (ρ3 : Nat → Orc) (ρ5 : Nat → Orc) (w0 : World) : Reg Try.prog 9 (regOps Try.f8 9) false 66 [(2, (.pointer (some ⟨nb ρ1 0, 0, none⟩))), (4, (.bool false)), (37, (.bool true))] w0 [(nb ρ1 0, (.cells (cU t) 24 (0, 0))), (nb ρ3 5, (.cells (cU (expV b)) 24 (0, 0))), (nb ρ5 6, (.cells (cU (expV (compN (expV b)))) 24 (0, 0)))] (fun _ => True)
    (fun _ => [(2, (.pointer (some ⟨nb ρ1 0, 0, none⟩))), (4, (.bool true))])
    (fun _ => [(nb ρ1 0, (.cells (cU t) 24 (0, 0))), (nb ρ3 5, (.cells (cU (expV b)) 24 (0, 0))), (nb ρ5 6, (.cells (cU (expV (compN (expV b)))) 24 (0, 0)))]) := by
  refine reg_seq [0, 1, 3, 7] [2, 4] 4
    (fun _ ι => ([(U t), (.int .u32 ((compN t : Nat) : Int)), (.bool true), (.bool true)] : List Value).getD ι undef)
    (fun _ ι => ([{}, {}, {}, {}] : List Eff).getD ι {})
    (by as_aux_lemma => kernel_rfl) (by as_aux_lemma => kernel_rfl) (fun _ => by as_aux_lemma => kernel_rfl) (fun _ => by as_aux_lemma => kernel_rfl) ⟨⟨⟨⟨trivial, ?_⟩, ?_⟩, ?_⟩, ?_⟩
  · exact o_run 0 [0] [] (fun _ _ => [nb ρ1 0, nb ρ1 0, nb ρ1 0, nb ρ1 0]) (fun _ _ => by as_aux_lemma => kernel_rfl)
  · exact o_call 1 35 (fun _ => #[(U t)]) (fun _ => (.int .u32 ((compN t : Nat) : Int))) (fun _ _ => by as_aux_lemma => kernel_rfl) (fun _ w => (fun w => compact_any t w ht) w)
  · exact o_as 2 (fun _ => (.bool (((compN t : Nat) : Int) == 0))) (fun _ => (.bool true)) (fun _ _ => by as_aux_lemma => kernel_rfl) (fun _ => congrArg Value.bool (comp_zero hb2))
  · exact o_run 3 [] [] (fun _ _ => []) (fun _ _ => by as_aux_lemma => kernel_rfl)
theorem targetRounds_w_r9 (t : Nat) (b : Nat) (ht : t < M) (ρ1 : Nat → Orc) (ρ3 : Nat → Orc) (ρ5 : Nat → Orc) (w0 : World) : Reg Try.prog 10 (regOps Try.f8 10) false 66 [(2, (.pointer (some ⟨nb ρ1 0, 0, none⟩))), (4, (.bool false)), (37, (.bool false))] w0 [(nb ρ1 0, (.cells (cU t) 24 (0, 0))), (nb ρ3 5, (.cells (cU (expV b)) 24 (0, 0))), (nb ρ5 6, (.cells (cU (expV (compN (expV b)))) 24 (0, 0)))] (fun _ => True)
    (fun ρ => [(2, (.pointer (some ⟨nb ρ1 0, 0, none⟩))), (4, (.bool false)), (9, (.pointer (some ⟨nb ρ 6, 0, none⟩))), (10, (.int .i64 (expE (compN t))))])
    (fun ρ => [(nb ρ1 0, (.cells (cU t) 24 (0, 0))), (nb ρ3 5, (.cells (cU (expV b)) 24 (0, 0))), (nb ρ5 6, (.cells (cU (expV (compN (expV b)))) 24 (0, 0))), (nb ρ 6, (.cells (cU (expV (compN t))) 24 (0, 0)))]) := by
  refine reg_seq [0, 1, 3, 7, 15, 31, 63, 127, 255] [2, 4, 9, 10] 9
    (fun ρ ι => ([(U t), (.int .u32 ((compN t : Nat) : Int)), (.tuple #[(U (expV (compN t))), (.int .i64 (expE (compN t)))]), (.tuple #[(U (expV (compN t))), (.int .i64 (expE (compN t)))]), (U (expV (compN t))), (.int .i64 (expE (compN t))), (.pointer (some ⟨nb ρ 6, 0, none⟩)), undef, (.int .i64 (expE (compN t)))] : List Value).getD ι undef)
    (fun ρ ι => ([{}, {}, {}, {}, {}, {}, { news := [(nb ρ 6, (.cells (cU 0) 24 (0, 0)))] }, { puts := [(51, (.cells (cU (expV (compN t))) 24 (0, 0)))] }, {}] : List Eff).getD ι {})
    (by as_aux_lemma => kernel_rfl) (by as_aux_lemma => kernel_rfl) (fun _ => by as_aux_lemma => kernel_rfl) (fun _ => by as_aux_lemma => kernel_rfl) ⟨⟨⟨⟨⟨⟨⟨⟨⟨trivial, ?_⟩, ?_⟩, ?_⟩, ?_⟩, ?_⟩, ?_⟩, ?_⟩, ?_⟩, ?_⟩
  · exact o_run 0 [0] [] (fun _ _ => [nb ρ1 0, nb ρ1 0, nb ρ1 0, nb ρ1 0]) (fun _ _ => by as_aux_lemma => kernel_rfl)
  · exact o_call 1 35 (fun _ => #[(U t)]) (fun _ => (.int .u32 ((compN t : Nat) : Int))) (fun _ _ => by as_aux_lemma => kernel_rfl) (fun _ w => (fun w => compact_any t w ht) w)
  · exact o_call 2 32 (fun _ => #[(.int .u32 ((compN t : Nat) : Int))]) (fun _ => (.tuple #[(U (expV (compN t))), (.int .i64 (expE (compN t)))])) (fun _ _ => by as_aux_lemma => kernel_rfl) (fun _ w => (fun w => expand_any (compN t) w (compN_lt ht)) w)
  · exact o_run 3 [] [] (fun _ _ => []) (fun _ _ => by as_aux_lemma => kernel_rfl)
  · exact o_run 4 [] [] (fun _ _ => []) (fun _ _ => by as_aux_lemma => kernel_rfl)
  · exact o_run 5 [] [] (fun _ _ => []) (fun _ _ => by as_aux_lemma => kernel_rfl)
  · exact o_run 6 [] [] (fun _ _ => []) (fun _ _ => by as_aux_lemma => kernel_rfl)
  · exact o_run 7 [51] [] (fun ρ _ => [nb ρ 6, nb ρ 6, nb ρ 6, nb ρ 6]) (fun _ _ => by as_aux_lemma => kernel_rfl)
  · exact o_run 8 [] [] (fun _ _ => []) (fun _ _ => by as_aux_lemma => kernel_rfl)
theorem targetRounds_w_r10 (t : Nat) (b : Nat) (ht : t < M) (hb2 : (decide (t = 0)) = false) (ρ1 : Nat → Orc) (ρ3 : Nat → Orc) (ρ5 : Nat → Orc) (ρ9 : Nat → Orc) (w0 : World) : Reg Try.prog 11 (regOps Try.f8 11) false 66 [(2, (.pointer (some ⟨nb ρ1 0, 0, none⟩))), (4, (.bool false)), (9, (.pointer (some ⟨nb ρ9 6, 0, none⟩))), (10, (.int .i64 (expE (compN t))))] w0 [(nb ρ1 0, (.cells (cU t) 24 (0, 0))), (nb ρ3 5, (.cells (cU (expV b)) 24 (0, 0))), (nb ρ5 6, (.cells (cU (expV (compN (expV b)))) 24 (0, 0))), (nb ρ9 6, (.cells (cU (expV (compN t))) 24 (0, 0)))] (fun _ => True)
    (fun ρ => [(2, (.pointer (some ⟨nb ρ1 0, 0, none⟩))), (4, (.bool false)), (10, (.int .i64 (expE (compN t)))), (11, (.pointer (some ⟨nb ρ 6, 0, none⟩))), (12, (.bool false))])
    (fun ρ => [(nb ρ1 0, (.cells (cU t) 24 (0, 0))), (nb ρ3 5, (.cells (cU (expV b)) 24 (0, 0))), (nb ρ5 6, (.cells (cU (expV (compN (expV b)))) 24 (0, 0))), (nb ρ9 6, (.cells (cU (expV (compN t))) 24 (0, 0))), (nb ρ 6, (.cells (cU ((t + M - (expV (compN t))) % M)) 24 (0, 0)))]) := by
  refine reg_seq [0, 1, 3, 7, 15, 31, 63, 127, 255] [2, 4, 10, 11, 12] 9
    (fun ρ ι => ([(U t), (U (expV (compN t))), (.tuple #[(U ((t + M - (expV (compN t))) % M)), (.bool false)]), (.tuple #[(U ((t + M - (expV (compN t))) % M)), (.bool false)]), (U ((t + M - (expV (compN t))) % M)), (.bool false), (.pointer (some ⟨nb ρ 6, 0, none⟩)), undef, (.bool false)] : List Value).getD ι undef)
    (fun ρ ι => ([{}, {}, {}, {}, {}, {}, { news := [(nb ρ 6, (.cells (cU 0) 24 (0, 0)))] }, { puts := [(52, (.cells (cU ((t + M - (expV (compN t))) % M)) 24 (0, 0)))] }, {}] : List Eff).getD ι {})
    (by as_aux_lemma => kernel_rfl) (by as_aux_lemma => kernel_rfl) (fun _ => by as_aux_lemma => kernel_rfl) (fun _ => by as_aux_lemma => kernel_rfl) ⟨⟨⟨⟨⟨⟨⟨⟨⟨trivial, ?_⟩, ?_⟩, ?_⟩, ?_⟩, ?_⟩, ?_⟩, ?_⟩, ?_⟩, ?_⟩
  · exact o_run 0 [0] [] (fun _ _ => [nb ρ1 0, nb ρ1 0, nb ρ1 0, nb ρ1 0]) (fun _ _ => by as_aux_lemma => kernel_rfl)
  · exact o_run 1 [3] [] (fun _ _ => [nb ρ9 6, nb ρ9 6, nb ρ9 6, nb ρ9 6]) (fun _ _ => by as_aux_lemma => kernel_rfl)
  · exact o_call 2 39 (fun _ => #[(U t), (U (expV (compN t)))]) (fun _ => (.tuple #[(U ((t + M - (expV (compN t))) % M)), (.bool false)])) (fun _ _ => by as_aux_lemma => kernel_rfl) (fun _ w => by as_aux_lemma => (have h := (fun w => rsub_any t (expV (compN t)) w ht (expV_lt (compN t))) w; rw [(decide_eq_false (comp_le ht (of_decide_eq_false hb2)))] at h; exact h))
  · exact o_run 3 [] [] (fun _ _ => []) (fun _ _ => by as_aux_lemma => kernel_rfl)
  · exact o_run 4 [] [] (fun _ _ => []) (fun _ _ => by as_aux_lemma => kernel_rfl)
  · exact o_run 5 [] [] (fun _ _ => []) (fun _ _ => by as_aux_lemma => kernel_rfl)
  · exact o_run 6 [] [] (fun _ _ => []) (fun _ _ => by as_aux_lemma => kernel_rfl)
  · exact o_run 7 [52] [] (fun ρ _ => [nb ρ 6, nb ρ 6, nb ρ 6, nb ρ 6]) (fun _ _ => by as_aux_lemma => kernel_rfl)
  · exact o_run 8 [] [] (fun _ _ => []) (fun _ _ => by as_aux_lemma => kernel_rfl)
theorem targetRounds_w_r11 (t : Nat) (b : Nat) (ht : t < M) (hb2 : (decide (t = 0)) = false) (ρ1 : Nat → Orc) (ρ3 : Nat → Orc) (ρ5 : Nat → Orc) (ρ9 : Nat → Orc) (ρ10 : Nat → Orc) (w0 : World) : Reg Try.prog 12 (regOps Try.f8 12) true 66 [(2, (.pointer (some ⟨nb ρ1 0, 0, none⟩))), (4, (.bool false)), (10, (.int .i64 (expE (compN t)))), (11, (.pointer (some ⟨nb ρ10 6, 0, none⟩))), (12, (.bool false))] w0 [(nb ρ1 0, (.cells (cU t) 24 (0, 0))), (nb ρ3 5, (.cells (cU (expV b)) 24 (0, 0))), (nb ρ5 6, (.cells (cU (expV (compN (expV b)))) 24 (0, 0))), (nb ρ9 6, (.cells (cU (expV (compN t))) 24 (0, 0))), (nb ρ10 6, (.cells (cU ((t + M - (expV (compN t))) % M)) 24 (0, 0)))] (fun _ => True)
    (fun _ => [(4, (.bool true))])
    (fun _ => [(nb ρ1 0, (.cells (cU t) 24 (0, 0))), (nb ρ3 5, (.cells (cU (expV b)) 24 (0, 0))), (nb ρ5 6, (.cells (cU (expV (compN (expV b)))) 24 (0, 0))), (nb ρ9 6, (.cells (cU (expV (compN t))) 24 (0, 0))), (nb ρ10 6, (.cells (cU ((t + M - (expV (compN t))) % M)) 24 (0, 0)))]) := by
  refine reg_drawn [0, 1, 3, 7, 15, 31, 63, 127, 127, 383, 1023, 2047, 4095, 8191] [4] 14
    (fun _ ι => ([(.int .i64 (expE (compN t))), (.bool true), (.bool true), (.bool false), (.bool true), (.bool true), (.bool true), (U ((t + M - (expV (compN t))) % M)), (U t), (U (shrZ t 15)), (.int .i64 (cmpN ((t + M - (expV (compN t))) % M) (shrZ t 15))), (.bool true), (.bool true), (.bool true)] : List Value).getD ι undef)
    (fun _ ι => ([{}, {}, {}, {}, {}, {}, {}, {}, {}, {}, {}, {}, {}, {}] : List Eff).getD ι {})
    (by as_aux_lemma => kernel_rfl) (by as_aux_lemma => kernel_rfl) (by as_aux_lemma => kernel_rfl) (fun _ => by as_aux_lemma => kernel_rfl) (fun _ => by as_aux_lemma => kernel_rfl) ⟨⟨⟨⟨⟨⟨⟨⟨⟨⟨⟨⟨⟨⟨trivial, ?_⟩, ?_⟩, ?_⟩, ?_⟩, ?_⟩, ?_⟩, ?_⟩, ?_⟩, ?_⟩, ?_⟩, ?_⟩, ?_⟩, ?_⟩, ?_⟩
  · exact o_run 0 [] [] (fun _ _ => []) (fun _ _ => by as_aux_lemma => kernel_rfl)
  · exact o_as 1 (fun _ => (.bool ((expE (compN t)) == 0))) (fun _ => (.bool true)) (fun _ _ => by as_aux_lemma => kernel_rfl) (fun _ => congrArg Value.bool ((expE_ok (compN t)).trans (comp_b ht (of_decide_eq_false hb2))))
  · exact o_run 2 [] [] (fun _ _ => []) (fun _ _ => by as_aux_lemma => kernel_rfl)
  · exact o_run 3 [] [] (fun _ _ => []) (fun _ _ => by as_aux_lemma => kernel_rfl)
  · exact o_run 4 [] [] (fun _ _ => []) (fun _ _ => by as_aux_lemma => kernel_rfl)
  · exact o_run 5 [] [] (fun _ _ => []) (fun _ _ => by as_aux_lemma => kernel_rfl)
  · exact o_run 6 [] [] (fun _ _ => []) (fun _ _ => by as_aux_lemma => kernel_rfl)
  · exact o_run 7 [4] [] (fun _ _ => [nb ρ10 6, nb ρ10 6, nb ρ10 6, nb ρ10 6]) (fun _ _ => by as_aux_lemma => kernel_rfl)
  · exact o_run 8 [0] [] (fun _ _ => [nb ρ1 0, nb ρ1 0, nb ρ1 0, nb ρ1 0]) (fun _ _ => by as_aux_lemma => kernel_rfl)
  · exact o_call 9 41 (fun _ => #[(U t), (.int .i64 15)]) (fun _ => (U (shrZ t 15))) (fun _ _ => by as_aux_lemma => kernel_rfl) (fun _ w => (fun w => rshr_any t 15 w ht) w)
  · exact o_call 10 40 (fun _ => #[(U ((t + M - (expV (compN t))) % M)), (U (shrZ t 15))]) (fun _ => (.int .i64 (cmpN ((t + M - (expV (compN t))) % M) (shrZ t 15)))) (fun _ _ => by as_aux_lemma => kernel_rfl) (fun _ w => (fun w => rcmp_any ((t + M - (expV (compN t))) % M) (shrZ t 15) w (modM_lt _) (shrZ_lt _ ht)) w)
  · exact o_as 11 (fun _ => (.bool (decide ((cmpN ((t + M - (expV (compN t))) % M) (shrZ t 15)) ≤ 0)))) (fun _ => (.bool true)) (fun _ _ => by as_aux_lemma => kernel_rfl) (fun _ => congrArg Value.bool (decide_eq_true (comp_rest ht (of_decide_eq_false hb2))))
  · exact o_run 12 [] [] (fun _ _ => []) (fun _ _ => by as_aux_lemma => kernel_rfl)
  · exact o_run 13 [] [] (fun _ _ => []) (fun _ _ => by as_aux_lemma => kernel_rfl)
theorem targetRounds_w_r12 (t : Nat) (b : Nat) (ht : t < M) (ρ1 : Nat → Orc) (ρ3 : Nat → Orc) (w0 : World) : Reg Try.prog 8 (regOps Try.f8 8) false 66 [(2, (.pointer (some ⟨nb ρ1 0, 0, none⟩))), (4, (.bool false)), (5, (.pointer (some ⟨nb ρ3 5, 0, none⟩))), (21, (.bool false))] w0 [(nb ρ1 0, (.cells (cU t) 24 (0, 0))), (nb ρ3 5, (.cells (cU (expV b)) 24 (0, 0)))] (fun _ => True)
    (fun _ => [(2, (.pointer (some ⟨nb ρ1 0, 0, none⟩))), (4, (.bool false)), (37, (.bool (decide (t = 0))))])
    (fun _ => [(nb ρ1 0, (.cells (cU t) 24 (0, 0))), (nb ρ3 5, (.cells (cU (expV b)) 24 (0, 0)))]) := by
  refine reg_seq [0, 1, 3] [2, 4, 37] 3
    (fun _ ι => ([(U t), (U 0), (.bool (decide (t = 0)))] : List Value).getD ι undef)
    (fun _ ι => ([{}, {}, {}] : List Eff).getD ι {})
    (by as_aux_lemma => kernel_rfl) (by as_aux_lemma => kernel_rfl) (fun _ => by as_aux_lemma => kernel_rfl) (fun _ => by as_aux_lemma => kernel_rfl) ⟨⟨⟨trivial, ?_⟩, ?_⟩, ?_⟩
  · exact o_run 0 [0] [] (fun _ _ => [nb ρ1 0, nb ρ1 0, nb ρ1 0, nb ρ1 0]) (fun _ _ => by as_aux_lemma => kernel_rfl)
  · exact o_run 1 [] [] (fun _ _ => []) (fun _ _ => by as_aux_lemma => kernel_rfl)
  · exact o_bin 2 .eql 24 (fun _ => (U t)) (fun _ => (U 0)) (fun _ => (.bool (decide (t = 0)))) (fun _ => by as_aux_lemma => kernel_rfl) (fun _ _ _ _ => by as_aux_lemma => kernel_rfl) (fun _ _ => eqlU t 0 ht (by decide +kernel) _)
theorem targetRounds_w_r13 (t : Nat) (b : Nat) (ht : t < M) (hb3 : (decide (t = 0)) = true) (ρ1 : Nat → Orc) (ρ3 : Nat → Orc) (w0 : World) : Reg Try.prog 9 (regOps Try.f8 9) false 66 [(2, (.pointer (some ⟨nb ρ1 0, 0, none⟩))), (4, (.bool false)), (37, (.bool true))] w0 [(nb ρ1 0, (.cells (cU t) 24 (0, 0))), (nb ρ3 5, (.cells (cU (expV b)) 24 (0, 0)))] (fun _ => True)
    (fun _ => [(2, (.pointer (some ⟨nb ρ1 0, 0, none⟩))), (4, (.bool true))])
    (fun _ => [(nb ρ1 0, (.cells (cU t) 24 (0, 0))), (nb ρ3 5, (.cells (cU (expV b)) 24 (0, 0)))]) := by
  refine reg_seq [0, 1, 3, 7] [2, 4] 4
    (fun _ ι => ([(U t), (.int .u32 ((compN t : Nat) : Int)), (.bool true), (.bool true)] : List Value).getD ι undef)
    (fun _ ι => ([{}, {}, {}, {}] : List Eff).getD ι {})
    (by as_aux_lemma => kernel_rfl) (by as_aux_lemma => kernel_rfl) (fun _ => by as_aux_lemma => kernel_rfl) (fun _ => by as_aux_lemma => kernel_rfl) ⟨⟨⟨⟨trivial, ?_⟩, ?_⟩, ?_⟩, ?_⟩
  · exact o_run 0 [0] [] (fun _ _ => [nb ρ1 0, nb ρ1 0, nb ρ1 0, nb ρ1 0]) (fun _ _ => by as_aux_lemma => kernel_rfl)
  · exact o_call 1 35 (fun _ => #[(U t)]) (fun _ => (.int .u32 ((compN t : Nat) : Int))) (fun _ _ => by as_aux_lemma => kernel_rfl) (fun _ w => (fun w => compact_any t w ht) w)
  · exact o_as 2 (fun _ => (.bool (((compN t : Nat) : Int) == 0))) (fun _ => (.bool true)) (fun _ _ => by as_aux_lemma => kernel_rfl) (fun _ => congrArg Value.bool (comp_zero hb3))
  · exact o_run 3 [] [] (fun _ _ => []) (fun _ _ => by as_aux_lemma => kernel_rfl)
theorem targetRounds_w_r14 (t : Nat) (b : Nat) (ht : t < M) (ρ1 : Nat → Orc) (ρ3 : Nat → Orc) (w0 : World) : Reg Try.prog 10 (regOps Try.f8 10) false 66 [(2, (.pointer (some ⟨nb ρ1 0, 0, none⟩))), (4, (.bool false)), (37, (.bool false))] w0 [(nb ρ1 0, (.cells (cU t) 24 (0, 0))), (nb ρ3 5, (.cells (cU (expV b)) 24 (0, 0)))] (fun _ => True)
    (fun ρ => [(2, (.pointer (some ⟨nb ρ1 0, 0, none⟩))), (4, (.bool false)), (9, (.pointer (some ⟨nb ρ 6, 0, none⟩))), (10, (.int .i64 (expE (compN t))))])
    (fun ρ => [(nb ρ1 0, (.cells (cU t) 24 (0, 0))), (nb ρ3 5, (.cells (cU (expV b)) 24 (0, 0))), (nb ρ 6, (.cells (cU (expV (compN t))) 24 (0, 0)))]) := by
  refine reg_seq [0, 1, 3, 7, 15, 31, 63, 127, 255] [2, 4, 9, 10] 9
    (fun ρ ι => ([(U t), (.int .u32 ((compN t : Nat) : Int)), (.tuple #[(U (expV (compN t))), (.int .i64 (expE (compN t)))]), (.tuple #[(U (expV (compN t))), (.int .i64 (expE (compN t)))]), (U (expV (compN t))), (.int .i64 (expE (compN t))), (.pointer (some ⟨nb ρ 6, 0, none⟩)), undef, (.int .i64 (expE (compN t)))] : List Value).getD ι undef)
    (fun ρ ι => ([{}, {}, {}, {}, {}, {}, { news := [(nb ρ 6, (.cells (cU 0) 24 (0, 0)))] }, { puts := [(50, (.cells (cU (expV (compN t))) 24 (0, 0)))] }, {}] : List Eff).getD ι {})
    (by as_aux_lemma => kernel_rfl) (by as_aux_lemma => kernel_rfl) (fun _ => by as_aux_lemma => kernel_rfl) (fun _ => by as_aux_lemma => kernel_rfl) ⟨⟨⟨⟨⟨⟨⟨⟨⟨trivial, ?_⟩, ?_⟩, ?_⟩, ?_⟩, ?_⟩, ?_⟩, ?_⟩, ?_⟩, ?_⟩
  · exact o_run 0 [0] [] (fun _ _ => [nb ρ1 0, nb ρ1 0, nb ρ1 0, nb ρ1 0]) (fun _ _ => by as_aux_lemma => kernel_rfl)
  · exact o_call 1 35 (fun _ => #[(U t)]) (fun _ => (.int .u32 ((compN t : Nat) : Int))) (fun _ _ => by as_aux_lemma => kernel_rfl) (fun _ w => (fun w => compact_any t w ht) w)
  · exact o_call 2 32 (fun _ => #[(.int .u32 ((compN t : Nat) : Int))]) (fun _ => (.tuple #[(U (expV (compN t))), (.int .i64 (expE (compN t)))])) (fun _ _ => by as_aux_lemma => kernel_rfl) (fun _ w => (fun w => expand_any (compN t) w (compN_lt ht)) w)
  · exact o_run 3 [] [] (fun _ _ => []) (fun _ _ => by as_aux_lemma => kernel_rfl)
  · exact o_run 4 [] [] (fun _ _ => []) (fun _ _ => by as_aux_lemma => kernel_rfl)
  · exact o_run 5 [] [] (fun _ _ => []) (fun _ _ => by as_aux_lemma => kernel_rfl)
  · exact o_run 6 [] [] (fun _ _ => []) (fun _ _ => by as_aux_lemma => kernel_rfl)
  · exact o_run 7 [50] [] (fun ρ _ => [nb ρ 6, nb ρ 6, nb ρ 6, nb ρ 6]) (fun _ _ => by as_aux_lemma => kernel_rfl)
  · exact o_run 8 [] [] (fun _ _ => []) (fun _ _ => by as_aux_lemma => kernel_rfl)
theorem targetRounds_w_r15 (t : Nat) (b : Nat) (ht : t < M) (hb3 : (decide (t = 0)) = false) (ρ1 : Nat → Orc) (ρ3 : Nat → Orc) (ρ14 : Nat → Orc) (w0 : World) : Reg Try.prog 11 (regOps Try.f8 11) false 66 [(2, (.pointer (some ⟨nb ρ1 0, 0, none⟩))), (4, (.bool false)), (9, (.pointer (some ⟨nb ρ14 6, 0, none⟩))), (10, (.int .i64 (expE (compN t))))] w0 [(nb ρ1 0, (.cells (cU t) 24 (0, 0))), (nb ρ3 5, (.cells (cU (expV b)) 24 (0, 0))), (nb ρ14 6, (.cells (cU (expV (compN t))) 24 (0, 0)))] (fun _ => True)
    (fun ρ => [(2, (.pointer (some ⟨nb ρ1 0, 0, none⟩))), (4, (.bool false)), (10, (.int .i64 (expE (compN t)))), (11, (.pointer (some ⟨nb ρ 6, 0, none⟩))), (12, (.bool false))])
    (fun ρ => [(nb ρ1 0, (.cells (cU t) 24 (0, 0))), (nb ρ3 5, (.cells (cU (expV b)) 24 (0, 0))), (nb ρ14 6, (.cells (cU (expV (compN t))) 24 (0, 0))), (nb ρ 6, (.cells (cU ((t + M - (expV (compN t))) % M)) 24 (0, 0)))]) := by
  refine reg_seq [0, 1, 3, 7, 15, 31, 63, 127, 255] [2, 4, 10, 11, 12] 9
    (fun ρ ι => ([(U t), (U (expV (compN t))), (.tuple #[(U ((t + M - (expV (compN t))) % M)), (.bool false)]), (.tuple #[(U ((t + M - (expV (compN t))) % M)), (.bool false)]), (U ((t + M - (expV (compN t))) % M)), (.bool false), (.pointer (some ⟨nb ρ 6, 0, none⟩)), undef, (.bool false)] : List Value).getD ι undef)
    (fun ρ ι => ([{}, {}, {}, {}, {}, {}, { news := [(nb ρ 6, (.cells (cU 0) 24 (0, 0)))] }, { puts := [(51, (.cells (cU ((t + M - (expV (compN t))) % M)) 24 (0, 0)))] }, {}] : List Eff).getD ι {})
    (by as_aux_lemma => kernel_rfl) (by as_aux_lemma => kernel_rfl) (fun _ => by as_aux_lemma => kernel_rfl) (fun _ => by as_aux_lemma => kernel_rfl) ⟨⟨⟨⟨⟨⟨⟨⟨⟨trivial, ?_⟩, ?_⟩, ?_⟩, ?_⟩, ?_⟩, ?_⟩, ?_⟩, ?_⟩, ?_⟩
  · exact o_run 0 [0] [] (fun _ _ => [nb ρ1 0, nb ρ1 0, nb ρ1 0, nb ρ1 0]) (fun _ _ => by as_aux_lemma => kernel_rfl)
  · exact o_run 1 [2] [] (fun _ _ => [nb ρ14 6, nb ρ14 6, nb ρ14 6, nb ρ14 6]) (fun _ _ => by as_aux_lemma => kernel_rfl)
  · exact o_call 2 39 (fun _ => #[(U t), (U (expV (compN t)))]) (fun _ => (.tuple #[(U ((t + M - (expV (compN t))) % M)), (.bool false)])) (fun _ _ => by as_aux_lemma => kernel_rfl) (fun _ w => by as_aux_lemma => (have h := (fun w => rsub_any t (expV (compN t)) w ht (expV_lt (compN t))) w; rw [(decide_eq_false (comp_le ht (of_decide_eq_false hb3)))] at h; exact h))
  · exact o_run 3 [] [] (fun _ _ => []) (fun _ _ => by as_aux_lemma => kernel_rfl)
  · exact o_run 4 [] [] (fun _ _ => []) (fun _ _ => by as_aux_lemma => kernel_rfl)
  · exact o_run 5 [] [] (fun _ _ => []) (fun _ _ => by as_aux_lemma => kernel_rfl)
  · exact o_run 6 [] [] (fun _ _ => []) (fun _ _ => by as_aux_lemma => kernel_rfl)
  · exact o_run 7 [51] [] (fun ρ _ => [nb ρ 6, nb ρ 6, nb ρ 6, nb ρ 6]) (fun _ _ => by as_aux_lemma => kernel_rfl)
  · exact o_run 8 [] [] (fun _ _ => []) (fun _ _ => by as_aux_lemma => kernel_rfl)
theorem targetRounds_w_r16 (t : Nat) (b : Nat) (ht : t < M) (hb3 : (decide (t = 0)) = false) (ρ1 : Nat → Orc) (ρ3 : Nat → Orc) (ρ14 : Nat → Orc) (ρ15 : Nat → Orc) (w0 : World) : Reg Try.prog 12 (regOps Try.f8 12) true 66 [(2, (.pointer (some ⟨nb ρ1 0, 0, none⟩))), (4, (.bool false)), (10, (.int .i64 (expE (compN t)))), (11, (.pointer (some ⟨nb ρ15 6, 0, none⟩))), (12, (.bool false))] w0 [(nb ρ1 0, (.cells (cU t) 24 (0, 0))), (nb ρ3 5, (.cells (cU (expV b)) 24 (0, 0))), (nb ρ14 6, (.cells (cU (expV (compN t))) 24 (0, 0))), (nb ρ15 6, (.cells (cU ((t + M - (expV (compN t))) % M)) 24 (0, 0)))] (fun _ => True)
    (fun _ => [(4, (.bool true))])
    (fun _ => [(nb ρ1 0, (.cells (cU t) 24 (0, 0))), (nb ρ3 5, (.cells (cU (expV b)) 24 (0, 0))), (nb ρ14 6, (.cells (cU (expV (compN t))) 24 (0, 0))), (nb ρ15 6, (.cells (cU ((t + M - (expV (compN t))) % M)) 24 (0, 0)))]) := by
  refine reg_drawn [0, 1, 3, 7, 15, 31, 63, 127, 127, 383, 1023, 2047, 4095, 8191] [4] 14
    (fun _ ι => ([(.int .i64 (expE (compN t))), (.bool true), (.bool true), (.bool false), (.bool true), (.bool true), (.bool true), (U ((t + M - (expV (compN t))) % M)), (U t), (U (shrZ t 15)), (.int .i64 (cmpN ((t + M - (expV (compN t))) % M) (shrZ t 15))), (.bool true), (.bool true), (.bool true)] : List Value).getD ι undef)
    (fun _ ι => ([{}, {}, {}, {}, {}, {}, {}, {}, {}, {}, {}, {}, {}, {}] : List Eff).getD ι {})
    (by as_aux_lemma => kernel_rfl) (by as_aux_lemma => kernel_rfl) (by as_aux_lemma => kernel_rfl) (fun _ => by as_aux_lemma => kernel_rfl) (fun _ => by as_aux_lemma => kernel_rfl) ⟨⟨⟨⟨⟨⟨⟨⟨⟨⟨⟨⟨⟨⟨trivial, ?_⟩, ?_⟩, ?_⟩, ?_⟩, ?_⟩, ?_⟩, ?_⟩, ?_⟩, ?_⟩, ?_⟩, ?_⟩, ?_⟩, ?_⟩, ?_⟩
  · exact o_run 0 [] [] (fun _ _ => []) (fun _ _ => by as_aux_lemma => kernel_rfl)
  · exact o_as 1 (fun _ => (.bool ((expE (compN t)) == 0))) (fun _ => (.bool true)) (fun _ _ => by as_aux_lemma => kernel_rfl) (fun _ => congrArg Value.bool ((expE_ok (compN t)).trans (comp_b ht (of_decide_eq_false hb3))))
  · exact o_run 2 [] [] (fun _ _ => []) (fun _ _ => by as_aux_lemma => kernel_rfl)
  · exact o_run 3 [] [] (fun _ _ => []) (fun _ _ => by as_aux_lemma => kernel_rfl)
  · exact o_run 4 [] [] (fun _ _ => []) (fun _ _ => by as_aux_lemma => kernel_rfl)
  · exact o_run 5 [] [] (fun _ _ => []) (fun _ _ => by as_aux_lemma => kernel_rfl)
  · exact o_run 6 [] [] (fun _ _ => []) (fun _ _ => by as_aux_lemma => kernel_rfl)
  · exact o_run 7 [3] [] (fun _ _ => [nb ρ15 6, nb ρ15 6, nb ρ15 6, nb ρ15 6]) (fun _ _ => by as_aux_lemma => kernel_rfl)
  · exact o_run 8 [0] [] (fun _ _ => [nb ρ1 0, nb ρ1 0, nb ρ1 0, nb ρ1 0]) (fun _ _ => by as_aux_lemma => kernel_rfl)
  · exact o_call 9 41 (fun _ => #[(U t), (.int .i64 15)]) (fun _ => (U (shrZ t 15))) (fun _ _ => by as_aux_lemma => kernel_rfl) (fun _ w => (fun w => rshr_any t 15 w ht) w)
  · exact o_call 10 40 (fun _ => #[(U ((t + M - (expV (compN t))) % M)), (U (shrZ t 15))]) (fun _ => (.int .i64 (cmpN ((t + M - (expV (compN t))) % M) (shrZ t 15)))) (fun _ _ => by as_aux_lemma => kernel_rfl) (fun _ w => (fun w => rcmp_any ((t + M - (expV (compN t))) % M) (shrZ t 15) w (modM_lt _) (shrZ_lt _ ht)) w)
  · exact o_as 11 (fun _ => (.bool (decide ((cmpN ((t + M - (expV (compN t))) % M) (shrZ t 15)) ≤ 0)))) (fun _ => (.bool true)) (fun _ _ => by as_aux_lemma => kernel_rfl) (fun _ => congrArg Value.bool (decide_eq_true (comp_rest ht (of_decide_eq_false hb3))))
  · exact o_run 12 [] [] (fun _ _ => []) (fun _ _ => by as_aux_lemma => kernel_rfl)
  · exact o_run 13 [] [] (fun _ _ => []) (fun _ _ => by as_aux_lemma => kernel_rfl)
theorem targetRounds_w (t : Nat) (b : Nat) (ht : t < M) (hb : b < 4294967296) (w0 : World) : Calls Try.prog 8 #[(U t), (.int .u32 ((b : Nat) : Int))] w0 (fun ε w' => ε = .returned (.bool true) ∧ Below w0.heap.size w0 w') := by
  refine Calls.of_ok (n := 66) (F := fun _ => True) Try.func8 rfl rfl rfl (by simp) (persTrue (fun _ => trivial)) ?_
  refine ok_seq_r (by as_aux_lemma => kernel_rfl) (targetRounds_w_r1 t b _) (fun ρ1 => ?_)
  refine ok_seq ?_
  refine ok_seq_r (by as_aux_lemma => kernel_rfl) (targetRounds_w_r2 t b ρ1 _) (fun _ => ?_)
  refine ok_no (by as_aux_lemma => kernel_rfl) ?_
  refine ok_skip ?_
  refine mt_then ?_
  refine ok_seq ?_
  refine ok_seq_r (by as_aux_lemma => kernel_rfl) (targetRounds_w_r3 t b hb ρ1 _) (fun ρ3 => ?_)
  refine ok_seq_r (by as_aux_lemma => kernel_rfl) (targetRounds_w_r4 t b ρ1 ρ3 _) (fun _ => ?_)
  refine ok_cond (b := expB b) (by as_aux_lemma => kernel_rfl) (fun hb1 => ?_) (fun hb1 => ?_)
  ·
    rw [hb1]
    refine ok_seq_r (by as_aux_lemma => kernel_rfl) (targetRounds_w_r5 t b ρ1 ρ3 _) (fun ρ5 => ?_)
    refine ok_seq_r (by as_aux_lemma => kernel_rfl) (targetRounds_w_r6 t b hb1 ρ1 ρ3 ρ5 _) (fun _ => ?_)
    refine ok_no (by as_aux_lemma => kernel_rfl) ?_
    refine ok_skip ?_
    refine mt_then ?_
    refine ok_seq ?_
    refine ok_seq_r (by as_aux_lemma => kernel_rfl) (targetRounds_w_r7 t b ht ρ1 ρ3 ρ5 _) (fun _ => ?_)
    refine ok_cond (b := decide (t = 0)) (by as_aux_lemma => kernel_rfl) (fun hb2 => ?_) (fun hb2 => ?_)
    ·
      rw [hb2]
      refine ok_seq_r (by as_aux_lemma => kernel_rfl) (targetRounds_w_r8 t b ht hb2 ρ1 ρ3 ρ5 _) (fun _ => ?_)
      refine ok_ret ?_
      refine mt_then_r ?_
      exact meets_ret (v := (.bool true)) [] (dup []) (by as_aux_lemma => kernel_rfl) (by as_aux_lemma => kernel_rfl) (eqs_dup _) (fun _ hS => ⟨rfl, hS.below⟩)
    ·
      rw [hb2]
      refine ok_skip ?_
      refine mt_then ?_
      refine ok_seq_r (by as_aux_lemma => kernel_rfl) (targetRounds_w_r9 t b ht ρ1 ρ3 ρ5 _) (fun ρ9 => ?_)
      refine ok_seq_r (by as_aux_lemma => kernel_rfl) (targetRounds_w_r10 t b ht hb2 ρ1 ρ3 ρ5 ρ9 _) (fun ρ10 => ?_)
      refine ok_seq_r (by as_aux_lemma => kernel_rfl) (targetRounds_w_r11 t b ht hb2 ρ1 ρ3 ρ5 ρ9 ρ10 _) (fun _ => ?_)
      refine ok_ret ?_
      exact meets_ret (v := (.bool true)) [] (dup []) (by as_aux_lemma => kernel_rfl) (by as_aux_lemma => kernel_rfl) (eqs_dup _) (fun _ hS => ⟨rfl, hS.below⟩)
  ·
    rw [hb1]
    refine ok_skip ?_
    refine mt_then ?_
    refine ok_seq ?_
    refine ok_seq_r (by as_aux_lemma => kernel_rfl) (targetRounds_w_r12 t b ht ρ1 ρ3 _) (fun _ => ?_)
    refine ok_cond (b := decide (t = 0)) (by as_aux_lemma => kernel_rfl) (fun hb3 => ?_) (fun hb3 => ?_)
    ·
      rw [hb3]
      refine ok_seq_r (by as_aux_lemma => kernel_rfl) (targetRounds_w_r13 t b ht hb3 ρ1 ρ3 _) (fun _ => ?_)
      refine ok_ret ?_
      refine mt_then_r ?_
      exact meets_ret (v := (.bool true)) [] (dup []) (by as_aux_lemma => kernel_rfl) (by as_aux_lemma => kernel_rfl) (eqs_dup _) (fun _ hS => ⟨rfl, hS.below⟩)
    ·
      rw [hb3]
      refine ok_skip ?_
      refine mt_then ?_
      refine ok_seq_r (by as_aux_lemma => kernel_rfl) (targetRounds_w_r14 t b ht ρ1 ρ3 _) (fun ρ14 => ?_)
      refine ok_seq_r (by as_aux_lemma => kernel_rfl) (targetRounds_w_r15 t b ht hb3 ρ1 ρ3 ρ14 _) (fun ρ15 => ?_)
      refine ok_seq_r (by as_aux_lemma => kernel_rfl) (targetRounds_w_r16 t b ht hb3 ρ1 ρ3 ρ14 ρ15 _) (fun _ => ?_)
      refine ok_ret ?_
      exact meets_ret (v := (.bool true)) [] (dup []) (by as_aux_lemma => kernel_rfl) (by as_aux_lemma => kernel_rfl) (eqs_dup _) (fun _ hS => ⟨rfl, hS.below⟩)
theorem targetRounds_walk (t : Nat) (b : Int) (w0 : World) (ht : t < M) (hb : (Lit.int .u32 b).wf = true) : Calls Try.prog 8 #[(U t), (.int .u32 b)] w0 (fun ε w' => ε = .returned (.bool true) ∧ Below w0.heap.size w0 w') := by
  obtain ⟨Nb, rfl, HNb⟩ := nat_of_u32 hb
  exact targetRounds_w t Nb ht HNb w0
end Go.Proofs.Ytkiijahkmgmnnaa
