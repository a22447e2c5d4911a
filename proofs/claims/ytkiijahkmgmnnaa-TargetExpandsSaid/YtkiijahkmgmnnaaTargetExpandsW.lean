/-
  The law TargetExpands: the walk.
-/
import Derived.Test.YtkiijahkmgmnnaaTSane
import Derived.Test.YtkiijahkmgmnnaaOpen
namespace Go.Proofs.Ytkiijahkmgmnnaa
open Go Go.RowKit
set_option maxRecDepth 100000
theorem targetExpands_w_r1 (b : Nat) (w0 : World) : Reg Try.prog 0 (regOps Try.f6 0) false 28 [(0, (.int .u32 ((b : Nat) : Int)))] w0 [] (fun _ => True)
    (fun _ => [(0, (.int .u32 ((b : Nat) : Int))), (2, (.bool false))])
    (fun _ => []) := by
  refine reg_seq [0] [0, 2] 1
    (fun _ ι => ([(.bool false)] : List Value).getD ι undef)
    (fun _ ι => ([{}] : List Eff).getD ι {})
    (by as_aux_lemma => kernel_rfl) (by as_aux_lemma => kernel_rfl) (fun _ => by as_aux_lemma => kernel_rfl) (fun _ => by as_aux_lemma => kernel_rfl) ⟨trivial, ?_⟩
  · exact o_run 0 [] [] (fun _ _ => []) (fun _ _ => by as_aux_lemma => kernel_rfl)
theorem targetExpands_w_r2 (b : Nat) (hb : b < 4294967296) (w0 : World) : Reg Try.prog 1 (regOps Try.f6 1) false 28 [(0, (.int .u32 ((b : Nat) : Int))), (2, (.bool false))] w0 [] (fun _ => True)
    (fun ρ => [(0, (.int .u32 ((b : Nat) : Int))), (2, (.bool false)), (3, (.pointer (some ⟨nb ρ 5, 0, none⟩))), (4, (.int .i64 (expE b)))])
    (fun ρ => [(nb ρ 5, (.cells (cU (expV b)) 24 (0, 0)))]) := by
  refine reg_seq [0, 1, 3, 7, 15, 31, 63, 127] [0, 2, 3, 4] 8
    (fun ρ ι => ([(.int .u32 ((b : Nat) : Int)), (.tuple #[(U (expV b)), (.int .i64 (expE b))]), (.tuple #[(U (expV b)), (.int .i64 (expE b))]), (U (expV b)), (.int .i64 (expE b)), (.pointer (some ⟨nb ρ 5, 0, none⟩)), undef, (.int .i64 (expE b))] : List Value).getD ι undef)
    (fun ρ ι => ([{}, {}, {}, {}, {}, { news := [(nb ρ 5, (.cells (cU 0) 24 (0, 0)))] }, { puts := [(40, (.cells (cU (expV b)) 24 (0, 0)))] }, {}] : List Eff).getD ι {})
    (by as_aux_lemma => kernel_rfl) (by as_aux_lemma => kernel_rfl) (fun _ => by as_aux_lemma => kernel_rfl) (fun _ => by as_aux_lemma => kernel_rfl) ⟨⟨⟨⟨⟨⟨⟨⟨trivial, ?_⟩, ?_⟩, ?_⟩, ?_⟩, ?_⟩, ?_⟩, ?_⟩, ?_⟩
  · exact o_run 0 [] [] (fun _ _ => []) (fun _ _ => by as_aux_lemma => kernel_rfl)
  · exact o_call 1 32 (fun _ => #[(.int .u32 ((b : Nat) : Int))]) (fun _ => (.tuple #[(U (expV b)), (.int .i64 (expE b))])) (fun _ _ => by as_aux_lemma => kernel_rfl) (fun _ w => (fun w => expand_any b w hb) w)
  · exact o_run 2 [] [] (fun _ _ => []) (fun _ _ => by as_aux_lemma => kernel_rfl)
  · exact o_run 3 [] [] (fun _ _ => []) (fun _ _ => by as_aux_lemma => kernel_rfl)
  · exact o_run 4 [] [] (fun _ _ => []) (fun _ _ => by as_aux_lemma => kernel_rfl)
  · exact o_run 5 [] [] (fun _ _ => []) (fun _ _ => by as_aux_lemma => kernel_rfl)
  · exact o_run 6 [40] [] (fun ρ _ => [nb ρ 5, nb ρ 5, nb ρ 5, nb ρ 5]) (fun _ _ => by as_aux_lemma => kernel_rfl)
  · exact o_run 7 [] [] (fun _ _ => []) (fun _ _ => by as_aux_lemma => kernel_rfl)
theorem targetExpands_w_r3 (b : Nat) (hb : b < 4294967296) (ρ2 : Nat → Orc) (w0 : World) : Reg Try.prog 2 (regOps Try.f6 2) false 28 [(0, (.int .u32 ((b : Nat) : Int))), (2, (.bool false)), (3, (.pointer (some ⟨nb ρ2 5, 0, none⟩))), (4, (.int .i64 (expE b)))] w0 [(nb ρ2 5, (.cells (cU (expV b)) 24 (0, 0)))] (fun _ => True)
    (fun ρ => [(2, (.bool false)), (3, (.pointer (some ⟨nb ρ2 5, 0, none⟩))), (4, (.int .i64 (expE b))), (5, (.pointer (some ⟨nb ρ 5, 0, none⟩))), (6, (.int .i64 (expE b)))])
    (fun ρ => [(nb ρ2 5, (.cells (cU (expV b)) 24 (0, 0))), (nb ρ 5, (.cells (cU (expV b)) 24 (0, 0)))]) := by
  refine reg_seq [0, 1, 3, 7, 15, 31, 63, 127] [2, 3, 4, 5, 6] 8
    (fun ρ ι => ([(.int .u32 ((b : Nat) : Int)), (.tuple #[(U (expV b)), (.int .i64 (expE b))]), (.tuple #[(U (expV b)), (.int .i64 (expE b))]), (U (expV b)), (.int .i64 (expE b)), (.pointer (some ⟨nb ρ 5, 0, none⟩)), undef, (.int .i64 (expE b))] : List Value).getD ι undef)
    (fun ρ ι => ([{}, {}, {}, {}, {}, { news := [(nb ρ 5, (.cells (cU 0) 24 (0, 0)))] }, { puts := [(41, (.cells (cU (expV b)) 24 (0, 0)))] }, {}] : List Eff).getD ι {})
    (by as_aux_lemma => kernel_rfl) (by as_aux_lemma => kernel_rfl) (fun _ => by as_aux_lemma => kernel_rfl) (fun _ => by as_aux_lemma => kernel_rfl) ⟨⟨⟨⟨⟨⟨⟨⟨trivial, ?_⟩, ?_⟩, ?_⟩, ?_⟩, ?_⟩, ?_⟩, ?_⟩, ?_⟩
  · exact o_run 0 [] [] (fun _ _ => []) (fun _ _ => by as_aux_lemma => kernel_rfl)
  · exact o_call 1 33 (fun _ => #[(.int .u32 ((b : Nat) : Int))]) (fun _ => (.tuple #[(U (expV b)), (.int .i64 (expE b))])) (fun _ _ => by as_aux_lemma => kernel_rfl) (fun _ w => (fun w => rexpand_any b w hb) w)
  · exact o_run 2 [] [] (fun _ _ => []) (fun _ _ => by as_aux_lemma => kernel_rfl)
  · exact o_run 3 [] [] (fun _ _ => []) (fun _ _ => by as_aux_lemma => kernel_rfl)
  · exact o_run 4 [] [] (fun _ _ => []) (fun _ _ => by as_aux_lemma => kernel_rfl)
  · exact o_run 5 [] [] (fun _ _ => []) (fun _ _ => by as_aux_lemma => kernel_rfl)
  · exact o_run 6 [41] [] (fun ρ _ => [nb ρ 5, nb ρ 5, nb ρ 5, nb ρ 5]) (fun _ _ => by as_aux_lemma => kernel_rfl)
  · exact o_run 7 [] [] (fun _ _ => []) (fun _ _ => by as_aux_lemma => kernel_rfl)
theorem targetExpands_w_r4 (b : Nat) (ρ2 : Nat → Orc) (ρ3 : Nat → Orc) (w0 : World) : Reg Try.prog 3 (regOps Try.f6 3) false 28 [(2, (.bool false)), (3, (.pointer (some ⟨nb ρ2 5, 0, none⟩))), (4, (.int .i64 (expE b))), (5, (.pointer (some ⟨nb ρ3 5, 0, none⟩))), (6, (.int .i64 (expE b)))] w0 [(nb ρ2 5, (.cells (cU (expV b)) 24 (0, 0))), (nb ρ3 5, (.cells (cU (expV b)) 24 (0, 0)))] (fun _ => True)
    (fun _ => [(2, (.bool true))])
    (fun _ => [(nb ρ2 5, (.cells (cU (expV b)) 24 (0, 0))), (nb ρ3 5, (.cells (cU (expV b)) 24 (0, 0)))]) := by
  refine reg_seq [0, 1, 3, 7, 15, 31, 63, 127, 255, 511, 1023, 2047] [2] 12
    (fun _ ι => ([(.bool true), (.bool true), (U (expV b)), (U (expV b)), (.bool true), (.bool true), (.bool true), (.int .i64 (expE b)), (.int .i64 (expE b)), (.bool true), (.bool true), (.bool true)] : List Value).getD ι undef)
    (fun _ ι => ([{}, {}, {}, {}, {}, {}, {}, {}, {}, {}, {}, {}] : List Eff).getD ι {})
    (by as_aux_lemma => kernel_rfl) (by as_aux_lemma => kernel_rfl) (fun _ => by as_aux_lemma => kernel_rfl) (fun _ => by as_aux_lemma => kernel_rfl) ⟨⟨⟨⟨⟨⟨⟨⟨⟨⟨⟨⟨trivial, ?_⟩, ?_⟩, ?_⟩, ?_⟩, ?_⟩, ?_⟩, ?_⟩, ?_⟩, ?_⟩, ?_⟩, ?_⟩, ?_⟩
  · exact o_call 0 34 (fun _ => #[]) (fun _ => (.bool true)) (fun _ _ => by as_aux_lemma => kernel_rfl) (fun _ w => (fun w => tsane_any w) w)
  · exact o_run 1 [] [] (fun _ _ => []) (fun _ _ => by as_aux_lemma => kernel_rfl)
  · exact o_run 2 [0] [] (fun _ _ => [nb ρ2 5, nb ρ2 5, nb ρ2 5, nb ρ2 5]) (fun _ _ => by as_aux_lemma => kernel_rfl)
  · exact o_run 3 [1] [] (fun _ _ => [nb ρ3 5, nb ρ3 5, nb ρ3 5, nb ρ3 5]) (fun _ _ => by as_aux_lemma => kernel_rfl)
  · exact o_bin 4 .eql 24 (fun _ => (U (expV b))) (fun _ => (U (expV b))) (fun _ => (.bool true)) (fun _ => by as_aux_lemma => kernel_rfl) (fun _ _ _ _ => by as_aux_lemma => kernel_rfl) (fun _ _ => eqlU_same (expV b) (expV_lt b) _)
  · exact o_run 5 [] [] (fun _ _ => []) (fun _ _ => by as_aux_lemma => kernel_rfl)
  · exact o_run 6 [] [] (fun _ _ => []) (fun _ _ => by as_aux_lemma => kernel_rfl)
  · exact o_run 7 [] [] (fun _ _ => []) (fun _ _ => by as_aux_lemma => kernel_rfl)
  · exact o_run 8 [] [] (fun _ _ => []) (fun _ _ => by as_aux_lemma => kernel_rfl)
  · exact o_as 9 (fun _ => (.bool ((expE b) == (expE b)))) (fun _ => (.bool true)) (fun _ _ => by as_aux_lemma => kernel_rfl) (fun _ => congrArg Value.bool (beq_self_eq_true _))
  · exact o_run 10 [] [] (fun _ _ => []) (fun _ _ => by as_aux_lemma => kernel_rfl)
  · exact o_run 11 [] [] (fun _ _ => []) (fun _ _ => by as_aux_lemma => kernel_rfl)
theorem targetExpands_w (b : Nat) (hb : b < 4294967296) (w0 : World) : Calls Try.prog 6 #[(.int .u32 ((b : Nat) : Int))] w0 (fun ε w' => ε = .returned (.bool true) ∧ Below w0.heap.size w0 w') := by
  refine Calls.of_ok (n := 28) (F := fun _ => True) Try.func6 rfl rfl rfl (by simp) (persTrue (fun _ => trivial)) ?_
  refine ok_seq_r (by as_aux_lemma => kernel_rfl) (targetExpands_w_r1 b _) (fun _ => ?_)
  refine ok_seq_r (by as_aux_lemma => kernel_rfl) (targetExpands_w_r2 b hb _) (fun ρ2 => ?_)
  refine ok_seq_r (by as_aux_lemma => kernel_rfl) (targetExpands_w_r3 b hb ρ2 _) (fun ρ3 => ?_)
  refine ok_seq_r (by as_aux_lemma => kernel_rfl) (targetExpands_w_r4 b ρ2 ρ3 _) (fun _ => ?_)
  refine ok_ret ?_
  exact meets_ret (v := (.bool true)) [] (dup []) (by as_aux_lemma => kernel_rfl) (by as_aux_lemma => kernel_rfl) (eqs_dup _) (fun _ hS => ⟨rfl, hS.below⟩)
theorem targetExpands_walk (b : Int) (w0 : World) (hb : (Lit.int .u32 b).wf = true) : Calls Try.prog 6 #[(.int .u32 b)] w0 (fun ε w' => ε = .returned (.bool true) ∧ Below w0.heap.size w0 w') := by
  obtain ⟨Nb, rfl, HNb⟩ := nat_of_u32 hb
  exact targetExpands_w Nb HNb w0
end Go.Proofs.Ytkiijahkmgmnnaa
