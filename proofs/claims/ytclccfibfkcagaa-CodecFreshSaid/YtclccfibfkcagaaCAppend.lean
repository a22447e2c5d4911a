/-
  The codec appends: the walks.
-/
import Derived.Test.YtclccfibfkcagaaCNum2
namespace Go.Proofs.Ytclccfibfkcagaa
open Go Go.RowKit
set_option maxRecDepth 100000
theorem extend_any_r1 (a : Option Addr) (c : Nat) (B : List UInt8) (a2 : Option Addr) (c2 : Nat) (S : List UInt8) (w0 : World) (F : World → Prop) : Reg Try.prog 0 (regOps Try.f47 0) false 18 [(0, (.slice a (B).length c)), (1, (.slice a2 (S).length c2))] w0 [] F
    (fun _ => [(0, (.slice a (B).length c)), (1, (.slice a2 (S).length c2)), (4, (.slice none 0 0))])
    (fun _ => []) := by
  refine reg_seq [0] [0, 1, 4] 1
    (fun _ ι => ([(.slice none 0 0)] : List Value).getD ι undef)
    (fun _ ι => ([{}] : List Eff).getD ι {})
    (by as_aux_lemma => kernel_rfl) (by as_aux_lemma => kernel_rfl) (fun _ => by as_aux_lemma => kernel_rfl) (fun _ => by as_aux_lemma => kernel_rfl) ⟨trivial, ?_⟩
  · exact o_run 0 [] [] (fun _ _ => []) (fun _ _ => by as_aux_lemma => kernel_rfl)
theorem extend_any_r2 (a : Option Addr) (c : Nat) (B : List UInt8) (a2 : Option Addr) (c2 : Nat) (S : List UInt8) (hl : B.length + S.length ≤ 140737488351232) (w0 : World) : RegF Try.prog 1 (regOps Try.f47 1) false 18 [(0, (.slice a (B).length c)), (1, (.slice a2 (S).length c2)), (4, (.slice none 0 0))] w0 [] (fun w => Bs w a c B ∧ Bs w a2 c2 S ∧ True)
    (fun ρ => [(0, (.slice a (B).length c)), (1, (.slice a2 (S).length c2)), (4, (.slice none 0 0)), (5, (.slice (some ⟨nb ρ 5, 0, none⟩) (([] : List UInt8)).length (((B).length) + ((S).length))))])
    (fun ρ => [(nb ρ 5, (.cells (zB (((B).length) + ((S).length))) 5 (0, 0)))]) (fun _ => (fun w => Bs w a c B ∧ Bs w a2 c2 S ∧ True)) := by
  refine reg_seq_f [0, 1, 3, 7, 15, 31, 63] [0, 1, 4, 5] 7
    (fun ρ ι => ([(.slice a (B).length c), (.int .i64 (((B).length : Nat) : Int)), (.slice a2 (S).length c2), (.int .i64 (((S).length : Nat) : Int)), (.int .i64 ((((B).length) + ((S).length) : Nat) : Int)), (.slice (some ⟨nb ρ 5, 0, none⟩) (([] : List UInt8)).length (((B).length) + ((S).length))), (.slice (some ⟨nb ρ 5, 0, none⟩) (([] : List UInt8)).length (((B).length) + ((S).length)))] : List Value).getD ι undef)
    (fun ρ ι => ([{}, {}, {}, {}, {}, { news := [(nb ρ 5, (.cells (zB (((B).length) + ((S).length))) 5 (0, 0)))] }, {}] : List Eff).getD ι {})
    (fun _ ι => ([(fun _ => True), (fun _ => True), (fun _ => True), (fun _ => True), (fun _ => True), (fun _ => True), (fun _ => True)] : List (World → Prop)).getD ι (fun _ => True))
    (by as_aux_lemma => kernel_rfl) (by as_aux_lemma => kernel_rfl) (fun _ => by as_aux_lemma => kernel_rfl) (fun _ => by as_aux_lemma => kernel_rfl) (fun _ _ hF _ => ⟨hF.1, hF.2.1, trivial⟩) ⟨⟨⟨⟨⟨⟨⟨trivial, ?_⟩, ?_⟩, ?_⟩, ?_⟩, ?_⟩, ?_⟩, ?_⟩
  · exact Obl.brings (o_run 0 [] [] (fun _ _ => []) (fun _ _ => by as_aux_lemma => kernel_rfl)) (fun _ _ => trivial)
  · exact Obl.brings (o_run 1 [] [] (fun _ _ => []) (fun _ _ => by as_aux_lemma => kernel_rfl)) (fun _ _ => trivial)
  · exact Obl.brings (o_run 2 [] [] (fun _ _ => []) (fun _ _ => by as_aux_lemma => kernel_rfl)) (fun _ _ => trivial)
  · exact Obl.brings (o_run 3 [] [] (fun _ _ => []) (fun _ _ => by as_aux_lemma => kernel_rfl)) (fun _ _ => trivial)
  · exact Obl.brings (o_as 4 (fun _ => (.int .i64 (IntKind.i64.wrap ((((B).length : Nat) : Int) + (((S).length : Nat) : Int))))) (fun _ => (.int .i64 ((((B).length) + ((S).length) : Nat) : Int))) (fun _ _ => by as_aux_lemma => kernel_rfl) (fun _ => congrArg (Value.int .i64) (wrap_addN ((B).length) ((S).length) (by have := hl; omega)))) (fun _ _ => trivial)
  · exact o_new1 5 (fun _ => do pure (Next.value (← Instr.makeSlice 22 (.int .i64 0) (.int .i64 ((((B).length) + ((S).length) : Nat) : Int))))) (fun _ z => (.slice (some ⟨z.headD 0, 0, none⟩) (([] : List UInt8)).length (((B).length) + ((S).length)))) (fun _ _ => (.cells (zB (((B).length) + ((S).length))) 5 (0, 0))) (fun _ _ => (by as_aux_lemma => kernel_rfl)) (fun _ => (by as_aux_lemma => kernel_rfl)) (fun _ _ => trivial) (fun _ _ w _ => make_rowL Try.underlying22 u8i (([] : List UInt8)) (rfl) (rfl) (Nat.zero_le _) hl w)
  · exact Obl.brings (o_run 6 [] [] (fun _ _ => []) (fun _ _ => by as_aux_lemma => kernel_rfl)) (fun _ _ => trivial)
theorem extend_any_r3 (a : Option Addr) (c : Nat) (B : List UInt8) (a2 : Option Addr) (c2 : Nat) (S : List UInt8) (ρ2 : Nat → Orc) (w0 : World) : RegF Try.prog 2 (regOps Try.f47 2) false 18 [(0, (.slice a (B).length c)), (1, (.slice a2 (S).length c2)), (4, (.slice none 0 0)), (5, (.slice (some ⟨nb ρ2 5, 0, none⟩) (([] : List UInt8)).length (((B).length) + ((S).length))))] w0 [(nb ρ2 5, (.cells (zB (((B).length) + ((S).length))) 5 (0, 0)))] (fun w => Bs w a c B ∧ Bs w a2 c2 S ∧ True)
    (fun _ => [(1, (.slice a2 (S).length c2)), (4, (.slice none 0 0)), (5, (.slice (some ⟨nb ρ2 5, 0, none⟩) (([] : List UInt8) ++ B).length (((B).length) + ((S).length))))])
    (fun _ => [(nb ρ2 5, (.cells (inpl (zB (((B).length) + ((S).length))) (([] : List UInt8)).length (bs B)) 5 (0, 0)))]) (fun _ => (fun w => Bs w a c B ∧ Bs w a2 c2 S ∧ True)) := by
  refine reg_seq_f [0, 1, 3, 7] [1, 4, 5] 4
    (fun _ ι => ([(.slice (some ⟨nb ρ2 5, 0, none⟩) (([] : List UInt8)).length (((B).length) + ((S).length))), (.slice a (B).length c), (.slice (some ⟨nb ρ2 5, 0, none⟩) (([] : List UInt8) ++ B).length (((B).length) + ((S).length))), (.slice (some ⟨nb ρ2 5, 0, none⟩) (([] : List UInt8) ++ B).length (((B).length) + ((S).length)))] : List Value).getD ι undef)
    (fun _ ι => ([{}, {}, { puts := [(0, (.cells (inpl (zB (((B).length) + ((S).length))) (([] : List UInt8)).length (bs B)) 5 (0, 0)))] }, {}] : List Eff).getD ι {})
    (fun _ ι => ([(fun _ => True), (fun _ => True), (fun _ => True), (fun _ => True)] : List (World → Prop)).getD ι (fun _ => True))
    (by as_aux_lemma => kernel_rfl) (by as_aux_lemma => kernel_rfl) (fun _ => by as_aux_lemma => kernel_rfl) (fun _ => by as_aux_lemma => kernel_rfl) (fun _ _ hF _ => ⟨hF.1, hF.2.1, trivial⟩) ⟨⟨⟨⟨trivial, ?_⟩, ?_⟩, ?_⟩, ?_⟩
  · exact Obl.brings (o_run 0 [] [] (fun _ _ => []) (fun _ _ => by as_aux_lemma => kernel_rfl)) (fun _ _ => trivial)
  · exact Obl.brings (o_run 1 [] [] (fun _ _ => []) (fun _ _ => by as_aux_lemma => kernel_rfl)) (fun _ _ => trivial)
  · exact o_put1 2 0 (fun _ => do pure (Next.value (← Builtin.append_ #[22, 22] 22 #[(.slice (some ⟨nb ρ2 5, 0, none⟩) (([] : List UInt8)).length (((B).length) + ((S).length))), (.slice a (B).length c)]))) (fun _ => nb ρ2 5) (fun _ => (.cells (zB (((B).length) + ((S).length))) 5 (0, 0))) (fun _ => (.cells (inpl (zB (((B).length) + ((S).length))) (([] : List UInt8)).length (bs B)) 5 (0, 0))) (fun _ => (.slice (some ⟨nb ρ2 5, 0, none⟩) (([] : List UInt8) ++ B).length (((B).length) + ((S).length)))) (fun _ => (by as_aux_lemma => kernel_rfl)) (fun _ => (by as_aux_lemma => kernel_rfl)) (fun _ => (by as_aux_lemma => kernel_rfl)) (fun _ => (by as_aux_lemma => kernel_rfl)) (fun _ _ => trivial) (fun _ _ _ hG hg => app_roomL Try.underlying22 u8i hg (Bs.src (tx := 22) Try.underlying22 hG.facts0.now.1) (zB_size _) ((by simp only [List.length_nil]; omega)))
  · exact Obl.brings (o_run 3 [] [] (fun _ _ => []) (fun _ _ => by as_aux_lemma => kernel_rfl)) (fun _ _ => trivial)
theorem extend_any_r4 (a : Option Addr) (c : Nat) (B : List UInt8) (a2 : Option Addr) (c2 : Nat) (S : List UInt8) (ρ2 : Nat → Orc) (w0 : World) : RegF Try.prog 3 (regOps Try.f47 3) false 18 [(1, (.slice a2 (S).length c2)), (4, (.slice none 0 0)), (5, (.slice (some ⟨nb ρ2 5, 0, none⟩) (([] : List UInt8) ++ B).length (((B).length) + ((S).length))))] w0 [(nb ρ2 5, (.cells (inpl (zB (((B).length) + ((S).length))) (([] : List UInt8)).length (bs B)) 5 (0, 0)))] (fun w => Bs w a c B ∧ Bs w a2 c2 S ∧ True)
    (fun _ => [(4, (.slice (some ⟨nb ρ2 5, 0, none⟩) ((([] : List UInt8) ++ B) ++ S).length (((B).length) + ((S).length))))])
    (fun _ => [(nb ρ2 5, (.cells (inpl (inpl (zB (((B).length) + ((S).length))) (([] : List UInt8)).length (bs B)) (([] : List UInt8) ++ B).length (bs S)) 5 (0, 0)))]) (fun _ => (fun w => Bs w a c B ∧ Bs w a2 c2 S ∧ True)) := by
  refine reg_seq_f [0, 1, 3, 7] [4] 4
    (fun _ ι => ([(.slice (some ⟨nb ρ2 5, 0, none⟩) (([] : List UInt8) ++ B).length (((B).length) + ((S).length))), (.slice a2 (S).length c2), (.slice (some ⟨nb ρ2 5, 0, none⟩) ((([] : List UInt8) ++ B) ++ S).length (((B).length) + ((S).length))), (.slice (some ⟨nb ρ2 5, 0, none⟩) ((([] : List UInt8) ++ B) ++ S).length (((B).length) + ((S).length)))] : List Value).getD ι undef)
    (fun _ ι => ([{}, {}, { puts := [(0, (.cells (inpl (inpl (zB (((B).length) + ((S).length))) (([] : List UInt8)).length (bs B)) (([] : List UInt8) ++ B).length (bs S)) 5 (0, 0)))] }, {}] : List Eff).getD ι {})
    (fun _ ι => ([(fun _ => True), (fun _ => True), (fun _ => True), (fun _ => True)] : List (World → Prop)).getD ι (fun _ => True))
    (by as_aux_lemma => kernel_rfl) (by as_aux_lemma => kernel_rfl) (fun _ => by as_aux_lemma => kernel_rfl) (fun _ => by as_aux_lemma => kernel_rfl) (fun _ _ hF _ => ⟨hF.1, hF.2.1, trivial⟩) ⟨⟨⟨⟨trivial, ?_⟩, ?_⟩, ?_⟩, ?_⟩
  · exact Obl.brings (o_run 0 [] [] (fun _ _ => []) (fun _ _ => by as_aux_lemma => kernel_rfl)) (fun _ _ => trivial)
  · exact Obl.brings (o_run 1 [] [] (fun _ _ => []) (fun _ _ => by as_aux_lemma => kernel_rfl)) (fun _ _ => trivial)
  · exact o_put1 2 0 (fun _ => do pure (Next.value (← Builtin.append_ #[22, 22] 22 #[(.slice (some ⟨nb ρ2 5, 0, none⟩) (([] : List UInt8) ++ B).length (((B).length) + ((S).length))), (.slice a2 (S).length c2)]))) (fun _ => nb ρ2 5) (fun _ => (.cells (inpl (zB (((B).length) + ((S).length))) (([] : List UInt8)).length (bs B)) 5 (0, 0))) (fun _ => (.cells (inpl (inpl (zB (((B).length) + ((S).length))) (([] : List UInt8)).length (bs B)) (([] : List UInt8) ++ B).length (bs S)) 5 (0, 0))) (fun _ => (.slice (some ⟨nb ρ2 5, 0, none⟩) ((([] : List UInt8) ++ B) ++ S).length (((B).length) + ((S).length)))) (fun _ => (by as_aux_lemma => kernel_rfl)) (fun _ => (by as_aux_lemma => kernel_rfl)) (fun _ => (by as_aux_lemma => kernel_rfl)) (fun _ => (by as_aux_lemma => kernel_rfl)) (fun _ _ => trivial) (fun _ _ _ hG hg => app_roomL Try.underlying22 u8i hg (Bs.src (tx := 22) Try.underlying22 hG.facts0.now.2.1) ((inpl_size _ _ _ (room_le (zB_size _) ((by simp only [List.length_nil]; omega)))).trans (zB_size _)) ((Nat.le_refl _)))
  · exact Obl.brings (o_run 3 [] [] (fun _ _ => []) (fun _ _ => by as_aux_lemma => kernel_rfl)) (fun _ _ => trivial)
theorem extend_any (a : Option Addr) (c : Nat) (B : List UInt8) (a2 : Option Addr) (c2 : Nat) (S : List UInt8) (hl : B.length + S.length ≤ 140737488351232) (w0 : World) (hf0 : Bs w0 a c B) (hf1 : Bs w0 a2 c2 S) : Calls Try.prog 47 #[(.slice a (B).length c), (.slice a2 (S).length c2)] w0 (fun ε w' => ∃ α κ, ε = .returned (.slice α (B ++ S).length κ) ∧ Below w0.heap.size w0 w' ∧ Fs w0 w' α κ (B ++ S)) := by
  refine Calls.of_ok (n := 18) (F := (fun w => Bs w a c B ∧ Bs w a2 c2 S ∧ True)) Try.func47 rfl rfl rfl (by simp) (hf0.pers0.and (hf1.pers0.and persT)) ?_
  refine ok_seq_r (by as_aux_lemma => kernel_rfl) (extend_any_r1 a c B a2 c2 S _ _) (fun _ => ?_)
  refine ok_seq_rf (by as_aux_lemma => kernel_rfl) (extend_any_r2 a c B a2 c2 S hl _) (fun ρ2 => ?_)
  refine ok_seq_rf (by as_aux_lemma => kernel_rfl) (extend_any_r3 a c B a2 c2 S ρ2 _) (fun _ => ?_)
  refine ok_seq_rf (by as_aux_lemma => kernel_rfl) (extend_any_r4 a c B a2 c2 S ρ2 _) (fun _ => ?_)
  refine ok_ret ?_
  exact meets_ret (v := (.slice (some ⟨nb ρ2 5, 0, none⟩) ((([] : List UInt8) ++ B) ++ S).length (((B).length) + ((S).length)))) [] (dup []) (by as_aux_lemma => kernel_rfl) (by as_aux_lemma => kernel_rfl) (eqs_dup _) (fun _ hS => ⟨(some ⟨nb ρ2 5, 0, none⟩), ((B).length) + ((S).length), congrArg Ending.returned (rfl), hS.below, fs_eq (rfl) (hS.fresh (.head _) (Hd.inpl (Hd.inpl (Hd.nil _) rfl) rfl) (len_app ((Nat.le_refl _))) (len_app (hl)))⟩)
theorem joined_any_r1 (a : Option Addr) (c : Nat) (B : List UInt8) (a2 : Option Addr) (c2 : Nat) (S : List UInt8) (w0 : World) (F : World → Prop) : Reg Try.prog 0 (regOps Try.f49 0) false 17 [(0, (.slice a (B).length c)), (1, (.slice a2 (S).length c2))] w0 [] F
    (fun _ => [(0, (.slice a (B).length c)), (1, (.slice a2 (S).length c2)), (4, (.slice none 0 0))])
    (fun _ => []) := by
  refine reg_seq [0] [0, 1, 4] 1
    (fun _ ι => ([(.slice none 0 0)] : List Value).getD ι undef)
    (fun _ ι => ([{}] : List Eff).getD ι {})
    (by as_aux_lemma => kernel_rfl) (by as_aux_lemma => kernel_rfl) (fun _ => by as_aux_lemma => kernel_rfl) (fun _ => by as_aux_lemma => kernel_rfl) ⟨trivial, ?_⟩
  · exact o_run 0 [] [] (fun _ _ => []) (fun _ _ => by as_aux_lemma => kernel_rfl)
theorem joined_any_r2 (a : Option Addr) (c : Nat) (B : List UInt8) (a2 : Option Addr) (c2 : Nat) (S : List UInt8) (hl : B.length + S.length ≤ 140737488351232) (w0 : World) : RegF Try.prog 1 (regOps Try.f49 1) false 17 [(0, (.slice a (B).length c)), (1, (.slice a2 (S).length c2)), (4, (.slice none 0 0))] w0 [] (fun w => Bs w a c B ∧ Bs w a2 c2 S ∧ True)
    (fun ρ => [(0, (.slice a (B).length c)), (1, (.slice a2 (S).length c2)), (4, (.slice none 0 0)), (5, (.slice (some ⟨nb ρ 5, 0, none⟩) (([] : List UInt8)).length (((B).length) + ((S).length))))])
    (fun ρ => [(nb ρ 5, (.cells (zB (((B).length) + ((S).length))) 5 (0, 0)))]) (fun _ => (fun w => Bs w a c B ∧ Bs w a2 c2 S ∧ True)) := by
  refine reg_seq_f [0, 1, 3, 7, 15, 31, 63] [0, 1, 4, 5] 7
    (fun ρ ι => ([(.slice a (B).length c), (.int .i64 (((B).length : Nat) : Int)), (.slice a2 (S).length c2), (.int .i64 (((S).length : Nat) : Int)), (.int .i64 ((((B).length) + ((S).length) : Nat) : Int)), (.slice (some ⟨nb ρ 5, 0, none⟩) (([] : List UInt8)).length (((B).length) + ((S).length))), (.slice (some ⟨nb ρ 5, 0, none⟩) (([] : List UInt8)).length (((B).length) + ((S).length)))] : List Value).getD ι undef)
    (fun ρ ι => ([{}, {}, {}, {}, {}, { news := [(nb ρ 5, (.cells (zB (((B).length) + ((S).length))) 5 (0, 0)))] }, {}] : List Eff).getD ι {})
    (fun _ ι => ([(fun _ => True), (fun _ => True), (fun _ => True), (fun _ => True), (fun _ => True), (fun _ => True), (fun _ => True)] : List (World → Prop)).getD ι (fun _ => True))
    (by as_aux_lemma => kernel_rfl) (by as_aux_lemma => kernel_rfl) (fun _ => by as_aux_lemma => kernel_rfl) (fun _ => by as_aux_lemma => kernel_rfl) (fun _ _ hF _ => ⟨hF.1, hF.2.1, trivial⟩) ⟨⟨⟨⟨⟨⟨⟨trivial, ?_⟩, ?_⟩, ?_⟩, ?_⟩, ?_⟩, ?_⟩, ?_⟩
  · exact Obl.brings (o_run 0 [] [] (fun _ _ => []) (fun _ _ => by as_aux_lemma => kernel_rfl)) (fun _ _ => trivial)
  · exact Obl.brings (o_run 1 [] [] (fun _ _ => []) (fun _ _ => by as_aux_lemma => kernel_rfl)) (fun _ _ => trivial)
  · exact Obl.brings (o_run 2 [] [] (fun _ _ => []) (fun _ _ => by as_aux_lemma => kernel_rfl)) (fun _ _ => trivial)
  · exact Obl.brings (o_run 3 [] [] (fun _ _ => []) (fun _ _ => by as_aux_lemma => kernel_rfl)) (fun _ _ => trivial)
  · exact Obl.brings (o_as 4 (fun _ => (.int .i64 (IntKind.i64.wrap ((((B).length : Nat) : Int) + (((S).length : Nat) : Int))))) (fun _ => (.int .i64 ((((B).length) + ((S).length) : Nat) : Int))) (fun _ _ => by as_aux_lemma => kernel_rfl) (fun _ => congrArg (Value.int .i64) (wrap_addN ((B).length) ((S).length) (by have := hl; omega)))) (fun _ _ => trivial)
  · exact o_new1 5 (fun _ => do pure (Next.value (← Instr.makeSlice 22 (.int .i64 0) (.int .i64 ((((B).length) + ((S).length) : Nat) : Int))))) (fun _ z => (.slice (some ⟨z.headD 0, 0, none⟩) (([] : List UInt8)).length (((B).length) + ((S).length)))) (fun _ _ => (.cells (zB (((B).length) + ((S).length))) 5 (0, 0))) (fun _ _ => (by as_aux_lemma => kernel_rfl)) (fun _ => (by as_aux_lemma => kernel_rfl)) (fun _ _ => trivial) (fun _ _ w _ => make_rowL Try.underlying22 u8i (([] : List UInt8)) (rfl) (rfl) (Nat.zero_le _) hl w)
  · exact Obl.brings (o_run 6 [] [] (fun _ _ => []) (fun _ _ => by as_aux_lemma => kernel_rfl)) (fun _ _ => trivial)
theorem joined_any_r3 (a : Option Addr) (c : Nat) (B : List UInt8) (a2 : Option Addr) (c2 : Nat) (S : List UInt8) (ρ2 : Nat → Orc) (w0 : World) : RegF Try.prog 2 (regOps Try.f49 2) false 17 [(0, (.slice a (B).length c)), (1, (.slice a2 (S).length c2)), (4, (.slice none 0 0)), (5, (.slice (some ⟨nb ρ2 5, 0, none⟩) (([] : List UInt8)).length (((B).length) + ((S).length))))] w0 [(nb ρ2 5, (.cells (zB (((B).length) + ((S).length))) 5 (0, 0)))] (fun w => Bs w a c B ∧ Bs w a2 c2 S ∧ True)
    (fun _ => [(4, (.slice (some ⟨nb ρ2 5, 0, none⟩) ((([] : List UInt8) ++ B) ++ S).length (((B).length) + ((S).length))))])
    (fun _ => [(nb ρ2 5, (.cells (inpl (inpl (zB (((B).length) + ((S).length))) (([] : List UInt8)).length (bs B)) (([] : List UInt8) ++ B).length (bs S)) 5 (0, 0)))]) (fun _ => (fun w => Bs w a c B ∧ Bs w a2 c2 S ∧ True)) := by
  refine reg_seq_f [0, 1, 3, 7, 15, 31] [4] 6
    (fun _ ι => ([(.slice (some ⟨nb ρ2 5, 0, none⟩) (([] : List UInt8)).length (((B).length) + ((S).length))), (.slice a (B).length c), (.slice (some ⟨nb ρ2 5, 0, none⟩) (([] : List UInt8) ++ B).length (((B).length) + ((S).length))), (.slice a2 (S).length c2), (.slice (some ⟨nb ρ2 5, 0, none⟩) ((([] : List UInt8) ++ B) ++ S).length (((B).length) + ((S).length))), (.slice (some ⟨nb ρ2 5, 0, none⟩) ((([] : List UInt8) ++ B) ++ S).length (((B).length) + ((S).length)))] : List Value).getD ι undef)
    (fun _ ι => ([{}, {}, { puts := [(0, (.cells (inpl (zB (((B).length) + ((S).length))) (([] : List UInt8)).length (bs B)) 5 (0, 0)))] }, {}, { puts := [(0, (.cells (inpl (inpl (zB (((B).length) + ((S).length))) (([] : List UInt8)).length (bs B)) (([] : List UInt8) ++ B).length (bs S)) 5 (0, 0)))] }, {}] : List Eff).getD ι {})
    (fun _ ι => ([(fun _ => True), (fun _ => True), (fun _ => True), (fun _ => True), (fun _ => True), (fun _ => True)] : List (World → Prop)).getD ι (fun _ => True))
    (by as_aux_lemma => kernel_rfl) (by as_aux_lemma => kernel_rfl) (fun _ => by as_aux_lemma => kernel_rfl) (fun _ => by as_aux_lemma => kernel_rfl) (fun _ _ hF _ => ⟨hF.1, hF.2.1, trivial⟩) ⟨⟨⟨⟨⟨⟨trivial, ?_⟩, ?_⟩, ?_⟩, ?_⟩, ?_⟩, ?_⟩
  · exact Obl.brings (o_run 0 [] [] (fun _ _ => []) (fun _ _ => by as_aux_lemma => kernel_rfl)) (fun _ _ => trivial)
  · exact Obl.brings (o_run 1 [] [] (fun _ _ => []) (fun _ _ => by as_aux_lemma => kernel_rfl)) (fun _ _ => trivial)
  · exact o_put1 2 0 (fun _ => do pure (Next.value (← Builtin.append_ #[22, 22] 22 #[(.slice (some ⟨nb ρ2 5, 0, none⟩) (([] : List UInt8)).length (((B).length) + ((S).length))), (.slice a (B).length c)]))) (fun _ => nb ρ2 5) (fun _ => (.cells (zB (((B).length) + ((S).length))) 5 (0, 0))) (fun _ => (.cells (inpl (zB (((B).length) + ((S).length))) (([] : List UInt8)).length (bs B)) 5 (0, 0))) (fun _ => (.slice (some ⟨nb ρ2 5, 0, none⟩) (([] : List UInt8) ++ B).length (((B).length) + ((S).length)))) (fun _ => (by as_aux_lemma => kernel_rfl)) (fun _ => (by as_aux_lemma => kernel_rfl)) (fun _ => (by as_aux_lemma => kernel_rfl)) (fun _ => (by as_aux_lemma => kernel_rfl)) (fun _ _ => trivial) (fun _ _ _ hG hg => app_roomL Try.underlying22 u8i hg (Bs.src (tx := 22) Try.underlying22 hG.facts0.now.1) (zB_size _) ((by simp only [List.length_nil]; omega)))
  · exact Obl.brings (o_run 3 [] [] (fun _ _ => []) (fun _ _ => by as_aux_lemma => kernel_rfl)) (fun _ _ => trivial)
  · exact o_put1 4 0 (fun _ => do pure (Next.value (← Builtin.append_ #[22, 22] 22 #[(.slice (some ⟨nb ρ2 5, 0, none⟩) (([] : List UInt8) ++ B).length (((B).length) + ((S).length))), (.slice a2 (S).length c2)]))) (fun _ => nb ρ2 5) (fun _ => (.cells (inpl (zB (((B).length) + ((S).length))) (([] : List UInt8)).length (bs B)) 5 (0, 0))) (fun _ => (.cells (inpl (inpl (zB (((B).length) + ((S).length))) (([] : List UInt8)).length (bs B)) (([] : List UInt8) ++ B).length (bs S)) 5 (0, 0))) (fun _ => (.slice (some ⟨nb ρ2 5, 0, none⟩) ((([] : List UInt8) ++ B) ++ S).length (((B).length) + ((S).length)))) (fun _ => (by as_aux_lemma => kernel_rfl)) (fun _ => (by as_aux_lemma => kernel_rfl)) (fun _ => (by as_aux_lemma => kernel_rfl)) (fun _ => (by as_aux_lemma => kernel_rfl)) (fun _ _ => trivial) (fun _ _ _ hG hg => app_roomL Try.underlying22 u8i hg (Bs.src (tx := 22) Try.underlying22 hG.facts0.now.2.1) ((inpl_size _ _ _ (room_le (zB_size _) ((by simp only [List.length_nil]; omega)))).trans (zB_size _)) ((Nat.le_refl _)))
  · exact Obl.brings (o_run 5 [] [] (fun _ _ => []) (fun _ _ => by as_aux_lemma => kernel_rfl)) (fun _ _ => trivial)
theorem joined_any (a : Option Addr) (c : Nat) (B : List UInt8) (a2 : Option Addr) (c2 : Nat) (S : List UInt8) (hl : B.length + S.length ≤ 140737488351232) (w0 : World) (hf0 : Bs w0 a c B) (hf1 : Bs w0 a2 c2 S) : Calls Try.prog 49 #[(.slice a (B).length c), (.slice a2 (S).length c2)] w0 (fun ε w' => ∃ α κ, ε = .returned (.slice α (B ++ S).length κ) ∧ Below w0.heap.size w0 w' ∧ Fs w0 w' α κ (B ++ S)) := by
  refine Calls.of_ok (n := 17) (F := (fun w => Bs w a c B ∧ Bs w a2 c2 S ∧ True)) Try.func49 rfl rfl rfl (by simp) (hf0.pers0.and (hf1.pers0.and persT)) ?_
  refine ok_seq_r (by as_aux_lemma => kernel_rfl) (joined_any_r1 a c B a2 c2 S _ _) (fun _ => ?_)
  refine ok_seq_rf (by as_aux_lemma => kernel_rfl) (joined_any_r2 a c B a2 c2 S hl _) (fun ρ2 => ?_)
  refine ok_seq_rf (by as_aux_lemma => kernel_rfl) (joined_any_r3 a c B a2 c2 S ρ2 _) (fun _ => ?_)
  refine ok_ret ?_
  exact meets_ret (v := (.slice (some ⟨nb ρ2 5, 0, none⟩) ((([] : List UInt8) ++ B) ++ S).length (((B).length) + ((S).length)))) [] (dup []) (by as_aux_lemma => kernel_rfl) (by as_aux_lemma => kernel_rfl) (eqs_dup _) (fun _ hS => ⟨(some ⟨nb ρ2 5, 0, none⟩), ((B).length) + ((S).length), congrArg Ending.returned (rfl), hS.below, fs_eq (rfl) (hS.fresh (.head _) (Hd.inpl (Hd.inpl (Hd.nil _) rfl) rfl) (len_app ((Nat.le_refl _))) (len_app (hl)))⟩)
theorem lowest_any_r1 (n : Nat) (m : Nat) (w0 : World) (F : World → Prop) : Reg Try.prog 0 (regOps Try.f48 0) false 23 [(0, (.int .u64 ((n : Nat) : Int))), (1, (.int .i64 ((m : Nat) : Int)))] w0 [] F
    (fun _ => [(0, (.int .u64 ((n : Nat) : Int))), (1, (.int .i64 ((m : Nat) : Int))), (4, (.slice none 0 0))])
    (fun _ => []) := by
  refine reg_seq [0] [0, 1, 4] 1
    (fun _ ι => ([(.slice none 0 0)] : List Value).getD ι undef)
    (fun _ ι => ([{}] : List Eff).getD ι {})
    (by as_aux_lemma => kernel_rfl) (by as_aux_lemma => kernel_rfl) (fun _ => by as_aux_lemma => kernel_rfl) (fun _ => by as_aux_lemma => kernel_rfl) ⟨trivial, ?_⟩
  · exact o_run 0 [] [] (fun _ _ => []) (fun _ _ => by as_aux_lemma => kernel_rfl)
theorem lowest_any_r2 (n : Nat) (m : Nat) (hm : m ≤ 8) (w0 : World) : RegF Try.prog 1 (regOps Try.f48 1) false 23 [(0, (.int .u64 ((n : Nat) : Int))), (1, (.int .i64 ((m : Nat) : Int))), (4, (.slice none 0 0))] w0 [] (fun _ => True)
    (fun ρ => [(0, (.int .u64 ((n : Nat) : Int))), (1, (.int .i64 ((m : Nat) : Int))), (4, (.slice none 0 0)), (5, (.slice (some ⟨nb ρ 1, 0, none⟩) (List.replicate m (0 : UInt8)).length m))])
    (fun ρ => [(nb ρ 1, (.cells (zB m) 5 (0, 0)))]) (fun _ => (fun _ => True)) := by
  refine reg_seq_f [0, 1, 3] [0, 1, 4, 5] 3
    (fun ρ ι => ([(.int .i64 ((m : Nat) : Int)), (.slice (some ⟨nb ρ 1, 0, none⟩) (List.replicate m (0 : UInt8)).length m), (.slice (some ⟨nb ρ 1, 0, none⟩) (List.replicate m (0 : UInt8)).length m)] : List Value).getD ι undef)
    (fun ρ ι => ([{}, { news := [(nb ρ 1, (.cells (zB m) 5 (0, 0)))] }, {}] : List Eff).getD ι {})
    (fun _ ι => ([(fun _ => True), (fun _ => True), (fun _ => True)] : List (World → Prop)).getD ι (fun _ => True))
    (by as_aux_lemma => kernel_rfl) (by as_aux_lemma => kernel_rfl) (fun _ => by as_aux_lemma => kernel_rfl) (fun _ => by as_aux_lemma => kernel_rfl) (fun _ _ _ _ => trivial) ⟨⟨⟨trivial, ?_⟩, ?_⟩, ?_⟩
  · exact Obl.brings (o_run 0 [] [] (fun _ _ => []) (fun _ _ => by as_aux_lemma => kernel_rfl)) (fun _ _ => trivial)
  · exact o_new1 1 (fun _ => do pure (Next.value (← Instr.makeSlice 22 (.int .i64 ((m : Nat) : Int)) (.int .i64 ((m : Nat) : Int))))) (fun _ z => (.slice (some ⟨z.headD 0, 0, none⟩) (List.replicate m (0 : UInt8)).length m)) (fun _ _ => (.cells (zB m) 5 (0, 0))) (fun _ _ => (by as_aux_lemma => kernel_rfl)) (fun _ => (by as_aux_lemma => kernel_rfl)) (fun _ _ => trivial) (fun _ _ w _ => make_rowL Try.underlying22 u8i (List.replicate m (0 : UInt8)) ((rfl).trans (by rw [List.length_replicate])) (rfl) (by rw [List.length_replicate]; exact Nat.le_refl _) (by have := hm; omega) w)
  · exact Obl.brings (o_run 2 [] [] (fun _ _ => []) (fun _ _ => by as_aux_lemma => kernel_rfl)) (fun _ _ => trivial)
theorem lowest_any_r3 (n : Nat) (m : Nat) (ρ2 : Nat → Orc) (w0 : World) (F : World → Prop) : Reg Try.prog 2 (regOps Try.f48 2) false 23 [(0, (.int .u64 ((n : Nat) : Int))), (1, (.int .i64 ((m : Nat) : Int))), (4, (.slice none 0 0)), (5, (.slice (some ⟨nb ρ2 1, 0, none⟩) (List.replicate m (0 : UInt8)).length m))] w0 [(nb ρ2 1, (.cells (zB m) 5 (0, 0)))] F
    (fun _ => [(0, (.int .u64 ((n : Nat) : Int))), (4, (.slice none 0 0)), (5, (.slice (some ⟨nb ρ2 1, 0, none⟩) (List.replicate m (0 : UInt8)).length m)), (9, (.int .i64 ((m : Nat) : Int))), (10, (.int .i64 0))])
    (fun _ => [(nb ρ2 1, (.cells (zB m) 5 (0, 0)))]) := by
  refine reg_seq [0, 1] [0, 4, 5, 9, 10] 2
    (fun _ ι => ([(.int .i64 ((m : Nat) : Int)), (.int .i64 0)] : List Value).getD ι undef)
    (fun _ ι => ([{}, {}] : List Eff).getD ι {})
    (by as_aux_lemma => kernel_rfl) (by as_aux_lemma => kernel_rfl) (fun _ => by as_aux_lemma => kernel_rfl) (fun _ => by as_aux_lemma => kernel_rfl) ⟨⟨trivial, ?_⟩, ?_⟩
  · exact o_run 0 [] [] (fun _ _ => []) (fun _ _ => by as_aux_lemma => kernel_rfl)
  · exact o_run 1 [] [] (fun _ _ => []) (fun _ _ => by as_aux_lemma => kernel_rfl)
theorem lowest_any_r4 (n : Nat) (m : Nat) (i : Nat) (ρ2 : Nat → Orc) (w0 : World) (F : World → Prop) : Reg Try.prog 3 (regOps Try.f48 3) false 23 [(0, (.int .u64 ((n : Nat) : Int))), (4, (.slice none 0 0)), (5, (.slice (some ⟨nb ρ2 1, 0, none⟩) (List.replicate m (0 : UInt8)).length m)), (9, (.int .i64 ((m : Nat) : Int))), (10, (.int .i64 ((i : Nat) : Int)))] w0 [(nb ρ2 1, (.cells (fillC n m i) 5 (0, 0)))] F
    (fun _ => [(0, (.int .u64 ((n : Nat) : Int))), (4, (.slice none 0 0)), (5, (.slice (some ⟨nb ρ2 1, 0, none⟩) (List.replicate m (0 : UInt8)).length m)), (9, (.int .i64 ((m : Nat) : Int))), (10, (.int .i64 ((i : Nat) : Int))), (11, (.bool (decide (((i : Nat) : Int) < ((m : Nat) : Int)))))])
    (fun _ => [(nb ρ2 1, (.cells (fillC n m i) 5 (0, 0)))]) := by
  refine reg_seq [0] [0, 4, 5, 9, 10, 11] 1
    (fun _ ι => ([(.bool (decide (((i : Nat) : Int) < ((m : Nat) : Int))))] : List Value).getD ι undef)
    (fun _ ι => ([{}] : List Eff).getD ι {})
    (by as_aux_lemma => kernel_rfl) (by as_aux_lemma => kernel_rfl) (fun _ => by as_aux_lemma => kernel_rfl) (fun _ => by as_aux_lemma => kernel_rfl) ⟨trivial, ?_⟩
  · exact o_run 0 [] [] (fun _ _ => []) (fun _ _ => by as_aux_lemma => kernel_rfl)
theorem lowest_any_r5 (n : Nat) (m : Nat) (i : Nat) (ρ2 : Nat → Orc) (w0 : World) (F : World → Prop) : Reg Try.prog 4 (regOps Try.f48 4) false 23 [(0, (.int .u64 ((n : Nat) : Int))), (4, (.slice none 0 0)), (5, (.slice (some ⟨nb ρ2 1, 0, none⟩) (List.replicate m (0 : UInt8)).length m)), (9, (.int .i64 ((m : Nat) : Int))), (10, (.int .i64 ((i : Nat) : Int))), (11, (.bool true))] w0 [(nb ρ2 1, (.cells (fillC n m i) 5 (0, 0)))] F
    (fun _ => [(0, (.int .u64 ((n : Nat) : Int))), (4, (.slice none 0 0)), (5, (.slice (some ⟨nb ρ2 1, 0, none⟩) (List.replicate m (0 : UInt8)).length m)), (6, (.int .i64 ((i : Nat) : Int))), (9, (.int .i64 ((m : Nat) : Int))), (10, (.int .i64 ((i : Nat) : Int)))])
    (fun _ => [(nb ρ2 1, (.cells (fillC n m i) 5 (0, 0)))]) := by
  refine reg_seq [0, 1] [0, 4, 5, 6, 9, 10] 2
    (fun _ ι => ([(.int .i64 ((i : Nat) : Int)), (.int .i64 ((i : Nat) : Int))] : List Value).getD ι undef)
    (fun _ ι => ([{}, {}] : List Eff).getD ι {})
    (by as_aux_lemma => kernel_rfl) (by as_aux_lemma => kernel_rfl) (fun _ => by as_aux_lemma => kernel_rfl) (fun _ => by as_aux_lemma => kernel_rfl) ⟨⟨trivial, ?_⟩, ?_⟩
  · exact o_run 0 [] [] (fun _ _ => []) (fun _ _ => by as_aux_lemma => kernel_rfl)
  · exact o_run 1 [] [] (fun _ _ => []) (fun _ _ => by as_aux_lemma => kernel_rfl)
theorem lowest_any_r6 (n : Nat) (m : Nat) (hn : n < 18446744073709551616) (hm : m ≤ 8) (i : Nat) (hi : i ≤ m) (hb1 : (decide (((i : Nat) : Int) < ((m : Nat) : Int))) = true) (ρ2 : Nat → Orc) (w0 : World) (F : World → Prop) : Reg Try.prog 5 (regOps Try.f48 5) false 23 [(0, (.int .u64 ((n : Nat) : Int))), (4, (.slice none 0 0)), (5, (.slice (some ⟨nb ρ2 1, 0, none⟩) (List.replicate m (0 : UInt8)).length m)), (6, (.int .i64 ((i : Nat) : Int))), (9, (.int .i64 ((m : Nat) : Int))), (10, (.int .i64 ((i : Nat) : Int)))] w0 [(nb ρ2 1, (.cells (fillC n m i) 5 (0, 0)))] F
    (fun _ => [(0, (.int .u64 ((n : Nat) : Int))), (4, (.slice none 0 0)), (5, (.slice (some ⟨nb ρ2 1, 0, none⟩) (List.replicate m (0 : UInt8)).length m)), (9, (.int .i64 ((m : Nat) : Int))), (10, (.int .i64 ((i : Nat) : Int)))])
    (fun _ => [(nb ρ2 1, (.cells (fillC n m (i + 1)) 5 (0, 0)))]) := by
  refine reg_seq [0, 1, 3, 7, 15, 31, 63, 127, 255] [0, 4, 5, 9, 10] 9
    (fun _ ι => ([(.slice (some ⟨nb ρ2 1, 0, none⟩) (List.replicate m (0 : UInt8)).length m), (.int .i64 ((i : Nat) : Int)), (.int .u64 ((n : Nat) : Int)), (.int .i64 ((i : Nat) : Int)), (.int .i64 ((8 * i : Nat) : Int)), (.int .u64 ((n / 2 ^ (8 * i) : Nat) : Int)), (.int .u8 ((n / 256 ^ i % 256 : Nat) : Int)), (.pointer (some ⟨nb ρ2 1, i, none⟩)), undef] : List Value).getD ι undef)
    (fun _ ι => ([{}, {}, {}, {}, {}, {}, {}, {}, { puts := [(0, (.cells (fillC n m (i + 1)) 5 (0, 0)))] }] : List Eff).getD ι {})
    (by as_aux_lemma => kernel_rfl) (by as_aux_lemma => kernel_rfl) (fun _ => by as_aux_lemma => kernel_rfl) (fun _ => by as_aux_lemma => kernel_rfl) ⟨⟨⟨⟨⟨⟨⟨⟨⟨trivial, ?_⟩, ?_⟩, ?_⟩, ?_⟩, ?_⟩, ?_⟩, ?_⟩, ?_⟩, ?_⟩
  · exact o_run 0 [] [] (fun _ _ => []) (fun _ _ => by as_aux_lemma => kernel_rfl)
  · exact o_run 1 [] [] (fun _ _ => []) (fun _ _ => by as_aux_lemma => kernel_rfl)
  · exact o_run 2 [] [] (fun _ _ => []) (fun _ _ => by as_aux_lemma => kernel_rfl)
  · exact o_run 3 [] [] (fun _ _ => []) (fun _ _ => by as_aux_lemma => kernel_rfl)
  · exact o_as 4 (fun _ => (.int .i64 (IntKind.i64.wrap (8 * ((i : Nat) : Int))))) (fun _ => (.int .i64 ((8 * i : Nat) : Int))) (fun _ _ => by as_aux_lemma => kernel_rfl) (fun _ => congrArg (Value.int .i64) (wrap_mulN 8 i (by have := of_decide_eq_true hb1; have := hm; have := List.length_replicate (n := m) (a := (0 : UInt8)); have := hi; omega)))
  · exact o_bin 5 .shr 23 (fun _ => (.int .u64 ((n : Nat) : Int))) (fun _ => (.int .i64 ((8 * i : Nat) : Int))) (fun _ => (.int .u64 ((n / 2 ^ (8 * i) : Nat) : Int))) (fun _ => by as_aux_lemma => kernel_rfl) (fun _ _ _ _ => by as_aux_lemma => kernel_rfl) (fun _ w => run_shrU (k := .u64) hn w)
  · exact o_as 6 (fun _ => (.int .u8 (IntKind.u8.wrap (((n / 2 ^ (8 * i) : Nat) : Int))))) (fun _ => (.int .u8 ((n / 256 ^ i % 256 : Nat) : Int))) (fun _ _ => by as_aux_lemma => kernel_rfl) (fun _ => congrArg (Value.int .u8) (low_byte n i))
  · exact o_sem 7 (fun _ => do pure (Next.value (← Instr.indexAt 22 (.slice (some ⟨nb ρ2 1, 0, none⟩) (List.replicate m (0 : UInt8)).length m) (.int .i64 ((i : Nat) : Int))))) (fun _ => (.pointer (some ⟨nb ρ2 1, i, none⟩))) (fun _ => (by as_aux_lemma => kernel_rfl)) (fun _ => (by as_aux_lemma => kernel_rfl)) (fun _ w => idx_row Try.underlying22 u8i ((show ((i : Nat) : Int) = ((i : Nat) : Int) ∧ i < (List.replicate m (0 : UInt8)).length from ⟨rfl, (by rw [List.length_replicate]; have := of_decide_eq_true hb1; have := hm; have := List.length_replicate (n := m) (a := (0 : UInt8)); have := hi; omega)⟩)).1 ((show ((i : Nat) : Int) = ((i : Nat) : Int) ∧ i < (List.replicate m (0 : UInt8)).length from ⟨rfl, (by rw [List.length_replicate]; have := of_decide_eq_true hb1; have := hm; have := List.length_replicate (n := m) (a := (0 : UInt8)); have := hi; omega)⟩)).2 w)
  · exact o_st 8 0 5 (fun _ => nb ρ2 1) (fun _ => i) (fun _ => (fillC n m i)) (fun _ => (fillC n m (i + 1))) 5 (fun _ => (.int .u8 ((n / 256 ^ i % 256 : Nat) : Int))) (fun _ => by as_aux_lemma => kernel_rfl) Try.sizeOf5 (fun _ => rfl) (fun _ => (by rw [fill_size hi]; have := of_decide_eq_true hb1; have := hm; have := List.length_replicate (n := m) (a := (0 : UInt8)); have := hi; omega)) (fun _ => (fill_set (by have := of_decide_eq_true hb1; have := hm; have := List.length_replicate (n := m) (a := (0 : UInt8)); have := hi; omega)))
theorem lowest_any_r7 (n : Nat) (m : Nat) (hm : m ≤ 8) (i : Nat) (hi : i ≤ m) (hb1 : (decide (((i : Nat) : Int) < ((m : Nat) : Int))) = true) (ρ2 : Nat → Orc) (w0 : World) (F : World → Prop) : Reg Try.prog 6 (regOps Try.f48 6) false 23 [(0, (.int .u64 ((n : Nat) : Int))), (4, (.slice none 0 0)), (5, (.slice (some ⟨nb ρ2 1, 0, none⟩) (List.replicate m (0 : UInt8)).length m)), (9, (.int .i64 ((m : Nat) : Int))), (10, (.int .i64 ((i : Nat) : Int)))] w0 [(nb ρ2 1, (.cells (fillC n m (i + 1)) 5 (0, 0)))] F
    (fun _ => [(0, (.int .u64 ((n : Nat) : Int))), (4, (.slice none 0 0)), (5, (.slice (some ⟨nb ρ2 1, 0, none⟩) (List.replicate m (0 : UInt8)).length m)), (9, (.int .i64 ((m : Nat) : Int))), (10, (.int .i64 ((i + 1 : Nat) : Int)))])
    (fun _ => [(nb ρ2 1, (.cells (fillC n m (i + 1)) 5 (0, 0)))]) := by
  refine reg_seq [0, 1] [0, 4, 5, 9, 10] 2
    (fun _ ι => ([(.int .i64 ((i + 1 : Nat) : Int)), (.int .i64 ((i + 1 : Nat) : Int))] : List Value).getD ι undef)
    (fun _ ι => ([{}, {}] : List Eff).getD ι {})
    (by as_aux_lemma => kernel_rfl) (by as_aux_lemma => kernel_rfl) (fun _ => by as_aux_lemma => kernel_rfl) (fun _ => by as_aux_lemma => kernel_rfl) ⟨⟨trivial, ?_⟩, ?_⟩
  · exact o_as 0 (fun _ => (.int .i64 (IntKind.i64.wrap (((i : Nat) : Int) + 1)))) (fun _ => (.int .i64 ((i + 1 : Nat) : Int))) (fun _ _ => by as_aux_lemma => kernel_rfl) (fun _ => congrArg (Value.int .i64) (wrap_addN i 1 (by have := of_decide_eq_true hb1; have := hm; have := List.length_replicate (n := m) (a := (0 : UInt8)); have := hi; omega)))
  · exact o_run 1 [] [] (fun _ _ => []) (fun _ _ => by as_aux_lemma => kernel_rfl)
theorem lowest_any_r8 (n : Nat) (m : Nat) (i : Nat) (ρ2 : Nat → Orc) (w0 : World) (F : World → Prop) : Reg Try.prog 7 (regOps Try.f48 7) false 23 [(0, (.int .u64 ((n : Nat) : Int))), (4, (.slice none 0 0)), (5, (.slice (some ⟨nb ρ2 1, 0, none⟩) (List.replicate m (0 : UInt8)).length m)), (9, (.int .i64 ((m : Nat) : Int))), (10, (.int .i64 ((i : Nat) : Int))), (11, (.bool false))] w0 [(nb ρ2 1, (.cells (fillC n m i) 5 (0, 0)))] F
    (fun _ => [(4, (.slice (some ⟨nb ρ2 1, 0, none⟩) (List.replicate m (0 : UInt8)).length m))])
    (fun _ => [(nb ρ2 1, (.cells (fillC n m i) 5 (0, 0)))]) := by
  refine reg_seq [0, 1] [4] 2
    (fun _ ι => ([(.slice (some ⟨nb ρ2 1, 0, none⟩) (List.replicate m (0 : UInt8)).length m), (.slice (some ⟨nb ρ2 1, 0, none⟩) (List.replicate m (0 : UInt8)).length m)] : List Value).getD ι undef)
    (fun _ ι => ([{}, {}] : List Eff).getD ι {})
    (by as_aux_lemma => kernel_rfl) (by as_aux_lemma => kernel_rfl) (fun _ => by as_aux_lemma => kernel_rfl) (fun _ => by as_aux_lemma => kernel_rfl) ⟨⟨trivial, ?_⟩, ?_⟩
  · exact o_run 0 [] [] (fun _ _ => []) (fun _ _ => by as_aux_lemma => kernel_rfl)
  · exact o_run 1 [] [] (fun _ _ => []) (fun _ _ => by as_aux_lemma => kernel_rfl)
theorem lowest_any (n : Nat) (m : Nat) (hn : n < 18446744073709551616) (hm : m ≤ 8) (w0 : World) : Calls Try.prog 48 #[(.int .u64 ((n : Nat) : Int)), (.int .i64 ((m : Nat) : Int))] w0 (fun ε w' => ∃ α κ, ε = .returned (.slice α (leB n m).length κ) ∧ Below w0.heap.size w0 w' ∧ Fs w0 w' α κ (leB n m)) := by
  refine Calls.of_ok (n := 23) (F := (fun _ => True)) Try.func48 rfl rfl rfl (by simp) persT ?_
  refine ok_seq_r (by as_aux_lemma => kernel_rfl) (lowest_any_r1 n m _ _) (fun _ => ?_)
  refine ok_seq_rf (by as_aux_lemma => kernel_rfl) (lowest_any_r2 n m hm _) (fun ρ2 => ?_)
  refine ok_seq ?_
  refine ok_seq_r (by as_aux_lemma => kernel_rfl) (lowest_any_r3 n m ρ2 _ _) (fun _ => ?_)
  refine ok_block ?_
  refine ok_loop (σ := Nat) (fun i => [(0, (.int .u64 ((n : Nat) : Int))), (4, (.slice none 0 0)), (5, (.slice (some ⟨nb ρ2 1, 0, none⟩) (List.replicate m (0 : UInt8)).length m)), (9, (.int .i64 ((m : Nat) : Int))), (10, (.int .i64 ((i : Nat) : Int)))]) (fun i => [(nb ρ2 1, (.cells (fillC n m i) 5 (0, 0)))]) (fun i => m - i)
    (fun i => (i ≤ m)) 0 (Nat.zero_le m) (by as_aux_lemma => kernel_rfl) (.cons_cons _ .slnil) ?_
  rintro i hi
  change Ok Try.prog _ _ 23 [(0, (.int .u64 ((n : Nat) : Int))), (4, (.slice none 0 0)), (5, (.slice (some ⟨nb ρ2 1, 0, none⟩) (List.replicate m (0 : UInt8)).length m)), (9, (.int .i64 ((m : Nat) : Int))), (10, (.int .i64 ((i : Nat) : Int)))] _ [(nb ρ2 1, (.cells (fillC n m i) 5 (0, 0)))] (fun _ => True)
  refine ok_seq_r (by as_aux_lemma => kernel_rfl) (lowest_any_r4 n m i ρ2 _ _) (fun _ => ?_)
  refine ok_seq ?_
  refine ok_cond (b := decide (((i : Nat) : Int) < ((m : Nat) : Int))) (by as_aux_lemma => kernel_rfl) (fun hb1 => ?_) (fun hb1 => ?_)
  ·
    rw [hb1]
    refine ok_skip ?_
    refine mt_then ?_
    refine ok_seq ?_
    refine ok_block ?_
    refine ok_seq_r (by as_aux_lemma => kernel_rfl) (lowest_any_r5 n m i ρ2 _ _) (fun _ => ?_)
    refine ok_r (by as_aux_lemma => kernel_rfl) (lowest_any_r6 n m hn hm i hi hb1 ρ2 _ _) (fun _ => ?_)
    refine mt_block_n ?_
    refine mt_then ?_
    refine ok_r (by as_aux_lemma => kernel_rfl) (lowest_any_r7 n m hm i hi hb1 ρ2 _ _) (fun _ => ?_)
    exact mt_round (i + 1) (by show m - (i + 1) < m - i; have := of_decide_eq_true hb1; have := hm; have := List.length_replicate (n := m) (a := (0 : UInt8)); have := hi; omega) (by show i + 1 ≤ m; have := of_decide_eq_true hb1; have := hm; have := List.length_replicate (n := m) (a := (0 : UInt8)); have := hi; omega) (by as_aux_lemma => kernel_rfl) (.cons_cons _ .slnil)
  ·
    rw [hb1]
    refine ok_exit ?_
    refine mt_then_e ?_
    refine mt_then_e ?_
    refine mt_block_h ?_
    refine mt_then ?_
    refine ok_seq_r (by as_aux_lemma => kernel_rfl) (lowest_any_r8 n m i ρ2 _ _) (fun _ => ?_)
    refine ok_ret ?_
    exact meets_ret (v := (.slice (some ⟨nb ρ2 1, 0, none⟩) (List.replicate m (0 : UInt8)).length m)) [] (dup []) (by as_aux_lemma => kernel_rfl) (by as_aux_lemma => kernel_rfl) (eqs_dup _) (fun _ hS => ⟨(some ⟨nb ρ2 1, 0, none⟩), m, congrArg Ending.returned (by rw [List.length_replicate, leB_length]), hS.below, fs_eq (fill_end (by have := of_decide_eq_false hb1; have := hm; have := List.length_replicate (n := m) (a := (0 : UInt8)); have := hi; omega)) (hS.fresh (.head _) (Hd.all _) (Nat.le_of_eq (fill_len hi)) (by rw [fill_len hi]; have := hm; omega))⟩)
theorem little_any_r1 (n : Nat) (m : Nat) (w0 : World) (F : World → Prop) : Reg Try.prog 0 (regOps Try.f50 0) false 24 [(0, (.int .u64 ((n : Nat) : Int))), (1, (.int .i64 ((m : Nat) : Int)))] w0 [] F
    (fun _ => [(0, (.int .u64 ((n : Nat) : Int))), (1, (.int .i64 ((m : Nat) : Int))), (4, (.slice none 0 0))])
    (fun _ => []) := by
  refine reg_seq [0] [0, 1, 4] 1
    (fun _ ι => ([(.slice none 0 0)] : List Value).getD ι undef)
    (fun _ ι => ([{}] : List Eff).getD ι {})
    (by as_aux_lemma => kernel_rfl) (by as_aux_lemma => kernel_rfl) (fun _ => by as_aux_lemma => kernel_rfl) (fun _ => by as_aux_lemma => kernel_rfl) ⟨trivial, ?_⟩
  · exact o_run 0 [] [] (fun _ _ => []) (fun _ _ => by as_aux_lemma => kernel_rfl)
theorem little_any_r2 (n : Nat) (m : Nat) (hm : m ≤ 8) (w0 : World) : RegF Try.prog 1 (regOps Try.f50 1) false 24 [(0, (.int .u64 ((n : Nat) : Int))), (1, (.int .i64 ((m : Nat) : Int))), (4, (.slice none 0 0))] w0 [] (fun _ => True)
    (fun ρ => [(0, (.int .u64 ((n : Nat) : Int))), (4, (.slice none 0 0)), (5, (.slice (some ⟨nb ρ 1, 0, none⟩) (List.replicate m (0 : UInt8)).length m))])
    (fun ρ => [(nb ρ 1, (.cells (zB m) 5 (0, 0)))]) (fun _ => (fun _ => True)) := by
  refine reg_seq_f [0, 1, 3] [0, 4, 5] 3
    (fun ρ ι => ([(.int .i64 ((m : Nat) : Int)), (.slice (some ⟨nb ρ 1, 0, none⟩) (List.replicate m (0 : UInt8)).length m), (.slice (some ⟨nb ρ 1, 0, none⟩) (List.replicate m (0 : UInt8)).length m)] : List Value).getD ι undef)
    (fun ρ ι => ([{}, { news := [(nb ρ 1, (.cells (zB m) 5 (0, 0)))] }, {}] : List Eff).getD ι {})
    (fun _ ι => ([(fun _ => True), (fun _ => True), (fun _ => True)] : List (World → Prop)).getD ι (fun _ => True))
    (by as_aux_lemma => kernel_rfl) (by as_aux_lemma => kernel_rfl) (fun _ => by as_aux_lemma => kernel_rfl) (fun _ => by as_aux_lemma => kernel_rfl) (fun _ _ _ _ => trivial) ⟨⟨⟨trivial, ?_⟩, ?_⟩, ?_⟩
  · exact Obl.brings (o_run 0 [] [] (fun _ _ => []) (fun _ _ => by as_aux_lemma => kernel_rfl)) (fun _ _ => trivial)
  · exact o_new1 1 (fun _ => do pure (Next.value (← Instr.makeSlice 22 (.int .i64 ((m : Nat) : Int)) (.int .i64 ((m : Nat) : Int))))) (fun _ z => (.slice (some ⟨z.headD 0, 0, none⟩) (List.replicate m (0 : UInt8)).length m)) (fun _ _ => (.cells (zB m) 5 (0, 0))) (fun _ _ => (by as_aux_lemma => kernel_rfl)) (fun _ => (by as_aux_lemma => kernel_rfl)) (fun _ _ => trivial) (fun _ _ w _ => make_rowL Try.underlying22 u8i (List.replicate m (0 : UInt8)) ((rfl).trans (by rw [List.length_replicate])) (rfl) (by rw [List.length_replicate]; exact Nat.le_refl _) (by have := hm; omega) w)
  · exact Obl.brings (o_run 2 [] [] (fun _ _ => []) (fun _ _ => by as_aux_lemma => kernel_rfl)) (fun _ _ => trivial)
theorem little_any_r3 (n : Nat) (m : Nat) (ρ2 : Nat → Orc) (w0 : World) (F : World → Prop) : Reg Try.prog 2 (regOps Try.f50 2) false 24 [(0, (.int .u64 ((n : Nat) : Int))), (4, (.slice none 0 0)), (5, (.slice (some ⟨nb ρ2 1, 0, none⟩) (List.replicate m (0 : UInt8)).length m))] w0 [(nb ρ2 1, (.cells (zB m) 5 (0, 0)))] F
    (fun _ => [(0, (.int .u64 ((n : Nat) : Int))), (4, (.slice none 0 0)), (5, (.slice (some ⟨nb ρ2 1, 0, none⟩) (List.replicate m (0 : UInt8)).length m)), (10, (.int .i64 (((List.replicate m (0 : UInt8)).length : Nat) : Int))), (11, (.int .i64 0))])
    (fun _ => [(nb ρ2 1, (.cells (zB m) 5 (0, 0)))]) := by
  refine reg_seq [0, 1, 3] [0, 4, 5, 10, 11] 3
    (fun _ ι => ([(.slice (some ⟨nb ρ2 1, 0, none⟩) (List.replicate m (0 : UInt8)).length m), (.int .i64 (((List.replicate m (0 : UInt8)).length : Nat) : Int)), (.int .i64 0)] : List Value).getD ι undef)
    (fun _ ι => ([{}, {}, {}] : List Eff).getD ι {})
    (by as_aux_lemma => kernel_rfl) (by as_aux_lemma => kernel_rfl) (fun _ => by as_aux_lemma => kernel_rfl) (fun _ => by as_aux_lemma => kernel_rfl) ⟨⟨⟨trivial, ?_⟩, ?_⟩, ?_⟩
  · exact o_run 0 [] [] (fun _ _ => []) (fun _ _ => by as_aux_lemma => kernel_rfl)
  · exact o_run 1 [] [] (fun _ _ => []) (fun _ _ => by as_aux_lemma => kernel_rfl)
  · exact o_run 2 [] [] (fun _ _ => []) (fun _ _ => by as_aux_lemma => kernel_rfl)
theorem little_any_r4 (n : Nat) (m : Nat) (i : Nat) (ρ2 : Nat → Orc) (w0 : World) (F : World → Prop) : Reg Try.prog 3 (regOps Try.f50 3) false 24 [(0, (.int .u64 ((n : Nat) : Int))), (4, (.slice none 0 0)), (5, (.slice (some ⟨nb ρ2 1, 0, none⟩) (List.replicate m (0 : UInt8)).length m)), (10, (.int .i64 (((List.replicate m (0 : UInt8)).length : Nat) : Int))), (11, (.int .i64 ((i : Nat) : Int)))] w0 [(nb ρ2 1, (.cells (fillC n m i) 5 (0, 0)))] F
    (fun _ => [(0, (.int .u64 ((n : Nat) : Int))), (4, (.slice none 0 0)), (5, (.slice (some ⟨nb ρ2 1, 0, none⟩) (List.replicate m (0 : UInt8)).length m)), (10, (.int .i64 (((List.replicate m (0 : UInt8)).length : Nat) : Int))), (11, (.int .i64 ((i : Nat) : Int))), (12, (.bool (decide (((i : Nat) : Int) < (((List.replicate m (0 : UInt8)).length : Nat) : Int)))))])
    (fun _ => [(nb ρ2 1, (.cells (fillC n m i) 5 (0, 0)))]) := by
  refine reg_seq [0] [0, 4, 5, 10, 11, 12] 1
    (fun _ ι => ([(.bool (decide (((i : Nat) : Int) < (((List.replicate m (0 : UInt8)).length : Nat) : Int))))] : List Value).getD ι undef)
    (fun _ ι => ([{}] : List Eff).getD ι {})
    (by as_aux_lemma => kernel_rfl) (by as_aux_lemma => kernel_rfl) (fun _ => by as_aux_lemma => kernel_rfl) (fun _ => by as_aux_lemma => kernel_rfl) ⟨trivial, ?_⟩
  · exact o_run 0 [] [] (fun _ _ => []) (fun _ _ => by as_aux_lemma => kernel_rfl)
theorem little_any_r5 (n : Nat) (m : Nat) (i : Nat) (ρ2 : Nat → Orc) (w0 : World) (F : World → Prop) : Reg Try.prog 4 (regOps Try.f50 4) false 24 [(0, (.int .u64 ((n : Nat) : Int))), (4, (.slice none 0 0)), (5, (.slice (some ⟨nb ρ2 1, 0, none⟩) (List.replicate m (0 : UInt8)).length m)), (10, (.int .i64 (((List.replicate m (0 : UInt8)).length : Nat) : Int))), (11, (.int .i64 ((i : Nat) : Int))), (12, (.bool true))] w0 [(nb ρ2 1, (.cells (fillC n m i) 5 (0, 0)))] F
    (fun _ => [(0, (.int .u64 ((n : Nat) : Int))), (4, (.slice none 0 0)), (5, (.slice (some ⟨nb ρ2 1, 0, none⟩) (List.replicate m (0 : UInt8)).length m)), (6, (.int .i64 ((i : Nat) : Int))), (10, (.int .i64 (((List.replicate m (0 : UInt8)).length : Nat) : Int))), (11, (.int .i64 ((i : Nat) : Int)))])
    (fun _ => [(nb ρ2 1, (.cells (fillC n m i) 5 (0, 0)))]) := by
  refine reg_seq [0, 1] [0, 4, 5, 6, 10, 11] 2
    (fun _ ι => ([(.int .i64 ((i : Nat) : Int)), (.int .i64 ((i : Nat) : Int))] : List Value).getD ι undef)
    (fun _ ι => ([{}, {}] : List Eff).getD ι {})
    (by as_aux_lemma => kernel_rfl) (by as_aux_lemma => kernel_rfl) (fun _ => by as_aux_lemma => kernel_rfl) (fun _ => by as_aux_lemma => kernel_rfl) ⟨⟨trivial, ?_⟩, ?_⟩
  · exact o_run 0 [] [] (fun _ _ => []) (fun _ _ => by as_aux_lemma => kernel_rfl)
  · exact o_run 1 [] [] (fun _ _ => []) (fun _ _ => by as_aux_lemma => kernel_rfl)
theorem little_any_r6 (n : Nat) (m : Nat) (hn : n < 18446744073709551616) (hm : m ≤ 8) (i : Nat) (hi : i ≤ m) (hb1 : (decide (((i : Nat) : Int) < (((List.replicate m (0 : UInt8)).length : Nat) : Int))) = true) (ρ2 : Nat → Orc) (w0 : World) (F : World → Prop) : Reg Try.prog 5 (regOps Try.f50 5) false 24 [(0, (.int .u64 ((n : Nat) : Int))), (4, (.slice none 0 0)), (5, (.slice (some ⟨nb ρ2 1, 0, none⟩) (List.replicate m (0 : UInt8)).length m)), (6, (.int .i64 ((i : Nat) : Int))), (10, (.int .i64 (((List.replicate m (0 : UInt8)).length : Nat) : Int))), (11, (.int .i64 ((i : Nat) : Int)))] w0 [(nb ρ2 1, (.cells (fillC n m i) 5 (0, 0)))] F
    (fun _ => [(0, (.int .u64 ((n : Nat) : Int))), (4, (.slice none 0 0)), (5, (.slice (some ⟨nb ρ2 1, 0, none⟩) (List.replicate m (0 : UInt8)).length m)), (10, (.int .i64 (((List.replicate m (0 : UInt8)).length : Nat) : Int))), (11, (.int .i64 ((i : Nat) : Int)))])
    (fun _ => [(nb ρ2 1, (.cells (fillC n m (i + 1)) 5 (0, 0)))]) := by
  refine reg_seq [0, 1, 3, 7, 15, 31, 63, 127, 255] [0, 4, 5, 10, 11] 9
    (fun _ ι => ([(.slice (some ⟨nb ρ2 1, 0, none⟩) (List.replicate m (0 : UInt8)).length m), (.int .i64 ((i : Nat) : Int)), (.int .u64 ((n : Nat) : Int)), (.int .i64 ((i : Nat) : Int)), (.int .i64 ((8 * i : Nat) : Int)), (.int .u64 ((n / 2 ^ (8 * i) : Nat) : Int)), (.int .u8 ((n / 256 ^ i % 256 : Nat) : Int)), (.pointer (some ⟨nb ρ2 1, i, none⟩)), undef] : List Value).getD ι undef)
    (fun _ ι => ([{}, {}, {}, {}, {}, {}, {}, {}, { puts := [(0, (.cells (fillC n m (i + 1)) 5 (0, 0)))] }] : List Eff).getD ι {})
    (by as_aux_lemma => kernel_rfl) (by as_aux_lemma => kernel_rfl) (fun _ => by as_aux_lemma => kernel_rfl) (fun _ => by as_aux_lemma => kernel_rfl) ⟨⟨⟨⟨⟨⟨⟨⟨⟨trivial, ?_⟩, ?_⟩, ?_⟩, ?_⟩, ?_⟩, ?_⟩, ?_⟩, ?_⟩, ?_⟩
  · exact o_run 0 [] [] (fun _ _ => []) (fun _ _ => by as_aux_lemma => kernel_rfl)
  · exact o_run 1 [] [] (fun _ _ => []) (fun _ _ => by as_aux_lemma => kernel_rfl)
  · exact o_run 2 [] [] (fun _ _ => []) (fun _ _ => by as_aux_lemma => kernel_rfl)
  · exact o_run 3 [] [] (fun _ _ => []) (fun _ _ => by as_aux_lemma => kernel_rfl)
  · exact o_as 4 (fun _ => (.int .i64 (IntKind.i64.wrap (8 * ((i : Nat) : Int))))) (fun _ => (.int .i64 ((8 * i : Nat) : Int))) (fun _ _ => by as_aux_lemma => kernel_rfl) (fun _ => congrArg (Value.int .i64) (wrap_mulN 8 i (by have := of_decide_eq_true hb1; have := hm; have := List.length_replicate (n := m) (a := (0 : UInt8)); have := hi; omega)))
  · exact o_bin 5 .shr 23 (fun _ => (.int .u64 ((n : Nat) : Int))) (fun _ => (.int .i64 ((8 * i : Nat) : Int))) (fun _ => (.int .u64 ((n / 2 ^ (8 * i) : Nat) : Int))) (fun _ => by as_aux_lemma => kernel_rfl) (fun _ _ _ _ => by as_aux_lemma => kernel_rfl) (fun _ w => run_shrU (k := .u64) hn w)
  · exact o_as 6 (fun _ => (.int .u8 (IntKind.u8.wrap (((n / 2 ^ (8 * i) : Nat) : Int))))) (fun _ => (.int .u8 ((n / 256 ^ i % 256 : Nat) : Int))) (fun _ _ => by as_aux_lemma => kernel_rfl) (fun _ => congrArg (Value.int .u8) (low_byte n i))
  · exact o_sem 7 (fun _ => do pure (Next.value (← Instr.indexAt 22 (.slice (some ⟨nb ρ2 1, 0, none⟩) (List.replicate m (0 : UInt8)).length m) (.int .i64 ((i : Nat) : Int))))) (fun _ => (.pointer (some ⟨nb ρ2 1, i, none⟩))) (fun _ => (by as_aux_lemma => kernel_rfl)) (fun _ => (by as_aux_lemma => kernel_rfl)) (fun _ w => idx_row Try.underlying22 u8i ((show ((i : Nat) : Int) = ((i : Nat) : Int) ∧ i < (List.replicate m (0 : UInt8)).length from ⟨rfl, (by rw [List.length_replicate]; have := of_decide_eq_true hb1; have := hm; have := List.length_replicate (n := m) (a := (0 : UInt8)); have := hi; omega)⟩)).1 ((show ((i : Nat) : Int) = ((i : Nat) : Int) ∧ i < (List.replicate m (0 : UInt8)).length from ⟨rfl, (by rw [List.length_replicate]; have := of_decide_eq_true hb1; have := hm; have := List.length_replicate (n := m) (a := (0 : UInt8)); have := hi; omega)⟩)).2 w)
  · exact o_st 8 0 5 (fun _ => nb ρ2 1) (fun _ => i) (fun _ => (fillC n m i)) (fun _ => (fillC n m (i + 1))) 5 (fun _ => (.int .u8 ((n / 256 ^ i % 256 : Nat) : Int))) (fun _ => by as_aux_lemma => kernel_rfl) Try.sizeOf5 (fun _ => rfl) (fun _ => (by rw [fill_size hi]; have := of_decide_eq_true hb1; have := hm; have := List.length_replicate (n := m) (a := (0 : UInt8)); have := hi; omega)) (fun _ => (fill_set (by have := of_decide_eq_true hb1; have := hm; have := List.length_replicate (n := m) (a := (0 : UInt8)); have := hi; omega)))
theorem little_any_r7 (n : Nat) (m : Nat) (hm : m ≤ 8) (i : Nat) (hi : i ≤ m) (hb1 : (decide (((i : Nat) : Int) < (((List.replicate m (0 : UInt8)).length : Nat) : Int))) = true) (ρ2 : Nat → Orc) (w0 : World) (F : World → Prop) : Reg Try.prog 6 (regOps Try.f50 6) false 24 [(0, (.int .u64 ((n : Nat) : Int))), (4, (.slice none 0 0)), (5, (.slice (some ⟨nb ρ2 1, 0, none⟩) (List.replicate m (0 : UInt8)).length m)), (10, (.int .i64 (((List.replicate m (0 : UInt8)).length : Nat) : Int))), (11, (.int .i64 ((i : Nat) : Int)))] w0 [(nb ρ2 1, (.cells (fillC n m (i + 1)) 5 (0, 0)))] F
    (fun _ => [(0, (.int .u64 ((n : Nat) : Int))), (4, (.slice none 0 0)), (5, (.slice (some ⟨nb ρ2 1, 0, none⟩) (List.replicate m (0 : UInt8)).length m)), (10, (.int .i64 (((List.replicate m (0 : UInt8)).length : Nat) : Int))), (11, (.int .i64 ((i + 1 : Nat) : Int)))])
    (fun _ => [(nb ρ2 1, (.cells (fillC n m (i + 1)) 5 (0, 0)))]) := by
  refine reg_seq [0, 1] [0, 4, 5, 10, 11] 2
    (fun _ ι => ([(.int .i64 ((i + 1 : Nat) : Int)), (.int .i64 ((i + 1 : Nat) : Int))] : List Value).getD ι undef)
    (fun _ ι => ([{}, {}] : List Eff).getD ι {})
    (by as_aux_lemma => kernel_rfl) (by as_aux_lemma => kernel_rfl) (fun _ => by as_aux_lemma => kernel_rfl) (fun _ => by as_aux_lemma => kernel_rfl) ⟨⟨trivial, ?_⟩, ?_⟩
  · exact o_as 0 (fun _ => (.int .i64 (IntKind.i64.wrap (((i : Nat) : Int) + 1)))) (fun _ => (.int .i64 ((i + 1 : Nat) : Int))) (fun _ _ => by as_aux_lemma => kernel_rfl) (fun _ => congrArg (Value.int .i64) (wrap_addN i 1 (by have := of_decide_eq_true hb1; have := hm; have := List.length_replicate (n := m) (a := (0 : UInt8)); have := hi; omega)))
  · exact o_run 1 [] [] (fun _ _ => []) (fun _ _ => by as_aux_lemma => kernel_rfl)
theorem little_any_r8 (n : Nat) (m : Nat) (i : Nat) (ρ2 : Nat → Orc) (w0 : World) (F : World → Prop) : Reg Try.prog 7 (regOps Try.f50 7) false 24 [(0, (.int .u64 ((n : Nat) : Int))), (4, (.slice none 0 0)), (5, (.slice (some ⟨nb ρ2 1, 0, none⟩) (List.replicate m (0 : UInt8)).length m)), (10, (.int .i64 (((List.replicate m (0 : UInt8)).length : Nat) : Int))), (11, (.int .i64 ((i : Nat) : Int))), (12, (.bool false))] w0 [(nb ρ2 1, (.cells (fillC n m i) 5 (0, 0)))] F
    (fun _ => [(4, (.slice (some ⟨nb ρ2 1, 0, none⟩) (List.replicate m (0 : UInt8)).length m))])
    (fun _ => [(nb ρ2 1, (.cells (fillC n m i) 5 (0, 0)))]) := by
  refine reg_seq [0, 1] [4] 2
    (fun _ ι => ([(.slice (some ⟨nb ρ2 1, 0, none⟩) (List.replicate m (0 : UInt8)).length m), (.slice (some ⟨nb ρ2 1, 0, none⟩) (List.replicate m (0 : UInt8)).length m)] : List Value).getD ι undef)
    (fun _ ι => ([{}, {}] : List Eff).getD ι {})
    (by as_aux_lemma => kernel_rfl) (by as_aux_lemma => kernel_rfl) (fun _ => by as_aux_lemma => kernel_rfl) (fun _ => by as_aux_lemma => kernel_rfl) ⟨⟨trivial, ?_⟩, ?_⟩
  · exact o_run 0 [] [] (fun _ _ => []) (fun _ _ => by as_aux_lemma => kernel_rfl)
  · exact o_run 1 [] [] (fun _ _ => []) (fun _ _ => by as_aux_lemma => kernel_rfl)
theorem little_any (n : Nat) (m : Nat) (hn : n < 18446744073709551616) (hm : m ≤ 8) (w0 : World) : Calls Try.prog 50 #[(.int .u64 ((n : Nat) : Int)), (.int .i64 ((m : Nat) : Int))] w0 (fun ε w' => ∃ α κ, ε = .returned (.slice α (leB n m).length κ) ∧ Below w0.heap.size w0 w' ∧ Fs w0 w' α κ (leB n m)) := by
  refine Calls.of_ok (n := 24) (F := (fun _ => True)) Try.func50 rfl rfl rfl (by simp) persT ?_
  refine ok_seq_r (by as_aux_lemma => kernel_rfl) (little_any_r1 n m _ _) (fun _ => ?_)
  refine ok_seq_rf (by as_aux_lemma => kernel_rfl) (little_any_r2 n m hm _) (fun ρ2 => ?_)
  refine ok_seq ?_
  refine ok_seq_r (by as_aux_lemma => kernel_rfl) (little_any_r3 n m ρ2 _ _) (fun _ => ?_)
  refine ok_block ?_
  refine ok_loop (σ := Nat) (fun i => [(0, (.int .u64 ((n : Nat) : Int))), (4, (.slice none 0 0)), (5, (.slice (some ⟨nb ρ2 1, 0, none⟩) (List.replicate m (0 : UInt8)).length m)), (10, (.int .i64 (((List.replicate m (0 : UInt8)).length : Nat) : Int))), (11, (.int .i64 ((i : Nat) : Int)))]) (fun i => [(nb ρ2 1, (.cells (fillC n m i) 5 (0, 0)))]) (fun i => m - i)
    (fun i => (i ≤ m)) 0 (Nat.zero_le m) (by as_aux_lemma => kernel_rfl) (.cons_cons _ .slnil) ?_
  rintro i hi
  change Ok Try.prog _ _ 24 [(0, (.int .u64 ((n : Nat) : Int))), (4, (.slice none 0 0)), (5, (.slice (some ⟨nb ρ2 1, 0, none⟩) (List.replicate m (0 : UInt8)).length m)), (10, (.int .i64 (((List.replicate m (0 : UInt8)).length : Nat) : Int))), (11, (.int .i64 ((i : Nat) : Int)))] _ [(nb ρ2 1, (.cells (fillC n m i) 5 (0, 0)))] (fun _ => True)
  refine ok_seq_r (by as_aux_lemma => kernel_rfl) (little_any_r4 n m i ρ2 _ _) (fun _ => ?_)
  refine ok_seq ?_
  refine ok_cond (b := decide (((i : Nat) : Int) < (((List.replicate m (0 : UInt8)).length : Nat) : Int))) (by as_aux_lemma => kernel_rfl) (fun hb1 => ?_) (fun hb1 => ?_)
  ·
    rw [hb1]
    refine ok_skip ?_
    refine mt_then ?_
    refine ok_seq ?_
    refine ok_block ?_
    refine ok_seq_r (by as_aux_lemma => kernel_rfl) (little_any_r5 n m i ρ2 _ _) (fun _ => ?_)
    refine ok_r (by as_aux_lemma => kernel_rfl) (little_any_r6 n m hn hm i hi hb1 ρ2 _ _) (fun _ => ?_)
    refine mt_block_n ?_
    refine mt_then ?_
    refine ok_r (by as_aux_lemma => kernel_rfl) (little_any_r7 n m hm i hi hb1 ρ2 _ _) (fun _ => ?_)
    exact mt_round (i + 1) (by show m - (i + 1) < m - i; have := of_decide_eq_true hb1; have := hm; have := List.length_replicate (n := m) (a := (0 : UInt8)); have := hi; omega) (by show i + 1 ≤ m; have := of_decide_eq_true hb1; have := hm; have := List.length_replicate (n := m) (a := (0 : UInt8)); have := hi; omega) (by as_aux_lemma => kernel_rfl) (.cons_cons _ .slnil)
  ·
    rw [hb1]
    refine ok_exit ?_
    refine mt_then_e ?_
    refine mt_then_e ?_
    refine mt_block_h ?_
    refine mt_then ?_
    refine ok_seq_r (by as_aux_lemma => kernel_rfl) (little_any_r8 n m i ρ2 _ _) (fun _ => ?_)
    refine ok_ret ?_
    exact meets_ret (v := (.slice (some ⟨nb ρ2 1, 0, none⟩) (List.replicate m (0 : UInt8)).length m)) [] (dup []) (by as_aux_lemma => kernel_rfl) (by as_aux_lemma => kernel_rfl) (eqs_dup _) (fun _ hS => ⟨(some ⟨nb ρ2 1, 0, none⟩), m, congrArg Ending.returned (by rw [List.length_replicate, leB_length]), hS.below, fs_eq (fill_end (by have := of_decide_eq_false hb1; have := hm; have := List.length_replicate (n := m) (a := (0 : UInt8)); have := hi; omega)) (hS.fresh (.head _) (Hd.all _) (Nat.le_of_eq (fill_len hi)) (by rw [fill_len hi]; have := hm; omega))⟩)
theorem append16_any_r1 (a : Option Addr) (c : Nat) (B : List UInt8) (n : Nat) (w0 : World) (F : World → Prop) : Reg Try.prog 0 (regOps Try.f17 0) false 10 [(0, (.slice a (B).length c)), (1, (.int .u16 ((n : Nat) : Int)))] w0 [] F
    (fun _ => [(0, (.slice a (B).length c)), (1, (.int .u16 ((n : Nat) : Int))), (4, (.slice none 0 0))])
    (fun _ => []) := by
  refine reg_seq [0] [0, 1, 4] 1
    (fun _ ι => ([(.slice none 0 0)] : List Value).getD ι undef)
    (fun _ ι => ([{}] : List Eff).getD ι {})
    (by as_aux_lemma => kernel_rfl) (by as_aux_lemma => kernel_rfl) (fun _ => by as_aux_lemma => kernel_rfl) (fun _ => by as_aux_lemma => kernel_rfl) ⟨trivial, ?_⟩
  · exact o_run 0 [] [] (fun _ _ => []) (fun _ _ => by as_aux_lemma => kernel_rfl)
theorem append16_any_r2 (a : Option Addr) (c : Nat) (B : List UInt8) (n : Nat) (hn : n < 65536) (hl : B.length + 8 ≤ 140737488351232) (w0 : World) : RegF Try.prog 1 (regOps Try.f17 1) false 10 [(0, (.slice a (B).length c)), (1, (.int .u16 ((n : Nat) : Int))), (4, (.slice none 0 0))] w0 [] (fun w => Bs w a c B ∧ True)
    (fun ρ => [(4, (.slice (oa ρ 4) (B ++ (leB n 2)).length (nb ρ 4)))])
    (fun _ => []) (fun ρ => (fun w => Bs w a c B ∧ Fs w0 w (oa ρ 3) (nb ρ 3) (leB n 2) ∧ Fs w0 w (oa ρ 4) (nb ρ 4) (B ++ (leB n 2)) ∧ True)) := by
  refine reg_seq_f [0, 1, 3, 7, 15, 31] [4] 6
    (fun ρ ι => ([(.slice a (B).length c), (.int .u16 ((n : Nat) : Int)), (.int .u64 ((n : Nat) : Int)), (.slice (oa ρ 3) (leB n 2).length (nb ρ 3)), (.slice (oa ρ 4) (B ++ (leB n 2)).length (nb ρ 4)), (.slice (oa ρ 4) (B ++ (leB n 2)).length (nb ρ 4))] : List Value).getD ι undef)
    (fun _ ι => ([{}, {}, {}, {}, {}, {}] : List Eff).getD ι {})
    (fun ρ ι => ([(fun _ => True), (fun _ => True), (fun _ => True), (fun w => Fs w0 w (oa ρ 3) (nb ρ 3) (leB n 2)), (fun w => Fs w0 w (oa ρ 4) (nb ρ 4) (B ++ (leB n 2))), (fun _ => True)] : List (World → Prop)).getD ι (fun _ => True))
    (by as_aux_lemma => kernel_rfl) (by as_aux_lemma => kernel_rfl) (fun _ => by as_aux_lemma => kernel_rfl) (fun _ => by as_aux_lemma => kernel_rfl) (fun _ _ hF hf => ⟨hF.1, hf 3 (by omega), hf 4 (by omega), trivial⟩) ⟨⟨⟨⟨⟨⟨trivial, ?_⟩, ?_⟩, ?_⟩, ?_⟩, ?_⟩, ?_⟩
  · exact Obl.brings (o_run 0 [] [] (fun _ _ => []) (fun _ _ => by as_aux_lemma => kernel_rfl)) (fun _ _ => trivial)
  · exact Obl.brings (o_run 1 [] [] (fun _ _ => []) (fun _ _ => by as_aux_lemma => kernel_rfl)) (fun _ _ => trivial)
  · exact Obl.brings (o_as 2 (fun _ => (.int .u64 (IntKind.u64.wrap (((n : Nat) : Int))))) (fun _ => (.int .u64 ((n : Nat) : Int))) (fun _ _ => by as_aux_lemma => kernel_rfl) (fun _ => congrArg (Value.int .u64) (u64N (by have := hn; have := hl; omega)))) (fun _ _ => trivial)
  · exact o_callB 3 48 (fun _ => #[(.int .u64 ((n : Nat) : Int)), (.int .i64 2)]) (fun _ α κ => (.slice α (leB n 2).length κ)) (fun _ => leB n 2) (fun _ _ => (by as_aux_lemma => kernel_rfl)) (fun _ _ => (by as_aux_lemma => kernel_rfl)) (fun _ _ => (by as_aux_lemma => kernel_rfl)) (fun _ _ => (by as_aux_lemma => kernel_rfl)) (fun _ _ w _ => lowest_any n 2 (by have := hn; have := hl; omega) (by have := hn; have := hl; omega) w )
  · exact o_callB 4 47 (fun ρ => #[(.slice a (B).length c), (.slice (oa ρ 3) (leB n 2).length (nb ρ 3))]) (fun _ α κ => (.slice α (B ++ (leB n 2)).length κ)) (fun _ => B ++ (leB n 2)) (fun _ _ => (by as_aux_lemma => kernel_rfl)) (fun _ _ => (by as_aux_lemma => kernel_rfl)) (fun _ _ => (by as_aux_lemma => kernel_rfl)) (fun _ _ => (by as_aux_lemma => kernel_rfl)) (fun ρ _ w hG => extend_any a c B (oa ρ 3) (nb ρ 3) (leB n 2) (by simp only [List.length_append, List.length_cons, List.length_nil, leB_length, hL_length]; have := hn; have := hl; omega) w hG.facts0.now.1 ((show Fs w0 w (oa ρ 3) (nb ρ 3) (leB n 2) from (hG.facts 3 rfl).now).1))
  · exact Obl.brings (o_run 5 [] [] (fun _ _ => []) (fun _ _ => by as_aux_lemma => kernel_rfl)) (fun _ _ => trivial)
theorem append16_any (a : Option Addr) (c : Nat) (B : List UInt8) (n : Nat) (hn : n < 65536) (hl : B.length + 8 ≤ 140737488351232) (w0 : World) (hf0 : Bs w0 a c B) : Calls Try.prog 17 #[(.slice a (B).length c), (.int .u16 ((n : Nat) : Int))] w0 (fun ε w' => ∃ α κ, ε = .returned (.slice α (B ++ leB n 2).length κ) ∧ Below w0.heap.size w0 w' ∧ Fs w0 w' α κ (B ++ leB n 2)) := by
  refine Calls.of_ok (n := 10) (F := (fun w => Bs w a c B ∧ True)) Try.func17 rfl rfl rfl (by simp) (hf0.pers0.and persT) ?_
  refine ok_seq_r (by as_aux_lemma => kernel_rfl) (append16_any_r1 a c B n _ _) (fun _ => ?_)
  refine ok_seq_rf (by as_aux_lemma => kernel_rfl) (append16_any_r2 a c B n hn hl _) (fun ρ2 => ?_)
  refine ok_ret ?_
  exact meets_ret (v := (.slice (oa ρ2 4) (B ++ (leB n 2)).length (nb ρ2 4))) [] (dup []) (by as_aux_lemma => kernel_rfl) (by as_aux_lemma => kernel_rfl) (eqs_dup _) (fun _ hS => ⟨oa ρ2 4, nb ρ2 4, congrArg Ending.returned (rfl), hS.below, fs_eq (rfl) hS.facts.now.2.2.1⟩)
theorem append32_any_r1 (a : Option Addr) (c : Nat) (B : List UInt8) (n : Nat) (w0 : World) (F : World → Prop) : Reg Try.prog 0 (regOps Try.f19 0) false 10 [(0, (.slice a (B).length c)), (1, (.int .u32 ((n : Nat) : Int)))] w0 [] F
    (fun _ => [(0, (.slice a (B).length c)), (1, (.int .u32 ((n : Nat) : Int))), (4, (.slice none 0 0))])
    (fun _ => []) := by
  refine reg_seq [0] [0, 1, 4] 1
    (fun _ ι => ([(.slice none 0 0)] : List Value).getD ι undef)
    (fun _ ι => ([{}] : List Eff).getD ι {})
    (by as_aux_lemma => kernel_rfl) (by as_aux_lemma => kernel_rfl) (fun _ => by as_aux_lemma => kernel_rfl) (fun _ => by as_aux_lemma => kernel_rfl) ⟨trivial, ?_⟩
  · exact o_run 0 [] [] (fun _ _ => []) (fun _ _ => by as_aux_lemma => kernel_rfl)
theorem append32_any_r2 (a : Option Addr) (c : Nat) (B : List UInt8) (n : Nat) (hn : n < 4294967296) (hl : B.length + 8 ≤ 140737488351232) (w0 : World) : RegF Try.prog 1 (regOps Try.f19 1) false 10 [(0, (.slice a (B).length c)), (1, (.int .u32 ((n : Nat) : Int))), (4, (.slice none 0 0))] w0 [] (fun w => Bs w a c B ∧ True)
    (fun ρ => [(4, (.slice (oa ρ 4) (B ++ (leB n 4)).length (nb ρ 4)))])
    (fun _ => []) (fun ρ => (fun w => Bs w a c B ∧ Fs w0 w (oa ρ 3) (nb ρ 3) (leB n 4) ∧ Fs w0 w (oa ρ 4) (nb ρ 4) (B ++ (leB n 4)) ∧ True)) := by
  refine reg_seq_f [0, 1, 3, 7, 15, 31] [4] 6
    (fun ρ ι => ([(.slice a (B).length c), (.int .u32 ((n : Nat) : Int)), (.int .u64 ((n : Nat) : Int)), (.slice (oa ρ 3) (leB n 4).length (nb ρ 3)), (.slice (oa ρ 4) (B ++ (leB n 4)).length (nb ρ 4)), (.slice (oa ρ 4) (B ++ (leB n 4)).length (nb ρ 4))] : List Value).getD ι undef)
    (fun _ ι => ([{}, {}, {}, {}, {}, {}] : List Eff).getD ι {})
    (fun ρ ι => ([(fun _ => True), (fun _ => True), (fun _ => True), (fun w => Fs w0 w (oa ρ 3) (nb ρ 3) (leB n 4)), (fun w => Fs w0 w (oa ρ 4) (nb ρ 4) (B ++ (leB n 4))), (fun _ => True)] : List (World → Prop)).getD ι (fun _ => True))
    (by as_aux_lemma => kernel_rfl) (by as_aux_lemma => kernel_rfl) (fun _ => by as_aux_lemma => kernel_rfl) (fun _ => by as_aux_lemma => kernel_rfl) (fun _ _ hF hf => ⟨hF.1, hf 3 (by omega), hf 4 (by omega), trivial⟩) ⟨⟨⟨⟨⟨⟨trivial, ?_⟩, ?_⟩, ?_⟩, ?_⟩, ?_⟩, ?_⟩
  · exact Obl.brings (o_run 0 [] [] (fun _ _ => []) (fun _ _ => by as_aux_lemma => kernel_rfl)) (fun _ _ => trivial)
  · exact Obl.brings (o_run 1 [] [] (fun _ _ => []) (fun _ _ => by as_aux_lemma => kernel_rfl)) (fun _ _ => trivial)
  · exact Obl.brings (o_as 2 (fun _ => (.int .u64 (IntKind.u64.wrap (((n : Nat) : Int))))) (fun _ => (.int .u64 ((n : Nat) : Int))) (fun _ _ => by as_aux_lemma => kernel_rfl) (fun _ => congrArg (Value.int .u64) (u64N (by have := hn; have := hl; omega)))) (fun _ _ => trivial)
  · exact o_callB 3 48 (fun _ => #[(.int .u64 ((n : Nat) : Int)), (.int .i64 4)]) (fun _ α κ => (.slice α (leB n 4).length κ)) (fun _ => leB n 4) (fun _ _ => (by as_aux_lemma => kernel_rfl)) (fun _ _ => (by as_aux_lemma => kernel_rfl)) (fun _ _ => (by as_aux_lemma => kernel_rfl)) (fun _ _ => (by as_aux_lemma => kernel_rfl)) (fun _ _ w _ => lowest_any n 4 (by have := hn; have := hl; omega) (by have := hn; have := hl; omega) w )
  · exact o_callB 4 47 (fun ρ => #[(.slice a (B).length c), (.slice (oa ρ 3) (leB n 4).length (nb ρ 3))]) (fun _ α κ => (.slice α (B ++ (leB n 4)).length κ)) (fun _ => B ++ (leB n 4)) (fun _ _ => (by as_aux_lemma => kernel_rfl)) (fun _ _ => (by as_aux_lemma => kernel_rfl)) (fun _ _ => (by as_aux_lemma => kernel_rfl)) (fun _ _ => (by as_aux_lemma => kernel_rfl)) (fun ρ _ w hG => extend_any a c B (oa ρ 3) (nb ρ 3) (leB n 4) (by simp only [List.length_append, List.length_cons, List.length_nil, leB_length, hL_length]; have := hn; have := hl; omega) w hG.facts0.now.1 ((show Fs w0 w (oa ρ 3) (nb ρ 3) (leB n 4) from (hG.facts 3 rfl).now).1))
  · exact Obl.brings (o_run 5 [] [] (fun _ _ => []) (fun _ _ => by as_aux_lemma => kernel_rfl)) (fun _ _ => trivial)
theorem append32_any (a : Option Addr) (c : Nat) (B : List UInt8) (n : Nat) (hn : n < 4294967296) (hl : B.length + 8 ≤ 140737488351232) (w0 : World) (hf0 : Bs w0 a c B) : Calls Try.prog 19 #[(.slice a (B).length c), (.int .u32 ((n : Nat) : Int))] w0 (fun ε w' => ∃ α κ, ε = .returned (.slice α (B ++ leB n 4).length κ) ∧ Below w0.heap.size w0 w' ∧ Fs w0 w' α κ (B ++ leB n 4)) := by
  refine Calls.of_ok (n := 10) (F := (fun w => Bs w a c B ∧ True)) Try.func19 rfl rfl rfl (by simp) (hf0.pers0.and persT) ?_
  refine ok_seq_r (by as_aux_lemma => kernel_rfl) (append32_any_r1 a c B n _ _) (fun _ => ?_)
  refine ok_seq_rf (by as_aux_lemma => kernel_rfl) (append32_any_r2 a c B n hn hl _) (fun ρ2 => ?_)
  refine ok_ret ?_
  exact meets_ret (v := (.slice (oa ρ2 4) (B ++ (leB n 4)).length (nb ρ2 4))) [] (dup []) (by as_aux_lemma => kernel_rfl) (by as_aux_lemma => kernel_rfl) (eqs_dup _) (fun _ hS => ⟨oa ρ2 4, nb ρ2 4, congrArg Ending.returned (rfl), hS.below, fs_eq (rfl) hS.facts.now.2.2.1⟩)
theorem append64_any_r1 (a : Option Addr) (c : Nat) (B : List UInt8) (n : Nat) (w0 : World) (F : World → Prop) : Reg Try.prog 0 (regOps Try.f21 0) false 9 [(0, (.slice a (B).length c)), (1, (.int .u64 ((n : Nat) : Int)))] w0 [] F
    (fun _ => [(0, (.slice a (B).length c)), (1, (.int .u64 ((n : Nat) : Int))), (4, (.slice none 0 0))])
    (fun _ => []) := by
  refine reg_seq [0] [0, 1, 4] 1
    (fun _ ι => ([(.slice none 0 0)] : List Value).getD ι undef)
    (fun _ ι => ([{}] : List Eff).getD ι {})
    (by as_aux_lemma => kernel_rfl) (by as_aux_lemma => kernel_rfl) (fun _ => by as_aux_lemma => kernel_rfl) (fun _ => by as_aux_lemma => kernel_rfl) ⟨trivial, ?_⟩
  · exact o_run 0 [] [] (fun _ _ => []) (fun _ _ => by as_aux_lemma => kernel_rfl)
theorem append64_any_r2 (a : Option Addr) (c : Nat) (B : List UInt8) (n : Nat) (hn : n < 18446744073709551616) (hl : B.length + 8 ≤ 140737488351232) (w0 : World) : RegF Try.prog 1 (regOps Try.f21 1) false 9 [(0, (.slice a (B).length c)), (1, (.int .u64 ((n : Nat) : Int))), (4, (.slice none 0 0))] w0 [] (fun w => Bs w a c B ∧ True)
    (fun ρ => [(4, (.slice (oa ρ 3) (B ++ (leB n 8)).length (nb ρ 3)))])
    (fun _ => []) (fun ρ => (fun w => Bs w a c B ∧ Fs w0 w (oa ρ 2) (nb ρ 2) (leB n 8) ∧ Fs w0 w (oa ρ 3) (nb ρ 3) (B ++ (leB n 8)) ∧ True)) := by
  refine reg_seq_f [0, 1, 3, 7, 15] [4] 5
    (fun ρ ι => ([(.slice a (B).length c), (.int .u64 ((n : Nat) : Int)), (.slice (oa ρ 2) (leB n 8).length (nb ρ 2)), (.slice (oa ρ 3) (B ++ (leB n 8)).length (nb ρ 3)), (.slice (oa ρ 3) (B ++ (leB n 8)).length (nb ρ 3))] : List Value).getD ι undef)
    (fun _ ι => ([{}, {}, {}, {}, {}] : List Eff).getD ι {})
    (fun ρ ι => ([(fun _ => True), (fun _ => True), (fun w => Fs w0 w (oa ρ 2) (nb ρ 2) (leB n 8)), (fun w => Fs w0 w (oa ρ 3) (nb ρ 3) (B ++ (leB n 8))), (fun _ => True)] : List (World → Prop)).getD ι (fun _ => True))
    (by as_aux_lemma => kernel_rfl) (by as_aux_lemma => kernel_rfl) (fun _ => by as_aux_lemma => kernel_rfl) (fun _ => by as_aux_lemma => kernel_rfl) (fun _ _ hF hf => ⟨hF.1, hf 2 (by omega), hf 3 (by omega), trivial⟩) ⟨⟨⟨⟨⟨trivial, ?_⟩, ?_⟩, ?_⟩, ?_⟩, ?_⟩
  · exact Obl.brings (o_run 0 [] [] (fun _ _ => []) (fun _ _ => by as_aux_lemma => kernel_rfl)) (fun _ _ => trivial)
  · exact Obl.brings (o_run 1 [] [] (fun _ _ => []) (fun _ _ => by as_aux_lemma => kernel_rfl)) (fun _ _ => trivial)
  · exact o_callB 2 48 (fun _ => #[(.int .u64 ((n : Nat) : Int)), (.int .i64 8)]) (fun _ α κ => (.slice α (leB n 8).length κ)) (fun _ => leB n 8) (fun _ _ => (by as_aux_lemma => kernel_rfl)) (fun _ _ => (by as_aux_lemma => kernel_rfl)) (fun _ _ => (by as_aux_lemma => kernel_rfl)) (fun _ _ => (by as_aux_lemma => kernel_rfl)) (fun _ _ w _ => lowest_any n 8 (by have := hn; have := hl; omega) (by have := hn; have := hl; omega) w )
  · exact o_callB 3 47 (fun ρ => #[(.slice a (B).length c), (.slice (oa ρ 2) (leB n 8).length (nb ρ 2))]) (fun _ α κ => (.slice α (B ++ (leB n 8)).length κ)) (fun _ => B ++ (leB n 8)) (fun _ _ => (by as_aux_lemma => kernel_rfl)) (fun _ _ => (by as_aux_lemma => kernel_rfl)) (fun _ _ => (by as_aux_lemma => kernel_rfl)) (fun _ _ => (by as_aux_lemma => kernel_rfl)) (fun ρ _ w hG => extend_any a c B (oa ρ 2) (nb ρ 2) (leB n 8) (by simp only [List.length_append, List.length_cons, List.length_nil, leB_length, hL_length]; have := hn; have := hl; omega) w hG.facts0.now.1 ((show Fs w0 w (oa ρ 2) (nb ρ 2) (leB n 8) from (hG.facts 2 rfl).now).1))
  · exact Obl.brings (o_run 4 [] [] (fun _ _ => []) (fun _ _ => by as_aux_lemma => kernel_rfl)) (fun _ _ => trivial)
theorem append64_any (a : Option Addr) (c : Nat) (B : List UInt8) (n : Nat) (hn : n < 18446744073709551616) (hl : B.length + 8 ≤ 140737488351232) (w0 : World) (hf0 : Bs w0 a c B) : Calls Try.prog 21 #[(.slice a (B).length c), (.int .u64 ((n : Nat) : Int))] w0 (fun ε w' => ∃ α κ, ε = .returned (.slice α (B ++ leB n 8).length κ) ∧ Below w0.heap.size w0 w' ∧ Fs w0 w' α κ (B ++ leB n 8)) := by
  refine Calls.of_ok (n := 9) (F := (fun w => Bs w a c B ∧ True)) Try.func21 rfl rfl rfl (by simp) (hf0.pers0.and persT) ?_
  refine ok_seq_r (by as_aux_lemma => kernel_rfl) (append64_any_r1 a c B n _ _) (fun _ => ?_)
  refine ok_seq_rf (by as_aux_lemma => kernel_rfl) (append64_any_r2 a c B n hn hl _) (fun ρ2 => ?_)
  refine ok_ret ?_
  exact meets_ret (v := (.slice (oa ρ2 3) (B ++ (leB n 8)).length (nb ρ2 3))) [] (dup []) (by as_aux_lemma => kernel_rfl) (by as_aux_lemma => kernel_rfl) (eqs_dup _) (fun _ hS => ⟨oa ρ2 3, nb ρ2 3, congrArg Ending.returned (rfl), hS.below, fs_eq (rfl) hS.facts.now.2.2.1⟩)
theorem rappend16_any_r1 (a : Option Addr) (c : Nat) (B : List UInt8) (n : Nat) (w0 : World) (F : World → Prop) : Reg Try.prog 0 (regOps Try.f18 0) false 10 [(0, (.slice a (B).length c)), (1, (.int .u16 ((n : Nat) : Int)))] w0 [] F
    (fun _ => [(0, (.slice a (B).length c)), (1, (.int .u16 ((n : Nat) : Int))), (4, (.slice none 0 0))])
    (fun _ => []) := by
  refine reg_seq [0] [0, 1, 4] 1
    (fun _ ι => ([(.slice none 0 0)] : List Value).getD ι undef)
    (fun _ ι => ([{}] : List Eff).getD ι {})
    (by as_aux_lemma => kernel_rfl) (by as_aux_lemma => kernel_rfl) (fun _ => by as_aux_lemma => kernel_rfl) (fun _ => by as_aux_lemma => kernel_rfl) ⟨trivial, ?_⟩
  · exact o_run 0 [] [] (fun _ _ => []) (fun _ _ => by as_aux_lemma => kernel_rfl)
theorem rappend16_any_r2 (a : Option Addr) (c : Nat) (B : List UInt8) (n : Nat) (hn : n < 65536) (hl : B.length + 8 ≤ 140737488351232) (w0 : World) : RegF Try.prog 1 (regOps Try.f18 1) false 10 [(0, (.slice a (B).length c)), (1, (.int .u16 ((n : Nat) : Int))), (4, (.slice none 0 0))] w0 [] (fun w => Bs w a c B ∧ True)
    (fun ρ => [(4, (.slice (oa ρ 4) (B ++ (leB n 2)).length (nb ρ 4)))])
    (fun _ => []) (fun ρ => (fun w => Bs w a c B ∧ Fs w0 w (oa ρ 3) (nb ρ 3) (leB n 2) ∧ Fs w0 w (oa ρ 4) (nb ρ 4) (B ++ (leB n 2)) ∧ True)) := by
  refine reg_seq_f [0, 1, 3, 7, 15, 31] [4] 6
    (fun ρ ι => ([(.slice a (B).length c), (.int .u16 ((n : Nat) : Int)), (.int .u64 ((n : Nat) : Int)), (.slice (oa ρ 3) (leB n 2).length (nb ρ 3)), (.slice (oa ρ 4) (B ++ (leB n 2)).length (nb ρ 4)), (.slice (oa ρ 4) (B ++ (leB n 2)).length (nb ρ 4))] : List Value).getD ι undef)
    (fun _ ι => ([{}, {}, {}, {}, {}, {}] : List Eff).getD ι {})
    (fun ρ ι => ([(fun _ => True), (fun _ => True), (fun _ => True), (fun w => Fs w0 w (oa ρ 3) (nb ρ 3) (leB n 2)), (fun w => Fs w0 w (oa ρ 4) (nb ρ 4) (B ++ (leB n 2))), (fun _ => True)] : List (World → Prop)).getD ι (fun _ => True))
    (by as_aux_lemma => kernel_rfl) (by as_aux_lemma => kernel_rfl) (fun _ => by as_aux_lemma => kernel_rfl) (fun _ => by as_aux_lemma => kernel_rfl) (fun _ _ hF hf => ⟨hF.1, hf 3 (by omega), hf 4 (by omega), trivial⟩) ⟨⟨⟨⟨⟨⟨trivial, ?_⟩, ?_⟩, ?_⟩, ?_⟩, ?_⟩, ?_⟩
  · exact Obl.brings (o_run 0 [] [] (fun _ _ => []) (fun _ _ => by as_aux_lemma => kernel_rfl)) (fun _ _ => trivial)
  · exact Obl.brings (o_run 1 [] [] (fun _ _ => []) (fun _ _ => by as_aux_lemma => kernel_rfl)) (fun _ _ => trivial)
  · exact Obl.brings (o_as 2 (fun _ => (.int .u64 (IntKind.u64.wrap (((n : Nat) : Int))))) (fun _ => (.int .u64 ((n : Nat) : Int))) (fun _ _ => by as_aux_lemma => kernel_rfl) (fun _ => congrArg (Value.int .u64) (u64N (by have := hn; have := hl; omega)))) (fun _ _ => trivial)
  · exact o_callB 3 50 (fun _ => #[(.int .u64 ((n : Nat) : Int)), (.int .i64 2)]) (fun _ α κ => (.slice α (leB n 2).length κ)) (fun _ => leB n 2) (fun _ _ => (by as_aux_lemma => kernel_rfl)) (fun _ _ => (by as_aux_lemma => kernel_rfl)) (fun _ _ => (by as_aux_lemma => kernel_rfl)) (fun _ _ => (by as_aux_lemma => kernel_rfl)) (fun _ _ w _ => little_any n 2 (by have := hn; have := hl; omega) (by have := hn; have := hl; omega) w )
  · exact o_callB 4 49 (fun ρ => #[(.slice a (B).length c), (.slice (oa ρ 3) (leB n 2).length (nb ρ 3))]) (fun _ α κ => (.slice α (B ++ (leB n 2)).length κ)) (fun _ => B ++ (leB n 2)) (fun _ _ => (by as_aux_lemma => kernel_rfl)) (fun _ _ => (by as_aux_lemma => kernel_rfl)) (fun _ _ => (by as_aux_lemma => kernel_rfl)) (fun _ _ => (by as_aux_lemma => kernel_rfl)) (fun ρ _ w hG => joined_any a c B (oa ρ 3) (nb ρ 3) (leB n 2) (by simp only [List.length_append, List.length_cons, List.length_nil, leB_length, hL_length]; have := hn; have := hl; omega) w hG.facts0.now.1 ((show Fs w0 w (oa ρ 3) (nb ρ 3) (leB n 2) from (hG.facts 3 rfl).now).1))
  · exact Obl.brings (o_run 5 [] [] (fun _ _ => []) (fun _ _ => by as_aux_lemma => kernel_rfl)) (fun _ _ => trivial)
theorem rappend16_any (a : Option Addr) (c : Nat) (B : List UInt8) (n : Nat) (hn : n < 65536) (hl : B.length + 8 ≤ 140737488351232) (w0 : World) (hf0 : Bs w0 a c B) : Calls Try.prog 18 #[(.slice a (B).length c), (.int .u16 ((n : Nat) : Int))] w0 (fun ε w' => ∃ α κ, ε = .returned (.slice α (B ++ leB n 2).length κ) ∧ Below w0.heap.size w0 w' ∧ Fs w0 w' α κ (B ++ leB n 2)) := by
  refine Calls.of_ok (n := 10) (F := (fun w => Bs w a c B ∧ True)) Try.func18 rfl rfl rfl (by simp) (hf0.pers0.and persT) ?_
  refine ok_seq_r (by as_aux_lemma => kernel_rfl) (rappend16_any_r1 a c B n _ _) (fun _ => ?_)
  refine ok_seq_rf (by as_aux_lemma => kernel_rfl) (rappend16_any_r2 a c B n hn hl _) (fun ρ2 => ?_)
  refine ok_ret ?_
  exact meets_ret (v := (.slice (oa ρ2 4) (B ++ (leB n 2)).length (nb ρ2 4))) [] (dup []) (by as_aux_lemma => kernel_rfl) (by as_aux_lemma => kernel_rfl) (eqs_dup _) (fun _ hS => ⟨oa ρ2 4, nb ρ2 4, congrArg Ending.returned (rfl), hS.below, fs_eq (rfl) hS.facts.now.2.2.1⟩)
theorem rappend32_any_r1 (a : Option Addr) (c : Nat) (B : List UInt8) (n : Nat) (w0 : World) (F : World → Prop) : Reg Try.prog 0 (regOps Try.f20 0) false 10 [(0, (.slice a (B).length c)), (1, (.int .u32 ((n : Nat) : Int)))] w0 [] F
    (fun _ => [(0, (.slice a (B).length c)), (1, (.int .u32 ((n : Nat) : Int))), (4, (.slice none 0 0))])
    (fun _ => []) := by
  refine reg_seq [0] [0, 1, 4] 1
    (fun _ ι => ([(.slice none 0 0)] : List Value).getD ι undef)
    (fun _ ι => ([{}] : List Eff).getD ι {})
    (by as_aux_lemma => kernel_rfl) (by as_aux_lemma => kernel_rfl) (fun _ => by as_aux_lemma => kernel_rfl) (fun _ => by as_aux_lemma => kernel_rfl) ⟨trivial, ?_⟩
  · exact o_run 0 [] [] (fun _ _ => []) (fun _ _ => by as_aux_lemma => kernel_rfl)
theorem rappend32_any_r2 (a : Option Addr) (c : Nat) (B : List UInt8) (n : Nat) (hn : n < 4294967296) (hl : B.length + 8 ≤ 140737488351232) (w0 : World) : RegF Try.prog 1 (regOps Try.f20 1) false 10 [(0, (.slice a (B).length c)), (1, (.int .u32 ((n : Nat) : Int))), (4, (.slice none 0 0))] w0 [] (fun w => Bs w a c B ∧ True)
    (fun ρ => [(4, (.slice (oa ρ 4) (B ++ (leB n 4)).length (nb ρ 4)))])
    (fun _ => []) (fun ρ => (fun w => Bs w a c B ∧ Fs w0 w (oa ρ 3) (nb ρ 3) (leB n 4) ∧ Fs w0 w (oa ρ 4) (nb ρ 4) (B ++ (leB n 4)) ∧ True)) := by
  refine reg_seq_f [0, 1, 3, 7, 15, 31] [4] 6
    (fun ρ ι => ([(.slice a (B).length c), (.int .u32 ((n : Nat) : Int)), (.int .u64 ((n : Nat) : Int)), (.slice (oa ρ 3) (leB n 4).length (nb ρ 3)), (.slice (oa ρ 4) (B ++ (leB n 4)).length (nb ρ 4)), (.slice (oa ρ 4) (B ++ (leB n 4)).length (nb ρ 4))] : List Value).getD ι undef)
    (fun _ ι => ([{}, {}, {}, {}, {}, {}] : List Eff).getD ι {})
    (fun ρ ι => ([(fun _ => True), (fun _ => True), (fun _ => True), (fun w => Fs w0 w (oa ρ 3) (nb ρ 3) (leB n 4)), (fun w => Fs w0 w (oa ρ 4) (nb ρ 4) (B ++ (leB n 4))), (fun _ => True)] : List (World → Prop)).getD ι (fun _ => True))
    (by as_aux_lemma => kernel_rfl) (by as_aux_lemma => kernel_rfl) (fun _ => by as_aux_lemma => kernel_rfl) (fun _ => by as_aux_lemma => kernel_rfl) (fun _ _ hF hf => ⟨hF.1, hf 3 (by omega), hf 4 (by omega), trivial⟩) ⟨⟨⟨⟨⟨⟨trivial, ?_⟩, ?_⟩, ?_⟩, ?_⟩, ?_⟩, ?_⟩
  · exact Obl.brings (o_run 0 [] [] (fun _ _ => []) (fun _ _ => by as_aux_lemma => kernel_rfl)) (fun _ _ => trivial)
  · exact Obl.brings (o_run 1 [] [] (fun _ _ => []) (fun _ _ => by as_aux_lemma => kernel_rfl)) (fun _ _ => trivial)
  · exact Obl.brings (o_as 2 (fun _ => (.int .u64 (IntKind.u64.wrap (((n : Nat) : Int))))) (fun _ => (.int .u64 ((n : Nat) : Int))) (fun _ _ => by as_aux_lemma => kernel_rfl) (fun _ => congrArg (Value.int .u64) (u64N (by have := hn; have := hl; omega)))) (fun _ _ => trivial)
  · exact o_callB 3 50 (fun _ => #[(.int .u64 ((n : Nat) : Int)), (.int .i64 4)]) (fun _ α κ => (.slice α (leB n 4).length κ)) (fun _ => leB n 4) (fun _ _ => (by as_aux_lemma => kernel_rfl)) (fun _ _ => (by as_aux_lemma => kernel_rfl)) (fun _ _ => (by as_aux_lemma => kernel_rfl)) (fun _ _ => (by as_aux_lemma => kernel_rfl)) (fun _ _ w _ => little_any n 4 (by have := hn; have := hl; omega) (by have := hn; have := hl; omega) w )
  · exact o_callB 4 49 (fun ρ => #[(.slice a (B).length c), (.slice (oa ρ 3) (leB n 4).length (nb ρ 3))]) (fun _ α κ => (.slice α (B ++ (leB n 4)).length κ)) (fun _ => B ++ (leB n 4)) (fun _ _ => (by as_aux_lemma => kernel_rfl)) (fun _ _ => (by as_aux_lemma => kernel_rfl)) (fun _ _ => (by as_aux_lemma => kernel_rfl)) (fun _ _ => (by as_aux_lemma => kernel_rfl)) (fun ρ _ w hG => joined_any a c B (oa ρ 3) (nb ρ 3) (leB n 4) (by simp only [List.length_append, List.length_cons, List.length_nil, leB_length, hL_length]; have := hn; have := hl; omega) w hG.facts0.now.1 ((show Fs w0 w (oa ρ 3) (nb ρ 3) (leB n 4) from (hG.facts 3 rfl).now).1))
  · exact Obl.brings (o_run 5 [] [] (fun _ _ => []) (fun _ _ => by as_aux_lemma => kernel_rfl)) (fun _ _ => trivial)
theorem rappend32_any (a : Option Addr) (c : Nat) (B : List UInt8) (n : Nat) (hn : n < 4294967296) (hl : B.length + 8 ≤ 140737488351232) (w0 : World) (hf0 : Bs w0 a c B) : Calls Try.prog 20 #[(.slice a (B).length c), (.int .u32 ((n : Nat) : Int))] w0 (fun ε w' => ∃ α κ, ε = .returned (.slice α (B ++ leB n 4).length κ) ∧ Below w0.heap.size w0 w' ∧ Fs w0 w' α κ (B ++ leB n 4)) := by
  refine Calls.of_ok (n := 10) (F := (fun w => Bs w a c B ∧ True)) Try.func20 rfl rfl rfl (by simp) (hf0.pers0.and persT) ?_
  refine ok_seq_r (by as_aux_lemma => kernel_rfl) (rappend32_any_r1 a c B n _ _) (fun _ => ?_)
  refine ok_seq_rf (by as_aux_lemma => kernel_rfl) (rappend32_any_r2 a c B n hn hl _) (fun ρ2 => ?_)
  refine ok_ret ?_
  exact meets_ret (v := (.slice (oa ρ2 4) (B ++ (leB n 4)).length (nb ρ2 4))) [] (dup []) (by as_aux_lemma => kernel_rfl) (by as_aux_lemma => kernel_rfl) (eqs_dup _) (fun _ hS => ⟨oa ρ2 4, nb ρ2 4, congrArg Ending.returned (rfl), hS.below, fs_eq (rfl) hS.facts.now.2.2.1⟩)
theorem rappend64_any_r1 (a : Option Addr) (c : Nat) (B : List UInt8) (n : Nat) (w0 : World) (F : World → Prop) : Reg Try.prog 0 (regOps Try.f22 0) false 9 [(0, (.slice a (B).length c)), (1, (.int .u64 ((n : Nat) : Int)))] w0 [] F
    (fun _ => [(0, (.slice a (B).length c)), (1, (.int .u64 ((n : Nat) : Int))), (4, (.slice none 0 0))])
    (fun _ => []) := by
  refine reg_seq [0] [0, 1, 4] 1
    (fun _ ι => ([(.slice none 0 0)] : List Value).getD ι undef)
    (fun _ ι => ([{}] : List Eff).getD ι {})
    (by as_aux_lemma => kernel_rfl) (by as_aux_lemma => kernel_rfl) (fun _ => by as_aux_lemma => kernel_rfl) (fun _ => by as_aux_lemma => kernel_rfl) ⟨trivial, ?_⟩
  · exact o_run 0 [] [] (fun _ _ => []) (fun _ _ => by as_aux_lemma => kernel_rfl)
theorem rappend64_any_r2 (a : Option Addr) (c : Nat) (B : List UInt8) (n : Nat) (hn : n < 18446744073709551616) (hl : B.length + 8 ≤ 140737488351232) (w0 : World) : RegF Try.prog 1 (regOps Try.f22 1) false 9 [(0, (.slice a (B).length c)), (1, (.int .u64 ((n : Nat) : Int))), (4, (.slice none 0 0))] w0 [] (fun w => Bs w a c B ∧ True)
    (fun ρ => [(4, (.slice (oa ρ 3) (B ++ (leB n 8)).length (nb ρ 3)))])
    (fun _ => []) (fun ρ => (fun w => Bs w a c B ∧ Fs w0 w (oa ρ 2) (nb ρ 2) (leB n 8) ∧ Fs w0 w (oa ρ 3) (nb ρ 3) (B ++ (leB n 8)) ∧ True)) := by
  refine reg_seq_f [0, 1, 3, 7, 15] [4] 5
    (fun ρ ι => ([(.slice a (B).length c), (.int .u64 ((n : Nat) : Int)), (.slice (oa ρ 2) (leB n 8).length (nb ρ 2)), (.slice (oa ρ 3) (B ++ (leB n 8)).length (nb ρ 3)), (.slice (oa ρ 3) (B ++ (leB n 8)).length (nb ρ 3))] : List Value).getD ι undef)
    (fun _ ι => ([{}, {}, {}, {}, {}] : List Eff).getD ι {})
    (fun ρ ι => ([(fun _ => True), (fun _ => True), (fun w => Fs w0 w (oa ρ 2) (nb ρ 2) (leB n 8)), (fun w => Fs w0 w (oa ρ 3) (nb ρ 3) (B ++ (leB n 8))), (fun _ => True)] : List (World → Prop)).getD ι (fun _ => True))
    (by as_aux_lemma => kernel_rfl) (by as_aux_lemma => kernel_rfl) (fun _ => by as_aux_lemma => kernel_rfl) (fun _ => by as_aux_lemma => kernel_rfl) (fun _ _ hF hf => ⟨hF.1, hf 2 (by omega), hf 3 (by omega), trivial⟩) ⟨⟨⟨⟨⟨trivial, ?_⟩, ?_⟩, ?_⟩, ?_⟩, ?_⟩
  · exact Obl.brings (o_run 0 [] [] (fun _ _ => []) (fun _ _ => by as_aux_lemma => kernel_rfl)) (fun _ _ => trivial)
  · exact Obl.brings (o_run 1 [] [] (fun _ _ => []) (fun _ _ => by as_aux_lemma => kernel_rfl)) (fun _ _ => trivial)
  · exact o_callB 2 50 (fun _ => #[(.int .u64 ((n : Nat) : Int)), (.int .i64 8)]) (fun _ α κ => (.slice α (leB n 8).length κ)) (fun _ => leB n 8) (fun _ _ => (by as_aux_lemma => kernel_rfl)) (fun _ _ => (by as_aux_lemma => kernel_rfl)) (fun _ _ => (by as_aux_lemma => kernel_rfl)) (fun _ _ => (by as_aux_lemma => kernel_rfl)) (fun _ _ w _ => little_any n 8 (by have := hn; have := hl; omega) (by have := hn; have := hl; omega) w )
  · exact o_callB 3 49 (fun ρ => #[(.slice a (B).length c), (.slice (oa ρ 2) (leB n 8).length (nb ρ 2))]) (fun _ α κ => (.slice α (B ++ (leB n 8)).length κ)) (fun _ => B ++ (leB n 8)) (fun _ _ => (by as_aux_lemma => kernel_rfl)) (fun _ _ => (by as_aux_lemma => kernel_rfl)) (fun _ _ => (by as_aux_lemma => kernel_rfl)) (fun _ _ => (by as_aux_lemma => kernel_rfl)) (fun ρ _ w hG => joined_any a c B (oa ρ 2) (nb ρ 2) (leB n 8) (by simp only [List.length_append, List.length_cons, List.length_nil, leB_length, hL_length]; have := hn; have := hl; omega) w hG.facts0.now.1 ((show Fs w0 w (oa ρ 2) (nb ρ 2) (leB n 8) from (hG.facts 2 rfl).now).1))
  · exact Obl.brings (o_run 4 [] [] (fun _ _ => []) (fun _ _ => by as_aux_lemma => kernel_rfl)) (fun _ _ => trivial)
theorem rappend64_any (a : Option Addr) (c : Nat) (B : List UInt8) (n : Nat) (hn : n < 18446744073709551616) (hl : B.length + 8 ≤ 140737488351232) (w0 : World) (hf0 : Bs w0 a c B) : Calls Try.prog 22 #[(.slice a (B).length c), (.int .u64 ((n : Nat) : Int))] w0 (fun ε w' => ∃ α κ, ε = .returned (.slice α (B ++ leB n 8).length κ) ∧ Below w0.heap.size w0 w' ∧ Fs w0 w' α κ (B ++ leB n 8)) := by
  refine Calls.of_ok (n := 9) (F := (fun w => Bs w a c B ∧ True)) Try.func22 rfl rfl rfl (by simp) (hf0.pers0.and persT) ?_
  refine ok_seq_r (by as_aux_lemma => kernel_rfl) (rappend64_any_r1 a c B n _ _) (fun _ => ?_)
  refine ok_seq_rf (by as_aux_lemma => kernel_rfl) (rappend64_any_r2 a c B n hn hl _) (fun ρ2 => ?_)
  refine ok_ret ?_
  exact meets_ret (v := (.slice (oa ρ2 3) (B ++ (leB n 8)).length (nb ρ2 3))) [] (dup []) (by as_aux_lemma => kernel_rfl) (by as_aux_lemma => kernel_rfl) (eqs_dup _) (fun _ hS => ⟨oa ρ2 3, nb ρ2 3, congrArg Ending.returned (rfl), hS.below, fs_eq (rfl) hS.facts.now.2.2.1⟩)
end Go.Proofs.Ytclccfibfkcagaa
