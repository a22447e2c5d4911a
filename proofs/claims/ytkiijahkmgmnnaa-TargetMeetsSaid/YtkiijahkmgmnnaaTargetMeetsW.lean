/-
  The law TargetMeets: the walk.
-/
import Derived.Test.YtkiijahkmgmnnaaTSane
import Derived.Test.YtkiijahkmgmnnaaOpen
namespace Go.Proofs.Ytkiijahkmgmnnaa
open Go Go.RowKit
set_option maxRecDepth 100000
theorem targetMeets_w_r1 (h : Nat) (b : Nat) (x : Nat) (y : Nat) (w0 : World) : Reg Try.prog 0 (regOps Try.f11 0) false 28 [(0, (.agg (hB h))), (1, (.int .u32 ((b : Nat) : Int))), (2, (U x)), (3, (U y))] w0 [] (fun _ => True)
    (fun ρ => [(1, (.int .u32 ((b : Nat) : Int))), (4, (.pointer (some ⟨nb ρ 0, 0, none⟩))), (6, (.pointer (some ⟨nb ρ 1, 0, none⟩))), (7, (.pointer (some ⟨nb ρ 2, 0, none⟩))), (8, (.bool false))])
    (fun ρ => [(nb ρ 0, (.cells (hB h) 44 (0, 0))), (nb ρ 1, (.cells (cU x) 24 (0, 0))), (nb ρ 2, (.cells (cU y) 24 (0, 0)))]) := by
  refine reg_seq [0, 1, 3, 7] [1, 4, 6, 7, 8] 4
    (fun ρ ι => ([(.pointer (some ⟨nb ρ 0, 0, none⟩)), (.pointer (some ⟨nb ρ 1, 0, none⟩)), (.pointer (some ⟨nb ρ 2, 0, none⟩)), (.bool false)] : List Value).getD ι undef)
    (fun ρ ι => ([{ news := [(nb ρ 0, (.cells (hB h) 44 (0, 0)))] }, { news := [(nb ρ 1, (.cells (cU x) 24 (0, 0)))] }, { news := [(nb ρ 2, (.cells (cU y) 24 (0, 0)))] }, {}] : List Eff).getD ι {})
    (by as_aux_lemma => kernel_rfl) (by as_aux_lemma => kernel_rfl) (fun _ => by as_aux_lemma => kernel_rfl) (fun _ => by as_aux_lemma => kernel_rfl) ⟨⟨⟨⟨trivial, ?_⟩, ?_⟩, ?_⟩, ?_⟩
  · exact o_run 0 [] [] (fun _ _ => []) (fun _ _ => by as_aux_lemma => kernel_rfl)
  · exact o_run 1 [] [] (fun _ _ => []) (fun _ _ => by as_aux_lemma => kernel_rfl)
  · exact o_run 2 [] [] (fun _ _ => []) (fun _ _ => by as_aux_lemma => kernel_rfl)
  · exact o_run 3 [] [] (fun _ _ => []) (fun _ _ => by as_aux_lemma => kernel_rfl)
theorem targetMeets_w_r2 (h : Nat) (b : Nat) (x : Nat) (y : Nat) (hh : h < M) (hb : b < 4294967296) (hx : x < M) (hy : y < M) (ρ1 : Nat → Orc) (w0 : World) : Reg Try.prog 1 (regOps Try.f11 1) true 28 [(1, (.int .u32 ((b : Nat) : Int))), (4, (.pointer (some ⟨nb ρ1 0, 0, none⟩))), (6, (.pointer (some ⟨nb ρ1 1, 0, none⟩))), (7, (.pointer (some ⟨nb ρ1 2, 0, none⟩))), (8, (.bool false))] w0 [(nb ρ1 0, (.cells (hB h) 44 (0, 0))), (nb ρ1 1, (.cells (cU x) 24 (0, 0))), (nb ρ1 2, (.cells (cU y) 24 (0, 0)))] (fun _ => True)
    (fun _ => [(8, (.bool true))])
    (fun _ => [(nb ρ1 0, (.cells (hB h) 44 (0, 0))), (nb ρ1 1, (.cells (cU x) 24 (0, 0))), (nb ρ1 2, (.cells (cU y) 24 (0, 0)))]) := by
  refine reg_drawn [0, 1, 3, 3, 15, 3, 3, 127, 255, 511, 1023, 2047, 2047, 8191, 2047, 2047, 65535, 131071, 262143, 524287] [8] 20
    (fun _ ι => ([(.bool true), (.bool true), (.agg (hB h)), (.int .u32 ((b : Nat) : Int)), (.bool (meetB h b)), (.agg (hB h)), (.int .u32 ((b : Nat) : Int)), (.bool (meetB h b)), (.bool true), (.bool true), (.bool true), (U x), (U y), (U (totN x y)), (U x), (U y), (U (totN x y)), (.bool true), (.bool true), (.bool true)] : List Value).getD ι undef)
    (fun _ ι => ([{}, {}, {}, {}, {}, {}, {}, {}, {}, {}, {}, {}, {}, {}, {}, {}, {}, {}, {}, {}] : List Eff).getD ι {})
    (by as_aux_lemma => kernel_rfl) (by as_aux_lemma => kernel_rfl) (by as_aux_lemma => kernel_rfl) (fun _ => by as_aux_lemma => kernel_rfl) (fun _ => by as_aux_lemma => kernel_rfl) ⟨⟨⟨⟨⟨⟨⟨⟨⟨⟨⟨⟨⟨⟨⟨⟨⟨⟨⟨⟨trivial, ?_⟩, ?_⟩, ?_⟩, ?_⟩, ?_⟩, ?_⟩, ?_⟩, ?_⟩, ?_⟩, ?_⟩, ?_⟩, ?_⟩, ?_⟩, ?_⟩, ?_⟩, ?_⟩, ?_⟩, ?_⟩, ?_⟩, ?_⟩
  · exact o_call 0 34 (fun _ => #[]) (fun _ => (.bool true)) (fun _ _ => by as_aux_lemma => kernel_rfl) (fun _ w => (fun w => tsane_any w) w)
  · exact o_run 1 [] [] (fun _ _ => []) (fun _ _ => by as_aux_lemma => kernel_rfl)
  · exact o_run 2 [0] [] (fun _ _ => [nb ρ1 0, nb ρ1 0, nb ρ1 0, nb ρ1 0, nb ρ1 0, nb ρ1 0, nb ρ1 0, nb ρ1 0, nb ρ1 0, nb ρ1 0, nb ρ1 0, nb ρ1 0, nb ρ1 0, nb ρ1 0, nb ρ1 0, nb ρ1 0, nb ρ1 0, nb ρ1 0, nb ρ1 0, nb ρ1 0, nb ρ1 0, nb ρ1 0, nb ρ1 0, nb ρ1 0, nb ρ1 0, nb ρ1 0, nb ρ1 0, nb ρ1 0, nb ρ1 0, nb ρ1 0, nb ρ1 0, nb ρ1 0]) (fun _ _ => by as_aux_lemma => kernel_rfl)
  · exact o_run 3 [] [] (fun _ _ => []) (fun _ _ => by as_aux_lemma => kernel_rfl)
  · exact o_call 4 42 (fun _ => #[(.agg (hB h)), (.int .u32 ((b : Nat) : Int))]) (fun _ => (.bool (meetB h b))) (fun _ _ => by as_aux_lemma => kernel_rfl) (fun _ w => (fun w => meets_any h b w hh hb) w)
  · exact o_run 5 [0] [] (fun _ _ => [nb ρ1 0, nb ρ1 0, nb ρ1 0, nb ρ1 0, nb ρ1 0, nb ρ1 0, nb ρ1 0, nb ρ1 0, nb ρ1 0, nb ρ1 0, nb ρ1 0, nb ρ1 0, nb ρ1 0, nb ρ1 0, nb ρ1 0, nb ρ1 0, nb ρ1 0, nb ρ1 0, nb ρ1 0, nb ρ1 0, nb ρ1 0, nb ρ1 0, nb ρ1 0, nb ρ1 0, nb ρ1 0, nb ρ1 0, nb ρ1 0, nb ρ1 0, nb ρ1 0, nb ρ1 0, nb ρ1 0, nb ρ1 0]) (fun _ _ => by as_aux_lemma => kernel_rfl)
  · exact o_run 6 [] [] (fun _ _ => []) (fun _ _ => by as_aux_lemma => kernel_rfl)
  · exact o_call 7 46 (fun _ => #[(.agg (hB h)), (.int .u32 ((b : Nat) : Int))]) (fun _ => (.bool (meetB h b))) (fun _ _ => by as_aux_lemma => kernel_rfl) (fun _ w => (fun w => rmeets_any h b w hh hb) w)
  · exact o_as 8 (fun _ => (.bool ((meetB h b) == (meetB h b)))) (fun _ => (.bool true)) (fun _ _ => by as_aux_lemma => kernel_rfl) (fun _ => congrArg Value.bool (beq_self_eq_true _))
  · exact o_run 9 [] [] (fun _ _ => []) (fun _ _ => by as_aux_lemma => kernel_rfl)
  · exact o_run 10 [] [] (fun _ _ => []) (fun _ _ => by as_aux_lemma => kernel_rfl)
  · exact o_run 11 [1] [] (fun _ _ => [nb ρ1 1, nb ρ1 1, nb ρ1 1, nb ρ1 1]) (fun _ _ => by as_aux_lemma => kernel_rfl)
  · exact o_run 12 [2] [] (fun _ _ => [nb ρ1 2, nb ρ1 2, nb ρ1 2, nb ρ1 2]) (fun _ _ => by as_aux_lemma => kernel_rfl)
  · exact o_call 13 47 (fun _ => #[(U x), (U y)]) (fun _ => (U (totN x y))) (fun _ _ => by as_aux_lemma => kernel_rfl) (fun _ w => (fun w => total_any x y w hx hy) w)
  · exact o_run 14 [1] [] (fun _ _ => [nb ρ1 1, nb ρ1 1, nb ρ1 1, nb ρ1 1]) (fun _ _ => by as_aux_lemma => kernel_rfl)
  · exact o_run 15 [2] [] (fun _ _ => [nb ρ1 2, nb ρ1 2, nb ρ1 2, nb ρ1 2]) (fun _ _ => by as_aux_lemma => kernel_rfl)
  · exact o_call 16 48 (fun _ => #[(U x), (U y)]) (fun _ => (U (totN x y))) (fun _ _ => by as_aux_lemma => kernel_rfl) (fun _ w => (fun w => rtotal_any x y w hx hy) w)
  · exact o_bin 17 .eql 24 (fun _ => (U (totN x y))) (fun _ => (U (totN x y))) (fun _ => (.bool true)) (fun _ => by as_aux_lemma => kernel_rfl) (fun _ _ _ _ => by as_aux_lemma => kernel_rfl) (fun _ _ => eqlU_same (totN x y) (totN_lt x y) _)
  · exact o_run 18 [] [] (fun _ _ => []) (fun _ _ => by as_aux_lemma => kernel_rfl)
  · exact o_run 19 [] [] (fun _ _ => []) (fun _ _ => by as_aux_lemma => kernel_rfl)
theorem targetMeets_w (h : Nat) (b : Nat) (x : Nat) (y : Nat) (hh : h < M) (hb : b < 4294967296) (hx : x < M) (hy : y < M) (w0 : World) : Calls Try.prog 11 #[(.agg (hB h)), (.int .u32 ((b : Nat) : Int)), (U x), (U y)] w0 (fun ε w' => ε = .returned (.bool true) ∧ Below w0.heap.size w0 w') := by
  refine Calls.of_ok (n := 28) (F := fun _ => True) Try.func11 rfl rfl rfl (by simp) (persTrue (fun _ => trivial)) ?_
  refine ok_seq_r (by as_aux_lemma => kernel_rfl) (targetMeets_w_r1 h b x y _) (fun ρ1 => ?_)
  refine ok_seq_r (by as_aux_lemma => kernel_rfl) (targetMeets_w_r2 h b x y hh hb hx hy ρ1 _) (fun _ => ?_)
  refine ok_ret ?_
  exact meets_ret (v := (.bool true)) [] (dup []) (by as_aux_lemma => kernel_rfl) (by as_aux_lemma => kernel_rfl) (eqs_dup _) (fun _ hS => ⟨rfl, hS.below⟩)
theorem targetMeets_walk (h : Nat) (b : Int) (x : Nat) (y : Nat) (w0 : World) (hh : h < M) (hb : (Lit.int .u32 b).wf = true) (hx : x < M) (hy : y < M) : Calls Try.prog 11 #[(.agg (hB h)), (.int .u32 b), (U x), (U y)] w0 (fun ε w' => ε = .returned (.bool true) ∧ Below w0.heap.size w0 w') := by
  obtain ⟨Nb, rfl, HNb⟩ := nat_of_u32 hb
  exact targetMeets_w h Nb x y hh HNb hx hy w0
end Go.Proofs.Ytkiijahkmgmnnaa
