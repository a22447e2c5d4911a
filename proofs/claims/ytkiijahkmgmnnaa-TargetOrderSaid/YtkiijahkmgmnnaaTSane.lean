/-
  The sanity check of the targets: the walk.
-/
import Derived.Test.YtkiijahkmgmnnaaTTarget
import Derived.Test.YtkiijahkmgmnnaaTargetLaws
namespace Go.Proofs.Ytkiijahkmgmnnaa
open Go Go.RowKit
set_option maxRecDepth 100000
theorem tsane_w_r1  (w0 : World) : Reg Try.prog 0 (regOps Try.f34 0) false 35 [] w0 [] (fun _ => True)
    (fun _ => [(0, (.bool false))])
    (fun _ => []) := by
  refine reg_seq [0] [0] 1
    (fun _ ι => ([(.bool false)] : List Value).getD ι undef)
    (fun _ ι => ([{}] : List Eff).getD ι {})
    (by as_aux_lemma => kernel_rfl) (by as_aux_lemma => kernel_rfl) (fun _ => by as_aux_lemma => kernel_rfl) (fun _ => by as_aux_lemma => kernel_rfl) ⟨trivial, ?_⟩
  · exact o_run 0 [] [] (fun _ _ => []) (fun _ _ => by as_aux_lemma => kernel_rfl)
theorem tsane_w_r2  (w0 : World) : Reg Try.prog 1 (regOps Try.f34 1) false 35 [(0, (.bool false))] w0 [] (fun _ => True)
    (fun ρ => [(0, (.bool false)), (1, (.pointer (some ⟨nb ρ 4, 0, none⟩))), (2, (.int .i64 (expE 17970262)))])
    (fun ρ => [(nb ρ 4, (.cells (cU (expV 17970262)) 24 (0, 0)))]) := by
  refine reg_seq [0, 1, 3, 7, 15, 31, 63] [0, 1, 2] 7
    (fun ρ ι => ([(.tuple #[(U (expV 17970262)), (.int .i64 (expE 17970262))]), (.tuple #[(U (expV 17970262)), (.int .i64 (expE 17970262))]), (U (expV 17970262)), (.int .i64 (expE 17970262)), (.pointer (some ⟨nb ρ 4, 0, none⟩)), undef, (.int .i64 (expE 17970262))] : List Value).getD ι undef)
    (fun ρ ι => ([{}, {}, {}, {}, { news := [(nb ρ 4, (.cells (cU 0) 24 (0, 0)))] }, { puts := [(32, (.cells (cU (expV 17970262)) 24 (0, 0)))] }, {}] : List Eff).getD ι {})
    (by as_aux_lemma => kernel_rfl) (by as_aux_lemma => kernel_rfl) (fun _ => by as_aux_lemma => kernel_rfl) (fun _ => by as_aux_lemma => kernel_rfl) ⟨⟨⟨⟨⟨⟨⟨trivial, ?_⟩, ?_⟩, ?_⟩, ?_⟩, ?_⟩, ?_⟩, ?_⟩
  · exact o_call 0 32 (fun _ => #[(.int .u32 17970262)]) (fun _ => (.tuple #[(U (expV 17970262)), (.int .i64 (expE 17970262))])) (fun _ _ => by as_aux_lemma => kernel_rfl) (fun _ w => (fun w => expand_any 17970262 w (by decide)) w)
  · exact o_run 1 [] [] (fun _ _ => []) (fun _ _ => by as_aux_lemma => kernel_rfl)
  · exact o_run 2 [] [] (fun _ _ => []) (fun _ _ => by as_aux_lemma => kernel_rfl)
  · exact o_run 3 [] [] (fun _ _ => []) (fun _ _ => by as_aux_lemma => kernel_rfl)
  · exact o_run 4 [] [] (fun _ _ => []) (fun _ _ => by as_aux_lemma => kernel_rfl)
  · exact o_run 5 [32] [] (fun ρ _ => [nb ρ 4, nb ρ 4, nb ρ 4, nb ρ 4]) (fun _ _ => by as_aux_lemma => kernel_rfl)
  · exact o_run 6 [] [] (fun _ _ => []) (fun _ _ => by as_aux_lemma => kernel_rfl)
theorem tsane_w_r3 (ρ2 : Nat → Orc) (w0 : World) : Reg Try.prog 2 (regOps Try.f34 2) false 35 [(0, (.bool false)), (1, (.pointer (some ⟨nb ρ2 4, 0, none⟩))), (2, (.int .i64 (expE 17970262)))] w0 [(nb ρ2 4, (.cells (cU (expV 17970262)) 24 (0, 0)))] (fun _ => True)
    (fun _ => [(0, (.bool false)), (1, (.pointer (some ⟨nb ρ2 4, 0, none⟩))), (2, (.int .i64 (expE 17970262))), (4, (.int .i64 (expE 16790614)))])
    (fun ρ => [(nb ρ2 4, (.cells (cU (expV 17970262)) 24 (0, 0))), (nb ρ 4, (.cells (cU (expV 16790614)) 24 (0, 0)))]) := by
  refine reg_seq [0, 1, 3, 7, 15, 31, 63] [0, 1, 2, 4] 7
    (fun ρ ι => ([(.tuple #[(U (expV 16790614)), (.int .i64 (expE 16790614))]), (.tuple #[(U (expV 16790614)), (.int .i64 (expE 16790614))]), (U (expV 16790614)), (.int .i64 (expE 16790614)), (.pointer (some ⟨nb ρ 4, 0, none⟩)), undef, (.int .i64 (expE 16790614))] : List Value).getD ι undef)
    (fun ρ ι => ([{}, {}, {}, {}, { news := [(nb ρ 4, (.cells (cU 0) 24 (0, 0)))] }, { puts := [(33, (.cells (cU (expV 16790614)) 24 (0, 0)))] }, {}] : List Eff).getD ι {})
    (by as_aux_lemma => kernel_rfl) (by as_aux_lemma => kernel_rfl) (fun _ => by as_aux_lemma => kernel_rfl) (fun _ => by as_aux_lemma => kernel_rfl) ⟨⟨⟨⟨⟨⟨⟨trivial, ?_⟩, ?_⟩, ?_⟩, ?_⟩, ?_⟩, ?_⟩, ?_⟩
  · exact o_call 0 32 (fun _ => #[(.int .u32 16790614)]) (fun _ => (.tuple #[(U (expV 16790614)), (.int .i64 (expE 16790614))])) (fun _ _ => by as_aux_lemma => kernel_rfl) (fun _ w => (fun w => expand_any 16790614 w (by decide)) w)
  · exact o_run 1 [] [] (fun _ _ => []) (fun _ _ => by as_aux_lemma => kernel_rfl)
  · exact o_run 2 [] [] (fun _ _ => []) (fun _ _ => by as_aux_lemma => kernel_rfl)
  · exact o_run 3 [] [] (fun _ _ => []) (fun _ _ => by as_aux_lemma => kernel_rfl)
  · exact o_run 4 [] [] (fun _ _ => []) (fun _ _ => by as_aux_lemma => kernel_rfl)
  · exact o_run 5 [33] [] (fun ρ _ => [nb ρ 4, nb ρ 4, nb ρ 4, nb ρ 4]) (fun _ _ => by as_aux_lemma => kernel_rfl)
  · exact o_run 6 [] [] (fun _ _ => []) (fun _ _ => by as_aux_lemma => kernel_rfl)
theorem tsane_w_r4 (hk0 : (expB 17970262) = true) (hk1 : (expB 16790614) = false) (hk2 : (decide (expV 17970262 = 18)) = true) (hk3 : (((compN 128 : Nat) : Int) == 33587200) = true) (hk4 : (decide (workN 1 = 57896044618658097711785492504343953926634992332820282019728792003956564819968)) = true) (ρ2 : Nat → Orc) (ρ3 : Nat → Orc) (w0 : World) : Reg Try.prog 3 (regOps Try.f34 3) false 35 [(0, (.bool false)), (1, (.pointer (some ⟨nb ρ2 4, 0, none⟩))), (2, (.int .i64 (expE 17970262))), (4, (.int .i64 (expE 16790614)))] w0 [(nb ρ2 4, (.cells (cU (expV 17970262)) 24 (0, 0))), (nb ρ3 4, (.cells (cU (expV 16790614)) 24 (0, 0)))] (fun _ => True)
    (fun _ => [(0, (.bool true))])
    (fun _ => [(nb ρ2 4, (.cells (cU (expV 17970262)) 24 (0, 0))), (nb ρ3 4, (.cells (cU (expV 16790614)) 24 (0, 0)))]) := by
  refine reg_seq [0, 1, 3, 7, 15, 31, 63, 127, 255, 511, 1023, 2047, 4095, 8191, 16383, 32767, 65535, 131071, 262143, 524287, 1048575, 2097151, 4194303] [0] 23
    (fun _ ι => ([(.int .i64 (expE 17970262)), (.bool true), (.bool true), (U (expV 17970262)), (U 18), (.bool true), (.bool true), (.bool true), (.int .i64 (expE 16790614)), (.bool true), (.bool true), (.bool true), (U 128), (.int .u32 ((compN 128 : Nat) : Int)), (.bool true), (.bool true), (.bool true), (U 1), (U (workN 1)), (U 57896044618658097711785492504343953926634992332820282019728792003956564819968), (.bool true), (.bool true), (.bool true)] : List Value).getD ι undef)
    (fun _ ι => ([{}, {}, {}, {}, {}, {}, {}, {}, {}, {}, {}, {}, {}, {}, {}, {}, {}, {}, {}, {}, {}, {}, {}] : List Eff).getD ι {})
    (by as_aux_lemma => kernel_rfl) (by as_aux_lemma => kernel_rfl) (fun _ => by as_aux_lemma => kernel_rfl) (fun _ => by as_aux_lemma => kernel_rfl) ⟨⟨⟨⟨⟨⟨⟨⟨⟨⟨⟨⟨⟨⟨⟨⟨⟨⟨⟨⟨⟨⟨⟨trivial, ?_⟩, ?_⟩, ?_⟩, ?_⟩, ?_⟩, ?_⟩, ?_⟩, ?_⟩, ?_⟩, ?_⟩, ?_⟩, ?_⟩, ?_⟩, ?_⟩, ?_⟩, ?_⟩, ?_⟩, ?_⟩, ?_⟩, ?_⟩, ?_⟩, ?_⟩, ?_⟩
  · exact o_run 0 [] [] (fun _ _ => []) (fun _ _ => by as_aux_lemma => kernel_rfl)
  · exact o_as 1 (fun _ => (.bool ((expE 17970262) == 0))) (fun _ => (.bool true)) (fun _ _ => by as_aux_lemma => kernel_rfl) (fun _ => congrArg Value.bool ((expE_ok 17970262).trans hk0))
  · exact o_run 2 [] [] (fun _ _ => []) (fun _ _ => by as_aux_lemma => kernel_rfl)
  · exact o_run 3 [0] [] (fun _ _ => [nb ρ2 4, nb ρ2 4, nb ρ2 4, nb ρ2 4]) (fun _ _ => by as_aux_lemma => kernel_rfl)
  · exact o_run 4 [] [] (fun _ _ => []) (fun _ _ => by as_aux_lemma => kernel_rfl)
  · exact o_bin 5 .eql 24 (fun _ => (U (expV 17970262))) (fun _ => (U 18)) (fun _ => (.bool true)) (fun _ => by as_aux_lemma => kernel_rfl) (fun _ _ _ _ => by as_aux_lemma => kernel_rfl) (fun _ _ => (eqlU (expV 17970262) 18 (expV_lt 17970262) (by decide +kernel) _).trans (by rw [hk2]; try rfl))
  · exact o_run 6 [] [] (fun _ _ => []) (fun _ _ => by as_aux_lemma => kernel_rfl)
  · exact o_run 7 [] [] (fun _ _ => []) (fun _ _ => by as_aux_lemma => kernel_rfl)
  · exact o_run 8 [] [] (fun _ _ => []) (fun _ _ => by as_aux_lemma => kernel_rfl)
  · exact o_as 9 (fun _ => (.bool ((expE 16790614) == 120))) (fun _ => (.bool true)) (fun _ _ => by as_aux_lemma => kernel_rfl) (fun _ => congrArg Value.bool ((expE_120 16790614).trans (congrArg (fun z => !z) hk1)))
  · exact o_run 10 [] [] (fun _ _ => []) (fun _ _ => by as_aux_lemma => kernel_rfl)
  · exact o_run 11 [] [] (fun _ _ => []) (fun _ _ => by as_aux_lemma => kernel_rfl)
  · exact o_run 12 [] [] (fun _ _ => []) (fun _ _ => by as_aux_lemma => kernel_rfl)
  · exact o_call 13 35 (fun _ => #[(U 128)]) (fun _ => (.int .u32 ((compN 128 : Nat) : Int))) (fun _ _ => by as_aux_lemma => kernel_rfl) (fun _ w => (fun w => compact_any 128 w (by decide +kernel)) w)
  · exact o_as 14 (fun _ => (.bool (((compN 128 : Nat) : Int) == 33587200))) (fun _ => (.bool true)) (fun _ _ => by as_aux_lemma => kernel_rfl) (fun _ => congrArg Value.bool hk3)
  · exact o_run 15 [] [] (fun _ _ => []) (fun _ _ => by as_aux_lemma => kernel_rfl)
  · exact o_run 16 [] [] (fun _ _ => []) (fun _ _ => by as_aux_lemma => kernel_rfl)
  · exact o_run 17 [] [] (fun _ _ => []) (fun _ _ => by as_aux_lemma => kernel_rfl)
  · exact o_call 18 37 (fun _ => #[(U 1)]) (fun _ => (U (workN 1))) (fun _ _ => by as_aux_lemma => kernel_rfl) (fun _ w => (fun w => work_any 1 w (by decide +kernel)) w)
  · exact o_run 19 [] [] (fun _ _ => []) (fun _ _ => by as_aux_lemma => kernel_rfl)
  · exact o_bin 20 .eql 24 (fun _ => (U (workN 1))) (fun _ => (U 57896044618658097711785492504343953926634992332820282019728792003956564819968)) (fun _ => (.bool true)) (fun _ => by as_aux_lemma => kernel_rfl) (fun _ _ _ _ => by as_aux_lemma => kernel_rfl) (fun _ _ => (eqlU (workN 1) 57896044618658097711785492504343953926634992332820282019728792003956564819968 (workN_lt 1) (by decide +kernel) _).trans (by rw [hk4]; try rfl))
  · exact o_run 21 [] [] (fun _ _ => []) (fun _ _ => by as_aux_lemma => kernel_rfl)
  · exact o_run 22 [] [] (fun _ _ => []) (fun _ _ => by as_aux_lemma => kernel_rfl)
theorem tsane_w  (w0 : World) : Calls Try.prog 34 #[] w0 (fun ε w' => ε = .returned (.bool true) ∧ Below w0.heap.size w0 w') := by
  refine Calls.of_ok (n := 35) (F := fun _ => True) Try.func34 rfl rfl rfl (by simp) (persTrue (fun _ => trivial)) ?_
  have hk0 : (expB 17970262) = true := sane_e1
  have hk1 : (expB 16790614) = false := sane_e2
  have hk2 : (decide (expV 17970262 = 18)) = true := decide_eq_true (sane_v1)
  have hk3 : (((compN 128 : Nat) : Int) == 33587200) = true := sane_c
  have hk4 : (decide (workN 1 = 57896044618658097711785492504343953926634992332820282019728792003956564819968)) = true := decide_eq_true (sane_w)
  refine ok_seq_r (by as_aux_lemma => kernel_rfl) (tsane_w_r1 _) (fun _ => ?_)
  refine ok_seq_r (by as_aux_lemma => kernel_rfl) (tsane_w_r2 _) (fun ρ2 => ?_)
  refine ok_seq_r (by as_aux_lemma => kernel_rfl) (tsane_w_r3 ρ2 _) (fun ρ3 => ?_)
  refine ok_seq_r (by as_aux_lemma => kernel_rfl) (tsane_w_r4 hk0 hk1 hk2 hk3 hk4 ρ2 ρ3 _) (fun _ => ?_)
  refine ok_ret ?_
  exact meets_ret (v := (.bool true)) [] (dup []) (by as_aux_lemma => kernel_rfl) (by as_aux_lemma => kernel_rfl) (eqs_dup _) (fun _ hS => ⟨rfl, hS.below⟩)
theorem tsane_any (w0 : World) : Calls Try.prog 34 #[] w0 (fun ε w' => ε = .returned (.bool true) ∧ Below w0.heap.size w0 w') := tsane_w w0
end Go.Proofs.Ytkiijahkmgmnnaa
