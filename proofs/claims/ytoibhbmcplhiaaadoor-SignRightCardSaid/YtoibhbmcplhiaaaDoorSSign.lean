/-
  Keys and signatures: the walks.
-/
import Derived.Test.YtoibhbmcplhiaaaDoorSSum
import Derived.Test.YtoibhbmcplhiaaaDoorSignNum
import Derived.Test.YtoibhbmcplhiaaaDoorGGroup
import Derived.Test.YtoibhbmcplhiaaaDoorBytes
import Derived.Test.YtoibhbmcplhiaaaDoorRBytes
namespace Go.Proofs.YtoibhbmcplhiaaaDoor
open Go Go.RowKit
set_option maxRecDepth 100000
theorem scalarb_any_r1 (a : Nat) (w0 : World) (F : World → Prop) : Reg Tryd.prog 0 (regOps Tryd.f54 0) false 7 [(0, (U a))] w0 [] F
    (fun ρ => [(1, (pt (nb ρ 0))), (2, (.bool false))])
    (fun ρ => [(nb ρ 0, (.cells (cU a) 24 (0, 0)))]) := by
  refine reg_seq [0, 1] [1, 2] 2
    (fun ρ ι => ([(pt (nb ρ 0)), (.bool false)] : List Value).getD ι undef)
    (fun ρ ι => ([{ news := [(nb ρ 0, (.cells (cU a) 24 (0, 0)))] }, {}] : List Eff).getD ι {})
    (by kernel_rfl) (by kernel_rfl) (fun _ => by kernel_rfl) (fun _ => by kernel_rfl) ⟨⟨trivial, ?_⟩, ?_⟩
  · exact o_run 0 [] [] (fun _ _ => []) (fun _ _ => by kernel_rfl)
  · exact o_run 1 [] [] (fun _ _ => []) (fun _ _ => by kernel_rfl)
theorem scalarb_any_r2 (a : Nat) (ha : a < M) (ρ1 : Nat → Orc) (w0 : World) (F : World → Prop) : Reg Tryd.prog 1 (regOps Tryd.f54 1) true 7 [(1, (pt (nb ρ1 0))), (2, (.bool false))] w0 [(nb ρ1 0, (.cells (cU a) 24 (0, 0)))] F
    (fun _ => [(2, (.bool (decide ((cmpN a qP) < 0))))])
    (fun _ => [(nb ρ1 0, (.cells (cU a) 24 (0, 0)))]) := by
  refine reg_drawn [0, 0, 3, 7, 15] [2] 5
    (fun _ ι => ([(U a), (U qP), (.int .i64 (cmpN a qP)), (.bool (decide ((cmpN a qP) < 0))), (.bool (decide ((cmpN a qP) < 0)))] : List Value).getD ι undef)
    (fun _ ι => ([{}, {}, {}, {}, {}] : List Eff).getD ι {})
    (by kernel_rfl) (by kernel_rfl) (by kernel_rfl) (fun _ => by kernel_rfl) (fun _ => by kernel_rfl) ⟨⟨⟨⟨⟨trivial, ?_⟩, ?_⟩, ?_⟩, ?_⟩, ?_⟩
  · exact o_run 0 [0] [] (fun _ _ => [nb ρ1 0, nb ρ1 0, nb ρ1 0, nb ρ1 0]) (fun _ _ => by kernel_rfl)
  · exact o_call 1 56 (fun _ => #[]) (fun _ => (U qP)) (fun _ _ => by kernel_rfl) (fun _ w => (fun w => gorder_any w) w)
  · exact o_call 2 69 (fun _ => #[(U a), (U qP)]) (fun _ => (.int .i64 (cmpN a qP))) (fun _ _ => by kernel_rfl) (fun _ w => (fun w => cmp_any a qP w ha qP_lt) w)
  · exact o_run 3 [] [] (fun _ _ => []) (fun _ _ => by kernel_rfl)
  · exact o_run 4 [] [] (fun _ _ => []) (fun _ _ => by kernel_rfl)
theorem scalarb_any (a : Nat) (ha : a < M) (w0 : World) : Calls Tryd.prog 54 #[(U a)] w0 (fun ε w' => ε = .returned (.bool (scB a)) ∧ Below w0.heap.size w0 w') := by
  refine Calls.of_ok (n := 7) (F := (fun _ => True)) Tryd.func54 rfl rfl rfl (by simp) (persTrue (fun _ => trivial)) ?_
  refine ok_seq_r (by kernel_rfl) (scalarb_any_r1 a _ _) (fun ρ1 => ?_)
  refine ok_seq_r (by kernel_rfl) (scalarb_any_r2 a ha ρ1 _ _) (fun _ => ?_)
  refine ok_ret ?_
  exact meets_ret (v := (.bool (decide ((cmpN a qP) < 0)))) [] (dup []) (by kernel_rfl) (by kernel_rfl) (eqs_dup _) (fun _ hS => ⟨congrArg (fun x => Ending.returned (.bool x)) (sc_dec a), hS.below⟩)
theorem rsmall_any_r1 (a : Nat) (w0 : World) (F : World → Prop) : Reg Tryd.prog 0 (regOps Tryd.f59 0) false 7 [(0, (U a))] w0 [] F
    (fun ρ => [(1, (pt (nb ρ 0))), (2, (.bool false))])
    (fun ρ => [(nb ρ 0, (.cells (cU a) 24 (0, 0)))]) := by
  refine reg_seq [0, 1] [1, 2] 2
    (fun ρ ι => ([(pt (nb ρ 0)), (.bool false)] : List Value).getD ι undef)
    (fun ρ ι => ([{ news := [(nb ρ 0, (.cells (cU a) 24 (0, 0)))] }, {}] : List Eff).getD ι {})
    (by kernel_rfl) (by kernel_rfl) (fun _ => by kernel_rfl) (fun _ => by kernel_rfl) ⟨⟨trivial, ?_⟩, ?_⟩
  · exact o_run 0 [] [] (fun _ _ => []) (fun _ _ => by kernel_rfl)
  · exact o_run 1 [] [] (fun _ _ => []) (fun _ _ => by kernel_rfl)
theorem rsmall_any_r2 (a : Nat) (ha : a < M) (ρ1 : Nat → Orc) (w0 : World) (F : World → Prop) : Reg Tryd.prog 1 (regOps Tryd.f59 1) true 7 [(1, (pt (nb ρ1 0))), (2, (.bool false))] w0 [(nb ρ1 0, (.cells (cU a) 24 (0, 0)))] F
    (fun _ => [(2, (.bool (decide ((cmpN a qP) < 0))))])
    (fun _ => [(nb ρ1 0, (.cells (cU a) 24 (0, 0)))]) := by
  refine reg_drawn [0, 0, 3, 7, 15] [2] 5
    (fun _ ι => ([(U a), (U qP), (.int .i64 (cmpN a qP)), (.bool (decide ((cmpN a qP) < 0))), (.bool (decide ((cmpN a qP) < 0)))] : List Value).getD ι undef)
    (fun _ ι => ([{}, {}, {}, {}, {}] : List Eff).getD ι {})
    (by kernel_rfl) (by kernel_rfl) (by kernel_rfl) (fun _ => by kernel_rfl) (fun _ => by kernel_rfl) ⟨⟨⟨⟨⟨trivial, ?_⟩, ?_⟩, ?_⟩, ?_⟩, ?_⟩
  · exact o_run 0 [0] [] (fun _ _ => [nb ρ1 0, nb ρ1 0, nb ρ1 0, nb ρ1 0]) (fun _ _ => by kernel_rfl)
  · exact o_call 1 61 (fun _ => #[]) (fun _ => (U qP)) (fun _ _ => by kernel_rfl) (fun _ w => (fun w => rgorder_any w) w)
  · exact o_call 2 68 (fun _ => #[(U a), (U qP)]) (fun _ => (.int .i64 (cmpN a qP))) (fun _ _ => by kernel_rfl) (fun _ w => (fun w => rcmp_any a qP w ha qP_lt) w)
  · exact o_run 3 [] [] (fun _ _ => []) (fun _ _ => by kernel_rfl)
  · exact o_run 4 [] [] (fun _ _ => []) (fun _ _ => by kernel_rfl)
theorem rsmall_any (a : Nat) (ha : a < M) (w0 : World) : Calls Tryd.prog 59 #[(U a)] w0 (fun ε w' => ε = .returned (.bool (scB a)) ∧ Below w0.heap.size w0 w') := by
  refine Calls.of_ok (n := 7) (F := (fun _ => True)) Tryd.func59 rfl rfl rfl (by simp) (persTrue (fun _ => trivial)) ?_
  refine ok_seq_r (by kernel_rfl) (rsmall_any_r1 a _ _) (fun ρ1 => ?_)
  refine ok_seq_r (by kernel_rfl) (rsmall_any_r2 a ha ρ1 _ _) (fun _ => ?_)
  refine ok_ret ?_
  exact meets_ret (v := (.bool (decide ((cmpN a qP) < 0)))) [] (dup []) (by kernel_rfl) (by kernel_rfl) (eqs_dup _) (fun _ hS => ⟨congrArg (fun x => Ending.returned (.bool x)) (sc_dec a), hS.below⟩)
theorem secret_any_r1 (x : Nat) (w0 : World) (F : World → Prop) : Reg Tryd.prog 0 (regOps Tryd.f35 0) false 10 [(0, (U x))] w0 [] F
    (fun ρ => [(1, (pt (nb ρ 0))), (2, (.bool false))])
    (fun ρ => [(nb ρ 0, (.cells (cU x) 24 (0, 0)))]) := by
  refine reg_seq [0, 1] [1, 2] 2
    (fun ρ ι => ([(pt (nb ρ 0)), (.bool false)] : List Value).getD ι undef)
    (fun ρ ι => ([{ news := [(nb ρ 0, (.cells (cU x) 24 (0, 0)))] }, {}] : List Eff).getD ι {})
    (by kernel_rfl) (by kernel_rfl) (fun _ => by kernel_rfl) (fun _ => by kernel_rfl) ⟨⟨trivial, ?_⟩, ?_⟩
  · exact o_run 0 [] [] (fun _ _ => []) (fun _ _ => by kernel_rfl)
  · exact o_run 1 [] [] (fun _ _ => []) (fun _ _ => by kernel_rfl)
theorem secret_any_r2 (x : Nat) (hx : x < M) (hb1 : (decide (x = 0)) = true) (ρ1 : Nat → Orc) (w0 : World) (F : World → Prop) : Reg Tryd.prog 1 (regOps Tryd.f35 1) false 10 [(1, (pt (nb ρ1 0))), (2, (.bool false))] w0 [(nb ρ1 0, (.cells (cU x) 24 (0, 0)))] F
    (fun _ => [(2, (.bool false))])
    (fun _ => [(nb ρ1 0, (.cells (cU x) 24 (0, 0)))]) := by
  refine reg_seq [0, 1, 3, 7, 15, 31, 63, 127] [2] 8
    (fun _ ι => ([(U x), (U 0), (.bool false), (.bool false), undef, undef, (.bool false), (.bool false)] : List Value).getD ι undef)
    (fun _ ι => ([{}, {}, {}, {}, {}, {}, {}, {}] : List Eff).getD ι {})
    (by kernel_rfl) (by kernel_rfl) (fun _ => by kernel_rfl) (fun _ => by kernel_rfl) ⟨⟨⟨⟨⟨⟨⟨⟨trivial, ?_⟩, ?_⟩, ?_⟩, ?_⟩, ?_⟩, ?_⟩, ?_⟩, ?_⟩
  · exact o_run 0 [0] [] (fun _ _ => [nb ρ1 0, nb ρ1 0, nb ρ1 0, nb ρ1 0]) (fun _ _ => by kernel_rfl)
  · exact o_run 1 [] [] (fun _ _ => []) (fun _ _ => by kernel_rfl)
  · exact o_bin 2 .neq 24 (fun _ => (U x)) (fun _ => (U 0)) (fun _ => (.bool false)) (fun _ => by kernel_rfl) (fun _ _ _ _ => by kernel_rfl) (fun _ _ => (neqU x 0 hx (by decide +kernel) _).trans (by rw [hb1]; try rfl))
  · exact o_run 3 [] [] (fun _ _ => []) (fun _ _ => by kernel_rfl)
  · exact o_skip 4 (fun _ => by kernel_rfl)
  · exact o_skip 5 (fun _ => by kernel_rfl)
  · exact o_run 6 [] [] (fun _ _ => []) (fun _ _ => by kernel_rfl)
  · exact o_run 7 [] [] (fun _ _ => []) (fun _ _ => by kernel_rfl)
theorem secret_any_r3 (x : Nat) (hx : x < M) (hb1 : (decide (x = 0)) = false) (ρ1 : Nat → Orc) (w0 : World) (F : World → Prop) : Reg Tryd.prog 1 (regOps Tryd.f35 1) false 10 [(1, (pt (nb ρ1 0))), (2, (.bool false))] w0 [(nb ρ1 0, (.cells (cU x) 24 (0, 0)))] F
    (fun _ => [(2, (.bool (scB x)))])
    (fun _ => [(nb ρ1 0, (.cells (cU x) 24 (0, 0)))]) := by
  refine reg_seq [0, 1, 3, 7, 15, 31, 63, 127] [2] 8
    (fun _ ι => ([(U x), (U 0), (.bool true), (.bool true), (U x), (.bool (scB x)), (.bool (scB x)), (.bool (scB x))] : List Value).getD ι undef)
    (fun _ ι => ([{}, {}, {}, {}, {}, {}, {}, {}] : List Eff).getD ι {})
    (by kernel_rfl) (by kernel_rfl) (fun _ => by kernel_rfl) (fun _ => by kernel_rfl) ⟨⟨⟨⟨⟨⟨⟨⟨trivial, ?_⟩, ?_⟩, ?_⟩, ?_⟩, ?_⟩, ?_⟩, ?_⟩, ?_⟩
  · exact o_run 0 [0] [] (fun _ _ => [nb ρ1 0, nb ρ1 0, nb ρ1 0, nb ρ1 0]) (fun _ _ => by kernel_rfl)
  · exact o_run 1 [] [] (fun _ _ => []) (fun _ _ => by kernel_rfl)
  · exact o_bin 2 .neq 24 (fun _ => (U x)) (fun _ => (U 0)) (fun _ => (.bool true)) (fun _ => by kernel_rfl) (fun _ _ _ _ => by kernel_rfl) (fun _ _ => (neqU x 0 hx (by decide +kernel) _).trans (by rw [hb1]; try rfl))
  · exact o_run 3 [] [] (fun _ _ => []) (fun _ _ => by kernel_rfl)
  · exact o_run 4 [0] [] (fun _ _ => [nb ρ1 0, nb ρ1 0, nb ρ1 0, nb ρ1 0]) (fun _ _ => by kernel_rfl)
  · exact o_call 5 54 (fun _ => #[(U x)]) (fun _ => (.bool (scB x))) (fun _ _ => by kernel_rfl) (fun _ w => (fun w => scalarb_any x hx w) w)
  · exact o_run 6 [] [] (fun _ _ => []) (fun _ _ => by kernel_rfl)
  · exact o_run 7 [] [] (fun _ _ => []) (fun _ _ => by kernel_rfl)
theorem secret_any (x : Nat) (hx : x < M) (w0 : World) : Calls Tryd.prog 35 #[(U x)] w0 (fun ε w' => ε = .returned (.bool (secB x)) ∧ Below w0.heap.size w0 w') := by
  refine Calls.of_ok (n := 10) (F := (fun _ => True)) Tryd.func35 rfl rfl rfl (by simp) (persTrue (fun _ => trivial)) ?_
  refine ok_seq_r (by kernel_rfl) (secret_any_r1 x _ _) (fun ρ1 => ?_)
  rcases Bool.eq_false_or_eq_true (decide (x = 0)) with hb1 | hb1
  ·
    refine ok_seq_r (by kernel_rfl) (secret_any_r2 x hx hb1 ρ1 _ _) (fun _ => ?_)
    refine ok_ret ?_
    exact meets_ret (v := (.bool false)) [] (dup []) (by kernel_rfl) (by kernel_rfl) (eqs_dup _) (fun _ hS => ⟨congrArg (fun x => Ending.returned (.bool x)) (sec_0 hb1), hS.below⟩)
  ·
    refine ok_seq_r (by kernel_rfl) (secret_any_r3 x hx hb1 ρ1 _ _) (fun _ => ?_)
    refine ok_ret ?_
    exact meets_ret (v := (.bool (scB x))) [] (dup []) (by kernel_rfl) (by kernel_rfl) (eqs_dup _) (fun _ hS => ⟨congrArg (fun x => Ending.returned (.bool x)) (sec_1 hb1), hS.below⟩)
theorem rsecret_any_r1 (x : Nat) (w0 : World) (F : World → Prop) : Reg Tryd.prog 0 (regOps Tryd.f37 0) false 12 [(0, (U x))] w0 [] F
    (fun ρ => [(1, (pt (nb ρ 0))), (2, (.bool false))])
    (fun ρ => [(nb ρ 0, (.cells (cU x) 24 (0, 0)))]) := by
  refine reg_seq [0, 1] [1, 2] 2
    (fun ρ ι => ([(pt (nb ρ 0)), (.bool false)] : List Value).getD ι undef)
    (fun ρ ι => ([{ news := [(nb ρ 0, (.cells (cU x) 24 (0, 0)))] }, {}] : List Eff).getD ι {})
    (by kernel_rfl) (by kernel_rfl) (fun _ => by kernel_rfl) (fun _ => by kernel_rfl) ⟨⟨trivial, ?_⟩, ?_⟩
  · exact o_run 0 [] [] (fun _ _ => []) (fun _ _ => by kernel_rfl)
  · exact o_run 1 [] [] (fun _ _ => []) (fun _ _ => by kernel_rfl)
theorem rsecret_any_r2 (x : Nat) (hx : x < M) (hb1 : (decide (x = 0)) = true) (ρ1 : Nat → Orc) (w0 : World) (F : World → Prop) : Reg Tryd.prog 1 (regOps Tryd.f37 1) true 12 [(1, (pt (nb ρ1 0))), (2, (.bool false))] w0 [(nb ρ1 0, (.cells (cU x) 24 (0, 0)))] F
    (fun _ => [(2, (.bool false))])
    (fun _ => [(nb ρ1 0, (.cells (cU x) 24 (0, 0)))]) := by
  refine reg_drawn [0, 1, 3, 7, 15, 15, 63, 127, 255, 511] [2] 10
    (fun _ ι => ([(U x), (.bool true), (.bool false), (.bool false), undef, undef, undef, undef, (.bool false), (.bool false)] : List Value).getD ι undef)
    (fun _ ι => ([{}, {}, {}, {}, {}, {}, {}, {}, {}, {}] : List Eff).getD ι {})
    (by kernel_rfl) (by kernel_rfl) (by kernel_rfl) (fun _ => by kernel_rfl) (fun _ => by kernel_rfl) ⟨⟨⟨⟨⟨⟨⟨⟨⟨⟨trivial, ?_⟩, ?_⟩, ?_⟩, ?_⟩, ?_⟩, ?_⟩, ?_⟩, ?_⟩, ?_⟩, ?_⟩
  · exact o_run 0 [0] [] (fun _ _ => [nb ρ1 0, nb ρ1 0, nb ρ1 0, nb ρ1 0]) (fun _ _ => by kernel_rfl)
  · exact o_call 1 50 (fun _ => #[(U x)]) (fun _ => (.bool true)) (fun _ _ => by kernel_rfl) (fun _ w => by as_aux_lemma => (have hcall := (fun w => rzero_any x w hx) w; rw [hb1] at hcall; exact hcall))
  · exact o_run 2 [] [] (fun _ _ => []) (fun _ _ => by kernel_rfl)
  · exact o_run 3 [] [] (fun _ _ => []) (fun _ _ => by kernel_rfl)
  · exact o_skip 4 (fun _ => by kernel_rfl)
  · exact o_skip 5 (fun _ => by kernel_rfl)
  · exact o_skip 6 (fun _ => by kernel_rfl)
  · exact o_skip 7 (fun _ => by kernel_rfl)
  · exact o_run 8 [] [] (fun _ _ => []) (fun _ _ => by kernel_rfl)
  · exact o_run 9 [] [] (fun _ _ => []) (fun _ _ => by kernel_rfl)
theorem rsecret_any_r3 (x : Nat) (hx : x < M) (hb1 : (decide (x = 0)) = false) (ρ1 : Nat → Orc) (w0 : World) (F : World → Prop) : Reg Tryd.prog 1 (regOps Tryd.f37 1) true 12 [(1, (pt (nb ρ1 0))), (2, (.bool false))] w0 [(nb ρ1 0, (.cells (cU x) 24 (0, 0)))] F
    (fun _ => [(2, (.bool (decide ((cmpN x qP) < 0))))])
    (fun _ => [(nb ρ1 0, (.cells (cU x) 24 (0, 0)))]) := by
  refine reg_drawn [0, 1, 3, 7, 15, 15, 63, 127, 255, 511] [2] 10
    (fun _ ι => ([(U x), (.bool false), (.bool true), (.bool true), (U x), (U qP), (.int .i64 (cmpN x qP)), (.bool (decide ((cmpN x qP) < 0))), (.bool (decide ((cmpN x qP) < 0))), (.bool (decide ((cmpN x qP) < 0)))] : List Value).getD ι undef)
    (fun _ ι => ([{}, {}, {}, {}, {}, {}, {}, {}, {}, {}] : List Eff).getD ι {})
    (by kernel_rfl) (by kernel_rfl) (by kernel_rfl) (fun _ => by kernel_rfl) (fun _ => by kernel_rfl) ⟨⟨⟨⟨⟨⟨⟨⟨⟨⟨trivial, ?_⟩, ?_⟩, ?_⟩, ?_⟩, ?_⟩, ?_⟩, ?_⟩, ?_⟩, ?_⟩, ?_⟩
  · exact o_run 0 [0] [] (fun _ _ => [nb ρ1 0, nb ρ1 0, nb ρ1 0, nb ρ1 0]) (fun _ _ => by kernel_rfl)
  · exact o_call 1 50 (fun _ => #[(U x)]) (fun _ => (.bool false)) (fun _ _ => by kernel_rfl) (fun _ w => by as_aux_lemma => (have hcall := (fun w => rzero_any x w hx) w; rw [hb1] at hcall; exact hcall))
  · exact o_run 2 [] [] (fun _ _ => []) (fun _ _ => by kernel_rfl)
  · exact o_run 3 [] [] (fun _ _ => []) (fun _ _ => by kernel_rfl)
  · exact o_run 4 [0] [] (fun _ _ => [nb ρ1 0, nb ρ1 0, nb ρ1 0, nb ρ1 0]) (fun _ _ => by kernel_rfl)
  · exact o_call 5 61 (fun _ => #[]) (fun _ => (U qP)) (fun _ _ => by kernel_rfl) (fun _ w => (fun w => rgorder_any w) w)
  · exact o_call 6 68 (fun _ => #[(U x), (U qP)]) (fun _ => (.int .i64 (cmpN x qP))) (fun _ _ => by kernel_rfl) (fun _ w => (fun w => rcmp_any x qP w hx qP_lt) w)
  · exact o_run 7 [] [] (fun _ _ => []) (fun _ _ => by kernel_rfl)
  · exact o_run 8 [] [] (fun _ _ => []) (fun _ _ => by kernel_rfl)
  · exact o_run 9 [] [] (fun _ _ => []) (fun _ _ => by kernel_rfl)
theorem rsecret_any (x : Nat) (hx : x < M) (w0 : World) : Calls Tryd.prog 37 #[(U x)] w0 (fun ε w' => ε = .returned (.bool (secB x)) ∧ Below w0.heap.size w0 w') := by
  refine Calls.of_ok (n := 12) (F := (fun _ => True)) Tryd.func37 rfl rfl rfl (by simp) (persTrue (fun _ => trivial)) ?_
  refine ok_seq_r (by kernel_rfl) (rsecret_any_r1 x _ _) (fun ρ1 => ?_)
  rcases Bool.eq_false_or_eq_true (decide (x = 0)) with hb1 | hb1
  ·
    refine ok_seq_r (by kernel_rfl) (rsecret_any_r2 x hx hb1 ρ1 _ _) (fun _ => ?_)
    refine ok_ret ?_
    exact meets_ret (v := (.bool false)) [] (dup []) (by kernel_rfl) (by kernel_rfl) (eqs_dup _) (fun _ hS => ⟨congrArg (fun x => Ending.returned (.bool x)) (sec_0 hb1), hS.below⟩)
  ·
    refine ok_seq_r (by kernel_rfl) (rsecret_any_r3 x hx hb1 ρ1 _ _) (fun _ => ?_)
    refine ok_ret ?_
    exact meets_ret (v := (.bool (decide ((cmpN x qP) < 0)))) [] (dup []) (by kernel_rfl) (by kernel_rfl) (eqs_dup _) (fun _ hS => ⟨congrArg (fun x => Ending.returned (.bool x)) ((sc_dec x).trans (sec_1 hb1)), hS.below⟩)
theorem public_any_r1 (x : Nat) (w0 : World) (F : World → Prop) : Reg Tryd.prog 0 (regOps Tryd.f10 0) false 10 [(0, (U x))] w0 [] F
    (fun ρ => [(1, (pt (nb ρ 0))), (2, (pt (nb ρ 1))), (3, (.int .i64 0))])
    (fun ρ => [(nb ρ 0, (.cells (cU x) 24 (0, 0))), (nb ρ 1, (.cells (cU 0) 24 (0, 0)))]) := by
  refine reg_seq [0, 1, 3] [1, 2, 3] 3
    (fun ρ ι => ([(pt (nb ρ 0)), (pt (nb ρ 1)), (.int .i64 0)] : List Value).getD ι undef)
    (fun ρ ι => ([{ news := [(nb ρ 0, (.cells (cU x) 24 (0, 0)))] }, { news := [(nb ρ 1, (.cells (cU 0) 24 (0, 0)))] }, {}] : List Eff).getD ι {})
    (by kernel_rfl) (by kernel_rfl) (fun _ => by kernel_rfl) (fun _ => by kernel_rfl) ⟨⟨⟨trivial, ?_⟩, ?_⟩, ?_⟩
  · exact o_run 0 [] [] (fun _ _ => []) (fun _ _ => by kernel_rfl)
  · exact o_run 1 [] [] (fun _ _ => []) (fun _ _ => by kernel_rfl)
  · exact o_run 2 [] [] (fun _ _ => []) (fun _ _ => by kernel_rfl)
theorem public_any_r2 (x : Nat) (hx : x < M) (ρ1 : Nat → Orc) (w0 : World) (F : World → Prop) : Reg Tryd.prog 1 (regOps Tryd.f10 1) false 10 [(1, (pt (nb ρ1 0))), (2, (pt (nb ρ1 1))), (3, (.int .i64 0))] w0 [(nb ρ1 0, (.cells (cU x) 24 (0, 0))), (nb ρ1 1, (.cells (cU 0) 24 (0, 0)))] F
    (fun _ => [(1, (pt (nb ρ1 0))), (2, (pt (nb ρ1 1))), (3, (.int .i64 0)), (6, (.bool (!(secB x))))])
    (fun _ => [(nb ρ1 0, (.cells (cU x) 24 (0, 0))), (nb ρ1 1, (.cells (cU 0) 24 (0, 0)))]) := by
  refine reg_seq [0, 1, 3] [1, 2, 3, 6] 3
    (fun _ ι => ([(U x), (.bool (secB x)), (.bool (!(secB x)))] : List Value).getD ι undef)
    (fun _ ι => ([{}, {}, {}] : List Eff).getD ι {})
    (by kernel_rfl) (by kernel_rfl) (fun _ => by kernel_rfl) (fun _ => by kernel_rfl) ⟨⟨⟨trivial, ?_⟩, ?_⟩, ?_⟩
  · exact o_run 0 [0] [] (fun _ _ => [nb ρ1 0, nb ρ1 0, nb ρ1 0, nb ρ1 0]) (fun _ _ => by kernel_rfl)
  · exact o_call 1 35 (fun _ => #[(U x)]) (fun _ => (.bool (secB x))) (fun _ _ => by kernel_rfl) (fun _ w => (fun w => secret_any x hx w) w)
  · exact o_run 2 [] [] (fun _ _ => []) (fun _ _ => by kernel_rfl)
theorem public_any_r3 (x : Nat) (ρ1 : Nat → Orc) (w0 : World) (F : World → Prop) : Reg Tryd.prog 2 (regOps Tryd.f10 2) false 10 [(1, (pt (nb ρ1 0))), (2, (pt (nb ρ1 1))), (3, (.int .i64 0)), (6, (.bool true))] w0 [(nb ρ1 0, (.cells (cU x) 24 (0, 0))), (nb ρ1 1, (.cells (cU 0) 24 (0, 0)))] F
    (fun _ => [(1, (pt (nb ρ1 0))), (2, (pt (nb ρ1 1))), (3, (.int .i64 60))])
    (fun _ => [(nb ρ1 0, (.cells (cU x) 24 (0, 0))), (nb ρ1 1, (.cells (cU 0) 24 (0, 0)))]) := by
  refine reg_seq [0, 1, 3] [1, 2, 3] 3
    (fun _ ι => ([(U 0), undef, (.int .i64 60)] : List Value).getD ι undef)
    (fun _ ι => ([{}, { puts := [(1, (.cells (cU 0) 24 (0, 0)))] }, {}] : List Eff).getD ι {})
    (by kernel_rfl) (by kernel_rfl) (fun _ => by kernel_rfl) (fun _ => by kernel_rfl) ⟨⟨⟨trivial, ?_⟩, ?_⟩, ?_⟩
  · exact o_run 0 [] [] (fun _ _ => []) (fun _ _ => by kernel_rfl)
  · exact o_run 1 [1] [] (fun _ _ => [nb ρ1 1, nb ρ1 1, nb ρ1 1, nb ρ1 1]) (fun _ _ => by kernel_rfl)
  · exact o_run 2 [] [] (fun _ _ => []) (fun _ _ => by kernel_rfl)
theorem public_any_r4 (x : Nat) (hx : x < M) (ρ1 : Nat → Orc) (w0 : World) (F : World → Prop) : Reg Tryd.prog 3 (regOps Tryd.f10 3) false 10 [(1, (pt (nb ρ1 0))), (2, (pt (nb ρ1 1))), (3, (.int .i64 0)), (6, (.bool false))] w0 [(nb ρ1 0, (.cells (cU x) 24 (0, 0))), (nb ρ1 1, (.cells (cU 0) 24 (0, 0)))] F
    (fun _ => [(2, (pt (nb ρ1 1))), (3, (.int .i64 0))])
    (fun _ => [(nb ρ1 0, (.cells (cU x) 24 (0, 0))), (nb ρ1 1, (.cells (cU (expmN 4 x pP)) 24 (0, 0)))]) := by
  refine reg_seq [0, 1, 3, 7] [2, 3] 4
    (fun _ ι => ([(U x), (U (expmN 4 x pP)), undef, (.int .i64 0)] : List Value).getD ι undef)
    (fun _ ι => ([{}, {}, { puts := [(1, (.cells (cU (expmN 4 x pP)) 24 (0, 0)))] }, {}] : List Eff).getD ι {})
    (by kernel_rfl) (by kernel_rfl) (fun _ => by kernel_rfl) (fun _ => by kernel_rfl) ⟨⟨⟨⟨trivial, ?_⟩, ?_⟩, ?_⟩, ?_⟩
  · exact o_run 0 [0] [] (fun _ _ => [nb ρ1 0, nb ρ1 0, nb ρ1 0, nb ρ1 0]) (fun _ _ => by kernel_rfl)
  · exact o_call 1 36 (fun _ => #[(U x)]) (fun _ => (U (expmN 4 x pP))) (fun _ _ => by kernel_rfl) (fun _ w => (fun w => gpower_any x w hx) w)
  · exact o_run 2 [1] [] (fun _ _ => [nb ρ1 1, nb ρ1 1, nb ρ1 1, nb ρ1 1]) (fun _ _ => by kernel_rfl)
  · exact o_run 3 [] [] (fun _ _ => []) (fun _ _ => by kernel_rfl)
theorem public_any (x : Nat) (hx : x < M) (w0 : World) : Calls Tryd.prog 10 #[(U x)] w0 (fun ε w' => ε = .returned (.tuple #[(U (pubV x)), (.int .i64 (pubE x))]) ∧ Below w0.heap.size w0 w') := by
  refine Calls.of_ok (n := 10) (F := (fun _ => True)) Tryd.func10 rfl rfl rfl (by simp) (persTrue (fun _ => trivial)) ?_
  refine ok_seq_r (by kernel_rfl) (public_any_r1 x _ _) (fun ρ1 => ?_)
  refine ok_seq ?_
  refine ok_seq_r (by kernel_rfl) (public_any_r2 x hx ρ1 _ _) (fun _ => ?_)
  refine ok_cond (b := !(secB x)) (by kernel_rfl) (fun hb1 => ?_) (fun hb1 => ?_)
  ·
    rw [hb1]
    refine ok_seq_r (by kernel_rfl) (public_any_r3 x ρ1 _ _) (fun _ => ?_)
    refine ok_ret ?_
    refine mt_then_r ?_
    exact meets_ret (v := (.tuple #[(U 0), (.int .i64 60)])) [1, 1, 1, 1] (dup [nb ρ1 1, nb ρ1 1, nb ρ1 1, nb ρ1 1]) (by kernel_rfl) (by kernel_rfl) (eqs_dup _) (fun _ hS => ⟨by rw [(pub_no (not_t hb1)).1, (pub_no (not_t hb1)).2], hS.below⟩)
  ·
    rw [hb1]
    refine ok_skip ?_
    refine mt_then ?_
    refine ok_seq_r (by kernel_rfl) (public_any_r4 x hx ρ1 _ _) (fun _ => ?_)
    refine ok_ret ?_
    exact meets_ret (v := (.tuple #[(U (expmN 4 x pP)), (.int .i64 0)])) [1, 1, 1, 1] (dup [nb ρ1 1, nb ρ1 1, nb ρ1 1, nb ρ1 1]) (by kernel_rfl) (by kernel_rfl) (eqs_dup _) (fun _ hS => ⟨by rw [(pub_yes (not_f hb1)).1, (pub_yes (not_f hb1)).2], hS.below⟩)
theorem valid_any_r1 (p : Nat) (w0 : World) (F : World → Prop) : Reg Tryd.prog 0 (regOps Tryd.f13 0) false 10 [(0, (U p))] w0 [] F
    (fun ρ => [(1, (pt (nb ρ 0))), (2, (.bool false))])
    (fun ρ => [(nb ρ 0, (.cells (cU p) 24 (0, 0)))]) := by
  refine reg_seq [0, 1] [1, 2] 2
    (fun ρ ι => ([(pt (nb ρ 0)), (.bool false)] : List Value).getD ι undef)
    (fun ρ ι => ([{ news := [(nb ρ 0, (.cells (cU p) 24 (0, 0)))] }, {}] : List Eff).getD ι {})
    (by kernel_rfl) (by kernel_rfl) (fun _ => by kernel_rfl) (fun _ => by kernel_rfl) ⟨⟨trivial, ?_⟩, ?_⟩
  · exact o_run 0 [] [] (fun _ _ => []) (fun _ _ => by kernel_rfl)
  · exact o_run 1 [] [] (fun _ _ => []) (fun _ _ => by kernel_rfl)
theorem valid_any_r2 (p : Nat) (hp : p < M) (hb1 : (decide (p = 1)) = true) (ρ1 : Nat → Orc) (w0 : World) (F : World → Prop) : Reg Tryd.prog 1 (regOps Tryd.f13 1) true 10 [(1, (pt (nb ρ1 0))), (2, (.bool false))] w0 [(nb ρ1 0, (.cells (cU p) 24 (0, 0)))] F
    (fun _ => [(2, (.bool false))])
    (fun _ => [(nb ρ1 0, (.cells (cU p) 24 (0, 0)))]) := by
  refine reg_drawn [0, 0, 3, 7, 15, 31, 63, 127] [2] 8
    (fun _ ι => ([(U p), (U 1), (.bool false), (.bool false), undef, undef, (.bool false), (.bool false)] : List Value).getD ι undef)
    (fun _ ι => ([{}, {}, {}, {}, {}, {}, {}, {}] : List Eff).getD ι {})
    (by kernel_rfl) (by kernel_rfl) (by kernel_rfl) (fun _ => by kernel_rfl) (fun _ => by kernel_rfl) ⟨⟨⟨⟨⟨⟨⟨⟨trivial, ?_⟩, ?_⟩, ?_⟩, ?_⟩, ?_⟩, ?_⟩, ?_⟩, ?_⟩
  · exact o_run 0 [0] [] (fun _ _ => [nb ρ1 0, nb ρ1 0, nb ρ1 0, nb ρ1 0]) (fun _ _ => by kernel_rfl)
  · exact o_call 1 39 (fun _ => #[(.int .u64 1)]) (fun _ => (U 1)) (fun _ _ => by kernel_rfl) (fun _ w => (fun w => fromuint_lit 1 w (by decide)) w)
  · exact o_bin 2 .neq 24 (fun _ => (U p)) (fun _ => (U 1)) (fun _ => (.bool false)) (fun _ => by kernel_rfl) (fun _ _ _ _ => by kernel_rfl) (fun _ _ => (neqU p 1 hp (by decide +kernel) _).trans (by rw [hb1]; try rfl))
  · exact o_run 3 [] [] (fun _ _ => []) (fun _ _ => by kernel_rfl)
  · exact o_skip 4 (fun _ => by kernel_rfl)
  · exact o_skip 5 (fun _ => by kernel_rfl)
  · exact o_run 6 [] [] (fun _ _ => []) (fun _ _ => by kernel_rfl)
  · exact o_run 7 [] [] (fun _ _ => []) (fun _ _ => by kernel_rfl)
theorem valid_any_r3 (p : Nat) (hp : p < M) (hb1 : (decide (p = 1)) = false) (ρ1 : Nat → Orc) (w0 : World) (F : World → Prop) : Reg Tryd.prog 1 (regOps Tryd.f13 1) true 10 [(1, (pt (nb ρ1 0))), (2, (.bool false))] w0 [(nb ρ1 0, (.cells (cU p) 24 (0, 0)))] F
    (fun _ => [(2, (.bool (memB p)))])
    (fun _ => [(nb ρ1 0, (.cells (cU p) 24 (0, 0)))]) := by
  refine reg_drawn [0, 0, 3, 7, 15, 31, 63, 127] [2] 8
    (fun _ ι => ([(U p), (U 1), (.bool true), (.bool true), (U p), (.bool (memB p)), (.bool (memB p)), (.bool (memB p))] : List Value).getD ι undef)
    (fun _ ι => ([{}, {}, {}, {}, {}, {}, {}, {}] : List Eff).getD ι {})
    (by kernel_rfl) (by kernel_rfl) (by kernel_rfl) (fun _ => by kernel_rfl) (fun _ => by kernel_rfl) ⟨⟨⟨⟨⟨⟨⟨⟨trivial, ?_⟩, ?_⟩, ?_⟩, ?_⟩, ?_⟩, ?_⟩, ?_⟩, ?_⟩
  · exact o_run 0 [0] [] (fun _ _ => [nb ρ1 0, nb ρ1 0, nb ρ1 0, nb ρ1 0]) (fun _ _ => by kernel_rfl)
  · exact o_call 1 39 (fun _ => #[(.int .u64 1)]) (fun _ => (U 1)) (fun _ _ => by kernel_rfl) (fun _ w => (fun w => fromuint_lit 1 w (by decide)) w)
  · exact o_bin 2 .neq 24 (fun _ => (U p)) (fun _ => (U 1)) (fun _ => (.bool true)) (fun _ => by kernel_rfl) (fun _ _ _ _ => by kernel_rfl) (fun _ _ => (neqU p 1 hp (by decide +kernel) _).trans (by rw [hb1]; try rfl))
  · exact o_run 3 [] [] (fun _ _ => []) (fun _ _ => by kernel_rfl)
  · exact o_run 4 [0] [] (fun _ _ => [nb ρ1 0, nb ρ1 0, nb ρ1 0, nb ρ1 0]) (fun _ _ => by kernel_rfl)
  · exact o_call 5 40 (fun _ => #[(U p)]) (fun _ => (.bool (memB p))) (fun _ _ => by kernel_rfl) (fun _ w => (fun w => gmember_any p w hp) w)
  · exact o_run 6 [] [] (fun _ _ => []) (fun _ _ => by kernel_rfl)
  · exact o_run 7 [] [] (fun _ _ => []) (fun _ _ => by kernel_rfl)
theorem valid_any (p : Nat) (hp : p < M) (w0 : World) : Calls Tryd.prog 13 #[(U p)] w0 (fun ε w' => ε = .returned (.bool (valB p)) ∧ Below w0.heap.size w0 w') := by
  refine Calls.of_ok (n := 10) (F := (fun _ => True)) Tryd.func13 rfl rfl rfl (by simp) (persTrue (fun _ => trivial)) ?_
  refine ok_seq_r (by kernel_rfl) (valid_any_r1 p _ _) (fun ρ1 => ?_)
  rcases Bool.eq_false_or_eq_true (decide (p = 1)) with hb1 | hb1
  ·
    refine ok_seq_r (by kernel_rfl) (valid_any_r2 p hp hb1 ρ1 _ _) (fun _ => ?_)
    refine ok_ret ?_
    exact meets_ret (v := (.bool false)) [] (dup []) (by kernel_rfl) (by kernel_rfl) (eqs_dup _) (fun _ hS => ⟨congrArg (fun x => Ending.returned (.bool x)) (val_0 hb1), hS.below⟩)
  ·
    refine ok_seq_r (by kernel_rfl) (valid_any_r3 p hp hb1 ρ1 _ _) (fun _ => ?_)
    refine ok_ret ?_
    exact meets_ret (v := (.bool (memB p))) [] (dup []) (by kernel_rfl) (by kernel_rfl) (eqs_dup _) (fun _ hS => ⟨congrArg (fun x => Ending.returned (.bool x)) (val_1 hb1), hS.below⟩)
theorem tweak_any_r1 (p : Nat) (t : Nat) (w0 : World) (F : World → Prop) : Reg Tryd.prog 0 (regOps Tryd.f31 0) false 21 [(0, (U p)), (1, (.agg (hB t)))] w0 [] F
    (fun ρ => [(2, (pt (nb ρ 0))), (3, (pt (nb ρ 1))), (4, (pt (nb ρ 2))), (5, (.int .i64 0))])
    (fun ρ => [(nb ρ 0, (.cells (cU p) 24 (0, 0))), (nb ρ 1, (.cells (hB t) 26 (0, 0))), (nb ρ 2, (.cells (cU 0) 24 (0, 0)))]) := by
  refine reg_seq [0, 1, 3, 7] [2, 3, 4, 5] 4
    (fun ρ ι => ([(pt (nb ρ 0)), (pt (nb ρ 1)), (pt (nb ρ 2)), (.int .i64 0)] : List Value).getD ι undef)
    (fun ρ ι => ([{ news := [(nb ρ 0, (.cells (cU p) 24 (0, 0)))] }, { news := [(nb ρ 1, (.cells (hB t) 26 (0, 0)))] }, { news := [(nb ρ 2, (.cells (cU 0) 24 (0, 0)))] }, {}] : List Eff).getD ι {})
    (by kernel_rfl) (by kernel_rfl) (fun _ => by kernel_rfl) (fun _ => by kernel_rfl) ⟨⟨⟨⟨trivial, ?_⟩, ?_⟩, ?_⟩, ?_⟩
  · exact o_run 0 [] [] (fun _ _ => []) (fun _ _ => by kernel_rfl)
  · exact o_run 1 [] [] (fun _ _ => []) (fun _ _ => by kernel_rfl)
  · exact o_run 2 [] [] (fun _ _ => []) (fun _ _ => by kernel_rfl)
  · exact o_run 3 [] [] (fun _ _ => []) (fun _ _ => by kernel_rfl)
theorem tweak_any_r2 (p : Nat) (t : Nat) (hp : p < M) (ρ1 : Nat → Orc) (w0 : World) (F : World → Prop) : Reg Tryd.prog 1 (regOps Tryd.f31 1) false 21 [(2, (pt (nb ρ1 0))), (3, (pt (nb ρ1 1))), (4, (pt (nb ρ1 2))), (5, (.int .i64 0))] w0 [(nb ρ1 0, (.cells (cU p) 24 (0, 0))), (nb ρ1 1, (.cells (hB t) 26 (0, 0))), (nb ρ1 2, (.cells (cU 0) 24 (0, 0)))] F
    (fun _ => [(2, (pt (nb ρ1 0))), (3, (pt (nb ρ1 1))), (4, (pt (nb ρ1 2))), (5, (.int .i64 0)), (9, (.bool (!(valB p))))])
    (fun _ => [(nb ρ1 0, (.cells (cU p) 24 (0, 0))), (nb ρ1 1, (.cells (hB t) 26 (0, 0))), (nb ρ1 2, (.cells (cU 0) 24 (0, 0)))]) := by
  refine reg_seq [0, 1, 3] [2, 3, 4, 5, 9] 3
    (fun _ ι => ([(U p), (.bool (valB p)), (.bool (!(valB p)))] : List Value).getD ι undef)
    (fun _ ι => ([{}, {}, {}] : List Eff).getD ι {})
    (by kernel_rfl) (by kernel_rfl) (fun _ => by kernel_rfl) (fun _ => by kernel_rfl) ⟨⟨⟨trivial, ?_⟩, ?_⟩, ?_⟩
  · exact o_run 0 [0] [] (fun _ _ => [nb ρ1 0, nb ρ1 0, nb ρ1 0, nb ρ1 0]) (fun _ _ => by kernel_rfl)
  · exact o_call 1 13 (fun _ => #[(U p)]) (fun _ => (.bool (valB p))) (fun _ _ => by kernel_rfl) (fun _ w => (fun w => valid_any p hp w) w)
  · exact o_run 2 [] [] (fun _ _ => []) (fun _ _ => by kernel_rfl)
theorem tweak_any_r3 (p : Nat) (t : Nat) (ρ1 : Nat → Orc) (w0 : World) (F : World → Prop) : Reg Tryd.prog 2 (regOps Tryd.f31 2) false 21 [(2, (pt (nb ρ1 0))), (3, (pt (nb ρ1 1))), (4, (pt (nb ρ1 2))), (5, (.int .i64 0)), (9, (.bool true))] w0 [(nb ρ1 0, (.cells (cU p) 24 (0, 0))), (nb ρ1 1, (.cells (hB t) 26 (0, 0))), (nb ρ1 2, (.cells (cU 0) 24 (0, 0)))] F
    (fun _ => [(2, (pt (nb ρ1 0))), (3, (pt (nb ρ1 1))), (4, (pt (nb ρ1 2))), (5, (.int .i64 60))])
    (fun _ => [(nb ρ1 0, (.cells (cU p) 24 (0, 0))), (nb ρ1 1, (.cells (hB t) 26 (0, 0))), (nb ρ1 2, (.cells (cU 0) 24 (0, 0)))]) := by
  refine reg_seq [0, 1, 3] [2, 3, 4, 5] 3
    (fun _ ι => ([(U 0), undef, (.int .i64 60)] : List Value).getD ι undef)
    (fun _ ι => ([{}, { puts := [(2, (.cells (cU 0) 24 (0, 0)))] }, {}] : List Eff).getD ι {})
    (by kernel_rfl) (by kernel_rfl) (fun _ => by kernel_rfl) (fun _ => by kernel_rfl) ⟨⟨⟨trivial, ?_⟩, ?_⟩, ?_⟩
  · exact o_run 0 [] [] (fun _ _ => []) (fun _ _ => by kernel_rfl)
  · exact o_run 1 [2] [] (fun _ _ => [nb ρ1 2, nb ρ1 2, nb ρ1 2, nb ρ1 2]) (fun _ _ => by kernel_rfl)
  · exact o_run 2 [] [] (fun _ _ => []) (fun _ _ => by kernel_rfl)
theorem tweak_any_r4 (p : Nat) (t : Nat) (hp : p < M) (ht : t < M) (ρ1 : Nat → Orc) (w0 : World) (F : World → Prop) : Reg Tryd.prog 3 (regOps Tryd.f31 3) true 21 [(2, (pt (nb ρ1 0))), (3, (pt (nb ρ1 1))), (4, (pt (nb ρ1 2))), (5, (.int .i64 0)), (9, (.bool false))] w0 [(nb ρ1 0, (.cells (cU p) 24 (0, 0))), (nb ρ1 1, (.cells (hB t) 26 (0, 0))), (nb ρ1 2, (.cells (cU 0) 24 (0, 0)))] F
    (fun ρ => [(4, (pt (nb ρ1 2))), (5, (.int .i64 0)), (6, (pt (nb ρ 5)))])
    (fun ρ => [(nb ρ1 0, (.cells (cU p) 24 (0, 0))), (nb ρ1 1, (.cells (hB t) 26 (0, 0))), (nb ρ1 2, (.cells (cU 0) 24 (0, 0))), (nb ρ 5, (.cells (cU (mulmN p (expmN 4 (addmN t 0 qP) pP) pP)) 24 (0, 0)))]) := by
  refine reg_drawn [0, 0, 2, 6, 15, 0, 63] [4, 5, 6] 7
    (fun ρ ι => ([(U p), (.agg (hB t)), (U (addmN t 0 qP)), (U (expmN 4 (addmN t 0 qP) pP)), (U (mulmN p (expmN 4 (addmN t 0 qP) pP) pP)), (pt (nb ρ 5)), undef] : List Value).getD ι undef)
    (fun ρ ι => ([{}, {}, {}, {}, {}, { news := [(nb ρ 5, (.cells (cU 0) 24 (0, 0)))] }, { puts := [(43, (.cells (cU (mulmN p (expmN 4 (addmN t 0 qP) pP) pP)) 24 (0, 0)))] }] : List Eff).getD ι {})
    (by kernel_rfl) (by kernel_rfl) (by kernel_rfl) (fun _ => by kernel_rfl) (fun _ => by kernel_rfl) ⟨⟨⟨⟨⟨⟨⟨trivial, ?_⟩, ?_⟩, ?_⟩, ?_⟩, ?_⟩, ?_⟩, ?_⟩
  · exact o_run 0 [0] [] (fun _ _ => [nb ρ1 0, nb ρ1 0, nb ρ1 0, nb ρ1 0]) (fun _ _ => by kernel_rfl)
  · exact o_run 1 [1] [] (fun _ _ => [nb ρ1 1, nb ρ1 1, nb ρ1 1, nb ρ1 1, nb ρ1 1, nb ρ1 1, nb ρ1 1, nb ρ1 1, nb ρ1 1, nb ρ1 1, nb ρ1 1, nb ρ1 1, nb ρ1 1, nb ρ1 1, nb ρ1 1, nb ρ1 1, nb ρ1 1, nb ρ1 1, nb ρ1 1, nb ρ1 1, nb ρ1 1, nb ρ1 1, nb ρ1 1, nb ρ1 1, nb ρ1 1, nb ρ1 1, nb ρ1 1, nb ρ1 1, nb ρ1 1, nb ρ1 1, nb ρ1 1, nb ρ1 1]) (fun _ _ => by kernel_rfl)
  · exact o_call 2 43 (fun _ => #[(.agg (hB t))]) (fun _ => (U (addmN t 0 qP))) (fun _ _ => by kernel_rfl) (fun _ w => (fun w => gscalar_any t w ht) w)
  · exact o_call 3 36 (fun _ => #[(U (addmN t 0 qP))]) (fun _ => (U (expmN 4 (addmN t 0 qP) pP))) (fun _ _ => by kernel_rfl) (fun _ w => (fun w => gpower_any (addmN t 0 qP) w (addmN_lt _ _ qP_lt)) w)
  · exact o_call 4 57 (fun _ => #[(U p), (U (expmN 4 (addmN t 0 qP) pP))]) (fun _ => (U (mulmN p (expmN 4 (addmN t 0 qP) pP) pP))) (fun _ _ => by kernel_rfl) (fun _ w => (fun w => gmul_any p (expmN 4 (addmN t 0 qP) pP) w hp (expmN_lt _ _ pP_lt)) w)
  · exact o_run 5 [] [] (fun _ _ => []) (fun _ _ => by kernel_rfl)
  · exact o_run 6 [43] [] (fun ρ _ => [nb ρ 5, nb ρ 5, nb ρ 5, nb ρ 5]) (fun _ _ => by kernel_rfl)
theorem tweak_any_r5 (p : Nat) (t : Nat) (ρ1 : Nat → Orc) (ρ4 : Nat → Orc) (w0 : World) (F : World → Prop) : Reg Tryd.prog 4 (regOps Tryd.f31 4) true 21 [(4, (pt (nb ρ1 2))), (5, (.int .i64 0)), (6, (pt (nb ρ4 5)))] w0 [(nb ρ1 0, (.cells (cU p) 24 (0, 0))), (nb ρ1 1, (.cells (hB t) 26 (0, 0))), (nb ρ1 2, (.cells (cU 0) 24 (0, 0))), (nb ρ4 5, (.cells (cU (mulmN p (expmN 4 (addmN t 0 qP) pP) pP)) 24 (0, 0)))] F
    (fun _ => [(4, (pt (nb ρ1 2))), (5, (.int .i64 0)), (6, (pt (nb ρ4 5))), (18, (.bool (decide (mulmN p (expmN 4 (addmN t 0 qP) pP) pP = 1))))])
    (fun _ => [(nb ρ1 0, (.cells (cU p) 24 (0, 0))), (nb ρ1 1, (.cells (hB t) 26 (0, 0))), (nb ρ1 2, (.cells (cU 0) 24 (0, 0))), (nb ρ4 5, (.cells (cU (mulmN p (expmN 4 (addmN t 0 qP) pP) pP)) 24 (0, 0)))]) := by
  refine reg_drawn [0, 0, 3] [4, 5, 6, 18] 3
    (fun _ ι => ([(U (mulmN p (expmN 4 (addmN t 0 qP) pP) pP)), (U 1), (.bool (decide (mulmN p (expmN 4 (addmN t 0 qP) pP) pP = 1)))] : List Value).getD ι undef)
    (fun _ ι => ([{}, {}, {}] : List Eff).getD ι {})
    (by kernel_rfl) (by kernel_rfl) (by kernel_rfl) (fun _ => by kernel_rfl) (fun _ => by kernel_rfl) ⟨⟨⟨trivial, ?_⟩, ?_⟩, ?_⟩
  · exact o_run 0 [3] [] (fun _ _ => [nb ρ4 5, nb ρ4 5, nb ρ4 5, nb ρ4 5]) (fun _ _ => by kernel_rfl)
  · exact o_call 1 39 (fun _ => #[(.int .u64 1)]) (fun _ => (U 1)) (fun _ _ => by kernel_rfl) (fun _ w => (fun w => fromuint_lit 1 w (by decide)) w)
  · exact o_bin 2 .eql 24 (fun _ => (U (mulmN p (expmN 4 (addmN t 0 qP) pP) pP))) (fun _ => (U 1)) (fun _ => (.bool (decide (mulmN p (expmN 4 (addmN t 0 qP) pP) pP = 1)))) (fun _ => by kernel_rfl) (fun _ _ _ _ => by kernel_rfl) (fun _ _ => eqlU (mulmN p (expmN 4 (addmN t 0 qP) pP) pP) 1 (mulmN_lt _ _ pP_lt) (by decide +kernel) _)
theorem tweak_any_r6 (p : Nat) (t : Nat) (ρ1 : Nat → Orc) (ρ4 : Nat → Orc) (w0 : World) (F : World → Prop) : Reg Tryd.prog 5 (regOps Tryd.f31 5) false 21 [(4, (pt (nb ρ1 2))), (5, (.int .i64 0)), (6, (pt (nb ρ4 5))), (18, (.bool true))] w0 [(nb ρ1 0, (.cells (cU p) 24 (0, 0))), (nb ρ1 1, (.cells (hB t) 26 (0, 0))), (nb ρ1 2, (.cells (cU 0) 24 (0, 0))), (nb ρ4 5, (.cells (cU (mulmN p (expmN 4 (addmN t 0 qP) pP) pP)) 24 (0, 0)))] F
    (fun _ => [(4, (pt (nb ρ1 2))), (5, (.int .i64 5)), (6, (pt (nb ρ4 5)))])
    (fun _ => [(nb ρ1 0, (.cells (cU p) 24 (0, 0))), (nb ρ1 1, (.cells (hB t) 26 (0, 0))), (nb ρ1 2, (.cells (cU 0) 24 (0, 0))), (nb ρ4 5, (.cells (cU (mulmN p (expmN 4 (addmN t 0 qP) pP) pP)) 24 (0, 0)))]) := by
  refine reg_seq [0, 1, 3] [4, 5, 6] 3
    (fun _ ι => ([(U 0), undef, (.int .i64 5)] : List Value).getD ι undef)
    (fun _ ι => ([{}, { puts := [(2, (.cells (cU 0) 24 (0, 0)))] }, {}] : List Eff).getD ι {})
    (by kernel_rfl) (by kernel_rfl) (fun _ => by kernel_rfl) (fun _ => by kernel_rfl) ⟨⟨⟨trivial, ?_⟩, ?_⟩, ?_⟩
  · exact o_run 0 [] [] (fun _ _ => []) (fun _ _ => by kernel_rfl)
  · exact o_run 1 [2] [] (fun _ _ => [nb ρ1 2, nb ρ1 2, nb ρ1 2, nb ρ1 2]) (fun _ _ => by kernel_rfl)
  · exact o_run 2 [] [] (fun _ _ => []) (fun _ _ => by kernel_rfl)
theorem tweak_any_r7 (p : Nat) (t : Nat) (ρ1 : Nat → Orc) (ρ4 : Nat → Orc) (w0 : World) (F : World → Prop) : Reg Tryd.prog 6 (regOps Tryd.f31 6) false 21 [(4, (pt (nb ρ1 2))), (5, (.int .i64 0)), (6, (pt (nb ρ4 5))), (18, (.bool false))] w0 [(nb ρ1 0, (.cells (cU p) 24 (0, 0))), (nb ρ1 1, (.cells (hB t) 26 (0, 0))), (nb ρ1 2, (.cells (cU 0) 24 (0, 0))), (nb ρ4 5, (.cells (cU (mulmN p (expmN 4 (addmN t 0 qP) pP) pP)) 24 (0, 0)))] F
    (fun _ => [(4, (pt (nb ρ1 2))), (5, (.int .i64 0))])
    (fun _ => [(nb ρ1 0, (.cells (cU p) 24 (0, 0))), (nb ρ1 1, (.cells (hB t) 26 (0, 0))), (nb ρ1 2, (.cells (cU (mulmN p (expmN 4 (addmN t 0 qP) pP) pP)) 24 (0, 0))), (nb ρ4 5, (.cells (cU (mulmN p (expmN 4 (addmN t 0 qP) pP) pP)) 24 (0, 0)))]) := by
  refine reg_seq [0, 1, 3] [4, 5] 3
    (fun _ ι => ([(U (mulmN p (expmN 4 (addmN t 0 qP) pP) pP)), undef, (.int .i64 0)] : List Value).getD ι undef)
    (fun _ ι => ([{}, { puts := [(2, (.cells (cU (mulmN p (expmN 4 (addmN t 0 qP) pP) pP)) 24 (0, 0)))] }, {}] : List Eff).getD ι {})
    (by kernel_rfl) (by kernel_rfl) (fun _ => by kernel_rfl) (fun _ => by kernel_rfl) ⟨⟨⟨trivial, ?_⟩, ?_⟩, ?_⟩
  · exact o_run 0 [3] [] (fun _ _ => [nb ρ4 5, nb ρ4 5, nb ρ4 5, nb ρ4 5]) (fun _ _ => by kernel_rfl)
  · exact o_run 1 [2] [] (fun _ _ => [nb ρ1 2, nb ρ1 2, nb ρ1 2, nb ρ1 2]) (fun _ _ => by kernel_rfl)
  · exact o_run 2 [] [] (fun _ _ => []) (fun _ _ => by kernel_rfl)
theorem tweak_any (p : Nat) (t : Nat) (hp : p < M) (ht : t < M) (w0 : World) : Calls Tryd.prog 31 #[(U p), (.agg (hB t))] w0 (fun ε w' => ε = .returned (.tuple #[(U (twV p t)), (.int .i64 (twE p t))]) ∧ Below w0.heap.size w0 w') := by
  refine Calls.of_ok (n := 21) (F := (fun _ => True)) Tryd.func31 rfl rfl rfl (by simp) (persTrue (fun _ => trivial)) ?_
  refine ok_seq_r (by kernel_rfl) (tweak_any_r1 p t _ _) (fun ρ1 => ?_)
  refine ok_seq ?_
  refine ok_seq_r (by kernel_rfl) (tweak_any_r2 p t hp ρ1 _ _) (fun _ => ?_)
  refine ok_cond (b := !(valB p)) (by kernel_rfl) (fun hb1 => ?_) (fun hb1 => ?_)
  ·
    rw [hb1]
    refine ok_seq_r (by kernel_rfl) (tweak_any_r3 p t ρ1 _ _) (fun _ => ?_)
    refine ok_ret ?_
    refine mt_then_r ?_
    exact meets_ret (v := (.tuple #[(U 0), (.int .i64 60)])) [2, 2, 2, 2] (dup [nb ρ1 2, nb ρ1 2, nb ρ1 2, nb ρ1 2]) (by kernel_rfl) (by kernel_rfl) (eqs_dup _) (fun _ hS => ⟨by rw [(tw_a (not_t hb1)).1, (tw_a (not_t hb1)).2], hS.below⟩)
  ·
    rw [hb1]
    refine ok_skip ?_
    refine mt_then ?_
    refine ok_seq_r (by kernel_rfl) (tweak_any_r4 p t hp ht ρ1 _ _) (fun ρ4 => ?_)
    refine ok_seq ?_
    refine ok_seq_r (by kernel_rfl) (tweak_any_r5 p t ρ1 ρ4 _ _) (fun _ => ?_)
    refine ok_cond (b := decide (mulmN p (expmN 4 (addmN t 0 qP) pP) pP = 1)) (by kernel_rfl) (fun hb2 => ?_) (fun hb2 => ?_)
    ·
      rw [hb2]
      refine ok_seq_r (by kernel_rfl) (tweak_any_r6 p t ρ1 ρ4 _ _) (fun _ => ?_)
      refine ok_ret ?_
      refine mt_then_r ?_
      exact meets_ret (v := (.tuple #[(U 0), (.int .i64 5)])) [2, 2, 2, 2] (dup [nb ρ1 2, nb ρ1 2, nb ρ1 2, nb ρ1 2]) (by kernel_rfl) (by kernel_rfl) (eqs_dup _) (fun _ hS => ⟨by rw [(tw_b (t := t) (not_f hb1) (of_decide_eq_true hb2)).1, (tw_b (t := t) (not_f hb1) (of_decide_eq_true hb2)).2], hS.below⟩)
    ·
      rw [hb2]
      refine ok_skip ?_
      refine mt_then ?_
      refine ok_seq_r (by kernel_rfl) (tweak_any_r7 p t ρ1 ρ4 _ _) (fun _ => ?_)
      refine ok_ret ?_
      exact meets_ret (v := (.tuple #[(U (mulmN p (expmN 4 (addmN t 0 qP) pP) pP)), (.int .i64 0)])) [2, 2, 2, 2] (dup [nb ρ1 2, nb ρ1 2, nb ρ1 2, nb ρ1 2]) (by kernel_rfl) (by kernel_rfl) (eqs_dup _) (fun _ hS => ⟨by rw [(tw_c (t := t) (not_f hb1) (of_decide_eq_false hb2)).1, (tw_c (t := t) (not_f hb1) (of_decide_eq_false hb2)).2]; rfl, hS.below⟩)
theorem tweaksecret_any_r1 (x : Nat) (t : Nat) (w0 : World) (F : World → Prop) : Reg Tryd.prog 0 (regOps Tryd.f33 0) false 20 [(0, (U x)), (1, (.agg (hB t)))] w0 [] F
    (fun ρ => [(2, (pt (nb ρ 0))), (3, (pt (nb ρ 1))), (4, (pt (nb ρ 2))), (5, (.int .i64 0))])
    (fun ρ => [(nb ρ 0, (.cells (cU x) 24 (0, 0))), (nb ρ 1, (.cells (hB t) 26 (0, 0))), (nb ρ 2, (.cells (cU 0) 24 (0, 0)))]) := by
  refine reg_seq [0, 1, 3, 7] [2, 3, 4, 5] 4
    (fun ρ ι => ([(pt (nb ρ 0)), (pt (nb ρ 1)), (pt (nb ρ 2)), (.int .i64 0)] : List Value).getD ι undef)
    (fun ρ ι => ([{ news := [(nb ρ 0, (.cells (cU x) 24 (0, 0)))] }, { news := [(nb ρ 1, (.cells (hB t) 26 (0, 0)))] }, { news := [(nb ρ 2, (.cells (cU 0) 24 (0, 0)))] }, {}] : List Eff).getD ι {})
    (by kernel_rfl) (by kernel_rfl) (fun _ => by kernel_rfl) (fun _ => by kernel_rfl) ⟨⟨⟨⟨trivial, ?_⟩, ?_⟩, ?_⟩, ?_⟩
  · exact o_run 0 [] [] (fun _ _ => []) (fun _ _ => by kernel_rfl)
  · exact o_run 1 [] [] (fun _ _ => []) (fun _ _ => by kernel_rfl)
  · exact o_run 2 [] [] (fun _ _ => []) (fun _ _ => by kernel_rfl)
  · exact o_run 3 [] [] (fun _ _ => []) (fun _ _ => by kernel_rfl)
theorem tweaksecret_any_r2 (x : Nat) (t : Nat) (hx : x < M) (ρ1 : Nat → Orc) (w0 : World) (F : World → Prop) : Reg Tryd.prog 1 (regOps Tryd.f33 1) false 20 [(2, (pt (nb ρ1 0))), (3, (pt (nb ρ1 1))), (4, (pt (nb ρ1 2))), (5, (.int .i64 0))] w0 [(nb ρ1 0, (.cells (cU x) 24 (0, 0))), (nb ρ1 1, (.cells (hB t) 26 (0, 0))), (nb ρ1 2, (.cells (cU 0) 24 (0, 0)))] F
    (fun _ => [(2, (pt (nb ρ1 0))), (3, (pt (nb ρ1 1))), (4, (pt (nb ρ1 2))), (5, (.int .i64 0)), (9, (.bool (!(secB x))))])
    (fun _ => [(nb ρ1 0, (.cells (cU x) 24 (0, 0))), (nb ρ1 1, (.cells (hB t) 26 (0, 0))), (nb ρ1 2, (.cells (cU 0) 24 (0, 0)))]) := by
  refine reg_seq [0, 1, 3] [2, 3, 4, 5, 9] 3
    (fun _ ι => ([(U x), (.bool (secB x)), (.bool (!(secB x)))] : List Value).getD ι undef)
    (fun _ ι => ([{}, {}, {}] : List Eff).getD ι {})
    (by kernel_rfl) (by kernel_rfl) (fun _ => by kernel_rfl) (fun _ => by kernel_rfl) ⟨⟨⟨trivial, ?_⟩, ?_⟩, ?_⟩
  · exact o_run 0 [0] [] (fun _ _ => [nb ρ1 0, nb ρ1 0, nb ρ1 0, nb ρ1 0]) (fun _ _ => by kernel_rfl)
  · exact o_call 1 35 (fun _ => #[(U x)]) (fun _ => (.bool (secB x))) (fun _ _ => by kernel_rfl) (fun _ w => (fun w => secret_any x hx w) w)
  · exact o_run 2 [] [] (fun _ _ => []) (fun _ _ => by kernel_rfl)
theorem tweaksecret_any_r3 (x : Nat) (t : Nat) (ρ1 : Nat → Orc) (w0 : World) (F : World → Prop) : Reg Tryd.prog 2 (regOps Tryd.f33 2) false 20 [(2, (pt (nb ρ1 0))), (3, (pt (nb ρ1 1))), (4, (pt (nb ρ1 2))), (5, (.int .i64 0)), (9, (.bool true))] w0 [(nb ρ1 0, (.cells (cU x) 24 (0, 0))), (nb ρ1 1, (.cells (hB t) 26 (0, 0))), (nb ρ1 2, (.cells (cU 0) 24 (0, 0)))] F
    (fun _ => [(2, (pt (nb ρ1 0))), (3, (pt (nb ρ1 1))), (4, (pt (nb ρ1 2))), (5, (.int .i64 60))])
    (fun _ => [(nb ρ1 0, (.cells (cU x) 24 (0, 0))), (nb ρ1 1, (.cells (hB t) 26 (0, 0))), (nb ρ1 2, (.cells (cU 0) 24 (0, 0)))]) := by
  refine reg_seq [0, 1, 3] [2, 3, 4, 5] 3
    (fun _ ι => ([(U 0), undef, (.int .i64 60)] : List Value).getD ι undef)
    (fun _ ι => ([{}, { puts := [(2, (.cells (cU 0) 24 (0, 0)))] }, {}] : List Eff).getD ι {})
    (by kernel_rfl) (by kernel_rfl) (fun _ => by kernel_rfl) (fun _ => by kernel_rfl) ⟨⟨⟨trivial, ?_⟩, ?_⟩, ?_⟩
  · exact o_run 0 [] [] (fun _ _ => []) (fun _ _ => by kernel_rfl)
  · exact o_run 1 [2] [] (fun _ _ => [nb ρ1 2, nb ρ1 2, nb ρ1 2, nb ρ1 2]) (fun _ _ => by kernel_rfl)
  · exact o_run 2 [] [] (fun _ _ => []) (fun _ _ => by kernel_rfl)
theorem tweaksecret_any_r4 (x : Nat) (t : Nat) (hx : x < M) (ht : t < M) (ρ1 : Nat → Orc) (w0 : World) (F : World → Prop) : Reg Tryd.prog 3 (regOps Tryd.f33 3) true 20 [(2, (pt (nb ρ1 0))), (3, (pt (nb ρ1 1))), (4, (pt (nb ρ1 2))), (5, (.int .i64 0)), (9, (.bool false))] w0 [(nb ρ1 0, (.cells (cU x) 24 (0, 0))), (nb ρ1 1, (.cells (hB t) 26 (0, 0))), (nb ρ1 2, (.cells (cU 0) 24 (0, 0)))] F
    (fun ρ => [(4, (pt (nb ρ1 2))), (5, (.int .i64 0)), (6, (pt (nb ρ 4)))])
    (fun ρ => [(nb ρ1 0, (.cells (cU x) 24 (0, 0))), (nb ρ1 1, (.cells (hB t) 26 (0, 0))), (nb ρ1 2, (.cells (cU 0) 24 (0, 0))), (nb ρ 4, (.cells (cU (addmN x (addmN t 0 qP) qP)) 24 (0, 0)))]) := by
  refine reg_drawn [0, 0, 2, 7, 0, 31] [4, 5, 6] 6
    (fun ρ ι => ([(U x), (.agg (hB t)), (U (addmN t 0 qP)), (U (addmN x (addmN t 0 qP) qP)), (pt (nb ρ 4)), undef] : List Value).getD ι undef)
    (fun ρ ι => ([{}, {}, {}, {}, { news := [(nb ρ 4, (.cells (cU 0) 24 (0, 0)))] }, { puts := [(35, (.cells (cU (addmN x (addmN t 0 qP) qP)) 24 (0, 0)))] }] : List Eff).getD ι {})
    (by kernel_rfl) (by kernel_rfl) (by kernel_rfl) (fun _ => by kernel_rfl) (fun _ => by kernel_rfl) ⟨⟨⟨⟨⟨⟨trivial, ?_⟩, ?_⟩, ?_⟩, ?_⟩, ?_⟩, ?_⟩
  · exact o_run 0 [0] [] (fun _ _ => [nb ρ1 0, nb ρ1 0, nb ρ1 0, nb ρ1 0]) (fun _ _ => by kernel_rfl)
  · exact o_run 1 [1] [] (fun _ _ => [nb ρ1 1, nb ρ1 1, nb ρ1 1, nb ρ1 1, nb ρ1 1, nb ρ1 1, nb ρ1 1, nb ρ1 1, nb ρ1 1, nb ρ1 1, nb ρ1 1, nb ρ1 1, nb ρ1 1, nb ρ1 1, nb ρ1 1, nb ρ1 1, nb ρ1 1, nb ρ1 1, nb ρ1 1, nb ρ1 1, nb ρ1 1, nb ρ1 1, nb ρ1 1, nb ρ1 1, nb ρ1 1, nb ρ1 1, nb ρ1 1, nb ρ1 1, nb ρ1 1, nb ρ1 1, nb ρ1 1, nb ρ1 1]) (fun _ _ => by kernel_rfl)
  · exact o_call 2 43 (fun _ => #[(.agg (hB t))]) (fun _ => (U (addmN t 0 qP))) (fun _ _ => by kernel_rfl) (fun _ w => (fun w => gscalar_any t w ht) w)
  · exact o_call 3 51 (fun _ => #[(U x), (U (addmN t 0 qP))]) (fun _ => (U (addmN x (addmN t 0 qP) qP))) (fun _ _ => by kernel_rfl) (fun _ w => (fun w => gaddscalar_any x (addmN t 0 qP) w hx (addmN_lt _ _ qP_lt)) w)
  · exact o_run 4 [] [] (fun _ _ => []) (fun _ _ => by kernel_rfl)
  · exact o_run 5 [35] [] (fun ρ _ => [nb ρ 4, nb ρ 4, nb ρ 4, nb ρ 4]) (fun _ _ => by kernel_rfl)
theorem tweaksecret_any_r5 (x : Nat) (t : Nat) (ρ1 : Nat → Orc) (ρ4 : Nat → Orc) (w0 : World) (F : World → Prop) : Reg Tryd.prog 4 (regOps Tryd.f33 4) false 20 [(4, (pt (nb ρ1 2))), (5, (.int .i64 0)), (6, (pt (nb ρ4 4)))] w0 [(nb ρ1 0, (.cells (cU x) 24 (0, 0))), (nb ρ1 1, (.cells (hB t) 26 (0, 0))), (nb ρ1 2, (.cells (cU 0) 24 (0, 0))), (nb ρ4 4, (.cells (cU (addmN x (addmN t 0 qP) qP)) 24 (0, 0)))] F
    (fun _ => [(4, (pt (nb ρ1 2))), (5, (.int .i64 0)), (6, (pt (nb ρ4 4))), (17, (.bool (decide (addmN x (addmN t 0 qP) qP = 0))))])
    (fun _ => [(nb ρ1 0, (.cells (cU x) 24 (0, 0))), (nb ρ1 1, (.cells (hB t) 26 (0, 0))), (nb ρ1 2, (.cells (cU 0) 24 (0, 0))), (nb ρ4 4, (.cells (cU (addmN x (addmN t 0 qP) qP)) 24 (0, 0)))]) := by
  refine reg_seq [0, 1, 3] [4, 5, 6, 17] 3
    (fun _ ι => ([(U (addmN x (addmN t 0 qP) qP)), (U 0), (.bool (decide (addmN x (addmN t 0 qP) qP = 0)))] : List Value).getD ι undef)
    (fun _ ι => ([{}, {}, {}] : List Eff).getD ι {})
    (by kernel_rfl) (by kernel_rfl) (fun _ => by kernel_rfl) (fun _ => by kernel_rfl) ⟨⟨⟨trivial, ?_⟩, ?_⟩, ?_⟩
  · exact o_run 0 [3] [] (fun _ _ => [nb ρ4 4, nb ρ4 4, nb ρ4 4, nb ρ4 4]) (fun _ _ => by kernel_rfl)
  · exact o_run 1 [] [] (fun _ _ => []) (fun _ _ => by kernel_rfl)
  · exact o_bin 2 .eql 24 (fun _ => (U (addmN x (addmN t 0 qP) qP))) (fun _ => (U 0)) (fun _ => (.bool (decide (addmN x (addmN t 0 qP) qP = 0)))) (fun _ => by kernel_rfl) (fun _ _ _ _ => by kernel_rfl) (fun _ _ => eqlU (addmN x (addmN t 0 qP) qP) 0 (addmN_lt _ _ qP_lt) (by decide +kernel) _)
theorem tweaksecret_any_r6 (x : Nat) (t : Nat) (ρ1 : Nat → Orc) (ρ4 : Nat → Orc) (w0 : World) (F : World → Prop) : Reg Tryd.prog 5 (regOps Tryd.f33 5) false 20 [(4, (pt (nb ρ1 2))), (5, (.int .i64 0)), (6, (pt (nb ρ4 4))), (17, (.bool true))] w0 [(nb ρ1 0, (.cells (cU x) 24 (0, 0))), (nb ρ1 1, (.cells (hB t) 26 (0, 0))), (nb ρ1 2, (.cells (cU 0) 24 (0, 0))), (nb ρ4 4, (.cells (cU (addmN x (addmN t 0 qP) qP)) 24 (0, 0)))] F
    (fun _ => [(4, (pt (nb ρ1 2))), (5, (.int .i64 5)), (6, (pt (nb ρ4 4)))])
    (fun _ => [(nb ρ1 0, (.cells (cU x) 24 (0, 0))), (nb ρ1 1, (.cells (hB t) 26 (0, 0))), (nb ρ1 2, (.cells (cU 0) 24 (0, 0))), (nb ρ4 4, (.cells (cU (addmN x (addmN t 0 qP) qP)) 24 (0, 0)))]) := by
  refine reg_seq [0, 1, 3] [4, 5, 6] 3
    (fun _ ι => ([(U 0), undef, (.int .i64 5)] : List Value).getD ι undef)
    (fun _ ι => ([{}, { puts := [(2, (.cells (cU 0) 24 (0, 0)))] }, {}] : List Eff).getD ι {})
    (by kernel_rfl) (by kernel_rfl) (fun _ => by kernel_rfl) (fun _ => by kernel_rfl) ⟨⟨⟨trivial, ?_⟩, ?_⟩, ?_⟩
  · exact o_run 0 [] [] (fun _ _ => []) (fun _ _ => by kernel_rfl)
  · exact o_run 1 [2] [] (fun _ _ => [nb ρ1 2, nb ρ1 2, nb ρ1 2, nb ρ1 2]) (fun _ _ => by kernel_rfl)
  · exact o_run 2 [] [] (fun _ _ => []) (fun _ _ => by kernel_rfl)
theorem tweaksecret_any_r7 (x : Nat) (t : Nat) (ρ1 : Nat → Orc) (ρ4 : Nat → Orc) (w0 : World) (F : World → Prop) : Reg Tryd.prog 6 (regOps Tryd.f33 6) false 20 [(4, (pt (nb ρ1 2))), (5, (.int .i64 0)), (6, (pt (nb ρ4 4))), (17, (.bool false))] w0 [(nb ρ1 0, (.cells (cU x) 24 (0, 0))), (nb ρ1 1, (.cells (hB t) 26 (0, 0))), (nb ρ1 2, (.cells (cU 0) 24 (0, 0))), (nb ρ4 4, (.cells (cU (addmN x (addmN t 0 qP) qP)) 24 (0, 0)))] F
    (fun _ => [(4, (pt (nb ρ1 2))), (5, (.int .i64 0))])
    (fun _ => [(nb ρ1 0, (.cells (cU x) 24 (0, 0))), (nb ρ1 1, (.cells (hB t) 26 (0, 0))), (nb ρ1 2, (.cells (cU (addmN x (addmN t 0 qP) qP)) 24 (0, 0))), (nb ρ4 4, (.cells (cU (addmN x (addmN t 0 qP) qP)) 24 (0, 0)))]) := by
  refine reg_seq [0, 1, 3] [4, 5] 3
    (fun _ ι => ([(U (addmN x (addmN t 0 qP) qP)), undef, (.int .i64 0)] : List Value).getD ι undef)
    (fun _ ι => ([{}, { puts := [(2, (.cells (cU (addmN x (addmN t 0 qP) qP)) 24 (0, 0)))] }, {}] : List Eff).getD ι {})
    (by kernel_rfl) (by kernel_rfl) (fun _ => by kernel_rfl) (fun _ => by kernel_rfl) ⟨⟨⟨trivial, ?_⟩, ?_⟩, ?_⟩
  · exact o_run 0 [3] [] (fun _ _ => [nb ρ4 4, nb ρ4 4, nb ρ4 4, nb ρ4 4]) (fun _ _ => by kernel_rfl)
  · exact o_run 1 [2] [] (fun _ _ => [nb ρ1 2, nb ρ1 2, nb ρ1 2, nb ρ1 2]) (fun _ _ => by kernel_rfl)
  · exact o_run 2 [] [] (fun _ _ => []) (fun _ _ => by kernel_rfl)
theorem tweaksecret_any (x : Nat) (t : Nat) (hx : x < M) (ht : t < M) (w0 : World) : Calls Tryd.prog 33 #[(U x), (.agg (hB t))] w0 (fun ε w' => ε = .returned (.tuple #[(U (tsV x t)), (.int .i64 (tsE x t))]) ∧ Below w0.heap.size w0 w') := by
  refine Calls.of_ok (n := 20) (F := (fun _ => True)) Tryd.func33 rfl rfl rfl (by simp) (persTrue (fun _ => trivial)) ?_
  refine ok_seq_r (by kernel_rfl) (tweaksecret_any_r1 x t _ _) (fun ρ1 => ?_)
  refine ok_seq ?_
  refine ok_seq_r (by kernel_rfl) (tweaksecret_any_r2 x t hx ρ1 _ _) (fun _ => ?_)
  refine ok_cond (b := !(secB x)) (by kernel_rfl) (fun hb1 => ?_) (fun hb1 => ?_)
  ·
    rw [hb1]
    refine ok_seq_r (by kernel_rfl) (tweaksecret_any_r3 x t ρ1 _ _) (fun _ => ?_)
    refine ok_ret ?_
    refine mt_then_r ?_
    exact meets_ret (v := (.tuple #[(U 0), (.int .i64 60)])) [2, 2, 2, 2] (dup [nb ρ1 2, nb ρ1 2, nb ρ1 2, nb ρ1 2]) (by kernel_rfl) (by kernel_rfl) (eqs_dup _) (fun _ hS => ⟨by rw [(ts_a (not_t hb1)).1, (ts_a (not_t hb1)).2], hS.below⟩)
  ·
    rw [hb1]
    refine ok_skip ?_
    refine mt_then ?_
    refine ok_seq_r (by kernel_rfl) (tweaksecret_any_r4 x t hx ht ρ1 _ _) (fun ρ4 => ?_)
    refine ok_seq ?_
    refine ok_seq_r (by kernel_rfl) (tweaksecret_any_r5 x t ρ1 ρ4 _ _) (fun _ => ?_)
    refine ok_cond (b := decide (addmN x (addmN t 0 qP) qP = 0)) (by kernel_rfl) (fun hb2 => ?_) (fun hb2 => ?_)
    ·
      rw [hb2]
      refine ok_seq_r (by kernel_rfl) (tweaksecret_any_r6 x t ρ1 ρ4 _ _) (fun _ => ?_)
      refine ok_ret ?_
      refine mt_then_r ?_
      exact meets_ret (v := (.tuple #[(U 0), (.int .i64 5)])) [2, 2, 2, 2] (dup [nb ρ1 2, nb ρ1 2, nb ρ1 2, nb ρ1 2]) (by kernel_rfl) (by kernel_rfl) (eqs_dup _) (fun _ hS => ⟨by rw [(ts_b (t := t) (not_f hb1) (of_decide_eq_true hb2)).1, (ts_b (t := t) (not_f hb1) (of_decide_eq_true hb2)).2], hS.below⟩)
    ·
      rw [hb2]
      refine ok_skip ?_
      refine mt_then ?_
      refine ok_seq_r (by kernel_rfl) (tweaksecret_any_r7 x t ρ1 ρ4 _ _) (fun _ => ?_)
      refine ok_ret ?_
      exact meets_ret (v := (.tuple #[(U (addmN x (addmN t 0 qP) qP)), (.int .i64 0)])) [2, 2, 2, 2] (dup [nb ρ1 2, nb ρ1 2, nb ρ1 2, nb ρ1 2]) (by kernel_rfl) (by kernel_rfl) (eqs_dup _) (fun _ hS => ⟨by rw [(ts_c (t := t) (not_f hb1) (of_decide_eq_false hb2)).1, (ts_c (t := t) (not_f hb1) (of_decide_eq_false hb2)).2]; rfl, hS.below⟩)
theorem rpublic_any_r1 (x : Nat) (w0 : World) (F : World → Prop) : Reg Tryd.prog 0 (regOps Tryd.f11 0) false 10 [(0, (U x))] w0 [] F
    (fun ρ => [(1, (pt (nb ρ 0))), (2, (pt (nb ρ 1))), (3, (.int .i64 0))])
    (fun ρ => [(nb ρ 0, (.cells (cU x) 24 (0, 0))), (nb ρ 1, (.cells (cU 0) 24 (0, 0)))]) := by
  refine reg_seq [0, 1, 3] [1, 2, 3] 3
    (fun ρ ι => ([(pt (nb ρ 0)), (pt (nb ρ 1)), (.int .i64 0)] : List Value).getD ι undef)
    (fun ρ ι => ([{ news := [(nb ρ 0, (.cells (cU x) 24 (0, 0)))] }, { news := [(nb ρ 1, (.cells (cU 0) 24 (0, 0)))] }, {}] : List Eff).getD ι {})
    (by kernel_rfl) (by kernel_rfl) (fun _ => by kernel_rfl) (fun _ => by kernel_rfl) ⟨⟨⟨trivial, ?_⟩, ?_⟩, ?_⟩
  · exact o_run 0 [] [] (fun _ _ => []) (fun _ _ => by kernel_rfl)
  · exact o_run 1 [] [] (fun _ _ => []) (fun _ _ => by kernel_rfl)
  · exact o_run 2 [] [] (fun _ _ => []) (fun _ _ => by kernel_rfl)
theorem rpublic_any_r2 (x : Nat) (hx : x < M) (ρ1 : Nat → Orc) (w0 : World) (F : World → Prop) : Reg Tryd.prog 1 (regOps Tryd.f11 1) false 10 [(1, (pt (nb ρ1 0))), (2, (pt (nb ρ1 1))), (3, (.int .i64 0))] w0 [(nb ρ1 0, (.cells (cU x) 24 (0, 0))), (nb ρ1 1, (.cells (cU 0) 24 (0, 0)))] F
    (fun _ => [(1, (pt (nb ρ1 0))), (2, (pt (nb ρ1 1))), (3, (.int .i64 0)), (6, (.bool (!(secB x))))])
    (fun _ => [(nb ρ1 0, (.cells (cU x) 24 (0, 0))), (nb ρ1 1, (.cells (cU 0) 24 (0, 0)))]) := by
  refine reg_seq [0, 1, 3] [1, 2, 3, 6] 3
    (fun _ ι => ([(U x), (.bool (secB x)), (.bool (!(secB x)))] : List Value).getD ι undef)
    (fun _ ι => ([{}, {}, {}] : List Eff).getD ι {})
    (by kernel_rfl) (by kernel_rfl) (fun _ => by kernel_rfl) (fun _ => by kernel_rfl) ⟨⟨⟨trivial, ?_⟩, ?_⟩, ?_⟩
  · exact o_run 0 [0] [] (fun _ _ => [nb ρ1 0, nb ρ1 0, nb ρ1 0, nb ρ1 0]) (fun _ _ => by kernel_rfl)
  · exact o_call 1 37 (fun _ => #[(U x)]) (fun _ => (.bool (secB x))) (fun _ _ => by kernel_rfl) (fun _ w => (fun w => rsecret_any x hx w) w)
  · exact o_run 2 [] [] (fun _ _ => []) (fun _ _ => by kernel_rfl)
theorem rpublic_any_r3 (x : Nat) (ρ1 : Nat → Orc) (w0 : World) (F : World → Prop) : Reg Tryd.prog 2 (regOps Tryd.f11 2) false 10 [(1, (pt (nb ρ1 0))), (2, (pt (nb ρ1 1))), (3, (.int .i64 0)), (6, (.bool true))] w0 [(nb ρ1 0, (.cells (cU x) 24 (0, 0))), (nb ρ1 1, (.cells (cU 0) 24 (0, 0)))] F
    (fun _ => [(1, (pt (nb ρ1 0))), (2, (pt (nb ρ1 1))), (3, (.int .i64 60))])
    (fun _ => [(nb ρ1 0, (.cells (cU x) 24 (0, 0))), (nb ρ1 1, (.cells (cU 0) 24 (0, 0)))]) := by
  refine reg_seq [0, 1, 3] [1, 2, 3] 3
    (fun _ ι => ([(U 0), undef, (.int .i64 60)] : List Value).getD ι undef)
    (fun _ ι => ([{}, { puts := [(1, (.cells (cU 0) 24 (0, 0)))] }, {}] : List Eff).getD ι {})
    (by kernel_rfl) (by kernel_rfl) (fun _ => by kernel_rfl) (fun _ => by kernel_rfl) ⟨⟨⟨trivial, ?_⟩, ?_⟩, ?_⟩
  · exact o_run 0 [] [] (fun _ _ => []) (fun _ _ => by kernel_rfl)
  · exact o_run 1 [1] [] (fun _ _ => [nb ρ1 1, nb ρ1 1, nb ρ1 1, nb ρ1 1]) (fun _ _ => by kernel_rfl)
  · exact o_run 2 [] [] (fun _ _ => []) (fun _ _ => by kernel_rfl)
theorem rpublic_any_r4 (x : Nat) (hx : x < M) (ρ1 : Nat → Orc) (w0 : World) (F : World → Prop) : Reg Tryd.prog 3 (regOps Tryd.f11 3) false 10 [(1, (pt (nb ρ1 0))), (2, (pt (nb ρ1 1))), (3, (.int .i64 0)), (6, (.bool false))] w0 [(nb ρ1 0, (.cells (cU x) 24 (0, 0))), (nb ρ1 1, (.cells (cU 0) 24 (0, 0)))] F
    (fun _ => [(2, (pt (nb ρ1 1))), (3, (.int .i64 0))])
    (fun _ => [(nb ρ1 0, (.cells (cU x) 24 (0, 0))), (nb ρ1 1, (.cells (cU (expmN 4 x pP)) 24 (0, 0)))]) := by
  refine reg_seq [0, 1, 3, 7] [2, 3] 4
    (fun _ ι => ([(U x), (U (expmN 4 x pP)), undef, (.int .i64 0)] : List Value).getD ι undef)
    (fun _ ι => ([{}, {}, { puts := [(1, (.cells (cU (expmN 4 x pP)) 24 (0, 0)))] }, {}] : List Eff).getD ι {})
    (by kernel_rfl) (by kernel_rfl) (fun _ => by kernel_rfl) (fun _ => by kernel_rfl) ⟨⟨⟨⟨trivial, ?_⟩, ?_⟩, ?_⟩, ?_⟩
  · exact o_run 0 [0] [] (fun _ _ => [nb ρ1 0, nb ρ1 0, nb ρ1 0, nb ρ1 0]) (fun _ _ => by kernel_rfl)
  · exact o_call 1 38 (fun _ => #[(U x)]) (fun _ => (U (expmN 4 x pP))) (fun _ _ => by kernel_rfl) (fun _ w => (fun w => rgpower_any x w hx) w)
  · exact o_run 2 [1] [] (fun _ _ => [nb ρ1 1, nb ρ1 1, nb ρ1 1, nb ρ1 1]) (fun _ _ => by kernel_rfl)
  · exact o_run 3 [] [] (fun _ _ => []) (fun _ _ => by kernel_rfl)
theorem rpublic_any (x : Nat) (hx : x < M) (w0 : World) : Calls Tryd.prog 11 #[(U x)] w0 (fun ε w' => ε = .returned (.tuple #[(U (pubV x)), (.int .i64 (pubE x))]) ∧ Below w0.heap.size w0 w') := by
  refine Calls.of_ok (n := 10) (F := (fun _ => True)) Tryd.func11 rfl rfl rfl (by simp) (persTrue (fun _ => trivial)) ?_
  refine ok_seq_r (by kernel_rfl) (rpublic_any_r1 x _ _) (fun ρ1 => ?_)
  refine ok_seq ?_
  refine ok_seq_r (by kernel_rfl) (rpublic_any_r2 x hx ρ1 _ _) (fun _ => ?_)
  refine ok_cond (b := !(secB x)) (by kernel_rfl) (fun hb1 => ?_) (fun hb1 => ?_)
  ·
    rw [hb1]
    refine ok_seq_r (by kernel_rfl) (rpublic_any_r3 x ρ1 _ _) (fun _ => ?_)
    refine ok_ret ?_
    refine mt_then_r ?_
    exact meets_ret (v := (.tuple #[(U 0), (.int .i64 60)])) [1, 1, 1, 1] (dup [nb ρ1 1, nb ρ1 1, nb ρ1 1, nb ρ1 1]) (by kernel_rfl) (by kernel_rfl) (eqs_dup _) (fun _ hS => ⟨by rw [(pub_no (not_t hb1)).1, (pub_no (not_t hb1)).2], hS.below⟩)
  ·
    rw [hb1]
    refine ok_skip ?_
    refine mt_then ?_
    refine ok_seq_r (by kernel_rfl) (rpublic_any_r4 x hx ρ1 _ _) (fun _ => ?_)
    refine ok_ret ?_
    exact meets_ret (v := (.tuple #[(U (expmN 4 x pP)), (.int .i64 0)])) [1, 1, 1, 1] (dup [nb ρ1 1, nb ρ1 1, nb ρ1 1, nb ρ1 1]) (by kernel_rfl) (by kernel_rfl) (eqs_dup _) (fun _ hS => ⟨by rw [(pub_yes (not_f hb1)).1, (pub_yes (not_f hb1)).2], hS.below⟩)
theorem rvalid_any_r1 (p : Nat) (w0 : World) (F : World → Prop) : Reg Tryd.prog 0 (regOps Tryd.f14 0) false 10 [(0, (U p))] w0 [] F
    (fun ρ => [(1, (pt (nb ρ 0))), (2, (.bool false))])
    (fun ρ => [(nb ρ 0, (.cells (cU p) 24 (0, 0)))]) := by
  refine reg_seq [0, 1] [1, 2] 2
    (fun ρ ι => ([(pt (nb ρ 0)), (.bool false)] : List Value).getD ι undef)
    (fun ρ ι => ([{ news := [(nb ρ 0, (.cells (cU p) 24 (0, 0)))] }, {}] : List Eff).getD ι {})
    (by kernel_rfl) (by kernel_rfl) (fun _ => by kernel_rfl) (fun _ => by kernel_rfl) ⟨⟨trivial, ?_⟩, ?_⟩
  · exact o_run 0 [] [] (fun _ _ => []) (fun _ _ => by kernel_rfl)
  · exact o_run 1 [] [] (fun _ _ => []) (fun _ _ => by kernel_rfl)
theorem rvalid_any_r2 (p : Nat) (hp : p < M) (hb1 : (decide (p = 1)) = true) (ρ1 : Nat → Orc) (w0 : World) (F : World → Prop) : Reg Tryd.prog 1 (regOps Tryd.f14 1) true 10 [(1, (pt (nb ρ1 0))), (2, (.bool false))] w0 [(nb ρ1 0, (.cells (cU p) 24 (0, 0)))] F
    (fun _ => [(2, (.bool false))])
    (fun _ => [(nb ρ1 0, (.cells (cU p) 24 (0, 0)))]) := by
  refine reg_drawn [0, 0, 3, 7, 15, 31, 63, 127] [2] 8
    (fun _ ι => ([(U p), (U 1), (.bool false), (.bool false), undef, undef, (.bool false), (.bool false)] : List Value).getD ι undef)
    (fun _ ι => ([{}, {}, {}, {}, {}, {}, {}, {}] : List Eff).getD ι {})
    (by kernel_rfl) (by kernel_rfl) (by kernel_rfl) (fun _ => by kernel_rfl) (fun _ => by kernel_rfl) ⟨⟨⟨⟨⟨⟨⟨⟨trivial, ?_⟩, ?_⟩, ?_⟩, ?_⟩, ?_⟩, ?_⟩, ?_⟩, ?_⟩
  · exact o_run 0 [0] [] (fun _ _ => [nb ρ1 0, nb ρ1 0, nb ρ1 0, nb ρ1 0]) (fun _ _ => by kernel_rfl)
  · exact o_call 1 41 (fun _ => #[(.int .u64 1)]) (fun _ => (U 1)) (fun _ _ => by kernel_rfl) (fun _ w => (fun w => rfromuint_lit 1 w (by decide)) w)
  · exact o_bin 2 .neq 24 (fun _ => (U p)) (fun _ => (U 1)) (fun _ => (.bool false)) (fun _ => by kernel_rfl) (fun _ _ _ _ => by kernel_rfl) (fun _ _ => (neqU p 1 hp (by decide +kernel) _).trans (by rw [hb1]; try rfl))
  · exact o_run 3 [] [] (fun _ _ => []) (fun _ _ => by kernel_rfl)
  · exact o_skip 4 (fun _ => by kernel_rfl)
  · exact o_skip 5 (fun _ => by kernel_rfl)
  · exact o_run 6 [] [] (fun _ _ => []) (fun _ _ => by kernel_rfl)
  · exact o_run 7 [] [] (fun _ _ => []) (fun _ _ => by kernel_rfl)
theorem rvalid_any_r3 (p : Nat) (hp : p < M) (hb1 : (decide (p = 1)) = false) (ρ1 : Nat → Orc) (w0 : World) (F : World → Prop) : Reg Tryd.prog 1 (regOps Tryd.f14 1) true 10 [(1, (pt (nb ρ1 0))), (2, (.bool false))] w0 [(nb ρ1 0, (.cells (cU p) 24 (0, 0)))] F
    (fun _ => [(2, (.bool (memB p)))])
    (fun _ => [(nb ρ1 0, (.cells (cU p) 24 (0, 0)))]) := by
  refine reg_drawn [0, 0, 3, 7, 15, 31, 63, 127] [2] 8
    (fun _ ι => ([(U p), (U 1), (.bool true), (.bool true), (U p), (.bool (memB p)), (.bool (memB p)), (.bool (memB p))] : List Value).getD ι undef)
    (fun _ ι => ([{}, {}, {}, {}, {}, {}, {}, {}] : List Eff).getD ι {})
    (by kernel_rfl) (by kernel_rfl) (by kernel_rfl) (fun _ => by kernel_rfl) (fun _ => by kernel_rfl) ⟨⟨⟨⟨⟨⟨⟨⟨trivial, ?_⟩, ?_⟩, ?_⟩, ?_⟩, ?_⟩, ?_⟩, ?_⟩, ?_⟩
  · exact o_run 0 [0] [] (fun _ _ => [nb ρ1 0, nb ρ1 0, nb ρ1 0, nb ρ1 0]) (fun _ _ => by kernel_rfl)
  · exact o_call 1 41 (fun _ => #[(.int .u64 1)]) (fun _ => (U 1)) (fun _ _ => by kernel_rfl) (fun _ w => (fun w => rfromuint_lit 1 w (by decide)) w)
  · exact o_bin 2 .neq 24 (fun _ => (U p)) (fun _ => (U 1)) (fun _ => (.bool true)) (fun _ => by kernel_rfl) (fun _ _ _ _ => by kernel_rfl) (fun _ _ => (neqU p 1 hp (by decide +kernel) _).trans (by rw [hb1]; try rfl))
  · exact o_run 3 [] [] (fun _ _ => []) (fun _ _ => by kernel_rfl)
  · exact o_run 4 [0] [] (fun _ _ => [nb ρ1 0, nb ρ1 0, nb ρ1 0, nb ρ1 0]) (fun _ _ => by kernel_rfl)
  · exact o_call 5 42 (fun _ => #[(U p)]) (fun _ => (.bool (memB p))) (fun _ _ => by kernel_rfl) (fun _ w => (fun w => rgmember_any p w hp) w)
  · exact o_run 6 [] [] (fun _ _ => []) (fun _ _ => by kernel_rfl)
  · exact o_run 7 [] [] (fun _ _ => []) (fun _ _ => by kernel_rfl)
theorem rvalid_any (p : Nat) (hp : p < M) (w0 : World) : Calls Tryd.prog 14 #[(U p)] w0 (fun ε w' => ε = .returned (.bool (valB p)) ∧ Below w0.heap.size w0 w') := by
  refine Calls.of_ok (n := 10) (F := (fun _ => True)) Tryd.func14 rfl rfl rfl (by simp) (persTrue (fun _ => trivial)) ?_
  refine ok_seq_r (by kernel_rfl) (rvalid_any_r1 p _ _) (fun ρ1 => ?_)
  rcases Bool.eq_false_or_eq_true (decide (p = 1)) with hb1 | hb1
  ·
    refine ok_seq_r (by kernel_rfl) (rvalid_any_r2 p hp hb1 ρ1 _ _) (fun _ => ?_)
    refine ok_ret ?_
    exact meets_ret (v := (.bool false)) [] (dup []) (by kernel_rfl) (by kernel_rfl) (eqs_dup _) (fun _ hS => ⟨congrArg (fun x => Ending.returned (.bool x)) (val_0 hb1), hS.below⟩)
  ·
    refine ok_seq_r (by kernel_rfl) (rvalid_any_r3 p hp hb1 ρ1 _ _) (fun _ => ?_)
    refine ok_ret ?_
    exact meets_ret (v := (.bool (memB p))) [] (dup []) (by kernel_rfl) (by kernel_rfl) (eqs_dup _) (fun _ hS => ⟨congrArg (fun x => Ending.returned (.bool x)) (val_1 hb1), hS.below⟩)
theorem rtweak_any_r1 (p : Nat) (t : Nat) (w0 : World) (F : World → Prop) : Reg Tryd.prog 0 (regOps Tryd.f32 0) false 21 [(0, (U p)), (1, (.agg (hB t)))] w0 [] F
    (fun ρ => [(2, (pt (nb ρ 0))), (3, (pt (nb ρ 1))), (4, (pt (nb ρ 2))), (5, (.int .i64 0))])
    (fun ρ => [(nb ρ 0, (.cells (cU p) 24 (0, 0))), (nb ρ 1, (.cells (hB t) 26 (0, 0))), (nb ρ 2, (.cells (cU 0) 24 (0, 0)))]) := by
  refine reg_seq [0, 1, 3, 7] [2, 3, 4, 5] 4
    (fun ρ ι => ([(pt (nb ρ 0)), (pt (nb ρ 1)), (pt (nb ρ 2)), (.int .i64 0)] : List Value).getD ι undef)
    (fun ρ ι => ([{ news := [(nb ρ 0, (.cells (cU p) 24 (0, 0)))] }, { news := [(nb ρ 1, (.cells (hB t) 26 (0, 0)))] }, { news := [(nb ρ 2, (.cells (cU 0) 24 (0, 0)))] }, {}] : List Eff).getD ι {})
    (by kernel_rfl) (by kernel_rfl) (fun _ => by kernel_rfl) (fun _ => by kernel_rfl) ⟨⟨⟨⟨trivial, ?_⟩, ?_⟩, ?_⟩, ?_⟩
  · exact o_run 0 [] [] (fun _ _ => []) (fun _ _ => by kernel_rfl)
  · exact o_run 1 [] [] (fun _ _ => []) (fun _ _ => by kernel_rfl)
  · exact o_run 2 [] [] (fun _ _ => []) (fun _ _ => by kernel_rfl)
  · exact o_run 3 [] [] (fun _ _ => []) (fun _ _ => by kernel_rfl)
theorem rtweak_any_r2 (p : Nat) (t : Nat) (hp : p < M) (ρ1 : Nat → Orc) (w0 : World) (F : World → Prop) : Reg Tryd.prog 1 (regOps Tryd.f32 1) false 21 [(2, (pt (nb ρ1 0))), (3, (pt (nb ρ1 1))), (4, (pt (nb ρ1 2))), (5, (.int .i64 0))] w0 [(nb ρ1 0, (.cells (cU p) 24 (0, 0))), (nb ρ1 1, (.cells (hB t) 26 (0, 0))), (nb ρ1 2, (.cells (cU 0) 24 (0, 0)))] F
    (fun _ => [(2, (pt (nb ρ1 0))), (3, (pt (nb ρ1 1))), (4, (pt (nb ρ1 2))), (5, (.int .i64 0)), (9, (.bool (!(valB p))))])
    (fun _ => [(nb ρ1 0, (.cells (cU p) 24 (0, 0))), (nb ρ1 1, (.cells (hB t) 26 (0, 0))), (nb ρ1 2, (.cells (cU 0) 24 (0, 0)))]) := by
  refine reg_seq [0, 1, 3] [2, 3, 4, 5, 9] 3
    (fun _ ι => ([(U p), (.bool (valB p)), (.bool (!(valB p)))] : List Value).getD ι undef)
    (fun _ ι => ([{}, {}, {}] : List Eff).getD ι {})
    (by kernel_rfl) (by kernel_rfl) (fun _ => by kernel_rfl) (fun _ => by kernel_rfl) ⟨⟨⟨trivial, ?_⟩, ?_⟩, ?_⟩
  · exact o_run 0 [0] [] (fun _ _ => [nb ρ1 0, nb ρ1 0, nb ρ1 0, nb ρ1 0]) (fun _ _ => by kernel_rfl)
  · exact o_call 1 14 (fun _ => #[(U p)]) (fun _ => (.bool (valB p))) (fun _ _ => by kernel_rfl) (fun _ w => (fun w => rvalid_any p hp w) w)
  · exact o_run 2 [] [] (fun _ _ => []) (fun _ _ => by kernel_rfl)
theorem rtweak_any_r3 (p : Nat) (t : Nat) (ρ1 : Nat → Orc) (w0 : World) (F : World → Prop) : Reg Tryd.prog 2 (regOps Tryd.f32 2) false 21 [(2, (pt (nb ρ1 0))), (3, (pt (nb ρ1 1))), (4, (pt (nb ρ1 2))), (5, (.int .i64 0)), (9, (.bool true))] w0 [(nb ρ1 0, (.cells (cU p) 24 (0, 0))), (nb ρ1 1, (.cells (hB t) 26 (0, 0))), (nb ρ1 2, (.cells (cU 0) 24 (0, 0)))] F
    (fun _ => [(2, (pt (nb ρ1 0))), (3, (pt (nb ρ1 1))), (4, (pt (nb ρ1 2))), (5, (.int .i64 60))])
    (fun _ => [(nb ρ1 0, (.cells (cU p) 24 (0, 0))), (nb ρ1 1, (.cells (hB t) 26 (0, 0))), (nb ρ1 2, (.cells (cU 0) 24 (0, 0)))]) := by
  refine reg_seq [0, 1, 3] [2, 3, 4, 5] 3
    (fun _ ι => ([(U 0), undef, (.int .i64 60)] : List Value).getD ι undef)
    (fun _ ι => ([{}, { puts := [(2, (.cells (cU 0) 24 (0, 0)))] }, {}] : List Eff).getD ι {})
    (by kernel_rfl) (by kernel_rfl) (fun _ => by kernel_rfl) (fun _ => by kernel_rfl) ⟨⟨⟨trivial, ?_⟩, ?_⟩, ?_⟩
  · exact o_run 0 [] [] (fun _ _ => []) (fun _ _ => by kernel_rfl)
  · exact o_run 1 [2] [] (fun _ _ => [nb ρ1 2, nb ρ1 2, nb ρ1 2, nb ρ1 2]) (fun _ _ => by kernel_rfl)
  · exact o_run 2 [] [] (fun _ _ => []) (fun _ _ => by kernel_rfl)
theorem rtweak_any_r4 (p : Nat) (t : Nat) (hp : p < M) (ht : t < M) (ρ1 : Nat → Orc) (w0 : World) (F : World → Prop) : Reg Tryd.prog 3 (regOps Tryd.f32 3) true 21 [(2, (pt (nb ρ1 0))), (3, (pt (nb ρ1 1))), (4, (pt (nb ρ1 2))), (5, (.int .i64 0)), (9, (.bool false))] w0 [(nb ρ1 0, (.cells (cU p) 24 (0, 0))), (nb ρ1 1, (.cells (hB t) 26 (0, 0))), (nb ρ1 2, (.cells (cU 0) 24 (0, 0)))] F
    (fun ρ => [(4, (pt (nb ρ1 2))), (5, (.int .i64 0)), (6, (pt (nb ρ 5)))])
    (fun ρ => [(nb ρ1 0, (.cells (cU p) 24 (0, 0))), (nb ρ1 1, (.cells (hB t) 26 (0, 0))), (nb ρ1 2, (.cells (cU 0) 24 (0, 0))), (nb ρ 5, (.cells (cU (mulmN p (expmN 4 (addmN t 0 qP) pP) pP)) 24 (0, 0)))]) := by
  refine reg_drawn [0, 0, 2, 6, 15, 0, 63] [4, 5, 6] 7
    (fun ρ ι => ([(U p), (.agg (hB t)), (U (addmN t 0 qP)), (U (expmN 4 (addmN t 0 qP) pP)), (U (mulmN p (expmN 4 (addmN t 0 qP) pP) pP)), (pt (nb ρ 5)), undef] : List Value).getD ι undef)
    (fun ρ ι => ([{}, {}, {}, {}, {}, { news := [(nb ρ 5, (.cells (cU 0) 24 (0, 0)))] }, { puts := [(43, (.cells (cU (mulmN p (expmN 4 (addmN t 0 qP) pP) pP)) 24 (0, 0)))] }] : List Eff).getD ι {})
    (by kernel_rfl) (by kernel_rfl) (by kernel_rfl) (fun _ => by kernel_rfl) (fun _ => by kernel_rfl) ⟨⟨⟨⟨⟨⟨⟨trivial, ?_⟩, ?_⟩, ?_⟩, ?_⟩, ?_⟩, ?_⟩, ?_⟩
  · exact o_run 0 [0] [] (fun _ _ => [nb ρ1 0, nb ρ1 0, nb ρ1 0, nb ρ1 0]) (fun _ _ => by kernel_rfl)
  · exact o_run 1 [1] [] (fun _ _ => [nb ρ1 1, nb ρ1 1, nb ρ1 1, nb ρ1 1, nb ρ1 1, nb ρ1 1, nb ρ1 1, nb ρ1 1, nb ρ1 1, nb ρ1 1, nb ρ1 1, nb ρ1 1, nb ρ1 1, nb ρ1 1, nb ρ1 1, nb ρ1 1, nb ρ1 1, nb ρ1 1, nb ρ1 1, nb ρ1 1, nb ρ1 1, nb ρ1 1, nb ρ1 1, nb ρ1 1, nb ρ1 1, nb ρ1 1, nb ρ1 1, nb ρ1 1, nb ρ1 1, nb ρ1 1, nb ρ1 1, nb ρ1 1]) (fun _ _ => by kernel_rfl)
  · exact o_call 2 23 (fun _ => #[(.agg (hB t))]) (fun _ => (U (addmN t 0 qP))) (fun _ _ => by kernel_rfl) (fun _ w => (fun w => rgscalar_any t w ht) w)
  · exact o_call 3 38 (fun _ => #[(U (addmN t 0 qP))]) (fun _ => (U (expmN 4 (addmN t 0 qP) pP))) (fun _ _ => by kernel_rfl) (fun _ w => (fun w => rgpower_any (addmN t 0 qP) w (addmN_lt _ _ qP_lt)) w)
  · exact o_call 4 62 (fun _ => #[(U p), (U (expmN 4 (addmN t 0 qP) pP))]) (fun _ => (U (mulmN p (expmN 4 (addmN t 0 qP) pP) pP))) (fun _ _ => by kernel_rfl) (fun _ w => (fun w => rgmul_any p (expmN 4 (addmN t 0 qP) pP) w hp (expmN_lt _ _ pP_lt)) w)
  · exact o_run 5 [] [] (fun _ _ => []) (fun _ _ => by kernel_rfl)
  · exact o_run 6 [43] [] (fun ρ _ => [nb ρ 5, nb ρ 5, nb ρ 5, nb ρ 5]) (fun _ _ => by kernel_rfl)
theorem rtweak_any_r5 (p : Nat) (t : Nat) (ρ1 : Nat → Orc) (ρ4 : Nat → Orc) (w0 : World) (F : World → Prop) : Reg Tryd.prog 4 (regOps Tryd.f32 4) true 21 [(4, (pt (nb ρ1 2))), (5, (.int .i64 0)), (6, (pt (nb ρ4 5)))] w0 [(nb ρ1 0, (.cells (cU p) 24 (0, 0))), (nb ρ1 1, (.cells (hB t) 26 (0, 0))), (nb ρ1 2, (.cells (cU 0) 24 (0, 0))), (nb ρ4 5, (.cells (cU (mulmN p (expmN 4 (addmN t 0 qP) pP) pP)) 24 (0, 0)))] F
    (fun _ => [(4, (pt (nb ρ1 2))), (5, (.int .i64 0)), (6, (pt (nb ρ4 5))), (18, (.bool (decide (mulmN p (expmN 4 (addmN t 0 qP) pP) pP = 1))))])
    (fun _ => [(nb ρ1 0, (.cells (cU p) 24 (0, 0))), (nb ρ1 1, (.cells (hB t) 26 (0, 0))), (nb ρ1 2, (.cells (cU 0) 24 (0, 0))), (nb ρ4 5, (.cells (cU (mulmN p (expmN 4 (addmN t 0 qP) pP) pP)) 24 (0, 0)))]) := by
  refine reg_drawn [0, 0, 3] [4, 5, 6, 18] 3
    (fun _ ι => ([(U (mulmN p (expmN 4 (addmN t 0 qP) pP) pP)), (U 1), (.bool (decide (mulmN p (expmN 4 (addmN t 0 qP) pP) pP = 1)))] : List Value).getD ι undef)
    (fun _ ι => ([{}, {}, {}] : List Eff).getD ι {})
    (by kernel_rfl) (by kernel_rfl) (by kernel_rfl) (fun _ => by kernel_rfl) (fun _ => by kernel_rfl) ⟨⟨⟨trivial, ?_⟩, ?_⟩, ?_⟩
  · exact o_run 0 [3] [] (fun _ _ => [nb ρ4 5, nb ρ4 5, nb ρ4 5, nb ρ4 5]) (fun _ _ => by kernel_rfl)
  · exact o_call 1 41 (fun _ => #[(.int .u64 1)]) (fun _ => (U 1)) (fun _ _ => by kernel_rfl) (fun _ w => (fun w => rfromuint_lit 1 w (by decide)) w)
  · exact o_bin 2 .eql 24 (fun _ => (U (mulmN p (expmN 4 (addmN t 0 qP) pP) pP))) (fun _ => (U 1)) (fun _ => (.bool (decide (mulmN p (expmN 4 (addmN t 0 qP) pP) pP = 1)))) (fun _ => by kernel_rfl) (fun _ _ _ _ => by kernel_rfl) (fun _ _ => eqlU (mulmN p (expmN 4 (addmN t 0 qP) pP) pP) 1 (mulmN_lt _ _ pP_lt) (by decide +kernel) _)
theorem rtweak_any_r6 (p : Nat) (t : Nat) (ρ1 : Nat → Orc) (ρ4 : Nat → Orc) (w0 : World) (F : World → Prop) : Reg Tryd.prog 5 (regOps Tryd.f32 5) false 21 [(4, (pt (nb ρ1 2))), (5, (.int .i64 0)), (6, (pt (nb ρ4 5))), (18, (.bool true))] w0 [(nb ρ1 0, (.cells (cU p) 24 (0, 0))), (nb ρ1 1, (.cells (hB t) 26 (0, 0))), (nb ρ1 2, (.cells (cU 0) 24 (0, 0))), (nb ρ4 5, (.cells (cU (mulmN p (expmN 4 (addmN t 0 qP) pP) pP)) 24 (0, 0)))] F
    (fun _ => [(4, (pt (nb ρ1 2))), (5, (.int .i64 5)), (6, (pt (nb ρ4 5)))])
    (fun _ => [(nb ρ1 0, (.cells (cU p) 24 (0, 0))), (nb ρ1 1, (.cells (hB t) 26 (0, 0))), (nb ρ1 2, (.cells (cU 0) 24 (0, 0))), (nb ρ4 5, (.cells (cU (mulmN p (expmN 4 (addmN t 0 qP) pP) pP)) 24 (0, 0)))]) := by
  refine reg_seq [0, 1, 3] [4, 5, 6] 3
    (fun _ ι => ([(U 0), undef, (.int .i64 5)] : List Value).getD ι undef)
    (fun _ ι => ([{}, { puts := [(2, (.cells (cU 0) 24 (0, 0)))] }, {}] : List Eff).getD ι {})
    (by kernel_rfl) (by kernel_rfl) (fun _ => by kernel_rfl) (fun _ => by kernel_rfl) ⟨⟨⟨trivial, ?_⟩, ?_⟩, ?_⟩
  · exact o_run 0 [] [] (fun _ _ => []) (fun _ _ => by kernel_rfl)
  · exact o_run 1 [2] [] (fun _ _ => [nb ρ1 2, nb ρ1 2, nb ρ1 2, nb ρ1 2]) (fun _ _ => by kernel_rfl)
  · exact o_run 2 [] [] (fun _ _ => []) (fun _ _ => by kernel_rfl)
theorem rtweak_any_r7 (p : Nat) (t : Nat) (ρ1 : Nat → Orc) (ρ4 : Nat → Orc) (w0 : World) (F : World → Prop) : Reg Tryd.prog 6 (regOps Tryd.f32 6) false 21 [(4, (pt (nb ρ1 2))), (5, (.int .i64 0)), (6, (pt (nb ρ4 5))), (18, (.bool false))] w0 [(nb ρ1 0, (.cells (cU p) 24 (0, 0))), (nb ρ1 1, (.cells (hB t) 26 (0, 0))), (nb ρ1 2, (.cells (cU 0) 24 (0, 0))), (nb ρ4 5, (.cells (cU (mulmN p (expmN 4 (addmN t 0 qP) pP) pP)) 24 (0, 0)))] F
    (fun _ => [(4, (pt (nb ρ1 2))), (5, (.int .i64 0))])
    (fun _ => [(nb ρ1 0, (.cells (cU p) 24 (0, 0))), (nb ρ1 1, (.cells (hB t) 26 (0, 0))), (nb ρ1 2, (.cells (cU (mulmN p (expmN 4 (addmN t 0 qP) pP) pP)) 24 (0, 0))), (nb ρ4 5, (.cells (cU (mulmN p (expmN 4 (addmN t 0 qP) pP) pP)) 24 (0, 0)))]) := by
  refine reg_seq [0, 1, 3] [4, 5] 3
    (fun _ ι => ([(U (mulmN p (expmN 4 (addmN t 0 qP) pP) pP)), undef, (.int .i64 0)] : List Value).getD ι undef)
    (fun _ ι => ([{}, { puts := [(2, (.cells (cU (mulmN p (expmN 4 (addmN t 0 qP) pP) pP)) 24 (0, 0)))] }, {}] : List Eff).getD ι {})
    (by kernel_rfl) (by kernel_rfl) (fun _ => by kernel_rfl) (fun _ => by kernel_rfl) ⟨⟨⟨trivial, ?_⟩, ?_⟩, ?_⟩
  · exact o_run 0 [3] [] (fun _ _ => [nb ρ4 5, nb ρ4 5, nb ρ4 5, nb ρ4 5]) (fun _ _ => by kernel_rfl)
  · exact o_run 1 [2] [] (fun _ _ => [nb ρ1 2, nb ρ1 2, nb ρ1 2, nb ρ1 2]) (fun _ _ => by kernel_rfl)
  · exact o_run 2 [] [] (fun _ _ => []) (fun _ _ => by kernel_rfl)
theorem rtweak_any (p : Nat) (t : Nat) (hp : p < M) (ht : t < M) (w0 : World) : Calls Tryd.prog 32 #[(U p), (.agg (hB t))] w0 (fun ε w' => ε = .returned (.tuple #[(U (twV p t)), (.int .i64 (twE p t))]) ∧ Below w0.heap.size w0 w') := by
  refine Calls.of_ok (n := 21) (F := (fun _ => True)) Tryd.func32 rfl rfl rfl (by simp) (persTrue (fun _ => trivial)) ?_
  refine ok_seq_r (by kernel_rfl) (rtweak_any_r1 p t _ _) (fun ρ1 => ?_)
  refine ok_seq ?_
  refine ok_seq_r (by kernel_rfl) (rtweak_any_r2 p t hp ρ1 _ _) (fun _ => ?_)
  refine ok_cond (b := !(valB p)) (by kernel_rfl) (fun hb1 => ?_) (fun hb1 => ?_)
  ·
    rw [hb1]
    refine ok_seq_r (by kernel_rfl) (rtweak_any_r3 p t ρ1 _ _) (fun _ => ?_)
    refine ok_ret ?_
    refine mt_then_r ?_
    exact meets_ret (v := (.tuple #[(U 0), (.int .i64 60)])) [2, 2, 2, 2] (dup [nb ρ1 2, nb ρ1 2, nb ρ1 2, nb ρ1 2]) (by kernel_rfl) (by kernel_rfl) (eqs_dup _) (fun _ hS => ⟨by rw [(tw_a (not_t hb1)).1, (tw_a (not_t hb1)).2], hS.below⟩)
  ·
    rw [hb1]
    refine ok_skip ?_
    refine mt_then ?_
    refine ok_seq_r (by kernel_rfl) (rtweak_any_r4 p t hp ht ρ1 _ _) (fun ρ4 => ?_)
    refine ok_seq ?_
    refine ok_seq_r (by kernel_rfl) (rtweak_any_r5 p t ρ1 ρ4 _ _) (fun _ => ?_)
    refine ok_cond (b := decide (mulmN p (expmN 4 (addmN t 0 qP) pP) pP = 1)) (by kernel_rfl) (fun hb2 => ?_) (fun hb2 => ?_)
    ·
      rw [hb2]
      refine ok_seq_r (by kernel_rfl) (rtweak_any_r6 p t ρ1 ρ4 _ _) (fun _ => ?_)
      refine ok_ret ?_
      refine mt_then_r ?_
      exact meets_ret (v := (.tuple #[(U 0), (.int .i64 5)])) [2, 2, 2, 2] (dup [nb ρ1 2, nb ρ1 2, nb ρ1 2, nb ρ1 2]) (by kernel_rfl) (by kernel_rfl) (eqs_dup _) (fun _ hS => ⟨by rw [(tw_b (t := t) (not_f hb1) (of_decide_eq_true hb2)).1, (tw_b (t := t) (not_f hb1) (of_decide_eq_true hb2)).2], hS.below⟩)
    ·
      rw [hb2]
      refine ok_skip ?_
      refine mt_then ?_
      refine ok_seq_r (by kernel_rfl) (rtweak_any_r7 p t ρ1 ρ4 _ _) (fun _ => ?_)
      refine ok_ret ?_
      exact meets_ret (v := (.tuple #[(U (mulmN p (expmN 4 (addmN t 0 qP) pP) pP)), (.int .i64 0)])) [2, 2, 2, 2] (dup [nb ρ1 2, nb ρ1 2, nb ρ1 2, nb ρ1 2]) (by kernel_rfl) (by kernel_rfl) (eqs_dup _) (fun _ hS => ⟨by rw [(tw_c (t := t) (not_f hb1) (of_decide_eq_false hb2)).1, (tw_c (t := t) (not_f hb1) (of_decide_eq_false hb2)).2]; rfl, hS.below⟩)
theorem rtweaksecret_any_r1 (x : Nat) (t : Nat) (w0 : World) (F : World → Prop) : Reg Tryd.prog 0 (regOps Tryd.f34 0) false 19 [(0, (U x)), (1, (.agg (hB t)))] w0 [] F
    (fun ρ => [(2, (pt (nb ρ 0))), (3, (pt (nb ρ 1))), (4, (pt (nb ρ 2))), (5, (.int .i64 0))])
    (fun ρ => [(nb ρ 0, (.cells (cU x) 24 (0, 0))), (nb ρ 1, (.cells (hB t) 26 (0, 0))), (nb ρ 2, (.cells (cU 0) 24 (0, 0)))]) := by
  refine reg_seq [0, 1, 3, 7] [2, 3, 4, 5] 4
    (fun ρ ι => ([(pt (nb ρ 0)), (pt (nb ρ 1)), (pt (nb ρ 2)), (.int .i64 0)] : List Value).getD ι undef)
    (fun ρ ι => ([{ news := [(nb ρ 0, (.cells (cU x) 24 (0, 0)))] }, { news := [(nb ρ 1, (.cells (hB t) 26 (0, 0)))] }, { news := [(nb ρ 2, (.cells (cU 0) 24 (0, 0)))] }, {}] : List Eff).getD ι {})
    (by kernel_rfl) (by kernel_rfl) (fun _ => by kernel_rfl) (fun _ => by kernel_rfl) ⟨⟨⟨⟨trivial, ?_⟩, ?_⟩, ?_⟩, ?_⟩
  · exact o_run 0 [] [] (fun _ _ => []) (fun _ _ => by kernel_rfl)
  · exact o_run 1 [] [] (fun _ _ => []) (fun _ _ => by kernel_rfl)
  · exact o_run 2 [] [] (fun _ _ => []) (fun _ _ => by kernel_rfl)
  · exact o_run 3 [] [] (fun _ _ => []) (fun _ _ => by kernel_rfl)
theorem rtweaksecret_any_r2 (x : Nat) (t : Nat) (hx : x < M) (ρ1 : Nat → Orc) (w0 : World) (F : World → Prop) : Reg Tryd.prog 1 (regOps Tryd.f34 1) false 19 [(2, (pt (nb ρ1 0))), (3, (pt (nb ρ1 1))), (4, (pt (nb ρ1 2))), (5, (.int .i64 0))] w0 [(nb ρ1 0, (.cells (cU x) 24 (0, 0))), (nb ρ1 1, (.cells (hB t) 26 (0, 0))), (nb ρ1 2, (.cells (cU 0) 24 (0, 0)))] F
    (fun _ => [(2, (pt (nb ρ1 0))), (3, (pt (nb ρ1 1))), (4, (pt (nb ρ1 2))), (5, (.int .i64 0)), (9, (.bool (!(secB x))))])
    (fun _ => [(nb ρ1 0, (.cells (cU x) 24 (0, 0))), (nb ρ1 1, (.cells (hB t) 26 (0, 0))), (nb ρ1 2, (.cells (cU 0) 24 (0, 0)))]) := by
  refine reg_seq [0, 1, 3] [2, 3, 4, 5, 9] 3
    (fun _ ι => ([(U x), (.bool (secB x)), (.bool (!(secB x)))] : List Value).getD ι undef)
    (fun _ ι => ([{}, {}, {}] : List Eff).getD ι {})
    (by kernel_rfl) (by kernel_rfl) (fun _ => by kernel_rfl) (fun _ => by kernel_rfl) ⟨⟨⟨trivial, ?_⟩, ?_⟩, ?_⟩
  · exact o_run 0 [0] [] (fun _ _ => [nb ρ1 0, nb ρ1 0, nb ρ1 0, nb ρ1 0]) (fun _ _ => by kernel_rfl)
  · exact o_call 1 37 (fun _ => #[(U x)]) (fun _ => (.bool (secB x))) (fun _ _ => by kernel_rfl) (fun _ w => (fun w => rsecret_any x hx w) w)
  · exact o_run 2 [] [] (fun _ _ => []) (fun _ _ => by kernel_rfl)
theorem rtweaksecret_any_r3 (x : Nat) (t : Nat) (ρ1 : Nat → Orc) (w0 : World) (F : World → Prop) : Reg Tryd.prog 2 (regOps Tryd.f34 2) false 19 [(2, (pt (nb ρ1 0))), (3, (pt (nb ρ1 1))), (4, (pt (nb ρ1 2))), (5, (.int .i64 0)), (9, (.bool true))] w0 [(nb ρ1 0, (.cells (cU x) 24 (0, 0))), (nb ρ1 1, (.cells (hB t) 26 (0, 0))), (nb ρ1 2, (.cells (cU 0) 24 (0, 0)))] F
    (fun _ => [(2, (pt (nb ρ1 0))), (3, (pt (nb ρ1 1))), (4, (pt (nb ρ1 2))), (5, (.int .i64 60))])
    (fun _ => [(nb ρ1 0, (.cells (cU x) 24 (0, 0))), (nb ρ1 1, (.cells (hB t) 26 (0, 0))), (nb ρ1 2, (.cells (cU 0) 24 (0, 0)))]) := by
  refine reg_seq [0, 1, 3] [2, 3, 4, 5] 3
    (fun _ ι => ([(U 0), undef, (.int .i64 60)] : List Value).getD ι undef)
    (fun _ ι => ([{}, { puts := [(2, (.cells (cU 0) 24 (0, 0)))] }, {}] : List Eff).getD ι {})
    (by kernel_rfl) (by kernel_rfl) (fun _ => by kernel_rfl) (fun _ => by kernel_rfl) ⟨⟨⟨trivial, ?_⟩, ?_⟩, ?_⟩
  · exact o_run 0 [] [] (fun _ _ => []) (fun _ _ => by kernel_rfl)
  · exact o_run 1 [2] [] (fun _ _ => [nb ρ1 2, nb ρ1 2, nb ρ1 2, nb ρ1 2]) (fun _ _ => by kernel_rfl)
  · exact o_run 2 [] [] (fun _ _ => []) (fun _ _ => by kernel_rfl)
theorem rtweaksecret_any_r4 (x : Nat) (t : Nat) (hx : x < M) (ht : t < M) (ρ1 : Nat → Orc) (w0 : World) (F : World → Prop) : Reg Tryd.prog 3 (regOps Tryd.f34 3) true 19 [(2, (pt (nb ρ1 0))), (3, (pt (nb ρ1 1))), (4, (pt (nb ρ1 2))), (5, (.int .i64 0)), (9, (.bool false))] w0 [(nb ρ1 0, (.cells (cU x) 24 (0, 0))), (nb ρ1 1, (.cells (hB t) 26 (0, 0))), (nb ρ1 2, (.cells (cU 0) 24 (0, 0)))] F
    (fun ρ => [(4, (pt (nb ρ1 2))), (5, (.int .i64 0)), (6, (pt (nb ρ 4)))])
    (fun ρ => [(nb ρ1 0, (.cells (cU x) 24 (0, 0))), (nb ρ1 1, (.cells (hB t) 26 (0, 0))), (nb ρ1 2, (.cells (cU 0) 24 (0, 0))), (nb ρ 4, (.cells (cU (addmN x (addmN t 0 qP) qP)) 24 (0, 0)))]) := by
  refine reg_drawn [0, 0, 2, 7, 0, 31] [4, 5, 6] 6
    (fun ρ ι => ([(U x), (.agg (hB t)), (U (addmN t 0 qP)), (U (addmN x (addmN t 0 qP) qP)), (pt (nb ρ 4)), undef] : List Value).getD ι undef)
    (fun ρ ι => ([{}, {}, {}, {}, { news := [(nb ρ 4, (.cells (cU 0) 24 (0, 0)))] }, { puts := [(35, (.cells (cU (addmN x (addmN t 0 qP) qP)) 24 (0, 0)))] }] : List Eff).getD ι {})
    (by kernel_rfl) (by kernel_rfl) (by kernel_rfl) (fun _ => by kernel_rfl) (fun _ => by kernel_rfl) ⟨⟨⟨⟨⟨⟨trivial, ?_⟩, ?_⟩, ?_⟩, ?_⟩, ?_⟩, ?_⟩
  · exact o_run 0 [0] [] (fun _ _ => [nb ρ1 0, nb ρ1 0, nb ρ1 0, nb ρ1 0]) (fun _ _ => by kernel_rfl)
  · exact o_run 1 [1] [] (fun _ _ => [nb ρ1 1, nb ρ1 1, nb ρ1 1, nb ρ1 1, nb ρ1 1, nb ρ1 1, nb ρ1 1, nb ρ1 1, nb ρ1 1, nb ρ1 1, nb ρ1 1, nb ρ1 1, nb ρ1 1, nb ρ1 1, nb ρ1 1, nb ρ1 1, nb ρ1 1, nb ρ1 1, nb ρ1 1, nb ρ1 1, nb ρ1 1, nb ρ1 1, nb ρ1 1, nb ρ1 1, nb ρ1 1, nb ρ1 1, nb ρ1 1, nb ρ1 1, nb ρ1 1, nb ρ1 1, nb ρ1 1, nb ρ1 1]) (fun _ _ => by kernel_rfl)
  · exact o_call 2 23 (fun _ => #[(.agg (hB t))]) (fun _ => (U (addmN t 0 qP))) (fun _ _ => by kernel_rfl) (fun _ w => (fun w => rgscalar_any t w ht) w)
  · exact o_call 3 24 (fun _ => #[(U x), (U (addmN t 0 qP))]) (fun _ => (U (addmN x (addmN t 0 qP) qP))) (fun _ _ => by kernel_rfl) (fun _ w => (fun w => rgaddscalar_any x (addmN t 0 qP) w hx (addmN_lt _ _ qP_lt)) w)
  · exact o_run 4 [] [] (fun _ _ => []) (fun _ _ => by kernel_rfl)
  · exact o_run 5 [35] [] (fun ρ _ => [nb ρ 4, nb ρ 4, nb ρ 4, nb ρ 4]) (fun _ _ => by kernel_rfl)
theorem rtweaksecret_any_r5 (x : Nat) (t : Nat) (ρ1 : Nat → Orc) (ρ4 : Nat → Orc) (w0 : World) (F : World → Prop) : Reg Tryd.prog 4 (regOps Tryd.f34 4) false 19 [(4, (pt (nb ρ1 2))), (5, (.int .i64 0)), (6, (pt (nb ρ4 4)))] w0 [(nb ρ1 0, (.cells (cU x) 24 (0, 0))), (nb ρ1 1, (.cells (hB t) 26 (0, 0))), (nb ρ1 2, (.cells (cU 0) 24 (0, 0))), (nb ρ4 4, (.cells (cU (addmN x (addmN t 0 qP) qP)) 24 (0, 0)))] F
    (fun _ => [(4, (pt (nb ρ1 2))), (5, (.int .i64 0)), (6, (pt (nb ρ4 4))), (16, (.bool (decide (addmN x (addmN t 0 qP) qP = 0))))])
    (fun _ => [(nb ρ1 0, (.cells (cU x) 24 (0, 0))), (nb ρ1 1, (.cells (hB t) 26 (0, 0))), (nb ρ1 2, (.cells (cU 0) 24 (0, 0))), (nb ρ4 4, (.cells (cU (addmN x (addmN t 0 qP) qP)) 24 (0, 0)))]) := by
  refine reg_seq [0, 1] [4, 5, 6, 16] 2
    (fun _ ι => ([(U (addmN x (addmN t 0 qP) qP)), (.bool (decide (addmN x (addmN t 0 qP) qP = 0)))] : List Value).getD ι undef)
    (fun _ ι => ([{}, {}] : List Eff).getD ι {})
    (by kernel_rfl) (by kernel_rfl) (fun _ => by kernel_rfl) (fun _ => by kernel_rfl) ⟨⟨trivial, ?_⟩, ?_⟩
  · exact o_run 0 [3] [] (fun _ _ => [nb ρ4 4, nb ρ4 4, nb ρ4 4, nb ρ4 4]) (fun _ _ => by kernel_rfl)
  · exact o_call 1 50 (fun _ => #[(U (addmN x (addmN t 0 qP) qP))]) (fun _ => (.bool (decide (addmN x (addmN t 0 qP) qP = 0)))) (fun _ _ => by kernel_rfl) (fun _ w => (fun w => rzero_any (addmN x (addmN t 0 qP) qP) w (addmN_lt _ _ qP_lt)) w)
theorem rtweaksecret_any_r6 (x : Nat) (t : Nat) (ρ1 : Nat → Orc) (ρ4 : Nat → Orc) (w0 : World) (F : World → Prop) : Reg Tryd.prog 5 (regOps Tryd.f34 5) false 19 [(4, (pt (nb ρ1 2))), (5, (.int .i64 0)), (6, (pt (nb ρ4 4))), (16, (.bool true))] w0 [(nb ρ1 0, (.cells (cU x) 24 (0, 0))), (nb ρ1 1, (.cells (hB t) 26 (0, 0))), (nb ρ1 2, (.cells (cU 0) 24 (0, 0))), (nb ρ4 4, (.cells (cU (addmN x (addmN t 0 qP) qP)) 24 (0, 0)))] F
    (fun _ => [(4, (pt (nb ρ1 2))), (5, (.int .i64 5)), (6, (pt (nb ρ4 4)))])
    (fun _ => [(nb ρ1 0, (.cells (cU x) 24 (0, 0))), (nb ρ1 1, (.cells (hB t) 26 (0, 0))), (nb ρ1 2, (.cells (cU 0) 24 (0, 0))), (nb ρ4 4, (.cells (cU (addmN x (addmN t 0 qP) qP)) 24 (0, 0)))]) := by
  refine reg_seq [0, 1, 3] [4, 5, 6] 3
    (fun _ ι => ([(U 0), undef, (.int .i64 5)] : List Value).getD ι undef)
    (fun _ ι => ([{}, { puts := [(2, (.cells (cU 0) 24 (0, 0)))] }, {}] : List Eff).getD ι {})
    (by kernel_rfl) (by kernel_rfl) (fun _ => by kernel_rfl) (fun _ => by kernel_rfl) ⟨⟨⟨trivial, ?_⟩, ?_⟩, ?_⟩
  · exact o_run 0 [] [] (fun _ _ => []) (fun _ _ => by kernel_rfl)
  · exact o_run 1 [2] [] (fun _ _ => [nb ρ1 2, nb ρ1 2, nb ρ1 2, nb ρ1 2]) (fun _ _ => by kernel_rfl)
  · exact o_run 2 [] [] (fun _ _ => []) (fun _ _ => by kernel_rfl)
theorem rtweaksecret_any_r7 (x : Nat) (t : Nat) (ρ1 : Nat → Orc) (ρ4 : Nat → Orc) (w0 : World) (F : World → Prop) : Reg Tryd.prog 6 (regOps Tryd.f34 6) false 19 [(4, (pt (nb ρ1 2))), (5, (.int .i64 0)), (6, (pt (nb ρ4 4))), (16, (.bool false))] w0 [(nb ρ1 0, (.cells (cU x) 24 (0, 0))), (nb ρ1 1, (.cells (hB t) 26 (0, 0))), (nb ρ1 2, (.cells (cU 0) 24 (0, 0))), (nb ρ4 4, (.cells (cU (addmN x (addmN t 0 qP) qP)) 24 (0, 0)))] F
    (fun _ => [(4, (pt (nb ρ1 2))), (5, (.int .i64 0))])
    (fun _ => [(nb ρ1 0, (.cells (cU x) 24 (0, 0))), (nb ρ1 1, (.cells (hB t) 26 (0, 0))), (nb ρ1 2, (.cells (cU (addmN x (addmN t 0 qP) qP)) 24 (0, 0))), (nb ρ4 4, (.cells (cU (addmN x (addmN t 0 qP) qP)) 24 (0, 0)))]) := by
  refine reg_seq [0, 1, 3] [4, 5] 3
    (fun _ ι => ([(U (addmN x (addmN t 0 qP) qP)), undef, (.int .i64 0)] : List Value).getD ι undef)
    (fun _ ι => ([{}, { puts := [(2, (.cells (cU (addmN x (addmN t 0 qP) qP)) 24 (0, 0)))] }, {}] : List Eff).getD ι {})
    (by kernel_rfl) (by kernel_rfl) (fun _ => by kernel_rfl) (fun _ => by kernel_rfl) ⟨⟨⟨trivial, ?_⟩, ?_⟩, ?_⟩
  · exact o_run 0 [3] [] (fun _ _ => [nb ρ4 4, nb ρ4 4, nb ρ4 4, nb ρ4 4]) (fun _ _ => by kernel_rfl)
  · exact o_run 1 [2] [] (fun _ _ => [nb ρ1 2, nb ρ1 2, nb ρ1 2, nb ρ1 2]) (fun _ _ => by kernel_rfl)
  · exact o_run 2 [] [] (fun _ _ => []) (fun _ _ => by kernel_rfl)
theorem rtweaksecret_any (x : Nat) (t : Nat) (hx : x < M) (ht : t < M) (w0 : World) : Calls Tryd.prog 34 #[(U x), (.agg (hB t))] w0 (fun ε w' => ε = .returned (.tuple #[(U (tsV x t)), (.int .i64 (tsE x t))]) ∧ Below w0.heap.size w0 w') := by
  refine Calls.of_ok (n := 19) (F := (fun _ => True)) Tryd.func34 rfl rfl rfl (by simp) (persTrue (fun _ => trivial)) ?_
  refine ok_seq_r (by kernel_rfl) (rtweaksecret_any_r1 x t _ _) (fun ρ1 => ?_)
  refine ok_seq ?_
  refine ok_seq_r (by kernel_rfl) (rtweaksecret_any_r2 x t hx ρ1 _ _) (fun _ => ?_)
  refine ok_cond (b := !(secB x)) (by kernel_rfl) (fun hb1 => ?_) (fun hb1 => ?_)
  ·
    rw [hb1]
    refine ok_seq_r (by kernel_rfl) (rtweaksecret_any_r3 x t ρ1 _ _) (fun _ => ?_)
    refine ok_ret ?_
    refine mt_then_r ?_
    exact meets_ret (v := (.tuple #[(U 0), (.int .i64 60)])) [2, 2, 2, 2] (dup [nb ρ1 2, nb ρ1 2, nb ρ1 2, nb ρ1 2]) (by kernel_rfl) (by kernel_rfl) (eqs_dup _) (fun _ hS => ⟨by rw [(ts_a (not_t hb1)).1, (ts_a (not_t hb1)).2], hS.below⟩)
  ·
    rw [hb1]
    refine ok_skip ?_
    refine mt_then ?_
    refine ok_seq_r (by kernel_rfl) (rtweaksecret_any_r4 x t hx ht ρ1 _ _) (fun ρ4 => ?_)
    refine ok_seq ?_
    refine ok_seq_r (by kernel_rfl) (rtweaksecret_any_r5 x t ρ1 ρ4 _ _) (fun _ => ?_)
    refine ok_cond (b := decide (addmN x (addmN t 0 qP) qP = 0)) (by kernel_rfl) (fun hb2 => ?_) (fun hb2 => ?_)
    ·
      rw [hb2]
      refine ok_seq_r (by kernel_rfl) (rtweaksecret_any_r6 x t ρ1 ρ4 _ _) (fun _ => ?_)
      refine ok_ret ?_
      refine mt_then_r ?_
      exact meets_ret (v := (.tuple #[(U 0), (.int .i64 5)])) [2, 2, 2, 2] (dup [nb ρ1 2, nb ρ1 2, nb ρ1 2, nb ρ1 2]) (by kernel_rfl) (by kernel_rfl) (eqs_dup _) (fun _ hS => ⟨by rw [(ts_b (t := t) (not_f hb1) (of_decide_eq_true hb2)).1, (ts_b (t := t) (not_f hb1) (of_decide_eq_true hb2)).2], hS.below⟩)
    ·
      rw [hb2]
      refine ok_skip ?_
      refine mt_then ?_
      refine ok_seq_r (by kernel_rfl) (rtweaksecret_any_r7 x t ρ1 ρ4 _ _) (fun _ => ?_)
      refine ok_ret ?_
      exact meets_ret (v := (.tuple #[(U (addmN x (addmN t 0 qP) qP)), (.int .i64 0)])) [2, 2, 2, 2] (dup [nb ρ1 2, nb ρ1 2, nb ρ1 2, nb ρ1 2]) (by kernel_rfl) (by kernel_rfl) (eqs_dup _) (fun _ hS => ⟨by rw [(ts_c (t := t) (not_f hb1) (of_decide_eq_false hb2)).1, (ts_c (t := t) (not_f hb1) (of_decide_eq_false hb2)).2]; rfl, hS.below⟩)
theorem nonce_any_r1 (x : Nat) (m : Nat) (w0 : World) (F : World → Prop) : Reg Tryd.prog 0 (regOps Tryd.f15 0) false 18 [(0, (U x)), (1, (.agg (hB m)))] w0 [] F
    (fun ρ => [(2, (pt (nb ρ 0))), (3, (pt (nb ρ 1))), (4, (pt (nb ρ 2)))])
    (fun ρ => [(nb ρ 0, (.cells (cU x) 24 (0, 0))), (nb ρ 1, (.cells (hB m) 26 (0, 0))), (nb ρ 2, (.cells (cU 0) 24 (0, 0)))]) := by
  refine reg_seq [0, 1, 3] [2, 3, 4] 3
    (fun ρ ι => ([(pt (nb ρ 0)), (pt (nb ρ 1)), (pt (nb ρ 2))] : List Value).getD ι undef)
    (fun ρ ι => ([{ news := [(nb ρ 0, (.cells (cU x) 24 (0, 0)))] }, { news := [(nb ρ 1, (.cells (hB m) 26 (0, 0)))] }, { news := [(nb ρ 2, (.cells (cU 0) 24 (0, 0)))] }] : List Eff).getD ι {})
    (by kernel_rfl) (by kernel_rfl) (fun _ => by kernel_rfl) (fun _ => by kernel_rfl) ⟨⟨⟨trivial, ?_⟩, ?_⟩, ?_⟩
  · exact o_run 0 [] [] (fun _ _ => []) (fun _ _ => by kernel_rfl)
  · exact o_run 1 [] [] (fun _ _ => []) (fun _ _ => by kernel_rfl)
  · exact o_run 2 [] [] (fun _ _ => []) (fun _ _ => by kernel_rfl)
theorem nonce_any_r2 (x : Nat) (m : Nat) (hx : x < M) (hm : m < M) (ρ1 : Nat → Orc) (w0 : World) : RegF Tryd.prog 1 (regOps Tryd.f15 1) true 18 [(2, (pt (nb ρ1 0))), (3, (pt (nb ρ1 1))), (4, (pt (nb ρ1 2)))] w0 [(nb ρ1 0, (.cells (cU x) 24 (0, 0))), (nb ρ1 1, (.cells (hB m) 26 (0, 0))), (nb ρ1 2, (.cells (cU 0) 24 (0, 0)))] (fun w => Kb w 1 (rowK .u32 64 kN) ∧ Kb w 0 #[(.int .u32 1779033703), (.int .u32 3144134277), (.int .u32 1013904242), (.int .u32 2773480762), (.int .u32 1359893119), (.int .u32 2600822924), (.int .u32 528734635), (.int .u32 1541459225)] ∧ True)
    (fun ρ => [(4, (pt (nb ρ1 2))), (5, (pt (nb ρ 7)))])
    (fun ρ => [(nb ρ1 0, (.cells (cU x) 24 (0, 0))), (nb ρ1 1, (.cells (hB m) 26 (0, 0))), (nb ρ1 2, (.cells (cU 0) 24 (0, 0))), (nb ρ 3, (.cells (hB x ++ hB m) 26 (0, 0))), (nb ρ 7, (.cells (cU (addmN (tagN tgN (hL x ++ hL m)) 0 qP)) 24 (0, 0)))]) (fun ρ => (fun w => Kb w 1 (rowK .u32 64 kN) ∧ Kb w 0 #[(.int .u32 1779033703), (.int .u32 3144134277), (.int .u32 1013904242), (.int .u32 2773480762), (.int .u32 1359893119), (.int .u32 2600822924), (.int .u32 528734635), (.int .u32 1541459225)] ∧ Fs w0 w (oa ρ 4) (nb ρ 4) (hL x ++ hL m) ∧ True)) := by
  refine reg_drawn_f [0, 1, 0, 7, 15, 31, 63, 0, 255] [4, 5] 9
    (fun ρ ι => ([(U x), (.agg (hB x)), (.agg (hB m)), (.slice (some ⟨nb ρ 3, 0, none⟩) 2 2), (.slice (oa ρ 4) (hL x ++ hL m).length (nb ρ 4)), (.agg (hB (tagN tgN (hL x ++ hL m)))), (U (addmN (tagN tgN (hL x ++ hL m)) 0 qP)), (pt (nb ρ 7)), undef] : List Value).getD ι undef)
    (fun ρ ι => ([{}, {}, {}, { news := [(nb ρ 3, (.cells (hB x ++ hB m) 26 (0, 0)))] }, {}, {}, {}, { news := [(nb ρ 7, (.cells (cU 0) 24 (0, 0)))] }, { puts := [(59, (.cells (cU (addmN (tagN tgN (hL x ++ hL m)) 0 qP)) 24 (0, 0)))] }] : List Eff).getD ι {})
    (fun ρ ι => ([(fun _ => True), (fun _ => True), (fun _ => True), (fun _ => True), (fun w => Fs w0 w (oa ρ 4) (nb ρ 4) (hL x ++ hL m)), (fun _ => True), (fun _ => True), (fun _ => True), (fun _ => True)] : List (World → Prop)).getD ι (fun _ => True))
    (by kernel_rfl) (by kernel_rfl) (by kernel_rfl) (fun _ => by kernel_rfl) (fun _ => by kernel_rfl) (fun _ _ hF hf => ⟨hF.1, hF.2.1, hf 4 (by omega), trivial⟩) ⟨⟨⟨⟨⟨⟨⟨⟨⟨trivial, ?_⟩, ?_⟩, ?_⟩, ?_⟩, ?_⟩, ?_⟩, ?_⟩, ?_⟩, ?_⟩
  · exact Obl.brings (o_run 0 [0] [] (fun _ _ => [nb ρ1 0, nb ρ1 0, nb ρ1 0, nb ρ1 0]) (fun _ _ => by kernel_rfl)) (fun _ _ => trivial)
  · exact Obl.brings (o_call 1 46 (fun _ => #[(U x)]) (fun _ => (.agg (hB x))) (fun _ _ => by kernel_rfl) (fun _ w => (fun w => bytes_any x w) w)) (fun _ _ => trivial)
  · exact Obl.brings (o_run 2 [1] [] (fun _ _ => [nb ρ1 1, nb ρ1 1, nb ρ1 1, nb ρ1 1, nb ρ1 1, nb ρ1 1, nb ρ1 1, nb ρ1 1, nb ρ1 1, nb ρ1 1, nb ρ1 1, nb ρ1 1, nb ρ1 1, nb ρ1 1, nb ρ1 1, nb ρ1 1, nb ρ1 1, nb ρ1 1, nb ρ1 1, nb ρ1 1, nb ρ1 1, nb ρ1 1, nb ρ1 1, nb ρ1 1, nb ρ1 1, nb ρ1 1, nb ρ1 1, nb ρ1 1, nb ρ1 1, nb ρ1 1, nb ρ1 1, nb ρ1 1]) (fun _ _ => by kernel_rfl)) (fun _ _ => trivial)
  · exact Obl.brings (o_run 3 [] [] (fun _ _ => []) (fun _ _ => by kernel_rfl)) (fun _ _ => trivial)
  · exact o_callB 4 45 (fun ρ => #[(.slice (some ⟨nb ρ 3, 0, none⟩) 2 2)]) (fun _ α κ => (.slice α (hL x ++ hL m).length κ)) (fun _ => hL x ++ hL m) (fun _ _ => (by kernel_rfl)) (fun _ _ => (by kernel_rfl)) (fun _ _ => (by kernel_rfl)) (fun _ _ => (by kernel_rfl)) (fun ρ _ w hG => sgrow2_any (nb ρ 3) x m hx hm w (Kb.of_block (hG.known (g := nb ρ 3) (o := (.cells (hB x ++ hB m) 26 (0, 0))) 27 (by kernel_rfl) (by kernel_rfl))))
  · exact o_callP 5 44 (fun ρ => #[(.string ⟨#[108, 105, 103, 104, 116, 99, 108, 105, 101, 110, 116, 47, 110, 111, 110, 99, 101]⟩), (.slice (oa ρ 4) (hL x ++ hL m).length (nb ρ 4))]) (fun _ => (.agg (hB (tagN tgN (hL x ++ hL m))))) (fun _ _ => (by kernel_rfl)) (fun _ => (by kernel_rfl)) (fun _ _ => (by kernel_rfl)) (fun _ _ => trivial) (fun ρ _ w hG => tagged_any tgN (oa ρ 4) (nb ρ 4) (hL x ++ hL m) (by decide) (by simp only [List.length_append, hL_length]; omega) w ((show Fs w0 w (oa ρ 4) (nb ρ 4) (hL x ++ hL m) from (hG.facts 4 rfl).now).1) hG.facts0.now.1 hG.facts0.now.2.1)
  · exact Obl.brings (o_call 6 43 (fun _ => #[(.agg (hB (tagN tgN (hL x ++ hL m))))]) (fun _ => (U (addmN (tagN tgN (hL x ++ hL m)) 0 qP))) (fun _ _ => by kernel_rfl) (fun _ w => (fun w => gscalar_any (tagN tgN (hL x ++ hL m)) w (tagN_lt _ _)) w)) (fun _ _ => trivial)
  · exact Obl.brings (o_run 7 [] [] (fun _ _ => []) (fun _ _ => by kernel_rfl)) (fun _ _ => trivial)
  · exact Obl.brings (o_run 8 [59] [] (fun ρ _ => [nb ρ 7, nb ρ 7, nb ρ 7, nb ρ 7]) (fun _ _ => by kernel_rfl)) (fun _ _ => trivial)
theorem nonce_any_r3 (x : Nat) (m : Nat) (ρ1 : Nat → Orc) (ρ2 : Nat → Orc) (w0 : World) (F : World → Prop) : Reg Tryd.prog 2 (regOps Tryd.f15 2) false 18 [(4, (pt (nb ρ1 2))), (5, (pt (nb ρ2 7)))] w0 [(nb ρ1 0, (.cells (cU x) 24 (0, 0))), (nb ρ1 1, (.cells (hB m) 26 (0, 0))), (nb ρ1 2, (.cells (cU 0) 24 (0, 0))), (nb ρ2 3, (.cells (hB x ++ hB m) 26 (0, 0))), (nb ρ2 7, (.cells (cU (addmN (tagN tgN (hL x ++ hL m)) 0 qP)) 24 (0, 0)))] F
    (fun _ => [(4, (pt (nb ρ1 2))), (5, (pt (nb ρ2 7))), (15, (.bool (decide (addmN (tagN tgN (hL x ++ hL m)) 0 qP = 0))))])
    (fun _ => [(nb ρ1 0, (.cells (cU x) 24 (0, 0))), (nb ρ1 1, (.cells (hB m) 26 (0, 0))), (nb ρ1 2, (.cells (cU 0) 24 (0, 0))), (nb ρ2 3, (.cells (hB x ++ hB m) 26 (0, 0))), (nb ρ2 7, (.cells (cU (addmN (tagN tgN (hL x ++ hL m)) 0 qP)) 24 (0, 0)))]) := by
  refine reg_seq [0, 1, 3] [4, 5, 15] 3
    (fun _ ι => ([(U (addmN (tagN tgN (hL x ++ hL m)) 0 qP)), (U 0), (.bool (decide (addmN (tagN tgN (hL x ++ hL m)) 0 qP = 0)))] : List Value).getD ι undef)
    (fun _ ι => ([{}, {}, {}] : List Eff).getD ι {})
    (by kernel_rfl) (by kernel_rfl) (fun _ => by kernel_rfl) (fun _ => by kernel_rfl) ⟨⟨⟨trivial, ?_⟩, ?_⟩, ?_⟩
  · exact o_run 0 [4] [] (fun _ _ => [nb ρ2 7, nb ρ2 7, nb ρ2 7, nb ρ2 7]) (fun _ _ => by kernel_rfl)
  · exact o_run 1 [] [] (fun _ _ => []) (fun _ _ => by kernel_rfl)
  · exact o_bin 2 .eql 24 (fun _ => (U (addmN (tagN tgN (hL x ++ hL m)) 0 qP))) (fun _ => (U 0)) (fun _ => (.bool (decide (addmN (tagN tgN (hL x ++ hL m)) 0 qP = 0)))) (fun _ => by kernel_rfl) (fun _ _ _ _ => by kernel_rfl) (fun _ _ => eqlU (addmN (tagN tgN (hL x ++ hL m)) 0 qP) 0 (addmN_lt _ _ qP_lt) (by decide +kernel) _)
theorem nonce_any_r4 (x : Nat) (m : Nat) (ρ1 : Nat → Orc) (ρ2 : Nat → Orc) (w0 : World) (F : World → Prop) : Reg Tryd.prog 3 (regOps Tryd.f15 3) false 18 [(4, (pt (nb ρ1 2))), (5, (pt (nb ρ2 7))), (15, (.bool true))] w0 [(nb ρ1 0, (.cells (cU x) 24 (0, 0))), (nb ρ1 1, (.cells (hB m) 26 (0, 0))), (nb ρ1 2, (.cells (cU 0) 24 (0, 0))), (nb ρ2 3, (.cells (hB x ++ hB m) 26 (0, 0))), (nb ρ2 7, (.cells (cU (addmN (tagN tgN (hL x ++ hL m)) 0 qP)) 24 (0, 0)))] F
    (fun _ => [(4, (pt (nb ρ1 2))), (5, (pt (nb ρ2 7)))])
    (fun _ => [(nb ρ1 0, (.cells (cU x) 24 (0, 0))), (nb ρ1 1, (.cells (hB m) 26 (0, 0))), (nb ρ1 2, (.cells (cU 1) 24 (0, 0))), (nb ρ2 3, (.cells (hB x ++ hB m) 26 (0, 0))), (nb ρ2 7, (.cells (cU (addmN (tagN tgN (hL x ++ hL m)) 0 qP)) 24 (0, 0)))]) := by
  refine reg_seq [0, 1] [4, 5] 2
    (fun _ ι => ([(U 1), undef] : List Value).getD ι undef)
    (fun _ ι => ([{}, { puts := [(2, (.cells (cU 1) 24 (0, 0)))] }] : List Eff).getD ι {})
    (by kernel_rfl) (by kernel_rfl) (fun _ => by kernel_rfl) (fun _ => by kernel_rfl) ⟨⟨trivial, ?_⟩, ?_⟩
  · exact o_call 0 39 (fun _ => #[(.int .u64 1)]) (fun _ => (U 1)) (fun _ _ => by kernel_rfl) (fun _ w => (fun w => fromuint_lit 1 w (by decide)) w)
  · exact o_run 1 [2] [] (fun _ _ => [nb ρ1 2, nb ρ1 2, nb ρ1 2, nb ρ1 2]) (fun _ _ => by kernel_rfl)
theorem nonce_any_r5 (x : Nat) (m : Nat) (ρ1 : Nat → Orc) (ρ2 : Nat → Orc) (w0 : World) (F : World → Prop) : Reg Tryd.prog 4 (regOps Tryd.f15 4) false 18 [(4, (pt (nb ρ1 2))), (5, (pt (nb ρ2 7))), (15, (.bool false))] w0 [(nb ρ1 0, (.cells (cU x) 24 (0, 0))), (nb ρ1 1, (.cells (hB m) 26 (0, 0))), (nb ρ1 2, (.cells (cU 0) 24 (0, 0))), (nb ρ2 3, (.cells (hB x ++ hB m) 26 (0, 0))), (nb ρ2 7, (.cells (cU (addmN (tagN tgN (hL x ++ hL m)) 0 qP)) 24 (0, 0)))] F
    (fun _ => [(4, (pt (nb ρ1 2)))])
    (fun _ => [(nb ρ1 0, (.cells (cU x) 24 (0, 0))), (nb ρ1 1, (.cells (hB m) 26 (0, 0))), (nb ρ1 2, (.cells (cU (addmN (tagN tgN (hL x ++ hL m)) 0 qP)) 24 (0, 0))), (nb ρ2 3, (.cells (hB x ++ hB m) 26 (0, 0))), (nb ρ2 7, (.cells (cU (addmN (tagN tgN (hL x ++ hL m)) 0 qP)) 24 (0, 0)))]) := by
  refine reg_seq [0, 1] [4] 2
    (fun _ ι => ([(U (addmN (tagN tgN (hL x ++ hL m)) 0 qP)), undef] : List Value).getD ι undef)
    (fun _ ι => ([{}, { puts := [(2, (.cells (cU (addmN (tagN tgN (hL x ++ hL m)) 0 qP)) 24 (0, 0)))] }] : List Eff).getD ι {})
    (by kernel_rfl) (by kernel_rfl) (fun _ => by kernel_rfl) (fun _ => by kernel_rfl) ⟨⟨trivial, ?_⟩, ?_⟩
  · exact o_run 0 [4] [] (fun _ _ => [nb ρ2 7, nb ρ2 7, nb ρ2 7, nb ρ2 7]) (fun _ _ => by kernel_rfl)
  · exact o_run 1 [2] [] (fun _ _ => [nb ρ1 2, nb ρ1 2, nb ρ1 2, nb ρ1 2]) (fun _ _ => by kernel_rfl)
theorem nonce_any (x : Nat) (m : Nat) (hx : x < M) (hm : m < M) (w0 : World) (hf0 : Kb w0 1 (rowK .u32 64 kN)) (hf1 : Kb w0 0 #[(.int .u32 1779033703), (.int .u32 3144134277), (.int .u32 1013904242), (.int .u32 2773480762), (.int .u32 1359893119), (.int .u32 2600822924), (.int .u32 528734635), (.int .u32 1541459225)]) : Calls Tryd.prog 15 #[(U x), (.agg (hB m))] w0 (fun ε w' => ε = .returned (U (nonN x m)) ∧ Below w0.heap.size w0 w') := by
  refine Calls.of_ok (n := 18) (F := (fun w => Kb w 1 (rowK .u32 64 kN) ∧ Kb w 0 #[(.int .u32 1779033703), (.int .u32 3144134277), (.int .u32 1013904242), (.int .u32 2773480762), (.int .u32 1359893119), (.int .u32 2600822924), (.int .u32 528734635), (.int .u32 1541459225)] ∧ True)) Tryd.func15 rfl rfl rfl (by simp) (hf0.pers0.and (hf1.pers0.and persT)) ?_
  refine ok_seq_r (by kernel_rfl) (nonce_any_r1 x m _ _) (fun ρ1 => ?_)
  refine ok_seq_rf (by kernel_rfl) (nonce_any_r2 x m hx hm ρ1 _) (fun ρ2 => ?_)
  refine ok_seq ?_
  refine ok_seq_r (by kernel_rfl) (nonce_any_r3 x m ρ1 ρ2 _ _) (fun _ => ?_)
  refine ok_cond (b := decide (addmN (tagN tgN (hL x ++ hL m)) 0 qP = 0)) (by kernel_rfl) (fun hb1 => ?_) (fun hb1 => ?_)
  ·
    rw [hb1]
    refine ok_seq_r (by kernel_rfl) (nonce_any_r4 x m ρ1 ρ2 _ _) (fun _ => ?_)
    refine ok_ret ?_
    refine mt_then_r ?_
    exact meets_ret (v := (U 1)) [2, 2, 2, 2] (dup [nb ρ1 2, nb ρ1 2, nb ρ1 2, nb ρ1 2]) (by kernel_rfl) (by kernel_rfl) (eqs_dup _) (fun _ hS => ⟨congrArg (fun x => Ending.returned (U x)) (non_0 hb1), hS.below⟩)
  ·
    rw [hb1]
    refine ok_skip ?_
    refine mt_then ?_
    refine ok_seq_r (by kernel_rfl) (nonce_any_r5 x m ρ1 ρ2 _ _) (fun _ => ?_)
    refine ok_ret ?_
    exact meets_ret (v := (U (addmN (tagN tgN (hL x ++ hL m)) 0 qP))) [2, 2, 2, 2] (dup [nb ρ1 2, nb ρ1 2, nb ρ1 2, nb ρ1 2]) (by kernel_rfl) (by kernel_rfl) (eqs_dup _) (fun _ hS => ⟨congrArg (fun x => Ending.returned (U x)) (non_1 hb1), hS.below⟩)
theorem challenge_any_r1 (r : Nat) (p : Nat) (m : Nat) (w0 : World) (F : World → Prop) : Reg Tryd.prog 0 (regOps Tryd.f17 0) false 16 [(0, (U r)), (1, (U p)), (2, (.agg (hB m)))] w0 [] F
    (fun ρ => [(3, (pt (nb ρ 0))), (4, (pt (nb ρ 1))), (5, (pt (nb ρ 2))), (6, (pt (nb ρ 3)))])
    (fun ρ => [(nb ρ 0, (.cells (cU r) 24 (0, 0))), (nb ρ 1, (.cells (cU p) 24 (0, 0))), (nb ρ 2, (.cells (hB m) 26 (0, 0))), (nb ρ 3, (.cells (cU 0) 24 (0, 0)))]) := by
  refine reg_seq [0, 1, 3, 7] [3, 4, 5, 6] 4
    (fun ρ ι => ([(pt (nb ρ 0)), (pt (nb ρ 1)), (pt (nb ρ 2)), (pt (nb ρ 3))] : List Value).getD ι undef)
    (fun ρ ι => ([{ news := [(nb ρ 0, (.cells (cU r) 24 (0, 0)))] }, { news := [(nb ρ 1, (.cells (cU p) 24 (0, 0)))] }, { news := [(nb ρ 2, (.cells (hB m) 26 (0, 0)))] }, { news := [(nb ρ 3, (.cells (cU 0) 24 (0, 0)))] }] : List Eff).getD ι {})
    (by kernel_rfl) (by kernel_rfl) (fun _ => by kernel_rfl) (fun _ => by kernel_rfl) ⟨⟨⟨⟨trivial, ?_⟩, ?_⟩, ?_⟩, ?_⟩
  · exact o_run 0 [] [] (fun _ _ => []) (fun _ _ => by kernel_rfl)
  · exact o_run 1 [] [] (fun _ _ => []) (fun _ _ => by kernel_rfl)
  · exact o_run 2 [] [] (fun _ _ => []) (fun _ _ => by kernel_rfl)
  · exact o_run 3 [] [] (fun _ _ => []) (fun _ _ => by kernel_rfl)
theorem challenge_any_r2 (r : Nat) (p : Nat) (m : Nat) (hr : r < M) (hp : p < M) (hm : m < M) (ρ1 : Nat → Orc) (w0 : World) : RegF Tryd.prog 1 (regOps Tryd.f17 1) true 16 [(3, (pt (nb ρ1 0))), (4, (pt (nb ρ1 1))), (5, (pt (nb ρ1 2))), (6, (pt (nb ρ1 3)))] w0 [(nb ρ1 0, (.cells (cU r) 24 (0, 0))), (nb ρ1 1, (.cells (cU p) 24 (0, 0))), (nb ρ1 2, (.cells (hB m) 26 (0, 0))), (nb ρ1 3, (.cells (cU 0) 24 (0, 0)))] (fun w => Kb w 1 (rowK .u32 64 kN) ∧ Kb w 0 #[(.int .u32 1779033703), (.int .u32 3144134277), (.int .u32 1013904242), (.int .u32 2773480762), (.int .u32 1359893119), (.int .u32 2600822924), (.int .u32 528734635), (.int .u32 1541459225)] ∧ True)
    (fun _ => [(6, (pt (nb ρ1 3)))])
    (fun ρ => [(nb ρ1 0, (.cells (cU r) 24 (0, 0))), (nb ρ1 1, (.cells (cU p) 24 (0, 0))), (nb ρ1 2, (.cells (hB m) 26 (0, 0))), (nb ρ1 3, (.cells (cU (addmN (tagN tgC ((hL r ++ hL p) ++ hL m)) 0 qP)) 24 (0, 0))), (nb ρ 5, (.cells (hB r ++ hB p ++ hB m) 26 (0, 0)))]) (fun ρ => (fun w => Kb w 1 (rowK .u32 64 kN) ∧ Kb w 0 #[(.int .u32 1779033703), (.int .u32 3144134277), (.int .u32 1013904242), (.int .u32 2773480762), (.int .u32 1359893119), (.int .u32 2600822924), (.int .u32 528734635), (.int .u32 1541459225)] ∧ Fs w0 w (oa ρ 6) (nb ρ 6) ((hL r ++ hL p) ++ hL m) ∧ True)) := by
  refine reg_drawn_f [0, 1, 0, 7, 0, 31, 63, 127, 255, 511] [6] 10
    (fun ρ ι => ([(U r), (.agg (hB r)), (U p), (.agg (hB p)), (.agg (hB m)), (.slice (some ⟨nb ρ 5, 0, none⟩) 3 3), (.slice (oa ρ 6) ((hL r ++ hL p) ++ hL m).length (nb ρ 6)), (.agg (hB (tagN tgC ((hL r ++ hL p) ++ hL m)))), (U (addmN (tagN tgC ((hL r ++ hL p) ++ hL m)) 0 qP)), undef] : List Value).getD ι undef)
    (fun ρ ι => ([{}, {}, {}, {}, {}, { news := [(nb ρ 5, (.cells (hB r ++ hB p ++ hB m) 26 (0, 0)))] }, {}, {}, {}, { puts := [(3, (.cells (cU (addmN (tagN tgC ((hL r ++ hL p) ++ hL m)) 0 qP)) 24 (0, 0)))] }] : List Eff).getD ι {})
    (fun ρ ι => ([(fun _ => True), (fun _ => True), (fun _ => True), (fun _ => True), (fun _ => True), (fun _ => True), (fun w => Fs w0 w (oa ρ 6) (nb ρ 6) ((hL r ++ hL p) ++ hL m)), (fun _ => True), (fun _ => True), (fun _ => True)] : List (World → Prop)).getD ι (fun _ => True))
    (by kernel_rfl) (by kernel_rfl) (by kernel_rfl) (fun _ => by kernel_rfl) (fun _ => by kernel_rfl) (fun _ _ hF hf => ⟨hF.1, hF.2.1, hf 6 (by omega), trivial⟩) ⟨⟨⟨⟨⟨⟨⟨⟨⟨⟨trivial, ?_⟩, ?_⟩, ?_⟩, ?_⟩, ?_⟩, ?_⟩, ?_⟩, ?_⟩, ?_⟩, ?_⟩
  · exact Obl.brings (o_run 0 [0] [] (fun _ _ => [nb ρ1 0, nb ρ1 0, nb ρ1 0, nb ρ1 0]) (fun _ _ => by kernel_rfl)) (fun _ _ => trivial)
  · exact Obl.brings (o_call 1 46 (fun _ => #[(U r)]) (fun _ => (.agg (hB r))) (fun _ _ => by kernel_rfl) (fun _ w => (fun w => bytes_any r w) w)) (fun _ _ => trivial)
  · exact Obl.brings (o_run 2 [1] [] (fun _ _ => [nb ρ1 1, nb ρ1 1, nb ρ1 1, nb ρ1 1]) (fun _ _ => by kernel_rfl)) (fun _ _ => trivial)
  · exact Obl.brings (o_call 3 46 (fun _ => #[(U p)]) (fun _ => (.agg (hB p))) (fun _ _ => by kernel_rfl) (fun _ w => (fun w => bytes_any p w) w)) (fun _ _ => trivial)
  · exact Obl.brings (o_run 4 [2] [] (fun _ _ => [nb ρ1 2, nb ρ1 2, nb ρ1 2, nb ρ1 2, nb ρ1 2, nb ρ1 2, nb ρ1 2, nb ρ1 2, nb ρ1 2, nb ρ1 2, nb ρ1 2, nb ρ1 2, nb ρ1 2, nb ρ1 2, nb ρ1 2, nb ρ1 2, nb ρ1 2, nb ρ1 2, nb ρ1 2, nb ρ1 2, nb ρ1 2, nb ρ1 2, nb ρ1 2, nb ρ1 2, nb ρ1 2, nb ρ1 2, nb ρ1 2, nb ρ1 2, nb ρ1 2, nb ρ1 2, nb ρ1 2, nb ρ1 2]) (fun _ _ => by kernel_rfl)) (fun _ _ => trivial)
  · exact Obl.brings (o_run 5 [] [] (fun _ _ => []) (fun _ _ => by kernel_rfl)) (fun _ _ => trivial)
  · exact o_callB 6 45 (fun ρ => #[(.slice (some ⟨nb ρ 5, 0, none⟩) 3 3)]) (fun _ α κ => (.slice α ((hL r ++ hL p) ++ hL m).length κ)) (fun _ => (hL r ++ hL p) ++ hL m) (fun _ _ => (by kernel_rfl)) (fun _ _ => (by kernel_rfl)) (fun _ _ => (by kernel_rfl)) (fun _ _ => (by kernel_rfl)) (fun ρ _ w hG => sgrow3_any (nb ρ 5) r p m hr hp hm w (Kb.of_block (hG.known (g := nb ρ 5) (o := (.cells (hB r ++ hB p ++ hB m) 26 (0, 0))) 44 (by kernel_rfl) (by kernel_rfl))))
  · exact o_callP 7 44 (fun ρ => #[(.string ⟨#[108, 105, 103, 104, 116, 99, 108, 105, 101, 110, 116, 47, 99, 104, 97, 108, 108, 101, 110, 103, 101]⟩), (.slice (oa ρ 6) ((hL r ++ hL p) ++ hL m).length (nb ρ 6))]) (fun _ => (.agg (hB (tagN tgC ((hL r ++ hL p) ++ hL m))))) (fun _ _ => (by kernel_rfl)) (fun _ => (by kernel_rfl)) (fun _ _ => (by kernel_rfl)) (fun _ _ => trivial) (fun ρ _ w hG => tagged_any tgC (oa ρ 6) (nb ρ 6) ((hL r ++ hL p) ++ hL m) (by decide) (by simp only [List.length_append, hL_length]; omega) w ((show Fs w0 w (oa ρ 6) (nb ρ 6) ((hL r ++ hL p) ++ hL m) from (hG.facts 6 rfl).now).1) hG.facts0.now.1 hG.facts0.now.2.1)
  · exact Obl.brings (o_call 8 43 (fun _ => #[(.agg (hB (tagN tgC ((hL r ++ hL p) ++ hL m))))]) (fun _ => (U (addmN (tagN tgC ((hL r ++ hL p) ++ hL m)) 0 qP))) (fun _ _ => by kernel_rfl) (fun _ w => (fun w => gscalar_any (tagN tgC ((hL r ++ hL p) ++ hL m)) w (tagN_lt _ _)) w)) (fun _ _ => trivial)
  · exact Obl.brings (o_run 9 [3] [] (fun _ _ => [nb ρ1 3, nb ρ1 3, nb ρ1 3, nb ρ1 3]) (fun _ _ => by kernel_rfl)) (fun _ _ => trivial)
theorem challenge_any (r : Nat) (p : Nat) (m : Nat) (hr : r < M) (hp : p < M) (hm : m < M) (w0 : World) (hf0 : Kb w0 1 (rowK .u32 64 kN)) (hf1 : Kb w0 0 #[(.int .u32 1779033703), (.int .u32 3144134277), (.int .u32 1013904242), (.int .u32 2773480762), (.int .u32 1359893119), (.int .u32 2600822924), (.int .u32 528734635), (.int .u32 1541459225)]) : Calls Tryd.prog 17 #[(U r), (U p), (.agg (hB m))] w0 (fun ε w' => ε = .returned (U (chaN r p m)) ∧ Below w0.heap.size w0 w') := by
  refine Calls.of_ok (n := 16) (F := (fun w => Kb w 1 (rowK .u32 64 kN) ∧ Kb w 0 #[(.int .u32 1779033703), (.int .u32 3144134277), (.int .u32 1013904242), (.int .u32 2773480762), (.int .u32 1359893119), (.int .u32 2600822924), (.int .u32 528734635), (.int .u32 1541459225)] ∧ True)) Tryd.func17 rfl rfl rfl (by simp) (hf0.pers0.and (hf1.pers0.and persT)) ?_
  refine ok_seq_r (by kernel_rfl) (challenge_any_r1 r p m _ _) (fun ρ1 => ?_)
  refine ok_seq_rf (by kernel_rfl) (challenge_any_r2 r p m hr hp hm ρ1 _) (fun _ => ?_)
  refine ok_ret ?_
  exact meets_ret (v := (U (addmN (tagN tgC ((hL r ++ hL p) ++ hL m)) 0 qP))) [3, 3, 3, 3] (dup [nb ρ1 3, nb ρ1 3, nb ρ1 3, nb ρ1 3]) (by kernel_rfl) (by kernel_rfl) (eqs_dup _) (fun _ hS => ⟨congrArg (fun x => Ending.returned (U x)) ((cha_eq r p m)), hS.below⟩)
theorem signw_any_r1 (x : Nat) (m : Nat) (w0 : World) (F : World → Prop) : Reg Tryd.prog 0 (regOps Tryd.f19 0) false 34 [(0, (U x)), (1, (.agg (hB m)))] w0 [] F
    (fun ρ => [(2, (pt (nb ρ 0))), (3, (pt (nb ρ 1))), (4, (pt (nb ρ 2))), (5, (.int .i64 0))])
    (fun ρ => [(nb ρ 0, (.cells (cU x) 24 (0, 0))), (nb ρ 1, (.cells (hB m) 26 (0, 0))), (nb ρ 2, (.cells (cU 0 ++ cU 0) 36 (0, 0)))]) := by
  refine reg_seq [0, 1, 3, 7] [2, 3, 4, 5] 4
    (fun ρ ι => ([(pt (nb ρ 0)), (pt (nb ρ 1)), (pt (nb ρ 2)), (.int .i64 0)] : List Value).getD ι undef)
    (fun ρ ι => ([{ news := [(nb ρ 0, (.cells (cU x) 24 (0, 0)))] }, { news := [(nb ρ 1, (.cells (hB m) 26 (0, 0)))] }, { news := [(nb ρ 2, (.cells (cU 0 ++ cU 0) 36 (0, 0)))] }, {}] : List Eff).getD ι {})
    (by kernel_rfl) (by kernel_rfl) (fun _ => by kernel_rfl) (fun _ => by kernel_rfl) ⟨⟨⟨⟨trivial, ?_⟩, ?_⟩, ?_⟩, ?_⟩
  · exact o_run 0 [] [] (fun _ _ => []) (fun _ _ => by kernel_rfl)
  · exact o_run 1 [] [] (fun _ _ => []) (fun _ _ => by kernel_rfl)
  · exact o_run 2 [] [] (fun _ _ => []) (fun _ _ => by kernel_rfl)
  · exact o_run 3 [] [] (fun _ _ => []) (fun _ _ => by kernel_rfl)
theorem signw_any_r2 (x : Nat) (m : Nat) (p : Nat) (hx : x < M) (ep : pubV x = p) (ρ1 : Nat → Orc) (w0 : World) : RegF Tryd.prog 1 (regOps Tryd.f19 1) false 34 [(2, (pt (nb ρ1 0))), (3, (pt (nb ρ1 1))), (4, (pt (nb ρ1 2))), (5, (.int .i64 0))] w0 [(nb ρ1 0, (.cells (cU x) 24 (0, 0))), (nb ρ1 1, (.cells (hB m) 26 (0, 0))), (nb ρ1 2, (.cells (cU 0 ++ cU 0) 36 (0, 0)))] (fun w => Kb w 1 (rowK .u32 64 kN) ∧ Kb w 0 #[(.int .u32 1779033703), (.int .u32 3144134277), (.int .u32 1013904242), (.int .u32 2773480762), (.int .u32 1359893119), (.int .u32 2600822924), (.int .u32 528734635), (.int .u32 1541459225)] ∧ True)
    (fun ρ => [(2, (pt (nb ρ1 0))), (3, (pt (nb ρ1 1))), (4, (pt (nb ρ1 2))), (5, (.int .i64 0)), (6, (pt (nb ρ 5))), (7, (.int .i64 (pubE x)))])
    (fun ρ => [(nb ρ1 0, (.cells (cU x) 24 (0, 0))), (nb ρ1 1, (.cells (hB m) 26 (0, 0))), (nb ρ1 2, (.cells (cU 0 ++ cU 0) 36 (0, 0))), (nb ρ 5, (.cells (cU p) 24 (0, 0)))]) (fun _ => (fun w => Kb w 1 (rowK .u32 64 kN) ∧ Kb w 0 #[(.int .u32 1779033703), (.int .u32 3144134277), (.int .u32 1013904242), (.int .u32 2773480762), (.int .u32 1359893119), (.int .u32 2600822924), (.int .u32 528734635), (.int .u32 1541459225)] ∧ True)) := by
  refine reg_seq_f [0, 1, 3, 7, 15, 31, 63, 127] [2, 3, 4, 5, 6, 7] 8
    (fun ρ ι => ([(U x), (.tuple #[(U p), (.int .i64 (pubE x))]), (.tuple #[(U p), (.int .i64 (pubE x))]), (U p), (.int .i64 (pubE x)), (pt (nb ρ 5)), undef, (.int .i64 (pubE x))] : List Value).getD ι undef)
    (fun ρ ι => ([{}, {}, {}, {}, {}, { news := [(nb ρ 5, (.cells (cU 0) 24 (0, 0)))] }, { puts := [(43, (.cells (cU p) 24 (0, 0)))] }, {}] : List Eff).getD ι {})
    (fun _ ι => ([(fun _ => True), (fun _ => True), (fun _ => True), (fun _ => True), (fun _ => True), (fun _ => True), (fun _ => True), (fun _ => True)] : List (World → Prop)).getD ι (fun _ => True))
    (by kernel_rfl) (by kernel_rfl) (fun _ => by kernel_rfl) (fun _ => by kernel_rfl) (fun _ _ hF _ => ⟨hF.1, hF.2.1, trivial⟩) ⟨⟨⟨⟨⟨⟨⟨⟨trivial, ?_⟩, ?_⟩, ?_⟩, ?_⟩, ?_⟩, ?_⟩, ?_⟩, ?_⟩
  · exact Obl.brings (o_run 0 [0] [] (fun _ _ => [nb ρ1 0, nb ρ1 0, nb ρ1 0, nb ρ1 0]) (fun _ _ => by kernel_rfl)) (fun _ _ => trivial)
  · exact o_callP 1 10 (fun _ => #[(U x)]) (fun _ => (.tuple #[(U p), (.int .i64 (pubE x))])) (fun _ _ => (by kernel_rfl)) (fun _ => (by kernel_rfl)) (fun _ _ => (by kernel_rfl)) (fun _ _ => trivial) (fun _ _ w _ => (by as_aux_lemma => (have hcall := public_any x hx w ; rw [ep] at hcall; exact hcall)))
  · exact Obl.brings (o_run 2 [] [] (fun _ _ => []) (fun _ _ => by kernel_rfl)) (fun _ _ => trivial)
  · exact Obl.brings (o_run 3 [] [] (fun _ _ => []) (fun _ _ => by kernel_rfl)) (fun _ _ => trivial)
  · exact Obl.brings (o_run 4 [] [] (fun _ _ => []) (fun _ _ => by kernel_rfl)) (fun _ _ => trivial)
  · exact Obl.brings (o_run 5 [] [] (fun _ _ => []) (fun _ _ => by kernel_rfl)) (fun _ _ => trivial)
  · exact Obl.brings (o_run 6 [43] [] (fun ρ _ => [nb ρ 5, nb ρ 5, nb ρ 5, nb ρ 5]) (fun _ _ => by kernel_rfl)) (fun _ _ => trivial)
  · exact Obl.brings (o_run 7 [] [] (fun _ _ => []) (fun _ _ => by kernel_rfl)) (fun _ _ => trivial)
theorem signw_any_r3 (x : Nat) (m : Nat) (p : Nat) (ρ1 : Nat → Orc) (ρ2 : Nat → Orc) (w0 : World) (F : World → Prop) : Reg Tryd.prog 2 (regOps Tryd.f19 2) false 34 [(2, (pt (nb ρ1 0))), (3, (pt (nb ρ1 1))), (4, (pt (nb ρ1 2))), (5, (.int .i64 0)), (6, (pt (nb ρ2 5))), (7, (.int .i64 (pubE x)))] w0 [(nb ρ1 0, (.cells (cU x) 24 (0, 0))), (nb ρ1 1, (.cells (hB m) 26 (0, 0))), (nb ρ1 2, (.cells (cU 0 ++ cU 0) 36 (0, 0))), (nb ρ2 5, (.cells (cU p) 24 (0, 0)))] F
    (fun _ => [(2, (pt (nb ρ1 0))), (3, (pt (nb ρ1 1))), (4, (pt (nb ρ1 2))), (5, (.int .i64 0)), (6, (pt (nb ρ2 5))), (7, (.int .i64 (pubE x))), (16, (.bool ((pubE x) != 0)))])
    (fun _ => [(nb ρ1 0, (.cells (cU x) 24 (0, 0))), (nb ρ1 1, (.cells (hB m) 26 (0, 0))), (nb ρ1 2, (.cells (cU 0 ++ cU 0) 36 (0, 0))), (nb ρ2 5, (.cells (cU p) 24 (0, 0)))]) := by
  refine reg_seq [0, 1] [2, 3, 4, 5, 6, 7, 16] 2
    (fun _ ι => ([(.int .i64 (pubE x)), (.bool ((pubE x) != 0))] : List Value).getD ι undef)
    (fun _ ι => ([{}, {}] : List Eff).getD ι {})
    (by kernel_rfl) (by kernel_rfl) (fun _ => by kernel_rfl) (fun _ => by kernel_rfl) ⟨⟨trivial, ?_⟩, ?_⟩
  · exact o_run 0 [] [] (fun _ _ => []) (fun _ _ => by kernel_rfl)
  · exact o_run 1 [] [] (fun _ _ => []) (fun _ _ => by kernel_rfl)
theorem signw_any_r4 (x : Nat) (m : Nat) (p : Nat) (ρ1 : Nat → Orc) (ρ2 : Nat → Orc) (w0 : World) (F : World → Prop) : Reg Tryd.prog 3 (regOps Tryd.f19 3) false 34 [(2, (pt (nb ρ1 0))), (3, (pt (nb ρ1 1))), (4, (pt (nb ρ1 2))), (5, (.int .i64 0)), (6, (pt (nb ρ2 5))), (7, (.int .i64 (pubE x))), (16, (.bool true))] w0 [(nb ρ1 0, (.cells (cU x) 24 (0, 0))), (nb ρ1 1, (.cells (hB m) 26 (0, 0))), (nb ρ1 2, (.cells (cU 0 ++ cU 0) 36 (0, 0))), (nb ρ2 5, (.cells (cU p) 24 (0, 0)))] F
    (fun _ => [(2, (pt (nb ρ1 0))), (3, (pt (nb ρ1 1))), (4, (pt (nb ρ1 2))), (5, (.int .i64 (pubE x))), (6, (pt (nb ρ2 5)))])
    (fun _ => [(nb ρ1 0, (.cells (cU x) 24 (0, 0))), (nb ρ1 1, (.cells (hB m) 26 (0, 0))), (nb ρ1 2, (.cells (cU 0 ++ cU 0) 36 (0, 0))), (nb ρ2 5, (.cells (cU p) 24 (0, 0)))]) := by
  refine reg_seq [0, 1, 3, 7] [2, 3, 4, 5, 6] 4
    (fun _ ι => ([(.agg (cU 0 ++ cU 0)), (.int .i64 (pubE x)), undef, (.int .i64 (pubE x))] : List Value).getD ι undef)
    (fun _ ι => ([{}, {}, { puts := [(2, (.cells (cU 0 ++ cU 0) 36 (0, 0)))] }, {}] : List Eff).getD ι {})
    (by kernel_rfl) (by kernel_rfl) (fun _ => by kernel_rfl) (fun _ => by kernel_rfl) ⟨⟨⟨⟨trivial, ?_⟩, ?_⟩, ?_⟩, ?_⟩
  · exact o_run 0 [] [] (fun _ _ => []) (fun _ _ => by kernel_rfl)
  · exact o_run 1 [] [] (fun _ _ => []) (fun _ _ => by kernel_rfl)
  · exact o_run 2 [2] [] (fun _ _ => [nb ρ1 2, nb ρ1 2, nb ρ1 2, nb ρ1 2, nb ρ1 2, nb ρ1 2, nb ρ1 2, nb ρ1 2]) (fun _ _ => by kernel_rfl)
  · exact o_run 3 [] [] (fun _ _ => []) (fun _ _ => by kernel_rfl)
theorem signw_any_r5 (x : Nat) (m : Nat) (k : Nat) (p : Nat) (hx : x < M) (hm : m < M) (ek : nonN x m = k) (ρ1 : Nat → Orc) (ρ2 : Nat → Orc) (w0 : World) : RegF Tryd.prog 4 (regOps Tryd.f19 4) false 34 [(2, (pt (nb ρ1 0))), (3, (pt (nb ρ1 1))), (4, (pt (nb ρ1 2))), (5, (.int .i64 0)), (6, (pt (nb ρ2 5))), (7, (.int .i64 (pubE x))), (16, (.bool false))] w0 [(nb ρ1 0, (.cells (cU x) 24 (0, 0))), (nb ρ1 1, (.cells (hB m) 26 (0, 0))), (nb ρ1 2, (.cells (cU 0 ++ cU 0) 36 (0, 0))), (nb ρ2 5, (.cells (cU p) 24 (0, 0)))] (fun w => Kb w 1 (rowK .u32 64 kN) ∧ Kb w 0 #[(.int .u32 1779033703), (.int .u32 3144134277), (.int .u32 1013904242), (.int .u32 2773480762), (.int .u32 1359893119), (.int .u32 2600822924), (.int .u32 528734635), (.int .u32 1541459225)] ∧ True)
    (fun ρ => [(2, (pt (nb ρ1 0))), (3, (pt (nb ρ1 1))), (4, (pt (nb ρ1 2))), (5, (.int .i64 0)), (6, (pt (nb ρ2 5))), (8, (pt (nb ρ 3)))])
    (fun ρ => [(nb ρ1 0, (.cells (cU x) 24 (0, 0))), (nb ρ1 1, (.cells (hB m) 26 (0, 0))), (nb ρ1 2, (.cells (cU 0 ++ cU 0) 36 (0, 0))), (nb ρ2 5, (.cells (cU p) 24 (0, 0))), (nb ρ 3, (.cells (cU k) 24 (0, 0)))]) (fun _ => (fun w => Kb w 1 (rowK .u32 64 kN) ∧ Kb w 0 #[(.int .u32 1779033703), (.int .u32 3144134277), (.int .u32 1013904242), (.int .u32 2773480762), (.int .u32 1359893119), (.int .u32 2600822924), (.int .u32 528734635), (.int .u32 1541459225)] ∧ True)) := by
  refine reg_seq_f [0, 1, 3, 7, 15] [2, 3, 4, 5, 6, 8] 5
    (fun ρ ι => ([(U x), (.agg (hB m)), (U k), (pt (nb ρ 3)), undef] : List Value).getD ι undef)
    (fun ρ ι => ([{}, {}, {}, { news := [(nb ρ 3, (.cells (cU 0) 24 (0, 0)))] }, { puts := [(28, (.cells (cU k) 24 (0, 0)))] }] : List Eff).getD ι {})
    (fun _ ι => ([(fun _ => True), (fun _ => True), (fun _ => True), (fun _ => True), (fun _ => True)] : List (World → Prop)).getD ι (fun _ => True))
    (by kernel_rfl) (by kernel_rfl) (fun _ => by kernel_rfl) (fun _ => by kernel_rfl) (fun _ _ hF _ => ⟨hF.1, hF.2.1, trivial⟩) ⟨⟨⟨⟨⟨trivial, ?_⟩, ?_⟩, ?_⟩, ?_⟩, ?_⟩
  · exact Obl.brings (o_run 0 [0] [] (fun _ _ => [nb ρ1 0, nb ρ1 0, nb ρ1 0, nb ρ1 0]) (fun _ _ => by kernel_rfl)) (fun _ _ => trivial)
  · exact Obl.brings (o_run 1 [1] [] (fun _ _ => [nb ρ1 1, nb ρ1 1, nb ρ1 1, nb ρ1 1, nb ρ1 1, nb ρ1 1, nb ρ1 1, nb ρ1 1, nb ρ1 1, nb ρ1 1, nb ρ1 1, nb ρ1 1, nb ρ1 1, nb ρ1 1, nb ρ1 1, nb ρ1 1, nb ρ1 1, nb ρ1 1, nb ρ1 1, nb ρ1 1, nb ρ1 1, nb ρ1 1, nb ρ1 1, nb ρ1 1, nb ρ1 1, nb ρ1 1, nb ρ1 1, nb ρ1 1, nb ρ1 1, nb ρ1 1, nb ρ1 1, nb ρ1 1]) (fun _ _ => by kernel_rfl)) (fun _ _ => trivial)
  · exact o_callP 2 15 (fun _ => #[(U x), (.agg (hB m))]) (fun _ => (U k)) (fun _ _ => (by kernel_rfl)) (fun _ => (by kernel_rfl)) (fun _ _ => (by kernel_rfl)) (fun _ _ => trivial) (fun _ _ w hG => (by as_aux_lemma => (have hcall := nonce_any x m hx hm w hG.facts0.now.1 hG.facts0.now.2.1; rw [ek] at hcall; exact hcall)))
  · exact Obl.brings (o_run 3 [] [] (fun _ _ => []) (fun _ _ => by kernel_rfl)) (fun _ _ => trivial)
  · exact Obl.brings (o_run 4 [28] [] (fun ρ _ => [nb ρ 3, nb ρ 3, nb ρ 3, nb ρ 3]) (fun _ _ => by kernel_rfl)) (fun _ _ => trivial)
theorem signw_any_r6 (x : Nat) (m : Nat) (k : Nat) (p : Nat) (e : Nat) (hm : m < M) (hk : k < M) (hp : p < M) (ee : chaN (expmN 4 k pP) p m = e) (ρ1 : Nat → Orc) (ρ2 : Nat → Orc) (ρ5 : Nat → Orc) (w0 : World) : RegF Tryd.prog 5 (regOps Tryd.f19 5) true 34 [(2, (pt (nb ρ1 0))), (3, (pt (nb ρ1 1))), (4, (pt (nb ρ1 2))), (5, (.int .i64 0)), (6, (pt (nb ρ2 5))), (8, (pt (nb ρ5 3)))] w0 [(nb ρ1 0, (.cells (cU x) 24 (0, 0))), (nb ρ1 1, (.cells (hB m) 26 (0, 0))), (nb ρ1 2, (.cells (cU 0 ++ cU 0) 36 (0, 0))), (nb ρ2 5, (.cells (cU p) 24 (0, 0))), (nb ρ5 3, (.cells (cU k) 24 (0, 0)))] (fun w => Kb w 1 (rowK .u32 64 kN) ∧ Kb w 0 #[(.int .u32 1779033703), (.int .u32 3144134277), (.int .u32 1013904242), (.int .u32 2773480762), (.int .u32 1359893119), (.int .u32 2600822924), (.int .u32 528734635), (.int .u32 1541459225)] ∧ True)
    (fun ρ => [(2, (pt (nb ρ1 0))), (4, (pt (nb ρ1 2))), (5, (.int .i64 0)), (8, (pt (nb ρ5 3))), (9, (pt (nb ρ 5)))])
    (fun ρ => [(nb ρ1 0, (.cells (cU x) 24 (0, 0))), (nb ρ1 1, (.cells (hB m) 26 (0, 0))), (nb ρ1 2, (.cells (cU 0 ++ cU 0) 36 (0, 0))), (nb ρ2 5, (.cells (cU p) 24 (0, 0))), (nb ρ5 3, (.cells (cU k) 24 (0, 0))), (nb ρ 5, (.cells (cU e) 24 (0, 0)))]) (fun _ => (fun w => Kb w 1 (rowK .u32 64 kN) ∧ Kb w 0 #[(.int .u32 1779033703), (.int .u32 3144134277), (.int .u32 1013904242), (.int .u32 2773480762), (.int .u32 1359893119), (.int .u32 2600822924), (.int .u32 528734635), (.int .u32 1541459225)] ∧ True)) := by
  refine reg_drawn_f [0, 1, 0, 0, 15, 0, 63] [2, 4, 5, 8, 9] 7
    (fun ρ ι => ([(U k), (U (expmN 4 k pP)), (U p), (.agg (hB m)), (U e), (pt (nb ρ 5)), undef] : List Value).getD ι undef)
    (fun ρ ι => ([{}, {}, {}, {}, {}, { news := [(nb ρ 5, (.cells (cU 0) 24 (0, 0)))] }, { puts := [(45, (.cells (cU e) 24 (0, 0)))] }] : List Eff).getD ι {})
    (fun _ ι => ([(fun _ => True), (fun _ => True), (fun _ => True), (fun _ => True), (fun _ => True), (fun _ => True), (fun _ => True)] : List (World → Prop)).getD ι (fun _ => True))
    (by kernel_rfl) (by kernel_rfl) (by kernel_rfl) (fun _ => by kernel_rfl) (fun _ => by kernel_rfl) (fun _ _ hF _ => ⟨hF.1, hF.2.1, trivial⟩) ⟨⟨⟨⟨⟨⟨⟨trivial, ?_⟩, ?_⟩, ?_⟩, ?_⟩, ?_⟩, ?_⟩, ?_⟩
  · exact Obl.brings (o_run 0 [4] [] (fun _ _ => [nb ρ5 3, nb ρ5 3, nb ρ5 3, nb ρ5 3]) (fun _ _ => by kernel_rfl)) (fun _ _ => trivial)
  · exact Obl.brings (o_call 1 36 (fun _ => #[(U k)]) (fun _ => (U (expmN 4 k pP))) (fun _ _ => by kernel_rfl) (fun _ w => (fun w => gpower_any k w hk) w)) (fun _ _ => trivial)
  · exact Obl.brings (o_run 2 [3] [] (fun _ _ => [nb ρ2 5, nb ρ2 5, nb ρ2 5, nb ρ2 5]) (fun _ _ => by kernel_rfl)) (fun _ _ => trivial)
  · exact Obl.brings (o_run 3 [1] [] (fun _ _ => [nb ρ1 1, nb ρ1 1, nb ρ1 1, nb ρ1 1, nb ρ1 1, nb ρ1 1, nb ρ1 1, nb ρ1 1, nb ρ1 1, nb ρ1 1, nb ρ1 1, nb ρ1 1, nb ρ1 1, nb ρ1 1, nb ρ1 1, nb ρ1 1, nb ρ1 1, nb ρ1 1, nb ρ1 1, nb ρ1 1, nb ρ1 1, nb ρ1 1, nb ρ1 1, nb ρ1 1, nb ρ1 1, nb ρ1 1, nb ρ1 1, nb ρ1 1, nb ρ1 1, nb ρ1 1, nb ρ1 1, nb ρ1 1]) (fun _ _ => by kernel_rfl)) (fun _ _ => trivial)
  · exact o_callP 4 17 (fun _ => #[(U (expmN 4 k pP)), (U p), (.agg (hB m))]) (fun _ => (U e)) (fun _ _ => (by kernel_rfl)) (fun _ => (by kernel_rfl)) (fun _ _ => (by kernel_rfl)) (fun _ _ => trivial) (fun _ _ w hG => (by as_aux_lemma => (have hcall := challenge_any (expmN 4 k pP) p m (expmN_lt _ _ pP_lt) hp hm w hG.facts0.now.1 hG.facts0.now.2.1; rw [ee] at hcall; exact hcall)))
  · exact Obl.brings (o_run 5 [] [] (fun _ _ => []) (fun _ _ => by kernel_rfl)) (fun _ _ => trivial)
  · exact Obl.brings (o_run 6 [45] [] (fun ρ _ => [nb ρ 5, nb ρ 5, nb ρ 5, nb ρ 5]) (fun _ _ => by kernel_rfl)) (fun _ _ => trivial)
theorem signw_any_r7 (x : Nat) (m : Nat) (k : Nat) (p : Nat) (e : Nat) (hx : x < M) (hk : k < M) (he : e < M) (ρ1 : Nat → Orc) (ρ2 : Nat → Orc) (ρ5 : Nat → Orc) (ρ6 : Nat → Orc) (w0 : World) (F : World → Prop) : Reg Tryd.prog 6 (regOps Tryd.f19 6) true 34 [(2, (pt (nb ρ1 0))), (4, (pt (nb ρ1 2))), (5, (.int .i64 0)), (8, (pt (nb ρ5 3))), (9, (pt (nb ρ6 5)))] w0 [(nb ρ1 0, (.cells (cU x) 24 (0, 0))), (nb ρ1 1, (.cells (hB m) 26 (0, 0))), (nb ρ1 2, (.cells (cU 0 ++ cU 0) 36 (0, 0))), (nb ρ2 5, (.cells (cU p) 24 (0, 0))), (nb ρ5 3, (.cells (cU k) 24 (0, 0))), (nb ρ6 5, (.cells (cU e) 24 (0, 0)))] F
    (fun _ => [(4, (pt (nb ρ1 2))), (5, (.int .i64 0))])
    (fun _ => [(nb ρ1 0, (.cells (cU x) 24 (0, 0))), (nb ρ1 1, (.cells (hB m) 26 (0, 0))), (nb ρ1 2, (.cells (cU e ++ cU (addmN k (mulmN e x qP) qP)) 36 (0, 0))), (nb ρ2 5, (.cells (cU p) 24 (0, 0))), (nb ρ5 3, (.cells (cU k) 24 (0, 0))), (nb ρ6 5, (.cells (cU e) 24 (0, 0)))]) := by
  refine reg_drawn [0, 0, 0, 0, 12, 30, 63, 127, 255] [4, 5] 9
    (fun _ ι => ([(U e), (U k), (U e), (U x), (U (mulmN e x qP)), (U (addmN k (mulmN e x qP) qP)), (.agg (cU e ++ cU (addmN k (mulmN e x qP) qP))), undef, (.int .i64 0)] : List Value).getD ι undef)
    (fun _ ι => ([{}, {}, {}, {}, {}, {}, {}, { puts := [(2, (.cells (cU e ++ cU (addmN k (mulmN e x qP) qP)) 36 (0, 0)))] }, {}] : List Eff).getD ι {})
    (by kernel_rfl) (by kernel_rfl) (by kernel_rfl) (fun _ => by kernel_rfl) (fun _ => by kernel_rfl) ⟨⟨⟨⟨⟨⟨⟨⟨⟨trivial, ?_⟩, ?_⟩, ?_⟩, ?_⟩, ?_⟩, ?_⟩, ?_⟩, ?_⟩, ?_⟩
  · exact o_run 0 [5] [] (fun _ _ => [nb ρ6 5, nb ρ6 5, nb ρ6 5, nb ρ6 5]) (fun _ _ => by kernel_rfl)
  · exact o_run 1 [4] [] (fun _ _ => [nb ρ5 3, nb ρ5 3, nb ρ5 3, nb ρ5 3]) (fun _ _ => by kernel_rfl)
  · exact o_run 2 [5] [] (fun _ _ => [nb ρ6 5, nb ρ6 5, nb ρ6 5, nb ρ6 5]) (fun _ _ => by kernel_rfl)
  · exact o_run 3 [0] [] (fun _ _ => [nb ρ1 0, nb ρ1 0, nb ρ1 0, nb ρ1 0]) (fun _ _ => by kernel_rfl)
  · exact o_call 4 52 (fun _ => #[(U e), (U x)]) (fun _ => (U (mulmN e x qP))) (fun _ _ => by kernel_rfl) (fun _ w => (fun w => gmulscalar_any e x w he hx) w)
  · exact o_call 5 51 (fun _ => #[(U k), (U (mulmN e x qP))]) (fun _ => (U (addmN k (mulmN e x qP) qP))) (fun _ _ => by kernel_rfl) (fun _ w => (fun w => gaddscalar_any k (mulmN e x qP) w hk (mulmN_lt _ _ qP_lt)) w)
  · exact o_run 6 [] [] (fun _ _ => []) (fun _ _ => by kernel_rfl)
  · exact o_run 7 [2] [] (fun _ _ => [nb ρ1 2, nb ρ1 2, nb ρ1 2, nb ρ1 2, nb ρ1 2, nb ρ1 2, nb ρ1 2, nb ρ1 2]) (fun _ _ => by kernel_rfl)
  · exact o_run 8 [] [] (fun _ _ => []) (fun _ _ => by kernel_rfl)
theorem signw_any (x : Nat) (m : Nat) (k : Nat) (p : Nat) (e : Nat) (hx : x < M) (hm : m < M) (hk : k < M) (hp : p < M) (he : e < M) (ek : nonN x m = k) (ep : pubV x = p) (ee : chaN (expmN 4 k pP) p m = e) (w0 : World) (hf0 : Kb w0 1 (rowK .u32 64 kN)) (hf1 : Kb w0 0 #[(.int .u32 1779033703), (.int .u32 3144134277), (.int .u32 1013904242), (.int .u32 2773480762), (.int .u32 1359893119), (.int .u32 2600822924), (.int .u32 528734635), (.int .u32 1541459225)]) : Calls Tryd.prog 19 #[(U x), (.agg (hB m))] w0 (fun ε w' => ε = .returned (.tuple #[(.agg (cU (sigE x m) ++ cU (sigS x m))), (.int .i64 (pubE x))]) ∧ Below w0.heap.size w0 w') := by
  refine Calls.of_ok (n := 34) (F := (fun w => Kb w 1 (rowK .u32 64 kN) ∧ Kb w 0 #[(.int .u32 1779033703), (.int .u32 3144134277), (.int .u32 1013904242), (.int .u32 2773480762), (.int .u32 1359893119), (.int .u32 2600822924), (.int .u32 528734635), (.int .u32 1541459225)] ∧ True)) Tryd.func19 rfl rfl rfl (by simp) (hf0.pers0.and (hf1.pers0.and persT)) ?_
  refine ok_seq_r (by kernel_rfl) (signw_any_r1 x m _ _) (fun ρ1 => ?_)
  refine ok_seq_rf (by kernel_rfl) (signw_any_r2 x m p hx ep ρ1 _) (fun ρ2 => ?_)
  refine ok_seq ?_
  refine ok_seq_r (by kernel_rfl) (signw_any_r3 x m p ρ1 ρ2 _ _) (fun _ => ?_)
  refine ok_cond (b := (pubE x) != 0) (by kernel_rfl) (fun hb1 => ?_) (fun hb1 => ?_)
  ·
    rw [hb1]
    refine ok_seq_r (by kernel_rfl) (signw_any_r4 x m p ρ1 ρ2 _ _) (fun _ => ?_)
    refine ok_ret ?_
    refine mt_then_r ?_
    exact meets_ret (v := (.tuple #[(.agg (cU 0 ++ cU 0)), (.int .i64 (pubE x))])) [2, 2, 2, 2, 2, 2, 2, 2] (dup [nb ρ1 2, nb ρ1 2, nb ρ1 2, nb ρ1 2, nb ρ1 2, nb ρ1 2, nb ρ1 2, nb ρ1 2]) (by kernel_rfl) (by kernel_rfl) (eqs_dup _) (fun _ hS => ⟨by rw [(sig_no (pubE_no hb1)).1, (sig_no (pubE_no hb1)).2], hS.below⟩)
  ·
    rw [hb1]
    refine ok_skip ?_
    refine mt_then ?_
    refine ok_seq_rf (by kernel_rfl) (signw_any_r5 x m k p hx hm ek ρ1 ρ2 _) (fun ρ5 => ?_)
    refine ok_seq_rf (by kernel_rfl) (signw_any_r6 x m k p e hm hk hp ee ρ1 ρ2 ρ5 _) (fun ρ6 => ?_)
    refine ok_seq_r (by kernel_rfl) (signw_any_r7 x m k p e hx hk he ρ1 ρ2 ρ5 ρ6 _ _) (fun _ => ?_)
    refine ok_ret ?_
    exact meets_ret (v := (.tuple #[(.agg (cU e ++ cU (addmN k (mulmN e x qP) qP))), (.int .i64 0)])) [2, 2, 2, 2, 2, 2, 2, 2] (dup [nb ρ1 2, nb ρ1 2, nb ρ1 2, nb ρ1 2, nb ρ1 2, nb ρ1 2, nb ρ1 2, nb ρ1 2]) (by kernel_rfl) (by kernel_rfl) (eqs_dup _) (fun _ hS => ⟨by rw [(sig_yes (pubE_ok hb1)).1, (sig_yes (pubE_ok hb1)).2, (pub_yes (pubE_ok hb1)).2, ek, ep, ee], hS.below⟩)
theorem sign_any (x m : Nat) (hx : x < M) (hm : m < M) (w0 : World) (hf0 : Kb w0 1 (rowK .u32 64 kN)) (hf1 : Kb w0 0 #[(.int .u32 1779033703), (.int .u32 3144134277), (.int .u32 1013904242), (.int .u32 2773480762), (.int .u32 1359893119), (.int .u32 2600822924), (.int .u32 528734635), (.int .u32 1541459225)]) : Calls Tryd.prog 19 #[U x, .agg (hB m)] w0 (fun ε w' => ε = .returned (.tuple #[.agg (cU (sigE x m) ++ cU (sigS x m)), .int .i64 (pubE x)]) ∧ Below w0.heap.size w0 w') := signw_any x m _ _ _ hx hm (nonN_lt x m) (pubV_lt x) (chaN_lt _ _ m) rfl rfl rfl w0 hf0 hf1
theorem verify_any_r1 (p : Nat) (m : Nat) (E : Nat) (S : Nat) (w0 : World) (F : World → Prop) : Reg Tryd.prog 0 (regOps Tryd.f21 0) false 46 [(0, (U p)), (1, (.agg (hB m))), (2, (.agg (cU E ++ cU S)))] w0 [] F
    (fun ρ => [(3, (pt (nb ρ 0))), (4, (pt (nb ρ 1))), (5, (pt (nb ρ 2))), (6, (.bool false))])
    (fun ρ => [(nb ρ 0, (.cells (cU p) 24 (0, 0))), (nb ρ 1, (.cells (hB m) 26 (0, 0))), (nb ρ 2, (.cells (cU E ++ cU S) 36 (0, 0)))]) := by
  refine reg_seq [0, 1, 3, 7] [3, 4, 5, 6] 4
    (fun ρ ι => ([(pt (nb ρ 0)), (pt (nb ρ 1)), (pt (nb ρ 2)), (.bool false)] : List Value).getD ι undef)
    (fun ρ ι => ([{ news := [(nb ρ 0, (.cells (cU p) 24 (0, 0)))] }, { news := [(nb ρ 1, (.cells (hB m) 26 (0, 0)))] }, { news := [(nb ρ 2, (.cells (cU E ++ cU S) 36 (0, 0)))] }, {}] : List Eff).getD ι {})
    (by kernel_rfl) (by kernel_rfl) (fun _ => by kernel_rfl) (fun _ => by kernel_rfl) ⟨⟨⟨⟨trivial, ?_⟩, ?_⟩, ?_⟩, ?_⟩
  · exact o_run 0 [] [] (fun _ _ => []) (fun _ _ => by kernel_rfl)
  · exact o_run 1 [] [] (fun _ _ => []) (fun _ _ => by kernel_rfl)
  · exact o_run 2 [] [] (fun _ _ => []) (fun _ _ => by kernel_rfl)
  · exact o_run 3 [] [] (fun _ _ => []) (fun _ _ => by kernel_rfl)
theorem verify_any_r2 (p : Nat) (m : Nat) (E : Nat) (S : Nat) (hp : p < M) (hE : E < M) (hS : S < M) (hb1 : (scB E) = true) (hb2 : (scB S) = true) (ρ1 : Nat → Orc) (w0 : World) (F : World → Prop) : Reg Tryd.prog 1 (regOps Tryd.f21 1) false 46 [(3, (pt (nb ρ1 0))), (4, (pt (nb ρ1 1))), (5, (pt (nb ρ1 2))), (6, (.bool false))] w0 [(nb ρ1 0, (.cells (cU p) 24 (0, 0))), (nb ρ1 1, (.cells (hB m) 26 (0, 0))), (nb ρ1 2, (.cells (cU E ++ cU S) 36 (0, 0)))] F
    (fun _ => [(3, (pt (nb ρ1 0))), (4, (pt (nb ρ1 1))), (5, (pt (nb ρ1 2))), (6, (.bool false)), (24, (.bool (!(valB p))))])
    (fun _ => [(nb ρ1 0, (.cells (cU p) 24 (0, 0))), (nb ρ1 1, (.cells (hB m) 26 (0, 0))), (nb ρ1 2, (.cells (cU E ++ cU S) 36 (0, 0)))]) := by
  refine reg_seq [0, 1, 3, 7, 15, 31, 63, 127, 255, 511, 1023, 2047, 4095, 8191, 16383] [3, 4, 5, 6, 24] 15
    (fun _ ι => ([(pt (nb ρ1 2)), (U E), (.bool true), (.bool false), (.bool false), (.pointer (some ⟨nb ρ1 2, 4, none⟩)), (U S), (.bool true), (.bool false), (.bool false), (.bool false), (U p), (.bool (valB p)), (.bool (!(valB p))), (.bool (!(valB p)))] : List Value).getD ι undef)
    (fun _ ι => ([{}, {}, {}, {}, {}, {}, {}, {}, {}, {}, {}, {}, {}, {}, {}] : List Eff).getD ι {})
    (by kernel_rfl) (by kernel_rfl) (fun _ => by kernel_rfl) (fun _ => by kernel_rfl) ⟨⟨⟨⟨⟨⟨⟨⟨⟨⟨⟨⟨⟨⟨⟨trivial, ?_⟩, ?_⟩, ?_⟩, ?_⟩, ?_⟩, ?_⟩, ?_⟩, ?_⟩, ?_⟩, ?_⟩, ?_⟩, ?_⟩, ?_⟩, ?_⟩, ?_⟩
  · exact o_run 0 [] [] (fun _ _ => []) (fun _ _ => by kernel_rfl)
  · exact o_run 1 [2] [] (fun _ _ => [nb ρ1 2, nb ρ1 2, nb ρ1 2, nb ρ1 2]) (fun _ _ => by kernel_rfl)
  · exact o_call 2 54 (fun _ => #[(U E)]) (fun _ => (.bool true)) (fun _ _ => by kernel_rfl) (fun _ w => by as_aux_lemma => (have hcall := (fun w => scalarb_any E hE w) w; rw [hb1] at hcall; exact hcall))
  · exact o_run 3 [] [] (fun _ _ => []) (fun _ _ => by kernel_rfl)
  · exact o_run 4 [] [] (fun _ _ => []) (fun _ _ => by kernel_rfl)
  · exact o_run 5 [] [] (fun _ _ => []) (fun _ _ => by kernel_rfl)
  · exact o_run 6 [2] [] (fun _ _ => [nb ρ1 2, nb ρ1 2, nb ρ1 2, nb ρ1 2]) (fun _ _ => by kernel_rfl)
  · exact o_call 7 54 (fun _ => #[(U S)]) (fun _ => (.bool true)) (fun _ _ => by kernel_rfl) (fun _ w => by as_aux_lemma => (have hcall := (fun w => scalarb_any S hS w) w; rw [hb2] at hcall; exact hcall))
  · exact o_run 8 [] [] (fun _ _ => []) (fun _ _ => by kernel_rfl)
  · exact o_run 9 [] [] (fun _ _ => []) (fun _ _ => by kernel_rfl)
  · exact o_run 10 [] [] (fun _ _ => []) (fun _ _ => by kernel_rfl)
  · exact o_run 11 [0] [] (fun _ _ => [nb ρ1 0, nb ρ1 0, nb ρ1 0, nb ρ1 0]) (fun _ _ => by kernel_rfl)
  · exact o_call 12 13 (fun _ => #[(U p)]) (fun _ => (.bool (valB p))) (fun _ _ => by kernel_rfl) (fun _ w => (fun w => valid_any p hp w) w)
  · exact o_run 13 [] [] (fun _ _ => []) (fun _ _ => by kernel_rfl)
  · exact o_run 14 [] [] (fun _ _ => []) (fun _ _ => by kernel_rfl)
theorem verify_any_r3 (p : Nat) (m : Nat) (E : Nat) (S : Nat) (ρ1 : Nat → Orc) (w0 : World) (F : World → Prop) : Reg Tryd.prog 2 (regOps Tryd.f21 2) false 46 [(3, (pt (nb ρ1 0))), (4, (pt (nb ρ1 1))), (5, (pt (nb ρ1 2))), (6, (.bool false)), (24, (.bool true))] w0 [(nb ρ1 0, (.cells (cU p) 24 (0, 0))), (nb ρ1 1, (.cells (hB m) 26 (0, 0))), (nb ρ1 2, (.cells (cU E ++ cU S) 36 (0, 0)))] F
    (fun _ => [(3, (pt (nb ρ1 0))), (4, (pt (nb ρ1 1))), (5, (pt (nb ρ1 2))), (6, (.bool false))])
    (fun _ => [(nb ρ1 0, (.cells (cU p) 24 (0, 0))), (nb ρ1 1, (.cells (hB m) 26 (0, 0))), (nb ρ1 2, (.cells (cU E ++ cU S) 36 (0, 0)))]) := by
  refine reg_seq [0] [3, 4, 5, 6] 1
    (fun _ ι => ([(.bool false)] : List Value).getD ι undef)
    (fun _ ι => ([{}] : List Eff).getD ι {})
    (by kernel_rfl) (by kernel_rfl) (fun _ => by kernel_rfl) (fun _ => by kernel_rfl) ⟨trivial, ?_⟩
  · exact o_run 0 [] [] (fun _ _ => []) (fun _ _ => by kernel_rfl)
theorem verify_any_r4 (p : Nat) (m : Nat) (E : Nat) (S : Nat) (hE : E < M) (ρ1 : Nat → Orc) (w0 : World) (F : World → Prop) : Reg Tryd.prog 3 (regOps Tryd.f21 3) true 46 [(3, (pt (nb ρ1 0))), (4, (pt (nb ρ1 1))), (5, (pt (nb ρ1 2))), (6, (.bool false)), (24, (.bool false))] w0 [(nb ρ1 0, (.cells (cU p) 24 (0, 0))), (nb ρ1 1, (.cells (hB m) 26 (0, 0))), (nb ρ1 2, (.cells (cU E ++ cU S) 36 (0, 0)))] F
    (fun ρ => [(3, (pt (nb ρ1 0))), (4, (pt (nb ρ1 1))), (5, (pt (nb ρ1 2))), (6, (.bool false)), (7, (pt (nb ρ 7)))])
    (fun ρ => [(nb ρ1 0, (.cells (cU p) 24 (0, 0))), (nb ρ1 1, (.cells (hB m) 26 (0, 0))), (nb ρ1 2, (.cells (cU E ++ cU S) 36 (0, 0))), (nb ρ 7, (.cells (cU ((qP + M - E) % M)) 24 (0, 0)))]) := by
  refine reg_drawn [0, 0, 2, 7, 15, 31, 31, 0, 191, 511] [3, 4, 5, 6, 7] 10
    (fun ρ ι => ([(U qP), (pt (nb ρ1 2)), (U E), (.tuple #[(U ((qP + M - E) % M)), (.bool (decide (qP < E)))]), (.tuple #[(U ((qP + M - E) % M)), (.bool (decide (qP < E)))]), (U ((qP + M - E) % M)), (.bool (decide (qP < E))), (pt (nb ρ 7)), undef, (.bool (decide (qP < E)))] : List Value).getD ι undef)
    (fun ρ ι => ([{}, {}, {}, {}, {}, {}, {}, { news := [(nb ρ 7, (.cells (cU 0) 24 (0, 0)))] }, { puts := [(59, (.cells (cU ((qP + M - E) % M)) 24 (0, 0)))] }, {}] : List Eff).getD ι {})
    (by kernel_rfl) (by kernel_rfl) (by kernel_rfl) (fun _ => by kernel_rfl) (fun _ => by kernel_rfl) ⟨⟨⟨⟨⟨⟨⟨⟨⟨⟨trivial, ?_⟩, ?_⟩, ?_⟩, ?_⟩, ?_⟩, ?_⟩, ?_⟩, ?_⟩, ?_⟩, ?_⟩
  · exact o_call 0 56 (fun _ => #[]) (fun _ => (U qP)) (fun _ _ => by kernel_rfl) (fun _ w => (fun w => gorder_any w) w)
  · exact o_run 1 [] [] (fun _ _ => []) (fun _ _ => by kernel_rfl)
  · exact o_run 2 [2] [] (fun _ _ => [nb ρ1 2, nb ρ1 2, nb ρ1 2, nb ρ1 2]) (fun _ _ => by kernel_rfl)
  · exact o_call 3 55 (fun _ => #[(U qP), (U E)]) (fun _ => (.tuple #[(U ((qP + M - E) % M)), (.bool (decide (qP < E)))])) (fun _ _ => by kernel_rfl) (fun _ w => (fun w => sub_any qP E w qP_lt hE) w)
  · exact o_run 4 [] [] (fun _ _ => []) (fun _ _ => by kernel_rfl)
  · exact o_run 5 [] [] (fun _ _ => []) (fun _ _ => by kernel_rfl)
  · exact o_run 6 [] [] (fun _ _ => []) (fun _ _ => by kernel_rfl)
  · exact o_run 7 [] [] (fun _ _ => []) (fun _ _ => by kernel_rfl)
  · exact o_run 8 [59] [] (fun ρ _ => [nb ρ 7, nb ρ 7, nb ρ 7, nb ρ 7]) (fun _ _ => by kernel_rfl)
  · exact o_run 9 [] [] (fun _ _ => []) (fun _ _ => by kernel_rfl)
theorem verify_any_r5 (p : Nat) (m : Nat) (E : Nat) (S : Nat) (hp : p < M) (hS : S < M) (ρ1 : Nat → Orc) (ρ4 : Nat → Orc) (w0 : World) (F : World → Prop) : Reg Tryd.prog 4 (regOps Tryd.f21 4) true 46 [(3, (pt (nb ρ1 0))), (4, (pt (nb ρ1 1))), (5, (pt (nb ρ1 2))), (6, (.bool false)), (7, (pt (nb ρ4 7)))] w0 [(nb ρ1 0, (.cells (cU p) 24 (0, 0))), (nb ρ1 1, (.cells (hB m) 26 (0, 0))), (nb ρ1 2, (.cells (cU E ++ cU S) 36 (0, 0))), (nb ρ4 7, (.cells (cU ((qP + M - E) % M)) 24 (0, 0)))] F
    (fun ρ => [(3, (pt (nb ρ1 0))), (4, (pt (nb ρ1 1))), (5, (pt (nb ρ1 2))), (6, (.bool false)), (9, (pt (nb ρ 7)))])
    (fun ρ => [(nb ρ1 0, (.cells (cU p) 24 (0, 0))), (nb ρ1 1, (.cells (hB m) 26 (0, 0))), (nb ρ1 2, (.cells (cU E ++ cU S) 36 (0, 0))), (nb ρ4 7, (.cells (cU ((qP + M - E) % M)) 24 (0, 0))), (nb ρ 7, (.cells (cU (mulmN (expmN 4 S pP) (expmN p ((qP + M - E) % M) pP) pP)) 24 (0, 0)))]) := by
  refine reg_drawn [0, 1, 3, 0, 0, 31, 63, 0, 255] [3, 4, 5, 6, 9] 9
    (fun ρ ι => ([(.pointer (some ⟨nb ρ1 2, 4, none⟩)), (U S), (U (expmN 4 S pP)), (U p), (U ((qP + M - E) % M)), (U (expmN p ((qP + M - E) % M) pP)), (U (mulmN (expmN 4 S pP) (expmN p ((qP + M - E) % M) pP) pP)), (pt (nb ρ 7)), undef] : List Value).getD ι undef)
    (fun ρ ι => ([{}, {}, {}, {}, {}, {}, {}, { news := [(nb ρ 7, (.cells (cU 0) 24 (0, 0)))] }, { puts := [(60, (.cells (cU (mulmN (expmN 4 S pP) (expmN p ((qP + M - E) % M) pP) pP)) 24 (0, 0)))] }] : List Eff).getD ι {})
    (by kernel_rfl) (by kernel_rfl) (by kernel_rfl) (fun _ => by kernel_rfl) (fun _ => by kernel_rfl) ⟨⟨⟨⟨⟨⟨⟨⟨⟨trivial, ?_⟩, ?_⟩, ?_⟩, ?_⟩, ?_⟩, ?_⟩, ?_⟩, ?_⟩, ?_⟩
  · exact o_run 0 [] [] (fun _ _ => []) (fun _ _ => by kernel_rfl)
  · exact o_run 1 [2] [] (fun _ _ => [nb ρ1 2, nb ρ1 2, nb ρ1 2, nb ρ1 2]) (fun _ _ => by kernel_rfl)
  · exact o_call 2 36 (fun _ => #[(U S)]) (fun _ => (U (expmN 4 S pP))) (fun _ _ => by kernel_rfl) (fun _ w => (fun w => gpower_any S w hS) w)
  · exact o_run 3 [0] [] (fun _ _ => [nb ρ1 0, nb ρ1 0, nb ρ1 0, nb ρ1 0]) (fun _ _ => by kernel_rfl)
  · exact o_run 4 [3] [] (fun _ _ => [nb ρ4 7, nb ρ4 7, nb ρ4 7, nb ρ4 7]) (fun _ _ => by kernel_rfl)
  · exact o_call 5 58 (fun _ => #[(U p), (U ((qP + M - E) % M))]) (fun _ => (U (expmN p ((qP + M - E) % M) pP))) (fun _ _ => by kernel_rfl) (fun _ w => (fun w => gexp_any p ((qP + M - E) % M) w hp (modM_lt _)) w)
  · exact o_call 6 57 (fun _ => #[(U (expmN 4 S pP)), (U (expmN p ((qP + M - E) % M) pP))]) (fun _ => (U (mulmN (expmN 4 S pP) (expmN p ((qP + M - E) % M) pP) pP))) (fun _ _ => by kernel_rfl) (fun _ w => (fun w => gmul_any (expmN 4 S pP) (expmN p ((qP + M - E) % M) pP) w (expmN_lt _ _ pP_lt) (expmN_lt _ _ pP_lt)) w)
  · exact o_run 7 [] [] (fun _ _ => []) (fun _ _ => by kernel_rfl)
  · exact o_run 8 [60] [] (fun ρ _ => [nb ρ 7, nb ρ 7, nb ρ 7, nb ρ 7]) (fun _ _ => by kernel_rfl)
theorem verify_any_r6 (p : Nat) (m : Nat) (E : Nat) (S : Nat) (hp : p < M) (hm : m < M) (hE : E < M) (ρ1 : Nat → Orc) (ρ4 : Nat → Orc) (ρ5 : Nat → Orc) (w0 : World) : RegF Tryd.prog 5 (regOps Tryd.f21 5) true 46 [(3, (pt (nb ρ1 0))), (4, (pt (nb ρ1 1))), (5, (pt (nb ρ1 2))), (6, (.bool false)), (9, (pt (nb ρ5 7)))] w0 [(nb ρ1 0, (.cells (cU p) 24 (0, 0))), (nb ρ1 1, (.cells (hB m) 26 (0, 0))), (nb ρ1 2, (.cells (cU E ++ cU S) 36 (0, 0))), (nb ρ4 7, (.cells (cU ((qP + M - E) % M)) 24 (0, 0))), (nb ρ5 7, (.cells (cU (mulmN (expmN 4 S pP) (expmN p ((qP + M - E) % M) pP) pP)) 24 (0, 0)))] (fun w => Kb w 1 (rowK .u32 64 kN) ∧ Kb w 0 #[(.int .u32 1779033703), (.int .u32 3144134277), (.int .u32 1013904242), (.int .u32 2773480762), (.int .u32 1359893119), (.int .u32 2600822924), (.int .u32 528734635), (.int .u32 1541459225)] ∧ True)
    (fun _ => [(6, (.bool (decide (E = chaN (mulmN (expmN 4 S pP) (expmN p ((qP + M - E) % M) pP) pP) p m))))])
    (fun _ => [(nb ρ1 0, (.cells (cU p) 24 (0, 0))), (nb ρ1 1, (.cells (hB m) 26 (0, 0))), (nb ρ1 2, (.cells (cU E ++ cU S) 36 (0, 0))), (nb ρ4 7, (.cells (cU ((qP + M - E) % M)) 24 (0, 0))), (nb ρ5 7, (.cells (cU (mulmN (expmN 4 S pP) (expmN p ((qP + M - E) % M) pP) pP)) 24 (0, 0)))]) (fun _ => (fun w => Kb w 1 (rowK .u32 64 kN) ∧ Kb w 0 #[(.int .u32 1779033703), (.int .u32 3144134277), (.int .u32 1013904242), (.int .u32 2773480762), (.int .u32 1359893119), (.int .u32 2600822924), (.int .u32 528734635), (.int .u32 1541459225)] ∧ True)) := by
  refine reg_drawn_f [0, 1, 0, 0, 0, 28, 63, 127] [6] 8
    (fun _ ι => ([(pt (nb ρ1 2)), (U E), (U (mulmN (expmN 4 S pP) (expmN p ((qP + M - E) % M) pP) pP)), (U p), (.agg (hB m)), (U (chaN (mulmN (expmN 4 S pP) (expmN p ((qP + M - E) % M) pP) pP) p m)), (.bool (decide (E = chaN (mulmN (expmN 4 S pP) (expmN p ((qP + M - E) % M) pP) pP) p m))), (.bool (decide (E = chaN (mulmN (expmN 4 S pP) (expmN p ((qP + M - E) % M) pP) pP) p m)))] : List Value).getD ι undef)
    (fun _ ι => ([{}, {}, {}, {}, {}, {}, {}, {}] : List Eff).getD ι {})
    (fun _ ι => ([(fun _ => True), (fun _ => True), (fun _ => True), (fun _ => True), (fun _ => True), (fun _ => True), (fun _ => True), (fun _ => True)] : List (World → Prop)).getD ι (fun _ => True))
    (by kernel_rfl) (by kernel_rfl) (by kernel_rfl) (fun _ => by kernel_rfl) (fun _ => by kernel_rfl) (fun _ _ hF _ => ⟨hF.1, hF.2.1, trivial⟩) ⟨⟨⟨⟨⟨⟨⟨⟨trivial, ?_⟩, ?_⟩, ?_⟩, ?_⟩, ?_⟩, ?_⟩, ?_⟩, ?_⟩
  · exact Obl.brings (o_run 0 [] [] (fun _ _ => []) (fun _ _ => by kernel_rfl)) (fun _ _ => trivial)
  · exact Obl.brings (o_run 1 [2] [] (fun _ _ => [nb ρ1 2, nb ρ1 2, nb ρ1 2, nb ρ1 2]) (fun _ _ => by kernel_rfl)) (fun _ _ => trivial)
  · exact Obl.brings (o_run 2 [4] [] (fun _ _ => [nb ρ5 7, nb ρ5 7, nb ρ5 7, nb ρ5 7]) (fun _ _ => by kernel_rfl)) (fun _ _ => trivial)
  · exact Obl.brings (o_run 3 [0] [] (fun _ _ => [nb ρ1 0, nb ρ1 0, nb ρ1 0, nb ρ1 0]) (fun _ _ => by kernel_rfl)) (fun _ _ => trivial)
  · exact Obl.brings (o_run 4 [1] [] (fun _ _ => [nb ρ1 1, nb ρ1 1, nb ρ1 1, nb ρ1 1, nb ρ1 1, nb ρ1 1, nb ρ1 1, nb ρ1 1, nb ρ1 1, nb ρ1 1, nb ρ1 1, nb ρ1 1, nb ρ1 1, nb ρ1 1, nb ρ1 1, nb ρ1 1, nb ρ1 1, nb ρ1 1, nb ρ1 1, nb ρ1 1, nb ρ1 1, nb ρ1 1, nb ρ1 1, nb ρ1 1, nb ρ1 1, nb ρ1 1, nb ρ1 1, nb ρ1 1, nb ρ1 1, nb ρ1 1, nb ρ1 1, nb ρ1 1]) (fun _ _ => by kernel_rfl)) (fun _ _ => trivial)
  · exact o_callP 5 17 (fun _ => #[(U (mulmN (expmN 4 S pP) (expmN p ((qP + M - E) % M) pP) pP)), (U p), (.agg (hB m))]) (fun _ => (U (chaN (mulmN (expmN 4 S pP) (expmN p ((qP + M - E) % M) pP) pP) p m))) (fun _ _ => (by kernel_rfl)) (fun _ => (by kernel_rfl)) (fun _ _ => (by kernel_rfl)) (fun _ _ => trivial) (fun _ _ w hG => challenge_any (mulmN (expmN 4 S pP) (expmN p ((qP + M - E) % M) pP) pP) p m (mulmN_lt _ _ pP_lt) hp hm w hG.facts0.now.1 hG.facts0.now.2.1)
  · exact Obl.brings (o_bin 6 .eql 24 (fun _ => (U E)) (fun _ => (U (chaN (mulmN (expmN 4 S pP) (expmN p ((qP + M - E) % M) pP) pP) p m))) (fun _ => (.bool (decide (E = chaN (mulmN (expmN 4 S pP) (expmN p ((qP + M - E) % M) pP) pP) p m)))) (fun _ => by kernel_rfl) (fun _ _ _ _ => by kernel_rfl) (fun _ _ => eqlU E (chaN (mulmN (expmN 4 S pP) (expmN p ((qP + M - E) % M) pP) pP) p m) hE (chaN_lt _ _ _) _)) (fun _ _ => trivial)
  · exact Obl.brings (o_run 7 [] [] (fun _ _ => []) (fun _ _ => by kernel_rfl)) (fun _ _ => trivial)
theorem verify_any_r7 (p : Nat) (m : Nat) (E : Nat) (S : Nat) (hE : E < M) (hS : S < M) (hb1 : (scB E) = true) (hb2 : (scB S) = false) (ρ1 : Nat → Orc) (w0 : World) (F : World → Prop) : Reg Tryd.prog 1 (regOps Tryd.f21 1) false 46 [(3, (pt (nb ρ1 0))), (4, (pt (nb ρ1 1))), (5, (pt (nb ρ1 2))), (6, (.bool false))] w0 [(nb ρ1 0, (.cells (cU p) 24 (0, 0))), (nb ρ1 1, (.cells (hB m) 26 (0, 0))), (nb ρ1 2, (.cells (cU E ++ cU S) 36 (0, 0)))] F
    (fun _ => [(3, (pt (nb ρ1 0))), (4, (pt (nb ρ1 1))), (5, (pt (nb ρ1 2))), (6, (.bool false)), (24, (.bool true))])
    (fun _ => [(nb ρ1 0, (.cells (cU p) 24 (0, 0))), (nb ρ1 1, (.cells (hB m) 26 (0, 0))), (nb ρ1 2, (.cells (cU E ++ cU S) 36 (0, 0)))]) := by
  refine reg_seq [0, 1, 3, 7, 15, 31, 63, 127, 255, 511, 1023, 2047, 4095, 8191, 16383] [3, 4, 5, 6, 24] 15
    (fun _ ι => ([(pt (nb ρ1 2)), (U E), (.bool true), (.bool false), (.bool false), (.pointer (some ⟨nb ρ1 2, 4, none⟩)), (U S), (.bool false), (.bool true), (.bool true), (.bool true), undef, undef, undef, (.bool true)] : List Value).getD ι undef)
    (fun _ ι => ([{}, {}, {}, {}, {}, {}, {}, {}, {}, {}, {}, {}, {}, {}, {}] : List Eff).getD ι {})
    (by kernel_rfl) (by kernel_rfl) (fun _ => by kernel_rfl) (fun _ => by kernel_rfl) ⟨⟨⟨⟨⟨⟨⟨⟨⟨⟨⟨⟨⟨⟨⟨trivial, ?_⟩, ?_⟩, ?_⟩, ?_⟩, ?_⟩, ?_⟩, ?_⟩, ?_⟩, ?_⟩, ?_⟩, ?_⟩, ?_⟩, ?_⟩, ?_⟩, ?_⟩
  · exact o_run 0 [] [] (fun _ _ => []) (fun _ _ => by kernel_rfl)
  · exact o_run 1 [2] [] (fun _ _ => [nb ρ1 2, nb ρ1 2, nb ρ1 2, nb ρ1 2]) (fun _ _ => by kernel_rfl)
  · exact o_call 2 54 (fun _ => #[(U E)]) (fun _ => (.bool true)) (fun _ _ => by kernel_rfl) (fun _ w => by as_aux_lemma => (have hcall := (fun w => scalarb_any E hE w) w; rw [hb1] at hcall; exact hcall))
  · exact o_run 3 [] [] (fun _ _ => []) (fun _ _ => by kernel_rfl)
  · exact o_run 4 [] [] (fun _ _ => []) (fun _ _ => by kernel_rfl)
  · exact o_run 5 [] [] (fun _ _ => []) (fun _ _ => by kernel_rfl)
  · exact o_run 6 [2] [] (fun _ _ => [nb ρ1 2, nb ρ1 2, nb ρ1 2, nb ρ1 2]) (fun _ _ => by kernel_rfl)
  · exact o_call 7 54 (fun _ => #[(U S)]) (fun _ => (.bool false)) (fun _ _ => by kernel_rfl) (fun _ w => by as_aux_lemma => (have hcall := (fun w => scalarb_any S hS w) w; rw [hb2] at hcall; exact hcall))
  · exact o_run 8 [] [] (fun _ _ => []) (fun _ _ => by kernel_rfl)
  · exact o_run 9 [] [] (fun _ _ => []) (fun _ _ => by kernel_rfl)
  · exact o_run 10 [] [] (fun _ _ => []) (fun _ _ => by kernel_rfl)
  · exact o_skip 11 (fun _ => by kernel_rfl)
  · exact o_skip 12 (fun _ => by kernel_rfl)
  · exact o_skip 13 (fun _ => by kernel_rfl)
  · exact o_run 14 [] [] (fun _ _ => []) (fun _ _ => by kernel_rfl)
theorem verify_any_r8 (p : Nat) (m : Nat) (E : Nat) (S : Nat) (ρ1 : Nat → Orc) (w0 : World) (F : World → Prop) : Reg Tryd.prog 2 (regOps Tryd.f21 2) false 46 [(3, (pt (nb ρ1 0))), (4, (pt (nb ρ1 1))), (5, (pt (nb ρ1 2))), (6, (.bool false)), (24, (.bool true))] w0 [(nb ρ1 0, (.cells (cU p) 24 (0, 0))), (nb ρ1 1, (.cells (hB m) 26 (0, 0))), (nb ρ1 2, (.cells (cU E ++ cU S) 36 (0, 0)))] F
    (fun _ => [(3, (pt (nb ρ1 0))), (4, (pt (nb ρ1 1))), (5, (pt (nb ρ1 2))), (6, (.bool false))])
    (fun _ => [(nb ρ1 0, (.cells (cU p) 24 (0, 0))), (nb ρ1 1, (.cells (hB m) 26 (0, 0))), (nb ρ1 2, (.cells (cU E ++ cU S) 36 (0, 0)))]) := by
  refine reg_seq [0] [3, 4, 5, 6] 1
    (fun _ ι => ([(.bool false)] : List Value).getD ι undef)
    (fun _ ι => ([{}] : List Eff).getD ι {})
    (by kernel_rfl) (by kernel_rfl) (fun _ => by kernel_rfl) (fun _ => by kernel_rfl) ⟨trivial, ?_⟩
  · exact o_run 0 [] [] (fun _ _ => []) (fun _ _ => by kernel_rfl)
theorem verify_any_r9 (p : Nat) (m : Nat) (E : Nat) (S : Nat) (hE : E < M) (hb1 : (scB E) = false) (ρ1 : Nat → Orc) (w0 : World) (F : World → Prop) : Reg Tryd.prog 1 (regOps Tryd.f21 1) false 46 [(3, (pt (nb ρ1 0))), (4, (pt (nb ρ1 1))), (5, (pt (nb ρ1 2))), (6, (.bool false))] w0 [(nb ρ1 0, (.cells (cU p) 24 (0, 0))), (nb ρ1 1, (.cells (hB m) 26 (0, 0))), (nb ρ1 2, (.cells (cU E ++ cU S) 36 (0, 0)))] F
    (fun _ => [(3, (pt (nb ρ1 0))), (4, (pt (nb ρ1 1))), (5, (pt (nb ρ1 2))), (6, (.bool false)), (24, (.bool true))])
    (fun _ => [(nb ρ1 0, (.cells (cU p) 24 (0, 0))), (nb ρ1 1, (.cells (hB m) 26 (0, 0))), (nb ρ1 2, (.cells (cU E ++ cU S) 36 (0, 0)))]) := by
  refine reg_seq [0, 1, 3, 7, 15, 31, 63, 127, 255, 511, 1023, 2047, 4095, 8191, 16383] [3, 4, 5, 6, 24] 15
    (fun _ ι => ([(pt (nb ρ1 2)), (U E), (.bool false), (.bool true), (.bool true), undef, undef, undef, undef, (.bool true), (.bool true), undef, undef, undef, (.bool true)] : List Value).getD ι undef)
    (fun _ ι => ([{}, {}, {}, {}, {}, {}, {}, {}, {}, {}, {}, {}, {}, {}, {}] : List Eff).getD ι {})
    (by kernel_rfl) (by kernel_rfl) (fun _ => by kernel_rfl) (fun _ => by kernel_rfl) ⟨⟨⟨⟨⟨⟨⟨⟨⟨⟨⟨⟨⟨⟨⟨trivial, ?_⟩, ?_⟩, ?_⟩, ?_⟩, ?_⟩, ?_⟩, ?_⟩, ?_⟩, ?_⟩, ?_⟩, ?_⟩, ?_⟩, ?_⟩, ?_⟩, ?_⟩
  · exact o_run 0 [] [] (fun _ _ => []) (fun _ _ => by kernel_rfl)
  · exact o_run 1 [2] [] (fun _ _ => [nb ρ1 2, nb ρ1 2, nb ρ1 2, nb ρ1 2]) (fun _ _ => by kernel_rfl)
  · exact o_call 2 54 (fun _ => #[(U E)]) (fun _ => (.bool false)) (fun _ _ => by kernel_rfl) (fun _ w => by as_aux_lemma => (have hcall := (fun w => scalarb_any E hE w) w; rw [hb1] at hcall; exact hcall))
  · exact o_run 3 [] [] (fun _ _ => []) (fun _ _ => by kernel_rfl)
  · exact o_run 4 [] [] (fun _ _ => []) (fun _ _ => by kernel_rfl)
  · exact o_skip 5 (fun _ => by kernel_rfl)
  · exact o_skip 6 (fun _ => by kernel_rfl)
  · exact o_skip 7 (fun _ => by kernel_rfl)
  · exact o_skip 8 (fun _ => by kernel_rfl)
  · exact o_run 9 [] [] (fun _ _ => []) (fun _ _ => by kernel_rfl)
  · exact o_run 10 [] [] (fun _ _ => []) (fun _ _ => by kernel_rfl)
  · exact o_skip 11 (fun _ => by kernel_rfl)
  · exact o_skip 12 (fun _ => by kernel_rfl)
  · exact o_skip 13 (fun _ => by kernel_rfl)
  · exact o_run 14 [] [] (fun _ _ => []) (fun _ _ => by kernel_rfl)
theorem verify_any_r10 (p : Nat) (m : Nat) (E : Nat) (S : Nat) (ρ1 : Nat → Orc) (w0 : World) (F : World → Prop) : Reg Tryd.prog 2 (regOps Tryd.f21 2) false 46 [(3, (pt (nb ρ1 0))), (4, (pt (nb ρ1 1))), (5, (pt (nb ρ1 2))), (6, (.bool false)), (24, (.bool true))] w0 [(nb ρ1 0, (.cells (cU p) 24 (0, 0))), (nb ρ1 1, (.cells (hB m) 26 (0, 0))), (nb ρ1 2, (.cells (cU E ++ cU S) 36 (0, 0)))] F
    (fun _ => [(3, (pt (nb ρ1 0))), (4, (pt (nb ρ1 1))), (5, (pt (nb ρ1 2))), (6, (.bool false))])
    (fun _ => [(nb ρ1 0, (.cells (cU p) 24 (0, 0))), (nb ρ1 1, (.cells (hB m) 26 (0, 0))), (nb ρ1 2, (.cells (cU E ++ cU S) 36 (0, 0)))]) := by
  refine reg_seq [0] [3, 4, 5, 6] 1
    (fun _ ι => ([(.bool false)] : List Value).getD ι undef)
    (fun _ ι => ([{}] : List Eff).getD ι {})
    (by kernel_rfl) (by kernel_rfl) (fun _ => by kernel_rfl) (fun _ => by kernel_rfl) ⟨trivial, ?_⟩
  · exact o_run 0 [] [] (fun _ _ => []) (fun _ _ => by kernel_rfl)
theorem verify_any (p : Nat) (m : Nat) (E : Nat) (S : Nat) (hp : p < M) (hm : m < M) (hE : E < M) (hS : S < M) (w0 : World) (hf0 : Kb w0 1 (rowK .u32 64 kN)) (hf1 : Kb w0 0 #[(.int .u32 1779033703), (.int .u32 3144134277), (.int .u32 1013904242), (.int .u32 2773480762), (.int .u32 1359893119), (.int .u32 2600822924), (.int .u32 528734635), (.int .u32 1541459225)]) : Calls Tryd.prog 21 #[(U p), (.agg (hB m)), (.agg (cU E ++ cU S))] w0 (fun ε w' => ε = .returned (.bool (verB p m E S)) ∧ Below w0.heap.size w0 w') := by
  refine Calls.of_ok (n := 46) (F := (fun w => Kb w 1 (rowK .u32 64 kN) ∧ Kb w 0 #[(.int .u32 1779033703), (.int .u32 3144134277), (.int .u32 1013904242), (.int .u32 2773480762), (.int .u32 1359893119), (.int .u32 2600822924), (.int .u32 528734635), (.int .u32 1541459225)] ∧ True)) Tryd.func21 rfl rfl rfl (by simp) (hf0.pers0.and (hf1.pers0.and persT)) ?_
  refine ok_seq_r (by kernel_rfl) (verify_any_r1 p m E S _ _) (fun ρ1 => ?_)
  refine ok_seq ?_
  rcases Bool.eq_false_or_eq_true (scB E) with hb1 | hb1
  ·
    rcases Bool.eq_false_or_eq_true (scB S) with hb2 | hb2
    ·
      refine ok_seq_r (by kernel_rfl) (verify_any_r2 p m E S hp hE hS hb1 hb2 ρ1 _ _) (fun _ => ?_)
      refine ok_cond (b := !(valB p)) (by kernel_rfl) (fun hb3 => ?_) (fun hb3 => ?_)
      ·
        rw [hb3]
        refine ok_seq_r (by kernel_rfl) (verify_any_r3 p m E S ρ1 _ _) (fun _ => ?_)
        refine ok_ret ?_
        refine mt_then_r ?_
        exact meets_ret (v := (.bool false)) [] (dup []) (by kernel_rfl) (by kernel_rfl) (eqs_dup _) (fun _ hS => ⟨congrArg (fun x => Ending.returned (.bool x)) (ver_3 hb1 hb2 (not_t hb3)), hS.below⟩)
      ·
        rw [hb3]
        refine ok_skip ?_
        refine mt_then ?_
        refine ok_seq_r (by kernel_rfl) (verify_any_r4 p m E S hE ρ1 _ _) (fun ρ4 => ?_)
        refine ok_seq_r (by kernel_rfl) (verify_any_r5 p m E S hp hS ρ1 ρ4 _ _) (fun ρ5 => ?_)
        refine ok_seq_rf (by kernel_rfl) (verify_any_r6 p m E S hp hm hE ρ1 ρ4 ρ5 _) (fun _ => ?_)
        refine ok_ret ?_
        exact meets_ret (v := (.bool (decide (E = chaN (mulmN (expmN 4 S pP) (expmN p ((qP + M - E) % M) pP) pP) p m)))) [] (dup []) (by kernel_rfl) (by kernel_rfl) (eqs_dup _) (fun _ hS => ⟨congrArg (fun x => Ending.returned (.bool x)) (ver_4 hb1 hb2 (not_f hb3)), hS.below⟩)
    ·
      refine ok_seq_r (by kernel_rfl) (verify_any_r7 p m E S hE hS hb1 hb2 ρ1 _ _) (fun _ => ?_)
      refine ok_yes (by kernel_rfl) ?_
      refine ok_seq_r (by kernel_rfl) (verify_any_r8 p m E S ρ1 _ _) (fun _ => ?_)
      refine ok_ret ?_
      refine mt_then_r ?_
      exact meets_ret (v := (.bool false)) [] (dup []) (by kernel_rfl) (by kernel_rfl) (eqs_dup _) (fun _ hS => ⟨congrArg (fun x => Ending.returned (.bool x)) (ver_2 hb1 hb2), hS.below⟩)
  ·
    refine ok_seq_r (by kernel_rfl) (verify_any_r9 p m E S hE hb1 ρ1 _ _) (fun _ => ?_)
    refine ok_yes (by kernel_rfl) ?_
    refine ok_seq_r (by kernel_rfl) (verify_any_r10 p m E S ρ1 _ _) (fun _ => ?_)
    refine ok_ret ?_
    refine mt_then_r ?_
    exact meets_ret (v := (.bool false)) [] (dup []) (by kernel_rfl) (by kernel_rfl) (eqs_dup _) (fun _ hS => ⟨congrArg (fun x => Ending.returned (.bool x)) (ver_1 hb1), hS.below⟩)
theorem commit_any_r1 (p : Nat) (E : Nat) (S : Nat) (w0 : World) (F : World → Prop) : Reg Tryd.prog 0 (regOps Tryd.f25 0) false 14 [(0, (U p)), (1, (.agg (cU E ++ cU S)))] w0 [] F
    (fun ρ => [(2, (pt (nb ρ 0))), (3, (pt (nb ρ 1))), (4, (pt (nb ρ 2)))])
    (fun ρ => [(nb ρ 0, (.cells (cU p) 24 (0, 0))), (nb ρ 1, (.cells (cU E ++ cU S) 36 (0, 0))), (nb ρ 2, (.cells (cU 0) 24 (0, 0)))]) := by
  refine reg_seq [0, 1, 3] [2, 3, 4] 3
    (fun ρ ι => ([(pt (nb ρ 0)), (pt (nb ρ 1)), (pt (nb ρ 2))] : List Value).getD ι undef)
    (fun ρ ι => ([{ news := [(nb ρ 0, (.cells (cU p) 24 (0, 0)))] }, { news := [(nb ρ 1, (.cells (cU E ++ cU S) 36 (0, 0)))] }, { news := [(nb ρ 2, (.cells (cU 0) 24 (0, 0)))] }] : List Eff).getD ι {})
    (by kernel_rfl) (by kernel_rfl) (fun _ => by kernel_rfl) (fun _ => by kernel_rfl) ⟨⟨⟨trivial, ?_⟩, ?_⟩, ?_⟩
  · exact o_run 0 [] [] (fun _ _ => []) (fun _ _ => by kernel_rfl)
  · exact o_run 1 [] [] (fun _ _ => []) (fun _ _ => by kernel_rfl)
  · exact o_run 2 [] [] (fun _ _ => []) (fun _ _ => by kernel_rfl)
theorem commit_any_r2 (p : Nat) (E : Nat) (S : Nat) (hp : p < M) (hE : E < M) (hS : S < M) (ρ1 : Nat → Orc) (w0 : World) (F : World → Prop) : Reg Tryd.prog 1 (regOps Tryd.f25 1) true 14 [(2, (pt (nb ρ1 0))), (3, (pt (nb ρ1 1))), (4, (pt (nb ρ1 2)))] w0 [(nb ρ1 0, (.cells (cU p) 24 (0, 0))), (nb ρ1 1, (.cells (cU E ++ cU S) 36 (0, 0))), (nb ρ1 2, (.cells (cU 0) 24 (0, 0)))] F
    (fun _ => [(4, (pt (nb ρ1 2)))])
    (fun _ => [(nb ρ1 0, (.cells (cU p) 24 (0, 0))), (nb ρ1 1, (.cells (cU E ++ cU S) 36 (0, 0))), (nb ρ1 2, (.cells (cU (mulmN (expmN 4 S pP) (expmN p (submN 0 E qP) pP) pP)) 24 (0, 0)))]) := by
  refine reg_drawn [0, 1, 3, 0, 0, 16, 55, 127, 255, 511] [4] 10
    (fun _ ι => ([(.pointer (some ⟨nb ρ1 1, 4, none⟩)), (U S), (U (expmN 4 S pP)), (U p), (pt (nb ρ1 1)), (U E), (U (submN 0 E qP)), (U (expmN p (submN 0 E qP) pP)), (U (mulmN (expmN 4 S pP) (expmN p (submN 0 E qP) pP) pP)), undef] : List Value).getD ι undef)
    (fun _ ι => ([{}, {}, {}, {}, {}, {}, {}, {}, {}, { puts := [(2, (.cells (cU (mulmN (expmN 4 S pP) (expmN p (submN 0 E qP) pP) pP)) 24 (0, 0)))] }] : List Eff).getD ι {})
    (by kernel_rfl) (by kernel_rfl) (by kernel_rfl) (fun _ => by kernel_rfl) (fun _ => by kernel_rfl) ⟨⟨⟨⟨⟨⟨⟨⟨⟨⟨trivial, ?_⟩, ?_⟩, ?_⟩, ?_⟩, ?_⟩, ?_⟩, ?_⟩, ?_⟩, ?_⟩, ?_⟩
  · exact o_run 0 [] [] (fun _ _ => []) (fun _ _ => by kernel_rfl)
  · exact o_run 1 [1] [] (fun _ _ => [nb ρ1 1, nb ρ1 1, nb ρ1 1, nb ρ1 1]) (fun _ _ => by kernel_rfl)
  · exact o_call 2 38 (fun _ => #[(U S)]) (fun _ => (U (expmN 4 S pP))) (fun _ _ => by kernel_rfl) (fun _ w => (fun w => rgpower_any S w hS) w)
  · exact o_run 3 [0] [] (fun _ _ => [nb ρ1 0, nb ρ1 0, nb ρ1 0, nb ρ1 0]) (fun _ _ => by kernel_rfl)
  · exact o_run 4 [] [] (fun _ _ => []) (fun _ _ => by kernel_rfl)
  · exact o_run 5 [1] [] (fun _ _ => [nb ρ1 1, nb ρ1 1, nb ρ1 1, nb ρ1 1]) (fun _ _ => by kernel_rfl)
  · exact o_call 6 66 (fun _ => #[(U E)]) (fun _ => (U (submN 0 E qP))) (fun _ _ => by kernel_rfl) (fun _ w => (fun w => rgnegscalar_any E w hE) w)
  · exact o_call 7 63 (fun _ => #[(U p), (U (submN 0 E qP))]) (fun _ => (U (expmN p (submN 0 E qP) pP))) (fun _ _ => by kernel_rfl) (fun _ w => (fun w => rgexp_any p (submN 0 E qP) w hp (submN_lt _ _ qP_lt)) w)
  · exact o_call 8 62 (fun _ => #[(U (expmN 4 S pP)), (U (expmN p (submN 0 E qP) pP))]) (fun _ => (U (mulmN (expmN 4 S pP) (expmN p (submN 0 E qP) pP) pP))) (fun _ _ => by kernel_rfl) (fun _ w => (fun w => rgmul_any (expmN 4 S pP) (expmN p (submN 0 E qP) pP) w (expmN_lt _ _ pP_lt) (expmN_lt _ _ pP_lt)) w)
  · exact o_run 9 [2] [] (fun _ _ => [nb ρ1 2, nb ρ1 2, nb ρ1 2, nb ρ1 2]) (fun _ _ => by kernel_rfl)
theorem commit_any (p : Nat) (E : Nat) (S : Nat) (hp : p < M) (hE : E < M) (hS : S < M) (w0 : World) : Calls Tryd.prog 25 #[(U p), (.agg (cU E ++ cU S))] w0 (fun ε w' => ε = .returned (U (mulmN (expmN 4 S pP) (expmN p (submN 0 E qP) pP) pP)) ∧ Below w0.heap.size w0 w') := by
  refine Calls.of_ok (n := 14) (F := (fun _ => True)) Tryd.func25 rfl rfl rfl (by simp) (persTrue (fun _ => trivial)) ?_
  refine ok_seq_r (by kernel_rfl) (commit_any_r1 p E S _ _) (fun ρ1 => ?_)
  refine ok_seq_r (by kernel_rfl) (commit_any_r2 p E S hp hE hS ρ1 _ _) (fun _ => ?_)
  refine ok_ret ?_
  exact meets_ret (v := (U (mulmN (expmN 4 S pP) (expmN p (submN 0 E qP) pP) pP))) [2, 2, 2, 2] (dup [nb ρ1 2, nb ρ1 2, nb ρ1 2, nb ρ1 2]) (by kernel_rfl) (by kernel_rfl) (eqs_dup _) (fun _ hS => ⟨rfl, hS.below⟩)
theorem ssanew_any_r1  (w0 : World) (F : World → Prop) : Reg Tryd.prog 0 (regOps Tryd.f12 0) false 45 [] w0 [] F
    (fun _ => [(0, (.bool false))])
    (fun _ => []) := by
  refine reg_seq [0] [0] 1
    (fun _ ι => ([(.bool false)] : List Value).getD ι undef)
    (fun _ ι => ([{}] : List Eff).getD ι {})
    (by kernel_rfl) (by kernel_rfl) (fun _ => by kernel_rfl) (fun _ => by kernel_rfl) ⟨trivial, ?_⟩
  · exact o_run 0 [] [] (fun _ _ => []) (fun _ _ => by kernel_rfl)
theorem ssanew_any_r2 (p : Nat) (ep : pubV 1 = p) (w0 : World) : RegF Tryd.prog 1 (regOps Tryd.f12 1) false 45 [(0, (.bool false))] w0 [] (fun w => Kb w 1 (rowK .u32 64 kN) ∧ Kb w 0 #[(.int .u32 1779033703), (.int .u32 3144134277), (.int .u32 1013904242), (.int .u32 2773480762), (.int .u32 1359893119), (.int .u32 2600822924), (.int .u32 528734635), (.int .u32 1541459225)] ∧ True)
    (fun ρ => [(0, (.bool false)), (1, (pt (nb ρ 5))), (2, (.int .i64 0))])
    (fun ρ => [(nb ρ 5, (.cells (cU p) 24 (0, 0)))]) (fun _ => (fun w => Kb w 1 (rowK .u32 64 kN) ∧ Kb w 0 #[(.int .u32 1779033703), (.int .u32 3144134277), (.int .u32 1013904242), (.int .u32 2773480762), (.int .u32 1359893119), (.int .u32 2600822924), (.int .u32 528734635), (.int .u32 1541459225)] ∧ True)) := by
  refine reg_seq_f [0, 1, 3, 7, 15, 31, 63, 127] [0, 1, 2] 8
    (fun ρ ι => ([(U 1), (.tuple #[(U p), (.int .i64 0)]), (.tuple #[(U p), (.int .i64 0)]), (U p), (.int .i64 0), (pt (nb ρ 5)), undef, (.int .i64 0)] : List Value).getD ι undef)
    (fun ρ ι => ([{}, {}, {}, {}, {}, { news := [(nb ρ 5, (.cells (cU 0) 24 (0, 0)))] }, { puts := [(40, (.cells (cU p) 24 (0, 0)))] }, {}] : List Eff).getD ι {})
    (fun _ ι => ([(fun _ => True), (fun _ => True), (fun _ => True), (fun _ => True), (fun _ => True), (fun _ => True), (fun _ => True), (fun _ => True)] : List (World → Prop)).getD ι (fun _ => True))
    (by kernel_rfl) (by kernel_rfl) (fun _ => by kernel_rfl) (fun _ => by kernel_rfl) (fun _ _ hF _ => ⟨hF.1, hF.2.1, trivial⟩) ⟨⟨⟨⟨⟨⟨⟨⟨trivial, ?_⟩, ?_⟩, ?_⟩, ?_⟩, ?_⟩, ?_⟩, ?_⟩, ?_⟩
  · exact Obl.brings (o_run 0 [] [] (fun _ _ => []) (fun _ _ => by kernel_rfl)) (fun _ _ => trivial)
  · exact o_callP 1 10 (fun _ => #[(U 1)]) (fun _ => (.tuple #[(U p), (.int .i64 0)])) (fun _ _ => (by kernel_rfl)) (fun _ => (by kernel_rfl)) (fun _ _ => (by kernel_rfl)) (fun _ _ => trivial) (fun _ _ w _ => (by as_aux_lemma => (have hcall := public_any 1 (by decide +kernel) w ; rw [ep, (pub_yes sane_sec).2] at hcall; exact hcall)))
  · exact Obl.brings (o_run 2 [] [] (fun _ _ => []) (fun _ _ => by kernel_rfl)) (fun _ _ => trivial)
  · exact Obl.brings (o_run 3 [] [] (fun _ _ => []) (fun _ _ => by kernel_rfl)) (fun _ _ => trivial)
  · exact Obl.brings (o_run 4 [] [] (fun _ _ => []) (fun _ _ => by kernel_rfl)) (fun _ _ => trivial)
  · exact Obl.brings (o_run 5 [] [] (fun _ _ => []) (fun _ _ => by kernel_rfl)) (fun _ _ => trivial)
  · exact Obl.brings (o_run 6 [40] [] (fun ρ _ => [nb ρ 5, nb ρ 5, nb ρ 5, nb ρ 5]) (fun _ _ => by kernel_rfl)) (fun _ _ => trivial)
  · exact Obl.brings (o_run 7 [] [] (fun _ _ => []) (fun _ _ => by kernel_rfl)) (fun _ _ => trivial)
theorem ssanew_any_r3 (p : Nat) (e : Nat) (s : Nat) (ee : sigE 1 4070815637249397495359917441711684260466522898401426079512180687778195963904 = e) (es : sigS 1 4070815637249397495359917441711684260466522898401426079512180687778195963904 = s) (ρ2 : Nat → Orc) (w0 : World) : RegF Tryd.prog 2 (regOps Tryd.f12 2) false 45 [(0, (.bool false)), (1, (pt (nb ρ2 5))), (2, (.int .i64 0))] w0 [(nb ρ2 5, (.cells (cU p) 24 (0, 0)))] (fun w => Kb w 1 (rowK .u32 64 kN) ∧ Kb w 0 #[(.int .u32 1779033703), (.int .u32 3144134277), (.int .u32 1013904242), (.int .u32 2773480762), (.int .u32 1359893119), (.int .u32 2600822924), (.int .u32 528734635), (.int .u32 1541459225)] ∧ True)
    (fun ρ => [(0, (.bool false)), (1, (pt (nb ρ2 5))), (2, (.int .i64 0)), (3, (pt (nb ρ 6))), (4, (.int .i64 0))])
    (fun ρ => [(nb ρ2 5, (.cells (cU p) 24 (0, 0))), (nb ρ 6, (.cells (cU e ++ cU s) 36 (0, 0)))]) (fun _ => (fun w => Kb w 1 (rowK .u32 64 kN) ∧ Kb w 0 #[(.int .u32 1779033703), (.int .u32 3144134277), (.int .u32 1013904242), (.int .u32 2773480762), (.int .u32 1359893119), (.int .u32 2600822924), (.int .u32 528734635), (.int .u32 1541459225)] ∧ True)) := by
  refine reg_seq_f [0, 1, 3, 7, 15, 31, 63, 127, 255] [0, 1, 2, 3, 4] 9
    (fun ρ ι => ([(U 1), (.agg (hB 4070815637249397495359917441711684260466522898401426079512180687778195963904)), (.tuple #[(.agg (cU e ++ cU s)), (.int .i64 0)]), (.tuple #[(.agg (cU e ++ cU s)), (.int .i64 0)]), (.agg (cU e ++ cU s)), (.int .i64 0), (pt (nb ρ 6)), undef, (.int .i64 0)] : List Value).getD ι undef)
    (fun ρ ι => ([{}, {}, {}, {}, {}, {}, { news := [(nb ρ 6, (.cells (cU 0 ++ cU 0) 36 (0, 0)))] }, { puts := [(49, (.cells (cU e ++ cU s) 36 (0, 0)))] }, {}] : List Eff).getD ι {})
    (fun _ ι => ([(fun _ => True), (fun _ => True), (fun _ => True), (fun _ => True), (fun _ => True), (fun _ => True), (fun _ => True), (fun _ => True), (fun _ => True)] : List (World → Prop)).getD ι (fun _ => True))
    (by kernel_rfl) (by kernel_rfl) (fun _ => by kernel_rfl) (fun _ => by kernel_rfl) (fun _ _ hF _ => ⟨hF.1, hF.2.1, trivial⟩) ⟨⟨⟨⟨⟨⟨⟨⟨⟨trivial, ?_⟩, ?_⟩, ?_⟩, ?_⟩, ?_⟩, ?_⟩, ?_⟩, ?_⟩, ?_⟩
  · exact Obl.brings (o_run 0 [] [] (fun _ _ => []) (fun _ _ => by kernel_rfl)) (fun _ _ => trivial)
  · exact Obl.brings (o_run 1 [] [] (fun _ _ => []) (fun _ _ => by kernel_rfl)) (fun _ _ => trivial)
  · exact o_callP 2 19 (fun _ => #[(U 1), (.agg (hB 4070815637249397495359917441711684260466522898401426079512180687778195963904))]) (fun _ => (.tuple #[(.agg (cU e ++ cU s)), (.int .i64 0)])) (fun _ _ => (by kernel_rfl)) (fun _ => (by kernel_rfl)) (fun _ _ => (by kernel_rfl)) (fun _ _ => trivial) (fun _ _ w hG => (by as_aux_lemma => (have hcall := sign_any 1 4070815637249397495359917441711684260466522898401426079512180687778195963904 (by decide +kernel) (by decide +kernel) w hG.facts0.now.1 hG.facts0.now.2.1; rw [ee, es, (pub_yes sane_sec).2] at hcall; exact hcall)))
  · exact Obl.brings (o_run 3 [] [] (fun _ _ => []) (fun _ _ => by kernel_rfl)) (fun _ _ => trivial)
  · exact Obl.brings (o_run 4 [] [] (fun _ _ => []) (fun _ _ => by kernel_rfl)) (fun _ _ => trivial)
  · exact Obl.brings (o_run 5 [] [] (fun _ _ => []) (fun _ _ => by kernel_rfl)) (fun _ _ => trivial)
  · exact Obl.brings (o_run 6 [] [] (fun _ _ => []) (fun _ _ => by kernel_rfl)) (fun _ _ => trivial)
  · exact Obl.brings (o_run 7 [49] [] (fun ρ _ => [nb ρ 6, nb ρ 6, nb ρ 6, nb ρ 6, nb ρ 6, nb ρ 6, nb ρ 6, nb ρ 6]) (fun _ _ => by kernel_rfl)) (fun _ _ => trivial)
  · exact Obl.brings (o_run 8 [] [] (fun _ _ => []) (fun _ _ => by kernel_rfl)) (fun _ _ => trivial)
theorem ssanew_any_r4 (p : Nat) (e : Nat) (s : Nat) (hp : p < M) (he : e < M) (hs : s < M) (ep : pubV 1 = p) (ee : sigE 1 4070815637249397495359917441711684260466522898401426079512180687778195963904 = e) (es : sigS 1 4070815637249397495359917441711684260466522898401426079512180687778195963904 = s) (ρ2 : Nat → Orc) (ρ3 : Nat → Orc) (w0 : World) : RegF Tryd.prog 3 (regOps Tryd.f12 3) false 45 [(0, (.bool false)), (1, (pt (nb ρ2 5))), (2, (.int .i64 0)), (3, (pt (nb ρ3 6))), (4, (.int .i64 0))] w0 [(nb ρ2 5, (.cells (cU p) 24 (0, 0))), (nb ρ3 6, (.cells (cU e ++ cU s) 36 (0, 0)))] (fun w => Kb w 1 (rowK .u32 64 kN) ∧ Kb w 0 #[(.int .u32 1779033703), (.int .u32 3144134277), (.int .u32 1013904242), (.int .u32 2773480762), (.int .u32 1359893119), (.int .u32 2600822924), (.int .u32 528734635), (.int .u32 1541459225)] ∧ True)
    (fun _ => [(0, (.bool true))])
    (fun _ => [(nb ρ2 5, (.cells (cU p) 24 (0, 0))), (nb ρ3 6, (.cells (cU e ++ cU s) 36 (0, 0)))]) (fun _ => (fun w => Kb w 1 (rowK .u32 64 kN) ∧ Kb w 0 #[(.int .u32 1779033703), (.int .u32 3144134277), (.int .u32 1013904242), (.int .u32 2773480762), (.int .u32 1359893119), (.int .u32 2600822924), (.int .u32 528734635), (.int .u32 1541459225)] ∧ True)) := by
  refine reg_seq_f [0, 1, 3, 7, 15, 31, 63, 127, 255, 511, 1023, 2047, 4095, 8191, 16383, 32767, 65535, 131071, 262143, 524287, 1048575, 2097151, 4194303, 8388607, 16777215, 33554431, 67108863, 134217727, 268435455, 536870911] [0] 30
    (fun _ ι => ([(.int .i64 0), (.bool true), (.bool true), (U p), (U 4), (.bool true), (.bool true), (.bool true), (.int .i64 0), (.bool true), (.bool true), (.bool true), (U p), (.agg (hB 4070815637249397495359917441711684260466522898401426079512180687778195963904)), (.agg (cU e ++ cU s)), (.bool true), (.bool true), (.bool true), (U p), (.agg (hB 3618502788666131106986593281521497120414687020801267626233049500247285301248)), (.agg (cU e ++ cU s)), (.bool false), (.bool true), (.bool true), (.bool true), (U 1), (.bool false), (.bool true), (.bool true), (.bool true)] : List Value).getD ι undef)
    (fun _ ι => ([{}, {}, {}, {}, {}, {}, {}, {}, {}, {}, {}, {}, {}, {}, {}, {}, {}, {}, {}, {}, {}, {}, {}, {}, {}, {}, {}, {}, {}, {}] : List Eff).getD ι {})
    (fun _ ι => ([(fun _ => True), (fun _ => True), (fun _ => True), (fun _ => True), (fun _ => True), (fun _ => True), (fun _ => True), (fun _ => True), (fun _ => True), (fun _ => True), (fun _ => True), (fun _ => True), (fun _ => True), (fun _ => True), (fun _ => True), (fun _ => True), (fun _ => True), (fun _ => True), (fun _ => True), (fun _ => True), (fun _ => True), (fun _ => True), (fun _ => True), (fun _ => True), (fun _ => True), (fun _ => True), (fun _ => True), (fun _ => True), (fun _ => True), (fun _ => True)] : List (World → Prop)).getD ι (fun _ => True))
    (by kernel_rfl) (by kernel_rfl) (fun _ => by kernel_rfl) (fun _ => by kernel_rfl) (fun _ _ hF _ => ⟨hF.1, hF.2.1, trivial⟩) ⟨⟨⟨⟨⟨⟨⟨⟨⟨⟨⟨⟨⟨⟨⟨⟨⟨⟨⟨⟨⟨⟨⟨⟨⟨⟨⟨⟨⟨⟨trivial, ?_⟩, ?_⟩, ?_⟩, ?_⟩, ?_⟩, ?_⟩, ?_⟩, ?_⟩, ?_⟩, ?_⟩, ?_⟩, ?_⟩, ?_⟩, ?_⟩, ?_⟩, ?_⟩, ?_⟩, ?_⟩, ?_⟩, ?_⟩, ?_⟩, ?_⟩, ?_⟩, ?_⟩, ?_⟩, ?_⟩, ?_⟩, ?_⟩, ?_⟩, ?_⟩
  · exact Obl.brings (o_run 0 [] [] (fun _ _ => []) (fun _ _ => by kernel_rfl)) (fun _ _ => trivial)
  · exact Obl.brings (o_run 1 [] [] (fun _ _ => []) (fun _ _ => by kernel_rfl)) (fun _ _ => trivial)
  · exact Obl.brings (o_run 2 [] [] (fun _ _ => []) (fun _ _ => by kernel_rfl)) (fun _ _ => trivial)
  · exact Obl.brings (o_run 3 [0] [] (fun _ _ => [nb ρ2 5, nb ρ2 5, nb ρ2 5, nb ρ2 5]) (fun _ _ => by kernel_rfl)) (fun _ _ => trivial)
  · exact Obl.brings (o_run 4 [] [] (fun _ _ => []) (fun _ _ => by kernel_rfl)) (fun _ _ => trivial)
  · exact Obl.brings (o_bin 5 .eql 24 (fun _ => (U p)) (fun _ => (U 4)) (fun _ => (.bool true)) (fun _ => by kernel_rfl) (fun _ _ _ _ => by kernel_rfl) (fun _ _ => (eqlU p 4 hp (by decide +kernel) _).trans (by rw [(decide_eq_true (ep.symm.trans sane_pub))]; try rfl))) (fun _ _ => trivial)
  · exact Obl.brings (o_run 6 [] [] (fun _ _ => []) (fun _ _ => by kernel_rfl)) (fun _ _ => trivial)
  · exact Obl.brings (o_run 7 [] [] (fun _ _ => []) (fun _ _ => by kernel_rfl)) (fun _ _ => trivial)
  · exact Obl.brings (o_run 8 [] [] (fun _ _ => []) (fun _ _ => by kernel_rfl)) (fun _ _ => trivial)
  · exact Obl.brings (o_run 9 [] [] (fun _ _ => []) (fun _ _ => by kernel_rfl)) (fun _ _ => trivial)
  · exact Obl.brings (o_run 10 [] [] (fun _ _ => []) (fun _ _ => by kernel_rfl)) (fun _ _ => trivial)
  · exact Obl.brings (o_run 11 [] [] (fun _ _ => []) (fun _ _ => by kernel_rfl)) (fun _ _ => trivial)
  · exact Obl.brings (o_run 12 [0] [] (fun _ _ => [nb ρ2 5, nb ρ2 5, nb ρ2 5, nb ρ2 5]) (fun _ _ => by kernel_rfl)) (fun _ _ => trivial)
  · exact Obl.brings (o_run 13 [] [] (fun _ _ => []) (fun _ _ => by kernel_rfl)) (fun _ _ => trivial)
  · exact Obl.brings (o_run 14 [1] [] (fun _ _ => [nb ρ3 6, nb ρ3 6, nb ρ3 6, nb ρ3 6, nb ρ3 6, nb ρ3 6, nb ρ3 6, nb ρ3 6]) (fun _ _ => by kernel_rfl)) (fun _ _ => trivial)
  · exact o_callP 15 21 (fun _ => #[(U p), (.agg (hB 4070815637249397495359917441711684260466522898401426079512180687778195963904)), (.agg (cU e ++ cU s))]) (fun _ => (.bool true)) (fun _ _ => (by kernel_rfl)) (fun _ => (by kernel_rfl)) (fun _ _ => (by kernel_rfl)) (fun _ _ => trivial) (fun _ _ w hG => (by as_aux_lemma => (have hcall := verify_any p 4070815637249397495359917441711684260466522898401426079512180687778195963904 e s hp (by decide +kernel) he hs w hG.facts0.now.1 hG.facts0.now.2.1; rw [(show verB p 4070815637249397495359917441711684260466522898401426079512180687778195963904 e s = true by rw [← ep, ← ee, ← es]; exact sane_ver)] at hcall; exact hcall)))
  · exact Obl.brings (o_run 16 [] [] (fun _ _ => []) (fun _ _ => by kernel_rfl)) (fun _ _ => trivial)
  · exact Obl.brings (o_run 17 [] [] (fun _ _ => []) (fun _ _ => by kernel_rfl)) (fun _ _ => trivial)
  · exact Obl.brings (o_run 18 [0] [] (fun _ _ => [nb ρ2 5, nb ρ2 5, nb ρ2 5, nb ρ2 5]) (fun _ _ => by kernel_rfl)) (fun _ _ => trivial)
  · exact Obl.brings (o_run 19 [] [] (fun _ _ => []) (fun _ _ => by kernel_rfl)) (fun _ _ => trivial)
  · exact Obl.brings (o_run 20 [1] [] (fun _ _ => [nb ρ3 6, nb ρ3 6, nb ρ3 6, nb ρ3 6, nb ρ3 6, nb ρ3 6, nb ρ3 6, nb ρ3 6]) (fun _ _ => by kernel_rfl)) (fun _ _ => trivial)
  · exact o_callP 21 21 (fun _ => #[(U p), (.agg (hB 3618502788666131106986593281521497120414687020801267626233049500247285301248)), (.agg (cU e ++ cU s))]) (fun _ => (.bool false)) (fun _ _ => (by kernel_rfl)) (fun _ => (by kernel_rfl)) (fun _ _ => (by kernel_rfl)) (fun _ _ => trivial) (fun _ _ w hG => (by as_aux_lemma => (have hcall := verify_any p 3618502788666131106986593281521497120414687020801267626233049500247285301248 e s hp (by decide +kernel) he hs w hG.facts0.now.1 hG.facts0.now.2.1; rw [(show verB p 3618502788666131106986593281521497120414687020801267626233049500247285301248 e s = false by rw [← ep, ← ee, ← es]; exact sane_not)] at hcall; exact hcall)))
  · exact Obl.brings (o_run 22 [] [] (fun _ _ => []) (fun _ _ => by kernel_rfl)) (fun _ _ => trivial)
  · exact Obl.brings (o_run 23 [] [] (fun _ _ => []) (fun _ _ => by kernel_rfl)) (fun _ _ => trivial)
  · exact Obl.brings (o_run 24 [] [] (fun _ _ => []) (fun _ _ => by kernel_rfl)) (fun _ _ => trivial)
  · exact Obl.brings (o_run 25 [] [] (fun _ _ => []) (fun _ _ => by kernel_rfl)) (fun _ _ => trivial)
  · exact Obl.brings (o_call 26 13 (fun _ => #[(U 1)]) (fun _ => (.bool false)) (fun _ _ => by kernel_rfl) (fun _ w => by as_aux_lemma => (have hcall := (fun w => valid_any 1 (by decide +kernel) w) w; rw [sane_val] at hcall; exact hcall))) (fun _ _ => trivial)
  · exact Obl.brings (o_run 27 [] [] (fun _ _ => []) (fun _ _ => by kernel_rfl)) (fun _ _ => trivial)
  · exact Obl.brings (o_run 28 [] [] (fun _ _ => []) (fun _ _ => by kernel_rfl)) (fun _ _ => trivial)
  · exact Obl.brings (o_run 29 [] [] (fun _ _ => []) (fun _ _ => by kernel_rfl)) (fun _ _ => trivial)
theorem ssanew_any (p : Nat) (e : Nat) (s : Nat) (hp : p < M) (he : e < M) (hs : s < M) (ep : pubV 1 = p) (ee : sigE 1 4070815637249397495359917441711684260466522898401426079512180687778195963904 = e) (es : sigS 1 4070815637249397495359917441711684260466522898401426079512180687778195963904 = s) (w0 : World) (hf0 : Kb w0 1 (rowK .u32 64 kN)) (hf1 : Kb w0 0 #[(.int .u32 1779033703), (.int .u32 3144134277), (.int .u32 1013904242), (.int .u32 2773480762), (.int .u32 1359893119), (.int .u32 2600822924), (.int .u32 528734635), (.int .u32 1541459225)]) : Calls Tryd.prog 12 #[] w0 (fun ε w' => ε = .returned (.bool true) ∧ Below w0.heap.size w0 w') := by
  refine Calls.of_ok (n := 45) (F := (fun w => Kb w 1 (rowK .u32 64 kN) ∧ Kb w 0 #[(.int .u32 1779033703), (.int .u32 3144134277), (.int .u32 1013904242), (.int .u32 2773480762), (.int .u32 1359893119), (.int .u32 2600822924), (.int .u32 528734635), (.int .u32 1541459225)] ∧ True)) Tryd.func12 rfl rfl rfl (by simp) (hf0.pers0.and (hf1.pers0.and persT)) ?_
  refine ok_seq_r (by kernel_rfl) (ssanew_any_r1 _ _) (fun _ => ?_)
  refine ok_seq_rf (by kernel_rfl) (ssanew_any_r2 p ep _) (fun ρ2 => ?_)
  refine ok_seq_rf (by kernel_rfl) (ssanew_any_r3 p e s ee es ρ2 _) (fun ρ3 => ?_)
  refine ok_seq_rf (by kernel_rfl) (ssanew_any_r4 p e s hp he hs ep ee es ρ2 ρ3 _) (fun _ => ?_)
  refine ok_ret ?_
  exact meets_ret (v := (.bool true)) [] (dup []) (by kernel_rfl) (by kernel_rfl) (eqs_dup _) (fun _ hS => ⟨rfl, hS.below⟩)
theorem ssane_any (w0 : World) (hf0 : Kb w0 1 (rowK .u32 64 kN)) (hf1 : Kb w0 0 #[(.int .u32 1779033703), (.int .u32 3144134277), (.int .u32 1013904242), (.int .u32 2773480762), (.int .u32 1359893119), (.int .u32 2600822924), (.int .u32 528734635), (.int .u32 1541459225)]) : Calls Tryd.prog 12 #[] w0 (fun ε w' => ε = .returned (.bool true) ∧ Below w0.heap.size w0 w') := ssanew_any _ _ _ (pubV_lt 1) (sigE_lt 1 _) (sigS_lt 1 _) rfl rfl rfl w0 hf0 hf1
end Go.Proofs.YtoibhbmcplhiaaaDoor
