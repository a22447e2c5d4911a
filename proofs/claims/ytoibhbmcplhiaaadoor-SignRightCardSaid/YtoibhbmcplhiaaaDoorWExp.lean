/-
  Powers modulo a number: the walks.
-/
import Derived.Test.YtoibhbmcplhiaaaDoorWModular
import Derived.Test.YtoibhbmcplhiaaaDoorExpNum
import Derived.Test.YtoibhbmcplhiaaaDoorGhost6
namespace Go.Proofs.YtoibhbmcplhiaaaDoor
open Go Go.RowKit
set_option maxRecDepth 100000
theorem rexpmod_w_r1 (a : Nat) (e : Nat) (m : Nat) (w0 : World) (F : World → Prop) : Reg Tryd.prog 0 (regOps Tryd.f84 0) false 34 [(0, (U a)), (1, (U e)), (2, (U m))] w0 [] F
    (fun ρ => [(3, (pt (nb ρ 0))), (4, (pt (nb ρ 1))), (5, (pt (nb ρ 2))), (6, (pt (nb ρ 3)))])
    (fun ρ => [(nb ρ 0, (.cells (cU a) 24 (0, 0))), (nb ρ 1, (.cells (cU e) 24 (0, 0))), (nb ρ 2, (.cells (cU m) 24 (0, 0))), (nb ρ 3, (.cells (cU 0) 24 (0, 0)))]) := by
  refine reg_seq [0, 1, 3, 7] [3, 4, 5, 6] 4
    (fun ρ ι => ([(pt (nb ρ 0)), (pt (nb ρ 1)), (pt (nb ρ 2)), (pt (nb ρ 3))] : List Value).getD ι undef)
    (fun ρ ι => ([{ news := [(nb ρ 0, (.cells (cU a) 24 (0, 0)))] }, { news := [(nb ρ 1, (.cells (cU e) 24 (0, 0)))] }, { news := [(nb ρ 2, (.cells (cU m) 24 (0, 0)))] }, { news := [(nb ρ 3, (.cells (cU 0) 24 (0, 0)))] }] : List Eff).getD ι {})
    (by kernel_rfl) (by kernel_rfl) (fun _ => by kernel_rfl) (fun _ => by kernel_rfl) ⟨⟨⟨⟨trivial, ?_⟩, ?_⟩, ?_⟩, ?_⟩
  · exact o_run 0 [] [] (fun _ _ => []) (fun _ _ => by kernel_rfl)
  · exact o_run 1 [] [] (fun _ _ => []) (fun _ _ => by kernel_rfl)
  · exact o_run 2 [] [] (fun _ _ => []) (fun _ _ => by kernel_rfl)
  · exact o_run 3 [] [] (fun _ _ => []) (fun _ _ => by kernel_rfl)
theorem rexpmod_w_r2 (a : Nat) (e : Nat) (m : Nat) (hm : m < M) (ρ1 : Nat → Orc) (w0 : World) (F : World → Prop) : Reg Tryd.prog 1 (regOps Tryd.f84 1) false 34 [(3, (pt (nb ρ1 0))), (4, (pt (nb ρ1 1))), (5, (pt (nb ρ1 2))), (6, (pt (nb ρ1 3)))] w0 [(nb ρ1 0, (.cells (cU a) 24 (0, 0))), (nb ρ1 1, (.cells (cU e) 24 (0, 0))), (nb ρ1 2, (.cells (cU m) 24 (0, 0))), (nb ρ1 3, (.cells (cU 0) 24 (0, 0)))] F
    (fun _ => [(3, (pt (nb ρ1 0))), (4, (pt (nb ρ1 1))), (5, (pt (nb ρ1 2))), (6, (pt (nb ρ1 3))), (10, (.bool (decide (m = 0))))])
    (fun _ => [(nb ρ1 0, (.cells (cU a) 24 (0, 0))), (nb ρ1 1, (.cells (cU e) 24 (0, 0))), (nb ρ1 2, (.cells (cU m) 24 (0, 0))), (nb ρ1 3, (.cells (cU 0) 24 (0, 0)))]) := by
  refine reg_seq [0, 1] [3, 4, 5, 6, 10] 2
    (fun _ ι => ([(U m), (.bool (decide (m = 0)))] : List Value).getD ι undef)
    (fun _ ι => ([{}, {}] : List Eff).getD ι {})
    (by kernel_rfl) (by kernel_rfl) (fun _ => by kernel_rfl) (fun _ => by kernel_rfl) ⟨⟨trivial, ?_⟩, ?_⟩
  · exact o_run 0 [2] [] (fun _ _ => [nb ρ1 2, nb ρ1 2, nb ρ1 2, nb ρ1 2]) (fun _ _ => by kernel_rfl)
  · exact o_call 1 50 (fun _ => #[(U m)]) (fun _ => (.bool (decide (m = 0)))) (fun _ _ => by kernel_rfl) (fun _ w => (fun w => rzero_any m w hm) w)
theorem rexpmod_w_r3 (a : Nat) (e : Nat) (m : Nat) (ρ1 : Nat → Orc) (w0 : World) (F : World → Prop) : Reg Tryd.prog 2 (regOps Tryd.f84 2) false 34 [(3, (pt (nb ρ1 0))), (4, (pt (nb ρ1 1))), (5, (pt (nb ρ1 2))), (6, (pt (nb ρ1 3))), (10, (.bool true))] w0 [(nb ρ1 0, (.cells (cU a) 24 (0, 0))), (nb ρ1 1, (.cells (cU e) 24 (0, 0))), (nb ρ1 2, (.cells (cU m) 24 (0, 0))), (nb ρ1 3, (.cells (cU 0) 24 (0, 0)))] F
    (fun _ => [(3, (pt (nb ρ1 0))), (4, (pt (nb ρ1 1))), (5, (pt (nb ρ1 2))), (6, (pt (nb ρ1 3)))])
    (fun _ => [(nb ρ1 0, (.cells (cU a) 24 (0, 0))), (nb ρ1 1, (.cells (cU e) 24 (0, 0))), (nb ρ1 2, (.cells (cU m) 24 (0, 0))), (nb ρ1 3, (.cells (cU m) 24 (0, 0)))]) := by
  refine reg_seq [0, 1] [3, 4, 5, 6] 2
    (fun _ ι => ([(U m), undef] : List Value).getD ι undef)
    (fun _ ι => ([{}, { puts := [(3, (.cells (cU m) 24 (0, 0)))] }] : List Eff).getD ι {})
    (by kernel_rfl) (by kernel_rfl) (fun _ => by kernel_rfl) (fun _ => by kernel_rfl) ⟨⟨trivial, ?_⟩, ?_⟩
  · exact o_run 0 [2] [] (fun _ _ => [nb ρ1 2, nb ρ1 2, nb ρ1 2, nb ρ1 2]) (fun _ _ => by kernel_rfl)
  · exact o_run 1 [3] [] (fun _ _ => [nb ρ1 3, nb ρ1 3, nb ρ1 3, nb ρ1 3]) (fun _ _ => by kernel_rfl)
theorem rexpmod_w_r4 (a : Nat) (e : Nat) (m : Nat) (hm : m < M) (ρ1 : Nat → Orc) (w0 : World) (F : World → Prop) : Reg Tryd.prog 3 (regOps Tryd.f84 3) true 34 [(3, (pt (nb ρ1 0))), (4, (pt (nb ρ1 1))), (5, (pt (nb ρ1 2))), (6, (pt (nb ρ1 3))), (10, (.bool false))] w0 [(nb ρ1 0, (.cells (cU a) 24 (0, 0))), (nb ρ1 1, (.cells (cU e) 24 (0, 0))), (nb ρ1 2, (.cells (cU m) 24 (0, 0))), (nb ρ1 3, (.cells (cU 0) 24 (0, 0)))] F
    (fun ρ => [(3, (pt (nb ρ1 0))), (4, (pt (nb ρ1 1))), (5, (pt (nb ρ1 2))), (6, (pt (nb ρ1 3))), (7, (pt (nb ρ 3)))])
    (fun ρ => [(nb ρ1 0, (.cells (cU a) 24 (0, 0))), (nb ρ1 1, (.cells (cU e) 24 (0, 0))), (nb ρ1 2, (.cells (cU m) 24 (0, 0))), (nb ρ1 3, (.cells (cU 0) 24 (0, 0))), (nb ρ 3, (.cells (cU (redN 1 m)) 24 (0, 0)))]) := by
  refine reg_drawn [0, 0, 3, 0, 15] [3, 4, 5, 6, 7] 5
    (fun ρ ι => ([(U 1), (U m), (U (redN 1 m)), (pt (nb ρ 3)), undef] : List Value).getD ι undef)
    (fun ρ ι => ([{}, {}, {}, { news := [(nb ρ 3, (.cells (cU 0) 24 (0, 0)))] }, { puts := [(28, (.cells (cU (redN 1 m)) 24 (0, 0)))] }] : List Eff).getD ι {})
    (by kernel_rfl) (by kernel_rfl) (by kernel_rfl) (fun _ => by kernel_rfl) (fun _ => by kernel_rfl) ⟨⟨⟨⟨⟨trivial, ?_⟩, ?_⟩, ?_⟩, ?_⟩, ?_⟩
  · exact o_call 0 41 (fun _ => #[(.int .u64 1)]) (fun _ => (U 1)) (fun _ _ => by kernel_rfl) (fun _ w => (fun w => rfromuint_lit 1 w (by decide)) w)
  · exact o_run 1 [2] [] (fun _ _ => [nb ρ1 2, nb ρ1 2, nb ρ1 2, nb ρ1 2]) (fun _ _ => by kernel_rfl)
  · exact o_call 2 85 (fun _ => #[(U 1), (U m)]) (fun _ => (U (redN 1 m))) (fun _ _ => by kernel_rfl) (fun _ w => (fun w => rreduce_any 1 m w (by decide +kernel) hm) w)
  · exact o_run 3 [] [] (fun _ _ => []) (fun _ _ => by kernel_rfl)
  · exact o_run 4 [28] [] (fun ρ _ => [nb ρ 3, nb ρ 3, nb ρ 3, nb ρ 3]) (fun _ _ => by kernel_rfl)
theorem rexpmod_w_r5 (a : Nat) (e : Nat) (m : Nat) (he : e < M) (ρ1 : Nat → Orc) (ρ4 : Nat → Orc) (w0 : World) (F : World → Prop) : Reg Tryd.prog 4 (regOps Tryd.f84 4) false 34 [(3, (pt (nb ρ1 0))), (4, (pt (nb ρ1 1))), (5, (pt (nb ρ1 2))), (6, (pt (nb ρ1 3))), (7, (pt (nb ρ4 3)))] w0 [(nb ρ1 0, (.cells (cU a) 24 (0, 0))), (nb ρ1 1, (.cells (cU e) 24 (0, 0))), (nb ρ1 2, (.cells (cU m) 24 (0, 0))), (nb ρ1 3, (.cells (cU 0) 24 (0, 0))), (nb ρ4 3, (.cells (cU (redN 1 m)) 24 (0, 0)))] F
    (fun _ => [(3, (pt (nb ρ1 0))), (4, (pt (nb ρ1 1))), (5, (pt (nb ρ1 2))), (6, (pt (nb ρ1 3))), (7, (pt (nb ρ4 3))), (8, (.int .i64 (((lenN e : Nat) : Int) - 1)))])
    (fun _ => [(nb ρ1 0, (.cells (cU a) 24 (0, 0))), (nb ρ1 1, (.cells (cU e) 24 (0, 0))), (nb ρ1 2, (.cells (cU m) 24 (0, 0))), (nb ρ1 3, (.cells (cU 0) 24 (0, 0))), (nb ρ4 3, (.cells (cU (redN 1 m)) 24 (0, 0)))]) := by
  refine reg_seq [0, 1, 3, 7] [3, 4, 5, 6, 7, 8] 4
    (fun _ ι => ([(U e), (.int .i64 ((lenN e : Nat) : Int)), (.int .i64 (((lenN e : Nat) : Int) - 1)), (.int .i64 (((lenN e : Nat) : Int) - 1))] : List Value).getD ι undef)
    (fun _ ι => ([{}, {}, {}, {}] : List Eff).getD ι {})
    (by kernel_rfl) (by kernel_rfl) (fun _ => by kernel_rfl) (fun _ => by kernel_rfl) ⟨⟨⟨⟨trivial, ?_⟩, ?_⟩, ?_⟩, ?_⟩
  · exact o_run 0 [1] [] (fun _ _ => [nb ρ1 1, nb ρ1 1, nb ρ1 1, nb ρ1 1]) (fun _ _ => by kernel_rfl)
  · exact o_call 1 101 (fun _ => #[(U e)]) (fun _ => (.int .i64 ((lenN e : Nat) : Int))) (fun _ _ => by kernel_rfl) (fun _ w => (fun w => rlen_any e w he) w)
  · exact o_as 2 (fun _ => (.int .i64 (IntKind.i64.wrap (((lenN e : Nat) : Int) - 1)))) (fun _ => (.int .i64 (((lenN e : Nat) : Int) - 1))) (fun _ _ => by kernel_rfl) (fun _ => congrArg (Value.int .i64) (wrap_pred (by have := lenN_le e he; omega)))
  · exact o_run 3 [] [] (fun _ _ => []) (fun _ _ => by kernel_rfl)
theorem rexpmod_w_r6 (a : Nat) (e : Nat) (m : Nat) (k : Nat) (p : Nat) (ρ1 : Nat → Orc) (ρ4 : Nat → Orc) (w0 : World) (F : World → Prop) : Reg Tryd.prog 5 (regOps Tryd.f84 5) false 34 [(3, (pt (nb ρ1 0))), (4, (pt (nb ρ1 1))), (5, (pt (nb ρ1 2))), (6, (pt (nb ρ1 3))), (7, (pt (nb ρ4 3))), (8, (.int .i64 (((k : Nat) : Int) - 1)))] w0 [(nb ρ1 0, (.cells (cU a) 24 (0, 0))), (nb ρ1 1, (.cells (cU e) 24 (0, 0))), (nb ρ1 2, (.cells (cU m) 24 (0, 0))), (nb ρ1 3, (.cells (cU 0) 24 (0, 0))), (nb ρ4 3, (.cells (cU p) 24 (0, 0)))] F
    (fun _ => [(3, (pt (nb ρ1 0))), (4, (pt (nb ρ1 1))), (5, (pt (nb ρ1 2))), (6, (pt (nb ρ1 3))), (7, (pt (nb ρ4 3))), (8, (.int .i64 (((k : Nat) : Int) - 1))), (19, (.bool (decide (0 ≤ (((k : Nat) : Int) - 1)))))])
    (fun _ => [(nb ρ1 0, (.cells (cU a) 24 (0, 0))), (nb ρ1 1, (.cells (cU e) 24 (0, 0))), (nb ρ1 2, (.cells (cU m) 24 (0, 0))), (nb ρ1 3, (.cells (cU 0) 24 (0, 0))), (nb ρ4 3, (.cells (cU p) 24 (0, 0)))]) := by
  refine reg_seq [0, 1] [3, 4, 5, 6, 7, 8, 19] 2
    (fun _ ι => ([(.int .i64 (((k : Nat) : Int) - 1)), (.bool (decide (0 ≤ (((k : Nat) : Int) - 1))))] : List Value).getD ι undef)
    (fun _ ι => ([{}, {}] : List Eff).getD ι {})
    (by kernel_rfl) (by kernel_rfl) (fun _ => by kernel_rfl) (fun _ => by kernel_rfl) ⟨⟨trivial, ?_⟩, ?_⟩
  · exact o_run 0 [] [] (fun _ _ => []) (fun _ _ => by kernel_rfl)
  · exact o_run 1 [] [] (fun _ _ => []) (fun _ _ => by kernel_rfl)
theorem rexpmod_w_r7 (a : Nat) (e : Nat) (m : Nat) (hm : m < M) (k : Nat) (p : Nat) (hpM : p < M) (ρ1 : Nat → Orc) (ρ4 : Nat → Orc) (w0 : World) (F : World → Prop) : Reg Tryd.prog 7 (regOps Tryd.f84 7) false 34 [(3, (pt (nb ρ1 0))), (4, (pt (nb ρ1 1))), (5, (pt (nb ρ1 2))), (6, (pt (nb ρ1 3))), (7, (pt (nb ρ4 3))), (8, (.int .i64 (((k : Nat) : Int) - 1))), (19, (.bool true))] w0 [(nb ρ1 0, (.cells (cU a) 24 (0, 0))), (nb ρ1 1, (.cells (cU e) 24 (0, 0))), (nb ρ1 2, (.cells (cU m) 24 (0, 0))), (nb ρ1 3, (.cells (cU 0) 24 (0, 0))), (nb ρ4 3, (.cells (cU p) 24 (0, 0)))] F
    (fun _ => [(3, (pt (nb ρ1 0))), (4, (pt (nb ρ1 1))), (5, (pt (nb ρ1 2))), (6, (pt (nb ρ1 3))), (7, (pt (nb ρ4 3))), (8, (.int .i64 (((k : Nat) : Int) - 1)))])
    (fun _ => [(nb ρ1 0, (.cells (cU a) 24 (0, 0))), (nb ρ1 1, (.cells (cU e) 24 (0, 0))), (nb ρ1 2, (.cells (cU m) 24 (0, 0))), (nb ρ1 3, (.cells (cU 0) 24 (0, 0))), (nb ρ4 3, (.cells (cU (mulmN p p m)) 24 (0, 0)))]) := by
  refine reg_seq [0, 1, 3, 7, 15] [3, 4, 5, 6, 7, 8] 5
    (fun _ ι => ([(U p), (U p), (U m), (U (mulmN p p m)), undef] : List Value).getD ι undef)
    (fun _ ι => ([{}, {}, {}, {}, { puts := [(4, (.cells (cU (mulmN p p m)) 24 (0, 0)))] }] : List Eff).getD ι {})
    (by kernel_rfl) (by kernel_rfl) (fun _ => by kernel_rfl) (fun _ => by kernel_rfl) ⟨⟨⟨⟨⟨trivial, ?_⟩, ?_⟩, ?_⟩, ?_⟩, ?_⟩
  · exact o_run 0 [4] [] (fun _ _ => [nb ρ4 3, nb ρ4 3, nb ρ4 3, nb ρ4 3]) (fun _ _ => by kernel_rfl)
  · exact o_run 1 [4] [] (fun _ _ => [nb ρ4 3, nb ρ4 3, nb ρ4 3, nb ρ4 3]) (fun _ _ => by kernel_rfl)
  · exact o_run 2 [2] [] (fun _ _ => [nb ρ1 2, nb ρ1 2, nb ρ1 2, nb ρ1 2]) (fun _ _ => by kernel_rfl)
  · exact o_call 3 80 (fun _ => #[(U p), (U p), (U m)]) (fun _ => (U (mulmN p p m))) (fun _ _ => by kernel_rfl) (fun _ w => (fun w => rmulmod_any p p m w hpM hpM hm) w)
  · exact o_run 4 [4] [] (fun _ _ => [nb ρ4 3, nb ρ4 3, nb ρ4 3, nb ρ4 3]) (fun _ _ => by kernel_rfl)
theorem rexpmod_w_r8 (a : Nat) (e : Nat) (m : Nat) (k : Nat) (p : Nat) (hk : k ≤ 256) (hb2 : (decide (0 ≤ (((k : Nat) : Int) - 1))) = true) (ρ1 : Nat → Orc) (ρ4 : Nat → Orc) (w0 : World) (F : World → Prop) : Reg Tryd.prog 8 (regOps Tryd.f84 8) false 34 [(3, (pt (nb ρ1 0))), (4, (pt (nb ρ1 1))), (5, (pt (nb ρ1 2))), (6, (pt (nb ρ1 3))), (7, (pt (nb ρ4 3))), (8, (.int .i64 (((k : Nat) : Int) - 1)))] w0 [(nb ρ1 0, (.cells (cU a) 24 (0, 0))), (nb ρ1 1, (.cells (cU e) 24 (0, 0))), (nb ρ1 2, (.cells (cU m) 24 (0, 0))), (nb ρ1 3, (.cells (cU 0) 24 (0, 0))), (nb ρ4 3, (.cells (cU (mulmN p p m)) 24 (0, 0)))] F
    (fun _ => [(3, (pt (nb ρ1 0))), (4, (pt (nb ρ1 1))), (5, (pt (nb ρ1 2))), (6, (pt (nb ρ1 3))), (7, (pt (nb ρ4 3))), (8, (.int .i64 (((k : Nat) : Int) - 1))), (28, (.bool (bitN e (k - 1))))])
    (fun _ => [(nb ρ1 0, (.cells (cU a) 24 (0, 0))), (nb ρ1 1, (.cells (cU e) 24 (0, 0))), (nb ρ1 2, (.cells (cU m) 24 (0, 0))), (nb ρ1 3, (.cells (cU 0) 24 (0, 0))), (nb ρ4 3, (.cells (cU (mulmN p p m)) 24 (0, 0)))]) := by
  refine reg_seq [0, 1, 3] [3, 4, 5, 6, 7, 8, 28] 3
    (fun _ ι => ([(U e), (.int .i64 (((k : Nat) : Int) - 1)), (.bool (bitN e (k - 1)))] : List Value).getD ι undef)
    (fun _ ι => ([{}, {}, {}] : List Eff).getD ι {})
    (by kernel_rfl) (by kernel_rfl) (fun _ => by kernel_rfl) (fun _ => by kernel_rfl) ⟨⟨⟨trivial, ?_⟩, ?_⟩, ?_⟩
  · exact o_run 0 [1] [] (fun _ _ => [nb ρ1 1, nb ρ1 1, nb ρ1 1, nb ρ1 1]) (fun _ _ => by kernel_rfl)
  · exact o_run 1 [] [] (fun _ _ => []) (fun _ _ => by kernel_rfl)
  · exact o_call 2 100 (fun _ => #[(U e), (.int .i64 (((k : Nat) : Int) - 1))]) (fun _ => (.bool (bitN e (k - 1)))) (fun _ _ => by kernel_rfl) (fun _ w => (fun w => rbit_at e (k - 1) _ (by have h1 := of_decide_eq_true hb2; omega) w (by have h1 := of_decide_eq_true hb2; have := hk; omega)) w)
theorem rexpmod_w_r9 (a : Nat) (e : Nat) (m : Nat) (ha : a < M) (hm : m < M) (k : Nat) (p : Nat) (ρ1 : Nat → Orc) (ρ4 : Nat → Orc) (w0 : World) (F : World → Prop) : Reg Tryd.prog 9 (regOps Tryd.f84 9) false 34 [(3, (pt (nb ρ1 0))), (4, (pt (nb ρ1 1))), (5, (pt (nb ρ1 2))), (6, (pt (nb ρ1 3))), (7, (pt (nb ρ4 3))), (8, (.int .i64 (((k : Nat) : Int) - 1))), (28, (.bool true))] w0 [(nb ρ1 0, (.cells (cU a) 24 (0, 0))), (nb ρ1 1, (.cells (cU e) 24 (0, 0))), (nb ρ1 2, (.cells (cU m) 24 (0, 0))), (nb ρ1 3, (.cells (cU 0) 24 (0, 0))), (nb ρ4 3, (.cells (cU (mulmN p p m)) 24 (0, 0)))] F
    (fun _ => [(3, (pt (nb ρ1 0))), (4, (pt (nb ρ1 1))), (5, (pt (nb ρ1 2))), (6, (pt (nb ρ1 3))), (7, (pt (nb ρ4 3))), (8, (.int .i64 (((k : Nat) : Int) - 1)))])
    (fun _ => [(nb ρ1 0, (.cells (cU a) 24 (0, 0))), (nb ρ1 1, (.cells (cU e) 24 (0, 0))), (nb ρ1 2, (.cells (cU m) 24 (0, 0))), (nb ρ1 3, (.cells (cU 0) 24 (0, 0))), (nb ρ4 3, (.cells (cU (mulmN (mulmN p p m) a m)) 24 (0, 0)))]) := by
  refine reg_seq [0, 1, 3, 7, 15] [3, 4, 5, 6, 7, 8] 5
    (fun _ ι => ([(U (mulmN p p m)), (U a), (U m), (U (mulmN (mulmN p p m) a m)), undef] : List Value).getD ι undef)
    (fun _ ι => ([{}, {}, {}, {}, { puts := [(4, (.cells (cU (mulmN (mulmN p p m) a m)) 24 (0, 0)))] }] : List Eff).getD ι {})
    (by kernel_rfl) (by kernel_rfl) (fun _ => by kernel_rfl) (fun _ => by kernel_rfl) ⟨⟨⟨⟨⟨trivial, ?_⟩, ?_⟩, ?_⟩, ?_⟩, ?_⟩
  · exact o_run 0 [4] [] (fun _ _ => [nb ρ4 3, nb ρ4 3, nb ρ4 3, nb ρ4 3]) (fun _ _ => by kernel_rfl)
  · exact o_run 1 [0] [] (fun _ _ => [nb ρ1 0, nb ρ1 0, nb ρ1 0, nb ρ1 0]) (fun _ _ => by kernel_rfl)
  · exact o_run 2 [2] [] (fun _ _ => [nb ρ1 2, nb ρ1 2, nb ρ1 2, nb ρ1 2]) (fun _ _ => by kernel_rfl)
  · exact o_call 3 80 (fun _ => #[(U (mulmN p p m)), (U a), (U m)]) (fun _ => (U (mulmN (mulmN p p m) a m))) (fun _ _ => by kernel_rfl) (fun _ w => (fun w => rmulmod_any (mulmN p p m) a m w (mulmN_lt _ _ hm) ha hm) w)
  · exact o_run 4 [4] [] (fun _ _ => [nb ρ4 3, nb ρ4 3, nb ρ4 3, nb ρ4 3]) (fun _ _ => by kernel_rfl)
theorem rexpmod_w_r10 (a : Nat) (e : Nat) (m : Nat) (k : Nat) (p : Nat) (hk : k ≤ 256) (hb2 : (decide (0 ≤ (((k : Nat) : Int) - 1))) = true) (ρ1 : Nat → Orc) (ρ4 : Nat → Orc) (w0 : World) (F : World → Prop) : Reg Tryd.prog 6 (regOps Tryd.f84 6) false 34 [(3, (pt (nb ρ1 0))), (4, (pt (nb ρ1 1))), (5, (pt (nb ρ1 2))), (6, (pt (nb ρ1 3))), (7, (pt (nb ρ4 3))), (8, (.int .i64 (((k : Nat) : Int) - 1)))] w0 [(nb ρ1 0, (.cells (cU a) 24 (0, 0))), (nb ρ1 1, (.cells (cU e) 24 (0, 0))), (nb ρ1 2, (.cells (cU m) 24 (0, 0))), (nb ρ1 3, (.cells (cU 0) 24 (0, 0))), (nb ρ4 3, (.cells (cU (mulmN (mulmN p p m) a m)) 24 (0, 0)))] F
    (fun _ => [(3, (pt (nb ρ1 0))), (4, (pt (nb ρ1 1))), (5, (pt (nb ρ1 2))), (6, (pt (nb ρ1 3))), (7, (pt (nb ρ4 3))), (8, (.int .i64 (((k - 1 : Nat) : Int) - 1)))])
    (fun _ => [(nb ρ1 0, (.cells (cU a) 24 (0, 0))), (nb ρ1 1, (.cells (cU e) 24 (0, 0))), (nb ρ1 2, (.cells (cU m) 24 (0, 0))), (nb ρ1 3, (.cells (cU 0) 24 (0, 0))), (nb ρ4 3, (.cells (cU (mulmN (mulmN p p m) a m)) 24 (0, 0)))]) := by
  refine reg_seq [0, 1, 3] [3, 4, 5, 6, 7, 8] 3
    (fun _ ι => ([(.int .i64 (((k : Nat) : Int) - 1)), (.int .i64 (((k - 1 : Nat) : Int) - 1)), (.int .i64 (((k - 1 : Nat) : Int) - 1))] : List Value).getD ι undef)
    (fun _ ι => ([{}, {}, {}] : List Eff).getD ι {})
    (by kernel_rfl) (by kernel_rfl) (fun _ => by kernel_rfl) (fun _ => by kernel_rfl) ⟨⟨⟨trivial, ?_⟩, ?_⟩, ?_⟩
  · exact o_run 0 [] [] (fun _ _ => []) (fun _ _ => by kernel_rfl)
  · exact o_as 1 (fun _ => (.int .i64 (IntKind.i64.wrap ((((k : Nat) : Int) - 1) - 1)))) (fun _ => (.int .i64 (((k - 1 : Nat) : Int) - 1))) (fun _ _ => by kernel_rfl) (fun _ => congrArg (Value.int .i64) (wrap_down (by have h1 := of_decide_eq_true hb2; omega) (by have := hk; omega)))
  · exact o_run 2 [] [] (fun _ _ => []) (fun _ _ => by kernel_rfl)
theorem rexpmod_w_r11 (a : Nat) (e : Nat) (m : Nat) (k : Nat) (p : Nat) (hk : k ≤ 256) (hb2 : (decide (0 ≤ (((k : Nat) : Int) - 1))) = true) (ρ1 : Nat → Orc) (ρ4 : Nat → Orc) (w0 : World) (F : World → Prop) : Reg Tryd.prog 6 (regOps Tryd.f84 6) false 34 [(3, (pt (nb ρ1 0))), (4, (pt (nb ρ1 1))), (5, (pt (nb ρ1 2))), (6, (pt (nb ρ1 3))), (7, (pt (nb ρ4 3))), (8, (.int .i64 (((k : Nat) : Int) - 1))), (28, (.bool false))] w0 [(nb ρ1 0, (.cells (cU a) 24 (0, 0))), (nb ρ1 1, (.cells (cU e) 24 (0, 0))), (nb ρ1 2, (.cells (cU m) 24 (0, 0))), (nb ρ1 3, (.cells (cU 0) 24 (0, 0))), (nb ρ4 3, (.cells (cU (mulmN p p m)) 24 (0, 0)))] F
    (fun _ => [(3, (pt (nb ρ1 0))), (4, (pt (nb ρ1 1))), (5, (pt (nb ρ1 2))), (6, (pt (nb ρ1 3))), (7, (pt (nb ρ4 3))), (8, (.int .i64 (((k - 1 : Nat) : Int) - 1)))])
    (fun _ => [(nb ρ1 0, (.cells (cU a) 24 (0, 0))), (nb ρ1 1, (.cells (cU e) 24 (0, 0))), (nb ρ1 2, (.cells (cU m) 24 (0, 0))), (nb ρ1 3, (.cells (cU 0) 24 (0, 0))), (nb ρ4 3, (.cells (cU (mulmN p p m)) 24 (0, 0)))]) := by
  refine reg_seq [0, 1, 3] [3, 4, 5, 6, 7, 8] 3
    (fun _ ι => ([(.int .i64 (((k : Nat) : Int) - 1)), (.int .i64 (((k - 1 : Nat) : Int) - 1)), (.int .i64 (((k - 1 : Nat) : Int) - 1))] : List Value).getD ι undef)
    (fun _ ι => ([{}, {}, {}] : List Eff).getD ι {})
    (by kernel_rfl) (by kernel_rfl) (fun _ => by kernel_rfl) (fun _ => by kernel_rfl) ⟨⟨⟨trivial, ?_⟩, ?_⟩, ?_⟩
  · exact o_run 0 [] [] (fun _ _ => []) (fun _ _ => by kernel_rfl)
  · exact o_as 1 (fun _ => (.int .i64 (IntKind.i64.wrap ((((k : Nat) : Int) - 1) - 1)))) (fun _ => (.int .i64 (((k - 1 : Nat) : Int) - 1))) (fun _ _ => by kernel_rfl) (fun _ => congrArg (Value.int .i64) (wrap_down (by have h1 := of_decide_eq_true hb2; omega) (by have := hk; omega)))
  · exact o_run 2 [] [] (fun _ _ => []) (fun _ _ => by kernel_rfl)
theorem rexpmod_w_r12 (a : Nat) (e : Nat) (m : Nat) (k : Nat) (p : Nat) (ρ1 : Nat → Orc) (ρ4 : Nat → Orc) (w0 : World) (F : World → Prop) : Reg Tryd.prog 10 (regOps Tryd.f84 10) false 34 [(3, (pt (nb ρ1 0))), (4, (pt (nb ρ1 1))), (5, (pt (nb ρ1 2))), (6, (pt (nb ρ1 3))), (7, (pt (nb ρ4 3))), (8, (.int .i64 (((k : Nat) : Int) - 1))), (19, (.bool false))] w0 [(nb ρ1 0, (.cells (cU a) 24 (0, 0))), (nb ρ1 1, (.cells (cU e) 24 (0, 0))), (nb ρ1 2, (.cells (cU m) 24 (0, 0))), (nb ρ1 3, (.cells (cU 0) 24 (0, 0))), (nb ρ4 3, (.cells (cU p) 24 (0, 0)))] F
    (fun _ => [(6, (pt (nb ρ1 3)))])
    (fun _ => [(nb ρ1 0, (.cells (cU a) 24 (0, 0))), (nb ρ1 1, (.cells (cU e) 24 (0, 0))), (nb ρ1 2, (.cells (cU m) 24 (0, 0))), (nb ρ1 3, (.cells (cU p) 24 (0, 0))), (nb ρ4 3, (.cells (cU p) 24 (0, 0)))]) := by
  refine reg_seq [0, 1] [6] 2
    (fun _ ι => ([(U p), undef] : List Value).getD ι undef)
    (fun _ ι => ([{}, { puts := [(3, (.cells (cU p) 24 (0, 0)))] }] : List Eff).getD ι {})
    (by kernel_rfl) (by kernel_rfl) (fun _ => by kernel_rfl) (fun _ => by kernel_rfl) ⟨⟨trivial, ?_⟩, ?_⟩
  · exact o_run 0 [4] [] (fun _ _ => [nb ρ4 3, nb ρ4 3, nb ρ4 3, nb ρ4 3]) (fun _ _ => by kernel_rfl)
  · exact o_run 1 [3] [] (fun _ _ => [nb ρ1 3, nb ρ1 3, nb ρ1 3, nb ρ1 3]) (fun _ _ => by kernel_rfl)
theorem rexpmod_w (a : Nat) (e : Nat) (m : Nat) (ha : a < M) (he : e < M) (hm : m < M) (w0 : World) : Calls Tryd.prog 84 #[(U a), (U e), (U m)] w0 (fun ε w' => ε = .returned (U (expmN a e m)) ∧ Below w0.heap.size w0 w') := by
  refine Calls.of_ok (n := 34) (F := (fun _ => True)) Tryd.func84 rfl rfl rfl (by simp) (persTrue (fun _ => trivial)) ?_
  refine ok_seq_r (by kernel_rfl) (rexpmod_w_r1 a e m _ _) (fun ρ1 => ?_)
  refine ok_seq ?_
  refine ok_seq_r (by kernel_rfl) (rexpmod_w_r2 a e m hm ρ1 _ _) (fun _ => ?_)
  refine ok_cond (b := decide (m = 0)) (by kernel_rfl) (fun hb1 => ?_) (fun hb1 => ?_)
  ·
    rw [hb1]
    refine ok_seq_r (by kernel_rfl) (rexpmod_w_r3 a e m ρ1 _ _) (fun _ => ?_)
    refine ok_ret ?_
    refine mt_then_r ?_
    exact meets_ret (v := (U m)) [3, 3, 3, 3] (dup [nb ρ1 3, nb ρ1 3, nb ρ1 3, nb ρ1 3]) (by kernel_rfl) (by kernel_rfl) (eqs_dup _) (fun _ hS => ⟨congrArg (fun x => Ending.returned (U x)) (expm_0' hb1), hS.below⟩)
  ·
    rw [hb1]
    refine ok_skip ?_
    refine mt_then ?_
    refine ok_seq_r (by kernel_rfl) (rexpmod_w_r4 a e m hm ρ1 _ _) (fun ρ4 => ?_)
    refine ok_seq ?_
    refine ok_seq_r (by kernel_rfl) (rexpmod_w_r5 a e m he ρ1 ρ4 _ _) (fun _ => ?_)
    refine ok_block ?_
    refine ok_loop (σ := Nat × Nat) (fun ⟨k, _⟩ => [(3, (pt (nb ρ1 0))), (4, (pt (nb ρ1 1))), (5, (pt (nb ρ1 2))), (6, (pt (nb ρ1 3))), (7, (pt (nb ρ4 3))), (8, (.int .i64 (((k : Nat) : Int) - 1)))]) (fun ⟨_, p⟩ => [(nb ρ1 0, (.cells (cU a) 24 (0, 0))), (nb ρ1 1, (.cells (cU e) 24 (0, 0))), (nb ρ1 2, (.cells (cU m) 24 (0, 0))), (nb ρ1 3, (.cells (cU 0) 24 (0, 0))), (nb ρ4 3, (.cells (cU p) 24 (0, 0)))]) (fun ⟨k, _⟩ => k)
      (fun ⟨k, p⟩ => (k ≤ 256) ∧ (p = a ^ (e / 2 ^ k) % m)) (lenN e, redN 1 m) (⟨lenN_le e he, exp_start hb1⟩) (by kernel_rfl) (.cons_cons _ (.cons_cons _ (.cons_cons _ (.cons_cons _ (.cons_cons _ .slnil))))) ?_
    rintro ⟨k, p⟩ ⟨hk, hp⟩
    change Ok Tryd.prog _ _ 34 [(3, (pt (nb ρ1 0))), (4, (pt (nb ρ1 1))), (5, (pt (nb ρ1 2))), (6, (pt (nb ρ1 3))), (7, (pt (nb ρ4 3))), (8, (.int .i64 (((k : Nat) : Int) - 1)))] _ [(nb ρ1 0, (.cells (cU a) 24 (0, 0))), (nb ρ1 1, (.cells (cU e) 24 (0, 0))), (nb ρ1 2, (.cells (cU m) 24 (0, 0))), (nb ρ1 3, (.cells (cU 0) 24 (0, 0))), (nb ρ4 3, (.cells (cU p) 24 (0, 0)))] (fun _ => True)
    have hpM : p < M := exp_lt hm hb1 hp
    refine ok_seq ?_
    refine ok_seq_r (by kernel_rfl) (rexpmod_w_r6 a e m k p ρ1 ρ4 _ _) (fun _ => ?_)
    refine ok_cond (b := decide (0 ≤ (((k : Nat) : Int) - 1))) (by kernel_rfl) (fun hb2 => ?_) (fun hb2 => ?_)
    ·
      rw [hb2]
      refine ok_skip ?_
      refine mt_then ?_
      refine ok_seq ?_
      refine ok_block ?_
      refine ok_seq_r (by kernel_rfl) (rexpmod_w_r7 a e m hm k p hpM ρ1 ρ4 _ _) (fun _ => ?_)
      refine ok_seq_r (by kernel_rfl) (rexpmod_w_r8 a e m k p hk hb2 ρ1 ρ4 _ _) (fun _ => ?_)
      refine ok_cond (b := bitN e (k - 1)) (by kernel_rfl) (fun hb3 => ?_) (fun hb3 => ?_)
      ·
        rw [hb3]
        refine ok_r (by kernel_rfl) (rexpmod_w_r9 a e m ha hm k p ρ1 ρ4 _ _) (fun _ => ?_)
        refine mt_block_n ?_
        refine mt_then ?_
        refine ok_r (by kernel_rfl) (rexpmod_w_r10 a e m k p hk hb2 ρ1 ρ4 _ _) (fun _ => ?_)
        exact mt_round (k - 1, mulmN (mulmN p p m) a m) (by show k - 1 < k; have h1 := of_decide_eq_true hb2; omega) (⟨by have := hk; omega, by rw [exp_step1 hp (redN_pos (a := 0) hb1).2.1, half_odd (by have h1 := of_decide_eq_true hb2; omega) hb3]⟩) (by kernel_rfl) (.cons_cons _ (.cons_cons _ (.cons_cons _ (.cons_cons _ (.cons_cons _ .slnil)))))
      ·
        rw [hb3]
        refine ok_skip ?_
        refine mt_block_n ?_
        refine mt_then ?_
        refine ok_r (by kernel_rfl) (rexpmod_w_r11 a e m k p hk hb2 ρ1 ρ4 _ _) (fun _ => ?_)
        exact mt_round (k - 1, mulmN p p m) (by show k - 1 < k; have h1 := of_decide_eq_true hb2; omega) (⟨by have := hk; omega, by rw [exp_step hp (redN_pos (a := 0) hb1).2.1, half_even (by have h1 := of_decide_eq_true hb2; omega) hb3]⟩) (by kernel_rfl) (.cons_cons _ (.cons_cons _ (.cons_cons _ (.cons_cons _ (.cons_cons _ .slnil)))))
    ·
      rw [hb2]
      refine ok_exit ?_
      refine mt_then_e ?_
      refine mt_then_e ?_
      refine mt_block_h ?_
      refine mt_then ?_
      refine ok_seq_r (by kernel_rfl) (rexpmod_w_r12 a e m k p ρ1 ρ4 _ _) (fun _ => ?_)
      refine ok_ret ?_
      exact meets_ret (v := (U p)) [3, 3, 3, 3] (dup [nb ρ1 3, nb ρ1 3, nb ρ1 3, nb ρ1 3]) (by kernel_rfl) (by kernel_rfl) (eqs_dup _) (fun _ hS => ⟨congrArg (fun x => Ending.returned (U x)) (exp_end (k := k) hb1 (by have h1 := of_decide_eq_false hb2; omega) hp), hS.below⟩)
theorem rexpmod_any (a e m : Nat) (w0 : World) (ha : a < M) (he : e < M) (hm : m < M) : Calls Tryd.prog 84 #[U a, U e, U m] w0 (fun ε w' => ε = .returned (U (expmN a e m)) ∧ Below w0.heap.size w0 w') := rexpmod_w a e m ha he hm w0
end Go.Proofs.YtoibhbmcplhiaaaDoor
