/-
  Sums, differences and products modulo a number: the walks.
-/
import Derived.Test.YtoibhbmcplhiaaaDoorWReduce
import Derived.Test.YtoibhbmcplhiaaaDoorWMul
import Derived.Test.YtoibhbmcplhiaaaDoorModNum
namespace Go.Proofs.YtoibhbmcplhiaaaDoor
open Go Go.RowKit
set_option maxRecDepth 100000
theorem addmod_w_r1 (a : Nat) (b : Nat) (m : Nat) (w0 : World) (F : World → Prop) : Reg Tryd.prog 0 (regOps Tryd.f78 0) false 37 [(0, (U a)), (1, (U b)), (2, (U m))] w0 [] F
    (fun ρ => [(3, (pt (nb ρ 0))), (4, (pt (nb ρ 1))), (5, (pt (nb ρ 2))), (6, (pt (nb ρ 3)))])
    (fun ρ => [(nb ρ 0, (.cells (cU a) 24 (0, 0))), (nb ρ 1, (.cells (cU b) 24 (0, 0))), (nb ρ 2, (.cells (cU m) 24 (0, 0))), (nb ρ 3, (.cells (cU 0) 24 (0, 0)))]) := by
  refine reg_seq [0, 1, 3, 7] [3, 4, 5, 6] 4
    (fun ρ ι => ([(pt (nb ρ 0)), (pt (nb ρ 1)), (pt (nb ρ 2)), (pt (nb ρ 3))] : List Value).getD ι undef)
    (fun ρ ι => ([{ news := [(nb ρ 0, (.cells (cU a) 24 (0, 0)))] }, { news := [(nb ρ 1, (.cells (cU b) 24 (0, 0)))] }, { news := [(nb ρ 2, (.cells (cU m) 24 (0, 0)))] }, { news := [(nb ρ 3, (.cells (cU 0) 24 (0, 0)))] }] : List Eff).getD ι {})
    (by kernel_rfl) (by kernel_rfl) (fun _ => by kernel_rfl) (fun _ => by kernel_rfl) ⟨⟨⟨⟨trivial, ?_⟩, ?_⟩, ?_⟩, ?_⟩
  · exact o_run 0 [] [] (fun _ _ => []) (fun _ _ => by kernel_rfl)
  · exact o_run 1 [] [] (fun _ _ => []) (fun _ _ => by kernel_rfl)
  · exact o_run 2 [] [] (fun _ _ => []) (fun _ _ => by kernel_rfl)
  · exact o_run 3 [] [] (fun _ _ => []) (fun _ _ => by kernel_rfl)
theorem addmod_w_r2 (a : Nat) (b : Nat) (m : Nat) (hm : m < M) (ρ1 : Nat → Orc) (w0 : World) (F : World → Prop) : Reg Tryd.prog 1 (regOps Tryd.f78 1) false 37 [(3, (pt (nb ρ1 0))), (4, (pt (nb ρ1 1))), (5, (pt (nb ρ1 2))), (6, (pt (nb ρ1 3)))] w0 [(nb ρ1 0, (.cells (cU a) 24 (0, 0))), (nb ρ1 1, (.cells (cU b) 24 (0, 0))), (nb ρ1 2, (.cells (cU m) 24 (0, 0))), (nb ρ1 3, (.cells (cU 0) 24 (0, 0)))] F
    (fun _ => [(3, (pt (nb ρ1 0))), (4, (pt (nb ρ1 1))), (5, (pt (nb ρ1 2))), (6, (pt (nb ρ1 3))), (11, (.bool (decide (m = 0))))])
    (fun _ => [(nb ρ1 0, (.cells (cU a) 24 (0, 0))), (nb ρ1 1, (.cells (cU b) 24 (0, 0))), (nb ρ1 2, (.cells (cU m) 24 (0, 0))), (nb ρ1 3, (.cells (cU 0) 24 (0, 0)))]) := by
  refine reg_seq [0, 1, 3] [3, 4, 5, 6, 11] 3
    (fun _ ι => ([(U m), (U 0), (.bool (decide (m = 0)))] : List Value).getD ι undef)
    (fun _ ι => ([{}, {}, {}] : List Eff).getD ι {})
    (by kernel_rfl) (by kernel_rfl) (fun _ => by kernel_rfl) (fun _ => by kernel_rfl) ⟨⟨⟨trivial, ?_⟩, ?_⟩, ?_⟩
  · exact o_run 0 [2] [] (fun _ _ => [nb ρ1 2, nb ρ1 2, nb ρ1 2, nb ρ1 2]) (fun _ _ => by kernel_rfl)
  · exact o_run 1 [] [] (fun _ _ => []) (fun _ _ => by kernel_rfl)
  · exact o_bin 2 .eql 24 (fun _ => (U m)) (fun _ => (U 0)) (fun _ => (.bool (decide (m = 0)))) (fun _ => by kernel_rfl) (fun _ _ _ _ => by kernel_rfl) (fun _ _ => eqlU m 0 hm (by decide +kernel) _)
theorem addmod_w_r3 (a : Nat) (b : Nat) (m : Nat) (ρ1 : Nat → Orc) (w0 : World) (F : World → Prop) : Reg Tryd.prog 2 (regOps Tryd.f78 2) false 37 [(3, (pt (nb ρ1 0))), (4, (pt (nb ρ1 1))), (5, (pt (nb ρ1 2))), (6, (pt (nb ρ1 3))), (11, (.bool true))] w0 [(nb ρ1 0, (.cells (cU a) 24 (0, 0))), (nb ρ1 1, (.cells (cU b) 24 (0, 0))), (nb ρ1 2, (.cells (cU m) 24 (0, 0))), (nb ρ1 3, (.cells (cU 0) 24 (0, 0)))] F
    (fun _ => [(3, (pt (nb ρ1 0))), (4, (pt (nb ρ1 1))), (5, (pt (nb ρ1 2))), (6, (pt (nb ρ1 3)))])
    (fun _ => [(nb ρ1 0, (.cells (cU a) 24 (0, 0))), (nb ρ1 1, (.cells (cU b) 24 (0, 0))), (nb ρ1 2, (.cells (cU m) 24 (0, 0))), (nb ρ1 3, (.cells (cU 0) 24 (0, 0)))]) := by
  refine reg_seq [0, 1] [3, 4, 5, 6] 2
    (fun _ ι => ([(U 0), undef] : List Value).getD ι undef)
    (fun _ ι => ([{}, { puts := [(3, (.cells (cU 0) 24 (0, 0)))] }] : List Eff).getD ι {})
    (by kernel_rfl) (by kernel_rfl) (fun _ => by kernel_rfl) (fun _ => by kernel_rfl) ⟨⟨trivial, ?_⟩, ?_⟩
  · exact o_run 0 [] [] (fun _ _ => []) (fun _ _ => by kernel_rfl)
  · exact o_run 1 [3] [] (fun _ _ => [nb ρ1 3, nb ρ1 3, nb ρ1 3, nb ρ1 3]) (fun _ _ => by kernel_rfl)
theorem addmod_w_r4 (a : Nat) (b : Nat) (m : Nat) (ha : a < M) (hb : b < M) (hm : m < M) (ρ1 : Nat → Orc) (w0 : World) (F : World → Prop) : Reg Tryd.prog 3 (regOps Tryd.f78 3) true 37 [(3, (pt (nb ρ1 0))), (4, (pt (nb ρ1 1))), (5, (pt (nb ρ1 2))), (6, (pt (nb ρ1 3))), (11, (.bool false))] w0 [(nb ρ1 0, (.cells (cU a) 24 (0, 0))), (nb ρ1 1, (.cells (cU b) 24 (0, 0))), (nb ρ1 2, (.cells (cU m) 24 (0, 0))), (nb ρ1 3, (.cells (cU 0) 24 (0, 0)))] F
    (fun ρ => [(5, (pt (nb ρ1 2))), (6, (pt (nb ρ1 3))), (7, (pt (nb ρ 10))), (8, (.bool (decide (M ≤ (redN a m) + (redN b m)))))])
    (fun ρ => [(nb ρ1 0, (.cells (cU a) 24 (0, 0))), (nb ρ1 1, (.cells (cU b) 24 (0, 0))), (nb ρ1 2, (.cells (cU m) 24 (0, 0))), (nb ρ1 3, (.cells (cU 0) 24 (0, 0))), (nb ρ 10, (.cells (cU (((redN a m) + (redN b m)) % M)) 24 (0, 0)))]) := by
  refine reg_drawn [0, 0, 3, 0, 0, 31, 63, 127, 255, 255, 0, 1535, 4095] [5, 6, 7, 8] 13
    (fun ρ ι => ([(U a), (U m), (U (redN a m)), (U b), (U m), (U (redN b m)), (.tuple #[(U (((redN a m) + (redN b m)) % M)), (.bool (decide (M ≤ (redN a m) + (redN b m))))]), (.tuple #[(U (((redN a m) + (redN b m)) % M)), (.bool (decide (M ≤ (redN a m) + (redN b m))))]), (U (((redN a m) + (redN b m)) % M)), (.bool (decide (M ≤ (redN a m) + (redN b m)))), (pt (nb ρ 10)), undef, (.bool (decide (M ≤ (redN a m) + (redN b m))))] : List Value).getD ι undef)
    (fun ρ ι => ([{}, {}, {}, {}, {}, {}, {}, {}, {}, {}, { news := [(nb ρ 10, (.cells (cU 0) 24 (0, 0)))] }, { puts := [(84, (.cells (cU (((redN a m) + (redN b m)) % M)) 24 (0, 0)))] }, {}] : List Eff).getD ι {})
    (by kernel_rfl) (by kernel_rfl) (by kernel_rfl) (fun _ => by kernel_rfl) (fun _ => by kernel_rfl) ⟨⟨⟨⟨⟨⟨⟨⟨⟨⟨⟨⟨⟨trivial, ?_⟩, ?_⟩, ?_⟩, ?_⟩, ?_⟩, ?_⟩, ?_⟩, ?_⟩, ?_⟩, ?_⟩, ?_⟩, ?_⟩, ?_⟩
  · exact o_run 0 [0] [] (fun _ _ => [nb ρ1 0, nb ρ1 0, nb ρ1 0, nb ρ1 0]) (fun _ _ => by kernel_rfl)
  · exact o_run 1 [2] [] (fun _ _ => [nb ρ1 2, nb ρ1 2, nb ρ1 2, nb ρ1 2]) (fun _ _ => by kernel_rfl)
  · exact o_call 2 94 (fun _ => #[(U a), (U m)]) (fun _ => (U (redN a m))) (fun _ _ => by kernel_rfl) (fun _ w => (fun w => reduce_any a m w ha hm) w)
  · exact o_run 3 [1] [] (fun _ _ => [nb ρ1 1, nb ρ1 1, nb ρ1 1, nb ρ1 1]) (fun _ _ => by kernel_rfl)
  · exact o_run 4 [2] [] (fun _ _ => [nb ρ1 2, nb ρ1 2, nb ρ1 2, nb ρ1 2]) (fun _ _ => by kernel_rfl)
  · exact o_call 5 94 (fun _ => #[(U b), (U m)]) (fun _ => (U (redN b m))) (fun _ _ => by kernel_rfl) (fun _ w => (fun w => reduce_any b m w hb hm) w)
  · exact o_call 6 93 (fun _ => #[(U (redN a m)), (U (redN b m))]) (fun _ => (.tuple #[(U (((redN a m) + (redN b m)) % M)), (.bool (decide (M ≤ (redN a m) + (redN b m))))])) (fun _ _ => by kernel_rfl) (fun _ w => (fun w => add_any (redN a m) (redN b m) w (redN_lt ha) (redN_lt hb)) w)
  · exact o_run 7 [] [] (fun _ _ => []) (fun _ _ => by kernel_rfl)
  · exact o_run 8 [] [] (fun _ _ => []) (fun _ _ => by kernel_rfl)
  · exact o_run 9 [] [] (fun _ _ => []) (fun _ _ => by kernel_rfl)
  · exact o_run 10 [] [] (fun _ _ => []) (fun _ _ => by kernel_rfl)
  · exact o_run 11 [84] [] (fun ρ _ => [nb ρ 10, nb ρ 10, nb ρ 10, nb ρ 10]) (fun _ _ => by kernel_rfl)
  · exact o_run 12 [] [] (fun _ _ => []) (fun _ _ => by kernel_rfl)
theorem addmod_w_r5 (a : Nat) (b : Nat) (m : Nat) (ρ1 : Nat → Orc) (ρ4 : Nat → Orc) (w0 : World) (F : World → Prop) : Reg Tryd.prog 4 (regOps Tryd.f78 4) false 37 [(5, (pt (nb ρ1 2))), (6, (pt (nb ρ1 3))), (7, (pt (nb ρ4 10))), (8, (.bool true))] w0 [(nb ρ1 0, (.cells (cU a) 24 (0, 0))), (nb ρ1 1, (.cells (cU b) 24 (0, 0))), (nb ρ1 2, (.cells (cU m) 24 (0, 0))), (nb ρ1 3, (.cells (cU 0) 24 (0, 0))), (nb ρ4 10, (.cells (cU (((redN a m) + (redN b m)) % M)) 24 (0, 0)))] F
    (fun _ => [(5, (pt (nb ρ1 2))), (6, (pt (nb ρ1 3))), (7, (pt (nb ρ4 10))), (29, (.bool true))])
    (fun _ => [(nb ρ1 0, (.cells (cU a) 24 (0, 0))), (nb ρ1 1, (.cells (cU b) 24 (0, 0))), (nb ρ1 2, (.cells (cU m) 24 (0, 0))), (nb ρ1 3, (.cells (cU 0) 24 (0, 0))), (nb ρ4 10, (.cells (cU (((redN a m) + (redN b m)) % M)) 24 (0, 0)))]) := by
  refine reg_seq [0, 1, 3, 7, 15, 31, 63] [5, 6, 7, 29] 7
    (fun _ ι => ([(.bool true), (.bool true), undef, undef, undef, undef, (.bool true)] : List Value).getD ι undef)
    (fun _ ι => ([{}, {}, {}, {}, {}, {}, {}] : List Eff).getD ι {})
    (by kernel_rfl) (by kernel_rfl) (fun _ => by kernel_rfl) (fun _ => by kernel_rfl) ⟨⟨⟨⟨⟨⟨⟨trivial, ?_⟩, ?_⟩, ?_⟩, ?_⟩, ?_⟩, ?_⟩, ?_⟩
  · exact o_run 0 [] [] (fun _ _ => []) (fun _ _ => by kernel_rfl)
  · exact o_run 1 [] [] (fun _ _ => []) (fun _ _ => by kernel_rfl)
  · exact o_skip 2 (fun _ => by kernel_rfl)
  · exact o_skip 3 (fun _ => by kernel_rfl)
  · exact o_skip 4 (fun _ => by kernel_rfl)
  · exact o_skip 5 (fun _ => by kernel_rfl)
  · exact o_run 6 [] [] (fun _ _ => []) (fun _ _ => by kernel_rfl)
theorem addmod_w_r6 (a : Nat) (b : Nat) (m : Nat) (hm : m < M) (ρ1 : Nat → Orc) (ρ4 : Nat → Orc) (w0 : World) (F : World → Prop) : Reg Tryd.prog 5 (regOps Tryd.f78 5) false 37 [(5, (pt (nb ρ1 2))), (6, (pt (nb ρ1 3))), (7, (pt (nb ρ4 10))), (29, (.bool true))] w0 [(nb ρ1 0, (.cells (cU a) 24 (0, 0))), (nb ρ1 1, (.cells (cU b) 24 (0, 0))), (nb ρ1 2, (.cells (cU m) 24 (0, 0))), (nb ρ1 3, (.cells (cU 0) 24 (0, 0))), (nb ρ4 10, (.cells (cU (((redN a m) + (redN b m)) % M)) 24 (0, 0)))] F
    (fun _ => [(6, (pt (nb ρ1 3))), (7, (pt (nb ρ4 10)))])
    (fun _ => [(nb ρ1 0, (.cells (cU a) 24 (0, 0))), (nb ρ1 1, (.cells (cU b) 24 (0, 0))), (nb ρ1 2, (.cells (cU m) 24 (0, 0))), (nb ρ1 3, (.cells (cU 0) 24 (0, 0))), (nb ρ4 10, (.cells (cU (((((redN a m) + (redN b m)) % M) + M - m) % M)) 24 (0, 0)))]) := by
  refine reg_seq [0, 1, 3, 7, 15, 31, 63] [6, 7] 7
    (fun _ ι => ([(U (((redN a m) + (redN b m)) % M)), (U m), (.tuple #[(U (((((redN a m) + (redN b m)) % M) + M - m) % M)), (.bool (decide ((((redN a m) + (redN b m)) % M) < m)))]), (.tuple #[(U (((((redN a m) + (redN b m)) % M) + M - m) % M)), (.bool (decide ((((redN a m) + (redN b m)) % M) < m)))]), (U (((((redN a m) + (redN b m)) % M) + M - m) % M)), (.bool (decide ((((redN a m) + (redN b m)) % M) < m))), undef] : List Value).getD ι undef)
    (fun _ ι => ([{}, {}, {}, {}, {}, {}, { puts := [(4, (.cells (cU (((((redN a m) + (redN b m)) % M) + M - m) % M)) 24 (0, 0)))] }] : List Eff).getD ι {})
    (by kernel_rfl) (by kernel_rfl) (fun _ => by kernel_rfl) (fun _ => by kernel_rfl) ⟨⟨⟨⟨⟨⟨⟨trivial, ?_⟩, ?_⟩, ?_⟩, ?_⟩, ?_⟩, ?_⟩, ?_⟩
  · exact o_run 0 [4] [] (fun _ _ => [nb ρ4 10, nb ρ4 10, nb ρ4 10, nb ρ4 10]) (fun _ _ => by kernel_rfl)
  · exact o_run 1 [2] [] (fun _ _ => [nb ρ1 2, nb ρ1 2, nb ρ1 2, nb ρ1 2]) (fun _ _ => by kernel_rfl)
  · exact o_call 2 55 (fun _ => #[(U (((redN a m) + (redN b m)) % M)), (U m)]) (fun _ => (.tuple #[(U (((((redN a m) + (redN b m)) % M) + M - m) % M)), (.bool (decide ((((redN a m) + (redN b m)) % M) < m)))])) (fun _ _ => by kernel_rfl) (fun _ w => (fun w => sub_any (((redN a m) + (redN b m)) % M) m w (modM_lt _) hm) w)
  · exact o_run 3 [] [] (fun _ _ => []) (fun _ _ => by kernel_rfl)
  · exact o_run 4 [] [] (fun _ _ => []) (fun _ _ => by kernel_rfl)
  · exact o_run 5 [] [] (fun _ _ => []) (fun _ _ => by kernel_rfl)
  · exact o_run 6 [4] [] (fun _ _ => [nb ρ4 10, nb ρ4 10, nb ρ4 10, nb ρ4 10]) (fun _ _ => by kernel_rfl)
theorem addmod_w_r7 (a : Nat) (b : Nat) (m : Nat) (ρ1 : Nat → Orc) (ρ4 : Nat → Orc) (w0 : World) (F : World → Prop) : Reg Tryd.prog 6 (regOps Tryd.f78 6) false 37 [(6, (pt (nb ρ1 3))), (7, (pt (nb ρ4 10)))] w0 [(nb ρ1 0, (.cells (cU a) 24 (0, 0))), (nb ρ1 1, (.cells (cU b) 24 (0, 0))), (nb ρ1 2, (.cells (cU m) 24 (0, 0))), (nb ρ1 3, (.cells (cU 0) 24 (0, 0))), (nb ρ4 10, (.cells (cU (((((redN a m) + (redN b m)) % M) + M - m) % M)) 24 (0, 0)))] F
    (fun _ => [(6, (pt (nb ρ1 3)))])
    (fun _ => [(nb ρ1 0, (.cells (cU a) 24 (0, 0))), (nb ρ1 1, (.cells (cU b) 24 (0, 0))), (nb ρ1 2, (.cells (cU m) 24 (0, 0))), (nb ρ1 3, (.cells (cU (((((redN a m) + (redN b m)) % M) + M - m) % M)) 24 (0, 0))), (nb ρ4 10, (.cells (cU (((((redN a m) + (redN b m)) % M) + M - m) % M)) 24 (0, 0)))]) := by
  refine reg_seq [0, 1] [6] 2
    (fun _ ι => ([(U (((((redN a m) + (redN b m)) % M) + M - m) % M)), undef] : List Value).getD ι undef)
    (fun _ ι => ([{}, { puts := [(3, (.cells (cU (((((redN a m) + (redN b m)) % M) + M - m) % M)) 24 (0, 0)))] }] : List Eff).getD ι {})
    (by kernel_rfl) (by kernel_rfl) (fun _ => by kernel_rfl) (fun _ => by kernel_rfl) ⟨⟨trivial, ?_⟩, ?_⟩
  · exact o_run 0 [4] [] (fun _ _ => [nb ρ4 10, nb ρ4 10, nb ρ4 10, nb ρ4 10]) (fun _ _ => by kernel_rfl)
  · exact o_run 1 [3] [] (fun _ _ => [nb ρ1 3, nb ρ1 3, nb ρ1 3, nb ρ1 3]) (fun _ _ => by kernel_rfl)
theorem addmod_w_r8 (a : Nat) (b : Nat) (m : Nat) (hm : m < M) (ρ1 : Nat → Orc) (ρ4 : Nat → Orc) (w0 : World) (F : World → Prop) : Reg Tryd.prog 4 (regOps Tryd.f78 4) false 37 [(5, (pt (nb ρ1 2))), (6, (pt (nb ρ1 3))), (7, (pt (nb ρ4 10))), (8, (.bool false))] w0 [(nb ρ1 0, (.cells (cU a) 24 (0, 0))), (nb ρ1 1, (.cells (cU b) 24 (0, 0))), (nb ρ1 2, (.cells (cU m) 24 (0, 0))), (nb ρ1 3, (.cells (cU 0) 24 (0, 0))), (nb ρ4 10, (.cells (cU (((redN a m) + (redN b m)) % M)) 24 (0, 0)))] F
    (fun _ => [(5, (pt (nb ρ1 2))), (6, (pt (nb ρ1 3))), (7, (pt (nb ρ4 10))), (29, (.bool (decide (0 ≤ (cmpN (((redN a m) + (redN b m)) % M) m)))))])
    (fun _ => [(nb ρ1 0, (.cells (cU a) 24 (0, 0))), (nb ρ1 1, (.cells (cU b) 24 (0, 0))), (nb ρ1 2, (.cells (cU m) 24 (0, 0))), (nb ρ1 3, (.cells (cU 0) 24 (0, 0))), (nb ρ4 10, (.cells (cU (((redN a m) + (redN b m)) % M)) 24 (0, 0)))]) := by
  refine reg_seq [0, 1, 3, 7, 15, 31, 63] [5, 6, 7, 29] 7
    (fun _ ι => ([(.bool false), (.bool false), (U (((redN a m) + (redN b m)) % M)), (U m), (.int .i64 (cmpN (((redN a m) + (redN b m)) % M) m)), (.bool (decide (0 ≤ (cmpN (((redN a m) + (redN b m)) % M) m)))), (.bool (decide (0 ≤ (cmpN (((redN a m) + (redN b m)) % M) m))))] : List Value).getD ι undef)
    (fun _ ι => ([{}, {}, {}, {}, {}, {}, {}] : List Eff).getD ι {})
    (by kernel_rfl) (by kernel_rfl) (fun _ => by kernel_rfl) (fun _ => by kernel_rfl) ⟨⟨⟨⟨⟨⟨⟨trivial, ?_⟩, ?_⟩, ?_⟩, ?_⟩, ?_⟩, ?_⟩, ?_⟩
  · exact o_run 0 [] [] (fun _ _ => []) (fun _ _ => by kernel_rfl)
  · exact o_run 1 [] [] (fun _ _ => []) (fun _ _ => by kernel_rfl)
  · exact o_run 2 [4] [] (fun _ _ => [nb ρ4 10, nb ρ4 10, nb ρ4 10, nb ρ4 10]) (fun _ _ => by kernel_rfl)
  · exact o_run 3 [2] [] (fun _ _ => [nb ρ1 2, nb ρ1 2, nb ρ1 2, nb ρ1 2]) (fun _ _ => by kernel_rfl)
  · exact o_call 4 69 (fun _ => #[(U (((redN a m) + (redN b m)) % M)), (U m)]) (fun _ => (.int .i64 (cmpN (((redN a m) + (redN b m)) % M) m))) (fun _ _ => by kernel_rfl) (fun _ w => (fun w => cmp_any (((redN a m) + (redN b m)) % M) m w (modM_lt _) hm) w)
  · exact o_run 5 [] [] (fun _ _ => []) (fun _ _ => by kernel_rfl)
  · exact o_run 6 [] [] (fun _ _ => []) (fun _ _ => by kernel_rfl)
theorem addmod_w_r9 (a : Nat) (b : Nat) (m : Nat) (hm : m < M) (ρ1 : Nat → Orc) (ρ4 : Nat → Orc) (w0 : World) (F : World → Prop) : Reg Tryd.prog 5 (regOps Tryd.f78 5) false 37 [(5, (pt (nb ρ1 2))), (6, (pt (nb ρ1 3))), (7, (pt (nb ρ4 10))), (29, (.bool true))] w0 [(nb ρ1 0, (.cells (cU a) 24 (0, 0))), (nb ρ1 1, (.cells (cU b) 24 (0, 0))), (nb ρ1 2, (.cells (cU m) 24 (0, 0))), (nb ρ1 3, (.cells (cU 0) 24 (0, 0))), (nb ρ4 10, (.cells (cU (((redN a m) + (redN b m)) % M)) 24 (0, 0)))] F
    (fun _ => [(6, (pt (nb ρ1 3))), (7, (pt (nb ρ4 10)))])
    (fun _ => [(nb ρ1 0, (.cells (cU a) 24 (0, 0))), (nb ρ1 1, (.cells (cU b) 24 (0, 0))), (nb ρ1 2, (.cells (cU m) 24 (0, 0))), (nb ρ1 3, (.cells (cU 0) 24 (0, 0))), (nb ρ4 10, (.cells (cU (((((redN a m) + (redN b m)) % M) + M - m) % M)) 24 (0, 0)))]) := by
  refine reg_seq [0, 1, 3, 7, 15, 31, 63] [6, 7] 7
    (fun _ ι => ([(U (((redN a m) + (redN b m)) % M)), (U m), (.tuple #[(U (((((redN a m) + (redN b m)) % M) + M - m) % M)), (.bool (decide ((((redN a m) + (redN b m)) % M) < m)))]), (.tuple #[(U (((((redN a m) + (redN b m)) % M) + M - m) % M)), (.bool (decide ((((redN a m) + (redN b m)) % M) < m)))]), (U (((((redN a m) + (redN b m)) % M) + M - m) % M)), (.bool (decide ((((redN a m) + (redN b m)) % M) < m))), undef] : List Value).getD ι undef)
    (fun _ ι => ([{}, {}, {}, {}, {}, {}, { puts := [(4, (.cells (cU (((((redN a m) + (redN b m)) % M) + M - m) % M)) 24 (0, 0)))] }] : List Eff).getD ι {})
    (by kernel_rfl) (by kernel_rfl) (fun _ => by kernel_rfl) (fun _ => by kernel_rfl) ⟨⟨⟨⟨⟨⟨⟨trivial, ?_⟩, ?_⟩, ?_⟩, ?_⟩, ?_⟩, ?_⟩, ?_⟩
  · exact o_run 0 [4] [] (fun _ _ => [nb ρ4 10, nb ρ4 10, nb ρ4 10, nb ρ4 10]) (fun _ _ => by kernel_rfl)
  · exact o_run 1 [2] [] (fun _ _ => [nb ρ1 2, nb ρ1 2, nb ρ1 2, nb ρ1 2]) (fun _ _ => by kernel_rfl)
  · exact o_call 2 55 (fun _ => #[(U (((redN a m) + (redN b m)) % M)), (U m)]) (fun _ => (.tuple #[(U (((((redN a m) + (redN b m)) % M) + M - m) % M)), (.bool (decide ((((redN a m) + (redN b m)) % M) < m)))])) (fun _ _ => by kernel_rfl) (fun _ w => (fun w => sub_any (((redN a m) + (redN b m)) % M) m w (modM_lt _) hm) w)
  · exact o_run 3 [] [] (fun _ _ => []) (fun _ _ => by kernel_rfl)
  · exact o_run 4 [] [] (fun _ _ => []) (fun _ _ => by kernel_rfl)
  · exact o_run 5 [] [] (fun _ _ => []) (fun _ _ => by kernel_rfl)
  · exact o_run 6 [4] [] (fun _ _ => [nb ρ4 10, nb ρ4 10, nb ρ4 10, nb ρ4 10]) (fun _ _ => by kernel_rfl)
theorem addmod_w_r10 (a : Nat) (b : Nat) (m : Nat) (ρ1 : Nat → Orc) (ρ4 : Nat → Orc) (w0 : World) (F : World → Prop) : Reg Tryd.prog 6 (regOps Tryd.f78 6) false 37 [(6, (pt (nb ρ1 3))), (7, (pt (nb ρ4 10)))] w0 [(nb ρ1 0, (.cells (cU a) 24 (0, 0))), (nb ρ1 1, (.cells (cU b) 24 (0, 0))), (nb ρ1 2, (.cells (cU m) 24 (0, 0))), (nb ρ1 3, (.cells (cU 0) 24 (0, 0))), (nb ρ4 10, (.cells (cU (((((redN a m) + (redN b m)) % M) + M - m) % M)) 24 (0, 0)))] F
    (fun _ => [(6, (pt (nb ρ1 3)))])
    (fun _ => [(nb ρ1 0, (.cells (cU a) 24 (0, 0))), (nb ρ1 1, (.cells (cU b) 24 (0, 0))), (nb ρ1 2, (.cells (cU m) 24 (0, 0))), (nb ρ1 3, (.cells (cU (((((redN a m) + (redN b m)) % M) + M - m) % M)) 24 (0, 0))), (nb ρ4 10, (.cells (cU (((((redN a m) + (redN b m)) % M) + M - m) % M)) 24 (0, 0)))]) := by
  refine reg_seq [0, 1] [6] 2
    (fun _ ι => ([(U (((((redN a m) + (redN b m)) % M) + M - m) % M)), undef] : List Value).getD ι undef)
    (fun _ ι => ([{}, { puts := [(3, (.cells (cU (((((redN a m) + (redN b m)) % M) + M - m) % M)) 24 (0, 0)))] }] : List Eff).getD ι {})
    (by kernel_rfl) (by kernel_rfl) (fun _ => by kernel_rfl) (fun _ => by kernel_rfl) ⟨⟨trivial, ?_⟩, ?_⟩
  · exact o_run 0 [4] [] (fun _ _ => [nb ρ4 10, nb ρ4 10, nb ρ4 10, nb ρ4 10]) (fun _ _ => by kernel_rfl)
  · exact o_run 1 [3] [] (fun _ _ => [nb ρ1 3, nb ρ1 3, nb ρ1 3, nb ρ1 3]) (fun _ _ => by kernel_rfl)
theorem addmod_w_r11 (a : Nat) (b : Nat) (m : Nat) (ρ1 : Nat → Orc) (ρ4 : Nat → Orc) (w0 : World) (F : World → Prop) : Reg Tryd.prog 6 (regOps Tryd.f78 6) false 37 [(5, (pt (nb ρ1 2))), (6, (pt (nb ρ1 3))), (7, (pt (nb ρ4 10))), (29, (.bool false))] w0 [(nb ρ1 0, (.cells (cU a) 24 (0, 0))), (nb ρ1 1, (.cells (cU b) 24 (0, 0))), (nb ρ1 2, (.cells (cU m) 24 (0, 0))), (nb ρ1 3, (.cells (cU 0) 24 (0, 0))), (nb ρ4 10, (.cells (cU (((redN a m) + (redN b m)) % M)) 24 (0, 0)))] F
    (fun _ => [(6, (pt (nb ρ1 3)))])
    (fun _ => [(nb ρ1 0, (.cells (cU a) 24 (0, 0))), (nb ρ1 1, (.cells (cU b) 24 (0, 0))), (nb ρ1 2, (.cells (cU m) 24 (0, 0))), (nb ρ1 3, (.cells (cU (((redN a m) + (redN b m)) % M)) 24 (0, 0))), (nb ρ4 10, (.cells (cU (((redN a m) + (redN b m)) % M)) 24 (0, 0)))]) := by
  refine reg_seq [0, 1] [6] 2
    (fun _ ι => ([(U (((redN a m) + (redN b m)) % M)), undef] : List Value).getD ι undef)
    (fun _ ι => ([{}, { puts := [(3, (.cells (cU (((redN a m) + (redN b m)) % M)) 24 (0, 0)))] }] : List Eff).getD ι {})
    (by kernel_rfl) (by kernel_rfl) (fun _ => by kernel_rfl) (fun _ => by kernel_rfl) ⟨⟨trivial, ?_⟩, ?_⟩
  · exact o_run 0 [4] [] (fun _ _ => [nb ρ4 10, nb ρ4 10, nb ρ4 10, nb ρ4 10]) (fun _ _ => by kernel_rfl)
  · exact o_run 1 [3] [] (fun _ _ => [nb ρ1 3, nb ρ1 3, nb ρ1 3, nb ρ1 3]) (fun _ _ => by kernel_rfl)
theorem addmod_w (a : Nat) (b : Nat) (m : Nat) (ha : a < M) (hb : b < M) (hm : m < M) (w0 : World) : Calls Tryd.prog 78 #[(U a), (U b), (U m)] w0 (fun ε w' => ε = .returned (U (addmN a b m)) ∧ Below w0.heap.size w0 w') := by
  refine Calls.of_ok (n := 37) (F := (fun _ => True)) Tryd.func78 rfl rfl rfl (by simp) (persTrue (fun _ => trivial)) ?_
  refine ok_seq_r (by kernel_rfl) (addmod_w_r1 a b m _ _) (fun ρ1 => ?_)
  refine ok_seq ?_
  refine ok_seq_r (by kernel_rfl) (addmod_w_r2 a b m hm ρ1 _ _) (fun _ => ?_)
  refine ok_cond (b := decide (m = 0)) (by kernel_rfl) (fun hb1 => ?_) (fun hb1 => ?_)
  ·
    rw [hb1]
    refine ok_seq_r (by kernel_rfl) (addmod_w_r3 a b m ρ1 _ _) (fun _ => ?_)
    refine ok_ret ?_
    refine mt_then_r ?_
    exact meets_ret (v := (U 0)) [3, 3, 3, 3] (dup [nb ρ1 3, nb ρ1 3, nb ρ1 3, nb ρ1 3]) (by kernel_rfl) (by kernel_rfl) (eqs_dup _) (fun _ hS => ⟨congrArg (fun x => Ending.returned (U x)) (addm_0 hb1), hS.below⟩)
  ·
    rw [hb1]
    refine ok_skip ?_
    refine mt_then ?_
    refine ok_seq_r (by kernel_rfl) (addmod_w_r4 a b m ha hb hm ρ1 _ _) (fun ρ4 => ?_)
    refine ok_seq ?_
    rcases Bool.eq_false_or_eq_true (decide (M ≤ (redN a m) + (redN b m))) with hb2 | hb2
    ·
      rw [hb2]
      refine ok_seq_r (by kernel_rfl) (addmod_w_r5 a b m ρ1 ρ4 _ _) (fun _ => ?_)
      refine ok_yes (by kernel_rfl) ?_
      refine ok_r (by kernel_rfl) (addmod_w_r6 a b m hm ρ1 ρ4 _ _) (fun _ => ?_)
      refine mt_then ?_
      refine ok_seq_r (by kernel_rfl) (addmod_w_r7 a b m ρ1 ρ4 _ _) (fun _ => ?_)
      refine ok_ret ?_
      exact meets_ret (v := (U (((((redN a m) + (redN b m)) % M) + M - m) % M))) [3, 3, 3, 3] (dup [nb ρ1 3, nb ρ1 3, nb ρ1 3, nb ρ1 3]) (by kernel_rfl) (by kernel_rfl) (eqs_dup _) (fun _ hS => ⟨congrArg (fun x => Ending.returned (U x)) (addm_2 hm hb1 hb2), hS.below⟩)
    ·
      rw [hb2]
      refine ok_seq_r (by kernel_rfl) (addmod_w_r8 a b m hm ρ1 ρ4 _ _) (fun _ => ?_)
      refine ok_cond (b := decide (0 ≤ (cmpN (((redN a m) + (redN b m)) % M) m))) (by kernel_rfl) (fun hb3 => ?_) (fun hb3 => ?_)
      ·
        rw [hb3]
        refine ok_r (by kernel_rfl) (addmod_w_r9 a b m hm ρ1 ρ4 _ _) (fun _ => ?_)
        refine mt_then ?_
        refine ok_seq_r (by kernel_rfl) (addmod_w_r10 a b m ρ1 ρ4 _ _) (fun _ => ?_)
        refine ok_ret ?_
        exact meets_ret (v := (U (((((redN a m) + (redN b m)) % M) + M - m) % M))) [3, 3, 3, 3] (dup [nb ρ1 3, nb ρ1 3, nb ρ1 3, nb ρ1 3]) (by kernel_rfl) (by kernel_rfl) (eqs_dup _) (fun _ hS => ⟨congrArg (fun x => Ending.returned (U x)) (addm_3t hm hb1 hb2 hb3), hS.below⟩)
      ·
        rw [hb3]
        refine ok_skip ?_
        refine mt_then ?_
        refine ok_seq_r (by kernel_rfl) (addmod_w_r11 a b m ρ1 ρ4 _ _) (fun _ => ?_)
        refine ok_ret ?_
        exact meets_ret (v := (U (((redN a m) + (redN b m)) % M))) [3, 3, 3, 3] (dup [nb ρ1 3, nb ρ1 3, nb ρ1 3, nb ρ1 3]) (by kernel_rfl) (by kernel_rfl) (eqs_dup _) (fun _ hS => ⟨congrArg (fun x => Ending.returned (U x)) (addm_3f hm hb1 hb2 hb3), hS.below⟩)
theorem addmod_any (a b m : Nat) (w0 : World) (ha : a < M) (hb : b < M) (hm : m < M) : Calls Tryd.prog 78 #[U a, U b, U m] w0 (fun ε w' => ε = .returned (U (addmN a b m)) ∧ Below w0.heap.size w0 w') := addmod_w a b m ha hb hm w0
theorem mulmod_w_r1 (a : Nat) (b : Nat) (m : Nat) (w0 : World) (F : World → Prop) : Reg Tryd.prog 0 (regOps Tryd.f79 0) false 33 [(0, (U a)), (1, (U b)), (2, (U m))] w0 [] F
    (fun ρ => [(3, (pt (nb ρ 0))), (4, (pt (nb ρ 1))), (5, (pt (nb ρ 2))), (6, (pt (nb ρ 3)))])
    (fun ρ => [(nb ρ 0, (.cells (cU a) 24 (0, 0))), (nb ρ 1, (.cells (cU b) 24 (0, 0))), (nb ρ 2, (.cells (cU m) 24 (0, 0))), (nb ρ 3, (.cells (cU 0) 24 (0, 0)))]) := by
  refine reg_seq [0, 1, 3, 7] [3, 4, 5, 6] 4
    (fun ρ ι => ([(pt (nb ρ 0)), (pt (nb ρ 1)), (pt (nb ρ 2)), (pt (nb ρ 3))] : List Value).getD ι undef)
    (fun ρ ι => ([{ news := [(nb ρ 0, (.cells (cU a) 24 (0, 0)))] }, { news := [(nb ρ 1, (.cells (cU b) 24 (0, 0)))] }, { news := [(nb ρ 2, (.cells (cU m) 24 (0, 0)))] }, { news := [(nb ρ 3, (.cells (cU 0) 24 (0, 0)))] }] : List Eff).getD ι {})
    (by kernel_rfl) (by kernel_rfl) (fun _ => by kernel_rfl) (fun _ => by kernel_rfl) ⟨⟨⟨⟨trivial, ?_⟩, ?_⟩, ?_⟩, ?_⟩
  · exact o_run 0 [] [] (fun _ _ => []) (fun _ _ => by kernel_rfl)
  · exact o_run 1 [] [] (fun _ _ => []) (fun _ _ => by kernel_rfl)
  · exact o_run 2 [] [] (fun _ _ => []) (fun _ _ => by kernel_rfl)
  · exact o_run 3 [] [] (fun _ _ => []) (fun _ _ => by kernel_rfl)
theorem mulmod_w_r2 (a : Nat) (b : Nat) (m : Nat) (hm : m < M) (ρ1 : Nat → Orc) (w0 : World) (F : World → Prop) : Reg Tryd.prog 1 (regOps Tryd.f79 1) false 33 [(3, (pt (nb ρ1 0))), (4, (pt (nb ρ1 1))), (5, (pt (nb ρ1 2))), (6, (pt (nb ρ1 3)))] w0 [(nb ρ1 0, (.cells (cU a) 24 (0, 0))), (nb ρ1 1, (.cells (cU b) 24 (0, 0))), (nb ρ1 2, (.cells (cU m) 24 (0, 0))), (nb ρ1 3, (.cells (cU 0) 24 (0, 0)))] F
    (fun _ => [(3, (pt (nb ρ1 0))), (4, (pt (nb ρ1 1))), (5, (pt (nb ρ1 2))), (6, (pt (nb ρ1 3))), (14, (.bool (decide (m = 0))))])
    (fun _ => [(nb ρ1 0, (.cells (cU a) 24 (0, 0))), (nb ρ1 1, (.cells (cU b) 24 (0, 0))), (nb ρ1 2, (.cells (cU m) 24 (0, 0))), (nb ρ1 3, (.cells (cU 0) 24 (0, 0)))]) := by
  refine reg_seq [0, 1, 3] [3, 4, 5, 6, 14] 3
    (fun _ ι => ([(U m), (U 0), (.bool (decide (m = 0)))] : List Value).getD ι undef)
    (fun _ ι => ([{}, {}, {}] : List Eff).getD ι {})
    (by kernel_rfl) (by kernel_rfl) (fun _ => by kernel_rfl) (fun _ => by kernel_rfl) ⟨⟨⟨trivial, ?_⟩, ?_⟩, ?_⟩
  · exact o_run 0 [2] [] (fun _ _ => [nb ρ1 2, nb ρ1 2, nb ρ1 2, nb ρ1 2]) (fun _ _ => by kernel_rfl)
  · exact o_run 1 [] [] (fun _ _ => []) (fun _ _ => by kernel_rfl)
  · exact o_bin 2 .eql 24 (fun _ => (U m)) (fun _ => (U 0)) (fun _ => (.bool (decide (m = 0)))) (fun _ => by kernel_rfl) (fun _ _ _ _ => by kernel_rfl) (fun _ _ => eqlU m 0 hm (by decide +kernel) _)
theorem mulmod_w_r3 (a : Nat) (b : Nat) (m : Nat) (ρ1 : Nat → Orc) (w0 : World) (F : World → Prop) : Reg Tryd.prog 2 (regOps Tryd.f79 2) false 33 [(3, (pt (nb ρ1 0))), (4, (pt (nb ρ1 1))), (5, (pt (nb ρ1 2))), (6, (pt (nb ρ1 3))), (14, (.bool true))] w0 [(nb ρ1 0, (.cells (cU a) 24 (0, 0))), (nb ρ1 1, (.cells (cU b) 24 (0, 0))), (nb ρ1 2, (.cells (cU m) 24 (0, 0))), (nb ρ1 3, (.cells (cU 0) 24 (0, 0)))] F
    (fun _ => [(3, (pt (nb ρ1 0))), (4, (pt (nb ρ1 1))), (5, (pt (nb ρ1 2))), (6, (pt (nb ρ1 3)))])
    (fun _ => [(nb ρ1 0, (.cells (cU a) 24 (0, 0))), (nb ρ1 1, (.cells (cU b) 24 (0, 0))), (nb ρ1 2, (.cells (cU m) 24 (0, 0))), (nb ρ1 3, (.cells (cU 0) 24 (0, 0)))]) := by
  refine reg_seq [0, 1] [3, 4, 5, 6] 2
    (fun _ ι => ([(U 0), undef] : List Value).getD ι undef)
    (fun _ ι => ([{}, { puts := [(3, (.cells (cU 0) 24 (0, 0)))] }] : List Eff).getD ι {})
    (by kernel_rfl) (by kernel_rfl) (fun _ => by kernel_rfl) (fun _ => by kernel_rfl) ⟨⟨trivial, ?_⟩, ?_⟩
  · exact o_run 0 [] [] (fun _ _ => []) (fun _ _ => by kernel_rfl)
  · exact o_run 1 [3] [] (fun _ _ => [nb ρ1 3, nb ρ1 3, nb ρ1 3, nb ρ1 3]) (fun _ _ => by kernel_rfl)
theorem mulmod_w_r4 (a : Nat) (b : Nat) (m : Nat) (ha : a < M) (hb : b < M) (ρ1 : Nat → Orc) (w0 : World) (F : World → Prop) : Reg Tryd.prog 3 (regOps Tryd.f79 3) false 33 [(3, (pt (nb ρ1 0))), (4, (pt (nb ρ1 1))), (5, (pt (nb ρ1 2))), (6, (pt (nb ρ1 3))), (14, (.bool false))] w0 [(nb ρ1 0, (.cells (cU a) 24 (0, 0))), (nb ρ1 1, (.cells (cU b) 24 (0, 0))), (nb ρ1 2, (.cells (cU m) 24 (0, 0))), (nb ρ1 3, (.cells (cU 0) 24 (0, 0)))] F
    (fun ρ => [(5, (pt (nb ρ1 2))), (6, (pt (nb ρ1 3))), (7, (pt (nb ρ 6))), (8, (pt (nb ρ 7)))])
    (fun ρ => [(nb ρ1 0, (.cells (cU a) 24 (0, 0))), (nb ρ1 1, (.cells (cU b) 24 (0, 0))), (nb ρ1 2, (.cells (cU m) 24 (0, 0))), (nb ρ1 3, (.cells (cU 0) 24 (0, 0))), (nb ρ 6, (.cells (cU ((a * b) / M)) 24 (0, 0))), (nb ρ 7, (.cells (cU ((a * b) % M)) 24 (0, 0)))]) := by
  refine reg_seq [0, 1, 3, 7, 15, 31, 63, 127, 255, 511] [5, 6, 7, 8] 10
    (fun ρ ι => ([(U a), (U b), (.tuple #[(U ((a * b) / M)), (U ((a * b) % M))]), (.tuple #[(U ((a * b) / M)), (U ((a * b) % M))]), (U ((a * b) / M)), (U ((a * b) % M)), (pt (nb ρ 6)), (pt (nb ρ 7)), undef, undef] : List Value).getD ι undef)
    (fun ρ ι => ([{}, {}, {}, {}, {}, {}, { news := [(nb ρ 6, (.cells (cU 0) 24 (0, 0)))] }, { news := [(nb ρ 7, (.cells (cU 0) 24 (0, 0)))] }, { puts := [(52, (.cells (cU ((a * b) / M)) 24 (0, 0)))] }, { puts := [(60, (.cells (cU ((a * b) % M)) 24 (0, 0)))] }] : List Eff).getD ι {})
    (by kernel_rfl) (by kernel_rfl) (fun _ => by kernel_rfl) (fun _ => by kernel_rfl) ⟨⟨⟨⟨⟨⟨⟨⟨⟨⟨trivial, ?_⟩, ?_⟩, ?_⟩, ?_⟩, ?_⟩, ?_⟩, ?_⟩, ?_⟩, ?_⟩, ?_⟩
  · exact o_run 0 [0] [] (fun _ _ => [nb ρ1 0, nb ρ1 0, nb ρ1 0, nb ρ1 0]) (fun _ _ => by kernel_rfl)
  · exact o_run 1 [1] [] (fun _ _ => [nb ρ1 1, nb ρ1 1, nb ρ1 1, nb ρ1 1]) (fun _ _ => by kernel_rfl)
  · exact o_call 2 95 (fun _ => #[(U a), (U b)]) (fun _ => (.tuple #[(U ((a * b) / M)), (U ((a * b) % M))])) (fun _ _ => by kernel_rfl) (fun _ w => (fun w => mul_any a b w ha hb) w)
  · exact o_run 3 [] [] (fun _ _ => []) (fun _ _ => by kernel_rfl)
  · exact o_run 4 [] [] (fun _ _ => []) (fun _ _ => by kernel_rfl)
  · exact o_run 5 [] [] (fun _ _ => []) (fun _ _ => by kernel_rfl)
  · exact o_run 6 [] [] (fun _ _ => []) (fun _ _ => by kernel_rfl)
  · exact o_run 7 [] [] (fun _ _ => []) (fun _ _ => by kernel_rfl)
  · exact o_run 8 [52] [] (fun ρ _ => [nb ρ 6, nb ρ 6, nb ρ 6, nb ρ 6]) (fun _ _ => by kernel_rfl)
  · exact o_run 9 [60] [] (fun ρ _ => [nb ρ 7, nb ρ 7, nb ρ 7, nb ρ 7]) (fun _ _ => by kernel_rfl)
theorem mulmod_w_r5 (a : Nat) (b : Nat) (m : Nat) (ha : a < M) (hb : b < M) (hm : m < M) (ρ1 : Nat → Orc) (ρ4 : Nat → Orc) (w0 : World) (F : World → Prop) : Reg Tryd.prog 4 (regOps Tryd.f79 4) true 33 [(5, (pt (nb ρ1 2))), (6, (pt (nb ρ1 3))), (7, (pt (nb ρ4 6))), (8, (pt (nb ρ4 7)))] w0 [(nb ρ1 0, (.cells (cU a) 24 (0, 0))), (nb ρ1 1, (.cells (cU b) 24 (0, 0))), (nb ρ1 2, (.cells (cU m) 24 (0, 0))), (nb ρ1 3, (.cells (cU 0) 24 (0, 0))), (nb ρ4 6, (.cells (cU ((a * b) / M)) 24 (0, 0))), (nb ρ4 7, (.cells (cU ((a * b) % M)) 24 (0, 0)))] F
    (fun ρ => [(6, (pt (nb ρ1 3))), (10, (pt (nb ρ 11)))])
    (fun ρ => [(nb ρ1 0, (.cells (cU a) 24 (0, 0))), (nb ρ1 1, (.cells (cU b) 24 (0, 0))), (nb ρ1 2, (.cells (cU m) 24 (0, 0))), (nb ρ1 3, (.cells (cU 0) 24 (0, 0))), (nb ρ4 6, (.cells (cU ((a * b) / M)) 24 (0, 0))), (nb ρ4 7, (.cells (cU ((a * b) % M)) 24 (0, 0))), (nb ρ 10, (.cells (cU (divQ (redN ((a * b) / M) m) ((a * b) % M) m)) 24 (0, 0))), (nb ρ 11, (.cells (cU (divR (redN ((a * b) / M) m) ((a * b) % M) m)) 24 (0, 0)))]) := by
  refine reg_drawn [0, 0, 3, 0, 0, 31, 63, 127, 127, 127, 0, 0, 3327, 7679, 16383] [6, 10] 15
    (fun ρ ι => ([(U ((a * b) / M)), (U m), (U (redN ((a * b) / M) m)), (U ((a * b) % M)), (U m), (.tuple #[(U (divQ (redN ((a * b) / M) m) ((a * b) % M) m)), (U (divR (redN ((a * b) / M) m) ((a * b) % M) m)), (.bool (decide ((redN ((a * b) / M) m) < m)))]), (.tuple #[(U (divQ (redN ((a * b) / M) m) ((a * b) % M) m)), (U (divR (redN ((a * b) / M) m) ((a * b) % M) m)), (.bool (decide ((redN ((a * b) / M) m) < m)))]), (U (divQ (redN ((a * b) / M) m) ((a * b) % M) m)), (U (divR (redN ((a * b) / M) m) ((a * b) % M) m)), (.bool (decide ((redN ((a * b) / M) m) < m))), (pt (nb ρ 10)), (pt (nb ρ 11)), undef, undef, (.bool (decide ((redN ((a * b) / M) m) < m)))] : List Value).getD ι undef)
    (fun ρ ι => ([{}, {}, {}, {}, {}, {}, {}, {}, {}, {}, { news := [(nb ρ 10, (.cells (cU 0) 24 (0, 0)))] }, { news := [(nb ρ 11, (.cells (cU 0) 24 (0, 0)))] }, { puts := [(86, (.cells (cU (divQ (redN ((a * b) / M) m) ((a * b) % M) m)) 24 (0, 0)))] }, { puts := [(94, (.cells (cU (divR (redN ((a * b) / M) m) ((a * b) % M) m)) 24 (0, 0)))] }, {}] : List Eff).getD ι {})
    (by kernel_rfl) (by kernel_rfl) (by kernel_rfl) (fun _ => by kernel_rfl) (fun _ => by kernel_rfl) ⟨⟨⟨⟨⟨⟨⟨⟨⟨⟨⟨⟨⟨⟨⟨trivial, ?_⟩, ?_⟩, ?_⟩, ?_⟩, ?_⟩, ?_⟩, ?_⟩, ?_⟩, ?_⟩, ?_⟩, ?_⟩, ?_⟩, ?_⟩, ?_⟩, ?_⟩
  · exact o_run 0 [4] [] (fun _ _ => [nb ρ4 6, nb ρ4 6, nb ρ4 6, nb ρ4 6]) (fun _ _ => by kernel_rfl)
  · exact o_run 1 [2] [] (fun _ _ => [nb ρ1 2, nb ρ1 2, nb ρ1 2, nb ρ1 2]) (fun _ _ => by kernel_rfl)
  · exact o_call 2 94 (fun _ => #[(U ((a * b) / M)), (U m)]) (fun _ => (U (redN ((a * b) / M) m))) (fun _ _ => by kernel_rfl) (fun _ w => (fun w => reduce_any ((a * b) / M) m w (mulhi_lt ha hb) hm) w)
  · exact o_run 3 [5] [] (fun _ _ => [nb ρ4 7, nb ρ4 7, nb ρ4 7, nb ρ4 7]) (fun _ _ => by kernel_rfl)
  · exact o_run 4 [2] [] (fun _ _ => [nb ρ1 2, nb ρ1 2, nb ρ1 2, nb ρ1 2]) (fun _ _ => by kernel_rfl)
  · exact o_call 5 96 (fun _ => #[(U (redN ((a * b) / M) m)), (U ((a * b) % M)), (U m)]) (fun _ => (.tuple #[(U (divQ (redN ((a * b) / M) m) ((a * b) % M) m)), (U (divR (redN ((a * b) / M) m) ((a * b) % M) m)), (.bool (decide ((redN ((a * b) / M) m) < m)))])) (fun _ _ => by kernel_rfl) (fun _ w => (fun w => div_any (redN ((a * b) / M) m) ((a * b) % M) m w (redN_lt (mulhi_lt ha hb)) (modM_lt _) hm) w)
  · exact o_run 6 [] [] (fun _ _ => []) (fun _ _ => by kernel_rfl)
  · exact o_run 7 [] [] (fun _ _ => []) (fun _ _ => by kernel_rfl)
  · exact o_run 8 [] [] (fun _ _ => []) (fun _ _ => by kernel_rfl)
  · exact o_run 9 [] [] (fun _ _ => []) (fun _ _ => by kernel_rfl)
  · exact o_run 10 [] [] (fun _ _ => []) (fun _ _ => by kernel_rfl)
  · exact o_run 11 [] [] (fun _ _ => []) (fun _ _ => by kernel_rfl)
  · exact o_run 12 [86] [] (fun ρ _ => [nb ρ 10, nb ρ 10, nb ρ 10, nb ρ 10]) (fun _ _ => by kernel_rfl)
  · exact o_run 13 [94] [] (fun ρ _ => [nb ρ 11, nb ρ 11, nb ρ 11, nb ρ 11]) (fun _ _ => by kernel_rfl)
  · exact o_run 14 [] [] (fun _ _ => []) (fun _ _ => by kernel_rfl)
theorem mulmod_w_r6 (a : Nat) (b : Nat) (m : Nat) (ρ1 : Nat → Orc) (ρ4 : Nat → Orc) (ρ5 : Nat → Orc) (w0 : World) (F : World → Prop) : Reg Tryd.prog 5 (regOps Tryd.f79 5) false 33 [(6, (pt (nb ρ1 3))), (10, (pt (nb ρ5 11)))] w0 [(nb ρ1 0, (.cells (cU a) 24 (0, 0))), (nb ρ1 1, (.cells (cU b) 24 (0, 0))), (nb ρ1 2, (.cells (cU m) 24 (0, 0))), (nb ρ1 3, (.cells (cU 0) 24 (0, 0))), (nb ρ4 6, (.cells (cU ((a * b) / M)) 24 (0, 0))), (nb ρ4 7, (.cells (cU ((a * b) % M)) 24 (0, 0))), (nb ρ5 10, (.cells (cU (divQ (redN ((a * b) / M) m) ((a * b) % M) m)) 24 (0, 0))), (nb ρ5 11, (.cells (cU (divR (redN ((a * b) / M) m) ((a * b) % M) m)) 24 (0, 0)))] F
    (fun _ => [(6, (pt (nb ρ1 3)))])
    (fun _ => [(nb ρ1 0, (.cells (cU a) 24 (0, 0))), (nb ρ1 1, (.cells (cU b) 24 (0, 0))), (nb ρ1 2, (.cells (cU m) 24 (0, 0))), (nb ρ1 3, (.cells (cU (divR (redN ((a * b) / M) m) ((a * b) % M) m)) 24 (0, 0))), (nb ρ4 6, (.cells (cU ((a * b) / M)) 24 (0, 0))), (nb ρ4 7, (.cells (cU ((a * b) % M)) 24 (0, 0))), (nb ρ5 10, (.cells (cU (divQ (redN ((a * b) / M) m) ((a * b) % M) m)) 24 (0, 0))), (nb ρ5 11, (.cells (cU (divR (redN ((a * b) / M) m) ((a * b) % M) m)) 24 (0, 0)))]) := by
  refine reg_seq [0, 1] [6] 2
    (fun _ ι => ([(U (divR (redN ((a * b) / M) m) ((a * b) % M) m)), undef] : List Value).getD ι undef)
    (fun _ ι => ([{}, { puts := [(3, (.cells (cU (divR (redN ((a * b) / M) m) ((a * b) % M) m)) 24 (0, 0)))] }] : List Eff).getD ι {})
    (by kernel_rfl) (by kernel_rfl) (fun _ => by kernel_rfl) (fun _ => by kernel_rfl) ⟨⟨trivial, ?_⟩, ?_⟩
  · exact o_run 0 [7] [] (fun _ _ => [nb ρ5 11, nb ρ5 11, nb ρ5 11, nb ρ5 11]) (fun _ _ => by kernel_rfl)
  · exact o_run 1 [3] [] (fun _ _ => [nb ρ1 3, nb ρ1 3, nb ρ1 3, nb ρ1 3]) (fun _ _ => by kernel_rfl)
theorem mulmod_w (a : Nat) (b : Nat) (m : Nat) (ha : a < M) (hb : b < M) (hm : m < M) (w0 : World) : Calls Tryd.prog 79 #[(U a), (U b), (U m)] w0 (fun ε w' => ε = .returned (U (mulmN a b m)) ∧ Below w0.heap.size w0 w') := by
  refine Calls.of_ok (n := 33) (F := (fun _ => True)) Tryd.func79 rfl rfl rfl (by simp) (persTrue (fun _ => trivial)) ?_
  refine ok_seq_r (by kernel_rfl) (mulmod_w_r1 a b m _ _) (fun ρ1 => ?_)
  refine ok_seq ?_
  refine ok_seq_r (by kernel_rfl) (mulmod_w_r2 a b m hm ρ1 _ _) (fun _ => ?_)
  refine ok_cond (b := decide (m = 0)) (by kernel_rfl) (fun hb1 => ?_) (fun hb1 => ?_)
  ·
    rw [hb1]
    refine ok_seq_r (by kernel_rfl) (mulmod_w_r3 a b m ρ1 _ _) (fun _ => ?_)
    refine ok_ret ?_
    refine mt_then_r ?_
    exact meets_ret (v := (U 0)) [3, 3, 3, 3] (dup [nb ρ1 3, nb ρ1 3, nb ρ1 3, nb ρ1 3]) (by kernel_rfl) (by kernel_rfl) (eqs_dup _) (fun _ hS => ⟨congrArg (fun x => Ending.returned (U x)) (mulm_0 hb1), hS.below⟩)
  ·
    rw [hb1]
    refine ok_skip ?_
    refine mt_then ?_
    refine ok_seq_r (by kernel_rfl) (mulmod_w_r4 a b m ha hb ρ1 _ _) (fun ρ4 => ?_)
    refine ok_seq_r (by kernel_rfl) (mulmod_w_r5 a b m ha hb hm ρ1 ρ4 _ _) (fun ρ5 => ?_)
    refine ok_seq_r (by kernel_rfl) (mulmod_w_r6 a b m ρ1 ρ4 ρ5 _ _) (fun _ => ?_)
    refine ok_ret ?_
    exact meets_ret (v := (U (divR (redN ((a * b) / M) m) ((a * b) % M) m))) [3, 3, 3, 3] (dup [nb ρ1 3, nb ρ1 3, nb ρ1 3, nb ρ1 3]) (by kernel_rfl) (by kernel_rfl) (eqs_dup _) (fun _ hS => ⟨congrArg (fun x => Ending.returned (U x)) (mulm_1 hb1), hS.below⟩)
theorem mulmod_any (a b m : Nat) (w0 : World) (ha : a < M) (hb : b < M) (hm : m < M) : Calls Tryd.prog 79 #[U a, U b, U m] w0 (fun ε w' => ε = .returned (U (mulmN a b m)) ∧ Below w0.heap.size w0 w') := mulmod_w a b m ha hb hm w0
theorem raddmod_w_r1 (a : Nat) (b : Nat) (m : Nat) (w0 : World) (F : World → Prop) : Reg Tryd.prog 0 (regOps Tryd.f65 0) false 38 [(0, (U a)), (1, (U b)), (2, (U m))] w0 [] F
    (fun ρ => [(3, (pt (nb ρ 0))), (4, (pt (nb ρ 1))), (5, (pt (nb ρ 2))), (6, (pt (nb ρ 3)))])
    (fun ρ => [(nb ρ 0, (.cells (cU a) 24 (0, 0))), (nb ρ 1, (.cells (cU b) 24 (0, 0))), (nb ρ 2, (.cells (cU m) 24 (0, 0))), (nb ρ 3, (.cells (cU 0) 24 (0, 0)))]) := by
  refine reg_seq [0, 1, 3, 7] [3, 4, 5, 6] 4
    (fun ρ ι => ([(pt (nb ρ 0)), (pt (nb ρ 1)), (pt (nb ρ 2)), (pt (nb ρ 3))] : List Value).getD ι undef)
    (fun ρ ι => ([{ news := [(nb ρ 0, (.cells (cU a) 24 (0, 0)))] }, { news := [(nb ρ 1, (.cells (cU b) 24 (0, 0)))] }, { news := [(nb ρ 2, (.cells (cU m) 24 (0, 0)))] }, { news := [(nb ρ 3, (.cells (cU 0) 24 (0, 0)))] }] : List Eff).getD ι {})
    (by kernel_rfl) (by kernel_rfl) (fun _ => by kernel_rfl) (fun _ => by kernel_rfl) ⟨⟨⟨⟨trivial, ?_⟩, ?_⟩, ?_⟩, ?_⟩
  · exact o_run 0 [] [] (fun _ _ => []) (fun _ _ => by kernel_rfl)
  · exact o_run 1 [] [] (fun _ _ => []) (fun _ _ => by kernel_rfl)
  · exact o_run 2 [] [] (fun _ _ => []) (fun _ _ => by kernel_rfl)
  · exact o_run 3 [] [] (fun _ _ => []) (fun _ _ => by kernel_rfl)
theorem raddmod_w_r2 (a : Nat) (b : Nat) (m : Nat) (hm : m < M) (ρ1 : Nat → Orc) (w0 : World) (F : World → Prop) : Reg Tryd.prog 1 (regOps Tryd.f65 1) false 38 [(3, (pt (nb ρ1 0))), (4, (pt (nb ρ1 1))), (5, (pt (nb ρ1 2))), (6, (pt (nb ρ1 3)))] w0 [(nb ρ1 0, (.cells (cU a) 24 (0, 0))), (nb ρ1 1, (.cells (cU b) 24 (0, 0))), (nb ρ1 2, (.cells (cU m) 24 (0, 0))), (nb ρ1 3, (.cells (cU 0) 24 (0, 0)))] F
    (fun _ => [(3, (pt (nb ρ1 0))), (4, (pt (nb ρ1 1))), (5, (pt (nb ρ1 2))), (6, (pt (nb ρ1 3))), (10, (.bool (decide (m = 0))))])
    (fun _ => [(nb ρ1 0, (.cells (cU a) 24 (0, 0))), (nb ρ1 1, (.cells (cU b) 24 (0, 0))), (nb ρ1 2, (.cells (cU m) 24 (0, 0))), (nb ρ1 3, (.cells (cU 0) 24 (0, 0)))]) := by
  refine reg_seq [0, 1] [3, 4, 5, 6, 10] 2
    (fun _ ι => ([(U m), (.bool (decide (m = 0)))] : List Value).getD ι undef)
    (fun _ ι => ([{}, {}] : List Eff).getD ι {})
    (by kernel_rfl) (by kernel_rfl) (fun _ => by kernel_rfl) (fun _ => by kernel_rfl) ⟨⟨trivial, ?_⟩, ?_⟩
  · exact o_run 0 [2] [] (fun _ _ => [nb ρ1 2, nb ρ1 2, nb ρ1 2, nb ρ1 2]) (fun _ _ => by kernel_rfl)
  · exact o_call 1 50 (fun _ => #[(U m)]) (fun _ => (.bool (decide (m = 0)))) (fun _ _ => by kernel_rfl) (fun _ w => (fun w => rzero_any m w hm) w)
theorem raddmod_w_r3 (a : Nat) (b : Nat) (m : Nat) (ρ1 : Nat → Orc) (w0 : World) (F : World → Prop) : Reg Tryd.prog 2 (regOps Tryd.f65 2) false 38 [(3, (pt (nb ρ1 0))), (4, (pt (nb ρ1 1))), (5, (pt (nb ρ1 2))), (6, (pt (nb ρ1 3))), (10, (.bool true))] w0 [(nb ρ1 0, (.cells (cU a) 24 (0, 0))), (nb ρ1 1, (.cells (cU b) 24 (0, 0))), (nb ρ1 2, (.cells (cU m) 24 (0, 0))), (nb ρ1 3, (.cells (cU 0) 24 (0, 0)))] F
    (fun _ => [(3, (pt (nb ρ1 0))), (4, (pt (nb ρ1 1))), (5, (pt (nb ρ1 2))), (6, (pt (nb ρ1 3)))])
    (fun _ => [(nb ρ1 0, (.cells (cU a) 24 (0, 0))), (nb ρ1 1, (.cells (cU b) 24 (0, 0))), (nb ρ1 2, (.cells (cU m) 24 (0, 0))), (nb ρ1 3, (.cells (cU m) 24 (0, 0)))]) := by
  refine reg_seq [0, 1] [3, 4, 5, 6] 2
    (fun _ ι => ([(U m), undef] : List Value).getD ι undef)
    (fun _ ι => ([{}, { puts := [(3, (.cells (cU m) 24 (0, 0)))] }] : List Eff).getD ι {})
    (by kernel_rfl) (by kernel_rfl) (fun _ => by kernel_rfl) (fun _ => by kernel_rfl) ⟨⟨trivial, ?_⟩, ?_⟩
  · exact o_run 0 [2] [] (fun _ _ => [nb ρ1 2, nb ρ1 2, nb ρ1 2, nb ρ1 2]) (fun _ _ => by kernel_rfl)
  · exact o_run 1 [3] [] (fun _ _ => [nb ρ1 3, nb ρ1 3, nb ρ1 3, nb ρ1 3]) (fun _ _ => by kernel_rfl)
theorem raddmod_w_r4 (a : Nat) (b : Nat) (m : Nat) (ha : a < M) (hb : b < M) (hm : m < M) (ρ1 : Nat → Orc) (w0 : World) (F : World → Prop) : Reg Tryd.prog 3 (regOps Tryd.f65 3) true 38 [(3, (pt (nb ρ1 0))), (4, (pt (nb ρ1 1))), (5, (pt (nb ρ1 2))), (6, (pt (nb ρ1 3))), (10, (.bool false))] w0 [(nb ρ1 0, (.cells (cU a) 24 (0, 0))), (nb ρ1 1, (.cells (cU b) 24 (0, 0))), (nb ρ1 2, (.cells (cU m) 24 (0, 0))), (nb ρ1 3, (.cells (cU 0) 24 (0, 0)))] F
    (fun _ => [(3, (pt (nb ρ1 0))), (4, (pt (nb ρ1 1))), (5, (pt (nb ρ1 2))), (6, (pt (nb ρ1 3)))])
    (fun _ => [(nb ρ1 0, (.cells (cU (redN a m)) 24 (0, 0))), (nb ρ1 1, (.cells (cU (redN b m)) 24 (0, 0))), (nb ρ1 2, (.cells (cU m) 24 (0, 0))), (nb ρ1 3, (.cells (cU 0) 24 (0, 0)))]) := by
  refine reg_drawn [0, 0, 3, 0, 0, 31, 63, 127] [3, 4, 5, 6] 8
    (fun _ ι => ([(U a), (U m), (U (redN a m)), (U b), (U m), (U (redN b m)), undef, undef] : List Value).getD ι undef)
    (fun _ ι => ([{}, {}, {}, {}, {}, {}, { puts := [(0, (.cells (cU (redN a m)) 24 (0, 0)))] }, { puts := [(1, (.cells (cU (redN b m)) 24 (0, 0)))] }] : List Eff).getD ι {})
    (by kernel_rfl) (by kernel_rfl) (by kernel_rfl) (fun _ => by kernel_rfl) (fun _ => by kernel_rfl) ⟨⟨⟨⟨⟨⟨⟨⟨trivial, ?_⟩, ?_⟩, ?_⟩, ?_⟩, ?_⟩, ?_⟩, ?_⟩, ?_⟩
  · exact o_run 0 [0] [] (fun _ _ => [nb ρ1 0, nb ρ1 0, nb ρ1 0, nb ρ1 0]) (fun _ _ => by kernel_rfl)
  · exact o_run 1 [2] [] (fun _ _ => [nb ρ1 2, nb ρ1 2, nb ρ1 2, nb ρ1 2]) (fun _ _ => by kernel_rfl)
  · exact o_call 2 85 (fun _ => #[(U a), (U m)]) (fun _ => (U (redN a m))) (fun _ _ => by kernel_rfl) (fun _ w => (fun w => rreduce_any a m w ha hm) w)
  · exact o_run 3 [1] [] (fun _ _ => [nb ρ1 1, nb ρ1 1, nb ρ1 1, nb ρ1 1]) (fun _ _ => by kernel_rfl)
  · exact o_run 4 [2] [] (fun _ _ => [nb ρ1 2, nb ρ1 2, nb ρ1 2, nb ρ1 2]) (fun _ _ => by kernel_rfl)
  · exact o_call 5 85 (fun _ => #[(U b), (U m)]) (fun _ => (U (redN b m))) (fun _ _ => by kernel_rfl) (fun _ w => (fun w => rreduce_any b m w hb hm) w)
  · exact o_run 6 [0] [] (fun _ _ => [nb ρ1 0, nb ρ1 0, nb ρ1 0, nb ρ1 0]) (fun _ _ => by kernel_rfl)
  · exact o_run 7 [1] [] (fun _ _ => [nb ρ1 1, nb ρ1 1, nb ρ1 1, nb ρ1 1]) (fun _ _ => by kernel_rfl)
theorem raddmod_w_r5 (a : Nat) (b : Nat) (m : Nat) (ha : a < M) (hb : b < M) (ρ1 : Nat → Orc) (w0 : World) (F : World → Prop) : Reg Tryd.prog 4 (regOps Tryd.f65 4) false 38 [(3, (pt (nb ρ1 0))), (4, (pt (nb ρ1 1))), (5, (pt (nb ρ1 2))), (6, (pt (nb ρ1 3)))] w0 [(nb ρ1 0, (.cells (cU (redN a m)) 24 (0, 0))), (nb ρ1 1, (.cells (cU (redN b m)) 24 (0, 0))), (nb ρ1 2, (.cells (cU m) 24 (0, 0))), (nb ρ1 3, (.cells (cU 0) 24 (0, 0)))] F
    (fun ρ => [(5, (pt (nb ρ1 2))), (6, (pt (nb ρ1 3))), (7, (pt (nb ρ 6))), (8, (.bool (decide (M ≤ (redN a m) + (redN b m)))))])
    (fun ρ => [(nb ρ1 0, (.cells (cU (redN a m)) 24 (0, 0))), (nb ρ1 1, (.cells (cU (redN b m)) 24 (0, 0))), (nb ρ1 2, (.cells (cU m) 24 (0, 0))), (nb ρ1 3, (.cells (cU 0) 24 (0, 0))), (nb ρ 6, (.cells (cU (((redN a m) + (redN b m)) % M)) 24 (0, 0)))]) := by
  refine reg_seq [0, 1, 3, 7, 15, 31, 63, 127, 255] [5, 6, 7, 8] 9
    (fun ρ ι => ([(U (redN a m)), (U (redN b m)), (.tuple #[(U (((redN a m) + (redN b m)) % M)), (.bool (decide (M ≤ (redN a m) + (redN b m))))]), (.tuple #[(U (((redN a m) + (redN b m)) % M)), (.bool (decide (M ≤ (redN a m) + (redN b m))))]), (U (((redN a m) + (redN b m)) % M)), (.bool (decide (M ≤ (redN a m) + (redN b m)))), (pt (nb ρ 6)), undef, (.bool (decide (M ≤ (redN a m) + (redN b m))))] : List Value).getD ι undef)
    (fun ρ ι => ([{}, {}, {}, {}, {}, {}, { news := [(nb ρ 6, (.cells (cU 0) 24 (0, 0)))] }, { puts := [(52, (.cells (cU (((redN a m) + (redN b m)) % M)) 24 (0, 0)))] }, {}] : List Eff).getD ι {})
    (by kernel_rfl) (by kernel_rfl) (fun _ => by kernel_rfl) (fun _ => by kernel_rfl) ⟨⟨⟨⟨⟨⟨⟨⟨⟨trivial, ?_⟩, ?_⟩, ?_⟩, ?_⟩, ?_⟩, ?_⟩, ?_⟩, ?_⟩, ?_⟩
  · exact o_run 0 [0] [] (fun _ _ => [nb ρ1 0, nb ρ1 0, nb ρ1 0, nb ρ1 0]) (fun _ _ => by kernel_rfl)
  · exact o_run 1 [1] [] (fun _ _ => [nb ρ1 1, nb ρ1 1, nb ρ1 1, nb ρ1 1]) (fun _ _ => by kernel_rfl)
  · exact o_call 2 86 (fun _ => #[(U (redN a m)), (U (redN b m))]) (fun _ => (.tuple #[(U (((redN a m) + (redN b m)) % M)), (.bool (decide (M ≤ (redN a m) + (redN b m))))])) (fun _ _ => by kernel_rfl) (fun _ w => (fun w => radd_any (redN a m) (redN b m) w (redN_lt ha) (redN_lt hb)) w)
  · exact o_run 3 [] [] (fun _ _ => []) (fun _ _ => by kernel_rfl)
  · exact o_run 4 [] [] (fun _ _ => []) (fun _ _ => by kernel_rfl)
  · exact o_run 5 [] [] (fun _ _ => []) (fun _ _ => by kernel_rfl)
  · exact o_run 6 [] [] (fun _ _ => []) (fun _ _ => by kernel_rfl)
  · exact o_run 7 [52] [] (fun ρ _ => [nb ρ 6, nb ρ 6, nb ρ 6, nb ρ 6]) (fun _ _ => by kernel_rfl)
  · exact o_run 8 [] [] (fun _ _ => []) (fun _ _ => by kernel_rfl)
theorem raddmod_w_r6 (a : Nat) (b : Nat) (m : Nat) (ρ1 : Nat → Orc) (ρ5 : Nat → Orc) (w0 : World) (F : World → Prop) : Reg Tryd.prog 5 (regOps Tryd.f65 5) false 38 [(5, (pt (nb ρ1 2))), (6, (pt (nb ρ1 3))), (7, (pt (nb ρ5 6))), (8, (.bool true))] w0 [(nb ρ1 0, (.cells (cU (redN a m)) 24 (0, 0))), (nb ρ1 1, (.cells (cU (redN b m)) 24 (0, 0))), (nb ρ1 2, (.cells (cU m) 24 (0, 0))), (nb ρ1 3, (.cells (cU 0) 24 (0, 0))), (nb ρ5 6, (.cells (cU (((redN a m) + (redN b m)) % M)) 24 (0, 0)))] F
    (fun _ => [(5, (pt (nb ρ1 2))), (6, (pt (nb ρ1 3))), (7, (pt (nb ρ5 6))), (30, (.bool true))])
    (fun _ => [(nb ρ1 0, (.cells (cU (redN a m)) 24 (0, 0))), (nb ρ1 1, (.cells (cU (redN b m)) 24 (0, 0))), (nb ρ1 2, (.cells (cU m) 24 (0, 0))), (nb ρ1 3, (.cells (cU 0) 24 (0, 0))), (nb ρ5 6, (.cells (cU (((redN a m) + (redN b m)) % M)) 24 (0, 0)))]) := by
  refine reg_seq [0, 1, 3, 7, 15, 31, 63] [5, 6, 7, 30] 7
    (fun _ ι => ([(.bool true), (.bool true), undef, undef, undef, undef, (.bool true)] : List Value).getD ι undef)
    (fun _ ι => ([{}, {}, {}, {}, {}, {}, {}] : List Eff).getD ι {})
    (by kernel_rfl) (by kernel_rfl) (fun _ => by kernel_rfl) (fun _ => by kernel_rfl) ⟨⟨⟨⟨⟨⟨⟨trivial, ?_⟩, ?_⟩, ?_⟩, ?_⟩, ?_⟩, ?_⟩, ?_⟩
  · exact o_run 0 [] [] (fun _ _ => []) (fun _ _ => by kernel_rfl)
  · exact o_run 1 [] [] (fun _ _ => []) (fun _ _ => by kernel_rfl)
  · exact o_skip 2 (fun _ => by kernel_rfl)
  · exact o_skip 3 (fun _ => by kernel_rfl)
  · exact o_skip 4 (fun _ => by kernel_rfl)
  · exact o_skip 5 (fun _ => by kernel_rfl)
  · exact o_run 6 [] [] (fun _ _ => []) (fun _ _ => by kernel_rfl)
theorem raddmod_w_r7 (a : Nat) (b : Nat) (m : Nat) (hm : m < M) (ρ1 : Nat → Orc) (ρ5 : Nat → Orc) (w0 : World) (F : World → Prop) : Reg Tryd.prog 6 (regOps Tryd.f65 6) false 38 [(5, (pt (nb ρ1 2))), (6, (pt (nb ρ1 3))), (7, (pt (nb ρ5 6))), (30, (.bool true))] w0 [(nb ρ1 0, (.cells (cU (redN a m)) 24 (0, 0))), (nb ρ1 1, (.cells (cU (redN b m)) 24 (0, 0))), (nb ρ1 2, (.cells (cU m) 24 (0, 0))), (nb ρ1 3, (.cells (cU 0) 24 (0, 0))), (nb ρ5 6, (.cells (cU (((redN a m) + (redN b m)) % M)) 24 (0, 0)))] F
    (fun _ => [(6, (pt (nb ρ1 3))), (7, (pt (nb ρ5 6)))])
    (fun _ => [(nb ρ1 0, (.cells (cU (redN a m)) 24 (0, 0))), (nb ρ1 1, (.cells (cU (redN b m)) 24 (0, 0))), (nb ρ1 2, (.cells (cU m) 24 (0, 0))), (nb ρ1 3, (.cells (cU 0) 24 (0, 0))), (nb ρ5 6, (.cells (cU (((((redN a m) + (redN b m)) % M) + M - m) % M)) 24 (0, 0)))]) := by
  refine reg_seq [0, 1, 3, 7, 15, 31, 63] [6, 7] 7
    (fun _ ι => ([(U (((redN a m) + (redN b m)) % M)), (U m), (.tuple #[(U (((((redN a m) + (redN b m)) % M) + M - m) % M)), (.bool (decide ((((redN a m) + (redN b m)) % M) < m)))]), (.tuple #[(U (((((redN a m) + (redN b m)) % M) + M - m) % M)), (.bool (decide ((((redN a m) + (redN b m)) % M) < m)))]), (U (((((redN a m) + (redN b m)) % M) + M - m) % M)), (.bool (decide ((((redN a m) + (redN b m)) % M) < m))), undef] : List Value).getD ι undef)
    (fun _ ι => ([{}, {}, {}, {}, {}, {}, { puts := [(4, (.cells (cU (((((redN a m) + (redN b m)) % M) + M - m) % M)) 24 (0, 0)))] }] : List Eff).getD ι {})
    (by kernel_rfl) (by kernel_rfl) (fun _ => by kernel_rfl) (fun _ => by kernel_rfl) ⟨⟨⟨⟨⟨⟨⟨trivial, ?_⟩, ?_⟩, ?_⟩, ?_⟩, ?_⟩, ?_⟩, ?_⟩
  · exact o_run 0 [4] [] (fun _ _ => [nb ρ5 6, nb ρ5 6, nb ρ5 6, nb ρ5 6]) (fun _ _ => by kernel_rfl)
  · exact o_run 1 [2] [] (fun _ _ => [nb ρ1 2, nb ρ1 2, nb ρ1 2, nb ρ1 2]) (fun _ _ => by kernel_rfl)
  · exact o_call 2 60 (fun _ => #[(U (((redN a m) + (redN b m)) % M)), (U m)]) (fun _ => (.tuple #[(U (((((redN a m) + (redN b m)) % M) + M - m) % M)), (.bool (decide ((((redN a m) + (redN b m)) % M) < m)))])) (fun _ _ => by kernel_rfl) (fun _ w => (fun w => rsub_any (((redN a m) + (redN b m)) % M) m w (modM_lt _) hm) w)
  · exact o_run 3 [] [] (fun _ _ => []) (fun _ _ => by kernel_rfl)
  · exact o_run 4 [] [] (fun _ _ => []) (fun _ _ => by kernel_rfl)
  · exact o_run 5 [] [] (fun _ _ => []) (fun _ _ => by kernel_rfl)
  · exact o_run 6 [4] [] (fun _ _ => [nb ρ5 6, nb ρ5 6, nb ρ5 6, nb ρ5 6]) (fun _ _ => by kernel_rfl)
theorem raddmod_w_r8 (a : Nat) (b : Nat) (m : Nat) (ρ1 : Nat → Orc) (ρ5 : Nat → Orc) (w0 : World) (F : World → Prop) : Reg Tryd.prog 7 (regOps Tryd.f65 7) false 38 [(6, (pt (nb ρ1 3))), (7, (pt (nb ρ5 6)))] w0 [(nb ρ1 0, (.cells (cU (redN a m)) 24 (0, 0))), (nb ρ1 1, (.cells (cU (redN b m)) 24 (0, 0))), (nb ρ1 2, (.cells (cU m) 24 (0, 0))), (nb ρ1 3, (.cells (cU 0) 24 (0, 0))), (nb ρ5 6, (.cells (cU (((((redN a m) + (redN b m)) % M) + M - m) % M)) 24 (0, 0)))] F
    (fun _ => [(6, (pt (nb ρ1 3)))])
    (fun _ => [(nb ρ1 0, (.cells (cU (redN a m)) 24 (0, 0))), (nb ρ1 1, (.cells (cU (redN b m)) 24 (0, 0))), (nb ρ1 2, (.cells (cU m) 24 (0, 0))), (nb ρ1 3, (.cells (cU (((((redN a m) + (redN b m)) % M) + M - m) % M)) 24 (0, 0))), (nb ρ5 6, (.cells (cU (((((redN a m) + (redN b m)) % M) + M - m) % M)) 24 (0, 0)))]) := by
  refine reg_seq [0, 1] [6] 2
    (fun _ ι => ([(U (((((redN a m) + (redN b m)) % M) + M - m) % M)), undef] : List Value).getD ι undef)
    (fun _ ι => ([{}, { puts := [(3, (.cells (cU (((((redN a m) + (redN b m)) % M) + M - m) % M)) 24 (0, 0)))] }] : List Eff).getD ι {})
    (by kernel_rfl) (by kernel_rfl) (fun _ => by kernel_rfl) (fun _ => by kernel_rfl) ⟨⟨trivial, ?_⟩, ?_⟩
  · exact o_run 0 [4] [] (fun _ _ => [nb ρ5 6, nb ρ5 6, nb ρ5 6, nb ρ5 6]) (fun _ _ => by kernel_rfl)
  · exact o_run 1 [3] [] (fun _ _ => [nb ρ1 3, nb ρ1 3, nb ρ1 3, nb ρ1 3]) (fun _ _ => by kernel_rfl)
theorem raddmod_w_r9 (a : Nat) (b : Nat) (m : Nat) (hm : m < M) (ρ1 : Nat → Orc) (ρ5 : Nat → Orc) (w0 : World) (F : World → Prop) : Reg Tryd.prog 5 (regOps Tryd.f65 5) false 38 [(5, (pt (nb ρ1 2))), (6, (pt (nb ρ1 3))), (7, (pt (nb ρ5 6))), (8, (.bool false))] w0 [(nb ρ1 0, (.cells (cU (redN a m)) 24 (0, 0))), (nb ρ1 1, (.cells (cU (redN b m)) 24 (0, 0))), (nb ρ1 2, (.cells (cU m) 24 (0, 0))), (nb ρ1 3, (.cells (cU 0) 24 (0, 0))), (nb ρ5 6, (.cells (cU (((redN a m) + (redN b m)) % M)) 24 (0, 0)))] F
    (fun _ => [(5, (pt (nb ρ1 2))), (6, (pt (nb ρ1 3))), (7, (pt (nb ρ5 6))), (30, (.bool (decide (0 ≤ (cmpN (((redN a m) + (redN b m)) % M) m)))))])
    (fun _ => [(nb ρ1 0, (.cells (cU (redN a m)) 24 (0, 0))), (nb ρ1 1, (.cells (cU (redN b m)) 24 (0, 0))), (nb ρ1 2, (.cells (cU m) 24 (0, 0))), (nb ρ1 3, (.cells (cU 0) 24 (0, 0))), (nb ρ5 6, (.cells (cU (((redN a m) + (redN b m)) % M)) 24 (0, 0)))]) := by
  refine reg_seq [0, 1, 3, 7, 15, 31, 63] [5, 6, 7, 30] 7
    (fun _ ι => ([(.bool false), (.bool false), (U (((redN a m) + (redN b m)) % M)), (U m), (.int .i64 (cmpN (((redN a m) + (redN b m)) % M) m)), (.bool (decide (0 ≤ (cmpN (((redN a m) + (redN b m)) % M) m)))), (.bool (decide (0 ≤ (cmpN (((redN a m) + (redN b m)) % M) m))))] : List Value).getD ι undef)
    (fun _ ι => ([{}, {}, {}, {}, {}, {}, {}] : List Eff).getD ι {})
    (by kernel_rfl) (by kernel_rfl) (fun _ => by kernel_rfl) (fun _ => by kernel_rfl) ⟨⟨⟨⟨⟨⟨⟨trivial, ?_⟩, ?_⟩, ?_⟩, ?_⟩, ?_⟩, ?_⟩, ?_⟩
  · exact o_run 0 [] [] (fun _ _ => []) (fun _ _ => by kernel_rfl)
  · exact o_run 1 [] [] (fun _ _ => []) (fun _ _ => by kernel_rfl)
  · exact o_run 2 [4] [] (fun _ _ => [nb ρ5 6, nb ρ5 6, nb ρ5 6, nb ρ5 6]) (fun _ _ => by kernel_rfl)
  · exact o_run 3 [2] [] (fun _ _ => [nb ρ1 2, nb ρ1 2, nb ρ1 2, nb ρ1 2]) (fun _ _ => by kernel_rfl)
  · exact o_call 4 68 (fun _ => #[(U (((redN a m) + (redN b m)) % M)), (U m)]) (fun _ => (.int .i64 (cmpN (((redN a m) + (redN b m)) % M) m))) (fun _ _ => by kernel_rfl) (fun _ w => (fun w => rcmp_any (((redN a m) + (redN b m)) % M) m w (modM_lt _) hm) w)
  · exact o_run 5 [] [] (fun _ _ => []) (fun _ _ => by kernel_rfl)
  · exact o_run 6 [] [] (fun _ _ => []) (fun _ _ => by kernel_rfl)
theorem raddmod_w_r10 (a : Nat) (b : Nat) (m : Nat) (hm : m < M) (ρ1 : Nat → Orc) (ρ5 : Nat → Orc) (w0 : World) (F : World → Prop) : Reg Tryd.prog 6 (regOps Tryd.f65 6) false 38 [(5, (pt (nb ρ1 2))), (6, (pt (nb ρ1 3))), (7, (pt (nb ρ5 6))), (30, (.bool true))] w0 [(nb ρ1 0, (.cells (cU (redN a m)) 24 (0, 0))), (nb ρ1 1, (.cells (cU (redN b m)) 24 (0, 0))), (nb ρ1 2, (.cells (cU m) 24 (0, 0))), (nb ρ1 3, (.cells (cU 0) 24 (0, 0))), (nb ρ5 6, (.cells (cU (((redN a m) + (redN b m)) % M)) 24 (0, 0)))] F
    (fun _ => [(6, (pt (nb ρ1 3))), (7, (pt (nb ρ5 6)))])
    (fun _ => [(nb ρ1 0, (.cells (cU (redN a m)) 24 (0, 0))), (nb ρ1 1, (.cells (cU (redN b m)) 24 (0, 0))), (nb ρ1 2, (.cells (cU m) 24 (0, 0))), (nb ρ1 3, (.cells (cU 0) 24 (0, 0))), (nb ρ5 6, (.cells (cU (((((redN a m) + (redN b m)) % M) + M - m) % M)) 24 (0, 0)))]) := by
  refine reg_seq [0, 1, 3, 7, 15, 31, 63] [6, 7] 7
    (fun _ ι => ([(U (((redN a m) + (redN b m)) % M)), (U m), (.tuple #[(U (((((redN a m) + (redN b m)) % M) + M - m) % M)), (.bool (decide ((((redN a m) + (redN b m)) % M) < m)))]), (.tuple #[(U (((((redN a m) + (redN b m)) % M) + M - m) % M)), (.bool (decide ((((redN a m) + (redN b m)) % M) < m)))]), (U (((((redN a m) + (redN b m)) % M) + M - m) % M)), (.bool (decide ((((redN a m) + (redN b m)) % M) < m))), undef] : List Value).getD ι undef)
    (fun _ ι => ([{}, {}, {}, {}, {}, {}, { puts := [(4, (.cells (cU (((((redN a m) + (redN b m)) % M) + M - m) % M)) 24 (0, 0)))] }] : List Eff).getD ι {})
    (by kernel_rfl) (by kernel_rfl) (fun _ => by kernel_rfl) (fun _ => by kernel_rfl) ⟨⟨⟨⟨⟨⟨⟨trivial, ?_⟩, ?_⟩, ?_⟩, ?_⟩, ?_⟩, ?_⟩, ?_⟩
  · exact o_run 0 [4] [] (fun _ _ => [nb ρ5 6, nb ρ5 6, nb ρ5 6, nb ρ5 6]) (fun _ _ => by kernel_rfl)
  · exact o_run 1 [2] [] (fun _ _ => [nb ρ1 2, nb ρ1 2, nb ρ1 2, nb ρ1 2]) (fun _ _ => by kernel_rfl)
  · exact o_call 2 60 (fun _ => #[(U (((redN a m) + (redN b m)) % M)), (U m)]) (fun _ => (.tuple #[(U (((((redN a m) + (redN b m)) % M) + M - m) % M)), (.bool (decide ((((redN a m) + (redN b m)) % M) < m)))])) (fun _ _ => by kernel_rfl) (fun _ w => (fun w => rsub_any (((redN a m) + (redN b m)) % M) m w (modM_lt _) hm) w)
  · exact o_run 3 [] [] (fun _ _ => []) (fun _ _ => by kernel_rfl)
  · exact o_run 4 [] [] (fun _ _ => []) (fun _ _ => by kernel_rfl)
  · exact o_run 5 [] [] (fun _ _ => []) (fun _ _ => by kernel_rfl)
  · exact o_run 6 [4] [] (fun _ _ => [nb ρ5 6, nb ρ5 6, nb ρ5 6, nb ρ5 6]) (fun _ _ => by kernel_rfl)
theorem raddmod_w_r11 (a : Nat) (b : Nat) (m : Nat) (ρ1 : Nat → Orc) (ρ5 : Nat → Orc) (w0 : World) (F : World → Prop) : Reg Tryd.prog 7 (regOps Tryd.f65 7) false 38 [(6, (pt (nb ρ1 3))), (7, (pt (nb ρ5 6)))] w0 [(nb ρ1 0, (.cells (cU (redN a m)) 24 (0, 0))), (nb ρ1 1, (.cells (cU (redN b m)) 24 (0, 0))), (nb ρ1 2, (.cells (cU m) 24 (0, 0))), (nb ρ1 3, (.cells (cU 0) 24 (0, 0))), (nb ρ5 6, (.cells (cU (((((redN a m) + (redN b m)) % M) + M - m) % M)) 24 (0, 0)))] F
    (fun _ => [(6, (pt (nb ρ1 3)))])
    (fun _ => [(nb ρ1 0, (.cells (cU (redN a m)) 24 (0, 0))), (nb ρ1 1, (.cells (cU (redN b m)) 24 (0, 0))), (nb ρ1 2, (.cells (cU m) 24 (0, 0))), (nb ρ1 3, (.cells (cU (((((redN a m) + (redN b m)) % M) + M - m) % M)) 24 (0, 0))), (nb ρ5 6, (.cells (cU (((((redN a m) + (redN b m)) % M) + M - m) % M)) 24 (0, 0)))]) := by
  refine reg_seq [0, 1] [6] 2
    (fun _ ι => ([(U (((((redN a m) + (redN b m)) % M) + M - m) % M)), undef] : List Value).getD ι undef)
    (fun _ ι => ([{}, { puts := [(3, (.cells (cU (((((redN a m) + (redN b m)) % M) + M - m) % M)) 24 (0, 0)))] }] : List Eff).getD ι {})
    (by kernel_rfl) (by kernel_rfl) (fun _ => by kernel_rfl) (fun _ => by kernel_rfl) ⟨⟨trivial, ?_⟩, ?_⟩
  · exact o_run 0 [4] [] (fun _ _ => [nb ρ5 6, nb ρ5 6, nb ρ5 6, nb ρ5 6]) (fun _ _ => by kernel_rfl)
  · exact o_run 1 [3] [] (fun _ _ => [nb ρ1 3, nb ρ1 3, nb ρ1 3, nb ρ1 3]) (fun _ _ => by kernel_rfl)
theorem raddmod_w_r12 (a : Nat) (b : Nat) (m : Nat) (ρ1 : Nat → Orc) (ρ5 : Nat → Orc) (w0 : World) (F : World → Prop) : Reg Tryd.prog 7 (regOps Tryd.f65 7) false 38 [(5, (pt (nb ρ1 2))), (6, (pt (nb ρ1 3))), (7, (pt (nb ρ5 6))), (30, (.bool false))] w0 [(nb ρ1 0, (.cells (cU (redN a m)) 24 (0, 0))), (nb ρ1 1, (.cells (cU (redN b m)) 24 (0, 0))), (nb ρ1 2, (.cells (cU m) 24 (0, 0))), (nb ρ1 3, (.cells (cU 0) 24 (0, 0))), (nb ρ5 6, (.cells (cU (((redN a m) + (redN b m)) % M)) 24 (0, 0)))] F
    (fun _ => [(6, (pt (nb ρ1 3)))])
    (fun _ => [(nb ρ1 0, (.cells (cU (redN a m)) 24 (0, 0))), (nb ρ1 1, (.cells (cU (redN b m)) 24 (0, 0))), (nb ρ1 2, (.cells (cU m) 24 (0, 0))), (nb ρ1 3, (.cells (cU (((redN a m) + (redN b m)) % M)) 24 (0, 0))), (nb ρ5 6, (.cells (cU (((redN a m) + (redN b m)) % M)) 24 (0, 0)))]) := by
  refine reg_seq [0, 1] [6] 2
    (fun _ ι => ([(U (((redN a m) + (redN b m)) % M)), undef] : List Value).getD ι undef)
    (fun _ ι => ([{}, { puts := [(3, (.cells (cU (((redN a m) + (redN b m)) % M)) 24 (0, 0)))] }] : List Eff).getD ι {})
    (by kernel_rfl) (by kernel_rfl) (fun _ => by kernel_rfl) (fun _ => by kernel_rfl) ⟨⟨trivial, ?_⟩, ?_⟩
  · exact o_run 0 [4] [] (fun _ _ => [nb ρ5 6, nb ρ5 6, nb ρ5 6, nb ρ5 6]) (fun _ _ => by kernel_rfl)
  · exact o_run 1 [3] [] (fun _ _ => [nb ρ1 3, nb ρ1 3, nb ρ1 3, nb ρ1 3]) (fun _ _ => by kernel_rfl)
theorem raddmod_w (a : Nat) (b : Nat) (m : Nat) (ha : a < M) (hb : b < M) (hm : m < M) (w0 : World) : Calls Tryd.prog 65 #[(U a), (U b), (U m)] w0 (fun ε w' => ε = .returned (U (addmN a b m)) ∧ Below w0.heap.size w0 w') := by
  refine Calls.of_ok (n := 38) (F := (fun _ => True)) Tryd.func65 rfl rfl rfl (by simp) (persTrue (fun _ => trivial)) ?_
  refine ok_seq_r (by kernel_rfl) (raddmod_w_r1 a b m _ _) (fun ρ1 => ?_)
  refine ok_seq ?_
  refine ok_seq_r (by kernel_rfl) (raddmod_w_r2 a b m hm ρ1 _ _) (fun _ => ?_)
  refine ok_cond (b := decide (m = 0)) (by kernel_rfl) (fun hb1 => ?_) (fun hb1 => ?_)
  ·
    rw [hb1]
    refine ok_seq_r (by kernel_rfl) (raddmod_w_r3 a b m ρ1 _ _) (fun _ => ?_)
    refine ok_ret ?_
    refine mt_then_r ?_
    exact meets_ret (v := (U m)) [3, 3, 3, 3] (dup [nb ρ1 3, nb ρ1 3, nb ρ1 3, nb ρ1 3]) (by kernel_rfl) (by kernel_rfl) (eqs_dup _) (fun _ hS => ⟨congrArg (fun x => Ending.returned (U x)) (addm_0' hb1), hS.below⟩)
  ·
    rw [hb1]
    refine ok_skip ?_
    refine mt_then ?_
    refine ok_seq_r (by kernel_rfl) (raddmod_w_r4 a b m ha hb hm ρ1 _ _) (fun _ => ?_)
    refine ok_seq_r (by kernel_rfl) (raddmod_w_r5 a b m ha hb ρ1 _ _) (fun ρ5 => ?_)
    refine ok_seq ?_
    rcases Bool.eq_false_or_eq_true (decide (M ≤ (redN a m) + (redN b m))) with hb2 | hb2
    ·
      rw [hb2]
      refine ok_seq_r (by kernel_rfl) (raddmod_w_r6 a b m ρ1 ρ5 _ _) (fun _ => ?_)
      refine ok_yes (by kernel_rfl) ?_
      refine ok_r (by kernel_rfl) (raddmod_w_r7 a b m hm ρ1 ρ5 _ _) (fun _ => ?_)
      refine mt_then ?_
      refine ok_seq_r (by kernel_rfl) (raddmod_w_r8 a b m ρ1 ρ5 _ _) (fun _ => ?_)
      refine ok_ret ?_
      exact meets_ret (v := (U (((((redN a m) + (redN b m)) % M) + M - m) % M))) [3, 3, 3, 3] (dup [nb ρ1 3, nb ρ1 3, nb ρ1 3, nb ρ1 3]) (by kernel_rfl) (by kernel_rfl) (eqs_dup _) (fun _ hS => ⟨congrArg (fun x => Ending.returned (U x)) (addm_2 hm hb1 hb2), hS.below⟩)
    ·
      rw [hb2]
      refine ok_seq_r (by kernel_rfl) (raddmod_w_r9 a b m hm ρ1 ρ5 _ _) (fun _ => ?_)
      refine ok_cond (b := decide (0 ≤ (cmpN (((redN a m) + (redN b m)) % M) m))) (by kernel_rfl) (fun hb3 => ?_) (fun hb3 => ?_)
      ·
        rw [hb3]
        refine ok_r (by kernel_rfl) (raddmod_w_r10 a b m hm ρ1 ρ5 _ _) (fun _ => ?_)
        refine mt_then ?_
        refine ok_seq_r (by kernel_rfl) (raddmod_w_r11 a b m ρ1 ρ5 _ _) (fun _ => ?_)
        refine ok_ret ?_
        exact meets_ret (v := (U (((((redN a m) + (redN b m)) % M) + M - m) % M))) [3, 3, 3, 3] (dup [nb ρ1 3, nb ρ1 3, nb ρ1 3, nb ρ1 3]) (by kernel_rfl) (by kernel_rfl) (eqs_dup _) (fun _ hS => ⟨congrArg (fun x => Ending.returned (U x)) (addm_3t hm hb1 hb2 hb3), hS.below⟩)
      ·
        rw [hb3]
        refine ok_skip ?_
        refine mt_then ?_
        refine ok_seq_r (by kernel_rfl) (raddmod_w_r12 a b m ρ1 ρ5 _ _) (fun _ => ?_)
        refine ok_ret ?_
        exact meets_ret (v := (U (((redN a m) + (redN b m)) % M))) [3, 3, 3, 3] (dup [nb ρ1 3, nb ρ1 3, nb ρ1 3, nb ρ1 3]) (by kernel_rfl) (by kernel_rfl) (eqs_dup _) (fun _ hS => ⟨congrArg (fun x => Ending.returned (U x)) (addm_3f hm hb1 hb2 hb3), hS.below⟩)
theorem raddmod_any (a b m : Nat) (w0 : World) (ha : a < M) (hb : b < M) (hm : m < M) : Calls Tryd.prog 65 #[U a, U b, U m] w0 (fun ε w' => ε = .returned (U (addmN a b m)) ∧ Below w0.heap.size w0 w') := raddmod_w a b m ha hb hm w0
theorem rsubmod_w_r1 (a : Nat) (b : Nat) (m : Nat) (w0 : World) (F : World → Prop) : Reg Tryd.prog 0 (regOps Tryd.f87 0) false 32 [(0, (U a)), (1, (U b)), (2, (U m))] w0 [] F
    (fun ρ => [(3, (pt (nb ρ 0))), (4, (pt (nb ρ 1))), (5, (pt (nb ρ 2))), (6, (pt (nb ρ 3)))])
    (fun ρ => [(nb ρ 0, (.cells (cU a) 24 (0, 0))), (nb ρ 1, (.cells (cU b) 24 (0, 0))), (nb ρ 2, (.cells (cU m) 24 (0, 0))), (nb ρ 3, (.cells (cU 0) 24 (0, 0)))]) := by
  refine reg_seq [0, 1, 3, 7] [3, 4, 5, 6] 4
    (fun ρ ι => ([(pt (nb ρ 0)), (pt (nb ρ 1)), (pt (nb ρ 2)), (pt (nb ρ 3))] : List Value).getD ι undef)
    (fun ρ ι => ([{ news := [(nb ρ 0, (.cells (cU a) 24 (0, 0)))] }, { news := [(nb ρ 1, (.cells (cU b) 24 (0, 0)))] }, { news := [(nb ρ 2, (.cells (cU m) 24 (0, 0)))] }, { news := [(nb ρ 3, (.cells (cU 0) 24 (0, 0)))] }] : List Eff).getD ι {})
    (by kernel_rfl) (by kernel_rfl) (fun _ => by kernel_rfl) (fun _ => by kernel_rfl) ⟨⟨⟨⟨trivial, ?_⟩, ?_⟩, ?_⟩, ?_⟩
  · exact o_run 0 [] [] (fun _ _ => []) (fun _ _ => by kernel_rfl)
  · exact o_run 1 [] [] (fun _ _ => []) (fun _ _ => by kernel_rfl)
  · exact o_run 2 [] [] (fun _ _ => []) (fun _ _ => by kernel_rfl)
  · exact o_run 3 [] [] (fun _ _ => []) (fun _ _ => by kernel_rfl)
theorem rsubmod_w_r2 (a : Nat) (b : Nat) (m : Nat) (hm : m < M) (ρ1 : Nat → Orc) (w0 : World) (F : World → Prop) : Reg Tryd.prog 1 (regOps Tryd.f87 1) false 32 [(3, (pt (nb ρ1 0))), (4, (pt (nb ρ1 1))), (5, (pt (nb ρ1 2))), (6, (pt (nb ρ1 3)))] w0 [(nb ρ1 0, (.cells (cU a) 24 (0, 0))), (nb ρ1 1, (.cells (cU b) 24 (0, 0))), (nb ρ1 2, (.cells (cU m) 24 (0, 0))), (nb ρ1 3, (.cells (cU 0) 24 (0, 0)))] F
    (fun _ => [(3, (pt (nb ρ1 0))), (4, (pt (nb ρ1 1))), (5, (pt (nb ρ1 2))), (6, (pt (nb ρ1 3))), (10, (.bool (decide (m = 0))))])
    (fun _ => [(nb ρ1 0, (.cells (cU a) 24 (0, 0))), (nb ρ1 1, (.cells (cU b) 24 (0, 0))), (nb ρ1 2, (.cells (cU m) 24 (0, 0))), (nb ρ1 3, (.cells (cU 0) 24 (0, 0)))]) := by
  refine reg_seq [0, 1] [3, 4, 5, 6, 10] 2
    (fun _ ι => ([(U m), (.bool (decide (m = 0)))] : List Value).getD ι undef)
    (fun _ ι => ([{}, {}] : List Eff).getD ι {})
    (by kernel_rfl) (by kernel_rfl) (fun _ => by kernel_rfl) (fun _ => by kernel_rfl) ⟨⟨trivial, ?_⟩, ?_⟩
  · exact o_run 0 [2] [] (fun _ _ => [nb ρ1 2, nb ρ1 2, nb ρ1 2, nb ρ1 2]) (fun _ _ => by kernel_rfl)
  · exact o_call 1 50 (fun _ => #[(U m)]) (fun _ => (.bool (decide (m = 0)))) (fun _ _ => by kernel_rfl) (fun _ w => (fun w => rzero_any m w hm) w)
theorem rsubmod_w_r3 (a : Nat) (b : Nat) (m : Nat) (ρ1 : Nat → Orc) (w0 : World) (F : World → Prop) : Reg Tryd.prog 2 (regOps Tryd.f87 2) false 32 [(3, (pt (nb ρ1 0))), (4, (pt (nb ρ1 1))), (5, (pt (nb ρ1 2))), (6, (pt (nb ρ1 3))), (10, (.bool true))] w0 [(nb ρ1 0, (.cells (cU a) 24 (0, 0))), (nb ρ1 1, (.cells (cU b) 24 (0, 0))), (nb ρ1 2, (.cells (cU m) 24 (0, 0))), (nb ρ1 3, (.cells (cU 0) 24 (0, 0)))] F
    (fun _ => [(3, (pt (nb ρ1 0))), (4, (pt (nb ρ1 1))), (5, (pt (nb ρ1 2))), (6, (pt (nb ρ1 3)))])
    (fun _ => [(nb ρ1 0, (.cells (cU a) 24 (0, 0))), (nb ρ1 1, (.cells (cU b) 24 (0, 0))), (nb ρ1 2, (.cells (cU m) 24 (0, 0))), (nb ρ1 3, (.cells (cU m) 24 (0, 0)))]) := by
  refine reg_seq [0, 1] [3, 4, 5, 6] 2
    (fun _ ι => ([(U m), undef] : List Value).getD ι undef)
    (fun _ ι => ([{}, { puts := [(3, (.cells (cU m) 24 (0, 0)))] }] : List Eff).getD ι {})
    (by kernel_rfl) (by kernel_rfl) (fun _ => by kernel_rfl) (fun _ => by kernel_rfl) ⟨⟨trivial, ?_⟩, ?_⟩
  · exact o_run 0 [2] [] (fun _ _ => [nb ρ1 2, nb ρ1 2, nb ρ1 2, nb ρ1 2]) (fun _ _ => by kernel_rfl)
  · exact o_run 1 [3] [] (fun _ _ => [nb ρ1 3, nb ρ1 3, nb ρ1 3, nb ρ1 3]) (fun _ _ => by kernel_rfl)
theorem rsubmod_w_r4 (a : Nat) (b : Nat) (m : Nat) (ha : a < M) (hb : b < M) (hm : m < M) (ρ1 : Nat → Orc) (w0 : World) (F : World → Prop) : Reg Tryd.prog 3 (regOps Tryd.f87 3) true 32 [(3, (pt (nb ρ1 0))), (4, (pt (nb ρ1 1))), (5, (pt (nb ρ1 2))), (6, (pt (nb ρ1 3))), (10, (.bool false))] w0 [(nb ρ1 0, (.cells (cU a) 24 (0, 0))), (nb ρ1 1, (.cells (cU b) 24 (0, 0))), (nb ρ1 2, (.cells (cU m) 24 (0, 0))), (nb ρ1 3, (.cells (cU 0) 24 (0, 0)))] F
    (fun _ => [(3, (pt (nb ρ1 0))), (4, (pt (nb ρ1 1))), (5, (pt (nb ρ1 2))), (6, (pt (nb ρ1 3)))])
    (fun _ => [(nb ρ1 0, (.cells (cU (redN a m)) 24 (0, 0))), (nb ρ1 1, (.cells (cU (redN b m)) 24 (0, 0))), (nb ρ1 2, (.cells (cU m) 24 (0, 0))), (nb ρ1 3, (.cells (cU 0) 24 (0, 0)))]) := by
  refine reg_drawn [0, 0, 3, 0, 0, 31, 63, 127] [3, 4, 5, 6] 8
    (fun _ ι => ([(U a), (U m), (U (redN a m)), (U b), (U m), (U (redN b m)), undef, undef] : List Value).getD ι undef)
    (fun _ ι => ([{}, {}, {}, {}, {}, {}, { puts := [(0, (.cells (cU (redN a m)) 24 (0, 0)))] }, { puts := [(1, (.cells (cU (redN b m)) 24 (0, 0)))] }] : List Eff).getD ι {})
    (by kernel_rfl) (by kernel_rfl) (by kernel_rfl) (fun _ => by kernel_rfl) (fun _ => by kernel_rfl) ⟨⟨⟨⟨⟨⟨⟨⟨trivial, ?_⟩, ?_⟩, ?_⟩, ?_⟩, ?_⟩, ?_⟩, ?_⟩, ?_⟩
  · exact o_run 0 [0] [] (fun _ _ => [nb ρ1 0, nb ρ1 0, nb ρ1 0, nb ρ1 0]) (fun _ _ => by kernel_rfl)
  · exact o_run 1 [2] [] (fun _ _ => [nb ρ1 2, nb ρ1 2, nb ρ1 2, nb ρ1 2]) (fun _ _ => by kernel_rfl)
  · exact o_call 2 85 (fun _ => #[(U a), (U m)]) (fun _ => (U (redN a m))) (fun _ _ => by kernel_rfl) (fun _ w => (fun w => rreduce_any a m w ha hm) w)
  · exact o_run 3 [1] [] (fun _ _ => [nb ρ1 1, nb ρ1 1, nb ρ1 1, nb ρ1 1]) (fun _ _ => by kernel_rfl)
  · exact o_run 4 [2] [] (fun _ _ => [nb ρ1 2, nb ρ1 2, nb ρ1 2, nb ρ1 2]) (fun _ _ => by kernel_rfl)
  · exact o_call 5 85 (fun _ => #[(U b), (U m)]) (fun _ => (U (redN b m))) (fun _ _ => by kernel_rfl) (fun _ w => (fun w => rreduce_any b m w hb hm) w)
  · exact o_run 6 [0] [] (fun _ _ => [nb ρ1 0, nb ρ1 0, nb ρ1 0, nb ρ1 0]) (fun _ _ => by kernel_rfl)
  · exact o_run 7 [1] [] (fun _ _ => [nb ρ1 1, nb ρ1 1, nb ρ1 1, nb ρ1 1]) (fun _ _ => by kernel_rfl)
theorem rsubmod_w_r5 (a : Nat) (b : Nat) (m : Nat) (ha : a < M) (hb : b < M) (ρ1 : Nat → Orc) (w0 : World) (F : World → Prop) : Reg Tryd.prog 4 (regOps Tryd.f87 4) false 32 [(3, (pt (nb ρ1 0))), (4, (pt (nb ρ1 1))), (5, (pt (nb ρ1 2))), (6, (pt (nb ρ1 3)))] w0 [(nb ρ1 0, (.cells (cU (redN a m)) 24 (0, 0))), (nb ρ1 1, (.cells (cU (redN b m)) 24 (0, 0))), (nb ρ1 2, (.cells (cU m) 24 (0, 0))), (nb ρ1 3, (.cells (cU 0) 24 (0, 0)))] F
    (fun ρ => [(5, (pt (nb ρ1 2))), (6, (pt (nb ρ1 3))), (7, (pt (nb ρ 6))), (8, (.bool (decide ((redN a m) < (redN b m)))))])
    (fun ρ => [(nb ρ1 0, (.cells (cU (redN a m)) 24 (0, 0))), (nb ρ1 1, (.cells (cU (redN b m)) 24 (0, 0))), (nb ρ1 2, (.cells (cU m) 24 (0, 0))), (nb ρ1 3, (.cells (cU 0) 24 (0, 0))), (nb ρ 6, (.cells (cU (((redN a m) + M - (redN b m)) % M)) 24 (0, 0)))]) := by
  refine reg_seq [0, 1, 3, 7, 15, 31, 63, 127, 255] [5, 6, 7, 8] 9
    (fun ρ ι => ([(U (redN a m)), (U (redN b m)), (.tuple #[(U (((redN a m) + M - (redN b m)) % M)), (.bool (decide ((redN a m) < (redN b m))))]), (.tuple #[(U (((redN a m) + M - (redN b m)) % M)), (.bool (decide ((redN a m) < (redN b m))))]), (U (((redN a m) + M - (redN b m)) % M)), (.bool (decide ((redN a m) < (redN b m)))), (pt (nb ρ 6)), undef, (.bool (decide ((redN a m) < (redN b m))))] : List Value).getD ι undef)
    (fun ρ ι => ([{}, {}, {}, {}, {}, {}, { news := [(nb ρ 6, (.cells (cU 0) 24 (0, 0)))] }, { puts := [(52, (.cells (cU (((redN a m) + M - (redN b m)) % M)) 24 (0, 0)))] }, {}] : List Eff).getD ι {})
    (by kernel_rfl) (by kernel_rfl) (fun _ => by kernel_rfl) (fun _ => by kernel_rfl) ⟨⟨⟨⟨⟨⟨⟨⟨⟨trivial, ?_⟩, ?_⟩, ?_⟩, ?_⟩, ?_⟩, ?_⟩, ?_⟩, ?_⟩, ?_⟩
  · exact o_run 0 [0] [] (fun _ _ => [nb ρ1 0, nb ρ1 0, nb ρ1 0, nb ρ1 0]) (fun _ _ => by kernel_rfl)
  · exact o_run 1 [1] [] (fun _ _ => [nb ρ1 1, nb ρ1 1, nb ρ1 1, nb ρ1 1]) (fun _ _ => by kernel_rfl)
  · exact o_call 2 60 (fun _ => #[(U (redN a m)), (U (redN b m))]) (fun _ => (.tuple #[(U (((redN a m) + M - (redN b m)) % M)), (.bool (decide ((redN a m) < (redN b m))))])) (fun _ _ => by kernel_rfl) (fun _ w => (fun w => rsub_any (redN a m) (redN b m) w (redN_lt ha) (redN_lt hb)) w)
  · exact o_run 3 [] [] (fun _ _ => []) (fun _ _ => by kernel_rfl)
  · exact o_run 4 [] [] (fun _ _ => []) (fun _ _ => by kernel_rfl)
  · exact o_run 5 [] [] (fun _ _ => []) (fun _ _ => by kernel_rfl)
  · exact o_run 6 [] [] (fun _ _ => []) (fun _ _ => by kernel_rfl)
  · exact o_run 7 [52] [] (fun ρ _ => [nb ρ 6, nb ρ 6, nb ρ 6, nb ρ 6]) (fun _ _ => by kernel_rfl)
  · exact o_run 8 [] [] (fun _ _ => []) (fun _ _ => by kernel_rfl)
theorem rsubmod_w_r6 (a : Nat) (b : Nat) (m : Nat) (ρ1 : Nat → Orc) (ρ5 : Nat → Orc) (w0 : World) (F : World → Prop) : Reg Tryd.prog 5 (regOps Tryd.f87 5) false 32 [(5, (pt (nb ρ1 2))), (6, (pt (nb ρ1 3))), (7, (pt (nb ρ5 6))), (8, (.bool (decide ((redN a m) < (redN b m)))))] w0 [(nb ρ1 0, (.cells (cU (redN a m)) 24 (0, 0))), (nb ρ1 1, (.cells (cU (redN b m)) 24 (0, 0))), (nb ρ1 2, (.cells (cU m) 24 (0, 0))), (nb ρ1 3, (.cells (cU 0) 24 (0, 0))), (nb ρ5 6, (.cells (cU (((redN a m) + M - (redN b m)) % M)) 24 (0, 0)))] F
    (fun _ => [(5, (pt (nb ρ1 2))), (6, (pt (nb ρ1 3))), (7, (pt (nb ρ5 6))), (24, (.bool (decide ((redN a m) < (redN b m)))))])
    (fun _ => [(nb ρ1 0, (.cells (cU (redN a m)) 24 (0, 0))), (nb ρ1 1, (.cells (cU (redN b m)) 24 (0, 0))), (nb ρ1 2, (.cells (cU m) 24 (0, 0))), (nb ρ1 3, (.cells (cU 0) 24 (0, 0))), (nb ρ5 6, (.cells (cU (((redN a m) + M - (redN b m)) % M)) 24 (0, 0)))]) := by
  refine reg_seq [0] [5, 6, 7, 24] 1
    (fun _ ι => ([(.bool (decide ((redN a m) < (redN b m))))] : List Value).getD ι undef)
    (fun _ ι => ([{}] : List Eff).getD ι {})
    (by kernel_rfl) (by kernel_rfl) (fun _ => by kernel_rfl) (fun _ => by kernel_rfl) ⟨trivial, ?_⟩
  · exact o_run 0 [] [] (fun _ _ => []) (fun _ _ => by kernel_rfl)
theorem rsubmod_w_r7 (a : Nat) (b : Nat) (m : Nat) (hm : m < M) (ρ1 : Nat → Orc) (ρ5 : Nat → Orc) (w0 : World) (F : World → Prop) : Reg Tryd.prog 6 (regOps Tryd.f87 6) false 32 [(5, (pt (nb ρ1 2))), (6, (pt (nb ρ1 3))), (7, (pt (nb ρ5 6))), (24, (.bool true))] w0 [(nb ρ1 0, (.cells (cU (redN a m)) 24 (0, 0))), (nb ρ1 1, (.cells (cU (redN b m)) 24 (0, 0))), (nb ρ1 2, (.cells (cU m) 24 (0, 0))), (nb ρ1 3, (.cells (cU 0) 24 (0, 0))), (nb ρ5 6, (.cells (cU (((redN a m) + M - (redN b m)) % M)) 24 (0, 0)))] F
    (fun _ => [(6, (pt (nb ρ1 3))), (7, (pt (nb ρ5 6)))])
    (fun _ => [(nb ρ1 0, (.cells (cU (redN a m)) 24 (0, 0))), (nb ρ1 1, (.cells (cU (redN b m)) 24 (0, 0))), (nb ρ1 2, (.cells (cU m) 24 (0, 0))), (nb ρ1 3, (.cells (cU 0) 24 (0, 0))), (nb ρ5 6, (.cells (cU (((((redN a m) + M - (redN b m)) % M) + m) % M)) 24 (0, 0)))]) := by
  refine reg_seq [0, 1, 3, 7, 15, 31, 63] [6, 7] 7
    (fun _ ι => ([(U (((redN a m) + M - (redN b m)) % M)), (U m), (.tuple #[(U (((((redN a m) + M - (redN b m)) % M) + m) % M)), (.bool (decide (M ≤ (((redN a m) + M - (redN b m)) % M) + m)))]), (.tuple #[(U (((((redN a m) + M - (redN b m)) % M) + m) % M)), (.bool (decide (M ≤ (((redN a m) + M - (redN b m)) % M) + m)))]), (U (((((redN a m) + M - (redN b m)) % M) + m) % M)), (.bool (decide (M ≤ (((redN a m) + M - (redN b m)) % M) + m))), undef] : List Value).getD ι undef)
    (fun _ ι => ([{}, {}, {}, {}, {}, {}, { puts := [(4, (.cells (cU (((((redN a m) + M - (redN b m)) % M) + m) % M)) 24 (0, 0)))] }] : List Eff).getD ι {})
    (by kernel_rfl) (by kernel_rfl) (fun _ => by kernel_rfl) (fun _ => by kernel_rfl) ⟨⟨⟨⟨⟨⟨⟨trivial, ?_⟩, ?_⟩, ?_⟩, ?_⟩, ?_⟩, ?_⟩, ?_⟩
  · exact o_run 0 [4] [] (fun _ _ => [nb ρ5 6, nb ρ5 6, nb ρ5 6, nb ρ5 6]) (fun _ _ => by kernel_rfl)
  · exact o_run 1 [2] [] (fun _ _ => [nb ρ1 2, nb ρ1 2, nb ρ1 2, nb ρ1 2]) (fun _ _ => by kernel_rfl)
  · exact o_call 2 86 (fun _ => #[(U (((redN a m) + M - (redN b m)) % M)), (U m)]) (fun _ => (.tuple #[(U (((((redN a m) + M - (redN b m)) % M) + m) % M)), (.bool (decide (M ≤ (((redN a m) + M - (redN b m)) % M) + m)))])) (fun _ _ => by kernel_rfl) (fun _ w => (fun w => radd_any (((redN a m) + M - (redN b m)) % M) m w (modM_lt _) hm) w)
  · exact o_run 3 [] [] (fun _ _ => []) (fun _ _ => by kernel_rfl)
  · exact o_run 4 [] [] (fun _ _ => []) (fun _ _ => by kernel_rfl)
  · exact o_run 5 [] [] (fun _ _ => []) (fun _ _ => by kernel_rfl)
  · exact o_run 6 [4] [] (fun _ _ => [nb ρ5 6, nb ρ5 6, nb ρ5 6, nb ρ5 6]) (fun _ _ => by kernel_rfl)
theorem rsubmod_w_r8 (a : Nat) (b : Nat) (m : Nat) (ρ1 : Nat → Orc) (ρ5 : Nat → Orc) (w0 : World) (F : World → Prop) : Reg Tryd.prog 7 (regOps Tryd.f87 7) false 32 [(6, (pt (nb ρ1 3))), (7, (pt (nb ρ5 6)))] w0 [(nb ρ1 0, (.cells (cU (redN a m)) 24 (0, 0))), (nb ρ1 1, (.cells (cU (redN b m)) 24 (0, 0))), (nb ρ1 2, (.cells (cU m) 24 (0, 0))), (nb ρ1 3, (.cells (cU 0) 24 (0, 0))), (nb ρ5 6, (.cells (cU (((((redN a m) + M - (redN b m)) % M) + m) % M)) 24 (0, 0)))] F
    (fun _ => [(6, (pt (nb ρ1 3)))])
    (fun _ => [(nb ρ1 0, (.cells (cU (redN a m)) 24 (0, 0))), (nb ρ1 1, (.cells (cU (redN b m)) 24 (0, 0))), (nb ρ1 2, (.cells (cU m) 24 (0, 0))), (nb ρ1 3, (.cells (cU (((((redN a m) + M - (redN b m)) % M) + m) % M)) 24 (0, 0))), (nb ρ5 6, (.cells (cU (((((redN a m) + M - (redN b m)) % M) + m) % M)) 24 (0, 0)))]) := by
  refine reg_seq [0, 1] [6] 2
    (fun _ ι => ([(U (((((redN a m) + M - (redN b m)) % M) + m) % M)), undef] : List Value).getD ι undef)
    (fun _ ι => ([{}, { puts := [(3, (.cells (cU (((((redN a m) + M - (redN b m)) % M) + m) % M)) 24 (0, 0)))] }] : List Eff).getD ι {})
    (by kernel_rfl) (by kernel_rfl) (fun _ => by kernel_rfl) (fun _ => by kernel_rfl) ⟨⟨trivial, ?_⟩, ?_⟩
  · exact o_run 0 [4] [] (fun _ _ => [nb ρ5 6, nb ρ5 6, nb ρ5 6, nb ρ5 6]) (fun _ _ => by kernel_rfl)
  · exact o_run 1 [3] [] (fun _ _ => [nb ρ1 3, nb ρ1 3, nb ρ1 3, nb ρ1 3]) (fun _ _ => by kernel_rfl)
theorem rsubmod_w_r9 (a : Nat) (b : Nat) (m : Nat) (ρ1 : Nat → Orc) (ρ5 : Nat → Orc) (w0 : World) (F : World → Prop) : Reg Tryd.prog 7 (regOps Tryd.f87 7) false 32 [(5, (pt (nb ρ1 2))), (6, (pt (nb ρ1 3))), (7, (pt (nb ρ5 6))), (24, (.bool false))] w0 [(nb ρ1 0, (.cells (cU (redN a m)) 24 (0, 0))), (nb ρ1 1, (.cells (cU (redN b m)) 24 (0, 0))), (nb ρ1 2, (.cells (cU m) 24 (0, 0))), (nb ρ1 3, (.cells (cU 0) 24 (0, 0))), (nb ρ5 6, (.cells (cU (((redN a m) + M - (redN b m)) % M)) 24 (0, 0)))] F
    (fun _ => [(6, (pt (nb ρ1 3)))])
    (fun _ => [(nb ρ1 0, (.cells (cU (redN a m)) 24 (0, 0))), (nb ρ1 1, (.cells (cU (redN b m)) 24 (0, 0))), (nb ρ1 2, (.cells (cU m) 24 (0, 0))), (nb ρ1 3, (.cells (cU (((redN a m) + M - (redN b m)) % M)) 24 (0, 0))), (nb ρ5 6, (.cells (cU (((redN a m) + M - (redN b m)) % M)) 24 (0, 0)))]) := by
  refine reg_seq [0, 1] [6] 2
    (fun _ ι => ([(U (((redN a m) + M - (redN b m)) % M)), undef] : List Value).getD ι undef)
    (fun _ ι => ([{}, { puts := [(3, (.cells (cU (((redN a m) + M - (redN b m)) % M)) 24 (0, 0)))] }] : List Eff).getD ι {})
    (by kernel_rfl) (by kernel_rfl) (fun _ => by kernel_rfl) (fun _ => by kernel_rfl) ⟨⟨trivial, ?_⟩, ?_⟩
  · exact o_run 0 [4] [] (fun _ _ => [nb ρ5 6, nb ρ5 6, nb ρ5 6, nb ρ5 6]) (fun _ _ => by kernel_rfl)
  · exact o_run 1 [3] [] (fun _ _ => [nb ρ1 3, nb ρ1 3, nb ρ1 3, nb ρ1 3]) (fun _ _ => by kernel_rfl)
theorem rsubmod_w (a : Nat) (b : Nat) (m : Nat) (ha : a < M) (hb : b < M) (hm : m < M) (w0 : World) : Calls Tryd.prog 87 #[(U a), (U b), (U m)] w0 (fun ε w' => ε = .returned (U (submN a b m)) ∧ Below w0.heap.size w0 w') := by
  refine Calls.of_ok (n := 32) (F := (fun _ => True)) Tryd.func87 rfl rfl rfl (by simp) (persTrue (fun _ => trivial)) ?_
  refine ok_seq_r (by kernel_rfl) (rsubmod_w_r1 a b m _ _) (fun ρ1 => ?_)
  refine ok_seq ?_
  refine ok_seq_r (by kernel_rfl) (rsubmod_w_r2 a b m hm ρ1 _ _) (fun _ => ?_)
  refine ok_cond (b := decide (m = 0)) (by kernel_rfl) (fun hb1 => ?_) (fun hb1 => ?_)
  ·
    rw [hb1]
    refine ok_seq_r (by kernel_rfl) (rsubmod_w_r3 a b m ρ1 _ _) (fun _ => ?_)
    refine ok_ret ?_
    refine mt_then_r ?_
    exact meets_ret (v := (U m)) [3, 3, 3, 3] (dup [nb ρ1 3, nb ρ1 3, nb ρ1 3, nb ρ1 3]) (by kernel_rfl) (by kernel_rfl) (eqs_dup _) (fun _ hS => ⟨congrArg (fun x => Ending.returned (U x)) (subm_0' hb1), hS.below⟩)
  ·
    rw [hb1]
    refine ok_skip ?_
    refine mt_then ?_
    refine ok_seq_r (by kernel_rfl) (rsubmod_w_r4 a b m ha hb hm ρ1 _ _) (fun _ => ?_)
    refine ok_seq_r (by kernel_rfl) (rsubmod_w_r5 a b m ha hb ρ1 _ _) (fun ρ5 => ?_)
    refine ok_seq ?_
    refine ok_seq_r (by kernel_rfl) (rsubmod_w_r6 a b m ρ1 ρ5 _ _) (fun _ => ?_)
    refine ok_cond (b := decide ((redN a m) < (redN b m))) (by kernel_rfl) (fun hb2 => ?_) (fun hb2 => ?_)
    ·
      rw [hb2]
      refine ok_r (by kernel_rfl) (rsubmod_w_r7 a b m hm ρ1 ρ5 _ _) (fun _ => ?_)
      refine mt_then ?_
      refine ok_seq_r (by kernel_rfl) (rsubmod_w_r8 a b m ρ1 ρ5 _ _) (fun _ => ?_)
      refine ok_ret ?_
      exact meets_ret (v := (U (((((redN a m) + M - (redN b m)) % M) + m) % M))) [3, 3, 3, 3] (dup [nb ρ1 3, nb ρ1 3, nb ρ1 3, nb ρ1 3]) (by kernel_rfl) (by kernel_rfl) (eqs_dup _) (fun _ hS => ⟨congrArg (fun x => Ending.returned (U x)) (subm_t hm hb1 hb2), hS.below⟩)
    ·
      rw [hb2]
      refine ok_skip ?_
      refine mt_then ?_
      refine ok_seq_r (by kernel_rfl) (rsubmod_w_r9 a b m ρ1 ρ5 _ _) (fun _ => ?_)
      refine ok_ret ?_
      exact meets_ret (v := (U (((redN a m) + M - (redN b m)) % M))) [3, 3, 3, 3] (dup [nb ρ1 3, nb ρ1 3, nb ρ1 3, nb ρ1 3]) (by kernel_rfl) (by kernel_rfl) (eqs_dup _) (fun _ hS => ⟨congrArg (fun x => Ending.returned (U x)) (subm_f hm hb1 hb2), hS.below⟩)
theorem rsubmod_any (a b m : Nat) (w0 : World) (ha : a < M) (hb : b < M) (hm : m < M) : Calls Tryd.prog 87 #[U a, U b, U m] w0 (fun ε w' => ε = .returned (U (submN a b m)) ∧ Below w0.heap.size w0 w') := rsubmod_w a b m ha hb hm w0
theorem rmulmod_w_r1 (a : Nat) (b : Nat) (m : Nat) (w0 : World) (F : World → Prop) : Reg Tryd.prog 0 (regOps Tryd.f80 0) false 34 [(0, (U a)), (1, (U b)), (2, (U m))] w0 [] F
    (fun ρ => [(3, (pt (nb ρ 0))), (4, (pt (nb ρ 1))), (5, (pt (nb ρ 2))), (6, (pt (nb ρ 3)))])
    (fun ρ => [(nb ρ 0, (.cells (cU a) 24 (0, 0))), (nb ρ 1, (.cells (cU b) 24 (0, 0))), (nb ρ 2, (.cells (cU m) 24 (0, 0))), (nb ρ 3, (.cells (cU 0) 24 (0, 0)))]) := by
  refine reg_seq [0, 1, 3, 7] [3, 4, 5, 6] 4
    (fun ρ ι => ([(pt (nb ρ 0)), (pt (nb ρ 1)), (pt (nb ρ 2)), (pt (nb ρ 3))] : List Value).getD ι undef)
    (fun ρ ι => ([{ news := [(nb ρ 0, (.cells (cU a) 24 (0, 0)))] }, { news := [(nb ρ 1, (.cells (cU b) 24 (0, 0)))] }, { news := [(nb ρ 2, (.cells (cU m) 24 (0, 0)))] }, { news := [(nb ρ 3, (.cells (cU 0) 24 (0, 0)))] }] : List Eff).getD ι {})
    (by kernel_rfl) (by kernel_rfl) (fun _ => by kernel_rfl) (fun _ => by kernel_rfl) ⟨⟨⟨⟨trivial, ?_⟩, ?_⟩, ?_⟩, ?_⟩
  · exact o_run 0 [] [] (fun _ _ => []) (fun _ _ => by kernel_rfl)
  · exact o_run 1 [] [] (fun _ _ => []) (fun _ _ => by kernel_rfl)
  · exact o_run 2 [] [] (fun _ _ => []) (fun _ _ => by kernel_rfl)
  · exact o_run 3 [] [] (fun _ _ => []) (fun _ _ => by kernel_rfl)
theorem rmulmod_w_r2 (a : Nat) (b : Nat) (m : Nat) (hm : m < M) (ρ1 : Nat → Orc) (w0 : World) (F : World → Prop) : Reg Tryd.prog 1 (regOps Tryd.f80 1) false 34 [(3, (pt (nb ρ1 0))), (4, (pt (nb ρ1 1))), (5, (pt (nb ρ1 2))), (6, (pt (nb ρ1 3)))] w0 [(nb ρ1 0, (.cells (cU a) 24 (0, 0))), (nb ρ1 1, (.cells (cU b) 24 (0, 0))), (nb ρ1 2, (.cells (cU m) 24 (0, 0))), (nb ρ1 3, (.cells (cU 0) 24 (0, 0)))] F
    (fun _ => [(3, (pt (nb ρ1 0))), (4, (pt (nb ρ1 1))), (5, (pt (nb ρ1 2))), (6, (pt (nb ρ1 3))), (13, (.bool (decide (m = 0))))])
    (fun _ => [(nb ρ1 0, (.cells (cU a) 24 (0, 0))), (nb ρ1 1, (.cells (cU b) 24 (0, 0))), (nb ρ1 2, (.cells (cU m) 24 (0, 0))), (nb ρ1 3, (.cells (cU 0) 24 (0, 0)))]) := by
  refine reg_seq [0, 1] [3, 4, 5, 6, 13] 2
    (fun _ ι => ([(U m), (.bool (decide (m = 0)))] : List Value).getD ι undef)
    (fun _ ι => ([{}, {}] : List Eff).getD ι {})
    (by kernel_rfl) (by kernel_rfl) (fun _ => by kernel_rfl) (fun _ => by kernel_rfl) ⟨⟨trivial, ?_⟩, ?_⟩
  · exact o_run 0 [2] [] (fun _ _ => [nb ρ1 2, nb ρ1 2, nb ρ1 2, nb ρ1 2]) (fun _ _ => by kernel_rfl)
  · exact o_call 1 50 (fun _ => #[(U m)]) (fun _ => (.bool (decide (m = 0)))) (fun _ _ => by kernel_rfl) (fun _ w => (fun w => rzero_any m w hm) w)
theorem rmulmod_w_r3 (a : Nat) (b : Nat) (m : Nat) (ρ1 : Nat → Orc) (w0 : World) (F : World → Prop) : Reg Tryd.prog 2 (regOps Tryd.f80 2) false 34 [(3, (pt (nb ρ1 0))), (4, (pt (nb ρ1 1))), (5, (pt (nb ρ1 2))), (6, (pt (nb ρ1 3))), (13, (.bool true))] w0 [(nb ρ1 0, (.cells (cU a) 24 (0, 0))), (nb ρ1 1, (.cells (cU b) 24 (0, 0))), (nb ρ1 2, (.cells (cU m) 24 (0, 0))), (nb ρ1 3, (.cells (cU 0) 24 (0, 0)))] F
    (fun _ => [(3, (pt (nb ρ1 0))), (4, (pt (nb ρ1 1))), (5, (pt (nb ρ1 2))), (6, (pt (nb ρ1 3)))])
    (fun _ => [(nb ρ1 0, (.cells (cU a) 24 (0, 0))), (nb ρ1 1, (.cells (cU b) 24 (0, 0))), (nb ρ1 2, (.cells (cU m) 24 (0, 0))), (nb ρ1 3, (.cells (cU m) 24 (0, 0)))]) := by
  refine reg_seq [0, 1] [3, 4, 5, 6] 2
    (fun _ ι => ([(U m), undef] : List Value).getD ι undef)
    (fun _ ι => ([{}, { puts := [(3, (.cells (cU m) 24 (0, 0)))] }] : List Eff).getD ι {})
    (by kernel_rfl) (by kernel_rfl) (fun _ => by kernel_rfl) (fun _ => by kernel_rfl) ⟨⟨trivial, ?_⟩, ?_⟩
  · exact o_run 0 [2] [] (fun _ _ => [nb ρ1 2, nb ρ1 2, nb ρ1 2, nb ρ1 2]) (fun _ _ => by kernel_rfl)
  · exact o_run 1 [3] [] (fun _ _ => [nb ρ1 3, nb ρ1 3, nb ρ1 3, nb ρ1 3]) (fun _ _ => by kernel_rfl)
theorem rmulmod_w_r4 (a : Nat) (b : Nat) (m : Nat) (ha : a < M) (hb : b < M) (hm : m < M) (ρ1 : Nat → Orc) (w0 : World) (F : World → Prop) : Reg Tryd.prog 3 (regOps Tryd.f80 3) true 34 [(3, (pt (nb ρ1 0))), (4, (pt (nb ρ1 1))), (5, (pt (nb ρ1 2))), (6, (pt (nb ρ1 3))), (13, (.bool false))] w0 [(nb ρ1 0, (.cells (cU a) 24 (0, 0))), (nb ρ1 1, (.cells (cU b) 24 (0, 0))), (nb ρ1 2, (.cells (cU m) 24 (0, 0))), (nb ρ1 3, (.cells (cU 0) 24 (0, 0)))] F
    (fun ρ => [(5, (pt (nb ρ1 2))), (6, (pt (nb ρ1 3))), (7, (pt (nb ρ 10))), (8, (pt (nb ρ 11)))])
    (fun ρ => [(nb ρ1 0, (.cells (cU a) 24 (0, 0))), (nb ρ1 1, (.cells (cU b) 24 (0, 0))), (nb ρ1 2, (.cells (cU m) 24 (0, 0))), (nb ρ1 3, (.cells (cU 0) 24 (0, 0))), (nb ρ 10, (.cells (cU (((redN a m) * (redN b m)) / M)) 24 (0, 0))), (nb ρ 11, (.cells (cU (((redN a m) * (redN b m)) % M)) 24 (0, 0)))]) := by
  refine reg_drawn [0, 0, 3, 0, 0, 31, 63, 127, 255, 255, 0, 0, 3583, 8191] [5, 6, 7, 8] 14
    (fun ρ ι => ([(U a), (U m), (U (redN a m)), (U b), (U m), (U (redN b m)), (.tuple #[(U (((redN a m) * (redN b m)) / M)), (U (((redN a m) * (redN b m)) % M))]), (.tuple #[(U (((redN a m) * (redN b m)) / M)), (U (((redN a m) * (redN b m)) % M))]), (U (((redN a m) * (redN b m)) / M)), (U (((redN a m) * (redN b m)) % M)), (pt (nb ρ 10)), (pt (nb ρ 11)), undef, undef] : List Value).getD ι undef)
    (fun ρ ι => ([{}, {}, {}, {}, {}, {}, {}, {}, {}, {}, { news := [(nb ρ 10, (.cells (cU 0) 24 (0, 0)))] }, { news := [(nb ρ 11, (.cells (cU 0) 24 (0, 0)))] }, { puts := [(84, (.cells (cU (((redN a m) * (redN b m)) / M)) 24 (0, 0)))] }, { puts := [(92, (.cells (cU (((redN a m) * (redN b m)) % M)) 24 (0, 0)))] }] : List Eff).getD ι {})
    (by kernel_rfl) (by kernel_rfl) (by kernel_rfl) (fun _ => by kernel_rfl) (fun _ => by kernel_rfl) ⟨⟨⟨⟨⟨⟨⟨⟨⟨⟨⟨⟨⟨⟨trivial, ?_⟩, ?_⟩, ?_⟩, ?_⟩, ?_⟩, ?_⟩, ?_⟩, ?_⟩, ?_⟩, ?_⟩, ?_⟩, ?_⟩, ?_⟩, ?_⟩
  · exact o_run 0 [0] [] (fun _ _ => [nb ρ1 0, nb ρ1 0, nb ρ1 0, nb ρ1 0]) (fun _ _ => by kernel_rfl)
  · exact o_run 1 [2] [] (fun _ _ => [nb ρ1 2, nb ρ1 2, nb ρ1 2, nb ρ1 2]) (fun _ _ => by kernel_rfl)
  · exact o_call 2 85 (fun _ => #[(U a), (U m)]) (fun _ => (U (redN a m))) (fun _ _ => by kernel_rfl) (fun _ w => (fun w => rreduce_any a m w ha hm) w)
  · exact o_run 3 [1] [] (fun _ _ => [nb ρ1 1, nb ρ1 1, nb ρ1 1, nb ρ1 1]) (fun _ _ => by kernel_rfl)
  · exact o_run 4 [2] [] (fun _ _ => [nb ρ1 2, nb ρ1 2, nb ρ1 2, nb ρ1 2]) (fun _ _ => by kernel_rfl)
  · exact o_call 5 85 (fun _ => #[(U b), (U m)]) (fun _ => (U (redN b m))) (fun _ _ => by kernel_rfl) (fun _ w => (fun w => rreduce_any b m w hb hm) w)
  · exact o_call 6 97 (fun _ => #[(U (redN a m)), (U (redN b m))]) (fun _ => (.tuple #[(U (((redN a m) * (redN b m)) / M)), (U (((redN a m) * (redN b m)) % M))])) (fun _ _ => by kernel_rfl) (fun _ w => (fun w => rmul_any (redN a m) (redN b m) w (redN_lt ha) (redN_lt hb)) w)
  · exact o_run 7 [] [] (fun _ _ => []) (fun _ _ => by kernel_rfl)
  · exact o_run 8 [] [] (fun _ _ => []) (fun _ _ => by kernel_rfl)
  · exact o_run 9 [] [] (fun _ _ => []) (fun _ _ => by kernel_rfl)
  · exact o_run 10 [] [] (fun _ _ => []) (fun _ _ => by kernel_rfl)
  · exact o_run 11 [] [] (fun _ _ => []) (fun _ _ => by kernel_rfl)
  · exact o_run 12 [84] [] (fun ρ _ => [nb ρ 10, nb ρ 10, nb ρ 10, nb ρ 10]) (fun _ _ => by kernel_rfl)
  · exact o_run 13 [92] [] (fun ρ _ => [nb ρ 11, nb ρ 11, nb ρ 11, nb ρ 11]) (fun _ _ => by kernel_rfl)
theorem rmulmod_w_r5 (a : Nat) (b : Nat) (m : Nat) (ha : a < M) (hb : b < M) (hm : m < M) (ρ1 : Nat → Orc) (ρ4 : Nat → Orc) (w0 : World) (F : World → Prop) : Reg Tryd.prog 4 (regOps Tryd.f80 4) false 34 [(5, (pt (nb ρ1 2))), (6, (pt (nb ρ1 3))), (7, (pt (nb ρ4 10))), (8, (pt (nb ρ4 11)))] w0 [(nb ρ1 0, (.cells (cU a) 24 (0, 0))), (nb ρ1 1, (.cells (cU b) 24 (0, 0))), (nb ρ1 2, (.cells (cU m) 24 (0, 0))), (nb ρ1 3, (.cells (cU 0) 24 (0, 0))), (nb ρ4 10, (.cells (cU (((redN a m) * (redN b m)) / M)) 24 (0, 0))), (nb ρ4 11, (.cells (cU (((redN a m) * (redN b m)) % M)) 24 (0, 0)))] F
    (fun ρ => [(6, (pt (nb ρ1 3))), (10, (pt (nb ρ 9)))])
    (fun ρ => [(nb ρ1 0, (.cells (cU a) 24 (0, 0))), (nb ρ1 1, (.cells (cU b) 24 (0, 0))), (nb ρ1 2, (.cells (cU m) 24 (0, 0))), (nb ρ1 3, (.cells (cU 0) 24 (0, 0))), (nb ρ4 10, (.cells (cU (((redN a m) * (redN b m)) / M)) 24 (0, 0))), (nb ρ4 11, (.cells (cU (((redN a m) * (redN b m)) % M)) 24 (0, 0))), (nb ρ 8, (.cells (cU (divQ (((redN a m) * (redN b m)) / M) (((redN a m) * (redN b m)) % M) m)) 24 (0, 0))), (nb ρ 9, (.cells (cU (divR (((redN a m) * (redN b m)) / M) (((redN a m) * (redN b m)) % M) m)) 24 (0, 0)))]) := by
  refine reg_seq [0, 1, 3, 7, 15, 31, 63, 127, 255, 511, 1023, 2047, 4095] [6, 10] 13
    (fun ρ ι => ([(U (((redN a m) * (redN b m)) / M)), (U (((redN a m) * (redN b m)) % M)), (U m), (.tuple #[(U (divQ (((redN a m) * (redN b m)) / M) (((redN a m) * (redN b m)) % M) m)), (U (divR (((redN a m) * (redN b m)) / M) (((redN a m) * (redN b m)) % M) m)), (.bool (decide ((((redN a m) * (redN b m)) / M) < m)))]), (.tuple #[(U (divQ (((redN a m) * (redN b m)) / M) (((redN a m) * (redN b m)) % M) m)), (U (divR (((redN a m) * (redN b m)) / M) (((redN a m) * (redN b m)) % M) m)), (.bool (decide ((((redN a m) * (redN b m)) / M) < m)))]), (U (divQ (((redN a m) * (redN b m)) / M) (((redN a m) * (redN b m)) % M) m)), (U (divR (((redN a m) * (redN b m)) / M) (((redN a m) * (redN b m)) % M) m)), (.bool (decide ((((redN a m) * (redN b m)) / M) < m))), (pt (nb ρ 8)), (pt (nb ρ 9)), undef, undef, (.bool (decide ((((redN a m) * (redN b m)) / M) < m)))] : List Value).getD ι undef)
    (fun ρ ι => ([{}, {}, {}, {}, {}, {}, {}, {}, { news := [(nb ρ 8, (.cells (cU 0) 24 (0, 0)))] }, { news := [(nb ρ 9, (.cells (cU 0) 24 (0, 0)))] }, { puts := [(70, (.cells (cU (divQ (((redN a m) * (redN b m)) / M) (((redN a m) * (redN b m)) % M) m)) 24 (0, 0)))] }, { puts := [(78, (.cells (cU (divR (((redN a m) * (redN b m)) / M) (((redN a m) * (redN b m)) % M) m)) 24 (0, 0)))] }, {}] : List Eff).getD ι {})
    (by kernel_rfl) (by kernel_rfl) (fun _ => by kernel_rfl) (fun _ => by kernel_rfl) ⟨⟨⟨⟨⟨⟨⟨⟨⟨⟨⟨⟨⟨trivial, ?_⟩, ?_⟩, ?_⟩, ?_⟩, ?_⟩, ?_⟩, ?_⟩, ?_⟩, ?_⟩, ?_⟩, ?_⟩, ?_⟩, ?_⟩
  · exact o_run 0 [4] [] (fun _ _ => [nb ρ4 10, nb ρ4 10, nb ρ4 10, nb ρ4 10]) (fun _ _ => by kernel_rfl)
  · exact o_run 1 [5] [] (fun _ _ => [nb ρ4 11, nb ρ4 11, nb ρ4 11, nb ρ4 11]) (fun _ _ => by kernel_rfl)
  · exact o_run 2 [2] [] (fun _ _ => [nb ρ1 2, nb ρ1 2, nb ρ1 2, nb ρ1 2]) (fun _ _ => by kernel_rfl)
  · exact o_call 3 98 (fun _ => #[(U (((redN a m) * (redN b m)) / M)), (U (((redN a m) * (redN b m)) % M)), (U m)]) (fun _ => (.tuple #[(U (divQ (((redN a m) * (redN b m)) / M) (((redN a m) * (redN b m)) % M) m)), (U (divR (((redN a m) * (redN b m)) / M) (((redN a m) * (redN b m)) % M) m)), (.bool (decide ((((redN a m) * (redN b m)) / M) < m)))])) (fun _ _ => by kernel_rfl) (fun _ w => (fun w => rdiv_any (((redN a m) * (redN b m)) / M) (((redN a m) * (redN b m)) % M) m w (mulhi_lt (redN_lt ha) (redN_lt hb)) (modM_lt _) hm) w)
  · exact o_run 4 [] [] (fun _ _ => []) (fun _ _ => by kernel_rfl)
  · exact o_run 5 [] [] (fun _ _ => []) (fun _ _ => by kernel_rfl)
  · exact o_run 6 [] [] (fun _ _ => []) (fun _ _ => by kernel_rfl)
  · exact o_run 7 [] [] (fun _ _ => []) (fun _ _ => by kernel_rfl)
  · exact o_run 8 [] [] (fun _ _ => []) (fun _ _ => by kernel_rfl)
  · exact o_run 9 [] [] (fun _ _ => []) (fun _ _ => by kernel_rfl)
  · exact o_run 10 [70] [] (fun ρ _ => [nb ρ 8, nb ρ 8, nb ρ 8, nb ρ 8]) (fun _ _ => by kernel_rfl)
  · exact o_run 11 [78] [] (fun ρ _ => [nb ρ 9, nb ρ 9, nb ρ 9, nb ρ 9]) (fun _ _ => by kernel_rfl)
  · exact o_run 12 [] [] (fun _ _ => []) (fun _ _ => by kernel_rfl)
theorem rmulmod_w_r6 (a : Nat) (b : Nat) (m : Nat) (ρ1 : Nat → Orc) (ρ4 : Nat → Orc) (ρ5 : Nat → Orc) (w0 : World) (F : World → Prop) : Reg Tryd.prog 5 (regOps Tryd.f80 5) false 34 [(6, (pt (nb ρ1 3))), (10, (pt (nb ρ5 9)))] w0 [(nb ρ1 0, (.cells (cU a) 24 (0, 0))), (nb ρ1 1, (.cells (cU b) 24 (0, 0))), (nb ρ1 2, (.cells (cU m) 24 (0, 0))), (nb ρ1 3, (.cells (cU 0) 24 (0, 0))), (nb ρ4 10, (.cells (cU (((redN a m) * (redN b m)) / M)) 24 (0, 0))), (nb ρ4 11, (.cells (cU (((redN a m) * (redN b m)) % M)) 24 (0, 0))), (nb ρ5 8, (.cells (cU (divQ (((redN a m) * (redN b m)) / M) (((redN a m) * (redN b m)) % M) m)) 24 (0, 0))), (nb ρ5 9, (.cells (cU (divR (((redN a m) * (redN b m)) / M) (((redN a m) * (redN b m)) % M) m)) 24 (0, 0)))] F
    (fun _ => [(6, (pt (nb ρ1 3)))])
    (fun _ => [(nb ρ1 0, (.cells (cU a) 24 (0, 0))), (nb ρ1 1, (.cells (cU b) 24 (0, 0))), (nb ρ1 2, (.cells (cU m) 24 (0, 0))), (nb ρ1 3, (.cells (cU (divR (((redN a m) * (redN b m)) / M) (((redN a m) * (redN b m)) % M) m)) 24 (0, 0))), (nb ρ4 10, (.cells (cU (((redN a m) * (redN b m)) / M)) 24 (0, 0))), (nb ρ4 11, (.cells (cU (((redN a m) * (redN b m)) % M)) 24 (0, 0))), (nb ρ5 8, (.cells (cU (divQ (((redN a m) * (redN b m)) / M) (((redN a m) * (redN b m)) % M) m)) 24 (0, 0))), (nb ρ5 9, (.cells (cU (divR (((redN a m) * (redN b m)) / M) (((redN a m) * (redN b m)) % M) m)) 24 (0, 0)))]) := by
  refine reg_seq [0, 1] [6] 2
    (fun _ ι => ([(U (divR (((redN a m) * (redN b m)) / M) (((redN a m) * (redN b m)) % M) m)), undef] : List Value).getD ι undef)
    (fun _ ι => ([{}, { puts := [(3, (.cells (cU (divR (((redN a m) * (redN b m)) / M) (((redN a m) * (redN b m)) % M) m)) 24 (0, 0)))] }] : List Eff).getD ι {})
    (by kernel_rfl) (by kernel_rfl) (fun _ => by kernel_rfl) (fun _ => by kernel_rfl) ⟨⟨trivial, ?_⟩, ?_⟩
  · exact o_run 0 [7] [] (fun _ _ => [nb ρ5 9, nb ρ5 9, nb ρ5 9, nb ρ5 9]) (fun _ _ => by kernel_rfl)
  · exact o_run 1 [3] [] (fun _ _ => [nb ρ1 3, nb ρ1 3, nb ρ1 3, nb ρ1 3]) (fun _ _ => by kernel_rfl)
theorem rmulmod_w (a : Nat) (b : Nat) (m : Nat) (ha : a < M) (hb : b < M) (hm : m < M) (w0 : World) : Calls Tryd.prog 80 #[(U a), (U b), (U m)] w0 (fun ε w' => ε = .returned (U (mulmN a b m)) ∧ Below w0.heap.size w0 w') := by
  refine Calls.of_ok (n := 34) (F := (fun _ => True)) Tryd.func80 rfl rfl rfl (by simp) (persTrue (fun _ => trivial)) ?_
  refine ok_seq_r (by kernel_rfl) (rmulmod_w_r1 a b m _ _) (fun ρ1 => ?_)
  refine ok_seq ?_
  refine ok_seq_r (by kernel_rfl) (rmulmod_w_r2 a b m hm ρ1 _ _) (fun _ => ?_)
  refine ok_cond (b := decide (m = 0)) (by kernel_rfl) (fun hb1 => ?_) (fun hb1 => ?_)
  ·
    rw [hb1]
    refine ok_seq_r (by kernel_rfl) (rmulmod_w_r3 a b m ρ1 _ _) (fun _ => ?_)
    refine ok_ret ?_
    refine mt_then_r ?_
    exact meets_ret (v := (U m)) [3, 3, 3, 3] (dup [nb ρ1 3, nb ρ1 3, nb ρ1 3, nb ρ1 3]) (by kernel_rfl) (by kernel_rfl) (eqs_dup _) (fun _ hS => ⟨congrArg (fun x => Ending.returned (U x)) (mulm_0' hb1), hS.below⟩)
  ·
    rw [hb1]
    refine ok_skip ?_
    refine mt_then ?_
    refine ok_seq_r (by kernel_rfl) (rmulmod_w_r4 a b m ha hb hm ρ1 _ _) (fun ρ4 => ?_)
    refine ok_seq_r (by kernel_rfl) (rmulmod_w_r5 a b m ha hb hm ρ1 ρ4 _ _) (fun ρ5 => ?_)
    refine ok_seq_r (by kernel_rfl) (rmulmod_w_r6 a b m ρ1 ρ4 ρ5 _ _) (fun _ => ?_)
    refine ok_ret ?_
    exact meets_ret (v := (U (divR (((redN a m) * (redN b m)) / M) (((redN a m) * (redN b m)) % M) m))) [3, 3, 3, 3] (dup [nb ρ1 3, nb ρ1 3, nb ρ1 3, nb ρ1 3]) (by kernel_rfl) (by kernel_rfl) (eqs_dup _) (fun _ hS => ⟨congrArg (fun x => Ending.returned (U x)) (mulm_2 hm hb1), hS.below⟩)
theorem rmulmod_any (a b m : Nat) (w0 : World) (ha : a < M) (hb : b < M) (hm : m < M) : Calls Tryd.prog 80 #[U a, U b, U m] w0 (fun ε w' => ε = .returned (U (mulmN a b m)) ∧ Below w0.heap.size w0 w') := rmulmod_w a b m ha hb hm w0
end Go.Proofs.YtoibhbmcplhiaaaDoor
