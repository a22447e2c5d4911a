/-
  What the walks of this seat share, part 4: the texts of it, one behind the other.
-/
import Derived.Test.YtjdhjkceahaegaaGreatDoorBase3
import Derived.ChangeKeysEq
import Derived.Laws.StructEq
set_option maxRecDepth 100000

/-! Powers modulo a number: the walks. -/
namespace Go.Proofs.YtjdhjkceahaegaaGreatDoor
open Go Go.RowKit

theorem rexpmod_w (a : Nat) (e : Nat) (m : Nat) (ha : a < M) (he : e < M) (hm : m < M) (w0 : World) : Calls Tryz.prog 112 #[(U a), (U e), (U m)] w0 (fun ε w' => ε = .returned (U (expmN a e m)) ∧ Below w0.heap.size w0 w') := by
  refine Calls.of_ok (n := 34) (F := (fun _ => True)) Tryz.func112 rfl rfl rfl (by simp) (persTrue (fun _ => trivial)) ?_
  refine sS Tryz.f112 4 [3, 4, 5, 6] [] (fun ρ => [(pt (nb ρ 0)), (pt (nb ρ 1)), (pt (nb ρ 2)), (pt (nb ρ 3))]) (fun ρ => [(0, { news := [(nb ρ 0, (.cells (cU a) 29 (0, 0)))] }), (1, { news := [(nb ρ 1, (.cells (cU e) 29 (0, 0)))] }), (2, { news := [(nb ρ 2, (.cells (cU m) 29 (0, 0)))] }), (3, { news := [(nb ρ 3, (.cells (cU 0) 29 (0, 0)))] })]) (cR [[], [], [], []] <| cN) (fun ρ1 => ?_)
  refine ok_seq ?_
  refine sS Tryz.f112 2 [3, 4, 5, 6, 10] [] (fun _ => [(U m), (.bool (decide (m = 0)))]) (fun _ => []) (cR [[2]] <| cC (fun _ w => rzero_any m w hm) <| cN) (fun _ => ?_)
  refine oC (decide (m = 0)) (fun hb1 => ?_) (fun hb1 => ?_)
  ·
    rw [hb1]
    refine sS Tryz.f112 2 [3, 4, 5, 6] [] (fun _ => [(U m), undef]) (fun _ => [(1, { puts := [(3, nb ρ1 3, (.cells (cU m) 29 (0, 0)))] })]) (cR [[2], [3]] <| cN) (fun _ => ?_)
    refine ok_ret ?_
    refine mt_then_r ?_
    exact mR (v := (U m)) (ps := [3,3,3,3]) (fun _ hS => ⟨congrArg (fun x => Ending.returned (U x)) (expm_0' hb1), hS.bel⟩)
  ·
    rw [hb1]
    refine ok_skip ?_
    refine mt_then ?_
    refine sD Tryz.f112 [0, 0, 3, 0, 15] 5 [3, 4, 5, 6, 7] [] (fun ρ => [(U 1), (U m), (U (redN 1 m)), (pt (nb ρ 3)), undef]) (fun ρ => [(3, { news := [(nb ρ 3, (.cells (cU 0) 29 (0, 0)))] }), (4, { puts := [(28, nb ρ 3, (.cells (cU (redN 1 m)) 29 (0, 0)))] })]) (cC (fun _ w => rfromuint_lit 1 w (by decide)) <| cR [[2]] <| cC (fun _ w => rreduce_any 1 m w (by decide +kernel) hm) <| cR [[], [28]] <| cN) (fun ρ4 => ?_)
    refine ok_seq ?_
    refine sS Tryz.f112 4 [3, 4, 5, 6, 7, 8] [] (fun _ => [(U e), (.int .i64 ((lenN e : Nat) : Int)), (.int .i64 (((lenN e : Nat) : Int) - 1)), (.int .i64 (((lenN e : Nat) : Int) - 1))]) (fun _ => []) (cR [[1]] <| cC (fun _ w => rlen_any e w he) <| cA (v := fun ρ => (.int .i64 (IntKind.i64.wrap (((lenN e : Nat) : Int) - 1)))) (fun _ => (.int .i64 (((lenN e : Nat) : Int) - 1))) (fun _ => congrArg (Value.int .i64) (wrap_pred (by have := lenN_le e he; omega))) <| cR [[]] <| cN) (fun _ => ?_)
    refine ok_block ?_
    refine oL (σ := Nat × Nat) (fun ⟨k, _⟩ => [(3, (pt (nb ρ1 0))), (4, (pt (nb ρ1 1))), (5, (pt (nb ρ1 2))), (6, (pt (nb ρ1 3))), (7, (pt (nb ρ4 3))), (8, (.int .i64 (((k : Nat) : Int) - 1)))]) (fun ⟨_, p⟩ => [(nb ρ1 0, (.cells (cU a) 29 (0, 0))), (nb ρ1 1, (.cells (cU e) 29 (0, 0))), (nb ρ1 2, (.cells (cU m) 29 (0, 0))), (nb ρ1 3, (.cells (cU 0) 29 (0, 0))), (nb ρ4 3, (.cells (cU p) 29 (0, 0)))]) (fun ⟨k, _⟩ => k)
      (fun ⟨k, p⟩ => (k ≤ 256) ∧ (p = a ^ (e / 2 ^ k) % m)) (lenN e, redN 1 m) (⟨lenN_le e he, exp_start hb1⟩) [] ?_
    rintro ⟨k, p⟩ ⟨hk, hp⟩
    change Ok Tryz.prog _ _ 34 [(3, (pt (nb ρ1 0))), (4, (pt (nb ρ1 1))), (5, (pt (nb ρ1 2))), (6, (pt (nb ρ1 3))), (7, (pt (nb ρ4 3))), (8, (.int .i64 (((k : Nat) : Int) - 1)))] _ [(nb ρ1 0, (.cells (cU a) 29 (0, 0))), (nb ρ1 1, (.cells (cU e) 29 (0, 0))), (nb ρ1 2, (.cells (cU m) 29 (0, 0))), (nb ρ1 3, (.cells (cU 0) 29 (0, 0))), (nb ρ4 3, (.cells (cU p) 29 (0, 0)))] (fun _ => True)
    have hpM : p < M := exp_lt hm hb1 hp
    refine ok_seq ?_
    refine sS Tryz.f112 2 [3, 4, 5, 6, 7, 8, 19] [] (fun _ => [(.int .i64 (((k : Nat) : Int) - 1)), (.bool (decide (0 ≤ (((k : Nat) : Int) - 1))))]) (fun _ => []) (cR [[], []] <| cN) (fun _ => ?_)
    refine oC (decide (0 ≤ (((k : Nat) : Int) - 1))) (fun hb2 => ?_) (fun hb2 => ?_)
    ·
      rw [hb2]
      refine ok_skip ?_
      refine mt_then ?_
      refine ok_seq ?_
      refine ok_block ?_
      refine sS Tryz.f112 5 [3, 4, 5, 6, 7, 8] [] (fun _ => [(U p), (U p), (U m), (U (mulmN p p m)), undef]) (fun _ => [(4, { puts := [(4, nb ρ4 3, (.cells (cU (mulmN p p m)) 29 (0, 0)))] })]) (cR [[4], [4], [2]] <| cC (fun _ w => rmulmod_any p p m w hpM hpM hm) <| cR [[4]] <| cN) (fun _ => ?_)
      refine sS Tryz.f112 3 [3, 4, 5, 6, 7, 8, 28] [] (fun _ => [(U e), (.int .i64 (((k : Nat) : Int) - 1)), (.bool (bitN e (k - 1)))]) (fun _ => []) (cR [[1], []] <| cC (f := 128) (args := fun ρ => #[(U e), (.int .i64 (((k : Nat) : Int) - 1))]) (v := fun ρ => (.bool (bitN e (k - 1)))) (fun _ w => (fun w => rbit_at e (k - 1) _ (by have h1 := of_decide_eq_true hb2; omega) w (by have h1 := of_decide_eq_true hb2; have := hk; omega)) w) <| cN) (fun _ => ?_)
      refine oC (bitN e (k - 1)) (fun hb3 => ?_) (fun hb3 => ?_)
      ·
        rw [hb3]
        refine rS Tryz.f112 5 [3, 4, 5, 6, 7, 8] [] (fun _ => [(U (mulmN p p m)), (U a), (U m), (U (mulmN (mulmN p p m) a m)), undef]) (fun _ => [(4, { puts := [(4, nb ρ4 3, (.cells (cU (mulmN (mulmN p p m) a m)) 29 (0, 0)))] })]) (cR [[4], [0], [2]] <| cC (f := 110) (args := fun ρ => #[(U (mulmN p p m)), (U a), (U m)]) (v := fun ρ => (U (mulmN (mulmN p p m) a m))) (fun _ w => (fun w => rmulmod_any (mulmN p p m) a m w (mulmN_lt _ _ hm) ha hm) w) <| cR [[4]] <| cN) (fun _ => ?_)
        refine mt_block_n ?_
        refine mt_then ?_
        refine rS Tryz.f112 3 [3, 4, 5, 6, 7, 8] [] (fun _ => [(.int .i64 (((k : Nat) : Int) - 1)), (.int .i64 (((k - 1 : Nat) : Int) - 1)), (.int .i64 (((k - 1 : Nat) : Int) - 1))]) (fun _ => []) (cR [[]] <| cA (v := fun ρ => (.int .i64 (IntKind.i64.wrap ((((k : Nat) : Int) - 1) - 1)))) (fun _ => (.int .i64 (((k - 1 : Nat) : Int) - 1))) (fun _ => congrArg (Value.int .i64) (wrap_down (by have h1 := of_decide_eq_true hb2; omega) (by have := hk; omega))) <| cR [[]] <| cN) (fun _ => ?_)
        exact mN (k - 1, mulmN (mulmN p p m) a m) (by show k - 1 < k; have h1 := of_decide_eq_true hb2; omega) (⟨by have := hk; omega, by rw [exp_step1 hp (redN_pos (a := 0) hb1).2.1, half_odd (by have h1 := of_decide_eq_true hb2; omega) hb3]⟩) []
      ·
        rw [hb3]
        refine ok_skip ?_
        refine mt_block_n ?_
        refine mt_then ?_
        refine rS Tryz.f112 3 [3, 4, 5, 6, 7, 8] [] (fun _ => [(.int .i64 (((k : Nat) : Int) - 1)), (.int .i64 (((k - 1 : Nat) : Int) - 1)), (.int .i64 (((k - 1 : Nat) : Int) - 1))]) (fun _ => []) (cR [[]] <| cA (v := fun ρ => (.int .i64 (IntKind.i64.wrap ((((k : Nat) : Int) - 1) - 1)))) (fun _ => (.int .i64 (((k - 1 : Nat) : Int) - 1))) (fun _ => congrArg (Value.int .i64) (wrap_down (by have h1 := of_decide_eq_true hb2; omega) (by have := hk; omega))) <| cR [[]] <| cN) (fun _ => ?_)
        exact mN (k - 1, mulmN p p m) (by show k - 1 < k; have h1 := of_decide_eq_true hb2; omega) (⟨by have := hk; omega, by rw [exp_step hp (redN_pos (a := 0) hb1).2.1, half_even (by have h1 := of_decide_eq_true hb2; omega) hb3]⟩) []
    ·
      rw [hb2]
      refine ok_exit ?_
      refine mt_then_e ?_
      refine mt_then_e ?_
      refine mt_block_h ?_
      refine mt_then ?_
      refine sS Tryz.f112 2 [6] [0, 0, 0, 1, 0] (fun _ => [(U p), undef]) (fun _ => [(1, { puts := [(3, nb ρ1 3, (.cells (cU p) 29 (0, 0)))] })]) (cR [[4], [3]] <| cN) (fun _ => ?_)
      refine ok_ret ?_
      exact mR (v := (U p)) (fun _ hS => ⟨congrArg (fun x => Ending.returned (U x)) (exp_end (k := k) hb1 (by have h1 := of_decide_eq_false hb2; omega) hp), hS.bel⟩)
theorem rexpmod_any (a e m : Nat) (w0 : World) (ha : a < M) (he : e < M) (hm : m < M) : Calls Tryz.prog 112 #[U a, U e, U m] w0 (fun ε w' => ε = .returned (U (expmN a e m)) ∧ Below w0.heap.size w0 w') := rexpmod_w a e m ha he hm w0
end Go.Proofs.YtjdhjkceahaegaaGreatDoor

/-! Big-endian forms: the walks of Bytes and FromBytes. -/
namespace Go.Proofs.YtjdhjkceahaegaaGreatDoor
open Go Go.RowKit

theorem hB_step {A k : Nat} {C : Array Value} {v : Int} (hC : C.size = 32) (hk : k < 32) (hj : ∀ j, j < k → C[j]? = some (.int .u8 (byt A j))) (hv : v = byt A k) :
    (C.setIfInBounds k (.int .u8 v)).size = 32 ∧ ∀ j, j < k + 1 → (C.setIfInBounds k (.int .u8 v))[j]? = some (.int .u8 (byt A j)) := by
  refine ⟨by simpa using hC, fun j h => ?_⟩
  by_cases e : j = k
  · subst e; rw [hv]; simp [hC, hk]
  · rw [Array.getElem?_setIfInBounds_ne (fun x => e x.symm)]; exact hj j (by omega)

theorem size_hash {C : Array Value} (h : C.size = 32) : (Tryz.prog.info? 31).map (·.size) = some C.size := by rw [h]; kernel_rfl

set_option maxHeartbeats 1000000 in
set_option maxRecDepth 100000 in
theorem bytes_any (A : Nat) (w : World) :
    Calls Tryz.prog 41 #[U A] w fun e w' => e = .returned (.agg (hB A)) ∧ Below w.heap.size w w' := by
  go_enter Tryz.func41, Tryz.ntmps41
  go_wp2
  obtain ⟨Z, hZ⟩ : ∃ Z : Array Value, Z = #[Value.int IntKind.u8 0, Value.int IntKind.u8 0, Value.int IntKind.u8 0, Value.int IntKind.u8 0, Value.int IntKind.u8 0, Value.int IntKind.u8 0, Value.int IntKind.u8 0, Value.int IntKind.u8 0, Value.int IntKind.u8 0, Value.int IntKind.u8 0, Value.int IntKind.u8 0, Value.int IntKind.u8 0, Value.int IntKind.u8 0, Value.int IntKind.u8 0, Value.int IntKind.u8 0, Value.int IntKind.u8 0, Value.int IntKind.u8 0, Value.int IntKind.u8 0, Value.int IntKind.u8 0, Value.int IntKind.u8 0, Value.int IntKind.u8 0, Value.int IntKind.u8 0, Value.int IntKind.u8 0, Value.int IntKind.u8 0, Value.int IntKind.u8 0, Value.int IntKind.u8 0, Value.int IntKind.u8 0, Value.int IntKind.u8 0, Value.int IntKind.u8 0, Value.int IntKind.u8 0, Value.int IntKind.u8 0, Value.int IntKind.u8 0] := ⟨_, rfl⟩
  rw [← hZ]
  have hz : Z.size = 32 := by rw [hZ]; rfl
  clear hZ
  go_loopw [5] (fun i wr => ∃ (k : Nat) (C : Array Value), k ≤ 32 ∧ i = .int .i64 k ∧ C.size = 32 ∧ (∀ j, j < k → C[j]? = some (.int .u8 (byt A j))) ∧ wr = ((w.alloc (.cells #[.int .u64 (wd A 0), .int .u64 (wd A 1), .int .u64 (wd A 2), .int .u64 (wd A 3)] 29)).alloc (.cells Z 31)).alloc (.cells C 31)) (fun i _ => 32 - (intOf i).toNat)
  case atStart => exact ⟨0, Z, by omega, rfl, hz, fun j hj => by omega, rfl⟩
  case round =>
    obtain ⟨k, C, hk, rfl, hC, hj, rfl⟩ := hrel
    have HC := Lib.hid hC; have HJ := Lib.hid hj; have HZ := Lib.hid hz
    clear hC hj hz
    by_cases hlt : k < 32
    · have hC2 : k < C.size := by have := HC.out; omega
      rcases (by omega : (k : Int) / 8 = 0 ∨ (k : Int) / 8 = 1 ∨ (k : Int) / 8 = 2 ∨ (k : Int) / 8 = 3) with h8 | h8 | h8 | h8
      all_goals
        go_wp2
        go_roundw
        case rel =>
          first | (obtain ⟨g1, g2⟩ := hB_step HC.out hlt HJ.out (byt_wd A 3 k hlt (by omega)); exact ⟨k + 1, _, by omega, by go_num, g1, g2, rfl⟩) | (obtain ⟨g1, g2⟩ := hB_step HC.out hlt HJ.out (byt_wd A 2 k hlt (by omega)); exact ⟨k + 1, _, by omega, by go_num, g1, g2, rfl⟩) | (obtain ⟨g1, g2⟩ := hB_step HC.out hlt HJ.out (byt_wd A 1 k hlt (by omega)); exact ⟨k + 1, _, by omega, by go_num, g1, g2, rfl⟩) | (obtain ⟨g1, g2⟩ := hB_step HC.out hlt HJ.out (byt_wd A 0 k hlt (by omega)); exact ⟨k + 1, _, by omega, by go_num, g1, g2, rfl⟩)
        case measure => simp [intOf]; omega
    · go_wp2_with (first | (refine wl_load (w.heap.size + 1 + 1) 31 C _ rfl (hp_3_2 _ _ _ _) Tryz.underlying31 rfl (size_hash HC.out) ?_) | (refine wl_store (w.heap.size + 1) 31 Z C rfl rfl (hp_3_1 _ _ _ _) (size_hash HC.out) (HZ.out.trans HC.out.symm) (by rw [hB_ext HC.out (fun j h => HJ.out j (by omega))]; exact hB_one A) ?_))
      rw [sr_3_1]
      refine bodyPost_ret (results_cell_row rfl _ _ (w.heap.size + 1) 31 C (0, 0) _ rfl (hp_3_1 _ _ _ _) Tryz.underlying31 rfl (size_hash HC.out)) rfl ?_
      refine ⟨by rw [hB_ext HC.out (fun j h => HJ.out j (by omega))], ?_⟩
      (repeat' (first | (with_reducible exact Below.refl _ _) | (with_reducible assumption) | (with_reducible refine below_drewN ?_ _) | (with_reducible refine Below.drew ?_) | (with_reducible refine Below.setCell ?_ ?_ _) | (with_reducible refine Below.alloc ?_ ?_ _) | (with_reducible exact Nat.le_refl _) | omega | (simp; omega) | (simp; done)))

theorem run_index_hash (A k : Nat) (hk : k < 32) (w : World) : (Instr.index 31 (.agg (hB A)) (.int .i64 k)).run Tryz.prog w = .ok (.int .u8 (byt A k)) w := by
  have h := hB_get A k hk
  have h0 : (0 : Int) ≤ (k : Int) ∧ (k : Int) < 32 := by omega
  simp [Instr.index, go_sem, part, h, h0, hk]
set_option maxHeartbeats 1000000 in
set_option maxRecDepth 100000 in
theorem frombytes_any (A : Nat) (w : World) :
    Calls Tryz.prog 44 #[.agg (hB A)] w fun e w' => e = .returned (U A) ∧ Below w.heap.size w w' := by
  go_enter Tryz.func44, Tryz.ntmps44
  go_wp2_with (refine wl_load (w.heap.size) 31 (hB A) _ rfl (hp_3_0 _ _ _ _) Tryz.underlying31 rfl (size_hash (hB_size A)) ?_)
  go_loopw [8] (fun i wr => ∃ (k : Nat), k ≤ 32 ∧ i = .int .i64 k ∧ wr = ((w.alloc (.cells (hB A) 31)).alloc (.cells #[.int .u64 0, .int .u64 0, .int .u64 0, .int .u64 0] 29)).alloc (.cells #[.int .u64 (pre A 0 k), .int .u64 (pre A 1 k), .int .u64 (pre A 2 k), .int .u64 (pre A 3 k)] 29)) (fun i _ => 32 - (intOf i).toNat)
  case atStart => exact ⟨0, by omega, rfl, by rw [pre_start A 0 0 (by omega), pre_start A 1 0 (by omega), pre_start A 2 0 (by omega), pre_start A 3 0 (by omega)]⟩
  case round =>
    obtain ⟨k, hk, rfl, rfl⟩ := hrel
    by_cases hlt : k < 32
    · have hidx := run_index_hash A k hlt
      rcases (by omega : (k : Int) / 8 = 0 ∨ (k : Int) / 8 = 1 ∨ (k : Int) / 8 = 2 ∨ (k : Int) / 8 = 3) with h8 | h8 | h8 | h8
      all_goals
        go_wp2
        go_roundw
        case rel =>
          refine ⟨k + 1, by omega, by go_num, ?_⟩
          first
            | rw [pre_step A 3 k hlt (by omega), pre_other A 0 k (by omega) (by omega), pre_other A 1 k (by omega) (by omega), pre_other A 2 k (by omega) (by omega)]
            | rw [pre_step A 2 k hlt (by omega), pre_other A 0 k (by omega) (by omega), pre_other A 1 k (by omega) (by omega), pre_other A 3 k (by omega) (by omega)]
            | rw [pre_step A 1 k hlt (by omega), pre_other A 0 k (by omega) (by omega), pre_other A 2 k (by omega) (by omega), pre_other A 3 k (by omega) (by omega)]
            | rw [pre_step A 0 k hlt (by omega), pre_other A 1 k (by omega) (by omega), pre_other A 2 k (by omega) (by omega), pre_other A 3 k (by omega) (by omega)]
        case measure => simp [intOf]; omega
    · obtain rfl : k = 32 := by omega
      rw [pre_end A 0 (by omega), pre_end A 1 (by omega), pre_end A 2 (by omega), pre_end A 3 (by omega)]
      go_wp2
      go_returns
      refine ⟨rfl, ?_⟩
      (repeat' (first | (with_reducible exact Below.refl _ _) | (with_reducible assumption) | (with_reducible refine below_drewN ?_ _) | (with_reducible refine Below.drew ?_) | (with_reducible refine Below.setCell ?_ ?_ _) | (with_reducible refine Below.alloc ?_ ?_ _) | (with_reducible exact Nat.le_refl _) | omega | (simp; omega) | (simp; done)))
end Go.Proofs.YtjdhjkceahaegaaGreatDoor

/-! Big-endian forms: the walks of the reference's Bytes and FromBytes. -/
namespace Go.Proofs.YtjdhjkceahaegaaGreatDoor
open Go Go.RowKit
theorem setCell_drewN (w : World) (n : Nat) (a : Addr) (v : Value) : (w.drewN n).setCell a v = (w.setCell a v).drewN n := rfl
set_option maxHeartbeats 1000000 in
set_option maxRecDepth 100000 in
theorem rfrombytes_any (A : Nat) (w : World) :
    Calls Tryz.prog 48 #[.agg (hB A)] w fun e w' => e = .returned (U A) ∧ Below w.heap.size w w' := by
  go_enter Tryz.func48, Tryz.ntmps48
  go_wp2
  go_loopw [6] (fun i wr => ∃ (k n : Nat), k ≤ 32 ∧ i = .int .i64 k ∧ wr = (((w.alloc (.cells (hB A) 31)).alloc (.cells #[.int .u64 0, .int .u64 0, .int .u64 0, .int .u64 0] 29)).alloc (.cells #[.int .u64 (top A 0 k), .int .u64 (top A 1 k), .int .u64 (top A 2 k), .int .u64 (top A 3 k)] 29)).drewN n) (fun i _ => 32 - (intOf i).toNat)
  case atStart => exact ⟨0, 0, by omega, rfl, by rw [World.drewN_zero, top_start A 0 0 (by omega), top_start A 1 0 (by omega), top_start A 2 0 (by omega), top_start A 3 0 (by omega)]⟩
  case round =>
    obtain ⟨k, n, hk, rfl, rfl⟩ := hrel
    by_cases hlt : k < 32
    · have hcell := hB_get A k hlt
      rcases (by omega : (31 - (k : Int)) / 8 = 0 ∨ (31 - (k : Int)) / 8 = 1 ∨ (31 - (k : Int)) / 8 = 2 ∨ (31 - (k : Int)) / 8 = 3) with h8 | h8 | h8 | h8
      all_goals
        go_wp2
        go_region
        go_wp2
        go_roundw
        case rel =>
          refine ⟨k + 1, n + 1, by omega, by go_num, ?_⟩
          have e8 : 8 * ((31 - k) % 8) = 56 - k % 8 * 8 := by omega
          rw [e8, u64_in' (byt_nonneg A k) (by have := byt_lt A k; omega), top_byte_in A k, setCell_drewN, World.setCell_alloc_at _ _ _ _ _ (by simp)]
          first
            | (rw [top_step A 3 k hlt (by omega), top_other A 0 k (by omega) (by omega), top_other A 1 k (by omega) (by omega), top_other A 2 k (by omega) (by omega)]; rfl)
            | (rw [top_step A 2 k hlt (by omega), top_other A 0 k (by omega) (by omega), top_other A 1 k (by omega) (by omega), top_other A 3 k (by omega) (by omega)]; rfl)
            | (rw [top_step A 1 k hlt (by omega), top_other A 0 k (by omega) (by omega), top_other A 2 k (by omega) (by omega), top_other A 3 k (by omega) (by omega)]; rfl)
            | (rw [top_step A 0 k hlt (by omega), top_other A 1 k (by omega) (by omega), top_other A 2 k (by omega) (by omega), top_other A 3 k (by omega) (by omega)]; rfl)
        case measure => simp [intOf]; omega
    · obtain rfl : k = 32 := by omega
      rw [top_end A 0 (by omega), top_end A 1 (by omega), top_end A 2 (by omega), top_end A 3 (by omega)]
      go_wp2
      go_returns
      refine ⟨rfl, ?_⟩
      (repeat' (first | (with_reducible exact Below.refl _ _) | (with_reducible assumption) | (with_reducible refine below_drewN ?_ _) | (with_reducible refine Below.drew ?_) | (with_reducible refine Below.setCell ?_ ?_ _) | (with_reducible refine Below.alloc ?_ ?_ _) | (with_reducible exact Nat.le_refl _) | omega | (simp; omega) | (simp; done)))
set_option maxHeartbeats 1000000 in
set_option maxRecDepth 100000 in
theorem rbytes_any (A : Nat) (w : World) :
    Calls Tryz.prog 69 #[U A] w fun e w' => e = .returned (.agg (hB A)) ∧ Below w.heap.size w w' := by
  go_enter Tryz.func69, Tryz.ntmps69
  go_wp2
  obtain ⟨Z, hZ⟩ : ∃ Z : Array Value, Z = #[Value.int IntKind.u8 0, Value.int IntKind.u8 0, Value.int IntKind.u8 0, Value.int IntKind.u8 0, Value.int IntKind.u8 0, Value.int IntKind.u8 0, Value.int IntKind.u8 0, Value.int IntKind.u8 0, Value.int IntKind.u8 0, Value.int IntKind.u8 0, Value.int IntKind.u8 0, Value.int IntKind.u8 0, Value.int IntKind.u8 0, Value.int IntKind.u8 0, Value.int IntKind.u8 0, Value.int IntKind.u8 0, Value.int IntKind.u8 0, Value.int IntKind.u8 0, Value.int IntKind.u8 0, Value.int IntKind.u8 0, Value.int IntKind.u8 0, Value.int IntKind.u8 0, Value.int IntKind.u8 0, Value.int IntKind.u8 0, Value.int IntKind.u8 0, Value.int IntKind.u8 0, Value.int IntKind.u8 0, Value.int IntKind.u8 0, Value.int IntKind.u8 0, Value.int IntKind.u8 0, Value.int IntKind.u8 0, Value.int IntKind.u8 0] := ⟨_, rfl⟩
  rw [← hZ]
  have hz : Z.size = 32 := by rw [hZ]; rfl
  clear hZ
  go_loopw [6] (fun i wr => ∃ (k : Nat) (C : Array Value), k ≤ 32 ∧ i = .int .i64 k ∧ C.size = 32 ∧ (∀ j, j < k → C[j]? = some (.int .u8 (byt A j))) ∧ wr = ((w.alloc (.cells #[.int .u64 (wd A 0), .int .u64 (wd A 1), .int .u64 (wd A 2), .int .u64 (wd A 3)] 29)).alloc (.cells Z 31)).alloc (.cells C 31)) (fun i _ => 32 - (intOf i).toNat)
  case atStart => exact ⟨0, Z, by omega, rfl, hz, fun j hj => by omega, rfl⟩
  case round =>
    obtain ⟨k, C, hk, rfl, hC, hj, rfl⟩ := hrel
    have HC := Lib.hid hC; have HJ := Lib.hid hj; have HZ := Lib.hid hz
    clear hC hj hz
    by_cases hlt : k < 32
    · have hC2 : k < C.size := by have := HC.out; omega
      rcases (by omega : (31 - (k : Int)) / 8 = 0 ∨ (31 - (k : Int)) / 8 = 1 ∨ (31 - (k : Int)) / 8 = 2 ∨ (31 - (k : Int)) / 8 = 3) with h8 | h8 | h8 | h8
      all_goals
        go_wp2
        go_roundw
        case rel =>
          first | (obtain ⟨g1, g2⟩ := hB_step HC.out hlt HJ.out (byt_wd' A 3 k hlt (by omega)); exact ⟨k + 1, _, by omega, by go_num, g1, g2, rfl⟩) | (obtain ⟨g1, g2⟩ := hB_step HC.out hlt HJ.out (byt_wd' A 2 k hlt (by omega)); exact ⟨k + 1, _, by omega, by go_num, g1, g2, rfl⟩) | (obtain ⟨g1, g2⟩ := hB_step HC.out hlt HJ.out (byt_wd' A 1 k hlt (by omega)); exact ⟨k + 1, _, by omega, by go_num, g1, g2, rfl⟩) | (obtain ⟨g1, g2⟩ := hB_step HC.out hlt HJ.out (byt_wd' A 0 k hlt (by omega)); exact ⟨k + 1, _, by omega, by go_num, g1, g2, rfl⟩)
        case measure => simp [intOf]; omega
    · go_wp2_with (first | (refine wl_load (w.heap.size + 1 + 1) 31 C _ rfl (hp_3_2 _ _ _ _) Tryz.underlying31 rfl (size_hash HC.out) ?_) | (refine wl_store (w.heap.size + 1) 31 Z C rfl rfl (hp_3_1 _ _ _ _) (size_hash HC.out) (HZ.out.trans HC.out.symm) (by rw [hB_ext HC.out (fun j h => HJ.out j (by omega))]; exact hB_one A) ?_))
      rw [sr_3_1]
      refine bodyPost_ret (results_cell_row rfl _ _ (w.heap.size + 1) 31 C (0, 0) _ rfl (hp_3_1 _ _ _ _) Tryz.underlying31 rfl (size_hash HC.out)) rfl ?_
      refine ⟨by rw [hB_ext HC.out (fun j h => HJ.out j (by omega))], ?_⟩
      (repeat' (first | (with_reducible exact Below.refl _ _) | (with_reducible assumption) | (with_reducible refine below_drewN ?_ _) | (with_reducible refine Below.drew ?_) | (with_reducible refine Below.setCell ?_ ?_ _) | (with_reducible refine Below.alloc ?_ ?_ _) | (with_reducible exact Nat.le_refl _) | omega | (simp; omega) | (simp; done)))
end Go.Proofs.YtjdhjkceahaegaaGreatDoor

/-! The group: the walks. -/
namespace Go.Proofs.YtjdhjkceahaegaaGreatDoor
open Go Go.RowKit

theorem gmodulus_w  (w0 : World) : Calls Tryz.prog 87 #[] w0 (fun ε w' => ε = .returned (U pP) ∧ Below w0.heap.size w0 w') := by
  refine Calls.of_ok (n := 2) (F := (fun _ => True)) Tryz.func87 rfl rfl rfl (by simp) (persTrue (fun _ => trivial)) ?_
  refine sS Tryz.f87 1 [0] [] (fun ρ => [(pt (nb ρ 0))]) (fun ρ => [(0, { news := [(nb ρ 0, (.cells (cU 0) 29 (0, 0)))] })]) (cR [[]] <| cN) (fun ρ1 => ?_)
  refine sS Tryz.f87 2 [0] [] (fun _ => [(U 115792089237316195423570985008687907853269984665640564039457584007913129603823), undef]) (fun _ => [(1, { puts := [(0, nb ρ1 0, (.cells (cU 115792089237316195423570985008687907853269984665640564039457584007913129603823) 29 (0, 0)))] })]) (cR [[], [0]] <| cN) (fun _ => ?_)
  refine ok_ret ?_
  exact mR (v := (U 115792089237316195423570985008687907853269984665640564039457584007913129603823)) (fun _ hS => ⟨congrArg (fun x => Ending.returned (U x)) (by decide +kernel), hS.bel⟩)
theorem gmodulus_any (w0 : World)  : Calls Tryz.prog 87 #[] w0 (fun ε w' => ε = .returned (U pP) ∧ Below w0.heap.size w0 w') := gmodulus_w  w0

theorem gorder_w  (w0 : World) : Calls Tryz.prog 84 #[] w0 (fun ε w' => ε = .returned (U qP) ∧ Below w0.heap.size w0 w') := by
  refine Calls.of_ok (n := 2) (F := (fun _ => True)) Tryz.func84 rfl rfl rfl (by simp) (persTrue (fun _ => trivial)) ?_
  refine sS Tryz.f84 1 [0] [] (fun ρ => [(pt (nb ρ 0))]) (fun ρ => [(0, { news := [(nb ρ 0, (.cells (cU 0) 29 (0, 0)))] })]) (cR [[]] <| cN) (fun ρ1 => ?_)
  refine sS Tryz.f84 2 [0] [] (fun _ => [(U 57896044618658097711785492504343953926634992332820282019728792003956564801911), undef]) (fun _ => [(1, { puts := [(0, nb ρ1 0, (.cells (cU 57896044618658097711785492504343953926634992332820282019728792003956564801911) 29 (0, 0)))] })]) (cR [[], [0]] <| cN) (fun _ => ?_)
  refine ok_ret ?_
  exact mR (v := (U 57896044618658097711785492504343953926634992332820282019728792003956564801911)) (fun _ hS => ⟨congrArg (fun x => Ending.returned (U x)) (by decide +kernel), hS.bel⟩)
theorem gorder_any (w0 : World)  : Calls Tryz.prog 84 #[] w0 (fun ε w' => ε = .returned (U qP) ∧ Below w0.heap.size w0 w') := gorder_w  w0

theorem rgmodulus_w  (w0 : World) : Calls Tryz.prog 94 #[] w0 (fun ε w' => ε = .returned (U pP) ∧ Below w0.heap.size w0 w') := by
  refine Calls.of_ok (n := 10) (F := (fun _ => True)) Tryz.func94 rfl rfl rfl (by simp) (persTrue (fun _ => trivial)) ?_
  refine sS Tryz.f94 1 [0] [] (fun ρ => [(pt (nb ρ 0))]) (fun ρ => [(0, { news := [(nb ρ 0, (.cells (cU 0) 29 (0, 0)))] })]) (cR [[]] <| cN) (fun ρ1 => ?_)
  refine sS Tryz.f94 9 [0, 1] [] (fun ρ => [(U 0), (U 36113), (.tuple #[(U ((0 + M - 36113) % M)), (.bool (decide (0 < 36113)))]), (.tuple #[(U ((0 + M - 36113) % M)), (.bool (decide (0 < 36113)))]), (U ((0 + M - 36113) % M)), (.bool (decide (0 < 36113))), (pt (nb ρ 6)), undef, (.bool (decide (0 < 36113)))]) (fun ρ => [(6, { news := [(nb ρ 6, (.cells (cU 0) 29 (0, 0)))] }), (7, { puts := [(49, nb ρ 6, (.cells (cU ((0 + M - 36113) % M)) 29 (0, 0)))] })]) (cR [[]] <| cC (fun _ w => rfromuint_lit 36113 w (by decide)) <| cC (fun _ w => rsub_any 0 36113 w (by decide +kernel) (by decide +kernel)) <| cR [[], [], [], [], [49], []] <| cN) (fun _ => ?_)
  refine sS Tryz.f94 2 [0] [1, 0] (fun _ => [(U ((0 + M - 36113) % M)), undef]) (fun _ => [(1, { puts := [(0, nb ρ1 0, (.cells (cU ((0 + M - 36113) % M)) 29 (0, 0)))] })]) (cR [[1], [0]] <| cN) (fun _ => ?_)
  refine ok_ret ?_
  exact mR (v := (U ((0 + M - 36113) % M))) (fun _ hS => ⟨congrArg (fun x => Ending.returned (U x)) (by decide +kernel), hS.bel⟩)
theorem rgmodulus_any (w0 : World)  : Calls Tryz.prog 94 #[] w0 (fun ε w' => ε = .returned (U pP) ∧ Below w0.heap.size w0 w') := rgmodulus_w  w0

theorem rgorder_w  (w0 : World) : Calls Tryz.prog 96 #[] w0 (fun ε w' => ε = .returned (U qP) ∧ Below w0.heap.size w0 w') := by
  refine Calls.of_ok (n := 3) (F := (fun _ => True)) Tryz.func96 rfl rfl rfl (by simp) (persTrue (fun _ => trivial)) ?_
  refine sS Tryz.f96 1 [0] [] (fun ρ => [(pt (nb ρ 0))]) (fun ρ => [(0, { news := [(nb ρ 0, (.cells (cU 0) 29 (0, 0)))] })]) (cR [[]] <| cN) (fun ρ1 => ?_)
  refine sS Tryz.f96 3 [0] [] (fun _ => [(U pP), (U (shrZ pP 1)), undef]) (fun _ => [(2, { puts := [(0, nb ρ1 0, (.cells (cU (shrZ pP 1)) 29 (0, 0)))] })]) (cC (fun _ w => rgmodulus_any w) <| cC (fun _ w => rshr_any pP 1 w pP_lt) <| cR [[0]] <| cN) (fun _ => ?_)
  refine ok_ret ?_
  exact mR (v := (U (shrZ pP 1))) (fun _ hS => ⟨congrArg (fun x => Ending.returned (U x)) (by decide +kernel), hS.bel⟩)
theorem rgorder_any (w0 : World)  : Calls Tryz.prog 96 #[] w0 (fun ε w' => ε = .returned (U qP) ∧ Below w0.heap.size w0 w') := rgorder_w  w0

theorem rgone_w  (w0 : World) : Calls Tryz.prog 97 #[] w0 (fun ε w' => ε = .returned (U 1) ∧ Below w0.heap.size w0 w') := by
  refine Calls.of_ok (n := 2) (F := (fun _ => True)) Tryz.func97 rfl rfl rfl (by simp) (persTrue (fun _ => trivial)) ?_
  refine sS Tryz.f97 1 [0] [] (fun ρ => [(pt (nb ρ 0))]) (fun ρ => [(0, { news := [(nb ρ 0, (.cells (cU 0) 29 (0, 0)))] })]) (cR [[]] <| cN) (fun ρ1 => ?_)
  refine sS Tryz.f97 2 [0] [] (fun _ => [(U 1), undef]) (fun _ => [(1, { puts := [(0, nb ρ1 0, (.cells (cU 1) 29 (0, 0)))] })]) (cC (fun _ w => rfromuint_lit 1 w (by decide)) <| cR [[0]] <| cN) (fun _ => ?_)
  refine ok_ret ?_
  exact mR (v := (U 1)) (fun _ hS => ⟨rfl, hS.bel⟩)
theorem rgone_any (w0 : World)  : Calls Tryz.prog 97 #[] w0 (fun ε w' => ε = .returned (U 1) ∧ Below w0.heap.size w0 w') := rgone_w  w0

theorem gmul_w (a : Nat) (b : Nat) (ha : a < M) (hb : b < M) (w0 : World) : Calls Tryz.prog 60 #[(U a), (U b)] w0 (fun ε w' => ε = .returned (U (mulmN a b pP)) ∧ Below w0.heap.size w0 w') := by
  refine Calls.of_ok (n := 9) (F := (fun _ => True)) Tryz.func60 rfl rfl rfl (by simp) (persTrue (fun _ => trivial)) ?_
  refine sS Tryz.f60 3 [2, 3, 4] [] (fun ρ => [(pt (nb ρ 0)), (pt (nb ρ 1)), (pt (nb ρ 2))]) (fun ρ => [(0, { news := [(nb ρ 0, (.cells (cU a) 29 (0, 0)))] }), (1, { news := [(nb ρ 1, (.cells (cU b) 29 (0, 0)))] }), (2, { news := [(nb ρ 2, (.cells (cU 0) 29 (0, 0)))] })]) (cR [[], [], []] <| cN) (fun ρ1 => ?_)
  refine sD Tryz.f60 [0, 0, 0, 7, 15] 5 [4] [0, 0, 1] (fun _ => [(U a), (U b), (U pP), (U (mulmN a b pP)), undef]) (fun _ => [(4, { puts := [(2, nb ρ1 2, (.cells (cU (mulmN a b pP)) 29 (0, 0)))] })]) (cR [[0], [1]] <| cC (fun _ w => gmodulus_any w) <| cC (fun _ w => mulmod_any a b pP w ha hb pP_lt) <| cR [[2]] <| cN) (fun _ => ?_)
  refine ok_ret ?_
  exact mR (v := (U (mulmN a b pP))) (fun _ hS => ⟨rfl, hS.bel⟩)
theorem gmul_any (a b : Nat) (w0 : World) (ha : a < M) (hb : b < M) : Calls Tryz.prog 60 #[(U a), (U b)] w0 (fun ε w' => ε = .returned (U (mulmN a b pP)) ∧ Below w0.heap.size w0 w') := gmul_w a b ha hb w0

theorem rgmul_w (a : Nat) (b : Nat) (ha : a < M) (hb : b < M) (w0 : World) : Calls Tryz.prog 91 #[(U a), (U b)] w0 (fun ε w' => ε = .returned (U (mulmN a b pP)) ∧ Below w0.heap.size w0 w') := by
  refine Calls.of_ok (n := 9) (F := (fun _ => True)) Tryz.func91 rfl rfl rfl (by simp) (persTrue (fun _ => trivial)) ?_
  refine sS Tryz.f91 3 [2, 3, 4] [] (fun ρ => [(pt (nb ρ 0)), (pt (nb ρ 1)), (pt (nb ρ 2))]) (fun ρ => [(0, { news := [(nb ρ 0, (.cells (cU a) 29 (0, 0)))] }), (1, { news := [(nb ρ 1, (.cells (cU b) 29 (0, 0)))] }), (2, { news := [(nb ρ 2, (.cells (cU 0) 29 (0, 0)))] })]) (cR [[], [], []] <| cN) (fun ρ1 => ?_)
  refine sD Tryz.f91 [0, 0, 0, 7, 15] 5 [4] [0, 0, 1] (fun _ => [(U a), (U b), (U pP), (U (mulmN a b pP)), undef]) (fun _ => [(4, { puts := [(2, nb ρ1 2, (.cells (cU (mulmN a b pP)) 29 (0, 0)))] })]) (cR [[0], [1]] <| cC (fun _ w => rgmodulus_any w) <| cC (fun _ w => rmulmod_any a b pP w ha hb pP_lt) <| cR [[2]] <| cN) (fun _ => ?_)
  refine ok_ret ?_
  exact mR (v := (U (mulmN a b pP))) (fun _ hS => ⟨rfl, hS.bel⟩)
theorem rgmul_any (a b : Nat) (w0 : World) (ha : a < M) (hb : b < M) : Calls Tryz.prog 91 #[(U a), (U b)] w0 (fun ε w' => ε = .returned (U (mulmN a b pP)) ∧ Below w0.heap.size w0 w') := rgmul_w a b ha hb w0

theorem gexp_w (a : Nat) (e : Nat) (ha : a < M) (he : e < M) (w0 : World) : Calls Tryz.prog 85 #[(U a), (U e)] w0 (fun ε w' => ε = .returned (U (expmN a e pP)) ∧ Below w0.heap.size w0 w') := by
  refine Calls.of_ok (n := 37) (F := (fun _ => True)) Tryz.func85 rfl rfl rfl (by simp) (persTrue (fun _ => trivial)) ?_
  refine sS Tryz.f85 3 [2, 3, 4] [] (fun ρ => [(pt (nb ρ 0)), (pt (nb ρ 1)), (pt (nb ρ 2))]) (fun ρ => [(0, { news := [(nb ρ 0, (.cells (cU a) 29 (0, 0)))] }), (1, { news := [(nb ρ 1, (.cells (cU e) 29 (0, 0)))] }), (2, { news := [(nb ρ 2, (.cells (cU 0) 29 (0, 0)))] })]) (cR [[], [], []] <| cN) (fun ρ1 => ?_)
  refine sS Tryz.f85 3 [2, 3, 4, 5] [] (fun ρ => [(U 1), (pt (nb ρ 1)), undef]) (fun ρ => [(1, { news := [(nb ρ 1, (.cells (cU 0) 29 (0, 0)))] }), (2, { puts := [(11, nb ρ 1, (.cells (cU 1) 29 (0, 0)))] })]) (cC (fun _ w => fromuint_lit 1 w (by decide)) <| cR [[], [11]] <| cN) (fun ρ2 => ?_)
  refine sS Tryz.f85 3 [2, 3, 4, 5, 6] [] (fun _ => [(U e), (.int .i64 ((lenN e : Nat) : Int)), (.int .i64 ((lenN e : Nat) : Int))]) (fun _ => []) (cR [[1]] <| cC (fun _ w => len_any e w he) <| cR [[]] <| cN) (fun _ => ?_)
  refine ok_seq ?_
  refine sS Tryz.f85 2 [2, 3, 4, 5, 6, 12, 13] [] (fun _ => [(.int .i64 ((lenN e : Nat) : Int)), (.int .i64 0)]) (fun _ => []) (cR [[], []] <| cN) (fun _ => ?_)
  refine ok_block ?_
  refine oL (σ := Nat × Nat) (fun ⟨i, _⟩ => [(2, (pt (nb ρ1 0))), (3, (pt (nb ρ1 1))), (4, (pt (nb ρ1 2))), (5, (pt (nb ρ2 1))), (6, (.int .i64 ((lenN e : Nat) : Int))), (12, (.int .i64 ((lenN e : Nat) : Int))), (13, (.int .i64 ((i : Nat) : Int)))]) (fun ⟨_, p⟩ => [(nb ρ1 0, (.cells (cU a) 29 (0, 0))), (nb ρ1 1, (.cells (cU e) 29 (0, 0))), (nb ρ1 2, (.cells (cU 0) 29 (0, 0))), (nb ρ2 1, (.cells (cU p) 29 (0, 0)))]) (fun ⟨i, _⟩ => lenN e - i)
    (fun ⟨i, p⟩ => (i ≤ lenN e) ∧ (p = a ^ (e / 2 ^ (lenN e - i)) % pP)) (0, 1) (⟨Nat.zero_le _, exp_one a e⟩) [] ?_
  rintro ⟨i, p⟩ ⟨hi, hp⟩
  change Ok Tryz.prog _ _ 37 [(2, (pt (nb ρ1 0))), (3, (pt (nb ρ1 1))), (4, (pt (nb ρ1 2))), (5, (pt (nb ρ2 1))), (6, (.int .i64 ((lenN e : Nat) : Int))), (12, (.int .i64 ((lenN e : Nat) : Int))), (13, (.int .i64 ((i : Nat) : Int)))] _ [(nb ρ1 0, (.cells (cU a) 29 (0, 0))), (nb ρ1 1, (.cells (cU e) 29 (0, 0))), (nb ρ1 2, (.cells (cU 0) 29 (0, 0))), (nb ρ2 1, (.cells (cU p) 29 (0, 0)))] (fun _ => True)
  have hpM : p < M := gexp_lt hp
  refine sS Tryz.f85 1 [2, 3, 4, 5, 6, 12, 13, 14] [] (fun _ => [(.bool (decide (((i : Nat) : Int) < ((lenN e : Nat) : Int))))]) (fun _ => []) (cR [[]] <| cN) (fun _ => ?_)
  refine ok_seq ?_
  refine oC (decide (((i : Nat) : Int) < ((lenN e : Nat) : Int))) (fun hb1 => ?_) (fun hb1 => ?_)
  ·
    rw [hb1]
    refine ok_skip ?_
    refine mt_then ?_
    refine ok_seq ?_
    refine ok_block ?_
    refine sS Tryz.f85 2 [2, 3, 4, 5, 6, 7, 12, 13] [] (fun _ => [(.int .i64 ((i : Nat) : Int)), (.int .i64 ((i : Nat) : Int))]) (fun _ => []) (cR [[], []] <| cN) (fun _ => ?_)
    refine sS Tryz.f85 5 [2, 3, 4, 5, 6, 8, 12, 13] [] (fun _ => [(.int .i64 ((lenN e : Nat) : Int)), (.int .i64 ((lenN e - 1 : Nat) : Int)), (.int .i64 ((i : Nat) : Int)), (.int .i64 ((lenN e - 1 - i : Nat) : Int)), (.int .i64 ((lenN e - 1 - i : Nat) : Int))]) (fun _ => []) (cR [[]] <| cA (v := fun ρ => (.int .i64 (IntKind.i64.wrap (((lenN e : Nat) : Int) - 1)))) (fun _ => (.int .i64 ((lenN e - 1 : Nat) : Int))) (fun _ => congrArg (Value.int .i64) (wrap_sub_nat (lenN e) 1 (by have h1 := of_decide_eq_true hb1; have h2 := lenN_le e he; omega) (by have h1 := of_decide_eq_true hb1; have h2 := lenN_le e he; omega))) <| cR [[]] <| cA (v := fun ρ => (.int .i64 (IntKind.i64.wrap (((lenN e - 1 : Nat) : Int) - ((i : Nat) : Int))))) (fun _ => (.int .i64 ((lenN e - 1 - i : Nat) : Int))) (fun _ => congrArg (Value.int .i64) (wrap_sub_nat (lenN e - 1) i (by have h1 := of_decide_eq_true hb1; have h2 := lenN_le e he; omega) (by have h1 := of_decide_eq_true hb1; have h2 := lenN_le e he; omega))) <| cR [[]] <| cN) (fun _ => ?_)
    refine sS Tryz.f85 4 [2, 3, 4, 5, 6, 8, 12, 13] [] (fun _ => [(U p), (U p), (U (mulmN p p pP)), undef]) (fun _ => [(3, { puts := [(3, nb ρ2 1, (.cells (cU (mulmN p p pP)) 29 (0, 0)))] })]) (cR [[3], [3]] <| cC (fun _ w => gmul_any p p w hpM hpM) <| cR [[3]] <| cN) (fun _ => ?_)
    refine sS Tryz.f85 9 [2, 3, 4, 5, 6, 12, 13, 31] [] (fun _ => [(.int .i64 ((lenN e - 1 - i : Nat) : Int)), (.int .i64 (((lenN e - 1 - i) / 64 : Nat) : Int)), (.pointer (some ⟨nb ρ1 1, (lenN e - 1 - i) / 64, none⟩)), (.int .u64 (wd e ((lenN e - 1 - i) / 64))), (.int .i64 ((lenN e - 1 - i : Nat) : Int)), (.int .i64 (((lenN e - 1 - i) % 64 : Nat) : Int)), (.int .u64 (shrW (wd e ((lenN e - 1 - i) / 64)) ((lenN e - 1 - i) % 64))), (.int .u64 (bits .and .u64 (shrW (wd e ((lenN e - 1 - i) / 64)) ((lenN e - 1 - i) % 64)) 1)), (.bool (bitN e (lenN e - 1 - i)))]) (fun _ => []) (cR [[]] <| cB (a := fun ρ => (.int .i64 ((lenN e - 1 - i : Nat) : Int))) (b := fun ρ => (.int .i64 64)) (v := fun ρ => (.int .i64 (((lenN e - 1 - i) / 64 : Nat) : Int))) .quo 3 (fun _ w => run_quo_nat (lenN e - 1 - i) 64 ((lenN e - 1 - i) / 64) (by decide) (by have h1 := of_decide_eq_true hb1; have h2 := lenN_le e he; omega) rfl w) <| cX (o_sem _ (fun _ => do pure (Next.value (← Instr.indexAt 29 (pt (nb ρ1 1)) (.int .i64 (((lenN e - 1 - i) / 64 : Nat) : Int))))) (fun _ => (.pointer (some ⟨nb ρ1 1, (lenN e - 1 - i) / 64, none⟩))) (fun _ => by kernel_rfl) (fun _ => by kernel_rfl) (fun _ w => run_idx_nat (n := (((lenN e - 1 - i) / 64 : Nat) : Int)) (i := (lenN e - 1 - i) / 64) Tryz.underlying29 Tryz.sizeOf27 (⟨rfl, (by have h1 := of_decide_eq_true hb1; have h2 := lenN_le e he; omega)⟩) w)) <| cX (o_ld _ 1 27 (fun _ => nb ρ1 1) (fun _ => (lenN e - 1 - i) / 64) (fun _ => (cU e)) 29 (0, 0) (fun _ => (.int .u64 (wd e ((lenN e - 1 - i) / 64)))) (fun _ => by kernel_rfl) Tryz.isAgg27 (fun _ => cU_get e ((lenN e - 1 - i) / 64) (by have h1 := of_decide_eq_true hb1; have h2 := lenN_le e he; omega))) <| cR [[]] <| cB (a := fun ρ => (.int .i64 ((lenN e - 1 - i : Nat) : Int))) (b := fun ρ => (.int .i64 64)) (v := fun ρ => (.int .i64 (((lenN e - 1 - i) % 64 : Nat) : Int))) .rem 3 (fun _ w => run_rem_nat (lenN e - 1 - i) 64 ((lenN e - 1 - i) % 64) (by decide) rfl w) <| cB (a := fun ρ => (.int .u64 (wd e ((lenN e - 1 - i) / 64)))) (b := fun ρ => (.int .i64 (((lenN e - 1 - i) % 64 : Nat) : Int))) (v := fun ρ => (.int .u64 (shrW (wd e ((lenN e - 1 - i) / 64)) ((lenN e - 1 - i) % 64)))) .shr 27 (fun _ w => run_shr (wd e ((lenN e - 1 - i) / 64)) ((lenN e - 1 - i) % 64) w) <| cR [[]] <| cA (fun _ => (.bool (bitN e (lenN e - 1 - i)))) (fun _ => congrArg Value.bool (expbit e (lenN e - 1 - i))) <| cN) (fun _ => ?_)
    refine dRs [(2, (pt (nb ρ1 0))), (3, (pt (nb ρ1 1))), (4, (pt (nb ρ1 2))), (5, (pt (nb ρ2 1))), (6, (.int .i64 ((lenN e : Nat) : Int))), (12, (.int .i64 ((lenN e : Nat) : Int))), (13, (.int .i64 ((i : Nat) : Int))), (31, (.bool (bitN e (lenN e - 1 - i))))] [(nb ρ1 0, (.cells (cU a) 29 (0, 0))), (nb ρ1 1, (.cells (cU e) 29 (0, 0))), (nb ρ1 2, (.cells (cU 0) 29 (0, 0))), (nb ρ2 1, (.cells (cU (mulmN p p pP)) 29 (0, 0)))] ?_
    refine oC (bitN e (lenN e - 1 - i)) (fun hb2 => ?_) (fun hb2 => ?_)
    ·
      rw [hb2]
      refine rS Tryz.f85 4 [2, 3, 4, 5, 6, 12, 13] [] (fun _ => [(U (mulmN p p pP)), (U a), (U (mulmN (mulmN p p pP) a pP)), undef]) (fun _ => [(3, { puts := [(3, nb ρ2 1, (.cells (cU (mulmN (mulmN p p pP) a pP)) 29 (0, 0)))] })]) (cR [[3], [0]] <| cC (f := 60) (args := fun ρ => #[(U (mulmN p p pP)), (U a)]) (v := fun ρ => (U (mulmN (mulmN p p pP) a pP))) (fun _ w => (fun w => gmul_any (mulmN p p pP) a w (mulmN_lt _ _ pP_lt) ha) w) <| cR [[3]] <| cN) (fun _ => ?_)
      refine mt_block_n ?_
      refine mt_then ?_
      refine rS Tryz.f85 2 [2, 3, 4, 5, 6, 12, 13] [] (fun _ => [(.int .i64 ((i + 1 : Nat) : Int)), (.int .i64 ((i + 1 : Nat) : Int))]) (fun _ => []) (cA (v := fun ρ => (.int .i64 (IntKind.i64.wrap (((i : Nat) : Int) + 1)))) (fun _ => (.int .i64 ((i + 1 : Nat) : Int))) (fun _ => congrArg (Value.int .i64) (wrap_add_nat i 1 (by have h1 := of_decide_eq_true hb1; have h2 := lenN_le e he; omega))) <| cR [[]] <| cN) (fun _ => ?_)
      exact mN (i + 1, mulmN (mulmN p p pP) a pP) (by show lenN e - (i + 1) < lenN e - i; have h1 := of_decide_eq_true hb1; have h2 := lenN_le e he; omega) (⟨by have h1 := of_decide_eq_true hb1; have h2 := lenN_le e he; omega, by rw [exp_step1 hp (Nat.lt_trans Nat.zero_lt_one pP_pos), show lenN e - (i + 1) = (lenN e - i) - 1 by omega, ← half_odd (by have h1 := of_decide_eq_true hb1; have h2 := lenN_le e he; omega) (by rw [show lenN e - i - 1 = lenN e - 1 - i by omega]; exact hb2)]⟩) []
    ·
      rw [hb2]
      refine ok_skip ?_
      refine mt_block_n ?_
      refine mt_then ?_
      refine rS Tryz.f85 2 [2, 3, 4, 5, 6, 12, 13] [] (fun _ => [(.int .i64 ((i + 1 : Nat) : Int)), (.int .i64 ((i + 1 : Nat) : Int))]) (fun _ => []) (cA (v := fun ρ => (.int .i64 (IntKind.i64.wrap (((i : Nat) : Int) + 1)))) (fun _ => (.int .i64 ((i + 1 : Nat) : Int))) (fun _ => congrArg (Value.int .i64) (wrap_add_nat i 1 (by have h1 := of_decide_eq_true hb1; have h2 := lenN_le e he; omega))) <| cR [[]] <| cN) (fun _ => ?_)
      exact mN (i + 1, mulmN p p pP) (by show lenN e - (i + 1) < lenN e - i; have h1 := of_decide_eq_true hb1; have h2 := lenN_le e he; omega) (⟨by have h1 := of_decide_eq_true hb1; have h2 := lenN_le e he; omega, by rw [exp_step hp (Nat.lt_trans Nat.zero_lt_one pP_pos), show lenN e - (i + 1) = (lenN e - i) - 1 by omega, ← half_even (by have h1 := of_decide_eq_true hb1; have h2 := lenN_le e he; omega) (by rw [show lenN e - i - 1 = lenN e - 1 - i by omega]; exact hb2)]⟩) []
  ·
    rw [hb1]
    refine ok_exit ?_
    refine mt_then_e ?_
    refine mt_then_e ?_
    refine mt_block_h ?_
    refine mt_then ?_
    refine sS Tryz.f85 2 [4] [0, 0, 1, 0] (fun _ => [(U p), undef]) (fun _ => [(1, { puts := [(2, nb ρ1 2, (.cells (cU p) 29 (0, 0)))] })]) (cR [[3], [2]] <| cN) (fun _ => ?_)
    refine ok_ret ?_
    exact mR (v := (U p)) (fun _ hS => ⟨congrArg (fun x => Ending.returned (U x)) (gexp_end (i := i) (by have h1 := of_decide_eq_false hb1; omega) hp), hS.bel⟩)
theorem gexp_any (a e : Nat) (w0 : World) (ha : a < M) (he : e < M) : Calls Tryz.prog 85 #[(U a), (U e)] w0 (fun ε w' => ε = .returned (U (expmN a e pP)) ∧ Below w0.heap.size w0 w') := gexp_w a e ha he w0

theorem rgexp_w (a : Nat) (e : Nat) (ha : a < M) (he : e < M) (w0 : World) : Calls Tryz.prog 95 #[(U a), (U e)] w0 (fun ε w' => ε = .returned (U (expmN a e pP)) ∧ Below w0.heap.size w0 w') := by
  refine Calls.of_ok (n := 9) (F := (fun _ => True)) Tryz.func95 rfl rfl rfl (by simp) (persTrue (fun _ => trivial)) ?_
  refine sS Tryz.f95 3 [2, 3, 4] [] (fun ρ => [(pt (nb ρ 0)), (pt (nb ρ 1)), (pt (nb ρ 2))]) (fun ρ => [(0, { news := [(nb ρ 0, (.cells (cU a) 29 (0, 0)))] }), (1, { news := [(nb ρ 1, (.cells (cU e) 29 (0, 0)))] }), (2, { news := [(nb ρ 2, (.cells (cU 0) 29 (0, 0)))] })]) (cR [[], [], []] <| cN) (fun ρ1 => ?_)
  refine sD Tryz.f95 [0, 0, 0, 7, 15] 5 [4] [0, 0, 1] (fun _ => [(U a), (U e), (U pP), (U (expmN a e pP)), undef]) (fun _ => [(4, { puts := [(2, nb ρ1 2, (.cells (cU (expmN a e pP)) 29 (0, 0)))] })]) (cR [[0], [1]] <| cC (fun _ w => rgmodulus_any w) <| cC (fun _ w => rexpmod_any a e pP w ha he pP_lt) <| cR [[2]] <| cN) (fun _ => ?_)
  refine ok_ret ?_
  exact mR (v := (U (expmN a e pP))) (fun _ hS => ⟨rfl, hS.bel⟩)
theorem rgexp_any (a e : Nat) (w0 : World) (ha : a < M) (he : e < M) : Calls Tryz.prog 95 #[(U a), (U e)] w0 (fun ε w' => ε = .returned (U (expmN a e pP)) ∧ Below w0.heap.size w0 w') := rgexp_w a e ha he w0

theorem gmember_w (a : Nat) (ha : a < M) (w0 : World) : Calls Tryz.prog 74 #[(U a)] w0 (fun ε w' => ε = .returned (.bool (memB a)) ∧ Below w0.heap.size w0 w') := by
  refine Calls.of_ok (n := 17) (F := (fun _ => True)) Tryz.func74 rfl rfl rfl (by simp) (persTrue (fun _ => trivial)) ?_
  refine sS Tryz.f74 2 [1, 2] [] (fun ρ => [(pt (nb ρ 0)), (.bool false)]) (fun ρ => [(0, { news := [(nb ρ 0, (.cells (cU a) 29 (0, 0)))] })]) (cR [[], []] <| cN) (fun _ => ?_)
  refine ok_seq ?_
  rcases Bool.eq_false_or_eq_true (decide (a = 0)) with hb1 | hb1
  ·
    refine sD Tryz.f74 [0, 0, 3, 7, 15, 15, 63, 127, 255] 9 [1, 2, 11] [] (fun _ => [(U a), (U 0), (.bool true), (.bool true), undef, undef, undef, undef, (.bool true)]) (fun _ => []) (cR [[0], []] <| cB (a := fun ρ => (U a)) (b := fun ρ => (U 0)) (v := fun ρ => (.bool true)) .eql 29 (fun _ _ => (eqlU a 0 ha (by decide +kernel) _).trans (by rw [hb1]; try rfl)) <| cR [[], [], [], [], [], []] <| cN) (fun _ => ?_)
    refine oY ?_
    refine sS Tryz.f74 1 [1, 2] [] (fun _ => [(.bool false)]) (fun _ => []) (cR [[]] <| cN) (fun _ => ?_)
    refine ok_ret ?_
    refine mt_then_r ?_
    exact mR (v := (.bool false)) (fun _ hS => ⟨congrArg (fun x => Ending.returned (.bool x)) (mem_no1 hb1), hS.bel⟩)
  ·
    refine sD Tryz.f74 [0, 0, 3, 7, 15, 15, 63, 127, 255] 9 [1, 2, 11] [] (fun _ => [(U a), (U 0), (.bool false), (.bool false), (U a), (U pP), (.int .i64 (cmpN a pP)), (.bool (decide (0 ≤ (cmpN a pP)))), (.bool (decide (0 ≤ (cmpN a pP))))]) (fun _ => []) (cR [[0], []] <| cB (a := fun ρ => (U a)) (b := fun ρ => (U 0)) (v := fun ρ => (.bool false)) .eql 29 (fun _ _ => (eqlU a 0 ha (by decide +kernel) _).trans (by rw [hb1]; try rfl)) <| cR [[], [0]] <| cC (fun _ w => gmodulus_any w) <| cC (fun _ w => cmp_any a pP w ha pP_lt) <| cR [[], []] <| cN) (fun _ => ?_)
    refine oC (decide (0 ≤ (cmpN a pP))) (fun hb2 => ?_) (fun hb2 => ?_)
    ·
      rw [hb2]
      refine sS Tryz.f74 1 [1, 2] [] (fun _ => [(.bool false)]) (fun _ => []) (cR [[]] <| cN) (fun _ => ?_)
      refine ok_ret ?_
      refine mt_then_r ?_
      exact mR (v := (.bool false)) (fun _ hS => ⟨congrArg (fun x => Ending.returned (.bool x)) (mem_no2 hb2), hS.bel⟩)
    ·
      rw [hb2]
      refine ok_skip ?_
      refine mt_then ?_
      refine sD Tryz.f74 [0, 0, 3, 7, 15, 31] 6 [2] [0] (fun _ => [(U a), (U qP), (U (expmN a qP pP)), (U 1), (.bool (decide (expmN a qP pP = 1))), (.bool (decide (expmN a qP pP = 1)))]) (fun _ => []) (cR [[0]] <| cC (fun _ w => gorder_any w) <| cC (fun _ w => gexp_any a qP w ha qP_lt) <| cC (fun _ w => fromuint_lit 1 w (by decide)) <| cB (a := fun ρ => (U (expmN a qP pP))) (b := fun ρ => (U 1)) (v := fun ρ => (.bool (decide (expmN a qP pP = 1)))) .eql 29 (fun _ _ => eqlU (expmN a qP pP) 1 (expmN_lt _ _ pP_lt) (by decide +kernel) _) <| cR [[]] <| cN) (fun _ => ?_)
      refine ok_ret ?_
      exact mR (v := (.bool (decide (expmN a qP pP = 1)))) (fun _ hS => ⟨congrArg (fun x => Ending.returned (.bool x)) (mem_yes hb1 (by have := of_decide_eq_false hb2; omega)), hS.bel⟩)
theorem gmember_any (a : Nat) (w0 : World) (ha : a < M) : Calls Tryz.prog 74 #[(U a)] w0 (fun ε w' => ε = .returned (.bool (memB a)) ∧ Below w0.heap.size w0 w') := gmember_w a ha w0

theorem gpower_w (e : Nat) (he : e < M) (w0 : World) : Calls Tryz.prog 59 #[(U e)] w0 (fun ε w' => ε = .returned (U (expmN 4 e pP)) ∧ Below w0.heap.size w0 w') := by
  refine Calls.of_ok (n := 6) (F := (fun _ => True)) Tryz.func59 rfl rfl rfl (by simp) (persTrue (fun _ => trivial)) ?_
  refine sS Tryz.f59 2 [1, 2] [] (fun ρ => [(pt (nb ρ 0)), (pt (nb ρ 1))]) (fun ρ => [(0, { news := [(nb ρ 0, (.cells (cU e) 29 (0, 0)))] }), (1, { news := [(nb ρ 1, (.cells (cU 0) 29 (0, 0)))] })]) (cR [[], []] <| cN) (fun ρ1 => ?_)
  refine sD Tryz.f59 [0, 0, 3, 7] 4 [2] [0, 1] (fun _ => [(U 4), (U e), (U (expmN 4 e pP)), undef]) (fun _ => [(3, { puts := [(1, nb ρ1 1, (.cells (cU (expmN 4 e pP)) 29 (0, 0)))] })]) (cC (fun _ w => fromuint_lit 4 w (by decide)) <| cR [[0]] <| cC (fun _ w => gexp_any 4 e w (by decide +kernel) he) <| cR [[1]] <| cN) (fun _ => ?_)
  refine ok_ret ?_
  exact mR (v := (U (expmN 4 e pP))) (fun _ hS => ⟨rfl, hS.bel⟩)
theorem gpower_any (e : Nat) (w0 : World) (he : e < M) : Calls Tryz.prog 59 #[(U e)] w0 (fun ε w' => ε = .returned (U (expmN 4 e pP)) ∧ Below w0.heap.size w0 w') := gpower_w e he w0

theorem gaddscalar_w (a : Nat) (b : Nat) (ha : a < M) (hb : b < M) (w0 : World) : Calls Tryz.prog 57 #[(U a), (U b)] w0 (fun ε w' => ε = .returned (U (addmN a b qP)) ∧ Below w0.heap.size w0 w') := by
  refine Calls.of_ok (n := 9) (F := (fun _ => True)) Tryz.func57 rfl rfl rfl (by simp) (persTrue (fun _ => trivial)) ?_
  refine sS Tryz.f57 3 [2, 3, 4] [] (fun ρ => [(pt (nb ρ 0)), (pt (nb ρ 1)), (pt (nb ρ 2))]) (fun ρ => [(0, { news := [(nb ρ 0, (.cells (cU a) 29 (0, 0)))] }), (1, { news := [(nb ρ 1, (.cells (cU b) 29 (0, 0)))] }), (2, { news := [(nb ρ 2, (.cells (cU 0) 29 (0, 0)))] })]) (cR [[], [], []] <| cN) (fun ρ1 => ?_)
  refine sD Tryz.f57 [0, 0, 0, 7, 15] 5 [4] [0, 0, 1] (fun _ => [(U a), (U b), (U qP), (U (addmN a b qP)), undef]) (fun _ => [(4, { puts := [(2, nb ρ1 2, (.cells (cU (addmN a b qP)) 29 (0, 0)))] })]) (cR [[0], [1]] <| cC (fun _ w => gorder_any w) <| cC (fun _ w => addmod_any a b qP w ha hb qP_lt) <| cR [[2]] <| cN) (fun _ => ?_)
  refine ok_ret ?_
  exact mR (v := (U (addmN a b qP))) (fun _ hS => ⟨rfl, hS.bel⟩)
theorem gaddscalar_any (a b : Nat) (w0 : World) (ha : a < M) (hb : b < M) : Calls Tryz.prog 57 #[(U a), (U b)] w0 (fun ε w' => ε = .returned (U (addmN a b qP)) ∧ Below w0.heap.size w0 w') := gaddscalar_w a b ha hb w0

theorem gscalar_w (h : Nat) (hh : h < M) (w0 : World) : Calls Tryz.prog 58 #[(.agg (hB h))] w0 (fun ε w' => ε = .returned (U (addmN h 0 qP)) ∧ Below w0.heap.size w0 w') := by
  refine Calls.of_ok (n := 7) (F := (fun _ => True)) Tryz.func58 rfl rfl rfl (by simp) (persTrue (fun _ => trivial)) ?_
  refine sS Tryz.f58 2 [1, 2] [] (fun ρ => [(pt (nb ρ 0)), (pt (nb ρ 1))]) (fun ρ => [(0, { news := [(nb ρ 0, (.cells (hB h) 31 (0, 0)))] }), (1, { news := [(nb ρ 1, (.cells (cU 0) 29 (0, 0)))] })]) (cR [[], []] <| cN) (fun ρ1 => ?_)
  refine sS Tryz.f58 5 [2] [0, 1] (fun _ => [(.agg (hB h)), (U h), (U 0), (U (addmN h 0 qP)), undef]) (fun _ => [(4, { puts := [(1, nb ρ1 1, (.cells (cU (addmN h 0 qP)) 29 (0, 0)))] })]) (cR [[0]] <| cC (fun _ w => frombytes_any h w) <| cR [[]] <| cC (fun _ w => gaddscalar_any h 0 w hh (by decide +kernel)) <| cR [[1]] <| cN) (fun _ => ?_)
  refine ok_ret ?_
  exact mR (v := (U (addmN h 0 qP))) (fun _ hS => ⟨rfl, hS.bel⟩)
theorem gscalar_any (h : Nat) (w0 : World) (hh : h < M) : Calls Tryz.prog 58 #[(.agg (hB h))] w0 (fun ε w' => ε = .returned (U (addmN h 0 qP)) ∧ Below w0.heap.size w0 w') := gscalar_w h hh w0

theorem rgmember_w (a : Nat) (ha : a < M) (w0 : World) : Calls Tryz.prog 76 #[(U a)] w0 (fun ε w' => ε = .returned (.bool (memB a)) ∧ Below w0.heap.size w0 w') := by
  refine Calls.of_ok (n := 19) (F := (fun _ => True)) Tryz.func76 rfl rfl rfl (by simp) (persTrue (fun _ => trivial)) ?_
  refine sS Tryz.f76 2 [1, 2] [] (fun ρ => [(pt (nb ρ 0)), (.bool false)]) (fun ρ => [(0, { news := [(nb ρ 0, (.cells (cU a) 29 (0, 0)))] })]) (cR [[], []] <| cN) (fun _ => ?_)
  rcases Bool.eq_false_or_eq_true (decide (a = 0)) with hb1 | hb1
  ·
    refine sD Tryz.f76 [0, 1, 3, 7, 15, 15, 63, 127, 255, 511, 1023, 1023, 4095, 8191, 16383, 32767, 65535] 17 [2] [0] (fun _ => [(U a), (.bool true), (.bool false), (.bool false), undef, undef, undef, undef, (.bool false), (.bool false), undef, undef, undef, undef, undef, (.bool false), (.bool false)]) (fun _ => []) (cR [[0]] <| cC (f := 35) (args := fun ρ => #[(U a)]) (v := fun ρ => (.bool true)) (fun _ w => by as_aux_lemma => (have hcall := (fun w => rzero_any a w ha) w; rw [hb1] at hcall; exact hcall)) <| cR [[], [], [], [], [], [], [], [], [], [], [], [], [], [], []] <| cN) (fun _ => ?_)
    refine ok_ret ?_
    exact mR (v := (.bool false)) (fun _ hS => ⟨congrArg (fun x => Ending.returned (.bool x)) (mem_no1 hb1), hS.bel⟩)
  ·
    rcases Bool.eq_false_or_eq_true (decide ((cmpN a pP) < 0)) with hb2 | hb2
    ·
      refine sD Tryz.f76 [0, 1, 3, 7, 15, 15, 63, 127, 255, 511, 1023, 1023, 4095, 8191, 16383, 32767, 65535] 17 [2] [0] (fun _ => [(U a), (.bool false), (.bool true), (.bool true), (U a), (U pP), (.int .i64 (cmpN a pP)), (.bool true), (.bool true), (.bool true), (U a), (U qP), (U (expmN a qP pP)), (U 1), (.bool (decide (expmN a qP pP = 1))), (.bool (decide (expmN a qP pP = 1))), (.bool (decide (expmN a qP pP = 1)))]) (fun _ => []) (cR [[0]] <| cC (f := 35) (args := fun ρ => #[(U a)]) (v := fun ρ => (.bool false)) (fun _ w => by as_aux_lemma => (have hcall := (fun w => rzero_any a w ha) w; rw [hb1] at hcall; exact hcall)) <| cR [[], [], [0]] <| cC (fun _ w => rgmodulus_any w) <| cC (fun _ w => rcmp_any a pP w ha pP_lt) <| cA (fun _ => (.bool true)) (fun _ => congrArg Value.bool hb2) <| cR [[], [], [0]] <| cC (fun _ w => rgorder_any w) <| cC (fun _ w => rgexp_any a qP w ha qP_lt) <| cC (fun _ w => rgone_any w) <| cB (a := fun ρ => (U (expmN a qP pP))) (b := fun ρ => (U 1)) (v := fun ρ => (.bool (decide (expmN a qP pP = 1)))) .eql 29 (fun _ _ => eqlU (expmN a qP pP) 1 (expmN_lt _ _ pP_lt) (by decide +kernel) _) <| cR [[], []] <| cN) (fun _ => ?_)
      refine ok_ret ?_
      exact mR (v := (.bool (decide (expmN a qP pP = 1)))) (fun _ hS => ⟨congrArg (fun x => Ending.returned (.bool x)) (mem_yes hb1 (by have := of_decide_eq_true hb2; omega)), hS.bel⟩)
    ·
      refine sD Tryz.f76 [0, 1, 3, 7, 15, 15, 63, 127, 255, 511, 1023, 1023, 4095, 8191, 16383, 32767, 65535] 17 [2] [0] (fun _ => [(U a), (.bool false), (.bool true), (.bool true), (U a), (U pP), (.int .i64 (cmpN a pP)), (.bool false), (.bool false), (.bool false), undef, undef, undef, undef, undef, (.bool false), (.bool false)]) (fun _ => []) (cR [[0]] <| cC (f := 35) (args := fun ρ => #[(U a)]) (v := fun ρ => (.bool false)) (fun _ w => by as_aux_lemma => (have hcall := (fun w => rzero_any a w ha) w; rw [hb1] at hcall; exact hcall)) <| cR [[], [], [0]] <| cC (fun _ w => rgmodulus_any w) <| cC (fun _ w => rcmp_any a pP w ha pP_lt) <| cA (fun _ => (.bool false)) (fun _ => congrArg Value.bool hb2) <| cR [[], [], [], [], [], [], [], [], []] <| cN) (fun _ => ?_)
      refine ok_ret ?_
      exact mR (v := (.bool false)) (fun _ hS => ⟨congrArg (fun x => Ending.returned (.bool x)) (mem_no3 hb2), hS.bel⟩)
theorem rgmember_any (a : Nat) (w0 : World) (ha : a < M) : Calls Tryz.prog 76 #[(U a)] w0 (fun ε w' => ε = .returned (.bool (memB a)) ∧ Below w0.heap.size w0 w') := rgmember_w a ha w0

theorem rgpower_w (e : Nat) (he : e < M) (w0 : World) : Calls Tryz.prog 78 #[(U e)] w0 (fun ε w' => ε = .returned (U (expmN 4 e pP)) ∧ Below w0.heap.size w0 w') := by
  refine Calls.of_ok (n := 6) (F := (fun _ => True)) Tryz.func78 rfl rfl rfl (by simp) (persTrue (fun _ => trivial)) ?_
  refine sS Tryz.f78 2 [1, 2] [] (fun ρ => [(pt (nb ρ 0)), (pt (nb ρ 1))]) (fun ρ => [(0, { news := [(nb ρ 0, (.cells (cU e) 29 (0, 0)))] }), (1, { news := [(nb ρ 1, (.cells (cU 0) 29 (0, 0)))] })]) (cR [[], []] <| cN) (fun ρ1 => ?_)
  refine sD Tryz.f78 [0, 0, 3, 7] 4 [2] [0, 1] (fun _ => [(U 4), (U e), (U (expmN 4 e pP)), undef]) (fun _ => [(3, { puts := [(1, nb ρ1 1, (.cells (cU (expmN 4 e pP)) 29 (0, 0)))] })]) (cC (fun _ w => rfromuint_lit 4 w (by decide)) <| cR [[0]] <| cC (fun _ w => rgexp_any 4 e w (by decide +kernel) he) <| cR [[1]] <| cN) (fun _ => ?_)
  refine ok_ret ?_
  exact mR (v := (U (expmN 4 e pP))) (fun _ hS => ⟨rfl, hS.bel⟩)
theorem rgpower_any (e : Nat) (w0 : World) (he : e < M) : Calls Tryz.prog 78 #[(U e)] w0 (fun ε w' => ε = .returned (U (expmN 4 e pP)) ∧ Below w0.heap.size w0 w') := rgpower_w e he w0

theorem rgaddscalar_w (a : Nat) (b : Nat) (ha : a < M) (hb : b < M) (w0 : World) : Calls Tryz.prog 89 #[(U a), (U b)] w0 (fun ε w' => ε = .returned (U (addmN a b qP)) ∧ Below w0.heap.size w0 w') := by
  refine Calls.of_ok (n := 9) (F := (fun _ => True)) Tryz.func89 rfl rfl rfl (by simp) (persTrue (fun _ => trivial)) ?_
  refine sS Tryz.f89 3 [2, 3, 4] [] (fun ρ => [(pt (nb ρ 0)), (pt (nb ρ 1)), (pt (nb ρ 2))]) (fun ρ => [(0, { news := [(nb ρ 0, (.cells (cU a) 29 (0, 0)))] }), (1, { news := [(nb ρ 1, (.cells (cU b) 29 (0, 0)))] }), (2, { news := [(nb ρ 2, (.cells (cU 0) 29 (0, 0)))] })]) (cR [[], [], []] <| cN) (fun ρ1 => ?_)
  refine sD Tryz.f89 [0, 0, 0, 7, 15] 5 [4] [0, 0, 1] (fun _ => [(U a), (U b), (U qP), (U (addmN a b qP)), undef]) (fun _ => [(4, { puts := [(2, nb ρ1 2, (.cells (cU (addmN a b qP)) 29 (0, 0)))] })]) (cR [[0], [1]] <| cC (fun _ w => rgorder_any w) <| cC (fun _ w => raddmod_any a b qP w ha hb qP_lt) <| cR [[2]] <| cN) (fun _ => ?_)
  refine ok_ret ?_
  exact mR (v := (U (addmN a b qP))) (fun _ hS => ⟨rfl, hS.bel⟩)
theorem rgaddscalar_any (a b : Nat) (w0 : World) (ha : a < M) (hb : b < M) : Calls Tryz.prog 89 #[(U a), (U b)] w0 (fun ε w' => ε = .returned (U (addmN a b qP)) ∧ Below w0.heap.size w0 w') := rgaddscalar_w a b ha hb w0

theorem rgscalar_w (h : Nat) (hh : h < M) (w0 : World) : Calls Tryz.prog 90 #[(.agg (hB h))] w0 (fun ε w' => ε = .returned (U (addmN h 0 qP)) ∧ Below w0.heap.size w0 w') := by
  refine Calls.of_ok (n := 7) (F := (fun _ => True)) Tryz.func90 rfl rfl rfl (by simp) (persTrue (fun _ => trivial)) ?_
  refine sS Tryz.f90 2 [1, 2] [] (fun ρ => [(pt (nb ρ 0)), (pt (nb ρ 1))]) (fun ρ => [(0, { news := [(nb ρ 0, (.cells (hB h) 31 (0, 0)))] }), (1, { news := [(nb ρ 1, (.cells (cU 0) 29 (0, 0)))] })]) (cR [[], []] <| cN) (fun ρ1 => ?_)
  refine sS Tryz.f90 5 [2] [0, 1] (fun _ => [(.agg (hB h)), (U h), (U 0), (U (addmN h 0 qP)), undef]) (fun _ => [(4, { puts := [(1, nb ρ1 1, (.cells (cU (addmN h 0 qP)) 29 (0, 0)))] })]) (cR [[0]] <| cC (fun _ w => rfrombytes_any h w) <| cR [[]] <| cC (fun _ w => rgaddscalar_any h 0 w hh (by decide +kernel)) <| cR [[1]] <| cN) (fun _ => ?_)
  refine ok_ret ?_
  exact mR (v := (U (addmN h 0 qP))) (fun _ hS => ⟨rfl, hS.bel⟩)
theorem rgscalar_any (h : Nat) (w0 : World) (hh : h < M) : Calls Tryz.prog 90 #[(.agg (hB h))] w0 (fun ε w' => ε = .returned (U (addmN h 0 qP)) ∧ Below w0.heap.size w0 w') := rgscalar_w h hh w0
end Go.Proofs.YtjdhjkceahaegaaGreatDoor

/-! Keys and signatures: the walks. -/
namespace Go.Proofs.YtjdhjkceahaegaaGreatDoor
open Go Go.RowKit

theorem scalarb_any (a : Nat) (ha : a < M) (w0 : World) : Calls Tryz.prog 82 #[(U a)] w0 (fun ε w' => ε = .returned (.bool (scB a)) ∧ Below w0.heap.size w0 w') := by
  refine Calls.of_ok (n := 7) (F := (fun _ => True)) Tryz.func82 rfl rfl rfl (by simp) (persTrue (fun _ => trivial)) ?_
  refine sS Tryz.f82 2 [1, 2] [] (fun ρ => [(pt (nb ρ 0)), (.bool false)]) (fun ρ => [(0, { news := [(nb ρ 0, (.cells (cU a) 29 (0, 0)))] })]) (cR [[], []] <| cN) (fun _ => ?_)
  refine sD Tryz.f82 [0, 0, 3, 7, 15] 5 [2] [0] (fun _ => [(U a), (U qP), (.int .i64 (cmpN a qP)), (.bool (decide ((cmpN a qP) < 0))), (.bool (decide ((cmpN a qP) < 0)))]) (fun _ => []) (cR [[0]] <| cC (fun _ w => gorder_any w) <| cC (fun _ w => cmp_any a qP w ha qP_lt) <| cR [[], []] <| cN) (fun _ => ?_)
  refine ok_ret ?_
  exact mR (v := (.bool (decide ((cmpN a qP) < 0)))) (fun _ hS => ⟨congrArg (fun x => Ending.returned (.bool x)) (sc_dec a), hS.bel⟩)

theorem secret_any (x : Nat) (hx : x < M) (w0 : World) : Calls Tryz.prog 56 #[(U x)] w0 (fun ε w' => ε = .returned (.bool (secB x)) ∧ Below w0.heap.size w0 w') := by
  refine Calls.of_ok (n := 10) (F := (fun _ => True)) Tryz.func56 rfl rfl rfl (by simp) (persTrue (fun _ => trivial)) ?_
  refine sS Tryz.f56 2 [1, 2] [] (fun ρ => [(pt (nb ρ 0)), (.bool false)]) (fun ρ => [(0, { news := [(nb ρ 0, (.cells (cU x) 29 (0, 0)))] })]) (cR [[], []] <| cN) (fun _ => ?_)
  rcases Bool.eq_false_or_eq_true (decide (x = 0)) with hb1 | hb1
  ·
    refine sS Tryz.f56 8 [2] [0] (fun _ => [(U x), (U 0), (.bool false), (.bool false), undef, undef, (.bool false), (.bool false)]) (fun _ => []) (cR [[0], []] <| cB (a := fun ρ => (U x)) (b := fun ρ => (U 0)) (v := fun ρ => (.bool false)) .neq 29 (fun _ _ => (neqU x 0 hx (by decide +kernel) _).trans (by rw [hb1]; try rfl)) <| cR [[], [], [], [], []] <| cN) (fun _ => ?_)
    refine ok_ret ?_
    exact mR (v := (.bool false)) (fun _ hS => ⟨congrArg (fun x => Ending.returned (.bool x)) (sec_0 hb1), hS.bel⟩)
  ·
    refine sS Tryz.f56 8 [2] [0] (fun _ => [(U x), (U 0), (.bool true), (.bool true), (U x), (.bool (scB x)), (.bool (scB x)), (.bool (scB x))]) (fun _ => []) (cR [[0], []] <| cB (a := fun ρ => (U x)) (b := fun ρ => (U 0)) (v := fun ρ => (.bool true)) .neq 29 (fun _ _ => (neqU x 0 hx (by decide +kernel) _).trans (by rw [hb1]; try rfl)) <| cR [[], [0]] <| cC (fun _ w => scalarb_any x hx w) <| cR [[], []] <| cN) (fun _ => ?_)
    refine ok_ret ?_
    exact mR (v := (.bool (scB x))) (fun _ hS => ⟨congrArg (fun x => Ending.returned (.bool x)) (sec_1 hb1), hS.bel⟩)

theorem rsecret_any (x : Nat) (hx : x < M) (w0 : World) : Calls Tryz.prog 77 #[(U x)] w0 (fun ε w' => ε = .returned (.bool (secB x)) ∧ Below w0.heap.size w0 w') := by
  refine Calls.of_ok (n := 12) (F := (fun _ => True)) Tryz.func77 rfl rfl rfl (by simp) (persTrue (fun _ => trivial)) ?_
  refine sS Tryz.f77 2 [1, 2] [] (fun ρ => [(pt (nb ρ 0)), (.bool false)]) (fun ρ => [(0, { news := [(nb ρ 0, (.cells (cU x) 29 (0, 0)))] })]) (cR [[], []] <| cN) (fun _ => ?_)
  rcases Bool.eq_false_or_eq_true (decide (x = 0)) with hb1 | hb1
  ·
    refine sD Tryz.f77 [0, 1, 3, 7, 15, 15, 63, 127, 255, 511] 10 [2] [0] (fun _ => [(U x), (.bool true), (.bool false), (.bool false), undef, undef, undef, undef, (.bool false), (.bool false)]) (fun _ => []) (cR [[0]] <| cC (f := 35) (args := fun ρ => #[(U x)]) (v := fun ρ => (.bool true)) (fun _ w => by as_aux_lemma => (have hcall := (fun w => rzero_any x w hx) w; rw [hb1] at hcall; exact hcall)) <| cR [[], [], [], [], [], [], [], []] <| cN) (fun _ => ?_)
    refine ok_ret ?_
    exact mR (v := (.bool false)) (fun _ hS => ⟨congrArg (fun x => Ending.returned (.bool x)) (sec_0 hb1), hS.bel⟩)
  ·
    refine sD Tryz.f77 [0, 1, 3, 7, 15, 15, 63, 127, 255, 511] 10 [2] [0] (fun _ => [(U x), (.bool false), (.bool true), (.bool true), (U x), (U qP), (.int .i64 (cmpN x qP)), (.bool (decide ((cmpN x qP) < 0))), (.bool (decide ((cmpN x qP) < 0))), (.bool (decide ((cmpN x qP) < 0)))]) (fun _ => []) (cR [[0]] <| cC (f := 35) (args := fun ρ => #[(U x)]) (v := fun ρ => (.bool false)) (fun _ w => by as_aux_lemma => (have hcall := (fun w => rzero_any x w hx) w; rw [hb1] at hcall; exact hcall)) <| cR [[], [], [0]] <| cC (fun _ w => rgorder_any w) <| cC (fun _ w => rcmp_any x qP w hx qP_lt) <| cR [[], [], []] <| cN) (fun _ => ?_)
    refine ok_ret ?_
    exact mR (v := (.bool (decide ((cmpN x qP) < 0)))) (fun _ hS => ⟨congrArg (fun x => Ending.returned (.bool x)) ((sc_dec x).trans (sec_1 hb1)), hS.bel⟩)

theorem public_any (x : Nat) (hx : x < M) (w0 : World) : Calls Tryz.prog 31 #[(U x)] w0 (fun ε w' => ε = .returned (.tuple #[(U (pubV x)), (.int .i64 (pubE x))]) ∧ Below w0.heap.size w0 w') := by
  refine Calls.of_ok (n := 10) (F := (fun _ => True)) Tryz.func31 rfl rfl rfl (by simp) (persTrue (fun _ => trivial)) ?_
  refine sS Tryz.f31 3 [1, 2, 3] [] (fun ρ => [(pt (nb ρ 0)), (pt (nb ρ 1)), (.int .i64 0)]) (fun ρ => [(0, { news := [(nb ρ 0, (.cells (cU x) 29 (0, 0)))] }), (1, { news := [(nb ρ 1, (.cells (cU 0) 29 (0, 0)))] })]) (cR [[], [], []] <| cN) (fun ρ1 => ?_)
  refine ok_seq ?_
  refine sS Tryz.f31 3 [1, 2, 3, 6] [] (fun _ => [(U x), (.bool (secB x)), (.bool (!(secB x)))]) (fun _ => []) (cR [[0]] <| cC (fun _ w => secret_any x hx w) <| cR [[]] <| cN) (fun _ => ?_)
  refine oC (!(secB x)) (fun hb1 => ?_) (fun hb1 => ?_)
  ·
    rw [hb1]
    refine sS Tryz.f31 3 [1, 2, 3] [] (fun _ => [(U 0), undef, (.int .i64 60)]) (fun _ => [(1, { puts := [(1, nb ρ1 1, (.cells (cU 0) 29 (0, 0)))] })]) (cR [[], [1], []] <| cN) (fun _ => ?_)
    refine ok_ret ?_
    refine mt_then_r ?_
    exact mR (v := (.tuple #[(U 0), (.int .i64 60)])) (ps := [1,1,1,1]) (fun _ hS => ⟨by rw [(pub_no (not_t hb1)).1, (pub_no (not_t hb1)).2], hS.bel⟩)
  ·
    rw [hb1]
    refine ok_skip ?_
    refine mt_then ?_
    refine sS Tryz.f31 4 [2, 3] [0, 1] (fun _ => [(U x), (U (expmN 4 x pP)), undef, (.int .i64 0)]) (fun _ => [(2, { puts := [(1, nb ρ1 1, (.cells (cU (expmN 4 x pP)) 29 (0, 0)))] })]) (cR [[0]] <| cC (fun _ w => gpower_any x w hx) <| cR [[1], []] <| cN) (fun _ => ?_)
    refine ok_ret ?_
    exact mR (v := (.tuple #[(U (expmN 4 x pP)), (.int .i64 0)])) (fun _ hS => ⟨by rw [(pub_yes (not_f hb1)).1, (pub_yes (not_f hb1)).2], hS.bel⟩)

theorem valid_any (p : Nat) (hp : p < M) (w0 : World) : Calls Tryz.prog 45 #[(U p)] w0 (fun ε w' => ε = .returned (.bool (valB p)) ∧ Below w0.heap.size w0 w') := by
  refine Calls.of_ok (n := 10) (F := (fun _ => True)) Tryz.func45 rfl rfl rfl (by simp) (persTrue (fun _ => trivial)) ?_
  refine sS Tryz.f45 2 [1, 2] [] (fun ρ => [(pt (nb ρ 0)), (.bool false)]) (fun ρ => [(0, { news := [(nb ρ 0, (.cells (cU p) 29 (0, 0)))] })]) (cR [[], []] <| cN) (fun _ => ?_)
  rcases Bool.eq_false_or_eq_true (decide (p = 1)) with hb1 | hb1
  ·
    refine sD Tryz.f45 [0, 0, 3, 7, 15, 31, 63, 127] 8 [2] [0] (fun _ => [(U p), (U 1), (.bool false), (.bool false), undef, undef, (.bool false), (.bool false)]) (fun _ => []) (cR [[0]] <| cC (fun _ w => fromuint_lit 1 w (by decide)) <| cB (a := fun ρ => (U p)) (b := fun ρ => (U 1)) (v := fun ρ => (.bool false)) .neq 29 (fun _ _ => (neqU p 1 hp (by decide +kernel) _).trans (by rw [hb1]; try rfl)) <| cR [[], [], [], [], []] <| cN) (fun _ => ?_)
    refine ok_ret ?_
    exact mR (v := (.bool false)) (fun _ hS => ⟨congrArg (fun x => Ending.returned (.bool x)) (val_0 hb1), hS.bel⟩)
  ·
    refine sD Tryz.f45 [0, 0, 3, 7, 15, 31, 63, 127] 8 [2] [0] (fun _ => [(U p), (U 1), (.bool true), (.bool true), (U p), (.bool (memB p)), (.bool (memB p)), (.bool (memB p))]) (fun _ => []) (cR [[0]] <| cC (fun _ w => fromuint_lit 1 w (by decide)) <| cB (a := fun ρ => (U p)) (b := fun ρ => (U 1)) (v := fun ρ => (.bool true)) .neq 29 (fun _ _ => (neqU p 1 hp (by decide +kernel) _).trans (by rw [hb1]; try rfl)) <| cR [[], [0]] <| cC (fun _ w => gmember_any p w hp) <| cR [[], []] <| cN) (fun _ => ?_)
    refine ok_ret ?_
    exact mR (v := (.bool (memB p))) (fun _ hS => ⟨congrArg (fun x => Ending.returned (.bool x)) (val_1 hb1), hS.bel⟩)

theorem tweak_any (p : Nat) (t : Nat) (hp : p < M) (ht : t < M) (w0 : World) : Calls Tryz.prog 32 #[(U p), (.agg (hB t))] w0 (fun ε w' => ε = .returned (.tuple #[(U (twV p t)), (.int .i64 (twE p t))]) ∧ Below w0.heap.size w0 w') := by
  refine Calls.of_ok (n := 21) (F := (fun _ => True)) Tryz.func32 rfl rfl rfl (by simp) (persTrue (fun _ => trivial)) ?_
  refine sS Tryz.f32 4 [2, 3, 4, 5] [] (fun ρ => [(pt (nb ρ 0)), (pt (nb ρ 1)), (pt (nb ρ 2)), (.int .i64 0)]) (fun ρ => [(0, { news := [(nb ρ 0, (.cells (cU p) 29 (0, 0)))] }), (1, { news := [(nb ρ 1, (.cells (hB t) 31 (0, 0)))] }), (2, { news := [(nb ρ 2, (.cells (cU 0) 29 (0, 0)))] })]) (cR [[], [], [], []] <| cN) (fun ρ1 => ?_)
  refine ok_seq ?_
  refine sS Tryz.f32 3 [2, 3, 4, 5, 9] [] (fun _ => [(U p), (.bool (valB p)), (.bool (!(valB p)))]) (fun _ => []) (cR [[0]] <| cC (fun _ w => valid_any p hp w) <| cR [[]] <| cN) (fun _ => ?_)
  refine oC (!(valB p)) (fun hb1 => ?_) (fun hb1 => ?_)
  ·
    rw [hb1]
    refine sS Tryz.f32 3 [2, 3, 4, 5] [] (fun _ => [(U 0), undef, (.int .i64 60)]) (fun _ => [(1, { puts := [(2, nb ρ1 2, (.cells (cU 0) 29 (0, 0)))] })]) (cR [[], [2], []] <| cN) (fun _ => ?_)
    refine ok_ret ?_
    refine mt_then_r ?_
    exact mR (v := (.tuple #[(U 0), (.int .i64 60)])) (ps := [2,2,2,2]) (fun _ hS => ⟨by rw [(tw_a (not_t hb1)).1, (tw_a (not_t hb1)).2], hS.bel⟩)
  ·
    rw [hb1]
    refine ok_skip ?_
    refine mt_then ?_
    refine sD Tryz.f32 [0, 0, 2, 6, 15, 0, 63] 7 [4, 5, 6] [0, 0, 1, 1] (fun ρ => [(U p), (.agg (hB t)), (U (addmN t 0 qP)), (U (expmN 4 (addmN t 0 qP) pP)), (U (mulmN p (expmN 4 (addmN t 0 qP) pP) pP)), (pt (nb ρ 5)), undef]) (fun ρ => [(5, { news := [(nb ρ 5, (.cells (cU 0) 29 (0, 0)))] }), (6, { puts := [(43, nb ρ 5, (.cells (cU (mulmN p (expmN 4 (addmN t 0 qP) pP) pP)) 29 (0, 0)))] })]) (cR [[0], [1]] <| cC (fun _ w => gscalar_any t w ht) <| cC (f := 59) (args := fun ρ => #[(U (addmN t 0 qP))]) (v := fun ρ => (U (expmN 4 (addmN t 0 qP) pP))) (fun _ w => (fun w => gpower_any (addmN t 0 qP) w (addmN_lt _ _ qP_lt)) w) <| cC (f := 60) (args := fun ρ => #[(U p), (U (expmN 4 (addmN t 0 qP) pP))]) (v := fun ρ => (U (mulmN p (expmN 4 (addmN t 0 qP) pP) pP))) (fun _ w => (fun w => gmul_any p (expmN 4 (addmN t 0 qP) pP) w hp (expmN_lt _ _ pP_lt)) w) <| cR [[], [43]] <| cN) (fun _ => ?_)
    refine ok_seq ?_
    refine sD Tryz.f32 [0, 0, 3] 3 [4, 5, 6, 18] [] (fun _ => [(U (mulmN p (expmN 4 (addmN t 0 qP) pP) pP)), (U 1), (.bool (decide (mulmN p (expmN 4 (addmN t 0 qP) pP) pP = 1)))]) (fun _ => []) (cR [[1]] <| cC (fun _ w => fromuint_lit 1 w (by decide)) <| cB (a := fun ρ => (U (mulmN p (expmN 4 (addmN t 0 qP) pP) pP))) (b := fun ρ => (U 1)) (v := fun ρ => (.bool (decide (mulmN p (expmN 4 (addmN t 0 qP) pP) pP = 1)))) .eql 29 (fun _ _ => eqlU (mulmN p (expmN 4 (addmN t 0 qP) pP) pP) 1 (mulmN_lt _ _ pP_lt) (by decide +kernel) _) <| cN) (fun _ => ?_)
    refine oC (decide (mulmN p (expmN 4 (addmN t 0 qP) pP) pP = 1)) (fun hb2 => ?_) (fun hb2 => ?_)
    ·
      rw [hb2]
      refine sS Tryz.f32 3 [4, 5, 6] [] (fun _ => [(U 0), undef, (.int .i64 5)]) (fun _ => [(1, { puts := [(0, nb ρ1 2, (.cells (cU 0) 29 (0, 0)))] })]) (cR [[], [0], []] <| cN) (fun _ => ?_)
      refine ok_ret ?_
      refine mt_then_r ?_
      exact mR (v := (.tuple #[(U 0), (.int .i64 5)])) (fun _ hS => ⟨by rw [(tw_b (t := t) (not_f hb1) (of_decide_eq_true hb2)).1, (tw_b (t := t) (not_f hb1) (of_decide_eq_true hb2)).2], hS.bel⟩)
    ·
      rw [hb2]
      refine ok_skip ?_
      refine mt_then ?_
      refine sS Tryz.f32 3 [4, 5] [1, 0] (fun _ => [(U (mulmN p (expmN 4 (addmN t 0 qP) pP) pP)), undef, (.int .i64 0)]) (fun _ => [(1, { puts := [(0, nb ρ1 2, (.cells (cU (mulmN p (expmN 4 (addmN t 0 qP) pP) pP)) 29 (0, 0)))] })]) (cR [[1], [0], []] <| cN) (fun _ => ?_)
      refine ok_ret ?_
      exact mR (v := (.tuple #[(U (mulmN p (expmN 4 (addmN t 0 qP) pP) pP)), (.int .i64 0)])) (fun _ hS => ⟨by rw [(tw_c (t := t) (not_f hb1) (of_decide_eq_false hb2)).1, (tw_c (t := t) (not_f hb1) (of_decide_eq_false hb2)).2]; rfl, hS.bel⟩)

theorem tweaksecret_any (x : Nat) (t : Nat) (hx : x < M) (ht : t < M) (w0 : World) : Calls Tryz.prog 30 #[(U x), (.agg (hB t))] w0 (fun ε w' => ε = .returned (.tuple #[(U (tsV x t)), (.int .i64 (tsE x t))]) ∧ Below w0.heap.size w0 w') := by
  refine Calls.of_ok (n := 20) (F := (fun _ => True)) Tryz.func30 rfl rfl rfl (by simp) (persTrue (fun _ => trivial)) ?_
  refine sS Tryz.f30 4 [2, 3, 4, 5] [] (fun ρ => [(pt (nb ρ 0)), (pt (nb ρ 1)), (pt (nb ρ 2)), (.int .i64 0)]) (fun ρ => [(0, { news := [(nb ρ 0, (.cells (cU x) 29 (0, 0)))] }), (1, { news := [(nb ρ 1, (.cells (hB t) 31 (0, 0)))] }), (2, { news := [(nb ρ 2, (.cells (cU 0) 29 (0, 0)))] })]) (cR [[], [], [], []] <| cN) (fun ρ1 => ?_)
  refine ok_seq ?_
  refine sS Tryz.f30 3 [2, 3, 4, 5, 9] [] (fun _ => [(U x), (.bool (secB x)), (.bool (!(secB x)))]) (fun _ => []) (cR [[0]] <| cC (fun _ w => secret_any x hx w) <| cR [[]] <| cN) (fun _ => ?_)
  refine oC (!(secB x)) (fun hb1 => ?_) (fun hb1 => ?_)
  ·
    rw [hb1]
    refine sS Tryz.f30 3 [2, 3, 4, 5] [] (fun _ => [(U 0), undef, (.int .i64 60)]) (fun _ => [(1, { puts := [(2, nb ρ1 2, (.cells (cU 0) 29 (0, 0)))] })]) (cR [[], [2], []] <| cN) (fun _ => ?_)
    refine ok_ret ?_
    refine mt_then_r ?_
    exact mR (v := (.tuple #[(U 0), (.int .i64 60)])) (ps := [2,2,2,2]) (fun _ hS => ⟨by rw [(ts_a (not_t hb1)).1, (ts_a (not_t hb1)).2], hS.bel⟩)
  ·
    rw [hb1]
    refine ok_skip ?_
    refine mt_then ?_
    refine sD Tryz.f30 [0, 0, 2, 7, 0, 31] 6 [4, 5, 6] [0, 0, 1, 1] (fun ρ => [(U x), (.agg (hB t)), (U (addmN t 0 qP)), (U (addmN x (addmN t 0 qP) qP)), (pt (nb ρ 4)), undef]) (fun ρ => [(4, { news := [(nb ρ 4, (.cells (cU 0) 29 (0, 0)))] }), (5, { puts := [(35, nb ρ 4, (.cells (cU (addmN x (addmN t 0 qP) qP)) 29 (0, 0)))] })]) (cR [[0], [1]] <| cC (fun _ w => gscalar_any t w ht) <| cC (f := 57) (args := fun ρ => #[(U x), (U (addmN t 0 qP))]) (v := fun ρ => (U (addmN x (addmN t 0 qP) qP))) (fun _ w => (fun w => gaddscalar_any x (addmN t 0 qP) w hx (addmN_lt _ _ qP_lt)) w) <| cR [[], [35]] <| cN) (fun _ => ?_)
    refine ok_seq ?_
    refine sS Tryz.f30 3 [4, 5, 6, 17] [] (fun _ => [(U (addmN x (addmN t 0 qP) qP)), (U 0), (.bool (decide (addmN x (addmN t 0 qP) qP = 0)))]) (fun _ => []) (cR [[1], []] <| cB (a := fun ρ => (U (addmN x (addmN t 0 qP) qP))) (b := fun ρ => (U 0)) (v := fun ρ => (.bool (decide (addmN x (addmN t 0 qP) qP = 0)))) .eql 29 (fun _ _ => eqlU (addmN x (addmN t 0 qP) qP) 0 (addmN_lt _ _ qP_lt) (by decide +kernel) _) <| cN) (fun _ => ?_)
    refine oC (decide (addmN x (addmN t 0 qP) qP = 0)) (fun hb2 => ?_) (fun hb2 => ?_)
    ·
      rw [hb2]
      refine sS Tryz.f30 3 [4, 5, 6] [] (fun _ => [(U 0), undef, (.int .i64 5)]) (fun _ => [(1, { puts := [(0, nb ρ1 2, (.cells (cU 0) 29 (0, 0)))] })]) (cR [[], [0], []] <| cN) (fun _ => ?_)
      refine ok_ret ?_
      refine mt_then_r ?_
      exact mR (v := (.tuple #[(U 0), (.int .i64 5)])) (fun _ hS => ⟨by rw [(ts_b (t := t) (not_f hb1) (of_decide_eq_true hb2)).1, (ts_b (t := t) (not_f hb1) (of_decide_eq_true hb2)).2], hS.bel⟩)
    ·
      rw [hb2]
      refine ok_skip ?_
      refine mt_then ?_
      refine sS Tryz.f30 3 [4, 5] [1, 0] (fun _ => [(U (addmN x (addmN t 0 qP) qP)), undef, (.int .i64 0)]) (fun _ => [(1, { puts := [(0, nb ρ1 2, (.cells (cU (addmN x (addmN t 0 qP) qP)) 29 (0, 0)))] })]) (cR [[1], [0], []] <| cN) (fun _ => ?_)
      refine ok_ret ?_
      exact mR (v := (.tuple #[(U (addmN x (addmN t 0 qP) qP)), (.int .i64 0)])) (fun _ hS => ⟨by rw [(ts_c (t := t) (not_f hb1) (of_decide_eq_false hb2)).1, (ts_c (t := t) (not_f hb1) (of_decide_eq_false hb2)).2]; rfl, hS.bel⟩)

theorem rpublic_any (x : Nat) (hx : x < M) (w0 : World) : Calls Tryz.prog 50 #[(U x)] w0 (fun ε w' => ε = .returned (.tuple #[(U (pubV x)), (.int .i64 (pubE x))]) ∧ Below w0.heap.size w0 w') := by
  refine Calls.of_ok (n := 10) (F := (fun _ => True)) Tryz.func50 rfl rfl rfl (by simp) (persTrue (fun _ => trivial)) ?_
  refine sS Tryz.f50 3 [1, 2, 3] [] (fun ρ => [(pt (nb ρ 0)), (pt (nb ρ 1)), (.int .i64 0)]) (fun ρ => [(0, { news := [(nb ρ 0, (.cells (cU x) 29 (0, 0)))] }), (1, { news := [(nb ρ 1, (.cells (cU 0) 29 (0, 0)))] })]) (cR [[], [], []] <| cN) (fun ρ1 => ?_)
  refine ok_seq ?_
  refine sS Tryz.f50 3 [1, 2, 3, 6] [] (fun _ => [(U x), (.bool (secB x)), (.bool (!(secB x)))]) (fun _ => []) (cR [[0]] <| cC (fun _ w => rsecret_any x hx w) <| cR [[]] <| cN) (fun _ => ?_)
  refine oC (!(secB x)) (fun hb1 => ?_) (fun hb1 => ?_)
  ·
    rw [hb1]
    refine sS Tryz.f50 3 [1, 2, 3] [] (fun _ => [(U 0), undef, (.int .i64 60)]) (fun _ => [(1, { puts := [(1, nb ρ1 1, (.cells (cU 0) 29 (0, 0)))] })]) (cR [[], [1], []] <| cN) (fun _ => ?_)
    refine ok_ret ?_
    refine mt_then_r ?_
    exact mR (v := (.tuple #[(U 0), (.int .i64 60)])) (ps := [1,1,1,1]) (fun _ hS => ⟨by rw [(pub_no (not_t hb1)).1, (pub_no (not_t hb1)).2], hS.bel⟩)
  ·
    rw [hb1]
    refine ok_skip ?_
    refine mt_then ?_
    refine sS Tryz.f50 4 [2, 3] [0, 1] (fun _ => [(U x), (U (expmN 4 x pP)), undef, (.int .i64 0)]) (fun _ => [(2, { puts := [(1, nb ρ1 1, (.cells (cU (expmN 4 x pP)) 29 (0, 0)))] })]) (cR [[0]] <| cC (fun _ w => rgpower_any x w hx) <| cR [[1], []] <| cN) (fun _ => ?_)
    refine ok_ret ?_
    exact mR (v := (.tuple #[(U (expmN 4 x pP)), (.int .i64 0)])) (fun _ hS => ⟨by rw [(pub_yes (not_f hb1)).1, (pub_yes (not_f hb1)).2], hS.bel⟩)

theorem rvalid_any (p : Nat) (hp : p < M) (w0 : World) : Calls Tryz.prog 49 #[(U p)] w0 (fun ε w' => ε = .returned (.bool (valB p)) ∧ Below w0.heap.size w0 w') := by
  refine Calls.of_ok (n := 10) (F := (fun _ => True)) Tryz.func49 rfl rfl rfl (by simp) (persTrue (fun _ => trivial)) ?_
  refine sS Tryz.f49 2 [1, 2] [] (fun ρ => [(pt (nb ρ 0)), (.bool false)]) (fun ρ => [(0, { news := [(nb ρ 0, (.cells (cU p) 29 (0, 0)))] })]) (cR [[], []] <| cN) (fun _ => ?_)
  rcases Bool.eq_false_or_eq_true (decide (p = 1)) with hb1 | hb1
  ·
    refine sD Tryz.f49 [0, 0, 3, 7, 15, 31, 63, 127] 8 [2] [0] (fun _ => [(U p), (U 1), (.bool false), (.bool false), undef, undef, (.bool false), (.bool false)]) (fun _ => []) (cR [[0]] <| cC (fun _ w => rfromuint_lit 1 w (by decide)) <| cB (a := fun ρ => (U p)) (b := fun ρ => (U 1)) (v := fun ρ => (.bool false)) .neq 29 (fun _ _ => (neqU p 1 hp (by decide +kernel) _).trans (by rw [hb1]; try rfl)) <| cR [[], [], [], [], []] <| cN) (fun _ => ?_)
    refine ok_ret ?_
    exact mR (v := (.bool false)) (fun _ hS => ⟨congrArg (fun x => Ending.returned (.bool x)) (val_0 hb1), hS.bel⟩)
  ·
    refine sD Tryz.f49 [0, 0, 3, 7, 15, 31, 63, 127] 8 [2] [0] (fun _ => [(U p), (U 1), (.bool true), (.bool true), (U p), (.bool (memB p)), (.bool (memB p)), (.bool (memB p))]) (fun _ => []) (cR [[0]] <| cC (fun _ w => rfromuint_lit 1 w (by decide)) <| cB (a := fun ρ => (U p)) (b := fun ρ => (U 1)) (v := fun ρ => (.bool true)) .neq 29 (fun _ _ => (neqU p 1 hp (by decide +kernel) _).trans (by rw [hb1]; try rfl)) <| cR [[], [0]] <| cC (fun _ w => rgmember_any p w hp) <| cR [[], []] <| cN) (fun _ => ?_)
    refine ok_ret ?_
    exact mR (v := (.bool (memB p))) (fun _ hS => ⟨congrArg (fun x => Ending.returned (.bool x)) (val_1 hb1), hS.bel⟩)

theorem rtweak_any (p : Nat) (t : Nat) (hp : p < M) (ht : t < M) (w0 : World) : Calls Tryz.prog 66 #[(U p), (.agg (hB t))] w0 (fun ε w' => ε = .returned (.tuple #[(U (twV p t)), (.int .i64 (twE p t))]) ∧ Below w0.heap.size w0 w') := by
  refine Calls.of_ok (n := 21) (F := (fun _ => True)) Tryz.func66 rfl rfl rfl (by simp) (persTrue (fun _ => trivial)) ?_
  refine sS Tryz.f66 4 [2, 3, 4, 5] [] (fun ρ => [(pt (nb ρ 0)), (pt (nb ρ 1)), (pt (nb ρ 2)), (.int .i64 0)]) (fun ρ => [(0, { news := [(nb ρ 0, (.cells (cU p) 29 (0, 0)))] }), (1, { news := [(nb ρ 1, (.cells (hB t) 31 (0, 0)))] }), (2, { news := [(nb ρ 2, (.cells (cU 0) 29 (0, 0)))] })]) (cR [[], [], [], []] <| cN) (fun ρ1 => ?_)
  refine ok_seq ?_
  refine sS Tryz.f66 3 [2, 3, 4, 5, 9] [] (fun _ => [(U p), (.bool (valB p)), (.bool (!(valB p)))]) (fun _ => []) (cR [[0]] <| cC (fun _ w => rvalid_any p hp w) <| cR [[]] <| cN) (fun _ => ?_)
  refine oC (!(valB p)) (fun hb1 => ?_) (fun hb1 => ?_)
  ·
    rw [hb1]
    refine sS Tryz.f66 3 [2, 3, 4, 5] [] (fun _ => [(U 0), undef, (.int .i64 60)]) (fun _ => [(1, { puts := [(2, nb ρ1 2, (.cells (cU 0) 29 (0, 0)))] })]) (cR [[], [2], []] <| cN) (fun _ => ?_)
    refine ok_ret ?_
    refine mt_then_r ?_
    exact mR (v := (.tuple #[(U 0), (.int .i64 60)])) (ps := [2,2,2,2]) (fun _ hS => ⟨by rw [(tw_a (not_t hb1)).1, (tw_a (not_t hb1)).2], hS.bel⟩)
  ·
    rw [hb1]
    refine ok_skip ?_
    refine mt_then ?_
    refine sD Tryz.f66 [0, 0, 2, 6, 15, 0, 63] 7 [4, 5, 6] [0, 0, 1, 1] (fun ρ => [(U p), (.agg (hB t)), (U (addmN t 0 qP)), (U (expmN 4 (addmN t 0 qP) pP)), (U (mulmN p (expmN 4 (addmN t 0 qP) pP) pP)), (pt (nb ρ 5)), undef]) (fun ρ => [(5, { news := [(nb ρ 5, (.cells (cU 0) 29 (0, 0)))] }), (6, { puts := [(43, nb ρ 5, (.cells (cU (mulmN p (expmN 4 (addmN t 0 qP) pP) pP)) 29 (0, 0)))] })]) (cR [[0], [1]] <| cC (fun _ w => rgscalar_any t w ht) <| cC (f := 78) (args := fun ρ => #[(U (addmN t 0 qP))]) (v := fun ρ => (U (expmN 4 (addmN t 0 qP) pP))) (fun _ w => (fun w => rgpower_any (addmN t 0 qP) w (addmN_lt _ _ qP_lt)) w) <| cC (f := 91) (args := fun ρ => #[(U p), (U (expmN 4 (addmN t 0 qP) pP))]) (v := fun ρ => (U (mulmN p (expmN 4 (addmN t 0 qP) pP) pP))) (fun _ w => (fun w => rgmul_any p (expmN 4 (addmN t 0 qP) pP) w hp (expmN_lt _ _ pP_lt)) w) <| cR [[], [43]] <| cN) (fun _ => ?_)
    refine ok_seq ?_
    refine sD Tryz.f66 [0, 0, 3] 3 [4, 5, 6, 18] [] (fun _ => [(U (mulmN p (expmN 4 (addmN t 0 qP) pP) pP)), (U 1), (.bool (decide (mulmN p (expmN 4 (addmN t 0 qP) pP) pP = 1)))]) (fun _ => []) (cR [[1]] <| cC (fun _ w => rfromuint_lit 1 w (by decide)) <| cB (a := fun ρ => (U (mulmN p (expmN 4 (addmN t 0 qP) pP) pP))) (b := fun ρ => (U 1)) (v := fun ρ => (.bool (decide (mulmN p (expmN 4 (addmN t 0 qP) pP) pP = 1)))) .eql 29 (fun _ _ => eqlU (mulmN p (expmN 4 (addmN t 0 qP) pP) pP) 1 (mulmN_lt _ _ pP_lt) (by decide +kernel) _) <| cN) (fun _ => ?_)
    refine oC (decide (mulmN p (expmN 4 (addmN t 0 qP) pP) pP = 1)) (fun hb2 => ?_) (fun hb2 => ?_)
    ·
      rw [hb2]
      refine sS Tryz.f66 3 [4, 5, 6] [] (fun _ => [(U 0), undef, (.int .i64 5)]) (fun _ => [(1, { puts := [(0, nb ρ1 2, (.cells (cU 0) 29 (0, 0)))] })]) (cR [[], [0], []] <| cN) (fun _ => ?_)
      refine ok_ret ?_
      refine mt_then_r ?_
      exact mR (v := (.tuple #[(U 0), (.int .i64 5)])) (fun _ hS => ⟨by rw [(tw_b (t := t) (not_f hb1) (of_decide_eq_true hb2)).1, (tw_b (t := t) (not_f hb1) (of_decide_eq_true hb2)).2], hS.bel⟩)
    ·
      rw [hb2]
      refine ok_skip ?_
      refine mt_then ?_
      refine sS Tryz.f66 3 [4, 5] [1, 0] (fun _ => [(U (mulmN p (expmN 4 (addmN t 0 qP) pP) pP)), undef, (.int .i64 0)]) (fun _ => [(1, { puts := [(0, nb ρ1 2, (.cells (cU (mulmN p (expmN 4 (addmN t 0 qP) pP) pP)) 29 (0, 0)))] })]) (cR [[1], [0], []] <| cN) (fun _ => ?_)
      refine ok_ret ?_
      exact mR (v := (.tuple #[(U (mulmN p (expmN 4 (addmN t 0 qP) pP) pP)), (.int .i64 0)])) (fun _ hS => ⟨by rw [(tw_c (t := t) (not_f hb1) (of_decide_eq_false hb2)).1, (tw_c (t := t) (not_f hb1) (of_decide_eq_false hb2)).2]; rfl, hS.bel⟩)

theorem rtweaksecret_any (x : Nat) (t : Nat) (hx : x < M) (ht : t < M) (w0 : World) : Calls Tryz.prog 65 #[(U x), (.agg (hB t))] w0 (fun ε w' => ε = .returned (.tuple #[(U (tsV x t)), (.int .i64 (tsE x t))]) ∧ Below w0.heap.size w0 w') := by
  refine Calls.of_ok (n := 19) (F := (fun _ => True)) Tryz.func65 rfl rfl rfl (by simp) (persTrue (fun _ => trivial)) ?_
  refine sS Tryz.f65 4 [2, 3, 4, 5] [] (fun ρ => [(pt (nb ρ 0)), (pt (nb ρ 1)), (pt (nb ρ 2)), (.int .i64 0)]) (fun ρ => [(0, { news := [(nb ρ 0, (.cells (cU x) 29 (0, 0)))] }), (1, { news := [(nb ρ 1, (.cells (hB t) 31 (0, 0)))] }), (2, { news := [(nb ρ 2, (.cells (cU 0) 29 (0, 0)))] })]) (cR [[], [], [], []] <| cN) (fun ρ1 => ?_)
  refine ok_seq ?_
  refine sS Tryz.f65 3 [2, 3, 4, 5, 9] [] (fun _ => [(U x), (.bool (secB x)), (.bool (!(secB x)))]) (fun _ => []) (cR [[0]] <| cC (fun _ w => rsecret_any x hx w) <| cR [[]] <| cN) (fun _ => ?_)
  refine oC (!(secB x)) (fun hb1 => ?_) (fun hb1 => ?_)
  ·
    rw [hb1]
    refine sS Tryz.f65 3 [2, 3, 4, 5] [] (fun _ => [(U 0), undef, (.int .i64 60)]) (fun _ => [(1, { puts := [(2, nb ρ1 2, (.cells (cU 0) 29 (0, 0)))] })]) (cR [[], [2], []] <| cN) (fun _ => ?_)
    refine ok_ret ?_
    refine mt_then_r ?_
    exact mR (v := (.tuple #[(U 0), (.int .i64 60)])) (ps := [2,2,2,2]) (fun _ hS => ⟨by rw [(ts_a (not_t hb1)).1, (ts_a (not_t hb1)).2], hS.bel⟩)
  ·
    rw [hb1]
    refine ok_skip ?_
    refine mt_then ?_
    refine sD Tryz.f65 [0, 0, 2, 7, 0, 31] 6 [4, 5, 6] [0, 0, 1, 1] (fun ρ => [(U x), (.agg (hB t)), (U (addmN t 0 qP)), (U (addmN x (addmN t 0 qP) qP)), (pt (nb ρ 4)), undef]) (fun ρ => [(4, { news := [(nb ρ 4, (.cells (cU 0) 29 (0, 0)))] }), (5, { puts := [(35, nb ρ 4, (.cells (cU (addmN x (addmN t 0 qP) qP)) 29 (0, 0)))] })]) (cR [[0], [1]] <| cC (fun _ w => rgscalar_any t w ht) <| cC (f := 89) (args := fun ρ => #[(U x), (U (addmN t 0 qP))]) (v := fun ρ => (U (addmN x (addmN t 0 qP) qP))) (fun _ w => (fun w => rgaddscalar_any x (addmN t 0 qP) w hx (addmN_lt _ _ qP_lt)) w) <| cR [[], [35]] <| cN) (fun _ => ?_)
    refine ok_seq ?_
    refine sS Tryz.f65 2 [4, 5, 6, 16] [] (fun _ => [(U (addmN x (addmN t 0 qP) qP)), (.bool (decide (addmN x (addmN t 0 qP) qP = 0)))]) (fun _ => []) (cR [[1]] <| cC (f := 35) (args := fun ρ => #[(U (addmN x (addmN t 0 qP) qP))]) (v := fun ρ => (.bool (decide (addmN x (addmN t 0 qP) qP = 0)))) (fun _ w => (fun w => rzero_any (addmN x (addmN t 0 qP) qP) w (addmN_lt _ _ qP_lt)) w) <| cN) (fun _ => ?_)
    refine oC (decide (addmN x (addmN t 0 qP) qP = 0)) (fun hb2 => ?_) (fun hb2 => ?_)
    ·
      rw [hb2]
      refine sS Tryz.f65 3 [4, 5, 6] [] (fun _ => [(U 0), undef, (.int .i64 5)]) (fun _ => [(1, { puts := [(0, nb ρ1 2, (.cells (cU 0) 29 (0, 0)))] })]) (cR [[], [0], []] <| cN) (fun _ => ?_)
      refine ok_ret ?_
      refine mt_then_r ?_
      exact mR (v := (.tuple #[(U 0), (.int .i64 5)])) (fun _ hS => ⟨by rw [(ts_b (t := t) (not_f hb1) (of_decide_eq_true hb2)).1, (ts_b (t := t) (not_f hb1) (of_decide_eq_true hb2)).2], hS.bel⟩)
    ·
      rw [hb2]
      refine ok_skip ?_
      refine mt_then ?_
      refine sS Tryz.f65 3 [4, 5] [1, 0] (fun _ => [(U (addmN x (addmN t 0 qP) qP)), undef, (.int .i64 0)]) (fun _ => [(1, { puts := [(0, nb ρ1 2, (.cells (cU (addmN x (addmN t 0 qP) qP)) 29 (0, 0)))] })]) (cR [[1], [0], []] <| cN) (fun _ => ?_)
      refine ok_ret ?_
      exact mR (v := (.tuple #[(U (addmN x (addmN t 0 qP) qP)), (.int .i64 0)])) (fun _ hS => ⟨by rw [(ts_c (t := t) (not_f hb1) (of_decide_eq_false hb2)).1, (ts_c (t := t) (not_f hb1) (of_decide_eq_false hb2)).2]; rfl, hS.bel⟩)
end Go.Proofs.YtjdhjkceahaegaaGreatDoor

/-! SHA-256: padding, rows: the walks. -/
namespace Go.Proofs.YtjdhjkceahaegaaGreatDoor
open Go Go.RowKit

theorem rpad_any (n : Nat) (hn : n ≤ 140737488351232) (w0 : World) : Calls Tryz.prog 106 #[(.int .u64 ((n : Nat) : Int))] w0 (fun ε w' => ∃ α κ, ε = .returned (.slice α (padN n).length κ) ∧ Below w0.heap.size w0 w' ∧ Fs w0 w' α κ (padN n)) := by
  refine Calls.of_ok (n := 31) (F := (fun _ => True)) Tryz.func106 rfl rfl rfl (by simp) (persTrue (fun _ => trivial)) ?_
  refine sS Tryz.f106 1 [0, 2] [] (fun _ => [(.slice none 0 0)]) (fun _ => []) (cR [[]] <| cN) (fun _ => ?_)
  refine sS Tryz.f106 2 [0, 2, 3] [] (fun ρ => [(.slice (some ⟨nb ρ 0, 0, none⟩) (([128] : List UInt8)).length 1), (.slice (some ⟨nb ρ 0, 0, none⟩) (([128] : List UInt8)).length 1)]) (fun ρ => [(0, { news := [(nb ρ 0, (.cells #[(.int .u8 128)] 5 (0, 0)))] })]) (cR [[], []] <| cN) (fun ρ2 => ?_)
  refine ok_seq ?_
  refine ok_block ?_
  refine oL (σ := (Nat × Nat × (List UInt8) × (Array Value) × Nat)) (fun s => match s with |  ⟨_, g, X, _, κ⟩ => [(0, (.int .u64 ((n : Nat) : Int))), (2, (.slice none 0 0)), (3, (.slice (some ⟨g, 0, none⟩) (X).length κ))]) (fun s => match s with |  ⟨_, g, _, C, _⟩ => [(g, (.cells C 5 (0, 0)))]) (fun s => match s with |  ⟨j, _, _, _, _⟩ => zeros n - j)
    (fun s => match s with |  ⟨j, _, X, C, κ⟩ => (j ≤ zeros n) ∧ (X = 128 :: List.replicate j 0) ∧ (Hd C X) ∧ (C.size = κ) ∧ (X.length ≤ κ)) ( (0, nb ρ2 0, ([128] : List UInt8), #[(.int .u8 128)], 1)) (⟨Nat.zero_le _, rfl, (rfl : Hd #[(.int .u8 128)] ([128] : List UInt8)), rfl, (Nat.le_refl 1)⟩) [] ?_
  rintro ⟨j, g, X, C, κ⟩
  rintro ⟨hj, hX, hC, hs, hle⟩
  change Ok Tryz.prog _ _ 31 [(0, (.int .u64 ((n : Nat) : Int))), (2, (.slice none 0 0)), (3, (.slice (some ⟨g, 0, none⟩) (X).length κ))] _ [(g, (.cells C 5 (0, 0)))] (fun _ => True)
  refine ok_seq ?_
  refine sS Tryz.f106 8 [0, 2, 3, 13] [] (fun _ => [(.int .u64 ((n : Nat) : Int)), (.slice (some ⟨g, 0, none⟩) (X).length κ), (.int .i64 (((X).length : Nat) : Int)), (.int .u64 (((X).length : Nat) : Int)), (.int .u64 ((n + ((X).length) : Nat) : Int)), (.int .u64 (((n + ((X).length)) + 8 : Nat) : Int)), (.int .u64 ((((n + ((X).length)) + 8) % 64 : Nat) : Int)), (.bool (((((n + ((X).length)) + 8) % 64 : Nat) : Int) != 0))]) (fun _ => []) (cR [[], [], []] <| cA (v := fun ρ => (.int .u64 (IntKind.u64.wrap ((((X).length : Nat) : Int))))) (fun _ => (.int .u64 (((X).length : Nat) : Int))) (fun _ => congrArg (Value.int .u64) (u64N (by have := hn; have := zeros_lt n; have := hj; have := zer_len hX; omega))) <| cA (v := fun ρ => (.int .u64 (IntKind.u64.wrap (((n : Nat) : Int) + (((X).length : Nat) : Int))))) (fun _ => (.int .u64 ((n + ((X).length) : Nat) : Int))) (fun _ => congrArg (Value.int .u64) (u64_addN n ((X).length) (by have := hn; have := zeros_lt n; have := hj; have := zer_len hX; omega))) <| cA (v := fun ρ => (.int .u64 (IntKind.u64.wrap (((n + ((X).length) : Nat) : Int) + 8)))) (fun _ => (.int .u64 (((n + ((X).length)) + 8 : Nat) : Int))) (fun _ => congrArg (Value.int .u64) (u64_addN (n + ((X).length)) 8 (by have := hn; have := zeros_lt n; have := hj; have := zer_len hX; omega))) <| cB (a := fun ρ => (.int .u64 (((n + ((X).length)) + 8 : Nat) : Int))) (b := fun ρ => (.int .u64 64)) (v := fun ρ => (.int .u64 ((((n + ((X).length)) + 8) % 64 : Nat) : Int))) .rem 27 (fun _ w => run_remU (k := .u64) (n := ((n + ((X).length)) + 8)) (d := 64) (by decide) w) <| cR [[]] <| cN) (fun _ => ?_)
  refine oC (((((n + ((X).length)) + 8) % 64 : Nat) : Int) != 0) (fun hb1 => ?_) (fun hb1 => ?_)
  ·
    rw [hb1]
    refine ok_skip ?_
    refine mt_then ?_
    refine ok_block ?_
    rcases Bool.eq_false_or_eq_true (decide ((X).length + (([0] : List UInt8)).length ≤ κ)) with hb2 | hb2
    ·
      refine rS Tryz.f106 4 [0, 2, 3] [1, 0] (fun ρ => [(.slice (some ⟨g, 0, none⟩) (X).length κ), (.slice (some ⟨nb ρ 1, 0, none⟩) (([0] : List UInt8)).length 1), (.slice (some ⟨g, 0, none⟩) (X ++ ([0] : List UInt8)).length κ), (.slice (some ⟨g, 0, none⟩) (X ++ ([0] : List UInt8)).length κ)]) (fun ρ => [(1, { news := [(nb ρ 1, (.cells #[(.int .u8 0)] 5 (0, 0)))] }), (2, { puts := [(0, g, (.cells (inpl C (X).length (bs ([0] : List UInt8))) 5 (0, 0)))] })]) (cR [[], []] <| cX (o_put1 _ 0 (fun ρ => do pure (Next.value (← Builtin.append_ #[43, 43] 43 #[(.slice (some ⟨g, 0, none⟩) (X).length κ), (.slice (some ⟨nb ρ 1, 0, none⟩) (([0] : List UInt8)).length 1)]))) (fun _ => g) (fun _ => (.cells C 5 (0, 0))) (fun _ => (.cells (inpl C (X).length (bs ([0] : List UInt8))) 5 (0, 0))) (fun _ => (.slice (some ⟨g, 0, none⟩) (X ++ ([0] : List UInt8)).length κ)) (fun _ => (by kernel_rfl)) (fun _ => (by kernel_rfl)) (fun _ => (by kernel_rfl)) (fun _ => (by kernel_rfl)) (fun _ _ => trivial) (fun ρ _ _ hG hg => app_roomL Tryz.underlying43 u8i hg (Bs.src (tx := 43) Tryz.underlying43 (Bs.of_hd (hG.known (g := nb ρ 1) (o := (.cells #[(.int .u8 0)] 5 (0, 0))) 9 (by kernel_rfl) (by kernel_rfl)) (rfl : Hd #[(.int .u8 0)] ([0] : List UInt8)) (Nat.le_refl 1) (Nat.le_of_ble_eq_true rfl))) hs (of_decide_eq_true hb2))) <| cR [[]] <| cN) (fun _ => ?_)
      refine mt_block_n ?_
      exact mN ( (j + 1, g, X ++ ([0] : List UInt8), inpl C (X).length (bs ([0] : List UInt8)), κ)) (by show zeros n - (j + 1) < zeros n - j; have := (zer_more hj (by have h1 := bne0N hb1; rw [zer_len hX] at h1; exact h1)); omega) (⟨(zer_more hj (by have h1 := bne0N hb1; rw [zer_len hX] at h1; exact h1)), zer_next hX, (Hd.inpl hC rfl), ((inpl_size _ _ _ (room_le hs (of_decide_eq_true hb2))).trans hs), (len_app (of_decide_eq_true hb2))⟩) []
    ·
      refine rS Tryz.f106 4 [0, 2, 3] [0, 0, 1] (fun ρ => [(.slice (some ⟨g, 0, none⟩) (X).length κ), (.slice (some ⟨nb ρ 1, 0, none⟩) (([0] : List UInt8)).length 1), (.slice (some ⟨nb ρ 2, 0, none⟩) (X ++ ([0] : List UInt8)).length ((X ++ ([0] : List UInt8)).length + nb2 ρ 2)), (.slice (some ⟨nb ρ 2, 0, none⟩) (X ++ ([0] : List UInt8)).length ((X ++ ([0] : List UInt8)).length + nb2 ρ 2))]) (fun ρ => [(1, { news := [(nb ρ 1, (.cells #[(.int .u8 0)] 5 (0, 0)))] }), (2, { news := [(nb ρ 2, (.cells (grow C (X).length (bs ([0] : List UInt8)) (nb2 ρ 2)) 5 (0, 0)))] })]) (cR [[], []] <| cX (o_new1 _ (fun ρ => do pure (Next.value (← Builtin.append_ #[43, 43] 43 #[(.slice (some ⟨g, 0, none⟩) (X).length κ), (.slice (some ⟨nb ρ 1, 0, none⟩) (([0] : List UInt8)).length 1)]))) (fun _ z => (.slice (some ⟨z.headD 0, 0, none⟩) (X ++ ([0] : List UInt8)).length ((X ++ ([0] : List UInt8)).length + z.tail.headD 0))) (fun _ z => (.cells (grow C (X).length (bs ([0] : List UInt8)) (z.tail.headD 0)) 5 (0, 0))) (fun _ _ => (by kernel_rfl)) (fun _ => (by kernel_rfl)) (fun _ _ => trivial) (fun ρ _ _ hG => app_growL Tryz.underlying43 u8i (hG.known (g := g) (o := (.cells C 5 (0, 0))) 0 (by kernel_rfl) (by kernel_rfl)) (Bs.src (tx := 43) Tryz.underlying43 (Bs.of_hd (hG.known (g := nb ρ 1) (o := (.cells #[(.int .u8 0)] 5 (0, 0))) 9 (by kernel_rfl) (by kernel_rfl)) (rfl : Hd #[(.int .u8 0)] ([0] : List UInt8)) (Nat.le_refl 1) (Nat.le_of_ble_eq_true rfl))) hs hle (Nat.lt_of_not_le (of_decide_eq_false hb2)) ((by have := of_decide_eq_false hb2; have := hn; have := zeros_lt n; have := hj; have := zer_len hX; simp only [List.length_cons, List.length_nil]; omega)))) <| cR [[]] <| cN) (fun ρ5 => ?_)
      refine mt_block_n ?_
      exact mN ( (j + 1, nb ρ5 2, X ++ ([0] : List UInt8), grow C (X).length (bs ([0] : List UInt8)) (nb2 ρ5 2), (X ++ ([0] : List UInt8)).length + nb2 ρ5 2)) (by show zeros n - (j + 1) < zeros n - j; have := (zer_more hj (by have h1 := bne0N hb1; rw [zer_len hX] at h1; exact h1)); omega) (⟨(zer_more hj (by have h1 := bne0N hb1; rw [zer_len hX] at h1; exact h1)), zer_next hX, (Hd.grow hC rfl), (grow_sizeL hC), (Nat.le_add_right _ _)⟩) []
  ·
    rw [hb1]
    refine ok_exit ?_
    refine mt_then_e ?_
    refine mt_then_e ?_
    refine mt_block_h ?_
    refine mt_then ?_
    refine ok_seq ?_
    refine sS Tryz.f106 1 [0, 2, 3, 4] [] (fun _ => [(.int .i64 7)]) (fun _ => []) (cR [[]] <| cN) (fun _ => ?_)
    refine ok_block ?_
    refine oL (σ := (Nat × Nat × (List UInt8) × (Array Value) × Nat)) (fun s => match s with |  ⟨k, g2, X2, _, κ2⟩ => [(0, (.int .u64 ((n : Nat) : Int))), (2, (.slice none 0 0)), (3, (.slice (some ⟨g2, 0, none⟩) (X2).length κ2)), (4, (.int .i64 (7 - ((k : Nat) : Int))))]) (fun s => match s with |  ⟨_, g2, _, C2, _⟩ => [(g2, (.cells C2 5 (0, 0)))]) (fun s => match s with |  ⟨k, _, _, _, _⟩ => 8 - k)
      (fun s => match s with |  ⟨k, _, X2, C2, κ2⟩ => (k ≤ 8) ∧ (X2 = 128 :: (List.replicate (zeros n) 0 ++ be8 (8 * n) k)) ∧ (Hd C2 X2) ∧ (C2.size = κ2) ∧ (X2.length ≤ κ2)) ( (0, g, X, C, κ)) (⟨by decide, zer_be hX (zer_end hj (by have h1 := bne0N' hb1; rw [zer_len hX] at h1; exact h1)), hC, hs, hle⟩) [] ?_
    rintro ⟨k, g2, X2, C2, κ2⟩
    rintro ⟨hk, hX2, hC2, hs2, hle2⟩
    change Ok Tryz.prog _ _ 31 [(0, (.int .u64 ((n : Nat) : Int))), (2, (.slice none 0 0)), (3, (.slice (some ⟨g2, 0, none⟩) (X2).length κ2)), (4, (.int .i64 (7 - ((k : Nat) : Int))))] _ [(g2, (.cells C2 5 (0, 0)))] (fun _ => True)
    refine ok_seq ?_
    refine sS Tryz.f106 2 [0, 2, 3, 4, 18] [] (fun _ => [(.int .i64 (7 - ((k : Nat) : Int))), (.bool (decide (0 ≤ (7 - ((k : Nat) : Int)))))]) (fun _ => []) (cR [[], []] <| cN) (fun _ => ?_)
    refine oC (decide (0 ≤ (7 - ((k : Nat) : Int)))) (fun hb3 => ?_) (fun hb3 => ?_)
    ·
      rw [hb3]
      refine ok_skip ?_
      refine mt_then ?_
      refine ok_seq ?_
      refine ok_block ?_
      rcases Bool.eq_false_or_eq_true (decide ((X2).length + (([ob ((8 * n / 2 ^ (56 - 8 * k) % 256 : Nat) : Int)] : List UInt8)).length ≤ κ2)) with hb4 | hb4
      ·
        refine rS Tryz.f106 10 [0, 2, 3, 4] [1, 0] (fun ρ => [(.slice (some ⟨g2, 0, none⟩) (X2).length κ2), (.int .u64 ((n : Nat) : Int)), (.int .u64 ((8 * n : Nat) : Int)), (.int .i64 (7 - ((k : Nat) : Int))), (.int .i64 ((56 - 8 * k : Nat) : Int)), (.int .u64 ((8 * n / 2 ^ (56 - 8 * k) : Nat) : Int)), (.int .u8 ((8 * n / 2 ^ (56 - 8 * k) % 256 : Nat) : Int)), (.slice (some ⟨nb ρ 7, 0, none⟩) (([ob ((8 * n / 2 ^ (56 - 8 * k) % 256 : Nat) : Int)] : List UInt8)).length 1), (.slice (some ⟨g2, 0, none⟩) (X2 ++ ([ob ((8 * n / 2 ^ (56 - 8 * k) % 256 : Nat) : Int)] : List UInt8)).length κ2), (.slice (some ⟨g2, 0, none⟩) (X2 ++ ([ob ((8 * n / 2 ^ (56 - 8 * k) % 256 : Nat) : Int)] : List UInt8)).length κ2)]) (fun ρ => [(7, { news := [(nb ρ 7, (.cells #[(.int .u8 ((8 * n / 2 ^ (56 - 8 * k) % 256 : Nat) : Int))] 5 (0, 0)))] }), (8, { puts := [(0, g2, (.cells (inpl C2 (X2).length (bs ([ob ((8 * n / 2 ^ (56 - 8 * k) % 256 : Nat) : Int)] : List UInt8))) 5 (0, 0)))] })]) (cR [[], []] <| cA (v := fun ρ => (.int .u64 (IntKind.u64.wrap (8 * ((n : Nat) : Int))))) (fun _ => (.int .u64 ((8 * n : Nat) : Int))) (fun _ => congrArg (Value.int .u64) (u64_mulN 8 n (by have := of_decide_eq_true hb3; have := of_decide_eq_true hb4; have := hn; have := zeros_lt n; have := hj; have := hk; have := pad_len hX2; omega))) <| cR [[]] <| cA (v := fun ρ => (.int .i64 (IntKind.i64.wrap (8 * (7 - ((k : Nat) : Int)))))) (fun _ => (.int .i64 ((56 - 8 * k : Nat) : Int))) (fun _ => congrArg (Value.int .i64) ((i64N (by have := of_decide_eq_true hb3; have := of_decide_eq_true hb4; have := hn; have := zeros_lt n; have := hj; have := hk; have := pad_len hX2; omega)).trans (by have := of_decide_eq_true hb3; have := of_decide_eq_true hb4; have := hn; have := zeros_lt n; have := hj; have := hk; have := pad_len hX2; omega))) <| cB (a := fun ρ => (.int .u64 ((8 * n : Nat) : Int))) (b := fun ρ => (.int .i64 ((56 - 8 * k : Nat) : Int))) (v := fun ρ => (.int .u64 ((8 * n / 2 ^ (56 - 8 * k) : Nat) : Int))) .shr 27 (fun _ w => run_shrU (k := .u64) (x := 8 * n) (c := 56 - 8 * k) (by have := of_decide_eq_true hb3; have := of_decide_eq_true hb4; have := hn; have := zeros_lt n; have := hj; have := hk; have := pad_len hX2; show 8 * n < 18446744073709551616; omega) w) <| cA (fun _ => (.int .u8 ((8 * n / 2 ^ (56 - 8 * k) % 256 : Nat) : Int))) (fun _ => congrArg (Value.int .u8) (u8M (8 * n / 2 ^ (56 - 8 * k)))) <| cR [[]] <| cX (o_put1 _ 0 (fun ρ => do pure (Next.value (← Builtin.append_ #[43, 43] 43 #[(.slice (some ⟨g2, 0, none⟩) (X2).length κ2), (.slice (some ⟨nb ρ 7, 0, none⟩) (([ob ((8 * n / 2 ^ (56 - 8 * k) % 256 : Nat) : Int)] : List UInt8)).length 1)]))) (fun _ => g2) (fun _ => (.cells C2 5 (0, 0))) (fun _ => (.cells (inpl C2 (X2).length (bs ([ob ((8 * n / 2 ^ (56 - 8 * k) % 256 : Nat) : Int)] : List UInt8))) 5 (0, 0))) (fun _ => (.slice (some ⟨g2, 0, none⟩) (X2 ++ ([ob ((8 * n / 2 ^ (56 - 8 * k) % 256 : Nat) : Int)] : List UInt8)).length κ2)) (fun _ => (by kernel_rfl)) (fun _ => (by kernel_rfl)) (fun _ => (by kernel_rfl)) (fun _ => (by kernel_rfl)) (fun _ _ => trivial) (fun ρ _ _ hG hg => app_roomL Tryz.underlying43 u8i hg (Bs.src (tx := 43) Tryz.underlying43 (Bs.of_hd (hG.known (g := nb ρ 7) (o := (.cells #[(.int .u8 ((8 * n / 2 ^ (56 - 8 * k) % 256 : Nat) : Int))] 5 (0, 0))) 57 (by kernel_rfl) (by kernel_rfl)) (hd1 ((by omega))) (Nat.le_refl 1) (Nat.le_of_ble_eq_true rfl))) hs2 (of_decide_eq_true hb4))) <| cR [[]] <| cN) (fun _ => ?_)
        refine mt_block_n ?_
        refine mt_then ?_
        refine rS Tryz.f106 3 [0, 2, 3, 4] [] (fun _ => [(.int .i64 (7 - ((k : Nat) : Int))), (.int .i64 (7 - ((k + 1 : Nat) : Int))), (.int .i64 (7 - ((k + 1 : Nat) : Int)))]) (fun _ => []) (cR [[]] <| cA (v := fun ρ => (.int .i64 (IntKind.i64.wrap ((7 - ((k : Nat) : Int)) - 1)))) (fun _ => (.int .i64 (7 - ((k + 1 : Nat) : Int)))) (fun _ => congrArg (Value.int .i64) ((i64N (by have := of_decide_eq_true hb3; have := of_decide_eq_true hb4; have := hn; have := zeros_lt n; have := hj; have := hk; have := pad_len hX2; omega)).trans (by omega))) <| cR [[]] <| cN) (fun _ => ?_)
        exact mN ( (k + 1, g2, X2 ++ ([ob ((8 * n / 2 ^ (56 - 8 * k) % 256 : Nat) : Int)] : List UInt8), inpl C2 (X2).length (bs ([ob ((8 * n / 2 ^ (56 - 8 * k) % 256 : Nat) : Int)] : List UInt8)), κ2)) (by show 8 - (k + 1) < 8 - k; have := of_decide_eq_true hb3; have := of_decide_eq_true hb4; have := hn; have := zeros_lt n; have := hj; have := hk; have := pad_len hX2; omega) (⟨(by have := of_decide_eq_true hb3; have := of_decide_eq_true hb4; have := hn; have := zeros_lt n; have := hj; have := hk; have := pad_len hX2; omega), pad_next hX2, (Hd.inpl hC2 rfl), ((inpl_size _ _ _ (room_le hs2 (of_decide_eq_true hb4))).trans hs2), (len_app (of_decide_eq_true hb4))⟩) []
      ·
        refine rS Tryz.f106 10 [0, 2, 3, 4] [0, 0, 1] (fun ρ => [(.slice (some ⟨g2, 0, none⟩) (X2).length κ2), (.int .u64 ((n : Nat) : Int)), (.int .u64 ((8 * n : Nat) : Int)), (.int .i64 (7 - ((k : Nat) : Int))), (.int .i64 ((56 - 8 * k : Nat) : Int)), (.int .u64 ((8 * n / 2 ^ (56 - 8 * k) : Nat) : Int)), (.int .u8 ((8 * n / 2 ^ (56 - 8 * k) % 256 : Nat) : Int)), (.slice (some ⟨nb ρ 7, 0, none⟩) (([ob ((8 * n / 2 ^ (56 - 8 * k) % 256 : Nat) : Int)] : List UInt8)).length 1), (.slice (some ⟨nb ρ 8, 0, none⟩) (X2 ++ ([ob ((8 * n / 2 ^ (56 - 8 * k) % 256 : Nat) : Int)] : List UInt8)).length ((X2 ++ ([ob ((8 * n / 2 ^ (56 - 8 * k) % 256 : Nat) : Int)] : List UInt8)).length + nb2 ρ 8)), (.slice (some ⟨nb ρ 8, 0, none⟩) (X2 ++ ([ob ((8 * n / 2 ^ (56 - 8 * k) % 256 : Nat) : Int)] : List UInt8)).length ((X2 ++ ([ob ((8 * n / 2 ^ (56 - 8 * k) % 256 : Nat) : Int)] : List UInt8)).length + nb2 ρ 8))]) (fun ρ => [(7, { news := [(nb ρ 7, (.cells #[(.int .u8 ((8 * n / 2 ^ (56 - 8 * k) % 256 : Nat) : Int))] 5 (0, 0)))] }), (8, { news := [(nb ρ 8, (.cells (grow C2 (X2).length (bs ([ob ((8 * n / 2 ^ (56 - 8 * k) % 256 : Nat) : Int)] : List UInt8)) (nb2 ρ 8)) 5 (0, 0)))] })]) (cR [[], []] <| cA (v := fun ρ => (.int .u64 (IntKind.u64.wrap (8 * ((n : Nat) : Int))))) (fun _ => (.int .u64 ((8 * n : Nat) : Int))) (fun _ => congrArg (Value.int .u64) (u64_mulN 8 n (by have := of_decide_eq_true hb3; have := of_decide_eq_false hb4; have := hn; have := zeros_lt n; have := hj; have := hk; have := pad_len hX2; omega))) <| cR [[]] <| cA (v := fun ρ => (.int .i64 (IntKind.i64.wrap (8 * (7 - ((k : Nat) : Int)))))) (fun _ => (.int .i64 ((56 - 8 * k : Nat) : Int))) (fun _ => congrArg (Value.int .i64) ((i64N (by have := of_decide_eq_true hb3; have := of_decide_eq_false hb4; have := hn; have := zeros_lt n; have := hj; have := hk; have := pad_len hX2; omega)).trans (by have := of_decide_eq_true hb3; have := of_decide_eq_false hb4; have := hn; have := zeros_lt n; have := hj; have := hk; have := pad_len hX2; omega))) <| cB (a := fun ρ => (.int .u64 ((8 * n : Nat) : Int))) (b := fun ρ => (.int .i64 ((56 - 8 * k : Nat) : Int))) (v := fun ρ => (.int .u64 ((8 * n / 2 ^ (56 - 8 * k) : Nat) : Int))) .shr 27 (fun _ w => run_shrU (k := .u64) (x := 8 * n) (c := 56 - 8 * k) (by have := of_decide_eq_true hb3; have := of_decide_eq_false hb4; have := hn; have := zeros_lt n; have := hj; have := hk; have := pad_len hX2; show 8 * n < 18446744073709551616; omega) w) <| cA (fun _ => (.int .u8 ((8 * n / 2 ^ (56 - 8 * k) % 256 : Nat) : Int))) (fun _ => congrArg (Value.int .u8) (u8M (8 * n / 2 ^ (56 - 8 * k)))) <| cR [[]] <| cX (o_new1 _ (fun ρ => do pure (Next.value (← Builtin.append_ #[43, 43] 43 #[(.slice (some ⟨g2, 0, none⟩) (X2).length κ2), (.slice (some ⟨nb ρ 7, 0, none⟩) (([ob ((8 * n / 2 ^ (56 - 8 * k) % 256 : Nat) : Int)] : List UInt8)).length 1)]))) (fun _ z => (.slice (some ⟨z.headD 0, 0, none⟩) (X2 ++ ([ob ((8 * n / 2 ^ (56 - 8 * k) % 256 : Nat) : Int)] : List UInt8)).length ((X2 ++ ([ob ((8 * n / 2 ^ (56 - 8 * k) % 256 : Nat) : Int)] : List UInt8)).length + z.tail.headD 0))) (fun _ z => (.cells (grow C2 (X2).length (bs ([ob ((8 * n / 2 ^ (56 - 8 * k) % 256 : Nat) : Int)] : List UInt8)) (z.tail.headD 0)) 5 (0, 0))) (fun _ _ => (by kernel_rfl)) (fun _ => (by kernel_rfl)) (fun _ _ => trivial) (fun ρ _ _ hG => app_growL Tryz.underlying43 u8i (hG.known (g := g2) (o := (.cells C2 5 (0, 0))) 0 (by kernel_rfl) (by kernel_rfl)) (Bs.src (tx := 43) Tryz.underlying43 (Bs.of_hd (hG.known (g := nb ρ 7) (o := (.cells #[(.int .u8 ((8 * n / 2 ^ (56 - 8 * k) % 256 : Nat) : Int))] 5 (0, 0))) 57 (by kernel_rfl) (by kernel_rfl)) (hd1 ((by omega))) (Nat.le_refl 1) (Nat.le_of_ble_eq_true rfl))) hs2 hle2 (Nat.lt_of_not_le (of_decide_eq_false hb4)) ((by have := of_decide_eq_true hb3; have := of_decide_eq_false hb4; have := hn; have := zeros_lt n; have := hj; have := hk; have := pad_len hX2; simp only [List.length_cons, List.length_nil]; omega)))) <| cR [[]] <| cN) (fun ρ10 => ?_)
        refine mt_block_n ?_
        refine mt_then ?_
        refine rS Tryz.f106 3 [0, 2, 3, 4] [] (fun _ => [(.int .i64 (7 - ((k : Nat) : Int))), (.int .i64 (7 - ((k + 1 : Nat) : Int))), (.int .i64 (7 - ((k + 1 : Nat) : Int)))]) (fun _ => []) (cR [[]] <| cA (v := fun ρ => (.int .i64 (IntKind.i64.wrap ((7 - ((k : Nat) : Int)) - 1)))) (fun _ => (.int .i64 (7 - ((k + 1 : Nat) : Int)))) (fun _ => congrArg (Value.int .i64) ((i64N (by have := of_decide_eq_true hb3; have := of_decide_eq_false hb4; have := hn; have := zeros_lt n; have := hj; have := hk; have := pad_len hX2; omega)).trans (by omega))) <| cR [[]] <| cN) (fun _ => ?_)
        exact mN ( (k + 1, nb ρ10 8, X2 ++ ([ob ((8 * n / 2 ^ (56 - 8 * k) % 256 : Nat) : Int)] : List UInt8), grow C2 (X2).length (bs ([ob ((8 * n / 2 ^ (56 - 8 * k) % 256 : Nat) : Int)] : List UInt8)) (nb2 ρ10 8), (X2 ++ ([ob ((8 * n / 2 ^ (56 - 8 * k) % 256 : Nat) : Int)] : List UInt8)).length + nb2 ρ10 8)) (by show 8 - (k + 1) < 8 - k; have := of_decide_eq_true hb3; have := of_decide_eq_false hb4; have := hn; have := zeros_lt n; have := hj; have := hk; have := pad_len hX2; omega) (⟨(by have := of_decide_eq_true hb3; have := of_decide_eq_false hb4; have := hn; have := zeros_lt n; have := hj; have := hk; have := pad_len hX2; omega), pad_next hX2, (Hd.grow hC2 rfl), (grow_sizeL hC2), (Nat.le_add_right _ _)⟩) []
    ·
      rw [hb3]
      refine ok_exit ?_
      refine mt_then_e ?_
      refine mt_then_e ?_
      refine mt_block_h ?_
      refine mt_then ?_
      refine sS Tryz.f106 2 [2] [] (fun _ => [(.slice (some ⟨g2, 0, none⟩) (X2).length κ2), (.slice (some ⟨g2, 0, none⟩) (X2).length κ2)]) (fun _ => []) (cR [[], []] <| cN) (fun _ => ?_)
      refine ok_ret ?_
      refine mD [(2, (.slice (some ⟨g2, 0, none⟩) (X2).length κ2))] [(g2, (.cells C2 5 (0, 0)))] ?_
      exact mR (v := (.slice (some ⟨g2, 0, none⟩) (X2).length κ2)) (fun _ hS => ⟨(some ⟨g2, 0, none⟩), κ2, congrArg Ending.returned (by rw [(pad_end hX2 (by have := of_decide_eq_false hb3; have := hn; have := zeros_lt n; have := hj; have := hk; have := pad_len hX2; omega))]), hS.bel, fs_eq ((pad_end hX2 (by have := of_decide_eq_false hb3; have := hn; have := zeros_lt n; have := hj; have := hk; have := pad_len hX2; omega))) (hS.fresh (.head _) hC2 hle2 (by have := hn; have := zeros_lt n; have := hj; have := zer_len hX; have := hk; have := pad_len hX2; omega))⟩)

theorem joined_any (a : Option Addr) (c : Nat) (B : List UInt8) (a2 : Option Addr) (c2 : Nat) (S : List UInt8) (hl : B.length + S.length ≤ 140737488351232) (w0 : World) (hf0 : Bs w0 a c B) (hf1 : Bs w0 a2 c2 S) : Calls Tryz.prog 67 #[(.slice a (B).length c), (.slice a2 (S).length c2)] w0 (fun ε w' => ∃ α κ, ε = .returned (.slice α (B ++ S).length κ) ∧ Below w0.heap.size w0 w' ∧ Fs w0 w' α κ (B ++ S)) := by
  refine Calls.of_ok (n := 17) (F := (fun w => Bs w a c B ∧ Bs w a2 c2 S ∧ True)) Tryz.func67 rfl rfl rfl (by simp) (hf0.pers0.and (hf1.pers0.and persT)) ?_
  refine sS Tryz.f67 1 [0, 1, 4] [] (fun _ => [(.slice none 0 0)]) (fun _ => []) (cR [[]] <| cN) (fun _ => ?_)
  refine sS Tryz.f67 7 [0, 1, 4, 5] [] (fun ρ => [(.slice a (B).length c), (.int .i64 (((B).length : Nat) : Int)), (.slice a2 (S).length c2), (.int .i64 (((S).length : Nat) : Int)), (.int .i64 ((((B).length) + ((S).length) : Nat) : Int)), (.slice (some ⟨nb ρ 5, 0, none⟩) (([] : List UInt8)).length (((B).length) + ((S).length))), (.slice (some ⟨nb ρ 5, 0, none⟩) (([] : List UInt8)).length (((B).length) + ((S).length)))]) (fun ρ => [(5, { news := [(nb ρ 5, (.cells (zB (((B).length) + ((S).length))) 5 (0, 0)))] })]) (cR [[], [], [], []] <| cA (v := fun ρ => (.int .i64 (IntKind.i64.wrap ((((B).length : Nat) : Int) + (((S).length : Nat) : Int))))) (fun _ => (.int .i64 ((((B).length) + ((S).length) : Nat) : Int))) (fun _ => congrArg (Value.int .i64) (wrap_addN ((B).length) ((S).length) (by have := hl; omega))) <| cX (o_new1 _ (fun _ => do pure (Next.value (← Instr.makeSlice 43 (.int .i64 0) (.int .i64 ((((B).length) + ((S).length) : Nat) : Int))))) (fun _ z => (.slice (some ⟨z.headD 0, 0, none⟩) (([] : List UInt8)).length (((B).length) + ((S).length)))) (fun _ _ => (.cells (zB (((B).length) + ((S).length))) 5 (0, 0))) (fun _ _ => (by kernel_rfl)) (fun _ => (by kernel_rfl)) (fun _ _ => trivial) (fun _ _ w _ => make_rowL Tryz.underlying43 u8i (([] : List UInt8)) (rfl) (rfl) (Nat.zero_le _) hl w)) <| cR [[]] <| cN) (fun ρ2 => ?_)
  refine sS Tryz.f67 6 [4] [] (fun _ => [(.slice (some ⟨nb ρ2 5, 0, none⟩) (([] : List UInt8)).length (((B).length) + ((S).length))), (.slice a (B).length c), (.slice (some ⟨nb ρ2 5, 0, none⟩) (([] : List UInt8) ++ B).length (((B).length) + ((S).length))), (.slice a2 (S).length c2), (.slice (some ⟨nb ρ2 5, 0, none⟩) ((([] : List UInt8) ++ B) ++ S).length (((B).length) + ((S).length))), (.slice (some ⟨nb ρ2 5, 0, none⟩) ((([] : List UInt8) ++ B) ++ S).length (((B).length) + ((S).length)))]) (fun _ => [(2, { puts := [(0, nb ρ2 5, (.cells (inpl (zB (((B).length) + ((S).length))) (([] : List UInt8)).length (bs B)) 5 (0, 0)))] }), (4, { puts := [(0, nb ρ2 5, (.cells (inpl (inpl (zB (((B).length) + ((S).length))) (([] : List UInt8)).length (bs B)) (([] : List UInt8) ++ B).length (bs S)) 5 (0, 0)))] })]) (cR [[], []] <| cX (o_put1 _ 0 (fun _ => do pure (Next.value (← Builtin.append_ #[43, 43] 43 #[(.slice (some ⟨nb ρ2 5, 0, none⟩) (([] : List UInt8)).length (((B).length) + ((S).length))), (.slice a (B).length c)]))) (fun _ => nb ρ2 5) (fun _ => (.cells (zB (((B).length) + ((S).length))) 5 (0, 0))) (fun _ => (.cells (inpl (zB (((B).length) + ((S).length))) (([] : List UInt8)).length (bs B)) 5 (0, 0))) (fun _ => (.slice (some ⟨nb ρ2 5, 0, none⟩) (([] : List UInt8) ++ B).length (((B).length) + ((S).length)))) (fun _ => (by kernel_rfl)) (fun _ => (by kernel_rfl)) (fun _ => (by kernel_rfl)) (fun _ => (by kernel_rfl)) (fun _ _ => trivial) (fun _ _ _ hG hg => app_roomL Tryz.underlying43 u8i hg (Bs.src (tx := 43) Tryz.underlying43 hG.facts0.now.1) (zB_size _) ((by simp only [List.length_nil]; omega)))) <| cR [[]] <| cX (o_put1 _ 0 (fun _ => do pure (Next.value (← Builtin.append_ #[43, 43] 43 #[(.slice (some ⟨nb ρ2 5, 0, none⟩) (([] : List UInt8) ++ B).length (((B).length) + ((S).length))), (.slice a2 (S).length c2)]))) (fun _ => nb ρ2 5) (fun _ => (.cells (inpl (zB (((B).length) + ((S).length))) (([] : List UInt8)).length (bs B)) 5 (0, 0))) (fun _ => (.cells (inpl (inpl (zB (((B).length) + ((S).length))) (([] : List UInt8)).length (bs B)) (([] : List UInt8) ++ B).length (bs S)) 5 (0, 0))) (fun _ => (.slice (some ⟨nb ρ2 5, 0, none⟩) ((([] : List UInt8) ++ B) ++ S).length (((B).length) + ((S).length)))) (fun _ => (by kernel_rfl)) (fun _ => (by kernel_rfl)) (fun _ => (by kernel_rfl)) (fun _ => (by kernel_rfl)) (fun _ _ => trivial) (fun _ _ _ hG hg => app_roomL Tryz.underlying43 u8i hg (Bs.src (tx := 43) Tryz.underlying43 hG.facts0.now.2.1) ((inpl_size _ _ _ (room_le (zB_size _) ((by simp only [List.length_nil]; omega)))).trans (zB_size _)) ((Nat.le_refl _)))) <| cR [[]] <| cN) (fun _ => ?_)
  refine ok_ret ?_
  refine mD [(4, (.slice (some ⟨nb ρ2 5, 0, none⟩) ((([] : List UInt8) ++ B) ++ S).length (((B).length) + ((S).length))))] [(nb ρ2 5, (.cells (inpl (inpl (zB (((B).length) + ((S).length))) (([] : List UInt8)).length (bs B)) (([] : List UInt8) ++ B).length (bs S)) 5 (0, 0)))] ?_
  exact mR (v := (.slice (some ⟨nb ρ2 5, 0, none⟩) ((([] : List UInt8) ++ B) ++ S).length (((B).length) + ((S).length)))) (fun _ hS => ⟨(some ⟨nb ρ2 5, 0, none⟩), ((B).length) + ((S).length), congrArg Ending.returned (rfl), hS.bel, fs_eq (rfl) (hS.fresh (.head _) (Hd.inpl (Hd.inpl (Hd.nil _) rfl) rfl) (len_app ((Nat.le_refl _))) (len_app (hl)))⟩)

theorem join2_any (g : Nat) (a0 : Option Addr) (c0 : Nat) (B0 : List UInt8) (a1 : Option Addr) (c1 : Nat) (B1 : List UInt8) (hl : B0.length + B1.length ≤ 140737488351232) (__h0 : 0 < B0.length) (w0 : World) (hf0 : Kb w0 g #[(.slice a0 (B0).length c0), (.slice a1 (B1).length c1)]) (hf1 : Bs w0 a0 c0 B0) (hf2 : Bs w0 a1 c1 B1) : Calls Tryz.prog 36 #[(.slice (some ⟨g, 0, none⟩) 2 2)] w0 (fun ε w' => ∃ α κ, ε = .returned (.slice α (B0 ++ B1).length κ) ∧ Below w0.heap.size w0 w' ∧ Fs w0 w' α κ (B0 ++ B1)) := by
  refine Calls.of_ok (n := 17) (F := (fun w => Kb w g #[(.slice a0 (B0).length c0), (.slice a1 (B1).length c1)] ∧ Bs w a0 c0 B0 ∧ Bs w a1 c1 B1 ∧ True)) Tryz.func36 rfl rfl rfl (by simp) (hf0.pers0.and (hf1.pers0.and (hf2.pers0.and persT))) ?_
  refine sS Tryz.f36 1 [0, 2] [] (fun _ => [(.slice none 0 0)]) (fun _ => []) (cR [[]] <| cN) (fun _ => ?_)
  refine sS Tryz.f36 1 [0, 2, 3] [] (fun _ => [(.slice none 0 0)]) (fun _ => []) (cR [[]] <| cN) (fun _ => ?_)
  refine ok_seq ?_
  refine sS Tryz.f36 3 [2, 3, 6, 7, 8] [] (fun _ => [(.slice (some ⟨g, 0, none⟩) 2 2), (.int .i64 2), (.int .i64 0)]) (fun _ => []) (cR [[], [], []] <| cN) (fun _ => ?_)
  refine ok_block ?_
  refine ok_rounds 3 ?_
  refine okr_succ ?_
  refine sS Tryz.f36 1 [2, 3, 6, 7, 8, 9] [] (fun _ => [(.bool true)]) (fun _ => []) (cR [[]] <| cN) (fun _ => ?_)
  refine ok_seq ?_
  refine oY ?_
  refine ok_skip ?_
  refine mt_then ?_
  refine ok_seq ?_
  refine ok_block ?_
  refine sS Tryz.f36 3 [2, 3, 5, 6, 7, 8, 9, 10, 11] [] (fun _ => [(pt g), (.slice a0 (B0).length c0), (.slice a0 (B0).length c0)]) (fun _ => []) (cR [[]] <| cX (o_semF _ (fun _ => do pure (Next.value (← Instr.loadAt 43 (pt g)))) (fun _ => (.slice a0 (B0).length c0)) (fun _ => (by kernel_rfl)) (fun _ => (by kernel_rfl)) (fun _ _ _ hG => ld_blk Tryz.isAgg43 (hG.facts0.now.1) (rfl)) (fun _ _ _ _ => persT)) <| cR [[]] <| cN) (fun _ => ?_)
  refine dRs [(2, (.slice none 0 0)), (3, (.slice none 0 0)), (5, (.slice a0 (B0).length c0)), (6, (.slice (some ⟨g, 0, none⟩) 2 2)), (7, (.int .i64 2)), (8, (.int .i64 0)), (9, (.bool true)), (10, (pt g)), (11, (.slice a0 (B0).length c0))] [] ?_
  refine rSf Tryz.f36 4 [2, 3, 5, 6, 7, 8, 9, 10, 11, 12, 13, 14] [] (fun ρ => [(.slice none 0 0), (.slice a0 (B0).length c0), (.slice (oa ρ 2) (([] : List UInt8) ++ B0).length (nb ρ 2)), (.slice (oa ρ 2) (([] : List UInt8) ++ B0).length (nb ρ 2))]) (fun _ => []) (fun ρ => [(2, fun w => Fs w0 w (oa ρ 2) (nb ρ 2) (([] : List UInt8) ++ B0))]) (fun ρ => (fun w => Kb w g #[(.slice a0 (B0).length c0), (.slice a1 (B1).length c1)] ∧ Bs w a0 c0 B0 ∧ Bs w a1 c1 B1 ∧ Fs w0 w (oa ρ 2) (nb ρ 2) (([] : List UInt8) ++ B0) ∧ True)) (fun _ => True) (fun _ _ hF hf => ⟨⟨hF.1, hF.2.1, hF.2.2.1, hf 2, trivial⟩, trivial⟩) (cR [[], []] <| cX (o_callB _ 67 (fun _ => #[(.slice none 0 0), (.slice a0 (B0).length c0)]) (fun _ α κ => (.slice α (([] : List UInt8) ++ B0).length κ)) (fun _ => ([] : List UInt8) ++ B0) (fun _ _ => (by kernel_rfl)) (fun _ _ => (by kernel_rfl)) (fun _ _ => (by kernel_rfl)) (fun _ _ => (by kernel_rfl)) (fun _ _ w hG => joined_any none 0 ([] : List UInt8) a0 c0 B0 (by (try simp only [List.length_nil]) <;> (have := hl; omega)) w Bs.nil hG.facts0.now.2.1)) <| cR [[]] <| cN) (fun ρ6 _ => ?_)
  refine mt_block_n ?_
  refine mt_then ?_
  refine rS Tryz.f36 2 [2, 3, 5, 6, 7, 8, 9, 10, 11, 12, 13, 14, 15] [] (fun _ => [(.int .i64 1), (.int .i64 1)]) (fun _ => []) (cR [[], []] <| cN) (fun _ => ?_)
  refine mt_rounds ?_
  refine okr_succ ?_
  refine sS Tryz.f36 1 [2, 3, 5, 6, 7, 8, 9, 10, 11, 12, 13, 14, 15] [] (fun _ => [(.bool true)]) (fun _ => []) (cR [[]] <| cN) (fun _ => ?_)
  refine ok_seq ?_
  refine oY ?_
  refine ok_skip ?_
  refine mt_then ?_
  refine ok_seq ?_
  refine ok_block ?_
  refine sS Tryz.f36 3 [2, 3, 5, 6, 7, 8, 9, 10, 11, 12, 13, 14, 15] [] (fun _ => [(.pointer (some ⟨g, 1, none⟩)), (.slice a1 (B1).length c1), (.slice a1 (B1).length c1)]) (fun _ => []) (cR [[]] <| cX (o_semF _ (fun _ => do pure (Next.value (← Instr.loadAt 43 (.pointer (some ⟨g, 1, none⟩))))) (fun _ => (.slice a1 (B1).length c1)) (fun _ => (by kernel_rfl)) (fun _ => (by kernel_rfl)) (fun _ _ _ hG => ld_blk Tryz.isAgg43 (hG.facts0.now.1) (rfl)) (fun _ _ _ _ => persT)) <| cR [[]] <| cN) (fun _ => ?_)
  refine rSf Tryz.f36 4 [2, 3, 5, 6, 7, 8, 9, 10, 11, 12, 13, 14, 15] [] (fun ρ => [(.slice (oa ρ6 2) (([] : List UInt8) ++ B0).length (nb ρ6 2)), (.slice a1 (B1).length c1), (.slice (oa ρ 2) ((([] : List UInt8) ++ B0) ++ B1).length (nb ρ 2)), (.slice (oa ρ 2) ((([] : List UInt8) ++ B0) ++ B1).length (nb ρ 2))]) (fun _ => []) (fun ρ => [(2, fun w => Fs w0 w (oa ρ 2) (nb ρ 2) ((([] : List UInt8) ++ B0) ++ B1))]) (fun ρ => (fun w => Kb w g #[(.slice a0 (B0).length c0), (.slice a1 (B1).length c1)] ∧ Bs w a0 c0 B0 ∧ Bs w a1 c1 B1 ∧ Fs w0 w (oa ρ6 2) (nb ρ6 2) (([] : List UInt8) ++ B0) ∧ Fs w0 w (oa ρ 2) (nb ρ 2) ((([] : List UInt8) ++ B0) ++ B1) ∧ True)) (fun _ => True) (fun _ _ hF hf => ⟨⟨hF.1, hF.2.1, hF.2.2.1, hF.2.2.2.1, hf 2, trivial⟩, trivial⟩) (cR [[], []] <| cX (o_callB _ 67 (fun _ => #[(.slice (oa ρ6 2) (([] : List UInt8) ++ B0).length (nb ρ6 2)), (.slice a1 (B1).length c1)]) (fun _ α κ => (.slice α ((([] : List UInt8) ++ B0) ++ B1).length κ)) (fun _ => (([] : List UInt8) ++ B0) ++ B1) (fun _ _ => (by kernel_rfl)) (fun _ _ => (by kernel_rfl)) (fun _ _ => (by kernel_rfl)) (fun _ _ => (by kernel_rfl)) (fun _ _ w hG => joined_any (oa ρ6 2) (nb ρ6 2) (([] : List UInt8) ++ B0) a1 c1 B1 (by (try simp only [List.length_append, List.length_nil]) <;> (have := hl; omega)) w hG.facts0.now.2.2.2.1.1 hG.facts0.now.2.2.1)) <| cR [[]] <| cN) (fun ρ10 _ => ?_)
  refine mt_block_n ?_
  refine mt_then ?_
  refine rS Tryz.f36 2 [2, 3, 5, 6, 7, 8, 9, 10, 11, 12, 13, 14, 15] [] (fun _ => [(.int .i64 2), (.int .i64 2)]) (fun _ => []) (cR [[], []] <| cN) (fun _ => ?_)
  refine mt_rounds ?_
  refine okr_succ ?_
  refine sS Tryz.f36 1 [2, 3, 5, 6, 7, 8, 9, 10, 11, 12, 13, 14, 15] [] (fun _ => [(.bool false)]) (fun _ => []) (cR [[]] <| cN) (fun _ => ?_)
  refine dRs [(2, (.slice none 0 0)), (3, (.slice (oa ρ10 2) ((([] : List UInt8) ++ B0) ++ B1).length (nb ρ10 2))), (5, (.slice a1 (B1).length c1)), (6, (.slice (some ⟨g, 0, none⟩) 2 2)), (7, (.int .i64 2)), (8, (.int .i64 2)), (9, (.bool false)), (10, (.pointer (some ⟨g, 1, none⟩))), (11, (.slice a1 (B1).length c1)), (12, (.slice (oa ρ6 2) (([] : List UInt8) ++ B0).length (nb ρ6 2))), (13, (.slice a1 (B1).length c1)), (14, (.slice (oa ρ10 2) ((([] : List UInt8) ++ B0) ++ B1).length (nb ρ10 2))), (15, (.int .i64 2))] [] ?_
  refine ok_seq ?_
  refine oN ?_
  refine ok_exit ?_
  refine mt_then_e ?_
  refine mt_then_e ?_
  refine mt_block_h ?_
  refine mt_then ?_
  refine sS Tryz.f36 2 [2] [] (fun _ => [(.slice (oa ρ10 2) ((([] : List UInt8) ++ B0) ++ B1).length (nb ρ10 2)), (.slice (oa ρ10 2) ((([] : List UInt8) ++ B0) ++ B1).length (nb ρ10 2))]) (fun _ => []) (cR [[], []] <| cN) (fun _ => ?_)
  refine ok_ret ?_
  refine mD [(2, (.slice (oa ρ10 2) ((([] : List UInt8) ++ B0) ++ B1).length (nb ρ10 2)))] [] ?_
  exact mR (v := (.slice (oa ρ10 2) ((([] : List UInt8) ++ B0) ++ B1).length (nb ρ10 2))) (fun _ hS => ⟨oa ρ10 2, nb ρ10 2, congrArg Ending.returned (rfl), hS.bel, fs_eq (rfl) hS.facts.now.2.2.2.2.1⟩)

theorem join3_any (g : Nat) (a0 : Option Addr) (c0 : Nat) (B0 : List UInt8) (a1 : Option Addr) (c1 : Nat) (B1 : List UInt8) (a2 : Option Addr) (c2 : Nat) (B2 : List UInt8) (hl : B0.length + B1.length + B2.length ≤ 140737488351232) (__h0 : 0 < B0.length) (w0 : World) (hf0 : Kb w0 g #[(.slice a0 (B0).length c0), (.slice a1 (B1).length c1), (.slice a2 (B2).length c2)]) (hf1 : Bs w0 a0 c0 B0) (hf2 : Bs w0 a1 c1 B1) (hf3 : Bs w0 a2 c2 B2) : Calls Tryz.prog 36 #[(.slice (some ⟨g, 0, none⟩) 3 3)] w0 (fun ε w' => ∃ α κ, ε = .returned (.slice α ((B0 ++ B1) ++ B2).length κ) ∧ Below w0.heap.size w0 w' ∧ Fs w0 w' α κ ((B0 ++ B1) ++ B2)) := by
  refine Calls.of_ok (n := 17) (F := (fun w => Kb w g #[(.slice a0 (B0).length c0), (.slice a1 (B1).length c1), (.slice a2 (B2).length c2)] ∧ Bs w a0 c0 B0 ∧ Bs w a1 c1 B1 ∧ Bs w a2 c2 B2 ∧ True)) Tryz.func36 rfl rfl rfl (by simp) (hf0.pers0.and (hf1.pers0.and (hf2.pers0.and (hf3.pers0.and persT)))) ?_
  refine sS Tryz.f36 1 [0, 2] [] (fun _ => [(.slice none 0 0)]) (fun _ => []) (cR [[]] <| cN) (fun _ => ?_)
  refine sS Tryz.f36 1 [0, 2, 3] [] (fun _ => [(.slice none 0 0)]) (fun _ => []) (cR [[]] <| cN) (fun _ => ?_)
  refine ok_seq ?_
  refine sS Tryz.f36 3 [2, 3, 6, 7, 8] [] (fun _ => [(.slice (some ⟨g, 0, none⟩) 3 3), (.int .i64 3), (.int .i64 0)]) (fun _ => []) (cR [[], [], []] <| cN) (fun _ => ?_)
  refine ok_block ?_
  refine ok_rounds 4 ?_
  refine okr_succ ?_
  refine sS Tryz.f36 1 [2, 3, 6, 7, 8, 9] [] (fun _ => [(.bool true)]) (fun _ => []) (cR [[]] <| cN) (fun _ => ?_)
  refine ok_seq ?_
  refine oY ?_
  refine ok_skip ?_
  refine mt_then ?_
  refine ok_seq ?_
  refine ok_block ?_
  refine sS Tryz.f36 3 [2, 3, 5, 6, 7, 8, 9, 10, 11] [] (fun _ => [(pt g), (.slice a0 (B0).length c0), (.slice a0 (B0).length c0)]) (fun _ => []) (cR [[]] <| cX (o_semF _ (fun _ => do pure (Next.value (← Instr.loadAt 43 (pt g)))) (fun _ => (.slice a0 (B0).length c0)) (fun _ => (by kernel_rfl)) (fun _ => (by kernel_rfl)) (fun _ _ _ hG => ld_blk Tryz.isAgg43 (hG.facts0.now.1) (rfl)) (fun _ _ _ _ => persT)) <| cR [[]] <| cN) (fun _ => ?_)
  refine dRs [(2, (.slice none 0 0)), (3, (.slice none 0 0)), (5, (.slice a0 (B0).length c0)), (6, (.slice (some ⟨g, 0, none⟩) 3 3)), (7, (.int .i64 3)), (8, (.int .i64 0)), (9, (.bool true)), (10, (pt g)), (11, (.slice a0 (B0).length c0))] [] ?_
  refine rSf Tryz.f36 4 [2, 3, 5, 6, 7, 8, 9, 10, 11, 12, 13, 14] [] (fun ρ => [(.slice none 0 0), (.slice a0 (B0).length c0), (.slice (oa ρ 2) (([] : List UInt8) ++ B0).length (nb ρ 2)), (.slice (oa ρ 2) (([] : List UInt8) ++ B0).length (nb ρ 2))]) (fun _ => []) (fun ρ => [(2, fun w => Fs w0 w (oa ρ 2) (nb ρ 2) (([] : List UInt8) ++ B0))]) (fun ρ => (fun w => Kb w g #[(.slice a0 (B0).length c0), (.slice a1 (B1).length c1), (.slice a2 (B2).length c2)] ∧ Bs w a0 c0 B0 ∧ Bs w a1 c1 B1 ∧ Bs w a2 c2 B2 ∧ Fs w0 w (oa ρ 2) (nb ρ 2) (([] : List UInt8) ++ B0) ∧ True)) (fun _ => True) (fun _ _ hF hf => ⟨⟨hF.1, hF.2.1, hF.2.2.1, hF.2.2.2.1, hf 2, trivial⟩, trivial⟩) (cR [[], []] <| cX (o_callB _ 67 (fun _ => #[(.slice none 0 0), (.slice a0 (B0).length c0)]) (fun _ α κ => (.slice α (([] : List UInt8) ++ B0).length κ)) (fun _ => ([] : List UInt8) ++ B0) (fun _ _ => (by kernel_rfl)) (fun _ _ => (by kernel_rfl)) (fun _ _ => (by kernel_rfl)) (fun _ _ => (by kernel_rfl)) (fun _ _ w hG => joined_any none 0 ([] : List UInt8) a0 c0 B0 (by (try simp only [List.length_nil]) <;> (have := hl; omega)) w Bs.nil hG.facts0.now.2.1)) <| cR [[]] <| cN) (fun ρ6 _ => ?_)
  refine mt_block_n ?_
  refine mt_then ?_
  refine rS Tryz.f36 2 [2, 3, 5, 6, 7, 8, 9, 10, 11, 12, 13, 14, 15] [] (fun _ => [(.int .i64 1), (.int .i64 1)]) (fun _ => []) (cR [[], []] <| cN) (fun _ => ?_)
  refine mt_rounds ?_
  refine okr_succ ?_
  refine sS Tryz.f36 1 [2, 3, 5, 6, 7, 8, 9, 10, 11, 12, 13, 14, 15] [] (fun _ => [(.bool true)]) (fun _ => []) (cR [[]] <| cN) (fun _ => ?_)
  refine ok_seq ?_
  refine oY ?_
  refine ok_skip ?_
  refine mt_then ?_
  refine ok_seq ?_
  refine ok_block ?_
  refine sS Tryz.f36 3 [2, 3, 5, 6, 7, 8, 9, 10, 11, 12, 13, 14, 15] [] (fun _ => [(.pointer (some ⟨g, 1, none⟩)), (.slice a1 (B1).length c1), (.slice a1 (B1).length c1)]) (fun _ => []) (cR [[]] <| cX (o_semF _ (fun _ => do pure (Next.value (← Instr.loadAt 43 (.pointer (some ⟨g, 1, none⟩))))) (fun _ => (.slice a1 (B1).length c1)) (fun _ => (by kernel_rfl)) (fun _ => (by kernel_rfl)) (fun _ _ _ hG => ld_blk Tryz.isAgg43 (hG.facts0.now.1) (rfl)) (fun _ _ _ _ => persT)) <| cR [[]] <| cN) (fun _ => ?_)
  refine rSf Tryz.f36 4 [2, 3, 5, 6, 7, 8, 9, 10, 11, 12, 13, 14, 15] [] (fun ρ => [(.slice (oa ρ6 2) (([] : List UInt8) ++ B0).length (nb ρ6 2)), (.slice a1 (B1).length c1), (.slice (oa ρ 2) ((([] : List UInt8) ++ B0) ++ B1).length (nb ρ 2)), (.slice (oa ρ 2) ((([] : List UInt8) ++ B0) ++ B1).length (nb ρ 2))]) (fun _ => []) (fun ρ => [(2, fun w => Fs w0 w (oa ρ 2) (nb ρ 2) ((([] : List UInt8) ++ B0) ++ B1))]) (fun ρ => (fun w => Kb w g #[(.slice a0 (B0).length c0), (.slice a1 (B1).length c1), (.slice a2 (B2).length c2)] ∧ Bs w a0 c0 B0 ∧ Bs w a1 c1 B1 ∧ Bs w a2 c2 B2 ∧ Fs w0 w (oa ρ6 2) (nb ρ6 2) (([] : List UInt8) ++ B0) ∧ Fs w0 w (oa ρ 2) (nb ρ 2) ((([] : List UInt8) ++ B0) ++ B1) ∧ True)) (fun _ => True) (fun _ _ hF hf => ⟨⟨hF.1, hF.2.1, hF.2.2.1, hF.2.2.2.1, hF.2.2.2.2.1, hf 2, trivial⟩, trivial⟩) (cR [[], []] <| cX (o_callB _ 67 (fun _ => #[(.slice (oa ρ6 2) (([] : List UInt8) ++ B0).length (nb ρ6 2)), (.slice a1 (B1).length c1)]) (fun _ α κ => (.slice α ((([] : List UInt8) ++ B0) ++ B1).length κ)) (fun _ => (([] : List UInt8) ++ B0) ++ B1) (fun _ _ => (by kernel_rfl)) (fun _ _ => (by kernel_rfl)) (fun _ _ => (by kernel_rfl)) (fun _ _ => (by kernel_rfl)) (fun _ _ w hG => joined_any (oa ρ6 2) (nb ρ6 2) (([] : List UInt8) ++ B0) a1 c1 B1 (by (try simp only [List.length_append, List.length_nil]) <;> (have := hl; omega)) w hG.facts0.now.2.2.2.2.1.1 hG.facts0.now.2.2.1)) <| cR [[]] <| cN) (fun ρ10 _ => ?_)
  refine mt_block_n ?_
  refine mt_then ?_
  refine rS Tryz.f36 2 [2, 3, 5, 6, 7, 8, 9, 10, 11, 12, 13, 14, 15] [] (fun _ => [(.int .i64 2), (.int .i64 2)]) (fun _ => []) (cR [[], []] <| cN) (fun _ => ?_)
  refine mt_rounds ?_
  refine okr_succ ?_
  refine sS Tryz.f36 1 [2, 3, 5, 6, 7, 8, 9, 10, 11, 12, 13, 14, 15] [] (fun _ => [(.bool true)]) (fun _ => []) (cR [[]] <| cN) (fun _ => ?_)
  refine dRs [(2, (.slice none 0 0)), (3, (.slice (oa ρ10 2) ((([] : List UInt8) ++ B0) ++ B1).length (nb ρ10 2))), (5, (.slice a1 (B1).length c1)), (6, (.slice (some ⟨g, 0, none⟩) 3 3)), (7, (.int .i64 3)), (8, (.int .i64 2)), (9, (.bool true)), (10, (.pointer (some ⟨g, 1, none⟩))), (11, (.slice a1 (B1).length c1)), (12, (.slice (oa ρ6 2) (([] : List UInt8) ++ B0).length (nb ρ6 2))), (13, (.slice a1 (B1).length c1)), (14, (.slice (oa ρ10 2) ((([] : List UInt8) ++ B0) ++ B1).length (nb ρ10 2))), (15, (.int .i64 2))] [] ?_
  refine ok_seq ?_
  refine oY ?_
  refine ok_skip ?_
  refine mt_then ?_
  refine ok_seq ?_
  refine ok_block ?_
  refine sS Tryz.f36 3 [2, 3, 5, 6, 7, 8, 9, 10, 11, 12, 13, 14, 15] [] (fun _ => [(.pointer (some ⟨g, 2, none⟩)), (.slice a2 (B2).length c2), (.slice a2 (B2).length c2)]) (fun _ => []) (cR [[]] <| cX (o_semF _ (fun _ => do pure (Next.value (← Instr.loadAt 43 (.pointer (some ⟨g, 2, none⟩))))) (fun _ => (.slice a2 (B2).length c2)) (fun _ => (by kernel_rfl)) (fun _ => (by kernel_rfl)) (fun _ _ _ hG => ld_blk Tryz.isAgg43 (hG.facts0.now.1) (rfl)) (fun _ _ _ _ => persT)) <| cR [[]] <| cN) (fun _ => ?_)
  refine rSf Tryz.f36 4 [2, 3, 5, 6, 7, 8, 9, 10, 11, 12, 13, 14, 15] [] (fun ρ => [(.slice (oa ρ10 2) ((([] : List UInt8) ++ B0) ++ B1).length (nb ρ10 2)), (.slice a2 (B2).length c2), (.slice (oa ρ 2) (((([] : List UInt8) ++ B0) ++ B1) ++ B2).length (nb ρ 2)), (.slice (oa ρ 2) (((([] : List UInt8) ++ B0) ++ B1) ++ B2).length (nb ρ 2))]) (fun _ => []) (fun ρ => [(2, fun w => Fs w0 w (oa ρ 2) (nb ρ 2) (((([] : List UInt8) ++ B0) ++ B1) ++ B2))]) (fun ρ => (fun w => Kb w g #[(.slice a0 (B0).length c0), (.slice a1 (B1).length c1), (.slice a2 (B2).length c2)] ∧ Bs w a0 c0 B0 ∧ Bs w a1 c1 B1 ∧ Bs w a2 c2 B2 ∧ Fs w0 w (oa ρ6 2) (nb ρ6 2) (([] : List UInt8) ++ B0) ∧ Fs w0 w (oa ρ10 2) (nb ρ10 2) ((([] : List UInt8) ++ B0) ++ B1) ∧ Fs w0 w (oa ρ 2) (nb ρ 2) (((([] : List UInt8) ++ B0) ++ B1) ++ B2) ∧ True)) (fun _ => True) (fun _ _ hF hf => ⟨⟨hF.1, hF.2.1, hF.2.2.1, hF.2.2.2.1, hF.2.2.2.2.1, hF.2.2.2.2.2.1, hf 2, trivial⟩, trivial⟩) (cR [[], []] <| cX (o_callB _ 67 (fun _ => #[(.slice (oa ρ10 2) ((([] : List UInt8) ++ B0) ++ B1).length (nb ρ10 2)), (.slice a2 (B2).length c2)]) (fun _ α κ => (.slice α (((([] : List UInt8) ++ B0) ++ B1) ++ B2).length κ)) (fun _ => ((([] : List UInt8) ++ B0) ++ B1) ++ B2) (fun _ _ => (by kernel_rfl)) (fun _ _ => (by kernel_rfl)) (fun _ _ => (by kernel_rfl)) (fun _ _ => (by kernel_rfl)) (fun _ _ w hG => joined_any (oa ρ10 2) (nb ρ10 2) ((([] : List UInt8) ++ B0) ++ B1) a2 c2 B2 (by (try simp only [List.length_append, List.length_nil]) <;> (have := hl; omega)) w hG.facts0.now.2.2.2.2.2.1.1 hG.facts0.now.2.2.2.1)) <| cR [[]] <| cN) (fun ρ14 _ => ?_)
  refine mt_block_n ?_
  refine mt_then ?_
  refine rS Tryz.f36 2 [2, 3, 5, 6, 7, 8, 9, 10, 11, 12, 13, 14, 15] [] (fun _ => [(.int .i64 3), (.int .i64 3)]) (fun _ => []) (cR [[], []] <| cN) (fun _ => ?_)
  refine mt_rounds ?_
  refine okr_succ ?_
  refine sS Tryz.f36 1 [2, 3, 5, 6, 7, 8, 9, 10, 11, 12, 13, 14, 15] [] (fun _ => [(.bool false)]) (fun _ => []) (cR [[]] <| cN) (fun _ => ?_)
  refine ok_seq ?_
  refine oN ?_
  refine ok_exit ?_
  refine mt_then_e ?_
  refine mt_then_e ?_
  refine mt_block_h ?_
  refine mt_then ?_
  refine sS Tryz.f36 2 [2] [] (fun _ => [(.slice (oa ρ14 2) (((([] : List UInt8) ++ B0) ++ B1) ++ B2).length (nb ρ14 2)), (.slice (oa ρ14 2) (((([] : List UInt8) ++ B0) ++ B1) ++ B2).length (nb ρ14 2))]) (fun _ => []) (cR [[], []] <| cN) (fun _ => ?_)
  refine ok_ret ?_
  refine mD [(2, (.slice (oa ρ14 2) (((([] : List UInt8) ++ B0) ++ B1) ++ B2).length (nb ρ14 2)))] [] ?_
  exact mR (v := (.slice (oa ρ14 2) (((([] : List UInt8) ++ B0) ++ B1) ++ B2).length (nb ρ14 2))) (fun _ hS => ⟨oa ρ14 2, nb ρ14 2, congrArg Ending.returned (rfl), hS.bel, fs_eq (rfl) hS.facts.now.2.2.2.2.2.2.1⟩)
end Go.Proofs.YtjdhjkceahaegaaGreatDoor

/-! SHA-256: rotations, the schedule: the walks. -/
namespace Go.Proofs.YtjdhjkceahaegaaGreatDoor
open Go Go.RowKit

theorem rrotr_any (x : Nat) (n : Nat) (hx : x < 4294967296) (hn : 0 < n ∧ n < 32) (w0 : World) : Calls Tryz.prog 122 #[(.int .u32 ((x : Nat) : Int)), (.int .i64 ((n : Nat) : Int))] w0 (fun ε w' => ε = .returned (.int .u32 ((rot32 x n : Nat) : Int)) ∧ Below w0.heap.size w0 w') := by
  refine Calls.of_ok (n := 9) (F := (fun _ => True)) Tryz.func122 rfl rfl rfl (by simp) (persTrue (fun _ => trivial)) ?_
  refine sS Tryz.f122 1 [0, 1, 4] [] (fun _ => [(.int .u32 0)]) (fun _ => []) (cR [[]] <| cN) (fun _ => ?_)
  refine sS Tryz.f122 5 [4] [] (fun _ => [(.int .u32 ((x : Nat) : Int)), (.int .i64 ((n : Nat) : Int)), (.int .i64 (0 - ((n : Nat) : Int))), (.int .u32 ((rot32 x n : Nat) : Int)), (.int .u32 ((rot32 x n : Nat) : Int))]) (fun _ => []) (cR [[], []] <| cA (v := fun ρ => (.int .i64 (IntKind.i64.wrap (0 - ((n : Nat) : Int))))) (fun _ => (.int .i64 (0 - ((n : Nat) : Int)))) (fun _ => congrArg (Value.int .i64) (i64N (by have := hn; omega))) <| cC (fun _ w => rotl_any x n hx hn w) <| cR [[]] <| cN) (fun _ => ?_)
  refine ok_ret ?_
  exact mR (v := (.int .u32 ((rot32 x n : Nat) : Int))) (fun _ hS => ⟨rfl, hS.bel⟩)

theorem rsched_any (X : List UInt8) (hX : X.length = 64) (w0 : World) : Calls Tryz.prog 120 #[(.agg ((bs X).toArray))] w0 (fun ε w' => ε = .returned (.agg (rowK .u32 64 (wN X))) ∧ Below w0.heap.size w0 w') := by
  refine Calls.of_ok (n := 97) (F := (fun _ => True)) Tryz.func120 rfl rfl rfl (by simp) (persTrue (fun _ => trivial)) ?_
  refine sS Tryz.f120 2 [1, 2] [] (fun ρ => [(pt (nb ρ 0)), (pt (nb ρ 1))]) (fun ρ => [(0, { news := [(nb ρ 0, (.cells ((bs X).toArray) 77 (0, 0)))] }), (1, { news := [(nb ρ 1, (.cells (rowK .u32 64 (fun _ => 0)) 94 (0, 0)))] })]) (cR [[], []] <| cN) (fun ρ1 => ?_)
  refine sS Tryz.f120 1 [1, 2, 3] [] (fun ρ => [(pt (nb ρ 0))]) (fun ρ => [(0, { news := [(nb ρ 0, (.cells (rowK .u32 64 (fun _ => 0)) 94 (0, 0)))] })]) (cR [[]] <| cN) (fun ρ2 => ?_)
  refine ok_seq ?_
  refine sS Tryz.f120 1 [1, 2, 3, 4] [] (fun _ => [(.int .i64 0)]) (fun _ => []) (cR [[]] <| cN) (fun _ => ?_)
  refine ok_block ?_
  refine oL (σ := Nat × (Array Value)) (fun ⟨i, _⟩ => [(1, (pt (nb ρ1 0))), (2, (pt (nb ρ1 1))), (3, (pt (nb ρ2 0))), (4, (.int .i64 ((i : Nat) : Int)))]) (fun ⟨_, C⟩ => [(nb ρ1 0, (.cells ((bs X).toArray) 77 (0, 0))), (nb ρ1 1, (.cells (rowK .u32 64 (fun _ => 0)) 94 (0, 0))), (nb ρ2 0, (.cells C 94 (0, 0)))]) (fun ⟨i, _⟩ => 16 - i)
    (fun ⟨i, C⟩ => (i ≤ 16) ∧ (C = rowK .u32 64 (sc X i 0))) (0, rowK .u32 64 (fun _ => 0)) (⟨by decide, zrow_sc X⟩) [] ?_
  rintro ⟨i, C⟩ ⟨hi, hC⟩
  change Ok Tryz.prog _ _ 97 [(1, (pt (nb ρ1 0))), (2, (pt (nb ρ1 1))), (3, (pt (nb ρ2 0))), (4, (.int .i64 ((i : Nat) : Int)))] _ [(nb ρ1 0, (.cells ((bs X).toArray) 77 (0, 0))), (nb ρ1 1, (.cells (rowK .u32 64 (fun _ => 0)) 94 (0, 0))), (nb ρ2 0, (.cells C 94 (0, 0)))] (fun _ => True)
  refine ok_seq ?_
  refine sS Tryz.f120 2 [1, 2, 3, 4, 9] [] (fun _ => [(.int .i64 ((i : Nat) : Int)), (.bool (decide (((i : Nat) : Int) < 16)))]) (fun _ => []) (cR [[], []] <| cN) (fun _ => ?_)
  refine oC (decide (((i : Nat) : Int) < 16)) (fun hb1 => ?_) (fun hb1 => ?_)
  ·
    rw [hb1]
    refine ok_skip ?_
    refine mt_then ?_
    refine ok_seq ?_
    refine ok_block ?_
    refine rD Tryz.f120 [0, 0, 2, 6, 14, 30, 62, 0, 128, 384, 896, 1920, 3968, 8064, 16382, 0, 32768, 98304, 229376, 491520, 1015808, 2064384, 4194302, 0, 8388608, 25165824, 58720256, 125829120, 260046848, 536870910, 1073741823, 2147483647] 32 [1, 2, 3, 4] [] (fun _ => [(.int .i64 ((i : Nat) : Int)), (.int .i64 ((i : Nat) : Int)), (.int .i64 ((4 * i : Nat) : Int)), (.pointer (some ⟨nb ρ1 0, 4 * i, none⟩)), (.int .u8 ((gB X (4 * i) : Nat) : Int)), (.int .u32 ((gB X (4 * i) : Nat) : Int)), (.int .u32 ((gB X (4 * i) * 16777216 : Nat) : Int)), (.int .i64 ((i : Nat) : Int)), (.int .i64 ((4 * i : Nat) : Int)), (.int .i64 (((4 * i) + 1 : Nat) : Int)), (.pointer (some ⟨nb ρ1 0, (4 * i) + 1, none⟩)), (.int .u8 ((gB X ((4 * i) + 1) : Nat) : Int)), (.int .u32 ((gB X ((4 * i) + 1) : Nat) : Int)), (.int .u32 ((gB X ((4 * i) + 1) * 65536 : Nat) : Int)), (.int .u32 (((gB X (4 * i) * 256 + gB X ((4 * i) + 1)) * 65536 : Nat) : Int)), (.int .i64 ((i : Nat) : Int)), (.int .i64 ((4 * i : Nat) : Int)), (.int .i64 (((4 * i) + 2 : Nat) : Int)), (.pointer (some ⟨nb ρ1 0, (4 * i) + 2, none⟩)), (.int .u8 ((gB X ((4 * i) + 2) : Nat) : Int)), (.int .u32 ((gB X ((4 * i) + 2) : Nat) : Int)), (.int .u32 ((gB X ((4 * i) + 2) * 256 : Nat) : Int)), (.int .u32 ((((gB X (4 * i) * 256 + gB X ((4 * i) + 1)) * 256 + gB X ((4 * i) + 2)) * 256 : Nat) : Int)), (.int .i64 ((i : Nat) : Int)), (.int .i64 ((4 * i : Nat) : Int)), (.int .i64 (((4 * i) + 3 : Nat) : Int)), (.pointer (some ⟨nb ρ1 0, (4 * i) + 3, none⟩)), (.int .u8 ((gB X ((4 * i) + 3) : Nat) : Int)), (.int .u32 ((gB X ((4 * i) + 3) : Nat) : Int)), (.int .u32 ((word X i : Nat) : Int)), (.pointer (some ⟨nb ρ2 0, i, none⟩)), undef]) (fun _ => [(31, { puts := [(2, nb ρ2 0, (.cells (C.setIfInBounds i (.int .u32 ((word X i : Nat) : Int))) 94 (0, 0)))] })]) (cR [[], []] <| cA (v := fun ρ => (.int .i64 (IntKind.i64.wrap (4 * ((i : Nat) : Int))))) (fun _ => (.int .i64 ((4 * i : Nat) : Int))) (fun _ => congrArg (Value.int .i64) (wrap_mulN 4 i (by have := of_decide_eq_true hb1; have := hX; have := hi; omega))) <| cX (o_sem _ (fun _ => do pure (Next.value (← Instr.indexAt 77 (pt (nb ρ1 0)) (.int .i64 ((4 * i : Nat) : Int))))) (fun _ => (.pointer (some ⟨nb ρ1 0, 4 * i, none⟩))) (fun _ => by kernel_rfl) (fun _ => by kernel_rfl) (fun _ w => run_idx_nat (n := ((4 * i : Nat) : Int)) (i := 4 * i) Tryz.underlying77 Tryz.sizeOf5 ((by have := of_decide_eq_true hb1; have := hX; have := hi; omega)) w)) <| cX (o_ld _ 0 5 (fun _ => nb ρ1 0) (fun _ => 4 * i) (fun _ => ((bs X).toArray)) 77 (0, 0) (fun _ => (.int .u8 ((gB X (4 * i) : Nat) : Int))) (fun _ => by kernel_rfl) Tryz.isAgg5 (fun _ => (bsA_get (by rw [hX]; have := of_decide_eq_true hb1; have := hX; have := hi; omega)))) <| cA (v := fun ρ => (.int .u32 (IntKind.u32.wrap (((gB X (4 * i) : Nat) : Int))))) (fun _ => (.int .u32 ((gB X (4 * i) : Nat) : Int))) (fun _ => congrArg (Value.int .u32) (u32N (Nat.lt_of_lt_of_le (gB_lt _ _) (by decide)))) <| cB (a := fun ρ => (.int .u32 ((gB X (4 * i) : Nat) : Int))) (b := fun ρ => (.int .u64 24)) (v := fun ρ => (.int .u32 ((gB X (4 * i) * 16777216 : Nat) : Int))) .shl 23 (fun _ w => run_shlU (k := .u32) (yk := .u64) (x := gB X (4 * i)) (c := 24) rfl (by have := gB_lt X (4 * i); show _ * 16777216 < 4294967296; omega) (fun _ => by decide) w) <| cR [[]] <| cA (v := fun ρ => (.int .i64 (IntKind.i64.wrap (4 * ((i : Nat) : Int))))) (fun _ => (.int .i64 ((4 * i : Nat) : Int))) (fun _ => congrArg (Value.int .i64) (wrap_mulN 4 i (by have := of_decide_eq_true hb1; have := hX; have := hi; omega))) <| cA (v := fun ρ => (.int .i64 (IntKind.i64.wrap (((4 * i : Nat) : Int) + 1)))) (fun _ => (.int .i64 (((4 * i) + 1 : Nat) : Int))) (fun _ => congrArg (Value.int .i64) (wrap_addN (4 * i) 1 (by have := of_decide_eq_true hb1; have := hX; have := hi; omega))) <| cX (o_sem _ (fun _ => do pure (Next.value (← Instr.indexAt 77 (pt (nb ρ1 0)) (.int .i64 (((4 * i) + 1 : Nat) : Int))))) (fun _ => (.pointer (some ⟨nb ρ1 0, (4 * i) + 1, none⟩))) (fun _ => by kernel_rfl) (fun _ => by kernel_rfl) (fun _ w => run_idx_nat (n := (((4 * i) + 1 : Nat) : Int)) (i := (4 * i) + 1) Tryz.underlying77 Tryz.sizeOf5 ((by have := of_decide_eq_true hb1; have := hX; have := hi; omega)) w)) <| cX (o_ld _ 0 5 (fun _ => nb ρ1 0) (fun _ => (4 * i) + 1) (fun _ => ((bs X).toArray)) 77 (0, 0) (fun _ => (.int .u8 ((gB X ((4 * i) + 1) : Nat) : Int))) (fun _ => by kernel_rfl) Tryz.isAgg5 (fun _ => (bsA_get (by rw [hX]; have := of_decide_eq_true hb1; have := hX; have := hi; omega)))) <| cA (v := fun ρ => (.int .u32 (IntKind.u32.wrap (((gB X ((4 * i) + 1) : Nat) : Int))))) (fun _ => (.int .u32 ((gB X ((4 * i) + 1) : Nat) : Int))) (fun _ => congrArg (Value.int .u32) (u32N (Nat.lt_of_lt_of_le (gB_lt _ _) (by decide)))) <| cB (a := fun ρ => (.int .u32 ((gB X ((4 * i) + 1) : Nat) : Int))) (b := fun ρ => (.int .u64 16)) (v := fun ρ => (.int .u32 ((gB X ((4 * i) + 1) * 65536 : Nat) : Int))) .shl 23 (fun _ w => run_shlU (k := .u32) (yk := .u64) (x := gB X ((4 * i) + 1)) (c := 16) rfl (by have := gB_lt X ((4 * i) + 1); show _ * 65536 < 4294967296; omega) (fun _ => by decide) w) <| cA (v := fun ρ => (.int .u32 (bits .or .u32 ((gB X (4 * i) * 16777216 : Nat) : Int) ((gB X ((4 * i) + 1) * 65536 : Nat) : Int)))) (fun _ => (.int .u32 (((gB X (4 * i) * 256 + gB X ((4 * i) + 1)) * 65536 : Nat) : Int))) (fun _ => congrArg (Value.int .u32) (or_w1 (gB_lt _ _) (gB_lt _ _))) <| cR [[]] <| cA (v := fun ρ => (.int .i64 (IntKind.i64.wrap (4 * ((i : Nat) : Int))))) (fun _ => (.int .i64 ((4 * i : Nat) : Int))) (fun _ => congrArg (Value.int .i64) (wrap_mulN 4 i (by have := of_decide_eq_true hb1; have := hX; have := hi; omega))) <| cA (v := fun ρ => (.int .i64 (IntKind.i64.wrap (((4 * i : Nat) : Int) + 2)))) (fun _ => (.int .i64 (((4 * i) + 2 : Nat) : Int))) (fun _ => congrArg (Value.int .i64) (wrap_addN (4 * i) 2 (by have := of_decide_eq_true hb1; have := hX; have := hi; omega))) <| cX (o_sem _ (fun _ => do pure (Next.value (← Instr.indexAt 77 (pt (nb ρ1 0)) (.int .i64 (((4 * i) + 2 : Nat) : Int))))) (fun _ => (.pointer (some ⟨nb ρ1 0, (4 * i) + 2, none⟩))) (fun _ => by kernel_rfl) (fun _ => by kernel_rfl) (fun _ w => run_idx_nat (n := (((4 * i) + 2 : Nat) : Int)) (i := (4 * i) + 2) Tryz.underlying77 Tryz.sizeOf5 ((by have := of_decide_eq_true hb1; have := hX; have := hi; omega)) w)) <| cX (o_ld _ 0 5 (fun _ => nb ρ1 0) (fun _ => (4 * i) + 2) (fun _ => ((bs X).toArray)) 77 (0, 0) (fun _ => (.int .u8 ((gB X ((4 * i) + 2) : Nat) : Int))) (fun _ => by kernel_rfl) Tryz.isAgg5 (fun _ => (bsA_get (by rw [hX]; have := of_decide_eq_true hb1; have := hX; have := hi; omega)))) <| cA (v := fun ρ => (.int .u32 (IntKind.u32.wrap (((gB X ((4 * i) + 2) : Nat) : Int))))) (fun _ => (.int .u32 ((gB X ((4 * i) + 2) : Nat) : Int))) (fun _ => congrArg (Value.int .u32) (u32N (Nat.lt_of_lt_of_le (gB_lt _ _) (by decide)))) <| cB (a := fun ρ => (.int .u32 ((gB X ((4 * i) + 2) : Nat) : Int))) (b := fun ρ => (.int .u64 8)) (v := fun ρ => (.int .u32 ((gB X ((4 * i) + 2) * 256 : Nat) : Int))) .shl 23 (fun _ w => run_shlU (k := .u32) (yk := .u64) (x := gB X ((4 * i) + 2)) (c := 8) rfl (by have := gB_lt X ((4 * i) + 2); show _ * 256 < 4294967296; omega) (fun _ => by decide) w) <| cA (v := fun ρ => (.int .u32 (bits .or .u32 (((gB X (4 * i) * 256 + gB X ((4 * i) + 1)) * 65536 : Nat) : Int) ((gB X ((4 * i) + 2) * 256 : Nat) : Int)))) (fun _ => (.int .u32 ((((gB X (4 * i) * 256 + gB X ((4 * i) + 1)) * 256 + gB X ((4 * i) + 2)) * 256 : Nat) : Int))) (fun _ => congrArg (Value.int .u32) (or_w2 (gB_lt _ _) (gB_lt _ _) (gB_lt _ _))) <| cR [[]] <| cA (v := fun ρ => (.int .i64 (IntKind.i64.wrap (4 * ((i : Nat) : Int))))) (fun _ => (.int .i64 ((4 * i : Nat) : Int))) (fun _ => congrArg (Value.int .i64) (wrap_mulN 4 i (by have := of_decide_eq_true hb1; have := hX; have := hi; omega))) <| cA (v := fun ρ => (.int .i64 (IntKind.i64.wrap (((4 * i : Nat) : Int) + 3)))) (fun _ => (.int .i64 (((4 * i) + 3 : Nat) : Int))) (fun _ => congrArg (Value.int .i64) (wrap_addN (4 * i) 3 (by have := of_decide_eq_true hb1; have := hX; have := hi; omega))) <| cX (o_sem _ (fun _ => do pure (Next.value (← Instr.indexAt 77 (pt (nb ρ1 0)) (.int .i64 (((4 * i) + 3 : Nat) : Int))))) (fun _ => (.pointer (some ⟨nb ρ1 0, (4 * i) + 3, none⟩))) (fun _ => by kernel_rfl) (fun _ => by kernel_rfl) (fun _ w => run_idx_nat (n := (((4 * i) + 3 : Nat) : Int)) (i := (4 * i) + 3) Tryz.underlying77 Tryz.sizeOf5 ((by have := of_decide_eq_true hb1; have := hX; have := hi; omega)) w)) <| cX (o_ld _ 0 5 (fun _ => nb ρ1 0) (fun _ => (4 * i) + 3) (fun _ => ((bs X).toArray)) 77 (0, 0) (fun _ => (.int .u8 ((gB X ((4 * i) + 3) : Nat) : Int))) (fun _ => by kernel_rfl) Tryz.isAgg5 (fun _ => (bsA_get (by rw [hX]; have := of_decide_eq_true hb1; have := hX; have := hi; omega)))) <| cA (v := fun ρ => (.int .u32 (IntKind.u32.wrap (((gB X ((4 * i) + 3) : Nat) : Int))))) (fun _ => (.int .u32 ((gB X ((4 * i) + 3) : Nat) : Int))) (fun _ => congrArg (Value.int .u32) (u32N (Nat.lt_of_lt_of_le (gB_lt _ _) (by decide)))) <| cA (fun _ => (.int .u32 ((word X i : Nat) : Int))) (fun _ => congrArg (Value.int .u32) (or_w3)) <| cX (o_sem _ (fun _ => do pure (Next.value (← Instr.indexAt 94 (pt (nb ρ2 0)) (.int .i64 ((i : Nat) : Int))))) (fun _ => (.pointer (some ⟨nb ρ2 0, i, none⟩))) (fun _ => by kernel_rfl) (fun _ => by kernel_rfl) (fun _ w => run_idx_nat (n := ((i : Nat) : Int)) (i := i) Tryz.underlying94 Tryz.sizeOf23 ((by have := of_decide_eq_true hb1; have := hX; have := hi; omega)) w)) <| cX (o_st _ 2 23 (fun _ => nb ρ2 0) (fun _ => i) (fun _ => C) (fun _ => (C.setIfInBounds i (.int .u32 ((word X i : Nat) : Int)))) 94 (fun _ => (.int .u32 ((word X i : Nat) : Int))) (fun _ => by kernel_rfl) Tryz.sizeOf23 (fun _ => rfl) (fun _ => (by rw [hC, rowK_size]; have := of_decide_eq_true hb1; have := hX; have := hi; omega)) (fun _ => rfl)) <| cN) (fun _ => ?_)
    refine mt_block_n ?_
    refine mt_then ?_
    refine rS Tryz.f120 3 [1, 2, 3, 4] [] (fun _ => [(.int .i64 ((i : Nat) : Int)), (.int .i64 ((i + 1 : Nat) : Int)), (.int .i64 ((i + 1 : Nat) : Int))]) (fun _ => []) (cR [[]] <| cA (v := fun ρ => (.int .i64 (IntKind.i64.wrap (((i : Nat) : Int) + 1)))) (fun _ => (.int .i64 ((i + 1 : Nat) : Int))) (fun _ => congrArg (Value.int .i64) (wrap_addN i 1 (by have := of_decide_eq_true hb1; have := hX; have := hi; omega))) <| cR [[]] <| cN) (fun _ => ?_)
    exact mN (i + 1, C.setIfInBounds i (.int .u32 ((word X i : Nat) : Int))) (by show 16 - (i + 1) < 16 - i; have := of_decide_eq_true hb1; have := hX; have := hi; omega) (⟨(by have := of_decide_eq_true hb1; have := hX; have := hi; omega), by rw [hC]; exact sc_word⟩) []
  ·
    rw [hb1]
    refine ok_exit ?_
    refine mt_then_e ?_
    refine mt_then_e ?_
    refine mt_block_h ?_
    refine mt_then ?_
    refine ok_seq ?_
    refine sS Tryz.f120 1 [2, 3, 5] [0, 1, 1] (fun _ => [(.int .i64 16)]) (fun _ => []) (cR [[]] <| cN) (fun _ => ?_)
    refine ok_block ?_
    refine oL (σ := Nat × (Array Value)) (fun ⟨k, _⟩ => [(2, (pt (nb ρ1 1))), (3, (pt (nb ρ2 0))), (5, (.int .i64 ((k : Nat) : Int)))]) (fun ⟨_, C3⟩ => [(nb ρ1 1, (.cells (rowK .u32 64 (fun _ => 0)) 94 (0, 0))), (nb ρ2 0, (.cells C3 94 (0, 0)))]) (fun ⟨k, _⟩ => 64 - k)
      (fun ⟨k, C3⟩ => (16 ≤ k ∧ k ≤ 64) ∧ (C3 = rowK .u32 64 (tc X k))) (16, C) (⟨by decide, hC.trans (by rw [show i = 16 by have := of_decide_eq_false hb1; have := hX; have := hi; omega]; exact sc_tc X)⟩) [] ?_
    rintro ⟨k, C3⟩ ⟨hk, hC3⟩
    change Ok Tryz.prog _ _ 97 [(2, (pt (nb ρ1 1))), (3, (pt (nb ρ2 0))), (5, (.int .i64 ((k : Nat) : Int)))] _ [(nb ρ1 1, (.cells (rowK .u32 64 (fun _ => 0)) 94 (0, 0))), (nb ρ2 0, (.cells C3 94 (0, 0)))] (fun _ => True)
    refine ok_seq ?_
    refine sS Tryz.f120 2 [2, 3, 5, 44] [] (fun _ => [(.int .i64 ((k : Nat) : Int)), (.bool (decide (((k : Nat) : Int) < 64)))]) (fun _ => []) (cR [[], []] <| cN) (fun _ => ?_)
    refine oC (decide (((k : Nat) : Int) < 64)) (fun hb2 => ?_) (fun hb2 => ?_)
    ·
      rw [hb2]
      refine ok_skip ?_
      refine mt_then ?_
      refine ok_seq ?_
      refine ok_block ?_
      refine sD Tryz.f120 [0, 1, 3, 7, 15, 0, 32, 96, 224, 511, 1023, 0, 2048, 6144, 14336, 30720, 65535, 131071] 18 [2, 3, 5, 6] [] (fun _ => [(.int .i64 ((k : Nat) : Int)), (.int .i64 (((k : Nat) : Int) - 15)), (.pointer (some ⟨nb ρ2 0, k - 15, none⟩)), (.int .u32 ((wN X (k - 15) : Nat) : Int)), (.int .u32 ((rot32 (wN X (k - 15)) 7 : Nat) : Int)), (.int .i64 ((k : Nat) : Int)), (.int .i64 (((k : Nat) : Int) - 15)), (.pointer (some ⟨nb ρ2 0, k - 15, none⟩)), (.int .u32 ((wN X (k - 15) : Nat) : Int)), (.int .u32 ((rot32 (wN X (k - 15)) 18 : Nat) : Int)), (.int .u32 (((rot32 (wN X (k - 15)) 7) ^^^ (rot32 (wN X (k - 15)) 18) : Nat) : Int)), (.int .i64 ((k : Nat) : Int)), (.int .i64 (((k : Nat) : Int) - 15)), (.pointer (some ⟨nb ρ2 0, k - 15, none⟩)), (.int .u32 ((wN X (k - 15) : Nat) : Int)), (.int .u32 (((wN X (k - 15)) / 2 ^ 3 : Nat) : Int)), (.int .u32 ((((rot32 (wN X (k - 15)) 7) ^^^ (rot32 (wN X (k - 15)) 18)) ^^^ ((wN X (k - 15)) / 2 ^ 3) : Nat) : Int)), (.int .u32 ((((rot32 (wN X (k - 15)) 7) ^^^ (rot32 (wN X (k - 15)) 18)) ^^^ ((wN X (k - 15)) / 2 ^ 3) : Nat) : Int))]) (fun _ => []) (cR [[]] <| cA (v := fun ρ => (.int .i64 (IntKind.i64.wrap (((k : Nat) : Int) - 15)))) (fun _ => (.int .i64 (((k : Nat) : Int) - 15))) (fun _ => congrArg (Value.int .i64) (i64N (by have := of_decide_eq_false hb1; have := of_decide_eq_true hb2; have := hX; have := hi; have := hk; omega))) <| cX (o_sem _ (fun _ => do pure (Next.value (← Instr.indexAt 94 (pt (nb ρ2 0)) (.int .i64 (((k : Nat) : Int) - 15))))) (fun _ => (.pointer (some ⟨nb ρ2 0, k - 15, none⟩))) (fun _ => by kernel_rfl) (fun _ => by kernel_rfl) (fun _ w => run_idx_nat (n := ((k : Nat) : Int) - 15) (i := k - 15) Tryz.underlying94 Tryz.sizeOf23 ((by have := of_decide_eq_false hb1; have := of_decide_eq_true hb2; have := hX; have := hi; have := hk; omega)) w)) <| cX (o_ld _ 1 23 (fun _ => nb ρ2 0) (fun _ => k - 15) (fun _ => C3) 94 (0, 0) (fun _ => (.int .u32 ((wN X (k - 15) : Nat) : Int))) (fun _ => by kernel_rfl) Tryz.isAgg23 (fun _ => (by rw [hC3]; exact tc_get (by have := of_decide_eq_false hb1; have := of_decide_eq_true hb2; have := hX; have := hi; have := hk; omega) (by have := of_decide_eq_false hb1; have := of_decide_eq_true hb2; have := hX; have := hi; have := hk; omega)))) <| cC (f := 122) (args := fun ρ => #[(.int .u32 ((wN X (k - 15) : Nat) : Int)), (.int .i64 7)]) (v := fun ρ => (.int .u32 ((rot32 (wN X (k - 15)) 7 : Nat) : Int))) (fun _ w => (fun w => rrotr_any (wN X (k - 15)) 7 (wN_lt _ _) (by decide) w) w) <| cR [[]] <| cA (v := fun ρ => (.int .i64 (IntKind.i64.wrap (((k : Nat) : Int) - 15)))) (fun _ => (.int .i64 (((k : Nat) : Int) - 15))) (fun _ => congrArg (Value.int .i64) (i64N (by have := of_decide_eq_false hb1; have := of_decide_eq_true hb2; have := hX; have := hi; have := hk; omega))) <| cX (o_sem _ (fun _ => do pure (Next.value (← Instr.indexAt 94 (pt (nb ρ2 0)) (.int .i64 (((k : Nat) : Int) - 15))))) (fun _ => (.pointer (some ⟨nb ρ2 0, k - 15, none⟩))) (fun _ => by kernel_rfl) (fun _ => by kernel_rfl) (fun _ w => run_idx_nat (n := ((k : Nat) : Int) - 15) (i := k - 15) Tryz.underlying94 Tryz.sizeOf23 ((by have := of_decide_eq_false hb1; have := of_decide_eq_true hb2; have := hX; have := hi; have := hk; omega)) w)) <| cX (o_ld _ 1 23 (fun _ => nb ρ2 0) (fun _ => k - 15) (fun _ => C3) 94 (0, 0) (fun _ => (.int .u32 ((wN X (k - 15) : Nat) : Int))) (fun _ => by kernel_rfl) Tryz.isAgg23 (fun _ => (by rw [hC3]; exact tc_get (by have := of_decide_eq_false hb1; have := of_decide_eq_true hb2; have := hX; have := hi; have := hk; omega) (by have := of_decide_eq_false hb1; have := of_decide_eq_true hb2; have := hX; have := hi; have := hk; omega)))) <| cC (f := 122) (args := fun ρ => #[(.int .u32 ((wN X (k - 15) : Nat) : Int)), (.int .i64 18)]) (v := fun ρ => (.int .u32 ((rot32 (wN X (k - 15)) 18 : Nat) : Int))) (fun _ w => (fun w => rrotr_any (wN X (k - 15)) 18 (wN_lt _ _) (by decide) w) w) <| cA (v := fun ρ => (.int .u32 (bits .xor .u32 ((rot32 (wN X (k - 15)) 7 : Nat) : Int) ((rot32 (wN X (k - 15)) 18 : Nat) : Int)))) (fun _ => (.int .u32 (((rot32 (wN X (k - 15)) 7) ^^^ (rot32 (wN X (k - 15)) 18) : Nat) : Int))) (fun _ => congrArg (Value.int .u32) (xor32 (rot32_lt _ (wN_lt _ _)) (rot32_lt _ (wN_lt _ _)))) <| cR [[]] <| cA (v := fun ρ => (.int .i64 (IntKind.i64.wrap (((k : Nat) : Int) - 15)))) (fun _ => (.int .i64 (((k : Nat) : Int) - 15))) (fun _ => congrArg (Value.int .i64) (i64N (by have := of_decide_eq_false hb1; have := of_decide_eq_true hb2; have := hX; have := hi; have := hk; omega))) <| cX (o_sem _ (fun _ => do pure (Next.value (← Instr.indexAt 94 (pt (nb ρ2 0)) (.int .i64 (((k : Nat) : Int) - 15))))) (fun _ => (.pointer (some ⟨nb ρ2 0, k - 15, none⟩))) (fun _ => by kernel_rfl) (fun _ => by kernel_rfl) (fun _ w => run_idx_nat (n := ((k : Nat) : Int) - 15) (i := k - 15) Tryz.underlying94 Tryz.sizeOf23 ((by have := of_decide_eq_false hb1; have := of_decide_eq_true hb2; have := hX; have := hi; have := hk; omega)) w)) <| cX (o_ld _ 1 23 (fun _ => nb ρ2 0) (fun _ => k - 15) (fun _ => C3) 94 (0, 0) (fun _ => (.int .u32 ((wN X (k - 15) : Nat) : Int))) (fun _ => by kernel_rfl) Tryz.isAgg23 (fun _ => (by rw [hC3]; exact tc_get (by have := of_decide_eq_false hb1; have := of_decide_eq_true hb2; have := hX; have := hi; have := hk; omega) (by have := of_decide_eq_false hb1; have := of_decide_eq_true hb2; have := hX; have := hi; have := hk; omega)))) <| cB (a := fun ρ => (.int .u32 ((wN X (k - 15) : Nat) : Int))) (b := fun ρ => (.int .u64 3)) (v := fun ρ => (.int .u32 (((wN X (k - 15)) / 2 ^ 3 : Nat) : Int))) .shr 23 (fun _ w => run_shrU (k := .u32) (x := (wN X (k - 15))) (c := 3) (wN_lt _ _) w) <| cA (v := fun ρ => (.int .u32 (bits .xor .u32 (((rot32 (wN X (k - 15)) 7) ^^^ (rot32 (wN X (k - 15)) 18) : Nat) : Int) (((wN X (k - 15)) / 2 ^ 3 : Nat) : Int)))) (fun _ => (.int .u32 ((((rot32 (wN X (k - 15)) 7) ^^^ (rot32 (wN X (k - 15)) 18)) ^^^ ((wN X (k - 15)) / 2 ^ 3) : Nat) : Int))) (fun _ => congrArg (Value.int .u32) (xor32 (xor32_lt (rot32_lt _ (wN_lt _ _)) (rot32_lt _ (wN_lt _ _))) (shr32_lt _ (wN_lt _ _)))) <| cR [[]] <| cN) (fun _ => ?_)
      refine sD Tryz.f120 [0, 1, 3, 7, 15, 0, 32, 96, 224, 511, 1023, 0, 2048, 6144, 14336, 30720, 65535, 131071] 18 [2, 3, 5, 6, 7] [] (fun _ => [(.int .i64 ((k : Nat) : Int)), (.int .i64 (((k : Nat) : Int) - 2)), (.pointer (some ⟨nb ρ2 0, k - 2, none⟩)), (.int .u32 ((wN X (k - 2) : Nat) : Int)), (.int .u32 ((rot32 (wN X (k - 2)) 17 : Nat) : Int)), (.int .i64 ((k : Nat) : Int)), (.int .i64 (((k : Nat) : Int) - 2)), (.pointer (some ⟨nb ρ2 0, k - 2, none⟩)), (.int .u32 ((wN X (k - 2) : Nat) : Int)), (.int .u32 ((rot32 (wN X (k - 2)) 19 : Nat) : Int)), (.int .u32 (((rot32 (wN X (k - 2)) 17) ^^^ (rot32 (wN X (k - 2)) 19) : Nat) : Int)), (.int .i64 ((k : Nat) : Int)), (.int .i64 (((k : Nat) : Int) - 2)), (.pointer (some ⟨nb ρ2 0, k - 2, none⟩)), (.int .u32 ((wN X (k - 2) : Nat) : Int)), (.int .u32 (((wN X (k - 2)) / 2 ^ 10 : Nat) : Int)), (.int .u32 ((((rot32 (wN X (k - 2)) 17) ^^^ (rot32 (wN X (k - 2)) 19)) ^^^ ((wN X (k - 2)) / 2 ^ 10) : Nat) : Int)), (.int .u32 ((((rot32 (wN X (k - 2)) 17) ^^^ (rot32 (wN X (k - 2)) 19)) ^^^ ((wN X (k - 2)) / 2 ^ 10) : Nat) : Int))]) (fun _ => []) (cR [[]] <| cA (v := fun ρ => (.int .i64 (IntKind.i64.wrap (((k : Nat) : Int) - 2)))) (fun _ => (.int .i64 (((k : Nat) : Int) - 2))) (fun _ => congrArg (Value.int .i64) (i64N (by have := of_decide_eq_false hb1; have := of_decide_eq_true hb2; have := hX; have := hi; have := hk; omega))) <| cX (o_sem _ (fun _ => do pure (Next.value (← Instr.indexAt 94 (pt (nb ρ2 0)) (.int .i64 (((k : Nat) : Int) - 2))))) (fun _ => (.pointer (some ⟨nb ρ2 0, k - 2, none⟩))) (fun _ => by kernel_rfl) (fun _ => by kernel_rfl) (fun _ w => run_idx_nat (n := ((k : Nat) : Int) - 2) (i := k - 2) Tryz.underlying94 Tryz.sizeOf23 ((by have := of_decide_eq_false hb1; have := of_decide_eq_true hb2; have := hX; have := hi; have := hk; omega)) w)) <| cX (o_ld _ 1 23 (fun _ => nb ρ2 0) (fun _ => k - 2) (fun _ => C3) 94 (0, 0) (fun _ => (.int .u32 ((wN X (k - 2) : Nat) : Int))) (fun _ => by kernel_rfl) Tryz.isAgg23 (fun _ => (by rw [hC3]; exact tc_get (by have := of_decide_eq_false hb1; have := of_decide_eq_true hb2; have := hX; have := hi; have := hk; omega) (by have := of_decide_eq_false hb1; have := of_decide_eq_true hb2; have := hX; have := hi; have := hk; omega)))) <| cC (f := 122) (args := fun ρ => #[(.int .u32 ((wN X (k - 2) : Nat) : Int)), (.int .i64 17)]) (v := fun ρ => (.int .u32 ((rot32 (wN X (k - 2)) 17 : Nat) : Int))) (fun _ w => (fun w => rrotr_any (wN X (k - 2)) 17 (wN_lt _ _) (by decide) w) w) <| cR [[]] <| cA (v := fun ρ => (.int .i64 (IntKind.i64.wrap (((k : Nat) : Int) - 2)))) (fun _ => (.int .i64 (((k : Nat) : Int) - 2))) (fun _ => congrArg (Value.int .i64) (i64N (by have := of_decide_eq_false hb1; have := of_decide_eq_true hb2; have := hX; have := hi; have := hk; omega))) <| cX (o_sem _ (fun _ => do pure (Next.value (← Instr.indexAt 94 (pt (nb ρ2 0)) (.int .i64 (((k : Nat) : Int) - 2))))) (fun _ => (.pointer (some ⟨nb ρ2 0, k - 2, none⟩))) (fun _ => by kernel_rfl) (fun _ => by kernel_rfl) (fun _ w => run_idx_nat (n := ((k : Nat) : Int) - 2) (i := k - 2) Tryz.underlying94 Tryz.sizeOf23 ((by have := of_decide_eq_false hb1; have := of_decide_eq_true hb2; have := hX; have := hi; have := hk; omega)) w)) <| cX (o_ld _ 1 23 (fun _ => nb ρ2 0) (fun _ => k - 2) (fun _ => C3) 94 (0, 0) (fun _ => (.int .u32 ((wN X (k - 2) : Nat) : Int))) (fun _ => by kernel_rfl) Tryz.isAgg23 (fun _ => (by rw [hC3]; exact tc_get (by have := of_decide_eq_false hb1; have := of_decide_eq_true hb2; have := hX; have := hi; have := hk; omega) (by have := of_decide_eq_false hb1; have := of_decide_eq_true hb2; have := hX; have := hi; have := hk; omega)))) <| cC (f := 122) (args := fun ρ => #[(.int .u32 ((wN X (k - 2) : Nat) : Int)), (.int .i64 19)]) (v := fun ρ => (.int .u32 ((rot32 (wN X (k - 2)) 19 : Nat) : Int))) (fun _ w => (fun w => rrotr_any (wN X (k - 2)) 19 (wN_lt _ _) (by decide) w) w) <| cA (v := fun ρ => (.int .u32 (bits .xor .u32 ((rot32 (wN X (k - 2)) 17 : Nat) : Int) ((rot32 (wN X (k - 2)) 19 : Nat) : Int)))) (fun _ => (.int .u32 (((rot32 (wN X (k - 2)) 17) ^^^ (rot32 (wN X (k - 2)) 19) : Nat) : Int))) (fun _ => congrArg (Value.int .u32) (xor32 (rot32_lt _ (wN_lt _ _)) (rot32_lt _ (wN_lt _ _)))) <| cR [[]] <| cA (v := fun ρ => (.int .i64 (IntKind.i64.wrap (((k : Nat) : Int) - 2)))) (fun _ => (.int .i64 (((k : Nat) : Int) - 2))) (fun _ => congrArg (Value.int .i64) (i64N (by have := of_decide_eq_false hb1; have := of_decide_eq_true hb2; have := hX; have := hi; have := hk; omega))) <| cX (o_sem _ (fun _ => do pure (Next.value (← Instr.indexAt 94 (pt (nb ρ2 0)) (.int .i64 (((k : Nat) : Int) - 2))))) (fun _ => (.pointer (some ⟨nb ρ2 0, k - 2, none⟩))) (fun _ => by kernel_rfl) (fun _ => by kernel_rfl) (fun _ w => run_idx_nat (n := ((k : Nat) : Int) - 2) (i := k - 2) Tryz.underlying94 Tryz.sizeOf23 ((by have := of_decide_eq_false hb1; have := of_decide_eq_true hb2; have := hX; have := hi; have := hk; omega)) w)) <| cX (o_ld _ 1 23 (fun _ => nb ρ2 0) (fun _ => k - 2) (fun _ => C3) 94 (0, 0) (fun _ => (.int .u32 ((wN X (k - 2) : Nat) : Int))) (fun _ => by kernel_rfl) Tryz.isAgg23 (fun _ => (by rw [hC3]; exact tc_get (by have := of_decide_eq_false hb1; have := of_decide_eq_true hb2; have := hX; have := hi; have := hk; omega) (by have := of_decide_eq_false hb1; have := of_decide_eq_true hb2; have := hX; have := hi; have := hk; omega)))) <| cB (a := fun ρ => (.int .u32 ((wN X (k - 2) : Nat) : Int))) (b := fun ρ => (.int .u64 10)) (v := fun ρ => (.int .u32 (((wN X (k - 2)) / 2 ^ 10 : Nat) : Int))) .shr 23 (fun _ w => run_shrU (k := .u32) (x := (wN X (k - 2))) (c := 10) (wN_lt _ _) w) <| cA (v := fun ρ => (.int .u32 (bits .xor .u32 (((rot32 (wN X (k - 2)) 17) ^^^ (rot32 (wN X (k - 2)) 19) : Nat) : Int) (((wN X (k - 2)) / 2 ^ 10 : Nat) : Int)))) (fun _ => (.int .u32 ((((rot32 (wN X (k - 2)) 17) ^^^ (rot32 (wN X (k - 2)) 19)) ^^^ ((wN X (k - 2)) / 2 ^ 10) : Nat) : Int))) (fun _ => congrArg (Value.int .u32) (xor32 (xor32_lt (rot32_lt _ (wN_lt _ _)) (rot32_lt _ (wN_lt _ _))) (shr32_lt _ (wN_lt _ _)))) <| cR [[]] <| cN) (fun _ => ?_)
      refine rD Tryz.f120 [0, 0, 2, 6, 14, 0, 62, 0, 128, 384, 896, 2046, 0, 8190, 16383, 32767] 16 [2, 3, 5] [] (fun _ => [(.int .i64 ((k : Nat) : Int)), (.int .i64 ((k : Nat) : Int)), (.int .i64 (((k : Nat) : Int) - 16)), (.pointer (some ⟨nb ρ2 0, k - 16, none⟩)), (.int .u32 ((wN X (k - 16) : Nat) : Int)), (.int .u32 ((((rot32 (wN X (k - 15)) 7) ^^^ (rot32 (wN X (k - 15)) 18)) ^^^ ((wN X (k - 15)) / 2 ^ 3) : Nat) : Int)), (.int .u32 ((add32 (wN X (k - 16)) (((rot32 (wN X (k - 15)) 7) ^^^ (rot32 (wN X (k - 15)) 18)) ^^^ ((wN X (k - 15)) / 2 ^ 3)) : Nat) : Int)), (.int .i64 ((k : Nat) : Int)), (.int .i64 (((k : Nat) : Int) - 7)), (.pointer (some ⟨nb ρ2 0, k - 7, none⟩)), (.int .u32 ((wN X (k - 7) : Nat) : Int)), (.int .u32 ((add32 (add32 (wN X (k - 16)) (((rot32 (wN X (k - 15)) 7) ^^^ (rot32 (wN X (k - 15)) 18)) ^^^ ((wN X (k - 15)) / 2 ^ 3))) (wN X (k - 7)) : Nat) : Int)), (.int .u32 ((((rot32 (wN X (k - 2)) 17) ^^^ (rot32 (wN X (k - 2)) 19)) ^^^ ((wN X (k - 2)) / 2 ^ 10) : Nat) : Int)), (.int .u32 ((add32 (add32 (add32 (wN X (k - 16)) (((rot32 (wN X (k - 15)) 7) ^^^ (rot32 (wN X (k - 15)) 18)) ^^^ ((wN X (k - 15)) / 2 ^ 3))) (wN X (k - 7))) (((rot32 (wN X (k - 2)) 17) ^^^ (rot32 (wN X (k - 2)) 19)) ^^^ ((wN X (k - 2)) / 2 ^ 10)) : Nat) : Int)), (.pointer (some ⟨nb ρ2 0, k, none⟩)), undef]) (fun _ => [(15, { puts := [(1, nb ρ2 0, (.cells (C3.setIfInBounds k (.int .u32 ((add32 (add32 (add32 (wN X (k - 16)) (((rot32 (wN X (k - 15)) 7) ^^^ (rot32 (wN X (k - 15)) 18)) ^^^ ((wN X (k - 15)) / 2 ^ 3))) (wN X (k - 7))) (((rot32 (wN X (k - 2)) 17) ^^^ (rot32 (wN X (k - 2)) 19)) ^^^ ((wN X (k - 2)) / 2 ^ 10)) : Nat) : Int))) 94 (0, 0)))] })]) (cR [[], []] <| cA (v := fun ρ => (.int .i64 (IntKind.i64.wrap (((k : Nat) : Int) - 16)))) (fun _ => (.int .i64 (((k : Nat) : Int) - 16))) (fun _ => congrArg (Value.int .i64) (i64N (by have := of_decide_eq_false hb1; have := of_decide_eq_true hb2; have := hX; have := hi; have := hk; omega))) <| cX (o_sem _ (fun _ => do pure (Next.value (← Instr.indexAt 94 (pt (nb ρ2 0)) (.int .i64 (((k : Nat) : Int) - 16))))) (fun _ => (.pointer (some ⟨nb ρ2 0, k - 16, none⟩))) (fun _ => by kernel_rfl) (fun _ => by kernel_rfl) (fun _ w => run_idx_nat (n := ((k : Nat) : Int) - 16) (i := k - 16) Tryz.underlying94 Tryz.sizeOf23 ((by have := of_decide_eq_false hb1; have := of_decide_eq_true hb2; have := hX; have := hi; have := hk; omega)) w)) <| cX (o_ld _ 1 23 (fun _ => nb ρ2 0) (fun _ => k - 16) (fun _ => C3) 94 (0, 0) (fun _ => (.int .u32 ((wN X (k - 16) : Nat) : Int))) (fun _ => by kernel_rfl) Tryz.isAgg23 (fun _ => (by rw [hC3]; exact tc_get (by have := of_decide_eq_false hb1; have := of_decide_eq_true hb2; have := hX; have := hi; have := hk; omega) (by have := of_decide_eq_false hb1; have := of_decide_eq_true hb2; have := hX; have := hi; have := hk; omega)))) <| cR [[]] <| cA (fun _ => (.int .u32 ((add32 (wN X (k - 16)) (((rot32 (wN X (k - 15)) 7) ^^^ (rot32 (wN X (k - 15)) 18)) ^^^ ((wN X (k - 15)) / 2 ^ 3)) : Nat) : Int))) (fun _ => congrArg (Value.int .u32) (wrap_add32 (wN X (k - 16)) (((rot32 (wN X (k - 15)) 7) ^^^ (rot32 (wN X (k - 15)) 18)) ^^^ ((wN X (k - 15)) / 2 ^ 3)))) <| cR [[]] <| cA (v := fun ρ => (.int .i64 (IntKind.i64.wrap (((k : Nat) : Int) - 7)))) (fun _ => (.int .i64 (((k : Nat) : Int) - 7))) (fun _ => congrArg (Value.int .i64) (i64N (by have := of_decide_eq_false hb1; have := of_decide_eq_true hb2; have := hX; have := hi; have := hk; omega))) <| cX (o_sem _ (fun _ => do pure (Next.value (← Instr.indexAt 94 (pt (nb ρ2 0)) (.int .i64 (((k : Nat) : Int) - 7))))) (fun _ => (.pointer (some ⟨nb ρ2 0, k - 7, none⟩))) (fun _ => by kernel_rfl) (fun _ => by kernel_rfl) (fun _ w => run_idx_nat (n := ((k : Nat) : Int) - 7) (i := k - 7) Tryz.underlying94 Tryz.sizeOf23 ((by have := of_decide_eq_false hb1; have := of_decide_eq_true hb2; have := hX; have := hi; have := hk; omega)) w)) <| cX (o_ld _ 1 23 (fun _ => nb ρ2 0) (fun _ => k - 7) (fun _ => C3) 94 (0, 0) (fun _ => (.int .u32 ((wN X (k - 7) : Nat) : Int))) (fun _ => by kernel_rfl) Tryz.isAgg23 (fun _ => (by rw [hC3]; exact tc_get (by have := of_decide_eq_false hb1; have := of_decide_eq_true hb2; have := hX; have := hi; have := hk; omega) (by have := of_decide_eq_false hb1; have := of_decide_eq_true hb2; have := hX; have := hi; have := hk; omega)))) <| cA (fun _ => (.int .u32 ((add32 (add32 (wN X (k - 16)) (((rot32 (wN X (k - 15)) 7) ^^^ (rot32 (wN X (k - 15)) 18)) ^^^ ((wN X (k - 15)) / 2 ^ 3))) (wN X (k - 7)) : Nat) : Int))) (fun _ => congrArg (Value.int .u32) (wrap_add32 (add32 (wN X (k - 16)) (((rot32 (wN X (k - 15)) 7) ^^^ (rot32 (wN X (k - 15)) 18)) ^^^ ((wN X (k - 15)) / 2 ^ 3))) (wN X (k - 7)))) <| cR [[]] <| cA (fun _ => (.int .u32 ((add32 (add32 (add32 (wN X (k - 16)) (((rot32 (wN X (k - 15)) 7) ^^^ (rot32 (wN X (k - 15)) 18)) ^^^ ((wN X (k - 15)) / 2 ^ 3))) (wN X (k - 7))) (((rot32 (wN X (k - 2)) 17) ^^^ (rot32 (wN X (k - 2)) 19)) ^^^ ((wN X (k - 2)) / 2 ^ 10)) : Nat) : Int))) (fun _ => congrArg (Value.int .u32) (wrap_add32 (add32 (add32 (wN X (k - 16)) (((rot32 (wN X (k - 15)) 7) ^^^ (rot32 (wN X (k - 15)) 18)) ^^^ ((wN X (k - 15)) / 2 ^ 3))) (wN X (k - 7))) (((rot32 (wN X (k - 2)) 17) ^^^ (rot32 (wN X (k - 2)) 19)) ^^^ ((wN X (k - 2)) / 2 ^ 10)))) <| cX (o_sem _ (fun _ => do pure (Next.value (← Instr.indexAt 94 (pt (nb ρ2 0)) (.int .i64 ((k : Nat) : Int))))) (fun _ => (.pointer (some ⟨nb ρ2 0, k, none⟩))) (fun _ => by kernel_rfl) (fun _ => by kernel_rfl) (fun _ w => run_idx_nat (n := ((k : Nat) : Int)) (i := k) Tryz.underlying94 Tryz.sizeOf23 ((by have := of_decide_eq_false hb1; have := of_decide_eq_true hb2; have := hX; have := hi; have := hk; omega)) w)) <| cX (o_st _ 1 23 (fun _ => nb ρ2 0) (fun _ => k) (fun _ => C3) (fun _ => (C3.setIfInBounds k (.int .u32 ((add32 (add32 (add32 (wN X (k - 16)) (((rot32 (wN X (k - 15)) 7) ^^^ (rot32 (wN X (k - 15)) 18)) ^^^ ((wN X (k - 15)) / 2 ^ 3))) (wN X (k - 7))) (((rot32 (wN X (k - 2)) 17) ^^^ (rot32 (wN X (k - 2)) 19)) ^^^ ((wN X (k - 2)) / 2 ^ 10)) : Nat) : Int)))) 94 (fun _ => (.int .u32 ((add32 (add32 (add32 (wN X (k - 16)) (((rot32 (wN X (k - 15)) 7) ^^^ (rot32 (wN X (k - 15)) 18)) ^^^ ((wN X (k - 15)) / 2 ^ 3))) (wN X (k - 7))) (((rot32 (wN X (k - 2)) 17) ^^^ (rot32 (wN X (k - 2)) 19)) ^^^ ((wN X (k - 2)) / 2 ^ 10)) : Nat) : Int))) (fun _ => by kernel_rfl) Tryz.sizeOf23 (fun _ => rfl) (fun _ => (by rw [hC3, rowK_size]; have := of_decide_eq_false hb1; have := of_decide_eq_true hb2; have := hX; have := hi; have := hk; omega)) (fun _ => rfl)) <| cN) (fun _ => ?_)
      refine mt_block_n ?_
      refine mt_then ?_
      refine rS Tryz.f120 3 [2, 3, 5] [] (fun _ => [(.int .i64 ((k : Nat) : Int)), (.int .i64 ((k + 1 : Nat) : Int)), (.int .i64 ((k + 1 : Nat) : Int))]) (fun _ => []) (cR [[]] <| cA (v := fun ρ => (.int .i64 (IntKind.i64.wrap (((k : Nat) : Int) + 1)))) (fun _ => (.int .i64 ((k + 1 : Nat) : Int))) (fun _ => congrArg (Value.int .i64) (wrap_addN k 1 (by have := of_decide_eq_false hb1; have := of_decide_eq_true hb2; have := hX; have := hi; have := hk; omega))) <| cR [[]] <| cN) (fun _ => ?_)
      exact mN (k + 1, C3.setIfInBounds k (.int .u32 ((add32 (add32 (add32 (wN X (k - 16)) (((rot32 (wN X (k - 15)) 7) ^^^ (rot32 (wN X (k - 15)) 18)) ^^^ ((wN X (k - 15)) / 2 ^ 3))) (wN X (k - 7))) (((rot32 (wN X (k - 2)) 17) ^^^ (rot32 (wN X (k - 2)) 19)) ^^^ ((wN X (k - 2)) / 2 ^ 10)) : Nat) : Int))) (by show 64 - (k + 1) < 64 - k; have := of_decide_eq_false hb1; have := of_decide_eq_true hb2; have := hX; have := hi; have := hk; omega) (⟨(by have := of_decide_eq_false hb1; have := of_decide_eq_true hb2; have := hX; have := hi; have := hk; omega), by rw [hC3]; exact tc_set (wN_more hk.1).symm⟩) []
    ·
      rw [hb2]
      refine ok_exit ?_
      refine mt_then_e ?_
      refine mt_then_e ?_
      refine mt_block_h ?_
      rw [hC3]
      refine mt_then ?_
      refine sS Tryz.f120 2 [2] [1, 0] (fun _ => [(.agg (rowK .u32 64 (tc X k))), undef]) (fun _ => [(1, { puts := [(0, nb ρ1 1, (.cells (rowK .u32 64 (tc X k)) 94 (0, 0)))] })]) (cR [[1], [0]] <| cN) (fun _ => ?_)
      refine ok_ret ?_
      exact mR (v := (.agg (rowK .u32 64 (tc X k)))) (fun _ hS => ⟨congrArg Ending.returned (congrArg Value.agg (tc_end (by have := of_decide_eq_false hb1; have := of_decide_eq_false hb2; have := hX; have := hi; have := hk; omega))), hS.bel⟩)
end Go.Proofs.YtjdhjkceahaegaaGreatDoor

/-! SHA-256: the rounds: the walks. -/
namespace Go.Proofs.YtjdhjkceahaegaaGreatDoor
open Go Go.RowKit

theorem rconst_any  (w0 : World) : Calls Tryz.prog 121 #[] w0 (fun ε w' => ε = .returned (.agg (rowK .u32 64 kN)) ∧ Below w0.heap.size w0 w') := by
  refine Calls.of_ok (n := 2) (F := (fun _ => True)) Tryz.func121 rfl rfl rfl (by simp) (persTrue (fun _ => trivial)) ?_
  refine sS Tryz.f121 1 [0] [] (fun ρ => [(pt (nb ρ 0))]) (fun ρ => [(0, { news := [(nb ρ 0, (.cells (rowK .u32 64 (fun _ => 0)) 94 (0, 0)))] })]) (cR [[]] <| cN) (fun ρ1 => ?_)
  refine sS Tryz.f121 2 [0] [] (fun _ => [(.agg #[(.int .u32 1116352408), (.int .u32 1899447441), (.int .u32 3049323471), (.int .u32 3921009573), (.int .u32 961987163), (.int .u32 1508970993), (.int .u32 2453635748), (.int .u32 2870763221), (.int .u32 3624381080), (.int .u32 310598401), (.int .u32 607225278), (.int .u32 1426881987), (.int .u32 1925078388), (.int .u32 2162078206), (.int .u32 2614888103), (.int .u32 3248222580), (.int .u32 3835390401), (.int .u32 4022224774), (.int .u32 264347078), (.int .u32 604807628), (.int .u32 770255983), (.int .u32 1249150122), (.int .u32 1555081692), (.int .u32 1996064986), (.int .u32 2554220882), (.int .u32 2821834349), (.int .u32 2952996808), (.int .u32 3210313671), (.int .u32 3336571891), (.int .u32 3584528711), (.int .u32 113926993), (.int .u32 338241895), (.int .u32 666307205), (.int .u32 773529912), (.int .u32 1294757372), (.int .u32 1396182291), (.int .u32 1695183700), (.int .u32 1986661051), (.int .u32 2177026350), (.int .u32 2456956037), (.int .u32 2730485921), (.int .u32 2820302411), (.int .u32 3259730800), (.int .u32 3345764771), (.int .u32 3516065817), (.int .u32 3600352804), (.int .u32 4094571909), (.int .u32 275423344), (.int .u32 430227734), (.int .u32 506948616), (.int .u32 659060556), (.int .u32 883997877), (.int .u32 958139571), (.int .u32 1322822218), (.int .u32 1537002063), (.int .u32 1747873779), (.int .u32 1955562222), (.int .u32 2024104815), (.int .u32 2227730452), (.int .u32 2361852424), (.int .u32 2428436474), (.int .u32 2756734187), (.int .u32 3204031479), (.int .u32 3329325298)]), undef]) (fun _ => [(1, { puts := [(0, nb ρ1 0, (.cells #[(.int .u32 1116352408), (.int .u32 1899447441), (.int .u32 3049323471), (.int .u32 3921009573), (.int .u32 961987163), (.int .u32 1508970993), (.int .u32 2453635748), (.int .u32 2870763221), (.int .u32 3624381080), (.int .u32 310598401), (.int .u32 607225278), (.int .u32 1426881987), (.int .u32 1925078388), (.int .u32 2162078206), (.int .u32 2614888103), (.int .u32 3248222580), (.int .u32 3835390401), (.int .u32 4022224774), (.int .u32 264347078), (.int .u32 604807628), (.int .u32 770255983), (.int .u32 1249150122), (.int .u32 1555081692), (.int .u32 1996064986), (.int .u32 2554220882), (.int .u32 2821834349), (.int .u32 2952996808), (.int .u32 3210313671), (.int .u32 3336571891), (.int .u32 3584528711), (.int .u32 113926993), (.int .u32 338241895), (.int .u32 666307205), (.int .u32 773529912), (.int .u32 1294757372), (.int .u32 1396182291), (.int .u32 1695183700), (.int .u32 1986661051), (.int .u32 2177026350), (.int .u32 2456956037), (.int .u32 2730485921), (.int .u32 2820302411), (.int .u32 3259730800), (.int .u32 3345764771), (.int .u32 3516065817), (.int .u32 3600352804), (.int .u32 4094571909), (.int .u32 275423344), (.int .u32 430227734), (.int .u32 506948616), (.int .u32 659060556), (.int .u32 883997877), (.int .u32 958139571), (.int .u32 1322822218), (.int .u32 1537002063), (.int .u32 1747873779), (.int .u32 1955562222), (.int .u32 2024104815), (.int .u32 2227730452), (.int .u32 2361852424), (.int .u32 2428436474), (.int .u32 2756734187), (.int .u32 3204031479), (.int .u32 3329325298)] 94 (0, 0)))] })]) (cR [[], [0]] <| cN) (fun _ => ?_)
  refine ok_ret ?_
  exact mR (v := (.agg #[(.int .u32 1116352408), (.int .u32 1899447441), (.int .u32 3049323471), (.int .u32 3921009573), (.int .u32 961987163), (.int .u32 1508970993), (.int .u32 2453635748), (.int .u32 2870763221), (.int .u32 3624381080), (.int .u32 310598401), (.int .u32 607225278), (.int .u32 1426881987), (.int .u32 1925078388), (.int .u32 2162078206), (.int .u32 2614888103), (.int .u32 3248222580), (.int .u32 3835390401), (.int .u32 4022224774), (.int .u32 264347078), (.int .u32 604807628), (.int .u32 770255983), (.int .u32 1249150122), (.int .u32 1555081692), (.int .u32 1996064986), (.int .u32 2554220882), (.int .u32 2821834349), (.int .u32 2952996808), (.int .u32 3210313671), (.int .u32 3336571891), (.int .u32 3584528711), (.int .u32 113926993), (.int .u32 338241895), (.int .u32 666307205), (.int .u32 773529912), (.int .u32 1294757372), (.int .u32 1396182291), (.int .u32 1695183700), (.int .u32 1986661051), (.int .u32 2177026350), (.int .u32 2456956037), (.int .u32 2730485921), (.int .u32 2820302411), (.int .u32 3259730800), (.int .u32 3345764771), (.int .u32 3516065817), (.int .u32 3600352804), (.int .u32 4094571909), (.int .u32 275423344), (.int .u32 430227734), (.int .u32 506948616), (.int .u32 659060556), (.int .u32 883997877), (.int .u32 958139571), (.int .u32 1322822218), (.int .u32 1537002063), (.int .u32 1747873779), (.int .u32 1955562222), (.int .u32 2024104815), (.int .u32 2227730452), (.int .u32 2361852424), (.int .u32 2428436474), (.int .u32 2756734187), (.int .u32 3204031479), (.int .u32 3329325298)])) (fun _ hS => ⟨by kernel_rfl, hS.bel⟩)

theorem rcompress_any (s0 : Nat) (s1 : Nat) (s2 : Nat) (s3 : Nat) (s4 : Nat) (s5 : Nat) (s6 : Nat) (s7 : Nat) (X : List UInt8) (hs : ok8 (s0, s1, s2, s3, s4, s5, s6, s7)) (hX : X.length = 64) (w0 : World) : Calls Tryz.prog 108 #[(.agg #[(.int .u32 ((s0 : Nat) : Int)), (.int .u32 ((s1 : Nat) : Int)), (.int .u32 ((s2 : Nat) : Int)), (.int .u32 ((s3 : Nat) : Int)), (.int .u32 ((s4 : Nat) : Int)), (.int .u32 ((s5 : Nat) : Int)), (.int .u32 ((s6 : Nat) : Int)), (.int .u32 ((s7 : Nat) : Int))]), (.agg ((bs X).toArray))] w0 (fun ε w' => ε = .returned (.agg #[(.int .u32 (((cmpS (s0, s1, s2, s3, s4, s5, s6, s7) X).1 : Nat) : Int)), (.int .u32 (((cmpS (s0, s1, s2, s3, s4, s5, s6, s7) X).2.1 : Nat) : Int)), (.int .u32 (((cmpS (s0, s1, s2, s3, s4, s5, s6, s7) X).2.2.1 : Nat) : Int)), (.int .u32 (((cmpS (s0, s1, s2, s3, s4, s5, s6, s7) X).2.2.2.1 : Nat) : Int)), (.int .u32 (((cmpS (s0, s1, s2, s3, s4, s5, s6, s7) X).2.2.2.2.1 : Nat) : Int)), (.int .u32 (((cmpS (s0, s1, s2, s3, s4, s5, s6, s7) X).2.2.2.2.2.1 : Nat) : Int)), (.int .u32 (((cmpS (s0, s1, s2, s3, s4, s5, s6, s7) X).2.2.2.2.2.2.1 : Nat) : Int)), (.int .u32 (((cmpS (s0, s1, s2, s3, s4, s5, s6, s7) X).2.2.2.2.2.2.2 : Nat) : Int))]) ∧ Below w0.heap.size w0 w') := by
  refine Calls.of_ok (n := 133) (F := (fun _ => True)) Tryz.func108 rfl rfl rfl (by simp) (persTrue (fun _ => trivial)) ?_
  refine sS Tryz.f108 3 [2, 3, 4] [] (fun ρ => [(pt (nb ρ 0)), (pt (nb ρ 1)), (pt (nb ρ 2))]) (fun ρ => [(0, { news := [(nb ρ 0, (.cells #[(.int .u32 ((s0 : Nat) : Int)), (.int .u32 ((s1 : Nat) : Int)), (.int .u32 ((s2 : Nat) : Int)), (.int .u32 ((s3 : Nat) : Int)), (.int .u32 ((s4 : Nat) : Int)), (.int .u32 ((s5 : Nat) : Int)), (.int .u32 ((s6 : Nat) : Int)), (.int .u32 ((s7 : Nat) : Int))] 89 (0, 0)))] }), (1, { news := [(nb ρ 1, (.cells ((bs X).toArray) 77 (0, 0)))] }), (2, { news := [(nb ρ 2, (.cells #[(.int .u32 0), (.int .u32 0), (.int .u32 0), (.int .u32 0), (.int .u32 0), (.int .u32 0), (.int .u32 0), (.int .u32 0)] 89 (0, 0)))] })]) (cR [[], [], []] <| cN) (fun ρ1 => ?_)
  refine sS Tryz.f108 7 [2, 4, 5, 6] [1, 0, 1, 1, 1] (fun ρ => [(.agg ((bs X).toArray)), (.agg (rowK .u32 64 (wN X))), (.agg (rowK .u32 64 kN)), (pt (nb ρ 3)), (pt (nb ρ 4)), undef, undef]) (fun ρ => [(3, { news := [(nb ρ 3, (.cells (rowK .u32 64 (fun _ => 0)) 94 (0, 0)))] }), (4, { news := [(nb ρ 4, (.cells (rowK .u32 64 (fun _ => 0)) 94 (0, 0)))] }), (5, { puts := [(27, nb ρ 3, (.cells (rowK .u32 64 (wN X)) 94 (0, 0)))] }), (6, { puts := [(35, nb ρ 4, (.cells (rowK .u32 64 kN) 94 (0, 0)))] })]) (cX (o_semF _ (fun _ => do pure (Next.value (← Instr.loadAt 77 (pt (nb ρ1 1))))) (fun _ => (.agg ((bs X).toArray))) (fun _ => (by kernel_rfl)) (fun _ => (by kernel_rfl)) (fun _ _ _ hG => ld_whole Tryz.isAgg77 Tryz.sizeOf77 (hG.known (g := nb ρ1 1) (o := (.cells ((bs X).toArray) 77 (0, 0))) 1 (by kernel_rfl) (by kernel_rfl)) ((by simp [bs, hX]))) (fun _ _ _ _ => persT)) <| cC (fun _ w => rsched_any X hX w) <| cC (fun _ w => rconst_any w) <| cR [[], [], [27], [35]] <| cN) (fun ρ2 => ?_)
  refine sD Tryz.f108 [0, 1, 0, 4, 0, 16, 0, 64, 0, 256, 0, 1024, 0, 4096, 0, 16384, 3, 65551, 196671, 459007, 984063, 2035711, 4145151, 8388607] 24 [2, 4, 5, 6, 7, 8, 9, 10, 11, 12, 13, 14] [] (fun _ => [(pt (nb ρ1 0)), (.int .u32 ((s0 : Nat) : Int)), (.pointer (some ⟨nb ρ1 0, 1, none⟩)), (.int .u32 ((s1 : Nat) : Int)), (.pointer (some ⟨nb ρ1 0, 2, none⟩)), (.int .u32 ((s2 : Nat) : Int)), (.pointer (some ⟨nb ρ1 0, 3, none⟩)), (.int .u32 ((s3 : Nat) : Int)), (.pointer (some ⟨nb ρ1 0, 4, none⟩)), (.int .u32 ((s4 : Nat) : Int)), (.pointer (some ⟨nb ρ1 0, 5, none⟩)), (.int .u32 ((s5 : Nat) : Int)), (.pointer (some ⟨nb ρ1 0, 6, none⟩)), (.int .u32 ((s6 : Nat) : Int)), (.pointer (some ⟨nb ρ1 0, 7, none⟩)), (.int .u32 ((s7 : Nat) : Int)), (.int .u32 ((s0 : Nat) : Int)), (.int .u32 ((s1 : Nat) : Int)), (.int .u32 ((s2 : Nat) : Int)), (.int .u32 ((s3 : Nat) : Int)), (.int .u32 ((s4 : Nat) : Int)), (.int .u32 ((s5 : Nat) : Int)), (.int .u32 ((s6 : Nat) : Int)), (.int .u32 ((s7 : Nat) : Int))]) (fun _ => []) (cR [[], [0], [], [0], [], [0], [], [0], [], [0], [], [0], [], [0], [], [0], [], [], [], [], [], [], [], []] <| cN) (fun _ => ?_)
  refine ok_seq ?_
  refine sS Tryz.f108 1 [2, 4, 5, 6, 7, 8, 9, 10, 11, 12, 13, 14, 15] [] (fun _ => [(.int .i64 0)]) (fun _ => []) (cR [[]] <| cN) (fun _ => ?_)
  refine ok_block ?_
  refine oL (σ := Nat × Nat × Nat × Nat × Nat × Nat × Nat × Nat × Nat) (fun ⟨i, ra, rb, rc, rd, re, rf, rg, rh⟩ => [(2, (pt (nb ρ1 0))), (4, (pt (nb ρ1 2))), (5, (pt (nb ρ2 3))), (6, (pt (nb ρ2 4))), (7, (.int .u32 ((ra : Nat) : Int))), (8, (.int .u32 ((rb : Nat) : Int))), (9, (.int .u32 ((rc : Nat) : Int))), (10, (.int .u32 ((rd : Nat) : Int))), (11, (.int .u32 ((re : Nat) : Int))), (12, (.int .u32 ((rf : Nat) : Int))), (13, (.int .u32 ((rg : Nat) : Int))), (14, (.int .u32 ((rh : Nat) : Int))), (15, (.int .i64 ((i : Nat) : Int)))]) (fun ⟨_, _, _, _, _, _, _, _, _⟩ => [(nb ρ1 0, (.cells #[(.int .u32 ((s0 : Nat) : Int)), (.int .u32 ((s1 : Nat) : Int)), (.int .u32 ((s2 : Nat) : Int)), (.int .u32 ((s3 : Nat) : Int)), (.int .u32 ((s4 : Nat) : Int)), (.int .u32 ((s5 : Nat) : Int)), (.int .u32 ((s6 : Nat) : Int)), (.int .u32 ((s7 : Nat) : Int))] 89 (0, 0))), (nb ρ1 2, (.cells #[(.int .u32 0), (.int .u32 0), (.int .u32 0), (.int .u32 0), (.int .u32 0), (.int .u32 0), (.int .u32 0), (.int .u32 0)] 89 (0, 0))), (nb ρ2 3, (.cells (rowK .u32 64 (wN X)) 94 (0, 0))), (nb ρ2 4, (.cells (rowK .u32 64 kN) 94 (0, 0)))]) (fun ⟨i, _, _, _, _, _, _, _, _⟩ => 64 - i)
    (fun ⟨i, ra, rb, rc, rd, re, rf, rg, rh⟩ => (i ≤ 64) ∧ (rnds X (s0, s1, s2, s3, s4, s5, s6, s7) i = (ra, rb, rc, rd, re, rf, rg, rh))) (0, s0, s1, s2, s3, s4, s5, s6, s7) (⟨by decide, rfl⟩) [] ?_
  rintro ⟨i, ra, rb, rc, rd, re, rf, rg, rh⟩ ⟨hi, hr⟩
  change Ok Tryz.prog _ _ 133 [(2, (pt (nb ρ1 0))), (4, (pt (nb ρ1 2))), (5, (pt (nb ρ2 3))), (6, (pt (nb ρ2 4))), (7, (.int .u32 ((ra : Nat) : Int))), (8, (.int .u32 ((rb : Nat) : Int))), (9, (.int .u32 ((rc : Nat) : Int))), (10, (.int .u32 ((rd : Nat) : Int))), (11, (.int .u32 ((re : Nat) : Int))), (12, (.int .u32 ((rf : Nat) : Int))), (13, (.int .u32 ((rg : Nat) : Int))), (14, (.int .u32 ((rh : Nat) : Int))), (15, (.int .i64 ((i : Nat) : Int)))] _ [(nb ρ1 0, (.cells #[(.int .u32 ((s0 : Nat) : Int)), (.int .u32 ((s1 : Nat) : Int)), (.int .u32 ((s2 : Nat) : Int)), (.int .u32 ((s3 : Nat) : Int)), (.int .u32 ((s4 : Nat) : Int)), (.int .u32 ((s5 : Nat) : Int)), (.int .u32 ((s6 : Nat) : Int)), (.int .u32 ((s7 : Nat) : Int))] 89 (0, 0))), (nb ρ1 2, (.cells #[(.int .u32 0), (.int .u32 0), (.int .u32 0), (.int .u32 0), (.int .u32 0), (.int .u32 0), (.int .u32 0), (.int .u32 0)] 89 (0, 0))), (nb ρ2 3, (.cells (rowK .u32 64 (wN X)) 94 (0, 0))), (nb ρ2 4, (.cells (rowK .u32 64 kN) 94 (0, 0)))] (fun _ => True)
  have ho : ok8 (ra, rb, rc, rd, re, rf, rg, rh) := hr ▸ rnds_ok hs i
  refine ok_seq ?_
  refine sS Tryz.f108 2 [2, 4, 5, 6, 7, 8, 9, 10, 11, 12, 13, 14, 15, 38] [] (fun _ => [(.int .i64 ((i : Nat) : Int)), (.bool (decide (((i : Nat) : Int) < 64)))]) (fun _ => []) (cR [[], []] <| cN) (fun _ => ?_)
  refine oC (decide (((i : Nat) : Int) < 64)) (fun hb1 => ?_) (fun hb1 => ?_)
  ·
    rw [hb1]
    refine ok_skip ?_
    refine mt_then ?_
    refine ok_seq ?_
    refine ok_block ?_
    refine sD Tryz.f108 [0, 0, 2, 0, 14, 30, 0, 94, 254, 511, 0, 0, 3072, 0, 8192, 0, 57344, 130048, 262143, 0, 524288, 1572864, 4194303, 0, 8388608, 25165824, 67108863, 134217727] 28 [2, 4, 5, 6, 7, 8, 9, 10, 11, 12, 13, 14, 15, 16] [] (fun _ => [(.int .u32 ((rh : Nat) : Int)), (.int .u32 ((re : Nat) : Int)), (.int .u32 ((rot32 re 6 : Nat) : Int)), (.int .u32 ((re : Nat) : Int)), (.int .u32 ((rot32 re 11 : Nat) : Int)), (.int .u32 (((rot32 re 6) ^^^ (rot32 re 11) : Nat) : Int)), (.int .u32 ((re : Nat) : Int)), (.int .u32 ((rot32 re 25 : Nat) : Int)), (.int .u32 ((((rot32 re 6) ^^^ (rot32 re 11)) ^^^ (rot32 re 25) : Nat) : Int)), (.int .u32 ((add32 rh (((rot32 re 6) ^^^ (rot32 re 11)) ^^^ (rot32 re 25)) : Nat) : Int)), (.int .u32 ((re : Nat) : Int)), (.int .u32 ((rf : Nat) : Int)), (.int .u32 ((re &&& rf : Nat) : Int)), (.int .u32 ((re : Nat) : Int)), (.int .u32 ((not32 re : Nat) : Int)), (.int .u32 ((rg : Nat) : Int)), (.int .u32 (((not32 re) &&& rg : Nat) : Int)), (.int .u32 (((re &&& rf) ^^^ ((not32 re) &&& rg) : Nat) : Int)), (.int .u32 ((add32 (add32 rh (((rot32 re 6) ^^^ (rot32 re 11)) ^^^ (rot32 re 25))) ((re &&& rf) ^^^ ((not32 re) &&& rg)) : Nat) : Int)), (.int .i64 ((i : Nat) : Int)), (.pointer (some ⟨nb ρ2 4, i, none⟩)), (.int .u32 ((kN i : Nat) : Int)), (.int .u32 ((add32 (add32 (add32 rh (((rot32 re 6) ^^^ (rot32 re 11)) ^^^ (rot32 re 25))) ((re &&& rf) ^^^ ((not32 re) &&& rg))) (kN i) : Nat) : Int)), (.int .i64 ((i : Nat) : Int)), (.pointer (some ⟨nb ρ2 3, i, none⟩)), (.int .u32 ((wN X i : Nat) : Int)), (.int .u32 ((add32 (add32 (add32 (add32 rh (((rot32 re 6) ^^^ (rot32 re 11)) ^^^ (rot32 re 25))) ((re &&& rf) ^^^ ((not32 re) &&& rg))) (kN i)) (wN X i) : Nat) : Int)), (.int .u32 ((add32 (add32 (add32 (add32 rh (((rot32 re 6) ^^^ (rot32 re 11)) ^^^ (rot32 re 25))) ((re &&& rf) ^^^ ((not32 re) &&& rg))) (kN i)) (wN X i) : Nat) : Int))]) (fun _ => []) (cR [[], []] <| cC (fun _ w => rrotr_any re 6 (ho.2.2.2.2.1) (by decide) w) <| cR [[]] <| cC (fun _ w => rrotr_any re 11 (ho.2.2.2.2.1) (by decide) w) <| cA (v := fun ρ => (.int .u32 (bits .xor .u32 ((rot32 re 6 : Nat) : Int) ((rot32 re 11 : Nat) : Int)))) (fun _ => (.int .u32 (((rot32 re 6) ^^^ (rot32 re 11) : Nat) : Int))) (fun _ => congrArg (Value.int .u32) (xor32 (rot32_lt _ (ho.2.2.2.2.1)) (rot32_lt _ (ho.2.2.2.2.1)))) <| cR [[]] <| cC (fun _ w => rrotr_any re 25 (ho.2.2.2.2.1) (by decide) w) <| cA (v := fun ρ => (.int .u32 (bits .xor .u32 (((rot32 re 6) ^^^ (rot32 re 11) : Nat) : Int) ((rot32 re 25 : Nat) : Int)))) (fun _ => (.int .u32 ((((rot32 re 6) ^^^ (rot32 re 11)) ^^^ (rot32 re 25) : Nat) : Int))) (fun _ => congrArg (Value.int .u32) (xor32 (xor32_lt (rot32_lt _ (ho.2.2.2.2.1)) (rot32_lt _ (ho.2.2.2.2.1))) (rot32_lt _ (ho.2.2.2.2.1)))) <| cA (fun _ => (.int .u32 ((add32 rh (((rot32 re 6) ^^^ (rot32 re 11)) ^^^ (rot32 re 25)) : Nat) : Int))) (fun _ => congrArg (Value.int .u32) (wrap_add32 rh (((rot32 re 6) ^^^ (rot32 re 11)) ^^^ (rot32 re 25)))) <| cR [[], []] <| cA (fun _ => (.int .u32 ((re &&& rf : Nat) : Int))) (fun _ => congrArg (Value.int .u32) (and32 (ho.2.2.2.2.1) (ho.2.2.2.2.2.1))) <| cR [[]] <| cA (fun _ => (.int .u32 ((not32 re : Nat) : Int))) (fun _ => congrArg (Value.int .u32) (not_xor32 (ho.2.2.2.2.1))) <| cR [[]] <| cA (v := fun ρ => (.int .u32 (bits .and .u32 ((not32 re : Nat) : Int) ((rg : Nat) : Int)))) (fun _ => (.int .u32 (((not32 re) &&& rg : Nat) : Int))) (fun _ => congrArg (Value.int .u32) (and32 (not32_lt _) (ho.2.2.2.2.2.2.1))) <| cA (v := fun ρ => (.int .u32 (bits .xor .u32 ((re &&& rf : Nat) : Int) (((not32 re) &&& rg : Nat) : Int)))) (fun _ => (.int .u32 (((re &&& rf) ^^^ ((not32 re) &&& rg) : Nat) : Int))) (fun _ => congrArg (Value.int .u32) (xor32 (and32_lt _ (ho.2.2.2.2.1)) (and32_lt _ (not32_lt _)))) <| cA (fun _ => (.int .u32 ((add32 (add32 rh (((rot32 re 6) ^^^ (rot32 re 11)) ^^^ (rot32 re 25))) ((re &&& rf) ^^^ ((not32 re) &&& rg)) : Nat) : Int))) (fun _ => congrArg (Value.int .u32) (wrap_add32 (add32 rh (((rot32 re 6) ^^^ (rot32 re 11)) ^^^ (rot32 re 25))) ((re &&& rf) ^^^ ((not32 re) &&& rg)))) <| cR [[]] <| cX (o_sem _ (fun _ => do pure (Next.value (← Instr.indexAt 94 (pt (nb ρ2 4)) (.int .i64 ((i : Nat) : Int))))) (fun _ => (.pointer (some ⟨nb ρ2 4, i, none⟩))) (fun _ => by kernel_rfl) (fun _ => by kernel_rfl) (fun _ w => run_idx_nat (n := ((i : Nat) : Int)) (i := i) Tryz.underlying94 Tryz.sizeOf23 ((by have := of_decide_eq_true hb1; have := hi; omega)) w)) <| cX (o_ld _ 3 23 (fun _ => nb ρ2 4) (fun _ => i) (fun _ => (rowK .u32 64 kN)) 94 (0, 0) (fun _ => (.int .u32 ((kN i : Nat) : Int))) (fun _ => by kernel_rfl) Tryz.isAgg23 (fun _ => (kC_get (by have := of_decide_eq_true hb1; have := hi; omega)))) <| cA (fun _ => (.int .u32 ((add32 (add32 (add32 rh (((rot32 re 6) ^^^ (rot32 re 11)) ^^^ (rot32 re 25))) ((re &&& rf) ^^^ ((not32 re) &&& rg))) (kN i) : Nat) : Int))) (fun _ => congrArg (Value.int .u32) (wrap_add32 (add32 (add32 rh (((rot32 re 6) ^^^ (rot32 re 11)) ^^^ (rot32 re 25))) ((re &&& rf) ^^^ ((not32 re) &&& rg))) (kN i))) <| cR [[]] <| cX (o_sem _ (fun _ => do pure (Next.value (← Instr.indexAt 94 (pt (nb ρ2 3)) (.int .i64 ((i : Nat) : Int))))) (fun _ => (.pointer (some ⟨nb ρ2 3, i, none⟩))) (fun _ => by kernel_rfl) (fun _ => by kernel_rfl) (fun _ w => run_idx_nat (n := ((i : Nat) : Int)) (i := i) Tryz.underlying94 Tryz.sizeOf23 ((by have := of_decide_eq_true hb1; have := hi; omega)) w)) <| cX (o_ld _ 2 23 (fun _ => nb ρ2 3) (fun _ => i) (fun _ => (rowK .u32 64 (wN X))) 94 (0, 0) (fun _ => (.int .u32 ((wN X i : Nat) : Int))) (fun _ => by kernel_rfl) Tryz.isAgg23 (fun _ => (rowK_get (by have := of_decide_eq_true hb1; have := hi; omega)))) <| cA (fun _ => (.int .u32 ((add32 (add32 (add32 (add32 rh (((rot32 re 6) ^^^ (rot32 re 11)) ^^^ (rot32 re 25))) ((re &&& rf) ^^^ ((not32 re) &&& rg))) (kN i)) (wN X i) : Nat) : Int))) (fun _ => congrArg (Value.int .u32) (wrap_add32 (add32 (add32 (add32 rh (((rot32 re 6) ^^^ (rot32 re 11)) ^^^ (rot32 re 25))) ((re &&& rf) ^^^ ((not32 re) &&& rg))) (kN i)) (wN X i))) <| cR [[]] <| cN) (fun _ => ?_)
    refine sS Tryz.f108 21 [2, 4, 5, 6, 7, 8, 9, 10, 11, 12, 13, 14, 15, 16, 17] [] (fun _ => [(.int .u32 ((ra : Nat) : Int)), (.int .u32 ((rot32 ra 2 : Nat) : Int)), (.int .u32 ((ra : Nat) : Int)), (.int .u32 ((rot32 ra 13 : Nat) : Int)), (.int .u32 (((rot32 ra 2) ^^^ (rot32 ra 13) : Nat) : Int)), (.int .u32 ((ra : Nat) : Int)), (.int .u32 ((rot32 ra 22 : Nat) : Int)), (.int .u32 ((((rot32 ra 2) ^^^ (rot32 ra 13)) ^^^ (rot32 ra 22) : Nat) : Int)), (.int .u32 ((ra : Nat) : Int)), (.int .u32 ((rb : Nat) : Int)), (.int .u32 ((ra &&& rb : Nat) : Int)), (.int .u32 ((ra : Nat) : Int)), (.int .u32 ((rc : Nat) : Int)), (.int .u32 ((ra &&& rc : Nat) : Int)), (.int .u32 (((ra &&& rb) ^^^ (ra &&& rc) : Nat) : Int)), (.int .u32 ((rb : Nat) : Int)), (.int .u32 ((rc : Nat) : Int)), (.int .u32 ((rb &&& rc : Nat) : Int)), (.int .u32 ((((ra &&& rb) ^^^ (ra &&& rc)) ^^^ (rb &&& rc) : Nat) : Int)), (.int .u32 ((add32 (((rot32 ra 2) ^^^ (rot32 ra 13)) ^^^ (rot32 ra 22)) (((ra &&& rb) ^^^ (ra &&& rc)) ^^^ (rb &&& rc)) : Nat) : Int)), (.int .u32 ((add32 (((rot32 ra 2) ^^^ (rot32 ra 13)) ^^^ (rot32 ra 22)) (((ra &&& rb) ^^^ (ra &&& rc)) ^^^ (rb &&& rc)) : Nat) : Int))]) (fun _ => []) (cR [[]] <| cC (fun _ w => rrotr_any ra 2 (ho.1) (by decide) w) <| cR [[]] <| cC (fun _ w => rrotr_any ra 13 (ho.1) (by decide) w) <| cA (v := fun ρ => (.int .u32 (bits .xor .u32 ((rot32 ra 2 : Nat) : Int) ((rot32 ra 13 : Nat) : Int)))) (fun _ => (.int .u32 (((rot32 ra 2) ^^^ (rot32 ra 13) : Nat) : Int))) (fun _ => congrArg (Value.int .u32) (xor32 (rot32_lt _ (ho.1)) (rot32_lt _ (ho.1)))) <| cR [[]] <| cC (fun _ w => rrotr_any ra 22 (ho.1) (by decide) w) <| cA (v := fun ρ => (.int .u32 (bits .xor .u32 (((rot32 ra 2) ^^^ (rot32 ra 13) : Nat) : Int) ((rot32 ra 22 : Nat) : Int)))) (fun _ => (.int .u32 ((((rot32 ra 2) ^^^ (rot32 ra 13)) ^^^ (rot32 ra 22) : Nat) : Int))) (fun _ => congrArg (Value.int .u32) (xor32 (xor32_lt (rot32_lt _ (ho.1)) (rot32_lt _ (ho.1))) (rot32_lt _ (ho.1)))) <| cR [[], []] <| cA (fun _ => (.int .u32 ((ra &&& rb : Nat) : Int))) (fun _ => congrArg (Value.int .u32) (and32 (ho.1) (ho.2.1))) <| cR [[], []] <| cA (fun _ => (.int .u32 ((ra &&& rc : Nat) : Int))) (fun _ => congrArg (Value.int .u32) (and32 (ho.1) (ho.2.2.1))) <| cA (v := fun ρ => (.int .u32 (bits .xor .u32 ((ra &&& rb : Nat) : Int) ((ra &&& rc : Nat) : Int)))) (fun _ => (.int .u32 (((ra &&& rb) ^^^ (ra &&& rc) : Nat) : Int))) (fun _ => congrArg (Value.int .u32) (xor32 (and32_lt _ (ho.1)) (and32_lt _ (ho.1)))) <| cR [[], []] <| cA (fun _ => (.int .u32 ((rb &&& rc : Nat) : Int))) (fun _ => congrArg (Value.int .u32) (and32 (ho.2.1) (ho.2.2.1))) <| cA (v := fun ρ => (.int .u32 (bits .xor .u32 (((ra &&& rb) ^^^ (ra &&& rc) : Nat) : Int) ((rb &&& rc : Nat) : Int)))) (fun _ => (.int .u32 ((((ra &&& rb) ^^^ (ra &&& rc)) ^^^ (rb &&& rc) : Nat) : Int))) (fun _ => congrArg (Value.int .u32) (xor32 (xor32_lt (and32_lt _ (ho.1)) (and32_lt _ (ho.1))) (and32_lt _ (ho.2.1)))) <| cA (fun _ => (.int .u32 ((add32 (((rot32 ra 2) ^^^ (rot32 ra 13)) ^^^ (rot32 ra 22)) (((ra &&& rb) ^^^ (ra &&& rc)) ^^^ (rb &&& rc)) : Nat) : Int))) (fun _ => congrArg (Value.int .u32) (wrap_add32 (((rot32 ra 2) ^^^ (rot32 ra 13)) ^^^ (rot32 ra 22)) (((ra &&& rb) ^^^ (ra &&& rc)) ^^^ (rb &&& rc)))) <| cR [[]] <| cN) (fun _ => ?_)
    refine rS Tryz.f108 20 [2, 4, 5, 6, 7, 8, 9, 10, 11, 12, 13, 14, 15] [] (fun _ => [(.int .u32 ((rg : Nat) : Int)), (.int .u32 ((rf : Nat) : Int)), (.int .u32 ((re : Nat) : Int)), (.int .u32 ((rd : Nat) : Int)), (.int .u32 ((add32 (add32 (add32 (add32 rh (((rot32 re 6) ^^^ (rot32 re 11)) ^^^ (rot32 re 25))) ((re &&& rf) ^^^ ((not32 re) &&& rg))) (kN i)) (wN X i) : Nat) : Int)), (.int .u32 ((add32 rd (add32 (add32 (add32 (add32 rh (((rot32 re 6) ^^^ (rot32 re 11)) ^^^ (rot32 re 25))) ((re &&& rf) ^^^ ((not32 re) &&& rg))) (kN i)) (wN X i)) : Nat) : Int)), (.int .u32 ((rc : Nat) : Int)), (.int .u32 ((rb : Nat) : Int)), (.int .u32 ((ra : Nat) : Int)), (.int .u32 ((add32 (add32 (add32 (add32 rh (((rot32 re 6) ^^^ (rot32 re 11)) ^^^ (rot32 re 25))) ((re &&& rf) ^^^ ((not32 re) &&& rg))) (kN i)) (wN X i) : Nat) : Int)), (.int .u32 ((add32 (((rot32 ra 2) ^^^ (rot32 ra 13)) ^^^ (rot32 ra 22)) (((ra &&& rb) ^^^ (ra &&& rc)) ^^^ (rb &&& rc)) : Nat) : Int)), (.int .u32 ((add32 (add32 (add32 (add32 (add32 rh (((rot32 re 6) ^^^ (rot32 re 11)) ^^^ (rot32 re 25))) ((re &&& rf) ^^^ ((not32 re) &&& rg))) (kN i)) (wN X i)) (add32 (((rot32 ra 2) ^^^ (rot32 ra 13)) ^^^ (rot32 ra 22)) (((ra &&& rb) ^^^ (ra &&& rc)) ^^^ (rb &&& rc))) : Nat) : Int)), (.int .u32 ((rg : Nat) : Int)), (.int .u32 ((rf : Nat) : Int)), (.int .u32 ((re : Nat) : Int)), (.int .u32 ((add32 rd (add32 (add32 (add32 (add32 rh (((rot32 re 6) ^^^ (rot32 re 11)) ^^^ (rot32 re 25))) ((re &&& rf) ^^^ ((not32 re) &&& rg))) (kN i)) (wN X i)) : Nat) : Int)), (.int .u32 ((rc : Nat) : Int)), (.int .u32 ((rb : Nat) : Int)), (.int .u32 ((ra : Nat) : Int)), (.int .u32 ((add32 (add32 (add32 (add32 (add32 rh (((rot32 re 6) ^^^ (rot32 re 11)) ^^^ (rot32 re 25))) ((re &&& rf) ^^^ ((not32 re) &&& rg))) (kN i)) (wN X i)) (add32 (((rot32 ra 2) ^^^ (rot32 ra 13)) ^^^ (rot32 ra 22)) (((ra &&& rb) ^^^ (ra &&& rc)) ^^^ (rb &&& rc))) : Nat) : Int))]) (fun _ => []) (cR [[], [], [], [], []] <| cA (fun _ => (.int .u32 ((add32 rd (add32 (add32 (add32 (add32 rh (((rot32 re 6) ^^^ (rot32 re 11)) ^^^ (rot32 re 25))) ((re &&& rf) ^^^ ((not32 re) &&& rg))) (kN i)) (wN X i)) : Nat) : Int))) (fun _ => congrArg (Value.int .u32) (wrap_add32 rd (add32 (add32 (add32 (add32 rh (((rot32 re 6) ^^^ (rot32 re 11)) ^^^ (rot32 re 25))) ((re &&& rf) ^^^ ((not32 re) &&& rg))) (kN i)) (wN X i)))) <| cR [[], [], [], [], []] <| cA (fun _ => (.int .u32 ((add32 (add32 (add32 (add32 (add32 rh (((rot32 re 6) ^^^ (rot32 re 11)) ^^^ (rot32 re 25))) ((re &&& rf) ^^^ ((not32 re) &&& rg))) (kN i)) (wN X i)) (add32 (((rot32 ra 2) ^^^ (rot32 ra 13)) ^^^ (rot32 ra 22)) (((ra &&& rb) ^^^ (ra &&& rc)) ^^^ (rb &&& rc))) : Nat) : Int))) (fun _ => congrArg (Value.int .u32) (wrap_add32 (add32 (add32 (add32 (add32 rh (((rot32 re 6) ^^^ (rot32 re 11)) ^^^ (rot32 re 25))) ((re &&& rf) ^^^ ((not32 re) &&& rg))) (kN i)) (wN X i)) (add32 (((rot32 ra 2) ^^^ (rot32 ra 13)) ^^^ (rot32 ra 22)) (((ra &&& rb) ^^^ (ra &&& rc)) ^^^ (rb &&& rc))))) <| cR [[], [], [], [], [], [], [], []] <| cN) (fun _ => ?_)
    refine mt_block_n ?_
    refine mt_then ?_
    refine rS Tryz.f108 3 [2, 4, 5, 6, 7, 8, 9, 10, 11, 12, 13, 14, 15] [] (fun _ => [(.int .i64 ((i : Nat) : Int)), (.int .i64 ((i + 1 : Nat) : Int)), (.int .i64 ((i + 1 : Nat) : Int))]) (fun _ => []) (cR [[]] <| cA (v := fun ρ => (.int .i64 (IntKind.i64.wrap (((i : Nat) : Int) + 1)))) (fun _ => (.int .i64 ((i + 1 : Nat) : Int))) (fun _ => congrArg (Value.int .i64) (wrap_addN i 1 (by have := of_decide_eq_true hb1; have := hi; omega))) <| cR [[]] <| cN) (fun _ => ?_)
    exact mN (i + 1, add32 (add32 (add32 (add32 (add32 rh (((rot32 re 6) ^^^ (rot32 re 11)) ^^^ (rot32 re 25))) ((re &&& rf) ^^^ ((not32 re) &&& rg))) (kN i)) (wN X i)) (add32 (((rot32 ra 2) ^^^ (rot32 ra 13)) ^^^ (rot32 ra 22)) (((ra &&& rb) ^^^ (ra &&& rc)) ^^^ (rb &&& rc))), ra, rb, rc, add32 rd (add32 (add32 (add32 (add32 rh (((rot32 re 6) ^^^ (rot32 re 11)) ^^^ (rot32 re 25))) ((re &&& rf) ^^^ ((not32 re) &&& rg))) (kN i)) (wN X i)), re, rf, rg) (by show 64 - (i + 1) < 64 - i; have := of_decide_eq_true hb1; have := hi; omega) (⟨(by have := of_decide_eq_true hb1; have := hi; omega), rnds_next hr⟩) []
  ·
    rw [hb1]
    refine ok_exit ?_
    refine mt_then_e ?_
    refine mt_then_e ?_
    refine mt_block_h ?_
    refine mt_then ?_
    refine sS Tryz.f108 34 [4] [0, 1, 0, 0] (fun _ => [(pt (nb ρ1 0)), (.int .u32 ((s0 : Nat) : Int)), (.int .u32 ((ra : Nat) : Int)), (.int .u32 ((add32 s0 ra : Nat) : Int)), (.pointer (some ⟨nb ρ1 0, 1, none⟩)), (.int .u32 ((s1 : Nat) : Int)), (.int .u32 ((rb : Nat) : Int)), (.int .u32 ((add32 s1 rb : Nat) : Int)), (.pointer (some ⟨nb ρ1 0, 2, none⟩)), (.int .u32 ((s2 : Nat) : Int)), (.int .u32 ((rc : Nat) : Int)), (.int .u32 ((add32 s2 rc : Nat) : Int)), (.pointer (some ⟨nb ρ1 0, 3, none⟩)), (.int .u32 ((s3 : Nat) : Int)), (.int .u32 ((rd : Nat) : Int)), (.int .u32 ((add32 s3 rd : Nat) : Int)), (.pointer (some ⟨nb ρ1 0, 4, none⟩)), (.int .u32 ((s4 : Nat) : Int)), (.int .u32 ((re : Nat) : Int)), (.int .u32 ((add32 s4 re : Nat) : Int)), (.pointer (some ⟨nb ρ1 0, 5, none⟩)), (.int .u32 ((s5 : Nat) : Int)), (.int .u32 ((rf : Nat) : Int)), (.int .u32 ((add32 s5 rf : Nat) : Int)), (.pointer (some ⟨nb ρ1 0, 6, none⟩)), (.int .u32 ((s6 : Nat) : Int)), (.int .u32 ((rg : Nat) : Int)), (.int .u32 ((add32 s6 rg : Nat) : Int)), (.pointer (some ⟨nb ρ1 0, 7, none⟩)), (.int .u32 ((s7 : Nat) : Int)), (.int .u32 ((rh : Nat) : Int)), (.int .u32 ((add32 s7 rh : Nat) : Int)), (.agg #[(.int .u32 ((add32 s0 ra : Nat) : Int)), (.int .u32 ((add32 s1 rb : Nat) : Int)), (.int .u32 ((add32 s2 rc : Nat) : Int)), (.int .u32 ((add32 s3 rd : Nat) : Int)), (.int .u32 ((add32 s4 re : Nat) : Int)), (.int .u32 ((add32 s5 rf : Nat) : Int)), (.int .u32 ((add32 s6 rg : Nat) : Int)), (.int .u32 ((add32 s7 rh : Nat) : Int))]), undef]) (fun _ => [(33, { puts := [(1, nb ρ1 2, (.cells #[(.int .u32 ((add32 s0 ra : Nat) : Int)), (.int .u32 ((add32 s1 rb : Nat) : Int)), (.int .u32 ((add32 s2 rc : Nat) : Int)), (.int .u32 ((add32 s3 rd : Nat) : Int)), (.int .u32 ((add32 s4 re : Nat) : Int)), (.int .u32 ((add32 s5 rf : Nat) : Int)), (.int .u32 ((add32 s6 rg : Nat) : Int)), (.int .u32 ((add32 s7 rh : Nat) : Int))] 89 (0, 0)))] })]) (cR [[], [0], []] <| cA (fun _ => (.int .u32 ((add32 s0 ra : Nat) : Int))) (fun _ => congrArg (Value.int .u32) (wrap_add32 s0 ra)) <| cR [[], [0], []] <| cA (fun _ => (.int .u32 ((add32 s1 rb : Nat) : Int))) (fun _ => congrArg (Value.int .u32) (wrap_add32 s1 rb)) <| cR [[], [0], []] <| cA (fun _ => (.int .u32 ((add32 s2 rc : Nat) : Int))) (fun _ => congrArg (Value.int .u32) (wrap_add32 s2 rc)) <| cR [[], [0], []] <| cA (fun _ => (.int .u32 ((add32 s3 rd : Nat) : Int))) (fun _ => congrArg (Value.int .u32) (wrap_add32 s3 rd)) <| cR [[], [0], []] <| cA (fun _ => (.int .u32 ((add32 s4 re : Nat) : Int))) (fun _ => congrArg (Value.int .u32) (wrap_add32 s4 re)) <| cR [[], [0], []] <| cA (fun _ => (.int .u32 ((add32 s5 rf : Nat) : Int))) (fun _ => congrArg (Value.int .u32) (wrap_add32 s5 rf)) <| cR [[], [0], []] <| cA (fun _ => (.int .u32 ((add32 s6 rg : Nat) : Int))) (fun _ => congrArg (Value.int .u32) (wrap_add32 s6 rg)) <| cR [[], [0], []] <| cA (fun _ => (.int .u32 ((add32 s7 rh : Nat) : Int))) (fun _ => congrArg (Value.int .u32) (wrap_add32 s7 rh)) <| cR [[], [1]] <| cN) (fun _ => ?_)
    refine ok_ret ?_
    exact mR (v := (.agg #[(.int .u32 ((add32 s0 ra : Nat) : Int)), (.int .u32 ((add32 s1 rb : Nat) : Int)), (.int .u32 ((add32 s2 rc : Nat) : Int)), (.int .u32 ((add32 s3 rd : Nat) : Int)), (.int .u32 ((add32 s4 re : Nat) : Int)), (.int .u32 ((add32 s5 rf : Nat) : Int)), (.int .u32 ((add32 s6 rg : Nat) : Int)), (.int .u32 ((add32 s7 rh : Nat) : Int))])) (fun _ hS => ⟨congrArg Ending.returned ((by rw [cmp_end hr (show i = 64 by have := of_decide_eq_false hb1; have := hi; omega)])), hS.bel⟩)

theorem rinitial_any  (w0 : World) : Calls Tryz.prog 107 #[] w0 (fun ε w' => ε = .returned (.agg #[(.int .u32 1779033703), (.int .u32 3144134277), (.int .u32 1013904242), (.int .u32 2773480762), (.int .u32 1359893119), (.int .u32 2600822924), (.int .u32 528734635), (.int .u32 1541459225)]) ∧ Below w0.heap.size w0 w') := by
  refine Calls.of_ok (n := 2) (F := (fun _ => True)) Tryz.func107 rfl rfl rfl (by simp) (persTrue (fun _ => trivial)) ?_
  refine sS Tryz.f107 1 [0] [] (fun ρ => [(pt (nb ρ 0))]) (fun ρ => [(0, { news := [(nb ρ 0, (.cells #[(.int .u32 0), (.int .u32 0), (.int .u32 0), (.int .u32 0), (.int .u32 0), (.int .u32 0), (.int .u32 0), (.int .u32 0)] 89 (0, 0)))] })]) (cR [[]] <| cN) (fun ρ1 => ?_)
  refine sS Tryz.f107 2 [0] [] (fun _ => [(.agg #[(.int .u32 1779033703), (.int .u32 3144134277), (.int .u32 1013904242), (.int .u32 2773480762), (.int .u32 1359893119), (.int .u32 2600822924), (.int .u32 528734635), (.int .u32 1541459225)]), undef]) (fun _ => [(1, { puts := [(0, nb ρ1 0, (.cells #[(.int .u32 1779033703), (.int .u32 3144134277), (.int .u32 1013904242), (.int .u32 2773480762), (.int .u32 1359893119), (.int .u32 2600822924), (.int .u32 528734635), (.int .u32 1541459225)] 89 (0, 0)))] })]) (cR [[], [0]] <| cN) (fun _ => ?_)
  refine ok_ret ?_
  exact mR (v := (.agg #[(.int .u32 1779033703), (.int .u32 3144134277), (.int .u32 1013904242), (.int .u32 2773480762), (.int .u32 1359893119), (.int .u32 2600822924), (.int .u32 528734635), (.int .u32 1541459225)])) (fun _ hS => ⟨rfl, hS.bel⟩)
end Go.Proofs.YtjdhjkceahaegaaGreatDoor

/-! SHA-256: digests: the walks. -/
namespace Go.Proofs.YtjdhjkceahaegaaGreatDoor
open Go Go.RowKit

theorem rsum_any (a : Option Addr) (c : Nat) (B : List UInt8) (h0 : 0 < B.length) (hl : B.length + 73 ≤ 140737488351232) (w0 : World) (hf0 : Bs w0 a c B) : Calls Tryz.prog 88 #[(.slice a (B).length c)] w0 (fun ε w' => ε = .returned (.agg (hB (shaN B))) ∧ Below w0.heap.size w0 w') := by
  refine Calls.of_ok (n := 66) (F := (fun w => Bs w a c B ∧ True)) Tryz.func88 rfl rfl rfl (by simp) (hf0.pers0.and persT) ?_
  refine sS Tryz.f88 1 [0, 2] [] (fun ρ => [(pt (nb ρ 0))]) (fun ρ => [(0, { news := [(nb ρ 0, (.cells (hB 0) 31 (0, 0)))] })]) (cR [[]] <| cN) (fun ρ1 => ?_)
  refine sSf Tryz.f88 8 [2, 3] [] (fun ρ => [(.slice a (B).length c), (.slice (some ⟨nb ρ 1, 0, none⟩) (B).length ((B).length + nb2 ρ 1)), (.slice a (B).length c), (.int .i64 (((B).length : Nat) : Int)), (.int .u64 (((B).length : Nat) : Int)), (.slice (oa ρ 5) (padN ((B).length)).length (nb ρ 5)), (.slice (some ⟨nb ρ 6, 0, none⟩) (B ++ (padN ((B).length))).length (nb2 ρ 6)), (.slice (some ⟨nb ρ 6, 0, none⟩) (B ++ (padN ((B).length))).length (nb2 ρ 6))]) (fun ρ => [(1, { news := [(nb ρ 1, (.cells ((bs B).toArray ++ zB (nb2 ρ 1)) 5 (0, 0)))] }), (6, { puts := [(9, nb ρ 6, (.cells (oc ρ 6) 5 (0, 0)))] })]) (fun ρ => [(5, fun w => Fs w0 w (oa ρ 5) (nb ρ 5) (padN ((B).length))), (6, fun w => Ap (oc ρ 6) (B ++ (padN ((B).length))) (nb2 ρ 6))]) (fun ρ => (fun w => Bs w a c B ∧ Fs w0 w (oa ρ 5) (nb ρ 5) (padN ((B).length)) ∧ True)) (fun ρ => Ap (oc ρ 6) (B ++ (padN ((B).length))) (nb2 ρ 6)) (fun _ _ hF hf => ⟨⟨hF.1, hf 5, trivial⟩, hf 6⟩) (cR [[]] <| cX (o_new1 _ (fun _ => do pure (Next.value (← Builtin.append_ #[43, 43] 43 #[(.slice none 0 0), (.slice a (B).length c)]))) (fun _ z => (.slice (some ⟨z.headD 0, 0, none⟩) (B).length ((B).length + z.tail.headD 0))) (fun _ z => (.cells ((bs B).toArray ++ zB (z.tail.headD 0)) 5 (0, 0))) (fun _ _ => (by kernel_rfl)) (fun _ => (by kernel_rfl)) (fun _ _ => trivial) (fun _ _ _ hG => app_nilL Tryz.underlying43 u8i (Bs.src (tx := 43) Tryz.underlying43 hG.facts0.now.1) (h0) ((by have := hl; have := msg_len B; have := zeros_lt B.length; omega)))) <| cR [[], []] <| cA (v := fun ρ => (.int .u64 (IntKind.u64.wrap ((((B).length : Nat) : Int))))) (fun _ => (.int .u64 (((B).length : Nat) : Int))) (fun _ => congrArg (Value.int .u64) (u64N (by have := hl; have := msg_len B; have := zeros_lt B.length; omega))) <| cX (o_callB _ 106 (fun _ => #[(.int .u64 (((B).length : Nat) : Int))]) (fun _ α κ => (.slice α (padN ((B).length)).length κ)) (fun _ => padN ((B).length)) (fun _ _ => (by kernel_rfl)) (fun _ _ => (by kernel_rfl)) (fun _ _ => (by kernel_rfl)) (fun _ _ => (by kernel_rfl)) (fun _ _ w _ => rpad_any ((B).length) (by have := hl; have := msg_len B; have := zeros_lt B.length; omega) w )) <| cX (o_move1 _ 9 (fun ρ => do pure (Next.value (← Builtin.append_ #[43, 43] 43 #[(.slice (some ⟨nb ρ 1, 0, none⟩) (B).length ((B).length + nb2 ρ 1)), (.slice (oa ρ 5) (padN ((B).length)).length (nb ρ 5))]))) (fun ρ => nb ρ 1) (fun ρ => (.cells ((bs B).toArray ++ zB (nb2 ρ 1)) 5 (0, 0))) (fun _ r => (.cells (orcC r) 5 (0, 0))) (fun _ r => (.slice (some ⟨r.n.headD 0, 0, none⟩) (B ++ (padN ((B).length))).length (r.n.tail.headD 0))) (fun _ r => Ap (orcC r) (B ++ (padN ((B).length))) (r.n.tail.headD 0)) (fun _ _ => (by kernel_rfl)) (fun _ => (by kernel_rfl)) (fun _ => (by kernel_rfl)) (fun _ => (by kernel_rfl)) (fun _ _ => (by kernel_rfl)) (fun ρ _ w hG hg => app_any Tryz.underlying43 u8i (Ap.mk' (Hd.fresh _ _) (Nat.le_add_right _ _) (by have := hl; have := msg_len B; have := zeros_lt B.length; omega) (fresh_size _ _)) (Bs.src (tx := 43) Tryz.underlying43 (show Fs w0 w (oa ρ 5) (nb ρ 5) (padN ((B).length)) from (hG.facts 5 rfl).now).1) ((by have := pad_length B.length; have := zeros_lt B.length; have := hl; omega)) hg)) <| cR [[]] <| cN) (fun ρ2 ap2_6 => ?_)
  refine sS Tryz.f88 3 [2, 3, 4] [] (fun ρ => [(.agg #[(.int .u32 1779033703), (.int .u32 3144134277), (.int .u32 1013904242), (.int .u32 2773480762), (.int .u32 1359893119), (.int .u32 2600822924), (.int .u32 528734635), (.int .u32 1541459225)]), (pt (nb ρ 1)), undef]) (fun ρ => [(1, { news := [(nb ρ 1, (.cells #[(.int .u32 0), (.int .u32 0), (.int .u32 0), (.int .u32 0), (.int .u32 0), (.int .u32 0), (.int .u32 0), (.int .u32 0)] 89 (0, 0)))] }), (2, { puts := [(10, nb ρ 1, (.cells #[(.int .u32 1779033703), (.int .u32 3144134277), (.int .u32 1013904242), (.int .u32 2773480762), (.int .u32 1359893119), (.int .u32 2600822924), (.int .u32 528734635), (.int .u32 1541459225)] 89 (0, 0)))] })]) (cC (fun _ w => rinitial_any w) <| cR [[], [10]] <| cN) (fun ρ3 => ?_)
  refine ok_seq ?_
  refine sS Tryz.f88 1 [2, 3, 4, 5] [] (fun _ => [(.int .i64 0)]) (fun _ => []) (cR [[]] <| cN) (fun _ => ?_)
  refine ok_block ?_
  refine oL (σ := Nat × Nat × Nat × Nat × Nat × Nat × Nat × Nat × Nat) (fun ⟨i, _, _, _, _, _, _, _, _⟩ => [(2, (pt (nb ρ1 0))), (3, (.slice (some ⟨nb ρ2 6, 0, none⟩) (B ++ (padN ((B).length))).length (nb2 ρ2 6))), (4, (pt (nb ρ3 1))), (5, (.int .i64 ((64 * i : Nat) : Int)))]) (fun ⟨_, t0, t1, t2, t3, t4, t5, t6, t7⟩ => [(nb ρ1 0, (.cells (hB 0) 31 (0, 0))), (nb ρ2 6, (.cells (oc ρ2 6) 5 (0, 0))), (nb ρ3 1, (.cells #[(.int .u32 ((t0 : Nat) : Int)), (.int .u32 ((t1 : Nat) : Int)), (.int .u32 ((t2 : Nat) : Int)), (.int .u32 ((t3 : Nat) : Int)), (.int .u32 ((t4 : Nat) : Int)), (.int .u32 ((t5 : Nat) : Int)), (.int .u32 ((t6 : Nat) : Int)), (.int .u32 ((t7 : Nat) : Int))] 89 (0, 0)))]) (fun ⟨i, _, _, _, _, _, _, _, _⟩ => (B ++ (padN ((B).length))).length / 64 - i)
    (fun ⟨i, t0, t1, t2, t3, t4, t5, t6, t7⟩ => (i ≤ (B ++ (padN ((B).length))).length / 64) ∧ (shaS (B ++ (padN ((B).length))) i = (t0, t1, t2, t3, t4, t5, t6, t7))) (0, 1779033703, 3144134277, 1013904242, 2773480762, 1359893119, 2600822924, 528734635, 1541459225) (⟨Nat.zero_le _, rfl⟩) [] ?_
  rintro ⟨i, t0, t1, t2, t3, t4, t5, t6, t7⟩ ⟨hi, hQ⟩
  change Ok Tryz.prog _ _ 66 [(2, (pt (nb ρ1 0))), (3, (.slice (some ⟨nb ρ2 6, 0, none⟩) (B ++ (padN ((B).length))).length (nb2 ρ2 6))), (4, (pt (nb ρ3 1))), (5, (.int .i64 ((64 * i : Nat) : Int)))] _ [(nb ρ1 0, (.cells (hB 0) 31 (0, 0))), (nb ρ2 6, (.cells (oc ρ2 6) 5 (0, 0))), (nb ρ3 1, (.cells #[(.int .u32 ((t0 : Nat) : Int)), (.int .u32 ((t1 : Nat) : Int)), (.int .u32 ((t2 : Nat) : Int)), (.int .u32 ((t3 : Nat) : Int)), (.int .u32 ((t4 : Nat) : Int)), (.int .u32 ((t5 : Nat) : Int)), (.int .u32 ((t6 : Nat) : Int)), (.int .u32 ((t7 : Nat) : Int))] 89 (0, 0)))] (fun w => Bs w a c B ∧ Fs w0 w (oa ρ2 5) (nb ρ2 5) (padN ((B).length)) ∧ True)
  refine ok_seq ?_
  refine sS Tryz.f88 5 [2, 3, 4, 5, 22] [] (fun _ => [(.int .i64 ((64 * i : Nat) : Int)), (.int .i64 ((64 * (i + 1) : Nat) : Int)), (.slice (some ⟨nb ρ2 6, 0, none⟩) (B ++ (padN ((B).length))).length (nb2 ρ2 6)), (.int .i64 (((B ++ (padN ((B).length))).length : Nat) : Int)), (.bool (decide (((64 * (i + 1) : Nat) : Int) ≤ (((B ++ (padN ((B).length))).length : Nat) : Int))))]) (fun _ => []) (cR [[]] <| cA (v := fun ρ => (.int .i64 (IntKind.i64.wrap (((64 * i : Nat) : Int) + 64)))) (fun _ => (.int .i64 ((64 * (i + 1) : Nat) : Int))) (fun _ => congrArg (Value.int .i64) ((i64N (by have := hl; have := msg_len B; have := zeros_lt B.length; have := hi; omega)).trans (by omega))) <| cR [[], [], []] <| cN) (fun _ => ?_)
  refine oC (decide (((64 * (i + 1) : Nat) : Int) ≤ (((B ++ (padN ((B).length))).length : Nat) : Int))) (fun hb1 => ?_) (fun hb1 => ?_)
  ·
    rw [hb1]
    refine ok_skip ?_
    refine mt_then ?_
    refine ok_seq ?_
    refine ok_block ?_
    refine sS Tryz.f88 1 [2, 3, 4, 5, 6] [] (fun ρ => [(pt (nb ρ 0))]) (fun ρ => [(0, { news := [(nb ρ 0, (.cells (rowK .u8 64 (fun _ => 0)) 77 (0, 0)))] })]) (cR [[]] <| cN) (fun ρ6 => ?_)
    refine sD Tryz.f88 [0, 0, 0, 6, 15] 5 [2, 3, 4, 5, 6] [] (fun _ => [(.slice (some ⟨nb ρ6 0, 0, none⟩) 64 64), (.slice (some ⟨nb ρ2 6, 0, none⟩) (B ++ (padN ((B).length))).length (nb2 ρ2 6)), (.int .i64 ((64 * i : Nat) : Int)), (.slice (sadr (some ⟨nb ρ2 6, 0, none⟩) (64 * i) (nb2 ρ2 6)) (mid (B ++ (padN ((B).length))) (64 * i) ((B ++ (padN ((B).length))).length)).length ((nb2 ρ2 6) - (64 * i))), (.int .i64 ((Nat.min (mid (B ++ (padN ((B).length))) (64 * i) ((B ++ (padN ((B).length))).length)).length 64 : Nat) : Int))]) (fun _ => [(4, { puts := [(3, nb ρ6 0, (.cells ((bs ((mid (B ++ (padN ((B).length))) (64 * i) ((B ++ (padN ((B).length))).length)).take 64)).toArray) 77 (0, 0)))] })]) (cR [[], [], []] <| cX (o_semF _ (fun _ => do pure (Next.value (← Instr.sliceAt 43 (.slice (some ⟨nb ρ2 6, 0, none⟩) (B ++ (padN ((B).length))).length (nb2 ρ2 6)) (some (.int .i64 ((64 * i : Nat) : Int))) none none))) (fun _ => (.slice (sadr (some ⟨nb ρ2 6, 0, none⟩) (64 * i) (nb2 ρ2 6)) (mid (B ++ (padN ((B).length))) (64 * i) ((B ++ (padN ((B).length))).length)).length ((nb2 ρ2 6) - (64 * i)))) (fun _ => (by kernel_rfl)) (fun _ => (by kernel_rfl)) (fun _ _ _ hG => slice_bytes (l := 64 * i) (k := (B ++ (padN ((B).length))).length) Tryz.underlying43 u8i (Bs.of_hd (hG.known (g := nb ρ2 6) (o := (.cells (oc ρ2 6) 5 (0, 0))) 1 (by kernel_rfl) (by kernel_rfl)) ap2_6.hd ap2_6.le ap2_6.max) rfl (Or.inr (congrArg (fun z => some (Value.int .i64 z)) (rfl))) (Or.inl ⟨rfl, rfl⟩) ((by have := of_decide_eq_true hb1; have := hl; have := msg_len B; have := zeros_lt B.length; have := hi; omega)) ((Nat.le_refl _))) (fun _ _ _ _ => persT)) <| cX (o_put1 _ 3 (fun _ => do pure (Next.value (← Builtin.copy_ #[43, 43] 3 #[(.slice (some ⟨nb ρ6 0, 0, none⟩) 64 64), (.slice (sadr (some ⟨nb ρ2 6, 0, none⟩) (64 * i) (nb2 ρ2 6)) (mid (B ++ (padN ((B).length))) (64 * i) ((B ++ (padN ((B).length))).length)).length ((nb2 ρ2 6) - (64 * i)))]))) (fun _ => nb ρ6 0) (fun _ => (.cells (rowK .u8 64 (fun _ => 0)) 77 (0, 0))) (fun _ => (.cells ((bs ((mid (B ++ (padN ((B).length))) (64 * i) ((B ++ (padN ((B).length))).length)).take 64)).toArray) 77 (0, 0))) (fun _ => (.int .i64 ((Nat.min (mid (B ++ (padN ((B).length))) (64 * i) ((B ++ (padN ((B).length))).length)).length 64 : Nat) : Int))) (fun _ => (by kernel_rfl)) (fun _ => (by kernel_rfl)) (fun _ => (by kernel_rfl)) (fun _ => (by kernel_rfl)) (fun _ _ => trivial) (fun _ _ _ hG hg => (by as_aux_lemma => (rw [← copy_arr (C := (rowK .u8 64 (fun _ => 0))) (rowK_size _ _ _) ((by rw [mid_length _ _ _ (Nat.le_refl _)]; have := of_decide_eq_true hb1; have := hl; have := msg_len B; have := zeros_lt B.length; have := hi; omega))]; exact copy_row Tryz.underlying43 u8i hg ((Bs.of_hd (hG.known (g := nb ρ2 6) (o := (.cells (oc ρ2 6) 5 (0, 0))) 1 (by kernel_rfl) (by kernel_rfl)) ap2_6.hd ap2_6.le ap2_6.max).mid ((by have := of_decide_eq_true hb1; have := hl; have := msg_len B; have := zeros_lt B.length; have := hi; omega)) ((Nat.le_refl _))) rfl (Nat.le_of_eq (rowK_size _ 64 _).symm))))) <| cN) (fun _ => ?_)
    refine rS Tryz.f88 4 [2, 3, 4, 5] [1, 1, 1, 0] (fun _ => [(.agg #[(.int .u32 ((t0 : Nat) : Int)), (.int .u32 ((t1 : Nat) : Int)), (.int .u32 ((t2 : Nat) : Int)), (.int .u32 ((t3 : Nat) : Int)), (.int .u32 ((t4 : Nat) : Int)), (.int .u32 ((t5 : Nat) : Int)), (.int .u32 ((t6 : Nat) : Int)), (.int .u32 ((t7 : Nat) : Int))]), (.agg ((bs ((mid (B ++ (padN ((B).length))) (64 * i) ((B ++ (padN ((B).length))).length)).take 64)).toArray)), (.agg #[(.int .u32 (((cmpS (t0, t1, t2, t3, t4, t5, t6, t7) ((mid (B ++ (padN ((B).length))) (64 * i) ((B ++ (padN ((B).length))).length)).take 64)).1 : Nat) : Int)), (.int .u32 (((cmpS (t0, t1, t2, t3, t4, t5, t6, t7) ((mid (B ++ (padN ((B).length))) (64 * i) ((B ++ (padN ((B).length))).length)).take 64)).2.1 : Nat) : Int)), (.int .u32 (((cmpS (t0, t1, t2, t3, t4, t5, t6, t7) ((mid (B ++ (padN ((B).length))) (64 * i) ((B ++ (padN ((B).length))).length)).take 64)).2.2.1 : Nat) : Int)), (.int .u32 (((cmpS (t0, t1, t2, t3, t4, t5, t6, t7) ((mid (B ++ (padN ((B).length))) (64 * i) ((B ++ (padN ((B).length))).length)).take 64)).2.2.2.1 : Nat) : Int)), (.int .u32 (((cmpS (t0, t1, t2, t3, t4, t5, t6, t7) ((mid (B ++ (padN ((B).length))) (64 * i) ((B ++ (padN ((B).length))).length)).take 64)).2.2.2.2.1 : Nat) : Int)), (.int .u32 (((cmpS (t0, t1, t2, t3, t4, t5, t6, t7) ((mid (B ++ (padN ((B).length))) (64 * i) ((B ++ (padN ((B).length))).length)).take 64)).2.2.2.2.2.1 : Nat) : Int)), (.int .u32 (((cmpS (t0, t1, t2, t3, t4, t5, t6, t7) ((mid (B ++ (padN ((B).length))) (64 * i) ((B ++ (padN ((B).length))).length)).take 64)).2.2.2.2.2.2.1 : Nat) : Int)), (.int .u32 (((cmpS (t0, t1, t2, t3, t4, t5, t6, t7) ((mid (B ++ (padN ((B).length))) (64 * i) ((B ++ (padN ((B).length))).length)).take 64)).2.2.2.2.2.2.2 : Nat) : Int))]), undef]) (fun _ => [(3, { puts := [(2, nb ρ3 1, (.cells #[(.int .u32 (((cmpS (t0, t1, t2, t3, t4, t5, t6, t7) ((mid (B ++ (padN ((B).length))) (64 * i) ((B ++ (padN ((B).length))).length)).take 64)).1 : Nat) : Int)), (.int .u32 (((cmpS (t0, t1, t2, t3, t4, t5, t6, t7) ((mid (B ++ (padN ((B).length))) (64 * i) ((B ++ (padN ((B).length))).length)).take 64)).2.1 : Nat) : Int)), (.int .u32 (((cmpS (t0, t1, t2, t3, t4, t5, t6, t7) ((mid (B ++ (padN ((B).length))) (64 * i) ((B ++ (padN ((B).length))).length)).take 64)).2.2.1 : Nat) : Int)), (.int .u32 (((cmpS (t0, t1, t2, t3, t4, t5, t6, t7) ((mid (B ++ (padN ((B).length))) (64 * i) ((B ++ (padN ((B).length))).length)).take 64)).2.2.2.1 : Nat) : Int)), (.int .u32 (((cmpS (t0, t1, t2, t3, t4, t5, t6, t7) ((mid (B ++ (padN ((B).length))) (64 * i) ((B ++ (padN ((B).length))).length)).take 64)).2.2.2.2.1 : Nat) : Int)), (.int .u32 (((cmpS (t0, t1, t2, t3, t4, t5, t6, t7) ((mid (B ++ (padN ((B).length))) (64 * i) ((B ++ (padN ((B).length))).length)).take 64)).2.2.2.2.2.1 : Nat) : Int)), (.int .u32 (((cmpS (t0, t1, t2, t3, t4, t5, t6, t7) ((mid (B ++ (padN ((B).length))) (64 * i) ((B ++ (padN ((B).length))).length)).take 64)).2.2.2.2.2.2.1 : Nat) : Int)), (.int .u32 (((cmpS (t0, t1, t2, t3, t4, t5, t6, t7) ((mid (B ++ (padN ((B).length))) (64 * i) ((B ++ (padN ((B).length))).length)).take 64)).2.2.2.2.2.2.2 : Nat) : Int))] 89 (0, 0)))] })]) (cR [[2]] <| cX (o_semF _ (fun _ => do pure (Next.value (← Instr.loadAt 77 (pt (nb ρ6 0))))) (fun _ => (.agg ((bs ((mid (B ++ (padN ((B).length))) (64 * i) ((B ++ (padN ((B).length))).length)).take 64)).toArray))) (fun _ => (by kernel_rfl)) (fun _ => (by kernel_rfl)) (fun _ _ _ hG => ld_whole Tryz.isAgg77 Tryz.sizeOf77 (hG.known (g := nb ρ6 0) (o := (.cells ((bs ((mid (B ++ (padN ((B).length))) (64 * i) ((B ++ (padN ((B).length))).length)).take 64)).toArray) 77 (0, 0))) 3 (by kernel_rfl) (by kernel_rfl)) ((by rw [List.size_toArray, bs_length, List.length_take, mid_length _ _ _ (Nat.le_refl _)]; have := of_decide_eq_true hb1; have := hl; have := msg_len B; have := zeros_lt B.length; have := hi; omega))) (fun _ _ _ _ => persT)) <| cC (f := 108) (args := fun ρ => #[(.agg #[(.int .u32 ((t0 : Nat) : Int)), (.int .u32 ((t1 : Nat) : Int)), (.int .u32 ((t2 : Nat) : Int)), (.int .u32 ((t3 : Nat) : Int)), (.int .u32 ((t4 : Nat) : Int)), (.int .u32 ((t5 : Nat) : Int)), (.int .u32 ((t6 : Nat) : Int)), (.int .u32 ((t7 : Nat) : Int))]), (.agg ((bs ((mid (B ++ (padN ((B).length))) (64 * i) ((B ++ (padN ((B).length))).length)).take 64)).toArray))]) (v := fun ρ => (.agg #[(.int .u32 (((cmpS (t0, t1, t2, t3, t4, t5, t6, t7) ((mid (B ++ (padN ((B).length))) (64 * i) ((B ++ (padN ((B).length))).length)).take 64)).1 : Nat) : Int)), (.int .u32 (((cmpS (t0, t1, t2, t3, t4, t5, t6, t7) ((mid (B ++ (padN ((B).length))) (64 * i) ((B ++ (padN ((B).length))).length)).take 64)).2.1 : Nat) : Int)), (.int .u32 (((cmpS (t0, t1, t2, t3, t4, t5, t6, t7) ((mid (B ++ (padN ((B).length))) (64 * i) ((B ++ (padN ((B).length))).length)).take 64)).2.2.1 : Nat) : Int)), (.int .u32 (((cmpS (t0, t1, t2, t3, t4, t5, t6, t7) ((mid (B ++ (padN ((B).length))) (64 * i) ((B ++ (padN ((B).length))).length)).take 64)).2.2.2.1 : Nat) : Int)), (.int .u32 (((cmpS (t0, t1, t2, t3, t4, t5, t6, t7) ((mid (B ++ (padN ((B).length))) (64 * i) ((B ++ (padN ((B).length))).length)).take 64)).2.2.2.2.1 : Nat) : Int)), (.int .u32 (((cmpS (t0, t1, t2, t3, t4, t5, t6, t7) ((mid (B ++ (padN ((B).length))) (64 * i) ((B ++ (padN ((B).length))).length)).take 64)).2.2.2.2.2.1 : Nat) : Int)), (.int .u32 (((cmpS (t0, t1, t2, t3, t4, t5, t6, t7) ((mid (B ++ (padN ((B).length))) (64 * i) ((B ++ (padN ((B).length))).length)).take 64)).2.2.2.2.2.2.1 : Nat) : Int)), (.int .u32 (((cmpS (t0, t1, t2, t3, t4, t5, t6, t7) ((mid (B ++ (padN ((B).length))) (64 * i) ((B ++ (padN ((B).length))).length)).take 64)).2.2.2.2.2.2.2 : Nat) : Int))])) (fun _ w => (fun w => rcompress_any t0 t1 t2 t3 t4 t5 t6 t7 ((mid (B ++ (padN ((B).length))) (64 * i) ((B ++ (padN ((B).length))).length)).take 64) (hQ ▸ shaS_ok (B ++ (padN ((B).length))) i) (by rw [List.length_take, mid_length _ _ _ (Nat.le_refl _)]; have := of_decide_eq_true hb1; have := hl; have := msg_len B; have := zeros_lt B.length; have := hi; omega) w) w) <| cR [[2]] <| cN) (fun _ => ?_)
    refine mt_block_n ?_
    refine mt_then ?_
    refine rS Tryz.f88 3 [2, 3, 4, 5] [] (fun _ => [(.int .i64 ((64 * i : Nat) : Int)), (.int .i64 ((64 * (i + 1) : Nat) : Int)), (.int .i64 ((64 * (i + 1) : Nat) : Int))]) (fun _ => []) (cR [[]] <| cA (v := fun ρ => (.int .i64 (IntKind.i64.wrap (((64 * i : Nat) : Int) + 64)))) (fun _ => (.int .i64 ((64 * (i + 1) : Nat) : Int))) (fun _ => congrArg (Value.int .i64) ((i64N (by have := of_decide_eq_true hb1; have := hl; have := msg_len B; have := zeros_lt B.length; have := hi; omega)).trans (by omega))) <| cR [[]] <| cN) (fun _ => ?_)
    exact mN (i + 1, (cmpS (t0, t1, t2, t3, t4, t5, t6, t7) ((mid (B ++ (padN ((B).length))) (64 * i) ((B ++ (padN ((B).length))).length)).take 64)).1, (cmpS (t0, t1, t2, t3, t4, t5, t6, t7) ((mid (B ++ (padN ((B).length))) (64 * i) ((B ++ (padN ((B).length))).length)).take 64)).2.1, (cmpS (t0, t1, t2, t3, t4, t5, t6, t7) ((mid (B ++ (padN ((B).length))) (64 * i) ((B ++ (padN ((B).length))).length)).take 64)).2.2.1, (cmpS (t0, t1, t2, t3, t4, t5, t6, t7) ((mid (B ++ (padN ((B).length))) (64 * i) ((B ++ (padN ((B).length))).length)).take 64)).2.2.2.1, (cmpS (t0, t1, t2, t3, t4, t5, t6, t7) ((mid (B ++ (padN ((B).length))) (64 * i) ((B ++ (padN ((B).length))).length)).take 64)).2.2.2.2.1, (cmpS (t0, t1, t2, t3, t4, t5, t6, t7) ((mid (B ++ (padN ((B).length))) (64 * i) ((B ++ (padN ((B).length))).length)).take 64)).2.2.2.2.2.1, (cmpS (t0, t1, t2, t3, t4, t5, t6, t7) ((mid (B ++ (padN ((B).length))) (64 * i) ((B ++ (padN ((B).length))).length)).take 64)).2.2.2.2.2.2.1, (cmpS (t0, t1, t2, t3, t4, t5, t6, t7) ((mid (B ++ (padN ((B).length))) (64 * i) ((B ++ (padN ((B).length))).length)).take 64)).2.2.2.2.2.2.2) (by show (B ++ (padN ((B).length))).length / 64 - (i + 1) < (B ++ (padN ((B).length))).length / 64 - i; have := of_decide_eq_true hb1; have := hl; have := msg_len B; have := zeros_lt B.length; have := hi; omega) (⟨(by have := of_decide_eq_true hb1; have := hl; have := msg_len B; have := zeros_lt B.length; have := hi; omega), sha_next hQ (by have := of_decide_eq_true hb1; have := hl; have := msg_len B; have := zeros_lt B.length; have := hi; omega)⟩) []
  ·
    rw [hb1]
    refine ok_exit ?_
    refine mt_then_e ?_
    refine mt_then_e ?_
    refine mt_block_h ?_
    refine mt_then ?_
    refine sS Tryz.f88 1 [2, 4, 7] [1, 0, 1, 1] (fun ρ => [(pt (nb ρ 0))]) (fun ρ => [(0, { news := [(nb ρ 0, (.cells (hB 0) 31 (0, 0)))] })]) (cR [[]] <| cN) (fun ρ10 => ?_)
    refine ok_seq ?_
    refine sS Tryz.f88 2 [2, 7, 33, 34] [1, 0, 1] (fun _ => [(.agg #[(.int .u32 ((t0 : Nat) : Int)), (.int .u32 ((t1 : Nat) : Int)), (.int .u32 ((t2 : Nat) : Int)), (.int .u32 ((t3 : Nat) : Int)), (.int .u32 ((t4 : Nat) : Int)), (.int .u32 ((t5 : Nat) : Int)), (.int .u32 ((t6 : Nat) : Int)), (.int .u32 ((t7 : Nat) : Int))]), (.int .i64 0)]) (fun _ => []) (cR [[1], []] <| cN) (fun _ => ?_)
    refine ok_block ?_
    refine oL (σ := Nat × (Array Value)) (fun ⟨m, _⟩ => [(2, (pt (nb ρ1 0))), (7, (pt (nb ρ10 0))), (33, (.agg #[(.int .u32 ((t0 : Nat) : Int)), (.int .u32 ((t1 : Nat) : Int)), (.int .u32 ((t2 : Nat) : Int)), (.int .u32 ((t3 : Nat) : Int)), (.int .u32 ((t4 : Nat) : Int)), (.int .u32 ((t5 : Nat) : Int)), (.int .u32 ((t6 : Nat) : Int)), (.int .u32 ((t7 : Nat) : Int))])), (34, (.int .i64 ((m : Nat) : Int)))]) (fun ⟨_, C⟩ => [(nb ρ1 0, (.cells (hB 0) 31 (0, 0))), (nb ρ10 0, (.cells C 31 (0, 0)))]) (fun ⟨m, _⟩ => 8 - m)
      (fun ⟨m, C⟩ => (m ≤ 8) ∧ (C = rowK .u8 32 (dgf (t0, t1, t2, t3, t4, t5, t6, t7) (4 * m)))) (0, hB 0) (⟨by decide, hB0_row (t0, t1, t2, t3, t4, t5, t6, t7)⟩) [] ?_
    rintro ⟨m, C⟩ ⟨hm, hC⟩
    change Ok Tryz.prog _ _ 66 [(2, (pt (nb ρ1 0))), (7, (pt (nb ρ10 0))), (33, (.agg #[(.int .u32 ((t0 : Nat) : Int)), (.int .u32 ((t1 : Nat) : Int)), (.int .u32 ((t2 : Nat) : Int)), (.int .u32 ((t3 : Nat) : Int)), (.int .u32 ((t4 : Nat) : Int)), (.int .u32 ((t5 : Nat) : Int)), (.int .u32 ((t6 : Nat) : Int)), (.int .u32 ((t7 : Nat) : Int))])), (34, (.int .i64 ((m : Nat) : Int)))] _ [(nb ρ1 0, (.cells (hB 0) 31 (0, 0))), (nb ρ10 0, (.cells C 31 (0, 0)))] (fun w => Bs w a c B ∧ Fs w0 w (oa ρ2 5) (nb ρ2 5) (padN ((B).length)) ∧ True)
    refine sS Tryz.f88 1 [2, 7, 33, 34, 35] [] (fun _ => [(.bool (decide (((m : Nat) : Int) < 8)))]) (fun _ => []) (cR [[]] <| cN) (fun _ => ?_)
    refine ok_seq ?_
    refine oC (decide (((m : Nat) : Int) < 8)) (fun hb2 => ?_) (fun hb2 => ?_)
    ·
      rw [hb2]
      refine ok_skip ?_
      refine mt_then ?_
      refine ok_seq ?_
      refine ok_block ?_
      refine sS Tryz.f88 4 [2, 7, 8, 9, 33, 34] [] (fun _ => [(.int .i64 ((m : Nat) : Int)), (.int .u32 ((sel8 (t0, t1, t2, t3, t4, t5, t6, t7) m : Nat) : Int)), (.int .i64 ((m : Nat) : Int)), (.int .u32 ((sel8 (t0, t1, t2, t3, t4, t5, t6, t7) m : Nat) : Int))]) (fun _ => []) (cR [[]] <| cX (o_sem _ (fun _ => do pure (Next.value (← Instr.index 89 (.agg #[(.int .u32 ((t0 : Nat) : Int)), (.int .u32 ((t1 : Nat) : Int)), (.int .u32 ((t2 : Nat) : Int)), (.int .u32 ((t3 : Nat) : Int)), (.int .u32 ((t4 : Nat) : Int)), (.int .u32 ((t5 : Nat) : Int)), (.int .u32 ((t6 : Nat) : Int)), (.int .u32 ((t7 : Nat) : Int))]) (.int .i64 ((m : Nat) : Int))))) (fun _ => (.int .u32 ((sel8 (t0, t1, t2, t3, t4, t5, t6, t7) m : Nat) : Int))) (fun _ => (by kernel_rfl)) (fun _ => (by kernel_rfl)) (fun _ w => idx_arr8 Tryz.underlying89 Tryz.underlying23 Tryz.sizeOf23 (by have := of_decide_eq_false hb1; have := of_decide_eq_true hb2; have := hl; have := msg_len B; have := zeros_lt B.length; have := hi; have := hm; omega) w)) <| cR [[], []] <| cN) (fun _ => ?_)
      refine rS Tryz.f88 30 [2, 7, 33, 34] [] (fun _ => [(.int .i64 ((m : Nat) : Int)), (.int .i64 ((4 * m : Nat) : Int)), (.int .i64 ((m : Nat) : Int)), (.int .i64 ((4 * m : Nat) : Int)), (.int .i64 (((4 * m) + 1 : Nat) : Int)), (.int .i64 ((m : Nat) : Int)), (.int .i64 ((4 * m : Nat) : Int)), (.int .i64 (((4 * m) + 2 : Nat) : Int)), (.int .i64 ((m : Nat) : Int)), (.int .i64 ((4 * m : Nat) : Int)), (.int .i64 (((4 * m) + 3 : Nat) : Int)), (.int .u32 ((sel8 (t0, t1, t2, t3, t4, t5, t6, t7) m : Nat) : Int)), (.int .u32 ((sel8 (t0, t1, t2, t3, t4, t5, t6, t7) m / 2 ^ 24 : Nat) : Int)), (.int .u8 ((sel8 (t0, t1, t2, t3, t4, t5, t6, t7) m / 2 ^ 24 % 256 : Nat) : Int)), (.int .u32 ((sel8 (t0, t1, t2, t3, t4, t5, t6, t7) m : Nat) : Int)), (.int .u32 ((sel8 (t0, t1, t2, t3, t4, t5, t6, t7) m / 2 ^ 16 : Nat) : Int)), (.int .u8 ((sel8 (t0, t1, t2, t3, t4, t5, t6, t7) m / 2 ^ 16 % 256 : Nat) : Int)), (.int .u32 ((sel8 (t0, t1, t2, t3, t4, t5, t6, t7) m : Nat) : Int)), (.int .u32 ((sel8 (t0, t1, t2, t3, t4, t5, t6, t7) m / 2 ^ 8 : Nat) : Int)), (.int .u8 ((sel8 (t0, t1, t2, t3, t4, t5, t6, t7) m / 2 ^ 8 % 256 : Nat) : Int)), (.int .u32 ((sel8 (t0, t1, t2, t3, t4, t5, t6, t7) m : Nat) : Int)), (.int .u8 ((sel8 (t0, t1, t2, t3, t4, t5, t6, t7) m % 256 : Nat) : Int)), (.pointer (some ⟨nb ρ10 0, 4 * m, none⟩)), undef, (.pointer (some ⟨nb ρ10 0, (4 * m) + 1, none⟩)), undef, (.pointer (some ⟨nb ρ10 0, (4 * m) + 2, none⟩)), undef, (.pointer (some ⟨nb ρ10 0, (4 * m) + 3, none⟩)), undef]) (fun _ => [(23, { puts := [(1, nb ρ10 0, (.cells (rowK .u8 32 (dgf (t0, t1, t2, t3, t4, t5, t6, t7) (4 * m + 1))) 31 (0, 0)))] }), (25, { puts := [(1, nb ρ10 0, (.cells (rowK .u8 32 (dgf (t0, t1, t2, t3, t4, t5, t6, t7) (4 * m + 2))) 31 (0, 0)))] }), (27, { puts := [(1, nb ρ10 0, (.cells (rowK .u8 32 (dgf (t0, t1, t2, t3, t4, t5, t6, t7) (4 * m + 3))) 31 (0, 0)))] }), (29, { puts := [(1, nb ρ10 0, (.cells (rowK .u8 32 (dgf (t0, t1, t2, t3, t4, t5, t6, t7) (4 * (m + 1)))) 31 (0, 0)))] })]) (cR [[]] <| cA (v := fun ρ => (.int .i64 (IntKind.i64.wrap (4 * ((m : Nat) : Int))))) (fun _ => (.int .i64 ((4 * m : Nat) : Int))) (fun _ => congrArg (Value.int .i64) (wrap_mulN 4 m (by have := of_decide_eq_false hb1; have := of_decide_eq_true hb2; have := hl; have := msg_len B; have := zeros_lt B.length; have := hi; have := hm; omega))) <| cR [[]] <| cA (v := fun ρ => (.int .i64 (IntKind.i64.wrap (4 * ((m : Nat) : Int))))) (fun _ => (.int .i64 ((4 * m : Nat) : Int))) (fun _ => congrArg (Value.int .i64) (wrap_mulN 4 m (by have := of_decide_eq_false hb1; have := of_decide_eq_true hb2; have := hl; have := msg_len B; have := zeros_lt B.length; have := hi; have := hm; omega))) <| cA (v := fun ρ => (.int .i64 (IntKind.i64.wrap (((4 * m : Nat) : Int) + 1)))) (fun _ => (.int .i64 (((4 * m) + 1 : Nat) : Int))) (fun _ => congrArg (Value.int .i64) (wrap_addN (4 * m) 1 (by have := of_decide_eq_false hb1; have := of_decide_eq_true hb2; have := hl; have := msg_len B; have := zeros_lt B.length; have := hi; have := hm; omega))) <| cR [[]] <| cA (v := fun ρ => (.int .i64 (IntKind.i64.wrap (4 * ((m : Nat) : Int))))) (fun _ => (.int .i64 ((4 * m : Nat) : Int))) (fun _ => congrArg (Value.int .i64) (wrap_mulN 4 m (by have := of_decide_eq_false hb1; have := of_decide_eq_true hb2; have := hl; have := msg_len B; have := zeros_lt B.length; have := hi; have := hm; omega))) <| cA (v := fun ρ => (.int .i64 (IntKind.i64.wrap (((4 * m : Nat) : Int) + 2)))) (fun _ => (.int .i64 (((4 * m) + 2 : Nat) : Int))) (fun _ => congrArg (Value.int .i64) (wrap_addN (4 * m) 2 (by have := of_decide_eq_false hb1; have := of_decide_eq_true hb2; have := hl; have := msg_len B; have := zeros_lt B.length; have := hi; have := hm; omega))) <| cR [[]] <| cA (v := fun ρ => (.int .i64 (IntKind.i64.wrap (4 * ((m : Nat) : Int))))) (fun _ => (.int .i64 ((4 * m : Nat) : Int))) (fun _ => congrArg (Value.int .i64) (wrap_mulN 4 m (by have := of_decide_eq_false hb1; have := of_decide_eq_true hb2; have := hl; have := msg_len B; have := zeros_lt B.length; have := hi; have := hm; omega))) <| cA (v := fun ρ => (.int .i64 (IntKind.i64.wrap (((4 * m : Nat) : Int) + 3)))) (fun _ => (.int .i64 (((4 * m) + 3 : Nat) : Int))) (fun _ => congrArg (Value.int .i64) (wrap_addN (4 * m) 3 (by have := of_decide_eq_false hb1; have := of_decide_eq_true hb2; have := hl; have := msg_len B; have := zeros_lt B.length; have := hi; have := hm; omega))) <| cR [[]] <| cB (a := fun ρ => (.int .u32 ((sel8 (t0, t1, t2, t3, t4, t5, t6, t7) m : Nat) : Int))) (b := fun ρ => (.int .u64 24)) (v := fun ρ => (.int .u32 ((sel8 (t0, t1, t2, t3, t4, t5, t6, t7) m / 2 ^ 24 : Nat) : Int))) .shr 23 (fun _ w => run_shrU (k := .u32) (x := sel8 (t0, t1, t2, t3, t4, t5, t6, t7) m) (c := 24) (sel8_lt (hQ ▸ shaS_ok _ i) _) w) <| cA (fun _ => (.int .u8 ((sel8 (t0, t1, t2, t3, t4, t5, t6, t7) m / 2 ^ 24 % 256 : Nat) : Int))) (fun _ => congrArg (Value.int .u8) (u8M (sel8 (t0, t1, t2, t3, t4, t5, t6, t7) m / 2 ^ 24))) <| cR [[]] <| cB (a := fun ρ => (.int .u32 ((sel8 (t0, t1, t2, t3, t4, t5, t6, t7) m : Nat) : Int))) (b := fun ρ => (.int .u64 16)) (v := fun ρ => (.int .u32 ((sel8 (t0, t1, t2, t3, t4, t5, t6, t7) m / 2 ^ 16 : Nat) : Int))) .shr 23 (fun _ w => run_shrU (k := .u32) (x := sel8 (t0, t1, t2, t3, t4, t5, t6, t7) m) (c := 16) (sel8_lt (hQ ▸ shaS_ok _ i) _) w) <| cA (fun _ => (.int .u8 ((sel8 (t0, t1, t2, t3, t4, t5, t6, t7) m / 2 ^ 16 % 256 : Nat) : Int))) (fun _ => congrArg (Value.int .u8) (u8M (sel8 (t0, t1, t2, t3, t4, t5, t6, t7) m / 2 ^ 16))) <| cR [[]] <| cB (a := fun ρ => (.int .u32 ((sel8 (t0, t1, t2, t3, t4, t5, t6, t7) m : Nat) : Int))) (b := fun ρ => (.int .u64 8)) (v := fun ρ => (.int .u32 ((sel8 (t0, t1, t2, t3, t4, t5, t6, t7) m / 2 ^ 8 : Nat) : Int))) .shr 23 (fun _ w => run_shrU (k := .u32) (x := sel8 (t0, t1, t2, t3, t4, t5, t6, t7) m) (c := 8) (sel8_lt (hQ ▸ shaS_ok _ i) _) w) <| cA (fun _ => (.int .u8 ((sel8 (t0, t1, t2, t3, t4, t5, t6, t7) m / 2 ^ 8 % 256 : Nat) : Int))) (fun _ => congrArg (Value.int .u8) (u8M (sel8 (t0, t1, t2, t3, t4, t5, t6, t7) m / 2 ^ 8))) <| cR [[]] <| cA (fun _ => (.int .u8 ((sel8 (t0, t1, t2, t3, t4, t5, t6, t7) m % 256 : Nat) : Int))) (fun _ => congrArg (Value.int .u8) (u8M (sel8 (t0, t1, t2, t3, t4, t5, t6, t7) m))) <| cX (o_sem _ (fun _ => do pure (Next.value (← Instr.indexAt 31 (pt (nb ρ10 0)) (.int .i64 ((4 * m : Nat) : Int))))) (fun _ => (.pointer (some ⟨nb ρ10 0, 4 * m, none⟩))) (fun _ => by kernel_rfl) (fun _ => by kernel_rfl) (fun _ w => run_idx_nat (n := ((4 * m : Nat) : Int)) (i := 4 * m) Tryz.underlying31 Tryz.sizeOf5 ((by have := of_decide_eq_false hb1; have := of_decide_eq_true hb2; have := hl; have := msg_len B; have := zeros_lt B.length; have := hi; have := hm; omega)) w)) <| cX (o_st _ 1 5 (fun _ => nb ρ10 0) (fun _ => 4 * m) (fun _ => C) (fun _ => (rowK .u8 32 (dgf (t0, t1, t2, t3, t4, t5, t6, t7) (4 * m + 1)))) 31 (fun _ => (.int .u8 ((sel8 (t0, t1, t2, t3, t4, t5, t6, t7) m / 2 ^ 24 % 256 : Nat) : Int))) (fun _ => by kernel_rfl) Tryz.sizeOf5 (fun _ => rfl) (fun _ => (by rw [hC, rowK_size]; have := of_decide_eq_false hb1; have := of_decide_eq_true hb2; have := hl; have := msg_len B; have := zeros_lt B.length; have := hi; have := hm; omega)) (fun _ => (by rw [hC]; exact dgf_set (m := 4 * m) (by rw [show 4 * m / 4 = m by omega, show 24 - 4 * m % 4 * 8 = 24 by omega])))) <| cX (o_sem _ (fun _ => do pure (Next.value (← Instr.indexAt 31 (pt (nb ρ10 0)) (.int .i64 (((4 * m) + 1 : Nat) : Int))))) (fun _ => (.pointer (some ⟨nb ρ10 0, (4 * m) + 1, none⟩))) (fun _ => by kernel_rfl) (fun _ => by kernel_rfl) (fun _ w => run_idx_nat (n := (((4 * m) + 1 : Nat) : Int)) (i := (4 * m) + 1) Tryz.underlying31 Tryz.sizeOf5 ((by have := of_decide_eq_false hb1; have := of_decide_eq_true hb2; have := hl; have := msg_len B; have := zeros_lt B.length; have := hi; have := hm; omega)) w)) <| cX (o_st _ 1 5 (fun _ => nb ρ10 0) (fun _ => (4 * m) + 1) (fun _ => (rowK .u8 32 (dgf (t0, t1, t2, t3, t4, t5, t6, t7) (4 * m + 1)))) (fun _ => (rowK .u8 32 (dgf (t0, t1, t2, t3, t4, t5, t6, t7) (4 * m + 2)))) 31 (fun _ => (.int .u8 ((sel8 (t0, t1, t2, t3, t4, t5, t6, t7) m / 2 ^ 16 % 256 : Nat) : Int))) (fun _ => by kernel_rfl) Tryz.sizeOf5 (fun _ => rfl) (fun _ => (by rw [rowK_size]; have := of_decide_eq_false hb1; have := of_decide_eq_true hb2; have := hl; have := msg_len B; have := zeros_lt B.length; have := hi; have := hm; omega)) (fun _ => (by exact dgf_set (m := 4 * m + 1) (by rw [show (4 * m + 1) / 4 = m by omega, show 24 - (4 * m + 1) % 4 * 8 = 16 by omega])))) <| cX (o_sem _ (fun _ => do pure (Next.value (← Instr.indexAt 31 (pt (nb ρ10 0)) (.int .i64 (((4 * m) + 2 : Nat) : Int))))) (fun _ => (.pointer (some ⟨nb ρ10 0, (4 * m) + 2, none⟩))) (fun _ => by kernel_rfl) (fun _ => by kernel_rfl) (fun _ w => run_idx_nat (n := (((4 * m) + 2 : Nat) : Int)) (i := (4 * m) + 2) Tryz.underlying31 Tryz.sizeOf5 ((by have := of_decide_eq_false hb1; have := of_decide_eq_true hb2; have := hl; have := msg_len B; have := zeros_lt B.length; have := hi; have := hm; omega)) w)) <| cX (o_st _ 1 5 (fun _ => nb ρ10 0) (fun _ => (4 * m) + 2) (fun _ => (rowK .u8 32 (dgf (t0, t1, t2, t3, t4, t5, t6, t7) (4 * m + 2)))) (fun _ => (rowK .u8 32 (dgf (t0, t1, t2, t3, t4, t5, t6, t7) (4 * m + 3)))) 31 (fun _ => (.int .u8 ((sel8 (t0, t1, t2, t3, t4, t5, t6, t7) m / 2 ^ 8 % 256 : Nat) : Int))) (fun _ => by kernel_rfl) Tryz.sizeOf5 (fun _ => rfl) (fun _ => (by rw [rowK_size]; have := of_decide_eq_false hb1; have := of_decide_eq_true hb2; have := hl; have := msg_len B; have := zeros_lt B.length; have := hi; have := hm; omega)) (fun _ => (by exact dgf_set (m := 4 * m + 2) (by rw [show (4 * m + 2) / 4 = m by omega, show 24 - (4 * m + 2) % 4 * 8 = 8 by omega])))) <| cX (o_sem _ (fun _ => do pure (Next.value (← Instr.indexAt 31 (pt (nb ρ10 0)) (.int .i64 (((4 * m) + 3 : Nat) : Int))))) (fun _ => (.pointer (some ⟨nb ρ10 0, (4 * m) + 3, none⟩))) (fun _ => by kernel_rfl) (fun _ => by kernel_rfl) (fun _ w => run_idx_nat (n := (((4 * m) + 3 : Nat) : Int)) (i := (4 * m) + 3) Tryz.underlying31 Tryz.sizeOf5 ((by have := of_decide_eq_false hb1; have := of_decide_eq_true hb2; have := hl; have := msg_len B; have := zeros_lt B.length; have := hi; have := hm; omega)) w)) <| cX (o_st _ 1 5 (fun _ => nb ρ10 0) (fun _ => (4 * m) + 3) (fun _ => (rowK .u8 32 (dgf (t0, t1, t2, t3, t4, t5, t6, t7) (4 * m + 3)))) (fun _ => (rowK .u8 32 (dgf (t0, t1, t2, t3, t4, t5, t6, t7) (4 * (m + 1))))) 31 (fun _ => (.int .u8 ((sel8 (t0, t1, t2, t3, t4, t5, t6, t7) m % 256 : Nat) : Int))) (fun _ => by kernel_rfl) Tryz.sizeOf5 (fun _ => rfl) (fun _ => (by rw [rowK_size]; have := of_decide_eq_false hb1; have := of_decide_eq_true hb2; have := hl; have := msg_len B; have := zeros_lt B.length; have := hi; have := hm; omega)) (fun _ => (by exact dgf_set (m := 4 * m + 3) (by rw [show (4 * m + 3) / 4 = m by omega, show 24 - (4 * m + 3) % 4 * 8 = 0 by omega]; simp)))) <| cN) (fun _ => ?_)
      refine mt_block_n ?_
      refine mt_then ?_
      refine rS Tryz.f88 2 [2, 7, 33, 34] [] (fun _ => [(.int .i64 ((m + 1 : Nat) : Int)), (.int .i64 ((m + 1 : Nat) : Int))]) (fun _ => []) (cA (v := fun ρ => (.int .i64 (IntKind.i64.wrap (((m : Nat) : Int) + 1)))) (fun _ => (.int .i64 ((m + 1 : Nat) : Int))) (fun _ => congrArg (Value.int .i64) (wrap_addN m 1 (by have := of_decide_eq_false hb1; have := of_decide_eq_true hb2; have := hl; have := msg_len B; have := zeros_lt B.length; have := hi; have := hm; omega))) <| cR [[]] <| cN) (fun _ => ?_)
      exact mN (m + 1, rowK .u8 32 (dgf (t0, t1, t2, t3, t4, t5, t6, t7) (4 * (m + 1)))) (by show 8 - (m + 1) < 8 - m; have := of_decide_eq_false hb1; have := of_decide_eq_true hb2; have := hl; have := msg_len B; have := zeros_lt B.length; have := hi; have := hm; omega) (⟨(by have := of_decide_eq_false hb1; have := of_decide_eq_true hb2; have := hl; have := msg_len B; have := zeros_lt B.length; have := hi; have := hm; omega), rfl⟩) []
    ·
      rw [hb2]
      refine ok_exit ?_
      refine mt_then_e ?_
      refine mt_then_e ?_
      refine mt_block_h ?_
      rw [hC]
      refine mt_then ?_
      refine sS Tryz.f88 2 [2] [1, 0] (fun _ => [(.agg (rowK .u8 32 (dgf (t0, t1, t2, t3, t4, t5, t6, t7) (4 * m)))), undef]) (fun _ => [(1, { puts := [(0, nb ρ1 0, (.cells (rowK .u8 32 (dgf (t0, t1, t2, t3, t4, t5, t6, t7) (4 * m))) 31 (0, 0)))] })]) (cX (o_semF _ (fun _ => do pure (Next.value (← Instr.loadAt 31 (pt (nb ρ10 0))))) (fun _ => (.agg (rowK .u8 32 (dgf (t0, t1, t2, t3, t4, t5, t6, t7) (4 * m))))) (fun _ => (by kernel_rfl)) (fun _ => (by kernel_rfl)) (fun _ _ _ hG => ld_whole Tryz.isAgg31 Tryz.sizeOf31 (hG.known (g := nb ρ10 0) (o := (.cells (rowK .u8 32 (dgf (t0, t1, t2, t3, t4, t5, t6, t7) (4 * m))) 31 (0, 0))) 1 (by kernel_rfl) (by kernel_rfl)) ((rowK_size _ _ _))) (fun _ _ _ _ => persT)) <| cR [[0]] <| cN) (fun _ => ?_)
      refine ok_ret ?_
      exact mR (v := (.agg (rowK .u8 32 (dgf (t0, t1, t2, t3, t4, t5, t6, t7) (4 * m))))) (fun _ hS => ⟨congrArg Ending.returned (congrArg Value.agg ((dgf_end (by have := of_decide_eq_false hb1; have := of_decide_eq_false hb2; have := hl; have := msg_len B; have := zeros_lt B.length; have := hi; have := hm; omega)).trans (congrArg hB (sha_end hQ (by have := of_decide_eq_false hb1; have := of_decide_eq_false hb2; have := hl; have := msg_len B; have := zeros_lt B.length; have := hi; have := hm; omega))))), hS.bel⟩)

theorem rtagged_any (T : List UInt8) (a : Option Addr) (c : Nat) (B : List UInt8) (hT : 0 < T.length ∧ T.length ≤ 1000) (hl : B.length + 200 ≤ 140737488351232) (w0 : World) (hf0 : Bs w0 a c B) : Calls Tryz.prog 62 #[(.string (strB T)), (.slice a (B).length c)] w0 (fun ε w' => ε = .returned (.agg (hB (tagN T B))) ∧ Below w0.heap.size w0 w') := by
  refine Calls.of_ok (n := 16) (F := (fun w => Bs w a c B ∧ True)) Tryz.func62 rfl rfl rfl (by simp) (hf0.pers0.and persT) ?_
  refine sS Tryz.f62 1 [0, 1, 4] [] (fun ρ => [(pt (nb ρ 0))]) (fun ρ => [(0, { news := [(nb ρ 0, (.cells (hB 0) 31 (0, 0)))] })]) (cR [[]] <| cN) (fun ρ1 => ?_)
  refine sSf Tryz.f62 5 [1, 4, 5] [] (fun ρ => [(.string (strB T)), (.slice (oa ρ 1) (T).length (nb ρ 1)), (.agg (hB (shaN T))), (pt (nb ρ 3)), undef]) (fun ρ => [(3, { news := [(nb ρ 3, (.cells (hB 0) 31 (0, 0)))] }), (4, { puts := [(25, nb ρ 3, (.cells (hB (shaN T)) 31 (0, 0)))] })]) (fun ρ => [(1, fun w => Fs w0 w (oa ρ 1) (nb ρ 1) T)]) (fun ρ => (fun w => Bs w a c B ∧ Fs w0 w (oa ρ 1) (nb ρ 1) T ∧ True)) (fun _ => True) (fun _ _ hF hf => ⟨⟨hF.1, hf 1, trivial⟩, trivial⟩) (cR [[]] <| cX (o_newF _ (fun _ => do pure (Next.value (← convert 9 43 (.string (strB T))))) (fun _ α κ => (.slice α (T).length κ)) (fun _ => T) (fun _ _ => (by kernel_rfl)) (fun _ => (by kernel_rfl)) (fun _ _ => (by kernel_rfl)) (fun _ _ w _ => bytes_str Tryz.underlying9 Tryz.underlying43 Tryz.underlying5 T (by have := hT; omega) w)) <| cX (o_callP _ 88 (fun ρ => #[(.slice (oa ρ 1) (T).length (nb ρ 1))]) (fun _ => (.agg (hB (shaN T)))) (fun _ _ => (by kernel_rfl)) (fun _ => (by kernel_rfl)) (fun _ _ => (by kernel_rfl)) (fun _ _ => trivial) (fun ρ _ w hG => rsum_any (oa ρ 1) (nb ρ 1) T hT.1 (by have := hT; omega) w ((show Fs w0 w (oa ρ 1) (nb ρ 1) T from (hG.facts 1 rfl).now).1))) <| cR [[], [25]] <| cN) (fun ρ2 _ => ?_)
  refine sDf Tryz.f62 [0, 1, 0, 7, 0, 31, 63, 127] 8 [4] [1, 0, 0] (fun ρ => [(.slice (some ⟨nb ρ2 3, 0, none⟩) (hL (shaN T)).length 32), (.slice (some ⟨nb ρ 1, 0, none⟩) (hL (shaN T)).length ((hL (shaN T)).length + nb2 ρ 1)), (.slice (some ⟨nb ρ2 3, 0, none⟩) (hL (shaN T)).length 32), (.slice (some ⟨nb ρ 3, 0, none⟩) ((hL (shaN T)) ++ (hL (shaN T))).length (nb2 ρ 3)), (.slice a (B).length c), (.slice (some ⟨nb ρ 5, 0, none⟩) (((hL (shaN T)) ++ (hL (shaN T))) ++ B).length (nb2 ρ 5)), (.agg (hB (shaN (((hL (shaN T)) ++ (hL (shaN T))) ++ B)))), undef]) (fun ρ => [(1, { news := [(nb ρ 1, (.cells ((bs (hL (shaN T))).toArray ++ zB (nb2 ρ 1)) 5 (0, 0)))] }), (3, { puts := [(10, nb ρ 3, (.cells (oc ρ 3) 5 (0, 0)))] }), (5, { puts := [(10, nb ρ 5, (.cells (oc ρ 5) 5 (0, 0)))] }), (7, { puts := [(0, nb ρ1 0, (.cells (hB (shaN (((hL (shaN T)) ++ (hL (shaN T))) ++ B))) 31 (0, 0)))] })]) (fun ρ => [(3, fun w => Ap (oc ρ 3) ((hL (shaN T)) ++ (hL (shaN T))) (nb2 ρ 3)), (5, fun w => Ap (oc ρ 5) (((hL (shaN T)) ++ (hL (shaN T))) ++ B) (nb2 ρ 5))]) (fun _ => (fun w => Bs w a c B ∧ Fs w0 w (oa ρ2 1) (nb ρ2 1) T ∧ True)) (fun ρ => Ap (oc ρ 3) ((hL (shaN T)) ++ (hL (shaN T))) (nb2 ρ 3) ∧ Ap (oc ρ 5) (((hL (shaN T)) ++ (hL (shaN T))) ++ B) (nb2 ρ 5)) (fun _ _ hF hf => ⟨hF, ⟨hf 3, hf 5⟩⟩) (cR [[]] <| cX (o_new1 _ (fun _ => do pure (Next.value (← Builtin.append_ #[43, 43] 43 #[(.slice none 0 0), (.slice (some ⟨nb ρ2 3, 0, none⟩) (hL (shaN T)).length 32)]))) (fun _ z => (.slice (some ⟨z.headD 0, 0, none⟩) (hL (shaN T)).length ((hL (shaN T)).length + z.tail.headD 0))) (fun _ z => (.cells ((bs (hL (shaN T))).toArray ++ zB (z.tail.headD 0)) 5 (0, 0))) (fun _ _ => (by kernel_rfl)) (fun _ => (by kernel_rfl)) (fun _ _ => trivial) (fun _ _ _ hG => app_nilL Tryz.underlying43 u8i (Bs.src (tx := 43) Tryz.underlying43 (Bs.of_hd (c := 32) (hG.known (g := nb ρ2 3) (o := (.cells (hB (shaN T)) 31 (0, 0))) 1 (by kernel_rfl) (by kernel_rfl)) (hd_hB _) (Nat.le_refl _) (Nat.le_of_ble_eq_true rfl))) ((by rw [hL_length]; decide)) ((by rw [hL_length]; decide)))) <| cR [[]] <| cX (o_move1 _ 10 (fun ρ => do pure (Next.value (← Builtin.append_ #[43, 43] 43 #[(.slice (some ⟨nb ρ 1, 0, none⟩) (hL (shaN T)).length ((hL (shaN T)).length + nb2 ρ 1)), (.slice (some ⟨nb ρ2 3, 0, none⟩) (hL (shaN T)).length 32)]))) (fun ρ => nb ρ 1) (fun ρ => (.cells ((bs (hL (shaN T))).toArray ++ zB (nb2 ρ 1)) 5 (0, 0))) (fun _ r => (.cells (orcC r) 5 (0, 0))) (fun _ r => (.slice (some ⟨r.n.headD 0, 0, none⟩) ((hL (shaN T)) ++ (hL (shaN T))).length (r.n.tail.headD 0))) (fun _ r => Ap (orcC r) ((hL (shaN T)) ++ (hL (shaN T))) (r.n.tail.headD 0)) (fun _ _ => (by kernel_rfl)) (fun _ => (by kernel_rfl)) (fun _ => (by kernel_rfl)) (fun _ => (by kernel_rfl)) (fun _ _ => (by kernel_rfl)) (fun _ _ _ hG hg => app_any Tryz.underlying43 u8i (Ap.mk' (Hd.fresh _ _) (Nat.le_add_right _ _) (by rw [hL_length]; decide) (fresh_size _ _)) (Bs.src (tx := 43) Tryz.underlying43 (Bs.of_hd (c := 32) (hG.known (g := nb ρ2 3) (o := (.cells (hB (shaN T)) 31 (0, 0))) 1 (by kernel_rfl) (by kernel_rfl)) (hd_hB _) (Nat.le_refl _) (Nat.le_of_ble_eq_true rfl))) ((by simp only [hL_length]; have := hl; omega)) hg)) <| cR [[]] <| cX (o_move1 _ 10 (fun ρ => do pure (Next.value (← Builtin.append_ #[43, 43] 43 #[(.slice (some ⟨nb ρ 3, 0, none⟩) ((hL (shaN T)) ++ (hL (shaN T))).length (nb2 ρ 3)), (.slice a (B).length c)]))) (fun ρ => nb ρ 3) (fun ρ => (.cells (oc ρ 3) 5 (0, 0))) (fun _ r => (.cells (orcC r) 5 (0, 0))) (fun _ r => (.slice (some ⟨r.n.headD 0, 0, none⟩) (((hL (shaN T)) ++ (hL (shaN T))) ++ B).length (r.n.tail.headD 0))) (fun _ r => Ap (orcC r) (((hL (shaN T)) ++ (hL (shaN T))) ++ B) (r.n.tail.headD 0)) (fun _ _ => (by kernel_rfl)) (fun _ => (by kernel_rfl)) (fun _ => (by kernel_rfl)) (fun _ => (by kernel_rfl)) (fun _ _ => (by kernel_rfl)) (fun ρ _ _ hG hg => app_any Tryz.underlying43 u8i (Ap.mk' (show Ap (oc ρ 3) ((hL (shaN T)) ++ (hL (shaN T))) (nb2 ρ 3) from (hG.facts 3 rfl).now).hd (show Ap (oc ρ 3) ((hL (shaN T)) ++ (hL (shaN T))) (nb2 ρ 3) from (hG.facts 3 rfl).now).le (show Ap (oc ρ 3) ((hL (shaN T)) ++ (hL (shaN T))) (nb2 ρ 3) from (hG.facts 3 rfl).now).max (show Ap (oc ρ 3) ((hL (shaN T)) ++ (hL (shaN T))) (nb2 ρ 3) from (hG.facts 3 rfl).now).size) (Bs.src (tx := 43) Tryz.underlying43 hG.facts0.now.1) ((by simp only [List.length_append, hL_length]; have := hl; omega)) hg)) <| cX (o_callP _ 88 (fun ρ => #[(.slice (some ⟨nb ρ 5, 0, none⟩) (((hL (shaN T)) ++ (hL (shaN T))) ++ B).length (nb2 ρ 5))]) (fun _ => (.agg (hB (shaN (((hL (shaN T)) ++ (hL (shaN T))) ++ B))))) (fun _ _ => (by kernel_rfl)) (fun _ => (by kernel_rfl)) (fun _ _ => (by kernel_rfl)) (fun _ _ => trivial) (fun ρ _ w hG => rsum_any (some ⟨nb ρ 5, 0, none⟩) (nb2 ρ 5) (((hL (shaN T)) ++ (hL (shaN T))) ++ B) (by simp only [List.length_append, hL_length]; omega) (by simp only [List.length_append, hL_length]; have := hl; omega) w (Bs.of_hd (hG.known (g := nb ρ 5) (o := (.cells (oc ρ 5) 5 (0, 0))) 10 (by kernel_rfl) (by kernel_rfl)) (show Ap (oc ρ 5) (((hL (shaN T)) ++ (hL (shaN T))) ++ B) (nb2 ρ 5) from (hG.facts 5 rfl).now).hd (show Ap (oc ρ 5) (((hL (shaN T)) ++ (hL (shaN T))) ++ B) (nb2 ρ 5) from (hG.facts 5 rfl).now).le (show Ap (oc ρ 5) (((hL (shaN T)) ++ (hL (shaN T))) ++ B) (nb2 ρ 5) from (hG.facts 5 rfl).now).max))) <| cR [[0]] <| cN) (fun _ ⟨ap3_3, ap3_5⟩ => ?_)
  refine ok_ret ?_
  exact mR (v := (.agg (hB (shaN (((hL (shaN T)) ++ (hL (shaN T))) ++ B))))) (fun _ hS => ⟨congrArg Ending.returned (congrArg (fun z => Value.agg (hB z)) (by rw [tagN, hL_sha])), hS.bel⟩)
end Go.Proofs.YtjdhjkceahaegaaGreatDoor

/-! '==' and '!=' on structs and arrays of integers, to whatever depth. -/
namespace Go.Proofs.YtjdhjkceahaegaaGreatDoor
open Go Go.RowKit

def aggD : TypeDesc → Bool
  | .struct _ => true
  | .array _ _ => true
  | _ => false
def partP (P : Program) (t : TypeId) (cs : Array Value) (off : Nat) : Option Value :=
  match P.info? t, P.underlying t with
  | some i, some d => if aggD d then some (.agg (cs.extract off (off + i.size))) else cs[off]?
  | _, _ => none
def eqStep (f : Value → Value → Option (List (Int × Int))) (a b : Option Value) : Option (List (Int × Int)) :=
  match a, b with
  | some a, some b => f a b
  | _, _ => none
def eqF (P : Program) : Nat → TypeId → Value → Value → Option (List (Int × Int))
  | 0, _, _, _ => none
  | d + 1, t, x, y => match P.underlying t, x, y with
    | some (.int _), .int k a, .int k' b => if k = k' then some [(a, b)] else none
    | some (.array n e), .agg xs, .agg ys => if (P.info? e).isSome then ((List.range n).mapM fun i => eqStep (eqF P d e) (partP P e xs (i * P.cellsOf e)) (partP P e ys (i * P.cellsOf e))).map List.flatten else none
    | some (.struct fs), .agg xs, .agg ys => if P.stoodInHeld t then none else (fs.toList.mapM fun f => if f.name ≠ "_" then eqStep (eqF P d f.type) (partP P f.type xs f.offset) (partP P f.type ys f.offset) else none).map List.flatten
    | _, _, _ => none
def eqB (l : List (Int × Int)) : Bool := l.all fun p => p.1 == p.2
theorem eqB_app (a b : List (Int × Int)) : eqB (a ++ b) = (eqB a && eqB b) := by simp [eqB]
section
variable {P : Program}
theorem run_partP {t : TypeId} {cs : Array Value} {off : Nat} {v : Value} (h : partP P t cs off = some v) (w : World) : (part t cs off).run P w = .ok v w := by
  unfold partP at h
  cases hi : P.info? t with
  | none => rw [hi] at h; simp at h
  | some i =>
    cases hk : P.underlying t with
    | none => rw [hi, hk] at h; simp at h
    | some d =>
      rw [hi, hk] at h
      simp only at h
      have hag : (isAgg t).run P w = .ok (aggD d) w := by
        unfold isAgg
        rw [Sem.run_bind, run_underlying hk w]
        cases d <;> simp [aggD]
      have hsz : (sizeOf t).run P w = .ok i.size w := by simp [sizeOf, typeInfo, hi]
      unfold part
      rw [Sem.run_bind, hag]
      simp only [Result.andThen_ok]
      split at h
      · rename_i hb
        rw [hb]
        simp only [if_true, Sem.run_bind, hsz, Result.andThen_ok, Sem.run_pure]
        rw [Option.some.inj h]
      · rename_i hb
        simp only [hb, Bool.false_eq_true, if_false, h, Sem.run_pure]
theorem items_eq {d c : Nat} {e : TypeId} {xs ys : Array Value} (ih : ∀ x y l w, eqF P d e x y = some l → (Op.equalIn d e x y).run P w = .ok (eqB l) w) : ∀ (is : List Nat) (ls : List (List (Int × Int))) (w : World),
    is.mapM (fun i => eqStep (eqF P d e) (partP P e xs (i * c)) (partP P e ys (i * c))) = some ls → (Op.eqItems d e c xs ys is).run P w = .ok (eqB ls.flatten) w
  | [], ls, w, h => by
    simp at h
    subst h
    simp [Op.eqItems, eqB]
  | i :: is, ls, w, h => by
    rw [List.mapM_cons] at h
    simp only [bind, Option.bind_eq_some_iff, pure, Option.some.injEq] at h
    obtain ⟨l1, h1, ls', h2, rfl⟩ := h
    unfold eqStep at h1
    split at h1
    · rename_i a b ha hb
      have h3 := items_eq (c := c) (xs := xs) (ys := ys) ih is ls' w h2
      simp only [Op.eqItems, Sem.run_bind, run_partP ha, run_partP hb, Result.andThen_ok, ih a b l1 w h1]
      cases hq : eqB l1
      · simp [List.flatten_cons, eqB_app, hq]
      · simp [List.flatten_cons, eqB_app, hq, h3]
    · exact absurd h1 (by simp)
theorem fields_eq {d : Nat} {xs ys : Array Value} (ih : ∀ t x y l w, eqF P d t x y = some l → (Op.equalIn d t x y).run P w = .ok (eqB l) w) : ∀ (fs : List Field) (ls : List (List (Int × Int))) (w : World),
    fs.mapM (fun f => if f.name ≠ "_" then eqStep (eqF P d f.type) (partP P f.type xs f.offset) (partP P f.type ys f.offset) else none) = some ls → (Op.eqFields d xs ys fs).run P w = .ok (eqB ls.flatten) w
  | [], ls, w, h => by
    simp at h
    subst h
    simp [Op.eqFields, eqB]
  | f :: fs, ls, w, h => by
    rw [List.mapM_cons] at h
    simp only [bind, Option.bind_eq_some_iff, pure, Option.some.injEq] at h
    obtain ⟨l1, h1, ls', h2, rfl⟩ := h
    split at h1
    · rename_i hn
      unfold eqStep at h1
      split at h1
      · rename_i a b ha hb
        have h3 := fields_eq (xs := xs) (ys := ys) ih fs ls' w h2
        simp only [Op.eqFields, hn, ne_eq, not_false_eq_true, if_true, Sem.run_bind, run_partP ha, run_partP hb, Result.andThen_ok, ih f.type a b l1 w h1]
        cases hq : eqB l1
        · simp [List.flatten_cons, eqB_app, hq]
        · simp [List.flatten_cons, eqB_app, hq, h3]
      · exact absurd h1 (by simp)
    · exact absurd h1 (by simp)
theorem run_eqF : ∀ (d : Nat) (t : TypeId) (x y : Value) (l : List (Int × Int)) (w : World), eqF P d t x y = some l → (Op.equalIn d t x y).run P w = .ok (eqB l) w
  | 0, _, _, _, _, _, h => by simp [eqF] at h
  | d + 1, t, x, y, l, w, h => by
    unfold eqF at h
    split at h
    · rename_i hu
      split at h
      · rename_i hk
        subst hk
        simp only [Option.some.injEq] at h
        subst h
        simp [Op.equalIn, run_underlying hu, eqB]
      · exact absurd h (by simp)
    · rename_i n e xs ys hu
      split at h
      · rename_i hi
        obtain ⟨i, hi⟩ := Option.isSome_iff_exists.1 hi
        rw [Option.map_eq_some_iff] at h
        obtain ⟨ls, h1, rfl⟩ := h
        rw [run_equalIn_array w d xs ys hu hi]
        exact items_eq (fun x y l w => run_eqF d e x y l w) _ ls w h1
      · exact absurd h (by simp)
    · rename_i fs xs ys hu
      split at h
      · exact absurd h (by simp)
      · rename_i hp
        rw [Option.map_eq_some_iff] at h
        obtain ⟨ls, h1, rfl⟩ := h
        have hfs : P.fieldsOf t = fs := by unfold Program.fieldsOf; rw [hu]
        rw [run_equalIn_struct w d t xs ys (by rw [hfs]; exact hu) (by simpa using hp), hfs]
        exact fields_eq (fun t x y l w => run_eqF d t x y l w) _ ls w h1
    · exact absurd h (by simp)
def eqT (P : Program) (t : TypeId) (x y : Value) : Option (List (Int × Int)) := eqF P 10000 t x y
theorem eql_any {t : TypeId} {x y : Array Value} {l : List (Int × Int)} (h : eqT P t (.agg x) (.agg y) = some l) (w : World) : (binOp .eql t (.agg x) (.agg y)).run P w = .ok (.bool (eqB l)) w := by
  have h1 := run_eqF 10000 t (.agg x) (.agg y) l w h
  simp only [binOp]
  simp [Op.equal, Op.maxDepth, h1]
theorem neq_any {t : TypeId} {x y : Array Value} {l : List (Int × Int)} (h : eqT P t (.agg x) (.agg y) = some l) (w : World) : (binOp .neq t (.agg x) (.agg y)).run P w = .ok (.bool (!eqB l)) w := by
  have h1 := run_eqF 10000 t (.agg x) (.agg y) l w h
  simp only [binOp]
  simp [Op.equal, Op.maxDepth, h1]
theorem eqB_same : ∀ {l : List (Int × Int)}, l.map (·.1) = l.map (·.2) → eqB l = true
  | [], _ => rfl
  | p :: l, h => by
    simp only [List.map_cons, List.cons.injEq] at h
    have := eqB_same h.2
    unfold eqB at this ⊢
    simp only [List.all_cons, this, Bool.and_true, beq_iff_eq]
    exact h.1
theorem same_get {t : TypeId} {x y : Value} (h : (eqT P t x y).map (fun l => l.map (·.1)) = some (((eqT P t x y).map fun l => l.map (·.2)).getD [])) : ∃ l, eqT P t x y = some l ∧ eqB l = true := by
  rw [Option.map_eq_some_iff] at h
  obtain ⟨l, h1, h2⟩ := h
  rw [h1] at h2
  exact ⟨l, h1, eqB_same h2⟩
/-- Both sides are the same. -/
theorem eql_same {t : TypeId} {x y : Array Value} (w : World) (h : (eqT P t (.agg x) (.agg y)).map (fun l => l.map (·.1)) = some (((eqT P t (.agg x) (.agg y)).map fun l => l.map (·.2)).getD []) := by kernel_rfl) : (binOp .eql t (.agg x) (.agg y)).run P w = .ok (.bool true) w := by
  obtain ⟨l, h1, h2⟩ := same_get h
  rw [eql_any h1, h2]
theorem neq_same {t : TypeId} {x y : Array Value} (w : World) (h : (eqT P t (.agg x) (.agg y)).map (fun l => l.map (·.1)) = some (((eqT P t (.agg x) (.agg y)).map fun l => l.map (·.2)).getD []) := by kernel_rfl) : (binOp .neq t (.agg x) (.agg y)).run P w = .ok (.bool false) w := by
  obtain ⟨l, h1, h2⟩ := same_get h
  rw [neq_any h1, h2]; rfl
/-- Both sides are equal. -/
theorem eql_eq {t : TypeId} {x y : Array Value} (e : x = y) (w : World) (h : (eqT P t (.agg x) (.agg x)).map (fun l => l.map (·.1)) = some (((eqT P t (.agg x) (.agg x)).map fun l => l.map (·.2)).getD []) := by kernel_rfl) : (binOp .eql t (.agg x) (.agg y)).run P w = .ok (.bool true) w := by
  subst e; exact eql_same w h
theorem neq_eq {t : TypeId} {x y : Array Value} (e : x = y) (w : World) (h : (eqT P t (.agg x) (.agg x)).map (fun l => l.map (·.1)) = some (((eqT P t (.agg x) (.agg x)).map fun l => l.map (·.2)).getD []) := by kernel_rfl) : (binOp .neq t (.agg x) (.agg y)).run P w = .ok (.bool false) w := by
  subst e; exact neq_same w h
end
end Go.Proofs.YtjdhjkceahaegaaGreatDoor

/-! Little-endian numbers, sizes, as lists of bytes: what the codec computes, in plain words. -/
namespace Go.Proofs.YtjdhjkceahaegaaGreatDoor
open Go

/-- The lowest w bytes of n, the lowest first. -/
def leB (n : Nat) : Nat → List UInt8
  | 0 => []
  | w + 1 => leB n w ++ [ob ((n / 256 ^ w % 256 : Nat) : Int)]
theorem leB_length (n w : Nat) : (leB n w).length = w := by
  induction w with
  | zero => rfl
  | succ w ih => simp [leB, ih]
/-- A row that is filled byte by byte. -/
def fillC (n w i : Nat) : Array Value := (bs (leB n i ++ List.replicate (w - i) 0)).toArray
theorem fill_size {n w i : Nat} (h : i ≤ w) : (fillC n w i).size = w := by
  simp [fillC, bs, leB_length]
  omega
theorem fill_zero (n w : Nat) : fillC n w 0 = zB w := by simp [fillC, zB, leB]
theorem fill_set {n w i : Nat} (h : i < w) : (fillC n w i).setIfInBounds i (.int .u8 ((n / 256 ^ i % 256 : Nat) : Int)) = fillC n w (i + 1) := by
  have hb : bv (ob ((n / 256 ^ i % 256 : Nat) : Int)) = .int .u8 ((n / 256 ^ i % 256 : Nat) : Int) := bv_ob ⟨by omega, by omega⟩
  apply Array.ext'
  unfold fillC
  simp only [Array.toList_setIfInBounds]
  obtain ⟨m, hm⟩ : ∃ m, w - i = m + 1 := ⟨w - i - 1, by omega⟩
  rw [hm, show w - (i + 1) = m by omega, ← hb]
  rw [bs_app, leB, bs_app, bs_app]
  have hl : (bs (leB n i)).length = i := by rw [bs_length, leB_length]
  rw [List.set_append_right _ _ (by omega), hl, Nat.sub_self]
  simp [bs, List.replicate_succ]
theorem fill_hd {n w : Nat} : Hd (fillC n w w) (leB n w) := by
  unfold fillC
  rw [Nat.sub_self]
  simp only [List.replicate_zero, List.append_nil]
  exact Hd.all _
/-- The number of w bytes from a on, the lowest first. -/
def leN (xs : List UInt8) (a : Nat) : Nat → Nat
  | 0 => 0
  | i + 1 => leN xs a i + gB xs (a + i) * 256 ^ i
theorem leN_lt (xs : List UInt8) (a w : Nat) : leN xs a w < 256 ^ w := by
  induction w with
  | zero => simp [leN]
  | succ w ih =>
    have := gB_lt xs (a + w)
    rw [leN, Nat.pow_succ]
    have h1 : gB xs (a + w) * 256 ^ w ≤ 255 * 256 ^ w := Nat.mul_le_mul_right _ (by omega)
    omega
theorem leN_first (xs : List UInt8) (a w : Nat) : leN xs a (w + 1) = 256 * leN xs (a + 1) w + gB xs a := by
  induction w with
  | zero => simp [leN]
  | succ w ih =>
    rw [leN, ih, leN, Nat.pow_succ, show a + (w + 1) = a + 1 + w by omega, Nat.mul_add]
    have : gB xs (a + 1 + w) * (256 ^ w * 256) = 256 * (gB xs (a + 1 + w) * 256 ^ w) := by rw [Nat.mul_comm (256 ^ w) 256, ← Nat.mul_assoc, Nat.mul_comm (gB xs (a + 1 + w)) 256, Nat.mul_assoc]
    omega
theorem leN_or (xs : List UInt8) (a i : Nat) : leN xs a i ||| gB xs (a + i) * 256 ^ i = leN xs a (i + 1) := by
  have h := leN_lt xs a i
  rw [show (256 : Nat) = 2 ^ 8 from rfl, ← Nat.pow_mul] at h
  rw [leN, show (256 : Nat) = 2 ^ 8 from rfl, ← Nat.pow_mul, Nat.or_comm, Nat.mul_comm, ← Nat.two_pow_add_eq_or_of_lt h]
  omega
theorem or_first (v x : Nat) (h : x < 256) : v * 256 ||| x = v * 256 + x := by
  rw [Nat.mul_comm, show (256 : Nat) = 2 ^ 8 from rfl, ← Nat.two_pow_add_eq_or_of_lt h]
/-- The error of a read of w bytes at a place. -/
def rdE (n : Nat) (a : Int) (w : Nat) : Int := if a < 0 ∨ (n : Int) < a then 5 else if (n : Int) - a < (w : Int) then 1 else 0
def rdN (n : Nat) (a : Int) (w : Nat) : Int := if rdE n a w = 0 then a + w else 0
def rdV (xs : List UInt8) (a : Int) (w : Nat) : Nat := if rdE xs.length a w = 0 then leN xs a.toNat w else 0
theorem rdE_ok {n : Nat} {a : Int} {w : Nat} (h : (rdE n a w != 0) = false) : rdE n a w = 0 ∧ 0 ≤ a ∧ a + w ≤ n := by
  have h0 : rdE n a w = 0 := by simpa using h
  refine ⟨h0, ?_⟩
  unfold rdE at h0
  split at h0
  · exact absurd h0 (by decide)
  · split at h0
    · exact absurd h0 (by decide)
    · omega
theorem rdE_err {n : Nat} {a : Int} {w : Nat} (h : (rdE n a w != 0) = true) : rdE n a w ≠ 0 := by simpa using h
theorem rdV_err {xs : List UInt8} {a : Int} {w : Nat} (h : (rdE xs.length a w != 0) = true) : rdV xs a w = 0 := if_neg (rdE_err h)
theorem rdN_err {n : Nat} {a : Int} {w : Nat} (h : (rdE n a w != 0) = true) : rdN n a w = 0 := if_neg (rdE_err h)
theorem rdV_ok {xs : List UInt8} {a : Int} {w : Nat} (h : (rdE xs.length a w != 0) = false) : rdV xs a w = leN xs a.toNat w := if_pos (rdE_ok h).1
theorem rdN_ok {n : Nat} {a : Int} {w : Nat} (h : (rdE n a w != 0) = false) : rdN n a w = a + w := if_pos (rdE_ok h).1
theorem rdV_lt (xs : List UInt8) (a : Int) (w : Nat) : rdV xs a w < 256 ^ w := by
  unfold rdV
  split
  · exact leN_lt _ _ _
  · exact Nat.pow_pos (by decide)
theorem rdE5 {n : Nat} {a : Int} {w : Nat} (h : a < 0 ∨ (n : Int) < a) : rdE n a w = 5 := if_pos h
theorem rdE1 {n : Nat} {a : Int} {w : Nat} (h : ¬ (a < 0 ∨ (n : Int) < a)) (h1 : (n : Int) - a < (w : Int)) : rdE n a w = 1 := by rw [rdE, if_neg h, if_pos h1]
theorem rdE0 {n : Nat} {a : Int} {w : Nat} (h : ¬ (a < 0 ∨ (n : Int) < a)) (h1 : ¬ (n : Int) - a < (w : Int)) : rdE n a w = 0 := by rw [rdE, if_neg h, if_neg h1]
/-- The bytes of a size. -/
def szB (n : Nat) : List UInt8 :=
  if n < 253 then [ob (n : Int)] else if n < 65536 then 253 :: leB n 2 else if n < 4294967296 then 254 :: leB n 4 else 255 :: leB n 8
/-- What is read of a size. -/
def szLeast (m : Nat) : Nat := if m = 253 then 253 else if m = 254 then 65536 else 4294967296
def szR (xs : List UInt8) (a : Int) (most : Nat) : Nat × Int × Int :=
  if rdE xs.length a 1 ≠ 0 then (0, 0, rdE xs.length a 1) else
  if rdV xs a 1 < 253 then (if most < rdV xs a 1 then (0, 0, 4) else (rdV xs a 1, rdN xs.length a 1, 0)) else
  if rdE xs.length (rdN xs.length a 1) (2 ^ (rdV xs a 1 - 252)) ≠ 0 then (0, 0, rdE xs.length (rdN xs.length a 1) (2 ^ (rdV xs a 1 - 252))) else
  if rdV xs (rdN xs.length a 1) (2 ^ (rdV xs a 1 - 252)) < szLeast (rdV xs a 1) then (0, 0, 3) else
  if most < rdV xs (rdN xs.length a 1) (2 ^ (rdV xs a 1 - 252)) then (0, 0, 4) else
  (rdV xs (rdN xs.length a 1) (2 ^ (rdV xs a 1 - 252)), rdN xs.length (rdN xs.length a 1) (2 ^ (rdV xs a 1 - 252)), 0)
def szV (xs : List UInt8) (a : Int) (most : Nat) : Nat := (szR xs a most).1
def szN (xs : List UInt8) (a : Int) (most : Nat) : Int := (szR xs a most).2.1
def szE (xs : List UInt8) (a : Int) (most : Nat) : Int := (szR xs a most).2.2
def szT (xs : List UInt8) (a : Int) (most : Nat) : Value := .tuple #[.int .u64 ((szV xs a most : Nat) : Int), .int .i64 (szN xs a most), .int .i64 (szE xs a most)]
theorem szT_of {xs : List UInt8} {a : Int} {most : Nat} {v : Nat} {n e : Int} (h : szR xs a most = (v, n, e)) : .tuple #[.int .u64 (v : Int), .int .i64 n, .int .i64 e] = szT xs a most := by
  unfold szT szV szN szE
  rw [h]
theorem szV_lt (xs : List UInt8) (a : Int) (most : Nat) : szV xs a most < 18446744073709551616 := by
  unfold szV szR
  have key : ∀ b w, w ≤ 8 → rdV xs b w < 18446744073709551616 := fun b w hw => Nat.lt_of_lt_of_le (rdV_lt xs b w) (by
    rw [show (18446744073709551616 : Nat) = 256 ^ 8 from rfl]; exact Nat.pow_le_pow_right (by decide) hw)
  have hm : rdV xs a 1 < 256 := rdV_lt xs a 1
  have hw : ∀ m, 253 ≤ m → m < 256 → 2 ^ (m - 252) ≤ 8 := by
    intro m h1 h2
    have : m - 252 ≤ 3 := by omega
    exact Nat.pow_le_pow_right (n := 2) (by decide) this
  split
  · exact Nat.zero_lt_succ _
  · split
    · split
      · exact Nat.zero_lt_succ _
      · exact key _ _ (by decide)
    · have := hw (rdV xs a 1) (by omega) hm
      split
      · exact Nat.zero_lt_succ _
      · split
        · exact Nat.zero_lt_succ _
        · split
          · exact Nat.zero_lt_succ _
          · exact key _ _ this
end Go.Proofs.YtjdhjkceahaegaaGreatDoor

/-! Signatures as bytes: what is reckoned. -/
namespace Go.Proofs.YtjdhjkceahaegaaGreatDoor
open Go Go.RowKit

theorem rver_1 {p m E S : Nat} (h : valB p = false) : false = verB p m E S := by unfold verB; rw [h]; cases scB E <;> cases scB S <;> rfl
theorem rver_2 {p m E S : Nat} (_ : valB p = true) (h : scB E = false) : false = verB p m E S := by unfold verB; rw [h]; rfl
theorem rver_3 {p m E S : Nat} (_ : valB p = true) (h1 : scB E = true) (h : scB S = false) : false = verB p m E S := by unfold verB; rw [h1, h]; rfl
theorem rver_4 {p m E S : Nat} (h : valB p = true) (h1 : scB E = true) (h2 : scB S = true) : decide (E = chaN (mulmN (expmN 4 S pP) (expmN p ((qP + M - E) % M) pP) pP) p m) = verB p m E S := ver_4 h1 h2 h
def dcE (B : List UInt8) : Nat := nB ((mid B 0 32).take 32)
def dcS (B : List UInt8) : Nat := nB ((mid B 32 (B.length)).take 32)
def sdOk (B : List UInt8) : Bool := decide (B.length = 64) && (scB (dcE B) && scB (dcS B))
def sdE (B : List UInt8) : Nat := if sdOk B = true then dcE B else 0
def sdS (B : List UInt8) : Nat := if sdOk B = true then dcS B else 0
def sdX (B : List UInt8) : Int := if B.length = 64 then (if sdOk B = true then 0 else 5) else 8
theorem sc_lt {a : Nat} (h : scB a = true) : a < M := by
  unfold scB at h
  exact Nat.lt_trans (of_decide_eq_true h) qP_lt
theorem sdE_lt (B : List UInt8) : sdE B < M := by
  unfold sdE
  split
  · rename_i h
    unfold sdOk at h
    simp only [Bool.and_eq_true] at h
    exact sc_lt h.2.1
  · exact M_pos
theorem sdS_lt (B : List UInt8) : sdS B < M := by
  unfold sdS
  split
  · rename_i h
    unfold sdOk at h
    simp only [Bool.and_eq_true] at h
    exact sc_lt h.2.2
  · exact M_pos
theorem ne64 {B : List UInt8} (h : ((((B).length : Nat) : Int) != 64) = false) : B.length = 64 := by
  have : (((B).length : Nat) : Int) = 64 := by simpa using h
  omega
theorem sd_a {B : List UInt8} (h : ((((B).length : Nat) : Int) != 64) = true) : sdE B = 0 ∧ sdS B = 0 ∧ sdX B = 8 := by
  have h1 : ¬ B.length = 64 := by
    intro e
    rw [e] at h
    exact absurd h (by decide)
  have h2 : sdOk B = false := by unfold sdOk; rw [decide_eq_false h1]; rfl
  unfold sdE sdS sdX
  rw [h2, if_neg h1]
  exact ⟨rfl, rfl, rfl⟩
theorem sd_b1 {B : List UInt8} (h : B.length = 64) (h1 : scB (dcE B) = false) : sdE B = 0 ∧ sdS B = 0 ∧ sdX B = 5 := by
  have h2 : sdOk B = false := by unfold sdOk; rw [h1]; cases decide (B.length = 64) <;> rfl
  unfold sdE sdS sdX
  rw [h2, if_pos h]
  exact ⟨rfl, rfl, rfl⟩
theorem sd_b2 {B : List UInt8} (h : B.length = 64) (h1 : scB (dcE B) = true) (h3 : scB (dcS B) = false) : sdE B = 0 ∧ sdS B = 0 ∧ sdX B = 5 := by
  have h2 : sdOk B = false := by unfold sdOk; rw [h1, h3]; cases decide (B.length = 64) <;> rfl
  unfold sdE sdS sdX
  rw [h2, if_pos h]
  exact ⟨rfl, rfl, rfl⟩
theorem sd_c {B : List UInt8} (h : B.length = 64) (h1 : scB (dcE B) = true) (h3 : scB (dcS B) = true) : sdE B = nB ((mid B 0 32).take 32) ∧ sdS B = nB ((mid B 32 (B.length)).take 32) ∧ sdX B = 0 := by
  have h2 : sdOk B = true := by unfold sdOk; rw [h1, h3, decide_eq_true h]; rfl
  unfold sdE sdS sdX
  rw [h2, if_pos h]
  exact ⟨rfl, rfl, rfl⟩
theorem nB_hL {A : Nat} (h : A < M) : nB (hL A) = A := by
  have h1 := hB_nB (hL_length A)
  have h2 : (bs (hL A)).toArray = hB A := ((hd_hB A).eq (by rw [hB_size, hL_length])).symm
  rw [h2] at h1
  have h3 := (byt_inj h (nB_M (hL_length A))).1 (fun i hi => by
    have h4 := congrArg (fun z : Array Value => z[i]?) h1
    simp only [hB_get _ i hi, Option.some.injEq, Value.int.injEq, true_and] at h4
    exact_mod_cast h4)
  exact h3.symm
theorem sd_back {E S : Nat} (hE : E < M) (hS : S < M) (h : ((sdX (hL E ++ hL S)) != 0) = false) : cU (sdE (hL E ++ hL S)) ++ cU (sdS (hL E ++ hL S)) = cU E ++ cU S := by
  have hl : (hL E ++ hL S).length = 64 := by rw [List.length_append, hL_length, hL_length]
  have h1 : sdX (hL E ++ hL S) = 0 := by simpa using h
  have hok : sdOk (hL E ++ hL S) = true := by
    unfold sdX at h1
    rw [if_pos hl] at h1
    cases hq : sdOk (hL E ++ hL S) with
    | true => rfl
    | false => rw [hq] at h1; exact absurd h1 (by decide)
  have eE : dcE (hL E ++ hL S) = E := by
    unfold dcE mid
    rw [List.drop_zero, List.take_take, Nat.min_self, List.take_append_of_le_length (by rw [hL_length]; exact Nat.le_refl _), List.take_of_length_le (by rw [hL_length]; exact Nat.le_refl _)]
    exact nB_hL hE
  have eS : dcS (hL E ++ hL S) = S := by
    unfold dcS mid
    rw [List.take_of_length_le (Nat.le_refl _), List.drop_append_of_le_length (by rw [hL_length]; exact Nat.le_refl _), List.drop_of_length_le (by rw [hL_length]; exact Nat.le_refl _), List.nil_append, List.take_of_length_le (by rw [hL_length]; exact Nat.le_refl _)]
    exact nB_hL hS
  unfold sdE sdS
  rw [if_pos hok, if_pos hok, eE, eS]
end Go.Proofs.YtjdhjkceahaegaaGreatDoor

/-! Trees of keys, in plain words. -/
namespace Go.Proofs.YtjdhjkceahaegaaGreatDoor
open Go

def tgS : List UInt8 := [108, 105, 103, 104, 116, 99, 108, 105, 101, 110, 116, 47, 115, 111, 102, 116]
def tgH : List UInt8 := [108, 105, 103, 104, 116, 99, 108, 105, 101, 110, 116, 47, 104, 97, 114, 100]
def tgM : List UInt8 := [108, 105, 103, 104, 116, 99, 108, 105, 101, 110, 116, 47, 109, 97, 115, 116, 101, 114]
def tgI : List UInt8 := [108, 105, 103, 104, 116, 99, 108, 105, 101, 110, 116, 47, 99, 104, 97, 105, 110]
/-- A key. -/
structure Ky where
  s : Nat
  p : Nat
  c : Nat
  d : Int
  i : Nat
  n : Nat
structure Ky.Ok (k : Ky) : Prop where
  s : k.s < M
  p : k.p < M
  c : k.c < M
  i : k.i < 4294967296
  n : k.n < 4294967296
def Ky.z : Ky := ⟨0, 0, 0, 0, 0, 0⟩
theorem Ky.z_ok : Ky.z.Ok := ⟨zeroM, zeroM, zeroM, by decide, by decide⟩
def Ky.neu (k : Ky) : Ky := { k with s := 0 }
theorem Ky.neu_ok {k : Ky} (h : k.Ok) : k.neu.Ok := ⟨zeroM, h.p, h.c, h.i, h.n⟩
def hdB (i : Nat) : Bool := decide (2147483648 ≤ i)
def sndB (k : Ky) : Bool := decide (0 ≤ k.d) && (decide (k.d ≤ 8) && (valB k.p && (decide (k.s = 0) || (decide (pubE k.s = 0) && decide (pubV k.s = k.p)))))
/-- The first bytes of a digest, as a number. -/
def bN (D j : Nat) : Nat := D / 256 ^ (31 - j) % 256
theorem byt_bN (D j : Nat) : byt D j = ((bN D j : Nat) : Int) := rfl
def hiN (D : Nat) : Nat → Nat
  | 0 => 0
  | j + 1 => hiN D j * 256 + bN D j
def prN (p : Nat) : Nat := hiN (shaN (hL p)) 4
theorem bN_lt (D j : Nat) : bN D j < 256 := Nat.mod_lt _ (by decide)
theorem hiN_lt (D : Nat) : ∀ j, hiN D j < 256 ^ j
  | 0 => by simp [hiN]
  | j + 1 => by
    have := hiN_lt D j
    have := bN_lt D j
    rw [hiN, Nat.pow_succ]
    omega
theorem prN_lt (p : Nat) : prN p < 4294967296 := hiN_lt _ 4
def twk (k : Ky) (i : Nat) : Nat := if hdB i = true then tagN tgH ((hL k.c ++ hL k.s) ++ leB i 4) else tagN tgS ((hL k.c ++ hL k.p) ++ leB i 4)
theorem twk_lt (k : Ky) (i : Nat) : twk k i < M := ifM (tagN_lt _ _) (tagN_lt _ _)
def xB (v : UInt8) (K : Nat) : List UInt8 := (hL K ++ List.replicate 32 0).map (· ^^^ v)
def hmN (K : Nat) (B : List UInt8) : Nat := shaN (xB 92 K ++ hL (shaN (xB 54 K ++ B)))
theorem hmN_lt (K : Nat) (B : List UInt8) : hmN K B < M := shaN_lt _
/-- Why a step is not taken. -/
def stE (k : Ky) (i : Nat) : Int :=
  if k.d = 8 then 4 else if hdB i = true ∧ k.s = 0 then 250 else if k.s = 0 then twE k.p (twk k i) else tsE k.s (twk k i)
def chE (k : Ky) (i : Nat) : Int := if sndB k = true then stE k i else 6
/-- The key that is one step from k. -/
def stK (k : Ky) (i : Nat) : Ky :=
  if stE k i = 0 then { s := if k.s = 0 then 0 else tsV k.s (twk k i), p := if k.s = 0 then twV k.p (twk k i) else pubV (tsV k.s (twk k i)), c := hmN k.c (hL (twk k i)), d := k.d + 1, i := i, n := prN k.p } else Ky.z
def chK (k : Ky) (i : Nat) : Ky := if sndB k = true then stK k i else Ky.z
theorem stK_ok (k : Ky) (i : Nat) (hi : i < 4294967296) : (stK k i).Ok := by
  unfold stK
  split
  · exact ⟨ifM zeroM (tsV_lt _ _), ifM (twV_lt _ _) (pubV_lt _), hmN_lt _ _, hi, prN_lt _⟩
  · exact Ky.z_ok
theorem chK_ok (k : Ky) (i : Nat) (hi : i < 4294967296) : (chK k i).Ok := by
  unfold chK
  split
  · exact stK_ok k i hi
  · exact Ky.z_ok
/-! ### a step from a sound key leads to a sound key -/
theorem snd_get {k : Ky} (h : sndB k = true) : 0 ≤ k.d ∧ k.d ≤ 8 ∧ valB k.p = true ∧ (k.s = 0 ∨ (secB k.s = true ∧ pubV k.s = k.p)) := by
  unfold sndB at h
  simp only [Bool.and_eq_true, Bool.or_eq_true, decide_eq_true_eq] at h
  refine ⟨h.1, h.2.1, h.2.2.1, h.2.2.2.imp id (fun q => ⟨?_, q.2⟩)⟩
  cases e : secB k.s
  · have := q.1; rw [(pub_no e).2] at this; exact absurd this (by decide)
  · rfl
theorem snd_mk {k : Ky} (h0 : 0 ≤ k.d) (h8 : k.d ≤ 8) (hv : valB k.p = true) (hs : k.s = 0 ∨ (secB k.s = true ∧ pubV k.s = k.p)) : sndB k = true := by
  unfold sndB
  rw [decide_eq_true h0, decide_eq_true h8, hv]
  rcases hs with hs | ⟨hs, hp⟩
  · rw [decide_eq_true hs]; rfl
  · rw [decide_eq_true hp, decide_eq_true (pub_yes hs).2, Bool.and_self, Bool.or_true]; rfl
theorem mem_mul {a b : Nat} (ha : memB a = true) (hb : memB b = true) : memB (mulmN a b pP) = true := by
  unfold memB at ha hb ⊢
  have ha := of_decide_eq_true ha
  have hb := of_decide_eq_true hb
  have hpp := pP_pos
  have e : mulmN a b pP = a * b % pP := by unfold mulmN; rw [if_neg (by omega)]
  rw [e]
  have h1 : (a * b % pP) ^ qP % pP = 1 := by
    rw [← Nat.pow_mod, Nat.mul_pow, Nat.mul_mod, ha.2.2, hb.2.2]
    exact Nat.mod_eq_of_lt hpp
  apply decide_eq_true
  refine ⟨?_, Nat.mod_lt _ (by omega), h1⟩
  intro h0
  rw [h0, Nat.zero_pow (by have := qP_pos; omega)] at h1
  simp at h1
theorem val_tw {p t : Nat} (hp : valB p = true) (h1 : twO p t ≠ 1) : valB (twO p t) = true := by
  unfold valB at hp ⊢
  rw [Bool.and_eq_true] at hp
  rw [decide_eq_true h1, Bool.true_and]
  unfold twO
  exact mem_mul hp.2 (law_mem _)
theorem st_snd {k : Ky} {i : Nat} (h : sndB k = true) (h0 : stE k i = 0) : sndB (stK k i) = true := by
  obtain ⟨g0, g8, gv, gs⟩ := snd_get h
  have hE := h0
  unfold stK
  rw [if_pos h0]
  unfold stE at h0
  split at h0
  · exact absurd h0 (by decide)
  · rename_i hd
    split at h0
    · exact absurd h0 (by decide)
    · split at h0
      · rename_i hs
        have hne : twO k.p (twk k i) ≠ 1 := by
          intro e; rw [(tw_b gv e).2] at h0; exact absurd h0 (by decide)
        refine snd_mk (by show 0 ≤ k.d + 1; omega) (by show k.d + 1 ≤ 8; omega) ?_ (Or.inl ?_)
        · show valB (if k.s = 0 then twV k.p (twk k i) else _) = true
          rw [if_pos hs, (tw_c gv hne).1]; exact val_tw gv hne
        · show (if k.s = 0 then 0 else _) = 0
          rw [if_pos hs]
      · rename_i hs
        have ho := tsE_ok (x := k.s) (t := twk k i) (by rw [h0]; rfl)
        have hb := both ho.1 ho.2
        refine snd_mk (by show 0 ≤ k.d + 1; omega) (by show k.d + 1 ≤ 8; omega) ?_ (Or.inr ⟨?_, ?_⟩)
        · show valB (if k.s = 0 then _ else pubV (tsV k.s (twk k i))) = true
          rw [if_neg hs, (pub_yes hb.2.2.2).1]; exact val_pub hb.2.2.2
        · show secB (if k.s = 0 then 0 else tsV k.s (twk k i)) = true
          rw [if_neg hs]; exact hb.2.2.2
        · show pubV (if k.s = 0 then 0 else tsV k.s (twk k i)) = (if k.s = 0 then _ else pubV (tsV k.s (twk k i)))
          rw [if_neg hs, if_neg hs]
/-! ### paths -/
def dvE (k : Ky) : List Nat → Int
  | [] => 0
  | i :: r => if stE k i = 0 then dvE (stK k i) r else stE k i
def dvK (k : Ky) : List Nat → Ky
  | [] => k
  | i :: r => if stE k i = 0 then dvK (stK k i) r else Ky.z
def drE (k : Ky) (l : List Nat) : Int := if sndB k = true then dvE k l else 6
def drK (k : Ky) (l : List Nat) : Ky := if sndB k = true then dvK k l else Ky.z
end Go.Proofs.YtjdhjkceahaegaaGreatDoor
