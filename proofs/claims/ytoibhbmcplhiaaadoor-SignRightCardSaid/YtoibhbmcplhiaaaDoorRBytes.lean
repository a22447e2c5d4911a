/-
  Big-endian forms: the walks of the reference's Bytes and FromBytes.
-/
import Derived.Test.YtoibhbmcplhiaaaDoorBytes
namespace Go.Proofs.YtoibhbmcplhiaaaDoor
open Go Go.RowKit
theorem setCell_drewN (w : World) (n : Nat) (a : Addr) (v : Value) : (w.drewN n).setCell a v = (w.setCell a v).drewN n := rfl
set_option maxHeartbeats 1000000 in
set_option maxRecDepth 100000 in
theorem rfrombytes_any (A : Nat) (w : World) :
    Calls Tryd.prog 64 #[.agg (hB A)] w fun e w' => e = .returned (U A) ∧ Below w.heap.size w w' := by
  go_enter Tryd.func64, Tryd.ntmps64
  go_wp2
  go_loopw [6] (fun i wr => ∃ (k n : Nat), k ≤ 32 ∧ i = .int .i64 k ∧ wr = (((w.alloc (.cells (hB A) 26)).alloc (.cells #[.int .u64 0, .int .u64 0, .int .u64 0, .int .u64 0] 24)).alloc (.cells #[.int .u64 (top A 0 k), .int .u64 (top A 1 k), .int .u64 (top A 2 k), .int .u64 (top A 3 k)] 24)).drewN n) (fun i _ => 32 - (intOf i).toNat)
  case atStart => exact ⟨0, 0, by omega, rfl, by rw [World.drewN_zero, top_start A 0 0 (by omega), top_start A 1 0 (by omega), top_start A 2 0 (by omega), top_start A 3 0 (by omega)]⟩
  case round =>
    obtain ⟨k, n, hk, rfl, rfl⟩ := hrel
    by_cases hlt : k < 32
    · have hcell := hB_get A k hlt
      rcases (by omega : (31 - (k : Int)) / 8 = 0 ∨ (31 - (k : Int)) / 8 = 1 ∨ (31 - (k : Int)) / 8 = 2 ∨ (31 - (k : Int)) / 8 = 3) with h8 | h8 | h8 | h8
      all_goals
        go_wp2
        go_region
        go_wp2
        go_roundw
        case rel =>
          refine ⟨k + 1, n + 1, by omega, by go_num, ?_⟩
          have e8 : 8 * ((31 - k) % 8) = 56 - k % 8 * 8 := by omega
          rw [e8, u64_in' (byt_nonneg A k) (by have := byt_lt A k; omega), top_byte_in A k, setCell_drewN, World.setCell_alloc_at _ _ _ _ _ (by simp)]
          first
            | (rw [top_step A 3 k hlt (by omega), top_other A 0 k (by omega) (by omega), top_other A 1 k (by omega) (by omega), top_other A 2 k (by omega) (by omega)]; rfl)
            | (rw [top_step A 2 k hlt (by omega), top_other A 0 k (by omega) (by omega), top_other A 1 k (by omega) (by omega), top_other A 3 k (by omega) (by omega)]; rfl)
            | (rw [top_step A 1 k hlt (by omega), top_other A 0 k (by omega) (by omega), top_other A 2 k (by omega) (by omega), top_other A 3 k (by omega) (by omega)]; rfl)
            | (rw [top_step A 0 k hlt (by omega), top_other A 1 k (by omega) (by omega), top_other A 2 k (by omega) (by omega), top_other A 3 k (by omega) (by omega)]; rfl)
        case measure => simp [intOf]; omega
    · obtain rfl : k = 32 := by omega
      rw [top_end A 0 (by omega), top_end A 1 (by omega), top_end A 2 (by omega), top_end A 3 (by omega)]
      go_wp2
      go_returns
      refine ⟨rfl, ?_⟩
      (repeat' (first | (with_reducible exact Below.refl _ _) | (with_reducible assumption) | (with_reducible refine below_drewN ?_ _) | (with_reducible refine Below.drew ?_) | (with_reducible refine Below.setCell ?_ ?_ _) | (with_reducible refine Below.alloc ?_ ?_ _) | (with_reducible exact Nat.le_refl _) | omega | (simp; omega) | (simp; done)))
set_option maxHeartbeats 1000000 in
set_option maxRecDepth 100000 in
theorem rbytes_any (A : Nat) (w : World) :
    Calls Tryd.prog 77 #[U A] w fun e w' => e = .returned (.agg (hB A)) ∧ Below w.heap.size w w' := by
  go_enter Tryd.func77, Tryd.ntmps77
  go_wp2
  obtain ⟨Z, hZ⟩ : ∃ Z : Array Value, Z = #[Value.int IntKind.u8 0, Value.int IntKind.u8 0, Value.int IntKind.u8 0, Value.int IntKind.u8 0, Value.int IntKind.u8 0, Value.int IntKind.u8 0, Value.int IntKind.u8 0, Value.int IntKind.u8 0, Value.int IntKind.u8 0, Value.int IntKind.u8 0, Value.int IntKind.u8 0, Value.int IntKind.u8 0, Value.int IntKind.u8 0, Value.int IntKind.u8 0, Value.int IntKind.u8 0, Value.int IntKind.u8 0, Value.int IntKind.u8 0, Value.int IntKind.u8 0, Value.int IntKind.u8 0, Value.int IntKind.u8 0, Value.int IntKind.u8 0, Value.int IntKind.u8 0, Value.int IntKind.u8 0, Value.int IntKind.u8 0, Value.int IntKind.u8 0, Value.int IntKind.u8 0, Value.int IntKind.u8 0, Value.int IntKind.u8 0, Value.int IntKind.u8 0, Value.int IntKind.u8 0, Value.int IntKind.u8 0, Value.int IntKind.u8 0] := ⟨_, rfl⟩
  rw [← hZ]
  have hz : Z.size = 32 := by rw [hZ]; rfl
  clear hZ
  go_loopw [6] (fun i wr => ∃ (k : Nat) (C : Array Value), k ≤ 32 ∧ i = .int .i64 k ∧ C.size = 32 ∧ (∀ j, j < k → C[j]? = some (.int .u8 (byt A j))) ∧ wr = ((w.alloc (.cells #[.int .u64 (wd A 0), .int .u64 (wd A 1), .int .u64 (wd A 2), .int .u64 (wd A 3)] 24)).alloc (.cells Z 26)).alloc (.cells C 26)) (fun i _ => 32 - (intOf i).toNat)
  case atStart => exact ⟨0, Z, by omega, rfl, hz, fun j hj => by omega, rfl⟩
  case round =>
    obtain ⟨k, C, hk, rfl, hC, hj, rfl⟩ := hrel
    have HC := Lib.hid hC; have HJ := Lib.hid hj; have HZ := Lib.hid hz
    clear hC hj hz
    by_cases hlt : k < 32
    · have hC2 : k < C.size := by have := HC.out; omega
      rcases (by omega : (31 - (k : Int)) / 8 = 0 ∨ (31 - (k : Int)) / 8 = 1 ∨ (31 - (k : Int)) / 8 = 2 ∨ (31 - (k : Int)) / 8 = 3) with h8 | h8 | h8 | h8
      all_goals
        go_wp2
        go_roundw
        case rel =>
          first | (obtain ⟨g1, g2⟩ := hB_step HC.out hlt HJ.out (byt_wd' A 3 k hlt (by omega)); exact ⟨k + 1, _, by omega, by go_num, g1, g2, rfl⟩) | (obtain ⟨g1, g2⟩ := hB_step HC.out hlt HJ.out (byt_wd' A 2 k hlt (by omega)); exact ⟨k + 1, _, by omega, by go_num, g1, g2, rfl⟩) | (obtain ⟨g1, g2⟩ := hB_step HC.out hlt HJ.out (byt_wd' A 1 k hlt (by omega)); exact ⟨k + 1, _, by omega, by go_num, g1, g2, rfl⟩) | (obtain ⟨g1, g2⟩ := hB_step HC.out hlt HJ.out (byt_wd' A 0 k hlt (by omega)); exact ⟨k + 1, _, by omega, by go_num, g1, g2, rfl⟩)
        case measure => simp [intOf]; omega
    · go_wp2_with (first | (refine wl_load (w.heap.size + 1 + 1) 26 C _ rfl (hp_3_2 _ _ _ _) Tryd.underlying26 rfl (size_hash HC.out) ?_) | (refine wl_store (w.heap.size + 1) 26 Z C rfl rfl (hp_3_1 _ _ _ _) (size_hash HC.out) (HZ.out.trans HC.out.symm) (by rw [hB_ext HC.out (fun j h => HJ.out j (by omega))]; exact hB_one A) ?_))
      rw [sr_3_1]
      refine bodyPost_ret (results_cell_row rfl _ _ (w.heap.size + 1) 26 C (0, 0) _ rfl (hp_3_1 _ _ _ _) Tryd.underlying26 rfl (size_hash HC.out)) rfl ?_
      refine ⟨by rw [hB_ext HC.out (fun j h => HJ.out j (by omega))], ?_⟩
      (repeat' (first | (with_reducible exact Below.refl _ _) | (with_reducible assumption) | (with_reducible refine below_drewN ?_ _) | (with_reducible refine Below.drew ?_) | (with_reducible refine Below.setCell ?_ ?_ _) | (with_reducible refine Below.alloc ?_ ?_ _) | (with_reducible exact Nat.le_refl _) | omega | (simp; omega) | (simp; done)))
end Go.Proofs.YtoibhbmcplhiaaaDoor
