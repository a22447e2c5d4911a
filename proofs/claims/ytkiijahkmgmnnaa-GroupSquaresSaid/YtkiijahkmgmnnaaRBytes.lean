/-
  Big-endian forms: the walks of the reference's Bytes and FromBytes.
-/
import Derived.Test.YtkiijahkmgmnnaaBytes
namespace Go.Proofs.Ytkiijahkmgmnnaa
open Go Go.RowKit
theorem setCell_drewN (w : World) (n : Nat) (a : Addr) (v : Value) : (w.drewN n).setCell a v = (w.setCell a v).drewN n := rfl
set_option maxHeartbeats 1000000 in
set_option maxRecDepth 100000 in
theorem rfrombytes_any (A : Nat) (w : World) :
    Calls Try.prog 81 #[.agg (hB A)] w fun e w' => e = .returned (U A) ∧ Below w.heap.size w w' := by
  go_enter Try.func81, Try.ntmps81
  go_wp2
  go_loopw [6] (fun i wr => ∃ (k n : Nat), k ≤ 32 ∧ i = .int .i64 k ∧ wr = (((w.alloc (.cells (hB A) 44)).alloc (.cells #[.int .u64 0, .int .u64 0, .int .u64 0, .int .u64 0] 24)).alloc (.cells #[.int .u64 (top A 0 k), .int .u64 (top A 1 k), .int .u64 (top A 2 k), .int .u64 (top A 3 k)] 24)).drewN n) (fun i _ => 32 - (intOf i).toNat)
  case atStart => exact ⟨0, 0, by omega, rfl, by rw [World.drewN_zero, top_start A 0 0 (by omega), top_start A 1 0 (by omega), top_start A 2 0 (by omega), top_start A 3 0 (by omega)]⟩
  case round =>
    obtain ⟨k, n, hk, rfl, rfl⟩ := hrel
    by_cases hlt : k < 32
    · have hcell := hB_get A k hlt
      rcases (by omega : (31 - (k : Int)) / 8 = 0 ∨ (31 - (k : Int)) / 8 = 1 ∨ (31 - (k : Int)) / 8 = 2 ∨ (31 - (k : Int)) / 8 = 3) with h8 | h8 | h8 | h8
      all_goals
        go_wp2
        go_region
        go_wp2
        go_roundw
        case rel =>
          refine ⟨k + 1, n + 1, by omega, by go_num, ?_⟩
          have e8 : 8 * ((31 - k) % 8) = 56 - k % 8 * 8 := by omega
          rw [e8, u64_in' (byt_nonneg A k) (by have := byt_lt A k; omega), top_byte_in A k, setCell_drewN, World.setCell_alloc_at _ _ _ _ _ (by simp)]
          first
            | (rw [top_step A 3 k hlt (by omega), top_other A 0 k (by omega) (by omega), top_other A 1 k (by omega) (by omega), top_other A 2 k (by omega) (by omega)]; rfl)
            | (rw [top_step A 2 k hlt (by omega), top_other A 0 k (by omega) (by omega), top_other A 1 k (by omega) (by omega), top_other A 3 k (by omega) (by omega)]; rfl)
            | (rw [top_step A 1 k hlt (by omega), top_other A 0 k (by omega) (by omega), top_other A 2 k (by omega) (by omega), top_other A 3 k (by omega) (by omega)]; rfl)
            | (rw [top_step A 0 k hlt (by omega), top_other A 1 k (by omega) (by omega), top_other A 2 k (by omega) (by omega), top_other A 3 k (by omega) (by omega)]; rfl)
        case measure => simp [intOf]; omega
    · obtain rfl : k = 32 := by omega
      rw [top_end A 0 (by omega), top_end A 1 (by omega), top_end A 2 (by omega), top_end A 3 (by omega)]
      go_wp2
      go_returns
      refine ⟨rfl, ?_⟩
      (repeat' (first | (with_reducible exact Below.refl _ _) | (with_reducible assumption) | (with_reducible refine below_drewN ?_ _) | (with_reducible refine Below.drew ?_) | (with_reducible refine Below.setCell ?_ ?_ _) | (with_reducible refine Below.alloc ?_ ?_ _) | (with_reducible exact Nat.le_refl _) | omega | (simp; omega) | (simp; done)))
end Go.Proofs.Ytkiijahkmgmnnaa
