/-
  Big-endian forms: the walks of Bytes and FromBytes.
-/
import Derived.Test.YtoibhbmcplhiaaaDoorRow
import Derived.Test.YtoibhbmcplhiaaaDoorBytesNum
namespace Go.Proofs.YtoibhbmcplhiaaaDoor
open Go Go.RowKit

theorem hB_step {A k : Nat} {C : Array Value} {v : Int} (hC : C.size = 32) (hk : k < 32) (hj : ∀ j, j < k → C[j]? = some (.int .u8 (byt A j))) (hv : v = byt A k) :
    (C.setIfInBounds k (.int .u8 v)).size = 32 ∧ ∀ j, j < k + 1 → (C.setIfInBounds k (.int .u8 v))[j]? = some (.int .u8 (byt A j)) := by
  refine ⟨by simpa using hC, fun j h => ?_⟩
  by_cases e : j = k
  · subst e; rw [hv]; simp [hC, hk]
  · rw [Array.getElem?_setIfInBounds_ne (fun x => e x.symm)]; exact hj j (by omega)

theorem size_hash {C : Array Value} (h : C.size = 32) : (Tryd.prog.info? 26).map (·.size) = some C.size := by rw [h]; kernel_rfl

set_option maxHeartbeats 1000000 in
set_option maxRecDepth 100000 in
theorem bytes_any (A : Nat) (w : World) :
    Calls Tryd.prog 46 #[U A] w fun e w' => e = .returned (.agg (hB A)) ∧ Below w.heap.size w w' := by
  go_enter Tryd.func46, Tryd.ntmps46
  go_wp2
  obtain ⟨Z, hZ⟩ : ∃ Z : Array Value, Z = #[Value.int IntKind.u8 0, Value.int IntKind.u8 0, Value.int IntKind.u8 0, Value.int IntKind.u8 0, Value.int IntKind.u8 0, Value.int IntKind.u8 0, Value.int IntKind.u8 0, Value.int IntKind.u8 0, Value.int IntKind.u8 0, Value.int IntKind.u8 0, Value.int IntKind.u8 0, Value.int IntKind.u8 0, Value.int IntKind.u8 0, Value.int IntKind.u8 0, Value.int IntKind.u8 0, Value.int IntKind.u8 0, Value.int IntKind.u8 0, Value.int IntKind.u8 0, Value.int IntKind.u8 0, Value.int IntKind.u8 0, Value.int IntKind.u8 0, Value.int IntKind.u8 0, Value.int IntKind.u8 0, Value.int IntKind.u8 0, Value.int IntKind.u8 0, Value.int IntKind.u8 0, Value.int IntKind.u8 0, Value.int IntKind.u8 0, Value.int IntKind.u8 0, Value.int IntKind.u8 0, Value.int IntKind.u8 0, Value.int IntKind.u8 0] := ⟨_, rfl⟩
  rw [← hZ]
  have hz : Z.size = 32 := by rw [hZ]; rfl
  clear hZ
  go_loopw [5] (fun i wr => ∃ (k : Nat) (C : Array Value), k ≤ 32 ∧ i = .int .i64 k ∧ C.size = 32 ∧ (∀ j, j < k → C[j]? = some (.int .u8 (byt A j))) ∧ wr = ((w.alloc (.cells #[.int .u64 (wd A 0), .int .u64 (wd A 1), .int .u64 (wd A 2), .int .u64 (wd A 3)] 24)).alloc (.cells Z 26)).alloc (.cells C 26)) (fun i _ => 32 - (intOf i).toNat)
  case atStart => exact ⟨0, Z, by omega, rfl, hz, fun j hj => by omega, rfl⟩
  case round =>
    obtain ⟨k, C, hk, rfl, hC, hj, rfl⟩ := hrel
    have HC := Lib.hid hC; have HJ := Lib.hid hj; have HZ := Lib.hid hz
    clear hC hj hz
    by_cases hlt : k < 32
    · have hC2 : k < C.size := by have := HC.out; omega
      rcases (by omega : (k : Int) / 8 = 0 ∨ (k : Int) / 8 = 1 ∨ (k : Int) / 8 = 2 ∨ (k : Int) / 8 = 3) with h8 | h8 | h8 | h8
      all_goals
        go_wp2
        go_roundw
        case rel =>
          first | (obtain ⟨g1, g2⟩ := hB_step HC.out hlt HJ.out (byt_wd A 3 k hlt (by omega)); exact ⟨k + 1, _, by omega, by go_num, g1, g2, rfl⟩) | (obtain ⟨g1, g2⟩ := hB_step HC.out hlt HJ.out (byt_wd A 2 k hlt (by omega)); exact ⟨k + 1, _, by omega, by go_num, g1, g2, rfl⟩) | (obtain ⟨g1, g2⟩ := hB_step HC.out hlt HJ.out (byt_wd A 1 k hlt (by omega)); exact ⟨k + 1, _, by omega, by go_num, g1, g2, rfl⟩) | (obtain ⟨g1, g2⟩ := hB_step HC.out hlt HJ.out (byt_wd A 0 k hlt (by omega)); exact ⟨k + 1, _, by omega, by go_num, g1, g2, rfl⟩)
        case measure => simp [intOf]; omega
    · go_wp2_with (first | (refine wl_load (w.heap.size + 1 + 1) 26 C _ rfl (hp_3_2 _ _ _ _) Tryd.underlying26 rfl (size_hash HC.out) ?_) | (refine wl_store (w.heap.size + 1) 26 Z C rfl rfl (hp_3_1 _ _ _ _) (size_hash HC.out) (HZ.out.trans HC.out.symm) (by rw [hB_ext HC.out (fun j h => HJ.out j (by omega))]; exact hB_one A) ?_))
      rw [sr_3_1]
      refine bodyPost_ret (results_cell_row rfl _ _ (w.heap.size + 1) 26 C (0, 0) _ rfl (hp_3_1 _ _ _ _) Tryd.underlying26 rfl (size_hash HC.out)) rfl ?_
      refine ⟨by rw [hB_ext HC.out (fun j h => HJ.out j (by omega))], ?_⟩
      (repeat' (first | (with_reducible exact Below.refl _ _) | (with_reducible assumption) | (with_reducible refine below_drewN ?_ _) | (with_reducible refine Below.drew ?_) | (with_reducible refine Below.setCell ?_ ?_ _) | (with_reducible refine Below.alloc ?_ ?_ _) | (with_reducible exact Nat.le_refl _) | omega | (simp; omega) | (simp; done)))

theorem run_index_hash (A k : Nat) (hk : k < 32) (w : World) : (Instr.index 26 (.agg (hB A)) (.int .i64 k)).run Tryd.prog w = .ok (.int .u8 (byt A k)) w := by
  have h := hB_get A k hk
  have h0 : (0 : Int) ≤ (k : Int) ∧ (k : Int) < 32 := by omega
  simp [Instr.index, go_sem, part, h, h0, hk]
set_option maxHeartbeats 1000000 in
set_option maxRecDepth 100000 in
theorem frombytes_any (A : Nat) (w : World) :
    Calls Tryd.prog 67 #[.agg (hB A)] w fun e w' => e = .returned (U A) ∧ Below w.heap.size w w' := by
  go_enter Tryd.func67, Tryd.ntmps67
  go_wp2_with (refine wl_load (w.heap.size) 26 (hB A) _ rfl (hp_3_0 _ _ _ _) Tryd.underlying26 rfl (size_hash (hB_size A)) ?_)
  go_loopw [8] (fun i wr => ∃ (k : Nat), k ≤ 32 ∧ i = .int .i64 k ∧ wr = ((w.alloc (.cells (hB A) 26)).alloc (.cells #[.int .u64 0, .int .u64 0, .int .u64 0, .int .u64 0] 24)).alloc (.cells #[.int .u64 (pre A 0 k), .int .u64 (pre A 1 k), .int .u64 (pre A 2 k), .int .u64 (pre A 3 k)] 24)) (fun i _ => 32 - (intOf i).toNat)
  case atStart => exact ⟨0, by omega, rfl, by rw [pre_start A 0 0 (by omega), pre_start A 1 0 (by omega), pre_start A 2 0 (by omega), pre_start A 3 0 (by omega)]⟩
  case round =>
    obtain ⟨k, hk, rfl, rfl⟩ := hrel
    by_cases hlt : k < 32
    · have hidx := run_index_hash A k hlt
      rcases (by omega : (k : Int) / 8 = 0 ∨ (k : Int) / 8 = 1 ∨ (k : Int) / 8 = 2 ∨ (k : Int) / 8 = 3) with h8 | h8 | h8 | h8
      all_goals
        go_wp2
        go_roundw
        case rel =>
          refine ⟨k + 1, by omega, by go_num, ?_⟩
          first
            | rw [pre_step A 3 k hlt (by omega), pre_other A 0 k (by omega) (by omega), pre_other A 1 k (by omega) (by omega), pre_other A 2 k (by omega) (by omega)]
            | rw [pre_step A 2 k hlt (by omega), pre_other A 0 k (by omega) (by omega), pre_other A 1 k (by omega) (by omega), pre_other A 3 k (by omega) (by omega)]
            | rw [pre_step A 1 k hlt (by omega), pre_other A 0 k (by omega) (by omega), pre_other A 2 k (by omega) (by omega), pre_other A 3 k (by omega) (by omega)]
            | rw [pre_step A 0 k hlt (by omega), pre_other A 1 k (by omega) (by omega), pre_other A 2 k (by omega) (by omega), pre_other A 3 k (by omega) (by omega)]
        case measure => simp [intOf]; omega
    · obtain rfl : k = 32 := by omega
      rw [pre_end A 0 (by omega), pre_end A 1 (by omega), pre_end A 2 (by omega), pre_end A 3 (by omega)]
      go_wp2
      go_returns
      refine ⟨rfl, ?_⟩
      (repeat' (first | (with_reducible exact Below.refl _ _) | (with_reducible assumption) | (with_reducible refine below_drewN ?_ _) | (with_reducible refine Below.drew ?_) | (with_reducible refine Below.setCell ?_ ?_ _) | (with_reducible refine Below.alloc ?_ ?_ _) | (with_reducible exact Nat.le_refl _) | omega | (simp; omega) | (simp; done)))
end Go.Proofs.YtoibhbmcplhiaaaDoor
