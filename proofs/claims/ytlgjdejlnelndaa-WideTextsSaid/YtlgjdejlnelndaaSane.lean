/-
  The sanity check of the statements about layer 2 returns true.
-/
import Derived.Test.YtlgjdejlnelndaaText
namespace Go.Proofs.Ytlgjdejlnelndaa
open Go Go.RowKit

theorem lit_U1 (n : Nat) (h : n < 18446744073709551616) : Value.agg #[.int .u64 n, .int .u64 0, .int .u64 0, .int .u64 0] = U n := U_small n h
theorem lit_max : Value.agg #[.int .u64 18446744073709551615, .int .u64 18446744073709551615, .int .u64 18446744073709551615, .int .u64 18446744073709551615] = U (M - 1) :=
  U_of_sum _ (by unfold Word; omega) (by unfold Word; omega) (by unfold Word; omega) (by unfold Word; omega) (by rw [M_eq]; omega)
theorem lit_two64 : Value.agg #[.int .u64 0, .int .u64 1, .int .u64 0, .int .u64 0] = U 18446744073709551616 :=
  U_of_sum _ (by unfold Word; omega) (by unfold Word; omega) (by unfold Word; omega) (by unfold Word; omega) (by omega)
theorem dec_two64 : decS 18446744073709551616 = ⟨#[49, 56, 52, 52, 54, 55, 52, 52, 48, 55, 51, 55, 48, 57, 53, 53, 49, 54, 49, 54]⟩ := by kernel_rfl

set_option maxHeartbeats 1000000 in
theorem sane_any (w : World) : Calls Try.prog 17 #[] w fun e w' => e = .returned (.bool true) ∧ Below w.heap.size w w' := by
  obtain ⟨mx, emx⟩ : ∃ mx, mx = M - 1 := ⟨_, rfl⟩
  have mxlt : mx < M := by rw [emx, M_eq]; omega
  have S1 : Hid (∀ W, Calls Try.prog 15 #[.agg #[.int .u64 0, .int .u64 0, .int .u64 0, .int .u64 0], .agg #[.int .u64 1, .int .u64 0, .int .u64 0, .int .u64 0]] W fun e w' => e = .returned (.tuple #[U mx, .bool true]) ∧ Below W.heap.size W w') := by
    intro W
    have h := sub_any 0 1 W M_pos (by rw [M_eq]; omega)
    rw [U0_eq, show Value.agg #[.int .u64 1, .int .u64 0, .int .u64 0, .int .u64 0] = U 1 from lit_U1 1 (by omega)]
    rw [show (0 + M - 1) % M = mx by rw [emx, M_eq], show decide (0 < 1) = true from rfl] at h
    exact h
  have S2 : Hid (∀ W, Calls Try.prog 18 #[.agg #[.int .u64 0, .int .u64 0, .int .u64 0, .int .u64 0], .agg #[.int .u64 7, .int .u64 0, .int .u64 0, .int .u64 0], .agg #[.int .u64 2, .int .u64 0, .int .u64 0, .int .u64 0]] W fun e w' => e = .returned (.tuple #[U 3, U 1, .bool true]) ∧ Below W.heap.size W w') := by
    intro W
    have h := div_yes 0 7 2 W M_pos (by rw [M_eq]; omega) (by rw [M_eq]; omega) (by omega)
    rw [U0_eq, show Value.agg #[.int .u64 7, .int .u64 0, .int .u64 0, .int .u64 0] = U 7 from lit_U1 7 (by omega), show Value.agg #[.int .u64 2, .int .u64 0, .int .u64 0, .int .u64 0] = U 2 from lit_U1 2 (by omega)]
    rw [show (0 * M + 7) / 2 = 3 by rw [Nat.zero_mul], show (0 * M + 7) % 2 = 1 by rw [Nat.zero_mul]] at h
    exact h
  have S3 : Hid (∀ W, Calls Try.prog 41 #[.agg #[.int .u64 0, .int .u64 1, .int .u64 0, .int .u64 0]] W fun e w' => e = .returned (.string ⟨#[49, 56, 52, 52, 54, 55, 52, 52, 48, 55, 51, 55, 48, 57, 53, 53, 49, 54, 49, 54]⟩) ∧ Below W.heap.size W w') := by
    intro W
    have h := text_any 18446744073709551616 W (by rw [M_eq]; omega)
    rw [lit_two64]
    rw [dec_two64] at h
    exact h
  have E1 : ∀ W, (binOp .eql 24 (U mx) (.agg #[.int .u64 18446744073709551615, .int .u64 18446744073709551615, .int .u64 18446744073709551615, .int .u64 18446744073709551615])).run Try.prog W = .ok (.bool true) W := by
    intro W
    rw [lit_max, ← emx, eqlU mx mx mxlt mxlt W]; simp
  have E2 : ∀ W, (binOp .eql 24 (U 3) (.agg #[.int .u64 3, .int .u64 0, .int .u64 0, .int .u64 0])).run Try.prog W = .ok (.bool true) W := by
    intro W
    rw [show Value.agg #[.int .u64 3, .int .u64 0, .int .u64 0, .int .u64 0] = U 3 from lit_U1 3 (by omega), eqlU 3 3 (by rw [M_eq]; omega) (by rw [M_eq]; omega) W]; simp
  have E3 : ∀ W, (binOp .eql 24 (U 1) (.agg #[.int .u64 1, .int .u64 0, .int .u64 0, .int .u64 0])).run Try.prog W = .ok (.bool true) W := by
    intro W
    rw [show Value.agg #[.int .u64 1, .int .u64 0, .int .u64 0, .int .u64 0] = U 1 from lit_U1 1 (by omega), eqlU 1 1 (by rw [M_eq]; omega) (by rw [M_eq]; omega) W]; simp
  clear emx
  go_enter Try.func17, Try.ntmps17
  go_wp2_with fail
  refine (S1.out _).mono ?_; rintro e w1 ⟨rfl, hb1⟩
  have B1 : Below w.heap.size w w1 := hb1
  have hs1 := hb1.size
  go_wp2_with fail
  refine (S2.out _).mono ?_; rintro e w2 ⟨rfl, hb2⟩
  have O1 : Own w2 w1.heap.size (cU mx) := Own.below (Own.new _) hb2
  have B2 : Below w.heap.size w w2 := Below.trans (by (repeat' (first | (with_reducible exact Below.refl _ _) | (with_reducible assumption) | (with_reducible refine below_drewN ?_ _) | (with_reducible refine Below.drew ?_) | (with_reducible refine Below.setCell ?_ ?_ _) | (with_reducible refine Below.alloc ?_ ?_ _) | (with_reducible exact Nat.le_refl _) | omega | (simp; omega) | (simp; done)))) (hb2.mono (by simp; omega))
  have c1 := O1.cell; have l1 := O1.lt
  go_wp2_with fail
  refine (S3.out _).mono ?_; rintro e w3 ⟨rfl, hb3⟩
  have hs2 := B2.size
  have B3 : Below w.heap.size w w3 := Below.trans (by (repeat' (first | (with_reducible exact Below.refl _ _) | (with_reducible assumption) | (with_reducible refine below_drewN ?_ _) | (with_reducible refine Below.drew ?_) | (with_reducible refine Below.setCell ?_ ?_ _) | (with_reducible refine Below.alloc ?_ ?_ _) | (with_reducible exact Nat.le_refl _) | omega | (simp; omega) | (simp; done)))) (hb3.mono (by simp; omega))
  go_wp2
  go_ret
  exact ⟨rfl, B3⟩
end Go.Proofs.Ytlgjdejlnelndaa
