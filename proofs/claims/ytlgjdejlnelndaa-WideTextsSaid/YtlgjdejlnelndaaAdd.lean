/-
  Sums and differences of numbers of 256 bits, comparison, complements: the walks.
-/
import Derived.Test.YtlgjdejlnelndaaBits
namespace Go.Proofs.Ytlgjdejlnelndaa
open Go Go.RowKit

theorem ret_i64 {a b : Int} (h : a = b) : Ending.returned (.int .i64 a) = .returned (.int .i64 b) := by rw [h]
theorem ret_bool {a b : Bool} (h : a = b) : Ending.returned (.bool a) = .returned (.bool b) := by rw [h]
theorem ret_Ub {a b : Value} {c d : Bool} (h : a = b) (h' : c = d) : Ending.returned (.tuple #[a, .bool c]) = .returned (.tuple #[b, .bool d]) := by rw [h, h']
theorem ret_U {a b : Value} (h : a = b) : Ending.returned a = .returned b := by rw [h]

/-! ### comparison -/
set_option maxHeartbeats 1000000 in
theorem cmp_any (A B : Nat) (w : World) (hA : A < M) (hB : B < M) :
    Calls Try.prog 16 #[U A, U B] w fun e w' => e = .returned (.int .i64 (cmpN A B)) ∧ Below w.heap.size w w' := by
  go_enter Try.func16, Try.ntmps16
  go_wp2
  refine wp_loop_rounds 5 ?_
  repeat' (first | (rw [rounds_succ]; go_wp2) | (go_quiet (fail); go_wp2))
  all_goals (go_ret; have ea := wd_sum A hA; have eb := wd_sum B hB; have a0 := wd_word A 0; have a1 := wd_word A 1; have a2 := wd_word A 2; have a3 := wd_word A 3; have b0 := wd_word B 0; have b1 := wd_word B 1; have b2 := wd_word B 2; have b3 := wd_word B 3; unfold Word at a0 a1 a2 a3 b0 b1 b2 b3; refine ⟨ret_i64 (cmpN_of ?_ ?_ ?_), ?_⟩; all_goals (first | (intro hh; first | rfl | (exfalso; omega)) | (repeat' (first | (with_reducible exact Below.refl _ _) | (with_reducible assumption) | (with_reducible refine below_drewN ?_ _) | (with_reducible refine Below.drew ?_) | (with_reducible refine Below.setCell ?_ ?_ _) | (with_reducible refine Below.alloc ?_ ?_ _) | (with_reducible exact Nat.le_refl _) | omega | (simp; omega) | (simp; done)))))
set_option maxHeartbeats 1000000 in
theorem rcmp_any (A B : Nat) (w : World) (hA : A < M) (hB : B < M) :
    Calls Try.prog 25 #[U A, U B] w fun e w' => e = .returned (.int .i64 (cmpN A B)) ∧ Below w.heap.size w w' := by
  go_enter Try.func25, Try.ntmps25
  go_wp2
  refine wp_loop_rounds 5 ?_
  repeat' (first | (rw [rounds_succ]; go_wp2) | (go_quiet (fail); go_wp2))
  all_goals (go_ret; have ea := wd_sum A hA; have eb := wd_sum B hB; have a0 := wd_word A 0; have a1 := wd_word A 1; have a2 := wd_word A 2; have a3 := wd_word A 3; have b0 := wd_word B 0; have b1 := wd_word B 1; have b2 := wd_word B 2; have b3 := wd_word B 3; unfold Word at a0 a1 a2 a3 b0 b1 b2 b3; refine ⟨ret_i64 (cmpN_of ?_ ?_ ?_), ?_⟩; all_goals (first | (intro hh; first | rfl | (exfalso; omega)) | (repeat' (first | (with_reducible exact Below.refl _ _) | (with_reducible assumption) | (with_reducible refine below_drewN ?_ _) | (with_reducible refine Below.drew ?_) | (with_reducible refine Below.setCell ?_ ?_ _) | (with_reducible refine Below.alloc ?_ ?_ _) | (with_reducible exact Nat.le_refl _) | omega | (simp; omega) | (simp; done)))))

/-! ### sums -/
theorem add_words (A B : Nat) (hA : A < M) (hB : B < M) :
    Value.agg #[.int .u64 (addLo (wd A 0) (wd B 0) 0), .int .u64 (addLo (wd A 1) (wd B 1) (addHi (wd A 0) (wd B 0) 0)), .int .u64 (addLo (wd A 2) (wd B 2) (addHi (wd A 1) (wd B 1) (addHi (wd A 0) (wd B 0) 0))), .int .u64 (addLo (wd A 3) (wd B 3) (addHi (wd A 2) (wd B 2) (addHi (wd A 1) (wd B 1) (addHi (wd A 0) (wd B 0) 0))))] = U ((A + B) % M) ∧
    (((A + B : Nat) : Int) = ((A + B) % M : Nat) + (M : Int) * addHi (wd A 3) (wd B 3) (addHi (wd A 2) (wd B 2) (addHi (wd A 1) (wd B 1) (addHi (wd A 0) (wd B 0) 0)))) := by
  have ea := wd_sum A hA
  have eb := wd_sum B hB
  have p0 := add_eq (wd_word A 0) (wd_word B 0) bit_zero
  have q0 := bit_addHi (wd A 0) (wd B 0) 0
  have r0 := word_addLo (wd A 0) (wd B 0) 0
  generalize addHi (wd A 0) (wd B 0) 0 = k0 at *
  have p1 := add_eq (wd_word A 1) (wd_word B 1) q0
  have q1 := bit_addHi (wd A 1) (wd B 1) k0
  have r1 := word_addLo (wd A 1) (wd B 1) k0
  generalize addHi (wd A 1) (wd B 1) k0 = k1 at *
  have p2 := add_eq (wd_word A 2) (wd_word B 2) q1
  have q2 := bit_addHi (wd A 2) (wd B 2) k1
  have r2 := word_addLo (wd A 2) (wd B 2) k1
  generalize addHi (wd A 2) (wd B 2) k1 = k2 at *
  have p3 := add_eq (wd_word A 3) (wd_word B 3) q2
  have q3 := bit_addHi (wd A 3) (wd B 3) k2
  have r3 := word_addLo (wd A 3) (wd B 3) k2
  generalize addHi (wd A 3) (wd B 3) k2 = k3 at *
  generalize addLo (wd A 0) (wd B 0) 0 = s0 at *
  generalize addLo (wd A 1) (wd B 1) k0 = s1 at *
  generalize addLo (wd A 2) (wd B 2) k1 = s2 at *
  generalize addLo (wd A 3) (wd B 3) k2 = s3 at *
  have key : (((A + B) % M : Nat) : Int) = s0 + 18446744073709551616 * s1 + 340282366920938463463374607431768211456 * s2 + 6277101735386680763835789423207666416102355444464034512896 * s3 ∧ (((A + B : Nat) : Int) = ((A + B) % M : Nat) + (M : Int) * k3) := by
    have hs : ((A + B : Nat) : Int) = s0 + 18446744073709551616 * s1 + 340282366920938463463374607431768211456 * s2 + 6277101735386680763835789423207666416102355444464034512896 * s3 + M * k3 := by
      rw [M_eq]; omega
    unfold Word Bit at *
    rw [M_eq] at *
    omega
  exact ⟨U_of_sum _ r0 r1 r2 r3 key.1, key.2⟩
theorem bit_ne_zero {c : Int} (h : Bit c) {p : Prop} [Decidable p] (hp : c = 1 ↔ p) : (c != 0) = decide p := by
  unfold Bit at h
  by_cases hh : c = 1
  · rw [decide_eq_true (hp.1 hh), hh]; rfl
  · rw [decide_eq_false (fun x => hh (hp.2 x)), show c = 0 by omega]; rfl
theorem bit_eq_one {c : Int} (h : Bit c) {p : Prop} [Decidable p] (hp : c = 1 ↔ p) : (c == 1) = decide p := by
  unfold Bit at h
  by_cases hh : c = 1
  · rw [decide_eq_true (hp.1 hh), hh]; rfl
  · rw [decide_eq_false (fun x => hh (hp.2 x)), show c = 0 by omega]; rfl
theorem add_carry (A B : Nat) (hA : A < M) (hB : B < M) : addHi (wd A 3) (wd B 3) (addHi (wd A 2) (wd B 2) (addHi (wd A 1) (wd B 1) (addHi (wd A 0) (wd B 0) 0))) = 1 ↔ M ≤ A + B := by
  have h := (add_words A B hA hB).2
  have h2 := bit_addHi (wd A 3) (wd B 3) (addHi (wd A 2) (wd B 2) (addHi (wd A 1) (wd B 1) (addHi (wd A 0) (wd B 0) 0)))
  generalize addHi (wd A 3) (wd B 3) (addHi (wd A 2) (wd B 2) (addHi (wd A 1) (wd B 1) (addHi (wd A 0) (wd B 0) 0))) = k at *
  unfold Bit at h2; rw [M_eq] at *
  rcases (by omega : k = 0 ∨ k = 1) with rfl | rfl <;> omega

set_option maxHeartbeats 1000000 in
theorem add_any (A B : Nat) (w : World) (hA : A < M) (hB : B < M) :
    Calls Try.prog 32 #[U A, U B] w fun e w' => e = .returned (.tuple #[U ((A + B) % M), .bool (decide (M ≤ A + B))]) ∧ Below w.heap.size w w' := by
  have h55 := add64; have h1 := wd_word; have h2 := word_addLo; have h3 := bit_addHi; have h4 := bit_zero
  go_enter Try.func32, Try.ntmps32
  go_wp2
  refine wp_loop_rounds 5 ?_
  repeat (rw [rounds_succ]; go_wp2; try (go_region; go_wp2))
  go_returns
  refine ⟨ret_Ub (add_words A B hA hB).1 (bit_ne_zero (bit_addHi _ _ _) (add_carry A B hA hB)), ?_⟩
  (repeat' (first | (with_reducible exact Below.refl _ _) | (with_reducible assumption) | (with_reducible refine below_drewN ?_ _) | (with_reducible refine Below.drew ?_) | (with_reducible refine Below.setCell ?_ ?_ _) | (with_reducible refine Below.alloc ?_ ?_ _) | (with_reducible exact Nat.le_refl _) | omega | (simp; omega) | (simp; done)))
set_option maxHeartbeats 1000000 in
theorem radd_any (A B : Nat) (w : World) (hA : A < M) (hB : B < M) :
    Calls Try.prog 33 #[U A, U B] w fun e w' => e = .returned (.tuple #[U ((A + B) % M), .bool (decide (M ≤ A + B))]) ∧ Below w.heap.size w w' := by
  have h55 := add64; have h1 := wd_word; have h2 := word_addLo; have h3 := bit_addHi; have h4 := bit_zero
  go_enter Try.func33, Try.ntmps33
  go_wp2
  refine wp_loop_rounds 5 ?_
  repeat (rw [rounds_succ]; go_wp2; try (go_region; go_wp2))
  go_returns
  refine ⟨ret_Ub (add_words A B hA hB).1 (bit_eq_one (bit_addHi _ _ _) (add_carry A B hA hB)), ?_⟩
  (repeat' (first | (with_reducible exact Below.refl _ _) | (with_reducible assumption) | (with_reducible refine below_drewN ?_ _) | (with_reducible refine Below.drew ?_) | (with_reducible refine Below.setCell ?_ ?_ _) | (with_reducible refine Below.alloc ?_ ?_ _) | (with_reducible exact Nat.le_refl _) | omega | (simp; omega) | (simp; done)))

/-! ### differences -/
theorem sub_words (A B : Nat) (hA : A < M) (hB : B < M) :
    Value.agg #[.int .u64 (subLo (wd A 0) (wd B 0) 0), .int .u64 (subLo (wd A 1) (wd B 1) (subHi (wd A 0) (wd B 0) 0)), .int .u64 (subLo (wd A 2) (wd B 2) (subHi (wd A 1) (wd B 1) (subHi (wd A 0) (wd B 0) 0))), .int .u64 (subLo (wd A 3) (wd B 3) (subHi (wd A 2) (wd B 2) (subHi (wd A 1) (wd B 1) (subHi (wd A 0) (wd B 0) 0))))] = U ((A + M - B) % M) ∧
    (((A : Int) - B) = ((A + M - B) % M : Nat) - (M : Int) * subHi (wd A 3) (wd B 3) (subHi (wd A 2) (wd B 2) (subHi (wd A 1) (wd B 1) (subHi (wd A 0) (wd B 0) 0)))) := by
  have ea := wd_sum A hA
  have eb := wd_sum B hB
  have p0 := sub_eq (wd_word A 0) (wd_word B 0) bit_zero
  have q0 := bit_subHi (wd A 0) (wd B 0) 0
  have r0 := word_subLo (wd A 0) (wd B 0) 0
  generalize subHi (wd A 0) (wd B 0) 0 = k0 at *
  have p1 := sub_eq (wd_word A 1) (wd_word B 1) q0
  have q1 := bit_subHi (wd A 1) (wd B 1) k0
  have r1 := word_subLo (wd A 1) (wd B 1) k0
  generalize subHi (wd A 1) (wd B 1) k0 = k1 at *
  have p2 := sub_eq (wd_word A 2) (wd_word B 2) q1
  have q2 := bit_subHi (wd A 2) (wd B 2) k1
  have r2 := word_subLo (wd A 2) (wd B 2) k1
  generalize subHi (wd A 2) (wd B 2) k1 = k2 at *
  have p3 := sub_eq (wd_word A 3) (wd_word B 3) q2
  have q3 := bit_subHi (wd A 3) (wd B 3) k2
  have r3 := word_subLo (wd A 3) (wd B 3) k2
  generalize subHi (wd A 3) (wd B 3) k2 = k3 at *
  generalize subLo (wd A 0) (wd B 0) 0 = s0 at *
  generalize subLo (wd A 1) (wd B 1) k0 = s1 at *
  generalize subLo (wd A 2) (wd B 2) k1 = s2 at *
  generalize subLo (wd A 3) (wd B 3) k2 = s3 at *
  have key : (((A + M - B) % M : Nat) : Int) = s0 + 18446744073709551616 * s1 + 340282366920938463463374607431768211456 * s2 + 6277101735386680763835789423207666416102355444464034512896 * s3 ∧ (((A : Int) - B) = ((A + M - B) % M : Nat) - (M : Int) * k3) := by
    have hs : (A : Int) - B = s0 + 18446744073709551616 * s1 + 340282366920938463463374607431768211456 * s2 + 6277101735386680763835789423207666416102355444464034512896 * s3 - M * k3 := by
      rw [M_eq]; omega
    unfold Word Bit at *
    rw [M_eq] at *
    omega
  exact ⟨U_of_sum _ r0 r1 r2 r3 key.1, key.2⟩
theorem sub_borrow (A B : Nat) (hA : A < M) (hB : B < M) : subHi (wd A 3) (wd B 3) (subHi (wd A 2) (wd B 2) (subHi (wd A 1) (wd B 1) (subHi (wd A 0) (wd B 0) 0))) = 1 ↔ A < B := by
  have h := (sub_words A B hA hB).2
  have h2 := bit_subHi (wd A 3) (wd B 3) (subHi (wd A 2) (wd B 2) (subHi (wd A 1) (wd B 1) (subHi (wd A 0) (wd B 0) 0)))
  generalize subHi (wd A 3) (wd B 3) (subHi (wd A 2) (wd B 2) (subHi (wd A 1) (wd B 1) (subHi (wd A 0) (wd B 0) 0))) = k at *
  unfold Bit at h2; rw [M_eq] at *
  rcases (by omega : k = 0 ∨ k = 1) with rfl | rfl <;> omega
set_option maxHeartbeats 1000000 in
theorem sub_any (A B : Nat) (w : World) (hA : A < M) (hB : B < M) :
    Calls Try.prog 15 #[U A, U B] w fun e w' => e = .returned (.tuple #[U ((A + M - B) % M), .bool (decide (A < B))]) ∧ Below w.heap.size w w' := by
  have h55 := sub64; have h1 := wd_word; have h2 := word_subLo; have h3 := bit_subHi; have h4 := bit_zero
  go_enter Try.func15, Try.ntmps15
  go_wp2
  refine wp_loop_rounds 5 ?_
  repeat (rw [rounds_succ]; go_wp2; try (go_region; go_wp2))
  go_returns
  refine ⟨ret_Ub (sub_words A B hA hB).1 (bit_ne_zero (bit_subHi _ _ _) (sub_borrow A B hA hB)), ?_⟩
  (repeat' (first | (with_reducible exact Below.refl _ _) | (with_reducible assumption) | (with_reducible refine below_drewN ?_ _) | (with_reducible refine Below.drew ?_) | (with_reducible refine Below.setCell ?_ ?_ _) | (with_reducible refine Below.alloc ?_ ?_ _) | (with_reducible exact Nat.le_refl _) | omega | (simp; omega) | (simp; done)))
set_option maxHeartbeats 1000000 in
theorem rsub_any (A B : Nat) (w : World) (hA : A < M) (hB : B < M) :
    Calls Try.prog 34 #[U A, U B] w fun e w' => e = .returned (.tuple #[U ((A + M - B) % M), .bool (decide (A < B))]) ∧ Below w.heap.size w w' := by
  have h55 := sub64; have h1 := wd_word; have h2 := word_subLo; have h3 := bit_subHi; have h4 := bit_zero
  go_enter Try.func34, Try.ntmps34
  go_wp2
  refine wp_loop_rounds 5 ?_
  repeat (rw [rounds_succ]; go_wp2; try (go_region; go_wp2))
  go_returns
  refine ⟨ret_Ub (sub_words A B hA hB).1 (bit_eq_one (bit_subHi _ _ _) (sub_borrow A B hA hB)), ?_⟩
  (repeat' (first | (with_reducible exact Below.refl _ _) | (with_reducible assumption) | (with_reducible refine below_drewN ?_ _) | (with_reducible refine Below.drew ?_) | (with_reducible refine Below.setCell ?_ ?_ _) | (with_reducible refine Below.alloc ?_ ?_ _) | (with_reducible exact Nat.le_refl _) | omega | (simp; omega) | (simp; done)))
end Go.Proofs.Ytlgjdejlnelndaa
