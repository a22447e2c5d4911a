/-
  What this statement needs, part 2: the texts of it, one behind the other.
-/
import Derived.Test.YtaebcmpbbamfpaaGreatDoorBase1
import Derived.Deep.WholeRow
import Derived.Deep.LoopGhost
import Derived.WalkMore
import Derived.Shelf.Strconv.Itoa0
import Derived.Shelf.Bits.Mul64
import Derived.Test.YtaebcmpbbamfpaaGreatDoorProg
import Derived.Lib.BitFns
import Derived.WalkKit
import Derived.Test.YtaebcmpbbamfpaaGreatDoorChecked
set_option maxRecDepth 100000
namespace Go.Proofs.YtaebcmpbbamfpaaGreatDoor
open Go Go.RowKit
theorem ret_i64 {a b : Int} (h : a = b) : Ending.returned (.int .i64 a) = .returned (.int .i64 b) := by rw [h]
theorem ret_bool {a b : Bool} (h : a = b) : Ending.returned (.bool a) = .returned (.bool b) := by rw [h]
theorem ret_Ub {a b : Value} {c d : Bool} (h : a = b) (h' : c = d) : Ending.returned (.tuple #[a, .bool c]) = .returned (.tuple #[b, .bool d]) := by rw [h, h']
theorem ret_U {a b : Value} (h : a = b) : Ending.returned a = .returned b := by rw [h]
set_option maxHeartbeats 1000000 in
theorem cmp_any (A B : Nat) (w : World) (hA : A < M) (hB : B < M) :
    Calls Tryz.prog 117 #[U A, U B] w fun e w' => e = .returned (.int .i64 (cmpN A B)) ∧ Below w.heap.size w w' := by
  go_enter Tryz.func117, Tryz.ntmps117
  go_wp2
  refine wp_loop_rounds 5 ?_
  repeat' (first | (rw [rounds_succ]; go_wp2) | (go_quiet (fail); go_wp2))
  all_goals (go_ret; have ea := wd_sum A hA; have eb := wd_sum B hB; have a0 := wd_word A 0; have a1 := wd_word A 1; have a2 := wd_word A 2; have a3 := wd_word A 3; have b0 := wd_word B 0; have b1 := wd_word B 1; have b2 := wd_word B 2; have b3 := wd_word B 3; unfold Word at a0 a1 a2 a3 b0 b1 b2 b3; refine ⟨ret_i64 (cmpN_of ?_ ?_ ?_), ?_⟩; all_goals (first | (intro hh; first | rfl | (exfalso; omega)) | (repeat' (first | (with_reducible exact Below.refl _ _) | (with_reducible assumption) | (with_reducible refine below_drewN ?_ _) | (with_reducible refine Below.drew ?_) | (with_reducible refine Below.setCell ?_ ?_ _) | (with_reducible refine Below.alloc ?_ ?_ _) | (with_reducible exact Nat.le_refl _) | omega | (simp; omega) | (simp; done)))))
set_option maxHeartbeats 1000000 in
theorem rcmp_any (A B : Nat) (w : World) (hA : A < M) (hB : B < M) :
    Calls Tryz.prog 128 #[U A, U B] w fun e w' => e = .returned (.int .i64 (cmpN A B)) ∧ Below w.heap.size w w' := by
  go_enter Tryz.func128, Tryz.ntmps128
  go_wp2
  refine wp_loop_rounds 5 ?_
  repeat' (first | (rw [rounds_succ]; go_wp2) | (go_quiet (fail); go_wp2))
  all_goals (go_ret; have ea := wd_sum A hA; have eb := wd_sum B hB; have a0 := wd_word A 0; have a1 := wd_word A 1; have a2 := wd_word A 2; have a3 := wd_word A 3; have b0 := wd_word B 0; have b1 := wd_word B 1; have b2 := wd_word B 2; have b3 := wd_word B 3; unfold Word at a0 a1 a2 a3 b0 b1 b2 b3; refine ⟨ret_i64 (cmpN_of ?_ ?_ ?_), ?_⟩; all_goals (first | (intro hh; first | rfl | (exfalso; omega)) | (repeat' (first | (with_reducible exact Below.refl _ _) | (with_reducible assumption) | (with_reducible refine below_drewN ?_ _) | (with_reducible refine Below.drew ?_) | (with_reducible refine Below.setCell ?_ ?_ _) | (with_reducible refine Below.alloc ?_ ?_ _) | (with_reducible exact Nat.le_refl _) | omega | (simp; omega) | (simp; done)))))
theorem add_words (A B : Nat) (hA : A < M) (hB : B < M) :
    Value.agg #[.int .u64 (addLo (wd A 0) (wd B 0) 0), .int .u64 (addLo (wd A 1) (wd B 1) (addHi (wd A 0) (wd B 0) 0)), .int .u64 (addLo (wd A 2) (wd B 2) (addHi (wd A 1) (wd B 1) (addHi (wd A 0) (wd B 0) 0))), .int .u64 (addLo (wd A 3) (wd B 3) (addHi (wd A 2) (wd B 2) (addHi (wd A 1) (wd B 1) (addHi (wd A 0) (wd B 0) 0))))] = U ((A + B) % M) ∧
    (((A + B : Nat) : Int) = ((A + B) % M : Nat) + (M : Int) * addHi (wd A 3) (wd B 3) (addHi (wd A 2) (wd B 2) (addHi (wd A 1) (wd B 1) (addHi (wd A 0) (wd B 0) 0)))) := by
  have ea := wd_sum A hA
  have eb := wd_sum B hB
  have p0 := add_eq (wd_word A 0) (wd_word B 0) bit_zero
  have q0 := bit_addHi (wd A 0) (wd B 0) 0
  have r0 := word_addLo (wd A 0) (wd B 0) 0
  generalize addHi (wd A 0) (wd B 0) 0 = k0 at *
  have p1 := add_eq (wd_word A 1) (wd_word B 1) q0
  have q1 := bit_addHi (wd A 1) (wd B 1) k0
  have r1 := word_addLo (wd A 1) (wd B 1) k0
  generalize addHi (wd A 1) (wd B 1) k0 = k1 at *
  have p2 := add_eq (wd_word A 2) (wd_word B 2) q1
  have q2 := bit_addHi (wd A 2) (wd B 2) k1
  have r2 := word_addLo (wd A 2) (wd B 2) k1
  generalize addHi (wd A 2) (wd B 2) k1 = k2 at *
  have p3 := add_eq (wd_word A 3) (wd_word B 3) q2
  have q3 := bit_addHi (wd A 3) (wd B 3) k2
  have r3 := word_addLo (wd A 3) (wd B 3) k2
  generalize addHi (wd A 3) (wd B 3) k2 = k3 at *
  generalize addLo (wd A 0) (wd B 0) 0 = s0 at *
  generalize addLo (wd A 1) (wd B 1) k0 = s1 at *
  generalize addLo (wd A 2) (wd B 2) k1 = s2 at *
  generalize addLo (wd A 3) (wd B 3) k2 = s3 at *
  have key : (((A + B) % M : Nat) : Int) = s0 + 18446744073709551616 * s1 + 340282366920938463463374607431768211456 * s2 + 6277101735386680763835789423207666416102355444464034512896 * s3 ∧ (((A + B : Nat) : Int) = ((A + B) % M : Nat) + (M : Int) * k3) := by
    have hs : ((A + B : Nat) : Int) = s0 + 18446744073709551616 * s1 + 340282366920938463463374607431768211456 * s2 + 6277101735386680763835789423207666416102355444464034512896 * s3 + M * k3 := by
      rw [M_eq]; omega
    unfold Word Bit at *
    rw [M_eq] at *
    omega
  exact ⟨U_of_sum _ r0 r1 r2 r3 key.1, key.2⟩
theorem bit_ne_zero {c : Int} (h : Bit c) {p : Prop} [Decidable p] (hp : c = 1 ↔ p) : (c != 0) = decide p := by
  unfold Bit at h
  by_cases hh : c = 1
  · rw [decide_eq_true (hp.1 hh), hh]; rfl
  · rw [decide_eq_false (fun x => hh (hp.2 x)), show c = 0 by omega]; rfl
theorem bit_eq_one {c : Int} (h : Bit c) {p : Prop} [Decidable p] (hp : c = 1 ↔ p) : (c == 1) = decide p := by
  unfold Bit at h
  by_cases hh : c = 1
  · rw [decide_eq_true (hp.1 hh), hh]; rfl
  · rw [decide_eq_false (fun x => hh (hp.2 x)), show c = 0 by omega]; rfl
theorem add_carry (A B : Nat) (hA : A < M) (hB : B < M) : addHi (wd A 3) (wd B 3) (addHi (wd A 2) (wd B 2) (addHi (wd A 1) (wd B 1) (addHi (wd A 0) (wd B 0) 0))) = 1 ↔ M ≤ A + B := by
  have h := (add_words A B hA hB).2
  have h2 := bit_addHi (wd A 3) (wd B 3) (addHi (wd A 2) (wd B 2) (addHi (wd A 1) (wd B 1) (addHi (wd A 0) (wd B 0) 0)))
  generalize addHi (wd A 3) (wd B 3) (addHi (wd A 2) (wd B 2) (addHi (wd A 1) (wd B 1) (addHi (wd A 0) (wd B 0) 0))) = k at *
  unfold Bit at h2; rw [M_eq] at *
  rcases (by omega : k = 0 ∨ k = 1) with rfl | rfl <;> omega
set_option maxHeartbeats 1000000 in
theorem add_any (A B : Nat) (w : World) (hA : A < M) (hB : B < M) :
    Calls Tryz.prog 143 #[U A, U B] w fun e w' => e = .returned (.tuple #[U ((A + B) % M), .bool (decide (M ≤ A + B))]) ∧ Below w.heap.size w w' := by
  have h55 := add64; have h1 := wd_word; have h2 := word_addLo; have h3 := bit_addHi; have h4 := bit_zero
  go_enter Tryz.func143, Tryz.ntmps143
  go_wp2
  refine wp_loop_rounds 5 ?_
  repeat (rw [rounds_succ]; go_wp2; try (go_region; go_wp2))
  go_returns
  refine ⟨ret_Ub (add_words A B hA hB).1 (bit_ne_zero (bit_addHi _ _ _) (add_carry A B hA hB)), ?_⟩
  (repeat' (first | (with_reducible exact Below.refl _ _) | (with_reducible assumption) | (with_reducible refine below_drewN ?_ _) | (with_reducible refine Below.drew ?_) | (with_reducible refine Below.setCell ?_ ?_ _) | (with_reducible refine Below.alloc ?_ ?_ _) | (with_reducible exact Nat.le_refl _) | omega | (simp; omega) | (simp; done)))
set_option maxHeartbeats 1000000 in
theorem radd_any (A B : Nat) (w : World) (hA : A < M) (hB : B < M) :
    Calls Tryz.prog 155 #[U A, U B] w fun e w' => e = .returned (.tuple #[U ((A + B) % M), .bool (decide (M ≤ A + B))]) ∧ Below w.heap.size w w' := by
  have h55 := add64; have h1 := wd_word; have h2 := word_addLo; have h3 := bit_addHi; have h4 := bit_zero
  go_enter Tryz.func155, Tryz.ntmps155
  go_wp2
  refine wp_loop_rounds 5 ?_
  repeat (rw [rounds_succ]; go_wp2; try (go_region; go_wp2))
  go_returns
  refine ⟨ret_Ub (add_words A B hA hB).1 (bit_eq_one (bit_addHi _ _ _) (add_carry A B hA hB)), ?_⟩
  (repeat' (first | (with_reducible exact Below.refl _ _) | (with_reducible assumption) | (with_reducible refine below_drewN ?_ _) | (with_reducible refine Below.drew ?_) | (with_reducible refine Below.setCell ?_ ?_ _) | (with_reducible refine Below.alloc ?_ ?_ _) | (with_reducible exact Nat.le_refl _) | omega | (simp; omega) | (simp; done)))
theorem sub_words (A B : Nat) (hA : A < M) (hB : B < M) :
    Value.agg #[.int .u64 (subLo (wd A 0) (wd B 0) 0), .int .u64 (subLo (wd A 1) (wd B 1) (subHi (wd A 0) (wd B 0) 0)), .int .u64 (subLo (wd A 2) (wd B 2) (subHi (wd A 1) (wd B 1) (subHi (wd A 0) (wd B 0) 0))), .int .u64 (subLo (wd A 3) (wd B 3) (subHi (wd A 2) (wd B 2) (subHi (wd A 1) (wd B 1) (subHi (wd A 0) (wd B 0) 0))))] = U ((A + M - B) % M) ∧
    (((A : Int) - B) = ((A + M - B) % M : Nat) - (M : Int) * subHi (wd A 3) (wd B 3) (subHi (wd A 2) (wd B 2) (subHi (wd A 1) (wd B 1) (subHi (wd A 0) (wd B 0) 0)))) := by
  have ea := wd_sum A hA
  have eb := wd_sum B hB
  have p0 := sub_eq (wd_word A 0) (wd_word B 0) bit_zero
  have q0 := bit_subHi (wd A 0) (wd B 0) 0
  have r0 := word_subLo (wd A 0) (wd B 0) 0
  generalize subHi (wd A 0) (wd B 0) 0 = k0 at *
  have p1 := sub_eq (wd_word A 1) (wd_word B 1) q0
  have q1 := bit_subHi (wd A 1) (wd B 1) k0
  have r1 := word_subLo (wd A 1) (wd B 1) k0
  generalize subHi (wd A 1) (wd B 1) k0 = k1 at *
  have p2 := sub_eq (wd_word A 2) (wd_word B 2) q1
  have q2 := bit_subHi (wd A 2) (wd B 2) k1
  have r2 := word_subLo (wd A 2) (wd B 2) k1
  generalize subHi (wd A 2) (wd B 2) k1 = k2 at *
  have p3 := sub_eq (wd_word A 3) (wd_word B 3) q2
  have q3 := bit_subHi (wd A 3) (wd B 3) k2
  have r3 := word_subLo (wd A 3) (wd B 3) k2
  generalize subHi (wd A 3) (wd B 3) k2 = k3 at *
  generalize subLo (wd A 0) (wd B 0) 0 = s0 at *
  generalize subLo (wd A 1) (wd B 1) k0 = s1 at *
  generalize subLo (wd A 2) (wd B 2) k1 = s2 at *
  generalize subLo (wd A 3) (wd B 3) k2 = s3 at *
  have key : (((A + M - B) % M : Nat) : Int) = s0 + 18446744073709551616 * s1 + 340282366920938463463374607431768211456 * s2 + 6277101735386680763835789423207666416102355444464034512896 * s3 ∧ (((A : Int) - B) = ((A + M - B) % M : Nat) - (M : Int) * k3) := by
    have hs : (A : Int) - B = s0 + 18446744073709551616 * s1 + 340282366920938463463374607431768211456 * s2 + 6277101735386680763835789423207666416102355444464034512896 * s3 - M * k3 := by
      rw [M_eq]; omega
    unfold Word Bit at *
    rw [M_eq] at *
    omega
  exact ⟨U_of_sum _ r0 r1 r2 r3 key.1, key.2⟩
theorem sub_borrow (A B : Nat) (hA : A < M) (hB : B < M) : subHi (wd A 3) (wd B 3) (subHi (wd A 2) (wd B 2) (subHi (wd A 1) (wd B 1) (subHi (wd A 0) (wd B 0) 0))) = 1 ↔ A < B := by
  have h := (sub_words A B hA hB).2
  have h2 := bit_subHi (wd A 3) (wd B 3) (subHi (wd A 2) (wd B 2) (subHi (wd A 1) (wd B 1) (subHi (wd A 0) (wd B 0) 0)))
  generalize subHi (wd A 3) (wd B 3) (subHi (wd A 2) (wd B 2) (subHi (wd A 1) (wd B 1) (subHi (wd A 0) (wd B 0) 0))) = k at *
  unfold Bit at h2; rw [M_eq] at *
  rcases (by omega : k = 0 ∨ k = 1) with rfl | rfl <;> omega
set_option maxHeartbeats 1000000 in
theorem sub_any (A B : Nat) (w : World) (hA : A < M) (hB : B < M) :
    Calls Tryz.prog 145 #[U A, U B] w fun e w' => e = .returned (.tuple #[U ((A + M - B) % M), .bool (decide (A < B))]) ∧ Below w.heap.size w w' := by
  have h55 := sub64; have h1 := wd_word; have h2 := word_subLo; have h3 := bit_subHi; have h4 := bit_zero
  go_enter Tryz.func145, Tryz.ntmps145
  go_wp2
  refine wp_loop_rounds 5 ?_
  repeat (rw [rounds_succ]; go_wp2; try (go_region; go_wp2))
  go_returns
  refine ⟨ret_Ub (sub_words A B hA hB).1 (bit_ne_zero (bit_subHi _ _ _) (sub_borrow A B hA hB)), ?_⟩
  (repeat' (first | (with_reducible exact Below.refl _ _) | (with_reducible assumption) | (with_reducible refine below_drewN ?_ _) | (with_reducible refine Below.drew ?_) | (with_reducible refine Below.setCell ?_ ?_ _) | (with_reducible refine Below.alloc ?_ ?_ _) | (with_reducible exact Nat.le_refl _) | omega | (simp; omega) | (simp; done)))
set_option maxHeartbeats 1000000 in
theorem rsub_any (A B : Nat) (w : World) (hA : A < M) (hB : B < M) :
    Calls Tryz.prog 148 #[U A, U B] w fun e w' => e = .returned (.tuple #[U ((A + M - B) % M), .bool (decide (A < B))]) ∧ Below w.heap.size w w' := by
  have h55 := sub64; have h1 := wd_word; have h2 := word_subLo; have h3 := bit_subHi; have h4 := bit_zero
  go_enter Tryz.func148, Tryz.ntmps148
  go_wp2
  refine wp_loop_rounds 5 ?_
  repeat (rw [rounds_succ]; go_wp2; try (go_region; go_wp2))
  go_returns
  refine ⟨ret_Ub (sub_words A B hA hB).1 (bit_eq_one (bit_subHi _ _ _) (sub_borrow A B hA hB)), ?_⟩
  (repeat' (first | (with_reducible exact Below.refl _ _) | (with_reducible assumption) | (with_reducible refine below_drewN ?_ _) | (with_reducible refine Below.drew ?_) | (with_reducible refine Below.setCell ?_ ?_ _) | (with_reducible refine Below.alloc ?_ ?_ _) | (with_reducible exact Nat.le_refl _) | omega | (simp; omega) | (simp; done)))
theorem M_pow : M = 2 ^ 256 := by rw [M_eq]
theorem B64_pow : (18446744073709551616 : Nat) = 2 ^ 64 := rfl
theorem wd_nat (A i : Nat) : wd A i = ((A / 2 ^ (64 * i) % 2 ^ 64 : Nat) : Int) := by
  unfold wd; rw [B64_pow, ← Nat.pow_mul]
theorem mul_two_pow_dvd {q p : Nat} (h : q % 2 ^ (p + 1) = 0) : ∃ a, q = a * 2 ^ (p + 1) :=
  ⟨q / 2 ^ (p + 1), by have := Nat.div_add_mod q (2 ^ (p + 1)); rw [h] at this; rw [Nat.mul_comm]; omega⟩
theorem setbit_hi (q p j : Nat) (h : q % 2 ^ (p + 1) = 0) (hj : p + 1 ≤ 64 * j) : wd (q + 2 ^ p) j = wd q j := by
  rw [wd_nat, wd_nat]
  congr 2
  obtain ⟨a, rfl⟩ := mul_two_pow_dvd h
  have e : 64 * j = (p + 1) + (64 * j - (p + 1)) := by omega
  have e2 : 2 ^ (64 * j) = 2 ^ (p + 1) * 2 ^ (64 * j - (p + 1)) := by rw [← Nat.pow_add, ← e]
  rw [e2, ← Nat.div_div_eq_div_mul, ← Nat.div_div_eq_div_mul]
  have hp : 0 < 2 ^ (p + 1) := Nat.pow_pos (by decide)
  have h1 : (a * 2 ^ (p + 1) + 2 ^ p) / 2 ^ (p + 1) = a := by
    rw [Nat.add_comm, Nat.add_mul_div_right _ _ hp, Nat.div_eq_of_lt (Nat.pow_lt_pow_right (by decide) (by omega))]; omega
  rw [h1, Nat.mul_div_cancel _ hp]
theorem setbit_lo (q p j : Nat) (hj : 64 * (j + 1) ≤ p) : wd (q + 2 ^ p) j = wd q j := by
  rw [wd_nat, wd_nat]
  congr 1
  have hp : 0 < 2 ^ (64 * j) := Nat.pow_pos (by decide)
  have e : 2 ^ p = 2 ^ (p - 64 * j - 64) * 2 ^ 64 * 2 ^ (64 * j) := by rw [← Nat.pow_add, ← Nat.pow_add]; congr 1; omega
  rw [e, Nat.add_mul_div_right _ _ hp, Nat.add_mul_mod_self_right]
theorem setbit_at (q j b : Nat) (hb : b < 64) (h : q % 2 ^ (64 * j + b + 1) = 0) : bits .or .u64 (wd q j) (2 ^ b) = wd (q + 2 ^ (64 * j + b)) j := by
  rw [wd_nat, wd_nat]
  obtain ⟨a, rfl⟩ := mul_two_pow_dvd h
  have hp : 0 < 2 ^ (64 * j) := Nat.pow_pos (by decide)
  have e1 : a * 2 ^ (64 * j + b + 1) = a * 2 ^ (b + 1) * 2 ^ (64 * j) := by rw [Nat.mul_assoc, ← Nat.pow_add]; congr 2; omega
  have e2 : 2 ^ (64 * j + b) = 2 ^ b * 2 ^ (64 * j) := by rw [← Nat.pow_add]; congr 1; omega
  rw [e2, Nat.add_mul_div_right _ _ hp, e1, Nat.mul_div_cancel _ hp]
  have e3 : 2 ^ 64 = 2 ^ (63 - b) * 2 ^ (b + 1) := by rw [← Nat.pow_add]; congr 1; omega
  have e4 : a * 2 ^ (b + 1) % 2 ^ 64 = a % 2 ^ (63 - b) * 2 ^ (b + 1) := by rw [e3, Nat.mul_mod_mul_right]
  have hl : a % 2 ^ (63 - b) < 2 ^ (63 - b) := Nat.mod_lt _ (Nat.pow_pos (by decide))
  have hb2 : 2 ^ (b + 1) = 2 * 2 ^ b := by rw [Nat.pow_succ]; omega
  have hpb : 0 < 2 ^ b := Nat.pow_pos (by decide)
  have hle : (a % 2 ^ (63 - b) + 1) * 2 ^ (b + 1) ≤ 2 ^ 64 := by rw [e3]; exact Nat.mul_le_mul_right _ hl
  have e5 : (a * 2 ^ (b + 1) + 2 ^ b) % 2 ^ 64 = a % 2 ^ (63 - b) * 2 ^ (b + 1) + 2 ^ b := by
    rw [Nat.add_mod, e4, Nat.mod_eq_of_lt (a := 2 ^ b) (Nat.pow_lt_pow_right (by decide) hb), Nat.mod_eq_of_lt]
    rw [Nat.add_mul] at hle; omega
  rw [e5, e4]
  rw [Nat.add_mul] at hle
  have hc : ((2 : Int) ^ b) = ((2 ^ b : Nat) : Int) := by simp
  have hlt1 : a % 2 ^ (63 - b) * 2 ^ (b + 1) < 18446744073709551616 := by rw [B64_pow]; omega
  have hlt2 : 2 ^ b < 18446744073709551616 := by rw [B64_pow]; omega
  rw [hc, bits_or_u64_nat _ _ hlt1 hlt2]
  congr 1
  exact or_add _ _ _ (Nat.pow_lt_pow_right (by decide) (by omega))
def dT (N i : Nat) : Nat := N / 2 ^ (256 - i)
def dLo (lo i : Nat) : Nat := lo * 2 ^ i % M
def dR (N b i : Nat) : Nat := dT N i % b
def dQ (N b i : Nat) : Nat := dT N i / b * 2 ^ (256 - i)
theorem dLo_lt (lo i : Nat) : dLo lo i < M := Nat.mod_lt _ (by rw [M_eq]; decide)
theorem dLo_zero {lo : Nat} (h : lo < M) : dLo lo 0 = lo := by unfold dLo; rw [Nat.pow_zero, Nat.mul_one, Nat.mod_eq_of_lt h]
theorem dLo_step (lo i : Nat) : 2 * dLo lo i % M = dLo lo (i + 1) := by
  unfold dLo; rw [Nat.mul_mod_mod, Nat.pow_succ]; congr 1; rw [Nat.mul_comm 2, Nat.mul_assoc]
theorem dT_zero {hi lo : Nat} (h : lo < M) : dT (hi * M + lo) 0 = hi := by
  unfold dT; rw [Nat.sub_zero, ← M_pow, Nat.add_comm, Nat.add_mul_div_right _ _ (by rw [M_eq]; decide), Nat.div_eq_of_lt h]; omega
theorem dT_step (hi lo i : Nat) (h : i < 256) : dT (hi * M + lo) (i + 1) = 2 * dT (hi * M + lo) i + 2 * dLo lo i / M := by
  unfold dT dLo
  rw [M_pow] at *
  have e0 : 256 - i = (256 - (i + 1)) + 1 := by omega
  generalize hk : 256 - (i + 1) = k at *
  rw [e0]
  have hi' : i = 255 - k := by omega
  -- lo = u * 2^(k+1) + v
  have hlo := Nat.div_add_mod lo (2 ^ (k + 1))
  have hv : lo % 2 ^ (k + 1) < 2 ^ (k + 1) := Nat.mod_lt _ (Nat.pow_pos (by decide))
  generalize lo / 2 ^ (k + 1) = u at *
  generalize lo % 2 ^ (k + 1) = v at *
  have pk : 2 ^ (k + 1) = 2 * 2 ^ k := by rw [Nat.pow_succ]; omega
  have p0 : 0 < 2 ^ k := Nat.pow_pos (by decide)
  have p256 : (2 : Nat) ^ 256 = 2 ^ (255 - k) * 2 ^ (k + 1) := by rw [← Nat.pow_add]; congr 1; omega
  have e1 : (hi * 2 ^ 256 + lo) / 2 ^ (k + 1) = hi * 2 ^ (255 - k) + u := by
    rw [p256, ← hlo, show hi * (2 ^ (255 - k) * 2 ^ (k + 1)) + (2 ^ (k + 1) * u + v) = v + (hi * 2 ^ (255 - k) + u) * 2 ^ (k + 1) by rw [Nat.add_mul, Nat.mul_assoc, Nat.mul_comm u]; omega,
      Nat.add_mul_div_right _ _ (Nat.pow_pos (by decide)), Nat.div_eq_of_lt hv]; omega
  have e2 : (hi * 2 ^ 256 + lo) / 2 ^ k = 2 * (hi * 2 ^ (255 - k) + u) + v / 2 ^ k := by
    rw [p256, ← hlo, show hi * (2 ^ (255 - k) * 2 ^ (k + 1)) + (2 ^ (k + 1) * u + v) = v + (2 * (hi * 2 ^ (255 - k) + u)) * 2 ^ k by
      rw [pk]
      have a1 : hi * (2 ^ (255 - k) * (2 * 2 ^ k)) = 2 * (hi * 2 ^ (255 - k)) * 2 ^ k := by
        rw [← Nat.mul_assoc, ← Nat.mul_assoc, Nat.mul_comm (hi * 2 ^ (255 - k)) 2]
      have a2 : 2 * 2 ^ k * u = 2 * u * 2 ^ k := by rw [Nat.mul_assoc, Nat.mul_comm (2 ^ k), ← Nat.mul_assoc]
      rw [a1, a2, Nat.mul_add, Nat.add_mul]; omega,
      Nat.add_mul_div_right _ _ p0]; omega
  have e3 : lo * 2 ^ i % 2 ^ 256 = v * 2 ^ (255 - k) := by
    rw [hi', ← hlo, Nat.add_mul, p256, show 2 ^ (k + 1) * u * 2 ^ (255 - k) = u * (2 ^ (255 - k) * 2 ^ (k + 1)) by rw [Nat.mul_comm (2 ^ (k + 1)), Nat.mul_assoc, Nat.mul_comm (2 ^ (k + 1))],
      Nat.add_comm, Nat.add_mul_mod_self_right, Nat.mod_eq_of_lt]
    rw [Nat.mul_comm (2 ^ (255 - k))]; exact Nat.mul_lt_mul_of_pos_right hv (Nat.pow_pos (by decide))
  have e4 : 2 * (v * 2 ^ (255 - k)) / 2 ^ 256 = v / 2 ^ k := by
    rw [p256, pk, show 2 * (v * 2 ^ (255 - k)) = v * (2 ^ (255 - k) * 2) by rw [← Nat.mul_assoc, ← Nat.mul_assoc, Nat.mul_comm 2 v, Nat.mul_assoc, Nat.mul_comm 2, ← Nat.mul_assoc],
      show 2 ^ (255 - k) * (2 * 2 ^ k) = 2 ^ k * (2 ^ (255 - k) * 2) by rw [← Nat.mul_assoc, Nat.mul_comm], Nat.mul_div_mul_right _ _ (by have : 0 < 2 ^ (255 - k) := Nat.pow_pos (by decide); omega)]
  rw [e1, e2, e3, e4]
theorem dbit (lo i : Nat) : 2 * dLo lo i / M ≤ 1 := by
  have := dLo_lt lo i
  have hM : 0 < M := by rw [M_eq]; decide
  rw [← Nat.lt_succ_iff, Nat.div_lt_iff_lt_mul hM]; omega
theorem dQ_low (N b i : Nat) (_h : i < 256) : dQ N b i % 2 ^ (255 - i + 1) = 0 := by
  unfold dQ; rw [show 255 - i + 1 = 256 - i by omega]; exact Nat.mul_mod_left _ _
theorem d_yes (hi lo b i : Nat) (hb : 0 < b) (h : i < 256) (hge : b ≤ 2 * dR (hi * M + lo) b i + 2 * dLo lo i / M) :
    dR (hi * M + lo) b (i + 1) = 2 * dR (hi * M + lo) b i + 2 * dLo lo i / M - b ∧ dQ (hi * M + lo) b (i + 1) = dQ (hi * M + lo) b i + 2 ^ (255 - i) := by
  have hT := dT_step hi lo i h
  have hbit := dbit lo i
  unfold dR dQ at *
  generalize dT (hi * M + lo) (i + 1) = T' at *
  generalize dT (hi * M + lo) i = T at *
  generalize 2 * dLo lo i / M = c at *
  have hd := Nat.div_add_mod T b
  have hr := Nat.mod_lt T hb
  generalize T / b = q at *
  generalize T % b = r at *
  have e : T' = (2 * r + c - b) + (2 * q + 1) * b := by rw [hT, ← hd, Nat.add_mul, Nat.mul_assoc, Nat.mul_comm q b]; omega
  have h1 : 2 * r + c - b < b := by omega
  rw [e, Nat.add_mul_mod_self_right, Nat.mod_eq_of_lt h1, Nat.add_mul_div_right _ _ hb, Nat.div_eq_of_lt h1]
  refine ⟨rfl, ?_⟩
  rw [show 256 - (i + 1) = 255 - i by omega, show 256 - i = 255 - i + 1 by omega, Nat.pow_succ, Nat.zero_add, Nat.add_mul, Nat.one_mul, Nat.mul_comm 2 q, Nat.mul_assoc, Nat.mul_comm 2]
theorem d_no (hi lo b i : Nat) (hb : 0 < b) (h : i < 256) (hge : 2 * dR (hi * M + lo) b i + 2 * dLo lo i / M < b) :
    dR (hi * M + lo) b (i + 1) = 2 * dR (hi * M + lo) b i + 2 * dLo lo i / M ∧ dQ (hi * M + lo) b (i + 1) = dQ (hi * M + lo) b i := by
  have hT := dT_step hi lo i h
  have hbit := dbit lo i
  unfold dR dQ at *
  generalize dT (hi * M + lo) (i + 1) = T' at *
  generalize dT (hi * M + lo) i = T at *
  generalize 2 * dLo lo i / M = c at *
  have hd := Nat.div_add_mod T b
  generalize T / b = q at *
  generalize T % b = r at *
  have e : T' = (2 * r + c) + (2 * q) * b := by rw [hT, ← hd, Nat.mul_assoc, Nat.mul_comm q b]; omega
  rw [e, Nat.add_mul_mod_self_right, Nat.mod_eq_of_lt hge, Nat.add_mul_div_right _ _ hb, Nat.div_eq_of_lt hge]
  refine ⟨rfl, ?_⟩
  rw [show 256 - (i + 1) = 255 - i by omega, show 256 - i = 255 - i + 1 by omega, Nat.pow_succ, Nat.zero_add, Nat.mul_comm 2 q, Nat.mul_assoc, Nat.mul_comm 2]
theorem dR_lt (N b i : Nat) (hb : 0 < b) : dR N b i < b := Nat.mod_lt _ hb
theorem d_start {hi lo b : Nat} (hl : lo < M) (hb : hi < b) : dR (hi * M + lo) b 0 = hi ∧ dQ (hi * M + lo) b 0 = 0 := by
  unfold dR dQ; rw [dT_zero hl, Nat.mod_eq_of_lt hb, Nat.div_eq_of_lt hb]; exact ⟨rfl, Nat.zero_mul _⟩
theorem d_end (N b : Nat) : dR N b 256 = N % b ∧ dQ N b 256 = N / b := by
  unfold dR dQ dT; simp
theorem d_early {hi lo b i : Nat} (h : i ≤ 256) (hr : dR (hi * M + lo) b i = 0) (h0 : dLo lo i = 0) : dR (hi * M + lo) b i = (hi * M + lo) % b ∧ dQ (hi * M + lo) b i = (hi * M + lo) / b := by
  have key : ∀ k, i + k ≤ 256 → dT (hi * M + lo) (i + k) = dT (hi * M + lo) i * 2 ^ k ∧ dLo lo (i + k) = 0 := by
    intro k
    induction k with
    | zero => intro _; exact ⟨by simp, h0⟩
    | succ k ih =>
      intro hk
      obtain ⟨h1, h2⟩ := ih (by omega)
      have h3 := dT_step hi lo (i + k) (by omega)
      have h4 := dLo_step lo (i + k)
      rw [h2] at h3 h4
      refine ⟨?_, ?_⟩
      · rw [← Nat.add_assoc, h3, h1, Nat.mul_zero, Nat.zero_div, Nat.pow_succ, Nat.add_zero, Nat.mul_comm 2, Nat.mul_assoc]
      · rw [← Nat.add_assoc, ← h4]; simp
  have hN : hi * M + lo = dT (hi * M + lo) i * 2 ^ (256 - i) := by
    have := (key (256 - i) (by omega)).1
    rw [show i + (256 - i) = 256 by omega] at this
    rw [← this]; unfold dT; simp
  unfold dR dQ at *
  generalize dT (hi * M + lo) i = T at *
  rw [hN]
  by_cases hb : b = 0
  · subst hb; simp at *; simp [hr]
  · have hb' : 0 < b := by omega
    have hd := Nat.div_add_mod T b
    rw [hr] at hd
    rw [hr]
    generalize T / b = q at *
    have e : T * 2 ^ (256 - i) = q * 2 ^ (256 - i) * b := by rw [← hd, Nat.add_zero, Nat.mul_comm b q, Nat.mul_right_comm]
    rw [e, Nat.mul_mod_left, Nat.mul_div_cancel _ hb']
    exact ⟨rfl, rfl⟩
theorem U_small (n : Nat) (hn : n < 18446744073709551616) : Value.agg #[.int .u64 n, .int .u64 0, .int .u64 0, .int .u64 0] = U n :=
  U_of_sum n ⟨by omega, by omega⟩ word_zero word_zero word_zero (by omega)
set_option maxHeartbeats 1000000 in
theorem fromuint_any (n : Int) (w : World) (hn : Word n) :
    Calls Tryz.prog 92 #[.int .u64 n] w fun e w' => e = .returned (U n.toNat) ∧ Below w.heap.size w w' := by
  obtain ⟨n, rfl⟩ := Int.eq_ofNat_of_zero_le hn.1
  have h2 := hn.2
  go_enter Tryz.func92, Tryz.ntmps92
  go_wp2
  go_returns
  refine ⟨ret_U (U_small n (by omega)), ?_⟩
  (repeat' (first | (with_reducible exact Below.refl _ _) | (with_reducible assumption) | (with_reducible refine below_drewN ?_ _) | (with_reducible refine Below.drew ?_) | (with_reducible refine Below.setCell ?_ ?_ _) | (with_reducible refine Below.alloc ?_ ?_ _) | (with_reducible exact Nat.le_refl _) | omega | (simp; omega) | (simp; done)))
theorem dbl_word {x c : Int} (_hx : Word x) (hc : Bit c) : bits .or .u64 (IntKind.u64.wrap (x * 2)) c = (x * 2) % 18446744073709551616 + c := by
  unfold Word Bit at *
  rw [IntKind.wrap_u64]
  have e : x * 2 % 18446744073709551616 = (x % 9223372036854775808) * 2 ^ 1 := by omega
  have h := u64_or_add (x % 9223372036854775808) c 1 (by omega) hc.1 (by omega) (by omega)
  rw [← e] at h
  exact h
theorem dbl_bit {x : Int} (hx : Word x) : Bit (x / 9223372036854775808) := by unfold Word Bit at *; omega
theorem dbl_words (A : Nat) (c : Int) (hA : A < M) (hc : Bit c) :
    Value.agg #[.int .u64 (bits .or .u64 (IntKind.u64.wrap (wd A 0 * 2)) c), .int .u64 (bits .or .u64 (IntKind.u64.wrap (wd A 1 * 2)) (wd A 0 / 9223372036854775808)), .int .u64 (bits .or .u64 (IntKind.u64.wrap (wd A 2 * 2)) (wd A 1 / 9223372036854775808)), .int .u64 (bits .or .u64 (IntKind.u64.wrap (wd A 3 * 2)) (wd A 2 / 9223372036854775808))] = U ((2 * A + c.toNat) % M) ∧ wd A 3 / 9223372036854775808 = (((2 * A + c.toNat) / M : Nat) : Int) := by
  have w0 := wd_word A 0; have w1 := wd_word A 1; have w2 := wd_word A 2; have w3 := wd_word A 3
  have ea := wd_sum A hA
  rw [dbl_word w0 hc, dbl_word w1 (dbl_bit w0), dbl_word w2 (dbl_bit w1), dbl_word w3 (dbl_bit w2)]
  generalize wd A 0 = a0 at *; generalize wd A 1 = a1 at *; generalize wd A 2 = a2 at *; generalize wd A 3 = a3 at *
  unfold Word Bit at *
  refine ⟨U_of_sum _ ?_ ?_ ?_ ?_ ?_, ?_⟩
  · unfold Word; omega
  · unfold Word; omega
  · unfold Word; omega
  · unfold Word; omega
  · rw [M_eq] at *; omega
  · rw [M_eq] at *; omega
theorem ret_Ui {a b : Value} {c d : Int} (h : a = b) (h' : c = d) : Ending.returned (.tuple #[a, .int .u64 c]) = .returned (.tuple #[b, .int .u64 d]) := by rw [h, h']
set_option maxHeartbeats 1000000 in
theorem double_any (A : Nat) (c : Int) (w : World) (hA : A < M) (hc : Bit c) :
    Calls Tryz.prog 162 #[U A, .int .u64 c] w fun e w' => e = .returned (.tuple #[U ((2 * A + c.toNat) % M), .int .u64 (((2 * A + c.toNat) / M : Nat) : Int)]) ∧ Below w.heap.size w w' := by
  have H := Lib.hid hc
  clear hc
  go_enter Tryz.func162, Tryz.ntmps162
  go_wp2
  refine wp_loop_rounds 5 ?_
  repeat (rw [rounds_succ]; go_wp2; try (go_region; go_wp2))
  go_returns
  obtain ⟨g1, g2⟩ := dbl_words A c hA H.out
  refine ⟨ret_Ui g1 g2, ?_⟩
  (repeat' (first | (with_reducible exact Below.refl _ _) | (with_reducible assumption) | (with_reducible refine below_drewN ?_ _) | (with_reducible refine Below.drew ?_) | (with_reducible refine Below.setCell ?_ ?_ _) | (with_reducible refine Below.alloc ?_ ?_ _) | (with_reducible exact Nat.le_refl _) | omega | (simp; omega) | (simp; done)))
theorem setRow_alloc_at (w : World) (c c' : Array Value) (t : TypeId) (n : Nat) (hn : n = w.heap.size) : (w.alloc (.cells c t)).setRow n c' = w.alloc (.cells c' t) := by
  subst hn; exact World.setRow_alloc_new w c c' t
theorem setRow_alloc_past (w : World) (o : Obj) (c' : Array Value) (n : Nat) (hn : n < w.heap.size) : (w.alloc o).setRow n c' = (w.setRow n c').alloc o := by
  simp only [World.setRow, World.alloc]
  congr 1
  apply Array.ext_getElem?
  intro i
  simp only [Array.getElem?_modify, Array.getElem?_push, Array.size_modify]
  by_cases h : n = i
  · subst h; rw [if_pos rfl, if_neg (by omega), if_neg (by omega), if_pos rfl]
  · rw [if_neg h]; split <;> first | rfl | (rw [if_neg h])
theorem heap_past_aux (w : World) (o : Obj) (n : Nat) (hn : n < w.heap.size) : (w.alloc o).heap[n]? = w.heap[n]? := by
  show (w.heap.push o)[n]? = _
  rw [Array.getElem?_push, if_neg (Nat.ne_of_lt hn)]
theorem heap_alloc_at (w : World) (o : Obj) (n : Nat) (hn : n = w.heap.size) : (w.alloc o).heap[n]? = some o := by subst hn; exact heap_alloc_new w o
theorem heap_alloc_past (w : World) (o : Obj) (n : Nat) (hn : n < w.heap.size) : (w.alloc o).heap[n]? = w.heap[n]? := Go.Proofs.YtaebcmpbbamfpaaGreatDoor.heap_past_aux w o n hn
theorem wl_load {P : Program} {ops : Array Oper} {rest : List Oper} {dst : Option Tmp} {ty ty' : TypeId} {x : Operand} {pos : String} {after : Array Edge} {a : Act} {w : World} {Q : Exit → Act → World → Prop}
    (g : Nat) (t : TypeId) (cs : Array Value) (d : TypeDesc) (hx : a.eval x = .pointer (some ⟨g, 0, none⟩)) (hg : w.heap[g]? = some (.cells cs t (0, 0)))
    (hu : P.underlying ty = some d) (hd : (match d with | .struct _ | .array _ _ => true | _ => false) = true) (hi : (P.info? ty).map (·.size) = some cs.size)
    (h : wpList P ops Q rest (a.put dst (.agg cs)) w) : wpList P ops Q (⟨dst, .load ty x, ty', pos, after, none⟩ :: rest) a w :=
  wpList_load_row rfl ty x rfl g hx t cs (0, 0) d hg hu hd hi h
theorem wl_store {P : Program} {ops : Array Oper} {rest : List Oper} {ty ty' : TypeId} {x y : Operand} {pos : String} {after : Array Edge} {a : Act} {w : World} {Q : Exit → Act → World → Prop}
    (g : Nat) (t : TypeId) (old cs : Array Value) (hx : a.eval x = .pointer (some ⟨g, 0, none⟩)) (hy : a.eval y = .agg cs) (hg : w.heap[g]? = some (.cells old t (0, 0)))
    (hi : (P.info? ty).map (·.size) = some cs.size) (ho : old.size = cs.size) (h1 : cs.all (·.oneCell') = true)
    (h : wpList P ops Q rest a (w.setRow g cs)) : wpList P ops Q (⟨none, .store ty x y, ty', pos, after, none⟩ :: rest) a w :=
  wpList_store_row rfl ty x y rfl g cs hx hy t old hg hi ho h1 h
theorem hp_3_0 (w : World) (o0 o1 o2 : Obj) : (((w.alloc o0).alloc o1).alloc o2).heap[w.heap.size]? = some o0 := (heap_alloc_past _ _ _ (by simp; try omega)).trans ((heap_alloc_past _ _ _ (by simp; try omega)).trans (heap_alloc_at _ _ _ (by simp)))
theorem hp_3_1 (w : World) (o0 o1 o2 : Obj) : (((w.alloc o0).alloc o1).alloc o2).heap[w.heap.size + 1]? = some o1 := (heap_alloc_past _ _ _ (by simp; try omega)).trans (heap_alloc_at _ _ _ (by simp))
theorem sr_3_1 (w : World) (o0 o2 : Obj) (c c' : Array Value) (t : TypeId) : (((w.alloc o0).alloc (.cells c t)).alloc o2).setRow (w.heap.size + 1) c' = (((w.alloc o0).alloc (.cells c' t)).alloc o2) := by rw [setRow_alloc_past _ _ _ _ (by simp; try omega), setRow_alloc_at _ _ _ _ _ (by simp)]
theorem hp_3_2 (w : World) (o0 o1 o2 : Obj) : (((w.alloc o0).alloc o1).alloc o2).heap[w.heap.size + 1 + 1]? = some o2 := heap_alloc_at _ _ _ (by simp)
theorem hp_5_0 (w : World) (o0 o1 o2 o3 o4 : Obj) : (((((w.alloc o0).alloc o1).alloc o2).alloc o3).alloc o4).heap[w.heap.size]? = some o0 := (heap_alloc_past _ _ _ (by simp; try omega)).trans ((heap_alloc_past _ _ _ (by simp; try omega)).trans ((heap_alloc_past _ _ _ (by simp; try omega)).trans ((heap_alloc_past _ _ _ (by simp; try omega)).trans (heap_alloc_at _ _ _ (by simp)))))
theorem hp_5_1 (w : World) (o0 o1 o2 o3 o4 : Obj) : (((((w.alloc o0).alloc o1).alloc o2).alloc o3).alloc o4).heap[w.heap.size + 1]? = some o1 := (heap_alloc_past _ _ _ (by simp; try omega)).trans ((heap_alloc_past _ _ _ (by simp; try omega)).trans ((heap_alloc_past _ _ _ (by simp; try omega)).trans (heap_alloc_at _ _ _ (by simp))))
theorem hp_5_2 (w : World) (o0 o1 o2 o3 o4 : Obj) : (((((w.alloc o0).alloc o1).alloc o2).alloc o3).alloc o4).heap[w.heap.size + 1 + 1]? = some o2 := (heap_alloc_past _ _ _ (by simp; try omega)).trans ((heap_alloc_past _ _ _ (by simp; try omega)).trans (heap_alloc_at _ _ _ (by simp)))
theorem hp_5_3 (w : World) (o0 o1 o2 o3 o4 : Obj) : (((((w.alloc o0).alloc o1).alloc o2).alloc o3).alloc o4).heap[w.heap.size + 1 + 1 + 1]? = some o3 := (heap_alloc_past _ _ _ (by simp; try omega)).trans (heap_alloc_at _ _ _ (by simp))
theorem hp_5_4 (w : World) (o0 o1 o2 o3 o4 : Obj) : (((((w.alloc o0).alloc o1).alloc o2).alloc o3).alloc o4).heap[w.heap.size + 1 + 1 + 1 + 1]? = some o4 := heap_alloc_at _ _ _ (by simp)
theorem ret_UUb {a b c d : Value} {x y : Bool} (h : a = b) (h' : c = d) (h2 : x = y) : Ending.returned (.tuple #[a, c, .bool x]) = .returned (.tuple #[b, d, .bool y]) := by rw [h, h', h2]
theorem setbit_row (q g m : Nat) (hg : g < 4) (hm : m < 64) (h : q % 2 ^ (64 * g + m + 1) = 0) : (cU q).setIfInBounds g (.int .u64 (bits .or .u64 (wd q g) (2 ^ m))) = cU (q + 2 ^ (64 * g + m)) := by
  rw [setbit_at q g m hm h]
  have hh : ∀ j, g < j → wd (q + 2 ^ (64 * g + m)) j = wd q j := fun j hj => setbit_hi q _ j h (by omega)
  have hl : ∀ j, j < g → wd (q + 2 ^ (64 * g + m)) j = wd q j := fun j hj => setbit_lo q _ j (by omega)
  generalize q + 2 ^ (64 * g + m) = q' at *
  rcases (by omega : g = 0 ∨ g = 1 ∨ g = 2 ∨ g = 3) with rfl | rfl | rfl | rfl
  · show #[_, _, _, _] = _; rw [cU, hh 1 (by omega), hh 2 (by omega), hh 3 (by omega)]
  · show #[_, _, _, _] = _; rw [cU, hl 0 (by omega), hh 2 (by omega), hh 3 (by omega)]
  · show #[_, _, _, _] = _; rw [cU, hl 0 (by omega), hl 1 (by omega), hh 3 (by omega)]
  · show #[_, _, _, _] = _; rw [cU, hl 0 (by omega), hl 1 (by omega), hl 2 (by omega)]
theorem pow_in (m : Nat) (h : m < 64) : IntKind.u64.wrap (2 ^ m) = 2 ^ m := by
  have h1 : (2 : Nat) ^ m < 2 ^ 64 := Nat.pow_lt_pow_right (by decide) h
  have h2 : ((2 ^ m : Nat) : Int) < ((2 ^ 64 : Nat) : Int) := by omega
  have h3 : ((2 ^ m : Nat) : Int) = 2 ^ m := by simp
  rw [h3] at h2
  exact u64_in' (by rw [← h3]; exact Int.natCast_nonneg _) h2
theorem step_r2 {v b : Nat} (h : b ≤ v) (h2 : v - b < M) (hb : b < M) : (v % M + M - b) % M = v - b := by rw [M_eq] at *; omega
theorem cmp_ge {A B : Nat} (h : B ≤ A) : 0 ≤ cmpN A B := by unfold cmpN; split <;> (try split) <;> omega
theorem cmp_lt {A B : Nat} (h : A < B) : cmpN A B < 0 := by unfold cmpN; split <;> (try split) <;> omega
def Own (w : World) (g : Nat) (C : Array Value) : Prop := w.heap[g]? = some (.cells C 39 (0, 0))
theorem Own.cell {w : World} {g : Nat} {C : Array Value} (h : Own w g C) (j : Nat) : w.cell? ⟨g, j, none⟩ = C[j]? := cell_of_row w g j C _ _ h
theorem Own.free {w : World} {g : Nat} {C : Array Value} (h : Own w g C) (j : Nat) : w.frozen? ⟨g, j, none⟩ = false := frozen_of_row w g j C _ h
theorem Own.lt {w : World} {g : Nat} {C : Array Value} (h : Own w g C) : g < w.heap.size := by
  unfold Own at h
  by_cases hl : g < w.heap.size
  · exact hl
  · rw [Array.getElem?_eq_none (by omega)] at h; exact absurd h (by simp)
theorem Own.below {w w' : World} {g : Nat} {C : Array Value} (h : Own w g C) (hb : Below w.heap.size w w') : Own w' g C := (hb.block g h.lt).trans h
theorem Own.set4 {w : World} {g : Nat} {c0 c1 c2 c3 : Value} (h : Own w g #[c0, c1, c2, c3]) (d0 d1 d2 d3 : Value) : Own ((((w.setCell ⟨g, 0, none⟩ d0).setCell ⟨g, 1, none⟩ d1).setCell ⟨g, 2, none⟩ d2).setCell ⟨g, 3, none⟩ d3) g #[d0, d1, d2, d3] :=
  heap_setCell_same _ g 3 _ _ d3 (heap_setCell_same _ g 2 _ _ d2 (heap_setCell_same _ g 1 _ _ d1 (heap_setCell_same _ g 0 _ _ d0 h)))
theorem Own.set {w : World} {g i : Nat} {C : Array Value} (h : Own w g C) (d : Value) : Own (w.setCell ⟨g, i, none⟩ d) g (C.setIfInBounds i d) := heap_setCell_same _ g i _ _ d h
theorem Own.other {w : World} {g : Nat} {C : Array Value} (h : Own w g C) {g' i : Nat} (hg : g ≠ g') (d : Value) : Own (w.setCell ⟨g', i, none⟩ d) g C := (heap_setCell_other w ⟨g', i, none⟩ g d hg).trans h
theorem Own.other4 {w : World} {g : Nat} {C : Array Value} (h : Own w g C) {g' : Nat} (hg : g ≠ g') (d0 d1 d2 d3 : Value) : Own ((((w.setCell ⟨g', 0, none⟩ d0).setCell ⟨g', 1, none⟩ d1).setCell ⟨g', 2, none⟩ d2).setCell ⟨g', 3, none⟩ d3) g C :=
  (((h.other hg d0).other hg d1).other hg d2).other hg d3
theorem Own.drew {w : World} {g : Nat} {C : Array Value} (h : Own w g C) : Own w.drew g C := h
theorem Own.new {w : World} (C : Array Value) : Own (w.alloc (.cells C 39)) w.heap.size C := heap_alloc_at w _ _ rfl
theorem Own.past {w : World} {g : Nat} {C : Array Value} (h : Own w g C) (o : Obj) : Own (w.alloc o) g C := (heap_alloc_past w o g h.lt).trans h
theorem loadU {w : World} {g : Nat} {C : Array Value} (O : Own w g C) (hs : C.size = 4) : (loadVar 39 ⟨g, 0, none⟩).run Tryz.prog w = .ok (.agg C) w :=
  run_loadVar_row w g 39 39 C (0, 0) _ O Tryz.underlying39 rfl (by rw [hs]; kernel_rfl)
theorem res_cct {fn : Func} {p1 p2 b : Tmp} (h : fn.results = #[.cell p1 39, .cell p2 39, .tmp b]) (tmps : Array Value) (w : World) (g1 g2 : Nat) (C1 C2 : Array Value)
    (hp1 : tmps.getD p1 undef = .pointer (some ⟨g1, 0, none⟩)) (hp2 : tmps.getD p2 undef = .pointer (some ⟨g2, 0, none⟩)) (O1 : Own w g1 C1) (O2 : Own w g2 C2) (s1 : C1.size = 4) (s2 : C2.size = 4) :
    (results fn tmps).run Tryz.prog w = .ok (.tuple #[.agg C1, .agg C2, tmps.getD b undef]) w := by
  have h1 : tmps[p1]?.getD undef = .pointer (some ⟨g1, 0, none⟩) := by simpa using hp1
  have h2 : tmps[p2]?.getD undef = .pointer (some ⟨g2, 0, none⟩) := by simpa using hp2
  simp [results, h, h1, h2, asAddr, loadU O1 s1, loadU O2 s2]
set_option maxHeartbeats 1000000 in
theorem div_no (hi lo b : Nat) (w : World) (h1 : hi < M) (h3 : b < M) (hle : b ≤ hi) :
    Calls Tryz.prog 147 #[U hi, U lo, U b] w fun e w' => e = .returned (.tuple #[U 0, U 0, .bool false]) ∧ Below w.heap.size w w' := by
  have hc : cmpN b hi ≤ 0 := by unfold cmpN; split <;> (try split) <;> omega
  go_enter Tryz.func147, Tryz.ntmps147
  go_wp2_with fail
  go_step3
  go_wp2_with fail
  refine (cmp_any b hi _ h3 h1).mono ?_; rintro e w1 ⟨rfl, hb⟩
  have O3 : Own w1 (w.heap.size + 1 + 1 + 1) #[.int .u64 0, .int .u64 0, .int .u64 0, .int .u64 0] := Own.below (hp_5_3 _ _ _ _ _ _) hb
  have O4 : Own w1 (w.heap.size + 1 + 1 + 1 + 1) #[.int .u64 0, .int .u64 0, .int .u64 0, .int .u64 0] := Own.below (hp_5_4 _ _ _ _ _ _) hb
  have hb' : Below w.heap.size w w1 := Below.trans (by (repeat' (first | (with_reducible exact Below.refl _ _) | (with_reducible assumption) | (with_reducible refine below_drewN ?_ _) | (with_reducible refine Below.drew ?_) | (with_reducible refine Below.setCell ?_ ?_ _) | (with_reducible refine Below.alloc ?_ ?_ _) | (with_reducible exact Nat.le_refl _) | omega | (simp; omega) | (simp; done)))) (hb.mono (by simp only [World.size_alloc]; omega))
  clear hb
  have c3 := O3.cell; have f3 := O3.free; have c4 := O4.cell; have f4 := O4.free
  go_wp2
  rw [Exit.noGoto_ret]
  go_big_open
  refine bodyPost_ret (res_cct rfl _ _ _ _ _ _ rfl rfl ((O3.set4 _ _ _ _).other4 (by omega) _ _ _ _) ((O4.other4 (by omega) _ _ _ _).set4 _ _ _ _) rfl rfl) rfl ?_
  refine ⟨ret_UUb U0_eq U0_eq rfl, ?_⟩
  (repeat' (first | (with_reducible exact Below.refl _ _) | (with_reducible assumption) | (with_reducible refine below_drewN ?_ _) | (with_reducible refine Below.drew ?_) | (with_reducible refine Below.setCell ?_ ?_ _) | (with_reducible refine Below.alloc ?_ ?_ _) | (with_reducible exact Nat.le_refl _) | omega | (simp; omega) | (simp; done)))
def DivW (w wr : World) (z hi lo b i : Nat) : Prop :=
  Below w.heap.size w wr ∧ w.heap.size + 5 ≤ z ∧ z < wr.heap.size ∧
  Own wr (w.heap.size + 1) (cU (dLo lo i)) ∧
  Own wr (w.heap.size + 1 + 1) (cU b) ∧
  Own wr (w.heap.size + 1 + 1 + 1) (cU (dQ (hi * M + lo) b i)) ∧
  Own wr (w.heap.size + 1 + 1 + 1 + 1) (cU (dR (hi * M + lo) b i)) ∧
  Own wr z #[.int .u64 0, .int .u64 0, .int .u64 0, .int .u64 0]
set_option maxHeartbeats 4000000 in
theorem div_yes (hi lo b : Nat) (w : World) (h1 : hi < M) (h2 : lo < M) (h3 : b < M) (hle : hi < b) :
    Calls Tryz.prog 147 #[U hi, U lo, U b] w fun e w' => e = .returned (.tuple #[U ((hi * M + lo) / b), U ((hi * M + lo) % b), .bool true]) ∧ Below w.heap.size w w' := by
  have hc : 0 < cmpN b hi := by rw [cmpN_gt hle]; omega
  go_enter Tryz.func147, Tryz.ntmps147
  go_wp2_with fail
  go_step3
  go_wp2_with fail
  refine (cmp_any b hi _ h3 h1).mono ?_; rintro e w1 ⟨rfl, hb⟩
  have O0 : Own w1 w.heap.size (cU hi) := Own.below (hp_5_0 _ _ _ _ _ _) hb
  have O1 : Own w1 (w.heap.size + 1) (cU lo) := Own.below (hp_5_1 _ _ _ _ _ _) hb
  have O2 : Own w1 (w.heap.size + 1 + 1) (cU b) := Own.below (hp_5_2 _ _ _ _ _ _) hb
  have O3 : Own w1 (w.heap.size + 1 + 1 + 1) #[.int .u64 0, .int .u64 0, .int .u64 0, .int .u64 0] := Own.below (hp_5_3 _ _ _ _ _ _) hb
  have O4 : Own w1 (w.heap.size + 1 + 1 + 1 + 1) #[.int .u64 0, .int .u64 0, .int .u64 0, .int .u64 0] := Own.below (hp_5_4 _ _ _ _ _ _) hb
  have hB : Below w.heap.size w w1 := Below.trans (by (repeat' (first | (with_reducible exact Below.refl _ _) | (with_reducible assumption) | (with_reducible refine below_drewN ?_ _) | (with_reducible refine Below.drew ?_) | (with_reducible refine Below.setCell ?_ ?_ _) | (with_reducible refine Below.alloc ?_ ?_ _) | (with_reducible exact Nat.le_refl _) | omega | (simp; omega) | (simp; done)))) (hb.mono (by simp only [World.size_alloc]; omega))
  clear hb
  have c0 := O0.cell; have l0 := O0.lt; have c4 := O4.cell; have f4 := O4.free; have l4 := O4.lt
  go_wp2
  go_step3
  go_wp2
  go_loopg [10] 4 (fun k p wr => k ≤ 4 ∧ p = .int .i64 (k - 1) ∧ DivW w wr w1.heap.size hi lo b (256 - 64 * k))
  case atStart =>
    obtain ⟨e1, e2⟩ := d_start h2 hle
    refine ⟨by omega, rfl, ?_, by omega, by simp, ?_, ?_, ?_, ?_, ?_⟩
    · (repeat' (first | (with_reducible exact Below.refl _ _) | (with_reducible assumption) | (with_reducible refine below_drewN ?_ _) | (with_reducible refine Below.drew ?_) | (with_reducible refine Below.setCell ?_ ?_ _) | (with_reducible refine Below.alloc ?_ ?_ _) | (with_reducible exact Nat.le_refl _) | omega | (simp; omega) | (simp; done)))
    · rw [show 256 - 64 * 4 = 0 by omega, dLo_zero h2]; exact (O1.other4 (by omega) _ _ _ _).past _
    · exact (O2.other4 (by omega) _ _ _ _).past _
    · rw [show 256 - 64 * 4 = 0 by omega, e2, cU, wd_zero, wd_zero, wd_zero, wd_zero]; exact (O3.other4 (by omega) _ _ _ _).past _
    · rw [show 256 - 64 * 4 = 0 by omega, e1]; exact (O4.set4 _ _ _ _).past _
    · exact heap_alloc_at _ _ _ (by simp)
  case round =>
    obtain ⟨hk, rfl, hW⟩ := hrel
    by_cases hk0 : gk = 0
    · subst hk0
      obtain ⟨B0, z1, z2, P1, P2, P3, P4, P5⟩ := hW
      obtain ⟨y1, y2⟩ := d_end (hi * M + lo) b
      rw [show 256 - 64 * 0 = 256 by omega, y1] at P4
      rw [show 256 - 64 * 0 = 256 by omega, y2] at P3
      clear y1 y2 P1
      obtain ⟨r, er⟩ : ∃ r, r = (hi * M + lo) % b := ⟨_, rfl⟩
      obtain ⟨q, eq⟩ : ∃ q, q = (hi * M + lo) / b := ⟨_, rfl⟩
      rw [← er] at P4; rw [← eq] at P3
      have ER := Lib.hid er; have EQ := Lib.hid eq
      clear er eq
      have c3 := P3.cell; have f3 := P3.free; have c4' := P4.cell; have f4' := P4.free
      go_wp2
      go_region
      go_wp2
      try rw [Exit.noGoto_ret]
      try go_big_open
      refine bodyPost_ret (res_cct rfl _ _ _ _ _ _ rfl rfl ((P3.set4 _ _ _ _).other4 (by omega) _ _ _ _).drew ((P4.other4 (by omega) _ _ _ _).set4 _ _ _ _).drew rfl rfl) rfl ?_
      rw [← ER.out, ← EQ.out]
      refine ⟨rfl, ?_⟩
      (repeat' (first | (with_reducible exact Below.refl _ _) | (with_reducible assumption) | (with_reducible refine below_drewN ?_ _) | (with_reducible refine Below.drew ?_) | (with_reducible refine Below.setCell ?_ ?_ _) | (with_reducible refine Below.alloc ?_ ?_ _) | (with_reducible exact Nat.le_refl _) | omega | (simp; omega) | (simp; done)))
    · obtain ⟨g, rfl⟩ : ∃ g, gk = g + 1 := ⟨gk - 1, by omega⟩
      have eg : ((g + 1 : Nat) : Int) - 1 = g := by omega
      rw [eg]
      have HW := Lib.hid hW
      clear hW eg
      obtain ⟨wo, rfl⟩ : ∃ wo : World, wo = wr := ⟨_, rfl⟩
      go_wp2
      go_loopg [11] 64 (fun k p wr => k ≤ 64 ∧ p = .int .i64 (k - 1) ∧ DivW w wr w1.heap.size hi lo b (256 - 64 * g - k))
      case atStart =>
        have := HW.out
        exact ⟨by omega, rfl, by rw [show 256 - 64 * g - 64 = 256 - 64 * (g + 1) by omega]; exact this⟩
      case round =>
        obtain ⟨hk2, rfl, hW⟩ := hrel
        by_cases hm0 : gk = 0
        · subst hm0
          have HW2 := Lib.hid hW
          clear hW
          go_wp2
          go_roundg g
          case rel => exact ⟨by omega, by go_num, HW2.out⟩
          case measure => omega
        · obtain ⟨m, rfl⟩ : ∃ m, gk = m + 1 := ⟨gk - 1, by omega⟩
          have eg : ((m + 1 : Nat) : Int) - 1 = m := by omega
          rw [eg]
          clear eg
          obtain ⟨i, hi2⟩ : ∃ i, i = 256 - 64 * g - (m + 1) := ⟨_, rfl⟩
          rw [← hi2] at hW
          have HI : Hid (i + (64 * g + m) = 255) := by show _ = _; omega
          clear hi2
          obtain ⟨B0, z1, z2, P1, P2, P3, P4, P5⟩ := hW
          obtain ⟨x, ex⟩ : ∃ x, x = dLo lo i := ⟨_, rfl⟩
          obtain ⟨r, er⟩ : ∃ r, r = dR (hi * M + lo) b i := ⟨_, rfl⟩
          obtain ⟨q, eq⟩ : ∃ q, q = dQ (hi * M + lo) b i := ⟨_, rfl⟩
          obtain ⟨x', ex'⟩ : ∃ x', x' = dLo lo (i + 1) := ⟨_, rfl⟩
          obtain ⟨c, ec⟩ : ∃ c : Nat, c = 2 * x / M := ⟨_, rfl⟩
          obtain ⟨r1, er1⟩ : ∃ r1, r1 = (2 * r + c) % M := ⟨_, rfl⟩
          obtain ⟨ov, eov⟩ : ∃ ov : Nat, ov = (2 * r + c) / M := ⟨_, rfl⟩
          obtain ⟨r2, er2⟩ : ∃ r2, r2 = (r1 + M - b) % M := ⟨_, rfl⟩
          have xlt : x < M := by rw [ex]; exact dLo_lt lo i
          have rlt : r < M := by rw [er]; exact Nat.lt_trans (dR_lt _ b i (by omega)) h3
          have r1lt : r1 < M := by rw [er1]; exact Nat.mod_lt _ M_pos
          have cbit : Bit (c : Int) := by have := dbit lo i; rw [← ex, ← ec] at this; unfold Bit; omega
          have D1 : Hid (∀ W, Calls Tryz.prog 162 #[U x, .int .u64 0] W fun e w' => e = .returned (.tuple #[U x', .int .u64 (c : Int)]) ∧ Below W.heap.size W w') := by
            intro W
            have h := double_any x 0 W xlt bit_zero
            rw [show 2 * x + (0 : Int).toNat = 2 * x by rfl, ← ec] at h
            rw [ex', ← dLo_step lo i, ← ex]; exact h
          have D2 : Hid (∀ W, Calls Tryz.prog 162 #[U r, .int .u64 (c : Int)] W fun e w' => e = .returned (.tuple #[U r1, .int .u64 (ov : Int)]) ∧ Below W.heap.size W w') := by
            intro W
            have h := double_any r (c : Int) W rlt cbit
            rw [Int.toNat_natCast, ← er1, ← eov] at h
            exact h
          have D3 : Hid (∀ W, Calls Tryz.prog 145 #[U r1, U b] W fun e w' => e = .returned (.tuple #[U r2, .bool (decide (r1 < b))]) ∧ Below W.heap.size W w') := by
            intro W
            have h := sub_any r1 b W r1lt h3
            rw [← er2] at h
            exact h
          have D4 : Hid (∀ W, Calls Tryz.prog 117 #[U r1, U b] W fun e w' => e = .returned (.int .i64 (cmpN r1 b)) ∧ Below W.heap.size W w') := fun W => cmp_any r1 b W r1lt h3
          have p255 : 255 - i = 64 * g + m := by have := HI.out; omega
          have YES : Hid (b ≤ 2 * r + c → dR (hi * M + lo) b (i + 1) = r2 ∧ dQ (hi * M + lo) b (i + 1) = q + 2 ^ (64 * g + m) ∧ q % 2 ^ (64 * g + m + 1) = 0) := by
            intro hge
            have hq := dQ_low (hi * M + lo) b i (by have := HI.out; omega)
            rw [er, ec, ex] at hge
            obtain ⟨y1, y2⟩ := d_yes hi lo b i (by omega) (by have := HI.out; omega) hge
            have hlt := dR_lt (hi * M + lo) b (i + 1) (by omega)
            rw [y1, ← er, ← ex, ← ec] at hlt
            rw [← er, ← ex, ← ec] at hge
            rw [y1, y2, ← er, ← ex, ← ec, ← eq, p255, er2, er1, step_r2 hge (by omega) h3]
            rw [← eq, p255] at hq
            exact ⟨rfl, rfl, hq⟩
          have NO : Hid (2 * r + c < b → dR (hi * M + lo) b (i + 1) = r1 ∧ dQ (hi * M + lo) b (i + 1) = q) := by
            intro hge
            rw [er, ec, ex] at hge
            obtain ⟨y1, y2⟩ := d_no hi lo b i (by omega) (by have := HI.out; omega) hge
            rw [← er, ← ex, ← ec] at hge
            rw [y1, y2, ← er, ← ex, ← ec, ← eq, er1, Nat.mod_eq_of_lt (by omega)]
            exact ⟨rfl, rfl⟩
          have LAST : Hid (r = 0 → x = 0 → (hi * M + lo) % b = r ∧ (hi * M + lo) / b = q) := by
            intro h0 h0'
            rw [er] at h0; rw [ex] at h0'
            obtain ⟨y1, y2⟩ := d_early (by have := HI.out; omega) h0 h0'
            exact ⟨by rw [← y1, er], by rw [← y2, eq]⟩
          have ei : 256 - 64 * g - m = i + 1 := by have := HI.out; omega
          have hv1 : ov ≠ 0 → b ≤ 2 * r + c := by
            intro h
            rw [eov] at h
            have : M ≤ 2 * r + c := by
              by_cases hh : 2 * r + c < M
              · rw [Nat.div_eq_of_lt hh] at h; exact absurd rfl h
              · omega
            omega
          have hv0 : ov = 0 → r1 = 2 * r + c := by
            intro h
            rw [eov] at h
            rw [er1]
            exact Nat.mod_eq_of_lt (Nat.lt_of_div_eq_zero M_pos h)
          rw [← ex] at P1; rw [← er] at P4; rw [← eq] at P3
          have EX' := Lib.hid ex'; have HV1 := Lib.hid hv1; have HV0 := Lib.hid hv0; have EI := Lib.hid ei
          clear ex er eq ex' ec er1 eov er2 cbit hv1 hv0 ei p255
          have E1 := fun W => eqlU0 r rlt W
          have E2 := fun W => eqlU0 x xlt W
          have c1 := P1.cell; have f1 := P1.free
          have c2 := P2.cell
          have c4' := P4.cell; have f4' := P4.free
          have c5 := P5.cell
          by_cases hend : r = 0 ∧ x = 0
          · obtain ⟨hr0, hx0⟩ := hend
            obtain ⟨L1, L2⟩ := LAST.out hr0 hx0
            have hd : decide (r = 0) = true := decide_eq_true hr0
            have hd2 : decide (x = 0) = true := decide_eq_true hx0
            have HL1 := Lib.hid L1; have HL2 := Lib.hid L2
            clear L1 L2 hr0 hx0
            have c3 := P3.cell; have f3 := P3.free
            go_wp2
            go_region
            go_wp2
            rw [Exit.noGoto_ret]
            go_big_open
            refine bodyPost_ret (res_cct rfl _ _ _ _ _ _ rfl rfl ((P3.set4 _ _ _ _).other4 (by omega) _ _ _ _).drew ((P4.other4 (by omega) _ _ _ _).set4 _ _ _ _).drew rfl rfl) rfl ?_
            rw [HL1.out, HL2.out]
            refine ⟨rfl, ?_⟩
            (repeat' (first | (with_reducible exact Below.refl _ _) | (with_reducible assumption) | (with_reducible refine below_drewN ?_ _) | (with_reducible refine Below.drew ?_) | (with_reducible refine Below.setCell ?_ ?_ _) | (with_reducible refine Below.alloc ?_ ?_ _) | (with_reducible exact Nat.le_refl _) | omega | (simp; omega) | (simp; done)))
          · have hT : (decide (r = 0) = false) ∨ (decide (r = 0) = true ∧ decide (x = 0) = false) := by
              by_cases h : r = 0
              · exact Or.inr ⟨decide_eq_true h, decide_eq_false (fun hx => hend ⟨h, hx⟩)⟩
              · exact Or.inl (decide_eq_false h)
            clear hend
            by_cases hov : ov = 0
            · have hob : ((ov : Int) != 0) = false := by rw [hov]; rfl
              have hr1 := HV0.out hov
              clear hov
              by_cases hge : b ≤ 2 * r + c
              · have hcm : 0 ≤ cmpN r1 b := cmp_ge (by omega)
                have HGE := Lib.hid hge
                clear hr1 hge
                rcases hT with hd | ⟨hd, hd2⟩
                all_goals
                  go_wp2_with fail
                  refine (D1.out _).mono ?_; rintro e w2 ⟨rfl, hb2⟩; have Q1 := P1.below hb2; have Q2 := P2.below hb2; have Q3 := P3.below hb2; have Q4 := P4.below hb2; have Q5 := P5.below hb2; have B2 : Below w.heap.size w w2 := B0.trans (hb2.mono B0.size); have hs2 := hb2.size; clear c1 f1 c2 c4' f4' c5 hb2; have c1 := Q1.cell; have f1 := Q1.free; have c4' := Q4.cell
                  go_wp2_with fail
                  refine (D2.out _).mono ?_; rintro e w4 ⟨rfl, hb4⟩; have R1 := (Q1.set4 _ _ _ _).below hb4; have R2 := (Q2.other4 (by omega) _ _ _ _).below hb4; have R3 := (Q3.other4 (by omega) _ _ _ _).below hb4; have R4 := (Q4.other4 (by omega) _ _ _ _).below hb4; have R5 := (Q5.other4 (by omega) _ _ _ _).below hb4; have B4 : Below w.heap.size w w4 := Below.trans (by (repeat' (first | (with_reducible exact Below.refl _ _) | (with_reducible assumption) | (with_reducible refine below_drewN ?_ _) | (with_reducible refine Below.drew ?_) | (with_reducible refine Below.setCell ?_ ?_ _) | (with_reducible refine Below.alloc ?_ ?_ _) | (with_reducible exact Nat.le_refl _) | omega | (simp; omega) | (simp; done)))) (hb4.mono (by simp; have := B2.size; omega)); have hs4 := hb4.size; simp at hs4; clear c1 f1 c4' hb4 Q1 Q2 Q3 Q4 Q5; have c4' := R4.cell; have f4' := R4.free; have c2 := R2.cell
                  go_wp2_with fail
                  refine (D4.out _).mono ?_; rintro e w5 ⟨rfl, hb5⟩; have T1 := (R1.other4 (by omega) _ _ _ _).below hb5; have T2 := (R2.other4 (by omega) _ _ _ _).below hb5; have T3 := (R3.other4 (by omega) _ _ _ _).below hb5; have T4 := (R4.set4 _ _ _ _).below hb5; have T5 := (R5.other4 (by omega) _ _ _ _).below hb5; have B5 : Below w.heap.size w w5 := Below.trans (by (repeat' (first | (with_reducible exact Below.refl _ _) | (with_reducible assumption) | (with_reducible refine below_drewN ?_ _) | (with_reducible refine Below.drew ?_) | (with_reducible refine Below.setCell ?_ ?_ _) | (with_reducible refine Below.alloc ?_ ?_ _) | (with_reducible exact Nat.le_refl _) | omega | (simp; omega) | (simp; done)))) (hb5.mono (by simp; have := B4.size; omega)); have hs5 := hb5.size; simp at hs5; clear c4' f4' c2 hb5 R1 R2 R3 R4 R5; have c4' := T4.cell; have f4' := T4.free; have c2 := T2.cell
                  go_wp2_with fail
                  refine (D3.out _).mono ?_; rintro e w6 ⟨rfl, hb6⟩; have S1 := T1.below hb6; have S2 := T2.below hb6; have S3 := T3.below hb6; have S4 := T4.below hb6; have S5 := T5.below hb6; have B6 : Below w.heap.size w w6 := B5.trans (hb6.mono B5.size); have hs6 := hb6.size; clear c4' f4' c2 hb6 T1 T2 T3 T4 T5; have c4' := S4.cell; have f4' := S4.free; have f3 := S3.free; have cg : w6.cell? ⟨w.heap.size + 1 + 1 + 1, g, none⟩ = some (.int .u64 (wd q g)) := by rw [S3.cell, cU_get q g (by omega)]
                  go_wp2
                  go_region
                  go_wp2
                  go_roundg m
                  case rel =>
                    obtain ⟨y1, y2, y3⟩ := YES.out HGE.out
                    rw [EI.out, pow_in m (by omega)]
                    refine ⟨by omega, rfl, ?_, by omega, by simp; omega, ?_, ?_, ?_, ?_, ?_⟩
                    · (repeat' (first | (with_reducible exact Below.refl _ _) | (with_reducible assumption) | (with_reducible refine below_drewN ?_ _) | (with_reducible refine Below.drew ?_) | (with_reducible refine Below.setCell ?_ ?_ _) | (with_reducible refine Below.alloc ?_ ?_ _) | (with_reducible exact Nat.le_refl _) | omega | (simp; omega) | (simp; done)))
                    · rw [← EX'.out]; exact ((S1.other4 (by omega) _ _ _ _).other (by omega) _).drew
                    · exact ((S2.other4 (by omega) _ _ _ _).other (by omega) _).drew
                    · rw [y2, ← setbit_row q g m (by omega) (by omega) y3]; exact ((S3.other4 (by omega) _ _ _ _).set _).drew
                    · rw [y1]; exact ((S4.set4 _ _ _ _).other (by omega) _).drew
                    · exact ((S5.other4 (by omega) _ _ _ _).other (by omega) _).drew
                  case measure => omega
              · have hcm : cmpN r1 b < 0 := cmp_lt (by omega)
                have HGE := Lib.hid hge
                clear hr1 hge
                rcases hT with hd | ⟨hd, hd2⟩
                all_goals
                  go_wp2_with fail
                  refine (D1.out _).mono ?_; rintro e w2 ⟨rfl, hb2⟩; have Q1 := P1.below hb2; have Q2 := P2.below hb2; have Q3 := P3.below hb2; have Q4 := P4.below hb2; have Q5 := P5.below hb2; have B2 : Below w.heap.size w w2 := B0.trans (hb2.mono B0.size); have hs2 := hb2.size; clear c1 f1 c2 c4' f4' c5 hb2; have c1 := Q1.cell; have f1 := Q1.free; have c4' := Q4.cell
                  go_wp2_with fail
                  refine (D2.out _).mono ?_; rintro e w4 ⟨rfl, hb4⟩; have R1 := (Q1.set4 _ _ _ _).below hb4; have R2 := (Q2.other4 (by omega) _ _ _ _).below hb4; have R3 := (Q3.other4 (by omega) _ _ _ _).below hb4; have R4 := (Q4.other4 (by omega) _ _ _ _).below hb4; have R5 := (Q5.other4 (by omega) _ _ _ _).below hb4; have B4 : Below w.heap.size w w4 := Below.trans (by (repeat' (first | (with_reducible exact Below.refl _ _) | (with_reducible assumption) | (with_reducible refine below_drewN ?_ _) | (with_reducible refine Below.drew ?_) | (with_reducible refine Below.setCell ?_ ?_ _) | (with_reducible refine Below.alloc ?_ ?_ _) | (with_reducible exact Nat.le_refl _) | omega | (simp; omega) | (simp; done)))) (hb4.mono (by simp; have := B2.size; omega)); have hs4 := hb4.size; simp at hs4; clear c1 f1 c4' hb4 Q1 Q2 Q3 Q4 Q5; have c4' := R4.cell; have f4' := R4.free; have c2 := R2.cell
                  go_wp2_with fail
                  refine (D4.out _).mono ?_; rintro e w5 ⟨rfl, hb5⟩; have T1 := (R1.other4 (by omega) _ _ _ _).below hb5; have T2 := (R2.other4 (by omega) _ _ _ _).below hb5; have T3 := (R3.other4 (by omega) _ _ _ _).below hb5; have T4 := (R4.set4 _ _ _ _).below hb5; have T5 := (R5.other4 (by omega) _ _ _ _).below hb5; have B5 : Below w.heap.size w w5 := Below.trans (by (repeat' (first | (with_reducible exact Below.refl _ _) | (with_reducible assumption) | (with_reducible refine below_drewN ?_ _) | (with_reducible refine Below.drew ?_) | (with_reducible refine Below.setCell ?_ ?_ _) | (with_reducible refine Below.alloc ?_ ?_ _) | (with_reducible exact Nat.le_refl _) | omega | (simp; omega) | (simp; done)))) (hb5.mono (by simp; have := B4.size; omega)); have hs5 := hb5.size; simp at hs5; clear c4' f4' c2 hb5 R1 R2 R3 R4 R5; have c4' := T4.cell; have f4' := T4.free; have c2 := T2.cell
                  go_wp2
                  go_roundg m
                  case rel =>
                    obtain ⟨y1, y2⟩ := NO.out (by have := HGE.out; omega)
                    rw [EI.out]
                    exact ⟨by omega, rfl, B5, by omega, by omega, by rw [← EX'.out]; exact T1, T2, by rw [y2]; exact T3, by rw [y1]; exact T4, T5⟩
                  case measure => omega
            · have hob : ((ov : Int) != 0) = true := by rw [bne_iff_ne]; omega
              have HGE := Lib.hid (HV1.out hov)
              clear hov
              rcases hT with hd | ⟨hd, hd2⟩
              all_goals
                go_wp2_with fail
                refine (D1.out _).mono ?_; rintro e w2 ⟨rfl, hb2⟩; have Q1 := P1.below hb2; have Q2 := P2.below hb2; have Q3 := P3.below hb2; have Q4 := P4.below hb2; have Q5 := P5.below hb2; have B2 : Below w.heap.size w w2 := B0.trans (hb2.mono B0.size); have hs2 := hb2.size; clear c1 f1 c2 c4' f4' c5 hb2; have c1 := Q1.cell; have f1 := Q1.free; have c4' := Q4.cell
                go_wp2_with fail
                refine (D2.out _).mono ?_; rintro e w4 ⟨rfl, hb4⟩; have R1 := (Q1.set4 _ _ _ _).below hb4; have R2 := (Q2.other4 (by omega) _ _ _ _).below hb4; have R3 := (Q3.other4 (by omega) _ _ _ _).below hb4; have R4 := (Q4.other4 (by omega) _ _ _ _).below hb4; have R5 := (Q5.other4 (by omega) _ _ _ _).below hb4; have B4 : Below w.heap.size w w4 := Below.trans (by (repeat' (first | (with_reducible exact Below.refl _ _) | (with_reducible assumption) | (with_reducible refine below_drewN ?_ _) | (with_reducible refine Below.drew ?_) | (with_reducible refine Below.setCell ?_ ?_ _) | (with_reducible refine Below.alloc ?_ ?_ _) | (with_reducible exact Nat.le_refl _) | omega | (simp; omega) | (simp; done)))) (hb4.mono (by simp; have := B2.size; omega)); have hs4 := hb4.size; simp at hs4; clear c1 f1 c4' hb4 Q1 Q2 Q3 Q4 Q5; have c4' := R4.cell; have f4' := R4.free; have c2 := R2.cell
                go_wp2_with fail
                refine (D3.out _).mono ?_; rintro e w6 ⟨rfl, hb6⟩; have S1 := (R1.other4 (by omega) _ _ _ _).below hb6; have S2 := (R2.other4 (by omega) _ _ _ _).below hb6; have S3 := (R3.other4 (by omega) _ _ _ _).below hb6; have S4 := (R4.set4 _ _ _ _).below hb6; have S5 := (R5.other4 (by omega) _ _ _ _).below hb6; have B6 : Below w.heap.size w w6 := Below.trans (by (repeat' (first | (with_reducible exact Below.refl _ _) | (with_reducible assumption) | (with_reducible refine below_drewN ?_ _) | (with_reducible refine Below.drew ?_) | (with_reducible refine Below.setCell ?_ ?_ _) | (with_reducible refine Below.alloc ?_ ?_ _) | (with_reducible exact Nat.le_refl _) | omega | (simp; omega) | (simp; done)))) (hb6.mono (by simp; have := B4.size; omega)); have hs6 := hb6.size; simp at hs6; clear c4' f4' c2 hb6 R1 R2 R3 R4 R5; have c4' := S4.cell; have f4' := S4.free; have f3 := S3.free; have cg : w6.cell? ⟨w.heap.size + 1 + 1 + 1, g, none⟩ = some (.int .u64 (wd q g)) := by rw [S3.cell, cU_get q g (by omega)]
                go_wp2
                go_region
                go_wp2
                go_roundg m
                case rel =>
                  obtain ⟨y1, y2, y3⟩ := YES.out HGE.out
                  rw [EI.out, pow_in m (by omega)]
                  refine ⟨by omega, rfl, ?_, by omega, by simp; omega, ?_, ?_, ?_, ?_, ?_⟩
                  · (repeat' (first | (with_reducible exact Below.refl _ _) | (with_reducible assumption) | (with_reducible refine below_drewN ?_ _) | (with_reducible refine Below.drew ?_) | (with_reducible refine Below.setCell ?_ ?_ _) | (with_reducible refine Below.alloc ?_ ?_ _) | (with_reducible exact Nat.le_refl _) | omega | (simp; omega) | (simp; done)))
                  · rw [← EX'.out]; exact ((S1.other4 (by omega) _ _ _ _).other (by omega) _).drew
                  · exact ((S2.other4 (by omega) _ _ _ _).other (by omega) _).drew
                  · rw [y2, ← setbit_row q g m (by omega) (by omega) y3]; exact ((S3.other4 (by omega) _ _ _ _).set _).drew
                  · rw [y1]; exact ((S4.set4 _ _ _ _).other (by omega) _).drew
                  · exact ((S5.other4 (by omega) _ _ _ _).other (by omega) _).drew
                case measure => omega
def bitN (A i : Nat) : Bool := decide (A / 2 ^ i % 2 = 1)
theorem bit_wd (A q i : Nat) (h : i / 64 = q) : (bits .and .u64 (wd A q / 2 ^ (i % 64)) 1 == 1) = bitN A i := by
  rw [wd_nat]
  have e1 : ((A / 2 ^ (64 * q) % 2 ^ 64 : Nat) : Int) / 2 ^ (i % 64) = ((A / 2 ^ (64 * q) % 2 ^ 64 / 2 ^ (i % 64) : Nat) : Int) := by simp
  generalize hx : A / 2 ^ (64 * q) % 2 ^ 64 / 2 ^ (i % 64) = x at *
  have hlt : x < 18446744073709551616 := by
    rw [← hx]
    exact Nat.lt_of_le_of_lt (Nat.div_le_self _ _) (Nat.mod_lt _ (by decide))
  have h2 : x % 2 = A / 2 ^ i % 2 := by
    rw [← hx]
    have e64 : 2 ^ 64 = 2 ^ (i % 64) * 2 ^ (64 - i % 64) := by rw [← Nat.pow_add]; congr 1; omega
    rw [e64, Nat.mod_mul_right_div_self, Nat.div_div_eq_div_mul, ← Nat.pow_add, show 64 * q + i % 64 = i by omega]
    exact Nat.mod_mod_of_dvd _ ⟨2 ^ (64 - i % 64 - 1), by rw [← Nat.pow_succ']; congr 1; omega⟩
  rw [e1]
  have h3 := bits_and_u64_nat x 1 hlt (by omega)
  have h4 : x &&& 1 = x % 2 := Nat.and_one_is_mod x
  rw [h4, h2] at h3
  change (bits .and .u64 (x : Int) ((1 : Nat) : Int) == 1) = _
  rw [h3]
  unfold bitN
  by_cases hb : A / 2 ^ i % 2 = 1
  · rw [hb, decide_eq_true rfl]; rfl
  · rw [decide_eq_false hb]
    have : A / 2 ^ i % 2 = 0 := by omega
    rw [this]; rfl
set_option maxHeartbeats 1000000 in
theorem rbit_any (A i : Nat) (w : World) (hi : i < 256) :
    Calls Tryz.prog 164 #[U A, .int .i64 i] w fun e w' => e = .returned (.bool (bitN A i)) ∧ Below w.heap.size w w' := by
  rcases (by omega : (i : Int) / 64 = 0 ∨ (i : Int) / 64 = 1 ∨ (i : Int) / 64 = 2 ∨ (i : Int) / 64 = 3) with h | h | h | h
  all_goals
    go_enter Tryz.func164, Tryz.ntmps164
    go_wp2
    go_ret
    first | refine ⟨ret_bool (bit_wd A 0 i (by omega)), ?_⟩ | refine ⟨ret_bool (bit_wd A 1 i (by omega)), ?_⟩ | refine ⟨ret_bool (bit_wd A 2 i (by omega)), ?_⟩ | refine ⟨ret_bool (bit_wd A 3 i (by omega)), ?_⟩
    (repeat' (first | (with_reducible exact Below.refl _ _) | (with_reducible assumption) | (with_reducible refine below_drewN ?_ _) | (with_reducible refine Below.drew ?_) | (with_reducible refine Below.setCell ?_ ?_ _) | (with_reducible refine Below.alloc ?_ ?_ _) | (with_reducible exact Nat.le_refl _) | omega | (simp; omega) | (simp; done)))
theorem dbit_eq (lo i : Nat) (h : i < 256) : 2 * dLo lo i / M = lo / 2 ^ (255 - i) % 2 := by
  have h1 := dT_step 0 lo i h
  rw [Nat.zero_mul, Nat.zero_add] at h1
  unfold dT at h1
  have e : 256 - i = (255 - i) + 1 := by omega
  rw [show 256 - (i + 1) = 255 - i by omega, e, Nat.pow_succ, ← Nat.div_div_eq_div_mul] at h1
  have := dbit lo i
  omega
theorem top_bit {r : Nat} (h : r < M) : bitN r 255 = decide (M ≤ 2 * r) := by
  unfold bitN
  rw [decide_eq_decide]
  have e : (2 : Nat) ^ 255 = 57896044618658097711785492504343953926634992332820282019728792003956564819968 := by decide +kernel
  rw [e, M_eq] at *
  omega
theorem dbl_plus {r c : Nat} (hc : c ≤ 1) : (r + r) % M + c = (2 * r + c) % M ∧ (r + r) % M % 2 = 0 := by
  rw [M_eq] at *; omega
set_option maxHeartbeats 1000000 in
theorem rdiv_no (hi lo b : Nat) (w : World) (h1 : hi < M) (h3 : b < M) (hle : b ≤ hi) :
    Calls Tryz.prog 157 #[U hi, U lo, U b] w fun e w' => e = .returned (.tuple #[U 0, U 0, .bool false]) ∧ Below w.heap.size w w' := by
  have hc : cmpN b hi ≤ 0 := by unfold cmpN; split <;> (try split) <;> omega
  go_enter Tryz.func157, Tryz.ntmps157
  go_wp2_with fail
  refine (rcmp_any b hi _ h3 h1).mono ?_; rintro e w1 ⟨rfl, hb⟩
  have O3 : Own w1 (w.heap.size + 1 + 1 + 1) #[.int .u64 0, .int .u64 0, .int .u64 0, .int .u64 0] := Own.below (hp_5_3 _ _ _ _ _ _) hb
  have O4 : Own w1 (w.heap.size + 1 + 1 + 1 + 1) #[.int .u64 0, .int .u64 0, .int .u64 0, .int .u64 0] := Own.below (hp_5_4 _ _ _ _ _ _) hb
  have hb' : Below w.heap.size w w1 := Below.trans (by (repeat' (first | (with_reducible exact Below.refl _ _) | (with_reducible assumption) | (with_reducible refine below_drewN ?_ _) | (with_reducible refine Below.drew ?_) | (with_reducible refine Below.setCell ?_ ?_ _) | (with_reducible refine Below.alloc ?_ ?_ _) | (with_reducible exact Nat.le_refl _) | omega | (simp; omega) | (simp; done)))) (hb.mono (by simp only [World.size_alloc]; omega))
  clear hb
  have c3 := O3.cell; have f3 := O3.free; have c4 := O4.cell; have f4 := O4.free
  go_wp2
  go_region
  go_wp2
  refine bodyPost_ret (res_cct rfl _ _ _ _ _ _ rfl rfl ((O3.set4 _ _ _ _).other4 (by omega) _ _ _ _).drew ((O4.other4 (by omega) _ _ _ _).set4 _ _ _ _).drew rfl rfl) rfl ?_
  refine ⟨ret_UUb U0_eq U0_eq rfl, ?_⟩
  (repeat' (first | (with_reducible exact Below.refl _ _) | (with_reducible assumption) | (with_reducible refine below_drewN ?_ _) | (with_reducible refine Below.drew ?_) | (with_reducible refine Below.setCell ?_ ?_ _) | (with_reducible refine Below.alloc ?_ ?_ _) | (with_reducible exact Nat.le_refl _) | omega | (simp; omega) | (simp; done)))
def RDivW (w wr : World) (hi lo b i : Nat) : Prop :=
  Below w.heap.size w wr ∧
  Own wr (w.heap.size + 1) (cU lo) ∧ Own wr (w.heap.size + 1 + 1) (cU b) ∧
  Own wr (w.heap.size + 1 + 1 + 1) (cU (dQ (hi * M + lo) b i)) ∧ Own wr (w.heap.size + 1 + 1 + 1 + 1) (cU (dR (hi * M + lo) b i))
set_option maxHeartbeats 4000000 in
theorem rdiv_yes (hi lo b : Nat) (w : World) (h1 : hi < M) (h2 : lo < M) (h3 : b < M) (hle : hi < b) :
    Calls Tryz.prog 157 #[U hi, U lo, U b] w fun e w' => e = .returned (.tuple #[U ((hi * M + lo) / b), U ((hi * M + lo) % b), .bool true]) ∧ Below w.heap.size w w' := by
  have hc : 0 < cmpN b hi := by rw [cmpN_gt hle]; omega
  go_enter Tryz.func157, Tryz.ntmps157
  go_wp2_with fail
  refine (rcmp_any b hi _ h3 h1).mono ?_; rintro e w1 ⟨rfl, hb⟩
  have O0 : Own w1 w.heap.size (cU hi) := Own.below (hp_5_0 _ _ _ _ _ _) hb
  have O1 : Own w1 (w.heap.size + 1) (cU lo) := Own.below (hp_5_1 _ _ _ _ _ _) hb
  have O2 : Own w1 (w.heap.size + 1 + 1) (cU b) := Own.below (hp_5_2 _ _ _ _ _ _) hb
  have O3 : Own w1 (w.heap.size + 1 + 1 + 1) #[.int .u64 0, .int .u64 0, .int .u64 0, .int .u64 0] := Own.below (hp_5_3 _ _ _ _ _ _) hb
  have O4 : Own w1 (w.heap.size + 1 + 1 + 1 + 1) #[.int .u64 0, .int .u64 0, .int .u64 0, .int .u64 0] := Own.below (hp_5_4 _ _ _ _ _ _) hb
  have hB : Below w.heap.size w w1 := Below.trans (by (repeat' (first | (with_reducible exact Below.refl _ _) | (with_reducible assumption) | (with_reducible refine below_drewN ?_ _) | (with_reducible refine Below.drew ?_) | (with_reducible refine Below.setCell ?_ ?_ _) | (with_reducible refine Below.alloc ?_ ?_ _) | (with_reducible exact Nat.le_refl _) | omega | (simp; omega) | (simp; done)))) (hb.mono (by simp only [World.size_alloc]; omega))
  clear hb
  have c0 := O0.cell; have c4 := O4.cell; have f4 := O4.free
  go_wp2
  go_loopg [9] 256 (fun k p wr => k ≤ 256 ∧ p = .int .i64 (k - 1) ∧ RDivW w wr hi lo b (256 - k))
  case atStart =>
    obtain ⟨e1, e2⟩ := d_start h2 hle
    refine ⟨by omega, rfl, ?_, ?_, ?_, ?_, ?_⟩
    · (repeat' (first | (with_reducible exact Below.refl _ _) | (with_reducible assumption) | (with_reducible refine below_drewN ?_ _) | (with_reducible refine Below.drew ?_) | (with_reducible refine Below.setCell ?_ ?_ _) | (with_reducible refine Below.alloc ?_ ?_ _) | (with_reducible exact Nat.le_refl _) | omega | (simp; omega) | (simp; done)))
    · exact O1.other4 (by omega) _ _ _ _
    · exact O2.other4 (by omega) _ _ _ _
    · rw [Nat.sub_self, e2, cU, wd_zero, wd_zero, wd_zero, wd_zero]; exact O3.other4 (by omega) _ _ _ _
    · rw [Nat.sub_self, e1]; exact O4.set4 _ _ _ _
  case round =>
    obtain ⟨hk, rfl, hW⟩ := hrel
    by_cases hk0 : gk = 0
    · subst hk0
      obtain ⟨B0, P1, P2, P3, P4⟩ := hW
      obtain ⟨y1, y2⟩ := d_end (hi * M + lo) b
      rw [Nat.sub_zero, y1] at P4
      rw [Nat.sub_zero, y2] at P3
      clear y1 y2 P1
      obtain ⟨r, er⟩ : ∃ r, r = (hi * M + lo) % b := ⟨_, rfl⟩
      obtain ⟨q, eq⟩ : ∃ q, q = (hi * M + lo) / b := ⟨_, rfl⟩
      rw [← er] at P4; rw [← eq] at P3
      have ER := Lib.hid er; have EQ := Lib.hid eq
      clear er eq
      have c3 := P3.cell; have f3 := P3.free; have c4' := P4.cell; have f4' := P4.free
      go_wp2
      go_region
      go_wp2
      refine bodyPost_ret (res_cct rfl _ _ _ _ _ _ rfl rfl ((P3.set4 _ _ _ _).other4 (by omega) _ _ _ _).drew ((P4.other4 (by omega) _ _ _ _).set4 _ _ _ _).drew rfl rfl) rfl ?_
      rw [← ER.out, ← EQ.out]
      refine ⟨rfl, ?_⟩
      (repeat' (first | (with_reducible exact Below.refl _ _) | (with_reducible assumption) | (with_reducible refine below_drewN ?_ _) | (with_reducible refine Below.drew ?_) | (with_reducible refine Below.setCell ?_ ?_ _) | (with_reducible refine Below.alloc ?_ ?_ _) | (with_reducible exact Nat.le_refl _) | omega | (simp; omega) | (simp; done)))
    · obtain ⟨m, rfl⟩ : ∃ m, gk = m + 1 := ⟨gk - 1, by omega⟩
      have eg : ((m + 1 : Nat) : Int) - 1 = m := by omega
      rw [eg]
      clear eg
      obtain ⟨i, hi2⟩ : ∃ i, i = 256 - (m + 1) := ⟨_, rfl⟩
      rw [← hi2] at hW
      have HI : Hid (i + m = 255) := by show _ = _; omega
      have i256 : i < 256 := by omega
      have m256 : m < 256 := by omega
      have p255 : 255 - i = m := by omega
      clear hi2
      obtain ⟨B0, P1, P2, P3, P4⟩ := hW
      obtain ⟨r, er⟩ : ∃ r, r = dR (hi * M + lo) b i := ⟨_, rfl⟩
      obtain ⟨q, eq⟩ : ∃ q, q = dQ (hi * M + lo) b i := ⟨_, rfl⟩
      obtain ⟨c, ec⟩ : ∃ c : Nat, c = 2 * dLo lo i / M := ⟨_, rfl⟩
      have c1 : c ≤ 1 := by rw [ec]; exact dbit lo i
      have rlt : r < M := by rw [er]; exact Nat.lt_trans (dR_lt _ b i (by omega)) h3
      obtain ⟨s, es⟩ : ∃ s, s = (r + r) % M := ⟨_, rfl⟩
      obtain ⟨r1, er1⟩ : ∃ r1, r1 = (2 * r + c) % M := ⟨_, rfl⟩
      obtain ⟨r2, er2⟩ : ∃ r2, r2 = (r1 + M - b) % M := ⟨_, rfl⟩
      obtain ⟨sc, sev⟩ := dbl_plus (r := r) c1
      rw [← es, ← er1] at sc
      rw [← es] at sev
      have r1lt : r1 < M := by rw [er1]; exact Nat.mod_lt _ M_pos
      have slt : s < M := by rw [es]; exact Nat.mod_lt _ M_pos
      have D1 : Hid (∀ W, Calls Tryz.prog 164 #[U r, .int .i64 255] W fun e w' => e = .returned (.bool (decide (M ≤ 2 * r))) ∧ Below W.heap.size W w') := by
        intro W
        have h := rbit_any r 255 W (by omega)
        rw [top_bit rlt] at h; exact h
      have D2 : Hid (∀ W, Calls Tryz.prog 155 #[U r, U r] W fun e w' => e = .returned (.tuple #[U s, .bool (decide (M ≤ r + r))]) ∧ Below W.heap.size W w') := by
        intro W
        have h := radd_any r r W rlt rlt
        rw [← es] at h; exact h
      have D3 : Hid (∀ W, Calls Tryz.prog 164 #[U lo, .int .i64 m] W fun e w' => e = .returned (.bool (decide (c = 1))) ∧ Below W.heap.size W w') := by
        intro W
        have h := rbit_any lo m W m256
        rw [show bitN lo m = decide (c = 1) by unfold bitN; rw [ec, dbit_eq lo i i256, p255]] at h; exact h
      have D4 : Hid (∀ W, Calls Tryz.prog 128 #[U r1, U b] W fun e w' => e = .returned (.int .i64 (cmpN r1 b)) ∧ Below W.heap.size W w') := fun W => rcmp_any r1 b W r1lt h3
      have D5 : Hid (∀ W, Calls Tryz.prog 148 #[U r1, U b] W fun e w' => e = .returned (.tuple #[U r2, .bool (decide (r1 < b))]) ∧ Below W.heap.size W w') := by
        intro W
        have h := rsub_any r1 b W r1lt h3
        rw [← er2] at h; exact h
      have BITR : Hid (c = 1 → (cU s).setIfInBounds 0 (.int .u64 (bits .or .u64 (wd s 0) 1)) = cU r1) := by
        intro h
        have hs := setbit_row s 0 0 (by omega) (by omega) (by simpa using sev)
        simp only [Nat.mul_zero, Nat.add_zero, Nat.pow_zero] at hs
        have hp : (2 : Int) ^ 0 = 1 := rfl
        rw [hp] at hs
        rw [hs]; congr 1; omega
      have SAME : Hid (c = 0 → s = r1) := by intro h; show s = r1; omega
      have p1 : 255 - i = 64 * (m / 64) + m % 64 := by omega
      have YES : Hid (b ≤ 2 * r + c → dR (hi * M + lo) b (i + 1) = r2 ∧ dQ (hi * M + lo) b (i + 1) = q + 2 ^ (64 * (m / 64) + m % 64) ∧ q % 2 ^ (64 * (m / 64) + m % 64 + 1) = 0) := by
        intro hge
        have hq := dQ_low (hi * M + lo) b i i256
        rw [er, ec] at hge
        obtain ⟨y1, y2⟩ := d_yes hi lo b i (by omega) i256 hge
        have hlt := dR_lt (hi * M + lo) b (i + 1) (by omega)
        rw [y1, ← er, ← ec] at hlt
        rw [← er, ← ec] at hge
        rw [y1, y2, ← er, ← ec, ← eq, p1, er2, er1, step_r2 hge (by omega) h3]
        rw [← eq, p1] at hq
        exact ⟨rfl, rfl, hq⟩
      have NO : Hid (2 * r + c < b → dR (hi * M + lo) b (i + 1) = r1 ∧ dQ (hi * M + lo) b (i + 1) = q) := by
        intro hge
        rw [er, ec] at hge
        obtain ⟨y1, y2⟩ := d_no hi lo b i (by omega) i256 hge
        rw [← er, ← ec] at hge
        rw [y1, y2, ← er, ← ec, ← eq, er1, Nat.mod_eq_of_lt (by omega)]
        exact ⟨rfl, rfl⟩
      have ei : 256 - m = i + 1 := by have := HI.out; omega
      have hv1 : M ≤ 2 * r → b ≤ 2 * r + c := by intro h; omega
      have hv0 : ¬ M ≤ 2 * r → r1 = 2 * r + c := by
        intro h
        rw [er1]
        apply Nat.mod_eq_of_lt
        rw [M_eq] at *; omega
      rw [← er] at P4; rw [← eq] at P3
      have HV1 := Lib.hid hv1; have HV0 := Lib.hid hv0; have EI := Lib.hid ei
      have C1 := Lib.hid c1
      clear er eq ec es er1 er2 sc sev hv1 hv0 ei p1 p255 c1
      have hbits : (decide (c = 1) = true ∧ c = 1) ∨ (decide (c = 1) = false ∧ c = 0) := by
        have := C1.out
        by_cases h : c = 1
        · exact Or.inl ⟨decide_eq_true h, h⟩
        · exact Or.inr ⟨decide_eq_false h, by omega⟩
      have cc4 := P4.cell
      go_wp2_with fail
      refine (D1.out _).mono ?_; rintro e wx ⟨rfl, hbx⟩
      have Q1 := P1.below hbx; have Q2 := P2.below hbx; have Q3 := P3.below hbx; have Q4 := P4.below hbx; have BX : Below w.heap.size w wx := B0.trans (hbx.mono B0.size); clear hbx B0 P1 P2 P3 P4
      obtain ⟨P1, P2, P3, P4, B0⟩ : Own wx (w.heap.size + 1) (cU lo) ∧ Own wx (w.heap.size + 1 + 1) (cU b) ∧ Own wx (w.heap.size + 1 + 1 + 1) (cU q) ∧ Own wx (w.heap.size + 1 + 1 + 1 + 1) (cU r) ∧ Below w.heap.size w wx := ⟨Q1, Q2, Q3, Q4, BX⟩; clear Q1 Q2 Q3 Q4 BX
      obtain ⟨wa, rfl⟩ : ∃ wa : World, wa = wx := ⟨_, rfl⟩
      clear cc4
      have cc4 := P4.cell
      go_wp2_with fail
      refine (D2.out _).mono ?_; rintro e wx ⟨rfl, hbx⟩
      have Q1 := P1.below hbx; have Q2 := P2.below hbx; have Q3 := P3.below hbx; have Q4 := P4.below hbx; have BX : Below w.heap.size w wx := B0.trans (hbx.mono B0.size); clear hbx B0 P1 P2 P3 P4
      obtain ⟨P1, P2, P3, P4, B0⟩ : Own wx (w.heap.size + 1) (cU lo) ∧ Own wx (w.heap.size + 1 + 1) (cU b) ∧ Own wx (w.heap.size + 1 + 1 + 1) (cU q) ∧ Own wx (w.heap.size + 1 + 1 + 1 + 1) (cU r) ∧ Below w.heap.size w wx := ⟨Q1, Q2, Q3, Q4, BX⟩; clear Q1 Q2 Q3 Q4 BX
      clear cc4
      have cc4 := P4.cell; have ff4 := P4.free; have cc1 := P1.cell
      go_wp2_with fail
      refine (D3.out _).mono ?_; rintro e wy ⟨rfl, hby⟩
      have R1 := (P1.other4 (by omega) _ _ _ _).below hby; have R2 := (P2.other4 (by omega) _ _ _ _).below hby; have R3 := (P3.other4 (by omega) _ _ _ _).below hby; have R4 := (P4.set4 _ _ _ _).below hby
      have BY : Below w.heap.size w wy := Below.trans (by (repeat' (first | (with_reducible exact Below.refl _ _) | (with_reducible assumption) | (with_reducible refine below_drewN ?_ _) | (with_reducible refine Below.drew ?_) | (with_reducible refine Below.setCell ?_ ?_ _) | (with_reducible refine Below.alloc ?_ ?_ _) | (with_reducible exact Nat.le_refl _) | omega | (simp; omega) | (simp; done)))) (hby.mono (by simp; have := B0.size; omega))
      clear cc4 ff4 cc1 hby P1 P2 P3 P4 B0
      have hm0 : (0 : Int) ≤ (m : Int) := by omega
      rcases hbits with ⟨hbt, hc1⟩ | ⟨hbt, hc0⟩
      · have hrow := BITR.out hc1
        have hrow' : #[Value.int .u64 (bits .or .u64 (wd s 0) 1), .int .u64 (wd s 1), .int .u64 (wd s 2), .int .u64 (wd s 3)] = cU r1 := hrow
        simp only [cU, Array.mk.injEq, List.cons.injEq, Value.int.injEq, true_and, and_true] at hrow'
        obtain ⟨e0, e1, e2, e3⟩ := hrow'
        have T1 := R1.other (g' := w.heap.size + 1 + 1 + 1 + 1) (i := 0) (by omega) (.int .u64 (wd r1 0)); have T2 := R2.other (g' := w.heap.size + 1 + 1 + 1 + 1) (i := 0) (by omega) (.int .u64 (wd r1 0)); have T3 := R3.other (g' := w.heap.size + 1 + 1 + 1 + 1) (i := 0) (by omega) (.int .u64 (wd r1 0))
        have T4 : Own (wy.setCell ⟨w.heap.size + 1 + 1 + 1 + 1, 0, none⟩ (.int .u64 (wd r1 0))) (w.heap.size + 1 + 1 + 1 + 1) (cU r1) := by
          have h := R4.set (i := 0) (.int .u64 (wd r1 0))
          rw [← e0] at h ⊢
          rw [← hrow]; exact h
        have BT : Below w.heap.size w (wy.setCell ⟨w.heap.size + 1 + 1 + 1 + 1, 0, none⟩ (.int .u64 (wd r1 0))) := by (repeat' (first | (with_reducible exact Below.refl _ _) | (with_reducible assumption) | (with_reducible refine below_drewN ?_ _) | (with_reducible refine Below.drew ?_) | (with_reducible refine Below.setCell ?_ ?_ _) | (with_reducible refine Below.alloc ?_ ?_ _) | (with_reducible exact Nat.le_refl _) | omega | (simp; omega) | (simp; done)))
        have cc4 := R4.cell; have ff4 := R4.free; have cc2 := R2.cell
        clear hrow hc1 BY
        by_cases hov : M ≤ 2 * r
        · have hd : decide (M ≤ 2 * r) = true := decide_eq_true hov
          have HGE := Lib.hid (HV1.out hov)
          clear hov
          go_wp2_with fail
          refine (D5.out _).mono ?_; rintro e wz ⟨rfl, hbz⟩
          have S1 := T1.below hbz; have S2 := T2.below hbz; have S3 := T3.below hbz; have S4 := T4.below hbz
          have BS := BT.trans (hbz.mono BT.size)
          clear cc4 ff4 cc2
          have cc4 := S4.cell; have ff4 := S4.free; have ff3 := S3.free
          have cg : wz.cell? ⟨w.heap.size + 1 + 1 + 1, m / 64, none⟩ = some (.int .u64 (wd q (m / 64))) := by rw [S3.cell, cU_get q (m / 64) (by omega)]
          go_wp2
          go_region
          go_wp2
          go_roundg m
          case rel =>
            obtain ⟨y1, y2, y3⟩ := YES.out HGE.out
            rw [EI.out, pow_in (m % 64) (by omega)]
            refine ⟨by omega, rfl, ?_, ?_, ?_, ?_, ?_⟩
            · (repeat' (first | (with_reducible exact Below.refl _ _) | (with_reducible assumption) | (with_reducible refine below_drewN ?_ _) | (with_reducible refine Below.drew ?_) | (with_reducible refine Below.setCell ?_ ?_ _) | (with_reducible refine Below.alloc ?_ ?_ _) | (with_reducible exact Nat.le_refl _) | omega | (simp; omega) | (simp; done)))
            · exact ((S1.other4 (by omega) _ _ _ _).other (by omega) _).drew
            · exact ((S2.other4 (by omega) _ _ _ _).other (by omega) _).drew
            · rw [y2, ← setbit_row q (m / 64) (m % 64) (by omega) (by omega) y3]; exact ((S3.other4 (by omega) _ _ _ _).set _).drew
            · rw [y1]; exact ((S4.set4 _ _ _ _).other (by omega) _).drew
          case measure => omega
        · have hd : decide (M ≤ 2 * r) = false := decide_eq_false hov
          have hr1 := HV0.out hov
          clear hov
          by_cases hge : b ≤ 2 * r + c
          · have hcm : 0 ≤ cmpN r1 b := cmp_ge (by omega)
            have HGE := Lib.hid hge
            clear hr1 hge
            go_wp2_with fail
            refine (D4.out _).mono ?_; rintro e wv ⟨rfl, hbv⟩
            obtain ⟨V1, V2, V3, V4, BV⟩ : Own wv (w.heap.size + 1) (cU lo) ∧ Own wv (w.heap.size + 1 + 1) (cU b) ∧ Own wv (w.heap.size + 1 + 1 + 1) (cU q) ∧ Own wv (w.heap.size + 1 + 1 + 1 + 1) (cU r1) ∧ Below w.heap.size w wv := ⟨T1.below hbv, T2.below hbv, T3.below hbv, T4.below hbv, BT.trans (hbv.mono BT.size)⟩
            clear cc4 ff4 cc2 hbv T1 T2 T3 T4 BT R1 R2 R3 R4
            have T1 := V1; have T2 := V2; have T3 := V3; have T4 := V4; have BT := BV
            have cc4 := V4.cell; have ff4 := V4.free; have cc2 := V2.cell
            go_wp2_with fail
            refine (D5.out _).mono ?_; rintro e wz ⟨rfl, hbz⟩
            have S1 := T1.below hbz; have S2 := T2.below hbz; have S3 := T3.below hbz; have S4 := T4.below hbz
            have BS := BT.trans (hbz.mono BT.size)
            clear cc4 ff4 cc2
            have cc4 := S4.cell; have ff4 := S4.free; have ff3 := S3.free
            have cg : wz.cell? ⟨w.heap.size + 1 + 1 + 1, m / 64, none⟩ = some (.int .u64 (wd q (m / 64))) := by rw [S3.cell, cU_get q (m / 64) (by omega)]
            go_wp2
            go_region
            go_wp2
            go_roundg m
            case rel =>
              obtain ⟨y1, y2, y3⟩ := YES.out HGE.out
              rw [EI.out, pow_in (m % 64) (by omega)]
              refine ⟨by omega, rfl, ?_, ?_, ?_, ?_, ?_⟩
              · (repeat' (first | (with_reducible exact Below.refl _ _) | (with_reducible assumption) | (with_reducible refine below_drewN ?_ _) | (with_reducible refine Below.drew ?_) | (with_reducible refine Below.setCell ?_ ?_ _) | (with_reducible refine Below.alloc ?_ ?_ _) | (with_reducible exact Nat.le_refl _) | omega | (simp; omega) | (simp; done)))
              · exact ((S1.other4 (by omega) _ _ _ _).other (by omega) _).drew
              · exact ((S2.other4 (by omega) _ _ _ _).other (by omega) _).drew
              · rw [y2, ← setbit_row q (m / 64) (m % 64) (by omega) (by omega) y3]; exact ((S3.other4 (by omega) _ _ _ _).set _).drew
              · rw [y1]; exact ((S4.set4 _ _ _ _).other (by omega) _).drew
            case measure => omega
          · have hcm : cmpN r1 b < 0 := cmp_lt (by omega)
            have HGE := Lib.hid hge
            clear hr1 hge
            go_wp2_with fail
            refine (D4.out _).mono ?_; rintro e wv ⟨rfl, hbv⟩
            have V1 := T1.below hbv; have V2 := T2.below hbv; have V3 := T3.below hbv; have V4 := T4.below hbv; have BV := BT.trans (hbv.mono BT.size)
            go_wp2
            go_roundg m
            case rel =>
              obtain ⟨y1, y2⟩ := NO.out (by have := HGE.out; omega)
              rw [EI.out]
              exact ⟨by omega, rfl, BV, V1, V2, by rw [y2]; exact V3, by rw [y1]; exact V4⟩
            case measure => omega
      · have hsr := SAME.out hc0
        rw [hsr] at R4
        clear hc0 hsr
        have T1 := R1; have T2 := R2; have T3 := R3; have T4 := R4; have BT := BY
        have cc4 := R4.cell; have ff4 := R4.free; have cc2 := R2.cell
        by_cases hov : M ≤ 2 * r
        · have hd : decide (M ≤ 2 * r) = true := decide_eq_true hov
          have HGE := Lib.hid (HV1.out hov)
          clear hov
          go_wp2_with fail
          refine (D5.out _).mono ?_; rintro e wz ⟨rfl, hbz⟩
          have S1 := T1.below hbz; have S2 := T2.below hbz; have S3 := T3.below hbz; have S4 := T4.below hbz
          have BS := BT.trans (hbz.mono BT.size)
          clear cc4 ff4 cc2
          have cc4 := S4.cell; have ff4 := S4.free; have ff3 := S3.free
          have cg : wz.cell? ⟨w.heap.size + 1 + 1 + 1, m / 64, none⟩ = some (.int .u64 (wd q (m / 64))) := by rw [S3.cell, cU_get q (m / 64) (by omega)]
          go_wp2
          go_region
          go_wp2
          go_roundg m
          case rel =>
            obtain ⟨y1, y2, y3⟩ := YES.out HGE.out
            rw [EI.out, pow_in (m % 64) (by omega)]
            refine ⟨by omega, rfl, ?_, ?_, ?_, ?_, ?_⟩
            · (repeat' (first | (with_reducible exact Below.refl _ _) | (with_reducible assumption) | (with_reducible refine below_drewN ?_ _) | (with_reducible refine Below.drew ?_) | (with_reducible refine Below.setCell ?_ ?_ _) | (with_reducible refine Below.alloc ?_ ?_ _) | (with_reducible exact Nat.le_refl _) | omega | (simp; omega) | (simp; done)))
            · exact ((S1.other4 (by omega) _ _ _ _).other (by omega) _).drew
            · exact ((S2.other4 (by omega) _ _ _ _).other (by omega) _).drew
            · rw [y2, ← setbit_row q (m / 64) (m % 64) (by omega) (by omega) y3]; exact ((S3.other4 (by omega) _ _ _ _).set _).drew
            · rw [y1]; exact ((S4.set4 _ _ _ _).other (by omega) _).drew
          case measure => omega
        · have hd : decide (M ≤ 2 * r) = false := decide_eq_false hov
          have hr1 := HV0.out hov
          clear hov
          by_cases hge : b ≤ 2 * r + c
          · have hcm : 0 ≤ cmpN r1 b := cmp_ge (by omega)
            have HGE := Lib.hid hge
            clear hr1 hge
            go_wp2_with fail
            refine (D4.out _).mono ?_; rintro e wv ⟨rfl, hbv⟩
            obtain ⟨V1, V2, V3, V4, BV⟩ : Own wv (w.heap.size + 1) (cU lo) ∧ Own wv (w.heap.size + 1 + 1) (cU b) ∧ Own wv (w.heap.size + 1 + 1 + 1) (cU q) ∧ Own wv (w.heap.size + 1 + 1 + 1 + 1) (cU r1) ∧ Below w.heap.size w wv := ⟨T1.below hbv, T2.below hbv, T3.below hbv, T4.below hbv, BT.trans (hbv.mono BT.size)⟩
            clear cc4 ff4 cc2 hbv T1 T2 T3 T4 BT R1 R2 R3 R4
            have T1 := V1; have T2 := V2; have T3 := V3; have T4 := V4; have BT := BV
            have cc4 := V4.cell; have ff4 := V4.free; have cc2 := V2.cell
            go_wp2_with fail
            refine (D5.out _).mono ?_; rintro e wz ⟨rfl, hbz⟩
            have S1 := T1.below hbz; have S2 := T2.below hbz; have S3 := T3.below hbz; have S4 := T4.below hbz
            have BS := BT.trans (hbz.mono BT.size)
            clear cc4 ff4 cc2
            have cc4 := S4.cell; have ff4 := S4.free; have ff3 := S3.free
            have cg : wz.cell? ⟨w.heap.size + 1 + 1 + 1, m / 64, none⟩ = some (.int .u64 (wd q (m / 64))) := by rw [S3.cell, cU_get q (m / 64) (by omega)]
            go_wp2
            go_region
            go_wp2
            go_roundg m
            case rel =>
              obtain ⟨y1, y2, y3⟩ := YES.out HGE.out
              rw [EI.out, pow_in (m % 64) (by omega)]
              refine ⟨by omega, rfl, ?_, ?_, ?_, ?_, ?_⟩
              · (repeat' (first | (with_reducible exact Below.refl _ _) | (with_reducible assumption) | (with_reducible refine below_drewN ?_ _) | (with_reducible refine Below.drew ?_) | (with_reducible refine Below.setCell ?_ ?_ _) | (with_reducible refine Below.alloc ?_ ?_ _) | (with_reducible exact Nat.le_refl _) | omega | (simp; omega) | (simp; done)))
              · exact ((S1.other4 (by omega) _ _ _ _).other (by omega) _).drew
              · exact ((S2.other4 (by omega) _ _ _ _).other (by omega) _).drew
              · rw [y2, ← setbit_row q (m / 64) (m % 64) (by omega) (by omega) y3]; exact ((S3.other4 (by omega) _ _ _ _).set _).drew
              · rw [y1]; exact ((S4.set4 _ _ _ _).other (by omega) _).drew
            case measure => omega
          · have hcm : cmpN r1 b < 0 := cmp_lt (by omega)
            have HGE := Lib.hid hge
            clear hr1 hge
            go_wp2_with fail
            refine (D4.out _).mono ?_; rintro e wv ⟨rfl, hbv⟩
            have V1 := T1.below hbv; have V2 := T2.below hbv; have V3 := T3.below hbv; have V4 := T4.below hbv; have BV := BT.trans (hbv.mono BT.size)
            go_wp2
            go_roundg m
            case rel =>
              obtain ⟨y1, y2⟩ := NO.out (by have := HGE.out; omega)
              rw [EI.out]
              exact ⟨by omega, rfl, BV, V1, V2, by rw [y2]; exact V3, by rw [y1]; exact V4⟩
            case measure => omega
def divQ (hi lo b : Nat) : Nat := if b ≤ hi then 0 else (hi * M + lo) / b
def divR (hi lo b : Nat) : Nat := if b ≤ hi then 0 else (hi * M + lo) % b
theorem div_any (hi lo b : Nat) (w : World) (h1 : hi < M) (h2 : lo < M) (h3 : b < M) :
    Calls Tryz.prog 147 #[U hi, U lo, U b] w fun e w' => e = .returned (.tuple #[U (divQ hi lo b), U (divR hi lo b), .bool (decide (hi < b))]) ∧ Below w.heap.size w w' := by
  unfold divQ divR
  by_cases h : b ≤ hi
  · rw [if_pos h, if_pos h, decide_eq_false (by omega)]; exact div_no hi lo b w h1 h3 h
  · rw [if_neg h, if_neg h, decide_eq_true (by omega)]; exact div_yes hi lo b w h1 h2 h3 (by omega)
theorem rdiv_any (hi lo b : Nat) (w : World) (h1 : hi < M) (h2 : lo < M) (h3 : b < M) :
    Calls Tryz.prog 157 #[U hi, U lo, U b] w fun e w' => e = .returned (.tuple #[U (divQ hi lo b), U (divR hi lo b), .bool (decide (hi < b))]) ∧ Below w.heap.size w w' := by
  unfold divQ divR
  by_cases h : b ≤ hi
  · rw [if_pos h, if_pos h, decide_eq_false (by omega)]; exact rdiv_no hi lo b w h1 h3 h
  · rw [if_neg h, if_neg h, decide_eq_true (by omega)]; exact rdiv_yes hi lo b w h1 h2 h3 (by omega)
open Go Go.Shelf
def lays129_ren : Go.Shelf.Ren := ⟨fun | 129 => 158 | n => n, fun | 3 => 3 | 4 => 4 | 5 => 5 | 9 => 9 | 46 => 83 | 53 => 37 | n => n, fun | n => n⟩
theorem lays129 : Go.Proofs.Lays.n129 Tryz.prog lays129_ren := {
  mixed := by kernel_rfl
  f129 := Tryz.func158.trans (congrArg some (by kernel_rfl))
  t3 := Tryz.underlying3
  a3 := Tryz.isAgg3
  z3 := Tryz.sizeOf3
  v3 := Tryz.zeroValue3
  t4 := Tryz.underlying4
  a4 := Tryz.isAgg4
  z4 := Tryz.sizeOf4
  v4 := Tryz.zeroValue4
  t5 := Tryz.underlying5
  a5 := Tryz.isAgg5
  z5 := Tryz.sizeOf5
  v5 := Tryz.zeroValue5
  t9 := Tryz.underlying9
  a9 := Tryz.isAgg9
  z9 := Tryz.sizeOf9
  v9 := Tryz.zeroValue9
  t46 := Tryz.underlying83
  a46 := Tryz.isAgg83
  z46 := Tryz.sizeOf83
  v46 := Tryz.zeroValue83
  t53 := Tryz.underlying37
  a53 := Tryz.isAgg37
  z53 := Tryz.sizeOf37
  v53 := Tryz.zeroValue37 }
theorem len64_bit (x : Int) (w : World) (h0 : 0 ≤ x) (h1 : x ≤ 18446744073709551615) :
    Calls Tryz.prog 158 #[.int .u64 x] w fun e w' => e = .returned (.int .i64 (Lib.bitLen x.toNat)) ∧ w' = w := Any.bits_Len64 lays129 x w h0 h1
def lays264_ren : Go.Shelf.Ren := ⟨fun | 264 => 161 | n => n, fun | 46 => 83 | 53 => 37 | n => n, fun | n => n⟩
theorem lays264 : Go.Proofs.Lays.n264 Tryz.prog lays264_ren := {
  mixed := by kernel_rfl
  f264 := Tryz.func161.trans (congrArg some (by kernel_rfl))
  t46 := Tryz.underlying83
  a46 := Tryz.isAgg83
  z46 := Tryz.sizeOf83
  v46 := Tryz.zeroValue83
  t53 := Tryz.underlying37
  a53 := Tryz.isAgg37
  z53 := Tryz.sizeOf37
  v53 := Tryz.zeroValue37 }
theorem mul64_nat (x y : Nat) (hx : x < 18446744073709551616) (hy : y < 18446744073709551616) (w : World) :
    Calls Tryz.prog 161 #[.int .u64 x, .int .u64 y] w fun e w' => e = .returned (.tuple #[.int .u64 ((x * y / 18446744073709551616 : Nat) : Int), .int .u64 ((x * y % 18446744073709551616 : Nat) : Int)]) ∧ w' = w := Any.bits_Mul64 lays264 x y hx hy w
def lenN (A : Nat) : Nat := if A = 0 then 0 else Nat.log2 A + 1
theorem lenN_of {A k : Nat} (h1 : 2 ^ k ≤ A) (h2 : A < 2 ^ (k + 1)) : lenN A = k + 1 := by
  have h0 : A ≠ 0 := by have : 0 < 2 ^ k := Nat.pow_pos (by decide); omega
  unfold lenN
  rw [if_neg h0]
  have a := (Nat.le_log2 h0).2 h1
  have b := (Nat.log2_lt h0).2 h2
  omega
theorem lenN_lt {A k : Nat} (h : A < 2 ^ k) : lenN A ≤ k := by
  unfold lenN
  by_cases h0 : A = 0
  · rw [if_pos h0]; omega
  · rw [if_neg h0]; exact (Nat.log2_lt h0).2 h
theorem bitLen_lenN (x : Nat) (h : x < 18446744073709551616) : Lib.bitLen x = lenN x := by
  by_cases h0 : x = 0
  · subst h0; rfl
  · have h1 := Nat.log2_self_le h0
    have h2 : x < 2 ^ (Nat.log2 x + 1) := (Nat.log2_lt h0).1 (by omega)
    rw [Lib.bitLen_shift (Nat.log2 x) x h1 h, lenN_of h1 h2]
    have : x / 2 ^ Nat.log2 x = 1 := by
      apply Nat.div_eq_of_lt_le
      · omega
      · rw [Nat.pow_succ] at h2; omega
    rw [this]; rfl
theorem len64_any (x : Int) (w : World) (hx : Word x) :
    Calls Tryz.prog 158 #[.int .u64 x] w fun e w' => e = .returned (.int .i64 (lenN x.toNat)) ∧ w = w' := by
  have h := len64_bit x w hx.1 (by have := hx.2; omega)
  rw [bitLen_lenN _ (by have := hx.1; have := hx.2; omega)] at h
  exact h.mono fun e w' ⟨a, b⟩ => ⟨a, b.symm⟩
theorem len_word (A q : Nat) (x : Int) (hx : Word x) (h0 : x ≠ 0) (l : Nat) (hl : l < 2 ^ (64 * q)) (hA : (A : Int) = x * 2 ^ (64 * q) + l) : lenN A = 64 * q + lenN x.toNat := by
  obtain ⟨y, rfl⟩ := Int.eq_ofNat_of_zero_le hx.1
  have hy : y ≠ 0 := fun h => h0 (by rw [h]; rfl)
  rw [Int.toNat_natCast]
  have e : A = y * 2 ^ (64 * q) + l := by
    have : ((A : Nat) : Int) = ((y * 2 ^ (64 * q) + l : Nat) : Int) := by rw [hA]; simp
    omega
  have h1 := Nat.log2_self_le hy
  have h2 : y < 2 ^ (Nat.log2 y + 1) := (Nat.log2_lt hy).1 (by omega)
  have hp : 0 < 2 ^ (64 * q) := Nat.pow_pos (by decide)
  have k1 : 2 ^ (64 * q + Nat.log2 y) ≤ A := by
    rw [Nat.pow_add, Nat.mul_comm, e]
    exact Nat.le_trans (Nat.mul_le_mul_right _ h1) (Nat.le_add_right _ _)
  have k2 : A < 2 ^ (64 * q + Nat.log2 y + 1) := by
    rw [Nat.add_assoc, Nat.pow_add, Nat.mul_comm, e]
    have : (y + 1) * 2 ^ (64 * q) ≤ 2 ^ (Nat.log2 y + 1) * 2 ^ (64 * q) := Nat.mul_le_mul_right _ h2
    rw [Nat.add_mul] at this
    omega
  rw [lenN_of k1 k2, lenN_of h1 h2]; omega
theorem len3 {A : Nat} (hA : A < M) (h : wd A 3 ≠ 0) : lenN A = 192 + lenN (wd A 3).toNat := by
  have e := wd_sum A hA
  have a0 := wd_word A 0; have a1 := wd_word A 1; have a2 := wd_word A 2
  unfold Word at a0 a1 a2
  refine len_word A 3 (wd A 3) (wd_word A 3) h (wd A 0 + 18446744073709551616 * wd A 1 + 340282366920938463463374607431768211456 * wd A 2).toNat ?_ ?_
  · rw [show (2 : Nat) ^ (64 * 3) = 6277101735386680763835789423207666416102355444464034512896 from rfl]; omega
  · rw [show (2 : Int) ^ (64 * 3) = 6277101735386680763835789423207666416102355444464034512896 from rfl]; omega
theorem len2 {A : Nat} (hA : A < M) (h3 : wd A 3 = 0) (h : wd A 2 ≠ 0) : lenN A = 128 + lenN (wd A 2).toNat := by
  have e := wd_sum A hA
  have a0 := wd_word A 0; have a1 := wd_word A 1
  unfold Word at a0 a1
  refine len_word A 2 (wd A 2) (wd_word A 2) h (wd A 0 + 18446744073709551616 * wd A 1).toNat ?_ ?_
  · rw [show (2 : Nat) ^ (64 * 2) = 340282366920938463463374607431768211456 from rfl]; omega
  · rw [show (2 : Int) ^ (64 * 2) = 340282366920938463463374607431768211456 from rfl]; omega
theorem len1 {A : Nat} (hA : A < M) (h3 : wd A 3 = 0) (h2 : wd A 2 = 0) (h : wd A 1 ≠ 0) : lenN A = 64 + lenN (wd A 1).toNat := by
  have e := wd_sum A hA
  have a0 := wd_word A 0
  unfold Word at a0
  refine len_word A 1 (wd A 1) (wd_word A 1) h (wd A 0).toNat ?_ ?_
  · rw [show (2 : Nat) ^ (64 * 1) = 18446744073709551616 from rfl]; omega
  · rw [show (2 : Int) ^ (64 * 1) = 18446744073709551616 from rfl]; omega
theorem len0 {A : Nat} (hA : A < M) (h3 : wd A 3 = 0) (h2 : wd A 2 = 0) (h1 : wd A 1 = 0) : lenN A = lenN (wd A 0).toNat := by
  have e := wd_sum A hA
  congr 1; have := wd_nonneg A 0; omega
theorem lenN_le (A : Nat) (hA : A < M) : lenN A ≤ 256 := lenN_lt (by rw [← M_pow]; exact hA)
set_option maxHeartbeats 1000000 in
theorem len_any (A : Nat) (w : World) (hA : A < M) :
    Calls Tryz.prog 142 #[U A] w fun e w' => e = .returned (.int .i64 (lenN A)) ∧ Below w.heap.size w w' := by
  obtain ⟨n, en⟩ : ∃ n, n = lenN A := ⟨_, rfl⟩
  have hn : n ≤ 256 := by rw [en]; exact lenN_le A hA
  rw [← en]
  by_cases z3 : wd A 3 = 0
  · by_cases z2 : wd A 2 = 0
    · by_cases z1 : wd A 1 = 0
      · by_cases z0 : wd A 0 = 0
        · have en0 : n = 0 := by rw [en, len0 hA z3 z2 z1, z0]; rfl
          have t3 : (wd A 3 != 0) = false := by rw [z3]; rfl
          have t2 : (wd A 2 != 0) = false := by rw [z2]; rfl
          have t1 : (wd A 1 != 0) = false := by rw [z1]; rfl
          have t0 : (wd A 0 != 0) = false := by rw [z0]; rfl
          have EN := Lib.hid en0
          clear z0 z1 z2 z3 en en0 hn
          go_enter Tryz.func142, Tryz.ntmps142
          go_wp2
          refine wp_loop_rounds 5 ?_
          repeat (rw [rounds_succ]; go_wp2)
          go_ret
          refine ⟨by rw [EN.out]; rfl, ?_⟩
          (repeat' (first | (with_reducible exact Below.refl _ _) | (with_reducible assumption) | (with_reducible refine below_drewN ?_ _) | (with_reducible refine Below.drew ?_) | (with_reducible refine Below.setCell ?_ ?_ _) | (with_reducible refine Below.alloc ?_ ?_ _) | (with_reducible exact Nat.le_refl _) | omega | (simp; omega) | (simp; done)))
        · have en0 : n = 0 + lenN (wd A 0).toNat := by rw [en, len0 hA z3 z2 z1]; omega
          have t3 : (wd A 3 != 0) = false := by rw [z3]; rfl
          have t2 : (wd A 2 != 0) = false := by rw [z2]; rfl
          have t1 : (wd A 1 != 0) = false := by rw [z1]; rfl
          have t0 : (wd A 0 != 0) = true := by simpa using z0
          have lb := lenN_lt (A := (wd A 0).toNat) (k := 64) (by have := wd_lt A 0; have := wd_nonneg A 0; omega)
          have L := Lib.hid (fun W => len64_any (wd A 0) W (wd_word A 0))
          clear z0
          have EN := Lib.hid en0
          clear en en0 hn
          (try clear z1)
          (try clear z2)
          (try clear z3)
          go_enter Tryz.func142, Tryz.ntmps142
          go_wp2
          refine wp_loop_rounds 5 ?_
          repeat (rw [rounds_succ]; go_wp2_with fail)
          refine (L.out _).mono ?_; rintro e w' ⟨rfl, rfl⟩
          go_wp2
          go_ret
          refine ⟨ret_i64 ?_, ?_⟩
          · have := EN.out; omega
          · (repeat' (first | (with_reducible exact Below.refl _ _) | (with_reducible assumption) | (with_reducible refine below_drewN ?_ _) | (with_reducible refine Below.drew ?_) | (with_reducible refine Below.setCell ?_ ?_ _) | (with_reducible refine Below.alloc ?_ ?_ _) | (with_reducible exact Nat.le_refl _) | omega | (simp; omega) | (simp; done)))
      · have en0 : n = 64 + lenN (wd A 1).toNat := by rw [en, len1 hA z3 z2 z1]
        have t3 : (wd A 3 != 0) = false := by rw [z3]; rfl
        have t2 : (wd A 2 != 0) = false := by rw [z2]; rfl
        have t1 : (wd A 1 != 0) = true := by simpa using z1
        have lb := lenN_lt (A := (wd A 1).toNat) (k := 64) (by have := wd_lt A 1; have := wd_nonneg A 1; omega)
        have L := Lib.hid (fun W => len64_any (wd A 1) W (wd_word A 1))
        have EN := Lib.hid en0
        clear en en0 hn
        (try clear z1)
        (try clear z2)
        (try clear z3)
        go_enter Tryz.func142, Tryz.ntmps142
        go_wp2
        refine wp_loop_rounds 5 ?_
        repeat (rw [rounds_succ]; go_wp2_with fail)
        refine (L.out _).mono ?_; rintro e w' ⟨rfl, rfl⟩
        go_wp2
        go_ret
        refine ⟨ret_i64 ?_, ?_⟩
        · have := EN.out; omega
        · (repeat' (first | (with_reducible exact Below.refl _ _) | (with_reducible assumption) | (with_reducible refine below_drewN ?_ _) | (with_reducible refine Below.drew ?_) | (with_reducible refine Below.setCell ?_ ?_ _) | (with_reducible refine Below.alloc ?_ ?_ _) | (with_reducible exact Nat.le_refl _) | omega | (simp; omega) | (simp; done)))
    · have en0 : n = 128 + lenN (wd A 2).toNat := by rw [en, len2 hA z3 z2]
      have t3 : (wd A 3 != 0) = false := by rw [z3]; rfl
      have t2 : (wd A 2 != 0) = true := by simpa using z2
      have lb := lenN_lt (A := (wd A 2).toNat) (k := 64) (by have := wd_lt A 2; have := wd_nonneg A 2; omega)
      have L := Lib.hid (fun W => len64_any (wd A 2) W (wd_word A 2))
      have EN := Lib.hid en0
      clear en en0 hn
      (try clear z1)
      (try clear z2)
      (try clear z3)
      go_enter Tryz.func142, Tryz.ntmps142
      go_wp2
      refine wp_loop_rounds 5 ?_
      repeat (rw [rounds_succ]; go_wp2_with fail)
      refine (L.out _).mono ?_; rintro e w' ⟨rfl, rfl⟩
      go_wp2
      go_ret
      refine ⟨ret_i64 ?_, ?_⟩
      · have := EN.out; omega
      · (repeat' (first | (with_reducible exact Below.refl _ _) | (with_reducible assumption) | (with_reducible refine below_drewN ?_ _) | (with_reducible refine Below.drew ?_) | (with_reducible refine Below.setCell ?_ ?_ _) | (with_reducible refine Below.alloc ?_ ?_ _) | (with_reducible exact Nat.le_refl _) | omega | (simp; omega) | (simp; done)))
  · have en0 : n = 192 + lenN (wd A 3).toNat := by rw [en, len3 hA z3]
    have t3 : (wd A 3 != 0) = true := by simpa using z3
    have lb := lenN_lt (A := (wd A 3).toNat) (k := 64) (by have := wd_lt A 3; have := wd_nonneg A 3; omega)
    have L := Lib.hid (fun W => len64_any (wd A 3) W (wd_word A 3))
    have EN := Lib.hid en0
    clear en en0 hn
    (try clear z1)
    (try clear z2)
    (try clear z3)
    go_enter Tryz.func142, Tryz.ntmps142
    go_wp2
    refine wp_loop_rounds 5 ?_
    repeat (rw [rounds_succ]; go_wp2_with fail)
    refine (L.out _).mono ?_; rintro e w' ⟨rfl, rfl⟩
    go_wp2
    go_ret
    refine ⟨ret_i64 ?_, ?_⟩
    · have := EN.out; omega
    · (repeat' (first | (with_reducible exact Below.refl _ _) | (with_reducible assumption) | (with_reducible refine below_drewN ?_ _) | (with_reducible refine Below.drew ?_) | (with_reducible refine Below.setCell ?_ ?_ _) | (with_reducible refine Below.alloc ?_ ?_ _) | (with_reducible exact Nat.le_refl _) | omega | (simp; omega) | (simp; done)))
set_option maxHeartbeats 1000000 in
theorem rfromuint_any (n : Int) (w : World) (hn : Word n) :
    Calls Tryz.prog 90 #[.int .u64 n] w fun e w' => e = .returned (U n.toNat) ∧ Below w.heap.size w w' := by
  obtain ⟨n, rfl⟩ := Int.eq_ofNat_of_zero_le hn.1
  have h2 := hn.2
  go_enter Tryz.func90, Tryz.ntmps90
  go_wp2
  go_returns
  refine ⟨ret_U (U_small n (by omega)), ?_⟩
  (repeat' (first | (with_reducible exact Below.refl _ _) | (with_reducible assumption) | (with_reducible refine below_drewN ?_ _) | (with_reducible refine Below.drew ?_) | (with_reducible refine Below.setCell ?_ ?_ _) | (with_reducible refine Below.alloc ?_ ?_ _) | (with_reducible exact Nat.le_refl _) | omega | (simp; omega) | (simp; done)))
set_option maxHeartbeats 1000000 in
theorem rzero_any (A : Nat) (w : World) (hA : A < M) :
    Calls Tryz.prog 68 #[U A] w fun e w' => e = .returned (.bool (decide (A = 0))) ∧ Below w.heap.size w w' := by
  have E := fun W => eqlU0 A hA W
  go_enter Tryz.func68, Tryz.ntmps68
  go_wp2
  go_ret
  refine ⟨rfl, ?_⟩
  (repeat' (first | (with_reducible exact Below.refl _ _) | (with_reducible assumption) | (with_reducible refine below_drewN ?_ _) | (with_reducible refine Below.drew ?_) | (with_reducible refine Below.setCell ?_ ?_ _) | (with_reducible refine Below.alloc ?_ ?_ _) | (with_reducible exact Nat.le_refl _) | omega | (simp; omega) | (simp; done)))
theorem bit_lt {A m : Nat} (h : A < 2 ^ (m + 1)) (hb : bitN A m = false) : A < 2 ^ m := by
  unfold bitN at hb
  have := of_decide_eq_false hb
  have h2 : A / 2 ^ m < 2 := by rw [Nat.div_lt_iff_lt_mul (Nat.pow_pos (by decide))]; rw [Nat.pow_succ] at h; omega
  have h3 : A / 2 ^ m = 0 := by generalize A / 2 ^ m = y at *; omega
  exact Nat.lt_of_div_eq_zero (Nat.pow_pos (by decide)) h3
theorem bit_ge {A m : Nat} (hb : bitN A m = true) : 2 ^ m ≤ A := by
  unfold bitN at hb
  have h1 := of_decide_eq_true hb
  refine Nat.le_of_not_lt (fun h => ?_)
  rw [Nat.div_eq_of_lt h] at h1
  omega
set_option maxHeartbeats 1000000 in
theorem rlen_any (A : Nat) (w : World) (hA : A < M) :
    Calls Tryz.prog 163 #[U A] w fun e w' => e = .returned (.int .i64 (lenN A)) ∧ Below w.heap.size w w' := by
  obtain ⟨n, en⟩ : ∃ n, n = lenN A := ⟨_, rfl⟩
  rw [← en]
  have EN := Lib.hid en
  clear en
  go_enter Tryz.func163, Tryz.ntmps163
  go_wp2
  go_loopg [3] 256 (fun k p wr => k ≤ 256 ∧ p = .int .i64 (k - 1) ∧ Hid (A < 2 ^ k) ∧ Own wr w.heap.size (cU A) ∧ Below w.heap.size w wr)
  case atStart => exact ⟨by omega, rfl, Lib.hid (by rw [← M_pow]; exact hA), Own.new _, (Below.refl _ _).alloc (Nat.le_refl _) _⟩
  case round =>
    obtain ⟨hk, rfl, hlt, O, hB⟩ := hrel
    by_cases hk0 : gk = 0
    · subst hk0
      go_wp2
      go_ret
      refine ⟨ret_i64 ?_, hB⟩
      have := hlt.out
      rw [EN.out, show A = 0 by simpa using this]; rfl
    · obtain ⟨m, rfl⟩ : ∃ m, gk = m + 1 := ⟨gk - 1, by omega⟩
      have eg : ((m + 1 : Nat) : Int) - 1 = m := by omega
      rw [eg]
      clear eg
      have c0 := O.cell
      have m256 : m < 256 := by omega
      cases hb : bitN A m with
      | true =>
        have L := Lib.hid (fun W => rbit_any A m W m256)
        rw [hb] at L
        have HB := Lib.hid hb
        clear hb
        go_wp2_with fail
        refine (L.out _).mono ?_; rintro e w1 ⟨rfl, hb1⟩
        go_wp2
        go_ret
        refine ⟨ret_i64 ?_, hB.trans (hb1.mono hB.size)⟩
        rw [EN.out, lenN_of (bit_ge HB.out) hlt.out]; omega
      | false =>
        have L := Lib.hid (fun W => rbit_any A m W m256)
        rw [hb] at L
        have HB := Lib.hid hb
        clear hb
        go_wp2_with fail
        refine (L.out _).mono ?_; rintro e w1 ⟨rfl, hb1⟩
        go_wp2
        go_roundg m
        case rel => exact ⟨by omega, rfl, Lib.hid (bit_lt hlt.out HB.out), O.below hb1, hB.trans (hb1.mono hB.size)⟩
        case measure => omega
theorem modM_lt (x : Nat) : x % M < M := Nat.mod_lt _ M_pos
theorem fromuint_lit (n : Nat) (w : World) (hn : n < 18446744073709551616) : Calls Tryz.prog 92 #[.int .u64 n] w fun e w' => e = .returned (U n) ∧ Below w.heap.size w w' := by
  have h := fromuint_any n w ⟨by omega, by omega⟩
  exact h
theorem rfromuint_lit (n : Nat) (w : World) (hn : n < 18446744073709551616) : Calls Tryz.prog 90 #[.int .u64 n] w fun e w' => e = .returned (U n) ∧ Below w.heap.size w w' := by
  have h := rfromuint_any n w ⟨by omega, by omega⟩
  exact h
def redN (a m : Nat) : Nat := if m = 0 then 0 else a % m
theorem redN_lt {a m : Nat} (h : a < M) : redN a m < M := by
  unfold redN; split
  · exact M_pos
  · exact Nat.lt_of_le_of_lt (Nat.mod_le _ _) h
theorem cmpN_neg {a b : Nat} : cmpN a b < 0 ↔ a < b := by
  unfold cmpN; split
  · simp; assumption
  · split <;> simp <;> omega
theorem red_lt {a m : Nat} (h : decide (cmpN a m < 0) = true) : a = redN a m := by
  have h1 := cmpN_neg.1 (of_decide_eq_true h)
  unfold redN; rw [if_neg (by omega), Nat.mod_eq_of_lt h1]
theorem red_div0 (a m : Nat) : divR 0 a m = redN a m := by
  unfold redN divR
  by_cases h0 : m = 0
  · rw [if_pos (by omega), if_pos h0]
  · rw [if_neg (by omega), if_neg h0, Nat.zero_mul, Nat.zero_add]
theorem red_div {a m : Nat} (_h : decide (cmpN a m < 0) = false) : divR 0 a m = redN a m := by
  unfold redN divR
  by_cases h0 : m = 0
  · rw [if_pos (by omega), if_pos h0]
  · rw [if_neg (by omega), if_neg h0, Nat.zero_mul, Nat.zero_add]
def addmN (a b m : Nat) : Nat := if m = 0 then 0 else (a + b) % m
def mulmN (a b m : Nat) : Nat := if m = 0 then 0 else (a * b) % m
def expmN (a e m : Nat) : Nat := if m = 0 then 0 else a ^ e % m
theorem modz_lt {m : Nat} (x : Nat) (h : m < M) : (if m = 0 then 0 else x % m) < M := by
  split
  · exact M_pos
  · exact Nat.lt_trans (Nat.mod_lt _ (by omega)) h
theorem addmN_lt (a b : Nat) {m : Nat} (h : m < M) : addmN a b m < M := modz_lt _ h
theorem mulmN_lt (a b : Nat) {m : Nat} (h : m < M) : mulmN a b m < M := modz_lt _ h
theorem expmN_lt (a b : Nat) {m : Nat} (h : m < M) : expmN a b m < M := modz_lt _ h
theorem redN_pos {a m : Nat} (h : decide (m = 0) = false) : redN a m = a % m ∧ 0 < m ∧ a % m < m := by
  have h0 : m ≠ 0 := of_decide_eq_false h
  unfold redN; rw [if_neg h0]
  exact ⟨rfl, by omega, Nat.mod_lt _ (by omega)⟩
theorem addm_0 {a b m : Nat} (h : decide (m = 0) = true) : 0 = addmN a b m := by unfold addmN; rw [if_pos (of_decide_eq_true h)]
theorem mulm_0 {a b m : Nat} (h : decide (m = 0) = true) : 0 = mulmN a b m := by unfold mulmN; rw [if_pos (of_decide_eq_true h)]
theorem mulm_0' {a b m : Nat} (h : decide (m = 0) = true) : m = mulmN a b m := by rw [← mulm_0 h]; exact of_decide_eq_true h
theorem expm_0 {a b m : Nat} (h : decide (m = 0) = true) : 0 = expmN a b m := by unfold expmN; rw [if_pos (of_decide_eq_true h)]
theorem expm_0' {a b m : Nat} (h : decide (m = 0) = true) : m = expmN a b m := by rw [← expm_0 h]; exact of_decide_eq_true h
theorem addm_core {a b m : Nat} (h0 : 0 < m) : addmN a b m = if m ≤ a % m + b % m then a % m + b % m - m else a % m + b % m := by
  unfold addmN
  rw [if_neg (by omega), Nat.add_mod]
  have h1 := Nat.mod_lt a h0; have h2 := Nat.mod_lt b h0
  split
  · rw [Nat.mod_eq_sub_mod (by omega), Nat.mod_eq_of_lt (by omega)]
  · rw [Nat.mod_eq_of_lt (by omega)]
theorem addm_2 {a b m : Nat} (hm : m < M) (h1 : decide (m = 0) = false) (h2 : decide (M ≤ redN a m + redN b m) = true) : ((redN a m + redN b m) % M + M - m) % M = addmN a b m := by
  obtain ⟨e1, p, l1⟩ := redN_pos (a := a) h1
  obtain ⟨e2, _, l2⟩ := redN_pos (a := b) h1
  have h2 := of_decide_eq_true h2
  rw [e1, e2] at h2 ⊢
  rw [addm_core p, if_pos (by omega)]
  clear e1 e2
  generalize a % m = x at *; generalize b % m = y at *
  rw [M_eq] at *; omega
theorem addm_3t {a b m : Nat} (hm : m < M) (h1 : decide (m = 0) = false) (h2 : decide (M ≤ redN a m + redN b m) = false) (h3 : decide (0 ≤ cmpN ((redN a m + redN b m) % M) m) = true) : ((redN a m + redN b m) % M + M - m) % M = addmN a b m := by
  obtain ⟨e1, p, l1⟩ := redN_pos (a := a) h1
  obtain ⟨e2, _, l2⟩ := redN_pos (a := b) h1
  have h2 := of_decide_eq_false h2
  rw [e1, e2] at h2 ⊢
  have h3 : ¬ (a % m + b % m) % M < m := fun hh => by
    have := of_decide_eq_true h3
    rw [e1, e2] at this
    have h4 := cmpN_neg.2 hh
    omega
  rw [addm_core p]
  clear e1 e2
  generalize a % m = x at *; generalize b % m = y at *
  rw [M_eq] at *
  split <;> omega
theorem addm_3f {a b m : Nat} (_hm : m < M) (h1 : decide (m = 0) = false) (h2 : decide (M ≤ redN a m + redN b m) = false) (h3 : decide (0 ≤ cmpN ((redN a m + redN b m) % M) m) = false) : (redN a m + redN b m) % M = addmN a b m := by
  obtain ⟨e1, p, l1⟩ := redN_pos (a := a) h1
  obtain ⟨e2, _, l2⟩ := redN_pos (a := b) h1
  have h2 := of_decide_eq_false h2
  rw [e1, e2] at h2 ⊢
  have h3 : (a % m + b % m) % M < m := cmpN_neg.1 (by have := of_decide_eq_false h3; rw [e1, e2] at this; omega)
  rw [addm_core p]
  clear e1 e2
  generalize a % m = x at *; generalize b % m = y at *
  rw [M_eq] at *
  split <;> omega
theorem mulm_1 {a b m : Nat} (h1 : decide (m = 0) = false) : divR (redN (a * b / M) m) (a * b % M) m = mulmN a b m := by
  obtain ⟨e1, p, l1⟩ := redN_pos (a := a * b / M) h1
  unfold divR mulmN
  rw [e1, if_neg (by omega), if_neg (by omega), Nat.add_mod, Nat.mul_mod, Nat.mod_mod, ← Nat.mul_mod, ← Nat.add_mod, Nat.mul_comm (a * b / M), Nat.div_add_mod]
theorem mulm_2 {a b m : Nat} (hm : m < M) (h1 : decide (m = 0) = false) : divR (redN a m * redN b m / M) (redN a m * redN b m % M) m = mulmN a b m := by
  obtain ⟨e1, p, l1⟩ := redN_pos (a := a) h1
  obtain ⟨e2, _, l2⟩ := redN_pos (a := b) h1
  rw [e1, e2]
  have hlt : a % m * (b % m) / M < m := by
    rw [Nat.div_lt_iff_lt_mul M_pos]
    have : a % m * (b % m) ≤ (m - 1) * m := Nat.mul_le_mul (by omega) (by omega)
    have h3 : (m - 1) * m < m * m := Nat.mul_lt_mul_of_pos_right (by omega) p
    have h4 : m * m ≤ m * M := Nat.mul_le_mul_left _ (by omega)
    omega
  unfold divR mulmN
  rw [if_neg (by omega), if_neg (by omega), Nat.mul_comm (a % m * (b % m) / M), Nat.div_add_mod, ← Nat.mul_mod]
def c8 (f : Nat → Int) : Array Value := #[.int .u64 (f 0), .int .u64 (f 1), .int .u64 (f 2), .int .u64 (f 3), .int .u64 (f 4), .int .u64 (f 5), .int .u64 (f 6), .int .u64 (f 7)]
def updf (f : Nat → Int) (k : Nat) (x : Int) : Nat → Int := fun j => if j = k then x else f j
theorem lt8 {k : Nat} (h : k < 8) : k = 0 ∨ k = 1 ∨ k = 2 ∨ k = 3 ∨ k = 4 ∨ k = 5 ∨ k = 6 ∨ k = 7 := by omega
theorem c8_get (f : Nat → Int) (k : Nat) (h : k < 8) : (c8 f)[k]? = some (.int .u64 (f k)) := by
  rcases lt8 h with rfl | rfl | rfl | rfl | rfl | rfl | rfl | rfl <;> rfl
theorem c8_set (f : Nat → Int) (k : Nat) (x : Int) (h : k < 8) : (c8 f).setIfInBounds k (.int .u64 x) = c8 (updf f k x) := by
  rcases lt8 h with rfl | rfl | rfl | rfl | rfl | rfl | rfl | rfl <;> simp [c8, updf]
def S8 (f : Nat → Int) : Int := f 0 + 18446744073709551616 * f 1 + 340282366920938463463374607431768211456 * f 2 + 6277101735386680763835789423207666416102355444464034512896 * f 3 + 115792089237316195423570985008687907853269984665640564039457584007913129639936 * f 4 + 2135987035920910082395021706169552114602704522356652769947041607822219725780640550022962086936576 * f 5 + 39402006196394479212279040100143613805079739270465446667948293404245721771497210611414266254884915640806627990306816 * f 6 + 726838724295606890549323807888004534353641360687318060281490199180639288113397923326191050713763565560762521606266177933534601628614656 * f 7
def pw (k : Nat) : Int := 18446744073709551616 ^ k
theorem pw_vals : pw 0 = 1 ∧ pw 1 = 18446744073709551616 ∧ pw 2 = 340282366920938463463374607431768211456 ∧ pw 3 = 6277101735386680763835789423207666416102355444464034512896 ∧ pw 4 = 115792089237316195423570985008687907853269984665640564039457584007913129639936 ∧ pw 5 = 2135987035920910082395021706169552114602704522356652769947041607822219725780640550022962086936576 ∧ pw 6 = 39402006196394479212279040100143613805079739270465446667948293404245721771497210611414266254884915640806627990306816 ∧ pw 7 = 726838724295606890549323807888004534353641360687318060281490199180639288113397923326191050713763565560762521606266177933534601628614656 := by
  decide +kernel
def mG (A B i : Nat) : Nat → Int
  | 0 => 0
  | j + 1 => mG A B i j + wd A i * wd B j * pw (i + j)
def mH (A B : Nat) : Nat → Int
  | 0 => 0
  | i + 1 => mH A B i + mG A B i 4
structure MulO (A B i : Nat) (f : Nat → Int) : Prop where
  word : ∀ k, Word (f k)
  zero : ∀ k, i + 4 ≤ k → f k = 0
  sum : S8 f = mH A B i
structure MulI (A B i j : Nat) (f : Nat → Int) (c : Int) : Prop where
  car : Word c
  word : ∀ k, Word (f k)
  zero : ∀ k, i + 4 ≤ k → f k = 0
  sum : S8 f + c * pw (i + j) = mH A B i + mG A B i j
theorem mulO_zero (A B : Nat) : MulO A B 0 (fun _ => 0) := ⟨fun _ => word_zero, fun _ _ => rfl, by simp [S8, mH]⟩
theorem mulO_begin {A B i : Nat} {f : Nat → Int} (h : MulO A B i f) : MulI A B i 0 f 0 := ⟨word_zero, h.word, h.zero, by rw [h.sum]; simp [mG]⟩
theorem mulI_end {A B i : Nat} {f : Nat → Int} {c : Int} (hi : i < 4) (h : MulI A B i 4 f c) : MulO A B (i + 1) (updf f (i + 4) c) := by
  refine ⟨fun k => ?_, fun k hk => ?_, ?_⟩
  · unfold updf; split
    · exact h.car
    · exact h.word k
  · unfold updf; rw [if_neg (by omega)]; exact h.zero k (by omega)
  · have hz := h.zero (i + 4) (by omega)
    have hs := h.sum
    show _ = mH A B i + mG A B i 4
    rw [← hs]
    obtain ⟨p0, p1, p2, p3, p4, p5, p6, p7⟩ := pw_vals
    rcases (by omega : i = 0 ∨ i = 1 ∨ i = 2 ∨ i = 3) with rfl | rfl | rfl | rfl <;> simp only [S8, updf, Nat.reduceAdd, Nat.reduceEqDiff, if_true, if_false, p4, p5, p6, p7] at hz ⊢ <;> rw [hz] <;> omega
theorem mul_bound {x y : Int} (hx : Word x) (hy : Word y) : 0 ≤ x * y ∧ x * y ≤ 340282366920938463426481119284349108225 := by
  unfold Word at *
  refine ⟨Int.mul_nonneg hx.1 hy.1, ?_⟩
  have h1 : x * y ≤ 18446744073709551615 * y := Int.mul_le_mul_of_nonneg_right (by omega) hy.1
  omega
theorem u64_wrap (n : Int) : IntKind.u64.wrap n = n % 18446744073709551616 := IntKind.wrap_u64 n
theorem mul_step {x y u c : Int} (hx : Word x) (hy : Word y) (hu : Word u) (hc : Word c) :
    addLo (addLo (mulLo x y) u 0) c 0 + 18446744073709551616 * (IntKind.u64.wrap (IntKind.u64.wrap (mulHi x y + addHi (mulLo x y) u 0) + addHi (addLo (mulLo x y) u 0) c 0)) = x * y + u + c ∧
      Word (IntKind.u64.wrap (IntKind.u64.wrap (mulHi x y + addHi (mulLo x y) u 0) + addHi (addLo (mulLo x y) u 0) c 0)) := by
  have hb := mul_bound hx hy
  have e1 := mul_eq x y
  have w1 := word_mulLo x y
  have e2 := add_eq w1 hu bit_zero
  have w2 := word_addLo (mulLo x y) u 0
  have b2 := bit_addHi (mulLo x y) u 0
  have e3 := add_eq w2 hc bit_zero
  have w3 := word_addLo (addLo (mulLo x y) u 0) c 0
  have b3 := bit_addHi (addLo (mulLo x y) u 0) c 0
  rw [u64_wrap, u64_wrap]
  generalize addHi (addLo (mulLo x y) u 0) c 0 = q3 at *
  generalize addLo (addLo (mulLo x y) u 0) c 0 = r3 at *
  generalize addHi (mulLo x y) u 0 = q2 at *
  generalize addLo (mulLo x y) u 0 = r2 at *
  generalize mulLo x y = r1 at *
  generalize mulHi x y = q1 at *
  generalize x * y = p at *
  unfold Word Bit at *
  omega
theorem addLo_comm (x y c : Int) : addLo x y c = addLo y x c := by unfold addLo; rw [Int.add_comm x y]
theorem addHi_comm (x y c : Int) : addHi x y c = addHi y x c := by unfold addHi; rw [Int.add_comm x y]
theorem rmul_step {x y u c : Int} (hx : Word x) (hy : Word y) (hu : Word u) (hc : Word c) :
    addLo (addLo u (mulLo x y) 0) c 0 + 18446744073709551616 * (IntKind.u64.wrap (IntKind.u64.wrap (mulHi x y + addHi u (mulLo x y) 0) + addHi (addLo u (mulLo x y) 0) c 0)) = x * y + u + c ∧
      Word (IntKind.u64.wrap (IntKind.u64.wrap (mulHi x y + addHi u (mulLo x y) 0) + addHi (addLo u (mulLo x y) 0) c 0)) := by
  rw [addLo_comm u (mulLo x y), addHi_comm u (mulLo x y)]
  exact mul_step hx hy hu hc
theorem mulI_next {A B i j : Nat} {f : Nat → Int} {c w c' : Int} (hi : i < 4) (hj : j < 4) (h : MulI A B i j f c) (hw : Word w) (hc' : Word c') (he : w + 18446744073709551616 * c' = wd A i * wd B j + f (i + j) + c) :
    MulI A B i (j + 1) (updf f (i + j) w) c' := by
  refine ⟨hc', fun k => ?_, fun k hk => ?_, ?_⟩
  · unfold updf; split
    · exact hw
    · exact h.word k
  · unfold updf; rw [if_neg (by omega)]; exact h.zero k hk
  · have hs := h.sum
    show _ = mH A B i + (mG A B i j + wd A i * wd B j * pw (i + j))
    generalize wd A i * wd B j = p at *
    rw [← Int.add_assoc, ← hs]
    obtain ⟨p0, p1, p2, p3, p4, p5, p6, p7⟩ := pw_vals
    clear hs
    rcases (by omega : i = 0 ∨ i = 1 ∨ i = 2 ∨ i = 3) with rfl | rfl | rfl | rfl <;> rcases (by omega : j = 0 ∨ j = 1 ∨ j = 2 ∨ j = 3) with rfl | rfl | rfl | rfl <;>
      simp only [S8, updf, Nat.reduceAdd, Nat.reduceEqDiff, if_true, if_false, p0, p1, p2, p3, p4, p5, p6, p7] at he ⊢ <;> omega
theorem mul_four (x b0 b1 b2 b3 : Int) : x * (b0 + 18446744073709551616 * b1 + 340282366920938463463374607431768211456 * b2 + 6277101735386680763835789423207666416102355444464034512896 * b3) = x * b0 + 18446744073709551616 * (x * b1) + 340282366920938463463374607431768211456 * (x * b2) + 6277101735386680763835789423207666416102355444464034512896 * (x * b3) := by
  rw [Int.mul_add, Int.mul_add, Int.mul_add, Int.mul_left_comm x _ b1, Int.mul_left_comm x _ b2, Int.mul_left_comm x _ b3]
theorem mH_four {A B : Nat} (hA : A < M) (hB : B < M) : mH A B 4 = ((A * B : Nat) : Int) := by
  have ea := wd_sum A hA; have eb := wd_sum B hB
  obtain ⟨p0, p1, p2, p3, p4, p5, p6, p7⟩ := pw_vals
  have e : ((A * B : Nat) : Int) = (wd A 0 + 18446744073709551616 * wd A 1 + 340282366920938463463374607431768211456 * wd A 2 + 6277101735386680763835789423207666416102355444464034512896 * wd A 3) * (B : Int) := by
    rw [← ea, Int.natCast_mul]
  rw [e, Int.add_mul, Int.add_mul, Int.add_mul, Int.mul_assoc, Int.mul_assoc, Int.mul_assoc, eb]
  simp only [mul_four]
  simp only [mH, mG, Nat.reduceAdd, Nat.zero_add, Nat.add_zero, p0, p1, p2, p3, p4, p5, p6]
  omega
theorem mul_end {A B : Nat} {f : Nat → Int} (hA : A < M) (hB : B < M) (h : MulO A B 4 f) :
    Ending.returned (.tuple #[.agg #[.int .u64 (f 4), .int .u64 (f 5), .int .u64 (f 6), .int .u64 (f 7)], .agg #[.int .u64 (f 0), .int .u64 (f 1), .int .u64 (f 2), .int .u64 (f 3)]]) = .returned (.tuple #[U (A * B / M), U (A * B % M)]) := by
  have hs := h.sum
  rw [mH_four hA hB] at hs
  have w0 := h.word 0; have w1 := h.word 1; have w2 := h.word 2; have w3 := h.word 3; have w4 := h.word 4; have w5 := h.word 5; have w6 := h.word 6; have w7 := h.word 7
  have l1 := ofW_sum w0 w1 w2 w3
  have l2 := ofW_sum w4 w5 w6 w7
  have t1 := ofW_lt w0 w1 w2 w3
  have key : A * B = ofW (f 4) (f 5) (f 6) (f 7) * M + ofW (f 0) (f 1) (f 2) (f 3) := by
    unfold S8 at hs
    rw [M_eq] at *
    omega
  have e1 : A * B / M = ofW (f 4) (f 5) (f 6) (f 7) := by
    rw [key, Nat.mul_comm, Nat.mul_add_div M_pos, Nat.div_eq_of_lt t1, Nat.add_zero]
  have e2 : A * B % M = ofW (f 0) (f 1) (f 2) (f 3) := by
    rw [key, Nat.mul_comm, Nat.mul_add_mod, Nat.mod_eq_of_lt t1]
  rw [e1, e2, U_of_sum _ w4 w5 w6 w7 l2, U_of_sum _ w0 w1 w2 w3 l1]
theorem mulhi_lt {A B : Nat} (hA : A < M) (hB : B < M) : A * B / M < M := by
  rw [Nat.div_lt_iff_lt_mul M_pos]
  exact Nat.mul_lt_mul_of_lt_of_lt hA hB
theorem wrap_add_nat (x y : Nat) (h : x + y < 9223372036854775808) : IntKind.i64.wrap ((x : Int) + (y : Int)) = ((x + y : Nat) : Int) := by
  rw [IntWalk.i64_in _ (by omega)]; omega
def shlW (x : Int) (k : Nat) : Int := IntKind.u64.wrap (x * 2 ^ min k 64)
def shrW (x : Int) (k : Nat) : Int := x.fdiv (2 ^ min k 64)
theorem run_shl {P : Program} {t : TypeId} {yk : IntKind} (x : Int) (k : Nat) (w : World) : (binOp .shl t (.int .u64 x) (.int yk (k : Int))).run P w = .ok (.int .u64 (shlW x k)) w := by
  simp only [binOp, Op.shift, if_neg (by omega : ¬ (k : Int) < 0), Int.toNat_natCast]
  rfl
theorem run_shr {P : Program} {t : TypeId} {yk : IntKind} (x : Int) (k : Nat) (w : World) : (binOp .shr t (.int .u64 x) (.int yk (k : Int))).run P w = .ok (.int .u64 (shrW x k)) w := by
  simp only [binOp, Op.shift, if_neg (by omega : ¬ (k : Int) < 0), Int.toNat_natCast]
  rfl
theorem run_quo_nat {P : Program} {t : TypeId} (n d q : Nat) (hd : 0 < d) (hn : n < 9223372036854775808) (hq : n / d = q) (w : World) : (binOp .quo t (.int .i64 (n : Int)) (.int .i64 (d : Int))).run P w = .ok (.int .i64 (q : Int)) w := by
  have e : Int.tdiv (n : Int) (d : Int) = (q : Int) := by rw [Int.tdiv_eq_ediv_of_nonneg (by omega), ← hq]; simp
  have h1 : q ≤ n := by rw [← hq]; exact Nat.div_le_self _ _
  simp only [binOp, Op.intDiv, ne_eq, not_true_eq_false, if_false, if_neg (by omega : ¬ (d : Int) = 0), e, IntWalk.i64_in (q : Int) (by omega)]
  rfl
theorem run_rem_nat {P : Program} {t : TypeId} (n d q : Nat) (hd : 0 < d) (hq : n % d = q) (w : World) : (binOp .rem t (.int .i64 (n : Int)) (.int .i64 (d : Int))).run P w = .ok (.int .i64 (q : Int)) w := by
  have e : Int.tmod (n : Int) (d : Int) = (q : Int) := by rw [Int.tmod_eq_emod_of_nonneg (by omega), ← hq]; simp
  simp only [binOp, Op.intDiv, ne_eq, not_true_eq_false, if_false, if_neg (by omega : ¬ (d : Int) = 0), e]
  rfl
theorem wrap_sub_nat (x y : Nat) (h : y ≤ x) (hx : x < 9223372036854775808) : IntKind.i64.wrap ((x : Int) - (y : Int)) = ((x - y : Nat) : Int) := by
  rw [IntWalk.i64_in _ (by omega)]; omega
def shrZ (a : Nat) (n : Int) : Nat := if n < 0 then a else a / 2 ^ n.toNat
theorem shrN_big {a : Nat} (ha : a < M) {n : Nat} (h : 256 ≤ n) : a / 2 ^ n = 0 := by
  apply Nat.div_eq_of_lt
  have : (2 : Nat) ^ 256 ≤ 2 ^ n := Nat.pow_le_pow_right (by decide) h
  rw [show M = 2 ^ 256 by rw [M_eq]] at ha
  omega
theorem bits_or_comm (x y : Int) : bits .or .u64 x y = bits .or .u64 y x := by
  simp only [bits, BitVec.or_comm]
theorem setlow_row (q g m : Nat) (hg : g < 4) (hm : m < 64) (h : q < 2 ^ (64 * g + m)) : (cU q).setIfInBounds g (.int .u64 (bits .or .u64 (wd q g) (2 ^ m))) = cU (q + 2 ^ (64 * g + m)) := by
  have hl : ∀ j, j < g → wd (q + 2 ^ (64 * g + m)) j = wd q j := fun j hj => setbit_lo q _ j (by omega)
  have hpos : 0 < 2 ^ (64 * g) := Nat.pow_pos (by decide)
  have hlt : q / 2 ^ (64 * g) < 2 ^ m := by
    rw [Nat.div_lt_iff_lt_mul hpos, ← Nat.pow_add, Nat.add_comm m]; exact h
  have h64 : (2 : Nat) ^ m < 18446744073709551616 := by
    have : (2 : Nat) ^ m < 2 ^ 64 := Nat.pow_lt_pow_right (by decide) hm
    omega
  have hW : ∀ j, (18446744073709551616 : Nat) ^ j = 2 ^ (64 * j) := fun j => by rw [Nat.pow_mul]
  have hz : ∀ j, g < j → wd (q + 2 ^ (64 * g + m)) j = wd q j := by
    intro j hj
    have hb : (2 : Nat) ^ (64 * g + m) + 2 ^ (64 * g + m) ≤ 2 ^ (64 * j) := by
      rw [← Nat.two_mul, ← Nat.pow_succ']
      exact Nat.pow_le_pow_right (by decide) (by omega)
    unfold wd
    rw [hW, Nat.div_eq_of_lt (by omega), Nat.div_eq_of_lt (by omega)]
  have hg' : bits .or .u64 (wd q g) (2 ^ m) = wd (q + 2 ^ (64 * g + m)) g := by
    have e1 : wd q g = ((q / 2 ^ (64 * g) : Nat) : Int) := by
      unfold wd; rw [hW, Nat.mod_eq_of_lt (by omega)]
    have e2 : wd (q + 2 ^ (64 * g + m)) g = ((q / 2 ^ (64 * g) + 2 ^ m : Nat) : Int) := by
      unfold wd
      rw [hW, Nat.pow_add, Nat.add_mul_div_left _ _ hpos, Nat.mod_eq_of_lt]
      have : (2 : Nat) ^ m + 2 ^ m ≤ 2 ^ 64 := by
        rw [← Nat.two_mul, ← Nat.pow_succ']; exact Nat.pow_le_pow_right (by decide) (by omega)
      omega
    rw [e1, e2, bits_or_comm]
    clear e1 e2 hl hz
    generalize q / 2 ^ (64 * g) = d at *
    have ec : ((2 : Int) ^ m) = ((2 ^ m : Nat) : Int) := by simp
    have h1 := u64_or_add 1 (d : Int) m (by omega) (by omega) (by rw [ec]; omega) (by
      have : (2 : Nat) ^ m + 2 ^ m ≤ 2 ^ 64 := by
        rw [← Nat.two_mul, ← Nat.pow_succ']; exact Nat.pow_le_pow_right (by decide) (by omega)
      rw [ec]; omega)
    rw [Int.one_mul] at h1
    rw [h1, ec]; omega
  rw [hg']
  generalize q + 2 ^ (64 * g + m) = q' at *
  rcases (by omega : g = 0 ∨ g = 1 ∨ g = 2 ∨ g = 3) with rfl | rfl | rfl | rfl
  · show #[_, _, _, _] = _; rw [cU, hz 1 (by omega), hz 2 (by omega), hz 3 (by omega)]
  · show #[_, _, _, _] = _; rw [cU, hl 0 (by omega), hz 2 (by omega), hz 3 (by omega)]
  · show #[_, _, _, _] = _; rw [cU, hl 0 (by omega), hl 1 (by omega), hz 3 (by omega)]
  · show #[_, _, _, _] = _; rw [cU, hl 0 (by omega), hl 1 (by omega), hl 2 (by omega)]
theorem low_next (x i : Nat) : x % 2 ^ (i + 1) = x % 2 ^ i + (if x / 2 ^ i % 2 = 1 then 2 ^ i else 0) := by
  rw [Nat.mod_pow_succ]
  rcases (by omega : x / 2 ^ i % 2 = 0 ∨ x / 2 ^ i % 2 = 1) with h | h <;> simp [h]
theorem shr_bit (a n i : Nat) : a / 2 ^ (i + n) % 2 = a / 2 ^ n / 2 ^ i % 2 := by rw [Nat.div_div_eq_div_mul, ← Nat.pow_add, Nat.add_comm n i]
theorem shr_all {a n i : Nat} (ha : a < M) (h : 256 ≤ i + n) : a / 2 ^ n % 2 ^ i = a / 2 ^ n := by
  apply Nat.mod_eq_of_lt
  rw [Nat.div_lt_iff_lt_mul (Nat.pow_pos (by decide)), ← Nat.pow_add]
  have : (2 : Nat) ^ 256 ≤ 2 ^ (i + n) := Nat.pow_le_pow_right (by decide) h
  rw [show M = 2 ^ 256 by rw [M_eq]] at ha
  omega
def c4 (f : Nat → Int) : Array Value := #[.int .u64 (f 0), .int .u64 (f 1), .int .u64 (f 2), .int .u64 (f 3)]
theorem div_lenN (e : Nat) : e / 2 ^ lenN e = 0 := by
  apply Nat.div_eq_of_lt
  unfold lenN
  split
  · rename_i h; rw [h]; exact Nat.pow_pos (by decide)
  · exact Nat.lt_log2_self
theorem exp_step {a p m x : Nat} (hp : p = a ^ x % m) (hm : 0 < m) : mulmN p p m = a ^ (2 * x) % m := by
  unfold mulmN
  rw [if_neg (by omega), hp, ← Nat.mul_mod, Nat.two_mul, Nat.pow_add]
theorem exp_step1 {a p m x : Nat} (hp : p = a ^ x % m) (hm : 0 < m) : mulmN (mulmN p p m) a m = a ^ (2 * x + 1) % m := by
  rw [exp_step hp hm]
  unfold mulmN
  rw [if_neg (by omega), Nat.mod_mul_mod, Nat.pow_succ]
theorem half_even {e k : Nat} (h0 : 0 < k) (h : bitN e (k - 1) = false) : 2 * (e / 2 ^ k) = e / 2 ^ (k - 1) := by
  unfold bitN at h
  have h := of_decide_eq_false h
  have e1 : 2 ^ k = 2 ^ (k - 1) * 2 := by rw [← Nat.pow_succ]; congr 1; omega
  rw [e1, ← Nat.div_div_eq_div_mul]
  omega
theorem half_odd {e k : Nat} (h0 : 0 < k) (h : bitN e (k - 1) = true) : 2 * (e / 2 ^ k) + 1 = e / 2 ^ (k - 1) := by
  unfold bitN at h
  have h := of_decide_eq_true h
  have e1 : 2 ^ k = 2 ^ (k - 1) * 2 := by rw [← Nat.pow_succ]; congr 1; omega
  rw [e1, ← Nat.div_div_eq_div_mul]
  omega
theorem exp_start {a e m : Nat} (h : decide (m = 0) = false) : redN 1 m = a ^ (e / 2 ^ lenN e) % m := by
  rw [(redN_pos h).1, div_lenN, Nat.pow_zero]
theorem exp_lt {a x m p : Nat} (hm : m < M) (h : decide (m = 0) = false) (hp : p = a ^ x % m) : p < M := by
  rw [hp]; exact Nat.lt_trans (Nat.mod_lt _ (redN_pos (a := 0) h).2.1) hm
theorem exp_end {a e m p k : Nat} (h : decide (m = 0) = false) (hk : k = 0) (hp : p = a ^ (e / 2 ^ k) % m) : p = expmN a e m := by
  unfold expmN
  rw [if_neg (of_decide_eq_false h), hp, hk, Nat.pow_zero, Nat.div_one]
theorem rbit_at (A i : Nat) (x : Int) (hx : x = (i : Int)) (w : World) (hi : i < 256) :
    Calls Tryz.prog 164 #[U A, .int .i64 x] w fun e w' => e = .returned (.bool (bitN A i)) ∧ Below w.heap.size w w' := by
  subst hx; exact rbit_any A i w hi
theorem expbit (e i : Nat) : (bits .and .u64 (shrW (wd e (i / 64)) (i % 64)) 1 == 1) = bitN e i := by
  rw [← bit_wd e (i / 64) i rfl]
  unfold shrW
  rw [Nat.min_eq_left (by omega), Int.fdiv_eq_ediv_of_nonneg _ (by have : (0 : Nat) < 2 ^ (i % 64) := Nat.pow_pos (by decide); have e : ((2 : Int) ^ (i % 64)) = ((2 ^ (i % 64) : Nat) : Int) := by simp
                                                                   omega)]
theorem wrap_down {k : Nat} (h : 0 < k) (h2 : k < 9223372036854775808) : IntKind.i64.wrap ((k : Int) - 1 - 1) = ((k - 1 : Nat) : Int) - 1 := by
  rw [IntWalk.i64_in _ (by omega)]; omega
theorem wrap_pred {k : Nat} (h2 : k < 9223372036854775808) : IntKind.i64.wrap ((k : Int) - 1) = (k : Int) - 1 := by
  rw [IntWalk.i64_in _ (by omega)]
def pP : Nat := 115792089237316195423570985008687907853269984665640564039457584007913129603823
def qP : Nat := 57896044618658097711785492504343953926634992332820282019728792003956564801911
theorem pP_lt : pP < M := by rw [M_eq]; unfold pP; decide
theorem qP_lt : qP < M := by rw [M_eq]; unfold qP; decide
theorem pP_pos : 1 < pP := by unfold pP; decide
theorem qP_pos : 1 < qP := by unfold qP; decide
theorem pq : pP = 2 * qP + 1 := by unfold pP qP; decide
theorem expm_p (a e : Nat) : expmN a e pP = a ^ e % pP := by unfold expmN; rw [if_neg (by have := pP_pos; omega)]
theorem mulm_p (a b : Nat) : mulmN a b pP = a * b % pP := by unfold mulmN; rw [if_neg (by have := pP_pos; omega)]
def powm (m : Nat) : Nat → Nat → Nat → Nat
  | 0, _, _ => 1 % m
  | f + 1, a, e => if e = 0 then 1 % m else if e % 2 = 1 then a * powm m f (a * a % m) (e / 2) % m else powm m f (a * a % m) (e / 2)
theorem powm_eq (m : Nat) : ∀ f a e, e < 2 ^ f → powm m f a e = a ^ e % m := by
  intro f
  induction f with
  | zero => intro a e h; have : e = 0 := by simpa using h
            subst this; rfl
  | succ f ih =>
    intro a e h
    have hlt : e / 2 < 2 ^ f := by rw [Nat.div_lt_iff_lt_mul (by decide)]; rw [Nat.pow_succ] at h; exact h
    have hsq : (a * a % m) ^ (e / 2) % m = a ^ (2 * (e / 2)) % m := by rw [← Nat.pow_mod, ← Nat.pow_two, ← Nat.pow_mul]
    unfold powm
    split
    · rename_i h0; rw [h0]
      rfl
    · split
      · rw [ih _ _ hlt, hsq, Nat.mul_mod_mod, Nat.mul_comm, ← Nat.pow_succ]
        congr 2; omega
      · rw [ih _ _ hlt, hsq]
        congr 2; omega
theorem four_q : 4 ^ qP % pP = 1 := by
  rw [← powm_eq pP 256 4 qP (by unfold qP; decide +kernel)]
  decide +kernel
def memB (a : Nat) : Bool := decide (a ≠ 0 ∧ a < pP ∧ a ^ qP % pP = 1)
theorem memB_zero : memB 0 = false := by unfold memB; rw [decide_eq_false_iff_not]; exact fun h => h.1 rfl
theorem pow_red (x : Nat) : 4 ^ (x % qP) % pP = 4 ^ x % pP := by
  have h1 : 4 ^ x % pP = 4 ^ (qP * (x / qP) + x % qP) % pP := by rw [Nat.div_add_mod]
  rw [h1, Nat.pow_add, Nat.pow_mul, Nat.mul_mod, Nat.pow_mod (4 ^ qP), four_q, Nat.one_pow, Nat.mod_eq_of_lt pP_pos, Nat.one_mul, Nat.mod_mod]
theorem pow_ne (x : Nat) : 4 ^ x % pP ≠ 0 := by
  intro h
  have h1 : (4 ^ x) ^ qP % pP = 1 := by rw [← Nat.pow_mul, Nat.mul_comm, Nat.pow_mul, Nat.pow_mod, four_q, Nat.one_pow, Nat.mod_eq_of_lt pP_pos]
  rw [Nat.pow_mod, h, Nat.zero_pow (by have := qP_pos; omega), Nat.zero_mod] at h1
  exact absurd h1 (by decide)
theorem pow_q (x : Nat) : (4 ^ x % pP) ^ qP % pP = 1 := by
  rw [← Nat.pow_mod, ← Nat.pow_mul, Nat.mul_comm, Nat.pow_mul, Nat.pow_mod, four_q, Nat.one_pow, Nat.mod_eq_of_lt pP_pos]
theorem memB_pow (x : Nat) : memB (4 ^ x % pP) = true := by
  unfold memB; rw [decide_eq_true_eq]
  exact ⟨pow_ne x, Nat.mod_lt _ (by have := pP_pos; omega), pow_q x⟩
theorem mem_no1 {a : Nat} (h : decide (a = 0) = true) : false = memB a := by rw [of_decide_eq_true h]; exact memB_zero.symm
theorem mem_no2 {a : Nat} (h : decide (0 ≤ cmpN a pP) = true) : false = memB a := by
  unfold memB; symm; rw [decide_eq_false_iff_not]
  intro hh
  have h1 := cmpN_neg.2 hh.2.1
  have := of_decide_eq_true h; omega
theorem mem_yes {a : Nat} (h0 : decide (a = 0) = false) (h : cmpN a pP < 0) : decide (expmN a qP pP = 1) = memB a := by
  unfold memB
  rw [decide_eq_decide, expm_p]
  exact ⟨fun e => ⟨of_decide_eq_false h0, cmpN_neg.1 h, e⟩, fun e => e.2.2⟩
theorem exp_one (a e : Nat) : 1 = a ^ (e / 2 ^ lenN e) % pP := by rw [div_lenN, Nat.pow_zero, Nat.mod_eq_of_lt pP_pos]
theorem gexp_lt {a x p : Nat} (hp : p = a ^ x % pP) : p < M := by rw [hp]; exact Nat.lt_trans (Nat.mod_lt _ (by have := pP_pos; omega)) pP_lt
theorem gexp_end {a e p i : Nat} (hi : i = lenN e) (hp : p = a ^ (e / 2 ^ (lenN e - i)) % pP) : p = expmN a e pP := by
  rw [expm_p, hp, hi, Nat.sub_self, Nat.pow_zero, Nat.div_one]
theorem law_mem (x : Nat) : memB (expmN 4 x pP) = true := by rw [expm_p]; exact memB_pow x
def IsPrime (p : Nat) : Prop := 1 < p ∧ ∀ d, d ∣ p → d = 1 ∨ d = p
theorem IsPrime.coprime {p a : Nat} (hp : IsPrime p) (h : ¬ p ∣ a) : Nat.Coprime p a := by
  rcases hp.2 (Nat.gcd p a) (Nat.gcd_dvd_left p a) with h1 | h1
  · exact h1
  · exact absurd (h1 ▸ Nat.gcd_dvd_right p a) h
theorem IsPrime.dvd_mul {p a b : Nat} (hp : IsPrime p) (h : p ∣ a * b) : p ∣ a ∨ p ∣ b := by
  by_cases ha : p ∣ a
  · exact Or.inl ha
  · exact Or.inr ((hp.coprime ha).dvd_of_dvd_mul_left h)
def chs : Nat → Nat → Nat
  | _, 0 => 1
  | 0, _ + 1 => 0
  | n + 1, k + 1 => chs n k + chs n (k + 1)
theorem chs_zero (n : Nat) : chs n 0 = 1 := by cases n <;> rfl
theorem chs_over : ∀ n k, n < k → chs n k = 0
  | 0, 0, h => absurd h (by omega)
  | 0, k + 1, _ => rfl
  | n + 1, 0, h => absurd h (by omega)
  | n + 1, k + 1, h => by rw [chs, chs_over n k (by omega), chs_over n (k + 1) (by omega)]
theorem chs_self : ∀ n, chs n n = 1
  | 0 => rfl
  | n + 1 => by rw [chs, chs_self n, chs_over n (n + 1) (by omega)]
theorem chs_absorb : ∀ n k, (k + 1) * chs (n + 1) (k + 1) = (n + 1) * chs n k
  | 0, 0 => rfl
  | 0, k + 1 => by rw [chs_over 1 (k + 2) (by omega), chs_over 0 (k + 1) (by omega), Nat.mul_zero, Nat.mul_zero]
  | n + 1, 0 => by
    have := chs_absorb n 0
    rw [chs_zero] at this ⊢
    rw [show chs (n + 1 + 1) (0 + 1) = chs (n + 1) 0 + chs (n + 1) (0 + 1) from rfl, chs_zero]
    omega
  | n + 1, k + 1 => by
    have h1 := chs_absorb n k
    have h2 := chs_absorb n (k + 1)
    rw [show chs (n + 1 + 1) (k + 1 + 1) = chs (n + 1) (k + 1) + chs (n + 1) (k + 1 + 1) from rfl, Nat.mul_add, h2]
    rw [show chs (n + 1) (k + 1) = chs n k + chs n (k + 1) from rfl] at h1 ⊢
    rw [show (k + 1 + 1) * (chs n k + chs n (k + 1)) = (k + 1) * (chs n k + chs n (k + 1)) + (chs n k + chs n (k + 1)) by rw [Nat.add_mul, Nat.one_mul], h1]
    rw [Nat.add_mul (n + 1) 1, Nat.mul_add, Nat.one_mul]
    omega
def sumTo (f : Nat → Nat) : Nat → Nat
  | 0 => 0
  | n + 1 => sumTo f n + f n
theorem sumTo_add (f g : Nat → Nat) : ∀ n, sumTo (fun k => f k + g k) n = sumTo f n + sumTo g n
  | 0 => rfl
  | n + 1 => by simp only [sumTo, sumTo_add f g n]; omega
theorem sumTo_mul (c : Nat) (f : Nat → Nat) : ∀ n, sumTo (fun k => c * f k) n = c * sumTo f n
  | 0 => by simp [sumTo]
  | n + 1 => by simp only [sumTo, sumTo_mul c f n, Nat.mul_add]
theorem sumTo_head (f : Nat → Nat) : ∀ n, sumTo f (n + 1) = f 0 + sumTo (fun k => f (k + 1)) n
  | 0 => by simp [sumTo]
  | n + 1 => by
    have := sumTo_head f n
    simp only [sumTo] at *
    omega
theorem sumTo_congr {f g : Nat → Nat} : ∀ n, (∀ k, k < n → f k = g k) → sumTo f n = sumTo g n
  | 0, _ => rfl
  | n + 1, h => by simp only [sumTo]; rw [sumTo_congr n (fun k hk => h k (by omega)), h n (by omega)]
theorem binom (x : Nat) : ∀ n, (x + 1) ^ n = sumTo (fun k => chs n k * x ^ k) (n + 1)
  | 0 => by simp [sumTo, chs]
  | n + 1 => by
    have ih := binom x n
    rw [sumTo_head, Nat.pow_zero, Nat.mul_one, chs_zero]
    have e1 : sumTo (fun k => chs (n + 1) (k + 1) * x ^ (k + 1)) (n + 1) = sumTo (fun k => x * (chs n k * x ^ k)) (n + 1) + sumTo (fun k => chs n (k + 1) * x ^ (k + 1)) (n + 1) := by
      rw [← sumTo_add]
      apply sumTo_congr
      intro k _
      rw [chs, Nat.add_mul, Nat.pow_succ, ← Nat.mul_assoc (chs n k), Nat.mul_comm (chs n k * x ^ k) x]
    have e2 : sumTo (fun k => chs n k * x ^ k) (n + 2) = 1 + sumTo (fun k => chs n (k + 1) * x ^ (k + 1)) (n + 1) := by
      rw [sumTo_head, Nat.pow_zero, Nat.mul_one, chs_zero]
    have e3 : sumTo (fun k => chs n k * x ^ k) (n + 2) = sumTo (fun k => chs n k * x ^ k) (n + 1) := by
      show sumTo (fun k => chs n k * x ^ k) (n + 1) + chs n (n + 1) * x ^ (n + 1) = _
      rw [chs_over n (n + 1) (by omega), Nat.zero_mul, Nat.add_zero]
    rw [e1, sumTo_mul, ← ih, Nat.pow_succ, Nat.mul_add, Nat.mul_one, Nat.mul_comm x]
    rw [e3, ← ih] at e2
    omega
theorem dvd_sumTo {m : Nat} {f : Nat → Nat} : ∀ n, (∀ k, k < n → m ∣ f k) → m ∣ sumTo f n
  | 0, _ => Nat.dvd_zero m
  | n + 1, h => Nat.dvd_add (dvd_sumTo n (fun k hk => h k (by omega))) (h n (by omega))
theorem dvd_chs {p k : Nat} (hp : IsPrime p) (h0 : 0 < k) (h1 : k < p) : p ∣ chs p k := by
  obtain ⟨n, rfl⟩ : ∃ n, p = n + 1 := ⟨p - 1, by omega⟩
  obtain ⟨j, rfl⟩ : ∃ j, k = j + 1 := ⟨k - 1, by omega⟩
  have h := chs_absorb n j
  have h2 : n + 1 ∣ (j + 1) * chs (n + 1) (j + 1) := ⟨_, h⟩
  rcases hp.dvd_mul h2 with h3 | h3
  · exact absurd (Nat.le_of_dvd (by omega) h3) (by omega)
  · exact h3
theorem dream {p : Nat} (hp : IsPrime p) (x : Nat) : (x + 1) ^ p % p = (x ^ p + 1) % p := by
  obtain ⟨n, rfl⟩ : ∃ n, p = n + 2 := ⟨p - 2, by have := hp.1; omega⟩
  rw [binom]
  show (sumTo (fun k => chs (n + 2) k * x ^ k) (n + 2) + chs (n + 2) (n + 2) * x ^ (n + 2)) % (n + 2) = _
  rw [chs_self, Nat.one_mul, sumTo_head, Nat.pow_zero, Nat.mul_one, chs_zero]
  have h : (n + 2) ∣ sumTo (fun k => chs (n + 2) (k + 1) * x ^ (k + 1)) (n + 1) := dvd_sumTo _ (fun k hk => Nat.dvd_mul_right_of_dvd (dvd_chs hp (by omega) (by omega)) _)
  obtain ⟨c, hc⟩ := h
  rw [hc, show 1 + (n + 2) * c + x ^ (n + 2) = x ^ (n + 2) + 1 + (n + 2) * c by omega, Nat.add_mul_mod_self_left]
theorem fermat {p : Nat} (hp : IsPrime p) : ∀ a, a ^ p % p = a % p
  | 0 => by rw [Nat.zero_pow (by have := hp.1; omega)]
  | a + 1 => by rw [dream hp a, Nat.add_mod, fermat hp a, ← Nat.add_mod]
theorem mod_cancel {p a x y : Nat} (hp : IsPrime p) (ha : ¬ p ∣ a) (h : a * x % p = a * y % p) (hxy : y ≤ x) : x % p = y % p := by
  have h1 := Nat.sub_mod_eq_zero_of_mod_eq h
  rw [← Nat.mul_sub] at h1
  rcases hp.dvd_mul (Nat.dvd_of_mod_eq_zero h1) with h2 | h2
  · exact absurd h2 ha
  · obtain ⟨c, hc⟩ := h2
    rw [show x = y + p * c by omega, Nat.add_mul_mod_self_left]
theorem fermat1 {p a : Nat} (hp : IsPrime p) (ha : ¬ p ∣ a) : a ^ (p - 1) % p = 1 := by
  have h1 := fermat hp a
  have ha0 : 0 < a := by
    rcases Nat.eq_zero_or_pos a with rfl | h
    · exact absurd (Nat.dvd_zero p) ha
    · exact h
  have h2 : a * a ^ (p - 1) % p = a * 1 % p := by
    rw [Nat.mul_one, ← h1, Nat.mul_comm, ← Nat.pow_succ, show (p - 1).succ = p by have := hp.1; omega]
  rw [mod_cancel hp ha h2 (Nat.pow_pos ha0), Nat.mod_eq_of_lt hp.1]
theorem pow_mod_one {d e m : Nat} (h : e ^ m % d = 1) (hd : 1 < d) (k : Nat) : e ^ (m * k) % d = 1 := by
  rw [Nat.pow_mul, Nat.pow_mod, h, Nat.one_pow, Nat.mod_eq_of_lt hd]
theorem pow_gcd {d e : Nat} (hd : 1 < d) (m n : Nat) : e ^ m % d = 1 → e ^ n % d = 1 → e ^ (Nat.gcd m n) % d = 1 := by
  induction m, n using Nat.gcd.induction with
  | H0 n => intro _ h; rw [Nat.gcd_zero_left]; exact h
  | H1 m n _ ih =>
    intro h1 h2
    rw [Nat.gcd_rec]
    apply ih _ h1
    have h3 : e ^ n % d = e ^ (n % m) % d := by
      have h4 : e ^ n = e ^ (m * (n / m)) * e ^ (n % m) := by rw [← Nat.pow_add, Nat.div_add_mod]
      rw [h4, Nat.mul_mod, pow_mod_one h1 hd, Nat.one_mul, Nat.mod_mod]
    rw [← h3]; exact h2
theorem least_div {n : Nat} (hn : 1 < n) : ∃ d, 1 < d ∧ d ∣ n ∧ IsPrime d ∧ ∀ c, 1 < c → c ∣ n → d ≤ c := by
  have key : ∀ k, (∀ c, 1 < c → c ∣ n → k ≤ c) ∨ ∃ d, 1 < d ∧ d ∣ n ∧ ∀ c, 1 < c → c ∣ n → d ≤ c := by
    intro k
    induction k with
    | zero => exact Or.inl (fun c _ _ => Nat.zero_le c)
    | succ k ih =>
      rcases ih with h | h
      · by_cases hk : 1 < k ∧ k ∣ n
        · exact Or.inr ⟨k, hk.1, hk.2, h⟩
        · left
          intro c hc hcn
          have := h c hc hcn
          rcases Nat.eq_or_lt_of_le this with rfl | h2
          · exact absurd ⟨hc, hcn⟩ hk
          · exact h2
      · exact Or.inr h
  rcases key (n + 1) with h | ⟨d, h1, h2, h3⟩
  · exact absurd (h n hn (Nat.dvd_refl n)) (by omega)
  · refine ⟨d, h1, h2, ⟨h1, fun c hc => ?_⟩, h3⟩
    by_cases hc1 : c = 1
    · exact Or.inl hc1
    · right
      have hcpos : 0 < c := Nat.pos_of_dvd_of_pos hc (by omega)
      have := h3 c (by omega) (Nat.dvd_trans hc h2)
      have := Nat.le_of_dvd (by omega) hc
      omega
theorem pocklington {n q k a : Nat} (hq : IsPrime q) (hn : n = q * k + 1) (hk : 0 < k) (hqq : n < q * q) (h1 : a ^ (n - 1) % n = 1) (h2 : Nat.gcd (a ^ k % n - 1) n = 1) : IsPrime n := by
  have hq1 := hq.1
  have hn1 : 1 < n := by rw [hn]; have : 1 * 1 ≤ q * k := Nat.mul_le_mul (by omega) hk; omega
  obtain ⟨d, d1, d2, dp, dmin⟩ := least_div hn1
  have hdn : n % d = 0 := Nat.mod_eq_zero_of_dvd d2
  have red : ∀ x, x % n % d = x % d := fun x => Nat.mod_mod_of_dvd x d2
  -- e = a ^ k: its q-th power is 1 modulo d, and it is not 1 itself
  have e1 : (a ^ k) ^ q % d = 1 := by
    rw [← Nat.pow_mul, Nat.mul_comm k q, show q * k = n - 1 by omega, ← red, h1, Nat.mod_eq_of_lt d1]
  have e2 : ¬ (a ^ k) % d = 1 := by
    intro h
    have h3 : a ^ k % n % d = 1 := by rw [red]; exact h
    have h4 : d ∣ a ^ k % n - 1 := by
      have := Nat.sub_mod_eq_zero_of_mod_eq (m := a ^ k % n) (n := 1) (k := d) (by rw [h3, Nat.mod_eq_of_lt d1])
      exact Nat.dvd_of_mod_eq_zero this
    have h5 := Nat.dvd_gcd h4 d2
    rw [h2] at h5
    have := Nat.le_of_dvd (by decide) h5
    omega
  have e3 : ¬ d ∣ a ^ k := by
    intro h
    have : (a ^ k) ^ q % d = 0 := by
      obtain ⟨c, hc⟩ := h
      rw [hc, Nat.mul_pow]
      obtain ⟨r, hr⟩ : ∃ r, q = r + 1 := ⟨q - 1, by omega⟩
      rw [hr, Nat.pow_succ, Nat.mul_assoc, Nat.mul_left_comm]
      exact Nat.mul_mod_right _ _
    rw [e1] at this; exact absurd this (by decide)
  have e4 := fermat1 dp e3
  have e5 := pow_gcd d1 q (d - 1) e1 e4
  have e6 : q ∣ d - 1 := by
    rcases hq.2 _ (Nat.gcd_dvd_left q (d - 1)) with h | h
    · rw [h, Nat.pow_one] at e5; exact absurd e5 e2
    · rw [← h]; exact Nat.gcd_dvd_right _ _
  have e7 : q < d := by have := Nat.le_of_dvd (by omega) e6; omega
  -- so n has no divisor below itself
  refine ⟨hn1, fun c hc => ?_⟩
  by_cases hc1 : c = 1
  · exact Or.inl hc1
  · right
    obtain ⟨m, hm⟩ := hc
    have hcpos : 0 < c := by
      rcases Nat.eq_zero_or_pos c with rfl | h
      · rw [Nat.zero_mul] at hm; omega
      · exact h
    have hcd := dmin c (by omega) ⟨m, hm⟩
    by_cases hm1 : m = 1
    · rw [hm, hm1, Nat.mul_one]
    · exfalso
      have hmpos : 0 < m := by
        rcases Nat.eq_zero_or_pos m with rfl | h
        · rw [Nat.mul_zero] at hm; omega
        · exact h
      have hmd := dmin m (by omega) ⟨c, by rw [hm, Nat.mul_comm]⟩
      have : q * q ≤ c * m := Nat.mul_le_mul (by omega) (by omega)
      omega
def noDiv (n : Nat) : Nat → Bool
  | 0 => true
  | k + 1 => (decide (k < 2) || n % k != 0) && noDiv n k
theorem noDiv_spec {n : Nat} : ∀ k, noDiv n k = true → ∀ c, 1 < c → c < k → ¬ c ∣ n
  | 0, _, _, _, h => absurd h (by omega)
  | k + 1, h, c, h1, h2 => by
    rw [noDiv, Bool.and_eq_true] at h
    by_cases hk : c = k
    · subst hk
      intro hd
      have := h.1
      rw [Nat.mod_eq_zero_of_dvd hd] at this
      simp at this; omega
    · exact noDiv_spec k h.2 c h1 (by omega)
theorem prime_trial {n k : Nat} (hn : 1 < n) (h : noDiv n k = true) (hk : n < k * k) : IsPrime n := by
  refine ⟨hn, fun c hc => ?_⟩
  by_cases hc1 : c = 1
  · exact Or.inl hc1
  · right
    obtain ⟨m, hm⟩ := hc
    have hcpos : 0 < c := by
      rcases Nat.eq_zero_or_pos c with rfl | h
      · rw [Nat.zero_mul] at hm; omega
      · exact h
    have hck : k ≤ c := Nat.le_of_not_lt (fun hlt => noDiv_spec k h c (by omega) hlt ⟨m, hm⟩)
    by_cases hm1 : m = 1
    · rw [hm, hm1, Nat.mul_one]
    · exfalso
      have hmpos : 0 < m := by
        rcases Nat.eq_zero_or_pos m with rfl | h
        · rw [Nat.mul_zero] at hm; omega
        · exact h
      have hmk : k ≤ m := Nat.le_of_not_lt (fun hlt => noDiv_spec k h m (by omega) hlt ⟨c, by rw [hm, Nat.mul_comm]⟩)
      have : k * k ≤ c * m := Nat.mul_le_mul hck hmk
      omega
theorem pock {n q k a f : Nat} (hq : IsPrime q) (hn : n = q * k + 1) (hk : 0 < k) (hqq : n < q * q) (hf : n < 2 ^ f) (h1 : powm n f a (n - 1) = 1) (h2 : Nat.gcd (powm n f a k - 1) n = 1) : IsPrime n := by
  have hq1 := hq.1
  have hkn : k < n := by
    have h3 : 1 * k ≤ q * k := Nat.mul_le_mul_right _ (by omega)
    omega
  refine pocklington hq hn hk hqq (a := a) ?_ ?_
  · rw [← powm_eq n f a (n - 1) (by omega)]; exact h1
  · rw [← powm_eq n f a k (by omega)]; exact h2
theorem prime_w : IsPrime 213319 := prime_trial (k := 500) (by decide) (by decide +kernel) (by decide)
theorem prime_v : IsPrime 2155375177 := pock (q := 213319) (k := 10104) (a := 2) (f := 32) prime_w (by decide +kernel) (by decide +kernel) (by decide +kernel) (by decide +kernel) (by decide +kernel) (by decide +kernel)
theorem prime_u : IsPrime 59483944987587859 := pock (q := 2155375177) (k := 27597954) (a := 2) (f := 56) prime_v (by decide +kernel) (by decide +kernel) (by decide +kernel) (by decide +kernel) (by decide +kernel) (by decide +kernel)
theorem prime_t : IsPrime 1202684276868524221513588244947 := pock (q := 59483944987587859) (k := 20218636761894) (a := 2) (f := 100) prime_u (by decide +kernel) (by decide +kernel) (by decide +kernel) (by decide +kernel) (by decide +kernel) (by decide +kernel)
theorem prime_s : IsPrime 3201964079152361724098258636758155557 := pock (q := 1202684276868524221513588244947) (k := 2662348) (a := 2) (f := 122) prime_t (by decide +kernel) (by decide +kernel) (by decide +kernel) (by decide +kernel) (by decide +kernel) (by decide +kernel)
theorem prime_r : IsPrime 2848630210554880446022254608450222949126931851754251657020267 := pock (q := 3201964079152361724098258636758155557) (k := 889650895555637400306338) (a := 2) (f := 201) prime_s (by decide +kernel) (by decide +kernel) (by decide +kernel) (by decide +kernel) (by decide +kernel) (by decide +kernel)
theorem prime_q : IsPrime 57896044618658097711785492504343953926634992332820282019728792003956564801911 := pock (q := 2848630210554880446022254608450222949126931851754251657020267) (k := 20324169983221730) (a := 2) (f := 255) prime_r (by decide +kernel) (by decide +kernel) (by decide +kernel) (by decide +kernel) (by decide +kernel) (by decide +kernel)
def tgN : List UInt8 := [108, 105, 103, 104, 116, 99, 108, 105, 101, 110, 116, 47, 110, 111, 110, 99, 101]
def tgC : List UInt8 := [108, 105, 103, 104, 116, 99, 108, 105, 101, 110, 116, 47, 99, 104, 97, 108, 108, 101, 110, 103, 101]
def scB (a : Nat) : Bool := decide (a < qP)
def secB (x : Nat) : Bool := decide (x ≠ 0 ∧ x < qP)
def pubV (x : Nat) : Nat := if secB x = true then expmN 4 x pP else 0
def pubE (x : Nat) : Int := if secB x = true then 0 else 60
def valB (p : Nat) : Bool := decide (p ≠ 1) && memB p
def nonN (x m : Nat) : Nat := if addmN (tagN tgN (hL x ++ hL m)) 0 qP = 0 then 1 else addmN (tagN tgN (hL x ++ hL m)) 0 qP
def chaN (r p m : Nat) : Nat := addmN (tagN tgC ((hL r ++ hL p) ++ hL m)) 0 qP
def sigE (x m : Nat) : Nat := if secB x = true then chaN (expmN 4 (nonN x m) pP) (expmN 4 x pP) m else 0
def sigS (x m : Nat) : Nat := if secB x = true then addmN (nonN x m) (mulmN (chaN (expmN 4 (nonN x m) pP) (expmN 4 x pP) m) x qP) qP else 0
def recN (p E S : Nat) : Nat := mulmN (expmN 4 S pP) (expmN p (qP - E) pP) pP
def verB (p m E S : Nat) : Bool := scB E && (scB S && (valB p && decide (E = chaN (recN p E S) p m)))
def twO (p t : Nat) : Nat := mulmN p (expmN 4 (addmN t 0 qP) pP) pP
def twV (p t : Nat) : Nat := if valB p = true then (if twO p t = 1 then 0 else twO p t) else 0
def twE (p t : Nat) : Int := if valB p = true then (if twO p t = 1 then 5 else 0) else 60
def tsO (x t : Nat) : Nat := addmN x (addmN t 0 qP) qP
def tsV (x t : Nat) : Nat := if secB x = true then (if tsO x t = 0 then 0 else tsO x t) else 0
def tsE (x t : Nat) : Int := if secB x = true then (if tsO x t = 0 then 5 else 0) else 60
theorem addm_q (a b : Nat) : addmN a b qP = (a + b) % qP := by unfold addmN; rw [if_neg (by have := qP_pos; omega)]
theorem mulm_q (a b : Nat) : mulmN a b qP = a * b % qP := by unfold mulmN; rw [if_neg (by have := qP_pos; omega)]
theorem addq_lt (a b : Nat) : addmN a b qP < qP := by rw [addm_q]; exact Nat.mod_lt _ (by have := qP_pos; omega)
theorem zeroM : 0 < M := by rw [M_eq]; decide
theorem ifM {c : Prop} [Decidable c] {a b : Nat} (ha : a < M) (hb : b < M) : (if c then a else b) < M := by split <;> assumption
theorem pubV_lt (x : Nat) : pubV x < M := ifM (expmN_lt _ _ pP_lt) zeroM
theorem twV_lt (p t : Nat) : twV p t < M := ifM (ifM zeroM (mulmN_lt _ _ pP_lt)) zeroM
theorem tsV_lt (x t : Nat) : tsV x t < M := ifM (ifM zeroM (addmN_lt _ _ qP_lt)) zeroM
theorem sc_dec (a : Nat) : decide (cmpN a qP < 0) = scB a := by
  unfold scB cmpN
  by_cases h : a < qP
  · rw [if_pos h, decide_eq_true h]; rfl
  · rw [if_neg h, decide_eq_false h]; split <;> rfl
theorem sec_0 {x : Nat} (h : decide (x = 0) = true) : false = secB x := by
  unfold secB; rw [decide_eq_false]; exact fun hh => hh.1 (of_decide_eq_true h)
theorem sec_1 {x : Nat} (h : decide (x = 0) = false) : scB x = secB x := by
  unfold secB scB
  rw [decide_eq_decide]
  exact ⟨fun hx => ⟨of_decide_eq_false h, hx⟩, fun hx => hx.2⟩
theorem pub_no {x : Nat} (h : secB x = false) : pubV x = 0 ∧ pubE x = 60 := by unfold pubV pubE; rw [h]; exact ⟨rfl, rfl⟩
theorem pub_yes {x : Nat} (h : secB x = true) : pubV x = expmN 4 x pP ∧ pubE x = 0 := by unfold pubV pubE; rw [if_pos h, if_pos h]; exact ⟨rfl, rfl⟩
theorem val_0 {p : Nat} (h : decide (p = 1) = true) : false = valB p := by unfold valB; rw [of_decide_eq_true h]; rfl
theorem val_1 {p : Nat} (h : decide (p = 1) = false) : memB p = valB p := by
  unfold valB; rw [decide_eq_true (of_decide_eq_false h), Bool.true_and]
theorem sig_yes {x m : Nat} (h : secB x = true) : sigE x m = chaN (expmN 4 (nonN x m) pP) (pubV x) m ∧ sigS x m = addmN (nonN x m) (mulmN (chaN (expmN 4 (nonN x m) pP) (pubV x) m) x qP) qP := by
  unfold sigE sigS
  rw [if_pos h, if_pos h, (pub_yes h).1]; exact ⟨rfl, rfl⟩
theorem tw_a {p t : Nat} (h : valB p = false) : twV p t = 0 ∧ twE p t = 60 := by unfold twV twE; rw [h]; exact ⟨rfl, rfl⟩
theorem tw_b {p t : Nat} (h : valB p = true) (h1 : twO p t = 1) : twV p t = 0 ∧ twE p t = 5 := by unfold twV twE; rw [if_pos h, if_pos h, if_pos h1, if_pos h1]; exact ⟨rfl, rfl⟩
theorem tw_c {p t : Nat} (h : valB p = true) (h1 : twO p t ≠ 1) : twV p t = twO p t ∧ twE p t = 0 := by unfold twV twE; rw [if_pos h, if_pos h, if_neg h1, if_neg h1]; exact ⟨rfl, rfl⟩
theorem ts_a {x t : Nat} (h : secB x = false) : tsV x t = 0 ∧ tsE x t = 60 := by unfold tsV tsE; rw [h]; exact ⟨rfl, rfl⟩
theorem ts_b {x t : Nat} (h : secB x = true) (h1 : tsO x t = 0) : tsV x t = 0 ∧ tsE x t = 5 := by unfold tsV tsE; rw [if_pos h, if_pos h, if_pos h1, if_pos h1]; exact ⟨rfl, rfl⟩
theorem ts_c {x t : Nat} (h : secB x = true) (h1 : tsO x t ≠ 0) : tsV x t = tsO x t ∧ tsE x t = 0 := by unfold tsV tsE; rw [if_pos h, if_pos h, if_neg h1, if_neg h1]; exact ⟨rfl, rfl⟩
theorem qP_prime : IsPrime qP := prime_q
theorem pow_not_one {x : Nat} (h0 : x ≠ 0) (h : x < qP) : 4 ^ x % pP ≠ 1 := by
  intro h1
  have hg := pow_gcd (d := pP) (e := 4) pP_pos x qP h1 four_q
  have hc : Nat.gcd x qP = 1 := by
    have := qP_prime.coprime (a := x) (fun hd => absurd (Nat.le_of_dvd (by omega) hd) (by omega))
    rw [Nat.gcd_comm]; exact this
  rw [hc] at hg
  exact absurd hg (by unfold pP; decide)
theorem sec_lt {x : Nat} (h : secB x = true) : x ≠ 0 ∧ x < qP := of_decide_eq_true h
theorem val_pub {x : Nat} (h : secB x = true) : valB (expmN 4 x pP) = true := by
  have hx := sec_lt h
  unfold valB
  rw [law_mem, Bool.and_true, expm_p]
  exact decide_eq_true (pow_not_one hx.1 hx.2)
theorem cha_q (r p m : Nat) : chaN r p m < qP := addq_lt _ _
theorem sc_cha (r p m : Nat) : scB (chaN r p m) = true := decide_eq_true (addq_lt _ _)
theorem rec_pow (x E S : Nat) : recN (expmN 4 x pP) E S = 4 ^ (S + x * (qP - E)) % pP := by
  unfold recN
  rw [mulm_p, expm_p, expm_p, expm_p, ← Nat.pow_mod, ← Nat.pow_mul, ← Nat.mul_mod, ← Nat.pow_add]
theorem rec_sig {x k e : Nat} (he : e < qP) : recN (expmN 4 x pP) e (addmN k (mulmN e x qP) qP) = expmN 4 k pP := by
  rw [rec_pow, expm_p, ← pow_red (_ + _), ← pow_red k, addm_q, mulm_q]
  congr 2
  have h : e * x + x * (qP - e) = x * qP := by
    rw [Nat.mul_comm e x, ← Nat.mul_add, show e + (qP - e) = qP by omega]
  have : ((k + e * x % qP) % qP + x * (qP - e)) % qP = (k + (e * x + x * (qP - e))) % qP := by
    rw [Nat.add_mod, Nat.mod_mod, ← Nat.add_mod, Nat.add_assoc, Nat.add_mod k, Nat.add_mod (e * x % qP), Nat.mod_mod, ← Nat.add_mod (e * x), ← Nat.add_mod]
  rw [this, h, Nat.add_mul_mod_self_right]
theorem right {x m : Nat} (h : secB x = true) : verB (pubV x) m (sigE x m) (sigS x m) = true := by
  have hs := sig_yes (m := m) h
  unfold verB
  rw [hs.1, hs.2, (pub_yes h).1, sc_cha, val_pub h, rec_sig (cha_q _ _ _)]
  have : scB (addmN (nonN x m) (mulmN (chaN (expmN 4 (nonN x m) pP) (expmN 4 x pP) m) x qP) qP) = true := decide_eq_true (addq_lt _ _)
  rw [this, decide_eq_true rfl]; rfl
theorem tsO_lt (x t : Nat) : tsO x t < qP := addq_lt _ _
theorem sec_ts {x t : Nat} (h : tsO x t ≠ 0) : secB (tsO x t) = true := decide_eq_true ⟨h, tsO_lt x t⟩
theorem tw_pow (x t : Nat) : twO (expmN 4 x pP) t = expmN 4 (tsO x t) pP := by
  unfold twO tsO
  rw [mulm_p, expm_p, expm_p, expm_p, addm_q x, ← pow_red (_ % _), Nat.mod_mod, pow_red, Nat.pow_add, ← Nat.mul_mod]
theorem tw_one {x t : Nat} (h : tsO x t = 0) : twO (expmN 4 x pP) t = 1 := by
  rw [tw_pow, h, expm_p, Nat.pow_zero]; exact Nat.mod_eq_of_lt pP_pos
theorem tw_not {x t : Nat} (h : tsO x t ≠ 0) : twO (expmN 4 x pP) t ≠ 1 := by
  rw [tw_pow, expm_p]; exact pow_not_one h (tsO_lt x t)
theorem tsE_ok {x t : Nat} (h : (tsE x t != 0) = false) : secB x = true ∧ tsO x t ≠ 0 := by
  have h0 : tsE x t = 0 := by simpa using h
  cases e : secB x
  · rw [(ts_a e).2] at h0; exact absurd h0 (by decide)
  · refine ⟨rfl, fun ho => ?_⟩
    rw [(ts_b e ho).2] at h0; exact absurd h0 (by decide)
theorem both {x t : Nat} (h : secB x = true) (ho : tsO x t ≠ 0) : twE (pubV x) t = 0 ∧ twV (pubV x) t = pubV (tsV x t) ∧ pubE (tsV x t) = 0 ∧ secB (tsV x t) = true := by
  have hv := val_pub h
  have ht := tw_c hv (tw_not (x := x) (t := t) ho)
  rw [(pub_yes h).1, ht.1, ht.2, (ts_c h ho).1, (pub_yes (sec_ts ho)).1, (pub_yes (sec_ts ho)).2, sec_ts ho, tw_pow]
  exact ⟨rfl, rfl, rfl, rfl⟩
theorem both0 {x t : Nat} (h : secB x = true) (ho : tsO x t = 0) : twE (pubV x) t = tsE x t := by
  rw [(pub_yes h).1, (tw_b (val_pub h) (tw_one ho)).2, (ts_b h ho).2]
def leB (n : Nat) : Nat → List UInt8
  | 0 => []
  | w + 1 => leB n w ++ [ob ((n / 256 ^ w % 256 : Nat) : Int)]
theorem leB_length (n w : Nat) : (leB n w).length = w := by
  induction w with
  | zero => rfl
  | succ w ih => simp [leB, ih]
def fillC (n w i : Nat) : Array Value := (bs (leB n i ++ List.replicate (w - i) 0)).toArray
theorem fill_size {n w i : Nat} (h : i ≤ w) : (fillC n w i).size = w := by
  simp [fillC, bs, leB_length]
  omega
theorem fill_set {n w i : Nat} (h : i < w) : (fillC n w i).setIfInBounds i (.int .u8 ((n / 256 ^ i % 256 : Nat) : Int)) = fillC n w (i + 1) := by
  have hb : bv (ob ((n / 256 ^ i % 256 : Nat) : Int)) = .int .u8 ((n / 256 ^ i % 256 : Nat) : Int) := bv_ob ⟨by omega, by omega⟩
  apply Array.ext'
  unfold fillC
  simp only [Array.toList_setIfInBounds]
  obtain ⟨m, hm⟩ : ∃ m, w - i = m + 1 := ⟨w - i - 1, by omega⟩
  rw [hm, show w - (i + 1) = m by omega, ← hb]
  rw [bs_app, leB, bs_app, bs_app]
  have hl : (bs (leB n i)).length = i := by rw [bs_length, leB_length]
  rw [List.set_append_right _ _ (by omega), hl, Nat.sub_self]
  simp [bs, List.replicate_succ]
def leN (xs : List UInt8) (a : Nat) : Nat → Nat
  | 0 => 0
  | i + 1 => leN xs a i + gB xs (a + i) * 256 ^ i
def rdE (n : Nat) (a : Int) (w : Nat) : Int := if a < 0 ∨ (n : Int) < a then 5 else if (n : Int) - a < (w : Int) then 1 else 0
def rdV (xs : List UInt8) (a : Int) (w : Nat) : Nat := if rdE xs.length a w = 0 then leN xs a.toNat w else 0
def szLeast (m : Nat) : Nat := if m = 253 then 253 else if m = 254 then 65536 else 4294967296
def tgS : List UInt8 := [108, 105, 103, 104, 116, 99, 108, 105, 101, 110, 116, 47, 115, 111, 102, 116]
def tgH : List UInt8 := [108, 105, 103, 104, 116, 99, 108, 105, 101, 110, 116, 47, 104, 97, 114, 100]
def tgM : List UInt8 := [108, 105, 103, 104, 116, 99, 108, 105, 101, 110, 116, 47, 109, 97, 115, 116, 101, 114]
def tgI : List UInt8 := [108, 105, 103, 104, 116, 99, 108, 105, 101, 110, 116, 47, 99, 104, 97, 105, 110]
structure Ky.Ok (k : Ky) : Prop where
  s : k.s < M
  p : k.p < M
  c : k.c < M
  i : k.i < 4294967296
  n : k.n < 4294967296
def Ky.z : Ky := ⟨0, 0, 0, 0, 0, 0⟩
theorem Ky.z_ok : Ky.z.Ok := ⟨zeroM, zeroM, zeroM, by decide, by decide⟩
def Ky.neu (k : Ky) : Ky := { k with s := 0 }
theorem Ky.neu_ok {k : Ky} (h : k.Ok) : k.neu.Ok := ⟨zeroM, h.p, h.c, h.i, h.n⟩
def hdB (i : Nat) : Bool := decide (2147483648 ≤ i)
def sndB (k : Ky) : Bool := decide (0 ≤ k.d) && (decide (k.d ≤ 8) && (valB k.p && (decide (k.s = 0) || (decide (pubE k.s = 0) && decide (pubV k.s = k.p)))))
def bN (D j : Nat) : Nat := D / 256 ^ (31 - j) % 256
theorem byt_bN (D j : Nat) : byt D j = ((bN D j : Nat) : Int) := rfl
def hiN (D : Nat) : Nat → Nat
  | 0 => 0
  | j + 1 => hiN D j * 256 + bN D j
def prN (p : Nat) : Nat := hiN (shaN (hL p)) 4
theorem bN_lt (D j : Nat) : bN D j < 256 := Nat.mod_lt _ (by decide)
theorem hiN_lt (D : Nat) : ∀ j, hiN D j < 256 ^ j
  | 0 => by simp [hiN]
  | j + 1 => by
    have := hiN_lt D j
    have := bN_lt D j
    rw [hiN, Nat.pow_succ]
    omega
theorem prN_lt (p : Nat) : prN p < 4294967296 := hiN_lt _ 4
def twk (k : Ky) (i : Nat) : Nat := if hdB i = true then tagN tgH ((hL k.c ++ hL k.s) ++ leB i 4) else tagN tgS ((hL k.c ++ hL k.p) ++ leB i 4)
theorem twk_lt (k : Ky) (i : Nat) : twk k i < M := ifM (tagN_lt _ _) (tagN_lt _ _)
def xB (v : UInt8) (K : Nat) : List UInt8 := (hL K ++ List.replicate 32 0).map (· ^^^ v)
def hmN (K : Nat) (B : List UInt8) : Nat := shaN (xB 92 K ++ hL (shaN (xB 54 K ++ B)))
theorem hmN_lt (K : Nat) (B : List UInt8) : hmN K B < M := shaN_lt _
def stE (k : Ky) (i : Nat) : Int :=
  if k.d = 8 then 4 else if hdB i = true ∧ k.s = 0 then 250 else if k.s = 0 then twE k.p (twk k i) else tsE k.s (twk k i)
def chE (k : Ky) (i : Nat) : Int := if sndB k = true then stE k i else 6
def stK (k : Ky) (i : Nat) : Ky :=
  if stE k i = 0 then { s := if k.s = 0 then 0 else tsV k.s (twk k i), p := if k.s = 0 then twV k.p (twk k i) else pubV (tsV k.s (twk k i)), c := hmN k.c (hL (twk k i)), d := k.d + 1, i := i, n := prN k.p } else Ky.z
def chK (k : Ky) (i : Nat) : Ky := if sndB k = true then stK k i else Ky.z
theorem stK_ok (k : Ky) (i : Nat) (hi : i < 4294967296) : (stK k i).Ok := by
  unfold stK
  split
  · exact ⟨ifM zeroM (tsV_lt _ _), ifM (twV_lt _ _) (pubV_lt _), hmN_lt _ _, hi, prN_lt _⟩
  · exact Ky.z_ok
theorem chK_ok (k : Ky) (i : Nat) (hi : i < 4294967296) : (chK k i).Ok := by
  unfold chK
  split
  · exact stK_ok k i hi
  · exact Ky.z_ok
theorem snd_get {k : Ky} (h : sndB k = true) : 0 ≤ k.d ∧ k.d ≤ 8 ∧ valB k.p = true ∧ (k.s = 0 ∨ (secB k.s = true ∧ pubV k.s = k.p)) := by
  unfold sndB at h
  simp only [Bool.and_eq_true, Bool.or_eq_true, decide_eq_true_eq] at h
  refine ⟨h.1, h.2.1, h.2.2.1, h.2.2.2.imp id (fun q => ⟨?_, q.2⟩)⟩
  cases e : secB k.s
  · have := q.1; rw [(pub_no e).2] at this; exact absurd this (by decide)
  · rfl
theorem snd_mk {k : Ky} (h0 : 0 ≤ k.d) (h8 : k.d ≤ 8) (hv : valB k.p = true) (hs : k.s = 0 ∨ (secB k.s = true ∧ pubV k.s = k.p)) : sndB k = true := by
  unfold sndB
  rw [decide_eq_true h0, decide_eq_true h8, hv]
  rcases hs with hs | ⟨hs, hp⟩
  · rw [decide_eq_true hs]; rfl
  · rw [decide_eq_true hp, decide_eq_true (pub_yes hs).2, Bool.and_self, Bool.or_true]; rfl
theorem mem_mul {a b : Nat} (ha : memB a = true) (hb : memB b = true) : memB (mulmN a b pP) = true := by
  unfold memB at ha hb ⊢
  have ha := of_decide_eq_true ha
  have hb := of_decide_eq_true hb
  have hpp := pP_pos
  have e : mulmN a b pP = a * b % pP := by unfold mulmN; rw [if_neg (by omega)]
  rw [e]
  have h1 : (a * b % pP) ^ qP % pP = 1 := by
    rw [← Nat.pow_mod, Nat.mul_pow, Nat.mul_mod, ha.2.2, hb.2.2]
    exact Nat.mod_eq_of_lt hpp
  apply decide_eq_true
  refine ⟨?_, Nat.mod_lt _ (by omega), h1⟩
  intro h0
  rw [h0, Nat.zero_pow (by have := qP_pos; omega)] at h1
  simp at h1
theorem val_tw {p t : Nat} (hp : valB p = true) (h1 : twO p t ≠ 1) : valB (twO p t) = true := by
  unfold valB at hp ⊢
  rw [Bool.and_eq_true] at hp
  rw [decide_eq_true h1, Bool.true_and]
  unfold twO
  exact mem_mul hp.2 (law_mem _)
theorem st_snd {k : Ky} {i : Nat} (h : sndB k = true) (h0 : stE k i = 0) : sndB (stK k i) = true := by
  obtain ⟨g0, g8, gv, gs⟩ := snd_get h
  have hE := h0
  unfold stK
  rw [if_pos h0]
  unfold stE at h0
  split at h0
  · exact absurd h0 (by decide)
  · rename_i hd
    split at h0
    · exact absurd h0 (by decide)
    · split at h0
      · rename_i hs
        have hne : twO k.p (twk k i) ≠ 1 := by
          intro e; rw [(tw_b gv e).2] at h0; exact absurd h0 (by decide)
        refine snd_mk (by show 0 ≤ k.d + 1; omega) (by show k.d + 1 ≤ 8; omega) ?_ (Or.inl ?_)
        · show valB (if k.s = 0 then twV k.p (twk k i) else _) = true
          rw [if_pos hs, (tw_c gv hne).1]; exact val_tw gv hne
        · show (if k.s = 0 then 0 else _) = 0
          rw [if_pos hs]
      · rename_i hs
        have ho := tsE_ok (x := k.s) (t := twk k i) (by rw [h0]; rfl)
        have hb := both ho.1 ho.2
        refine snd_mk (by show 0 ≤ k.d + 1; omega) (by show k.d + 1 ≤ 8; omega) ?_ (Or.inr ⟨?_, ?_⟩)
        · show valB (if k.s = 0 then _ else pubV (tsV k.s (twk k i))) = true
          rw [if_neg hs, (pub_yes hb.2.2.2).1]; exact val_pub hb.2.2.2
        · show secB (if k.s = 0 then 0 else tsV k.s (twk k i)) = true
          rw [if_neg hs]; exact hb.2.2.2
        · show pubV (if k.s = 0 then 0 else tsV k.s (twk k i)) = (if k.s = 0 then _ else pubV (tsV k.s (twk k i)))
          rw [if_neg hs, if_neg hs]
def dvE (k : Ky) : List Nat → Int
  | [] => 0
  | i :: r => if stE k i = 0 then dvE (stK k i) r else stE k i
def dvK (k : Ky) : List Nat → Ky
  | [] => k
  | i :: r => if stE k i = 0 then dvK (stK k i) r else Ky.z
def drE (k : Ky) (l : List Nat) : Int := if sndB k = true then dvE k l else 6
def drK (k : Ky) (l : List Nat) : Ky := if sndB k = true then dvK k l else Ky.z
theorem dvK_ok {k : Ky} (hk : k.Ok) {p : List Nat} (hp : ∀ i ∈ p, i < 4294967296) : (dvK k p).Ok := by
  induction p generalizing k with
  | nil => exact hk
  | cons i r ih =>
    simp only [dvK]
    split
    · exact ih (stK_ok k i (hp i List.mem_cons_self)) (fun j hj => hp j (List.mem_cons_of_mem _ hj))
    · exact Ky.z_ok
theorem drK_ok {k : Ky} (hk : k.Ok) {p : List Nat} (hp : ∀ i ∈ p, i < 4294967296) : (drK k p).Ok := by
  unfold drK
  split
  · exact dvK_ok hk hp
  · exact Ky.z_ok
theorem neu_snd {k : Ky} (h : sndB k = true) : sndB k.neu = true := by
  obtain ⟨g0, g8, gv, _⟩ := snd_get h
  exact snd_mk g0 g8 gv (Or.inl rfl)
theorem st_neu {k : Ky} {i : Nat} (h : sndB k = true) (hs : k.s ≠ 0) (hi : hdB i = false) : stE k.neu i = stE k i ∧ (stE k i = 0 → stK k.neu i = (stK k i).neu ∧ (stK k i).s ≠ 0) := by
  obtain ⟨g0, g8, gv, gs⟩ := snd_get h
  obtain ⟨hx, hp⟩ : secB k.s = true ∧ pubV k.s = k.p := gs.resolve_left hs
  have ht : twk k.neu i = twk k i := by unfold twk; simp only [hi, Ky.neu, Bool.false_eq_true, if_false]
  have hE : stE k.neu i = stE k i := by
    unfold stE
    rw [ht, show k.neu.d = k.d from rfl, show k.neu.s = 0 from rfl, show k.neu.p = k.p from rfl]
    by_cases hd : k.d = 8
    · simp only [hd, if_true]
    · simp only [hd, hi, hs, if_true, if_false, false_and, Bool.false_eq_true]
      by_cases ho : tsO k.s (twk k i) = 0
      · rw [← hp]; exact both0 hx ho
      · rw [← hp, (both hx ho).1, (ts_c hx ho).2]
  refine ⟨hE, fun h0 => ?_⟩
  have h1 : tsE k.s (twk k i) = 0 := by
    have h0' := h0
    unfold stE at h0'
    split at h0'
    · exact absurd h0' (by decide)
    · split at h0'
      · exact absurd h0' (by decide)
      · exact h0'
  have ho := tsE_ok (x := k.s) (t := twk k i) (by rw [h1]; rfl)
  have hb := both ho.1 ho.2
  constructor
  · unfold stK
    rw [hE, if_pos h0, if_pos h0, ht, show k.neu.d = k.d from rfl, show k.neu.s = 0 from rfl, show k.neu.p = k.p from rfl, show k.neu.c = k.c from rfl]
    simp only [hs, if_true, if_false, Ky.neu, ← hb.2.1, hp]
  · unfold stK
    rw [if_pos h0]
    show (if k.s = 0 then 0 else tsV k.s (twk k i)) ≠ 0
    rw [if_neg hs]
    exact (sec_lt hb.2.2.2).1
theorem dv_neu {k : Ky} {p : List Nat} (h : sndB k = true) (hs : k.s ≠ 0) (hp : ∀ i ∈ p, hdB i = false) : dvE k.neu p = dvE k p ∧ (dvE k p = 0 → dvK k.neu p = (dvK k p).neu ∧ (dvK k p).s ≠ 0) := by
  induction p generalizing k with
  | nil => exact ⟨rfl, fun _ => ⟨rfl, hs⟩⟩
  | cons i r ih =>
    have h1 := st_neu (i := i) h hs (hp i List.mem_cons_self)
    simp only [dvE, dvK]
    rw [h1.1]
    by_cases e : stE k i = 0
    · have h2 := h1.2 e
      rw [if_pos e, if_pos e, if_pos e, if_pos e, h2.1]
      exact ih (st_snd h e) h2.2 (fun j hj => hp j (List.mem_cons_of_mem _ hj))
    · rw [if_neg e, if_neg e, if_neg e, if_neg e]
      exact ⟨rfl, fun h => absurd h e⟩
theorem low_byte (n i : Nat) : IntKind.u8.wrap ((n / 2 ^ (8 * i) : Nat) : Int) = ((n / 256 ^ i % 256 : Nat) : Int) := by
  rw [wrapU rfl, show (256 : Nat) ^ i = 2 ^ (8 * i) by rw [show (256 : Nat) = 2 ^ 8 from rfl, ← Nat.pow_mul]]
  rfl
theorem fill_end {n m i : Nat} (h : i = m) : leB n i ++ List.replicate (m - i) 0 = leB n m := by
  subst h; simp
theorem fill_len {n m i : Nat} (h : i ≤ m) : (leB n i ++ List.replicate (m - i) 0).length = m := by
  rw [List.length_append, leB_length, List.length_replicate]; omega
section
variable {B : List UInt8} {z : Int} {q m w l : Nat} {e : Int} (h : rdE B.length z 1 = 0) (hm : rdV B z 1 = m) (h3 : 253 ≤ m) (hw : 2 ^ (m - 252) = w) (hl : szLeast m = l)
include h hm h3 hw
include hl
end
def enE (n : Nat) (z : Int) : Int := if z < 0 ∨ (n : Int) < z then 5 else if z < (n : Int) then 2 else 0
theorem en0 {n : Nat} {z : Int} (h : ¬ (z < 0 ∨ (n : Int) < z)) (h1 : ¬ z < (n : Int)) : enE n z = 0 := by rw [enE, if_neg h, if_neg h1]
theorem bits_xorU {k : IntKind} (hk : k.signed = false) {a b : Nat} (ha : a < 2 ^ k.bits) (hb : b < 2 ^ k.bits) : bits .xor k (a : Int) (b : Int) = ((a ^^^ b : Nat) : Int) := by
  have e : ∀ n : Nat, n < 2 ^ k.bits → (BitVec.ofInt k.bits (n : Int)).toNat = n := by
    intro n hn
    rw [BitVec.toNat_ofInt]
    rw [show ((2 ^ k.bits : Nat) : Int) = ((2 ^ k.bits : Nat) : Int) from rfl, ← Int.natCast_emod, Int.toNat_natCast, Nat.mod_eq_of_lt hn]
  unfold bits
  simp only []
  rw [BitVec.toNat_xor, e a ha, e b hb, wrapU_in hk (Nat.xor_lt_two_pow ha hb)]
theorem xor32 {a b : Nat} (ha : a < 4294967296) (hb : b < 4294967296) : bits .xor .u32 (a : Int) (b : Int) = ((a ^^^ b : Nat) : Int) := bits_xorU rfl ha hb
theorem and32 {a b : Nat} (ha : a < 4294967296) (hb : b < 4294967296) : bits .and .u32 (a : Int) (b : Int) = ((a &&& b : Nat) : Int) := bits_andU rfl ha hb
theorem not_xor32 {a : Nat} (ha : a < 4294967296) : bits .xor .u32 4294967295 (a : Int) = ((not32 a : Nat) : Int) := by
  refine (bits_xorU (k := .u32) rfl (a := 4294967295) (b := a) (by decide) ha).trans ?_
  congr 1
  unfold not32
  have h : (4294967295 - BitVec.ofNat 32 a).toNat = (BitVec.ofNat 32 a ^^^ 4294967295).toNat := by
    have h2 : BitVec.ofNat 32 a ^^^ 4294967295 = ~~~ (BitVec.ofNat 32 a) := by
      rw [show (4294967295 : BitVec 32) = BitVec.allOnes 32 from rfl, BitVec.xor_allOnes]
    rw [h2, BitVec.toNat_not, BitVec.toNat_sub]
    have h3 : (BitVec.ofNat 32 a).toNat = a := by simp [Nat.mod_eq_of_lt ha]
    rw [h3]
    show (2 ^ 32 - a + 4294967295) % 2 ^ 32 = 2 ^ 32 - 1 - a
    omega
  have h3 : (BitVec.ofNat 32 a).toNat = a := by simp [Nat.mod_eq_of_lt ha]
  rw [BitVec.toNat_xor, BitVec.toNat_sub, h3] at h
  have h4 : (4294967295 : BitVec 32).toNat = 4294967295 := rfl
  rw [h4] at h
  rw [Nat.xor_comm, ← h]
  show (2 ^ 32 - a + 4294967295) % 2 ^ 32 = 4294967295 - a
  omega
theorem wrap_add32 (x y : Nat) : IntKind.u32.wrap ((x : Int) + (y : Int)) = ((add32 x y : Nat) : Int) := by
  rw [← Int.natCast_add]; exact u32M (x + y)
theorem u64_neg {n : Nat} (h0 : 0 < n) (h : n < 32) : IntKind.u64.wrap (0 - (n : Int)) = ((18446744073709551616 - n : Nat) : Int) := by
  simp only [IntKind.wrap]
  show (0 - (n : Int)) % 18446744073709551616 = _
  omega
theorem and31 {n : Nat} (h0 : 0 < n) (h : n < 32) : bits .and .u64 ((18446744073709551616 - n : Nat) : Int) 31 = ((32 - n : Nat) : Int) := by
  refine (bits_andU (k := .u64) rfl (a := 18446744073709551616 - n) (b := 31) (by show _ < 18446744073709551616; omega) (by decide)).trans ?_
  congr 1
  rw [show (31 : Nat) = 2 ^ 5 - 1 from rfl, Nat.and_two_pow_sub_one_eq_mod]
  omega
theorem u64_32 {n : Nat} (h0 : 0 < n) (h : n < 32) : IntKind.u64.wrap (32 - ((32 - n : Nat) : Int)) = ((n : Nat) : Int) := by
  rw [show (32 : Int) - ((32 - n : Nat) : Int) = ((n : Nat) : Int) by omega]
  exact u64N (by omega)
theorem run_shlM {P : Program} {t : TypeId} {yk : IntKind} {x c : Nat} (hc : c ≤ 32) (w : World) : (binOp .shl t (.int .u32 (x : Int)) (.int yk (c : Int))).run P w = .ok (.int .u32 ((x * 2 ^ c % 4294967296 : Nat) : Int)) w := by
  have e : IntKind.u32.wrap ((x : Int) * 2 ^ (min (c : Int).toNat IntKind.u32.bits)) = ((x * 2 ^ c % 4294967296 : Nat) : Int) := by
    rw [Int.toNat_natCast, Nat.min_eq_left (show c ≤ IntKind.u32.bits from hc), show (x : Int) * 2 ^ c = ((x * 2 ^ c : Nat) : Int) by simp]
    exact u32M _
  simp only [binOp, Op.shift, if_neg (by omega : ¬ (c : Int) < 0), e]
  rfl
theorem or_rot {x n : Nat} (hx : x < 4294967296) : bits .or .u32 ((x * 2 ^ (32 - n) % 4294967296 : Nat) : Int) ((x / 2 ^ n : Nat) : Int) = ((rot32 x n : Nat) : Int) :=
  bits_orU (k := .u32) rfl (Nat.mod_lt _ (by decide)) (shr32_lt n hx)
def pwb (X : List UInt8) (i : Nat) : Nat → Nat
  | 0 => 0
  | j + 1 => pwb X i j * 256 + gB X (4 * i + j)
theorem pwb_lt (X : List UInt8) (i : Nat) : ∀ j, pwb X i j < 256 ^ j
  | 0 => by simp [pwb]
  | j + 1 => by have := pwb_lt X i j; have := gB_lt X (4 * i + j); rw [pwb, Nat.pow_succ]; omega
theorem pwb_small {X : List UInt8} {i j : Nat} (h : j < 4) : pwb X i j < 16777216 :=
  Nat.lt_of_lt_of_le (pwb_lt X i j) (by rw [show (16777216 : Nat) = 256 ^ 3 from rfl]; exact Nat.pow_le_pow_right (by decide) (by omega))
theorem pwb_word (X : List UInt8) (i : Nat) : pwb X i 4 = word X i := by simp [pwb, word]
theorem run_pw8 {P : Program} {t : TypeId} {X : List UInt8} {i j : Nat} (h : j < 4) (w : World) : (binOp .shl t (.int .u32 ((pwb X i j : Nat) : Int)) (.int .u64 8)).run P w = .ok (.int .u32 ((pwb X i j * 256 : Nat) : Int)) w :=
  run_shlU (k := .u32) (yk := .u64) (x := pwb X i j) (c := 8) rfl (by have := pwb_small (X := X) (i := i) h; show pwb X i j * 256 < 4294967296; omega) (fun _ => by decide) w
theorem or_pw {X : List UInt8} {i j : Nat} (h : j < 4) : bits .or .u32 ((pwb X i j * 256 : Nat) : Int) ((gB X (4 * i + j) : Nat) : Int) = ((pwb X i (j + 1) : Nat) : Int) := by
  have h1 := pwb_small (X := X) (i := i) h
  have h2 := gB_lt X (4 * i + j)
  rw [bits_orU (k := .u32) rfl (by show _ < 4294967296; omega) (by show _ < 4294967296; omega)]
  congr 1
  rw [Nat.mul_comm, show (256 : Nat) = 2 ^ 8 from rfl, ← Nat.two_pow_add_eq_or_of_lt h2, pwb, Nat.mul_comm]
theorem or_gen {x y k : Nat} (h : y < 2 ^ k) (hx : x * 2 ^ k < 4294967296) (hy : y < 4294967296) : bits .or .u32 ((x * 2 ^ k : Nat) : Int) ((y : Nat) : Int) = ((x * 2 ^ k + y : Nat) : Int) := by
  rw [bits_orU (k := .u32) rfl hx hy]
  congr 1
  rw [Nat.mul_comm, ← Nat.two_pow_add_eq_or_of_lt h]
def sc (X : List UInt8) (i j m : Nat) : Nat := if m < i then word X m else if m = i then pwb X i j else 0
def tc (X : List UInt8) (i m : Nat) : Nat := if m < i then wN X m else 0
theorem sc_zero (X : List UInt8) (m : Nat) : sc X 0 0 m = 0 := by unfold sc; rw [if_neg (by omega)]; split <;> rfl
theorem sc_at (X : List UInt8) (i j : Nat) : sc X i j i = pwb X i j := by unfold sc; rw [if_neg (by omega), if_pos rfl]
theorem sc_set {X : List UInt8} {i j : Nat} : (rowK .u32 64 (sc X i j)).setIfInBounds i (.int .u32 ((pwb X i (j + 1) : Nat) : Int)) = rowK .u32 64 (sc X i (j + 1)) := by
  rw [rowK_set]
  refine rowK_congr fun m _ => ?_
  by_cases e : m = i
  · rw [if_pos e, e, sc_at]
  · rw [if_neg e]; unfold sc; rw [if_neg e, if_neg e]
theorem sc_next (X : List UInt8) (i : Nat) : rowK .u32 64 (sc X i 4) = rowK .u32 64 (sc X (i + 1) 0) := by
  refine rowK_congr fun m _ => ?_
  unfold sc
  by_cases h1 : m < i
  · rw [if_pos h1, if_pos (by omega)]
  · rw [if_neg h1]
    by_cases h2 : m = i
    · rw [if_pos h2, if_pos (by omega), h2, pwb_word]
    · rw [if_neg h2, if_neg (by omega)]
      split <;> rfl
theorem sc_tc (X : List UInt8) : rowK .u32 64 (sc X 16 0) = rowK .u32 64 (tc X 16) := by
  refine rowK_congr fun m _ => ?_
  unfold sc tc
  by_cases h1 : m < 16
  · rw [if_pos h1, if_pos h1, wN_word h1]
  · rw [if_neg h1, if_neg h1]; split <;> rfl
theorem tc_get {X : List UInt8} {i m : Nat} (h : m < i) (h64 : m < 64) : (rowK .u32 64 (tc X i))[m]? = some (.int .u32 ((wN X m : Nat) : Int)) := by
  rw [rowK_get h64, tc, if_pos h]
theorem tc_set {X : List UInt8} {i v : Nat} (hv : v = wN X i) : (rowK .u32 64 (tc X i)).setIfInBounds i (.int .u32 ((v : Nat) : Int)) = rowK .u32 64 (tc X (i + 1)) := by
  rw [rowK_set]
  refine rowK_congr fun m _ => ?_
  unfold tc
  by_cases e : m = i
  · rw [if_pos e, if_pos (by omega), e, hv]
  · rw [if_neg e]
    by_cases h1 : m < i
    · rw [if_pos h1, if_pos (by omega)]
    · rw [if_neg h1, if_neg (by omega)]
theorem tc_end {X : List UInt8} {i : Nat} (h : 64 ≤ i) : rowK .u32 64 (tc X i) = rowK .u32 64 (wN X) := by
  refine rowK_congr fun m hm => ?_
  rw [tc, if_pos (by omega)]
theorem kC_get {i : Nat} (h : i < 64) : (rowK .u32 64 kN)[i]? = some (.int .u32 ((kN i : Nat) : Int)) := rowK_get h
theorem cmp_end {X : List UInt8} {a b c d e f g h a' b' c' d' e' f' g' h' i : Nat} (hr : rnds X (a, b, c, d, e, f, g, h) i = (a', b', c', d', e', f', g', h')) (hi : i = 64) :
    cmpS (a, b, c, d, e, f, g, h) X = (add32 a a', add32 b b', add32 c c', add32 d d', add32 e e', add32 f f', add32 g g', add32 h h') := by
  subst hi
  rw [cmpS, hr]; rfl
theorem mid_take {m : List UInt8} {a : Nat} (n : Nat) (_h : a + n ≤ m.length) : (mid m a m.length).take n = mid m a (a + n) := by
  unfold mid
  rw [List.take_length, List.take_drop, Nat.add_comm]
theorem pad_hd0 (n : Nat) : Hd ((zB (9 + zeros n)).setIfInBounds 0 (.int .u8 128)) (128 :: List.replicate (zeros n) 0) := by
  unfold Hd zB
  simp only [Array.toList_setIfInBounds]
  rw [show 9 + zeros n = (zeros n + 8) + 1 by omega, List.replicate_succ]
  show (((bv 0 :: bs (List.replicate (zeros n + 8) 0)).set 0 (.int .u8 128)).take (List.replicate (zeros n) (0 : UInt8)).length.succ) = _
  rw [List.set_cons_zero, List.take_succ_cons, List.length_replicate]
  show _ = bv 128 :: bs (List.replicate (zeros n) 0)
  congr 1
  unfold bs
  rw [List.map_replicate, List.map_replicate, List.take_replicate, Nat.min_eq_left (by omega)]
theorem pad_next {n i : Nat} {X : List UInt8} (hX : X = 128 :: (List.replicate (zeros n) 0 ++ be8 (8 * n) i)) : X ++ [ob ((8 * n / 2 ^ (56 - 8 * i) % 256 : Nat) : Int)] = 128 :: (List.replicate (zeros n) 0 ++ be8 (8 * n) (i + 1)) := by
  rw [hX, be8_succ]; simp
theorem pad_end {n i : Nat} {X : List UInt8} (hX : X = 128 :: (List.replicate (zeros n) 0 ++ be8 (8 * n) i)) (hi : i = 8) : X = padN n := by
  subst hi; exact hX
theorem pad_len {n i : Nat} {X : List UInt8} (hX : X = 128 :: (List.replicate (zeros n) 0 ++ be8 (8 * n) i)) : X.length = 1 + zeros n + i := by
  rw [hX]; simp [be8_length]; omega
def dgf (s : Oct8) (m j : Nat) : Nat := if j < m then sel8 s (j / 4) / 2 ^ (24 - j % 4 * 8) % 256 else 0
theorem hB0_row (s : Oct8) : hB 0 = rowK .u8 32 (dgf s 0) := by
  have h : rowK .u8 32 (dgf s 0) = rowK .u8 32 (fun _ => 0) := rowK_congr fun m _ => by unfold dgf; rw [if_neg (by omega)]
  exact (show hB 0 = rowK .u8 32 (fun _ => 0) by kernel_rfl).trans h.symm
theorem dgf_set {s : Oct8} {m v : Nat} (hv : v = sel8 s (m / 4) / 2 ^ (24 - m % 4 * 8) % 256) : (rowK .u8 32 (dgf s m)).setIfInBounds m (.int .u8 ((v : Nat) : Int)) = rowK .u8 32 (dgf s (m + 1)) := by
  rw [rowK_set]
  refine rowK_congr fun j _ => ?_
  unfold dgf
  by_cases e : j = m
  · rw [if_pos e, if_pos (by omega), e, hv]
  · rw [if_neg e]
    by_cases h1 : j < m
    · rw [if_pos h1, if_pos (by omega)]
    · rw [if_neg h1, if_neg (by omega)]
theorem dgf_end {s : Oct8} {m : Nat} (h : 32 ≤ m) : rowK .u8 32 (dgf s m) = hB (nB (digL s)) := by
  rw [← rowK_bytes]
  refine rowK_congr fun j hj => ?_
  rw [dgf, if_pos (by omega)]
theorem sha_next {m : List UInt8} {i : Nat} {s : Oct8} (hS : shaS m i = s) (h : 64 * i + 64 ≤ m.length) : shaS m (i + 1) = cmpS s ((mid m (64 * i) m.length).take 64) := by
  rw [shaS, hS, mid_take 64 h]
theorem sha_end {b : List UInt8} {i : Nat} {s : Oct8} (hS : shaS (b ++ padN b.length) i = s) (hi : i = (b ++ padN b.length).length / 64) : nB (digL s) = shaN b := by
  subst hi; rw [← hS]; rfl
theorem msg_len (b : List UInt8) : (b ++ padN b.length).length = b.length + zeros b.length + 9 := by rw [List.length_append, pad_length]; omega
section
variable {P : Program} {e : TypeId}
end
abbrev KbK (w : World) : Prop := Kb w 1 (rowK .u32 64 kN)
abbrev KbI (w : World) : Prop := Kb w 0 #[.int .u32 1779033703, .int .u32 3144134277, .int .u32 1013904242, .int .u32 2773480762, .int .u32 1359893119, .int .u32 2600822924, .int .u32 528734635, .int .u32 1541459225]
theorem snd_end1 {k : Ky} (h1 : decide (k.d < 0) = true) : false = sndB k := by
  have := of_decide_eq_true h1
  unfold sndB
  rw [decide_eq_false (show ¬ 0 ≤ k.d by omega)]; rfl
theorem snd_end2 {k : Ky} (_ : decide (k.d < 0) = false) (h2 : decide (8 < k.d) = true) : false = sndB k := by
  have := of_decide_eq_true h2
  unfold sndB
  rw [decide_eq_false (show ¬ k.d ≤ 8 by omega), Bool.false_and, Bool.and_false]
theorem snd_end3 {k : Ky} (_ : decide (k.d < 0) = false) (_ : decide (8 < k.d) = false) (h3 : valB k.p = false) : false = sndB k := by
  unfold sndB
  rw [h3, Bool.false_and, Bool.and_false, Bool.and_false]
theorem snd_mid {k : Ky} (h1 : decide (k.d < 0) = false) (h2 : decide (8 < k.d) = false) (h3 : valB k.p = true) : sndB k = (decide (k.s = 0) || (decide (pubE k.s = 0) && decide (pubV k.s = k.p))) := by
  have := of_decide_eq_false h1
  have := of_decide_eq_false h2
  unfold sndB
  rw [decide_eq_true (show 0 ≤ k.d by omega), decide_eq_true (show k.d ≤ 8 by omega), h3]; rfl
theorem snd_ok4 {k : Ky} (h1 : decide (k.d < 0) = false) (h2 : decide (8 < k.d) = false) (h3 : valB k.p = true) (h4 : decide (k.s = 0) = true) : true = sndB k := by
  rw [snd_mid h1 h2 h3, h4]; rfl
theorem snd_ok5 {k : Ky} (h1 : decide (k.d < 0) = false) (h2 : decide (8 < k.d) = false) (h3 : valB k.p = true) (h4 : decide (k.s = 0) = false) (h5 : (pubE k.s == 0) = true) : decide (pubV k.s = k.p) = sndB k := by
  have h : pubE k.s = 0 := by simpa using h5
  rw [snd_mid h1 h2 h3, h4, decide_eq_true h]; rfl
theorem snd_end5 {k : Ky} (h1 : decide (k.d < 0) = false) (h2 : decide (8 < k.d) = false) (h3 : valB k.p = true) (h4 : decide (k.s = 0) = false) (h5 : (pubE k.s == 0) = false) : false = sndB k := by
  have h : ¬ pubE k.s = 0 := by simpa using h5
  rw [snd_mid h1 h2 h3, h4, decide_eq_false h]; rfl
theorem hiN_small {D j : Nat} (h : j < 4) : hiN D j < 16777216 :=
  Nat.lt_of_lt_of_le (hiN_lt D j) (by rw [show (16777216 : Nat) = 256 ^ 3 from rfl]; exact Nat.pow_le_pow_right (by decide) (by omega))
theorem or_hi {D j : Nat} (h : j < 4) : bits .or .u32 ((hiN D j * 256 : Nat) : Int) ((bN D j : Nat) : Int) = ((hiN D (j + 1) : Nat) : Int) := by
  have h1 := hiN_small (D := D) h
  have h2 := bN_lt D j
  exact or_gen (x := hiN D j) (y := bN D j) (k := 8) h2 (by show _ * 256 < _; omega) (by omega)
theorem run_hi8 {P : Program} {t : TypeId} {D j : Nat} (h : j < 4) (w : World) : (binOp .shl t (.int .u32 ((hiN D j : Nat) : Int)) (.int .u64 8)).run P w = .ok (.int .u32 ((hiN D j * 256 : Nat) : Int)) w :=
  run_shlU (k := .u32) (yk := .u64) (x := hiN D j) (c := 8) rfl (by have := hiN_small (D := D) h; show hiN D j * 256 < 4294967296; omega) (fun _ => by decide) w
theorem u32_bN (D j : Nat) : IntKind.u32.wrap ((bN D j : Nat) : Int) = ((bN D j : Nat) : Int) := u32N (Nat.lt_trans (bN_lt D j) (by decide))
theorem hd_t {i : Nat} (h : decide (2147483648 ≤ ((i : Nat) : Int)) = true) : hdB i = true := decide_eq_true (by have := of_decide_eq_true h; omega)
theorem hd_f {i : Nat} (h : decide (2147483648 ≤ ((i : Nat) : Int)) = false) : hdB i = false := decide_eq_false (by have := of_decide_eq_false h; omega)
theorem twk_1 {k : Ky} {i : Nat} (h : decide (2147483648 ≤ ((i : Nat) : Int)) = true) : tagN tgH ((hL k.c ++ hL k.s) ++ leB i 4) = twk k i := by unfold twk; rw [if_pos (hd_t h)]
theorem twk_0 {k : Ky} {i : Nat} (h : decide (2147483648 ≤ ((i : Nat) : Int)) = false) : tagN tgS ((hL k.c ++ hL k.p) ++ leB i 4) = twk k i := by unfold twk; rw [hd_f h]; rfl
theorem eqI {x y : Int} (h : (x == y) = true) : x = y := by simpa using h
theorem neI {x y : Int} (h : (x == y) = false) : x ≠ y := by simpa using h
theorem bnI {x : Int} (h : (x == 0) = true) : (x != 0) = false := by rw [eqI h]; rfl
theorem bn_n {x : Int} {b : Bool} (h : (x == 0) = b) : (x != 0) = !b := by unfold bne; rw [h]
theorem pub_ts {x t : Nat} (h : (tsE x t != 0) = false) : (pubE (tsV x t) != 0) = false := by
  have ho := tsE_ok h
  rw [(both ho.1 ho.2).2.2.1]; rfl
theorem st_4 {k : Ky} {i : Nat} (h : k.d = 8) : stE k i = 4 ∧ stK k i = Ky.z := by
  have e : stE k i = 4 := if_pos h
  exact ⟨e, by unfold stK; rw [if_neg (by rw [e]; decide)]⟩
theorem st_250 {k : Ky} {i : Nat} (h : k.d ≠ 8) (hh : hdB i = true) (hs : k.s = 0) : stE k i = 250 ∧ stK k i = Ky.z := by
  have e : stE k i = 250 := by unfold stE; rw [if_neg h, if_pos ⟨hh, hs⟩]
  exact ⟨e, by unfold stK; rw [if_neg (by rw [e]; decide)]⟩
theorem st_E {k : Ky} {i : Nat} (h : k.d ≠ 8) (hn : hdB i = false ∨ k.s ≠ 0) : stE k i = if k.s = 0 then twE k.p (twk k i) else tsE k.s (twk k i) := by
  unfold stE
  rw [if_neg h, if_neg (fun q => hn.elim (fun a => by rw [q.1] at a; exact absurd a (by decide)) (fun a => a q.2))]
theorem st_s1 {k : Ky} {i : Nat} (h : k.d ≠ 8) (hn : hdB i = false ∨ k.s ≠ 0) (hs : k.s ≠ 0) (he : tsE k.s (twk k i) ≠ 0) : stE k i = tsE k.s (twk k i) ∧ stK k i = Ky.z := by
  have e : stE k i = tsE k.s (twk k i) := by rw [st_E h hn, if_neg hs]
  exact ⟨e, by unfold stK; rw [if_neg (by rw [e]; exact he)]⟩
theorem st_p1 {k : Ky} {i : Nat} (h : k.d ≠ 8) (hn : hdB i = false ∨ k.s ≠ 0) (hs : k.s = 0) (he : twE k.p (twk k i) ≠ 0) : stE k i = twE k.p (twk k i) ∧ stK k i = Ky.z := by
  have e : stE k i = twE k.p (twk k i) := by rw [st_E h hn, if_pos hs]
  exact ⟨e, by unfold stK; rw [if_neg (by rw [e]; exact he)]⟩
theorem st_s0 {k : Ky} {i : Nat} (h : k.d ≠ 8) (hn : hdB i = false ∨ k.s ≠ 0) (hs : k.s ≠ 0) (he : tsE k.s (twk k i) = 0) : stE k i = 0 ∧ stK k i = ⟨tsV k.s (twk k i), pubV (tsV k.s (twk k i)), hmN k.c (hL (twk k i)), k.d + 1, i, prN k.p⟩ := by
  have e : stE k i = 0 := by rw [st_E h hn, if_neg hs, he]
  exact ⟨e, by unfold stK; rw [if_pos e, if_neg hs, if_neg hs]⟩
theorem st_p0 {k : Ky} {i : Nat} (h : k.d ≠ 8) (hn : hdB i = false ∨ k.s ≠ 0) (hs : k.s = 0) (he : twE k.p (twk k i) = 0) : stE k i = 0 ∧ stK k i = ⟨0, twV k.p (twk k i), hmN k.c (hL (twk k i)), k.d + 1, i, prN k.p⟩ := by
  have e : stE k i = 0 := by rw [st_E h hn, if_pos hs, he]
  exact ⟨e, by unfold stK; rw [if_pos e, if_pos hs, if_pos hs]⟩
theorem ch_yes {k : Ky} {i : Nat} (h : sndB k = true) : chE k i = stE k i ∧ chK k i = stK k i := by unfold chE chK; rw [if_pos h, if_pos h]; exact ⟨rfl, rfl⟩
theorem ch_6 {k : Ky} {i : Nat} (h : sndB k = false) : chE k i = 6 ∧ chK k i = Ky.z := by unfold chE chK; rw [h]; exact ⟨rfl, rfl⟩
theorem ch_4 {k : Ky} {i : Nat} (s : sndB k = true) (h : k.d = 8) : chE k i = 4 ∧ chK k i = Ky.z := by rw [(ch_yes s).1, (ch_yes s).2]; exact st_4 h
theorem ch_250 {k : Ky} {i : Nat} (s : sndB k = true) (h : k.d ≠ 8) (hh : hdB i = true) (hs : k.s = 0) : chE k i = 250 ∧ chK k i = Ky.z := by rw [(ch_yes s).1, (ch_yes s).2]; exact st_250 h hh hs
theorem ch_s1 {k : Ky} {i : Nat} (s : sndB k = true) (h : k.d ≠ 8) (hn : hdB i = false ∨ k.s ≠ 0) (hs : k.s ≠ 0) (he : tsE k.s (twk k i) ≠ 0) : chE k i = tsE k.s (twk k i) ∧ chK k i = Ky.z := by rw [(ch_yes s).1, (ch_yes s).2]; exact st_s1 h hn hs he
theorem ch_p1 {k : Ky} {i : Nat} (s : sndB k = true) (h : k.d ≠ 8) (hn : hdB i = false ∨ k.s ≠ 0) (hs : k.s = 0) (he : twE k.p (twk k i) ≠ 0) : chE k i = twE k.p (twk k i) ∧ chK k i = Ky.z := by rw [(ch_yes s).1, (ch_yes s).2]; exact st_p1 h hn hs he
theorem ch_s0 {k : Ky} {i : Nat} (s : sndB k = true) (h : k.d ≠ 8) (hn : hdB i = false ∨ k.s ≠ 0) (hs : k.s ≠ 0) (he : tsE k.s (twk k i) = 0) : chE k i = 0 ∧ chK k i = ⟨tsV k.s (twk k i), pubV (tsV k.s (twk k i)), hmN k.c (hL (twk k i)), k.d + 1, i, prN k.p⟩ := by rw [(ch_yes s).1, (ch_yes s).2]; exact st_s0 h hn hs he
theorem ch_p0 {k : Ky} {i : Nat} (s : sndB k = true) (h : k.d ≠ 8) (hn : hdB i = false ∨ k.s ≠ 0) (hs : k.s = 0) (he : twE k.p (twk k i) = 0) : chE k i = 0 ∧ chK k i = ⟨0, twV k.p (twk k i), hmN k.c (hL (twk k i)), k.d + 1, i, prN k.p⟩ := by rw [(ch_yes s).1, (ch_yes s).2]; exact st_p0 h hn hs he
def nI (ps : List Nat) : List Int := ps.map fun n => ((n : Nat) : Int)
theorem nI_len (ps : List Nat) : (nI ps).length = ps.length := List.length_map _
theorem nI_get (ps : List Nat) (j : Nat) : gI (nI ps) j = ((ps.getD j 0 : Nat) : Int) := by
  unfold gI nI
  rw [List.getD_eq_getElem?_getD, List.getD_eq_getElem?_getD, List.getElem?_map]
  cases ps[j]? <;> rfl
theorem get_all {p : Nat → Prop} {ps : List Nat} (h : ∀ i ∈ ps, p i) (h0 : p 0) (j : Nat) : p (ps.getD j 0) := by
  rw [List.getD_eq_getElem?_getD]
  cases e : ps[j]? with
  | none => exact h0
  | some x => exact h x (List.mem_of_getElem? e)
theorem drop_get {ps : List Nat} {j : Nat} (h : j < ps.length) : ps.drop j = ps.getD j 0 :: ps.drop (j + 1) := by
  rw [List.drop_eq_getElem_cons h, List.getD_eq_getElem?_getD, List.getElem?_eq_getElem h]; rfl
theorem dv_fail {k x : Ky} {ps : List Nat} {j : Nat} (hs : sndB k = true) (hx : sndB x = true) (hj : j < ps.length) (hE : dvE x (ps.drop j) = dvE k ps) (hK : dvK x (ps.drop j) = dvK k ps) (h : (chE x (ps.getD j 0) != 0) = true) : drE k ps = chE x (ps.getD j 0) ∧ drK k ps = Ky.z := by
  have hne : stE x (ps.getD j 0) ≠ 0 := by rw [← (ch_yes hx).1]; simpa using h
  rw [drop_get hj] at hE hK
  simp only [dvE, dvK] at hE hK
  rw [if_neg hne] at hE hK
  unfold drE drK
  rw [if_pos hs, if_pos hs, ← hE, ← hK, (ch_yes hx).1]
  exact ⟨rfl, rfl⟩
theorem dv_next {k x : Ky} {ps : List Nat} {j : Nat} (hx : sndB x = true) (hj : j < ps.length) (hE : dvE x (ps.drop j) = dvE k ps) (hK : dvK x (ps.drop j) = dvK k ps) (h : (chE x (ps.getD j 0) != 0) = false) : sndB (chK x (ps.getD j 0)) = true ∧ dvE (chK x (ps.getD j 0)) (ps.drop (j + 1)) = dvE k ps ∧ dvK (chK x (ps.getD j 0)) (ps.drop (j + 1)) = dvK k ps := by
  have h0 : stE x (ps.getD j 0) = 0 := by rw [← (ch_yes hx).1]; simpa using h
  rw [drop_get hj] at hE hK
  simp only [dvE, dvK] at hE hK
  rw [if_pos h0] at hE hK
  rw [(ch_yes hx).2]
  exact ⟨st_snd hx h0, hE, hK⟩
theorem dv_done {k x : Ky} {ps : List Nat} {j : Nat} (hs : sndB k = true) (hj : ps.length ≤ j) (hE : dvE x (ps.drop j) = dvE k ps) (hK : dvK x (ps.drop j) = dvK k ps) : drE k ps = 0 ∧ drK k ps = x := by
  rw [List.drop_eq_nil_of_le hj] at hE hK
  unfold drE drK
  rw [if_pos hs, if_pos hs, ← hE, ← hK]
  exact ⟨rfl, rfl⟩
theorem dr_6 {k : Ky} {ps : List Nat} (hs : sndB k = false) : drE k ps = 6 ∧ drK k ps = Ky.z := by unfold drE drK; rw [hs]; exact ⟨rfl, rfl⟩
theorem neqH (A B : Nat) (h1 : A < M) (h2 : B < M) (w : World) : (binOp .neq 43 (.agg (hB A)) (.agg (hB B))).run Tryz.prog w = .ok (.bool (!decide (A = B))) w := by
  rw [run_neq_ints (n := 32) (e := 5) Tryz.underlying43 Tryz.underlying5 (by kernel_rfl) (byt A) (byt B) _ _ (hB_get A) (hB_get B) w]
  rw [decide_eq_decide.2 (byt_inj h1 h2)]
def kpV (s p c : Nat) (d i n : Int) (x y : Value) : Array Value := cU s ++ cU p ++ hB c ++ #[.int .i64 d, .int .u32 i, .int .u32 n, x, y]
def tmV (kd m nu : Int) (h : Nat) (x : Value) : Array Value := #[.int .i64 kd, .int .i64 m, .int .u32 nu] ++ hB h ++ #[x]
def KpA.row (p : KpA) : Array Value := kpV p.k.s p.k.p p.k.c p.k.d ((p.k.i : Nat) : Int) ((p.k.n : Nat) : Int) (.slice p.pa (nI p.ps).length p.pc) (.bool p.wd)
def TmA.row (t : TmA) : Array Value := tmV t.kd t.m ((t.nu : Nat) : Int) t.h (.slice t.ka t.ks.length t.kc)
theorem KpA.row_len (p : KpA) : p.row.toList.length = 45 := by simp [KpA.row, kpV, cU, hB_size]
theorem TmA.row_len (t : TmA) : t.row.toList.length = 36 := by simp [TmA.row, tmV, hB_size]
def rng (z : Int) : Prop := -9223372036854775808 ≤ z ∧ z < 9223372036854775808
theorem rng_lit {z : Int} (h : -9223372036854775808 ≤ z ∧ z < 9223372036854775808) : rng z := h
theorem rng_nat {n : Nat} (h : n < 1000000) : rng ((n : Nat) : Int) := by unfold rng; omega
structure KpA.Ok (p : KpA) : Prop where
  k : p.k.Ok
  d : rng p.k.d
  ps : ∀ i ∈ p.ps, i < 4294967296
structure TmA.Ok (t : TmA) : Prop where
  kd : rng t.kd
  m : rng t.m
  nu : t.nu < 4294967296
  h : t.h < M
theorem KpA.ok_d : (default : KpA).Ok := ⟨Ky.z_ok, by unfold rng; exact ⟨by decide, by decide⟩, fun i hi => absurd hi (by simp [default])⟩
theorem TmA.ok_d : (default : TmA).Ok := ⟨by unfold rng; exact ⟨by decide, by decide⟩, by unfold rng; exact ⟨by decide, by decide⟩, by decide, zeroM⟩
def gK (l : List KpA) (i : Nat) : KpA := l.getD i default
def gT (l : List TmA) (i : Nat) : TmA := l.getD i default
theorem getD_mem {α : Type} [Inhabited α] {l : List α} {i : Nat} (h : i < l.length) : l.getD i default ∈ l := by
  rw [List.getD_eq_getElem?_getD, List.getElem?_eq_getElem h]
  exact List.getElem_mem h
theorem gK_mem {l : List KpA} {i : Nat} (h : i < l.length) : gK l i ∈ l := getD_mem h
theorem gT_mem {l : List TmA} {i : Nat} (h : i < l.length) : gT l i ∈ l := getD_mem h
def TsOk (ts : List TmA) : Prop := ∀ t ∈ ts, t.Ok ∧ ∀ p ∈ t.ks, p.Ok
def KsOk (ks : List KpA) : Prop := ∀ p ∈ ks, p.Ok
theorem getD_all {α : Type} [Inhabited α] {q : α → Prop} {l : List α} (h : ∀ x ∈ l, q x) (h0 : q default) (i : Nat) : q (l.getD i default) := by
  rw [List.getD_eq_getElem?_getD]
  cases e : l[i]? with
  | none => exact h0
  | some x => exact h x (List.mem_of_getElem? e)
theorem KsOk.gK1 {ks : List KpA} (h : KsOk ks) (j : Nat) : (gK ks j).Ok := getD_all h KpA.ok_d j
theorem TsOk.gT {ts : List TmA} (h : TsOk ts) (i : Nat) : (gT ts i).Ok := (getD_all (q := fun t : TmA => t.Ok ∧ ∀ p ∈ t.ks, p.Ok) h ⟨TmA.ok_d, fun p hp => absurd hp (by simp [default])⟩ i).1
theorem TsOk.gK {ts : List TmA} (h : TsOk ts) (i j : Nat) : (gK (Go.Proofs.YtaebcmpbbamfpaaGreatDoor.gT ts i).ks j).Ok := KsOk.gK1 (getD_all (q := fun t : TmA => t.Ok ∧ ∀ p ∈ t.ks, p.Ok) h ⟨TmA.ok_d, fun p hp => absurd hp (by simp [default])⟩ i).2 j
section
variable {α : Type} {f : α → List Value} {n : Nat}
theorem fm_len (hf : ∀ x, (f x).length = n) : ∀ l : List α, (l.flatMap f).length = l.length * n
  | [] => by simp
  | x :: r => by
    rw [List.flatMap_cons, List.length_append, hf, fm_len hf r, List.length_cons, Nat.add_mul, Nat.one_mul, Nat.add_comm]
theorem fm_get (hf : ∀ x, (f x).length = n) [Inhabited α] : ∀ (l : List α) (i j : Nat), i < l.length → j < n → (l.flatMap f)[i * n + j]? = (f (l.getD i default))[j]?
  | [], i, _, h, _ => absurd h (by simp)
  | x :: r, 0, j, _, hj => by
    rw [List.flatMap_cons, Nat.zero_mul, Nat.zero_add, List.getElem?_append_left (by rw [hf]; exact hj)]
    rfl
  | x :: r, i + 1, j, h, hj => by
    rw [List.flatMap_cons, List.getElem?_append_right (by rw [hf, Nat.add_mul, Nat.one_mul]; omega), hf, show (i + 1) * n + j - n = i * n + j by rw [Nat.add_mul, Nat.one_mul]; omega, fm_get hf r i j (by simpa using h) hj]
    rfl
end
structure KpF (w : World) (a : Option Addr) (c : Nat) (l : List KpA) : Prop where
  le : l.length ≤ c
  max : l.length ≤ 1000000
  rows : Rs w a (l.flatMap fun p => p.row.toList)
  sub : ∀ p ∈ l, Is w .u32 p.pa p.pc (nI p.ps)
  ok : ∀ p ∈ l, p.Ok
structure TmF (w : World) (a : Option Addr) (c : Nat) (l : List TmA) : Prop where
  le : l.length ≤ c
  max : l.length ≤ 1000000
  rows : Rs w a (l.flatMap fun t => t.row.toList)
  sub : ∀ t ∈ l, KpF w t.ka t.kc t.ks
  ok : ∀ t ∈ l, t.Ok
theorem TmF.oks {w : World} {a : Option Addr} {c : Nat} {l : List TmA} (h : TmF w a c l) : TsOk l := fun t ht => ⟨h.ok t ht, (h.sub t ht).ok⟩
theorem TsOk.klen {ts : List TmA} (_ : TsOk ts) {w : World} {a : Option Addr} {c : Nat} (h : TmF w a c ts) (i : Nat) : (Go.Proofs.YtaebcmpbbamfpaaGreatDoor.gT ts i).ks.length ≤ 1000000 :=
  getD_all (q := fun t : TmA => t.ks.length ≤ 1000000) (fun t ht => (h.sub t ht).max) (by decide) i
theorem KpF.nil {w : World} {a : Option Addr} {c : Nat} : KpF w a c [] := ⟨by simp, by simp, Or.inl rfl, by simp, by simp⟩
theorem TmF.nil {w : World} {a : Option Addr} {c : Nat} : TmF w a c [] := ⟨by simp, by simp, Or.inl rfl, by simp, by simp⟩
theorem persAll {α : Type} {T : Nat → Prop} {F : α → World → Prop} {w : World} : ∀ {l : List α}, (∀ x ∈ l, Pers T (F x) w) → Pers T (fun w => ∀ x ∈ l, F x w) w
  | [], _ => persTrue (fun _ x hx => absurd hx (by simp))
  | x :: r, h => ((h x List.mem_cons_self).and (persAll (l := r) (fun y hy => h y (List.mem_cons_of_mem _ hy)))).mono (fun _ hh y hy => by
    rcases List.mem_cons.1 hy with rfl | hy
    · exact hh.1
    · exact hh.2 y hy)
theorem KpF.mkP {T : Nat → Prop} {w : World} {a : Option Addr} {c : Nat} {l : List KpA} (hle : l.length ≤ c) (hmax : l.length ≤ 1000000) (hr : Pers T (fun w => Rs w a (l.flatMap fun p => p.row.toList)) w) (hs : ∀ p ∈ l, Pers T (fun w => Is w .u32 p.pa p.pc (nI p.ps)) w) (ok : ∀ p ∈ l, p.Ok) : Pers T (fun w => KpF w a c l) w :=
  (hr.and (persAll hs)).mono (fun _ h => ⟨hle, hmax, h.1, h.2, ok⟩)
theorem TmF.mkP {T : Nat → Prop} {w : World} {a : Option Addr} {c : Nat} {l : List TmA} (hle : l.length ≤ c) (hmax : l.length ≤ 1000000) (hr : Pers T (fun w => Rs w a (l.flatMap fun p => p.row.toList)) w) (hs : ∀ t ∈ l, Pers T (fun w => KpF w t.ka t.kc t.ks) w) (ok : ∀ t ∈ l, t.Ok) : Pers T (fun w => TmF w a c l) w :=
  (hr.and (persAll hs)).mono (fun _ h => ⟨hle, hmax, h.1, h.2, ok⟩)
theorem apart0 {a : Option Addr} {n : Nat} : Apart (fun _ => False) a n := fun _ _ _ => id
theorem KpF.pers0 {w : World} {a : Option Addr} {c : Nat} {l : List KpA} (h : KpF w a c l) : Pers (fun _ => False) (fun w => KpF w a c l) w :=
  KpF.mkP h.le h.max (h.rows.pers apart0) (fun p hp => (h.sub p hp).pers0) h.ok
theorem TmF.pers0 {w : World} {a : Option Addr} {c : Nat} {l : List TmA} (h : TmF w a c l) : Pers (fun _ => False) (fun w => TmF w a c l) w :=
  TmF.mkP h.le h.max (h.rows.pers apart0) (fun t ht => (h.sub t ht).pers0) h.ok
section
variable {P : Program} {t e : TypeId}
theorem Rs.some {w : World} {a : Option Addr} {vs : List Value} (h : Rs w a vs) {i : Nat} (hi : i < vs.length) : ∃ p, a = .some p ∧ ∀ i v, vs[i]? = .some v → w.cell? (p.add i) = .some v := by
  rcases h with rfl | h
  · simp at hi
  · exact h
theorem idx_rs (ht : P.underlying t = some (.slice e)) {sz : Nat} (hs : ∀ w, (sizeOf e).run P w = .ok sz w) {w : World} {a : Option Addr} {c m : Nat} {vs : List Value} {k : IntKind} {z : Int} {j : Nat} (hr : Rs w a vs) (hv : 0 < vs.length) (hz : z = (j : Int)) (hj : j < m) :
    (do pure (Next.value (← Instr.indexAt t (.slice a m c) (.int k z))) : Sem Next).run P w = .ok (.value (.pointer (adr a (j * sz)))) w := by
  subst hz
  obtain ⟨p, rfl, _⟩ := hr.some hv
  have hs := hs w
  simp [Instr.indexAt, asIntOf, Sem.run_bind, run_underlying ht, hj, hs, adr]
theorem ld_rsA {w : World} {a : Option Addr} {vs us : List Value} {k n : Nat} (ha : ∀ w, (isAgg e).run P w = .ok true w) (hs : ∀ w, (sizeOf e).run P w = .ok n w) (hr : Rs w a vs) (hn : us.length = n) (h0 : 0 < n) (hv : ∀ j, j < n → vs[k + j]? = us[j]?) :
    (do pure (Next.value (← Instr.loadAt e (.pointer (adr a k)))) : Sem Next).run P w = .ok (.value (.agg us.toArray)) w := by
  have hlt : k < vs.length := by
    have h1 := hv 0 h0
    rw [List.getElem?_eq_getElem (show 0 < us.length by omega)] at h1
    have := (List.getElem?_eq_some_iff.1 h1).1
    omega
  obtain ⟨p, rfl, hp⟩ := hr.some hlt
  have hl := run_loadCells_list (P := P) w (p.add k) us (fun j v hj => by
    rw [Addr.add_add]
    have hj' : j < n := by rw [← hn]; exact (List.getElem?_eq_some_iff.1 hj).1
    exact hp _ _ ((hv j hj').trans hj))
  rw [hn] at hl
  simp only [adr, Option.map_some, Instr.loadAt, Instr.sureAddr, loadVar, Sem.run_bind, Sem.run_pure, Result.andThen_ok, ha, if_true, hs, hl]
end
section
variable {P : Program} {t e : TypeId} {w : World} {a : Option Addr} {c : Nat}
theorem TmF.pos {ts : List TmA} (h : TmF w a c ts) {i : Nat} (hi : i < ts.length) : Rs w a (ts.flatMap fun t => t.row.toList) ∧ 0 < (ts.flatMap fun t => t.row.toList).length := ⟨h.rows, by rw [fm_len TmA.row_len]; omega⟩
theorem KpF.pos {ks : List KpA} (h : KpF w a c ks) {i : Nat} (hi : i < ks.length) : Rs w a (ks.flatMap fun t => t.row.toList) ∧ 0 < (ks.flatMap fun t => t.row.toList).length := ⟨h.rows, by rw [fm_len KpA.row_len]; omega⟩
theorem TmF.idx {ts : List TmA} (ht : P.underlying t = some (.slice e)) (hs : ∀ w, (sizeOf e).run P w = .ok 36 w) {m : Nat} {k : IntKind} {z : Int} {j : Nat} (h : TmF w a c ts) (hm : m = ts.length) (hz : z = (j : Int)) (hj : j < ts.length) :
    (do pure (Next.value (← Instr.indexAt t (.slice a m c) (.int k z))) : Sem Next).run P w = .ok (.value (.pointer (adr a (j * 36)))) w := idx_rs ht hs (h.pos hj).1 (h.pos hj).2 hz (by omega)
theorem KpF.idx {ks : List KpA} (ht : P.underlying t = some (.slice e)) (hs : ∀ w, (sizeOf e).run P w = .ok 45 w) {m : Nat} {k : IntKind} {z : Int} {j : Nat} (h : KpF w a c ks) (hm : m = ks.length) (hz : z = (j : Int)) (hj : j < ks.length) :
    (do pure (Next.value (← Instr.indexAt t (.slice a m c) (.int k z))) : Sem Next).run P w = .ok (.value (.pointer (adr a (j * 45)))) w := idx_rs ht hs (h.pos hj).1 (h.pos hj).2 hz (by omega)
theorem TmF.cell {ts : List TmA} {i j : Nat} {v : Value} (hi : i < ts.length) (hj : j < 36) (hv : (gT ts i).row[j]? = some v) : (ts.flatMap fun t => t.row.toList)[i * 36 + j]? = some v := by
  rw [fm_get TmA.row_len ts i j hi hj, Array.getElem?_toList]; exact hv
theorem KpF.cell {ks : List KpA} {i j : Nat} {v : Value} (hi : i < ks.length) (hj : j < 45) (hv : (gK ks i).row[j]? = some v) : (ks.flatMap fun t => t.row.toList)[i * 45 + j]? = some v := by
  rw [fm_get KpA.row_len ks i j hi hj, Array.getElem?_toList]; exact hv
theorem TmF.ldA {ts : List TmA} {i : Nat} (ha : ∀ w, (isAgg e).run P w = .ok true w) (hs : ∀ w, (sizeOf e).run P w = .ok 36 w) (h : TmF w a c ts) (hi : i < ts.length) :
    (do pure (Next.value (← Instr.loadAt e (.pointer (adr a (i * 36))))) : Sem Next).run P w = .ok (.value (.agg (gT ts i).row)) w := by
  have h1 := ld_rsA (us := (gT ts i).row.toList) ha hs h.rows (TmA.row_len _) (by decide) (fun j hj => fm_get TmA.row_len ts i j hi hj)
  rw [Array.toArray_toList] at h1; exact h1
theorem KpF.ldA {ks : List KpA} {i : Nat} (ha : ∀ w, (isAgg e).run P w = .ok true w) (hs : ∀ w, (sizeOf e).run P w = .ok 45 w) (h : KpF w a c ks) (hi : i < ks.length) :
    (do pure (Next.value (← Instr.loadAt e (.pointer (adr a (i * 45))))) : Sem Next).run P w = .ok (.value (.agg (gK ks i).row)) w := by
  have h1 := ld_rsA (us := (gK ks i).row.toList) ha hs h.rows (KpA.row_len _) (by decide) (fun j hj => fm_get KpA.row_len ks i j hi hj)
  rw [Array.toArray_toList] at h1; exact h1
end
def kdN (k : Int) : Int := if k = 1 ∨ k = 2 then 0 else if k = 3 ∨ k = 4 ∨ k = 5 then 1 else if k = 6 then 2 else -1
theorem kdN_rng (k : Int) : -1 ≤ kdN k ∧ kdN k ≤ 2 := by unfold kdN; split <;> (try split) <;> (try split) <;> decide
def whB : Int → List TmA → Bool
  | m, [] => decide (m = 0)
  | m, t :: r => if m = 0 ∨ kdN t.kd < 0 then false else whB (m + (kdN t.kd - 1)) r
def fdN (kd m : Int) (nu h n : Nat) : Bool :=
  if kd ≠ 2 ∧ m ≠ 0 then false else if (kd ≠ 3 ∧ kd ≠ 4) ∧ nu ≠ 0 then false else if kd ≠ 5 ∧ h ≠ 0 then false else
  if kd = 1 then decide (n = 1) else if kd = 2 then decide (1 ≤ n ∧ n ≤ 15 ∧ 1 ≤ m ∧ m ≤ (n : Int)) else decide (n = 0)
def TmA.fd (t : TmA) : Bool := fdN t.kd t.m t.nu t.h t.ks.length
def KpA.w1 (p : KpA) : Nat := if p.wd = true then 1 else 0
def KpA.vp (p : KpA) : Bool := decide (p.ps.length ≤ 8) && (sndB p.k && (decide (p.k.d + p.ps.length + p.w1 ≤ 8) && (!p.ps.any hdB || decide (p.k.s ≠ 0))))
def vkB (ks : List KpA) : Bool := ks.all KpA.vp
def TmA.vk (t : TmA) : Bool := vkB t.ks
def vlB (ts : List TmA) : Bool := decide (1 ≤ ts.length ∧ ts.length ≤ 8) && (whB 1 ts && (ts.all TmA.fd && ts.all TmA.vk))
def rgK (ks : List KpA) : Bool := ks.any KpA.wd
def TmA.rg (t : TmA) : Bool := rgK t.ks
def rgB (ts : List TmA) : Bool := ts.any TmA.rg
section
variable {α : Type} [Inhabited α] {f : α → Bool} {l : List α} {i : Nat}
theorem dropD (h : i < l.length) : l.drop i = l.getD i default :: l.drop (i + 1) := by
  rw [List.drop_eq_getElem_cons h, List.getD_eq_getElem?_getD, List.getElem?_eq_getElem h]; rfl
theorem all_next (h : i < l.length) (hf : f (l.getD i default) = true) (hr : (l.drop i).all f = l.all f) : (l.drop (i + 1)).all f = l.all f := by
  rw [dropD h, List.all_cons, hf, Bool.true_and] at hr; exact hr
theorem all_stop (h : i < l.length) (hf : f (l.getD i default) = false) (hr : (l.drop i).all f = l.all f) : l.all f = false := by
  rw [dropD h, List.all_cons, hf, Bool.false_and] at hr; exact hr.symm
theorem any_next (h : i < l.length) (hf : f (l.getD i default) = false) (hr : (l.drop i).any f = l.any f) : (l.drop (i + 1)).any f = l.any f := by
  rw [dropD h, List.any_cons, hf, Bool.false_or] at hr; exact hr
theorem any_stop (h : i < l.length) (hf : f (l.getD i default) = true) (hr : (l.drop i).any f = l.any f) : l.any f = true := by
  rw [dropD h, List.any_cons, hf, Bool.true_or] at hr; exact hr.symm
end
theorem all_end {α : Type} {f : α → Bool} {l : List α} {i : Nat} (h : l.length ≤ i) (hr : (l.drop i).all f = l.all f) : l.all f = true := by
  rw [List.drop_eq_nil_of_le h] at hr; exact hr.symm
theorem any_end {α : Type} {f : α → Bool} {l : List α} {i : Nat} (h : l.length ≤ i) (hr : (l.drop i).any f = l.any f) : l.any f = false := by
  rw [List.drop_eq_nil_of_le h] at hr; exact hr.symm
theorem wh_next {ts : List TmA} {i : Nat} {m : Int} (h : i < ts.length) (h0 : m ≠ 0) (hk : ¬ kdN (gT ts i).kd < 0) (hr : whB m (ts.drop i) = whB 1 ts) : whB (m + (kdN (gT ts i).kd - 1)) (ts.drop (i + 1)) = whB 1 ts := by
  rw [dropD h] at hr
  simp only [whB] at hr
  rw [if_neg (by intro q; rcases q with q | q; exact h0 q; exact hk q)] at hr
  exact hr
theorem wh_stop {ts : List TmA} {i : Nat} {m : Int} (h : i < ts.length) (hk : m = 0 ∨ kdN (gT ts i).kd < 0) (hr : whB m (ts.drop i) = whB 1 ts) : whB 1 ts = false := by
  rw [dropD h] at hr
  simp only [whB] at hr
  have hk' : m = 0 ∨ kdN (ts.getD i default).kd < 0 := hk
  rw [if_pos hk'] at hr
  exact hr.symm
theorem wh_end {ts : List TmA} {i : Nat} {m : Int} (h : ts.length ≤ i) (hr : whB m (ts.drop i) = whB 1 ts) : decide (m = 0) = whB 1 ts := by
  rw [List.drop_eq_nil_of_le h] at hr; exact hr
theorem beq_dec (m : Int) : (m == 0) = decide (m = 0) := by rw [Bool.eq_iff_iff, beq_iff_eq, decide_eq_true_eq]
theorem kd_1 {z : Int} (h : z = 1 ∨ z = 2) : 0 = kdN z := by unfold kdN; rw [if_pos h]
theorem kd_3 {z : Int} (h : z = 3 ∨ z = 4 ∨ z = 5) : 1 = kdN z := by unfold kdN; rw [if_neg (by omega), if_pos h]
theorem kd_6 {z : Int} (h : z = 6) : 2 = kdN z := by unfold kdN; rw [if_neg (by omega), if_neg (by omega), if_pos h]
theorem kd_0 {z : Int} (h : ¬ (1 ≤ z ∧ z ≤ 6)) : -1 = kdN z := by unfold kdN; rw [if_neg (by omega), if_neg (by omega), if_neg (by omega)]
def FdP (kd m : Int) (nu h n : Nat) : Prop := (kd = 2 ∨ m = 0) ∧ (kd = 3 ∨ kd = 4 ∨ nu = 0) ∧ (kd = 5 ∨ h = 0) ∧ (kd = 1 → n = 1) ∧ (kd = 2 → 1 ≤ n ∧ n ≤ 15 ∧ 1 ≤ m ∧ m ≤ (n : Int)) ∧ (kd ≠ 1 → kd ≠ 2 → n = 0)
theorem fd_iff (kd m : Int) (nu h n : Nat) : fdN kd m nu h n = true ↔ FdP kd m nu h n := by
  unfold fdN FdP
  split
  · simp; omega
  · split
    · simp; omega
    · split
      · simp; omega
      · split
        · simp; omega
        · split
          · simp; omega
          · simp; omega
section
variable {kd m : Int} {nu h n : Nat}
theorem fd_f (q : ¬ FdP kd m nu h n) : false = fdN kd m nu h n := (Bool.eq_false_iff.2 (fun e => q ((fd_iff kd m nu h n).1 e))).symm
theorem fd_d {p : Prop} [Decidable p] (q : p ↔ FdP kd m nu h n) : decide p = fdN kd m nu h n := by rw [Bool.eq_iff_iff, decide_eq_true_eq, fd_iff]; exact q
theorem fd_b {x y : Int} (q : x = y ↔ FdP kd m nu h n) : (x == y) = fdN kd m nu h n := by rw [Bool.eq_iff_iff, beq_iff_eq, fd_iff]; exact q
end
theorem beq_f {x y : Int} (h : x ≠ y) : (x == y) = false := by simpa using h
theorem bneI {x y : Int} (h : (x != y) = true) : x ≠ y := by simpa using h
theorem bneI0 {x y : Int} (h : (x != y) = false) : x = y := by simpa using h
section
variable {ts : List TmA} {m : Int} (hw : decide (m = 0) = whB 1 ts)
include hw
end
theorem vl_a {ts : List TmA} (h : ¬ (1 ≤ ts.length ∧ ts.length ≤ 8)) : false = vlB ts := by unfold vlB; rw [decide_eq_false h]; rfl
theorem vl_b {ts : List TmA} (h : whB 1 ts = false) : false = vlB ts := by unfold vlB; rw [h, Bool.false_and, Bool.and_false]
theorem vl_c {ts : List TmA} (h : ts.all TmA.fd = false) : false = vlB ts := by unfold vlB; rw [h, Bool.false_and, Bool.and_false, Bool.and_false]
theorem vl_d {ts : List TmA} (h : ts.all TmA.vk = false) : false = vlB ts := by unfold vlB; rw [h, Bool.and_false, Bool.and_false, Bool.and_false]
theorem vl_e {ts : List TmA} (h1 : 1 ≤ ts.length ∧ ts.length ≤ 8) (h2 : whB 1 ts = true) (h3 : ts.all TmA.fd = true) (h4 : ts.all TmA.vk = true) : true = vlB ts := by unfold vlB; rw [decide_eq_true h1, h2, h3, h4]; rfl
theorem w1_t {p : KpA} (h : p.wd = true) : p.w1 = 1 := by unfold KpA.w1; rw [if_pos h]
theorem w1_f {p : KpA} (h : p.wd = false) : p.w1 = 0 := by unfold KpA.w1; rw [h]; rfl
theorem vp_1 {p : KpA} (h : ¬ p.ps.length ≤ 8) : false = p.vp := by unfold KpA.vp; rw [decide_eq_false h]; rfl
theorem vp_2 {p : KpA} (h : sndB p.k = false) : false = p.vp := by unfold KpA.vp; rw [h, Bool.false_and, Bool.and_false]
theorem vp_3 {p : KpA} (h : ¬ p.k.d + p.ps.length + p.w1 ≤ 8) : false = p.vp := by unfold KpA.vp; rw [decide_eq_false h, Bool.false_and, Bool.and_false, Bool.and_false]
theorem vp_4 {p : KpA} (h : p.ps.any hdB = true) (hs : p.k.s = 0) : false = p.vp := by unfold KpA.vp; rw [h, decide_eq_false (not_not_intro hs), Bool.not_true, Bool.or_false, Bool.and_false, Bool.and_false, Bool.and_false]
theorem vp_5 {p : KpA} (h1 : p.ps.length ≤ 8) (h2 : sndB p.k = true) (h3 : p.k.d + p.ps.length + p.w1 ≤ 8) (h : p.ps.any hdB = false ∨ p.k.s ≠ 0) : true = p.vp := by
  unfold KpA.vp
  rw [decide_eq_true h1, h2, decide_eq_true h3]
  rcases h with h | h
  · rw [h]; rfl
  · rw [decide_eq_true h, Bool.or_true]; rfl
theorem hd_dec (x : Nat) : decide (2147483648 ≤ ((x : Nat) : Int)) = hdB x := by unfold hdB; rw [decide_eq_decide]; omega
def ixA : List Nat → Nat → Int
  | [], _ => -1
  | x :: r, i => if hdB x = true then (i : Int) else ixA r (i + 1)
theorem ixA_any : ∀ (ps : List Nat) (i : Nat), decide (0 ≤ ixA ps i) = ps.any hdB
  | [], _ => rfl
  | x :: r, i => by
    rw [ixA, List.any_cons]
    by_cases h : hdB x = true
    · rw [if_pos h, h, Bool.true_or]; exact decide_eq_true (by omega)
    · rw [if_neg h, Bool.eq_false_iff.2 h, Bool.false_or]; exact ixA_any r (i + 1)
theorem ix_next {ps : List Nat} {i : Nat} (h : i < ps.length) (hf : hdB (ps.getD i 0) = false) (hr : ixA (ps.drop i) i = ixA ps 0) : ixA (ps.drop (i + 1)) (i + 1) = ixA ps 0 := by
  rw [drop_get h, ixA, hf] at hr; exact hr
theorem ix_stop {ps : List Nat} {i : Nat} (h : i < ps.length) (hf : hdB (ps.getD i 0) = true) (hr : ixA (ps.drop i) i = ixA ps 0) : (i : Int) = ixA ps 0 := by
  rw [drop_get h, ixA, hf] at hr; exact hr
theorem ix_end {ps : List Nat} {i : Nat} (h : ps.length ≤ i) (hr : ixA (ps.drop i) i = ixA ps 0) : -1 = ixA ps 0 := by
  rw [List.drop_eq_nil_of_le h] at hr; exact hr
def KpA.hf (p : KpA) (x : Nat) : Bool := hdB x && decide (p.k.s = 0)
def tmR (ts : List TmA) : List Value := ts.flatMap fun t => t.row.toList
def kpR (ks : List KpA) : List Value := ks.flatMap fun p => p.row.toList
theorem tmR_len (ts : List TmA) : (tmR ts).length = ts.length * 36 := fm_len TmA.row_len ts
theorem kpR_len (ks : List KpA) : (kpR ks).length = ks.length * 45 := fm_len KpA.row_len ks
theorem cU_one (s : Nat) : ∀ u ∈ (cU s).toList, u.oneCell' = true := by
  intro u hu
  simp [] at hu
  rcases hu with rfl | rfl | rfl | rfl <;> rfl
theorem hB_oneL (h : Nat) : ∀ u ∈ (hB h).toList, u.oneCell' = true := by
  intro u hu
  unfold hB at hu
  simp only [List.mem_map] at hu
  obtain ⟨i, _, rfl⟩ := hu
  rfl
theorem TmA.row_one (t : TmA) : ∀ u ∈ t.row.toList, u.oneCell' = true := by
  intro u hu
  simp only [TmA.row, tmV, Array.toList_append, List.mem_append] at hu
  rcases hu with (hu | hu) | hu
  · simp at hu; rcases hu with rfl | rfl | rfl <;> rfl
  · exact hB_oneL _ u hu
  · simp at hu; rcases hu with rfl; rfl
theorem tmR_one (ts : List TmA) : ∀ u ∈ tmR ts, u.oneCell' = true := by
  intro u hu
  obtain ⟨t, _, hu⟩ := List.mem_flatMap.1 hu
  exact t.row_one u hu
theorem TmF.src {P : Program} {w : World} {a : Option Addr} {c : Nat} {ts : List TmA} {tx e' : TypeId} (hk : P.underlying tx = some (.slice e')) (h : TmF w a c ts) : Src P 36 tx (.slice a ts.length c) ts.length (tmR ts) w := by
  cases a with
  | none =>
    have h0 : ts = [] := by
      rcases h.rows with h0 | ⟨p, hp, _⟩
      · have := congrArg List.length h0
        rw [fm_len TmA.row_len] at this
        exact List.eq_nil_of_length_eq_zero (by simp only [List.length_nil] at this; omega)
      · exact absurd hp (by simp)
    subst h0
    exact Src.ofNil w hk c
  | some p =>
    refine Src.ofSlice w hk p ts.length c (tmR ts) (tmR_len ts) ?_ (tmR_one ts)
    intro j u hu
    rcases h.rows with h0 | ⟨p', hp, hh⟩
    · rw [show tmR ts = [] from h0] at hu; simp at hu
    · obtain rfl : p = p' := by simpa using hp
      exact hh j u hu
abbrev At (C : Array Value) (ts : List TmA) (c : Nat) : Prop := Av C 36 ts.length (tmR ts) c
theorem At.app {C : Array Value} {ts us : List TmA} {c : Nat} (h : Av C 36 (ts.length + us.length) (tmR ts ++ tmR us) c) : At C (ts ++ us) c := by
  unfold At
  rw [List.length_append, show tmR (ts ++ us) = tmR ts ++ tmR us from List.flatMap_append]
  exact h
theorem At.src {P : Program} {w : World} {g c : Nat} {C : Array Value} {ts : List TmA} {T tx e' : TypeId} {fr : Nat × Nat} (hk : P.underlying tx = some (.slice e')) (hb : w.heap[g]? = some (.cells C T fr)) (hA : At C ts c) : Src P 36 tx (.slice (some ⟨g, 0, none⟩) ts.length c) ts.length (tmR ts) w := by
  refine Src.ofSlice w hk ⟨g, 0, none⟩ ts.length c (tmR ts) (tmR_len ts) ?_ (tmR_one ts)
  intro j u hu
  rcases Rs.of_av hb hA with h0 | ⟨p', hp, hh⟩
  · rw [h0] at hu; simp at hu
  · obtain rfl : (⟨g, 0, none⟩ : Addr) = p' := by simpa using hp
    exact hh j u hu
theorem At.empty : At #[] [] 0 := ⟨rfl, rfl, Nat.le_refl _, rfl⟩
theorem At.one (t : TmA) : At t.row [t] 1 := by
  have e : tmR [t] = t.row.toList := by simp [tmR]
  refine ⟨?_, ?_, Nat.le_refl _, ?_⟩
  · rw [e, List.take_length]
  · rw [tmR_len]
  · have := t.row_len
    rw [Array.length_toList] at this
    exact this
theorem fm_set {α : Type} {f : α → List Value} {n : Nat} (hf : ∀ x, (f x).length = n) : ∀ (l : List α) (i o : Nat) (x : α) (v : Value), i < l.length → o < n → (∀ y, l[i]? = some y → f x = (f y).set o v) → (l.set i x).flatMap f = (l.flatMap f).set (i * n + o) v
  | [], _, _, _, _, h, _, _ => absurd h (by simp)
  | y :: r, 0, o, x, v, _, ho, hx => by
    rw [List.set_cons_zero, List.flatMap_cons, List.flatMap_cons, Nat.zero_mul, Nat.zero_add, List.set_append_left _ _ (by rw [hf]; exact ho), hx y rfl]
  | y :: r, i + 1, o, x, v, h, ho, hx => by
    rw [List.set_cons_succ, List.flatMap_cons, List.flatMap_cons, fm_set hf r i o x v (by simpa using h) ho (fun z hz => hx z (by simpa using hz)), List.set_append_right _ _ (by rw [hf, Nat.add_mul, Nat.one_mul]; omega), hf, show (i + 1) * n + o - n = i * n + o by rw [Nat.add_mul, Nat.one_mul]; omega]
theorem Av.set {C : Array Value} {sz n c j : Nat} {xs : List Value} {v : Value} (h : Av C sz n xs c) : Av (C.setIfInBounds j v) sz n (xs.set j v) c := by
  refine ⟨?_, by rw [List.length_set]; exact h.len, h.le, by rw [Array.size_setIfInBounds]; exact h.size⟩
  rw [List.length_set, Array.toList_setIfInBounds, List.take_set, h.hd]
theorem At.set {C : Array Value} {ts : List TmA} {c j o : Nat} {v : Value} (t' : TmA) (h : At C ts c) (hj : j < ts.length) (ho : o < 36) (hr : t'.row.toList = (gT ts j).row.toList.set o v) : At (C.setIfInBounds (j * 36 + o) v) (ts.set j t') c := by
  have e : tmR (ts.set j t') = (tmR ts).set (j * 36 + o) v := fm_set TmA.row_len ts j o t' v hj ho (fun y hy => by
    rw [hr]
    have : gT ts j = y := by unfold gT; rw [List.getD_eq_getElem?_getD, hy]; rfl
    rw [this])
  unfold At
  rw [List.length_set, e]
  exact Av.set h
theorem At.get {C : Array Value} {ts : List TmA} {c j o : Nat} {v : Value} (h : At C ts c) (hj : j < ts.length) (ho : o < 36) (hv : (gT ts j).row[o]? = some v) : C[j * 36 + o]? = some v := by
  have h1 := TmF.cell hj ho hv
  have h2 := h.hd
  rw [show (ts.flatMap fun t => t.row.toList) = tmR ts from rfl, ← h2, List.getElem?_take] at h1
  split at h1
  · simpa using h1
  · exact absurd h1 (by simp)
theorem At.size {C : Array Value} {ts : List TmA} {c j o : Nat} (h : At C ts c) (hj : j < ts.length) (ho : o < 36) : j * 36 + o < C.size := by
  have := h.le; rw [Av.size h]; omega
theorem rsP {T : Nat → Prop} {w0 w : World} {g sz n c : Nat} {C : Array Value} {e : TypeId} {fr : Nat × Nat} {xs : List Value} (hT : ∀ b, T b → b < w0.heap.size) (hg : w0.heap.size ≤ g ∧ w.heap[g]? = some (.cells C e fr)) (hA : Av C sz n xs c) : Pers T (fun w => Rs w (some ⟨g, 0, none⟩) xs) w :=
  (Rs.of_av hg.2 hA).pers (fun p hp _ hx => by
    obtain rfl : (⟨g, 0, none⟩ : Addr) = p := by simpa using hp
    have h1 : g < w0.heap.size := hT _ hx
    have := hg.1
    omega)
def SubT (ts ts' : List TmA) : Prop := ∀ t' ∈ ts', t'.Ok ∧ (t'.ks = [] ∨ ∃ t ∈ ts, t'.ka = t.ka ∧ t'.kc = t.kc ∧ t'.ks = t.ks)
theorem SubT.refl {ts : List TmA} (h : ∀ t ∈ ts, t.Ok) : SubT ts ts := fun t ht => ⟨h t ht, Or.inr ⟨t, ht, rfl, rfl, rfl⟩⟩
theorem SubT.app {ts us vs : List TmA} (h : SubT ts us) (h2 : SubT ts vs) : SubT ts (us ++ vs) := fun t ht => (List.mem_append.1 ht).elim (h t) (h2 t)
theorem SubT.tail {ts us : List TmA} (h : SubT ts us) : SubT ts us.tail := fun t ht => h t (List.mem_of_mem_tail ht)
theorem SubT.set {ts us : List TmA} {j : Nat} {t' : TmA} (h : SubT ts us) (ho : t'.Ok) (hk : t'.ks = [] ∨ ∃ t ∈ ts, t'.ka = t.ka ∧ t'.kc = t.kc ∧ t'.ks = t.ks) : SubT ts (us.set j t') := fun t ht => by
  rcases List.mem_or_eq_of_mem_set ht with h1 | rfl
  · exact h t h1
  · exact ⟨ho, hk⟩
theorem TmF.tail {w : World} {a : Option Addr} {c : Nat} {ts : List TmA} (h : TmF w a c ts) (h0 : 0 < ts.length) : TmF w (if c = 1 then a else a.map (·.add (1 * 36))) (c - 1) ts.tail := by
  have hle := h.le
  refine ⟨by rw [List.length_tail]; omega, by rw [List.length_tail]; have := h.max; omega, ?_, fun t ht => h.sub t (List.mem_of_mem_tail ht), fun t ht => h.ok t (List.mem_of_mem_tail ht)⟩
  by_cases hc : c = 1
  · have : ts.tail = [] := List.eq_nil_of_length_eq_zero (by rw [List.length_tail]; omega)
    rw [this]; exact Or.inl rfl
  · rw [if_neg hc]
    have e : (ts.tail.flatMap fun t => t.row.toList) = (ts.flatMap fun t => t.row.toList).drop 36 := by
      cases ts with
      | nil => simp at h0
      | cons t r => rw [List.tail_cons, List.flatMap_cons, List.drop_append_of_le_length (by rw [TmA.row_len]; exact Nat.le_refl _), List.drop_of_length_le (by rw [TmA.row_len]; exact Nat.le_refl _), List.nil_append]
    rw [e]
    exact h.rows.drop 36
def zTm : Value := .agg #[.int .i64 0, .int .i64 0, .int .u32 0, .int .u8 0, .int .u8 0, .int .u8 0, .int .u8 0, .int .u8 0, .int .u8 0, .int .u8 0, .int .u8 0, .int .u8 0, .int .u8 0, .int .u8 0, .int .u8 0, .int .u8 0, .int .u8 0, .int .u8 0, .int .u8 0, .int .u8 0, .int .u8 0, .int .u8 0, .int .u8 0, .int .u8 0, .int .u8 0, .int .u8 0, .int .u8 0, .int .u8 0, .int .u8 0, .int .u8 0, .int .u8 0, .int .u8 0, .int .u8 0, .int .u8 0, .int .u8 0, .slice none 0 0]
def SoftK (p : KpA) : Prop := sndB p.k = true ∧ ∀ i ∈ p.ps, hdB i = false
def SoftL (t : TmA) : Prop := t.ks.length ≤ 2 ∧ (t.kd = 2 → t.ks.length = 2) ∧ ∀ p ∈ t.ks, SoftK p
def Soft (ts : List TmA) : Prop := ∀ t ∈ ts, SoftL t
def TmN (w : World) (a : Option Addr) (c : Nat) (ts : List TmA) : Prop := TmF w a c ts ∧ 0 < ts.length ∧ ts.length ≤ 8 ∧ Soft ts
theorem TmN.pers0 {w : World} {a : Option Addr} {c : Nat} {ts : List TmA} (h : TmN w a c ts) : Pers (fun _ => False) (fun w => TmN w a c ts) w := h.1.pers0.mono (fun _ h1 => ⟨h1, h.2⟩)
def ot (ρ : Nat → Orc) (i : Nat) : List TmA := (ρ i).t
section
variable {P : Program} {ops : Array Oper} {D : List Nat} {l : List (Nat × Value)} {w0 : Base} {h : List (Nat × Obj)} {F0 : World → Prop}
variable {vals : (Nat → Orc) → Nat → Value} {effs : (Nat → Orc) → Nat → Eff} {fact : (Nat → Orc) → Nat → World → Prop}
theorem o_callWT (i : Nat) (ns : List Nat) (f : FuncId) (args : (Nat → Orc) → Array Value) (v : (Nat → Orc) → Option Addr → Nat → List TmA → Value) (K : (Nat → Orc) → List (Nat × Obj)) (K' : (Nat → Orc) → Nat → List (Nat × Obj))
    (hf : ∀ ρ T w, Given ops D w0 h F0 effs fact i ρ T w → Knows (K ρ) w → Calls P f (args ρ) w (fun e w' => ∃ a c ts j, e = .returned (v ρ a c ts) ∧ Upd (fun b => b ∈ (K ρ).map (·.1)) w w' ∧ Knows (K' ρ j) w' ∧ Pers (fun b => b < w.heap.size) (fun w => TmN w a c ts) w'))
    (hc : ∀ ρ z, callChkF P ops D l (vals ρ) i z = some (.enter f (args ρ), [], []) := by intros; kernel_rfl)
    (hv : ∀ ρ r, vals (upd ρ i r) i = v ρ r.a (r.n.headD 0) r.t := by intros; kernel_rfl) (he : ∀ ρ r, effs (upd ρ i r) i = { puts := ns.zip (K' ρ (r.n.tail.headD 0)) } := by intros; kernel_rfl)
    (hn : ∀ ρ, namesOk ops D h (effs ρ) i ns = true := by intros; kernel_rfl) (hk : ∀ ρ, known ops D h (effs ρ) i ns = K ρ := by intros; kernel_rfl) (hl : ∀ ρ j, (K' ρ j).map (·.1) = (K ρ).map (·.1) := by intros; kernel_rfl)
    (ht : ∀ ρ r, fact (upd ρ i r) i = (fun w => TmN w r.a (r.n.headD 0) r.t) := by intros; kernel_rfl) : Obl P ops D l w0 h F0 vals effs fact i := by
  refine o_callGW i ns f args K (fun ρ r => K' ρ (r.n.tail.headD 0)) hc he hn hk (fun ρ r => hl ρ _) (fun ρ T w hG hK => (hf ρ T w hG hK).mono (fun e w' hew => ?_))
  obtain ⟨a, c, ts, j, h1, h2, h3, h4⟩ := hew
  refine ⟨h2, { n := [c, j], a := a, t := ts }, ?_, h3, ?_⟩
  · rw [hv]; exact h1
  · rw [ht]; exact h4
theorem o_callWJ (i : Nat) (ns : List Nat) (f : FuncId) (args : (Nat → Orc) → Array Value) (v : (Nat → Orc) → Option Addr → Nat → Value) (ik : IntKind) (zs : (Nat → Orc) → List Int) (K K' : (Nat → Orc) → List (Nat × Obj))
    (hf : ∀ ρ T w, Given ops D w0 h F0 effs fact i ρ T w → Knows (K ρ) w → Calls P f (args ρ) w (fun e w' => ∃ a c, e = .returned (v ρ a c) ∧ Upd (fun b => b ∈ (K ρ).map (·.1)) w w' ∧ Knows (K' ρ) w' ∧ Fi w w' ik a c (zs ρ)))
    (hc : ∀ ρ z, callChkF P ops D l (vals ρ) i z = some (.enter f (args ρ), [], []) := by intros; kernel_rfl)
    (hv : ∀ ρ r, vals (upd ρ i r) i = v ρ r.a (r.n.headD 0) := by intros; kernel_rfl) (he : ∀ ρ r, effs (upd ρ i r) i = { puts := ns.zip (K' ρ) } := by intros; kernel_rfl)
    (hn : ∀ ρ, namesOk ops D h (effs ρ) i ns = true := by intros; kernel_rfl) (hk : ∀ ρ, known ops D h (effs ρ) i ns = K ρ := by intros; kernel_rfl) (hl : ∀ ρ, (K' ρ).map (·.1) = (K ρ).map (·.1) := by intros; kernel_rfl)
    (ht : ∀ ρ r, fact (upd ρ i r) i = (fun w => Fi w0.w w ik r.a (r.n.headD 0) (zs ρ)) := by intros; kernel_rfl) : Obl P ops D l w0 h F0 vals effs fact i := by
  refine o_callGW i ns f args K (fun ρ _ => K' ρ) hc he hn hk (fun ρ _ => hl ρ) (fun ρ T w hG hK => (hf ρ T w hG hK).mono (fun e w' hew => ?_))
  obtain ⟨a, c, h1, h2, h3, h4⟩ := hew
  refine ⟨h2, { n := [c], a := a }, ?_, h3, ?_⟩
  · rw [hv]; exact h1
  · rw [ht]; exact (h4.pers (fun b hb => hb)).mono (fun _ hi => ⟨hi, fun p hp hn => Nat.le_trans hG.below.size (h4.2 p hp hn)⟩)
theorem qWJ {i : Nat} (ns : List Nat) {f : FuncId} {args : (Nat → Orc) → Array Value} {v : (Nat → Orc) → Option Addr → Nat → Value} {ik : IntKind} {zs : (Nat → Orc) → List Int} {K K' : (Nat → Orc) → List (Nat × Obj)}
    (hf : ∀ ρ T w, Given ops D w0 h F0 effs fact i ρ T w → Knows (K ρ) w → Calls P f (args ρ) w (fun e w' => ∃ a c, e = .returned (v ρ a c) ∧ Upd (fun b => b ∈ (K ρ).map (·.1)) w w' ∧ Knows (K' ρ) w' ∧ Fi w w' ik a c (zs ρ)))
    (hc : ∀ ρ z, callChkF P ops D l (vals ρ) i z = some (.enter f (args ρ), [], []) := by intros; kernel_rfl)
    (hv : ∀ ρ r, vals (upd ρ i r) i = v ρ r.a (r.n.headD 0) := by intros; kernel_rfl) (he : ∀ ρ r, effs (upd ρ i r) i = { puts := ns.zip (K' ρ) } := by intros; kernel_rfl)
    (hn : ∀ ρ, namesOk ops D h (effs ρ) i ns = true := by intros; kernel_rfl) (hk : ∀ ρ, known ops D h (effs ρ) i ns = K ρ := by intros; kernel_rfl) (hl : ∀ ρ, (K' ρ).map (·.1) = (K ρ).map (·.1) := by intros; kernel_rfl)
    (ht : ∀ ρ r, fact (upd ρ i r) i = (fun w => Fi w0.w w ik r.a (r.n.headD 0) (zs ρ)) := by intros; kernel_rfl) : Obl P ops D l w0 h F0 vals effs fact i := o_callWJ i ns f args v ik zs K K' hf hc hv he hn hk hl ht
end
section
variable {P : Program} {t e : TypeId} {b : Nat} {z : Value}
theorem src_t1 {w : World} {g : Nat} {x : TmA} {T tx e' : TypeId} {fr : Nat × Nat} (hk : P.underlying tx = some (.slice e')) (hb : w.heap[g]? = some (.cells x.row T fr)) : Src P 36 tx (.slice (some ⟨g, 0, none⟩) 1 1) 1 (tmR [x]) w := by
  have e : tmR [x] = x.row.toList := by simp [tmR]
  rw [e]
  exact src_blk hk (by rw [Array.toArray_toList]; exact hb) (by rw [x.row_len]) (List.all_eq_true.2 x.row_one)
theorem src_t2 {w : World} {g : Nat} {x y : TmA} {T tx e' : TypeId} {fr : Nat × Nat} (hk : P.underlying tx = some (.slice e')) (hb : w.heap[g]? = some (.cells (x.row ++ y.row) T fr)) : Src P 36 tx (.slice (some ⟨g, 0, none⟩) 2 2) 2 (tmR [x, y]) w := by
  have e : tmR [x, y] = (x.row ++ y.row).toList := by simp [tmR]
  rw [e]
  exact src_blk hk (by rw [Array.toArray_toList]; exact hb) (by rw [Array.toList_append, List.length_append, x.row_len, y.row_len]) (List.all_eq_true.2 (fun u hu => by
    rw [Array.toList_append] at hu
    exact (List.mem_append.1 hu).elim (x.row_one u) (y.row_one u)))
theorem appT_nil {w : World} {ty tx : TypeId} (ht : P.underlying t = some (.slice e)) (hi : elike P e 36 b z) {x : Value} {us : List TmA} (hs : Src P 36 tx x us.length (tmR us) w) (h0 : 0 < us.length) (hm : us.length ≤ 1000) (hb : b ≤ 1000) :
    ∃ k w', (do pure (Next.value (← Builtin.append_ #[t, tx] ty #[.slice none 0 0, x])) : Sem Next).run P w = .ok (.value (.slice (some ⟨([w.heap.size, k] : List Nat).headD 0, 0, none⟩) us.length (us.length + ([w.heap.size, k] : List Nat).tail.headD 0))) w' ∧ Grew w w' (.cells ((tmR us).toArray ++ Builtin.zeroCells z.cells (([w.heap.size, k] : List Nat).tail.headD 0)) e (0, 0)) :=
  appV_nil ht hi hs h0 (by omega) (Nat.le_trans (Nat.mul_le_mul hm hb) (by decide))
theorem At.fresh (hz : z.cells.size = 36) (us : List TmA) (k : Nat) : At ((tmR us).toArray ++ Builtin.zeroCells z.cells k) us (us.length + k) := Av.fresh hz (tmR_len us) k
theorem appT_any {w : World} {ty tx : TypeId} (ht : P.underlying t = some (.slice e)) (hi : elike P e 36 b z) {g c : Nat} {C : Array Value} {x : Value} {ts us : List TmA} (hA : At C ts c) (hs : Src P 36 tx x us.length (tmR us) w) (hm : ts.length + us.length ≤ 1000) (hb : b ≤ 1000) (hg : w.heap[g]? = some (.cells C e (0, 0))) :
    ∃ r w', (do pure (Next.value (← Builtin.append_ #[t, tx] ty #[.slice (some ⟨g, 0, none⟩) ts.length c, x])) : Sem Next).run P w = .ok (.value (.slice (some ⟨r.n.headD 0, 0, none⟩) (ts ++ us).length (r.n.tail.headD 0))) w' ∧ At (orcC r) (ts ++ us) (r.n.tail.headD 0) ∧ Moved w w' g (r.n.headD 0) (.cells (orcC r) e (0, 0)) := by
  obtain ⟨r, w', h1, h2, h3⟩ := appV_any (ty := ty) ht hi hA hs (by omega) (Nat.le_trans (Nat.mul_le_mul hm hb) (by decide)) hg
  refine ⟨r, w', ?_, At.app h2, h3⟩
  rw [List.length_append]; exact h1
end
theorem kp_one (p : KpA) : ∀ u ∈ p.row.toList, u.oneCell' = true := by
  intro u hu
  simp only [KpA.row, kpV, Array.toList_append, List.mem_append] at hu
  rcases hu with ((hu | hu) | hu) | hu
  · exact cU_one _ u hu
  · exact cU_one _ u hu
  · exact hB_oneL _ u hu
  · simp at hu; rcases hu with rfl | rfl | rfl | rfl | rfl <;> rfl
theorem Ak.one (p : KpA) : Av p.row 45 1 (kpR [p]) 1 := by
  have e : kpR [p] = p.row.toList := by simp [kpR]
  have hl := p.row_len
  refine ⟨?_, ?_, Nat.le_refl _, ?_⟩
  · rw [e, List.take_length]
  · rw [kpR_len]; rfl
  · rw [Array.length_toList] at hl; exact hl
theorem Ak.two (p q : KpA) : Av (p.row ++ q.row) 45 2 (kpR [p, q]) 2 := by
  have e : kpR [p, q] = (p.row ++ q.row).toList := by simp [kpR]
  have hl := p.row_len
  have hq := q.row_len
  rw [Array.length_toList] at hl hq
  refine ⟨?_, ?_, Nat.le_refl _, ?_⟩
  · rw [e, List.take_length]
  · rw [kpR_len]; rfl
  · rw [Array.size_append, hl, hq]
theorem kf1 {T : Nat → Prop} {w0 w : World} {g : Nat} {e : TypeId} {fr : Nat × Nat} {p : KpA} (hT : ∀ b, T b → b < w0.heap.size) (hg : w0.heap.size ≤ g ∧ w.heap[g]? = some (.cells p.row e fr)) (hf : Pers T (fun w => Is w .u32 p.pa p.pc (nI p.ps)) w) (ho : p.Ok) : Pers T (fun w => KpF w (some ⟨g, 0, none⟩) 1 [p]) w :=
  KpF.mkP (Nat.le_refl 1) (Nat.le_of_ble_eq_true rfl) (rsP hT hg (Ak.one p)) (fun q hq => by rw [List.mem_singleton.1 hq]; exact hf) (fun q hq => by rw [List.mem_singleton.1 hq]; exact ho)
theorem kf2 {T : Nat → Prop} {w0 w : World} {g : Nat} {e : TypeId} {fr : Nat × Nat} {p q : KpA} (hT : ∀ b, T b → b < w0.heap.size) (hg : w0.heap.size ≤ g ∧ w.heap[g]? = some (.cells (p.row ++ q.row) e fr)) (hf : Pers T (fun w => Is w .u32 p.pa p.pc (nI p.ps)) w) (ho : p.Ok) (hf2 : Pers T (fun w => Is w .u32 q.pa q.pc (nI q.ps)) w) (ho2 : q.Ok) : Pers T (fun w => KpF w (some ⟨g, 0, none⟩) 2 [p, q]) w :=
  KpF.mkP (Nat.le_refl 2) (Nat.le_of_ble_eq_true rfl) (rsP hT hg (Ak.two p q)) (fun r hr => by
    rcases List.mem_cons.1 hr with rfl | hr
    · exact hf
    · rw [List.mem_singleton.1 hr]; exact hf2) (fun r hr => by
    rcases List.mem_cons.1 hr with rfl | hr
    · exact ho
    · rw [List.mem_singleton.1 hr]; exact ho2)
def MadeT (T : Nat → Prop) (w : World) (t : TmA) : Prop := t.Ok ∧ Pers T (fun w => KpF w t.ka t.kc t.ks) w ∧ SoftL t
theorem soft_0 {t : TmA} (h : t.ks = []) (hk : t.kd ≠ 2) : SoftL t := ⟨by rw [h]; decide, fun q => absurd q hk, by rw [h]; simp⟩
theorem soft_1 {t : TmA} {q : KpA} (h : t.ks = [q]) (hk : t.kd ≠ 2) (hq : SoftK q) : SoftL t := ⟨by rw [h]; exact Nat.le_of_ble_eq_true rfl, fun q => absurd q hk, fun p hp => by rw [h] at hp; rw [List.mem_singleton.1 hp]; exact hq⟩
theorem soft_2 {t : TmA} {q r : KpA} (h : t.ks = [q, r]) (hq : SoftK q) (hr : SoftK r) : SoftL t := ⟨by rw [h]; exact Nat.le_refl 2, fun _ => by rw [h]; rfl, fun p hp => by
  rw [h] at hp
  rcases List.mem_cons.1 hp with e | e
  · rw [e]; exact hq
  · rw [List.mem_singleton.1 e]; exact hr⟩
theorem made_app {T : Nat → Prop} {w : World} {ts us : List TmA} (h : ∀ t ∈ ts, MadeT T w t) (h2 : ∀ t ∈ us, MadeT T w t) : ∀ t ∈ ts ++ us, MadeT T w t := fun t ht => (List.mem_append.1 ht).elim (h t) (h2 t)
theorem made_1 {T : Nat → Prop} {w : World} {t : TmA} (h : MadeT T w t) : ∀ x ∈ [t], MadeT T w x := fun x hx => by rw [List.mem_singleton.1 hx]; exact h
theorem made_2 {T : Nat → Prop} {w : World} {t u : TmA} (h : MadeT T w t) (h2 : MadeT T w u) : ∀ x ∈ [t, u], MadeT T w x := made_app (ts := [t]) (us := [u]) (made_1 h) (made_1 h2)
theorem made_all {T : Nat → Prop} {w0 w : World} {g c : Nat} {C : Array Value} {e : TypeId} {fr : Nat × Nat} {ts : List TmA} (hT : ∀ b, T b → b < w0.heap.size) (hg : w0.heap.size ≤ g ∧ w.heap[g]? = some (.cells C e fr)) (hA : At C ts c) (h : ∀ t ∈ ts, MadeT T w t) (h0 : 0 < ts.length) (h8 : ts.length ≤ 8) : Pers T (fun w => TmN w (some ⟨g, 0, none⟩) c ts) w :=
  (TmF.mkP hA.le (by omega) (rsP hT hg hA) (fun t ht => (h t ht).2.1) (fun t ht => (h t ht).1)).mono (fun _ hh => ⟨hh, h0, h8, fun t ht => (h t ht).2.2⟩)
def dm (v : Int) (n : Nat) : Nat := (v % (n : Int)).toNat
theorem dm_lt (v : Int) {n : Nat} (hn : 0 < n) : dm v n < n := by
  unfold dm
  have := Int.emod_nonneg v (b := (n : Int)) (by omega)
  have := Int.emod_lt_of_pos v (b := (n : Int)) (by omega)
  omega
def pN (zs : List Int) (j : Nat) : Nat := min j zs.length
def dN (zs : List Int) (j n : Nat) : Nat := if j < zs.length then dm (gI zs j) n else 0
theorem dN_lt (zs : List Int) (j : Nat) {n : Nat} (hn : 0 < n) : dN zs j n < n := by
  unfold dN
  split
  · exact dm_lt _ hn
  · exact hn
theorem pN_zero (zs : List Int) : pN zs 0 = 0 := Nat.zero_min _
theorem pN_lt {zs : List Int} {j : Nat} (h : pN zs j < zs.length) : j < zs.length ∧ pN zs j = j := by unfold pN at *; omega
theorem pN_ge {zs : List Int} {j : Nat} (h : ¬ pN zs j < zs.length) : ¬ j < zs.length ∧ pN zs (j + 1) = pN zs j := by unfold pN at *; omega
theorem pN_succ {zs : List Int} {j : Nat} (h : pN zs j < zs.length) : pN zs (j + 1) = pN zs j + 1 := by unfold pN at *; omega
theorem dN_yes {zs : List Int} {j n : Nat} (h : pN zs j < zs.length) : dm (gI zs (pN zs j)) n = dN zs j n := by
  obtain ⟨h1, h2⟩ := pN_lt h
  unfold dN
  rw [if_pos h1, h2]
theorem dN_no {zs : List Int} {j n : Nat} (h : ¬ pN zs j < zs.length) : 0 = dN zs j n := by
  unfold dN
  rw [if_neg (pN_ge h).1]
theorem mod_pos {v : Int} {n : Nat} (h : ¬ Int.tmod v n < 0) : Int.tmod v n = ((dm v n : Nat) : Int) := by
  unfold dm
  rcases Nat.eq_zero_or_pos n with h0 | h0
  · subst h0
    simp at h ⊢
    omega
  · have e := Int.emod_nonneg v (b := (n : Int)) (by omega)
    have e2 := Int.emod_lt_of_pos v (b := (n : Int)) (by omega)
    have h2 := Int.tmod_eq_emod (a := v) (b := (n : Int))
    rw [Int.natAbs_natCast] at h2
    split at h2 <;> omega
theorem mod_neg {v : Int} {n : Nat} (hn : 0 < n) (h : Int.tmod v n < 0) : Int.tmod v n + n = ((dm v n : Nat) : Int) := by
  unfold dm
  have e := Int.emod_nonneg v (b := (n : Int)) (by omega)
  have e2 := Int.emod_lt_of_pos v (b := (n : Int)) (by omega)
  have h2 := Int.tmod_eq_emod (a := v) (b := (n : Int))
  rw [Int.natAbs_natCast] at h2
  split at h2 <;> omega
def hs2 (a b : Nat) : Nat := a * 256 ^ 31 + b
theorem hs2_lt {a b : Nat} (ha : a < 256) (hb : b < 256) : hs2 a b < M := by
  unfold hs2
  rw [M_eq]
  have : a * 256 ^ 31 ≤ 255 * 256 ^ 31 := Nat.mul_le_mul_right _ (by omega)
  omega
theorem hs2_byt {a b : Nat} (ha : a < 256) (hb : b < 256) (i : Nat) (hi : i < 32) : bN (hs2 a b) i = if i = 0 then a else if i = 31 then b else 0 := by
  unfold bN hs2
  by_cases h0 : i = 0
  · subst h0
    rw [if_pos rfl]
    omega
  · rw [if_neg h0]
    by_cases h1 : i = 31
    · subst h1
      rw [if_pos rfl]
      omega
    · rw [if_neg h1]
      obtain ⟨j, hj⟩ : ∃ j, 31 - i = j + 1 := ⟨30 - i, by omega⟩
      have e1 : 256 ^ 31 = 256 ^ (31 - i) * 256 ^ i := by rw [← Nat.pow_add]; congr 1; omega
      have e2 : b / 256 ^ (31 - i) = 0 := Nat.div_eq_of_lt (Nat.lt_of_lt_of_le hb (by rw [hj]; exact Nat.le_self_pow (by omega) 256))
      rw [e1, Nat.mul_comm a, Nat.mul_assoc, Nat.mul_add_div (Nat.pow_pos (by decide)), e2, Nat.add_zero, Nat.mul_comm]
      obtain ⟨q, hq⟩ : ∃ q, i = q + 1 := ⟨i - 1, by omega⟩
      rw [hq, Nat.pow_succ, ← Nat.mul_assoc]
      exact Nat.mul_mod_left _ _
theorem hs2_agg {a b : Nat} (ha : a < 256) (hb : b < 256) : Value.agg #[.int .u8 ((a : Nat) : Int), .int .u8 0, .int .u8 0, .int .u8 0, .int .u8 0, .int .u8 0, .int .u8 0, .int .u8 0, .int .u8 0, .int .u8 0, .int .u8 0, .int .u8 0, .int .u8 0, .int .u8 0, .int .u8 0, .int .u8 0, .int .u8 0, .int .u8 0, .int .u8 0, .int .u8 0, .int .u8 0, .int .u8 0, .int .u8 0, .int .u8 0, .int .u8 0, .int .u8 0, .int .u8 0, .int .u8 0, .int .u8 0, .int .u8 0, .int .u8 0, .int .u8 ((b : Nat) : Int)] = .agg (hB (hs2 a b)) := by
  congr 1
  apply hB_ext rfl
  intro j hj
  rw [byt_bN, hs2_byt ha hb j hj]
  match j, hj with
  | 0, _ => rfl
  | 1, _ => rfl
  | 2, _ => rfl
  | 3, _ => rfl
  | 4, _ => rfl
  | 5, _ => rfl
  | 6, _ => rfl
  | 7, _ => rfl
  | 8, _ => rfl
  | 9, _ => rfl
  | 10, _ => rfl
  | 11, _ => rfl
  | 12, _ => rfl
  | 13, _ => rfl
  | 14, _ => rfl
  | 15, _ => rfl
  | 16, _ => rfl
  | 17, _ => rfl
  | 18, _ => rfl
  | 19, _ => rfl
  | 20, _ => rfl
  | 21, _ => rfl
  | 22, _ => rfl
  | 23, _ => rfl
  | 24, _ => rfl
  | 25, _ => rfl
  | 26, _ => rfl
  | 27, _ => rfl
  | 28, _ => rfl
  | 29, _ => rfl
  | 30, _ => rfl
  | 31, _ => rfl
  | j + 32, h => exact absurd h (by omega)
def mkX (zs : List Int) (j : Nat) : Nat := 1 + dN zs j 4
def mkK (zs : List Int) (j : Nat) (b : Bool) : Ky := { s := if b = true then mkX zs j else 0, p := pubV (mkX zs j), c := hs2 (dN zs (j + 1) 5) (dN zs (j + 2) 7), d := ((dN zs (j + 3) 3 : Nat) : Int), i := dN zs (j + 4) 5, n := dN zs (j + 5) 5 }
theorem mkX_pos (zs : List Int) (j : Nat) : 1 ≤ mkX zs j ∧ mkX zs j < 5 := by
  have := dN_lt zs j (n := 4) (by decide)
  unfold mkX
  omega
theorem small_lt {x : Nat} (h : x < 256) : x < M := by rw [M_eq]; exact Nat.lt_trans h (by decide)
theorem mkX_lt (zs : List Int) (j : Nat) : mkX zs j < M := small_lt (by have := mkX_pos zs j; omega)
theorem mkX_sec (zs : List Int) (j : Nat) : secB (mkX zs j) = true := by
  have := mkX_pos zs j
  unfold secB
  apply decide_eq_true
  exact ⟨by omega, Nat.lt_trans (show mkX zs j < 5 by omega) (by unfold qP; decide)⟩
theorem mkK_ok (zs : List Int) (j : Nat) (b : Bool) : (mkK zs j b).Ok := by
  have h1 := dN_lt zs (j + 1) (n := 5) (by decide)
  have h2 := dN_lt zs (j + 2) (n := 7) (by decide)
  have h4 := dN_lt zs (j + 4) (n := 5) (by decide)
  have h5 := dN_lt zs (j + 5) (n := 5) (by decide)
  exact ⟨ifM (mkX_lt _ _) zeroM, pubV_lt _, hs2_lt (by omega) (by omega), by show dN zs (j + 4) 5 < _; omega, by show dN zs (j + 5) 5 < _; omega⟩
theorem mkK_snd (zs : List Int) (j : Nat) (b : Bool) : sndB (mkK zs j b) = true := by
  have h3 := dN_lt zs (j + 3) (n := 3) (by decide)
  have hs := mkX_sec zs j
  refine snd_mk (by show 0 ≤ ((dN zs (j + 3) 3 : Nat) : Int); omega) (by show ((dN zs (j + 3) 3 : Nat) : Int) ≤ 8; omega) ?_ ?_
  · show valB (pubV (mkX zs j)) = true
    rw [(pub_yes hs).1]; exact val_pub hs
  · show (if b = true then mkX zs j else 0) = 0 ∨ (secB (if b = true then mkX zs j else 0) = true ∧ pubV (if b = true then mkX zs j else 0) = pubV (mkX zs j))
    cases b
    · exact Or.inl rfl
    · exact Or.inr ⟨hs, rfl⟩
section
variable {S : List UInt8} {t y x : Nat} (et : tagN tgM S = t) (ey : tagN tgI S = y) (ex : addmN t 0 qP = x) (h : ¬ (S.length < 16 ∨ 64 < S.length))
include et ex h
include ey
end
theorem dr_is {k : Ky} {p : List Nat} (h : sndB k = true) : drE k p = dvE k p ∧ drK k p = dvK k p := by unfold drE drK; rw [if_pos h, if_pos h]; exact ⟨rfl, rfl⟩
def KpA.ix (p : KpA) (i : Nat) : List Nat := if p.wd = true then p.ps ++ [i] else p.ps
def ksE (i : Nat) : List KpA → Int
  | [] => 0
  | p :: r => if drE p.k (p.ix i) = 0 then ksE i r else drE p.k (p.ix i)
def KpA.pn (i : Nat) (p : KpA) : Nat := (drK p.k (p.ix i)).p
def ksN (i : Nat) (ks : List KpA) : List Nat := ks.map (KpA.pn i)
def aK (ts : List TmA) : List KpA := ts.flatMap TmA.ks
def kyE (ts : List TmA) (z : Int) : Int := if vlB ts = true then (if 0 ≤ z ∧ z < 1000 then ksE z.toNat (aK ts) else 5) else 260
def kyN (ts : List TmA) (z : Int) : List Nat := if kyE ts z = 0 then ksN z.toNat (aK ts) else []
def psB (d : List UInt8) : List UInt8 := ([ob 1, ob ((d.length : Nat) : Int)] : List UInt8) ++ d
def itF : Nat → Nat → List UInt8
  | 0, _ => []
  | f + 1, n => if n = 0 then [] else ob ((n % 256 : Nat) : Int) :: itF f (n / 2 ^ 8)
def itB (n : Nat) : List UInt8 := itF 4 n
def sgB (p : Nat) : List UInt8 := psB (hL p) ++ ([10] : List UInt8)
def mlB (m : Int) (ns : List Nat) : List UInt8 := ns.flatMap (fun p => psB (hL p)) ++ ([ob 11, ob m, ob ((ns.length : Nat) : Int)] : List UInt8)
def afB (n : Nat) (r : List UInt8) : List UInt8 := (psB (itB n) ++ ([12, 3] : List UInt8)) ++ r
def olB (n : Nat) (r : List UInt8) : List UInt8 := (psB (itB n) ++ ([13, 3] : List UInt8)) ++ r
def hsB (h : Nat) (r : List UInt8) : List UInt8 := ((([8] : List UInt8) ++ psB (hL h)) ++ ([5, 7] : List UInt8)) ++ r
def eiB (a b : List UInt8) : List UInt8 := (((([14] : List UInt8) ++ a) ++ ([15] : List UInt8)) ++ b) ++ ([16] : List UInt8)
structure Mk where
  ta : Option Addr
  tc : Nat
  ts : List TmA
  ka : Option Addr
  kc : Nat
  ns : List Nat
def Mk.step (s : Mk) (n : Nat) : Mk := ⟨if s.tc = 1 then s.ta else s.ta.map (·.add (1 * 36)), s.tc - 1, s.ts.tail, if s.kc = n then s.ka else s.ka.map (·.add (n * 4)), s.kc - n, s.ns.drop n⟩
def Mk.fst (s : Mk) : TmA := gT s.ts 0
def Mk.go (s : Mk) : Mk := s.step s.fst.ks.length
def Mk.can (s : Mk) : Bool := decide (0 < s.ts.length) && (s.fst.fd && decide (s.fst.ks.length ≤ s.ns.length))
def nx : Nat → Mk → Option (List UInt8 × Mk)
  | 0, _ => none
  | f + 1, s => if s.can = false then none else
    if s.fst.kd = 1 then some (sgB (s.ns.getD 0 0), s.go) else
    if s.fst.kd = 2 then some (mlB s.fst.m (s.ns.take s.fst.ks.length), s.go) else
    match nx f s.go with
    | none => none
    | some (a, s1) =>
      if s.fst.kd = 3 then some (afB s.fst.nu a, s1) else
      if s.fst.kd = 4 then some (olB s.fst.nu a, s1) else
      if s.fst.kd = 5 then some (hsB s.fst.h a, s1) else
      if s.fst.kd = 6 then (match nx f s1 with
        | none => none
        | some (b, s2) => some (eiB a b, s2)) else none
def TmA.sh (t : TmA) : Int × Int × Nat × Nat × Nat := (t.kd, t.m, t.nu, t.h, t.ks.length)
def Mk.sim (s t : Mk) : Prop := s.ts.map TmA.sh = t.ts.map TmA.sh ∧ s.ns = t.ns
theorem sh_get {l l' : List TmA} (h : l.map TmA.sh = l'.map TmA.sh) (j : Nat) : (gT l j).sh = (gT l' j).sh := by
  have g : ∀ m : List TmA, (gT m j).sh = (m.map TmA.sh).getD j (default : TmA).sh := fun m => by
    unfold gT
    rw [List.getD_eq_getElem?_getD, List.getD_eq_getElem?_getD, List.getElem?_map]
    cases m[j]? <;> rfl
  rw [g, g, h]
theorem sh_parts {t t' : TmA} (h : t.sh = t'.sh) : t.kd = t'.kd ∧ t.m = t'.m ∧ t.nu = t'.nu ∧ t.h = t'.h ∧ t.ks.length = t'.ks.length := by
  unfold TmA.sh at h
  simpa only [Prod.mk.injEq] using h
theorem Mk.sim_go {s t : Mk} (h : s.sim t) : s.go.sim t.go := by
  have e := (sh_parts (sh_get h.1 0)).2.2.2.2
  refine ⟨?_, ?_⟩
  · show s.ts.tail.map TmA.sh = t.ts.tail.map TmA.sh
    rw [List.map_tail, List.map_tail, h.1]
  · show s.ns.drop _ = t.ns.drop _
    rw [h.2]; unfold Mk.fst; rw [e]
theorem nx_sim : ∀ (f : Nat) (s t : Mk), s.sim t → (nx f s = none ∧ nx f t = none) ∨ ∃ b s' t', nx f s = some (b, s') ∧ nx f t = some (b, t') ∧ s'.sim t'
  | 0, _, _, _ => Or.inl ⟨rfl, rfl⟩
  | f + 1, s, t, h => by
    have hl : s.ts.length = t.ts.length := by have := congrArg List.length h.1; simpa using this
    obtain ⟨e1, e2, e3, e4, e5⟩ := sh_parts (sh_get h.1 0)
    have hc : s.can = t.can := by unfold Mk.can TmA.fd Mk.fst; rw [hl, e1, e2, e3, e4, e5, h.2]
    unfold nx
    rw [hc, h.2]
    unfold Mk.fst
    rw [e1, e2, e3, e4, e5]
    by_cases c0 : t.can = false
    · rw [if_pos c0, if_pos c0]; exact Or.inl ⟨rfl, rfl⟩
    rw [if_neg c0, if_neg c0]
    by_cases c1 : (gT t.ts 0).kd = 1
    · rw [if_pos c1, if_pos c1]; exact Or.inr ⟨_, _, _, rfl, rfl, Mk.sim_go h⟩
    rw [if_neg c1, if_neg c1]
    by_cases c2 : (gT t.ts 0).kd = 2
    · rw [if_pos c2, if_pos c2]; exact Or.inr ⟨_, _, _, rfl, rfl, Mk.sim_go h⟩
    rw [if_neg c2, if_neg c2]
    rcases nx_sim f s.go t.go (Mk.sim_go h) with ⟨ha, hb⟩ | ⟨b, s', t', ha, hb, h'⟩
    · rw [ha, hb]; exact Or.inl ⟨rfl, rfl⟩
    rw [ha, hb]
    by_cases c3 : (gT t.ts 0).kd = 3
    · simp only [if_pos c3]; exact Or.inr ⟨_, _, _, rfl, rfl, h'⟩
    simp only [if_neg c3]
    by_cases c4 : (gT t.ts 0).kd = 4
    · simp only [if_pos c4]; exact Or.inr ⟨_, _, _, rfl, rfl, h'⟩
    simp only [if_neg c4]
    by_cases c5 : (gT t.ts 0).kd = 5
    · simp only [if_pos c5]; exact Or.inr ⟨_, _, _, rfl, rfl, h'⟩
    simp only [if_neg c5]
    by_cases c6 : (gT t.ts 0).kd = 6
    · simp only [if_pos c6]
      rcases nx_sim f s' t' h' with ⟨ha, hb⟩ | ⟨b2, s2, t2, ha, hb, h2⟩
      · rw [ha, hb]; exact Or.inl ⟨rfl, rfl⟩
      · rw [ha, hb]; exact Or.inr ⟨_, _, _, rfl, rfl, h2⟩
    · exact Or.inl ⟨if_neg c6, if_neg c6⟩
def nK : List TmA → Nat
  | [] => 0
  | t :: r => t.ks.length + nK r
theorem nK_aK : ∀ ts : List TmA, (aK ts).length = nK ts
  | [] => rfl
  | t :: r => by show (t.ks ++ aK r).length = t.ks.length + nK r; rw [List.length_append, nK_aK r]
theorem nx_ok : ∀ (f : Nat) (k : Int) (s : Mk), s.ts.length ≤ f → 1 ≤ k → whB k s.ts = true → s.ts.all TmA.fd = true → s.ns.length = nK s.ts →
    ∃ b s', nx f s = some (b, s') ∧ whB (k - 1) s'.ts = true ∧ s'.ts.all TmA.fd = true ∧ s'.ns.length = nK s'.ts ∧ s'.ts.length < s.ts.length
  | 0, k, s, hl, hk, hw, _, _ => by
    rw [List.eq_nil_of_length_eq_zero (Nat.le_zero.1 hl)] at hw
    have := of_decide_eq_true (show decide (k = 0) = true from hw)
    omega
  | f + 1, k, s, hl, hk, hw, hf, hn => by
    cases e : s.ts with
    | nil =>
      rw [e] at hw
      have := of_decide_eq_true (show decide (k = 0) = true from hw)
      omega
    | cons t r =>
      rw [e] at hw hf hn hl
      have hk0 : ¬ (k = 0 ∨ kdN t.kd < 0) := fun q => by simp only [whB, if_pos q] at hw; exact absurd hw (by decide)
      simp only [whB, if_neg hk0] at hw
      rw [List.all_cons, Bool.and_eq_true] at hf
      have hft : s.fst = t := by unfold Mk.fst; rw [e]; rfl
      have hgo : s.go.ts = r := by show s.ts.tail = r; rw [e]; rfl
      have hgn : s.go.ns.length = nK r := by
        show (s.ns.drop s.fst.ks.length).length = nK r
        rw [List.length_drop, hft, hn]; show t.ks.length + nK r - t.ks.length = nK r; omega
      have hc : s.can = true := by
        unfold Mk.can
        rw [hft, hf.1, e, hn, decide_eq_true (show 0 < (t :: r).length by simp), decide_eq_true (show t.ks.length ≤ nK (t :: r) from Nat.le_add_right _ _)]
        rfl
      have hlr : r.length ≤ f := by simpa using hl
      unfold nx
      rw [hc, hft, if_neg (by decide)]
      by_cases c1 : t.kd = 1
      · rw [if_pos c1]
        rw [show kdN t.kd = 0 by rw [c1]; rfl] at hw
        exact ⟨_, _, rfl, by rw [hgo]; exact hw, by rw [hgo]; exact hf.2, by rw [hgn, hgo], by rw [hgo]; exact Nat.lt_succ_self _⟩
      rw [if_neg c1]
      by_cases c2 : t.kd = 2
      · rw [if_pos c2]
        rw [show kdN t.kd = 0 by rw [c2]; rfl] at hw
        exact ⟨_, _, rfl, by rw [hgo]; exact hw, by rw [hgo]; exact hf.2, by rw [hgn, hgo], by rw [hgo]; exact Nat.lt_succ_self _⟩
      rw [if_neg c2]
      by_cases c6 : t.kd = 6
      · rw [show kdN t.kd = 2 by rw [c6]; rfl] at hw
        obtain ⟨a, s1, h1, w1, f1, n1, l1⟩ := nx_ok f (k + (2 - 1)) s.go (by rw [hgo]; exact hlr) (by omega) (by rw [hgo]; exact hw) (by rw [hgo]; exact hf.2) (by rw [hgn, hgo])
        rw [hgo] at l1
        obtain ⟨b, s2, h2, w2, f2, n2, l2⟩ := nx_ok f (k + (2 - 1) - 1) s1 (by omega) (by omega) w1 f1 n1
        rw [h1]
        simp only [if_neg (show ¬ t.kd = 3 by omega), if_neg (show ¬ t.kd = 4 by omega), if_neg (show ¬ t.kd = 5 by omega), if_pos c6]
        rw [h2]
        exact ⟨_, _, rfl, by rw [← w2]; congr 1; omega, f2, n2, by rw [List.length_cons]; omega⟩
      have c345 : t.kd = 3 ∨ t.kd = 4 ∨ t.kd = 5 := by
        have : ¬ kdN t.kd < 0 := fun q => hk0 (Or.inr q)
        unfold kdN at this
        by_cases q : t.kd = 3 ∨ t.kd = 4 ∨ t.kd = 5
        · exact q
        · rw [if_neg (by omega), if_neg q, if_neg c6] at this; exact absurd (by decide) this
      rw [show kdN t.kd = 1 by unfold kdN; rw [if_neg (by omega), if_pos c345]] at hw
      obtain ⟨a, s1, h1, w1, f1, n1, l1⟩ := nx_ok f k s.go (by rw [hgo]; exact hlr) hk (by rw [hgo, ← hw]; congr 1; omega) (by rw [hgo]; exact hf.2) (by rw [hgn, hgo])
      rw [hgo] at l1
      rw [h1]
      by_cases c3 : t.kd = 3
      · simp only [if_pos c3]; exact ⟨_, _, rfl, w1, f1, n1, by rw [List.length_cons]; omega⟩
      simp only [if_neg c3]
      by_cases c4 : t.kd = 4
      · simp only [if_pos c4]; exact ⟨_, _, rfl, w1, f1, n1, by rw [List.length_cons]; omega⟩
      simp only [if_neg c4, if_pos (show t.kd = 5 by omega)]
      exact ⟨_, _, rfl, w1, f1, n1, by rw [List.length_cons]; omega⟩
def nxB (ts : List TmA) (ns : List Nat) : List UInt8 := ((nx 8 ⟨none, 0, ts, none, 0, ns⟩).map (·.1)).getD []
def exL (ts : List TmA) (z : Int) : List UInt8 := nxB ts (kyN ts z)
def exE (ts : List TmA) (z : Int) : Int := if kyE ts z = 0 then (if 520 < (exL ts z).length then 4 else 0) else kyE ts z
def exB (ts : List TmA) (z : Int) : List UInt8 := if exE ts z = 0 then exL ts z else []
theorem nxB_sim {ts us : List TmA} {ns : List Nat} (h : ts.map TmA.sh = us.map TmA.sh) : nxB ts ns = nxB us ns := by
  unfold nxB
  rcases nx_sim 8 ⟨none, 0, ts, none, 0, ns⟩ ⟨none, 0, us, none, 0, ns⟩ ⟨h, rfl⟩ with ⟨ha, hb⟩ | ⟨b, s', t', ha, hb, _⟩
  · rw [ha, hb]
  · rw [ha, hb]; rfl
theorem ky_valid {ts : List TmA} {z : Int} (h : kyE ts z = 0) : vlB ts = true := by
  unfold kyE at h
  by_cases q : vlB ts = true
  · exact q
  · rw [if_neg q] at h; exact absurd h (by decide)
theorem vl_get {ts : List TmA} (h : vlB ts = true) : (1 ≤ ts.length ∧ ts.length ≤ 8) ∧ whB 1 ts = true ∧ ts.all TmA.fd = true ∧ ts.all TmA.vk = true := by
  unfold vlB at h
  simpa only [Bool.and_eq_true, decide_eq_true_eq] using h
theorem nx_go {ts : List TmA} {z : Int} (h : kyE ts z = 0) (a : Option Addr) (c : Nat) (b : Option Addr) (d : Nat) : ∃ s', nx 8 ⟨a, c, ts, b, d, kyN ts z⟩ = some (exL ts z, s') := by
  obtain ⟨hl, hw, hf, _⟩ := vl_get (ky_valid h)
  have hn : (kyN ts z).length = nK ts := by unfold kyN; rw [if_pos h]; unfold ksN; rw [List.length_map, nK_aK]
  obtain ⟨x, s', hx, _⟩ := nx_ok 8 1 ⟨a, c, ts, b, d, kyN ts z⟩ hl.2 (by decide) hw hf hn
  rcases nx_sim 8 ⟨a, c, ts, b, d, kyN ts z⟩ ⟨none, 0, ts, none, 0, kyN ts z⟩ ⟨rfl, rfl⟩ with ⟨ha, _⟩ | ⟨y, s2, t2, ha, hb, _⟩
  · rw [hx] at ha; exact absurd ha (by simp)
  · refine ⟨s2, ?_⟩
    rw [ha]
    show some (y, s2) = some (nxB ts (kyN ts z), s2)
    unfold nxB
    rw [hb]; rfl
def KpA.er (p : KpA) : KpA := ⟨p.k, p.ps, p.wd, none, 0⟩
def KpA.neu (p : KpA) : KpA := ⟨p.k.neu, p.ps, p.wd, none, 0⟩
def TmA.er (t : TmA) : TmA := ⟨t.kd, t.m, t.nu, t.h, t.ks.map KpA.er, none, 0⟩
def TmA.neu (t : TmA) : TmA := ⟨t.kd, t.m, t.nu, t.h, t.ks.map KpA.neu, none, 0⟩
section
variable {g : KpA → KpA} {G : TmA → TmA} (hG : ∀ t, G t = ⟨t.kd, t.m, t.nu, t.h, t.ks.map g, none, 0⟩)
include hG
theorem map_sh (ts : List TmA) : (ts.map G).map TmA.sh = ts.map TmA.sh := by
  rw [List.map_map]
  exact List.map_congr_left fun t _ => by show (G t).sh = t.sh; rw [hG]; unfold TmA.sh; rw [List.length_map]
theorem map_wh : ∀ (m : Int) (ts : List TmA), whB m (ts.map G) = whB m ts
  | _, [] => rfl
  | m, t :: r => by
    have hk : (G t).kd = t.kd := by rw [hG]
    rw [List.map_cons]
    simp only [whB]
    rw [hk, map_wh _ r]
theorem map_fd (ts : List TmA) : (ts.map G).all TmA.fd = ts.all TmA.fd := by
  rw [List.all_map]
  exact congrFun (congrArg List.all rfl) _ |>.trans (by congr 1; funext t; show (G t).fd = t.fd; rw [hG]; unfold TmA.fd; rw [List.length_map])
theorem map_aK : ∀ ts : List TmA, aK (ts.map G) = (aK ts).map g
  | [] => rfl
  | t :: r => by
    show (G t).ks ++ aK (r.map G) = (t.ks ++ aK r).map g
    rw [List.map_append, map_aK r, hG]
end
theorem vk_aK : ∀ ts : List TmA, ts.all TmA.vk = (aK ts).all KpA.vp
  | [] => rfl
  | t :: r => by show (t.vk && r.all TmA.vk) = (t.ks ++ aK r).all KpA.vp; rw [List.all_append, vk_aK r]; rfl
theorem rg_aK : ∀ ts : List TmA, rgB ts = (aK ts).any KpA.wd
  | [] => rfl
  | t :: r => by show (t.rg || rgB r) = (t.ks ++ aK r).any KpA.wd; rw [List.any_append, rg_aK r]; rfl
theorem soft_aK {ts : List TmA} (h : Soft ts) : ∀ p ∈ aK ts, SoftK p := fun p hp => by
  obtain ⟨t, ht, hp⟩ := List.mem_flatMap.1 hp
  exact (h t ht).2.2 p hp
theorem vp_neu {p : KpA} (h : SoftK p) : p.neu.vp = p.vp := by
  have hh : p.ps.any hdB = false := List.any_eq_false.2 fun i hi => by rw [h.2 i hi]; decide
  unfold KpA.vp KpA.w1
  show (decide (p.ps.length ≤ 8) && (sndB p.k.neu && (decide (p.k.d + _ + _ ≤ 8) && (!p.ps.any hdB || _)))) = _
  rw [neu_snd h.1, h.1, hh]; rfl
theorem all_congr {α : Type} {f g : α → Bool} {l : List α} (h : ∀ x ∈ l, f x = g x) : l.all f = l.all g := by
  induction l with
  | nil => rfl
  | cons x r ih => rw [List.all_cons, List.all_cons, h x (List.mem_cons_self ..), ih fun y hy => h y (List.mem_cons_of_mem _ hy)]
theorem vl_neu {ts : List TmA} (h : Soft ts) : vlB (ts.map TmA.neu) = vlB ts := by
  unfold vlB
  rw [List.length_map, map_wh (G := TmA.neu) (g := KpA.neu) (fun _ => rfl), map_fd (G := TmA.neu) (g := KpA.neu) (fun _ => rfl), vk_aK, vk_aK, map_aK (G := TmA.neu) (g := KpA.neu) (fun _ => rfl), List.all_map]
  rw [all_congr (f := KpA.vp ∘ KpA.neu) (g := KpA.vp) fun p hp => vp_neu (soft_aK h p hp)]
theorem vl_er (ts : List TmA) : vlB (ts.map TmA.er) = vlB ts := by
  unfold vlB
  rw [List.length_map, map_wh (G := TmA.er) (g := KpA.er) (fun _ => rfl), map_fd (G := TmA.er) (g := KpA.er) (fun _ => rfl), vk_aK, vk_aK, map_aK (G := TmA.er) (g := KpA.er) (fun _ => rfl), List.all_map]
  rfl
theorem rg_er (ts : List TmA) : rgB (ts.map TmA.er) = rgB ts := by
  rw [rg_aK, rg_aK, map_aK (G := TmA.er) (g := KpA.er) (fun _ => rfl), List.any_map]; rfl
theorem rg_neu (ts : List TmA) : rgB (ts.map TmA.neu) = rgB ts := by
  rw [rg_aK, rg_aK, map_aK (G := TmA.neu) (g := KpA.neu) (fun _ => rfl), List.any_map]; rfl
theorem dr_neu {k : Ky} {q : List Nat} (h : sndB k = true) (hq : ∀ i ∈ q, hdB i = false) : drE k.neu q = drE k q ∧ (drE k q = 0 → (drK k.neu q).p = (drK k q).p) := by
  by_cases hs : k.s = 0
  · have e : k.neu = k := by cases k; unfold Ky.neu; simp only at hs; rw [hs]
    rw [e]; exact ⟨rfl, fun _ => rfl⟩
  · have hd := dv_neu h hs hq
    rw [(dr_is h).1, (dr_is (neu_snd h)).1, (dr_is h).2, (dr_is (neu_snd h)).2]
    exact ⟨hd.1, fun e => by rw [(hd.2 e).1]; rfl⟩
theorem ix_soft {p : KpA} {i : Nat} (h : SoftK p) (hi : i < 1000) : ∀ j ∈ p.ix i, hdB j = false := by
  intro j hj
  unfold KpA.ix at hj
  split at hj
  · rcases List.mem_append.1 hj with q | q
    · exact h.2 j q
    · rw [List.mem_singleton.1 q]; exact decide_eq_false (by omega)
  · exact h.2 j hj
theorem ks_neu {i : Nat} (hi : i < 1000) : ∀ {ks : List KpA}, (∀ p ∈ ks, SoftK p) → ksE i (ks.map KpA.neu) = ksE i ks ∧ (ksE i ks = 0 → ksN i (ks.map KpA.neu) = ksN i ks)
  | [], _ => ⟨rfl, fun _ => rfl⟩
  | p :: r, h => by
    have hp := h p (List.mem_cons_self ..)
    have hd := dr_neu (q := p.ix i) hp.1 (ix_soft hp hi)
    have ih := ks_neu hi (ks := r) fun q hq => h q (List.mem_cons_of_mem _ hq)
    have e : drE p.neu.k (p.neu.ix i) = drE p.k (p.ix i) := hd.1
    rw [List.map_cons]
    unfold ksE
    rw [e]
    by_cases h0 : drE p.k (p.ix i) = 0
    · rw [if_pos h0, if_pos h0]
      refine ⟨ih.1, fun e0 => ?_⟩
      show KpA.pn i p.neu :: ksN i (r.map KpA.neu) = KpA.pn i p :: ksN i r
      rw [ih.2 e0, show KpA.pn i p.neu = KpA.pn i p from hd.2 h0]
    · rw [if_neg h0, if_neg h0]; exact ⟨rfl, fun q => absurd q h0⟩
theorem ks_er (i : Nat) : ∀ ks : List KpA, ksE i (ks.map KpA.er) = ksE i ks ∧ ksN i (ks.map KpA.er) = ksN i ks
  | [] => ⟨rfl, rfl⟩
  | p :: r => by
    have ih := ks_er i r
    rw [List.map_cons]
    unfold ksE
    rw [ih.1]
    exact ⟨rfl, by show KpA.pn i p.er :: ksN i (r.map KpA.er) = KpA.pn i p :: ksN i r; rw [ih.2]; rfl⟩
theorem ky_neu {ts : List TmA} (h : Soft ts) (z : Int) : kyE (ts.map TmA.neu) z = kyE ts z ∧ kyN (ts.map TmA.neu) z = kyN ts z := by
  have hE : kyE (ts.map TmA.neu) z = kyE ts z := by
    unfold kyE
    rw [vl_neu h]
    split
    · split
      · rename_i q; rw [map_aK (G := TmA.neu) (g := KpA.neu) (fun _ => rfl)]; exact (ks_neu (by omega) (soft_aK h)).1
      · rfl
    · rfl
  refine ⟨hE, ?_⟩
  unfold kyN
  rw [hE]
  by_cases h0 : kyE ts z = 0
  · rw [if_pos h0, if_pos h0, map_aK (G := TmA.neu) (g := KpA.neu) (fun _ => rfl)]
    unfold kyE at h0
    rw [if_pos (ky_valid (z := z) (show kyE ts z = 0 from h0))] at h0
    by_cases q : 0 ≤ z ∧ z < 1000
    · rw [if_pos q] at h0; exact (ks_neu (by omega) (soft_aK h)).2 h0
    · rw [if_neg q] at h0; exact absurd h0 (by decide)
  · rw [if_neg h0, if_neg h0]
theorem ky_er (ts : List TmA) (z : Int) : kyE (ts.map TmA.er) z = kyE ts z ∧ kyN (ts.map TmA.er) z = kyN ts z := by
  have hE : kyE (ts.map TmA.er) z = kyE ts z := by
    unfold kyE
    rw [vl_er, map_aK (G := TmA.er) (g := KpA.er) (fun _ => rfl), (ks_er _ _).1]
  refine ⟨hE, ?_⟩
  unfold kyN
  rw [hE, map_aK (G := TmA.er) (g := KpA.er) (fun _ => rfl), (ks_er _ _).2]
theorem ex_of {ts us : List TmA} {z : Int} (h1 : kyE us z = kyE ts z) (h2 : kyN us z = kyN ts z) (h3 : us.map TmA.sh = ts.map TmA.sh) : exE us z = exE ts z ∧ exB us z = exB ts z := by
  have hL : exL us z = exL ts z := by unfold exL; rw [h2]; exact nxB_sim h3
  have hE : exE us z = exE ts z := by unfold exE; rw [h1, hL]
  exact ⟨hE, by unfold exB; rw [hE, hL]⟩
def Neu (ts us : List TmA) : Prop := us.map TmA.er = ts.map TmA.neu
theorem neu_ex {ts us : List TmA} (h : Soft ts) (e : Neu ts us) (z : Int) : exE us z = exE ts z ∧ exB us z = exB ts z := by
  have a := ex_of (ky_er us z).1 (ky_er us z).2 (map_sh (G := TmA.er) (g := KpA.er) (fun _ => rfl) us)
  have b := ex_of (ky_neu h z).1 (ky_neu h z).2 (map_sh (G := TmA.neu) (g := KpA.neu) (fun _ => rfl) ts)
  rw [e] at a
  exact ⟨a.1.symm.trans b.1, a.2.symm.trans b.2⟩
theorem neu_rg {ts us : List TmA} (e : Neu ts us) : rgB us = rgB ts := by rw [← rg_er us, e, rg_neu]
theorem ks_flat {i k : Nat} : ∀ {ks : List KpA}, ks.any KpA.wd = false → ksE i ks = ksE k ks ∧ ksN i ks = ksN k ks
  | [], _ => ⟨rfl, rfl⟩
  | p :: r, h => by
    rw [List.any_cons, Bool.or_eq_false_iff] at h
    have ih := ks_flat (i := i) (k := k) h.2
    have e : p.ix i = p.ix k := by unfold KpA.ix; rw [h.1]; rfl
    unfold ksE
    rw [e, ih.1]
    exact ⟨rfl, by show KpA.pn i p :: ksN i r = KpA.pn k p :: ksN k r; rw [ih.2]; unfold KpA.pn; rw [e]⟩
theorem flat_ex {ts : List TmA} (h : rgB ts = false) {z y : Int} (hz : 0 ≤ z ∧ z < 1000) (hy : 0 ≤ y ∧ y < 1000) : exE ts z = exE ts y ∧ exB ts z = exB ts y := by
  rw [rg_aK] at h
  have hE : kyE ts z = kyE ts y := by unfold kyE; rw [if_pos hz, if_pos hy, (ks_flat h).1]
  have hN : kyN ts z = kyN ts y := by unfold kyN; rw [hE, (ks_flat h).2]
  have hL : exL ts z = exL ts y := by unfold exL; rw [hN]
  have hX : exE ts z = exE ts y := by unfold exE; rw [hE, hL]
  exact ⟨hX, by unfold exB; rw [hX, hL]⟩
structure RowK (α : Type) (sz : Nat) where
  f : α → List Value
  len : ∀ x, (f x).length = sz
  one : ∀ x, ∀ u ∈ f x, u.oneCell' = true
section
variable {α : Type} {sz : Nat} (K : RowK α sz)
def RowK.r (l : List α) : List Value := l.flatMap K.f
theorem RowK.r_len (l : List α) : (K.r l).length = l.length * sz := fm_len K.len l
theorem RowK.r_one (l : List α) : ∀ u ∈ K.r l, u.oneCell' = true := by
  intro u hu
  obtain ⟨x, _, hx⟩ := List.mem_flatMap.1 hu
  exact K.one x u hx
theorem RowK.r_app (l m : List α) : K.r (l ++ m) = K.r l ++ K.r m := List.flatMap_append ..
def RowK.A (C : Array Value) (l : List α) (c : Nat) : Prop := Av C sz l.length (K.r l) c
variable {K}
theorem RowK.A.app {C : Array Value} {l m : List α} {c : Nat} (h : Av C sz (l.length + m.length) (K.r l ++ K.r m) c) : K.A C (l ++ m) c := by
  unfold RowK.A
  rw [List.length_append, K.r_app]; exact h
theorem RowK.A.fresh {z : Value} (hz : z.cells.size = sz) (l : List α) (k : Nat) : K.A ((K.r l).toArray ++ Builtin.zeroCells z.cells k) l (l.length + k) := Av.fresh hz (K.r_len l) k
theorem RowK.src {P : Program} {w : World} {g c : Nat} {l : List α} {T tx e' : TypeId} {fr : Nat × Nat} (hk : P.underlying tx = some (.slice e')) (hb : w.heap[g]? = some (.cells (K.r l).toArray T fr)) : Src P sz tx (.slice (some ⟨g, 0, none⟩) l.length c) l.length (K.r l) w :=
  src_blk hk hb (K.r_len l) (List.all_eq_true.2 (K.r_one l))
variable {P : Program} {t e : TypeId} {b : Nat} {z : Value}
theorem appG_nil {w : World} {ty tx : TypeId} (ht : P.underlying t = some (.slice e)) (hi : elike P e sz b z) {x : Value} {us : List α} (hs : Src P sz tx x us.length (K.r us) w) (h0 : 0 < us.length) (hm : us.length ≤ 1000) (hb : b ≤ 1000) :
    ∃ k w', (do pure (Next.value (← Builtin.append_ #[t, tx] ty #[.slice none 0 0, x])) : Sem Next).run P w = .ok (.value (.slice (some ⟨([w.heap.size, k] : List Nat).headD 0, 0, none⟩) us.length (us.length + ([w.heap.size, k] : List Nat).tail.headD 0))) w' ∧ Grew w w' (.cells ((K.r us).toArray ++ Builtin.zeroCells z.cells (([w.heap.size, k] : List Nat).tail.headD 0)) e (0, 0)) :=
  appV_nil ht hi hs h0 (by omega) (Nat.le_trans (Nat.mul_le_mul hm hb) (by decide))
theorem appG_any {w : World} {ty tx : TypeId} (ht : P.underlying t = some (.slice e)) (hi : elike P e sz b z) {g c : Nat} {C : Array Value} {x : Value} {ts us : List α} (hA : K.A C ts c) (hs : Src P sz tx x us.length (K.r us) w) (hm : ts.length + us.length ≤ 1000) (hb : b ≤ 1000) (hg : w.heap[g]? = some (.cells C e (0, 0))) :
    ∃ r w', (do pure (Next.value (← Builtin.append_ #[t, tx] ty #[.slice (some ⟨g, 0, none⟩) ts.length c, x])) : Sem Next).run P w = .ok (.value (.slice (some ⟨r.n.headD 0, 0, none⟩) (ts ++ us).length (r.n.tail.headD 0))) w' ∧ K.A (orcC r) (ts ++ us) (r.n.tail.headD 0) ∧ Moved w w' g (r.n.headD 0) (.cells (orcC r) e (0, 0)) := by
  obtain ⟨r, w', h1, h2, h3⟩ := appV_any (ty := ty) ht hi hA hs (by omega) (Nat.le_trans (Nat.mul_le_mul hm hb) (by decide)) hg
  refine ⟨r, w', ?_, RowK.A.app h2, h3⟩
  rw [List.length_append]; exact h1
end
def kU : RowK Nat 4 := ⟨fun n => (cU n).toList, fun n => by simp [], fun n => cU_one n⟩
def kI : RowK Nat 1 := ⟨fun n => [.int .u32 ((n : Nat) : Int)], fun _ => rfl, fun n u hu => by rw [List.mem_singleton.1 hu]; rfl⟩
theorem RowK.A.empty {α : Type} {sz : Nat} {K : RowK α sz} : K.A #[] [] 0 := ⟨rfl, (Nat.zero_mul sz).symm, Nat.le_refl _, (Nat.zero_mul sz).symm⟩
theorem src_u1 {P : Program} {w : World} {g n : Nat} {T tx e' : TypeId} {fr : Nat × Nat} (hk : P.underlying tx = some (.slice e')) (hb : w.heap[g]? = some (.cells (cU n) T fr)) : Src P 4 tx (.slice (some ⟨g, 0, none⟩) 1 1) [n].length (kU.r [n]) w :=
  RowK.src (K := kU) (l := [n]) (T := T) (fr := fr) hk (by rw [hb]; simp [RowK.r, kU])
theorem src_i1 {P : Program} {w : World} {g n : Nat} {T tx e' : TypeId} {fr : Nat × Nat} (hk : P.underlying tx = some (.slice e')) (hb : w.heap[g]? = some (.cells #[.int .u32 ((n : Nat) : Int)] T fr)) : Src P 1 tx (.slice (some ⟨g, 0, none⟩) 1 1) [n].length (kI.r [n]) w :=
  RowK.src (K := kI) (l := [n]) hk hb
theorem kI_iv : ∀ ps : List Nat, iv .u32 (nI ps) = kI.r ps
  | [] => rfl
  | p :: r => by
    show Value.int .u32 ((p : Nat) : Int) :: iv .u32 (nI r) = .int .u32 ((p : Nat) : Int) :: kI.r r
    rw [kI_iv r]
theorem src_is {P : Program} {w : World} {a : Option Addr} {c : Nat} {ps : List Nat} {tx e' : TypeId} (hk : P.underlying tx = some (.slice e')) (h : Is w .u32 a c (nI ps)) : Src P 1 tx (.slice a (nI ps).length c) ps.length (kI.r ps) w := by
  rw [nI_len]
  have hr := h.rows
  rw [kI_iv] at hr
  cases a with
  | none =>
    have h0 : ps = [] := by
      rcases hr with h0 | ⟨p, hp, _⟩
      · have := congrArg List.length h0
        rw [kI.r_len] at this
        exact List.eq_nil_of_length_eq_zero (by simp only [List.length_nil] at this; omega)
      · exact absurd hp (by simp)
    subst h0
    exact Src.ofNil w hk c
  | some p =>
    refine Src.ofSlice w hk p ps.length c (kI.r ps) (kI.r_len ps) ?_ (kI.r_one ps)
    intro j u hu
    rcases hr with h0 | ⟨p', hp, hh⟩
    · rw [h0] at hu; simp at hu
    · obtain rfl : p = p' := by simpa using hp
      exact hh j u hu
theorem Is.of_kI {w : World} {g c : Nat} {C : Array Value} {T : TypeId} {fr : Nat × Nat} {ps : List Nat} (hb : w.heap[g]? = some (.cells C T fr)) (hA : kI.A C ps c) (hm : ps.length ≤ 140737488351232) : Is w .u32 (some ⟨g, 0, none⟩) c (nI ps) :=
  Is.of_av hb (by rw [kI_iv, nI_len]; exact hA) (by rw [nI_len]; exact hm)
section
variable {P : Program} {t e : TypeId} {b : Nat} {z : Value}
theorem appI_nil {w : World} {ty tx : TypeId} (ht : P.underlying t = some (.slice e)) (hi : elike P e 1 b z) {x : Value} {us : List Nat} (hs : Src P 1 tx x us.length (kI.r us) w) (h0 : 0 < us.length) (hm : us.length ≤ 1000) (hb : b ≤ 1000) :
    ∃ k w', (do pure (Next.value (← Builtin.append_ #[t, tx] ty #[.slice none 0 0, x])) : Sem Next).run P w = .ok (.value (.slice (some ⟨([w.heap.size, k] : List Nat).headD 0, 0, none⟩) (nI us).length ((nI us).length + ([w.heap.size, k] : List Nat).tail.headD 0))) w' ∧ Grew w w' (.cells ((kI.r us).toArray ++ Builtin.zeroCells z.cells (([w.heap.size, k] : List Nat).tail.headD 0)) e (0, 0)) := by
  rw [nI_len]; exact appG_nil (K := kI) ht hi hs h0 hm hb
theorem appI_any {w : World} {ty tx : TypeId} (ht : P.underlying t = some (.slice e)) (hi : elike P e 1 b z) {g c : Nat} {C : Array Value} {x : Value} {ts us : List Nat} (hA : kI.A C ts c) (hs : Src P 1 tx x us.length (kI.r us) w) (hm : ts.length + us.length ≤ 1000) (hb : b ≤ 1000) (hg : w.heap[g]? = some (.cells C e (0, 0))) :
    ∃ r w', (do pure (Next.value (← Builtin.append_ #[t, tx] ty #[.slice (some ⟨g, 0, none⟩) (nI ts).length c, x])) : Sem Next).run P w = .ok (.value (.slice (some ⟨r.n.headD 0, 0, none⟩) (nI (ts ++ us)).length (r.n.tail.headD 0))) w' ∧ kI.A (orcC r) (ts ++ us) (r.n.tail.headD 0) ∧ Moved w w' g (r.n.headD 0) (.cells (orcC r) e (0, 0)) := by
  rw [nI_len, nI_len]; exact appG_any (K := kI) ht hi hA hs hm hb hg
end
section
variable {P : Program} {ops : Array Oper} {D : List Nat} {l : List (Nat × Value)} {w0 : Base} {h : List (Nat × Obj)} {F0 : World → Prop}
variable {vals : (Nat → Orc) → Nat → Value} {effs : (Nat → Orc) → Nat → Eff} {fact : (Nat → Orc) → Nat → World → Prop}
theorem o_callM (i : Nat) (f : FuncId) (args : (Nat → Orc) → Array Value) (v : (Nat → Orc) → List Nat → Value) (ob : (Nat → Orc) → List Nat → Obj)
    (hc : ∀ ρ z, callChkF P ops D l (vals ρ) i z = some (.enter f (args ρ), [], []))
    (hv : ∀ ρ z, vals (upd ρ i { n := z }) i = v ρ z) (he : ∀ ρ z, effs (upd ρ i { n := z }) i = { news := [(z.headD 0, ob ρ z)] }) (ht : ∀ ρ w, fact ρ i w)
    (hf : ∀ ρ T w, Given ops D w0 h F0 effs fact i ρ T w → Calls P f (args ρ) w (fun e w' => ∃ z, e = .returned (v ρ z) ∧ Below w.heap.size w w' ∧ w.heap.size ≤ z.headD 0 ∧ w'.heap[z.headD 0]? = some (ob ρ z))) : Obl P ops D l w0 h F0 vals effs fact i := by
  have key : ∀ ρ z, ((ops[i]?).isSome = true ∧ wantV (vals ρ) (opAt ops i) = true) ∧ grun P (execOp (evalAt ops D l (vals ρ) i) (opAt ops i)) [] [] z = some (.enter f (args ρ), [], []) := by
    intro ρ z
    have h1 := hc ρ z
    unfold callChkF at h1
    split at h1
    · rename_i hb
      simp only [Bool.and_eq_true] at hb
      exact ⟨hb, h1⟩
    · exact absurd h1 (by simp)
  intro o ho ρ T w hG
  have hoe := opAt_some (key ρ []).1.1
  rw [ho] at hoe
  obtain rfl : o = opAt ops i := by simpa using hoe
  rw [if_pos (key ρ []).1.2]
  obtain ⟨w1, h1, _, _, h4, _, _⟩ := grun_sound (P := P) (execOp (evalAt ops D l (vals ρ) i) (opAt ops i)) [] [] w _ _ _ (by intro y hy; simp at hy) (by simp) ((key ρ _).2) trivial
  have hb : Below w.heap.size w w1 := ⟨h4.os, h4.tape, h4.output, h4.size, fun k hk => h4.block k hk (by simp)⟩
  have hheap : ∀ b, b < w.heap.size → w1.heap[b]? = w.heap[b]? := fun b hb' => hb.block b hb'
  have hG1 : Given ops D w0 h F0 effs fact i ρ T w1 := by
    have tr : ∀ {F : World → Prop}, Pers T F w → Pers T F w1 := by
      rintro F ⟨S, s1, s2⟩
      refine ⟨S, fun b hb' => ⟨Nat.lt_of_lt_of_le (s1 b hb').1 hb.size, (s1 b hb').2⟩, fun w' hw => s2 w' (fun b hb' => ?_)⟩
      rw [hw b hb', hheap b (s1 b hb').1]
    refine ⟨fun b hb' => Nat.lt_of_lt_of_le (hG.lt b hb') hb.size, hG.below.trans (Upd.of_below hb), fun n x hn hk => ?_, hG.ne, tr hG.facts0, fun j hj => tr (hG.facts j hj)⟩
    have := hG.block n x hn hk
    refine ⟨?_, this.2⟩
    rw [hheap _ (hG.lt _ this.2.1)]
    exact this.1
  unfold opv
  rw [h1]
  refine (hf ρ T w1 hG1).mono (fun e w2 hew => ?_)
  obtain ⟨g, rfl, hb2, hg, hgo⟩ := hew
  show After ops D h vals effs fact i ρ T w _ w2
  have he' := he ρ g
  refine ⟨{ n := g }, (hv ρ g).symm, Upd.of_below (hb.trans (hb2.mono hb.size)), ?_, ?_, ?_, persTrue (ht _)⟩
  · rw [he']; intro n q hm; simp at hm
  · rw [he']
    intro j b q hj
    have : j = 0 := by
      have := (List.getElem?_eq_some_iff.1 hj).1
      simpa using this
    subst this
    simp only [List.getElem?_cons_zero, Option.some.injEq, Prod.mk.injEq] at hj
    obtain ⟨rfl, rfl⟩ := hj
    exact ⟨Nat.le_trans hb.size hg, hgo⟩
  · rw [he']; simp
end
theorem hdz_le (n k : Nat) : Hd (zB (n + k)) (List.replicate n 0) := by
  unfold Hd zB bs
  simp
section
variable {P : Program} {t e : TypeId}
theorem app_zeros {w : World} {ty tx : TypeId} (ht : P.underlying t = some (.slice e)) (hi : u8like P e) (hx : P.underlying tx = some (.int .i64)) {n : Nat} (h0 : 0 < n) (hm : n ≤ 140737488351232) :
    ∃ k w', (do pure (Next.value (← Builtin.append_ #[t, tx] ty #[.slice none 0 0, .int .i64 ((n : Nat) : Int)])) : Sem Next).run P w = .ok (.value (.slice (some ⟨([w.heap.size, k] : List Nat).headD 0, 0, none⟩) (List.replicate n (0 : UInt8)).length (n + ([w.heap.size, k] : List Nat).tail.headD 0))) w' ∧ Grew w w' (.cells (zB (n + ([w.heap.size, k] : List Nat).tail.headD 0)) e (0, 0)) := by
  obtain ⟨i, h1, h2, h3, h4⟩ := hi
  have hge := grownCap_ge w n 0 e
  have hwrap : IntKind.i64.wrap ((n : Nat) : Int) = (n : Int) := i64N (by omega)
  have hfit := growslice_fits (need := n) (old := 0) (bytes := 1) h0 (by omega)
  have e1 : ¬ ((n : Int) < 0) := by omega
  have e2 : ¬ ((281474976710656 : Int) < (n : Int)) := by omega
  have e3 : ¬ (n = 0) := by omega
  have e4 : ¬ (9223372036854775807 < (n : Int)) := by omega
  have e5 : ¬ (281474976710656 < Builtin.nextslicecap n 0) := by omega
  refine ⟨grownCap w n 0 e - n, w.drew.alloc (.cells (zB (n + (grownCap w n 0 e - n))) e), ?_, ⟨rfl, rfl, rfl, rfl⟩⟩
  have hz : (zB n ++ zB (grownCap w n 0 e - n)) = zB (n + (grownCap w n 0 e - n)) := by
    unfold zB bs
    simp []
  have hrun : (Builtin.append_ #[t, tx] ty #[.slice none 0 0, .int .i64 ((n : Nat) : Int)]).run P w = .ok (.slice (some ⟨w.heap.size, 0, none⟩) n (grownCap w n 0 e)) (w.drew.alloc (.cells (zB n ++ zB (grownCap w n 0 e - n)) e)) := by
    simp [Builtin.append_, run_underlying ht, run_underlying hx, sizeOf, typeInfo, zeroValue, h1, h2, h3, h4, asInt, asIntOf, hwrap, e1, e2, e3, e4, e5, Question.forced, newRow, grownCap, Builtin.firstCells, ← zero_zB]
    rfl
  rw [Sem.run_bind, hrun, hz]
  simp only [List.length_replicate, List.headD, List.tail]
  rw [show n + (grownCap w n 0 e - n) = grownCap w n 0 e by omega]
  rfl
end
section
variable {P : Program} {ops : Array Oper} {D : List Nat} {l : List (Nat × Value)} {w0 : Base} {h : List (Nat × Obj)} {F0 : World → Prop}
variable {vals : (Nat → Orc) → Nat → Value} {effs : (Nat → Orc) → Nat → Eff} {fact : (Nat → Orc) → Nat → World → Prop}
theorem o_callR (i : Nat) (f : FuncId) (args : (Nat → Orc) → Array Value) (v : (Nat → Orc) → Orc → Value) (ob : (Nat → Orc) → Orc → Obj) (pf : (Nat → Orc) → Orc → Prop)
    (hc : ∀ ρ z, callChkF P ops D l (vals ρ) i z = some (.enter f (args ρ), [], []))
    (hv : ∀ ρ r, vals (upd ρ i r) i = v ρ r) (he : ∀ ρ r, effs (upd ρ i r) i = { news := [(r.n.headD 0, ob ρ r)] }) (ht : ∀ ρ r, fact (upd ρ i r) i = fun _ => pf ρ r)
    (hf : ∀ ρ T w, Given ops D w0 h F0 effs fact i ρ T w → Calls P f (args ρ) w (fun e w' => ∃ r, e = .returned (v ρ r) ∧ Below w.heap.size w w' ∧ w.heap.size ≤ r.n.headD 0 ∧ w'.heap[r.n.headD 0]? = some (ob ρ r) ∧ pf ρ r)) : Obl P ops D l w0 h F0 vals effs fact i := by
  have key : ∀ ρ z, ((ops[i]?).isSome = true ∧ wantV (vals ρ) (opAt ops i) = true) ∧ grun P (execOp (evalAt ops D l (vals ρ) i) (opAt ops i)) [] [] z = some (.enter f (args ρ), [], []) := by
    intro ρ z
    have h1 := hc ρ z
    unfold callChkF at h1
    split at h1
    · rename_i hb
      simp only [Bool.and_eq_true] at hb
      exact ⟨hb, h1⟩
    · exact absurd h1 (by simp)
  intro o ho ρ T w hG
  have hoe := opAt_some (key ρ []).1.1
  rw [ho] at hoe
  obtain rfl : o = opAt ops i := by simpa using hoe
  rw [if_pos (key ρ []).1.2]
  obtain ⟨w1, h1, _, _, h4, _, _⟩ := grun_sound (P := P) (execOp (evalAt ops D l (vals ρ) i) (opAt ops i)) [] [] w _ _ _ (by intro y hy; simp at hy) (by simp) ((key ρ _).2) trivial
  have hb : Below w.heap.size w w1 := ⟨h4.os, h4.tape, h4.output, h4.size, fun k hk => h4.block k hk (by simp)⟩
  have hheap : ∀ b, b < w.heap.size → w1.heap[b]? = w.heap[b]? := fun b hb' => hb.block b hb'
  have hG1 : Given ops D w0 h F0 effs fact i ρ T w1 := by
    have tr : ∀ {F : World → Prop}, Pers T F w → Pers T F w1 := by
      rintro F ⟨S, s1, s2⟩
      refine ⟨S, fun b hb' => ⟨Nat.lt_of_lt_of_le (s1 b hb').1 hb.size, (s1 b hb').2⟩, fun w' hw => s2 w' (fun b hb' => ?_)⟩
      rw [hw b hb', hheap b (s1 b hb').1]
    refine ⟨fun b hb' => Nat.lt_of_lt_of_le (hG.lt b hb') hb.size, hG.below.trans (Upd.of_below hb), fun n x hn hk => ?_, hG.ne, tr hG.facts0, fun j hj => tr (hG.facts j hj)⟩
    have := hG.block n x hn hk
    refine ⟨?_, this.2⟩
    rw [hheap _ (hG.lt _ this.2.1)]
    exact this.1
  unfold opv
  rw [h1]
  refine (hf ρ T w1 hG1).mono (fun e w2 hew => ?_)
  obtain ⟨g, rfl, hb2, hg, hgo, hpf⟩ := hew
  show After ops D h vals effs fact i ρ T w _ w2
  have he' := he ρ g
  refine ⟨g, (hv ρ g).symm, Upd.of_below (hb.trans (hb2.mono hb.size)), ?_, ?_, ?_, by rw [ht ρ g]; exact persTrue (fun _ => hpf)⟩
  · rw [he']; intro n q hm; simp at hm
  · rw [he']
    intro j b q hj
    have : j = 0 := by
      have := (List.getElem?_eq_some_iff.1 hj).1
      simpa using this
    subst this
    simp only [List.getElem?_cons_zero, Option.some.injEq, Prod.mk.injEq] at hj
    obtain ⟨rfl, rfl⟩ := hj
    exact ⟨Nat.le_trans hb.size hg, hgo⟩
  · rw [he']; simp
end
end Go.Proofs.YtaebcmpbbamfpaaGreatDoor
