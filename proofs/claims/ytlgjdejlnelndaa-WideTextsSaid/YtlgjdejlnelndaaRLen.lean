/-
  The reference's FromUint, Len, Zero, Not; the program's Not: the walks.
-/
import Derived.Test.YtlgjdejlnelndaaLen
namespace Go.Proofs.Ytlgjdejlnelndaa
open Go Go.RowKit

set_option maxHeartbeats 1000000 in
theorem rfromuint_any (n : Int) (w : World) (hn : Word n) :
    Calls Try.prog 21 #[.int .u64 n] w fun e w' => e = .returned (U n.toNat) ∧ Below w.heap.size w w' := by
  obtain ⟨n, rfl⟩ := Int.eq_ofNat_of_zero_le hn.1
  have h2 := hn.2
  go_enter Try.func21, Try.ntmps21
  go_wp2
  go_returns
  refine ⟨ret_U (U_small n (by omega)), ?_⟩
  (repeat' (first | (with_reducible exact Below.refl _ _) | (with_reducible assumption) | (with_reducible refine below_drewN ?_ _) | (with_reducible refine Below.drew ?_) | (with_reducible refine Below.setCell ?_ ?_ _) | (with_reducible refine Below.alloc ?_ ?_ _) | (with_reducible exact Nat.le_refl _) | omega | (simp; omega) | (simp; done)))
set_option maxHeartbeats 1000000 in
theorem rzero_any (A : Nat) (w : World) (hA : A < M) :
    Calls Try.prog 57 #[U A] w fun e w' => e = .returned (.bool (decide (A = 0))) ∧ Below w.heap.size w w' := by
  have E := fun W => eqlU0 A hA W
  go_enter Try.func57, Try.ntmps57
  go_wp2
  go_ret
  refine ⟨rfl, ?_⟩
  (repeat' (first | (with_reducible exact Below.refl _ _) | (with_reducible assumption) | (with_reducible refine below_drewN ?_ _) | (with_reducible refine Below.drew ?_) | (with_reducible refine Below.setCell ?_ ?_ _) | (with_reducible refine Below.alloc ?_ ?_ _) | (with_reducible exact Nat.le_refl _) | omega | (simp; omega) | (simp; done)))
theorem bit_lt {A m : Nat} (h : A < 2 ^ (m + 1)) (hb : bitN A m = false) : A < 2 ^ m := by
  unfold bitN at hb
  have := of_decide_eq_false hb
  have h2 : A / 2 ^ m < 2 := by rw [Nat.div_lt_iff_lt_mul (Nat.pow_pos (by decide))]; rw [Nat.pow_succ] at h; omega
  have h3 : A / 2 ^ m = 0 := by generalize A / 2 ^ m = y at *; omega
  exact Nat.lt_of_div_eq_zero (Nat.pow_pos (by decide)) h3
theorem bit_ge {A m : Nat} (hb : bitN A m = true) : 2 ^ m ≤ A := by
  unfold bitN at hb
  have h1 := of_decide_eq_true hb
  refine Nat.le_of_not_lt (fun h => ?_)
  rw [Nat.div_eq_of_lt h] at h1
  omega
set_option maxHeartbeats 1000000 in
theorem rlen_any (A : Nat) (w : World) (hA : A < M) :
    Calls Try.prog 27 #[U A] w fun e w' => e = .returned (.int .i64 (lenN A)) ∧ Below w.heap.size w w' := by
  obtain ⟨n, en⟩ : ∃ n, n = lenN A := ⟨_, rfl⟩
  rw [← en]
  have EN := Lib.hid en
  clear en
  go_enter Try.func27, Try.ntmps27
  go_wp2
  go_loopg [3] 256 (fun k p wr => k ≤ 256 ∧ p = .int .i64 (k - 1) ∧ Hid (A < 2 ^ k) ∧ Own wr w.heap.size (cU A) ∧ Below w.heap.size w wr)
  case atStart => exact ⟨by omega, rfl, Lib.hid (by rw [← M_pow]; exact hA), Own.new _, (Below.refl _ _).alloc (Nat.le_refl _) _⟩
  case round =>
    obtain ⟨hk, rfl, hlt, O, hB⟩ := hrel
    by_cases hk0 : gk = 0
    · subst hk0
      go_wp2
      go_ret
      refine ⟨ret_i64 ?_, hB⟩
      have := hlt.out
      rw [EN.out, show A = 0 by simpa using this]; rfl
    · obtain ⟨m, rfl⟩ : ∃ m, gk = m + 1 := ⟨gk - 1, by omega⟩
      have eg : ((m + 1 : Nat) : Int) - 1 = m := by omega
      rw [eg]
      clear eg
      have c0 := O.cell
      have m256 : m < 256 := by omega
      cases hb : bitN A m with
      | true =>
        have L := Lib.hid (fun W => rbit_any A m W m256)
        rw [hb] at L
        have HB := Lib.hid hb
        clear hb
        go_wp2_with fail
        refine (L.out _).mono ?_; rintro e w1 ⟨rfl, hb1⟩
        go_wp2
        go_ret
        refine ⟨ret_i64 ?_, hB.trans (hb1.mono hB.size)⟩
        rw [EN.out, lenN_of (bit_ge HB.out) hlt.out]; omega
      | false =>
        have L := Lib.hid (fun W => rbit_any A m W m256)
        rw [hb] at L
        have HB := Lib.hid hb
        clear hb
        go_wp2_with fail
        refine (L.out _).mono ?_; rintro e w1 ⟨rfl, hb1⟩
        go_wp2
        go_roundg m
        case rel => exact ⟨by omega, rfl, Lib.hid (bit_lt hlt.out HB.out), O.below hb1, hB.trans (hb1.mono hB.size)⟩
        case measure => omega

theorem xor_max {x : Int} (hx : Word x) : bits .xor .u64 IntKind.u64.max x = 18446744073709551615 - x := by
  obtain ⟨y, rfl⟩ := Int.eq_ofNat_of_zero_le hx.1
  have hy : y < 18446744073709551616 := by have := hx.2; omega
  have h1 : (BitVec.ofInt 64 IntKind.u64.max) = BitVec.allOnes 64 := by decide
  have h2 : (BitVec.ofInt 64 (y : Int)).toNat = y := by
    rw [BitVec.ofInt_natCast, BitVec.toNat_ofNat]; exact Nat.mod_eq_of_lt (by omega)
  show IntKind.u64.wrap ((BitVec.ofInt 64 IntKind.u64.max ^^^ BitVec.ofInt 64 (y : Int)).toNat : Int) = _
  rw [h1, BitVec.allOnes_xor, BitVec.toNat_not, h2, IntKind.wrap_u64]
  omega
theorem not_words (A : Nat) (hA : A < M) : Value.agg #[.int .u64 (bits .xor .u64 IntKind.u64.max (wd A 0)), .int .u64 (bits .xor .u64 IntKind.u64.max (wd A 1)), .int .u64 (bits .xor .u64 IntKind.u64.max (wd A 2)), .int .u64 (bits .xor .u64 IntKind.u64.max (wd A 3))] = U (M - 1 - A) := by
  have e := wd_sum A hA
  have a0 := wd_word A 0; have a1 := wd_word A 1; have a2 := wd_word A 2; have a3 := wd_word A 3
  rw [xor_max a0, xor_max a1, xor_max a2, xor_max a3]
  unfold Word at a0 a1 a2 a3
  refine U_of_sum _ (by unfold Word; omega) (by unfold Word; omega) (by unfold Word; omega) (by unfold Word; omega) ?_
  rw [M_eq] at *; omega
set_option maxHeartbeats 1000000 in
theorem not_any (A : Nat) (w : World) (hA : A < M) :
    Calls Try.prog 37 #[U A] w fun e w' => e = .returned (U (M - 1 - A)) ∧ Below w.heap.size w w' := by
  go_enter Try.func37, Try.ntmps37
  go_wp2
  go_returns
  refine ⟨ret_U (not_words A hA), ?_⟩
  (repeat' (first | (with_reducible exact Below.refl _ _) | (with_reducible assumption) | (with_reducible refine below_drewN ?_ _) | (with_reducible refine Below.drew ?_) | (with_reducible refine Below.setCell ?_ ?_ _) | (with_reducible refine Below.alloc ?_ ?_ _) | (with_reducible exact Nat.le_refl _) | omega | (simp; omega) | (simp; done)))
set_option maxHeartbeats 1000000 in
theorem rnot_any (A : Nat) (w : World) (hA : A < M) :
    Calls Try.prog 38 #[U A] w fun e w' => e = .returned (U (M - 1 - A)) ∧ Below w.heap.size w w' := by
  go_enter Try.func38, Try.ntmps38
  go_wp2
  go_returns
  refine ⟨ret_U (not_words A hA), ?_⟩
  (repeat' (first | (with_reducible exact Below.refl _ _) | (with_reducible assumption) | (with_reducible refine below_drewN ?_ _) | (with_reducible refine Below.drew ?_) | (with_reducible refine Below.setCell ?_ ?_ _) | (with_reducible refine Below.alloc ?_ ?_ _) | (with_reducible exact Nat.le_refl _) | omega | (simp; omega) | (simp; done)))
end Go.Proofs.Ytlgjdejlnelndaa
