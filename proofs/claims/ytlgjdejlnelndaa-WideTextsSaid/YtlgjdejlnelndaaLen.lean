/-
  Lengths in bits: math/bits.Len64, Len, the reference's Len.
-/
import Derived.Test.YtlgjdejlnelndaaRDiv
import Derived.Test.YtlgjdejlnelndaaShelf
import Derived.Lib.BitFns
namespace Go.Proofs.Ytlgjdejlnelndaa
open Go Go.RowKit

/-- How many bits a number has, without leading zeros. -/
def lenN (A : Nat) : Nat := if A = 0 then 0 else Nat.log2 A + 1
theorem lenN_of {A k : Nat} (h1 : 2 ^ k ≤ A) (h2 : A < 2 ^ (k + 1)) : lenN A = k + 1 := by
  have h0 : A ≠ 0 := by have : 0 < 2 ^ k := Nat.pow_pos (by decide); omega
  unfold lenN
  rw [if_neg h0]
  have a := (Nat.le_log2 h0).2 h1
  have b := (Nat.log2_lt h0).2 h2
  omega
theorem lenN_lt {A k : Nat} (h : A < 2 ^ k) : lenN A ≤ k := by
  unfold lenN
  by_cases h0 : A = 0
  · rw [if_pos h0]; omega
  · rw [if_neg h0]; exact (Nat.log2_lt h0).2 h
theorem bitLen_lenN (x : Nat) (h : x < 18446744073709551616) : Lib.bitLen x = lenN x := by
  by_cases h0 : x = 0
  · subst h0; rfl
  · have h1 := Nat.log2_self_le h0
    have h2 : x < 2 ^ (Nat.log2 x + 1) := (Nat.log2_lt h0).1 (by omega)
    rw [Lib.bitLen_shift (Nat.log2 x) x h1 h, lenN_of h1 h2]
    have : x / 2 ^ Nat.log2 x = 1 := by
      apply Nat.div_eq_of_lt_le
      · omega
      · rw [Nat.pow_succ] at h2; omega
    rw [this]; rfl
theorem len64_any (x : Int) (w : World) (hx : Word x) :
    Calls Try.prog 54 #[.int .u64 x] w fun e w' => e = .returned (.int .i64 (lenN x.toNat)) ∧ w = w' := by
  have h := len64_bit x w hx.1 (by have := hx.2; omega)
  rw [bitLen_lenN _ (by have := hx.1; have := hx.2; omega)] at h
  exact h.mono fun e w' ⟨a, b⟩ => ⟨a, b.symm⟩

/-- The highest word that is not 0 decides. -/
theorem len_word (A q : Nat) (x : Int) (hx : Word x) (h0 : x ≠ 0) (l : Nat) (hl : l < 2 ^ (64 * q)) (hA : (A : Int) = x * 2 ^ (64 * q) + l) : lenN A = 64 * q + lenN x.toNat := by
  obtain ⟨y, rfl⟩ := Int.eq_ofNat_of_zero_le hx.1
  have hy : y ≠ 0 := fun h => h0 (by rw [h]; rfl)
  rw [Int.toNat_natCast]
  have e : A = y * 2 ^ (64 * q) + l := by
    have : ((A : Nat) : Int) = ((y * 2 ^ (64 * q) + l : Nat) : Int) := by rw [hA]; simp
    omega
  have h1 := Nat.log2_self_le hy
  have h2 : y < 2 ^ (Nat.log2 y + 1) := (Nat.log2_lt hy).1 (by omega)
  have hp : 0 < 2 ^ (64 * q) := Nat.pow_pos (by decide)
  have k1 : 2 ^ (64 * q + Nat.log2 y) ≤ A := by
    rw [Nat.pow_add, Nat.mul_comm, e]
    exact Nat.le_trans (Nat.mul_le_mul_right _ h1) (Nat.le_add_right _ _)
  have k2 : A < 2 ^ (64 * q + Nat.log2 y + 1) := by
    rw [Nat.add_assoc, Nat.pow_add, Nat.mul_comm, e]
    have : (y + 1) * 2 ^ (64 * q) ≤ 2 ^ (Nat.log2 y + 1) * 2 ^ (64 * q) := Nat.mul_le_mul_right _ h2
    rw [Nat.add_mul] at this
    omega
  rw [lenN_of k1 k2, lenN_of h1 h2]; omega
theorem len3 {A : Nat} (hA : A < M) (h : wd A 3 ≠ 0) : lenN A = 192 + lenN (wd A 3).toNat := by
  have e := wd_sum A hA
  have a0 := wd_word A 0; have a1 := wd_word A 1; have a2 := wd_word A 2
  unfold Word at a0 a1 a2
  refine len_word A 3 (wd A 3) (wd_word A 3) h (wd A 0 + 18446744073709551616 * wd A 1 + 340282366920938463463374607431768211456 * wd A 2).toNat ?_ ?_
  · rw [show (2 : Nat) ^ (64 * 3) = 6277101735386680763835789423207666416102355444464034512896 from rfl]; omega
  · rw [show (2 : Int) ^ (64 * 3) = 6277101735386680763835789423207666416102355444464034512896 from rfl]; omega
theorem len2 {A : Nat} (hA : A < M) (h3 : wd A 3 = 0) (h : wd A 2 ≠ 0) : lenN A = 128 + lenN (wd A 2).toNat := by
  have e := wd_sum A hA
  have a0 := wd_word A 0; have a1 := wd_word A 1
  unfold Word at a0 a1
  refine len_word A 2 (wd A 2) (wd_word A 2) h (wd A 0 + 18446744073709551616 * wd A 1).toNat ?_ ?_
  · rw [show (2 : Nat) ^ (64 * 2) = 340282366920938463463374607431768211456 from rfl]; omega
  · rw [show (2 : Int) ^ (64 * 2) = 340282366920938463463374607431768211456 from rfl]; omega
theorem len1 {A : Nat} (hA : A < M) (h3 : wd A 3 = 0) (h2 : wd A 2 = 0) (h : wd A 1 ≠ 0) : lenN A = 64 + lenN (wd A 1).toNat := by
  have e := wd_sum A hA
  have a0 := wd_word A 0
  unfold Word at a0
  refine len_word A 1 (wd A 1) (wd_word A 1) h (wd A 0).toNat ?_ ?_
  · rw [show (2 : Nat) ^ (64 * 1) = 18446744073709551616 from rfl]; omega
  · rw [show (2 : Int) ^ (64 * 1) = 18446744073709551616 from rfl]; omega
theorem len0 {A : Nat} (hA : A < M) (h3 : wd A 3 = 0) (h2 : wd A 2 = 0) (h1 : wd A 1 = 0) : lenN A = lenN (wd A 0).toNat := by
  have e := wd_sum A hA
  congr 1; have := wd_nonneg A 0; omega
theorem lenN_le (A : Nat) (hA : A < M) : lenN A ≤ 256 := lenN_lt (by rw [← M_pow]; exact hA)

set_option maxHeartbeats 1000000 in
theorem len_any (A : Nat) (w : World) (hA : A < M) :
    Calls Try.prog 26 #[U A] w fun e w' => e = .returned (.int .i64 (lenN A)) ∧ Below w.heap.size w w' := by
  obtain ⟨n, en⟩ : ∃ n, n = lenN A := ⟨_, rfl⟩
  have hn : n ≤ 256 := by rw [en]; exact lenN_le A hA
  rw [← en]
  by_cases z3 : wd A 3 = 0
  · by_cases z2 : wd A 2 = 0
    · by_cases z1 : wd A 1 = 0
      · by_cases z0 : wd A 0 = 0
        · have en0 : n = 0 := by rw [en, len0 hA z3 z2 z1, z0]; rfl
          have t3 : (wd A 3 != 0) = false := by rw [z3]; rfl
          have t2 : (wd A 2 != 0) = false := by rw [z2]; rfl
          have t1 : (wd A 1 != 0) = false := by rw [z1]; rfl
          have t0 : (wd A 0 != 0) = false := by rw [z0]; rfl
          have EN := Lib.hid en0
          clear z0 z1 z2 z3 en en0 hn
          go_enter Try.func26, Try.ntmps26
          go_wp2
          refine wp_loop_rounds 5 ?_
          repeat (rw [rounds_succ]; go_wp2)
          go_ret
          refine ⟨by rw [EN.out]; rfl, ?_⟩
          (repeat' (first | (with_reducible exact Below.refl _ _) | (with_reducible assumption) | (with_reducible refine below_drewN ?_ _) | (with_reducible refine Below.drew ?_) | (with_reducible refine Below.setCell ?_ ?_ _) | (with_reducible refine Below.alloc ?_ ?_ _) | (with_reducible exact Nat.le_refl _) | omega | (simp; omega) | (simp; done)))
        · have en0 : n = 0 + lenN (wd A 0).toNat := by rw [en, len0 hA z3 z2 z1]; omega
          have t3 : (wd A 3 != 0) = false := by rw [z3]; rfl
          have t2 : (wd A 2 != 0) = false := by rw [z2]; rfl
          have t1 : (wd A 1 != 0) = false := by rw [z1]; rfl
          have t0 : (wd A 0 != 0) = true := by simpa using z0
          have lb := lenN_lt (A := (wd A 0).toNat) (k := 64) (by have := wd_lt A 0; have := wd_nonneg A 0; omega)
          have L := Lib.hid (fun W => len64_any (wd A 0) W (wd_word A 0))
          clear z0
          have EN := Lib.hid en0
          clear en en0 hn
          (try clear z1)
          (try clear z2)
          (try clear z3)
          go_enter Try.func26, Try.ntmps26
          go_wp2
          refine wp_loop_rounds 5 ?_
          repeat (rw [rounds_succ]; go_wp2_with fail)
          refine (L.out _).mono ?_; rintro e w' ⟨rfl, rfl⟩
          go_wp2
          go_ret
          refine ⟨ret_i64 ?_, ?_⟩
          · have := EN.out; omega
          · (repeat' (first | (with_reducible exact Below.refl _ _) | (with_reducible assumption) | (with_reducible refine below_drewN ?_ _) | (with_reducible refine Below.drew ?_) | (with_reducible refine Below.setCell ?_ ?_ _) | (with_reducible refine Below.alloc ?_ ?_ _) | (with_reducible exact Nat.le_refl _) | omega | (simp; omega) | (simp; done)))
      · have en0 : n = 64 + lenN (wd A 1).toNat := by rw [en, len1 hA z3 z2 z1]
        have t3 : (wd A 3 != 0) = false := by rw [z3]; rfl
        have t2 : (wd A 2 != 0) = false := by rw [z2]; rfl
        have t1 : (wd A 1 != 0) = true := by simpa using z1
        have lb := lenN_lt (A := (wd A 1).toNat) (k := 64) (by have := wd_lt A 1; have := wd_nonneg A 1; omega)
        have L := Lib.hid (fun W => len64_any (wd A 1) W (wd_word A 1))
        have EN := Lib.hid en0
        clear en en0 hn
        (try clear z1)
        (try clear z2)
        (try clear z3)
        go_enter Try.func26, Try.ntmps26
        go_wp2
        refine wp_loop_rounds 5 ?_
        repeat (rw [rounds_succ]; go_wp2_with fail)
        refine (L.out _).mono ?_; rintro e w' ⟨rfl, rfl⟩
        go_wp2
        go_ret
        refine ⟨ret_i64 ?_, ?_⟩
        · have := EN.out; omega
        · (repeat' (first | (with_reducible exact Below.refl _ _) | (with_reducible assumption) | (with_reducible refine below_drewN ?_ _) | (with_reducible refine Below.drew ?_) | (with_reducible refine Below.setCell ?_ ?_ _) | (with_reducible refine Below.alloc ?_ ?_ _) | (with_reducible exact Nat.le_refl _) | omega | (simp; omega) | (simp; done)))
    · have en0 : n = 128 + lenN (wd A 2).toNat := by rw [en, len2 hA z3 z2]
      have t3 : (wd A 3 != 0) = false := by rw [z3]; rfl
      have t2 : (wd A 2 != 0) = true := by simpa using z2
      have lb := lenN_lt (A := (wd A 2).toNat) (k := 64) (by have := wd_lt A 2; have := wd_nonneg A 2; omega)
      have L := Lib.hid (fun W => len64_any (wd A 2) W (wd_word A 2))
      have EN := Lib.hid en0
      clear en en0 hn
      (try clear z1)
      (try clear z2)
      (try clear z3)
      go_enter Try.func26, Try.ntmps26
      go_wp2
      refine wp_loop_rounds 5 ?_
      repeat (rw [rounds_succ]; go_wp2_with fail)
      refine (L.out _).mono ?_; rintro e w' ⟨rfl, rfl⟩
      go_wp2
      go_ret
      refine ⟨ret_i64 ?_, ?_⟩
      · have := EN.out; omega
      · (repeat' (first | (with_reducible exact Below.refl _ _) | (with_reducible assumption) | (with_reducible refine below_drewN ?_ _) | (with_reducible refine Below.drew ?_) | (with_reducible refine Below.setCell ?_ ?_ _) | (with_reducible refine Below.alloc ?_ ?_ _) | (with_reducible exact Nat.le_refl _) | omega | (simp; omega) | (simp; done)))
  · have en0 : n = 192 + lenN (wd A 3).toNat := by rw [en, len3 hA z3]
    have t3 : (wd A 3 != 0) = true := by simpa using z3
    have lb := lenN_lt (A := (wd A 3).toNat) (k := 64) (by have := wd_lt A 3; have := wd_nonneg A 3; omega)
    have L := Lib.hid (fun W => len64_any (wd A 3) W (wd_word A 3))
    have EN := Lib.hid en0
    clear en en0 hn
    (try clear z1)
    (try clear z2)
    (try clear z3)
    go_enter Try.func26, Try.ntmps26
    go_wp2
    refine wp_loop_rounds 5 ?_
    repeat (rw [rounds_succ]; go_wp2_with fail)
    refine (L.out _).mono ?_; rintro e w' ⟨rfl, rfl⟩
    go_wp2
    go_ret
    refine ⟨ret_i64 ?_, ?_⟩
    · have := EN.out; omega
    · (repeat' (first | (with_reducible exact Below.refl _ _) | (with_reducible assumption) | (with_reducible refine below_drewN ?_ _) | (with_reducible refine Below.drew ?_) | (with_reducible refine Below.setCell ?_ ?_ _) | (with_reducible refine Below.alloc ?_ ?_ _) | (with_reducible exact Nat.le_refl _) | omega | (simp; omega) | (simp; done)))
end Go.Proofs.Ytlgjdejlnelndaa
