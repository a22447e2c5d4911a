/-
  Compact targets, work: the plain arithmetic.
-/
import Derived.Test.YtkiijahkmgmnnaaUndoNum
namespace Go.Proofs.Ytkiijahkmgmnnaa
open Go Go.RowKit

theorem bits_and_u32_n (a b : Nat) (ha : a < 4294967296) (hb : b < 4294967296) : bits .and .u32 (a : Int) (b : Int) = ((a &&& b : Nat) : Int) := by
  have hx : a &&& b < 2 ^ 32 := Nat.and_lt_two_pow _ (by omega)
  have h1 : (BitVec.ofInt 32 (a : Int)).toNat = a := by
    rw [BitVec.ofInt_natCast, BitVec.toNat_ofNat]; exact Nat.mod_eq_of_lt (by omega)
  have h2 : (BitVec.ofInt 32 (b : Int)).toNat = b := by
    rw [BitVec.ofInt_natCast, BitVec.toNat_ofNat]; exact Nat.mod_eq_of_lt (by omega)
  show IntKind.u32.wrap ((BitVec.ofInt 32 (a : Int) &&& BitVec.ofInt 32 (b : Int)).toNat : Int) = _
  rw [BitVec.toNat_and, h1, h2, IntKind.wrap_u32]
  omega
theorem bits_or_u32_n (a b : Nat) (ha : a < 4294967296) (hb : b < 4294967296) : bits .or .u32 (a : Int) (b : Int) = ((a ||| b : Nat) : Int) := by
  have hx : a ||| b < 2 ^ 32 := Nat.or_lt_two_pow (by omega) (by omega)
  have h1 : (BitVec.ofInt 32 (a : Int)).toNat = a := by
    rw [BitVec.ofInt_natCast, BitVec.toNat_ofNat]; exact Nat.mod_eq_of_lt (by omega)
  have h2 : (BitVec.ofInt 32 (b : Int)).toNat = b := by
    rw [BitVec.ofInt_natCast, BitVec.toNat_ofNat]; exact Nat.mod_eq_of_lt (by omega)
  show IntKind.u32.wrap ((BitVec.ofInt 32 (a : Int) ||| BitVec.ofInt 32 (b : Int)).toNat : Int) = _
  rw [BitVec.toNat_or, h1, h2, IntKind.wrap_u32]
  omega
theorem and_low24 {b : Nat} (h : b < 4294967296) : bits .and .u32 (b : Int) 16777215 = ((b % 16777216 : Nat) : Int) := by
  have := bits_and_u32_n b 16777215 h (by decide)
  rw [show b &&& 16777215 = b % 16777216 from Nat.and_two_pow_sub_one_eq_mod b 24] at this
  exact this
def sgnB (b : Nat) : Bool := decide (b / 8388608 % 2 = 1)
theorem and_sign {b : Nat} (h : b < 4294967296) : (bits .and .u32 (b : Int) 8388608 != 0) = sgnB b := by
  have h1 : bits .and .u32 (b : Int) 8388608 = ((b &&& 8388608 : Nat) : Int) := bits_and_u32_n b 8388608 h (by decide)
  have h2 : b &&& 8388608 = 0 ↔ ¬ ((b : Int) / 8388608 % 2 = 1) := and_two_pow_eq_zero (b : Int) 23 (by omega)
  rw [h1]
  unfold sgnB
  rw [Bool.eq_iff_iff, bne_iff_ne, decide_eq_true_eq]
  constructor
  · intro hh
    have h3 : ¬ (b &&& 8388608 = 0) := fun e => hh (by rw [e]; rfl)
    rw [h2, Classical.not_not] at h3
    omega
  · intro hh e
    have h3 : b &&& 8388608 = 0 := by omega
    have := h2.1 h3
    omega
theorem run_shr24 {P : Program} {t : TypeId} {yk : IntKind} (b : Nat) (w : World) : (binOp .shr t (.int .u32 (b : Int)) (.int yk 24)).run P w = .ok (.int .u32 ((b / 16777216 : Nat) : Int)) w := by
  have e : Int.fdiv (b : Int) (2 ^ (min (24 : Int).toNat 32)) = ((b / 16777216 : Nat) : Int) := by
    rw [show (2 : Int) ^ (min (24 : Int).toNat 32) = 16777216 by decide, Int.fdiv_eq_ediv_of_nonneg _ (by decide)]; simp
  simp only [binOp, Op.shift, if_neg (by decide : ¬ (24 : Int) < 0), IntKind.bits, e]
  rfl
theorem run_shl24 {P : Program} {t : TypeId} {yk : IntKind} (x : Nat) (h : x < 256) (w : World) : (binOp .shl t (.int .u32 (x : Int)) (.int yk 24)).run P w = .ok (.int .u32 ((x * 16777216 : Nat) : Int)) w := by
  have e : IntKind.u32.wrap ((x : Int) * (2 ^ (min (24 : Int).toNat 32))) = ((x * 16777216 : Nat) : Int) := by
    rw [show (2 : Int) ^ (min (24 : Int).toNat 32) = 16777216 by decide]
    rw [IntKind.wrap_u32]
    omega
  simp only [binOp, Op.shift, if_neg (by decide : ¬ (24 : Int) < 0), IntKind.bits, e]
  rfl
theorem u64_nat {x : Nat} (h : x < 18446744073709551616) : IntKind.u64.wrap (x : Int) = (x : Int) := by rw [u64_wrap]; omega
theorem u32_nat {x : Nat} (h : x < 4294967296) : IntKind.u32.wrap (x : Int) = (x : Int) := by
  rw [IntKind.wrap_u32]; omega
theorem or24 {x m : Nat} (hx : x < 256) (hm : m < 16777216) : bits .or .u32 ((x * 16777216 : Nat) : Int) (m : Int) = ((x * 16777216 + m : Nat) : Int) := by
  rw [bits_or_u32_n _ _ (by omega) (by omega)]
  congr 1
  have := or_add x m 24 (by omega)
  rw [show (2 : Nat) ^ 24 = 16777216 from rfl] at this
  exact this

/-! ### lengths -/
theorem lenN_zero : lenN 0 = 0 := rfl
theorem lenN_bounds {a : Nat} (h : a ≠ 0) : 0 < lenN a ∧ 2 ^ (lenN a - 1) ≤ a ∧ a < 2 ^ lenN a := by
  unfold lenN
  rw [if_neg h]
  exact ⟨by omega, by rw [Nat.add_sub_cancel]; exact Nat.log2_self_le h, Nat.lt_log2_self⟩
theorem lenN_mul {a k : Nat} (h : a ≠ 0) : lenN (a * 2 ^ k) = lenN a + k := by
  obtain ⟨h0, h1, h2⟩ := lenN_bounds h
  have e : lenN a + k = (lenN a - 1 + k) + 1 := by omega
  rw [e]
  apply lenN_of
  · rw [Nat.pow_add]; exact Nat.mul_le_mul_right _ h1
  · rw [show lenN a - 1 + k + 1 = lenN a + k by omega, Nat.pow_add]
    exact Nat.mul_lt_mul_of_pos_right h2 (Nat.pow_pos (by decide))
theorem lenN_div {a k : Nat} (hk : k < lenN a) : lenN (a / 2 ^ k) = lenN a - k := by
  have h : a ≠ 0 := by rintro rfl; rw [lenN_zero] at hk; omega
  obtain ⟨h0, h1, h2⟩ := lenN_bounds h
  rw [show lenN a - k = (lenN a - k - 1) + 1 by omega]
  apply lenN_of
  · rw [Nat.le_div_iff_mul_le (Nat.pow_pos (by decide)), ← Nat.pow_add, show lenN a - k - 1 + k = lenN a - 1 by omega]; exact h1
  · rw [Nat.div_lt_iff_lt_mul (Nat.pow_pos (by decide)), ← Nat.pow_add, show lenN a - k - 1 + 1 + k = lenN a by omega]; exact h2
theorem lenN_div0 {a k : Nat} (hk : lenN a ≤ k) : a / 2 ^ k = 0 := by
  apply Nat.div_eq_of_lt
  by_cases h : a = 0
  · rw [h]; exact Nat.pow_pos (by decide)
  · exact Nat.lt_of_lt_of_le (lenN_bounds h).2.2 (Nat.pow_le_pow_right (by decide) hk)

/-! ### expanding -/
def shfZ (a : Nat) (n : Int) : Nat := if n < 0 then shrZ a (-n) else shlZ a n
theorem shfZ_lt {a : Nat} (n : Int) (h : a < M) : shfZ a n < M := by unfold shfZ; split; exact shrZ_lt _ h; exact shlZ_lt _ h
theorem shfZ_neg {a : Nat} {n : Int} (h : decide (n < 0) = true) : shrZ a (-n) = shfZ a n := by unfold shfZ; rw [if_pos (of_decide_eq_true h)]
theorem shfZ_pos {a : Nat} {n : Int} (h : decide (n < 0) = false) : shlZ a n = shfZ a n := by unfold shfZ; rw [if_neg (of_decide_eq_false h)]
def expT (b : Nat) : Nat := shfZ (b % 16777216) (8 * (((b / 16777216 : Nat) : Int) - 3))
def expB (b : Nat) : Bool := !sgnB b && (!decide (256 < ((lenN (b % 16777216) : Nat) : Int) + 8 * (((b / 16777216 : Nat) : Int) - 3)) && !decide (expT b = 0))
def expV (b : Nat) : Nat := if expB b then expT b else 0
def expE (b : Nat) : Int := if expB b then 0 else 120
theorem low_lt (b : Nat) : b % 16777216 < M := by rw [M_eq]; omega
theorem expV_lt (b : Nat) : expV b < M := by
  unfold expV; split
  · exact shfZ_lt _ (low_lt b)
  · exact M_pos
theorem exp_no {b : Nat} (h : expB b = false) : Ending.returned (.tuple #[U 0, .int .i64 120]) = .returned (.tuple #[U (expV b), .int .i64 (expE b)]) := by
  unfold expV expE; rw [h]; rfl
theorem exp_yes {b t : Nat} (h : expB b = true) (ht : t = expT b) : Ending.returned (.tuple #[U t, .int .i64 0]) = .returned (.tuple #[U (expV b), .int .i64 (expE b)]) := by
  unfold expV expE; rw [h, ht]; rfl
theorem exp_n1 {b : Nat} (h : sgnB b = true) : expB b = false := by unfold expB; rw [h]; rfl
theorem exp_n2 {b : Nat} (h : decide (256 < ((lenN (b % 16777216) : Nat) : Int) + 8 * (((b / 16777216 : Nat) : Int) - 3)) = true) : expB b = false := by unfold expB; rw [h]; simp
theorem exp_n3 {b : Nat} (h : decide (shfZ (b % 16777216) (8 * (((b / 16777216 : Nat) : Int) - 3)) = 0) = true) : expB b = false := by
  unfold expB expT; rw [h]; simp
theorem exp_y {b : Nat} (h1 : sgnB b = false) (h2 : decide (256 < ((lenN (b % 16777216) : Nat) : Int) + 8 * (((b / 16777216 : Nat) : Int) - 3)) = false) (h3 : decide (shfZ (b % 16777216) (8 * (((b / 16777216 : Nat) : Int) - 3)) = 0) = false) : expB b = true := by
  unfold expB expT; rw [h1, h2, h3]; rfl
theorem expE_ok (b : Nat) : (expE b == 0) = expB b := by unfold expE; cases expB b <;> rfl
theorem low_len (b : Nat) : lenN (b % 16777216) ≤ 24 := lenN_lt (by rw [show (2 : Nat) ^ 24 = 16777216 from rfl]; omega)
theorem shf_small {b : Nat} (hx : decide (((b / 16777216 : Nat) : Int) < 3) = true) : shrZ (b % 16777216) (8 * (3 - ((b / 16777216 : Nat) : Int))) = shfZ (b % 16777216) (8 * (((b / 16777216 : Nat) : Int) - 3)) := by
  have hx := of_decide_eq_true hx
  unfold shfZ
  rw [if_pos (by omega)]
  congr 1; omega
theorem shf_big {b : Nat} (hx : decide (((b / 16777216 : Nat) : Int) < 3) = false) : shlZ (b % 16777216) (8 * (((b / 16777216 : Nat) : Int) - 3)) = shfZ (b % 16777216) (8 * (((b / 16777216 : Nat) : Int) - 3)) := by
  have hx := of_decide_eq_false hx
  unfold shfZ
  rw [if_neg (by omega)]
theorem small_len {b : Nat} (hx : decide (((b / 16777216 : Nat) : Int) < 3) = true) : decide (256 < ((lenN (b % 16777216) : Nat) : Int) + 8 * (((b / 16777216 : Nat) : Int) - 3)) = false := by
  have hx := of_decide_eq_true hx
  have := low_len b
  exact decide_eq_false (by omega)
theorem shl_zero (n : Int) : shlZ 0 n = 0 := by unfold shlZ shlN; split <;> simp
theorem zero_abs {b : Nat} {n : Int} (h0 : decide (b % 16777216 = 0) = true) (h : decide (shlZ (b % 16777216) n = 0) = false) : False := by
  rw [of_decide_eq_true h0, shl_zero] at h
  exact absurd h (by decide)

/-! ### compacting -/
def compX (t : Nat) : Nat := (lenN t + 8) / 8
def compM (t : Nat) : Nat := shfZ t (8 * (3 - ((compX t : Nat) : Int)))
def compN (t : Nat) : Nat := if t = 0 then 0 else compX t * 16777216 + compM t
theorem compX_lt {t : Nat} (h : t < M) : compX t < 256 ∧ compX t ≤ 33 := by
  have := lenN_le t h
  unfold compX; omega
/-- What the mantissa is. -/
theorem compM_small {t : Nat} (h0 : t ≠ 0) (h : compX t ≤ 3) : compM t = t * 2 ^ (8 * (3 - compX t)) ∧ t * 2 ^ (8 * (3 - compX t)) < 8388608 := by
  obtain ⟨l0, l1, l2⟩ := lenN_bounds h0
  have hlt : t * 2 ^ (8 * (3 - compX t)) < 8388608 := by
    have h1 : t * 2 ^ (8 * (3 - compX t)) < 2 ^ lenN t * 2 ^ (8 * (3 - compX t)) := Nat.mul_lt_mul_of_pos_right l2 (Nat.pow_pos (by decide))
    rw [← Nat.pow_add] at h1
    have h2 : 2 ^ (lenN t + 8 * (3 - compX t)) ≤ 2 ^ 23 := Nat.pow_le_pow_right (by decide) (by unfold compX at *; omega)
    rw [show (2 : Nat) ^ 23 = 8388608 from rfl] at h2
    omega
  refine ⟨?_, hlt⟩
  unfold compM shfZ shlZ
  rw [if_neg (by omega), if_neg (by omega)]
  unfold shlN
  rw [show (8 * (3 - ((compX t : Nat) : Int))).toNat = 8 * (3 - compX t) by omega, Nat.mod_eq_of_lt (by rw [M_eq]; omega)]
theorem compM_big {t : Nat} (h0 : t ≠ 0) (h : 3 < compX t) : compM t = t / 2 ^ (8 * (compX t - 3)) ∧ t / 2 ^ (8 * (compX t - 3)) < 8388608 := by
  obtain ⟨l0, l1, l2⟩ := lenN_bounds h0
  have hlt : t / 2 ^ (8 * (compX t - 3)) < 8388608 := by
    rw [Nat.div_lt_iff_lt_mul (Nat.pow_pos (by decide)), show 8388608 = 2 ^ 23 from rfl, ← Nat.pow_add]
    exact Nat.lt_of_lt_of_le l2 (Nat.pow_le_pow_right (by decide) (by unfold compX at *; omega))
  refine ⟨?_, hlt⟩
  unfold compM shfZ shrZ
  rw [if_pos (by omega), if_neg (by omega)]
  congr 2; omega
theorem compM_lt {t : Nat} (h0 : t ≠ 0) : compM t < 8388608 := by
  by_cases h : compX t ≤ 3
  · rw [(compM_small h0 h).1]; exact (compM_small h0 h).2
  · rw [(compM_big h0 (by omega)).1]; exact (compM_big h0 (by omega)).2
end Go.Proofs.Ytkiijahkmgmnnaa
