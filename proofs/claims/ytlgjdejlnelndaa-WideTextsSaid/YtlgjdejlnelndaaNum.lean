/-
  Plain arithmetic of numbers of 256 bits: a number and its four words of 64 bits. No program in sight.
-/
import Derived.WalkKit
namespace Go.Proofs.Ytlgjdejlnelndaa
open Go

/-- Word i of a number. -/
def wd (A : Nat) (i : Nat) : Int := ((A / 18446744073709551616 ^ i % 18446744073709551616 : Nat) : Int)

/-- The value of a number in Go: [4]uint64. -/
abbrev U (A : Nat) : Value := .agg #[.int .u64 (wd A 0), .int .u64 (wd A 1), .int .u64 (wd A 2), .int .u64 (wd A 3)]

theorem wd_nonneg (A i : Nat) : 0 ≤ wd A i := by unfold wd; omega
theorem wd_lt (A i : Nat) : wd A i < 18446744073709551616 := by unfold wd; omega

def M : Nat := 115792089237316195423570985008687907853269984665640564039457584007913129639936
theorem M_eq : M = 115792089237316195423570985008687907853269984665640564039457584007913129639936 := rfl

theorem wd0 (A : Nat) : wd A 0 = ((A % 18446744073709551616 : Nat) : Int) := by unfold wd; simp
theorem wd1 (A : Nat) : wd A 1 = ((A / 18446744073709551616 % 18446744073709551616 : Nat) : Int) := by unfold wd; simp
theorem wd2 (A : Nat) : wd A 2 = ((A / 340282366920938463463374607431768211456 % 18446744073709551616 : Nat) : Int) := by unfold wd; simp
theorem wd3 (A : Nat) : wd A 3 = ((A / 6277101735386680763835789423207666416102355444464034512896 % 18446744073709551616 : Nat) : Int) := by unfold wd; simp

/-- A number below 2^256 is the sum of its words. -/
theorem wd_sum (A : Nat) (h : A < M) : (A : Int) = wd A 0 + 18446744073709551616 * wd A 1 + 340282366920938463463374607431768211456 * wd A 2 + 6277101735386680763835789423207666416102355444464034512896 * wd A 3 := by
  rw [wd0, wd1, wd2, wd3]; rw [M_eq] at h; omega

/-- The number of four words. -/
def ofW (a b c d : Int) : Nat := (a + 18446744073709551616 * b + 340282366920938463463374607431768211456 * c + 6277101735386680763835789423207666416102355444464034512896 * d).toNat

/-- What a word is. -/
def Word (x : Int) : Prop := 0 ≤ x ∧ x < 18446744073709551616
theorem wd_word (A i : Nat) : Word (wd A i) := ⟨wd_nonneg A i, wd_lt A i⟩

theorem ofW_lt {a b c d : Int} (ha : Word a) (hb : Word b) (hc : Word c) (hd : Word d) : ofW a b c d < M := by
  unfold ofW Word M at *; omega
theorem ofW_sum {a b c d : Int} (ha : Word a) (hb : Word b) (hc : Word c) (hd : Word d) : (ofW a b c d : Int) = a + 18446744073709551616 * b + 340282366920938463463374607431768211456 * c + 6277101735386680763835789423207666416102355444464034512896 * d := by
  unfold ofW Word at *; omega
theorem wd_ofW {a b c d : Int} (ha : Word a) (hb : Word b) (hc : Word c) (hd : Word d) : wd (ofW a b c d) 0 = a ∧ wd (ofW a b c d) 1 = b ∧ wd (ofW a b c d) 2 = c ∧ wd (ofW a b c d) 3 = d := by
  have h := ofW_sum ha hb hc hd
  rw [wd0, wd1, wd2, wd3]
  generalize ofW a b c d = A at *
  unfold Word at *
  refine ⟨?_, ?_, ?_, ?_⟩ <;> omega
/-- Four words are the words of the one number that is their sum. -/
theorem wd_of_sum {a b c d : Int} (N : Nat) (ha : Word a) (hb : Word b) (hc : Word c) (hd : Word d) (h : (N : Int) = a + 18446744073709551616 * b + 340282366920938463463374607431768211456 * c + 6277101735386680763835789423207666416102355444464034512896 * d) : a = wd N 0 ∧ b = wd N 1 ∧ c = wd N 2 ∧ d = wd N 3 := by
  rw [wd0, wd1, wd2, wd3]
  unfold Word at *
  refine ⟨?_, ?_, ?_, ?_⟩ <;> omega
theorem U_of_sum {a b c d : Int} (N : Nat) (ha : Word a) (hb : Word b) (hc : Word c) (hd : Word d) (h : (N : Int) = a + 18446744073709551616 * b + 340282366920938463463374607431768211456 * c + 6277101735386680763835789423207666416102355444464034512896 * d) : Value.agg #[.int .u64 a, .int .u64 b, .int .u64 c, .int .u64 d] = U N := by
  obtain ⟨rfl, rfl, rfl, rfl⟩ := wd_of_sum N ha hb hc hd h; rfl

/-- Comparison. -/
def cmpN (A B : Nat) : Int := if A < B then -1 else if B < A then 1 else 0
theorem cmpN_lt {A B : Nat} (h : A < B) : cmpN A B = -1 := by unfold cmpN; rw [if_pos h]
theorem cmpN_gt {A B : Nat} (h : B < A) : cmpN A B = 1 := by unfold cmpN; rw [if_neg (by omega), if_pos h]
theorem cmpN_eq (A : Nat) : cmpN A A = 0 := by unfold cmpN; rw [if_neg (by omega), if_neg (by omega)]
theorem cmpN_of {A B : Nat} {n : Int} (h1 : A < B → n = -1) (h2 : B < A → n = 1) (h3 : A = B → n = 0) : n = cmpN A B := by
  unfold cmpN; split
  · exact h1 ‹_›
  · split
    · exact h2 ‹_›
    · exact h3 (by omega)

end Go.Proofs.Ytlgjdejlnelndaa
