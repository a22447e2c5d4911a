/-
  Decimal digits. No program in sight.
-/
import Derived.Test.YtlgjdejlnelndaaDivNum
import Derived.Laws.BytesArg
namespace Go.Proofs.Ytlgjdejlnelndaa
open Go

/-- Digit j of a number, the lowest first, as a character. -/
def dig (A j : Nat) : Int := 48 + ((A / 10 ^ j % 10 : Nat) : Int)
def revD (A k : Nat) : List Int := (List.range k).map (dig A)
/-- How many digits a number has (0: none). -/
def ndF : Nat → Nat → Nat
  | 0, _ => 0
  | f + 1, A => if A = 0 then 0 else 1 + ndF f (A / 10)
/-- The decimal text of a number. -/
def decS (A : Nat) : ByteArray := if A = 0 then ⟨#[48]⟩ else strOfNums (revD A (ndF 78 A)).reverse

theorem ndF_le : ∀ f A, ndF f A ≤ f
  | 0, _ => Nat.le_refl _
  | f + 1, A => by
    unfold ndF; split
    · omega
    · have := ndF_le f (A / 10); omega
theorem ndF_spec : ∀ f A, A < 10 ^ f → (∀ j, j < ndF f A → A / 10 ^ j ≠ 0) ∧ A / 10 ^ ndF f A = 0
  | 0, A, h => by
    simp at h; subst h
    exact ⟨fun j hj => by unfold ndF at hj; omega, by simp⟩
  | f + 1, A, h => by
    unfold ndF
    by_cases h0 : A = 0
    · rw [if_pos h0]; subst h0
      exact ⟨fun j hj => by omega, by simp⟩
    · rw [if_neg h0]
      have hlt : A / 10 < 10 ^ f := by rw [Nat.div_lt_iff_lt_mul (by decide)]; rw [Nat.pow_succ] at h; exact h
      obtain ⟨h1, h2⟩ := ndF_spec f (A / 10) hlt
      refine ⟨fun j hj => ?_, ?_⟩
      · cases j with
        | zero => simpa using h0
        | succ j =>
          have := h1 j (by omega)
          rw [Nat.pow_succ, Nat.mul_comm, ← Nat.div_div_eq_div_mul]; exact this
      · rw [Nat.add_comm, Nat.pow_succ, Nat.mul_comm, ← Nat.div_div_eq_div_mul]; exact h2
theorem lt_pow78 {A : Nat} (h : A < M) : A < 10 ^ 78 := Nat.lt_trans h (by rw [M_eq]; decide)
theorem revD_length (A k : Nat) : (revD A k).length = k := by simp [revD]
theorem revD_succ (A k : Nat) : revD A (k + 1) = revD A k ++ [dig A k] := by simp [revD, List.range_succ]
theorem revD_get (A k i : Nat) (h : i < k) : (revD A k)[i]? = some (dig A i) := by simp [revD, h]
theorem dig_bound (A j : Nat) : 48 ≤ dig A j ∧ dig A j ≤ 57 := by unfold dig; omega
theorem dig_of (A j a : Nat) (h : a = A / 10 ^ j) : (48 + wd (a % 10) 0) % 256 = dig A j := by
  rw [wd0, h]; unfold dig; omega
end Go.Proofs.Ytlgjdejlnelndaa
