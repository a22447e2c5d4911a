/-
  Plain facts on numbers of 256 bits that the walks ask for.
-/
import Derived.Test.YtlgjdejlnelndaaDivAny
import Derived.Test.YtlgjdejlnelndaaRLen
namespace Go.Proofs.Ytlgjdejlnelndaa
open Go Go.RowKit

theorem modM_lt (x : Nat) : x % M < M := Nat.mod_lt _ M_pos
theorem subM_lt (x : Nat) : M - 1 - x < M := by have := M_pos; omega
theorem word_ltM {n : Int} (h : Word n) : n.toNat < M := by unfold Word at h; rw [M_eq]; omega
theorem U_word {n : Int} (h : Word n) : Value.agg #[.int .u64 n, .int .u64 0, .int .u64 0, .int .u64 0] = U n.toNat := by
  obtain ⟨n, rfl⟩ := Int.eq_ofNat_of_zero_le h.1
  have h2 := h.2
  exact U_small n (by omega)
theorem eqlU_same (A : Nat) (hA : A < M) (w : World) : (binOp .eql 24 (U A) (U A)).run Try.prog w = .ok (.bool true) w := by
  have h := eqlU A A hA hA w
  rw [decide_eq_true rfl] at h; exact h
theorem neqU_same (A : Nat) (hA : A < M) (w : World) : (binOp .neq 24 (U A) (U A)).run Try.prog w = .ok (.bool false) w := by
  have h := neqU A A hA hA w
  rw [decide_eq_true rfl] at h; exact h
theorem eqlH_same (A : Nat) (hA : A < M) (w : World) : (binOp .eql 26 (.agg (hB A)) (.agg (hB A))).run Try.prog w = .ok (.bool true) w := by
  have h := eqlH A A hA hA w
  rw [decide_eq_true rfl] at h; exact h
theorem fromuint_lit (n : Nat) (w : World) (hn : n < 18446744073709551616) : Calls Try.prog 20 #[.int .u64 n] w fun e w' => e = .returned (U n) ∧ Below w.heap.size w w' := by
  have h := fromuint_any n w ⟨by omega, by omega⟩
  exact h
theorem rfromuint_lit (n : Nat) (w : World) (hn : n < 18446744073709551616) : Calls Try.prog 21 #[.int .u64 n] w fun e w' => e = .returned (U n) ∧ Below w.heap.size w w' := by
  have h := rfromuint_any n w ⟨by omega, by omega⟩
  exact h
/-- a modulo m, 0 if m is 0. -/
def redN (a m : Nat) : Nat := if m = 0 then 0 else a % m
theorem redN_lt {a m : Nat} (h : a < M) : redN a m < M := by
  unfold redN; split
  · exact M_pos
  · exact Nat.lt_of_le_of_lt (Nat.mod_le _ _) h
theorem cmpN_neg {a b : Nat} : cmpN a b < 0 ↔ a < b := by
  unfold cmpN; split
  · simp; assumption
  · split <;> simp <;> omega
theorem red_lt {a m : Nat} (h : decide (cmpN a m < 0) = true) : a = redN a m := by
  have h1 := cmpN_neg.1 (of_decide_eq_true h)
  unfold redN; rw [if_neg (by omega), Nat.mod_eq_of_lt h1]
theorem red_div0 (a m : Nat) : divR 0 a m = redN a m := by
  unfold redN divR
  by_cases h0 : m = 0
  · rw [if_pos (by omega), if_pos h0]
  · rw [if_neg (by omega), if_neg h0, Nat.zero_mul, Nat.zero_add]
theorem red_div {a m : Nat} (_h : decide (cmpN a m < 0) = false) : divR 0 a m = redN a m := by
  unfold redN divR
  by_cases h0 : m = 0
  · rw [if_pos (by omega), if_pos h0]
  · rw [if_neg (by omega), if_neg h0, Nat.zero_mul, Nat.zero_add]
end Go.Proofs.Ytlgjdejlnelndaa
