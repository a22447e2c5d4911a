/-
  Quotients and remainders: the contracts.
-/
import Derived.Test.YtlgjdejlnelndaaDivW
import Derived.Test.YtlgjdejlnelndaaRDivW
namespace Go.Proofs.Ytlgjdejlnelndaa
open Go Go.RowKit

/-- Quotient, remainder, and whether there is one. -/
def divQ (hi lo b : Nat) : Nat := if b ≤ hi then 0 else (hi * M + lo) / b
def divR (hi lo b : Nat) : Nat := if b ≤ hi then 0 else (hi * M + lo) % b
theorem div_any (hi lo b : Nat) (w : World) (h1 : hi < M) (h2 : lo < M) (h3 : b < M) :
    Calls Try.prog 18 #[U hi, U lo, U b] w fun e w' => e = .returned (.tuple #[U (divQ hi lo b), U (divR hi lo b), .bool (decide (hi < b))]) ∧ Below w.heap.size w w' := by
  unfold divQ divR
  by_cases h : b ≤ hi
  · rw [if_pos h, if_pos h, decide_eq_false (by omega)]; exact div_no hi lo b w h1 h3 h
  · rw [if_neg h, if_neg h, decide_eq_true (by omega)]; exact div_yes hi lo b w h1 h2 h3 (by omega)
theorem rdiv_any (hi lo b : Nat) (w : World) (h1 : hi < M) (h2 : lo < M) (h3 : b < M) :
    Calls Try.prog 19 #[U hi, U lo, U b] w fun e w' => e = .returned (.tuple #[U (divQ hi lo b), U (divR hi lo b), .bool (decide (hi < b))]) ∧ Below w.heap.size w w' := by
  unfold divQ divR
  by_cases h : b ≤ hi
  · rw [if_pos h, if_pos h, decide_eq_false (by omega)]; exact rdiv_no hi lo b w h1 h3 h
  · rw [if_neg h, if_neg h, decide_eq_true (by omega)]; exact rdiv_yes hi lo b w h1 h2 h3 (by omega)
theorem divQ_lt (hi lo b : Nat) (h2 : lo < M) : divQ hi lo b < M := by
  unfold divQ; split
  · exact M_pos
  · rw [Nat.div_lt_iff_lt_mul (by omega)]
    have : (hi + 1) * M ≤ b * M := Nat.mul_le_mul_right _ (by omega)
    rw [Nat.add_mul, Nat.mul_comm b] at this
    omega
theorem divR_lt (hi lo b : Nat) (h3 : b < M) : divR hi lo b < M := by
  unfold divR; split
  · exact M_pos
  · exact Nat.lt_trans (Nat.mod_lt _ (by omega)) h3

end Go.Proofs.Ytlgjdejlnelndaa
