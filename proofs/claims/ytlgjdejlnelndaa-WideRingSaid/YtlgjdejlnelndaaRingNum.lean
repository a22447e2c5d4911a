/-
  The ring of numbers modulo m.
-/
import Derived.Test.YtlgjdejlnelndaaModNum
namespace Go.Proofs.Ytlgjdejlnelndaa
theorem addm_comm (a b m : Nat) : addmN a b m = addmN b a m := by unfold addmN; rw [Nat.add_comm]
theorem mulm_comm (a b m : Nat) : mulmN a b m = mulmN b a m := by unfold mulmN; rw [Nat.mul_comm]
theorem addm_assoc (a b c m : Nat) : addmN (addmN a b m) c m = addmN a (addmN b c m) m := by
  unfold addmN
  by_cases h : m = 0
  · rw [if_pos h, if_pos h]
  · rw [if_neg h, if_neg h, if_neg h, if_neg h, Nat.mod_add_mod, Nat.add_mod_mod, Nat.add_assoc]
theorem mulm_assoc (a b c m : Nat) : mulmN (mulmN a b m) c m = mulmN a (mulmN b c m) m := by
  unfold mulmN
  by_cases h : m = 0
  · rw [if_pos h, if_pos h]
  · rw [if_neg h, if_neg h, if_neg h, if_neg h, Nat.mod_mul_mod, Nat.mul_mod_mod, Nat.mul_assoc]
theorem mulm_add (a b c m : Nat) : mulmN a (addmN b c m) m = addmN (mulmN a b m) (mulmN a c m) m := by
  unfold mulmN addmN
  by_cases h : m = 0
  · rw [if_pos h, if_pos h]
  · rw [if_neg h, if_neg h, if_neg h, if_neg h, if_neg h, Nat.mul_mod_mod, ← Nat.add_mod, Nat.mul_add]
theorem subm_add (a b m : Nat) : addmN (submN a b m) b m = addmN a 0 m := by
  unfold submN addmN
  by_cases h : m = 0
  · rw [if_pos h, if_pos h]
  · rw [if_neg h, if_neg h, if_neg h, Nat.mod_add_mod, Nat.add_zero, Nat.add_mod]
    have h1 := Nat.mod_lt a (by omega : 0 < m); have h2 := Nat.mod_lt b (by omega : 0 < m)
    rw [Nat.mod_add_mod, show a % m + m - b % m + b % m = a % m + m by omega, Nat.add_mod_right, Nat.mod_mod]
end Go.Proofs.Ytlgjdejlnelndaa
