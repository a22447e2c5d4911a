/-
  The reference's bits and long division: the walks.
-/
import Derived.Test.YtlgjdejlnelndaaDivW
namespace Go.Proofs.Ytlgjdejlnelndaa
open Go Go.RowKit

/-- Bit i of a number. -/
def bitN (A i : Nat) : Bool := decide (A / 2 ^ i % 2 = 1)
theorem bit_wd (A q i : Nat) (h : i / 64 = q) : (bits .and .u64 (wd A q / 2 ^ (i % 64)) 1 == 1) = bitN A i := by
  rw [wd_nat]
  have e1 : ((A / 2 ^ (64 * q) % 2 ^ 64 : Nat) : Int) / 2 ^ (i % 64) = ((A / 2 ^ (64 * q) % 2 ^ 64 / 2 ^ (i % 64) : Nat) : Int) := by simp
  generalize hx : A / 2 ^ (64 * q) % 2 ^ 64 / 2 ^ (i % 64) = x at *
  have hlt : x < 18446744073709551616 := by
    rw [← hx]
    exact Nat.lt_of_le_of_lt (Nat.div_le_self _ _) (Nat.mod_lt _ (by decide))
  have h2 : x % 2 = A / 2 ^ i % 2 := by
    rw [← hx]
    have e64 : 2 ^ 64 = 2 ^ (i % 64) * 2 ^ (64 - i % 64) := by rw [← Nat.pow_add]; congr 1; omega
    rw [e64, Nat.mod_mul_right_div_self, Nat.div_div_eq_div_mul, ← Nat.pow_add, show 64 * q + i % 64 = i by omega]
    exact Nat.mod_mod_of_dvd _ ⟨2 ^ (64 - i % 64 - 1), by rw [← Nat.pow_succ']; congr 1; omega⟩
  rw [e1]
  have h3 := bits_and_u64_nat x 1 hlt (by omega)
  have h4 : x &&& 1 = x % 2 := Nat.and_one_is_mod x
  rw [h4, h2] at h3
  change (bits .and .u64 (x : Int) ((1 : Nat) : Int) == 1) = _
  rw [h3]
  unfold bitN
  by_cases hb : A / 2 ^ i % 2 = 1
  · rw [hb, decide_eq_true rfl]; rfl
  · rw [decide_eq_false hb]
    have : A / 2 ^ i % 2 = 0 := by omega
    rw [this]; rfl
set_option maxHeartbeats 1000000 in
theorem rbit_any (A i : Nat) (w : World) (hi : i < 256) :
    Calls Try.prog 53 #[U A, .int .i64 i] w fun e w' => e = .returned (.bool (bitN A i)) ∧ Below w.heap.size w w' := by
  rcases (by omega : (i : Int) / 64 = 0 ∨ (i : Int) / 64 = 1 ∨ (i : Int) / 64 = 2 ∨ (i : Int) / 64 = 3) with h | h | h | h
  all_goals
    go_enter Try.func53, Try.ntmps53
    go_wp2
    go_ret
    first | refine ⟨ret_bool (bit_wd A 0 i (by omega)), ?_⟩ | refine ⟨ret_bool (bit_wd A 1 i (by omega)), ?_⟩ | refine ⟨ret_bool (bit_wd A 2 i (by omega)), ?_⟩ | refine ⟨ret_bool (bit_wd A 3 i (by omega)), ?_⟩
    (repeat' (first | (with_reducible exact Below.refl _ _) | (with_reducible assumption) | (with_reducible refine below_drewN ?_ _) | (with_reducible refine Below.drew ?_) | (with_reducible refine Below.setCell ?_ ?_ _) | (with_reducible refine Below.alloc ?_ ?_ _) | (with_reducible exact Nat.le_refl _) | omega | (simp; omega) | (simp; done)))
end Go.Proofs.Ytlgjdejlnelndaa
