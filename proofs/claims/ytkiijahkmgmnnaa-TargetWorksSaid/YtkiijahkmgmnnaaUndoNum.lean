/-
  What the laws WideUndo and WideExponents ask of plain numbers.
-/
import Derived.Test.YtkiijahkmgmnnaaExpNum
namespace Go.Proofs.Ytkiijahkmgmnnaa
open Go Go.RowKit

theorem undo_sub {a b : Nat} (ha : a < M) (hb : b < M) : ((a + b) % M + M - b) % M = a := by rw [M_eq] at *; omega
theorem undo_over {a b : Nat} (ha : a < M) (hb : b < M) : (decide (M ≤ a + b) != decide (((a + b) % M) < b)) = false := by
  rw [bne_eq_false_iff_eq, decide_eq_decide]
  rw [M_eq] at *; omega
theorem cmp_pos {b : Nat} (h : 0 < b) : 0 < cmpN b 0 := by rw [cmpN_gt h]; decide
theorem mul_lt_b {a b : Nat} (ha : a < M) (h : 0 < b) : a * b / M < b := by
  rw [Nat.div_lt_iff_lt_mul M_pos, Nat.mul_comm a]
  exact Nat.mul_lt_mul_of_pos_left ha h
theorem undo_q {a b : Nat} (ha : a < M) (h : 0 < b) : divQ (a * b / M) (a * b % M) b = a := by
  unfold divQ
  have := mul_lt_b ha h
  rw [if_neg (by omega), Nat.mul_comm (a * b / M), Nat.div_add_mod, Nat.mul_div_cancel _ h]
theorem undo_r {a b : Nat} (ha : a < M) (h : 0 < b) : divR (a * b / M) (a * b % M) b = 0 := by
  unfold divR
  have := mul_lt_b ha h
  rw [if_neg (by omega), Nat.mul_comm (a * b / M), Nat.div_add_mod, Nat.mul_mod_left]
theorem undo_parts {c b : Nat} (hc : c < M) (h : 0 < b) : divQ 0 c b * b + divR 0 c b = c ∧ divR 0 c b < b ∧ divQ 0 c b * b < M := by
  unfold divQ divR
  rw [if_neg (by omega), if_neg (by omega), Nat.zero_mul, Nat.zero_add]
  have h1 := Nat.div_add_mod c b
  rw [Nat.mul_comm] at h1
  exact ⟨h1, Nat.mod_lt _ h, by omega⟩
theorem undo_top {c b : Nat} (hc : c < M) (h : 0 < b) : divQ 0 c b * b / M = 0 := Nat.div_eq_of_lt (undo_parts hc h).2.2
theorem undo_carry {c b : Nat} (hc : c < M) (h : 0 < b) : ¬ M ≤ divQ 0 c b * b % M + divR 0 c b := by
  obtain ⟨h1, h2, h3⟩ := undo_parts hc h
  rw [Nat.mod_eq_of_lt h3]; omega
theorem undo_sum {c b : Nat} (hc : c < M) (h : 0 < b) : (divQ 0 c b * b % M + divR 0 c b) % M = c := by
  obtain ⟨h1, h2, h3⟩ := undo_parts hc h
  rw [Nat.mod_eq_of_lt h3, h1, Nat.mod_eq_of_lt hc]
theorem undo_cmp {c b : Nat} (hc : c < M) (h : 0 < b) : cmpN (divR 0 c b) b < 0 := cmpN_neg.2 (undo_parts hc h).2.1
theorem undo_shift {c : Nat} (n : Int) (hc : c < M) : shrZ (shlZ (shrZ c n) n) n = shrZ c n := by
  unfold shrZ shlZ
  by_cases h : n < 0
  · simp only [if_pos h]
  · simp only [if_neg h]
    unfold shlN
    have hp : 0 < 2 ^ n.toNat := Nat.pow_pos (by decide)
    have h1 : c / 2 ^ n.toNat * 2 ^ n.toNat ≤ c := Nat.div_mul_le_self _ _
    rw [Nat.mod_eq_of_lt (by omega), Nat.mul_div_cancel _ hp]
theorem expn_add {a m x y : Nat} (hx : x < 18446744073709551616) (hy : y < 18446744073709551616) : expmN a ((x + y) % M) m = mulmN (expmN a x m) (expmN a y m) m := by
  rw [Nat.mod_eq_of_lt (by rw [M_eq]; omega)]
  unfold expmN mulmN
  by_cases h : m = 0
  · rw [if_pos h, if_pos h]
  · rw [if_neg h, if_neg h, if_neg h, if_neg h, ← Nat.mul_mod, Nat.pow_add]
theorem expn_mul {a m x y : Nat} (hx : x < 18446744073709551616) (hy : y < 18446744073709551616) : expmN a (x * y % M) m = expmN (expmN a x m) y m := by
  have hl : x * y < M := by
    have h1 : x * y ≤ 18446744073709551616 * 18446744073709551616 := Nat.mul_le_mul (by omega) (by omega)
    rw [M_eq]; omega
  rw [Nat.mod_eq_of_lt hl]
  unfold expmN
  by_cases h : m = 0
  · rw [if_pos h, if_pos h]
  · rw [if_neg h, if_neg h, if_neg h, ← Nat.pow_mod, Nat.pow_mul]
theorem word_nat {x : Int} (h : Word x) : x.toNat < 18446744073709551616 := by unfold Word at h; omega
theorem wrap_u8 {n : Int} (h : 0 ≤ n ∧ n < 256) : IntKind.i64.wrap n = n := by rw [IntWalk.i64_in _ (by omega)]
end Go.Proofs.Ytkiijahkmgmnnaa
