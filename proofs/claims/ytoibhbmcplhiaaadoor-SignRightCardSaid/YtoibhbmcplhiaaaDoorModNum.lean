/-
  Numbers modulo a number: the plain arithmetic.
-/
import Derived.Test.YtoibhbmcplhiaaaDoorGNum
namespace Go.Proofs.YtoibhbmcplhiaaaDoor
open Go Go.RowKit

def addmN (a b m : Nat) : Nat := if m = 0 then 0 else (a + b) % m
def submN (a b m : Nat) : Nat := if m = 0 then 0 else (a % m + m - b % m) % m
def mulmN (a b m : Nat) : Nat := if m = 0 then 0 else (a * b) % m
def expmN (a e m : Nat) : Nat := if m = 0 then 0 else a ^ e % m
theorem modz_lt {m : Nat} (x : Nat) (h : m < M) : (if m = 0 then 0 else x % m) < M := by
  split
  · exact M_pos
  · exact Nat.lt_trans (Nat.mod_lt _ (by omega)) h
theorem addmN_lt (a b : Nat) {m : Nat} (h : m < M) : addmN a b m < M := modz_lt _ h
theorem submN_lt (a b : Nat) {m : Nat} (h : m < M) : submN a b m < M := modz_lt _ h
theorem mulmN_lt (a b : Nat) {m : Nat} (h : m < M) : mulmN a b m < M := modz_lt _ h
theorem expmN_lt (a b : Nat) {m : Nat} (h : m < M) : expmN a b m < M := modz_lt _ h
theorem redN_pos {a m : Nat} (h : decide (m = 0) = false) : redN a m = a % m ∧ 0 < m ∧ a % m < m := by
  have h0 : m ≠ 0 := of_decide_eq_false h
  unfold redN; rw [if_neg h0]
  exact ⟨rfl, by omega, Nat.mod_lt _ (by omega)⟩
theorem addm_0 {a b m : Nat} (h : decide (m = 0) = true) : 0 = addmN a b m := by unfold addmN; rw [if_pos (of_decide_eq_true h)]
theorem addm_0' {a b m : Nat} (h : decide (m = 0) = true) : m = addmN a b m := by rw [← addm_0 h]; exact of_decide_eq_true h
theorem subm_0 {a b m : Nat} (h : decide (m = 0) = true) : 0 = submN a b m := by unfold submN; rw [if_pos (of_decide_eq_true h)]
theorem subm_0' {a b m : Nat} (h : decide (m = 0) = true) : m = submN a b m := by rw [← subm_0 h]; exact of_decide_eq_true h
theorem mulm_0 {a b m : Nat} (h : decide (m = 0) = true) : 0 = mulmN a b m := by unfold mulmN; rw [if_pos (of_decide_eq_true h)]
theorem mulm_0' {a b m : Nat} (h : decide (m = 0) = true) : m = mulmN a b m := by rw [← mulm_0 h]; exact of_decide_eq_true h
theorem expm_0 {a b m : Nat} (h : decide (m = 0) = true) : 0 = expmN a b m := by unfold expmN; rw [if_pos (of_decide_eq_true h)]
theorem expm_0' {a b m : Nat} (h : decide (m = 0) = true) : m = expmN a b m := by rw [← expm_0 h]; exact of_decide_eq_true h
theorem addm_core {a b m : Nat} (h0 : 0 < m) : addmN a b m = if m ≤ a % m + b % m then a % m + b % m - m else a % m + b % m := by
  unfold addmN
  rw [if_neg (by omega), Nat.add_mod]
  have h1 := Nat.mod_lt a h0; have h2 := Nat.mod_lt b h0
  split
  · rw [Nat.mod_eq_sub_mod (by omega), Nat.mod_eq_of_lt (by omega)]
  · rw [Nat.mod_eq_of_lt (by omega)]
theorem addm_2 {a b m : Nat} (hm : m < M) (h1 : decide (m = 0) = false) (h2 : decide (M ≤ redN a m + redN b m) = true) : ((redN a m + redN b m) % M + M - m) % M = addmN a b m := by
  obtain ⟨e1, p, l1⟩ := redN_pos (a := a) h1
  obtain ⟨e2, _, l2⟩ := redN_pos (a := b) h1
  have h2 := of_decide_eq_true h2
  rw [e1, e2] at h2 ⊢
  rw [addm_core p, if_pos (by omega)]
  clear e1 e2
  generalize a % m = x at *; generalize b % m = y at *
  rw [M_eq] at *; omega
theorem addm_3t {a b m : Nat} (hm : m < M) (h1 : decide (m = 0) = false) (h2 : decide (M ≤ redN a m + redN b m) = false) (h3 : decide (0 ≤ cmpN ((redN a m + redN b m) % M) m) = true) : ((redN a m + redN b m) % M + M - m) % M = addmN a b m := by
  obtain ⟨e1, p, l1⟩ := redN_pos (a := a) h1
  obtain ⟨e2, _, l2⟩ := redN_pos (a := b) h1
  have h2 := of_decide_eq_false h2
  rw [e1, e2] at h2 ⊢
  have h3 : ¬ (a % m + b % m) % M < m := fun hh => by
    have := of_decide_eq_true h3
    rw [e1, e2] at this
    have h4 := cmpN_neg.2 hh
    omega
  rw [addm_core p]
  clear e1 e2
  generalize a % m = x at *; generalize b % m = y at *
  rw [M_eq] at *
  split <;> omega
theorem addm_3f {a b m : Nat} (_hm : m < M) (h1 : decide (m = 0) = false) (h2 : decide (M ≤ redN a m + redN b m) = false) (h3 : decide (0 ≤ cmpN ((redN a m + redN b m) % M) m) = false) : (redN a m + redN b m) % M = addmN a b m := by
  obtain ⟨e1, p, l1⟩ := redN_pos (a := a) h1
  obtain ⟨e2, _, l2⟩ := redN_pos (a := b) h1
  have h2 := of_decide_eq_false h2
  rw [e1, e2] at h2 ⊢
  have h3 : (a % m + b % m) % M < m := cmpN_neg.1 (by have := of_decide_eq_false h3; rw [e1, e2] at this; omega)
  rw [addm_core p]
  clear e1 e2
  generalize a % m = x at *; generalize b % m = y at *
  rw [M_eq] at *
  split <;> omega
theorem subm_core {a b m : Nat} (h0 : 0 < m) : submN a b m = if a % m < b % m then a % m + m - b % m else a % m - b % m := by
  unfold submN
  rw [if_neg (by omega)]
  have h1 := Nat.mod_lt a h0; have h2 := Nat.mod_lt b h0
  split
  · rw [Nat.mod_eq_of_lt (by omega)]
  · rw [show a % m + m - b % m = (a % m - b % m) + m by omega, Nat.add_mod_right, Nat.mod_eq_of_lt (by omega)]
theorem subm_t {a b m : Nat} (hm : m < M) (h1 : decide (m = 0) = false) (h2 : decide (redN a m < redN b m) = true) : ((redN a m + M - redN b m) % M + m) % M = submN a b m := by
  obtain ⟨e1, p, l1⟩ := redN_pos (a := a) h1
  obtain ⟨e2, _, l2⟩ := redN_pos (a := b) h1
  have h2 := of_decide_eq_true h2
  rw [e1, e2] at h2 ⊢
  rw [subm_core p, if_pos h2]
  clear e1 e2
  generalize a % m = x at *; generalize b % m = y at *
  rw [M_eq] at *; omega
theorem subm_f {a b m : Nat} (hm : m < M) (h1 : decide (m = 0) = false) (h2 : decide (redN a m < redN b m) = false) : (redN a m + M - redN b m) % M = submN a b m := by
  obtain ⟨e1, p, l1⟩ := redN_pos (a := a) h1
  obtain ⟨e2, _, l2⟩ := redN_pos (a := b) h1
  have h2 := of_decide_eq_false h2
  rw [e1, e2] at h2 ⊢
  rw [subm_core p, if_neg h2]
  clear e1 e2
  generalize a % m = x at *; generalize b % m = y at *
  rw [M_eq] at *; omega
theorem mulm_1 {a b m : Nat} (h1 : decide (m = 0) = false) : divR (redN (a * b / M) m) (a * b % M) m = mulmN a b m := by
  obtain ⟨e1, p, l1⟩ := redN_pos (a := a * b / M) h1
  unfold divR mulmN
  rw [e1, if_neg (by omega), if_neg (by omega), Nat.add_mod, Nat.mul_mod, Nat.mod_mod, ← Nat.mul_mod, ← Nat.add_mod, Nat.mul_comm (a * b / M), Nat.div_add_mod]
theorem mulm_2 {a b m : Nat} (hm : m < M) (h1 : decide (m = 0) = false) : divR (redN a m * redN b m / M) (redN a m * redN b m % M) m = mulmN a b m := by
  obtain ⟨e1, p, l1⟩ := redN_pos (a := a) h1
  obtain ⟨e2, _, l2⟩ := redN_pos (a := b) h1
  rw [e1, e2]
  have hlt : a % m * (b % m) / M < m := by
    rw [Nat.div_lt_iff_lt_mul M_pos]
    have : a % m * (b % m) ≤ (m - 1) * m := Nat.mul_le_mul (by omega) (by omega)
    have h3 : (m - 1) * m < m * m := Nat.mul_lt_mul_of_pos_right (by omega) p
    have h4 : m * m ≤ m * M := Nat.mul_le_mul_left _ (by omega)
    omega
  unfold divR mulmN
  rw [if_neg (by omega), if_neg (by omega), Nat.mul_comm (a % m * (b % m) / M), Nat.div_add_mod, ← Nat.mul_mod]
end Go.Proofs.YtoibhbmcplhiaaaDoor
