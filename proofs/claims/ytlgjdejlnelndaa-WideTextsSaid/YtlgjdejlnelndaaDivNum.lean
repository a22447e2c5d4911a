/-
  Long division by bits. No program in sight.
-/
import Derived.Test.YtlgjdejlnelndaaBytesNum
namespace Go.Proofs.Ytlgjdejlnelndaa
open Go

theorem M_pow : M = 2 ^ 256 := by rw [M_eq]
theorem B64_pow : (18446744073709551616 : Nat) = 2 ^ 64 := rfl

theorem wd_nat (A i : Nat) : wd A i = ((A / 2 ^ (64 * i) % 2 ^ 64 : Nat) : Int) := by
  unfold wd; rw [B64_pow, ← Nat.pow_mul]

/-! ### one more bit of a number -/
theorem mul_two_pow_dvd {q p : Nat} (h : q % 2 ^ (p + 1) = 0) : ∃ a, q = a * 2 ^ (p + 1) :=
  ⟨q / 2 ^ (p + 1), by have := Nat.div_add_mod q (2 ^ (p + 1)); rw [h] at this; rw [Nat.mul_comm]; omega⟩

theorem setbit_hi (q p j : Nat) (h : q % 2 ^ (p + 1) = 0) (hj : p + 1 ≤ 64 * j) : wd (q + 2 ^ p) j = wd q j := by
  rw [wd_nat, wd_nat]
  congr 2
  obtain ⟨a, rfl⟩ := mul_two_pow_dvd h
  have e : 64 * j = (p + 1) + (64 * j - (p + 1)) := by omega
  have e2 : 2 ^ (64 * j) = 2 ^ (p + 1) * 2 ^ (64 * j - (p + 1)) := by rw [← Nat.pow_add, ← e]
  rw [e2, ← Nat.div_div_eq_div_mul, ← Nat.div_div_eq_div_mul]
  have hp : 0 < 2 ^ (p + 1) := Nat.pow_pos (by decide)
  have h1 : (a * 2 ^ (p + 1) + 2 ^ p) / 2 ^ (p + 1) = a := by
    rw [Nat.add_comm, Nat.add_mul_div_right _ _ hp, Nat.div_eq_of_lt (Nat.pow_lt_pow_right (by decide) (by omega))]; omega
  rw [h1, Nat.mul_div_cancel _ hp]

theorem setbit_lo (q p j : Nat) (hj : 64 * (j + 1) ≤ p) : wd (q + 2 ^ p) j = wd q j := by
  rw [wd_nat, wd_nat]
  congr 1
  have hp : 0 < 2 ^ (64 * j) := Nat.pow_pos (by decide)
  have e : 2 ^ p = 2 ^ (p - 64 * j - 64) * 2 ^ 64 * 2 ^ (64 * j) := by rw [← Nat.pow_add, ← Nat.pow_add]; congr 1; omega
  rw [e, Nat.add_mul_div_right _ _ hp, Nat.add_mul_mod_self_right]

theorem setbit_at (q j b : Nat) (hb : b < 64) (h : q % 2 ^ (64 * j + b + 1) = 0) : bits .or .u64 (wd q j) (2 ^ b) = wd (q + 2 ^ (64 * j + b)) j := by
  rw [wd_nat, wd_nat]
  obtain ⟨a, rfl⟩ := mul_two_pow_dvd h
  have hp : 0 < 2 ^ (64 * j) := Nat.pow_pos (by decide)
  have e1 : a * 2 ^ (64 * j + b + 1) = a * 2 ^ (b + 1) * 2 ^ (64 * j) := by rw [Nat.mul_assoc, ← Nat.pow_add]; congr 2; omega
  have e2 : 2 ^ (64 * j + b) = 2 ^ b * 2 ^ (64 * j) := by rw [← Nat.pow_add]; congr 1; omega
  rw [e2, Nat.add_mul_div_right _ _ hp, e1, Nat.mul_div_cancel _ hp]
  have e3 : 2 ^ 64 = 2 ^ (63 - b) * 2 ^ (b + 1) := by rw [← Nat.pow_add]; congr 1; omega
  have e4 : a * 2 ^ (b + 1) % 2 ^ 64 = a % 2 ^ (63 - b) * 2 ^ (b + 1) := by rw [e3, Nat.mul_mod_mul_right]
  have hl : a % 2 ^ (63 - b) < 2 ^ (63 - b) := Nat.mod_lt _ (Nat.pow_pos (by decide))
  have hb2 : 2 ^ (b + 1) = 2 * 2 ^ b := by rw [Nat.pow_succ]; omega
  have hpb : 0 < 2 ^ b := Nat.pow_pos (by decide)
  have hle : (a % 2 ^ (63 - b) + 1) * 2 ^ (b + 1) ≤ 2 ^ 64 := by rw [e3]; exact Nat.mul_le_mul_right _ hl
  have e5 : (a * 2 ^ (b + 1) + 2 ^ b) % 2 ^ 64 = a % 2 ^ (63 - b) * 2 ^ (b + 1) + 2 ^ b := by
    rw [Nat.add_mod, e4, Nat.mod_eq_of_lt (a := 2 ^ b) (Nat.pow_lt_pow_right (by decide) hb), Nat.mod_eq_of_lt]
    rw [Nat.add_mul] at hle; omega
  rw [e5, e4]
  rw [Nat.add_mul] at hle
  have hc : ((2 : Int) ^ b) = ((2 ^ b : Nat) : Int) := by simp
  have hlt1 : a % 2 ^ (63 - b) * 2 ^ (b + 1) < 18446744073709551616 := by rw [B64_pow]; omega
  have hlt2 : 2 ^ b < 18446744073709551616 := by rw [B64_pow]; omega
  rw [hc, bits_or_u64_nat _ _ hlt1 hlt2]
  congr 1
  exact or_add _ _ _ (Nat.pow_lt_pow_right (by decide) (by omega))

/-! ### the division -/
/-- What has been read of the dividend behind i bits. -/
def dT (N i : Nat) : Nat := N / 2 ^ (256 - i)
def dLo (lo i : Nat) : Nat := lo * 2 ^ i % M
def dR (N b i : Nat) : Nat := dT N i % b
def dQ (N b i : Nat) : Nat := dT N i / b * 2 ^ (256 - i)

theorem dLo_lt (lo i : Nat) : dLo lo i < M := Nat.mod_lt _ (by rw [M_eq]; decide)
theorem dLo_zero {lo : Nat} (h : lo < M) : dLo lo 0 = lo := by unfold dLo; rw [Nat.pow_zero, Nat.mul_one, Nat.mod_eq_of_lt h]
theorem dLo_step (lo i : Nat) : 2 * dLo lo i % M = dLo lo (i + 1) := by
  unfold dLo; rw [Nat.mul_mod_mod, Nat.pow_succ]; congr 1; rw [Nat.mul_comm 2, Nat.mul_assoc]
theorem dT_zero {hi lo : Nat} (h : lo < M) : dT (hi * M + lo) 0 = hi := by
  unfold dT; rw [Nat.sub_zero, ← M_pow, Nat.add_comm, Nat.add_mul_div_right _ _ (by rw [M_eq]; decide), Nat.div_eq_of_lt h]; omega
/-- The bit that comes next is the one that falls out of what is left. -/
theorem dT_step (hi lo i : Nat) (h : i < 256) : dT (hi * M + lo) (i + 1) = 2 * dT (hi * M + lo) i + 2 * dLo lo i / M := by
  unfold dT dLo
  rw [M_pow] at *
  have e0 : 256 - i = (256 - (i + 1)) + 1 := by omega
  generalize hk : 256 - (i + 1) = k at *
  rw [e0]
  have hi' : i = 255 - k := by omega
  -- lo = u * 2^(k+1) + v
  have hlo := Nat.div_add_mod lo (2 ^ (k + 1))
  have hv : lo % 2 ^ (k + 1) < 2 ^ (k + 1) := Nat.mod_lt _ (Nat.pow_pos (by decide))
  generalize lo / 2 ^ (k + 1) = u at *
  generalize lo % 2 ^ (k + 1) = v at *
  have pk : 2 ^ (k + 1) = 2 * 2 ^ k := by rw [Nat.pow_succ]; omega
  have p0 : 0 < 2 ^ k := Nat.pow_pos (by decide)
  have p256 : (2 : Nat) ^ 256 = 2 ^ (255 - k) * 2 ^ (k + 1) := by rw [← Nat.pow_add]; congr 1; omega
  have e1 : (hi * 2 ^ 256 + lo) / 2 ^ (k + 1) = hi * 2 ^ (255 - k) + u := by
    rw [p256, ← hlo, show hi * (2 ^ (255 - k) * 2 ^ (k + 1)) + (2 ^ (k + 1) * u + v) = v + (hi * 2 ^ (255 - k) + u) * 2 ^ (k + 1) by rw [Nat.add_mul, Nat.mul_assoc, Nat.mul_comm u]; omega,
      Nat.add_mul_div_right _ _ (Nat.pow_pos (by decide)), Nat.div_eq_of_lt hv]; omega
  have e2 : (hi * 2 ^ 256 + lo) / 2 ^ k = 2 * (hi * 2 ^ (255 - k) + u) + v / 2 ^ k := by
    rw [p256, ← hlo, show hi * (2 ^ (255 - k) * 2 ^ (k + 1)) + (2 ^ (k + 1) * u + v) = v + (2 * (hi * 2 ^ (255 - k) + u)) * 2 ^ k by
      rw [pk]
      have a1 : hi * (2 ^ (255 - k) * (2 * 2 ^ k)) = 2 * (hi * 2 ^ (255 - k)) * 2 ^ k := by
        rw [← Nat.mul_assoc, ← Nat.mul_assoc, Nat.mul_comm (hi * 2 ^ (255 - k)) 2]
      have a2 : 2 * 2 ^ k * u = 2 * u * 2 ^ k := by rw [Nat.mul_assoc, Nat.mul_comm (2 ^ k), ← Nat.mul_assoc]
      rw [a1, a2, Nat.mul_add, Nat.add_mul]; omega,
      Nat.add_mul_div_right _ _ p0]; omega
  have e3 : lo * 2 ^ i % 2 ^ 256 = v * 2 ^ (255 - k) := by
    rw [hi', ← hlo, Nat.add_mul, p256, show 2 ^ (k + 1) * u * 2 ^ (255 - k) = u * (2 ^ (255 - k) * 2 ^ (k + 1)) by rw [Nat.mul_comm (2 ^ (k + 1)), Nat.mul_assoc, Nat.mul_comm (2 ^ (k + 1))],
      Nat.add_comm, Nat.add_mul_mod_self_right, Nat.mod_eq_of_lt]
    rw [Nat.mul_comm (2 ^ (255 - k))]; exact Nat.mul_lt_mul_of_pos_right hv (Nat.pow_pos (by decide))
  have e4 : 2 * (v * 2 ^ (255 - k)) / 2 ^ 256 = v / 2 ^ k := by
    rw [p256, pk, show 2 * (v * 2 ^ (255 - k)) = v * (2 ^ (255 - k) * 2) by rw [← Nat.mul_assoc, ← Nat.mul_assoc, Nat.mul_comm 2 v, Nat.mul_assoc, Nat.mul_comm 2, ← Nat.mul_assoc],
      show 2 ^ (255 - k) * (2 * 2 ^ k) = 2 ^ k * (2 ^ (255 - k) * 2) by rw [← Nat.mul_assoc, Nat.mul_comm], Nat.mul_div_mul_right _ _ (by have : 0 < 2 ^ (255 - k) := Nat.pow_pos (by decide); omega)]
  rw [e1, e2, e3, e4]
theorem dbit (lo i : Nat) : 2 * dLo lo i / M ≤ 1 := by
  have := dLo_lt lo i
  have hM : 0 < M := by rw [M_eq]; decide
  rw [← Nat.lt_succ_iff, Nat.div_lt_iff_lt_mul hM]; omega

theorem dQ_low (N b i : Nat) (_h : i < 256) : dQ N b i % 2 ^ (255 - i + 1) = 0 := by
  unfold dQ; rw [show 255 - i + 1 = 256 - i by omega]; exact Nat.mul_mod_left _ _
/-- The step: the doubled remainder with the next bit, against the divisor. -/
theorem d_yes (hi lo b i : Nat) (hb : 0 < b) (h : i < 256) (hge : b ≤ 2 * dR (hi * M + lo) b i + 2 * dLo lo i / M) :
    dR (hi * M + lo) b (i + 1) = 2 * dR (hi * M + lo) b i + 2 * dLo lo i / M - b ∧ dQ (hi * M + lo) b (i + 1) = dQ (hi * M + lo) b i + 2 ^ (255 - i) := by
  have hT := dT_step hi lo i h
  have hbit := dbit lo i
  unfold dR dQ at *
  generalize dT (hi * M + lo) (i + 1) = T' at *
  generalize dT (hi * M + lo) i = T at *
  generalize 2 * dLo lo i / M = c at *
  have hd := Nat.div_add_mod T b
  have hr := Nat.mod_lt T hb
  generalize T / b = q at *
  generalize T % b = r at *
  have e : T' = (2 * r + c - b) + (2 * q + 1) * b := by rw [hT, ← hd, Nat.add_mul, Nat.mul_assoc, Nat.mul_comm q b]; omega
  have h1 : 2 * r + c - b < b := by omega
  rw [e, Nat.add_mul_mod_self_right, Nat.mod_eq_of_lt h1, Nat.add_mul_div_right _ _ hb, Nat.div_eq_of_lt h1]
  refine ⟨rfl, ?_⟩
  rw [show 256 - (i + 1) = 255 - i by omega, show 256 - i = 255 - i + 1 by omega, Nat.pow_succ, Nat.zero_add, Nat.add_mul, Nat.one_mul, Nat.mul_comm 2 q, Nat.mul_assoc, Nat.mul_comm 2]
theorem d_no (hi lo b i : Nat) (hb : 0 < b) (h : i < 256) (hge : 2 * dR (hi * M + lo) b i + 2 * dLo lo i / M < b) :
    dR (hi * M + lo) b (i + 1) = 2 * dR (hi * M + lo) b i + 2 * dLo lo i / M ∧ dQ (hi * M + lo) b (i + 1) = dQ (hi * M + lo) b i := by
  have hT := dT_step hi lo i h
  have hbit := dbit lo i
  unfold dR dQ at *
  generalize dT (hi * M + lo) (i + 1) = T' at *
  generalize dT (hi * M + lo) i = T at *
  generalize 2 * dLo lo i / M = c at *
  have hd := Nat.div_add_mod T b
  generalize T / b = q at *
  generalize T % b = r at *
  have e : T' = (2 * r + c) + (2 * q) * b := by rw [hT, ← hd, Nat.mul_assoc, Nat.mul_comm q b]; omega
  rw [e, Nat.add_mul_mod_self_right, Nat.mod_eq_of_lt hge, Nat.add_mul_div_right _ _ hb, Nat.div_eq_of_lt hge]
  refine ⟨rfl, ?_⟩
  rw [show 256 - (i + 1) = 255 - i by omega, show 256 - i = 255 - i + 1 by omega, Nat.pow_succ, Nat.zero_add, Nat.mul_comm 2 q, Nat.mul_assoc, Nat.mul_comm 2]
theorem dR_lt (N b i : Nat) (hb : 0 < b) : dR N b i < b := Nat.mod_lt _ hb
theorem d_start {hi lo b : Nat} (hl : lo < M) (hb : hi < b) : dR (hi * M + lo) b 0 = hi ∧ dQ (hi * M + lo) b 0 = 0 := by
  unfold dR dQ; rw [dT_zero hl, Nat.mod_eq_of_lt hb, Nat.div_eq_of_lt hb]; exact ⟨rfl, Nat.zero_mul _⟩
theorem d_end (N b : Nat) : dR N b 256 = N % b ∧ dQ N b 256 = N / b := by
  unfold dR dQ dT; simp
/-- Nothing is left: the rest of the quotient is 0. -/
theorem d_early {hi lo b i : Nat} (h : i ≤ 256) (hr : dR (hi * M + lo) b i = 0) (h0 : dLo lo i = 0) : dR (hi * M + lo) b i = (hi * M + lo) % b ∧ dQ (hi * M + lo) b i = (hi * M + lo) / b := by
  have key : ∀ k, i + k ≤ 256 → dT (hi * M + lo) (i + k) = dT (hi * M + lo) i * 2 ^ k ∧ dLo lo (i + k) = 0 := by
    intro k
    induction k with
    | zero => intro _; exact ⟨by simp, h0⟩
    | succ k ih =>
      intro hk
      obtain ⟨h1, h2⟩ := ih (by omega)
      have h3 := dT_step hi lo (i + k) (by omega)
      have h4 := dLo_step lo (i + k)
      rw [h2] at h3 h4
      refine ⟨?_, ?_⟩
      · rw [← Nat.add_assoc, h3, h1, Nat.mul_zero, Nat.zero_div, Nat.pow_succ, Nat.add_zero, Nat.mul_comm 2, Nat.mul_assoc]
      · rw [← Nat.add_assoc, ← h4]; simp
  have hN : hi * M + lo = dT (hi * M + lo) i * 2 ^ (256 - i) := by
    have := (key (256 - i) (by omega)).1
    rw [show i + (256 - i) = 256 by omega] at this
    rw [← this]; unfold dT; simp
  unfold dR dQ at *
  generalize dT (hi * M + lo) i = T at *
  rw [hN]
  by_cases hb : b = 0
  · subst hb; simp at *; simp [hr]
  · have hb' : 0 < b := by omega
    have hd := Nat.div_add_mod T b
    rw [hr] at hd
    rw [hr]
    generalize T / b = q at *
    have e : T * 2 ^ (256 - i) = q * 2 ^ (256 - i) * b := by rw [← hd, Nat.add_zero, Nat.mul_comm b q, Nat.mul_right_comm]
    rw [e, Nat.mul_mod_left, Nat.mul_div_cancel _ hb']
    exact ⟨rfl, rfl⟩
end Go.Proofs.Ytlgjdejlnelndaa
