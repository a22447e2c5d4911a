/-
  The modulus and the order of the group are prime.
-/
import Derived.Test.YtkiijahkmgmnnaaPrime
import Derived.Test.YtkiijahkmgmnnaaGroupNum
namespace Go.Proofs.Ytkiijahkmgmnnaa
theorem pock {n q k a f : Nat} (hq : IsPrime q) (hn : n = q * k + 1) (hk : 0 < k) (hqq : n < q * q) (hf : n < 2 ^ f) (h1 : powm n f a (n - 1) = 1) (h2 : Nat.gcd (powm n f a k - 1) n = 1) : IsPrime n := by
  have hq1 := hq.1
  have hkn : k < n := by
    have h3 : 1 * k ≤ q * k := Nat.mul_le_mul_right _ (by omega)
    omega
  refine pocklington hq hn hk hqq (a := a) ?_ ?_
  · rw [← powm_eq n f a (n - 1) (by omega)]; exact h1
  · rw [← powm_eq n f a k (by omega)]; exact h2
theorem prime_w : IsPrime 213319 := prime_trial (k := 500) (by decide) (by decide +kernel) (by decide)

theorem prime_v : IsPrime 2155375177 := pock (q := 213319) (k := 10104) (a := 2) (f := 32) prime_w (by decide +kernel) (by decide +kernel) (by decide +kernel) (by decide +kernel) (by decide +kernel) (by decide +kernel)
theorem prime_u : IsPrime 59483944987587859 := pock (q := 2155375177) (k := 27597954) (a := 2) (f := 56) prime_v (by decide +kernel) (by decide +kernel) (by decide +kernel) (by decide +kernel) (by decide +kernel) (by decide +kernel)
theorem prime_t : IsPrime 1202684276868524221513588244947 := pock (q := 59483944987587859) (k := 20218636761894) (a := 2) (f := 100) prime_u (by decide +kernel) (by decide +kernel) (by decide +kernel) (by decide +kernel) (by decide +kernel) (by decide +kernel)
theorem prime_s : IsPrime 3201964079152361724098258636758155557 := pock (q := 1202684276868524221513588244947) (k := 2662348) (a := 2) (f := 122) prime_t (by decide +kernel) (by decide +kernel) (by decide +kernel) (by decide +kernel) (by decide +kernel) (by decide +kernel)
theorem prime_r : IsPrime 2848630210554880446022254608450222949126931851754251657020267 := pock (q := 3201964079152361724098258636758155557) (k := 889650895555637400306338) (a := 2) (f := 201) prime_s (by decide +kernel) (by decide +kernel) (by decide +kernel) (by decide +kernel) (by decide +kernel) (by decide +kernel)
theorem prime_q : IsPrime 57896044618658097711785492504343953926634992332820282019728792003956564801911 := pock (q := 2848630210554880446022254608450222949126931851754251657020267) (k := 20324169983221730) (a := 2) (f := 255) prime_r (by decide +kernel) (by decide +kernel) (by decide +kernel) (by decide +kernel) (by decide +kernel) (by decide +kernel)
theorem prime_p : IsPrime 115792089237316195423570985008687907853269984665640564039457584007913129603823 := pock (q := 57896044618658097711785492504343953926634992332820282019728792003956564801911) (k := 2) (a := 2) (f := 256) prime_q (by decide +kernel) (by decide +kernel) (by decide +kernel) (by decide +kernel) (by decide +kernel) (by decide +kernel)
theorem pP_prime : IsPrime pP := prime_p
theorem no_dvd {a : Nat} (h : a % pP ≠ 0) : ¬ pP ∣ a := fun hd => h (Nat.mod_eq_zero_of_dvd hd)
/-- A number whose square is 1. -/
theorem sq_one {y : Nat} (hy : y < pP) (h : y * y % pP = 1) : y = 1 ∨ y = pP - 1 := by
  have hp := pP_pos
  have hy0 : 0 < y := by
    rcases Nat.eq_zero_or_pos y with rfl | h0
    · rw [Nat.zero_mul, Nat.zero_mod] at h; exact absurd h (by decide)
    · exact h0
  have h1 : pP ∣ (y - 1) * (y + 1) := by
    have e : (y - 1) * (y + 1) = y * y - 1 := by
      obtain ⟨z, rfl⟩ : ∃ z, y = z + 1 := ⟨y - 1, by omega⟩
      have e1 : (z + 1) * (z + 1) = z * z + 2 * z + 1 := by rw [Nat.add_mul, Nat.mul_add]; omega
      have e2 : z * (z + 1 + 1) = z * z + 2 * z := by rw [Nat.mul_add, Nat.mul_add]; omega
      rw [Nat.add_sub_cancel, e1, e2]
      omega
    rw [e]
    exact Nat.dvd_of_mod_eq_zero (Nat.sub_mod_eq_zero_of_mod_eq (by rw [h, Nat.mod_eq_of_lt hp]))
  rcases pP_prime.dvd_mul h1 with h2 | h2
  · left
    rcases Nat.eq_zero_or_pos (y - 1) with h3 | h3
    · omega
    · have := Nat.le_of_dvd h3 h2; omega
  · right
    have := Nat.le_of_dvd (by omega) h2
    omega
theorem half_power {c : Nat} (hc : c % pP ≠ 0) : c ^ qP % pP = 1 ∨ c ^ qP % pP = pP - 1 := by
  apply sq_one (Nat.mod_lt _ (by have := pP_pos; omega))
  rw [← Nat.mul_mod, ← Nat.pow_add, show qP + qP = pP - 1 by rw [pq]; omega]
  exact fermat1 pP_prime (no_dvd hc)
/-- The power of the negative. -/
theorem neg_power {c : Nat} (hc : c < pP) : ((pP - c) ^ qP + c ^ qP) % pP = 0 := by
  have key : ∀ n, ((pP - c) ^ (2 * n) % pP = c ^ (2 * n) % pP) ∧ ((pP - c) ^ (2 * n + 1) + c ^ (2 * n + 1)) % pP = 0 := by
    have hsq : (pP - c) ^ 2 % pP = c ^ 2 % pP := by
      have e : (pP - c) ^ 2 + pP * (2 * c) = c ^ 2 + pP * pP := by
        obtain ⟨d, hd⟩ : ∃ d, pP = d + c := ⟨pP - c, by omega⟩
        rw [hd, Nat.add_sub_cancel, Nat.pow_two, Nat.pow_two]
        have f1 : (d + c) * (2 * c) = 2 * (d * c) + 2 * (c * c) := by rw [Nat.add_mul, Nat.mul_left_comm d 2 c, Nat.mul_left_comm c 2 c]
        have f2 : (d + c) * (d + c) = d * d + 2 * (d * c) + c * c := by rw [Nat.add_mul, Nat.mul_add, Nat.mul_add, Nat.mul_comm c d]; omega
        rw [f1, f2]
        omega
      have := congrArg (· % pP) e
      simp only [Nat.add_mul_mod_self_left] at this
      exact this
    intro n
    have h1 : (pP - c) ^ (2 * n) % pP = c ^ (2 * n) % pP := by rw [Nat.pow_mul, Nat.pow_mul, Nat.pow_mod, hsq, ← Nat.pow_mod]
    refine ⟨h1, ?_⟩
    rw [Nat.pow_succ, Nat.pow_succ, Nat.add_mod, Nat.mul_mod, h1, ← Nat.mul_mod, ← Nat.add_mod, ← Nat.mul_add, show pP - c + c = pP by omega]
    exact Nat.mul_mod_left _ _
  have := (key (qP / 2)).2
  rw [show 2 * (qP / 2) + 1 = qP by decide +kernel] at this
  exact this
theorem sq_zero {a : Nat} (h : decide (addmN a 0 pP = 0) = true) : memB (submN 0 a pP) = false ∧ memB (addmN a 0 pP) = false := by
  have hp := pP_pos
  have h0 := of_decide_eq_true h
  rw [h0]
  have e : a % pP = 0 := by unfold addmN at h0; rw [if_neg (by omega), Nat.add_zero] at h0; exact h0
  have e2 : submN 0 a pP = 0 := by unfold submN; rw [if_neg (by omega), e, Nat.zero_mod, Nat.zero_add, Nat.sub_zero, Nat.mod_self]
  rw [e2]; exact ⟨memB_zero, memB_zero⟩
theorem sq_ne {a : Nat} (h : decide (addmN a 0 pP = 0) = false) : (memB (submN 0 a pP) != memB (addmN a 0 pP)) = true := by
  have hp := pP_pos
  have h0 := of_decide_eq_false h
  have ec : addmN a 0 pP = a % pP := by unfold addmN; rw [if_neg (by omega), Nat.add_zero]
  rw [ec] at h0 ⊢
  have hc := Nat.mod_lt a (by omega : 0 < pP)
  have eb : submN 0 a pP = pP - a % pP := by
    unfold submN; rw [if_neg (by omega), Nat.zero_mod, Nat.zero_add, Nat.mod_eq_of_lt (by omega)]
  rw [eb]
  generalize a % pP = c at *
  have hcm : c % pP ≠ 0 := by rw [Nat.mod_eq_of_lt hc]; exact h0
  have hs := neg_power hc
  have hbm : (pP - c) % pP ≠ 0 := by rw [Nat.mod_eq_of_lt (by omega)]; omega
  rw [Nat.add_mod] at hs
  have h1 := half_power hcm
  have h2 := half_power hbm
  have hp3 : 3 < pP := by unfold pP; decide
  have m1 : memB (pP - c) = decide ((pP - c) ^ qP % pP = 1) := by
    unfold memB; rw [decide_eq_decide]
    exact ⟨fun hh => hh.2.2, fun hh => ⟨by omega, by omega, hh⟩⟩
  have m2 : memB c = decide (c ^ qP % pP = 1) := by
    unfold memB; rw [decide_eq_decide]
    exact ⟨fun hh => hh.2.2, fun hh => ⟨h0, hc, hh⟩⟩
  rw [m1, m2]
  generalize (pP - c) ^ qP % pP = x at *
  generalize c ^ qP % pP = y at *
  rcases h1 with rfl | rfl <;> rcases h2 with rfl | rfl
  · rw [Nat.mod_eq_of_lt (by omega)] at hs; exact absurd hs (by decide)
  · rw [decide_eq_false (by omega), decide_eq_true rfl]; rfl
  · rw [decide_eq_true rfl, decide_eq_false (by omega)]; rfl
  · exfalso
    rw [show pP - 1 + (pP - 1) = pP - 2 + pP by omega, Nat.add_mod_right, Nat.mod_eq_of_lt (by omega)] at hs
    omega
theorem sq_mem {a : Nat} (h : decide (addmN a 0 pP = 0) = false) : memB (mulmN a a pP) = true := by
  have hp := pP_pos
  have h0 := of_decide_eq_false h
  have ec : addmN a 0 pP = a % pP := by unfold addmN; rw [if_neg (by omega), Nat.add_zero]
  rw [ec] at h0
  rw [mulm_p]
  unfold memB
  rw [decide_eq_true_eq]
  refine ⟨?_, Nat.mod_lt _ (by omega), ?_⟩
  · intro hz
    rcases pP_prime.dvd_mul (Nat.dvd_of_mod_eq_zero hz) with h2 | h2 <;> exact no_dvd h0 h2
  · rw [← Nat.pow_mod, ← Nat.pow_two, ← Nat.pow_mul, show 2 * qP = pP - 1 by rw [pq]; omega]
    exact fermat1 pP_prime (no_dvd h0)
end Go.Proofs.Ytkiijahkmgmnnaa
