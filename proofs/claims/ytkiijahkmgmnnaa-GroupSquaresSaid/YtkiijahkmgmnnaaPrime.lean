/-
  Prime numbers: Fermat's theorem, and Pocklington's. No program in sight.
-/
import Derived.WalkKit
namespace Go.Proofs.Ytkiijahkmgmnnaa

def IsPrime (p : Nat) : Prop := 1 < p ∧ ∀ d, d ∣ p → d = 1 ∨ d = p
theorem IsPrime.coprime {p a : Nat} (hp : IsPrime p) (h : ¬ p ∣ a) : Nat.Coprime p a := by
  rcases hp.2 (Nat.gcd p a) (Nat.gcd_dvd_left p a) with h1 | h1
  · exact h1
  · exact absurd (h1 ▸ Nat.gcd_dvd_right p a) h
theorem IsPrime.dvd_mul {p a b : Nat} (hp : IsPrime p) (h : p ∣ a * b) : p ∣ a ∨ p ∣ b := by
  by_cases ha : p ∣ a
  · exact Or.inl ha
  · exact Or.inr ((hp.coprime ha).dvd_of_dvd_mul_left h)

/-! ### binomials -/
def chs : Nat → Nat → Nat
  | _, 0 => 1
  | 0, _ + 1 => 0
  | n + 1, k + 1 => chs n k + chs n (k + 1)
theorem chs_zero (n : Nat) : chs n 0 = 1 := by cases n <;> rfl
theorem chs_over : ∀ n k, n < k → chs n k = 0
  | 0, 0, h => absurd h (by omega)
  | 0, k + 1, _ => rfl
  | n + 1, 0, h => absurd h (by omega)
  | n + 1, k + 1, h => by rw [chs, chs_over n k (by omega), chs_over n (k + 1) (by omega)]
theorem chs_self : ∀ n, chs n n = 1
  | 0 => rfl
  | n + 1 => by rw [chs, chs_self n, chs_over n (n + 1) (by omega)]
theorem chs_absorb : ∀ n k, (k + 1) * chs (n + 1) (k + 1) = (n + 1) * chs n k
  | 0, 0 => rfl
  | 0, k + 1 => by rw [chs_over 1 (k + 2) (by omega), chs_over 0 (k + 1) (by omega), Nat.mul_zero, Nat.mul_zero]
  | n + 1, 0 => by
    have := chs_absorb n 0
    rw [chs_zero] at this ⊢
    rw [show chs (n + 1 + 1) (0 + 1) = chs (n + 1) 0 + chs (n + 1) (0 + 1) from rfl, chs_zero]
    omega
  | n + 1, k + 1 => by
    have h1 := chs_absorb n k
    have h2 := chs_absorb n (k + 1)
    rw [show chs (n + 1 + 1) (k + 1 + 1) = chs (n + 1) (k + 1) + chs (n + 1) (k + 1 + 1) from rfl, Nat.mul_add, h2]
    rw [show chs (n + 1) (k + 1) = chs n k + chs n (k + 1) from rfl] at h1 ⊢
    rw [show (k + 1 + 1) * (chs n k + chs n (k + 1)) = (k + 1) * (chs n k + chs n (k + 1)) + (chs n k + chs n (k + 1)) by rw [Nat.add_mul, Nat.one_mul], h1]
    rw [Nat.add_mul (n + 1) 1, Nat.mul_add, Nat.one_mul]
    omega
def sumTo (f : Nat → Nat) : Nat → Nat
  | 0 => 0
  | n + 1 => sumTo f n + f n
theorem sumTo_add (f g : Nat → Nat) : ∀ n, sumTo (fun k => f k + g k) n = sumTo f n + sumTo g n
  | 0 => rfl
  | n + 1 => by simp only [sumTo, sumTo_add f g n]; omega
theorem sumTo_mul (c : Nat) (f : Nat → Nat) : ∀ n, sumTo (fun k => c * f k) n = c * sumTo f n
  | 0 => by simp [sumTo]
  | n + 1 => by simp only [sumTo, sumTo_mul c f n, Nat.mul_add]
theorem sumTo_head (f : Nat → Nat) : ∀ n, sumTo f (n + 1) = f 0 + sumTo (fun k => f (k + 1)) n
  | 0 => by simp [sumTo]
  | n + 1 => by
    have := sumTo_head f n
    simp only [sumTo] at *
    omega
theorem sumTo_congr {f g : Nat → Nat} : ∀ n, (∀ k, k < n → f k = g k) → sumTo f n = sumTo g n
  | 0, _ => rfl
  | n + 1, h => by simp only [sumTo]; rw [sumTo_congr n (fun k hk => h k (by omega)), h n (by omega)]
theorem binom (x : Nat) : ∀ n, (x + 1) ^ n = sumTo (fun k => chs n k * x ^ k) (n + 1)
  | 0 => by simp [sumTo, chs]
  | n + 1 => by
    have ih := binom x n
    rw [sumTo_head, Nat.pow_zero, Nat.mul_one, chs_zero]
    have e1 : sumTo (fun k => chs (n + 1) (k + 1) * x ^ (k + 1)) (n + 1) = sumTo (fun k => x * (chs n k * x ^ k)) (n + 1) + sumTo (fun k => chs n (k + 1) * x ^ (k + 1)) (n + 1) := by
      rw [← sumTo_add]
      apply sumTo_congr
      intro k _
      rw [chs, Nat.add_mul, Nat.pow_succ, ← Nat.mul_assoc (chs n k), Nat.mul_comm (chs n k * x ^ k) x]
    have e2 : sumTo (fun k => chs n k * x ^ k) (n + 2) = 1 + sumTo (fun k => chs n (k + 1) * x ^ (k + 1)) (n + 1) := by
      rw [sumTo_head, Nat.pow_zero, Nat.mul_one, chs_zero]
    have e3 : sumTo (fun k => chs n k * x ^ k) (n + 2) = sumTo (fun k => chs n k * x ^ k) (n + 1) := by
      show sumTo (fun k => chs n k * x ^ k) (n + 1) + chs n (n + 1) * x ^ (n + 1) = _
      rw [chs_over n (n + 1) (by omega), Nat.zero_mul, Nat.add_zero]
    rw [e1, sumTo_mul, ← ih, Nat.pow_succ, Nat.mul_add, Nat.mul_one, Nat.mul_comm x]
    rw [e3, ← ih] at e2
    omega
theorem dvd_sumTo {m : Nat} {f : Nat → Nat} : ∀ n, (∀ k, k < n → m ∣ f k) → m ∣ sumTo f n
  | 0, _ => Nat.dvd_zero m
  | n + 1, h => Nat.dvd_add (dvd_sumTo n (fun k hk => h k (by omega))) (h n (by omega))
theorem dvd_chs {p k : Nat} (hp : IsPrime p) (h0 : 0 < k) (h1 : k < p) : p ∣ chs p k := by
  obtain ⟨n, rfl⟩ : ∃ n, p = n + 1 := ⟨p - 1, by omega⟩
  obtain ⟨j, rfl⟩ : ∃ j, k = j + 1 := ⟨k - 1, by omega⟩
  have h := chs_absorb n j
  have h2 : n + 1 ∣ (j + 1) * chs (n + 1) (j + 1) := ⟨_, h⟩
  rcases hp.dvd_mul h2 with h3 | h3
  · exact absurd (Nat.le_of_dvd (by omega) h3) (by omega)
  · exact h3
theorem dream {p : Nat} (hp : IsPrime p) (x : Nat) : (x + 1) ^ p % p = (x ^ p + 1) % p := by
  obtain ⟨n, rfl⟩ : ∃ n, p = n + 2 := ⟨p - 2, by have := hp.1; omega⟩
  rw [binom]
  show (sumTo (fun k => chs (n + 2) k * x ^ k) (n + 2) + chs (n + 2) (n + 2) * x ^ (n + 2)) % (n + 2) = _
  rw [chs_self, Nat.one_mul, sumTo_head, Nat.pow_zero, Nat.mul_one, chs_zero]
  have h : (n + 2) ∣ sumTo (fun k => chs (n + 2) (k + 1) * x ^ (k + 1)) (n + 1) := dvd_sumTo _ (fun k hk => Nat.dvd_mul_right_of_dvd (dvd_chs hp (by omega) (by omega)) _)
  obtain ⟨c, hc⟩ := h
  rw [hc, show 1 + (n + 2) * c + x ^ (n + 2) = x ^ (n + 2) + 1 + (n + 2) * c by omega, Nat.add_mul_mod_self_left]
theorem fermat {p : Nat} (hp : IsPrime p) : ∀ a, a ^ p % p = a % p
  | 0 => by rw [Nat.zero_pow (by have := hp.1; omega)]
  | a + 1 => by rw [dream hp a, Nat.add_mod, fermat hp a, ← Nat.add_mod]
theorem mod_cancel {p a x y : Nat} (hp : IsPrime p) (ha : ¬ p ∣ a) (h : a * x % p = a * y % p) (hxy : y ≤ x) : x % p = y % p := by
  have h1 := Nat.sub_mod_eq_zero_of_mod_eq h
  rw [← Nat.mul_sub] at h1
  rcases hp.dvd_mul (Nat.dvd_of_mod_eq_zero h1) with h2 | h2
  · exact absurd h2 ha
  · obtain ⟨c, hc⟩ := h2
    rw [show x = y + p * c by omega, Nat.add_mul_mod_self_left]
theorem fermat1 {p a : Nat} (hp : IsPrime p) (ha : ¬ p ∣ a) : a ^ (p - 1) % p = 1 := by
  have h1 := fermat hp a
  have ha0 : 0 < a := by
    rcases Nat.eq_zero_or_pos a with rfl | h
    · exact absurd (Nat.dvd_zero p) ha
    · exact h
  have h2 : a * a ^ (p - 1) % p = a * 1 % p := by
    rw [Nat.mul_one, ← h1, Nat.mul_comm, ← Nat.pow_succ, show (p - 1).succ = p by have := hp.1; omega]
  rw [mod_cancel hp ha h2 (Nat.pow_pos ha0), Nat.mod_eq_of_lt hp.1]

/-! ### orders -/
theorem pow_mod_one {d e m : Nat} (h : e ^ m % d = 1) (hd : 1 < d) (k : Nat) : e ^ (m * k) % d = 1 := by
  rw [Nat.pow_mul, Nat.pow_mod, h, Nat.one_pow, Nat.mod_eq_of_lt hd]
theorem pow_gcd {d e : Nat} (hd : 1 < d) (m n : Nat) : e ^ m % d = 1 → e ^ n % d = 1 → e ^ (Nat.gcd m n) % d = 1 := by
  induction m, n using Nat.gcd.induction with
  | H0 n => intro _ h; rw [Nat.gcd_zero_left]; exact h
  | H1 m n _ ih =>
    intro h1 h2
    rw [Nat.gcd_rec]
    apply ih _ h1
    have h3 : e ^ n % d = e ^ (n % m) % d := by
      have h4 : e ^ n = e ^ (m * (n / m)) * e ^ (n % m) := by rw [← Nat.pow_add, Nat.div_add_mod]
      rw [h4, Nat.mul_mod, pow_mod_one h1 hd, Nat.one_mul, Nat.mod_mod]
    rw [← h3]; exact h2
/-- The least divisor is prime. -/
theorem least_div {n : Nat} (hn : 1 < n) : ∃ d, 1 < d ∧ d ∣ n ∧ IsPrime d ∧ ∀ c, 1 < c → c ∣ n → d ≤ c := by
  have key : ∀ k, (∀ c, 1 < c → c ∣ n → k ≤ c) ∨ ∃ d, 1 < d ∧ d ∣ n ∧ ∀ c, 1 < c → c ∣ n → d ≤ c := by
    intro k
    induction k with
    | zero => exact Or.inl (fun c _ _ => Nat.zero_le c)
    | succ k ih =>
      rcases ih with h | h
      · by_cases hk : 1 < k ∧ k ∣ n
        · exact Or.inr ⟨k, hk.1, hk.2, h⟩
        · left
          intro c hc hcn
          have := h c hc hcn
          rcases Nat.eq_or_lt_of_le this with rfl | h2
          · exact absurd ⟨hc, hcn⟩ hk
          · exact h2
      · exact Or.inr h
  rcases key (n + 1) with h | ⟨d, h1, h2, h3⟩
  · exact absurd (h n hn (Nat.dvd_refl n)) (by omega)
  · refine ⟨d, h1, h2, ⟨h1, fun c hc => ?_⟩, h3⟩
    by_cases hc1 : c = 1
    · exact Or.inl hc1
    · right
      have hcpos : 0 < c := Nat.pos_of_dvd_of_pos hc (by omega)
      have := h3 c (by omega) (Nat.dvd_trans hc h2)
      have := Nat.le_of_dvd (by omega) hc
      omega
/-- Pocklington: n - 1 = q * k, q prime, q * q > n. -/
theorem pocklington {n q k a : Nat} (hq : IsPrime q) (hn : n = q * k + 1) (hk : 0 < k) (hqq : n < q * q) (h1 : a ^ (n - 1) % n = 1) (h2 : Nat.gcd (a ^ k % n - 1) n = 1) : IsPrime n := by
  have hq1 := hq.1
  have hn1 : 1 < n := by rw [hn]; have : 1 * 1 ≤ q * k := Nat.mul_le_mul (by omega) hk; omega
  obtain ⟨d, d1, d2, dp, dmin⟩ := least_div hn1
  have hdn : n % d = 0 := Nat.mod_eq_zero_of_dvd d2
  have red : ∀ x, x % n % d = x % d := fun x => Nat.mod_mod_of_dvd x d2
  -- e = a ^ k: its q-th power is 1 modulo d, and it is not 1 itself
  have e1 : (a ^ k) ^ q % d = 1 := by
    rw [← Nat.pow_mul, Nat.mul_comm k q, show q * k = n - 1 by omega, ← red, h1, Nat.mod_eq_of_lt d1]
  have e2 : ¬ (a ^ k) % d = 1 := by
    intro h
    have h3 : a ^ k % n % d = 1 := by rw [red]; exact h
    have h4 : d ∣ a ^ k % n - 1 := by
      have := Nat.sub_mod_eq_zero_of_mod_eq (m := a ^ k % n) (n := 1) (k := d) (by rw [h3, Nat.mod_eq_of_lt d1])
      exact Nat.dvd_of_mod_eq_zero this
    have h5 := Nat.dvd_gcd h4 d2
    rw [h2] at h5
    have := Nat.le_of_dvd (by decide) h5
    omega
  have e3 : ¬ d ∣ a ^ k := by
    intro h
    have : (a ^ k) ^ q % d = 0 := by
      obtain ⟨c, hc⟩ := h
      rw [hc, Nat.mul_pow]
      obtain ⟨r, hr⟩ : ∃ r, q = r + 1 := ⟨q - 1, by omega⟩
      rw [hr, Nat.pow_succ, Nat.mul_assoc, Nat.mul_left_comm]
      exact Nat.mul_mod_right _ _
    rw [e1] at this; exact absurd this (by decide)
  have e4 := fermat1 dp e3
  have e5 := pow_gcd d1 q (d - 1) e1 e4
  have e6 : q ∣ d - 1 := by
    rcases hq.2 _ (Nat.gcd_dvd_left q (d - 1)) with h | h
    · rw [h, Nat.pow_one] at e5; exact absurd e5 e2
    · rw [← h]; exact Nat.gcd_dvd_right _ _
  have e7 : q < d := by have := Nat.le_of_dvd (by omega) e6; omega
  -- so n has no divisor below itself
  refine ⟨hn1, fun c hc => ?_⟩
  by_cases hc1 : c = 1
  · exact Or.inl hc1
  · right
    obtain ⟨m, hm⟩ := hc
    have hcpos : 0 < c := by
      rcases Nat.eq_zero_or_pos c with rfl | h
      · rw [Nat.zero_mul] at hm; omega
      · exact h
    have hcd := dmin c (by omega) ⟨m, hm⟩
    by_cases hm1 : m = 1
    · rw [hm, hm1, Nat.mul_one]
    · exfalso
      have hmpos : 0 < m := by
        rcases Nat.eq_zero_or_pos m with rfl | h
        · rw [Nat.mul_zero] at hm; omega
        · exact h
      have hmd := dmin m (by omega) ⟨c, by rw [hm, Nat.mul_comm]⟩
      have : q * q ≤ c * m := Nat.mul_le_mul (by omega) (by omega)
      omega
/-- Trial division. -/
def noDiv (n : Nat) : Nat → Bool
  | 0 => true
  | k + 1 => (decide (k < 2) || n % k != 0) && noDiv n k
theorem noDiv_spec {n : Nat} : ∀ k, noDiv n k = true → ∀ c, 1 < c → c < k → ¬ c ∣ n
  | 0, _, _, _, h => absurd h (by omega)
  | k + 1, h, c, h1, h2 => by
    rw [noDiv, Bool.and_eq_true] at h
    by_cases hk : c = k
    · subst hk
      intro hd
      have := h.1
      rw [Nat.mod_eq_zero_of_dvd hd] at this
      simp at this; omega
    · exact noDiv_spec k h.2 c h1 (by omega)
theorem prime_trial {n k : Nat} (hn : 1 < n) (h : noDiv n k = true) (hk : n < k * k) : IsPrime n := by
  refine ⟨hn, fun c hc => ?_⟩
  by_cases hc1 : c = 1
  · exact Or.inl hc1
  · right
    obtain ⟨m, hm⟩ := hc
    have hcpos : 0 < c := by
      rcases Nat.eq_zero_or_pos c with rfl | h
      · rw [Nat.zero_mul] at hm; omega
      · exact h
    have hck : k ≤ c := Nat.le_of_not_lt (fun hlt => noDiv_spec k h c (by omega) hlt ⟨m, hm⟩)
    by_cases hm1 : m = 1
    · rw [hm, hm1, Nat.mul_one]
    · exfalso
      have hmpos : 0 < m := by
        rcases Nat.eq_zero_or_pos m with rfl | h
        · rw [Nat.mul_zero] at hm; omega
        · exact h
      have hmk : k ≤ m := Nat.le_of_not_lt (fun hlt => noDiv_spec k h m (by omega) hlt ⟨c, by rw [hm, Nat.mul_comm]⟩)
      have : k * k ≤ c * m := Nat.mul_le_mul hck hmk
      omega
end Go.Proofs.Ytkiijahkmgmnnaa
