/-
  Prime numbers: Fermat's theorem, and Pocklington's. No program in sight.
-/
import Derived.WalkKit
import Derived.Test.YtoibhbmcplhiaaaDoorGroupNum
namespace Go.Proofs.YtoibhbmcplhiaaaDoor

def IsPrime (p : Nat) : Prop := 1 < p ∧ ∀ d, d ∣ p → d = 1 ∨ d = p
theorem IsPrime.coprime {p a : Nat} (hp : IsPrime p) (h : ¬ p ∣ a) : Nat.Coprime p a := by
  rcases hp.2 (Nat.gcd p a) (Nat.gcd_dvd_left p a) with h1 | h1
  · exact h1
  · exact absurd (h1 ▸ Nat.gcd_dvd_right p a) h
theorem IsPrime.dvd_mul {p a b : Nat} (hp : IsPrime p) (h : p ∣ a * b) : p ∣ a ∨ p ∣ b := by
  by_cases ha : p ∣ a
  · exact Or.inl ha
  · exact Or.inr ((hp.coprime ha).dvd_of_dvd_mul_left h)

/-! ### binomials -/
def chs : Nat → Nat → Nat
  | _, 0 => 1
  | 0, _ + 1 => 0
  | n + 1, k + 1 => chs n k + chs n (k + 1)
theorem chs_zero (n : Nat) : chs n 0 = 1 := by cases n <;> rfl
theorem chs_over : ∀ n k, n < k → chs n k = 0
  | 0, 0, h => absurd h (by omega)
  | 0, k + 1, _ => rfl
  | n + 1, 0, h => absurd h (by omega)
  | n + 1, k + 1, h => by rw [chs, chs_over n k (by omega), chs_over n (k + 1) (by omega)]
theorem chs_self : ∀ n, chs n n = 1
  | 0 => rfl
  | n + 1 => by rw [chs, chs_self n, chs_over n (n + 1) (by omega)]
theorem chs_absorb : ∀ n k, (k + 1) * chs (n + 1) (k + 1) = (n + 1) * chs n k
  | 0, 0 => rfl
  | 0, k + 1 => by rw [chs_over 1 (k + 2) (by omega), chs_over 0 (k + 1) (by omega), Nat.mul_zero, Nat.mul_zero]
  | n + 1, 0 => by
    have := chs_absorb n 0
    rw [chs_zero] at this ⊢
    rw [show chs (n + 1 + 1) (0 + 1) = chs (n + 1) 0 + chs (n + 1) (0 + 1) from rfl, chs_zero]
    omega
  | n + 1, k + 1 => by
    have h1 := chs_absorb n k
    have h2 := chs_absorb n (k + 1)
    rw [show chs (n + 1 + 1) (k + 1 + 1) = chs (n + 1) (k + 1) + chs (n + 1) (k + 1 + 1) from rfl, Nat.mul_add, h2]
    rw [show chs (n + 1) (k + 1) = chs n k + chs n (k + 1) from rfl] at h1 ⊢
    rw [show (k + 1 + 1) * (chs n k + chs n (k + 1)) = (k + 1) * (chs n k + chs n (k + 1)) + (chs n k + chs n (k + 1)) by rw [Nat.add_mul, Nat.one_mul], h1]
    rw [Nat.add_mul (n + 1) 1, Nat.mul_add, Nat.one_mul]
    omega
def sumTo (f : Nat → Nat) : Nat → Nat
  | 0 => 0
  | n + 1 => sumTo f n + f n
theorem sumTo_add (f g : Nat → Nat) : ∀ n, sumTo (fun k => f k + g k) n = sumTo f n + sumTo g n
  | 0 => rfl
  | n + 1 => by simp only [sumTo, sumTo_add f g n]; omega
theorem sumTo_mul (c : Nat) (f : Nat → Nat) : ∀ n, sumTo (fun k => c * f k) n = c * sumTo f n
  | 0 => by simp [sumTo]
  | n + 1 => by simp only [sumTo, sumTo_mul c f n, Nat.mul_add]
theorem sumTo_head (f : Nat → Nat) : ∀ n, sumTo f (n + 1) = f 0 + sumTo (fun k => f (k + 1)) n
  | 0 => by simp [sumTo]
  | n + 1 => by
    have := sumTo_head f n
    simp only [sumTo] at *
    omega
theorem sumTo_congr {f g : Nat → Nat} : ∀ n, (∀ k, k < n → f k = g k) → sumTo f n = sumTo g n
  | 0, _ => rfl
  | n + 1, h => by simp only [sumTo]; rw [sumTo_congr n (fun k hk => h k (by omega)), h n (by omega)]
theorem binom (x : Nat) : ∀ n, (x + 1) ^ n = sumTo (fun k => chs n k * x ^ k) (n + 1)
  | 0 => by simp [sumTo, chs]
  | n + 1 => by
    have ih := binom x n
    rw [sumTo_head, Nat.pow_zero, Nat.mul_one, chs_zero]
    have e1 : sumTo (fun k => chs (n + 1) (k + 1) * x ^ (k + 1)) (n + 1) = sumTo (fun k => x * (chs n k * x ^ k)) (n + 1) + sumTo (fun k => chs n (k + 1) * x ^ (k + 1)) (n + 1) := by
      rw [← sumTo_add]
      apply sumTo_congr
      intro k _
      rw [chs, Nat.add_mul, Nat.pow_succ, ← Nat.mul_assoc (chs n k), Nat.mul_comm (chs n k * x ^ k) x]
    have e2 : sumTo (fun k => chs n k * x ^ k) (n + 2) = 1 + sumTo (fun k => chs n (k + 1) * x ^ (k + 1)) (n + 1) := by
      rw [sumTo_head, Nat.pow_zero, Nat.mul_one, chs_zero]
    have e3 : sumTo (fun k => chs n k * x ^ k) (n + 2) = sumTo (fun k => chs n k * x ^ k) (n + 1) := by
      show sumTo (fun k => chs n k * x ^ k) (n + 1) + chs n (n + 1) * x ^ (n + 1) = _
      rw [chs_over n (n + 1) (by omega), Nat.zero_mul, Nat.add_zero]
    rw [e1, sumTo_mul, ← ih, Nat.pow_succ, Nat.mul_add, Nat.mul_one, Nat.mul_comm x]
    rw [e3, ← ih] at e2
    omega
theorem dvd_sumTo {m : Nat} {f : Nat → Nat} : ∀ n, (∀ k, k < n → m ∣ f k) → m ∣ sumTo f n
  | 0, _ => Nat.dvd_zero m
  | n + 1, h => Nat.dvd_add (dvd_sumTo n (fun k hk => h k (by omega))) (h n (by omega))
theorem dvd_chs {p k : Nat} (hp : IsPrime p) (h0 : 0 < k) (h1 : k < p) : p ∣ chs p k := by
  obtain ⟨n, rfl⟩ : ∃ n, p = n + 1 := ⟨p - 1, by omega⟩
  obtain ⟨j, rfl⟩ : ∃ j, k = j + 1 := ⟨k - 1, by omega⟩
  have h := chs_absorb n j
  have h2 : n + 1 ∣ (j + 1) * chs (n + 1) (j + 1) := ⟨_, h⟩
  rcases hp.dvd_mul h2 with h3 | h3
  · exact absurd (Nat.le_of_dvd (by omega) h3) (by omega)
  · exact h3
theorem dream {p : Nat} (hp : IsPrime p) (x : Nat) : (x + 1) ^ p % p = (x ^ p + 1) % p := by
  obtain ⟨n, rfl⟩ : ∃ n, p = n + 2 := ⟨p - 2, by have := hp.1; omega⟩
  rw [binom]
  show (sumTo (fun k => chs (n + 2) k * x ^ k) (n + 2) + chs (n + 2) (n + 2) * x ^ (n + 2)) % (n + 2) = _
  rw [chs_self, Nat.one_mul, sumTo_head, Nat.pow_zero, Nat.mul_one, chs_zero]
  have h : (n + 2) ∣ sumTo (fun k => chs (n + 2) (k + 1) * x ^ (k + 1)) (n + 1) := dvd_sumTo _ (fun k hk => Nat.dvd_mul_right_of_dvd (dvd_chs hp (by omega) (by omega)) _)
  obtain ⟨c, hc⟩ := h
  rw [hc, show 1 + (n + 2) * c + x ^ (n + 2) = x ^ (n + 2) + 1 + (n + 2) * c by omega, Nat.add_mul_mod_self_left]
theorem fermat {p : Nat} (hp : IsPrime p) : ∀ a, a ^ p % p = a % p
  | 0 => by rw [Nat.zero_pow (by have := hp.1; omega)]
  | a + 1 => by rw [dream hp a, Nat.add_mod, fermat hp a, ← Nat.add_mod]
theorem mod_cancel {p a x y : Nat} (hp : IsPrime p) (ha : ¬ p ∣ a) (h : a * x % p = a * y % p) (hxy : y ≤ x) : x % p = y % p := by
  have h1 := Nat.sub_mod_eq_zero_of_mod_eq h
  rw [← Nat.mul_sub] at h1
  rcases hp.dvd_mul (Nat.dvd_of_mod_eq_zero h1) with h2 | h2
  · exact absurd h2 ha
  · obtain ⟨c, hc⟩ := h2
    rw [show x = y + p * c by omega, Nat.add_mul_mod_self_left]
theorem fermat1 {p a : Nat} (hp : IsPrime p) (ha : ¬ p ∣ a) : a ^ (p - 1) % p = 1 := by
  have h1 := fermat hp a
  have ha0 : 0 < a := by
    rcases Nat.eq_zero_or_pos a with rfl | h
    · exact absurd (Nat.dvd_zero p) ha
    · exact h
  have h2 : a * a ^ (p - 1) % p = a * 1 % p := by
    rw [Nat.mul_one, ← h1, Nat.mul_comm, ← Nat.pow_succ, show (p - 1).succ = p by have := hp.1; omega]
  rw [mod_cancel hp ha h2 (Nat.pow_pos ha0), Nat.mod_eq_of_lt hp.1]

/-! ### orders -/
theorem pow_mod_one {d e m : Nat} (h : e ^ m % d = 1) (hd : 1 < d) (k : Nat) : e ^ (m * k) % d = 1 := by
  rw [Nat.pow_mul, Nat.pow_mod, h, Nat.one_pow, Nat.mod_eq_of_lt hd]
theorem pow_gcd {d e : Nat} (hd : 1 < d) (m n : Nat) : e ^ m % d = 1 → e ^ n % d = 1 → e ^ (Nat.gcd m n) % d = 1 := by
  induction m, n using Nat.gcd.induction with
  | H0 n => intro _ h; rw [Nat.gcd_zero_left]; exact h
  | H1 m n _ ih =>
    intro h1 h2
    rw [Nat.gcd_rec]
    apply ih _ h1
    have h3 : e ^ n % d = e ^ (n % m) % d := by
      have h4 : e ^ n = e ^ (m * (n / m)) * e ^ (n % m) := by rw [← Nat.pow_add, Nat.div_add_mod]
      rw [h4, Nat.mul_mod, pow_mod_one h1 hd, Nat.one_mul, Nat.mod_mod]
    rw [← h3]; exact h2
/-- The least divisor is prime. -/
theorem least_div {n : Nat} (hn : 1 < n) : ∃ d, 1 < d ∧ d ∣ n ∧ IsPrime d ∧ ∀ c, 1 < c → c ∣ n → d ≤ c := by
  have key : ∀ k, (∀ c, 1 < c → c ∣ n → k ≤ c) ∨ ∃ d, 1 < d ∧ d ∣ n ∧ ∀ c, 1 < c → c ∣ n → d ≤ c := by
    intro k
    induction k with
    | zero => exact Or.inl (fun c _ _ => Nat.zero_le c)
    | succ k ih =>
      rcases ih with h | h
      · by_cases hk : 1 < k ∧ k ∣ n
        · exact Or.inr ⟨k, hk.1, hk.2, h⟩
        · left
          intro c hc hcn
          have := h c hc hcn
          rcases Nat.eq_or_lt_of_le this with rfl | h2
          · exact absurd ⟨hc, hcn⟩ hk
          · exact h2
      · exact Or.inr h
  rcases key (n + 1) with h | ⟨d, h1, h2, h3⟩
  · exact absurd (h n hn (Nat.dvd_refl n)) (by omega)
  · refine ⟨d, h1, h2, ⟨h1, fun c hc => ?_⟩, h3⟩
    by_cases hc1 : c = 1
    · exact Or.inl hc1
    · right
      have hcpos : 0 < c := Nat.pos_of_dvd_of_pos hc (by omega)
      have := h3 c (by omega) (Nat.dvd_trans hc h2)
      have := Nat.le_of_dvd (by omega) hc
      omega
/-- Pocklington: n - 1 = q * k, q prime, q * q > n. -/
theorem pocklington {n q k a : Nat} (hq : IsPrime q) (hn : n = q * k + 1) (hk : 0 < k) (hqq : n < q * q) (h1 : a ^ (n - 1) % n = 1) (h2 : Nat.gcd (a ^ k % n - 1) n = 1) : IsPrime n := by
  have hq1 := hq.1
  have hn1 : 1 < n := by rw [hn]; have : 1 * 1 ≤ q * k := Nat.mul_le_mul (by omega) hk; omega
  obtain ⟨d, d1, d2, dp, dmin⟩ := least_div hn1
  have hdn : n % d = 0 := Nat.mod_eq_zero_of_dvd d2
  have red : ∀ x, x % n % d = x % d := fun x => Nat.mod_mod_of_dvd x d2
  -- e = a ^ k: its q-th power is 1 modulo d, and it is not 1 itself
  have e1 : (a ^ k) ^ q % d = 1 := by
    rw [← Nat.pow_mul, Nat.mul_comm k q, show q * k = n - 1 by omega, ← red, h1, Nat.mod_eq_of_lt d1]
  have e2 : ¬ (a ^ k) % d = 1 := by
    intro h
    have h3 : a ^ k % n % d = 1 := by rw [red]; exact h
    have h4 : d ∣ a ^ k % n - 1 := by
      have := Nat.sub_mod_eq_zero_of_mod_eq (m := a ^ k % n) (n := 1) (k := d) (by rw [h3, Nat.mod_eq_of_lt d1])
      exact Nat.dvd_of_mod_eq_zero this
    have h5 := Nat.dvd_gcd h4 d2
    rw [h2] at h5
    have := Nat.le_of_dvd (by decide) h5
    omega
  have e3 : ¬ d ∣ a ^ k := by
    intro h
    have : (a ^ k) ^ q % d = 0 := by
      obtain ⟨c, hc⟩ := h
      rw [hc, Nat.mul_pow]
      obtain ⟨r, hr⟩ : ∃ r, q = r + 1 := ⟨q - 1, by omega⟩
      rw [hr, Nat.pow_succ, Nat.mul_assoc, Nat.mul_left_comm]
      exact Nat.mul_mod_right _ _
    rw [e1] at this; exact absurd this (by decide)
  have e4 := fermat1 dp e3
  have e5 := pow_gcd d1 q (d - 1) e1 e4
  have e6 : q ∣ d - 1 := by
    rcases hq.2 _ (Nat.gcd_dvd_left q (d - 1)) with h | h
    · rw [h, Nat.pow_one] at e5; exact absurd e5 e2
    · rw [← h]; exact Nat.gcd_dvd_right _ _
  have e7 : q < d := by have := Nat.le_of_dvd (by omega) e6; omega
  -- so n has no divisor below itself
  refine ⟨hn1, fun c hc => ?_⟩
  by_cases hc1 : c = 1
  · exact Or.inl hc1
  · right
    obtain ⟨m, hm⟩ := hc
    have hcpos : 0 < c := by
      rcases Nat.eq_zero_or_pos c with rfl | h
      · rw [Nat.zero_mul] at hm; omega
      · exact h
    have hcd := dmin c (by omega) ⟨m, hm⟩
    by_cases hm1 : m = 1
    · rw [hm, hm1, Nat.mul_one]
    · exfalso
      have hmpos : 0 < m := by
        rcases Nat.eq_zero_or_pos m with rfl | h
        · rw [Nat.mul_zero] at hm; omega
        · exact h
      have hmd := dmin m (by omega) ⟨c, by rw [hm, Nat.mul_comm]⟩
      have : q * q ≤ c * m := Nat.mul_le_mul (by omega) (by omega)
      omega
/-- Trial division. -/
def noDiv (n : Nat) : Nat → Bool
  | 0 => true
  | k + 1 => (decide (k < 2) || n % k != 0) && noDiv n k
theorem noDiv_spec {n : Nat} : ∀ k, noDiv n k = true → ∀ c, 1 < c → c < k → ¬ c ∣ n
  | 0, _, _, _, h => absurd h (by omega)
  | k + 1, h, c, h1, h2 => by
    rw [noDiv, Bool.and_eq_true] at h
    by_cases hk : c = k
    · subst hk
      intro hd
      have := h.1
      rw [Nat.mod_eq_zero_of_dvd hd] at this
      simp at this; omega
    · exact noDiv_spec k h.2 c h1 (by omega)
theorem prime_trial {n k : Nat} (hn : 1 < n) (h : noDiv n k = true) (hk : n < k * k) : IsPrime n := by
  refine ⟨hn, fun c hc => ?_⟩
  by_cases hc1 : c = 1
  · exact Or.inl hc1
  · right
    obtain ⟨m, hm⟩ := hc
    have hcpos : 0 < c := by
      rcases Nat.eq_zero_or_pos c with rfl | h
      · rw [Nat.zero_mul] at hm; omega
      · exact h
    have hck : k ≤ c := Nat.le_of_not_lt (fun hlt => noDiv_spec k h c (by omega) hlt ⟨m, hm⟩)
    by_cases hm1 : m = 1
    · rw [hm, hm1, Nat.mul_one]
    · exfalso
      have hmpos : 0 < m := by
        rcases Nat.eq_zero_or_pos m with rfl | h
        · rw [Nat.mul_zero] at hm; omega
        · exact h
      have hmk : k ≤ m := Nat.le_of_not_lt (fun hlt => noDiv_spec k h m (by omega) hlt ⟨c, by rw [hm, Nat.mul_comm]⟩)
      have : k * k ≤ c * m := Nat.mul_le_mul hck hmk
      omega
theorem pock {n q k a f : Nat} (hq : IsPrime q) (hn : n = q * k + 1) (hk : 0 < k) (hqq : n < q * q) (hf : n < 2 ^ f) (h1 : powm n f a (n - 1) = 1) (h2 : Nat.gcd (powm n f a k - 1) n = 1) : IsPrime n := by
  have hq1 := hq.1
  have hkn : k < n := by
    have h3 : 1 * k ≤ q * k := Nat.mul_le_mul_right _ (by omega)
    omega
  refine pocklington hq hn hk hqq (a := a) ?_ ?_
  · rw [← powm_eq n f a (n - 1) (by omega)]; exact h1
  · rw [← powm_eq n f a k (by omega)]; exact h2
theorem prime_w : IsPrime 213319 := prime_trial (k := 500) (by decide) (by decide +kernel) (by decide)

theorem prime_v : IsPrime 2155375177 := pock (q := 213319) (k := 10104) (a := 2) (f := 32) prime_w (by decide +kernel) (by decide +kernel) (by decide +kernel) (by decide +kernel) (by decide +kernel) (by decide +kernel)
theorem prime_u : IsPrime 59483944987587859 := pock (q := 2155375177) (k := 27597954) (a := 2) (f := 56) prime_v (by decide +kernel) (by decide +kernel) (by decide +kernel) (by decide +kernel) (by decide +kernel) (by decide +kernel)
theorem prime_t : IsPrime 1202684276868524221513588244947 := pock (q := 59483944987587859) (k := 20218636761894) (a := 2) (f := 100) prime_u (by decide +kernel) (by decide +kernel) (by decide +kernel) (by decide +kernel) (by decide +kernel) (by decide +kernel)
theorem prime_s : IsPrime 3201964079152361724098258636758155557 := pock (q := 1202684276868524221513588244947) (k := 2662348) (a := 2) (f := 122) prime_t (by decide +kernel) (by decide +kernel) (by decide +kernel) (by decide +kernel) (by decide +kernel) (by decide +kernel)
theorem prime_r : IsPrime 2848630210554880446022254608450222949126931851754251657020267 := pock (q := 3201964079152361724098258636758155557) (k := 889650895555637400306338) (a := 2) (f := 201) prime_s (by decide +kernel) (by decide +kernel) (by decide +kernel) (by decide +kernel) (by decide +kernel) (by decide +kernel)
theorem prime_q : IsPrime 57896044618658097711785492504343953926634992332820282019728792003956564801911 := pock (q := 2848630210554880446022254608450222949126931851754251657020267) (k := 20324169983221730) (a := 2) (f := 255) prime_r (by decide +kernel) (by decide +kernel) (by decide +kernel) (by decide +kernel) (by decide +kernel) (by decide +kernel)
theorem prime_p : IsPrime 115792089237316195423570985008687907853269984665640564039457584007913129603823 := pock (q := 57896044618658097711785492504343953926634992332820282019728792003956564801911) (k := 2) (a := 2) (f := 256) prime_q (by decide +kernel) (by decide +kernel) (by decide +kernel) (by decide +kernel) (by decide +kernel) (by decide +kernel)
theorem pP_prime : IsPrime pP := prime_p
theorem no_dvd {a : Nat} (h : a % pP ≠ 0) : ¬ pP ∣ a := fun hd => h (Nat.mod_eq_zero_of_dvd hd)
/-- A number whose square is 1. -/
theorem sq_one {y : Nat} (hy : y < pP) (h : y * y % pP = 1) : y = 1 ∨ y = pP - 1 := by
  have hp := pP_pos
  have hy0 : 0 < y := by
    rcases Nat.eq_zero_or_pos y with rfl | h0
    · rw [Nat.zero_mul, Nat.zero_mod] at h; exact absurd h (by decide)
    · exact h0
  have h1 : pP ∣ (y - 1) * (y + 1) := by
    have e : (y - 1) * (y + 1) = y * y - 1 := by
      obtain ⟨z, rfl⟩ : ∃ z, y = z + 1 := ⟨y - 1, by omega⟩
      have e1 : (z + 1) * (z + 1) = z * z + 2 * z + 1 := by rw [Nat.add_mul, Nat.mul_add]; omega
      have e2 : z * (z + 1 + 1) = z * z + 2 * z := by rw [Nat.mul_add, Nat.mul_add]; omega
      rw [Nat.add_sub_cancel, e1, e2]
      omega
    rw [e]
    exact Nat.dvd_of_mod_eq_zero (Nat.sub_mod_eq_zero_of_mod_eq (by rw [h, Nat.mod_eq_of_lt hp]))
  rcases pP_prime.dvd_mul h1 with h2 | h2
  · left
    rcases Nat.eq_zero_or_pos (y - 1) with h3 | h3
    · omega
    · have := Nat.le_of_dvd h3 h2; omega
  · right
    have := Nat.le_of_dvd (by omega) h2
    omega
theorem half_power {c : Nat} (hc : c % pP ≠ 0) : c ^ qP % pP = 1 ∨ c ^ qP % pP = pP - 1 := by
  apply sq_one (Nat.mod_lt _ (by have := pP_pos; omega))
  rw [← Nat.mul_mod, ← Nat.pow_add, show qP + qP = pP - 1 by rw [pq]; omega]
  exact fermat1 pP_prime (no_dvd hc)
/-- The power of the negative. -/
theorem neg_power {c : Nat} (hc : c < pP) : ((pP - c) ^ qP + c ^ qP) % pP = 0 := by
  have key : ∀ n, ((pP - c) ^ (2 * n) % pP = c ^ (2 * n) % pP) ∧ ((pP - c) ^ (2 * n + 1) + c ^ (2 * n + 1)) % pP = 0 := by
    have hsq : (pP - c) ^ 2 % pP = c ^ 2 % pP := by
      have e : (pP - c) ^ 2 + pP * (2 * c) = c ^ 2 + pP * pP := by
        obtain ⟨d, hd⟩ : ∃ d, pP = d + c := ⟨pP - c, by omega⟩
        rw [hd, Nat.add_sub_cancel, Nat.pow_two, Nat.pow_two]
        have f1 : (d + c) * (2 * c) = 2 * (d * c) + 2 * (c * c) := by rw [Nat.add_mul, Nat.mul_left_comm d 2 c, Nat.mul_left_comm c 2 c]
        have f2 : (d + c) * (d + c) = d * d + 2 * (d * c) + c * c := by rw [Nat.add_mul, Nat.mul_add, Nat.mul_add, Nat.mul_comm c d]; omega
        rw [f1, f2]
        omega
      have := congrArg (· % pP) e
      simp only [Nat.add_mul_mod_self_left] at this
      exact this
    intro n
    have h1 : (pP - c) ^ (2 * n) % pP = c ^ (2 * n) % pP := by rw [Nat.pow_mul, Nat.pow_mul, Nat.pow_mod, hsq, ← Nat.pow_mod]
    refine ⟨h1, ?_⟩
    rw [Nat.pow_succ, Nat.pow_succ, Nat.add_mod, Nat.mul_mod, h1, ← Nat.mul_mod, ← Nat.add_mod, ← Nat.mul_add, show pP - c + c = pP by omega]
    exact Nat.mul_mod_left _ _
  have := (key (qP / 2)).2
  rw [show 2 * (qP / 2) + 1 = qP by decide +kernel] at this
  exact this
theorem sq_zero {a : Nat} (h : decide (addmN a 0 pP = 0) = true) : memB (submN 0 a pP) = false ∧ memB (addmN a 0 pP) = false := by
  have hp := pP_pos
  have h0 := of_decide_eq_true h
  rw [h0]
  have e : a % pP = 0 := by unfold addmN at h0; rw [if_neg (by omega), Nat.add_zero] at h0; exact h0
  have e2 : submN 0 a pP = 0 := by unfold submN; rw [if_neg (by omega), e, Nat.zero_mod, Nat.zero_add, Nat.sub_zero, Nat.mod_self]
  rw [e2]; exact ⟨memB_zero, memB_zero⟩
theorem sq_ne {a : Nat} (h : decide (addmN a 0 pP = 0) = false) : (memB (submN 0 a pP) != memB (addmN a 0 pP)) = true := by
  have hp := pP_pos
  have h0 := of_decide_eq_false h
  have ec : addmN a 0 pP = a % pP := by unfold addmN; rw [if_neg (by omega), Nat.add_zero]
  rw [ec] at h0 ⊢
  have hc := Nat.mod_lt a (by omega : 0 < pP)
  have eb : submN 0 a pP = pP - a % pP := by
    unfold submN; rw [if_neg (by omega), Nat.zero_mod, Nat.zero_add, Nat.mod_eq_of_lt (by omega)]
  rw [eb]
  generalize a % pP = c at *
  have hcm : c % pP ≠ 0 := by rw [Nat.mod_eq_of_lt hc]; exact h0
  have hs := neg_power hc
  have hbm : (pP - c) % pP ≠ 0 := by rw [Nat.mod_eq_of_lt (by omega)]; omega
  rw [Nat.add_mod] at hs
  have h1 := half_power hcm
  have h2 := half_power hbm
  have hp3 : 3 < pP := by unfold pP; decide
  have m1 : memB (pP - c) = decide ((pP - c) ^ qP % pP = 1) := by
    unfold memB; rw [decide_eq_decide]
    exact ⟨fun hh => hh.2.2, fun hh => ⟨by omega, by omega, hh⟩⟩
  have m2 : memB c = decide (c ^ qP % pP = 1) := by
    unfold memB; rw [decide_eq_decide]
    exact ⟨fun hh => hh.2.2, fun hh => ⟨h0, hc, hh⟩⟩
  rw [m1, m2]
  generalize (pP - c) ^ qP % pP = x at *
  generalize c ^ qP % pP = y at *
  rcases h1 with rfl | rfl <;> rcases h2 with rfl | rfl
  · rw [Nat.mod_eq_of_lt (by omega)] at hs; exact absurd hs (by decide)
  · rw [decide_eq_false (by omega), decide_eq_true rfl]; rfl
  · rw [decide_eq_true rfl, decide_eq_false (by omega)]; rfl
  · exfalso
    rw [show pP - 1 + (pP - 1) = pP - 2 + pP by omega, Nat.add_mod_right, Nat.mod_eq_of_lt (by omega)] at hs
    omega
theorem sq_mem {a : Nat} (h : decide (addmN a 0 pP = 0) = false) : memB (mulmN a a pP) = true := by
  have hp := pP_pos
  have h0 := of_decide_eq_false h
  have ec : addmN a 0 pP = a % pP := by unfold addmN; rw [if_neg (by omega), Nat.add_zero]
  rw [ec] at h0
  rw [mulm_p]
  unfold memB
  rw [decide_eq_true_eq]
  refine ⟨?_, Nat.mod_lt _ (by omega), ?_⟩
  · intro hz
    rcases pP_prime.dvd_mul (Nat.dvd_of_mod_eq_zero hz) with h2 | h2 <;> exact no_dvd h0 h2
  · rw [← Nat.pow_mod, ← Nat.pow_two, ← Nat.pow_mul, show 2 * qP = pP - 1 by rw [pq]; omega]
    exact fermat1 pP_prime (no_dvd h0)
end Go.Proofs.YtoibhbmcplhiaaaDoor
