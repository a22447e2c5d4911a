/-
  What the laws TargetRounds, TargetOrder, TargetWorks ask of plain numbers.
-/
import Derived.Test.YtkiijahkmgmnnaaTargetLaws
namespace Go.Proofs.Ytkiijahkmgmnnaa
open Go Go.RowKit

/-- What a compact form stands for. -/
def rndN (t : Nat) : Nat := if compX t ≤ 3 then t else t / 2 ^ (8 * (compX t - 3)) * 2 ^ (8 * (compX t - 3))
theorem comp_parts {t : Nat} (h0 : t ≠ 0) : compN t / 16777216 = compX t ∧ compN t % 16777216 = compM t ∧ sgnB (compN t) = false := by
  have h1 := compM_lt h0
  unfold sgnB compN
  rw [if_neg h0]
  exact ⟨by omega, by omega, decide_eq_false (by omega)⟩
theorem rnd_le (t : Nat) : rndN t ≤ t := by
  unfold rndN; split
  · exact Nat.le_refl _
  · exact Nat.div_mul_le_self _ _
theorem comp_T {t : Nat} (ht : t < M) (h0 : t ≠ 0) : expT (compN t) = rndN t := by
  obtain ⟨e1, e2, _⟩ := comp_parts h0
  unfold expT rndN
  rw [e1, e2]
  by_cases h : compX t ≤ 3
  · rw [if_pos h]
    obtain ⟨m1, m2⟩ := compM_small h0 h
    rw [m1]
    unfold shfZ
    by_cases h3 : compX t = 3
    · rw [if_neg (by omega)]
      unfold shlZ shlN
      rw [if_neg (by omega), h3]
      simp [Nat.mod_eq_of_lt ht]
    · rw [if_pos (by omega)]
      unfold shrZ
      rw [if_neg (by omega), show (-(8 * (((compX t : Nat) : Int) - 3))).toNat = 8 * (3 - compX t) by omega, Nat.mul_div_cancel _ (Nat.pow_pos (by decide))]
  · rw [if_neg h]
    obtain ⟨m1, m2⟩ := compM_big h0 (by omega)
    rw [m1]
    unfold shfZ shlZ shlN
    rw [if_neg (by omega), if_neg (by omega), show (8 * (((compX t : Nat) : Int) - 3)).toNat = 8 * (compX t - 3) by omega]
    apply Nat.mod_eq_of_lt
    exact Nat.lt_of_le_of_lt (Nat.div_mul_le_self _ _) ht
theorem rnd_ge {t : Nat} (h0 : t ≠ 0) : 2 ^ (lenN t - 1) ≤ rndN t := by
  obtain ⟨l0, l1, l2⟩ := lenN_bounds h0
  unfold rndN
  split
  · exact l1
  · rename_i h
    have hk : 8 * (compX t - 3) ≤ lenN t - 1 := by unfold compX at *; omega
    have e : 2 ^ (lenN t - 1) = 2 ^ (lenN t - 1 - 8 * (compX t - 3)) * 2 ^ (8 * (compX t - 3)) := by rw [← Nat.pow_add]; congr 1; omega
    rw [e]
    apply Nat.mul_le_mul_right
    rw [Nat.le_div_iff_mul_le (Nat.pow_pos (by decide)), ← e]; exact l1
theorem comp_b {t : Nat} (ht : t < M) (h0 : t ≠ 0) : expB (compN t) = true := by
  obtain ⟨e1, e2, e3⟩ := comp_parts h0
  unfold expB
  rw [e3, comp_T ht h0, e1, e2]
  have h1 : ¬ rndN t = 0 := by have := rnd_ge h0; have : 0 < 2 ^ (lenN t - 1) := Nat.pow_pos (by decide); omega
  have h2 : ¬ 256 < ((lenN (compM t) : Nat) : Int) + 8 * (((compX t : Nat) : Int) - 3) := by
    have hl := lenN_le t ht
    by_cases h : compX t ≤ 3
    · have := lenN_lt (k := 23) (A := compM t) (by rw [show (2 : Nat) ^ 23 = 8388608 from rfl]; exact compM_lt h0)
      omega
    · rw [(compM_big h0 (by omega)).1, lenN_div (by unfold compX at *; omega)]
      unfold compX at *; omega
  rw [decide_eq_false h1, decide_eq_false h2]; rfl
theorem comp_V {t : Nat} (ht : t < M) (h0 : t ≠ 0) : expV (compN t) = rndN t := by
  unfold expV; rw [comp_b ht h0, if_pos rfl, comp_T ht h0]
theorem comp_zero {t : Nat} (h : decide (t = 0) = true) : (((compN t : Nat) : Int) == 0) = true := by
  rw [← comp_fin0 h]; rfl
theorem comp_le {t : Nat} (ht : t < M) (h0 : t ≠ 0) : ¬ t < expV (compN t) := by
  rw [comp_V ht h0]; have := rnd_le t; omega
theorem cmpN_le {a b : Nat} : cmpN a b ≤ 0 ↔ a ≤ b := by
  unfold cmpN; split
  · simp; omega
  · split <;> simp <;> omega
theorem comp_rest {t : Nat} (ht : t < M) (h0 : t ≠ 0) : cmpN ((t + M - expV (compN t)) % M) (shrZ t 15) ≤ 0 := by
  rw [cmpN_le, comp_V ht h0]
  have hle := rnd_le t
  have e : (t + M - rndN t) % M = t - rndN t := by
    rw [show t + M - rndN t = (t - rndN t) + M by omega, Nat.add_mod_right, Nat.mod_eq_of_lt (by omega)]
  rw [e]
  obtain ⟨l0, l1, l2⟩ := lenN_bounds h0
  have es : shrZ t 15 = t / 2 ^ 15 := by unfold shrZ; rw [if_neg (by decide)]; rfl
  rw [es]
  unfold rndN
  split
  · omega
  · rename_i h
    have h1 : t - t / 2 ^ (8 * (compX t - 3)) * 2 ^ (8 * (compX t - 3)) < 2 ^ (8 * (compX t - 3)) := by
      have hm := Nat.mod_lt t (Nat.pow_pos (n := 8 * (compX t - 3)) (by decide : 0 < 2))
      have hd := Nat.div_add_mod t (2 ^ (8 * (compX t - 3)))
      rw [Nat.mul_comm] at hd
      omega
    have h2 : 2 ^ (8 * (compX t - 3)) ≤ t / 2 ^ 15 := by
      rw [Nat.le_div_iff_mul_le (by decide), ← Nat.pow_add]
      exact Nat.le_trans (Nat.pow_le_pow_right (by decide) (by unfold compX at *; omega)) l1
    omega
/-! ### a target that has a compact form -/
theorem exp_ne {b : Nat} (h : expB b = true) : expV b ≠ 0 := by
  unfold expV; rw [h, if_pos rfl]
  unfold expB at h
  simp only [Bool.and_eq_true, Bool.not_eq_true', decide_eq_false_iff_not] at h
  exact h.2.2
theorem exp_rnd {b : Nat} (h : expB b = true) : rndN (expV b) = expV b := by
  have hv : expV b = expT b := by unfold expV; rw [h, if_pos rfl]
  have hne := exp_ne h
  unfold expB at h
  simp only [Bool.and_eq_true, Bool.not_eq_true', decide_eq_false_iff_not] at h
  obtain ⟨h1, h2, h3⟩ := h
  unfold sgnB at h1
  have h1 := of_decide_eq_false h1
  have hm : b % 16777216 < 8388608 := by omega
  have hml := lenN_lt (k := 23) (A := b % 16777216) (by rw [show (2 : Nat) ^ 23 = 8388608 from rfl]; exact hm)
  unfold rndN
  split
  · rfl
  · rename_i hx
    have hL : 24 ≤ lenN (expV b) := by unfold compX at hx; omega
    by_cases hb : b / 16777216 ≤ 3
    · exfalso
      have hle : expV b ≤ b % 16777216 := by
        rw [hv]; unfold expT shfZ
        by_cases h3 : b / 16777216 = 3
        · rw [if_neg (by omega)]; unfold shlZ shlN
          rw [if_neg (by omega), h3]; simp; exact Nat.mod_le _ _
        · rw [if_pos (by omega)]; unfold shrZ
          rw [if_neg (by omega)]; exact Nat.div_le_self _ _
      have := lenN_lt (k := 23) (A := expV b) (by rw [show (2 : Nat) ^ 23 = 8388608 from rfl]; omega)
      omega
    · have hm0 : b % 16777216 ≠ 0 := by
        intro hz
        apply hne
        rw [hv]; unfold expT shfZ
        rw [if_neg (by omega), hz, shl_zero]
      have e : expV b = b % 16777216 * 2 ^ (8 * (b / 16777216 - 3)) := by
        rw [hv]; unfold expT shfZ shlZ
        rw [if_neg (by omega), if_neg (by omega), show (8 * (((b / 16777216 : Nat) : Int) - 3)).toNat = 8 * (b / 16777216 - 3) by omega, shl_len hm0 (by omega)]
      have hl : lenN (expV b) = lenN (b % 16777216) + 8 * (b / 16777216 - 3) := by rw [e, lenN_mul hm0]
      have hk : 8 * (compX (expV b) - 3) ≤ 8 * (b / 16777216 - 3) := by unfold compX; omega
      apply Nat.div_mul_cancel
      have hdv : 2 ^ (8 * (b / 16777216 - 3)) ∣ expV b := by rw [e]; exact Nat.dvd_mul_left _ _
      exact Nat.dvd_trans (Nat.pow_dvd_pow 2 hk) hdv
theorem round_b {b : Nat} (h : expB b = true) : expB (compN (expV b)) = true := comp_b (expV_lt b) (exp_ne h)
theorem round_v {b : Nat} (h : expB b = true) : expV (compN (expV b)) = expV b := by rw [comp_V (expV_lt b) (exp_ne h), exp_rnd h]
/-! ### order -/
theorem order_up {a b : Nat} (h : decide (0 < cmpN a b) = true) : b ≤ a := by
  have h := of_decide_eq_true h
  unfold cmpN at h
  split at h
  · exact absurd h (by decide)
  · omega
theorem order_dn {a b : Nat} (h : decide (0 < cmpN a b) = false) : a ≤ b := by
  have h := of_decide_eq_false h
  unfold cmpN at h
  split at h
  · omega
  · split at h
    · exact absurd (by decide) h
    · omega
theorem order_ne {a b : Nat} (h : a ≤ b) (h0 : a ≠ 0) : b ≠ 0 := by omega
theorem cmp_le {a b : Nat} (h : a ≤ b) : cmpN a b ≤ 0 := cmpN_le.2 h
theorem lenN_mono {a b : Nat} (h : a ≤ b) : lenN a ≤ lenN b := by
  by_cases h0 : b = 0
  · rw [show a = b by omega]; exact Nat.le_refl _
  · exact lenN_lt (Nat.lt_of_le_of_lt h (lenN_bounds h0).2.2)
theorem rnd_mono {a b : Nat} (h : a ≤ b) (h0 : a ≠ 0) : rndN a ≤ rndN b := by
  have hl := lenN_mono h
  by_cases hx : compX a = compX b
  · unfold rndN; rw [hx]
    split
    · exact h
    · exact Nat.mul_le_mul_right _ (Nat.div_le_div_right h)
  · have h1 : lenN a ≤ lenN b - 1 := by unfold compX at hx; omega
    have h2 := rnd_ge (t := b) (by omega)
    have h3 := rnd_le a
    have h4 := (lenN_bounds h0).2.2
    have h5 : 2 ^ lenN a ≤ 2 ^ (lenN b - 1) := Nat.pow_le_pow_right (by decide) h1
    omega
theorem comp_mono {a b : Nat} (ha : a < M) (hb : b < M) (h : a ≤ b) (h0 : a ≠ 0) : expV (compN a) ≤ expV (compN b) := by
  rw [comp_V ha h0, comp_V hb (by omega)]; exact rnd_mono h h0
theorem work_anti {a b : Nat} (hb : b < M) (h : a ≤ b) (h0 : a ≠ 0) : workN b ≤ workN a := by
  unfold workN
  rw [if_neg h0, if_neg (by omega)]
  by_cases h1 : M ≤ b + 1
  · rw [if_pos h1]
    split
    · exact Nat.le_refl _
    · rw [Nat.le_div_iff_mul_le (by omega)]; omega
  · rw [if_neg h1, if_neg (by omega)]
    exact Nat.div_le_div_left (by omega) (by omega)
theorem meet_mono {a b h : Nat} (ha : a < M) (hb : b < M) (hab : a ≤ b) (h0 : a ≠ 0) (hm : meetB h (compN a) = true) : meetB h (compN b) = true := by
  unfold meetB at *
  rw [Bool.and_eq_true] at *
  refine ⟨comp_b hb (by omega), ?_⟩
  have h1 := cmpN_le.1 (of_decide_eq_true hm.2)
  exact decide_eq_true (cmpN_le.2 (Nat.le_trans h1 (comp_mono ha hb hab h0)))
/-! ### work -/
theorem works_small {t : Nat} (h : decide (t = 0) = true) : ¬ M ≤ t + 1 := by rw [of_decide_eq_true h, M_eq]; decide
theorem works_eq {t : Nat} (h : decide (t = 0) = false) (h2 : decide (M ≤ t + 1) = false) : workN t * ((t + 1) % M) + M % (t + 1) = M ∧ (t + 1) % M = t + 1 := by
  have h := of_decide_eq_false h; have h2 := of_decide_eq_false h2
  unfold workN
  rw [if_neg h, if_neg h2, Nat.mod_eq_of_lt (by omega), Nat.mul_comm]
  exact ⟨Nat.div_add_mod _ _, rfl⟩
theorem works_1 {t : Nat} (h : decide (t = 0) = false) (h2 : decide (M ≤ t + 1) = false) (h3 : decide (workN t * ((t + 1) % M) / M = 1) = true) : workN t * ((t + 1) % M) % M = 0 := by
  obtain ⟨e1, e2⟩ := works_eq h h2
  have h3 := of_decide_eq_true h3
  generalize workN t * ((t + 1) % M) = x at *
  have hd := Nat.div_add_mod x M
  rw [h3] at hd
  omega
theorem works_2 {t : Nat} (h : decide (t = 0) = false) (h2 : decide (M ≤ t + 1) = false) (h3 : decide (workN t * ((t + 1) % M) / M = 1) = false) : workN t * ((t + 1) % M) / M = 0 := by
  obtain ⟨e1, e2⟩ := works_eq h h2
  have h3 := of_decide_eq_false h3
  generalize workN t * ((t + 1) % M) = x at *
  apply Nat.div_eq_of_lt
  rcases Nat.lt_or_ge x M with hl | hl
  · exact hl
  · exfalso; apply h3
    rw [show x = M by omega]; exact Nat.div_self M_pos
theorem works_3 {t : Nat} (h : decide (t = 0) = false) (h2 : decide (M ≤ t + 1) = false) (h3 : decide (workN t * ((t + 1) % M) / M = 1) = false) : cmpN ((0 + M - workN t * ((t + 1) % M) % M) % M) ((t + 1) % M) < 0 := by
  have hz := works_2 h h2 h3
  obtain ⟨e1, e2⟩ := works_eq h h2
  have h2 := of_decide_eq_false h2
  have h3 := of_decide_eq_false h3
  rw [cmpN_neg, e2]
  rw [e2] at e1 hz h3
  have hml := Nat.mod_lt M (by omega : 0 < t + 1)
  generalize workN t * (t + 1) = x at *
  have hxl : x < M := by
    rcases Nat.lt_or_ge x M with hl | hl
    · exact hl
    · exfalso; apply h3; rw [show x = M by omega]; exact Nat.div_self M_pos
  rw [Nat.mod_eq_of_lt hxl, Nat.zero_add]
  have : (M - x) % M ≤ M - x := Nat.mod_le _ _
  omega
end Go.Proofs.Ytkiijahkmgmnnaa
