/-
  Compact targets, work: what the walks ask.
-/
import Derived.Test.YtkiijahkmgmnnaaTargetNum
namespace Go.Proofs.Ytkiijahkmgmnnaa
open Go Go.RowKit

theorem comp_low {t : Nat} (h : decide (t = 0) = false) : IntKind.u32.wrap (wd (shfZ t (8 * (3 - ((compX t : Nat) : Int)))) 0) = ((compM t : Nat) : Int) := by
  have h1 := compM_lt (of_decide_eq_false h)
  show IntKind.u32.wrap (wd (compM t) 0) = _
  rw [wd0, IntKind.wrap_u32]
  omega
theorem comp_fin0 {t : Nat} (h : decide (t = 0) = true) : 0 = compN t := by unfold compN; rw [if_pos (of_decide_eq_true h)]
theorem comp_fin1 {t : Nat} (h : decide (t = 0) = false) : compX t * 16777216 + compM t = compN t := by unfold compN; rw [if_neg (of_decide_eq_false h)]
theorem comp_ge1 (t : Nat) : 1 ≤ 1 ∧ 1 ≤ compX t := by unfold compX; omega
/-- A mantissa that is too long. -/
theorem comp_next1 {t x : Nat} (hx : 1 ≤ x ∧ x ≤ compX t) (_ht : t < M) (h0 : decide (t = 0) = false) (h3 : decide ((x : Int) ≤ 3) = true)
    (hc : (cmpN (shrZ (shlZ t (8 * (3 - (x : Int)))) (8 * (3 - (x : Int)))) t != 0) = true) : 1 ≤ x + 1 ∧ x + 1 ≤ compX t := by
  have h0 := of_decide_eq_false h0
  have h3 := of_decide_eq_true h3
  refine ⟨by omega, ?_⟩
  rcases Nat.lt_or_ge x (compX t) with h | h
  · exact h
  · exfalso
    obtain rfl : x = compX t := by omega
    obtain ⟨e1, e2⟩ := compM_small h0 (by omega)
    have e : shlZ t (8 * (3 - ((compX t : Nat) : Int))) = t * 2 ^ (8 * (3 - compX t)) := by
      rw [← e1]; unfold compM shfZ; rw [if_neg (by omega)]
    rw [e] at hc
    unfold shrZ at hc
    rw [if_neg (by omega), show (8 * (3 - ((compX t : Nat) : Int))).toNat = 8 * (3 - compX t) by omega, Nat.mul_div_cancel _ (Nat.pow_pos (by decide)), cmpN_eq] at hc
    exact absurd hc (by decide)
theorem shl_len {t k : Nat} (h0 : t ≠ 0) (hk : lenN t + k ≤ 256) : shlN t k = t * 2 ^ k := by
  unfold shlN
  apply Nat.mod_eq_of_lt
  obtain ⟨_, _, h2⟩ := lenN_bounds h0
  have h1 : t * 2 ^ k < 2 ^ lenN t * 2 ^ k := Nat.mul_lt_mul_of_pos_right h2 (Nat.pow_pos (by decide))
  rw [← Nat.pow_add] at h1
  have h3 : 2 ^ (lenN t + k) ≤ 2 ^ 256 := Nat.pow_le_pow_right (by decide) hk
  rw [show M = 2 ^ 256 by rw [M_eq]]
  omega
theorem comp_next2 {t x : Nat} (hx : 1 ≤ x ∧ x ≤ compX t) (_ht : t < M) (h0 : decide (t = 0) = false) (h3 : decide ((x : Int) ≤ 3) = true)
    (hl : decide (((lenN (shlZ t (8 * (3 - (x : Int)))) : Nat) : Int) ≤ 23) = false) : 1 ≤ x + 1 ∧ x + 1 ≤ compX t := by
  have h0 := of_decide_eq_false h0
  have h3 := of_decide_eq_true h3
  have hl := of_decide_eq_false hl
  refine ⟨by omega, ?_⟩
  rcases Nat.lt_or_ge x (compX t) with h | h
  · exact h
  · exfalso
    obtain rfl : x = compX t := by omega
    obtain ⟨e1, e2⟩ := compM_small h0 (by omega)
    have e : shlZ t (8 * (3 - ((compX t : Nat) : Int))) = t * 2 ^ (8 * (3 - compX t)) := by
      rw [← e1]; unfold compM shfZ; rw [if_neg (by omega)]
    rw [e] at hl
    have := lenN_lt (k := 23) (A := t * 2 ^ (8 * (3 - compX t))) (by rw [show (2 : Nat) ^ 23 = 8388608 from rfl]; exact e2)
    omega
theorem comp_next3 {t x : Nat} (hx : 1 ≤ x ∧ x ≤ compX t) (_ht : t < M) (h0 : decide (t = 0) = false) (h3 : decide ((x : Int) ≤ 3) = false)
    (hl : decide (((lenN (shrZ t (8 * ((x : Int) - 3))) : Nat) : Int) ≤ 23) = false) : 1 ≤ x + 1 ∧ x + 1 ≤ compX t := by
  have h0 := of_decide_eq_false h0
  have h3 := of_decide_eq_false h3
  have hl := of_decide_eq_false hl
  refine ⟨by omega, ?_⟩
  rcases Nat.lt_or_ge x (compX t) with h | h
  · exact h
  · exfalso
    obtain rfl : x = compX t := by omega
    obtain ⟨e1, e2⟩ := compM_big h0 (by omega)
    have e : shrZ t (8 * (((compX t : Nat) : Int) - 3)) = t / 2 ^ (8 * (compX t - 3)) := by
      unfold shrZ; rw [if_neg (by omega)]; congr 2; omega
    rw [e] at hl
    have := lenN_lt (k := 23) (A := t / 2 ^ (8 * (compX t - 3))) (by rw [show (2 : Nat) ^ 23 = 8388608 from rfl]; exact e2)
    omega
theorem comp_end {t x m : Nat} (hx : x = compX t) (hm : m = compM t) (h0 : t ≠ 0) (ht : t < M) : bits .or .u32 ((x * 16777216 : Nat) : Int) (IntKind.u32.wrap (wd m 0)) = ((compN t : Nat) : Int) := by
  subst hx; subst hm
  have h1 := compM_lt h0
  rw [show IntKind.u32.wrap (wd (compM t) 0) = ((compM t : Nat) : Int) from comp_low (decide_eq_false h0), or24 (compX_lt ht).1 (by omega), comp_fin1 (decide_eq_false h0)]
theorem comp_end1 {t x : Nat} (hx : 1 ≤ x ∧ x ≤ compX t) (ht : t < M) (h0 : decide (t = 0) = false) (h3 : decide ((x : Int) ≤ 3) = true)
    (hl : decide (((lenN (shlZ t (8 * (3 - (x : Int)))) : Nat) : Int) ≤ 23) = true) (hc : (cmpN (shrZ (shlZ t (8 * (3 - (x : Int)))) (8 * (3 - (x : Int)))) t != 0) = false) :
    Ending.returned (.int .u32 (bits .or .u32 ((x * 16777216 : Nat) : Int) (IntKind.u32.wrap (wd (shlZ t (8 * (3 - (x : Int)))) 0)))) = .returned (.int .u32 ((compN t : Nat) : Int)) := by
  have h0' := of_decide_eq_false h0
  have h3 := of_decide_eq_true h3
  have hl := of_decide_eq_true hl
  have hX : x = compX t := by
    refine Nat.le_antisymm hx.2 (Nat.le_of_not_lt (fun hlt => ?_))
    -- the length is known if nothing is lost; something is lost otherwise
    by_cases hk : lenN t + 8 * (3 - x) ≤ 256
    · have e : shlZ t (8 * (3 - (x : Int))) = t * 2 ^ (8 * (3 - x)) := by
        unfold shlZ; rw [if_neg (by omega), show (8 * (3 - (x : Int))).toNat = 8 * (3 - x) by omega, shl_len h0' hk]
      rw [e, lenN_mul h0'] at hl
      unfold compX at hlt; omega
    · have hb := lenN_le t ht
      have e : shrZ (shlZ t (8 * (3 - (x : Int)))) (8 * (3 - (x : Int))) = t := by
        by_cases q : cmpN (shrZ (shlZ t (8 * (3 - (x : Int)))) (8 * (3 - (x : Int)))) t = 0
        · unfold cmpN at q
          split at q
          · exact absurd q (by decide)
          · split at q
            · exact absurd q (by decide)
            · omega
        · rw [bne_iff_ne.2 q] at hc; exact absurd hc (by decide)
      have h1 : shlZ t (8 * (3 - (x : Int))) < 2 ^ 256 := by have := shlZ_lt (8 * (3 - (x : Int))) ht; rw [show M = 2 ^ 256 by rw [M_eq]] at this; exact this
      have h2 : t < 2 ^ (256 - 8 * (3 - x)) := by
        have h4 : shrZ (shlZ t (8 * (3 - (x : Int)))) (8 * (3 - (x : Int))) < 2 ^ (256 - 8 * (3 - x)) := by
          unfold shrZ; rw [if_neg (by omega), show (8 * (3 - (x : Int))).toNat = 8 * (3 - x) by omega, Nat.div_lt_iff_lt_mul (Nat.pow_pos (by decide)), ← Nat.pow_add, show 256 - 8 * (3 - x) + 8 * (3 - x) = 256 by omega]
          exact h1
        rw [e] at h4; exact h4
      have := lenN_lt h2
      omega
  have hm : shlZ t (8 * (3 - (x : Int))) = compM t := by
    rw [hX]; unfold compM shfZ; rw [if_neg (by omega)]
  rw [comp_end hX hm h0' ht]
theorem comp_end2 {t x : Nat} (hx : 1 ≤ x ∧ x ≤ compX t) (ht : t < M) (h0 : decide (t = 0) = false) (h3 : decide ((x : Int) ≤ 3) = false)
    (hl : decide (((lenN (shrZ t (8 * ((x : Int) - 3))) : Nat) : Int) ≤ 23) = true) :
    Ending.returned (.int .u32 (bits .or .u32 ((x * 16777216 : Nat) : Int) (IntKind.u32.wrap (wd (shrZ t (8 * ((x : Int) - 3))) 0)))) = .returned (.int .u32 ((compN t : Nat) : Int)) := by
  have h0' := of_decide_eq_false h0
  have h3 := of_decide_eq_false h3
  have hl := of_decide_eq_true hl
  have e : shrZ t (8 * ((x : Int) - 3)) = t / 2 ^ (8 * (x - 3)) := by
    unfold shrZ; rw [if_neg (by omega)]; congr 2; omega
  have hX : x = compX t := by
    refine Nat.le_antisymm hx.2 (Nat.le_of_not_lt (fun hlt => ?_))
    rw [e, lenN_div (by unfold compX at hlt; omega)] at hl
    unfold compX at hlt; omega
  have hm : shrZ t (8 * ((x : Int) - 3)) = compM t := by
    rw [hX]; unfold compM shfZ; rw [if_pos (by omega)]; congr 1; omega
  rw [comp_end hX hm h0' ht]

/-! ### work, sums, meeting -/
def workN (t : Nat) : Nat := if t = 0 then M - 1 else if M ≤ t + 1 then 1 else M / (t + 1)
theorem workN_lt (t : Nat) : workN t < M := by
  unfold workN
  split
  · have := M_pos; omega
  · split
    · rw [M_eq]; decide
    · exact Nat.div_lt_self M_pos (by omega)
theorem work_0 {t : Nat} (h : decide (t = 0) = true) : M - 1 - 0 = workN t := by unfold workN; rw [if_pos (of_decide_eq_true h)]; rfl
theorem work_1 {t : Nat} (h : decide (t = 0) = false) (h2 : decide (M ≤ t + 1) = true) : 1 = workN t := by unfold workN; rw [if_neg (of_decide_eq_false h), if_pos (of_decide_eq_true h2)]
theorem work_2 {t : Nat} (_ht : t < M) (h : decide (t = 0) = false) (h2 : decide (M ≤ t + 1) = false) : divQ 1 0 ((t + 1) % M) = workN t := by
  have h := of_decide_eq_false h; have h2 := of_decide_eq_false h2
  unfold workN divQ
  rw [if_neg h, if_neg h2, Nat.mod_eq_of_lt (by omega), if_neg (by omega), Nat.one_mul, Nat.add_zero]
def totN (a b : Nat) : Nat := if M ≤ a + b then M - 1 else a + b
theorem totN_lt (a b : Nat) : totN a b < M := by unfold totN; have := M_pos; split <;> omega
theorem tot_t {a b : Nat} (h : decide (M ≤ a + b) = true) : M - 1 - 0 = totN a b := by unfold totN; rw [if_pos (of_decide_eq_true h)]; rfl
theorem tot_f {a b : Nat} (h : decide (M ≤ a + b) = false) : (a + b) % M = totN a b := by
  have h := of_decide_eq_false h
  unfold totN; rw [if_neg h, Nat.mod_eq_of_lt (by omega)]
def meetB (h b : Nat) : Bool := expB b && decide (cmpN h (expV b) ≤ 0)
theorem meet_f {h b : Nat} (hb : expB b = false) : false = meetB h b := by unfold meetB; rw [hb]; rfl
theorem meet_t {h b : Nat} (hb : expB b = true) : decide (cmpN h (expV b) ≤ 0) = meetB h b := by unfold meetB; rw [hb]; rfl
end Go.Proofs.Ytkiijahkmgmnnaa
