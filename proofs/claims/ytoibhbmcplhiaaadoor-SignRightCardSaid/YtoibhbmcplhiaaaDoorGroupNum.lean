/-
  The group: its modulus, its order, powers. No program in sight.
-/
import Derived.Test.YtoibhbmcplhiaaaDoorExpNum
namespace Go.Proofs.YtoibhbmcplhiaaaDoor

def pP : Nat := 115792089237316195423570985008687907853269984665640564039457584007913129603823
def qP : Nat := 57896044618658097711785492504343953926634992332820282019728792003956564801911
theorem pP_lt : pP < M := by rw [M_eq]; unfold pP; decide
theorem qP_lt : qP < M := by rw [M_eq]; unfold qP; decide
theorem pP_pos : 1 < pP := by unfold pP; decide
theorem qP_pos : 1 < qP := by unfold qP; decide
theorem pq : pP = 2 * qP + 1 := by unfold pP qP; decide
theorem expm_p (a e : Nat) : expmN a e pP = a ^ e % pP := by unfold expmN; rw [if_neg (by have := pP_pos; omega)]
theorem mulm_p (a b : Nat) : mulmN a b pP = a * b % pP := by unfold mulmN; rw [if_neg (by have := pP_pos; omega)]

/-- Powers by squaring, as the kernel can reckon them. -/
def powm (m : Nat) : Nat → Nat → Nat → Nat
  | 0, _, _ => 1 % m
  | f + 1, a, e => if e = 0 then 1 % m else if e % 2 = 1 then a * powm m f (a * a % m) (e / 2) % m else powm m f (a * a % m) (e / 2)
theorem powm_eq (m : Nat) : ∀ f a e, e < 2 ^ f → powm m f a e = a ^ e % m := by
  intro f
  induction f with
  | zero => intro a e h; have : e = 0 := by simpa using h
            subst this; rfl
  | succ f ih =>
    intro a e h
    have hlt : e / 2 < 2 ^ f := by rw [Nat.div_lt_iff_lt_mul (by decide)]; rw [Nat.pow_succ] at h; exact h
    have hsq : (a * a % m) ^ (e / 2) % m = a ^ (2 * (e / 2)) % m := by rw [← Nat.pow_mod, ← Nat.pow_two, ← Nat.pow_mul]
    unfold powm
    split
    · rename_i h0; rw [h0]
      rfl
    · split
      · rw [ih _ _ hlt, hsq, Nat.mul_mod_mod, Nat.mul_comm, ← Nat.pow_succ]
        congr 2; omega
      · rw [ih _ _ hlt, hsq]
        congr 2; omega
theorem four_q : 4 ^ qP % pP = 1 := by
  rw [← powm_eq pP 256 4 qP (by unfold qP; decide +kernel)]
  decide +kernel
theorem four_q_m : expmN 4 qP pP = 1 := by rw [expm_p]; exact four_q

/-- Whether a number is in the group. -/
def memB (a : Nat) : Bool := decide (a ≠ 0 ∧ a < pP ∧ a ^ qP % pP = 1)
theorem memB_four : memB 4 = true := by
  unfold memB; rw [decide_eq_true_eq]
  exact ⟨by decide, by unfold pP; decide, four_q⟩
theorem memB_zero : memB 0 = false := by unfold memB; rw [decide_eq_false_iff_not]; exact fun h => h.1 rfl

/-! ### powers of 4 -/
theorem pow_red (x : Nat) : 4 ^ (x % qP) % pP = 4 ^ x % pP := by
  have h1 : 4 ^ x % pP = 4 ^ (qP * (x / qP) + x % qP) % pP := by rw [Nat.div_add_mod]
  rw [h1, Nat.pow_add, Nat.pow_mul, Nat.mul_mod, Nat.pow_mod (4 ^ qP), four_q, Nat.one_pow, Nat.mod_eq_of_lt pP_pos, Nat.one_mul, Nat.mod_mod]
theorem pow_ne (x : Nat) : 4 ^ x % pP ≠ 0 := by
  intro h
  have h1 : (4 ^ x) ^ qP % pP = 1 := by rw [← Nat.pow_mul, Nat.mul_comm, Nat.pow_mul, Nat.pow_mod, four_q, Nat.one_pow, Nat.mod_eq_of_lt pP_pos]
  rw [Nat.pow_mod, h, Nat.zero_pow (by have := qP_pos; omega), Nat.zero_mod] at h1
  exact absurd h1 (by decide)
theorem pow_q (x : Nat) : (4 ^ x % pP) ^ qP % pP = 1 := by
  rw [← Nat.pow_mod, ← Nat.pow_mul, Nat.mul_comm, Nat.pow_mul, Nat.pow_mod, four_q, Nat.one_pow, Nat.mod_eq_of_lt pP_pos]
theorem memB_pow (x : Nat) : memB (4 ^ x % pP) = true := by
  unfold memB; rw [decide_eq_true_eq]
  exact ⟨pow_ne x, Nat.mod_lt _ (by have := pP_pos; omega), pow_q x⟩
theorem adds {a b : Nat} : 4 ^ ((a + b) % qP) % pP = (4 ^ a % pP) * (4 ^ b % pP) % pP := by
  rw [pow_red, ← Nat.mul_mod, Nat.pow_add]
theorem neg_adds {a : Nat} (ha : a < qP) : (4 ^ a % pP) * (4 ^ ((qP - a) % qP) % pP) % pP = 1 := by
  rw [pow_red, ← Nat.mul_mod, ← Nat.pow_add, show a + (qP - a) = qP by omega]; exact four_q
theorem inv_pow (x : Nat) : (4 ^ x % pP) * ((4 ^ x % pP) ^ (pP - 2) % pP) % pP = 1 := by
  rw [Nat.mul_mod_mod, Nat.mul_comm, ← Nat.pow_succ, show (pP - 2).succ = qP * 2 by rw [pq]; have := qP_pos; omega, Nat.pow_mul, Nat.pow_mod, pow_q, Nat.one_pow, Nat.mod_eq_of_lt pP_pos]
theorem inv_is_pow (x : Nat) : (4 ^ x % pP) ^ (pP - 2) % pP = 4 ^ (x * (pP - 2)) % pP := by rw [← Nat.pow_mod, ← Nat.pow_mul]

/-! ### what the walks ask -/
theorem mem_no1 {a : Nat} (h : decide (a = 0) = true) : false = memB a := by rw [of_decide_eq_true h]; exact memB_zero.symm
theorem mem_no2 {a : Nat} (h : decide (0 ≤ cmpN a pP) = true) : false = memB a := by
  unfold memB; symm; rw [decide_eq_false_iff_not]
  intro hh
  have h1 := cmpN_neg.2 hh.2.1
  have := of_decide_eq_true h; omega
theorem mem_no3 {a : Nat} (h : decide (cmpN a pP < 0) = false) : false = memB a := mem_no2 (decide_eq_true (by have := of_decide_eq_false h; omega))
theorem mem_yes {a : Nat} (h0 : decide (a = 0) = false) (h : cmpN a pP < 0) : decide (expmN a qP pP = 1) = memB a := by
  unfold memB
  rw [decide_eq_decide, expm_p]
  exact ⟨fun e => ⟨of_decide_eq_false h0, cmpN_neg.1 h, e⟩, fun e => e.2.2⟩
theorem p_sub2 : (pP + M - 2) % M = pP - 2 := by rw [M_eq]; unfold pP; decide
theorem exp_one (a e : Nat) : 1 = a ^ (e / 2 ^ lenN e) % pP := by rw [div_lenN, Nat.pow_zero, Nat.mod_eq_of_lt pP_pos]
theorem gexp_lt {a x p : Nat} (hp : p = a ^ x % pP) : p < M := by rw [hp]; exact Nat.lt_trans (Nat.mod_lt _ (by have := pP_pos; omega)) pP_lt
theorem gexp_end {a e p i : Nat} (hi : i = lenN e) (hp : p = a ^ (e / 2 ^ (lenN e - i)) % pP) : p = expmN a e pP := by
  rw [expm_p, hp, hi, Nat.sub_self, Nat.pow_zero, Nat.div_one]
theorem law_adds (x y : Nat) : expmN 4 (addmN (addmN x 0 qP) (addmN y 0 qP) qP) pP = mulmN (expmN 4 (addmN x 0 qP) pP) (expmN 4 (addmN y 0 qP) pP) pP := by
  rw [expm_p, expm_p, expm_p, mulm_p]
  have e : ∀ a b, addmN a b qP = (a + b) % qP := fun a b => by unfold addmN; rw [if_neg (by have := qP_pos; omega)]
  rw [e (addmN x 0 qP)]
  exact adds
theorem law_neg (x : Nat) : mulmN (expmN 4 (addmN x 0 qP) pP) (expmN 4 (submN 0 (addmN x 0 qP) qP) pP) pP = 1 := by
  rw [expm_p, expm_p, mulm_p]
  have hq := qP_pos
  have e : addmN x 0 qP = x % qP := by unfold addmN; rw [if_neg (by omega), Nat.add_zero]
  rw [e]
  have hl := Nat.mod_lt x (by omega : 0 < qP)
  have e2 : submN 0 (x % qP) qP = (qP - x % qP) % qP := by
    unfold submN; rw [if_neg (by omega), Nat.zero_mod, Nat.zero_add, Nat.mod_mod]
  rw [e2]
  exact neg_adds hl
theorem law_mem (x : Nat) : memB (expmN 4 x pP) = true := by rw [expm_p]; exact memB_pow x
theorem law_mul (x y : Nat) : memB (mulmN (expmN 4 x pP) (expmN 4 y pP) pP) = true := by
  rw [expm_p, expm_p, mulm_p, ← Nat.mul_mod, ← Nat.pow_add]; exact memB_pow _
theorem law_inv (x : Nat) : memB (expmN (expmN 4 x pP) (pP - 2) pP) = true := by
  rw [expm_p, expm_p, inv_is_pow]; exact memB_pow _
theorem law_inv1 (x : Nat) : mulmN (expmN 4 x pP) (expmN (expmN 4 x pP) (pP - 2) pP) pP = 1 := by
  rw [expm_p, expm_p, mulm_p]; exact inv_pow x
end Go.Proofs.YtoibhbmcplhiaaaDoor
