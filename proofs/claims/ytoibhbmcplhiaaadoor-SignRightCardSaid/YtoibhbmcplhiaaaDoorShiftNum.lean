/-
  Shifts of numbers of 256 bits: the plain arithmetic, and the runs of the operators.
-/
import Derived.Test.YtoibhbmcplhiaaaDoorMulNum
import Derived.Test.YtoibhbmcplhiaaaDoorDivW
import Derived.Test.YtoibhbmcplhiaaaDoorRDiv
namespace Go.Proofs.YtoibhbmcplhiaaaDoor
open Go Go.RowKit

def shlW (x : Int) (k : Nat) : Int := IntKind.u64.wrap (x * 2 ^ min k 64)
def shrW (x : Int) (k : Nat) : Int := x.fdiv (2 ^ min k 64)
theorem run_shl {P : Program} {t : TypeId} {yk : IntKind} (x : Int) (k : Nat) (w : World) : (binOp .shl t (.int .u64 x) (.int yk (k : Int))).run P w = .ok (.int .u64 (shlW x k)) w := by
  simp only [binOp, Op.shift, if_neg (by omega : ¬ (k : Int) < 0), Int.toNat_natCast]
  rfl
theorem run_shr {P : Program} {t : TypeId} {yk : IntKind} (x : Int) (k : Nat) (w : World) : (binOp .shr t (.int .u64 x) (.int yk (k : Int))).run P w = .ok (.int .u64 (shrW x k)) w := by
  simp only [binOp, Op.shift, if_neg (by omega : ¬ (k : Int) < 0), Int.toNat_natCast]
  rfl
theorem run_quo_nat {P : Program} {t : TypeId} (n d q : Nat) (hd : 0 < d) (hn : n < 9223372036854775808) (hq : n / d = q) (w : World) : (binOp .quo t (.int .i64 (n : Int)) (.int .i64 (d : Int))).run P w = .ok (.int .i64 (q : Int)) w := by
  have e : Int.tdiv (n : Int) (d : Int) = (q : Int) := by rw [Int.tdiv_eq_ediv_of_nonneg (by omega), ← hq]; simp
  have h1 : q ≤ n := by rw [← hq]; exact Nat.div_le_self _ _
  simp only [binOp, Op.intDiv, ne_eq, not_true_eq_false, if_false, if_neg (by omega : ¬ (d : Int) = 0), e, IntWalk.i64_in (q : Int) (by omega)]
  rfl
theorem run_rem_nat {P : Program} {t : TypeId} (n d q : Nat) (hd : 0 < d) (hq : n % d = q) (w : World) : (binOp .rem t (.int .i64 (n : Int)) (.int .i64 (d : Int))).run P w = .ok (.int .i64 (q : Int)) w := by
  have e : Int.tmod (n : Int) (d : Int) = (q : Int) := by rw [Int.tmod_eq_emod_of_nonneg (by omega), ← hq]; simp
  simp only [binOp, Op.intDiv, ne_eq, not_true_eq_false, if_false, if_neg (by omega : ¬ (d : Int) = 0), e]
  rfl
theorem wrap_sub_nat (x y : Nat) (h : y ≤ x) (hx : x < 9223372036854775808) : IntKind.i64.wrap ((x : Int) - (y : Int)) = ((x - y : Nat) : Int) := by
  rw [IntWalk.i64_in _ (by omega)]; omega

/-! ### shifts by less than a word -/
theorem pw_split {r : Nat} (h : r ≤ 64) : (2 : Nat) ^ r * 2 ^ (64 - r) = 18446744073709551616 := by
  rw [← Nat.pow_add, show r + (64 - r) = 64 by omega]
/-- What is shifted out above, and what stays. -/
theorem shw_eq {x : Int} (hx : Word x) {r : Nat} (h : r < 64) : x * 2 ^ r = 18446744073709551616 * shrW x (64 - r) + shlW x r ∧ 0 ≤ shrW x (64 - r) ∧ shrW x (64 - r) < 2 ^ r ∧ ∃ y : Int, 0 ≤ y ∧ shlW x r = y * 2 ^ r ∧ y * 2 ^ r + 2 ^ r ≤ 18446744073709551616 := by
  obtain ⟨x, rfl⟩ := Int.eq_ofNat_of_zero_le hx.1
  have hx2 := hx.2
  have hs := pw_split (Nat.le_of_lt h)
  unfold shrW shlW
  rw [Nat.min_eq_left (by omega), Nat.min_eq_left (by omega), u64_wrap]
  have p0 : 0 < 2 ^ r := Nat.pow_pos (by decide)
  have s0 : 0 < 2 ^ (64 - r) := Nat.pow_pos (by decide)
  have e1 : ((2 : Int) ^ r) = ((2 ^ r : Nat) : Int) := by simp
  have e2 : ((2 : Int) ^ (64 - r)) = ((2 ^ (64 - r) : Nat) : Int) := by simp
  rw [e1, e2]
  generalize (2 : Nat) ^ r = p at *
  generalize (2 : Nat) ^ (64 - r) = s at *
  have hf : Int.fdiv (x : Int) (s : Int) = ((x / s : Nat) : Int) := by rw [Int.fdiv_eq_ediv_of_nonneg _ (by omega)]; simp
  rw [hf]
  have hdm := Nat.div_add_mod x s
  have hml := Nat.mod_lt x s0
  have hp : x * p = 18446744073709551616 * (x / s) + (x % s) * p := by
    have h1 : x * p = (s * (x / s) + x % s) * p := by rw [hdm]
    rw [h1, Nat.add_mul, Nat.mul_comm s, Nat.mul_assoc, Nat.mul_comm s p, hs, Nat.mul_comm (x / s)]
  have hlt : (x % s) * p + p ≤ 18446744073709551616 := by
    have h1 : (x % s + 1) * p ≤ s * p := Nat.mul_le_mul_right _ (by omega)
    rw [Nat.add_mul, Nat.one_mul, Nat.mul_comm s p, hs] at h1
    omega
  have hmod : ((x : Int) * (p : Int)) % 18446744073709551616 = (((x % s) * p : Nat) : Int) := by
    rw [← Int.natCast_mul, hp]
    omega
  rw [hmod]
  refine ⟨by rw [← Int.natCast_mul, hp]; omega, by omega, ?_, ((x % s : Nat) : Int), by omega, by rw [Int.natCast_mul], ?_⟩
  · have : x / s < p := by
      rw [Nat.div_lt_iff_lt_mul s0, hs]; omega
    omega
  · rw [← Int.natCast_mul]; omega
theorem shl_or {x z : Int} (hx : Word x) {r : Nat} (h : r < 64) (h0 : 0 ≤ z) (h1 : z < 2 ^ r) : bits .or .u64 (shlW x r) z = shlW x r + z ∧ Word (shlW x r + z) := by
  obtain ⟨_, _, _, y, hy0, hy, hy1⟩ := shw_eq hx h
  rw [hy]
  have e1 : (0 : Int) ≤ y * 2 ^ r := Int.mul_nonneg hy0 (by omega)
  exact ⟨u64_or_add y z r hy0 h0 h1 (by omega), by unfold Word; omega⟩
theorem word_shl (x : Int) (r : Nat) : Word (shlW x r) := by
  unfold shlW; rw [u64_wrap]; unfold Word; omega
theorem mul_four_r (p b0 b1 b2 b3 : Int) : (b0 + 18446744073709551616 * b1 + 340282366920938463463374607431768211456 * b2 + 6277101735386680763835789423207666416102355444464034512896 * b3) * p = b0 * p + 18446744073709551616 * (b1 * p) + 340282366920938463463374607431768211456 * (b2 * p) + 6277101735386680763835789423207666416102355444464034512896 * (b3 * p) := by
  rw [Int.add_mul, Int.add_mul, Int.add_mul, Int.mul_assoc, Int.mul_assoc, Int.mul_assoc]
/-- a shifted left, the words written out. -/
theorem shl_num (a q r : Nat) (ha : a < M) : ((a * 2 ^ (64 * q + r) : Nat) : Int) = (wd a 0 * 2 ^ r + 18446744073709551616 * (wd a 1 * 2 ^ r) + 340282366920938463463374607431768211456 * (wd a 2 * 2 ^ r) + 6277101735386680763835789423207666416102355444464034512896 * (wd a 3 * 2 ^ r)) * 18446744073709551616 ^ q := by
  rw [← mul_four_r, ← wd_sum a ha, Nat.pow_add, Nat.pow_mul, Int.natCast_mul, Int.natCast_mul, Int.mul_comm (((2 ^ 64) ^ q : Nat) : Int), ← Int.mul_assoc]
  simp

/-- Shifts to the left by every distance. -/
def shlN (a n : Nat) : Nat := a * 2 ^ n % M
def shlZ (a : Nat) (n : Int) : Nat := if n < 0 then a else shlN a n.toNat
def shrZ (a : Nat) (n : Int) : Nat := if n < 0 then a else a / 2 ^ n.toNat
theorem shlN_lt (a n : Nat) : shlN a n < M := modM_lt _
theorem shlZ_lt {a : Nat} (n : Int) (h : a < M) : shlZ a n < M := by unfold shlZ; split; exact h; exact shlN_lt _ _
theorem shrZ_lt {a : Nat} (n : Int) (h : a < M) : shrZ a n < M := by unfold shrZ; split; exact h; exact Nat.lt_of_le_of_lt (Nat.div_le_self _ _) h
theorem shlN_big (a : Nat) {n : Nat} (h : 256 ≤ n) : shlN a n = 0 := by
  unfold shlN
  have e : (2 : Nat) ^ n = M * 2 ^ (n - 256) := by
    rw [show M = 2 ^ 256 by rw [M_eq], ← Nat.pow_add, show 256 + (n - 256) = n by omega]
  rw [e, Nat.mul_left_comm, Nat.mul_mod_right]
theorem shrN_big {a : Nat} (ha : a < M) {n : Nat} (h : 256 ≤ n) : a / 2 ^ n = 0 := by
  apply Nat.div_eq_of_lt
  have : (2 : Nat) ^ 256 ≤ 2 ^ n := Nat.pow_le_pow_right (by decide) h
  rw [show M = 2 ^ 256 by rw [M_eq]] at ha
  omega
theorem shl_fin0 {a r : Nat} (ha : a < M) (hr : r < 64) : Value.agg #[.int .u64 (shlW (wd a 0) r), .int .u64 (bits .or .u64 (shlW (wd a 1) r) (shrW (wd a 0) (64 - r))), .int .u64 (bits .or .u64 (shlW (wd a 2) r) (shrW (wd a 1) (64 - r))), .int .u64 (bits .or .u64 (shlW (wd a 3) r) (shrW (wd a 2) (64 - r)))] = U (shlN a (64 * 0 + r)) := by
  have hn := shl_num a 0 r ha
  obtain ⟨e0, a0, b0, _⟩ := shw_eq (wd_word a 0) hr; obtain ⟨e1, a1, b1, _⟩ := shw_eq (wd_word a 1) hr; obtain ⟨e2, a2, b2, _⟩ := shw_eq (wd_word a 2) hr; obtain ⟨e3, a3, b3, _⟩ := shw_eq (wd_word a 3) hr
  obtain ⟨o1, w1⟩ := shl_or (wd_word a 1) hr a0 b0
  obtain ⟨o2, w2⟩ := shl_or (wd_word a 2) hr a1 b1
  obtain ⟨o3, w3⟩ := shl_or (wd_word a 3) hr a2 b2
  rw [o1, o2, o3]
  refine U_of_sum _ (word_shl _ _) w1 w2 w3 ?_
  have wz := word_shl (wd a 0) r
  unfold shlN
  generalize hX : a * 2 ^ (64 * 0 + r) = X at *
  rw [e0, e1, e2, e3] at hn
  generalize (2 : Int) ^ r = p at *
  generalize shlW (wd a 0) r = x0 at *; generalize shrW (wd a 0) (64 - r) = y0 at *
  generalize shlW (wd a 1) r = x1 at *; generalize shrW (wd a 1) (64 - r) = y1 at *
  generalize shlW (wd a 2) r = x2 at *; generalize shrW (wd a 2) (64 - r) = y2 at *
  generalize shlW (wd a 3) r = x3 at *; generalize shrW (wd a 3) (64 - r) = y3 at *
  clear e0 e1 e2 e3
  unfold Word at *
  rw [M_eq] at *
  simp only [Int.reducePow] at hn
  omega
theorem shl_fin1 {a r : Nat} (ha : a < M) (hr : r < 64) : Value.agg #[.int .u64 0, .int .u64 (shlW (wd a 0) r), .int .u64 (bits .or .u64 (shlW (wd a 1) r) (shrW (wd a 0) (64 - r))), .int .u64 (bits .or .u64 (shlW (wd a 2) r) (shrW (wd a 1) (64 - r)))] = U (shlN a (64 * 1 + r)) := by
  have hn := shl_num a 1 r ha
  obtain ⟨e0, a0, b0, _⟩ := shw_eq (wd_word a 0) hr; obtain ⟨e1, a1, b1, _⟩ := shw_eq (wd_word a 1) hr; obtain ⟨e2, a2, b2, _⟩ := shw_eq (wd_word a 2) hr; obtain ⟨e3, a3, b3, _⟩ := shw_eq (wd_word a 3) hr
  obtain ⟨o2, w2⟩ := shl_or (wd_word a 1) hr a0 b0
  obtain ⟨o3, w3⟩ := shl_or (wd_word a 2) hr a1 b1
  rw [o2, o3]
  refine U_of_sum _ word_zero (word_shl _ _) w2 w3 ?_
  have wz := word_shl (wd a 0) r
  unfold shlN
  generalize hX : a * 2 ^ (64 * 1 + r) = X at *
  rw [e0, e1, e2, e3] at hn
  generalize (2 : Int) ^ r = p at *
  generalize shlW (wd a 0) r = x0 at *; generalize shrW (wd a 0) (64 - r) = y0 at *
  generalize shlW (wd a 1) r = x1 at *; generalize shrW (wd a 1) (64 - r) = y1 at *
  generalize shlW (wd a 2) r = x2 at *; generalize shrW (wd a 2) (64 - r) = y2 at *
  generalize shlW (wd a 3) r = x3 at *; generalize shrW (wd a 3) (64 - r) = y3 at *
  clear e0 e1 e2 e3
  unfold Word at *
  rw [M_eq] at *
  simp only [Int.reducePow] at hn
  omega
theorem shl_fin2 {a r : Nat} (ha : a < M) (hr : r < 64) : Value.agg #[.int .u64 0, .int .u64 0, .int .u64 (shlW (wd a 0) r), .int .u64 (bits .or .u64 (shlW (wd a 1) r) (shrW (wd a 0) (64 - r)))] = U (shlN a (64 * 2 + r)) := by
  have hn := shl_num a 2 r ha
  obtain ⟨e0, a0, b0, _⟩ := shw_eq (wd_word a 0) hr; obtain ⟨e1, a1, b1, _⟩ := shw_eq (wd_word a 1) hr; obtain ⟨e2, a2, b2, _⟩ := shw_eq (wd_word a 2) hr; obtain ⟨e3, a3, b3, _⟩ := shw_eq (wd_word a 3) hr
  obtain ⟨o3, w3⟩ := shl_or (wd_word a 1) hr a0 b0
  rw [o3]
  refine U_of_sum _ word_zero word_zero (word_shl _ _) w3 ?_
  have wz := word_shl (wd a 0) r
  unfold shlN
  generalize hX : a * 2 ^ (64 * 2 + r) = X at *
  rw [e0, e1, e2, e3] at hn
  generalize (2 : Int) ^ r = p at *
  generalize shlW (wd a 0) r = x0 at *; generalize shrW (wd a 0) (64 - r) = y0 at *
  generalize shlW (wd a 1) r = x1 at *; generalize shrW (wd a 1) (64 - r) = y1 at *
  generalize shlW (wd a 2) r = x2 at *; generalize shrW (wd a 2) (64 - r) = y2 at *
  generalize shlW (wd a 3) r = x3 at *; generalize shrW (wd a 3) (64 - r) = y3 at *
  clear e0 e1 e2 e3
  unfold Word at *
  rw [M_eq] at *
  simp only [Int.reducePow] at hn
  omega
theorem shl_fin3 {a r : Nat} (ha : a < M) (hr : r < 64) : Value.agg #[.int .u64 0, .int .u64 0, .int .u64 0, .int .u64 (shlW (wd a 0) r)] = U (shlN a (64 * 3 + r)) := by
  have hn := shl_num a 3 r ha
  obtain ⟨e0, a0, b0, _⟩ := shw_eq (wd_word a 0) hr; obtain ⟨e1, a1, b1, _⟩ := shw_eq (wd_word a 1) hr; obtain ⟨e2, a2, b2, _⟩ := shw_eq (wd_word a 2) hr; obtain ⟨e3, a3, b3, _⟩ := shw_eq (wd_word a 3) hr
  refine U_of_sum _ word_zero word_zero word_zero (word_shl _ _) ?_
  have wz := word_shl (wd a 0) r
  unfold shlN
  generalize hX : a * 2 ^ (64 * 3 + r) = X at *
  rw [e0, e1, e2, e3] at hn
  generalize (2 : Int) ^ r = p at *
  generalize shlW (wd a 0) r = x0 at *; generalize shrW (wd a 0) (64 - r) = y0 at *
  generalize shlW (wd a 1) r = x1 at *; generalize shrW (wd a 1) (64 - r) = y1 at *
  generalize shlW (wd a 2) r = x2 at *; generalize shrW (wd a 2) (64 - r) = y2 at *
  generalize shlW (wd a 3) r = x3 at *; generalize shrW (wd a 3) (64 - r) = y3 at *
  clear e0 e1 e2 e3
  unfold Word at *
  rw [M_eq] at *
  simp only [Int.reducePow] at hn
  omega

theorem bits_or_comm (x y : Int) : bits .or .u64 x y = bits .or .u64 y x := by
  simp only [bits, BitVec.or_comm]
theorem shr_eq {x : Int} (hx : Word x) {r : Nat} (h : r < 64) : ∃ l : Int, x = 2 ^ r * shrW x r + l ∧ 0 ≤ l ∧ l < 2 ^ r ∧ 2 ^ r * shlW x (64 - r) = 18446744073709551616 * l ∧ Word (shrW x r) ∧ (∀ z, 0 ≤ z → z * 2 ^ r ≤ 18446744073709551615 → bits .or .u64 z (shlW x (64 - r)) = z + shlW x (64 - r) ∧ Word (z + shlW x (64 - r))) := by
  obtain ⟨x, rfl⟩ := Int.eq_ofNat_of_zero_le hx.1
  have hx2 := hx.2
  have hs := pw_split (Nat.le_of_lt h)
  unfold shrW shlW
  rw [Nat.min_eq_left (by omega), Nat.min_eq_left (by omega), u64_wrap]
  have p0 : 0 < 2 ^ r := Nat.pow_pos (by decide)
  have s0 : 0 < 2 ^ (64 - r) := Nat.pow_pos (by decide)
  have e1 : ((2 : Int) ^ r) = ((2 ^ r : Nat) : Int) := by simp
  have e2 : ((2 : Int) ^ (64 - r)) = ((2 ^ (64 - r) : Nat) : Int) := by simp
  have key : ∀ z L : Nat, L < 2 ^ r → z < 2 ^ (64 - r) → bits .or .u64 (z : Int) ((L * 2 ^ (64 - r) : Nat) : Int) = ((L * 2 ^ (64 - r) + z : Nat) : Int) := by
    intro z L hL hz
    have hb : L * 2 ^ (64 - r) + z < 18446744073709551616 := by
      have h1 : (L + 1) * 2 ^ (64 - r) ≤ 2 ^ r * 2 ^ (64 - r) := Nat.mul_le_mul_right _ hL
      rw [hs, Nat.add_mul, Nat.one_mul] at h1
      omega
    have h1 := u64_or_add (L : Int) (z : Int) (64 - r) (by omega) (by omega) (by rw [e2]; omega) (by rw [e2, ← Int.natCast_mul]; omega)
    rw [e2, ← Int.natCast_mul] at h1
    rw [bits_or_comm, h1]; omega
  rw [e1, e2]
  generalize hpp : (2 : Nat) ^ r = p at *
  generalize hss : (2 : Nat) ^ (64 - r) = s at *
  have hf : Int.fdiv (x : Int) (p : Int) = ((x / p : Nat) : Int) := by rw [Int.fdiv_eq_ediv_of_nonneg _ (by omega)]; simp
  rw [hf]
  have hdm := Nat.div_add_mod x p
  have hml := Nat.mod_lt x p0
  have hmod : ((x : Int) * (s : Int)) % 18446744073709551616 = (((x % p) * s : Nat) : Int) := by
    have hp : x * s = 18446744073709551616 * (x / p) + (x % p) * s := by
      have h1 : x * s = (p * (x / p) + x % p) * s := by rw [hdm]
      rw [h1, Nat.add_mul, Nat.mul_comm p, Nat.mul_assoc, hs, Nat.mul_comm (x / p)]
    have hlt : (x % p) * s + s ≤ 18446744073709551616 := by
      have h1 : (x % p + 1) * s ≤ p * s := Nat.mul_le_mul_right _ hml
      rw [Nat.add_mul, Nat.one_mul, hs] at h1
      exact h1
    rw [← Int.natCast_mul, hp]
    omega
  rw [hmod]
  have hxp : x / p ≤ x := Nat.div_le_self _ _
  clear hf hmod
  generalize x / p = d at *
  generalize x % p = m at *
  refine ⟨(m : Int), by rw [← Int.natCast_mul]; omega, by omega, by omega, ?_, by unfold Word; omega, ?_⟩
  · rw [← Int.natCast_mul, Nat.mul_left_comm, hs]; omega
  · intro z hz0 hz1
    obtain ⟨z, rfl⟩ := Int.eq_ofNat_of_zero_le hz0
    rw [← Int.natCast_mul] at hz1
    have hzs : z < s := by
      rcases Nat.lt_or_ge z s with h1 | h1
      · exact h1
      · have : s * p ≤ z * p := Nat.mul_le_mul_right _ h1
        rw [Nat.mul_comm s, hs] at this
        omega
    have hk := key z m hml hzs
    have hlt : m * s + s ≤ 18446744073709551616 := by
      have h1 : (m + 1) * s ≤ p * s := Nat.mul_le_mul_right _ hml
      rw [Nat.add_mul, Nat.one_mul, hs] at h1
      exact h1
    refine ⟨by rw [hk]; omega, by unfold Word; omega⟩
theorem shr_le {x : Int} (hx : Word x) {r : Nat} (h : r < 64) : 0 ≤ shrW x r ∧ shrW x r * 2 ^ r ≤ 18446744073709551615 := by
  obtain ⟨l, e, l0, l1, _, w, _⟩ := shr_eq hx h
  unfold Word at *
  rw [Int.mul_comm]
  omega
theorem shr_fin0 {a r : Nat} (ha : a < M) (hr : r < 64) : Value.agg #[.int .u64 (bits .or .u64 (shrW (wd a 0) r) (shlW (wd a 1) (64 - r))), .int .u64 (bits .or .u64 (shrW (wd a 1) r) (shlW (wd a 2) (64 - r))), .int .u64 (bits .or .u64 (shrW (wd a 2) r) (shlW (wd a 3) (64 - r))), .int .u64 (shrW (wd a 3) r)] = U (a / 2 ^ (64 * 0 + r)) := by
  have hn := wd_sum a ha
  have v0 := wd_word a 0
  have v1 := wd_word a 1
  have v2 := wd_word a 2
  have v3 := wd_word a 3
  obtain ⟨l0, e0, a0, b0, c0, w0, o0⟩ := shr_eq v0 hr
  obtain ⟨l1, e1, a1, b1, c1, w1, o1⟩ := shr_eq v1 hr
  obtain ⟨l2, e2, a2, b2, c2, w2, o2⟩ := shr_eq v2 hr
  obtain ⟨l3, e3, a3, b3, c3, w3, o3⟩ := shr_eq v3 hr
  obtain ⟨q0, u0⟩ := o1 _ (shr_le v0 hr).1 (shr_le v0 hr).2
  obtain ⟨q1, u1⟩ := o2 _ (shr_le v1 hr).1 (shr_le v1 hr).2
  obtain ⟨q2, u2⟩ := o3 _ (shr_le v2 hr).1 (shr_le v2 hr).2
  rw [q0, q1, q2]
  refine U_of_sum _ u0 u1 u2 w3 ?_
  have hB : ((a / 1 : Nat) : Int) = wd a 0 + 18446744073709551616 * wd a 1 + 340282366920938463463374607431768211456 * wd a 2 + 6277101735386680763835789423207666416102355444464034512896 * wd a 3 := by
    clear e0 a0 b0 c0 w0 o0 e1 a1 b1 c1 w1 o1 e2 a2 b2 c2 w2 o2 e3 a3 b3 c3 w3 o3 q0 u0 q1 u1 q2 u2
    unfold Word at *; omega
  have hq : a / 2 ^ (64 * 0 + r) = (a / 1) / 2 ^ r := by rw [Nat.pow_add, Nat.div_div_eq_div_mul]
  have p0 : 0 < 2 ^ r := Nat.pow_pos (by decide)
  have ep : ((2 : Int) ^ r) = ((2 ^ r : Nat) : Int) := by simp
  rw [hq]
  rw [ep] at e0 b0 c0 e1 b1 c1 e2 b2 c2 e3 b3 c3
  clear w0 o0 w1 o1 w2 o2 w3 o3 q0 u0 q1 u1 q2 u2 ep hq v0 v1 v2 v3 hn ha
  generalize (2 : Nat) ^ r = p at *
  generalize a / 1 = B at *
  generalize shlW (wd a 0) (64 - r) = y0 at *; generalize shrW (wd a 0) r = x0 at *
  generalize shlW (wd a 1) (64 - r) = y1 at *; generalize shrW (wd a 1) r = x1 at *
  generalize shlW (wd a 2) (64 - r) = y2 at *; generalize shrW (wd a 2) r = x2 at *
  generalize shlW (wd a 3) (64 - r) = y3 at *; generalize shrW (wd a 3) r = x3 at *
  have hO : l0 + (p : Int) * ((x0 + y1) + 18446744073709551616 * (x1 + y2) + 340282366920938463463374607431768211456 * (x2 + y3) + 6277101735386680763835789423207666416102355444464034512896 * x3) = (B : Int) := by
    rw [hB]
    simp only [Int.mul_add, Int.mul_left_comm (p : Int) 18446744073709551616, Int.mul_left_comm (p : Int) 340282366920938463463374607431768211456, Int.mul_left_comm (p : Int) 6277101735386680763835789423207666416102355444464034512896]
    omega
  have hd : (B : Int) / (p : Int) = (x0 + y1) + 18446744073709551616 * (x1 + y2) + 340282366920938463463374607431768211456 * (x2 + y3) + 6277101735386680763835789423207666416102355444464034512896 * x3 := by
    rw [← hO, Int.add_mul_ediv_left _ _ (by omega), Int.ediv_eq_zero_of_lt a0 b0, Int.zero_add]
  rw [Int.natCast_ediv, hd]
theorem shr_fin1 {a r : Nat} (ha : a < M) (hr : r < 64) : Value.agg #[.int .u64 (bits .or .u64 (shrW (wd a 1) r) (shlW (wd a 2) (64 - r))), .int .u64 (bits .or .u64 (shrW (wd a 2) r) (shlW (wd a 3) (64 - r))), .int .u64 (shrW (wd a 3) r), .int .u64 0] = U (a / 2 ^ (64 * 1 + r)) := by
  have hn := wd_sum a ha
  have v0 := wd_word a 0
  have v1 := wd_word a 1
  have v2 := wd_word a 2
  have v3 := wd_word a 3
  obtain ⟨l1, e1, a1, b1, c1, w1, o1⟩ := shr_eq v1 hr
  obtain ⟨l2, e2, a2, b2, c2, w2, o2⟩ := shr_eq v2 hr
  obtain ⟨l3, e3, a3, b3, c3, w3, o3⟩ := shr_eq v3 hr
  obtain ⟨q0, u0⟩ := o2 _ (shr_le v1 hr).1 (shr_le v1 hr).2
  obtain ⟨q1, u1⟩ := o3 _ (shr_le v2 hr).1 (shr_le v2 hr).2
  rw [q0, q1]
  refine U_of_sum _ u0 u1 w3 word_zero ?_
  have hB : ((a / 18446744073709551616 : Nat) : Int) = wd a 1 + 18446744073709551616 * wd a 2 + 340282366920938463463374607431768211456 * wd a 3 := by
    clear e1 a1 b1 c1 w1 o1 e2 a2 b2 c2 w2 o2 e3 a3 b3 c3 w3 o3 q0 u0 q1 u1
    unfold Word at *; omega
  have hq : a / 2 ^ (64 * 1 + r) = (a / 18446744073709551616) / 2 ^ r := by rw [Nat.pow_add, Nat.div_div_eq_div_mul]
  have p0 : 0 < 2 ^ r := Nat.pow_pos (by decide)
  have ep : ((2 : Int) ^ r) = ((2 ^ r : Nat) : Int) := by simp
  rw [hq]
  rw [ep] at e1 b1 c1 e2 b2 c2 e3 b3 c3
  clear w1 o1 w2 o2 w3 o3 q0 u0 q1 u1 ep hq v0 v1 v2 v3 hn ha
  generalize (2 : Nat) ^ r = p at *
  generalize a / 18446744073709551616 = B at *
  generalize shlW (wd a 1) (64 - r) = y1 at *; generalize shrW (wd a 1) r = x1 at *
  generalize shlW (wd a 2) (64 - r) = y2 at *; generalize shrW (wd a 2) r = x2 at *
  generalize shlW (wd a 3) (64 - r) = y3 at *; generalize shrW (wd a 3) r = x3 at *
  have hO : l1 + (p : Int) * ((x1 + y2) + 18446744073709551616 * (x2 + y3) + 340282366920938463463374607431768211456 * x3) = (B : Int) := by
    rw [hB]
    simp only [Int.mul_add, Int.mul_left_comm (p : Int) 18446744073709551616, Int.mul_left_comm (p : Int) 340282366920938463463374607431768211456]
    omega
  have hd : (B : Int) / (p : Int) = (x1 + y2) + 18446744073709551616 * (x2 + y3) + 340282366920938463463374607431768211456 * x3 := by
    rw [← hO, Int.add_mul_ediv_left _ _ (by omega), Int.ediv_eq_zero_of_lt a1 b1, Int.zero_add]
  rw [Int.natCast_ediv, hd]
  omega
theorem shr_fin2 {a r : Nat} (ha : a < M) (hr : r < 64) : Value.agg #[.int .u64 (bits .or .u64 (shrW (wd a 2) r) (shlW (wd a 3) (64 - r))), .int .u64 (shrW (wd a 3) r), .int .u64 0, .int .u64 0] = U (a / 2 ^ (64 * 2 + r)) := by
  have hn := wd_sum a ha
  have v0 := wd_word a 0
  have v1 := wd_word a 1
  have v2 := wd_word a 2
  have v3 := wd_word a 3
  obtain ⟨l2, e2, a2, b2, c2, w2, o2⟩ := shr_eq v2 hr
  obtain ⟨l3, e3, a3, b3, c3, w3, o3⟩ := shr_eq v3 hr
  obtain ⟨q0, u0⟩ := o3 _ (shr_le v2 hr).1 (shr_le v2 hr).2
  rw [q0]
  refine U_of_sum _ u0 w3 word_zero word_zero ?_
  have hB : ((a / 340282366920938463463374607431768211456 : Nat) : Int) = wd a 2 + 18446744073709551616 * wd a 3 := by
    clear e2 a2 b2 c2 w2 o2 e3 a3 b3 c3 w3 o3 q0 u0
    unfold Word at *; omega
  have hq : a / 2 ^ (64 * 2 + r) = (a / 340282366920938463463374607431768211456) / 2 ^ r := by rw [Nat.pow_add, Nat.div_div_eq_div_mul]
  have p0 : 0 < 2 ^ r := Nat.pow_pos (by decide)
  have ep : ((2 : Int) ^ r) = ((2 ^ r : Nat) : Int) := by simp
  rw [hq]
  rw [ep] at e2 b2 c2 e3 b3 c3
  clear w2 o2 w3 o3 q0 u0 ep hq v0 v1 v2 v3 hn ha
  generalize (2 : Nat) ^ r = p at *
  generalize a / 340282366920938463463374607431768211456 = B at *
  generalize shlW (wd a 2) (64 - r) = y2 at *; generalize shrW (wd a 2) r = x2 at *
  generalize shlW (wd a 3) (64 - r) = y3 at *; generalize shrW (wd a 3) r = x3 at *
  have hO : l2 + (p : Int) * ((x2 + y3) + 18446744073709551616 * x3) = (B : Int) := by
    rw [hB]
    simp only [Int.mul_add, Int.mul_left_comm (p : Int) 18446744073709551616]
    omega
  have hd : (B : Int) / (p : Int) = (x2 + y3) + 18446744073709551616 * x3 := by
    rw [← hO, Int.add_mul_ediv_left _ _ (by omega), Int.ediv_eq_zero_of_lt a2 b2, Int.zero_add]
  rw [Int.natCast_ediv, hd]
  omega
theorem shr_fin3 {a r : Nat} (ha : a < M) (hr : r < 64) : Value.agg #[.int .u64 (shrW (wd a 3) r), .int .u64 0, .int .u64 0, .int .u64 0] = U (a / 2 ^ (64 * 3 + r)) := by
  have hn := wd_sum a ha
  have v0 := wd_word a 0
  have v1 := wd_word a 1
  have v2 := wd_word a 2
  have v3 := wd_word a 3
  obtain ⟨l3, e3, a3, b3, c3, w3, o3⟩ := shr_eq v3 hr
  refine U_of_sum _ w3 word_zero word_zero word_zero ?_
  have hB : ((a / 6277101735386680763835789423207666416102355444464034512896 : Nat) : Int) = wd a 3 := by
    clear e3 a3 b3 c3 w3 o3
    unfold Word at *; omega
  have hq : a / 2 ^ (64 * 3 + r) = (a / 6277101735386680763835789423207666416102355444464034512896) / 2 ^ r := by rw [Nat.pow_add, Nat.div_div_eq_div_mul]
  have p0 : 0 < 2 ^ r := Nat.pow_pos (by decide)
  have ep : ((2 : Int) ^ r) = ((2 ^ r : Nat) : Int) := by simp
  rw [hq]
  rw [ep] at e3 b3 c3
  clear w3 o3 ep hq v0 v1 v2 v3 hn ha
  generalize (2 : Nat) ^ r = p at *
  generalize a / 6277101735386680763835789423207666416102355444464034512896 = B at *
  generalize shlW (wd a 3) (64 - r) = y3 at *; generalize shrW (wd a 3) r = x3 at *
  have hO : l3 + (p : Int) * (x3) = (B : Int) := by
    rw [hB]
    omega
  have hd : (B : Int) / (p : Int) = x3 := by
    rw [← hO, Int.add_mul_ediv_left _ _ (by omega), Int.ediv_eq_zero_of_lt a3 b3, Int.zero_add]
  rw [Int.natCast_ediv, hd]
  omega

/-- A bit is set above all others. -/
theorem setlow_row (q g m : Nat) (hg : g < 4) (hm : m < 64) (h : q < 2 ^ (64 * g + m)) : (cU q).setIfInBounds g (.int .u64 (bits .or .u64 (wd q g) (2 ^ m))) = cU (q + 2 ^ (64 * g + m)) := by
  have hl : ∀ j, j < g → wd (q + 2 ^ (64 * g + m)) j = wd q j := fun j hj => setbit_lo q _ j (by omega)
  have hpos : 0 < 2 ^ (64 * g) := Nat.pow_pos (by decide)
  have hlt : q / 2 ^ (64 * g) < 2 ^ m := by
    rw [Nat.div_lt_iff_lt_mul hpos, ← Nat.pow_add, Nat.add_comm m]; exact h
  have h64 : (2 : Nat) ^ m < 18446744073709551616 := by
    have : (2 : Nat) ^ m < 2 ^ 64 := Nat.pow_lt_pow_right (by decide) hm
    omega
  have hW : ∀ j, (18446744073709551616 : Nat) ^ j = 2 ^ (64 * j) := fun j => by rw [Nat.pow_mul]
  have hz : ∀ j, g < j → wd (q + 2 ^ (64 * g + m)) j = wd q j := by
    intro j hj
    have hb : (2 : Nat) ^ (64 * g + m) + 2 ^ (64 * g + m) ≤ 2 ^ (64 * j) := by
      rw [← Nat.two_mul, ← Nat.pow_succ']
      exact Nat.pow_le_pow_right (by decide) (by omega)
    unfold wd
    rw [hW, Nat.div_eq_of_lt (by omega), Nat.div_eq_of_lt (by omega)]
  have hg' : bits .or .u64 (wd q g) (2 ^ m) = wd (q + 2 ^ (64 * g + m)) g := by
    have e1 : wd q g = ((q / 2 ^ (64 * g) : Nat) : Int) := by
      unfold wd; rw [hW, Nat.mod_eq_of_lt (by omega)]
    have e2 : wd (q + 2 ^ (64 * g + m)) g = ((q / 2 ^ (64 * g) + 2 ^ m : Nat) : Int) := by
      unfold wd
      rw [hW, Nat.pow_add, Nat.add_mul_div_left _ _ hpos, Nat.mod_eq_of_lt]
      have : (2 : Nat) ^ m + 2 ^ m ≤ 2 ^ 64 := by
        rw [← Nat.two_mul, ← Nat.pow_succ']; exact Nat.pow_le_pow_right (by decide) (by omega)
      omega
    rw [e1, e2, bits_or_comm]
    clear e1 e2 hl hz
    generalize q / 2 ^ (64 * g) = d at *
    have ec : ((2 : Int) ^ m) = ((2 ^ m : Nat) : Int) := by simp
    have h1 := u64_or_add 1 (d : Int) m (by omega) (by omega) (by rw [ec]; omega) (by
      have : (2 : Nat) ^ m + 2 ^ m ≤ 2 ^ 64 := by
        rw [← Nat.two_mul, ← Nat.pow_succ']; exact Nat.pow_le_pow_right (by decide) (by omega)
      rw [ec]; omega)
    rw [Int.one_mul] at h1
    rw [h1, ec]; omega
  rw [hg']
  generalize q + 2 ^ (64 * g + m) = q' at *
  rcases (by omega : g = 0 ∨ g = 1 ∨ g = 2 ∨ g = 3) with rfl | rfl | rfl | rfl
  · show #[_, _, _, _] = _; rw [cU, hz 1 (by omega), hz 2 (by omega), hz 3 (by omega)]
  · show #[_, _, _, _] = _; rw [cU, hl 0 (by omega), hz 2 (by omega), hz 3 (by omega)]
  · show #[_, _, _, _] = _; rw [cU, hl 0 (by omega), hl 1 (by omega), hz 3 (by omega)]
  · show #[_, _, _, _] = _; rw [cU, hl 0 (by omega), hl 1 (by omega), hl 2 (by omega)]
/-- The lower bits of what a is shifted to. -/
theorem low_next (x i : Nat) : x % 2 ^ (i + 1) = x % 2 ^ i + (if x / 2 ^ i % 2 = 1 then 2 ^ i else 0) := by
  rw [Nat.mod_pow_succ]
  rcases (by omega : x / 2 ^ i % 2 = 0 ∨ x / 2 ^ i % 2 = 1) with h | h <;> simp [h]
theorem shr_bit (a n i : Nat) : a / 2 ^ (i + n) % 2 = a / 2 ^ n / 2 ^ i % 2 := by rw [Nat.div_div_eq_div_mul, ← Nat.pow_add, Nat.add_comm n i]
theorem shr_all {a n i : Nat} (ha : a < M) (h : 256 ≤ i + n) : a / 2 ^ n % 2 ^ i = a / 2 ^ n := by
  apply Nat.mod_eq_of_lt
  rw [Nat.div_lt_iff_lt_mul (Nat.pow_pos (by decide)), ← Nat.pow_add]
  have : (2 : Nat) ^ 256 ≤ 2 ^ (i + n) := Nat.pow_le_pow_right (by decide) h
  rw [show M = 2 ^ 256 by rw [M_eq]] at ha
  omega
theorem shl_next (a k : Nat) : (a * 2 ^ k % M + a * 2 ^ k % M) % M = a * 2 ^ (k + 1) % M := by
  rw [← Nat.add_mod, Nat.pow_succ, ← Nat.mul_assoc, Nat.mul_two]

/-! ### four words in a row, and what the loops leave in them -/
def c4 (f : Nat → Int) : Array Value := #[.int .u64 (f 0), .int .u64 (f 1), .int .u64 (f 2), .int .u64 (f 3)]
theorem c4_get (f : Nat → Int) (k : Nat) (h : k < 4) : (c4 f)[k]? = some (.int .u64 (f k)) := by
  rcases (by omega : k = 0 ∨ k = 1 ∨ k = 2 ∨ k = 3) with rfl | rfl | rfl | rfl <;> rfl
theorem c4_set (f : Nat → Int) (k : Nat) (x : Int) (h : k < 4) : (c4 f).setIfInBounds k (.int .u64 x) = c4 (updf f k x) := by
  rcases (by omega : k = 0 ∨ k = 1 ∨ k = 2 ∨ k = 3) with rfl | rfl | rfl | rfl <;> simp [c4, updf]
theorem c4_get_upd (f : Nat → Int) (k : Nat) (x : Int) (h : k < 4) : (c4 (updf f k x))[k]? = some (.int .u64 x) := by
  rw [c4_get _ k h]; simp [updf]
def shlO (a q r j : Nat) : Int := if j < q then 0 else if j = q then shlW (wd a 0) r else bits .or .u64 (shlW (wd a (j - q)) r) (shrW (wd a (j - q - 1)) (64 - r))
def shlR (a q r i : Nat) (f : Nat → Int) : Prop := ∀ j, j < 4 → f j = if j < i then shlO a q r j else 0
theorem shl_start (a q r : Nat) : shlR a q r q (fun _ => 0) := by
  intro j _
  split
  · unfold shlO; rw [if_pos ‹_›]
  · rfl
theorem shl_yes {a q r i : Nat} {f : Nat → Int} {y : Int} (hf : shlR a q r i f) (h : (q : Int) < (i : Int)) : shlR a q r (i + 1) (updf (updf f i y) i (bits .or .u64 (shlW (wd a (i - q)) r) (shrW (wd a (i - q - 1)) (64 - r)))) := by
  intro j hj
  unfold updf
  by_cases e : j = i
  · subst e; rw [if_pos rfl, if_pos (by omega)]; unfold shlO; rw [if_neg (by omega), if_neg (by omega)]
  · rw [if_neg e, if_neg e, hf j hj]
    by_cases h1 : j < i
    · rw [if_pos h1, if_pos (by omega)]
    · rw [if_neg h1, if_neg (by omega)]
theorem shl_no {a q r i : Nat} {f : Nat → Int} (hf : shlR a q r i f) (hq : q ≤ i) (h : ¬ (q : Int) < (i : Int)) : shlR a q r (i + 1) (updf f i (shlW (wd a (i - q)) r)) := by
  intro j hj
  obtain rfl : i = q := by omega
  unfold updf
  by_cases e : j = i
  · subst e; rw [if_pos rfl, if_pos (by omega)]; unfold shlO; rw [if_neg (by omega), if_pos rfl, Nat.sub_self]
  · rw [if_neg e, hf j hj]
    by_cases h1 : j < i
    · rw [if_pos h1, if_pos (by omega)]
    · rw [if_neg h1, if_neg (by omega)]
theorem shl_end {a q r i : Nat} {f : Nat → Int} (ha : a < M) (hq : q < 4) (hr : r < 64) (hi : i = 4) (hf : shlR a q r i f) : Value.agg (c4 f) = U (shlN a (64 * q + r)) := by
  subst hi
  unfold c4
  rw [hf 0 (by omega), hf 1 (by omega), hf 2 (by omega), hf 3 (by omega)]
  simp only [if_pos (by omega : (0 : Nat) < 4), if_pos (by omega : (1 : Nat) < 4), if_pos (by omega : (2 : Nat) < 4), if_pos (by omega : (3 : Nat) < 4)]
  rcases (by omega : q = 0 ∨ q = 1 ∨ q = 2 ∨ q = 3) with rfl | rfl | rfl | rfl
  · exact shl_fin0 ha hr
  · exact shl_fin1 ha hr
  · exact shl_fin2 ha hr
  · exact shl_fin3 ha hr
def shrO (a q r j : Nat) : Int := if j + q < 3 then bits .or .u64 (shrW (wd a (j + q)) r) (shlW (wd a (j + q + 1)) (64 - r)) else shrW (wd a (j + q)) r
def shrR (a q r i : Nat) (f : Nat → Int) : Prop := ∀ j, j < 4 → f j = if j < i then shrO a q r j else 0
theorem shr_start (a q r : Nat) : shrR a q r 0 (fun _ => 0) := by
  intro j _
  rw [if_neg (by omega)]
theorem shr_yes {a q r i : Nat} {f : Nat → Int} {y : Int} (hf : shrR a q r i f) (h : ((i + q : Nat) : Int) < 3) : shrR a q r (i + 1) (updf (updf f i y) i (bits .or .u64 (shrW (wd a (i + q)) r) (shlW (wd a (i + q + 1)) (64 - r)))) := by
  intro j hj
  unfold updf
  by_cases e : j = i
  · subst e; rw [if_pos rfl, if_pos (by omega)]; unfold shrO; rw [if_pos (by omega)]
  · rw [if_neg e, if_neg e, hf j hj]
    by_cases h1 : j < i
    · rw [if_pos h1, if_pos (by omega)]
    · rw [if_neg h1, if_neg (by omega)]
theorem shr_no {a q r i : Nat} {f : Nat → Int} (hf : shrR a q r i f) (h : ¬ ((i + q : Nat) : Int) < 3) : shrR a q r (i + 1) (updf f i (shrW (wd a (i + q)) r)) := by
  intro j hj
  unfold updf
  by_cases e : j = i
  · subst e; rw [if_pos rfl, if_pos (by omega)]; unfold shrO; rw [if_neg (by omega)]
  · rw [if_neg e, hf j hj]
    by_cases h1 : j < i
    · rw [if_pos h1, if_pos (by omega)]
    · rw [if_neg h1, if_neg (by omega)]
theorem shr_end {a q r i : Nat} {f : Nat → Int} (ha : a < M) (hq : q < 4) (hr : r < 64) (hi : i + q = 4) (hf : shrR a q r i f) : Value.agg (c4 f) = U (a / 2 ^ (64 * q + r)) := by
  unfold c4
  rw [hf 0 (by omega), hf 1 (by omega), hf 2 (by omega), hf 3 (by omega)]
  rcases (by omega : q = 0 ∨ q = 1 ∨ q = 2 ∨ q = 3) with rfl | rfl | rfl | rfl
  · obtain rfl : i = 4 := by omega
    exact shr_fin0 ha hr
  · obtain rfl : i = 3 := by omega
    exact shr_fin1 ha hr
  · obtain rfl : i = 2 := by omega
    exact shr_fin2 ha hr
  · obtain rfl : i = 1 := by omega
    exact shr_fin3 ha hr
end Go.Proofs.YtoibhbmcplhiaaaDoor
