/-
  Unsigned integers of every width as natural numbers: shifts, or, conversions.
-/
import Derived.Test.YtlgjdejlnelndaaGhost9
import Derived.Laws.BitsLemmas
import Derived.IntWalk
namespace Go.Proofs.Ytlgjdejlnelndaa
open Go Go.RowKit

theorem wrapU {k : IntKind} (hk : k.signed = false) (x : Nat) : k.wrap (x : Int) = ((x % 2 ^ k.bits : Nat) : Int) := by
  simp [IntKind.wrap, hk]
theorem wrapU_in {k : IntKind} (hk : k.signed = false) {x : Nat} (h : x < 2 ^ k.bits) : k.wrap (x : Int) = (x : Int) := by
  rw [wrapU hk, Nat.mod_eq_of_lt h]
theorem run_shrU {P : Program} {t : TypeId} {k yk : IntKind} {x c : Nat} (h : x < 2 ^ k.bits) (w : World) : (binOp .shr t (.int k (x : Int)) (.int yk (c : Int))).run P w = .ok (.int k ((x / 2 ^ c : Nat) : Int)) w := by
  have e : Int.fdiv (x : Int) (2 ^ (min (c : Int).toNat k.bits)) = ((x / 2 ^ c : Nat) : Int) := by
    rw [Int.toNat_natCast]
    rw [Int.fdiv_eq_ediv_of_nonneg _ (by exact Int.le_of_lt (Int.pow_pos (by decide)))]
    rw [show (2 : Int) ^ (min c k.bits) = ((2 ^ (min c k.bits) : Nat) : Int) by simp, ← Int.natCast_ediv]
    congr 1
    by_cases hc : c ≤ k.bits
    · rw [Nat.min_eq_left hc]
    · rw [Nat.min_eq_right (by omega), Nat.div_eq_of_lt h, Nat.div_eq_of_lt]
      exact Nat.lt_of_lt_of_le h (Nat.pow_le_pow_right (by decide) (by omega))
  simp only [binOp, Op.shift, if_neg (by omega : ¬ (c : Int) < 0), e]
  rfl
theorem run_shlU {P : Program} {t : TypeId} {k yk : IntKind} (hk : k.signed = false) {x c : Nat} (h : x * 2 ^ c < 2 ^ k.bits) (hx : 0 < x → c ≤ k.bits) (w : World) : (binOp .shl t (.int k (x : Int)) (.int yk (c : Int))).run P w = .ok (.int k ((x * 2 ^ c : Nat) : Int)) w := by
  have e : k.wrap ((x : Int) * 2 ^ (min (c : Int).toNat k.bits)) = ((x * 2 ^ c : Nat) : Int) := by
    rw [Int.toNat_natCast]
    rcases Nat.eq_zero_or_pos x with rfl | hp
    · simp [IntKind.wrap, hk]
    · rw [Nat.min_eq_left (hx hp), show (x : Int) * 2 ^ c = ((x * 2 ^ c : Nat) : Int) by simp, wrapU_in hk h]
  simp only [binOp, Op.shift, if_neg (by omega : ¬ (c : Int) < 0), e]
  rfl
theorem bits_orU {k : IntKind} (hk : k.signed = false) {a b : Nat} (ha : a < 2 ^ k.bits) (hb : b < 2 ^ k.bits) : bits .or k (a : Int) (b : Int) = ((a ||| b : Nat) : Int) := by
  have e : ∀ n : Nat, n < 2 ^ k.bits → (BitVec.ofInt k.bits (n : Int)).toNat = n := by
    intro n hn
    rw [BitVec.toNat_ofInt]
    rw [show ((2 ^ k.bits : Nat) : Int) = ((2 ^ k.bits : Nat) : Int) from rfl, ← Int.natCast_emod, Int.toNat_natCast, Nat.mod_eq_of_lt hn]
  unfold bits
  simp only []
  rw [BitVec.toNat_or, e a ha, e b hb, wrapU_in hk (Nat.or_lt_two_pow ha hb)]
theorem bits_andU {k : IntKind} (hk : k.signed = false) {a b : Nat} (ha : a < 2 ^ k.bits) (hb : b < 2 ^ k.bits) : bits .and k (a : Int) (b : Int) = ((a &&& b : Nat) : Int) := by
  have e : ∀ n : Nat, n < 2 ^ k.bits → (BitVec.ofInt k.bits (n : Int)).toNat = n := by
    intro n hn
    rw [BitVec.toNat_ofInt]
    rw [show ((2 ^ k.bits : Nat) : Int) = ((2 ^ k.bits : Nat) : Int) from rfl, ← Int.natCast_emod, Int.toNat_natCast, Nat.mod_eq_of_lt hn]
  unfold bits
  simp only []
  rw [BitVec.toNat_and, e a ha, e b hb, wrapU_in hk (Nat.and_lt_two_pow _ hb)]
theorem run_quoU {P : Program} {t : TypeId} {k : IntKind} (hk : k.signed = false) {n d : Nat} (hd : 0 < d) (hn : n < 2 ^ k.bits) (w : World) : (binOp .quo t (.int k (n : Int)) (.int k (d : Int))).run P w = .ok (.int k ((n / d : Nat) : Int)) w := by
  have e : Int.tdiv (n : Int) (d : Int) = ((n / d : Nat) : Int) := by rw [Int.tdiv_eq_ediv_of_nonneg (by omega)]; simp
  have h1 : n / d < 2 ^ k.bits := Nat.lt_of_le_of_lt (Nat.div_le_self _ _) hn
  simp only [binOp, Op.intDiv, ne_eq, not_true_eq_false, if_false, if_neg (by omega : ¬ (d : Int) = 0), e, wrapU_in hk h1]
  rfl
theorem run_remU {P : Program} {t : TypeId} {k : IntKind} {n d : Nat} (hd : 0 < d) (w : World) : (binOp .rem t (.int k (n : Int)) (.int k (d : Int))).run P w = .ok (.int k ((n % d : Nat) : Int)) w := by
  have e : Int.tmod (n : Int) (d : Int) = ((n % d : Nat) : Int) := by rw [Int.tmod_eq_emod_of_nonneg (by omega)]; simp
  simp only [binOp, Op.intDiv, ne_eq, not_true_eq_false, if_false, if_neg (by omega : ¬ (d : Int) = 0), e]
  rfl
theorem run_quoI {P : Program} {t : TypeId} {n d : Nat} (hd : 0 < d) (hn : n < 9223372036854775808) (w : World) : (binOp .quo t (.int .i64 (n : Int)) (.int .i64 (d : Int))).run P w = .ok (.int .i64 ((n / d : Nat) : Int)) w := by
  have e : Int.tdiv (n : Int) (d : Int) = ((n / d : Nat) : Int) := by rw [Int.tdiv_eq_ediv_of_nonneg (by omega)]; simp
  have h1 : n / d ≤ n := Nat.div_le_self _ _
  have h2 : IntKind.i64.wrap ((n / d : Nat) : Int) = ((n / d : Nat) : Int) := by
    generalize n / d = q at h1
    exact IntWalk.i64_in _ (by omega)
  simp only [binOp, Op.intDiv, ne_eq, not_true_eq_false, if_false, if_neg (by omega : ¬ (d : Int) = 0), e, h2]
  rfl
/-- A byte that is a number below 256. -/
theorem ob_lt {n : Nat} (h : n < 256) : (ob (n : Int)).toNat = n := by
  have := ob_nat (x := (n : Int)) ⟨by omega, by omega⟩
  omega
theorem gB_ob (xs : List UInt8) (i : Nat) : ob (gB xs i : Int) = xs.getD i 0 := by
  unfold ob gB
  simp
theorem gB_rng (xs : List UInt8) (i : Nat) : 0 ≤ ((gB xs i : Nat) : Int) ∧ ((gB xs i : Nat) : Int) < 256 := by
  have := gB_lt xs i
  omega
end Go.Proofs.Ytlgjdejlnelndaa
