/-
  Decimal texts and their numbers: the plain facts, and strings that are joined.
-/
import Derived.Test.YtlgjdejlnelndaaText
import Derived.Test.YtlgjdejlnelndaaUint
import Derived.Test.YtlgjdejlnelndaaGNum
namespace Go.Proofs.Ytlgjdejlnelndaa
open Go Go.RowKit

theorem wrap_addN (x y : Nat) (h : x + y < 9223372036854775808) : IntKind.i64.wrap ((x : Int) + (y : Int)) = ((x + y : Nat) : Int) := by
  rw [IntWalk.i64_in _ (by omega)]; omega
theorem u64N {x : Nat} (h : x < 18446744073709551616) : IntKind.u64.wrap (x : Int) = (x : Int) := wrapU_in rfl h
theorem i64N {x : Int} (h : -9223372036854775808 ≤ x ∧ x < 9223372036854775808) : IntKind.i64.wrap x = x := IntWalk.i64_in _ (by omega)
theorem add_str {P : Program} {t : TypeId} (X Y : List UInt8) (h : X.length + Y.length ≤ 9223372036854775807) (w : World) : (binOp .add t (.string (strB X)) (.string (strB Y))).run P w = .ok (.string (strB (X ++ Y))) w := by
  have hs : (strB X).size + (strB Y).size = X.length + Y.length := rfl
  have e : ¬ ((((strB X).size + (strB Y).size : Nat) : Int) > IntKind.i64.max) := by
    rw [hs]; show ¬ (_ > (9223372036854775807 : Int)); omega
  have e2 : strB X ++ strB Y = strB (X ++ Y) := by
    apply ByteArray.ext
    rw [ByteArray.data_append]
    simp [strB]
  simp only [binOp, Op.stringOp, if_neg e, e2]
  rfl
/-- The number of the first i digits. -/
def dV (S : List UInt8) (i : Nat) : Nat := gB S i - 48
def decV (S : List UInt8) : Nat → Nat
  | 0 => 0
  | i + 1 => 10 * decV S i + dV S i
def isD (S : List UInt8) (i : Nat) : Prop := 48 ≤ gB S i ∧ gB S i ≤ 57
def allD (S : List UInt8) (n : Nat) : Prop := ∀ j, j < n → isD S j
instance (S : List UInt8) (i : Nat) : Decidable (isD S i) := inferInstanceAs (Decidable (_ ∧ _))
instance (S : List UInt8) (n : Nat) : Decidable (allD S n) := inferInstanceAs (Decidable (∀ j, j < n → isD S j))
theorem allD_zero (S : List UInt8) : allD S 0 := fun j h => absurd h (by omega)
theorem allD_next {S : List UInt8} {i : Nat} (h : allD S i) (h1 : decide (((gB S i : Nat) : Int) < 48) = false) (h2 : decide (57 < ((gB S i : Nat) : Int)) = false) : allD S (i + 1) := by
  have h1 := of_decide_eq_false h1; have h2 := of_decide_eq_false h2
  intro j hj
  by_cases e : j = i
  · subst e; exact ⟨by omega, by omega⟩
  · exact h j (by omega)
theorem allD_end {S : List UInt8} {i : Nat} (h : allD S i) (hi : S.length ≤ i) : allD S S.length := fun j hj => h j (by omega)
theorem decV_mono (S : List UInt8) {i j : Nat} (h : i ≤ j) : decV S i ≤ decV S j := by
  obtain ⟨k, rfl⟩ := Nat.exists_eq_add_of_le h
  clear h
  induction k with
  | zero => exact Nat.le_refl _
  | succ k ih => rw [← Nat.add_assoc, decV]; omega
/-- The error and the number of a text. -/
def parseE (S : List UInt8) : Int := if 100 < S.length then 4 else if S.length = 0 then 7 else if allD S S.length then (if M ≤ decV S S.length then 5 else 0) else 7
def parseV (S : List UInt8) : Nat := if parseE S = 0 then decV S S.length else 0
theorem parseV_lt (S : List UInt8) : parseV S < M := by
  unfold parseV
  split
  · rename_i h
    unfold parseE at h
    split at h
    · exact absurd h (by decide)
    · split at h
      · exact absurd h (by decide)
      · split at h
        · split at h
          · exact absurd h (by decide)
          · omega
        · exact absurd h (by decide)
  · exact M_pos
abbrev parO (S : List UInt8) : Ending := .returned (.tuple #[U (parseV S), .int .i64 (parseE S)])
theorem par_bad {S : List UInt8} {c : Int} (hc : c ≠ 0) (h : parseE S = c) : Ending.returned (.tuple #[U 0, .int .i64 c]) = parO S := by
  unfold parO parseV; rw [h, if_neg hc]
theorem par_limit {S : List UInt8} (h : 100 < S.length) : parseE S = 4 := by
  unfold parseE; rw [if_pos h]
theorem par_empty {S : List UInt8} (h2 : decide (S = []) = true) : parseE S = 7 := by
  have := of_decide_eq_true h2
  subst this; rfl
theorem len_pos {S : List UInt8} (h2 : decide (S = []) = false) : ¬ S.length = 0 := by
  have := of_decide_eq_false h2
  intro h; exact this (List.length_eq_zero_iff.1 h)
theorem par_text {S : List UInt8} {i : Nat} (h1 : ¬ 100 < S.length) (h2 : decide (S = []) = false) (hi : i < S.length) (hd : ¬ isD S i) : parseE S = 7 := by
  unfold parseE; rw [if_neg h1, if_neg (len_pos h2), if_neg (fun h => hd (h i hi))]
theorem no_low {S : List UInt8} {i : Nat} (h : decide (((gB S i : Nat) : Int) < 48) = true) : ¬ isD S i := by have h := of_decide_eq_true h; unfold isD; omega
theorem no_high {S : List UInt8} {i : Nat} (h : decide (57 < ((gB S i : Nat) : Int)) = true) : ¬ isD S i := by have h := of_decide_eq_true h; unfold isD; omega
theorem is_d {S : List UInt8} {i : Nat} (h1 : decide (((gB S i : Nat) : Int) < 48) = false) (h2 : decide (57 < ((gB S i : Nat) : Int)) = false) : isD S i := by
  have h1 := of_decide_eq_false h1; have h2 := of_decide_eq_false h2
  exact ⟨by omega, by omega⟩
theorem par_range {S : List UInt8} {i : Nat} (h1 : ¬ 100 < S.length) (h2 : decide (S = []) = false) (hD : allD S S.length) (hi : i ≤ S.length) (hM : M ≤ decV S i) : parseE S = 5 := by
  have := decV_mono S hi
  unfold parseE; rw [if_neg h1, if_neg (len_pos h2), if_pos hD, if_pos (by omega)]
theorem par_ok {S : List UInt8} {a i : Nat} (h1 : ¬ 100 < S.length) (h2 : decide (S = []) = false) (hD : allD S S.length) (ha : a = decV S i) (hi : i = S.length) (hM : a < M) : Ending.returned (.tuple #[U a, .int .i64 0]) = parO S := by
  subst hi
  have e : parseE S = 0 := by unfold parseE; rw [if_neg h1, if_neg (len_pos h2), if_pos hD, if_neg (by omega)]
  unfold parO parseV; rw [e, if_pos rfl, ha]
theorem dV_lt {S : List UInt8} {i : Nat} (h : isD S i) : dV S i < 10 := by unfold isD at h; unfold dV; omega
theorem dV_M {S : List UInt8} {i : Nat} (h : isD S i) : dV S i < M := Nat.lt_trans (dV_lt h) (by decide +kernel)
theorem dV_W {S : List UInt8} {i : Nat} (h : isD S i) : dV S i < 18446744073709551616 := Nat.lt_trans (dV_lt h) (by decide +kernel)
theorem dV_wrap {S : List UInt8} {i : Nat} (h : isD S i) : IntKind.u8.wrap (((gB S i : Nat) : Int) - 48) = ((dV S i : Nat) : Int) := by
  unfold isD at h; unfold dV
  rw [IntKind.wrap_u8]; omega
/-- One more digit: too much, or not. -/
theorem step_hi {S : List UInt8} {i a : Nat} (ha : a = decV S i) (h : ¬ a * 10 / M = 0) : M ≤ decV S (i + 1) := by
  rw [decV, ← ha]
  have : M ≤ a * 10 := Nat.le_of_not_lt (fun hl => h (Nat.div_eq_of_lt hl))
  omega
theorem step_carry {S : List UInt8} {i a : Nat} (ha : a = decV S i) (h : M ≤ a * 10 % M + dV S i) : M ≤ decV S (i + 1) := by
  rw [decV, ← ha]
  have := Nat.mod_le (a * 10) M
  omega
theorem step_ok {S : List UInt8} {i a : Nat} (ha : a = decV S i) (h : a * 10 / M = 0) (h2 : ¬ M ≤ a * 10 % M + dV S i) : (a * 10 % M + dV S i) % M = decV S (i + 1) := by
  have hl : a * 10 < M := by
    rcases Nat.lt_or_ge (a * 10) M with hl | hl
    · exact hl
    · exact absurd h (Nat.pos_iff_ne_zero.1 (Nat.div_pos hl M_pos))
  rw [Nat.mod_eq_of_lt hl] at h2 ⊢
  rw [Nat.mod_eq_of_lt (by omega), decV, ← ha, Nat.mul_comm]
/-! ### the reference keeps the number modulo 2^256 -/
theorem over_next {S : List UInt8} {i a : Nat} (ha : a = decV S i % M) : (a * 10 % M + dV S i) % M = decV S (i + 1) % M := by
  rw [decV, ha, Nat.mod_add_mod, Nat.add_mod, Nat.mod_mul_mod, ← Nat.add_mod, Nat.mul_comm]
theorem over_t {S : List UInt8} {i : Nat} {o : Bool} (ho : o = decide (M ≤ decV S i)) (h : o = true) : true = decide (M ≤ decV S (i + 1)) := by
  have := of_decide_eq_true (ho.symm.trans h)
  symm; apply decide_eq_true; rw [decV]; omega
theorem over_c {S : List UInt8} {i a : Nat} {o : Bool} (ha : a = decV S i % M) (ho : o = decide (M ≤ decV S i)) (h0 : o = false) (h : decide (M ≤ a * 10 % M + dV S i) = true) : true = decide (M ≤ decV S (i + 1)) := by
  have h0 := of_decide_eq_false (ho.symm.trans h0)
  rw [Nat.mod_eq_of_lt (by omega)] at ha
  symm; exact decide_eq_true (step_carry ha (of_decide_eq_true h))
theorem over_h {S : List UInt8} {i a : Nat} {o : Bool} (ha : a = decV S i % M) (ho : o = decide (M ≤ decV S i)) (h0 : o = false) (h : decide (M ≤ a * 10 % M + dV S i) = false) : (!decide (a * 10 / M = 0)) = decide (M ≤ decV S (i + 1)) := by
  have h0 := of_decide_eq_false (ho.symm.trans h0)
  rw [Nat.mod_eq_of_lt (by omega)] at ha
  by_cases hz : a * 10 / M = 0
  · rw [decide_eq_true hz]
    symm; apply decide_eq_false
    have := step_ok ha hz (of_decide_eq_false h)
    have h2 := of_decide_eq_false h
    have hm := modM_lt (a * 10 % M + dV S i)
    omega
  · rw [decide_eq_false hz]; symm; exact decide_eq_true (step_hi ha hz)
theorem over_lt {S : List UInt8} {i a : Nat} {o : Bool} (ha : a = decV S i % M) (ho : o = decide (M ≤ decV S i)) (h0 : o = false) : a = decV S i := by
  have h0 := of_decide_eq_false (ho.symm.trans h0)
  rw [ha, Nat.mod_eq_of_lt (by omega)]
theorem par_over {S : List UInt8} {i : Nat} {o : Bool} (h1 : ¬ 100 < S.length) (h2 : decide (S = []) = false) (hD : allD S S.length) (hi : i ≤ S.length) (ho : o = decide (M ≤ decV S i)) (h : o = true) : parseE S = 5 :=
  par_range h1 h2 hD hi (of_decide_eq_true (ho.symm.trans h))
/-! ### the text of a number is read back -/
def decL (A : Nat) : List UInt8 := (decS A).data.toList
theorem strB_decL (A : Nat) : strB (decL A) = decS A := strB_self _
/-- The last j digits. -/
def digL (A : Nat) : Nat → List UInt8
  | 0 => []
  | j + 1 => [ob (dig A j)] ++ digL A j
theorem digL_eq (A : Nat) : ∀ j, digL A j = (revD A j).reverse.map ob
  | 0 => rfl
  | j + 1 => by rw [digL, digL_eq A j, revD_succ, List.reverse_append]; rfl
theorem digL_length (A j : Nat) : (digL A j).length = j := by rw [digL_eq, List.length_map, List.length_reverse, revD_length]
theorem decL_eq {A : Nat} (h0 : A ≠ 0) : decL A = digL A (ndF 78 A) := by
  unfold decL decS; rw [if_neg h0, digL_eq]; rfl
theorem digL_at (A : Nat) {n i : Nat} (hi : i < n) : (gB (digL A n) i : Int) = dig A (n - 1 - i) := by
  have e : (digL A n)[i]? = some (ob (dig A (n - 1 - i))) := by
    rw [digL_eq, List.getElem?_map, List.getElem?_reverse (by rw [revD_length]; exact hi), revD_length, revD_get A _ _ (by omega)]; rfl
  unfold gB
  rw [List.getD, e]
  have := dig_bound A (n - 1 - i)
  exact ob_nat ⟨by omega, by omega⟩
theorem dV_digL (A : Nat) {n i : Nat} (hi : i < n) : dV (digL A n) i = A / 10 ^ (n - 1 - i) % 10 := by
  have h := digL_at A hi
  unfold dig at h
  unfold dV; omega
theorem decV_dec (A n : Nat) : ∀ i, i ≤ n → decV (digL A n) i = A / 10 ^ (n - i) % 10 ^ i
  | 0, _ => by rw [decV, Nat.pow_zero, Nat.mod_one]
  | i + 1, h => by
    rw [decV, decV_dec A n i (by omega), dV_digL A (by omega)]
    have e2 : A / 10 ^ (n - i) = A / 10 ^ (n - (i + 1)) / 10 := by
      rw [Nat.div_div_eq_div_mul, ← Nat.pow_succ, show (n - (i + 1)).succ = n - i by omega]
    rw [show n - 1 - i = n - (i + 1) by omega, e2]
    generalize A / 10 ^ (n - (i + 1)) = x
    rw [Nat.pow_succ, Nat.mul_comm (10 ^ i) 10, Nat.mod_mul]
    omega
theorem parse_dec {A : Nat} (hA : A < M) : parseE (decL A) = 0 ∧ parseV (decL A) = A := by
  have key : parseE (decL A) = 0 ∧ decV (decL A) (decL A).length = A := by
    by_cases h0 : A = 0
    · subst h0
      decide +kernel
    · obtain ⟨n1, n2⟩ := ndF_spec 78 A (lt_pow78 hA)
      have nle := ndF_le 78 A
      rw [decL_eq h0]
      have hs := digL_length A (ndF 78 A)
      have hpos : 0 < ndF 78 A := by
        rcases Nat.eq_zero_or_pos (ndF 78 A) with h | h
        · rw [h, Nat.pow_zero, Nat.div_one] at n2; exact absurd n2 h0
        · exact h
      have hv : decV (digL A (ndF 78 A)) (digL A (ndF 78 A)).length = A := by
        rw [hs, decV_dec A _ _ (Nat.le_refl _), Nat.sub_self, Nat.pow_zero, Nat.div_one]
        apply Nat.mod_eq_of_lt
        rcases Nat.lt_or_ge A (10 ^ ndF 78 A) with h | h
        · exact h
        · exact absurd n2 (Nat.pos_iff_ne_zero.1 (Nat.div_pos h (Nat.pow_pos (by decide))))
      refine ⟨?_, hv⟩
      unfold parseE
      have hD : allD (digL A (ndF 78 A)) (digL A (ndF 78 A)).length := by
        intro j hj
        rw [hs] at hj
        have h := digL_at A hj
        have := dig_bound A (ndF 78 A - 1 - j)
        exact ⟨by omega, by omega⟩
      rw [if_neg (by omega), if_neg (by omega), if_pos hD, hv, if_neg (by omega)]
  refine ⟨key.1, ?_⟩
  unfold parseV
  rw [key.1, if_pos rfl]; exact key.2
/-! ### the reference's text -/
theorem digL_end {A j : Nat} (hA : A < M) (hj : j = 0 ∨ A / 10 ^ j ≠ 0) (he : A / 10 ^ (j + 1) = 0) : digL A (j + 1) = decL A := by
  by_cases h0 : A = 0
  · subst h0
    have : j = 0 := by
      rcases hj with h | h
      · exact h
      · exact absurd (Nat.zero_div _) h
    subst this
    decide +kernel
  · rw [decL_eq h0]
    obtain ⟨n1, n2⟩ := ndF_spec 78 A (lt_pow78 hA)
    have hj' : A / 10 ^ j ≠ 0 := by
      rcases hj with h | h
      · rw [h, Nat.pow_zero, Nat.div_one]; exact h0
      · exact h
    have h1 : ndF 78 A ≤ j + 1 := Nat.le_of_not_lt (fun hl => n1 (j + 1) hl he)
    have h2 : j < ndF 78 A := by
      refine Nat.lt_of_not_le (fun hl => hj' ?_)
      have hp : 10 ^ ndF 78 A ≤ 10 ^ j := Nat.pow_le_pow_right (by decide) hl
      have := Nat.div_le_div_left (a := A) hp (Nat.pow_pos (n := ndF 78 A) (show 0 < 10 by decide))
      rw [n2] at this
      exact Nat.le_zero.1 this
    rw [show ndF 78 A = j + 1 by omega]
theorem dig_wrap {A j a : Nat} (ha : a = A / 10 ^ j) : IntKind.u8.wrap (IntKind.u64.wrap (48 + wd (divR 0 a 10) 0)) = dig A j := by
  subst ha
  unfold divR dig
  rw [if_neg (by decide), Nat.zero_mul, Nat.zero_add, wd0, IntKind.wrap_u8, IntKind.wrap_u64]
  omega
theorem div_next {A j a : Nat} (ha : a = A / 10 ^ j) : divQ 0 a 10 = A / 10 ^ (j + 1) := by
  subst ha
  unfold divQ
  rw [if_neg (by decide), Nat.zero_mul, Nat.zero_add, Nat.div_div_eq_div_mul, Nat.pow_succ]
theorem dig_few {A j : Nat} (hA : A < M) (h : ¬ A / 10 ^ (j + 1) = 0) : j + 1 < 78 := by
  refine Nat.lt_of_not_le (fun hl => h ?_)
  apply Nat.div_eq_of_lt
  exact Nat.lt_of_lt_of_le (lt_pow78 hA) (Nat.pow_le_pow_right (by decide) hl)
theorem dig_rng (A j : Nat) : 0 ≤ dig A j ∧ dig A j < 256 := by have := dig_bound A j; omega
end Go.Proofs.Ytlgjdejlnelndaa
