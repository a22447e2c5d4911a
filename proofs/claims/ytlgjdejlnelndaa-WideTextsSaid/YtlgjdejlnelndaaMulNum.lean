/-
  Long multiplication: the plain arithmetic.
-/
import Derived.Test.YtlgjdejlnelndaaGNum
import Derived.Test.YtlgjdejlnelndaaBits
namespace Go.Proofs.Ytlgjdejlnelndaa
open Go Go.RowKit

/-- Eight words in a row. -/
def c8 (f : Nat → Int) : Array Value := #[.int .u64 (f 0), .int .u64 (f 1), .int .u64 (f 2), .int .u64 (f 3), .int .u64 (f 4), .int .u64 (f 5), .int .u64 (f 6), .int .u64 (f 7)]
def updf (f : Nat → Int) (k : Nat) (x : Int) : Nat → Int := fun j => if j = k then x else f j
theorem c8_size (f : Nat → Int) : (c8 f).size = 8 := rfl
theorem lt8 {k : Nat} (h : k < 8) : k = 0 ∨ k = 1 ∨ k = 2 ∨ k = 3 ∨ k = 4 ∨ k = 5 ∨ k = 6 ∨ k = 7 := by omega
theorem c8_get (f : Nat → Int) (k : Nat) (h : k < 8) : (c8 f)[k]? = some (.int .u64 (f k)) := by
  rcases lt8 h with rfl | rfl | rfl | rfl | rfl | rfl | rfl | rfl <;> rfl
theorem c8_set (f : Nat → Int) (k : Nat) (x : Int) (h : k < 8) : (c8 f).setIfInBounds k (.int .u64 x) = c8 (updf f k x) := by
  rcases lt8 h with rfl | rfl | rfl | rfl | rfl | rfl | rfl | rfl <;> simp [c8, updf]
def S8 (f : Nat → Int) : Int := f 0 + 18446744073709551616 * f 1 + 340282366920938463463374607431768211456 * f 2 + 6277101735386680763835789423207666416102355444464034512896 * f 3 + 115792089237316195423570985008687907853269984665640564039457584007913129639936 * f 4 + 2135987035920910082395021706169552114602704522356652769947041607822219725780640550022962086936576 * f 5 + 39402006196394479212279040100143613805079739270465446667948293404245721771497210611414266254884915640806627990306816 * f 6 + 726838724295606890549323807888004534353641360687318060281490199180639288113397923326191050713763565560762521606266177933534601628614656 * f 7
def pw (k : Nat) : Int := 18446744073709551616 ^ k
theorem pw_vals : pw 0 = 1 ∧ pw 1 = 18446744073709551616 ∧ pw 2 = 340282366920938463463374607431768211456 ∧ pw 3 = 6277101735386680763835789423207666416102355444464034512896 ∧ pw 4 = 115792089237316195423570985008687907853269984665640564039457584007913129639936 ∧ pw 5 = 2135987035920910082395021706169552114602704522356652769947041607822219725780640550022962086936576 ∧ pw 6 = 39402006196394479212279040100143613805079739270465446667948293404245721771497210611414266254884915640806627990306816 ∧ pw 7 = 726838724295606890549323807888004534353641360687318060281490199180639288113397923326191050713763565560762521606266177933534601628614656 := by
  decide +kernel
/-- What row i has given by its first j places; what the first i rows have. -/
def mG (A B i : Nat) : Nat → Int
  | 0 => 0
  | j + 1 => mG A B i j + wd A i * wd B j * pw (i + j)
def mH (A B : Nat) : Nat → Int
  | 0 => 0
  | i + 1 => mH A B i + mG A B i 4
structure MulO (A B i : Nat) (f : Nat → Int) : Prop where
  word : ∀ k, Word (f k)
  zero : ∀ k, i + 4 ≤ k → f k = 0
  sum : S8 f = mH A B i
structure MulI (A B i j : Nat) (f : Nat → Int) (c : Int) : Prop where
  car : Word c
  word : ∀ k, Word (f k)
  zero : ∀ k, i + 4 ≤ k → f k = 0
  sum : S8 f + c * pw (i + j) = mH A B i + mG A B i j
theorem mulO_zero (A B : Nat) : MulO A B 0 (fun _ => 0) := ⟨fun _ => word_zero, fun _ _ => rfl, by simp [S8, mH]⟩
theorem mulO_begin {A B i : Nat} {f : Nat → Int} (h : MulO A B i f) : MulI A B i 0 f 0 := ⟨word_zero, h.word, h.zero, by rw [h.sum]; simp [mG]⟩
theorem mulI_end {A B i : Nat} {f : Nat → Int} {c : Int} (hi : i < 4) (h : MulI A B i 4 f c) : MulO A B (i + 1) (updf f (i + 4) c) := by
  refine ⟨fun k => ?_, fun k hk => ?_, ?_⟩
  · unfold updf; split
    · exact h.car
    · exact h.word k
  · unfold updf; rw [if_neg (by omega)]; exact h.zero k (by omega)
  · have hz := h.zero (i + 4) (by omega)
    have hs := h.sum
    show _ = mH A B i + mG A B i 4
    rw [← hs]
    obtain ⟨p0, p1, p2, p3, p4, p5, p6, p7⟩ := pw_vals
    rcases (by omega : i = 0 ∨ i = 1 ∨ i = 2 ∨ i = 3) with rfl | rfl | rfl | rfl <;> simp only [S8, updf, Nat.reduceAdd, Nat.reduceEqDiff, if_true, if_false, p4, p5, p6, p7] at hz ⊢ <;> rw [hz] <;> omega
theorem mul_bound {x y : Int} (hx : Word x) (hy : Word y) : 0 ≤ x * y ∧ x * y ≤ 340282366920938463426481119284349108225 := by
  unfold Word at *
  refine ⟨Int.mul_nonneg hx.1 hy.1, ?_⟩
  have h1 : x * y ≤ 18446744073709551615 * y := Int.mul_le_mul_of_nonneg_right (by omega) hy.1
  omega
theorem u64_wrap (n : Int) : IntKind.u64.wrap n = n % 18446744073709551616 := IntKind.wrap_u64 n
/-- One place: the word that stays, and what is carried on. -/
theorem mul_step {x y u c : Int} (hx : Word x) (hy : Word y) (hu : Word u) (hc : Word c) :
    addLo (addLo (mulLo x y) u 0) c 0 + 18446744073709551616 * (IntKind.u64.wrap (IntKind.u64.wrap (mulHi x y + addHi (mulLo x y) u 0) + addHi (addLo (mulLo x y) u 0) c 0)) = x * y + u + c ∧
      Word (IntKind.u64.wrap (IntKind.u64.wrap (mulHi x y + addHi (mulLo x y) u 0) + addHi (addLo (mulLo x y) u 0) c 0)) := by
  have hb := mul_bound hx hy
  have e1 := mul_eq x y
  have w1 := word_mulLo x y
  have e2 := add_eq w1 hu bit_zero
  have w2 := word_addLo (mulLo x y) u 0
  have b2 := bit_addHi (mulLo x y) u 0
  have e3 := add_eq w2 hc bit_zero
  have w3 := word_addLo (addLo (mulLo x y) u 0) c 0
  have b3 := bit_addHi (addLo (mulLo x y) u 0) c 0
  rw [u64_wrap, u64_wrap]
  generalize addHi (addLo (mulLo x y) u 0) c 0 = q3 at *
  generalize addLo (addLo (mulLo x y) u 0) c 0 = r3 at *
  generalize addHi (mulLo x y) u 0 = q2 at *
  generalize addLo (mulLo x y) u 0 = r2 at *
  generalize mulLo x y = r1 at *
  generalize mulHi x y = q1 at *
  generalize x * y = p at *
  unfold Word Bit at *
  omega
theorem addLo_comm (x y c : Int) : addLo x y c = addLo y x c := by unfold addLo; rw [Int.add_comm x y]
theorem addHi_comm (x y c : Int) : addHi x y c = addHi y x c := by unfold addHi; rw [Int.add_comm x y]
/-- The same, as the reference has it. -/
theorem rmul_step {x y u c : Int} (hx : Word x) (hy : Word y) (hu : Word u) (hc : Word c) :
    addLo (addLo u (mulLo x y) 0) c 0 + 18446744073709551616 * (IntKind.u64.wrap (IntKind.u64.wrap (mulHi x y + addHi u (mulLo x y) 0) + addHi (addLo u (mulLo x y) 0) c 0)) = x * y + u + c ∧
      Word (IntKind.u64.wrap (IntKind.u64.wrap (mulHi x y + addHi u (mulLo x y) 0) + addHi (addLo u (mulLo x y) 0) c 0)) := by
  rw [addLo_comm u (mulLo x y), addHi_comm u (mulLo x y)]
  exact mul_step hx hy hu hc
theorem mulI_next {A B i j : Nat} {f : Nat → Int} {c w c' : Int} (hi : i < 4) (hj : j < 4) (h : MulI A B i j f c) (hw : Word w) (hc' : Word c') (he : w + 18446744073709551616 * c' = wd A i * wd B j + f (i + j) + c) :
    MulI A B i (j + 1) (updf f (i + j) w) c' := by
  refine ⟨hc', fun k => ?_, fun k hk => ?_, ?_⟩
  · unfold updf; split
    · exact hw
    · exact h.word k
  · unfold updf; rw [if_neg (by omega)]; exact h.zero k hk
  · have hs := h.sum
    show _ = mH A B i + (mG A B i j + wd A i * wd B j * pw (i + j))
    generalize wd A i * wd B j = p at *
    rw [← Int.add_assoc, ← hs]
    obtain ⟨p0, p1, p2, p3, p4, p5, p6, p7⟩ := pw_vals
    clear hs
    rcases (by omega : i = 0 ∨ i = 1 ∨ i = 2 ∨ i = 3) with rfl | rfl | rfl | rfl <;> rcases (by omega : j = 0 ∨ j = 1 ∨ j = 2 ∨ j = 3) with rfl | rfl | rfl | rfl <;>
      simp only [S8, updf, Nat.reduceAdd, Nat.reduceEqDiff, if_true, if_false, p0, p1, p2, p3, p4, p5, p6, p7] at he ⊢ <;> omega
theorem mul_four (x b0 b1 b2 b3 : Int) : x * (b0 + 18446744073709551616 * b1 + 340282366920938463463374607431768211456 * b2 + 6277101735386680763835789423207666416102355444464034512896 * b3) = x * b0 + 18446744073709551616 * (x * b1) + 340282366920938463463374607431768211456 * (x * b2) + 6277101735386680763835789423207666416102355444464034512896 * (x * b3) := by
  rw [Int.mul_add, Int.mul_add, Int.mul_add, Int.mul_left_comm x _ b1, Int.mul_left_comm x _ b2, Int.mul_left_comm x _ b3]
theorem mH_four {A B : Nat} (hA : A < M) (hB : B < M) : mH A B 4 = ((A * B : Nat) : Int) := by
  have ea := wd_sum A hA; have eb := wd_sum B hB
  obtain ⟨p0, p1, p2, p3, p4, p5, p6, p7⟩ := pw_vals
  have e : ((A * B : Nat) : Int) = (wd A 0 + 18446744073709551616 * wd A 1 + 340282366920938463463374607431768211456 * wd A 2 + 6277101735386680763835789423207666416102355444464034512896 * wd A 3) * (B : Int) := by
    rw [← ea, Int.natCast_mul]
  rw [e, Int.add_mul, Int.add_mul, Int.add_mul, Int.mul_assoc, Int.mul_assoc, Int.mul_assoc, eb]
  simp only [mul_four]
  simp only [mH, mG, Nat.reduceAdd, Nat.zero_add, Nat.add_zero, p0, p1, p2, p3, p4, p5, p6]
  omega
theorem mul_end {A B : Nat} {f : Nat → Int} (hA : A < M) (hB : B < M) (h : MulO A B 4 f) :
    Ending.returned (.tuple #[.agg #[.int .u64 (f 4), .int .u64 (f 5), .int .u64 (f 6), .int .u64 (f 7)], .agg #[.int .u64 (f 0), .int .u64 (f 1), .int .u64 (f 2), .int .u64 (f 3)]]) = .returned (.tuple #[U (A * B / M), U (A * B % M)]) := by
  have hs := h.sum
  rw [mH_four hA hB] at hs
  have w0 := h.word 0; have w1 := h.word 1; have w2 := h.word 2; have w3 := h.word 3; have w4 := h.word 4; have w5 := h.word 5; have w6 := h.word 6; have w7 := h.word 7
  have l1 := ofW_sum w0 w1 w2 w3
  have l2 := ofW_sum w4 w5 w6 w7
  have t1 := ofW_lt w0 w1 w2 w3
  have key : A * B = ofW (f 4) (f 5) (f 6) (f 7) * M + ofW (f 0) (f 1) (f 2) (f 3) := by
    unfold S8 at hs
    rw [M_eq] at *
    omega
  have e1 : A * B / M = ofW (f 4) (f 5) (f 6) (f 7) := by
    rw [key, Nat.mul_comm, Nat.mul_add_div M_pos, Nat.div_eq_of_lt t1, Nat.add_zero]
  have e2 : A * B % M = ofW (f 0) (f 1) (f 2) (f 3) := by
    rw [key, Nat.mul_comm, Nat.mul_add_mod, Nat.mod_eq_of_lt t1]
  rw [e1, e2, U_of_sum _ w4 w5 w6 w7 l2, U_of_sum _ w0 w1 w2 w3 l1]
theorem mulhi_lt {A B : Nat} (hA : A < M) (hB : B < M) : A * B / M < M := by
  rw [Nat.div_lt_iff_lt_mul M_pos]
  exact Nat.mul_lt_mul_of_lt_of_lt hA hB
theorem wrap_add_nat (x y : Nat) (h : x + y < 9223372036854775808) : IntKind.i64.wrap ((x : Int) + (y : Int)) = ((x + y : Nat) : Int) := by
  rw [IntWalk.i64_in _ (by omega)]; omega
end Go.Proofs.Ytlgjdejlnelndaa
