/-
  The bytes of a number of 256 bits, big-endian. No program in sight.
-/
import Derived.Test.YtlgjdejlnelndaaNum
import Derived.Laws.Bits64b
namespace Go.Proofs.Ytlgjdejlnelndaa
open Go

/-- Byte i of a number, the highest first. -/
def byt (A i : Nat) : Int := ((A / 256 ^ (31 - i) % 256 : Nat) : Int)
/-- The cells of a number's big-endian form: [32]uint8. -/
def hB (A : Nat) : Array Value := ((List.range 32).map fun i => Value.int .u8 (byt A i)).toArray
theorem hB_size (A : Nat) : (hB A).size = 32 := by simp [hB]
theorem hB_get (A i : Nat) (h : i < 32) : (hB A)[i]? = some (.int .u8 (byt A i)) := by simp [hB, h]
theorem hB_ext {A : Nat} {C : Array Value} (hC : C.size = 32) (h : ∀ j, j < 32 → C[j]? = some (.int .u8 (byt A j))) : C = hB A := by
  apply Array.ext_getElem?
  intro i
  by_cases hi : i < 32
  · rw [h i hi, hB_get A i hi]
  · rw [Array.getElem?_eq_none (by omega), Array.getElem?_eq_none (by rw [hB_size]; omega)]
theorem byt_nonneg (A i : Nat) : 0 ≤ byt A i := by unfold byt; omega
theorem byt_lt (A i : Nat) : byt A i < 256 := by unfold byt; omega
theorem hB_one (A : Nat) : (hB A).all (·.oneCell') = true := by
  simp [hB, Value.oneCell']

theorem wd_byte (A q s : Nat) (hs : s + 8 ≤ 64) : wd A q / 2 ^ s % 256 = ((A / 18446744073709551616 ^ q / 2 ^ s % 256 : Nat) : Int) := by
  unfold wd
  generalize A / 18446744073709551616 ^ q = x
  have h1 : (18446744073709551616 : Nat) = 2 ^ s * 2 ^ (64 - s) := by rw [← Nat.pow_add, show s + (64 - s) = 64 by omega]
  have h2 : x % 18446744073709551616 / 2 ^ s = x / 2 ^ s % 2 ^ (64 - s) := by rw [h1, Nat.mod_mul_right_div_self]
  have h3 : x / 2 ^ s % 2 ^ (64 - s) % 256 = x / 2 ^ s % 256 := Nat.mod_mod_of_dvd _ (by
    refine ⟨2 ^ (64 - s - 8), ?_⟩
    rw [show (256 : Nat) = 2 ^ 8 from rfl, ← Nat.pow_add, show 8 + (64 - s - 8) = 64 - s by omega])
  have e : ((x % 18446744073709551616 : Nat) : Int) / 2 ^ s % 256 = ((x % 18446744073709551616 / 2 ^ s % 256 : Nat) : Int) := by
    simp
  rw [e, h2, h3]
theorem pow_split (q r : Nat) (hr : r < 8) : 256 ^ (8 * q + 7 - r) = 18446744073709551616 ^ q * 2 ^ (56 - r * 8) := by
  rw [show (18446744073709551616 : Nat) = 2 ^ 64 from rfl, show (256 : Nat) = 2 ^ 8 from rfl, ← Nat.pow_mul, ← Nat.pow_mul, ← Nat.pow_add]
  congr 1; omega
/-- A byte out of a word. -/
theorem byt_wd (A q k : Nat) (hk : k < 32) (hq : k / 8 + q = 3) : wd A q / 2 ^ (56 - k % 8 * 8) % 256 = byt A k := by
  rw [wd_byte A q _ (by omega)]
  unfold byt
  have e : 31 - k = 8 * q + 7 - k % 8 := by omega
  rw [e, pow_split q (k % 8) (by omega), Nat.div_div_eq_div_mul]
theorem byt_wd' (A q k : Nat) (hk : k < 32) (hq : k / 8 + q = 3) : wd A q / 2 ^ (8 * ((31 - k) % 8)) % 256 = byt A k := by
  rw [← byt_wd A q k hk hq]; congr 3; omega

/-! ### bits -/
theorem or_add (a b s : Nat) (hb : b < 2 ^ s) : a * 2 ^ s ||| b = a * 2 ^ s + b := by
  rw [Nat.mul_comm]; exact (Nat.two_pow_add_eq_or_of_lt hb a).symm
theorem u64_or_add (a b : Int) (s : Nat) (ha : 0 ≤ a) (hb : 0 ≤ b) (hb2 : b < 2 ^ s) (hs : a * 2 ^ s + b < 18446744073709551616) : bits .or .u64 (a * 2 ^ s) b = a * 2 ^ s + b := by
  obtain ⟨a, rfl⟩ := Int.eq_ofNat_of_zero_le ha
  obtain ⟨b, rfl⟩ := Int.eq_ofNat_of_zero_le hb
  have e : (a : Int) * 2 ^ s = ((a * 2 ^ s : Nat) : Int) := by simp
  rw [e] at hs ⊢
  have hb3 : b < 2 ^ s := by
    have : ((b : Nat) : Int) < ((2 ^ s : Nat) : Int) := by simpa using hb2
    omega
  rw [bits_or_u64_nat _ _ (by omega) (by omega), or_add a b s hb3]
  simp
theorem u64_in' {a : Int} (h0 : 0 ≤ a) (h1 : a < 18446744073709551616) : IntKind.u64.wrap a = a := IntWalk.u64_in a ⟨h0, by omega⟩

/-! ### the words while bytes are read, from the highest on -/
/-- How many bits of word q are still to come behind k bytes. -/
def left (q k : Nat) : Nat := 64 - 8 * min 8 (k - 8 * (3 - q))
/-- Word q behind k bytes, shifted as it comes. -/
def pre (A q k : Nat) : Int := wd A q / 2 ^ left q k
/-- Word q behind k bytes, each byte at its place. -/
def top (A q k : Nat) : Int := wd A q / 2 ^ left q k * 2 ^ left q k
theorem left_zero (q k : Nat) (h : k ≤ 8 * (3 - q)) : left q k = 64 := by unfold left; omega
theorem left_full (q : Nat) (_h : q ≤ 3) : left q 32 = 0 := by unfold left; omega
theorem wd_div64 (A q : Nat) : wd A q / 2 ^ 64 = 0 := by have := wd_nonneg A q; have := wd_lt A q; omega
theorem pre_start (A q k : Nat) (h : k ≤ 8 * (3 - q)) : pre A q k = 0 := by unfold pre; rw [left_zero q k h]; exact wd_div64 A q
theorem top_start (A q k : Nat) (h : k ≤ 8 * (3 - q)) : top A q k = 0 := by unfold top; rw [left_zero q k h, wd_div64]; rfl
theorem pre_end (A q : Nat) (h : q ≤ 3) : pre A q 32 = wd A q := by unfold pre; rw [left_full q h]; simp
theorem top_end (A q : Nat) (h : q ≤ 3) : top A q 32 = wd A q := by unfold top; rw [left_full q h]; simp
theorem left_other (q k : Nat) (hq : q ≤ 3) (h : k / 8 + q ≠ 3) : left q (k + 1) = left q k := by unfold left; omega
theorem pre_other (A q k : Nat) (hq : q ≤ 3) (h : k / 8 + q ≠ 3) : pre A q (k + 1) = pre A q k := by unfold pre; rw [left_other q k hq h]
theorem top_other (A q k : Nat) (hq : q ≤ 3) (h : k / 8 + q ≠ 3) : top A q (k + 1) = top A q k := by unfold top; rw [left_other q k hq h]
theorem left_step (q k : Nat) (h : k / 8 + q = 3) : left q k = 64 - k % 8 * 8 ∧ left q (k + 1) = 56 - k % 8 * 8 := by unfold left; omega
theorem pow_step (r : Nat) (hr : r < 8) : (2 : Int) ^ (64 - r * 8) = 2 ^ (56 - r * 8) * 256 := by
  rw [show (256 : Int) = 2 ^ 8 from rfl, ← Int.pow_add]; congr 1; omega
theorem pre_sum (A q k : Nat) (hk : k < 32) (h : k / 8 + q = 3) : pre A q (k + 1) = pre A q k * 256 + byt A k := by
  obtain ⟨e1, e2⟩ := left_step q k h
  unfold pre; rw [e1, e2, pow_step _ (by omega), ← byt_wd A q k hk h, ← Int.ediv_ediv_of_nonneg (by exact Int.le_of_lt (Int.pow_pos (by decide)))]
  omega
theorem pre_bound (A q k : Nat) (h : k / 8 + q = 3) : 0 ≤ pre A q k ∧ pre A q k * 256 < 18446744073709551616 := by
  obtain ⟨e1, _⟩ := left_step q k h
  unfold pre; rw [e1]
  have h0 := wd_nonneg A q; have h1 := wd_lt A q
  have hp : (0 : Int) < 2 ^ (64 - k % 8 * 8) := Int.pow_pos (by decide)
  have hd : wd A q / 2 ^ (64 - k % 8 * 8) * 2 ^ (64 - k % 8 * 8) ≤ wd A q := Int.ediv_mul_le _ (by omega)
  have h256 : (256 : Int) ≤ 2 ^ (64 - k % 8 * 8) := by rw [pow_step _ (by omega)]; have : (0 : Int) < 2 ^ (56 - k % 8 * 8) := Int.pow_pos (by decide); omega
  have hn : 0 ≤ wd A q / 2 ^ (64 - k % 8 * 8) := Int.ediv_nonneg h0 (by omega)
  exact ⟨hn, by have := Int.mul_le_mul_of_nonneg_left h256 hn; omega⟩
/-- One more byte: the program's way. -/
theorem pre_step (A q k : Nat) (hk : k < 32) (h : k / 8 + q = 3) : bits .or .u64 (IntKind.u64.wrap (pre A q k * 256)) (IntKind.u64.wrap (byt A k)) = pre A q (k + 1) := by
  obtain ⟨b0, b1⟩ := pre_bound A q k h
  have c0 := byt_nonneg A k; have c1 := byt_lt A k
  rw [u64_in' (by omega) b1, u64_in' c0 (by omega), show (256 : Int) = 2 ^ 8 from rfl, u64_or_add _ _ 8 b0 c0 c1 (by omega), pre_sum A q k hk h]; rfl
/-- One more byte: the reference's way. -/
theorem top_step (A q k : Nat) (hk : k < 32) (h : k / 8 + q = 3) : bits .or .u64 (top A q k) (byt A k * 2 ^ (56 - k % 8 * 8)) = top A q (k + 1) := by
  obtain ⟨e1, e2⟩ := left_step q k h
  obtain ⟨b0, b1⟩ := pre_bound A q k h
  have c0 := byt_nonneg A k; have c1 := byt_lt A k
  have hs := pre_sum A q k hk h
  have hp : (0 : Int) < 2 ^ (56 - k % 8 * 8) := Int.pow_pos (by decide)
  unfold top
  change bits .or .u64 (pre A q k * 2 ^ left q k) _ = pre A q (k + 1) * 2 ^ left q (k + 1)
  rw [hs, e1, e2, pow_step _ (by omega)]
  have hd : pre A q (k + 1) * 2 ^ (56 - k % 8 * 8) ≤ wd A q := by
    unfold pre; rw [e2]; exact Int.ediv_mul_le _ (by omega)
  have hw := wd_lt A q
  rw [hs] at hd
  have e3 : pre A q k * (2 ^ (56 - k % 8 * 8) * 256) = pre A q k * 2 ^ (8 + (56 - k % 8 * 8)) := by rw [Int.pow_add]; congr 1; rw [Int.mul_comm]; rfl
  have e4 : (pre A q k * 256 + byt A k) * 2 ^ (56 - k % 8 * 8) = pre A q k * (2 ^ (56 - k % 8 * 8) * 256) + byt A k * 2 ^ (56 - k % 8 * 8) := by
    rw [Int.add_mul, Int.mul_assoc, Int.mul_comm 256]
  have hb : byt A k * 2 ^ (56 - k % 8 * 8) < 2 ^ (8 + (56 - k % 8 * 8)) := by
    rw [Int.pow_add]; exact Int.mul_lt_mul_of_pos_right c1 hp
  rw [e4] at hd ⊢
  rw [e3] at hd ⊢
  exact u64_or_add _ _ _ b0 (Int.mul_nonneg c0 (by omega)) hb (by omega)
theorem top_byte_in (A k : Nat) : IntKind.u64.wrap (byt A k * 2 ^ (56 - k % 8 * 8)) = byt A k * 2 ^ (56 - k % 8 * 8) := by
  have c0 := byt_nonneg A k; have c1 := byt_lt A k
  have hp : (0 : Int) < 2 ^ (56 - k % 8 * 8) := Int.pow_pos (by decide)
  have h1 : byt A k * 2 ^ (56 - k % 8 * 8) < 256 * 2 ^ (56 - k % 8 * 8) := Int.mul_lt_mul_of_pos_right c1 hp
  have h2 : (256 : Int) * 2 ^ (56 - k % 8 * 8) ≤ 18446744073709551616 := by
    have : (2 : Int) ^ (56 - k % 8 * 8) ≤ 2 ^ 56 := by
      have := Nat.pow_le_pow_right (n := 2) (by decide) (show 56 - k % 8 * 8 ≤ 56 by omega)
      have : ((2 ^ (56 - k % 8 * 8) : Nat) : Int) ≤ ((2 ^ 56 : Nat) : Int) := by exact_mod_cast this
      simpa using this
    omega
  exact u64_in' (Int.mul_nonneg c0 (by omega)) (by omega)
end Go.Proofs.Ytlgjdejlnelndaa
