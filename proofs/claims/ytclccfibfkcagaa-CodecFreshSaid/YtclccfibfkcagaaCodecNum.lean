/-
  Little-endian numbers, sizes, as lists of bytes: what the codec computes, in plain words.
-/
import Derived.Test.YtclccfibfkcagaaUint
namespace Go.Proofs.Ytclccfibfkcagaa
open Go

/-- The lowest w bytes of n, the lowest first. -/
def leB (n : Nat) : Nat → List UInt8
  | 0 => []
  | w + 1 => leB n w ++ [ob ((n / 256 ^ w % 256 : Nat) : Int)]
theorem leB_length (n w : Nat) : (leB n w).length = w := by
  induction w with
  | zero => rfl
  | succ w ih => simp [leB, ih]
/-- A row that is filled byte by byte. -/
def fillC (n w i : Nat) : Array Value := (bs (leB n i ++ List.replicate (w - i) 0)).toArray
theorem fill_size {n w i : Nat} (h : i ≤ w) : (fillC n w i).size = w := by
  simp [fillC, bs, leB_length]
  omega
theorem fill_zero (n w : Nat) : fillC n w 0 = zB w := by simp [fillC, zB, leB]
theorem fill_set {n w i : Nat} (h : i < w) : (fillC n w i).setIfInBounds i (.int .u8 ((n / 256 ^ i % 256 : Nat) : Int)) = fillC n w (i + 1) := by
  have hb : bv (ob ((n / 256 ^ i % 256 : Nat) : Int)) = .int .u8 ((n / 256 ^ i % 256 : Nat) : Int) := bv_ob ⟨by omega, by omega⟩
  apply Array.ext'
  unfold fillC
  simp only [Array.toList_setIfInBounds]
  obtain ⟨m, hm⟩ : ∃ m, w - i = m + 1 := ⟨w - i - 1, by omega⟩
  rw [hm, show w - (i + 1) = m by omega, ← hb]
  rw [bs_app, leB, bs_app, bs_app]
  have hl : (bs (leB n i)).length = i := by rw [bs_length, leB_length]
  rw [List.set_append_right _ _ (by omega), hl, Nat.sub_self]
  simp [bs, List.replicate_succ]
theorem fill_hd {n w : Nat} : Hd (fillC n w w) (leB n w) := by
  unfold fillC
  rw [Nat.sub_self]
  simp only [List.replicate_zero, List.append_nil]
  exact Hd.all _
/-- The number of w bytes from a on, the lowest first. -/
def leN (xs : List UInt8) (a : Nat) : Nat → Nat
  | 0 => 0
  | i + 1 => leN xs a i + gB xs (a + i) * 256 ^ i
theorem leN_lt (xs : List UInt8) (a w : Nat) : leN xs a w < 256 ^ w := by
  induction w with
  | zero => simp [leN]
  | succ w ih =>
    have := gB_lt xs (a + w)
    rw [leN, Nat.pow_succ]
    have h1 : gB xs (a + w) * 256 ^ w ≤ 255 * 256 ^ w := Nat.mul_le_mul_right _ (by omega)
    omega
theorem leN_first (xs : List UInt8) (a w : Nat) : leN xs a (w + 1) = 256 * leN xs (a + 1) w + gB xs a := by
  induction w with
  | zero => simp [leN]
  | succ w ih =>
    rw [leN, ih, leN, Nat.pow_succ, show a + (w + 1) = a + 1 + w by omega, Nat.mul_add]
    have : gB xs (a + 1 + w) * (256 ^ w * 256) = 256 * (gB xs (a + 1 + w) * 256 ^ w) := by rw [Nat.mul_comm (256 ^ w) 256, ← Nat.mul_assoc, Nat.mul_comm (gB xs (a + 1 + w)) 256, Nat.mul_assoc]
    omega
theorem leN_or (xs : List UInt8) (a i : Nat) : leN xs a i ||| gB xs (a + i) * 256 ^ i = leN xs a (i + 1) := by
  have h := leN_lt xs a i
  rw [show (256 : Nat) = 2 ^ 8 from rfl, ← Nat.pow_mul] at h
  rw [leN, show (256 : Nat) = 2 ^ 8 from rfl, ← Nat.pow_mul, Nat.or_comm, Nat.mul_comm, ← Nat.two_pow_add_eq_or_of_lt h]
  omega
theorem or_first (v x : Nat) (h : x < 256) : v * 256 ||| x = v * 256 + x := by
  rw [Nat.mul_comm, show (256 : Nat) = 2 ^ 8 from rfl, ← Nat.two_pow_add_eq_or_of_lt h]
/-- The error of a read of w bytes at a place. -/
def rdE (n : Nat) (a : Int) (w : Nat) : Int := if a < 0 ∨ (n : Int) < a then 5 else if (n : Int) - a < (w : Int) then 1 else 0
def rdN (n : Nat) (a : Int) (w : Nat) : Int := if rdE n a w = 0 then a + w else 0
def rdV (xs : List UInt8) (a : Int) (w : Nat) : Nat := if rdE xs.length a w = 0 then leN xs a.toNat w else 0
theorem rdE_ok {n : Nat} {a : Int} {w : Nat} (h : (rdE n a w != 0) = false) : rdE n a w = 0 ∧ 0 ≤ a ∧ a + w ≤ n := by
  have h0 : rdE n a w = 0 := by simpa using h
  refine ⟨h0, ?_⟩
  unfold rdE at h0
  split at h0
  · exact absurd h0 (by decide)
  · split at h0
    · exact absurd h0 (by decide)
    · omega
theorem rdE_err {n : Nat} {a : Int} {w : Nat} (h : (rdE n a w != 0) = true) : rdE n a w ≠ 0 := by simpa using h
theorem rdV_err {xs : List UInt8} {a : Int} {w : Nat} (h : (rdE xs.length a w != 0) = true) : rdV xs a w = 0 := if_neg (rdE_err h)
theorem rdN_err {n : Nat} {a : Int} {w : Nat} (h : (rdE n a w != 0) = true) : rdN n a w = 0 := if_neg (rdE_err h)
theorem rdV_ok {xs : List UInt8} {a : Int} {w : Nat} (h : (rdE xs.length a w != 0) = false) : rdV xs a w = leN xs a.toNat w := if_pos (rdE_ok h).1
theorem rdN_ok {n : Nat} {a : Int} {w : Nat} (h : (rdE n a w != 0) = false) : rdN n a w = a + w := if_pos (rdE_ok h).1
theorem rdV_lt (xs : List UInt8) (a : Int) (w : Nat) : rdV xs a w < 256 ^ w := by
  unfold rdV
  split
  · exact leN_lt _ _ _
  · exact Nat.pow_pos (by decide)
theorem rdE5 {n : Nat} {a : Int} {w : Nat} (h : a < 0 ∨ (n : Int) < a) : rdE n a w = 5 := if_pos h
theorem rdE1 {n : Nat} {a : Int} {w : Nat} (h : ¬ (a < 0 ∨ (n : Int) < a)) (h1 : (n : Int) - a < (w : Int)) : rdE n a w = 1 := by rw [rdE, if_neg h, if_pos h1]
theorem rdE0 {n : Nat} {a : Int} {w : Nat} (h : ¬ (a < 0 ∨ (n : Int) < a)) (h1 : ¬ (n : Int) - a < (w : Int)) : rdE n a w = 0 := by rw [rdE, if_neg h, if_neg h1]
/-- The bytes of a size. -/
def szB (n : Nat) : List UInt8 :=
  if n < 253 then [ob (n : Int)] else if n < 65536 then 253 :: leB n 2 else if n < 4294967296 then 254 :: leB n 4 else 255 :: leB n 8
/-- What is read of a size. -/
def szLeast (m : Nat) : Nat := if m = 253 then 253 else if m = 254 then 65536 else 4294967296
def szR (xs : List UInt8) (a : Int) (most : Nat) : Nat × Int × Int :=
  if rdE xs.length a 1 ≠ 0 then (0, 0, rdE xs.length a 1) else
  if rdV xs a 1 < 253 then (if most < rdV xs a 1 then (0, 0, 4) else (rdV xs a 1, rdN xs.length a 1, 0)) else
  if rdE xs.length (rdN xs.length a 1) (2 ^ (rdV xs a 1 - 252)) ≠ 0 then (0, 0, rdE xs.length (rdN xs.length a 1) (2 ^ (rdV xs a 1 - 252))) else
  if rdV xs (rdN xs.length a 1) (2 ^ (rdV xs a 1 - 252)) < szLeast (rdV xs a 1) then (0, 0, 3) else
  if most < rdV xs (rdN xs.length a 1) (2 ^ (rdV xs a 1 - 252)) then (0, 0, 4) else
  (rdV xs (rdN xs.length a 1) (2 ^ (rdV xs a 1 - 252)), rdN xs.length (rdN xs.length a 1) (2 ^ (rdV xs a 1 - 252)), 0)
def szV (xs : List UInt8) (a : Int) (most : Nat) : Nat := (szR xs a most).1
def szN (xs : List UInt8) (a : Int) (most : Nat) : Int := (szR xs a most).2.1
def szE (xs : List UInt8) (a : Int) (most : Nat) : Int := (szR xs a most).2.2
def szT (xs : List UInt8) (a : Int) (most : Nat) : Value := .tuple #[.int .u64 ((szV xs a most : Nat) : Int), .int .i64 (szN xs a most), .int .i64 (szE xs a most)]
theorem szT_of {xs : List UInt8} {a : Int} {most : Nat} {v : Nat} {n e : Int} (h : szR xs a most = (v, n, e)) : .tuple #[.int .u64 (v : Int), .int .i64 n, .int .i64 e] = szT xs a most := by
  unfold szT szV szN szE
  rw [h]
theorem szV_lt (xs : List UInt8) (a : Int) (most : Nat) : szV xs a most < 18446744073709551616 := by
  unfold szV szR
  have key : ∀ b w, w ≤ 8 → rdV xs b w < 18446744073709551616 := fun b w hw => Nat.lt_of_lt_of_le (rdV_lt xs b w) (by
    rw [show (18446744073709551616 : Nat) = 256 ^ 8 from rfl]; exact Nat.pow_le_pow_right (by decide) hw)
  have hm : rdV xs a 1 < 256 := rdV_lt xs a 1
  have hw : ∀ m, 253 ≤ m → m < 256 → 2 ^ (m - 252) ≤ 8 := by
    intro m h1 h2
    have : m - 252 ≤ 3 := by omega
    exact Nat.pow_le_pow_right (n := 2) (by decide) this
  split
  · exact Nat.zero_lt_succ _
  · split
    · split
      · exact Nat.zero_lt_succ _
      · exact key _ _ (by decide)
    · have := hw (rdV xs a 1) (by omega) hm
      split
      · exact Nat.zero_lt_succ _
      · split
        · exact Nat.zero_lt_succ _
        · split
          · exact Nat.zero_lt_succ _
          · exact key _ _ this
end Go.Proofs.Ytclccfibfkcagaa
