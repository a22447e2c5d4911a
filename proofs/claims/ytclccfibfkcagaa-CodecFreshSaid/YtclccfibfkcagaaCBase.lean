/-
  The codec's types, and what the walks ask of numbers.
-/
import Derived.Test.YtclccfibfkcagaaCodecNum
import Derived.Test.YtclccfibfkcagaaChecked
namespace Go.Proofs.Ytclccfibfkcagaa
open Go Go.RowKit

theorem u8i : u8like Try.prog 5 := u8like_of (by kernel_rfl)
theorem wrap_addN (x y : Nat) (h : x + y < 9223372036854775808) : IntKind.i64.wrap ((x : Int) + (y : Int)) = ((x + y : Nat) : Int) := by
  rw [IntWalk.i64_in _ (by omega)]; omega
theorem wrap_mulN (x y : Nat) (h : x * y < 9223372036854775808) : IntKind.i64.wrap ((x : Int) * (y : Int)) = ((x * y : Nat) : Int) := by
  rw [← Int.natCast_mul]
  generalize x * y = z at h ⊢
  exact IntWalk.i64_in _ (by omega)
theorem low_byte (n i : Nat) : IntKind.u8.wrap ((n / 2 ^ (8 * i) : Nat) : Int) = ((n / 256 ^ i % 256 : Nat) : Int) := by
  rw [wrapU rfl, show (256 : Nat) ^ i = 2 ^ (8 * i) by rw [show (256 : Nat) = 2 ^ 8 from rfl, ← Nat.pow_mul]]
  rfl
theorem fill_end {n m i : Nat} (h : i = m) : leB n i ++ List.replicate (m - i) 0 = leB n m := by
  subst h; simp
theorem fill_len {n m i : Nat} (h : i ≤ m) : (leB n i ++ List.replicate (m - i) 0).length = m := by
  rw [List.length_append, leB_length, List.length_replicate]; omega
theorem gB_in {k : IntKind} (hk : k.signed = false) (h8 : 8 ≤ k.bits) (xs : List UInt8) (i : Nat) : k.wrap ((gB xs i : Nat) : Int) = ((gB xs i : Nat) : Int) :=
  wrapU_in hk (Nat.lt_of_lt_of_le (gB_lt xs i) (Nat.pow_le_pow_right (n := 2) (by decide) h8))
theorem pow256 (i : Nat) : (256 : Nat) ^ i = 2 ^ (8 * i) := by rw [show (256 : Nat) = 2 ^ 8 from rfl, ← Nat.pow_mul]
theorem shl_in {k : IntKind} {x i : Nat} (hx : x < 256) (hi : 8 * (i + 1) ≤ k.bits) : x * 2 ^ (8 * i) < 2 ^ k.bits := by
  have h1 : x * 2 ^ (8 * i) < 256 * 2 ^ (8 * i) := Nat.mul_lt_mul_of_pos_right hx (Nat.pow_pos (by decide))
  have h2 : 256 * 2 ^ (8 * i) ≤ 2 ^ k.bits := by
    rw [show (256 : Nat) = 2 ^ 8 from rfl, ← Nat.pow_add]
    exact Nat.pow_le_pow_right (by decide) (by omega)
  omega
theorem run_shl8 {P : Program} {t : TypeId} {k yk : IntKind} (hk : k.signed = false) (xs : List UInt8) (j i : Nat) (hi : 8 * (i + 1) ≤ k.bits) (w : World) : (binOp .shl t (.int k ((gB xs j : Nat) : Int)) (.int yk ((8 * i : Nat) : Int))).run P w = .ok (.int k ((gB xs j * 256 ^ i : Nat) : Int)) w := by
  rw [pow256]
  exact run_shlU hk (shl_in (gB_lt xs j) hi) (fun _ => by omega) w
theorem or_leN {k : IntKind} (hk : k.signed = false) (xs : List UInt8) (a i : Nat) (hi : 8 * (i + 1) ≤ k.bits) : bits .or k ((leN xs a i : Nat) : Int) ((gB xs (a + i) * 256 ^ i : Nat) : Int) = ((leN xs a (i + 1) : Nat) : Int) := by
  have h1 := leN_lt xs a i
  rw [pow256] at h1
  have h2 := shl_in (k := k) (gB_lt xs (a + i)) hi
  rw [bits_orU hk (Nat.lt_of_lt_of_le h1 (Nat.pow_le_pow_right (by decide) (by omega))) (by rw [pow256]; exact h2), leN_or]
end Go.Proofs.Ytclccfibfkcagaa
