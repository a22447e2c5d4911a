/-
  math/bits at this dump: sums with carries, differences with borrows, products, lengths of words.
-/
import Derived.Test.YtlgjdejlnelndaaNum
import Derived.Test.YtlgjdejlnelndaaChecked
import Derived.WalkKit
import Derived.WalkSpells
import Derived.WalkLawsBesides
import Derived.Handy
import Derived.Shelf.Spec.BitsCarry
import Derived.Lib.Mul64
import Derived.Lib.BitFns
import Derived.Lib.Hide
import Derived.Deep.QuietTactic
import Derived.BigQuiet
import Derived.BigRegion
import Derived.Outline
namespace Go.Proofs.Ytlgjdejlnelndaa
open Go Go.RowKit

/-- What a carry is. -/
def Bit (c : Int) : Prop := 0 ≤ c ∧ c ≤ 1
theorem bit_zero : Bit 0 := by unfold Bit; omega
theorem bit_one : Bit 1 := by unfold Bit; omega
theorem word_zero : Word 0 := by unfold Word; omega

/-- The sum with a carry, its lower word and its carry. -/
def addLo (x y c : Int) : Int := (x + y + c) % 18446744073709551616
def addHi (x y c : Int) : Int := if x + y + c < 18446744073709551616 then 0 else 1
theorem word_addLo (x y c : Int) : Word (addLo x y c) := by unfold Word addLo; omega
theorem bit_addHi (x y c : Int) : Bit (addHi x y c) := by unfold Bit addHi; split <;> omega
theorem word_of_bit {c : Int} (h : Bit c) : Word c := by unfold Word Bit at *; omega
theorem add_eq {x y c : Int} (hx : Word x) (hy : Word y) (hc : Bit c) : addLo x y c + 18446744073709551616 * addHi x y c = x + y + c := by
  unfold Word Bit addLo addHi at *; split <;> omega

/-- The difference with a borrow. -/
def subLo (x y c : Int) : Int := (x - y - c) % 18446744073709551616
def subHi (x y c : Int) : Int := if x < y + c then 1 else 0
theorem word_subLo (x y c : Int) : Word (subLo x y c) := by unfold Word subLo; omega
theorem bit_subHi (x y c : Int) : Bit (subHi x y c) := by unfold Bit subHi; split <;> omega
theorem sub_eq {x y c : Int} (hx : Word x) (hy : Word y) (hc : Bit c) : subLo x y c - 18446744073709551616 * subHi x y c = x - y - c := by
  unfold Word Bit subLo subHi at *; split <;> omega

/-- The product of two words. -/
def mulLo (x y : Int) : Int := (x * y) % 18446744073709551616
def mulHi (x y : Int) : Int := (x * y) / 18446744073709551616
theorem word_mulLo (x y : Int) : Word (mulLo x y) := by unfold Word mulLo; omega
theorem mul_eq (x y : Int) : mulLo x y + 18446744073709551616 * mulHi x y = x * y := by unfold mulLo mulHi; omega

theorem add64 (x y c : Int) (hx : Word x) (hy : Word y) (hc : Bit c) (w : World) : (callFunc 55 #[.int .u64 x, .int .u64 y, .int .u64 c]).run Try.prog w = .ok (.value (.tuple #[.int .u64 (addLo x y c), .int .u64 (addHi x y c)])) w := by
  unfold Word Bit at *
  rw [run_callFunc_extern Try.func55 (by kernel_rfl) (by kernel_rfl) (by kernel_rfl) (e := add64Entry) (by kernel_rfl), run_add64 x y c (by omega) (by omega) (by omega) (by omega)]
  simp only [Result.andThen]
  have e1 : (x + y + c) / 18446744073709551616 = addHi x y c := by unfold addHi; split <;> omega
  rw [e1]; rfl
theorem sub64 (x y b : Int) (hx : Word x) (hy : Word y) (hb : Bit b) (w : World) : (callFunc 51 #[.int .u64 x, .int .u64 y, .int .u64 b]).run Try.prog w = .ok (.value (.tuple #[.int .u64 (subLo x y b), .int .u64 (subHi x y b)])) w := by
  unfold Word Bit at *
  obtain ⟨x, rfl⟩ := Int.eq_ofNat_of_zero_le hx.1
  obtain ⟨y, rfl⟩ := Int.eq_ofNat_of_zero_le hy.1
  obtain ⟨b, rfl⟩ := Int.eq_ofNat_of_zero_le hb.1
  have e1 : (((x + 18446744073709551616 - y - b) % 18446744073709551616 : Nat) : Int) = subLo x y b := by unfold subLo; omega
  have e2 : ((if x < y + b then 1 else 0 : Nat) : Int) = subHi x y b := by unfold subHi; split <;> split <;> omega
  rw [run_callFunc_extern Try.func51 (by kernel_rfl) (by kernel_rfl) (by kernel_rfl) (e := sub64Entry) (by kernel_rfl), run_sub64 x y b (by omega), e1, e2]
  rfl
end Go.Proofs.Ytlgjdejlnelndaa
