/-
  What the laws of the targets ask of plain numbers.
-/
import Derived.Test.YtkiijahkmgmnnaaTargetNum2
namespace Go.Proofs.Ytkiijahkmgmnnaa
open Go Go.RowKit

theorem nat_of_u32 {x : Int} (h : (Lit.int .u32 x).wf = true) : ∃ n : Nat, x = (n : Int) ∧ n < 4294967296 := by
  simp [Lit.wf, IntKind.min, IntKind.max, IntKind.signed, IntKind.bits] at h
  exact ⟨x.toNat, by omega, by omega⟩
theorem expE_no (b : Nat) : (expE b != 0) = !expB b := by unfold expE; cases expB b <;> rfl
theorem expE_120 (b : Nat) : (expE b == 120) = !expB b := by unfold expE; cases expB b <;> rfl
theorem sane_e1 : expB 17970262 = true := by decide +kernel
theorem sane_e2 : expB 16790614 = false := by decide +kernel
theorem sane_v1 : expV 17970262 = 18 := by decide +kernel
theorem sane_c : (((compN 128 : Nat) : Int) == 33587200) = true := by decide +kernel
theorem sane_w : workN 1 = 57896044618658097711785492504343953926634992332820282019728792003956564819968 := by decide +kernel
theorem compN_lt {t : Nat} (h : t < M) : compN t < 4294967296 := by
  unfold compN
  split
  · decide
  · rename_i h0
    have h1 := compM_lt h0
    have h2 := compX_lt h
    omega
end Go.Proofs.Ytkiijahkmgmnnaa
