/-
  Small numbers, doubling, long division: the walks.
-/
import Derived.Test.YtlgjdejlnelndaaAdd
import Derived.Test.YtlgjdejlnelndaaDivNum
import Derived.Test.YtlgjdejlnelndaaEq
namespace Go.Proofs.Ytlgjdejlnelndaa
open Go Go.RowKit

theorem U_small (n : Nat) (hn : n < 18446744073709551616) : Value.agg #[.int .u64 n, .int .u64 0, .int .u64 0, .int .u64 0] = U n :=
  U_of_sum n ⟨by omega, by omega⟩ word_zero word_zero word_zero (by omega)
set_option maxHeartbeats 1000000 in
theorem fromuint_any (n : Int) (w : World) (hn : Word n) :
    Calls Try.prog 20 #[.int .u64 n] w fun e w' => e = .returned (U n.toNat) ∧ Below w.heap.size w w' := by
  obtain ⟨n, rfl⟩ := Int.eq_ofNat_of_zero_le hn.1
  have h2 := hn.2
  go_enter Try.func20, Try.ntmps20
  go_wp2
  go_returns
  refine ⟨ret_U (U_small n (by omega)), ?_⟩
  (repeat' (first | (with_reducible exact Below.refl _ _) | (with_reducible assumption) | (with_reducible refine below_drewN ?_ _) | (with_reducible refine Below.drew ?_) | (with_reducible refine Below.setCell ?_ ?_ _) | (with_reducible refine Below.alloc ?_ ?_ _) | (with_reducible exact Nat.le_refl _) | omega | (simp; omega) | (simp; done)))

theorem dbl_word {x c : Int} (_hx : Word x) (hc : Bit c) : bits .or .u64 (IntKind.u64.wrap (x * 2)) c = (x * 2) % 18446744073709551616 + c := by
  unfold Word Bit at *
  rw [IntKind.wrap_u64]
  have e : x * 2 % 18446744073709551616 = (x % 9223372036854775808) * 2 ^ 1 := by omega
  have h := u64_or_add (x % 9223372036854775808) c 1 (by omega) hc.1 (by omega) (by omega)
  rw [← e] at h
  exact h
theorem dbl_bit {x : Int} (hx : Word x) : Bit (x / 9223372036854775808) := by unfold Word Bit at *; omega
theorem dbl_words (A : Nat) (c : Int) (hA : A < M) (hc : Bit c) :
    Value.agg #[.int .u64 (bits .or .u64 (IntKind.u64.wrap (wd A 0 * 2)) c), .int .u64 (bits .or .u64 (IntKind.u64.wrap (wd A 1 * 2)) (wd A 0 / 9223372036854775808)), .int .u64 (bits .or .u64 (IntKind.u64.wrap (wd A 2 * 2)) (wd A 1 / 9223372036854775808)), .int .u64 (bits .or .u64 (IntKind.u64.wrap (wd A 3 * 2)) (wd A 2 / 9223372036854775808))] = U ((2 * A + c.toNat) % M) ∧ wd A 3 / 9223372036854775808 = (((2 * A + c.toNat) / M : Nat) : Int) := by
  have w0 := wd_word A 0; have w1 := wd_word A 1; have w2 := wd_word A 2; have w3 := wd_word A 3
  have ea := wd_sum A hA
  rw [dbl_word w0 hc, dbl_word w1 (dbl_bit w0), dbl_word w2 (dbl_bit w1), dbl_word w3 (dbl_bit w2)]
  generalize wd A 0 = a0 at *; generalize wd A 1 = a1 at *; generalize wd A 2 = a2 at *; generalize wd A 3 = a3 at *
  unfold Word Bit at *
  refine ⟨U_of_sum _ ?_ ?_ ?_ ?_ ?_, ?_⟩
  · unfold Word; omega
  · unfold Word; omega
  · unfold Word; omega
  · unfold Word; omega
  · rw [M_eq] at *; omega
  · rw [M_eq] at *; omega
theorem ret_Ui {a b : Value} {c d : Int} (h : a = b) (h' : c = d) : Ending.returned (.tuple #[a, .int .u64 c]) = .returned (.tuple #[b, .int .u64 d]) := by rw [h, h']
set_option maxHeartbeats 1000000 in
theorem double_any (A : Nat) (c : Int) (w : World) (hA : A < M) (hc : Bit c) :
    Calls Try.prog 52 #[U A, .int .u64 c] w fun e w' => e = .returned (.tuple #[U ((2 * A + c.toNat) % M), .int .u64 (((2 * A + c.toNat) / M : Nat) : Int)]) ∧ Below w.heap.size w w' := by
  have H := Lib.hid hc
  clear hc
  go_enter Try.func52, Try.ntmps52
  go_wp2
  refine wp_loop_rounds 5 ?_
  repeat (rw [rounds_succ]; go_wp2; try (go_region; go_wp2))
  go_returns
  obtain ⟨g1, g2⟩ := dbl_words A c hA H.out
  refine ⟨ret_Ui g1 g2, ?_⟩
  (repeat' (first | (with_reducible exact Below.refl _ _) | (with_reducible assumption) | (with_reducible refine below_drewN ?_ _) | (with_reducible refine Below.drew ?_) | (with_reducible refine Below.setCell ?_ ?_ _) | (with_reducible refine Below.alloc ?_ ?_ _) | (with_reducible exact Nat.le_refl _) | omega | (simp; omega) | (simp; done)))
end Go.Proofs.Ytlgjdejlnelndaa
