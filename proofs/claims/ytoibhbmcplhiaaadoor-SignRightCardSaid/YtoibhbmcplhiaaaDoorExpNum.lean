/-
  Powers modulo a number: the plain arithmetic.
-/
import Derived.Test.YtoibhbmcplhiaaaDoorModNum
import Derived.Test.YtoibhbmcplhiaaaDoorShiftNum
import Derived.Test.YtoibhbmcplhiaaaDoorLen
import Derived.Test.YtoibhbmcplhiaaaDoorRLen
namespace Go.Proofs.YtoibhbmcplhiaaaDoor
open Go Go.RowKit

theorem div_lenN (e : Nat) : e / 2 ^ lenN e = 0 := by
  apply Nat.div_eq_of_lt
  unfold lenN
  split
  · rename_i h; rw [h]; exact Nat.pow_pos (by decide)
  · exact Nat.lt_log2_self
theorem exp_step {a p m x : Nat} (hp : p = a ^ x % m) (hm : 0 < m) : mulmN p p m = a ^ (2 * x) % m := by
  unfold mulmN
  rw [if_neg (by omega), hp, ← Nat.mul_mod, Nat.two_mul, Nat.pow_add]
theorem exp_step1 {a p m x : Nat} (hp : p = a ^ x % m) (hm : 0 < m) : mulmN (mulmN p p m) a m = a ^ (2 * x + 1) % m := by
  rw [exp_step hp hm]
  unfold mulmN
  rw [if_neg (by omega), Nat.mod_mul_mod, Nat.pow_succ]
theorem half_even {e k : Nat} (h0 : 0 < k) (h : bitN e (k - 1) = false) : 2 * (e / 2 ^ k) = e / 2 ^ (k - 1) := by
  unfold bitN at h
  have h := of_decide_eq_false h
  have e1 : 2 ^ k = 2 ^ (k - 1) * 2 := by rw [← Nat.pow_succ]; congr 1; omega
  rw [e1, ← Nat.div_div_eq_div_mul]
  omega
theorem half_odd {e k : Nat} (h0 : 0 < k) (h : bitN e (k - 1) = true) : 2 * (e / 2 ^ k) + 1 = e / 2 ^ (k - 1) := by
  unfold bitN at h
  have h := of_decide_eq_true h
  have e1 : 2 ^ k = 2 ^ (k - 1) * 2 := by rw [← Nat.pow_succ]; congr 1; omega
  rw [e1, ← Nat.div_div_eq_div_mul]
  omega
theorem exp_start {a e m : Nat} (h : decide (m = 0) = false) : redN 1 m = a ^ (e / 2 ^ lenN e) % m := by
  rw [(redN_pos h).1, div_lenN, Nat.pow_zero]
theorem exp_lt {a x m p : Nat} (hm : m < M) (h : decide (m = 0) = false) (hp : p = a ^ x % m) : p < M := by
  rw [hp]; exact Nat.lt_trans (Nat.mod_lt _ (redN_pos (a := 0) h).2.1) hm
theorem exp_end {a e m p k : Nat} (h : decide (m = 0) = false) (hk : k = 0) (hp : p = a ^ (e / 2 ^ k) % m) : p = expmN a e m := by
  unfold expmN
  rw [if_neg (of_decide_eq_false h), hp, hk, Nat.pow_zero, Nat.div_one]
theorem run_quo_x {P : Program} {t : TypeId} (x : Int) (n d q : Nat) (hx : x = (n : Int)) (hd : 0 < d) (hn : n < 9223372036854775808) (hq : n / d = q) (w : World) : (binOp .quo t (.int .i64 x) (.int .i64 (d : Int))).run P w = .ok (.int .i64 (q : Int)) w := by
  subst hx; exact run_quo_nat n d q hd hn hq w
theorem run_rem_x {P : Program} {t : TypeId} (x : Int) (n d q : Nat) (hx : x = (n : Int)) (hd : 0 < d) (hq : n % d = q) (w : World) : (binOp .rem t (.int .i64 x) (.int .i64 (d : Int))).run P w = .ok (.int .i64 (q : Int)) w := by
  subst hx; exact run_rem_nat n d q hd hq w
theorem rbit_at (A i : Nat) (x : Int) (hx : x = (i : Int)) (w : World) (hi : i < 256) :
    Calls Tryd.prog 100 #[U A, .int .i64 x] w fun e w' => e = .returned (.bool (bitN A i)) ∧ Below w.heap.size w w' := by
  subst hx; exact rbit_any A i w hi
theorem expbit (e i : Nat) : (bits .and .u64 (shrW (wd e (i / 64)) (i % 64)) 1 == 1) = bitN e i := by
  rw [← bit_wd e (i / 64) i rfl]
  unfold shrW
  rw [Nat.min_eq_left (by omega), Int.fdiv_eq_ediv_of_nonneg _ (by have : (0 : Nat) < 2 ^ (i % 64) := Nat.pow_pos (by decide); have e : ((2 : Int) ^ (i % 64)) = ((2 ^ (i % 64) : Nat) : Int) := by simp
                                                                   omega)]
theorem wrap_down {k : Nat} (h : 0 < k) (h2 : k < 9223372036854775808) : IntKind.i64.wrap ((k : Int) - 1 - 1) = ((k - 1 : Nat) : Int) - 1 := by
  rw [IntWalk.i64_in _ (by omega)]; omega
theorem wrap_pred {k : Nat} (h2 : k < 9223372036854775808) : IntKind.i64.wrap ((k : Int) - 1) = (k : Int) - 1 := by
  rw [IntWalk.i64_in _ (by omega)]
end Go.Proofs.YtoibhbmcplhiaaaDoor
