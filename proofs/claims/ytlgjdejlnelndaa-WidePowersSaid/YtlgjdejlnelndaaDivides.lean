/-
  The law WideDivides: the walk.
-/
import Derived.Test.YtlgjdejlnelndaaRDivW
import Derived.Test.YtlgjdejlnelndaaSane
namespace Go.Proofs.Ytlgjdejlnelndaa
open Go Go.RowKit

/-- Quotient, remainder, and whether there is one. -/
def divQ (hi lo b : Nat) : Nat := if b ≤ hi then 0 else (hi * M + lo) / b
def divR (hi lo b : Nat) : Nat := if b ≤ hi then 0 else (hi * M + lo) % b
theorem div_any (hi lo b : Nat) (w : World) (h1 : hi < M) (h2 : lo < M) (h3 : b < M) :
    Calls Try.prog 18 #[U hi, U lo, U b] w fun e w' => e = .returned (.tuple #[U (divQ hi lo b), U (divR hi lo b), .bool (decide (hi < b))]) ∧ Below w.heap.size w w' := by
  unfold divQ divR
  by_cases h : b ≤ hi
  · rw [if_pos h, if_pos h, decide_eq_false (by omega)]; exact div_no hi lo b w h1 h3 h
  · rw [if_neg h, if_neg h, decide_eq_true (by omega)]; exact div_yes hi lo b w h1 h2 h3 (by omega)
theorem rdiv_any (hi lo b : Nat) (w : World) (h1 : hi < M) (h2 : lo < M) (h3 : b < M) :
    Calls Try.prog 19 #[U hi, U lo, U b] w fun e w' => e = .returned (.tuple #[U (divQ hi lo b), U (divR hi lo b), .bool (decide (hi < b))]) ∧ Below w.heap.size w w' := by
  unfold divQ divR
  by_cases h : b ≤ hi
  · rw [if_pos h, if_pos h, decide_eq_false (by omega)]; exact rdiv_no hi lo b w h1 h3 h
  · rw [if_neg h, if_neg h, decide_eq_true (by omega)]; exact rdiv_yes hi lo b w h1 h2 h3 (by omega)
theorem divQ_lt (hi lo b : Nat) (h2 : lo < M) : divQ hi lo b < M := by
  unfold divQ; split
  · exact M_pos
  · rw [Nat.div_lt_iff_lt_mul (by omega)]
    have : (hi + 1) * M ≤ b * M := Nat.mul_le_mul_right _ (by omega)
    rw [Nat.add_mul, Nat.mul_comm b] at this
    omega
theorem divR_lt (hi lo b : Nat) (h3 : b < M) : divR hi lo b < M := by
  unfold divR; split
  · exact M_pos
  · exact Nat.lt_trans (Nat.mod_lt _ (by omega)) h3

set_option maxHeartbeats 1000000 in
theorem divides_walk (hi lo b : Nat) (w : World) (h1 : hi < M) (h2 : lo < M) (h3 : b < M) :
    Calls Try.prog 4 #[U hi, U lo, U b] w fun e w' => e = .returned (.bool true) ∧ Below w.heap.size w w' := by
  obtain ⟨q, r, ok, ql, rl, D1, D2⟩ : ∃ (q r : Nat) (ok : Bool), q < M ∧ r < M ∧
      Hid (∀ W, Calls Try.prog 18 #[U hi, U lo, U b] W fun e w' => e = .returned (.tuple #[U q, U r, .bool ok]) ∧ Below W.heap.size W w') ∧
      Hid (∀ W, Calls Try.prog 19 #[U hi, U lo, U b] W fun e w' => e = .returned (.tuple #[U q, U r, .bool ok]) ∧ Below W.heap.size W w') :=
    ⟨_, _, _, divQ_lt hi lo b h2, divR_lt hi lo b h3, fun W => div_any hi lo b W h1 h2 h3, fun W => rdiv_any hi lo b W h1 h2 h3⟩
  have E1 : ∀ W, (binOp .eql 24 (U q) (U q)).run Try.prog W = .ok (.bool true) W := fun W => by rw [eqlU q q ql ql W]; simp
  have E2 : ∀ W, (binOp .eql 24 (U r) (U r)).run Try.prog W = .ok (.bool true) W := fun W => by rw [eqlU r r rl rl W]; simp
  go_enter Try.func4, Try.ntmps4
  go_wp2_with fail
  refine (D1.out _).mono ?_; rintro e w1 ⟨rfl, hb1⟩
  have O0 : Own w1 w.heap.size (cU hi) := Own.below (hp_3_0 _ _ _ _) hb1
  have O1 : Own w1 (w.heap.size + 1) (cU lo) := Own.below (hp_3_1 _ _ _ _) hb1
  have O2 : Own w1 (w.heap.size + 1 + 1) (cU b) := Own.below (hp_3_2 _ _ _ _) hb1
  have B1 : Below w.heap.size w w1 := Below.trans (by (repeat' (first | (with_reducible exact Below.refl _ _) | (with_reducible assumption) | (with_reducible refine below_drewN ?_ _) | (with_reducible refine Below.drew ?_) | (with_reducible refine Below.setCell ?_ ?_ _) | (with_reducible refine Below.alloc ?_ ?_ _) | (with_reducible exact Nat.le_refl _) | omega | (simp; omega) | (simp; done)))) (hb1.mono (by simp only [World.size_alloc]; omega))
  clear hb1
  have c0 := O0.cell; have c1 := O1.cell; have c2 := O2.cell; have l0 := O0.lt; have l1 := O1.lt; have l2 := O2.lt
  have m0 : w.heap.size < w1.heap.size + 1 := by omega
  have m1 : w.heap.size + 1 < w1.heap.size + 1 := by omega
  have m2 : w.heap.size + 1 + 1 < w1.heap.size + 1 := by omega
  go_wp2_with fail
  refine (D2.out _).mono ?_; rintro e w2 ⟨rfl, hb2⟩
  have V0 : Own w2 w1.heap.size (cU q) := Own.below (hp_2_0 _ _ _) hb2
  have V1 : Own w2 (w1.heap.size + 1) (cU r) := Own.below (hp_2_1 _ _ _) hb2
  have B2 : Below w.heap.size w w2 := Below.trans (by (repeat' (first | (with_reducible exact Below.refl _ _) | (with_reducible assumption) | (with_reducible refine below_drewN ?_ _) | (with_reducible refine Below.drew ?_) | (with_reducible refine Below.setCell ?_ ?_ _) | (with_reducible refine Below.alloc ?_ ?_ _) | (with_reducible exact Nat.le_refl _) | omega | (simp; omega) | (simp; done)))) (hb2.mono (by simp only [World.size_alloc]; have := B1.size; omega))
  clear hb2 c0 c1 c2 m0 m1 m2
  have k0 := V0.cell; have k1 := V1.cell; have j0 := V0.lt; have j1 := V1.lt
  go_wp2_with fail
  refine (sane_any _).mono ?_; rintro e w3 ⟨rfl, hb3⟩
  have X0 := ((V0.past _).past _).below hb3; have X1 := ((V1.past _).past _).below hb3
  have X2 : Own w3 w2.heap.size (cU q) := Own.below (hp_2_0 _ _ _) hb3
  have X3 : Own w3 (w2.heap.size + 1) (cU r) := Own.below (hp_2_1 _ _ _) hb3
  have B3 : Below w.heap.size w w3 := Below.trans (by (repeat' (first | (with_reducible exact Below.refl _ _) | (with_reducible assumption) | (with_reducible refine below_drewN ?_ _) | (with_reducible refine Below.drew ?_) | (with_reducible refine Below.setCell ?_ ?_ _) | (with_reducible refine Below.alloc ?_ ?_ _) | (with_reducible exact Nat.le_refl _) | omega | (simp; omega) | (simp; done)))) (hb3.mono (by simp only [World.size_alloc]; have := B2.size; omega))
  clear hb3 k0 k1 j0 j1
  have y0 := X0.cell; have y1 := X1.cell; have y2 := X2.cell; have y3 := X3.cell
  go_wp2
  go_ret
  exact ⟨by simp, B3⟩
end Go.Proofs.Ytlgjdejlnelndaa
