/-
  What the walks of the codec ask of numbers and of lists of bytes.
-/
import Derived.Test.YtclccfibfkcagaaCBase
import Derived.Test.YtclccfibfkcagaaEqH
namespace Go.Proofs.Ytclccfibfkcagaa
open Go Go.RowKit

theorem u64N {x : Nat} (h : x < 18446744073709551616) : IntKind.u64.wrap (x : Int) = (x : Int) := wrapU_in rfl h
theorem u32N {x : Nat} (h : x < 4294967296) : IntKind.u32.wrap (x : Int) = (x : Int) := wrapU_in rfl h
theorem u16N {x : Nat} (h : x < 65536) : IntKind.u16.wrap (x : Int) = (x : Int) := wrapU_in rfl h
theorem u8N {x : Nat} (h : x < 256) : IntKind.u8.wrap (x : Int) = (x : Int) := wrapU_in rfl h
theorem u32M (x : Nat) : IntKind.u32.wrap (x : Int) = ((x % 4294967296 : Nat) : Int) := wrapU rfl x
theorem u16M (x : Nat) : IntKind.u16.wrap (x : Int) = ((x % 65536 : Nat) : Int) := wrapU rfl x
theorem u8M (x : Nat) : IntKind.u8.wrap (x : Int) = ((x % 256 : Nat) : Int) := wrapU rfl x
theorem u64_int {y : Int} (h0 : 0 ≤ y) (h : y < 18446744073709551616) : IntKind.u64.wrap y = ((y.toNat : Nat) : Int) := by
  obtain ⟨n, rfl⟩ := Int.eq_ofNat_of_zero_le h0
  exact (u64N (by omega)).trans (by omega)
theorem i64N {x : Int} (h : -9223372036854775808 ≤ x ∧ x < 9223372036854775808) : IntKind.i64.wrap x = x := IntWalk.i64_in _ (by omega)
theorem eqN {x k : Nat} (h : ((x : Int) == (k : Int)) = true) : x = k := by
  have := eq_of_beq h
  omega
theorem neN {x k : Nat} (h : ((x : Int) == (k : Int)) = false) : x ≠ k := by
  intro e
  subst e
  simp at h
theorem eqlH_same (A : Nat) (hA : A < M) (w : World) : (binOp .eql 32 (.agg (hB A)) (.agg (hB A))).run Try.prog w = .ok (.bool true) w := by
  rw [eqlH A A hA hA w]
  simp
/-! ### sizes -/
theorem szB_len (n : Nat) : (szB n).length ≤ 9 := by
  unfold szB
  split
  · simp
  · split
    · simp [leB_length]
    · split <;> simp [leB_length]
theorem szB1 {B : List UInt8} {n : Nat} (h : n < 253) : B ++ [ob (n : Int)] = B ++ szB n := by rw [szB, if_pos h]
theorem szB2 {B : List UInt8} {n : Nat} (h : ¬ n < 253) (h2 : n < 65536) : (B ++ [253]) ++ leB n 2 = B ++ szB n := by rw [szB, if_neg h, if_pos h2, List.append_assoc]; rfl
theorem szB4 {B : List UInt8} {n : Nat} (h : ¬ n < 253) (h2 : ¬ n < 65536) (h3 : n < 4294967296) : (B ++ [254]) ++ leB n 4 = B ++ szB n := by rw [szB, if_neg h, if_neg h2, if_pos h3, List.append_assoc]; rfl
theorem szB8 {B : List UInt8} {n : Nat} (h : ¬ n < 253) (h2 : ¬ n < 65536) (h3 : ¬ n < 4294967296) : (B ++ [255]) ++ leB n 8 = B ++ szB n := by rw [szB, if_neg h, if_neg h2, if_neg h3, List.append_assoc]; rfl
theorem leB1 {n : Nat} (h : n < 253) : leB n 1 = [ob (n : Int)] := by
  rw [leB, leB, Nat.pow_zero, Nat.div_one, Nat.mod_eq_of_lt (by omega)]; rfl
theorem szR1 {B : List UInt8} {n : Nat} (h : n < 253) : B ++ leB n 1 = B ++ szB n := by rw [leB1 h]; exact szB1 h
theorem szR2 {B : List UInt8} {n : Nat} (h : ¬ n < 253) (h2 : n < 65536) : B ++ ([253] ++ leB n 2) = B ++ szB n := by rw [← szB2 h h2, List.append_assoc]
theorem szR4 {B : List UInt8} {n : Nat} (h : ¬ n < 253) (h2 : ¬ n < 65536) (h3 : n < 4294967296) : B ++ ([254] ++ leB n 4) = B ++ szB n := by rw [← szB4 h h2 h3, List.append_assoc]
theorem szR8 {B : List UInt8} {n : Nat} (h : ¬ n < 253) (h2 : ¬ n < 65536) (h3 : ¬ n < 4294967296) : B ++ ([255] ++ leB n 8) = B ++ szB n := by rw [← szB8 h h2 h3, List.append_assoc]
/-! ### reads -/
def rdT (k : IntKind) (xs : List UInt8) (z : Int) (m : Nat) : Value := .tuple #[.int k ((rdV xs z m : Nat) : Int), .int .i64 (rdN xs.length z m), .int .i64 (rdE xs.length z m)]
theorem rdT_err {k : IntKind} {xs : List UInt8} {z e : Int} {m : Nat} (h : rdE xs.length z m = e) (he : e ≠ 0) : (.tuple #[.int k 0, .int .i64 0, .int .i64 e] : Value) = rdT k xs z m := by
  have h0 : rdE xs.length z m ≠ 0 := by rw [h]; exact he
  unfold rdT rdV rdN
  rw [if_neg h0, if_neg h0, h]; rfl
theorem rdT_ok {k : IntKind} {xs : List UInt8} {z : Int} {m i : Nat} (h : rdE xs.length z m = 0) (hi : i = m) : (.tuple #[.int k ((leN xs z.toNat i : Nat) : Int), .int .i64 (z + (m : Int)), .int .i64 0] : Value) = rdT k xs z m := by
  subst hi
  unfold rdT rdV rdN
  rw [if_pos h, if_pos h, h]
theorem rdN_rng {n : Nat} (hn : n ≤ 140737488351232) (z : Int) (m : Nat) : 0 ≤ rdN n z m ∧ rdN n z m ≤ n := by
  unfold rdN
  split
  · rename_i h
    have := (rdE_ok (n := n) (a := z) (w := m) (by rw [h]; rfl)).2
    omega
  · omega
theorem rdE_in {n : Nat} {z : Int} {m : Nat} (h : rdE n z m = 0) : 0 ≤ z ∧ z + m ≤ n := (rdE_ok (by rw [h]; rfl)).2
theorem leN_shl (xs : List UInt8) (a : Nat) {k : Nat} (h : k < 8) : leN xs a k * 256 < 18446744073709551616 := by
  have h1 := leN_lt xs a k
  have h2 : 256 ^ k * 256 ≤ 256 ^ 8 := by
    rw [← Nat.pow_succ]; exact Nat.pow_le_pow_right (by decide) h
  have h3 : (256 : Nat) ^ 8 = 18446744073709551616 := by decide
  omega
theorem or_num (xs : List UInt8) (a : Nat) {m k : Nat} (h : k < m) (hm : m ≤ 8) : bits .or .u64 ((leN xs (a + (m - k)) k * 256 : Nat) : Int) ((gB xs (a + (m - 1 - k)) : Nat) : Int) = ((leN xs (a + (m - (k + 1))) (k + 1) : Nat) : Int) := by
  have h1 := leN_shl xs (a + (m - k)) (k := k) (by omega)
  have h2 := gB_lt xs (a + (m - 1 - k))
  rw [bits_orU rfl h1 (Nat.lt_of_lt_of_le h2 (by decide)), or_first _ _ h2, leN_first, show a + (m - (k + 1)) + 1 = a + (m - k) by omega, show a + (m - (k + 1)) = a + (m - 1 - k) by omega, Nat.mul_comm]
theorem run_num8 {P : Program} {t : TypeId} (xs : List UInt8) (a : Nat) {k : Nat} (h : k < 8) (w : World) : (binOp .shl t (.int .u64 ((leN xs a k : Nat) : Int)) (.int .u64 8)).run P w = .ok (.int .u64 ((leN xs a k * 256 : Nat) : Int)) w :=
  run_shlU (k := .u64) (yk := .u64) (x := leN xs a k) (c := 8) rfl (leN_shl xs a h) (fun _ => by decide) w
theorem num_end {xs : List UInt8} {a m k : Nat} (h : k = m) : leN xs (a + (m - k)) k = leN xs a m := by subst h; simp
/-! ### sizes that are read -/
theorem sz_err1 {B : List UInt8} {z : Int} {q : Nat} {e : Int} (h : rdE B.length z 1 = e) (he : e ≠ 0) : szR B z q = (0, 0, e) := by
  subst h
  rw [szR, if_pos he]
theorem sz_lim1 {B : List UInt8} {z : Int} {q : Nat} (h : rdE B.length z 1 = 0) (hm : rdV B z 1 < 253) (hq : q < rdV B z 1) : szR B z q = (0, 0, 4) := by
  rw [szR, if_neg (by simp [h]), if_pos hm, if_pos hq]
theorem sz_ok1 {B : List UInt8} {z : Int} {q : Nat} (h : rdE B.length z 1 = 0) (hm : rdV B z 1 < 253) (hq : ¬ q < rdV B z 1) : szR B z q = (rdV B z 1, rdN B.length z 1, 0) := by
  rw [szR, if_neg (by simp [h]), if_pos hm, if_neg hq]
section
variable {B : List UInt8} {z : Int} {q m w l : Nat} {e : Int} (h : rdE B.length z 1 = 0) (hm : rdV B z 1 = m) (h3 : 253 ≤ m) (hw : 2 ^ (m - 252) = w) (hl : szLeast m = l)
include h hm h3 hw
theorem sz_err2 (he : rdE B.length (rdN B.length z 1) w = e) (h0 : e ≠ 0) : szR B z q = (0, 0, e) := by
  subst he
  rw [szR, if_neg (by simp [h]), hm, if_neg (by omega), hw, if_pos h0]
include hl
theorem sz_can2 (he : rdE B.length (rdN B.length z 1) w = 0) (h4 : rdV B (rdN B.length z 1) w < l) : szR B z q = (0, 0, 3) := by
  rw [szR, if_neg (by simp [h]), hm, if_neg (by omega), hw, hl, if_neg (by simp [he]), if_pos h4]
theorem sz_lim2 (he : rdE B.length (rdN B.length z 1) w = 0) (h4 : ¬ rdV B (rdN B.length z 1) w < l) (hq : q < rdV B (rdN B.length z 1) w) : szR B z q = (0, 0, 4) := by
  rw [szR, if_neg (by simp [h]), hm, if_neg (by omega), hw, hl, if_neg (by simp [he]), if_neg h4, if_pos hq]
theorem sz_ok2 (he : rdE B.length (rdN B.length z 1) w = 0) (h4 : ¬ rdV B (rdN B.length z 1) w < l) (hq : ¬ q < rdV B (rdN B.length z 1) w) : szR B z q = (rdV B (rdN B.length z 1) w, rdN B.length (rdN B.length z 1) w, 0) := by
  rw [szR, if_neg (by simp [h]), hm, if_neg (by omega), hw, hl, if_neg (by simp [he]), if_neg h4, if_neg hq]
end
theorem small_mark {x : Nat} (h3 : ((x : Int) == ((253 : Nat) : Int)) = false) (h4 : ((x : Int) == ((254 : Nat) : Int)) = false) (h5 : ((x : Int) == ((255 : Nat) : Int)) = false) (h : x < 256) : x < 253 := by
  have := neN h3; have := neN h4; have := neN h5; omega
theorem mark_255 {x : Nat} (h : x < 256) (h0 : decide (253 ≤ (x : Int)) = true) (h3 : ((x : Int) == ((253 : Nat) : Int)) = false) (h4 : ((x : Int) == ((254 : Nat) : Int)) = false) : ((x : Int) == ((255 : Nat) : Int)) = true := by
  have := neN h3; have := neN h4; have := of_decide_eq_true h0
  obtain rfl : x = 255 := by omega
  rfl
theorem beq_other {x k j : Nat} (h : x = k) (hj : k ≠ j) : ((x : Int) == (j : Int)) = false := by
  subst h
  have : ¬ ((x : Int) = (j : Int)) := by omega
  simpa using this
theorem szLeast_253 {x : Nat} (h : x = 253) : szLeast x = 253 := by subst h; rfl
theorem szLeast_254 {x : Nat} (h : x = 254) : szLeast x = 65536 := by subst h; rfl
theorem szLeast_255 {x : Nat} (h : x = 255) : szLeast x = 4294967296 := by subst h; rfl
theorem szLeast_0 {x : Nat} (h3 : x ≠ 253) (h4 : x ≠ 254) : szLeast x = 4294967296 := by rw [szLeast, if_neg h3, if_neg h4]
theorem u64_sub253 {x : Nat} (h : x < 256) (h3 : 253 ≤ x) : IntKind.u64.wrap ((x : Int) - 253) = ((x - 253 : Nat) : Int) := by
  rw [show (x : Int) - 253 = ((x - 253 : Nat) : Int) by omega]
  exact u64N (by omega)
theorem szw_le {m : Nat} (h : m < 256) : 2 ^ (m - 252) ≤ 8 := by
  have : m - 252 ≤ 3 := by omega
  exact Nat.pow_le_pow_right (n := 2) (by decide) this
theorem run_shl_sz {P : Program} {t : TypeId} {m : Nat} (h : m < 256) (h3 : 253 ≤ m) (w : World) : (binOp .shl t (.int .i64 2) (.int .u64 ((m - 253 : Nat) : Int))).run P w = .ok (.int .i64 ((2 ^ (m - 252) : Nat) : Int)) w := by
  rcases (by omega : m = 253 ∨ m = 254 ∨ m = 255) with rfl | rfl | rfl <;> rfl
theorem szN_rng {B : List UInt8} (hB : B.length ≤ 140737488351232) (z : Int) (q : Nat) : 0 ≤ szN B z q ∧ szN B z q ≤ B.length := by
  have key := rdN_rng hB
  have h0 : (0 : Int) ≤ 0 ∧ (0 : Int) ≤ B.length := by omega
  unfold szN szR
  split
  · exact h0
  · split
    · split
      · exact h0
      · exact key _ _
    · split
      · exact h0
      · split
        · exact h0
        · split
          · exact h0
          · exact key _ _
theorem szN_zero {B : List UInt8} {z : Int} {q : Nat} (h : szE B z q ≠ 0) : szN B z q = 0 ∧ szV B z q = 0 := by
  unfold szE at h
  unfold szN szV
  unfold szR at h ⊢
  split at h <;> rename_i h1
  · rw [if_pos h1]; exact ⟨rfl, rfl⟩
  · rw [if_neg h1]
    split at h <;> rename_i h2
    · rw [if_pos h2]
      split at h <;> rename_i h3
      · rw [if_pos h3]; exact ⟨rfl, rfl⟩
      · exact absurd rfl h
    · rw [if_neg h2]
      split at h <;> rename_i h3
      · rw [if_pos h3]; exact ⟨rfl, rfl⟩
      · rw [if_neg h3]
        split at h <;> rename_i h4
        · rw [if_pos h4]; exact ⟨rfl, rfl⟩
        · rw [if_neg h4]
          split at h <;> rename_i h5
          · rw [if_pos h5]; exact ⟨rfl, rfl⟩
          · exact absurd rfl h
/-! ### byte strings that are read -/
def byR (B : List UInt8) (z y : Int) : List UInt8 × Int × Int :=
  if y < 0 then ([], 0, 5) else
  if szE B z y.toNat ≠ 0 then ([], 0, szE B z y.toNat) else
  if B.length - (szN B z y.toNat).toNat < szV B z y.toNat then ([], 0, 1) else
  (mid B (szN B z y.toNat).toNat ((szN B z y.toNat).toNat + szV B z y.toNat), szN B z y.toNat + szV B z y.toNat, 0)
def byX (B : List UInt8) (z y : Int) : List UInt8 := (byR B z y).1
def byN (B : List UInt8) (z y : Int) : Int := (byR B z y).2.1
def byE (B : List UInt8) (z y : Int) : Int := (byR B z y).2.2
theorem by_x {B : List UInt8} {z y : Int} {xs : List UInt8} {n e : Int} (h : byR B z y = (xs, n, e)) : xs = byX B z y := by unfold byX; rw [h]
theorem by_v {B : List UInt8} {z y : Int} {xs : List UInt8} {n e : Int} {a : Option Addr} {c : Nat} (h : byR B z y = (xs, n, e)) : (.tuple #[.slice a xs.length c, .int .i64 n, .int .i64 e] : Value) = .tuple #[.slice a (byX B z y).length c, .int .i64 (byN B z y), .int .i64 (byE B z y)] := by
  unfold byX byN byE; rw [h]
theorem by5 {B : List UInt8} {z y : Int} (h : y < 0) : byR B z y = ([], 0, 5) := if_pos h
theorem byS {B : List UInt8} {z y : Int} (h : ¬ y < 0) (h1 : szE B z y.toNat ≠ 0) : byR B z y = ([], 0, szE B z y.toNat) := by rw [byR, if_neg h, if_pos h1]
theorem by1 {B : List UInt8} {z y : Int} (h : ¬ y < 0) (h1 : szE B z y.toNat = 0) (h2 : B.length - (szN B z y.toNat).toNat < szV B z y.toNat) : byR B z y = ([], 0, 1) := by rw [byR, if_neg h, if_neg (by simp [h1]), if_pos h2]
theorem by0 {B : List UInt8} {z y : Int} (h : ¬ y < 0) (h1 : szE B z y.toNat = 0) (h2 : ¬ B.length - (szN B z y.toNat).toNat < szV B z y.toNat) : byR B z y = (mid B (szN B z y.toNat).toNat ((szN B z y.toNat).toNat + szV B z y.toNat), szN B z y.toNat + szV B z y.toNat, 0) := by rw [byR, if_neg h, if_neg (by simp [h1]), if_neg h2]
theorem bne0 {x : Int} (h : (x != 0) = true) : x ≠ 0 := by simpa using h
theorem bne0' {x : Int} (h : (x != 0) = false) : x = 0 := by simpa using h
/-! ### digests that are read -/
def hsV (B : List UInt8) (z : Int) : Nat := if rdE B.length z 32 = 0 then nB ((mid B z.toNat B.length).take 32) else 0
theorem hs_err {B : List UInt8} {z e : Int} (h : rdE B.length z 32 = e) (he : e ≠ 0) : (.tuple #[.agg (hB 0), .int .i64 0, .int .i64 e] : Value) = .tuple #[.agg (hB (hsV B z)), .int .i64 (rdN B.length z 32), .int .i64 (rdE B.length z 32)] := by
  have h0 : rdE B.length z 32 ≠ 0 := by rw [h]; exact he
  unfold hsV rdN
  rw [if_neg h0, if_neg h0, h]
theorem hs_ok {B : List UInt8} {z : Int} (h : rdE B.length z 32 = 0) : (.tuple #[.agg (hB (nB ((mid B z.toNat B.length).take 32))), .int .i64 (z + 32), .int .i64 0] : Value) = .tuple #[.agg (hB (hsV B z)), .int .i64 (rdN B.length z 32), .int .i64 (rdE B.length z 32)] := by
  unfold hsV rdN
  rw [if_pos h, if_pos h, h]; rfl
theorem hsV_lt {B : List UInt8} {z : Int} : hsV B z < M := by
  unfold hsV
  split
  · rename_i h
    have := rdE_in h
    refine nB_M ?_
    rw [List.length_take, mid_length _ _ _ (Nat.le_refl _)]
    omega
  · rw [M_eq]; decide
/-! ### the end -/
def enE (n : Nat) (z : Int) : Int := if z < 0 ∨ (n : Int) < z then 5 else if z < (n : Int) then 2 else 0
theorem en5 {n : Nat} {z : Int} (h : z < 0 ∨ (n : Int) < z) : enE n z = 5 := if_pos h
theorem en2 {n : Nat} {z : Int} (h : ¬ (z < 0 ∨ (n : Int) < z)) (h1 : z < (n : Int)) : enE n z = 2 := by rw [enE, if_neg h, if_pos h1]
theorem en0 {n : Nat} {z : Int} (h : ¬ (z < 0 ∨ (n : Int) < z)) (h1 : ¬ z < (n : Int)) : enE n z = 0 := by rw [enE, if_neg h, if_neg h1]
end Go.Proofs.Ytclccfibfkcagaa
