/-
  Digits of base 16: what the codec's texts are, in plain words.
-/
import Derived.Test.YtclccfibfkcagaaCNum2
namespace Go.Proofs.Ytclccfibfkcagaa
open Go

theorem u8I {x : Int} (h : 0 ≤ x ∧ x < 256) : IntKind.u8.wrap x = x := by
  obtain ⟨n, rfl⟩ := Int.eq_ofNat_of_zero_le h.1
  exact u8N (by omega)
/-- The digit of a number below 16. -/
def hexD (n : Nat) : Nat := if n < 10 then 48 + n else 87 + n
def hx2 (x : Nat) : List UInt8 := [ob ((hexD (x / 16) : Nat) : Int), ob ((hexD (x % 16) : Nat) : Int)]
def hxS (B : List UInt8) : List UInt8 := B.flatMap fun x => hx2 x.toNat
theorem hxS_length (B : List UInt8) : (hxS B).length = 2 * B.length := by
  induction B with
  | nil => rfl
  | cons x B ih => rw [hxS, List.flatMap_cons, List.length_append, ← hxS, ih]; simp [hx2]; omega
theorem hx_len {B X : List UInt8} {i : Nat} (hi : i ≤ B.length) (hX : X = hxS (B.take i)) : X.length = 2 * i := by
  rw [hX, hxS_length, List.length_take]; omega
theorem take_snoc {B : List UInt8} {i : Nat} (h : i < B.length) : B.take (i + 1) = B.take i ++ [B.getD i 0] := by
  rw [List.take_succ_eq_append_getElem h]
  congr 2
  simp [List.getD, List.getElem?_eq_getElem h]
theorem hx_next {B X : List UInt8} {i : Nat} (h : i < B.length) (hX : X = hxS (B.take i)) : X ++ [ob ((hexD (gB B i / 16) : Nat) : Int), ob ((hexD (gB B i % 16) : Nat) : Int)] = hxS (B.take (i + 1)) := by
  rw [take_snoc h, hxS, List.flatMap_append, ← hxS, hX]
  rfl
theorem hx_end {B X : List UInt8} {i : Nat} (h : B.length ≤ i) (hX : X = hxS (B.take i)) : X = hxS B := by
  rw [hX, List.take_of_length_le h]
theorem gB_dig {j : Nat} (h : j < 16) : gB [48, 49, 50, 51, 52, 53, 54, 55, 56, 57, 97, 98, 99, 100, 101, 102] j = hexD j := by
  revert j
  decide
theorem hexD_lt {n : Nat} (h : n < 16) : hexD n < 256 := by unfold hexD; split <;> omega
theorem hexD_rng {n : Nat} (h : n < 16) : 0 ≤ ((hexD n : Nat) : Int) ∧ ((hexD n : Nat) : Int) < 256 := by have := hexD_lt h; omega
theorem and15 {x : Nat} (h : x < 256) : bits .and .u8 (x : Int) 15 = ((x % 16 : Nat) : Int) := by
  have := bits_andU (k := .u8) rfl (a := x) (b := 15) h (by decide)
  refine this.trans ?_
  rw [show (15 : Nat) = 2 ^ 4 - 1 from rfl, Nat.and_two_pow_sub_one_eq_mod]
/-- The number of a digit, and whether it is one. -/
def dg (c : Nat) : Nat := if 48 ≤ c ∧ c ≤ 57 then c - 48 else if 97 ≤ c ∧ c ≤ 102 then c - 87 else if 65 ≤ c ∧ c ≤ 70 then c - 55 else 0
def dgB (c : Nat) : Bool := decide (48 ≤ c ∧ c ≤ 57) || decide (97 ≤ c ∧ c ≤ 102) || decide (65 ≤ c ∧ c ≤ 70)
theorem dg_lt (c : Nat) : dg c < 16 := by
  unfold dg
  split
  · omega
  · split
    · omega
    · split <;> omega
theorem dg_val {c : Nat} {v : Int} {b : Bool} (hv : v = ((dg c : Nat) : Int)) (hb : b = dgB c) : (.tuple #[.int .u8 v, .bool b] : Value) = .tuple #[.int .u8 ((dg c : Nat) : Int), .bool (dgB c)] := by rw [hv, hb]
theorem dg1 {c : Nat} (h : 48 ≤ c ∧ c ≤ 57) : dg c = c - 48 ∧ dgB c = true := by
  unfold dg dgB; rw [if_pos h]; simp [h]
theorem dg2 {c : Nat} (h1 : ¬ (48 ≤ c ∧ c ≤ 57)) (h : 97 ≤ c ∧ c ≤ 102) : dg c = c - 87 ∧ dgB c = true := by
  unfold dg dgB; rw [if_neg h1, if_pos h]; simp [h]
theorem dg3 {c : Nat} (h1 : ¬ (48 ≤ c ∧ c ≤ 57)) (h2 : ¬ (97 ≤ c ∧ c ≤ 102)) (h : 65 ≤ c ∧ c ≤ 70) : dg c = c - 55 ∧ dgB c = true := by
  unfold dg dgB; rw [if_neg h1, if_neg h2, if_pos h]; simp [h]
theorem dg0 {c : Nat} (h1 : ¬ (48 ≤ c ∧ c ≤ 57)) (h2 : ¬ (97 ≤ c ∧ c ≤ 102)) (h : ¬ (65 ≤ c ∧ c ≤ 70)) : dg c = 0 ∧ dgB c = false := by
  unfold dg dgB; rw [if_neg h1, if_neg h2, if_neg h]; simp [h1, h2, h]
/-- The bytes of a text. -/
def uh1 (S : List UInt8) (j : Nat) : Nat := 16 * dg (gB S (2 * j)) + dg (gB S (2 * j + 1))
theorem uh1_lt (S : List UInt8) (j : Nat) : uh1 S j < 256 := by
  unfold uh1; have := dg_lt (gB S (2 * j)); have := dg_lt (gB S (2 * j + 1)); omega
def uhP (S : List UInt8) (k : Nat) : List UInt8 := (List.range k).map fun j => ob ((uh1 S j : Nat) : Int)
theorem uhP_length (S : List UInt8) (k : Nat) : (uhP S k).length = k := by simp [uhP]
theorem uhP_succ (S : List UInt8) (k : Nat) : uhP S (k + 1) = uhP S k ++ [ob ((uh1 S k : Nat) : Int)] := by simp [uhP, List.range_succ]
def uhB (S : List UInt8) (n : Nat) : Bool := (List.range n).all fun j => dgB (gB S j)
theorem uhB_get {S : List UInt8} {n i : Nat} (h : uhB S n = true) (hi : i < n) : dgB (gB S i) = true := by
  unfold uhB at h
  rw [List.all_eq_true] at h
  exact h i (List.mem_range.2 hi)
theorem uhB_of {S : List UInt8} {n : Nat} (h : ∀ i, i < n → dgB (gB S i) = true) : uhB S n = true := by
  unfold uhB
  rw [List.all_eq_true]
  exact fun i hi => h i (List.mem_range.1 hi)
theorem uhB_not {S : List UInt8} {n i : Nat} (hi : i < n) (h : dgB (gB S i) = false) : uhB S n = false := by
  cases e : uhB S n
  · rfl
  · rw [uhB_get e hi] at h; exact absurd h (by decide)
def uhR (S : List UInt8) : List UInt8 × Int :=
  if 400000 < S.length then ([], 4) else if S.length % 2 ≠ 0 then ([], 7) else if uhB S S.length then (uhP S (S.length / 2), 0) else ([], 7)
def uhX (S : List UInt8) : List UInt8 := (uhR S).1
def uhE (S : List UInt8) : Int := (uhR S).2
theorem uh_x {S xs : List UInt8} {e : Int} (h : uhR S = (xs, e)) : xs = uhX S := by unfold uhX; rw [h]
theorem uh_v {S xs : List UInt8} {e : Int} {a : Option Addr} {c : Nat} (h : uhR S = (xs, e)) : (.tuple #[.slice a xs.length c, .int .i64 e] : Value) = .tuple #[.slice a (uhX S).length c, .int .i64 (uhE S)] := by
  unfold uhX uhE; rw [h]
theorem uh4 {S : List UInt8} (h : 400000 < S.length) : uhR S = ([], 4) := if_pos h
theorem uh7 {S : List UInt8} (h : ¬ 400000 < S.length) (h1 : S.length % 2 ≠ 0) : uhR S = ([], 7) := by rw [uhR, if_neg h, if_pos h1]
theorem uh7' {S : List UInt8} (h : ¬ 400000 < S.length) (h1 : S.length % 2 = 0) (h2 : uhB S S.length = false) : uhR S = ([], 7) := by rw [uhR, if_neg h, if_neg (by omega), if_neg (by rw [h2]; decide)]
theorem uh0 {S : List UInt8} (h : ¬ 400000 < S.length) (h1 : S.length % 2 = 0) (h2 : uhB S S.length = true) : uhR S = (uhP S (S.length / 2), 0) := by rw [uhR, if_neg h, if_neg (by omega), if_pos h2]
/-! ### the row that is filled -/
def un1 (S : List UInt8) (i j : Nat) : Nat := if 2 * j + 1 < i then uh1 S j else if 2 * j < i then dg (gB S (2 * j)) else 0
def unL (S : List UInt8) (i : Nat) : List UInt8 := (List.range (S.length / 2)).map fun j => ob ((un1 S i j : Nat) : Int)
theorem unL_length (S : List UInt8) (i : Nat) : (unL S i).length = S.length / 2 := by simp [unL]
def unC (S : List UInt8) (i : Nat) : Array Value := (bs (unL S i)).toArray
theorem unC_size (S : List UInt8) (i : Nat) : (unC S i).size = S.length / 2 := by simp [unC, bs, unL_length]
theorem un1_lt (S : List UInt8) (i j : Nat) : un1 S i j < 256 := by
  unfold un1
  split
  · exact uh1_lt S j
  · split
    · have := dg_lt (gB S (2 * j)); omega
    · omega
theorem unC_zero (S : List UInt8) : unC S 0 = zB (S.length / 2) := by
  unfold unC zB
  congr 2
  apply List.ext_getElem
  · simp [unL_length]
  · intro n h1 h2
    simp [unL, un1, ob]
theorem unC_get {S : List UInt8} {i j : Nat} (h : j < S.length / 2) : (unC S i)[j]? = some (.int .u8 ((un1 S i j : Nat) : Int)) := by
  unfold unC
  have hl : j < (bs (unL S i)).length := by rw [bs_length, unL_length]; exact h
  rw [List.getElem?_toArray, List.getElem?_eq_getElem hl]
  simp only [bs, unL, List.getElem_map, List.getElem_range]
  rw [bv_ob (by have := un1_lt S i j; omega)]
/-- What is stored. -/
def unV (S : List UInt8) (i : Nat) : Nat := un1 S i (i / 2) * 16 + dg (gB S i)
theorem un_before {S : List UInt8} (i : Nat) : un1 S i (i / 2) < 16 := by
  unfold un1
  rw [if_neg (by omega)]
  split
  · exact dg_lt _
  · omega
theorem un_after (S : List UInt8) (i : Nat) : un1 S (i + 1) (i / 2) = unV S i := by
  unfold unV un1
  rcases Nat.mod_two_eq_zero_or_one i with h | h
  · rw [if_neg (by omega), if_pos (by omega), if_neg (by omega), if_neg (by omega), show 2 * (i / 2) = i by omega]; omega
  · rw [if_pos (by omega), if_neg (by omega), if_pos (by omega), uh1, show 2 * (i / 2) + 1 = i by omega]; omega
theorem un_other (S : List UInt8) {i j : Nat} (h : j ≠ i / 2) : un1 S (i + 1) j = un1 S i j := by
  unfold un1
  by_cases h1 : 2 * j + 1 < i
  · rw [if_pos (by omega), if_pos h1]
  · rw [if_neg (by omega), if_neg h1]
    by_cases h2 : 2 * j < i
    · omega
    · rw [if_neg (by omega), if_neg h2]
theorem unC_set {S : List UInt8} {i : Nat} (h : i / 2 < S.length / 2) : (unC S i).setIfInBounds (i / 2) (.int .u8 ((unV S i : Nat) : Int)) = unC S (i + 1) := by
  apply Array.ext_getElem?
  intro j
  by_cases hj : j < S.length / 2
  · rw [unC_get hj]
    by_cases e : j = i / 2
    · subst e
      rw [Array.getElem?_setIfInBounds_self_of_lt (by rw [unC_size]; exact hj), un_after]
    · rw [Array.getElem?_setIfInBounds_ne (by omega), unC_get hj, un_other S e]
  · rw [Array.getElem?_eq_none (by rw [Array.size_setIfInBounds, unC_size]; omega), Array.getElem?_eq_none (by rw [unC_size]; omega)]
theorem unV_lt (S : List UInt8) (i : Nat) : unV S i < 256 := by rw [← un_after]; exact un1_lt _ _ _
theorem un_or {S : List UInt8} (i : Nat) : bits .or .u8 ((un1 S i (i / 2) * 16 : Nat) : Int) ((dg (gB S i) : Nat) : Int) = ((unV S i : Nat) : Int) := by
  have h1 := un_before (S := S) i
  have h2 := dg_lt (gB S i)
  have h8 : (2 : Nat) ^ IntKind.u8.bits = 256 := rfl
  rw [bits_orU rfl (by omega) (by omega)]
  congr 1
  rw [unV, Nat.mul_comm, show (16 : Nat) = 2 ^ 4 from rfl, ← Nat.two_pow_add_eq_or_of_lt h2]
theorem run_un4 {P : Program} {t : TypeId} (S : List UInt8) (i : Nat) (w : World) : (binOp .shl t (.int .u8 ((un1 S i (i / 2) : Nat) : Int)) (.int .u64 4)).run P w = .ok (.int .u8 ((un1 S i (i / 2) * 16 : Nat) : Int)) w :=
  run_shlU (k := .u8) (yk := .u64) (x := un1 S i (i / 2)) (c := 4) rfl (by have := un_before (S := S) i; show _ * 16 < 256; omega) (fun _ => by decide) w
theorem un_end {S : List UInt8} {i : Nat} (h : S.length ≤ i) (h2 : S.length % 2 = 0) : unL S i = uhP S (S.length / 2) := by
  unfold unL uhP
  apply List.map_congr_left
  intro j hj
  rw [List.mem_range] at hj
  rw [un1, if_pos (by omega)]
theorem dg_next {S : List UInt8} {i : Nat} (h : ∀ j, j < i → dgB (gB S j) = true) (hi : dgB (gB S i) = true) : ∀ j, j < i + 1 → dgB (gB S j) = true := fun j hj => by
  rcases (by omega : j < i ∨ j = i) with e | e
  · exact h j e
  · rw [e]; exact hi
theorem not_t {b : Bool} (h : (!b) = true) : b = false := by simpa using h
theorem not_f {b : Bool} (h : (!b) = false) : b = true := by simpa using h
theorem uh_ok {S xs : List UInt8} {i : Nat} (h : ¬ 400000 < S.length) (h1 : S.length % 2 = 0) (hi : S.length ≤ i) (h2 : ∀ j, j < i → dgB (gB S j) = true) (hx : xs = uhP S (S.length / 2)) : uhR S = (xs, 0) := by
  rw [hx]; exact uh0 h h1 (uhB_of fun j hj => h2 j (by omega))
theorem uh_bad {S : List UInt8} {i : Nat} (h : ¬ 400000 < S.length) (h1 : S.length % 2 = 0) (hi : i < S.length) (h2 : dgB (gB S i) = false) : uhR S = ([], 7) := uh7' h h1 (uhB_not hi h2)
theorem un_row {S : List UInt8} {i : Nat} : (List.replicate (S.length / 2) (0 : UInt8)).length = (unL S i).length := by rw [List.length_replicate, unL_length]
end Go.Proofs.Ytclccfibfkcagaa
