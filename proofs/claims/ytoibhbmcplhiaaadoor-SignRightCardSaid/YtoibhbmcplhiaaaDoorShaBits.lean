/-
  What the walks of SHA-256 ask of words and rows.
-/
import Derived.Test.YtoibhbmcplhiaaaDoorShaNum
import Derived.Test.YtoibhbmcplhiaaaDoorGhost11
import Derived.Test.YtoibhbmcplhiaaaDoorEq
namespace Go.Proofs.YtoibhbmcplhiaaaDoor
open Go Go.RowKit

theorem bits_xorU {k : IntKind} (hk : k.signed = false) {a b : Nat} (ha : a < 2 ^ k.bits) (hb : b < 2 ^ k.bits) : bits .xor k (a : Int) (b : Int) = ((a ^^^ b : Nat) : Int) := by
  have e : ∀ n : Nat, n < 2 ^ k.bits → (BitVec.ofInt k.bits (n : Int)).toNat = n := by
    intro n hn
    rw [BitVec.toNat_ofInt]
    rw [show ((2 ^ k.bits : Nat) : Int) = ((2 ^ k.bits : Nat) : Int) from rfl, ← Int.natCast_emod, Int.toNat_natCast, Nat.mod_eq_of_lt hn]
  unfold bits
  simp only []
  rw [BitVec.toNat_xor, e a ha, e b hb, wrapU_in hk (Nat.xor_lt_two_pow ha hb)]
theorem xor32 {a b : Nat} (ha : a < 4294967296) (hb : b < 4294967296) : bits .xor .u32 (a : Int) (b : Int) = ((a ^^^ b : Nat) : Int) := bits_xorU rfl ha hb
theorem and32 {a b : Nat} (ha : a < 4294967296) (hb : b < 4294967296) : bits .and .u32 (a : Int) (b : Int) = ((a &&& b : Nat) : Int) := bits_andU rfl ha hb
theorem not_xor32 {a : Nat} (ha : a < 4294967296) : bits .xor .u32 4294967295 (a : Int) = ((not32 a : Nat) : Int) := by
  refine (bits_xorU (k := .u32) rfl (a := 4294967295) (b := a) (by decide) ha).trans ?_
  congr 1
  unfold not32
  have h : (4294967295 - BitVec.ofNat 32 a).toNat = (BitVec.ofNat 32 a ^^^ 4294967295).toNat := by
    have h2 : BitVec.ofNat 32 a ^^^ 4294967295 = ~~~ (BitVec.ofNat 32 a) := by
      rw [show (4294967295 : BitVec 32) = BitVec.allOnes 32 from rfl, BitVec.xor_allOnes]
    rw [h2, BitVec.toNat_not, BitVec.toNat_sub]
    have h3 : (BitVec.ofNat 32 a).toNat = a := by simp [Nat.mod_eq_of_lt ha]
    rw [h3]
    show (2 ^ 32 - a + 4294967295) % 2 ^ 32 = 2 ^ 32 - 1 - a
    omega
  have h3 : (BitVec.ofNat 32 a).toNat = a := by simp [Nat.mod_eq_of_lt ha]
  rw [BitVec.toNat_xor, BitVec.toNat_sub, h3] at h
  have h4 : (4294967295 : BitVec 32).toNat = 4294967295 := rfl
  rw [h4] at h
  rw [Nat.xor_comm, ← h]
  show (2 ^ 32 - a + 4294967295) % 2 ^ 32 = 4294967295 - a
  omega
theorem wrap_add32 (x y : Nat) : IntKind.u32.wrap ((x : Int) + (y : Int)) = ((add32 x y : Nat) : Int) := by
  rw [← Int.natCast_add]; exact u32M (x + y)
/-! ### rotations -/
theorem u64_neg {n : Nat} (h0 : 0 < n) (h : n < 32) : IntKind.u64.wrap (0 - (n : Int)) = ((18446744073709551616 - n : Nat) : Int) := by
  simp only [IntKind.wrap]
  show (0 - (n : Int)) % 18446744073709551616 = _
  omega
theorem and31 {n : Nat} (h0 : 0 < n) (h : n < 32) : bits .and .u64 ((18446744073709551616 - n : Nat) : Int) 31 = ((32 - n : Nat) : Int) := by
  refine (bits_andU (k := .u64) rfl (a := 18446744073709551616 - n) (b := 31) (by show _ < 18446744073709551616; omega) (by decide)).trans ?_
  congr 1
  rw [show (31 : Nat) = 2 ^ 5 - 1 from rfl, Nat.and_two_pow_sub_one_eq_mod]
  omega
theorem u64_32 {n : Nat} (h0 : 0 < n) (h : n < 32) : IntKind.u64.wrap (32 - ((32 - n : Nat) : Int)) = ((n : Nat) : Int) := by
  rw [show (32 : Int) - ((32 - n : Nat) : Int) = ((n : Nat) : Int) by omega]
  exact u64N (by omega)
theorem run_shlM {P : Program} {t : TypeId} {yk : IntKind} {x c : Nat} (hc : c ≤ 32) (w : World) : (binOp .shl t (.int .u32 (x : Int)) (.int yk (c : Int))).run P w = .ok (.int .u32 ((x * 2 ^ c % 4294967296 : Nat) : Int)) w := by
  have e : IntKind.u32.wrap ((x : Int) * 2 ^ (min (c : Int).toNat IntKind.u32.bits)) = ((x * 2 ^ c % 4294967296 : Nat) : Int) := by
    rw [Int.toNat_natCast, Nat.min_eq_left (show c ≤ IntKind.u32.bits from hc), show (x : Int) * 2 ^ c = ((x * 2 ^ c : Nat) : Int) by simp]
    exact u32M _
  simp only [binOp, Op.shift, if_neg (by omega : ¬ (c : Int) < 0), e]
  rfl
theorem or_rot {x n : Nat} (hx : x < 4294967296) : bits .or .u32 ((x * 2 ^ (32 - n) % 4294967296 : Nat) : Int) ((x / 2 ^ n : Nat) : Int) = ((rot32 x n : Nat) : Int) :=
  bits_orU (k := .u32) rfl (Nat.mod_lt _ (by decide)) (shr32_lt n hx)
/-! ### the schedule's rows -/
def pwb (X : List UInt8) (i : Nat) : Nat → Nat
  | 0 => 0
  | j + 1 => pwb X i j * 256 + gB X (4 * i + j)
theorem pwb_lt (X : List UInt8) (i : Nat) : ∀ j, pwb X i j < 256 ^ j
  | 0 => by simp [pwb]
  | j + 1 => by have := pwb_lt X i j; have := gB_lt X (4 * i + j); rw [pwb, Nat.pow_succ]; omega
theorem pwb_small {X : List UInt8} {i j : Nat} (h : j < 4) : pwb X i j < 16777216 :=
  Nat.lt_of_lt_of_le (pwb_lt X i j) (by rw [show (16777216 : Nat) = 256 ^ 3 from rfl]; exact Nat.pow_le_pow_right (by decide) (by omega))
theorem pwb_word (X : List UInt8) (i : Nat) : pwb X i 4 = word X i := by simp [pwb, word]
theorem run_pw8 {P : Program} {t : TypeId} {X : List UInt8} {i j : Nat} (h : j < 4) (w : World) : (binOp .shl t (.int .u32 ((pwb X i j : Nat) : Int)) (.int .u64 8)).run P w = .ok (.int .u32 ((pwb X i j * 256 : Nat) : Int)) w :=
  run_shlU (k := .u32) (yk := .u64) (x := pwb X i j) (c := 8) rfl (by have := pwb_small (X := X) (i := i) h; show pwb X i j * 256 < 4294967296; omega) (fun _ => by decide) w
theorem or_pw {X : List UInt8} {i j : Nat} (h : j < 4) : bits .or .u32 ((pwb X i j * 256 : Nat) : Int) ((gB X (4 * i + j) : Nat) : Int) = ((pwb X i (j + 1) : Nat) : Int) := by
  have h1 := pwb_small (X := X) (i := i) h
  have h2 := gB_lt X (4 * i + j)
  rw [bits_orU (k := .u32) rfl (by show _ < 4294967296; omega) (by show _ < 4294967296; omega)]
  congr 1
  rw [Nat.mul_comm, show (256 : Nat) = 2 ^ 8 from rfl, ← Nat.two_pow_add_eq_or_of_lt h2, pwb, Nat.mul_comm]
theorem or_gen {x y k : Nat} (h : y < 2 ^ k) (hx : x * 2 ^ k < 4294967296) (hy : y < 4294967296) : bits .or .u32 ((x * 2 ^ k : Nat) : Int) ((y : Nat) : Int) = ((x * 2 ^ k + y : Nat) : Int) := by
  rw [bits_orU (k := .u32) rfl hx hy]
  congr 1
  rw [Nat.mul_comm, ← Nat.two_pow_add_eq_or_of_lt h]
theorem or_w1 {a b : Nat} (ha : a < 256) (hb : b < 256) : bits .or .u32 ((a * 16777216 : Nat) : Int) ((b * 65536 : Nat) : Int) = (((a * 256 + b) * 65536 : Nat) : Int) :=
  (or_gen (x := a) (y := b * 65536) (k := 24) (by show _ < 16777216; omega) (by show a * 16777216 < _; omega) (by omega)).trans (congrArg Nat.cast (show a * 16777216 + b * 65536 = _ by omega))
theorem or_w2 {a b c : Nat} (ha : a < 256) (hb : b < 256) (hc : c < 256) : bits .or .u32 (((a * 256 + b) * 65536 : Nat) : Int) ((c * 256 : Nat) : Int) = ((((a * 256 + b) * 256 + c) * 256 : Nat) : Int) :=
  (or_gen (x := a * 256 + b) (y := c * 256) (k := 16) (by show _ < 65536; omega) (by show (a * 256 + b) * 65536 < _; omega) (by omega)).trans (congrArg Nat.cast (show (a * 256 + b) * 65536 + c * 256 = _ by omega))
theorem or_w3 {X : List UInt8} {i : Nat} : bits .or .u32 ((((gB X (4 * i) * 256 + gB X (4 * i + 1)) * 256 + gB X (4 * i + 2)) * 256 : Nat) : Int) ((gB X (4 * i + 3) : Nat) : Int) = ((word X i : Nat) : Int) := by
  have h0 := gB_lt X (4 * i); have h1 := gB_lt X (4 * i + 1); have h2 := gB_lt X (4 * i + 2); have h3 := gB_lt X (4 * i + 3)
  exact or_gen (x := (gB X (4 * i) * 256 + gB X (4 * i + 1)) * 256 + gB X (4 * i + 2)) (y := gB X (4 * i + 3)) (k := 8) h3 (by show _ * 256 < _; omega) (by omega)
def sc (X : List UInt8) (i j m : Nat) : Nat := if m < i then word X m else if m = i then pwb X i j else 0
def tc (X : List UInt8) (i m : Nat) : Nat := if m < i then wN X m else 0
theorem sc_zero (X : List UInt8) (m : Nat) : sc X 0 0 m = 0 := by unfold sc; rw [if_neg (by omega)]; split <;> rfl
theorem sc_at (X : List UInt8) (i j : Nat) : sc X i j i = pwb X i j := by unfold sc; rw [if_neg (by omega), if_pos rfl]
theorem sc_set {X : List UInt8} {i j : Nat} : (rowK .u32 64 (sc X i j)).setIfInBounds i (.int .u32 ((pwb X i (j + 1) : Nat) : Int)) = rowK .u32 64 (sc X i (j + 1)) := by
  rw [rowK_set]
  refine rowK_congr fun m _ => ?_
  by_cases e : m = i
  · rw [if_pos e, e, sc_at]
  · rw [if_neg e]; unfold sc; rw [if_neg e, if_neg e]
theorem sc_next (X : List UInt8) (i : Nat) : rowK .u32 64 (sc X i 4) = rowK .u32 64 (sc X (i + 1) 0) := by
  refine rowK_congr fun m _ => ?_
  unfold sc
  by_cases h1 : m < i
  · rw [if_pos h1, if_pos (by omega)]
  · rw [if_neg h1]
    by_cases h2 : m = i
    · rw [if_pos h2, if_pos (by omega), h2, pwb_word]
    · rw [if_neg h2, if_neg (by omega)]
      split <;> rfl
theorem sc_tc (X : List UInt8) : rowK .u32 64 (sc X 16 0) = rowK .u32 64 (tc X 16) := by
  refine rowK_congr fun m _ => ?_
  unfold sc tc
  by_cases h1 : m < 16
  · rw [if_pos h1, if_pos h1, wN_word h1]
  · rw [if_neg h1, if_neg h1]; split <;> rfl
theorem sc_word {X : List UInt8} {i : Nat} : (rowK .u32 64 (sc X i 0)).setIfInBounds i (.int .u32 ((word X i : Nat) : Int)) = rowK .u32 64 (sc X (i + 1) 0) := by
  rw [rowK_set]
  refine rowK_congr fun m _ => ?_
  unfold sc
  by_cases e : m = i
  · rw [if_pos e, if_pos (by omega), e]
  · rw [if_neg e, if_neg e]
    by_cases h1 : m < i
    · rw [if_pos h1, if_pos (by omega)]
    · rw [if_neg h1, if_neg (by omega)]; split <;> rfl
theorem tc_get {X : List UInt8} {i m : Nat} (h : m < i) (h64 : m < 64) : (rowK .u32 64 (tc X i))[m]? = some (.int .u32 ((wN X m : Nat) : Int)) := by
  rw [rowK_get h64, tc, if_pos h]
theorem tc_set {X : List UInt8} {i v : Nat} (hv : v = wN X i) : (rowK .u32 64 (tc X i)).setIfInBounds i (.int .u32 ((v : Nat) : Int)) = rowK .u32 64 (tc X (i + 1)) := by
  rw [rowK_set]
  refine rowK_congr fun m _ => ?_
  unfold tc
  by_cases e : m = i
  · rw [if_pos e, if_pos (by omega), e, hv]
  · rw [if_neg e]
    by_cases h1 : m < i
    · rw [if_pos h1, if_pos (by omega)]
    · rw [if_neg h1, if_neg (by omega)]
theorem tc_end {X : List UInt8} {i : Nat} (h : 64 ≤ i) : rowK .u32 64 (tc X i) = rowK .u32 64 (wN X) := by
  refine rowK_congr fun m hm => ?_
  rw [tc, if_pos (by omega)]
theorem kC_get {i : Nat} (h : i < 64) : (rowK .u32 64 kN)[i]? = some (.int .u32 ((kN i : Nat) : Int)) := rowK_get h
theorem cmp_end {X : List UInt8} {a b c d e f g h a' b' c' d' e' f' g' h' i : Nat} (hr : rnds X (a, b, c, d, e, f, g, h) i = (a', b', c', d', e', f', g', h')) (hi : i = 64) :
    cmpS (a, b, c, d, e, f, g, h) X = (add32 a a', add32 b b', add32 c c', add32 d d', add32 e e', add32 f f', add32 g g', add32 h h') := by
  subst hi
  rw [cmpS, hr]; rfl
theorem mid_take {m : List UInt8} {a : Nat} (n : Nat) (h : a + n ≤ m.length) : (mid m a m.length).take n = mid m a (a + n) := by
  unfold mid
  rw [List.take_length, List.take_drop, Nat.add_comm]
/-! ### padding -/
theorem bne0N {x : Nat} (h : ((x : Int) != 0) = true) : x ≠ 0 := bneN (k := 0) h
theorem bne0N' {x : Nat} (h : ((x : Int) != 0) = false) : x = 0 := bneN' (k := 0) h
theorem zer_len {j : Nat} {X : List UInt8} (hX : X = 128 :: List.replicate j 0) : X.length = j + 1 := by rw [hX]; simp
theorem pad_hd0 (n : Nat) : Hd ((zB (9 + zeros n)).setIfInBounds 0 (.int .u8 128)) (128 :: List.replicate (zeros n) 0) := by
  unfold Hd zB
  simp only [Array.toList_setIfInBounds]
  rw [show 9 + zeros n = (zeros n + 8) + 1 by omega, List.replicate_succ]
  show (((bv 0 :: bs (List.replicate (zeros n + 8) 0)).set 0 (.int .u8 128)).take (List.replicate (zeros n) (0 : UInt8)).length.succ) = _
  rw [List.set_cons_zero, List.take_succ_cons, List.length_replicate]
  show _ = bv 128 :: bs (List.replicate (zeros n) 0)
  congr 1
  unfold bs
  rw [List.map_replicate, List.map_replicate, List.take_replicate, Nat.min_eq_left (by omega)]
theorem pad_next {n i : Nat} {X : List UInt8} (hX : X = 128 :: (List.replicate (zeros n) 0 ++ be8 (8 * n) i)) : X ++ [ob ((8 * n / 2 ^ (56 - 8 * i) % 256 : Nat) : Int)] = 128 :: (List.replicate (zeros n) 0 ++ be8 (8 * n) (i + 1)) := by
  rw [hX, be8_succ]; simp
theorem pad_end {n i : Nat} {X : List UInt8} (hX : X = 128 :: (List.replicate (zeros n) 0 ++ be8 (8 * n) i)) (hi : i = 8) : X = padN n := by
  subst hi; exact hX
theorem pad_len {n i : Nat} {X : List UInt8} (hX : X = 128 :: (List.replicate (zeros n) 0 ++ be8 (8 * n) i)) : X.length = 1 + zeros n + i := by
  rw [hX]; simp [be8_length]; omega
theorem zer_next {j : Nat} {X : List UInt8} (hX : X = 128 :: List.replicate j 0) : X ++ [0] = 128 :: List.replicate (j + 1) 0 := by
  rw [hX, List.replicate_succ']; rfl
theorem zer_more {n j : Nat} (hj : j ≤ zeros n) (h : (n + (j + 1) + 8) % 64 ≠ 0) : j < zeros n := by
  unfold zeros at *; omega
theorem zer_end {n j : Nat} (hj : j ≤ zeros n) (h : (n + (j + 1) + 8) % 64 = 0) : j = zeros n := by
  unfold zeros at *; omega
theorem zer_be {n j : Nat} {X : List UInt8} (hX : X = 128 :: List.replicate j 0) (hj : j = zeros n) : X = 128 :: (List.replicate (zeros n) 0 ++ be8 (8 * n) 0) := by
  rw [hX, hj]; simp [be8]
/-! ### the digest -/
def dgf (s : Oct8) (m j : Nat) : Nat := if j < m then sel8 s (j / 4) / 2 ^ (24 - j % 4 * 8) % 256 else 0
theorem hB0_row (s : Oct8) : hB 0 = rowK .u8 32 (dgf s 0) := by
  have h : rowK .u8 32 (dgf s 0) = rowK .u8 32 (fun _ => 0) := rowK_congr fun m _ => by unfold dgf; rw [if_neg (by omega)]
  exact (show hB 0 = rowK .u8 32 (fun _ => 0) by kernel_rfl).trans h.symm
theorem dgf_set {s : Oct8} {m v : Nat} (hv : v = sel8 s (m / 4) / 2 ^ (24 - m % 4 * 8) % 256) : (rowK .u8 32 (dgf s m)).setIfInBounds m (.int .u8 ((v : Nat) : Int)) = rowK .u8 32 (dgf s (m + 1)) := by
  rw [rowK_set]
  refine rowK_congr fun j _ => ?_
  unfold dgf
  by_cases e : j = m
  · rw [if_pos e, if_pos (by omega), e, hv]
  · rw [if_neg e]
    by_cases h1 : j < m
    · rw [if_pos h1, if_pos (by omega)]
    · rw [if_neg h1, if_neg (by omega)]
theorem dgf_end {s : Oct8} {m : Nat} (h : 32 ≤ m) : rowK .u8 32 (dgf s m) = hB (nB (digL s)) := by
  rw [← rowK_bytes]
  refine rowK_congr fun j hj => ?_
  rw [dgf, if_pos (by omega)]
theorem sha_next {m : List UInt8} {i : Nat} {s : Oct8} (hS : shaS m i = s) (h : 64 * i + 64 ≤ m.length) : shaS m (i + 1) = cmpS s ((mid m (64 * i) m.length).take 64) := by
  rw [shaS, hS, mid_take 64 h]
theorem sha_end {b : List UInt8} {i : Nat} {s : Oct8} (hS : shaS (b ++ padN b.length) i = s) (hi : i = (b ++ padN b.length).length / 64) : nB (digL s) = shaN b := by
  subst hi; rw [← hS]; rfl
theorem msg_len (b : List UInt8) : (b ++ padN b.length).length = b.length + zeros b.length + 9 := by rw [List.length_append, pad_length]; omega
/-! ### rows of digests, arrays -/
section
variable {P : Program} {e : TypeId}
theorem ld_hash {w : World} {g off A : Nat} {C : Array Value} (ha : ∀ w, (isAgg e).run P w = .ok true w) (hs : ∀ w, (sizeOf e).run P w = .ok 32 w) (h : Kb w g C) (hv : ∀ j, j < 32 → C[off + j]? = (hB A)[j]?) :
    (do pure (Next.value (← Instr.loadAt e (.pointer (some ⟨g, off, none⟩)))) : Sem Next).run P w = .ok (.value (.agg (hB A))) w := by
  have h1 := ld_blkA (vs := (hB A).toList) ha hs h (by simp [hB_size]) (fun j hj => by rw [hv j hj]; simp)
  rw [Array.toArray_toList] at h1
  exact h1
end
theorem hcat2_0 (A B : Nat) : ∀ j, j < 32 → (hB A ++ hB B)[0 + j]? = (hB A)[j]? := fun j hj => by rw [Nat.zero_add, Array.getElem?_append_left (by rw [hB_size]; exact hj)]
theorem hcat2_1 (A B : Nat) : ∀ j, j < 32 → (hB A ++ hB B)[32 + j]? = (hB B)[j]? := fun j hj => by rw [Array.getElem?_append_right (by rw [hB_size]; omega), hB_size, Nat.add_sub_cancel_left]
theorem hcat3_0 (A B C : Nat) : ∀ j, j < 32 → (hB A ++ hB B ++ hB C)[0 + j]? = (hB A)[j]? := fun j hj => by rw [Array.getElem?_append_left (by rw [Array.size_append, hB_size, hB_size]; omega)]; exact hcat2_0 A B j hj
theorem hcat3_1 (A B C : Nat) : ∀ j, j < 32 → (hB A ++ hB B ++ hB C)[32 + j]? = (hB B)[j]? := fun j hj => by rw [Array.getElem?_append_left (by rw [Array.size_append, hB_size, hB_size]; omega)]; exact hcat2_1 A B j hj
theorem hcat3_2 (A B C : Nat) : ∀ j, j < 32 → (hB A ++ hB B ++ hB C)[64 + j]? = (hB C)[j]? := fun j hj => by rw [Array.getElem?_append_right (by rw [Array.size_append, hB_size, hB_size]; omega), Array.size_append, hB_size, hB_size, Nat.add_sub_cancel_left]
theorem copy_arr {C : Array Value} {n : Nat} {xs : List UInt8} (hC : C.size = n) (h : n ≤ xs.length) : inpl C 0 (bs (xs.take n)) = (bs (xs.take n)).toArray := by
  unfold inpl
  have hl : (bs (xs.take n)).length = n := by rw [bs_length, List.length_take]; omega
  rw [List.take_zero, List.nil_append, hl, Nat.zero_add, List.drop_of_length_le (by rw [Array.length_toList]; omega), List.append_nil]
theorem idx_arr8 {P : Program} {t el : TypeId} (hu : P.underlying t = some (.array 8 el)) (he : P.underlying el = some (.int .u32)) (hs : ∀ w, (sizeOf el).run P w = .ok 1 w) {a b c d e f g h j : Nat} (hj : j < 8) (w : World) :
    (do pure (Next.value (← Instr.index t (.agg #[Value.int .u32 ((a : Nat) : Int), .int .u32 ((b : Nat) : Int), .int .u32 ((c : Nat) : Int), .int .u32 ((d : Nat) : Int), .int .u32 ((e : Nat) : Int), .int .u32 ((f : Nat) : Int), .int .u32 ((g : Nat) : Int), .int .u32 ((h : Nat) : Int)]) (.int .i64 ((j : Nat) : Int)))) : Sem Next).run P w = .ok (.value (.int .u32 ((sel8 (a, b, c, d, e, f, g, h) j : Nat) : Int))) w := by
  have hp := run_part_int (P := P) he _ j _ (sel_get (a := a) (b := b) (c := c) (d := d) (e := e) (f := f) (g := g) (h := h) hj) w
  have hc : (0 : Int) ≤ (j : Int) ∧ (j : Int) < ((8 : Nat) : Int) := by omega
  simp only [Instr.index, asIntOf, Sem.run_bind, Sem.run_pure, Result.andThen_ok, run_underlying hu, if_pos hc, hs, Int.toNat_natCast, Nat.mul_one, hp]
end Go.Proofs.YtoibhbmcplhiaaaDoor
