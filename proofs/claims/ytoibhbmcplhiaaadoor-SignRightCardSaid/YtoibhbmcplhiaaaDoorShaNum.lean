/-
  Integers of the machine: wraps that are none.
-/
import Derived.Test.YtoibhbmcplhiaaaDoorUint
import Derived.Test.YtoibhbmcplhiaaaDoorChecked
namespace Go.Proofs.YtoibhbmcplhiaaaDoor
open Go Go.RowKit

theorem u8i : u8like Tryd.prog 5 := u8like_of (by kernel_rfl)
theorem wrap_addN (x y : Nat) (h : x + y < 9223372036854775808) : IntKind.i64.wrap ((x : Int) + (y : Int)) = ((x + y : Nat) : Int) := by
  rw [IntWalk.i64_in _ (by omega)]; omega
theorem wrap_mulN (x y : Nat) (h : x * y < 9223372036854775808) : IntKind.i64.wrap ((x : Int) * (y : Int)) = ((x * y : Nat) : Int) := by
  rw [← Int.natCast_mul]
  generalize x * y = z at h ⊢
  exact IntWalk.i64_in _ (by omega)
theorem u64N {x : Nat} (h : x < 18446744073709551616) : IntKind.u64.wrap (x : Int) = (x : Int) := wrapU_in rfl h
theorem u32N {x : Nat} (h : x < 4294967296) : IntKind.u32.wrap (x : Int) = (x : Int) := wrapU_in rfl h
theorem u16N {x : Nat} (h : x < 65536) : IntKind.u16.wrap (x : Int) = (x : Int) := wrapU_in rfl h
theorem u8N {x : Nat} (h : x < 256) : IntKind.u8.wrap (x : Int) = (x : Int) := wrapU_in rfl h
theorem u32M (x : Nat) : IntKind.u32.wrap (x : Int) = ((x % 4294967296 : Nat) : Int) := wrapU rfl x
theorem u16M (x : Nat) : IntKind.u16.wrap (x : Int) = ((x % 65536 : Nat) : Int) := wrapU rfl x
theorem u8M (x : Nat) : IntKind.u8.wrap (x : Int) = ((x % 256 : Nat) : Int) := wrapU rfl x
theorem u64_int {y : Int} (h0 : 0 ≤ y) (h : y < 18446744073709551616) : IntKind.u64.wrap y = ((y.toNat : Nat) : Int) := by
  obtain ⟨n, rfl⟩ := Int.eq_ofNat_of_zero_le h0
  exact (u64N (by omega)).trans (by omega)
theorem u64_addN (x y : Nat) (h : x + y < 18446744073709551616) : IntKind.u64.wrap ((x : Int) + (y : Int)) = ((x + y : Nat) : Int) := by
  rw [← Int.natCast_add]; exact u64N h
theorem u64_mulN (x y : Nat) (h : x * y < 18446744073709551616) : IntKind.u64.wrap ((x : Int) * (y : Int)) = ((x * y : Nat) : Int) := by
  rw [← Int.natCast_mul]; exact u64N h
theorem u64_subN (x y : Nat) (h : y ≤ x) (hx : x < 18446744073709551616) : IntKind.u64.wrap ((x : Int) - (y : Int)) = ((x - y : Nat) : Int) := by
  rw [show (x : Int) - (y : Int) = ((x - y : Nat) : Int) by omega]; exact u64N (by omega)
theorem i64N {x : Int} (h : -9223372036854775808 ≤ x ∧ x < 9223372036854775808) : IntKind.i64.wrap x = x := IntWalk.i64_in _ (by omega)
theorem u8I {x : Int} (h : 0 ≤ x ∧ x < 256) : IntKind.u8.wrap x = x := by
  obtain ⟨n, rfl⟩ := Int.eq_ofNat_of_zero_le h.1
  exact u8N (by omega)
theorem eqN {x k : Nat} (h : ((x : Int) == (k : Int)) = true) : x = k := by
  have := eq_of_beq h
  omega
theorem neN {x k : Nat} (h : ((x : Int) == (k : Int)) = false) : x ≠ k := by
  intro e
  subst e
  simp at h
theorem bne0 {x : Int} (h : (x != 0) = true) : x ≠ 0 := by simpa using h
theorem bne0' {x : Int} (h : (x != 0) = false) : x = 0 := by simpa using h
theorem bneN {x k : Nat} (h : ((x : Int) != (k : Int)) = true) : x ≠ k := by
  intro e; subst e; simp at h
theorem bneN' {x k : Nat} (h : ((x : Int) != (k : Int)) = false) : x = k := by
  have : ((x : Int)) = (k : Int) := by simpa using h
  omega
theorem not_t {b : Bool} (h : (!b) = true) : b = false := by simpa using h
theorem not_f {b : Bool} (h : (!b) = false) : b = true := by simpa using h
theorem beq_zeroN {x : Nat} (h : x = 0) : ((x : Int) == 0) = true := by subst h; rfl
theorem beq_zeroI {x : Int} (h : x = 0) : (x == 0) = true := by subst h; rfl
theorem take_snoc {B : List UInt8} {i : Nat} (h : i < B.length) : B.take (i + 1) = B.take i ++ [B.getD i 0] := by
  rw [List.take_succ_eq_append_getElem h]
  congr 2
  simp [List.getD, List.getElem?_eq_getElem h]
theorem gB_app_r (P Q : List UInt8) (i : Nat) : gB (P ++ Q) (P.length + i) = gB Q i := by
  unfold gB
  rw [List.getD_eq_getElem?_getD, List.getD_eq_getElem?_getD, List.getElem?_append_right (by omega), Nat.add_sub_cancel_left]
theorem gB_app_l {P : List UInt8} (Q : List UInt8) {i : Nat} (h : i < P.length) : gB (P ++ Q) i = gB P i := by
  unfold gB
  rw [List.getD_eq_getElem?_getD, List.getD_eq_getElem?_getD, List.getElem?_append_left h]
theorem mid_at {P X Q : List UInt8} {l h : Nat} (hl : l = P.length) (hh : h = l + X.length) : mid (P ++ X ++ Q) l h = X := by
  unfold mid
  rw [List.take_append_of_le_length (by rw [List.length_append]; omega), List.take_of_length_le (by rw [List.length_append]; omega), hl, List.drop_left]

/-! ### words -/
def add32 (x y : Nat) : Nat := (x + y) % 4294967296
def rot32 (x n : Nat) : Nat := x * 2 ^ (32 - n) % 4294967296 ||| x / 2 ^ n
def not32 (x : Nat) : Nat := 4294967295 - x
theorem add32_lt (x y : Nat) : add32 x y < 4294967296 := Nat.mod_lt _ (by decide)
theorem not32_lt (x : Nat) : not32 x < 4294967296 := by unfold not32; omega
theorem xor32_lt {x y : Nat} (hx : x < 4294967296) (hy : y < 4294967296) : x ^^^ y < 4294967296 := Nat.xor_lt_two_pow (n := 32) hx hy
theorem and32_lt {x : Nat} (y : Nat) (hx : x < 4294967296) : x &&& y < 4294967296 := Nat.lt_of_le_of_lt Nat.and_le_left hx
theorem shr32_lt {x : Nat} (n : Nat) (hx : x < 4294967296) : x / 2 ^ n < 4294967296 := Nat.lt_of_le_of_lt (Nat.div_le_self _ _) hx
theorem rot32_lt {x : Nat} (n : Nat) (hx : x < 4294967296) : rot32 x n < 4294967296 :=
  Nat.or_lt_two_pow (n := 32) (Nat.mod_lt _ (by decide)) (shr32_lt n hx)
/-! ### the schedule -/
def ss0 (x : Nat) : Nat := (rot32 x 7 ^^^ rot32 x 18) ^^^ x / 2 ^ 3
def ss1 (x : Nat) : Nat := (rot32 x 17 ^^^ rot32 x 19) ^^^ x / 2 ^ 10
def word (X : List UInt8) (n : Nat) : Nat := ((gB X (4 * n) * 256 + gB X (4 * n + 1)) * 256 + gB X (4 * n + 2)) * 256 + gB X (4 * n + 3)
def wstep (l : List Nat) (X : List UInt8) (n : Nat) : Nat :=
  if n < 16 then word X n else add32 (add32 (add32 (l.getD 15 0) (ss0 (l.getD 14 0))) (l.getD 6 0)) (ss1 (l.getD 1 0))
def wl (X : List UInt8) : Nat → List Nat
  | 0 => []
  | n + 1 => wstep (wl X n) X n :: wl X n
def wN (X : List UInt8) (j : Nat) : Nat := (wl X (j + 1)).headD 0
theorem wl_get (X : List UInt8) : ∀ n k, k < n → (wl X n).getD k 0 = wN X (n - 1 - k)
  | 0, k, h => by omega
  | n + 1, 0, _ => by rw [Nat.sub_zero]; simp only [Nat.add_sub_cancel]; rfl
  | n + 1, k + 1, h => by
    rw [show n + 1 - 1 - (k + 1) = n - 1 - k by omega, ← wl_get X n k (by omega)]
    rfl
theorem word_lt (X : List UInt8) (n : Nat) : word X n < 4294967296 := by
  unfold word
  have := gB_lt X (4 * n); have := gB_lt X (4 * n + 1); have := gB_lt X (4 * n + 2); have := gB_lt X (4 * n + 3)
  omega
theorem wN_step (X : List UInt8) (i : Nat) : wN X i = wstep (wl X i) X i := rfl
theorem wN_word {X : List UInt8} {i : Nat} (h : i < 16) : wN X i = word X i := by
  rw [wN_step, wstep, if_pos h]
theorem wN_more {X : List UInt8} {i : Nat} (h : 16 ≤ i) : wN X i = add32 (add32 (add32 (wN X (i - 16)) (ss0 (wN X (i - 15)))) (wN X (i - 7))) (ss1 (wN X (i - 2))) := by
  rw [wN_step, wstep, if_neg (by omega), wl_get X i 15 (by omega), wl_get X i 14 (by omega), wl_get X i 6 (by omega), wl_get X i 1 (by omega)]
  rw [show i - 1 - 15 = i - 16 by omega, show i - 1 - 14 = i - 15 by omega, show i - 1 - 6 = i - 7 by omega, show i - 1 - 1 = i - 2 by omega]
theorem wN_lt (X : List UInt8) (i : Nat) : wN X i < 4294967296 := by
  by_cases h : i < 16
  · rw [wN_word h]; exact word_lt X i
  · rw [wN_more (by omega)]; exact add32_lt _ _
/-! ### the rounds -/
abbrev Oct8 : Type := Nat × Nat × Nat × Nat × Nat × Nat × Nat × Nat
def kL : List Nat := [0x428a2f98, 0x71374491, 0xb5c0fbcf, 0xe9b5dba5, 0x3956c25b, 0x59f111f1, 0x923f82a4, 0xab1c5ed5, 0xd807aa98, 0x12835b01, 0x243185be, 0x550c7dc3, 0x72be5d74, 0x80deb1fe, 0x9bdc06a7, 0xc19bf174, 0xe49b69c1, 0xefbe4786, 0x0fc19dc6, 0x240ca1cc, 0x2de92c6f, 0x4a7484aa, 0x5cb0a9dc, 0x76f988da, 0x983e5152, 0xa831c66d, 0xb00327c8, 0xbf597fc7, 0xc6e00bf3, 0xd5a79147, 0x06ca6351, 0x14292967, 0x27b70a85, 0x2e1b2138, 0x4d2c6dfc, 0x53380d13, 0x650a7354, 0x766a0abb, 0x81c2c92e, 0x92722c85, 0xa2bfe8a1, 0xa81a664b, 0xc24b8b70, 0xc76c51a3, 0xd192e819, 0xd6990624, 0xf40e3585, 0x106aa070, 0x19a4c116, 0x1e376c08, 0x2748774c, 0x34b0bcb5, 0x391c0cb3, 0x4ed8aa4a, 0x5b9cca4f, 0x682e6ff3, 0x748f82ee, 0x78a5636f, 0x84c87814, 0x8cc70208, 0x90befffa, 0xa4506ceb, 0xbef9a3f7, 0xc67178f2]
def kN (i : Nat) : Nat := kL.getD i 0
theorem kN_lt (i : Nat) : kN i < 4294967296 := by
  unfold kN
  rw [List.getD_eq_getElem?_getD]
  cases h : kL[i]? with
  | none => simp
  | some x =>
    have hm := List.mem_of_getElem? h
    have : ∀ y ∈ kL, y < 4294967296 := by decide
    exact this x hm
def bs0 (x : Nat) : Nat := (rot32 x 2 ^^^ rot32 x 13) ^^^ rot32 x 22
def bs1 (x : Nat) : Nat := (rot32 x 6 ^^^ rot32 x 11) ^^^ rot32 x 25
def chN (e f g : Nat) : Nat := (e &&& f) ^^^ (not32 e &&& g)
def majN (a b c : Nat) : Nat := ((a &&& b) ^^^ (a &&& c)) ^^^ (b &&& c)
def t1N (k w e f g h : Nat) : Nat := add32 (add32 (add32 (add32 h (bs1 e)) (chN e f g)) k) w
def t2N (a b c : Nat) : Nat := add32 (bs0 a) (majN a b c)
def rnd (k w : Nat) : Oct8 → Oct8
  | (a, b, c, d, e, f, g, h) => (add32 (t1N k w e f g h) (t2N a b c), a, b, c, add32 d (t1N k w e f g h), e, f, g)
def rnds (X : List UInt8) (s : Oct8) : Nat → Oct8
  | 0 => s
  | i + 1 => rnd (kN i) (wN X i) (rnds X s i)
def addS : Oct8 → Oct8 → Oct8
  | (a, b, c, d, e, f, g, h), (a', b', c', d', e', f', g', h') => (add32 a a', add32 b b', add32 c c', add32 d d', add32 e e', add32 f f', add32 g g', add32 h h')
def cmpS (s : Oct8) (X : List UInt8) : Oct8 := addS s (rnds X s 64)
def ok8 : Oct8 → Prop
  | (a, b, c, d, e, f, g, h) => a < 4294967296 ∧ b < 4294967296 ∧ c < 4294967296 ∧ d < 4294967296 ∧ e < 4294967296 ∧ f < 4294967296 ∧ g < 4294967296 ∧ h < 4294967296
theorem rnd_ok {k w : Nat} {s : Oct8} (h : ok8 s) : ok8 (rnd k w s) := by
  obtain ⟨a, b, c, d, e, f, g, h'⟩ := s
  obtain ⟨h1, h2, h3, h4, h5, h6, h7, h8⟩ := h
  exact ⟨add32_lt _ _, h1, h2, h3, add32_lt _ _, h5, h6, h7⟩
theorem rnds_ok {X : List UInt8} {s : Oct8} (h : ok8 s) : ∀ i, ok8 (rnds X s i)
  | 0 => h
  | i + 1 => rnd_ok (rnds_ok h i)
theorem addS_ok (s t : Oct8) : ok8 (addS s t) := by
  obtain ⟨a, b, c, d, e, f, g, h⟩ := s
  obtain ⟨a', b', c', d', e', f', g', h'⟩ := t
  exact ⟨add32_lt _ _, add32_lt _ _, add32_lt _ _, add32_lt _ _, add32_lt _ _, add32_lt _ _, add32_lt _ _, add32_lt _ _⟩
theorem rnds_next {X : List UInt8} {s : Oct8} {i a b c d e f g h : Nat} (hr : rnds X s i = (a, b, c, d, e, f, g, h)) :
    rnds X s (i + 1) = (add32 (t1N (kN i) (wN X i) e f g h) (t2N a b c), a, b, c, add32 d (t1N (kN i) (wN X i) e f g h), e, f, g) := by
  rw [rnds, hr]; rfl
/-! ### messages -/
def zeros (n : Nat) : Nat := (64 - (n + 9) % 64) % 64
def be8 (x k : Nat) : List UInt8 := (List.range k).map fun i => ob ((x / 2 ^ (56 - 8 * i) % 256 : Nat) : Int)
def padN (n : Nat) : List UInt8 := 128 :: (List.replicate (zeros n) 0 ++ be8 (8 * n) 8)
theorem be8_length (x k : Nat) : (be8 x k).length = k := by simp [be8]
theorem be8_succ (x k : Nat) : be8 x (k + 1) = be8 x k ++ [ob ((x / 2 ^ (56 - 8 * k) % 256 : Nat) : Int)] := by simp [be8, List.range_succ]
theorem pad_length (n : Nat) : (padN n).length = zeros n + 9 := by simp [padN, be8_length]
theorem zeros_lt (n : Nat) : zeros n < 64 := Nat.mod_lt _ (by decide)
theorem pad_mod (n : Nat) : (n + (padN n).length) % 64 = 0 := by rw [pad_length]; unfold zeros; omega
def init8 : Oct8 := (0x6a09e667, 0xbb67ae85, 0x3c6ef372, 0xa54ff53a, 0x510e527f, 0x9b05688c, 0x1f83d9ab, 0x5be0cd19)
def shaS (m : List UInt8) : Nat → Oct8
  | 0 => init8
  | i + 1 => cmpS (shaS m i) (mid m (64 * i) (64 * i + 64))
theorem shaS_ok (m : List UInt8) : ∀ i, ok8 (shaS m i)
  | 0 => ⟨by decide, by decide, by decide, by decide, by decide, by decide, by decide, by decide⟩
  | i + 1 => by rw [shaS, cmpS]; exact addS_ok _ _
def sel8 : Oct8 → Nat → Nat
  | (a, b, c, d, e, f, g, h), j => ([a, b, c, d, e, f, g, h] : List Nat).getD j 0
def digL (s : Oct8) : List UInt8 := (List.range 32).map fun m => ob ((sel8 s (m / 4) / 2 ^ (24 - m % 4 * 8) % 256 : Nat) : Int)
theorem digL_length (s : Oct8) : (digL s).length = 32 := by simp [digL]
def msgN (b : List UInt8) : List UInt8 := b ++ padN b.length
def shaL (b : List UInt8) : List UInt8 := digL (shaS (msgN b) ((msgN b).length / 64))
def shaN (b : List UInt8) : Nat := nB (shaL b)
theorem shaL_length (b : List UInt8) : (shaL b).length = 32 := digL_length _
theorem shaN_lt (b : List UInt8) : shaN b < M := nB_M (shaL_length b)
theorem hL_sha (b : List UInt8) : hL (shaN b) = shaL b := hL_nB (shaL_length b)
def tagN (t b : List UInt8) : Nat := shaN ((shaL t ++ shaL t) ++ b)
theorem tagN_lt (t b : List UInt8) : tagN t b < M := shaN_lt _
/-! ### rows of words -/
def rowK (k : IntKind) (n : Nat) (f : Nat → Nat) : Array Value := ((List.range n).map fun m => Value.int k ((f m : Nat) : Int)).toArray
theorem rowK_size (k : IntKind) (n : Nat) (f : Nat → Nat) : (rowK k n f).size = n := by simp [rowK]
theorem rowK_get {k : IntKind} {n : Nat} {f : Nat → Nat} {m : Nat} (h : m < n) : (rowK k n f)[m]? = some (.int k ((f m : Nat) : Int)) := by
  simp [rowK, h]
theorem rowK_set {k : IntKind} {n : Nat} {f : Nat → Nat} {i v : Nat} : (rowK k n f).setIfInBounds i (.int k ((v : Nat) : Int)) = rowK k n (fun m => if m = i then v else f m) := by
  apply Array.ext_getElem?
  intro m
  by_cases hm : m < n
  · rw [rowK_get hm]
    by_cases e : m = i
    · subst e
      rw [Array.getElem?_setIfInBounds_self_of_lt (by rw [rowK_size]; exact hm), if_pos rfl]
    · rw [Array.getElem?_setIfInBounds_ne (by omega), rowK_get hm, if_neg e]
  · rw [Array.getElem?_eq_none (by rw [Array.size_setIfInBounds, rowK_size]; omega), Array.getElem?_eq_none (by rw [rowK_size]; omega)]
theorem rowK_congr {k : IntKind} {n : Nat} {f g : Nat → Nat} (h : ∀ m, m < n → f m = g m) : rowK k n f = rowK k n g := by
  unfold rowK
  congr 1
  apply List.map_congr_left
  intro m hm
  rw [h m (List.mem_range.1 hm)]
theorem rowK_bytes (s : Oct8) : rowK .u8 32 (fun m => sel8 s (m / 4) / 2 ^ (24 - m % 4 * 8) % 256) = hB (nB (digL s)) := by
  rw [← hB_nB (digL_length s)]
  unfold rowK digL bs
  rw [List.map_map]
  congr 1
  apply List.map_congr_left
  intro m _
  show _ = bv (ob _)
  rw [bv_ob (by omega)]
theorem bsA_get {X : List UInt8} {i : Nat} (h : i < X.length) : (bs X).toArray[i]? = some (.int .u8 ((gB X i : Nat) : Int)) := by
  rw [List.getElem?_toArray]
  unfold bs gB
  rw [List.getElem?_map, List.getElem?_eq_getElem h]
  simp [bv, List.getD, List.getElem?_eq_getElem h]
theorem sel_get {a b c d e f g h j : Nat} (hj : j < 8) : (#[Value.int .u32 ((a : Nat) : Int), .int .u32 ((b : Nat) : Int), .int .u32 ((c : Nat) : Int), .int .u32 ((d : Nat) : Int), .int .u32 ((e : Nat) : Int), .int .u32 ((f : Nat) : Int), .int .u32 ((g : Nat) : Int), .int .u32 ((h : Nat) : Int)] : Array Value)[j]? = some (.int .u32 ((sel8 (a, b, c, d, e, f, g, h) j : Nat) : Int)) := by
  rcases (by omega : j = 0 ∨ j = 1 ∨ j = 2 ∨ j = 3 ∨ j = 4 ∨ j = 5 ∨ j = 6 ∨ j = 7) with rfl | rfl | rfl | rfl | rfl | rfl | rfl | rfl <;> rfl
theorem sel8_lt {s : Oct8} (h : ok8 s) (j : Nat) : sel8 s j < 4294967296 := by
  obtain ⟨a, b, c, d, e, f, g, h'⟩ := s
  obtain ⟨h1, h2, h3, h4, h5, h6, h7, h8⟩ := h
  show ([a, b, c, d, e, f, g, h'] : List Nat).getD j 0 < 4294967296
  rcases (by omega : j = 0 ∨ j = 1 ∨ j = 2 ∨ j = 3 ∨ j = 4 ∨ j = 5 ∨ j = 6 ∨ j = 7 ∨ 8 ≤ j) with rfl | rfl | rfl | rfl | rfl | rfl | rfl | rfl | hj <;> first | assumption | skip
  rw [List.getD_eq_getElem?_getD, List.getElem?_eq_none (by simpa using hj)]
  decide
end Go.Proofs.YtoibhbmcplhiaaaDoor
