/-
  What the laws of the codec ask of lists of bytes.
-/
import Derived.Test.YtclccfibfkcagaaCHexNum
namespace Go.Proofs.Ytclccfibfkcagaa
open Go

theorem beq_zeroN {x : Nat} (h : x = 0) : ((x : Int) == 0) = true := by subst h; rfl
theorem beq_zeroI {x : Int} (h : x = 0) : (x == 0) = true := by subst h; rfl
theorem bneq1 {x : Nat} (h : ((x : Int) == 1) = false) : x ≠ 1 := by
  intro e; subst e; exact absurd h (by decide)
/-! ### little-endian numbers, there and back -/
theorem gB_app_r (P Q : List UInt8) (i : Nat) : gB (P ++ Q) (P.length + i) = gB Q i := by
  unfold gB
  rw [List.getD_eq_getElem?_getD, List.getD_eq_getElem?_getD, List.getElem?_append_right (by omega), Nat.add_sub_cancel_left]
theorem gB_app_l {P : List UInt8} (Q : List UInt8) {i : Nat} (h : i < P.length) : gB (P ++ Q) i = gB P i := by
  unfold gB
  rw [List.getD_eq_getElem?_getD, List.getD_eq_getElem?_getD, List.getElem?_append_left h]
theorem gB_leB {n w i : Nat} (h : i < w) : gB (leB n w) i = n / 256 ^ i % 256 := by
  induction w with
  | zero => omega
  | succ w ih =>
    rw [leB]
    rcases (by omega : i < w ∨ i = w) with e | e
    · rw [gB_app_l _ (by rw [leB_length]; exact e)]; exact ih e
    · subst e
      have := gB_app_r (leB n i) [ob ((n / 256 ^ i % 256 : Nat) : Int)] 0
      rw [leB_length, Nat.add_zero] at this
      rw [this]
      exact ob_lt (by omega)
theorem leN_at (P Q : List UInt8) (n W : Nat) : ∀ k, k ≤ W → leN (P ++ leB n W ++ Q) P.length k = n % 256 ^ k
  | 0, _ => by simp [leN, Nat.mod_one]
  | k + 1, h => by
    rw [leN, leN_at P Q n W k (by omega), gB_app_l _ (by rw [List.length_append, leB_length]; omega), gB_app_r, gB_leB (by omega), Nat.mod_pow_succ, Nat.mul_comm]
theorem rd_at {A P Q : List UInt8} {n w z : Nat} (hA : A = P ++ leB n w ++ Q) (hz : z = P.length) (hn : n < 256 ^ w) : rdE A.length (z : Int) w = 0 ∧ rdN A.length (z : Int) w = ((z + w : Nat) : Int) ∧ rdV A (z : Int) w = n := by
  have hl : A.length = z + w + Q.length := by rw [hA, hz, List.length_append, List.length_append, leB_length]
  have h0 : rdE A.length (z : Int) w = 0 := rdE0 (by omega) (by omega)
  refine ⟨h0, ?_, ?_⟩
  · rw [rdN, if_pos h0]; omega
  · rw [rdV, if_pos h0, Int.toNat_natCast, hz, hA, leN_at P Q n w w (Nat.le_refl _), Nat.mod_eq_of_lt hn]
theorem leB_low {x y w : Nat} : ∀ k, k ≤ w → leB (x + y * 256 ^ w) k = leB x k
  | 0, _ => rfl
  | k + 1, h => by
    rw [leB, leB, leB_low k (by omega)]
    congr 4
    obtain ⟨d, rfl⟩ : ∃ d, w = k + 1 + d := ⟨w - (k + 1), by omega⟩
    have e : y * 256 ^ (k + 1 + d) = 256 ^ k * (256 * (y * 256 ^ d)) := by
      rw [Nat.pow_add, Nat.pow_succ, Nat.mul_comm (256 ^ k) 256]
      simp only [Nat.mul_assoc, Nat.mul_left_comm, Nat.mul_comm]
    rw [e, Nat.add_mul_div_left _ _ (Nat.pow_pos (by decide)), Nat.add_mul_mod_self_left]
theorem mid_snoc {B : List UInt8} {a w : Nat} (h : a + w < B.length) : mid B a (a + (w + 1)) = mid B a (a + w) ++ [B.getD (a + w) 0] := by
  unfold mid
  rw [show a + (w + 1) = a + w + 1 from rfl, take_snoc h, List.drop_append_of_le_length (by rw [List.length_take]; omega)]
theorem leB_leN {B : List UInt8} {a : Nat} : ∀ w, a + w ≤ B.length → leB (leN B a w) w = mid B a (a + w)
  | 0, _ => by
    have h0 : (mid B a (a + 0)).length = 0 := by
      unfold mid
      rw [List.length_drop, List.length_take]; omega
    rw [leB, List.length_eq_zero_iff.1 h0]
  | w + 1, h => by
    rw [leB, leN, leB_low w (Nat.le_refl _), leB_leN w (by omega), mid_snoc (by omega), Nat.add_mul_div_right _ _ (Nat.pow_pos (by decide)), Nat.div_eq_of_lt (leN_lt _ _ _), Nat.zero_add, Nat.mod_eq_of_lt (gB_lt _ _), gB_ob]
/-! ### sizes, there and back -/
theorem leB1' {n : Nat} (h : n < 256) : leB n 1 = [ob (n : Int)] := by
  rw [leB, leB, Nat.pow_zero, Nat.div_one, Nat.mod_eq_of_lt h]; rfl
theorem sz_at {A P Q : List UInt8} {n q z : Nat} (hA : A = P ++ szB n ++ Q) (hz : z = P.length) (hn : n < 18446744073709551616) (hq : n ≤ q) : szR A (z : Int) q = (n, ((z + (szB n).length : Nat) : Int), 0) := by
  have wide : ∀ m w l, 253 ≤ m → m < 256 → 2 ^ (m - 252) = w → szLeast m = l → szB n = ob (m : Int) :: leB n w → l ≤ n → n < 256 ^ w → szR A (z : Int) q = (n, ((z + (szB n).length : Nat) : Int), 0) := by
    intro m w l h3 hm hw hl hs h4 hn
    have r1 := rd_at (A := A) (P := P) (Q := leB n w ++ Q) (n := m) (w := 1) (z := z) (by rw [hA, hs, leB1' hm]; simp) hz hm
    have r2 := rd_at (A := A) (P := P ++ [ob (m : Int)]) (Q := Q) (n := n) (w := w) (z := z + 1) (by rw [hA, hs]; simp) (by simp [hz]) hn
    obtain ⟨e1, n1, v1⟩ := r1
    obtain ⟨e2, n2, v2⟩ := r2
    rw [← n1] at e2 n2 v2
    rw [sz_ok2 (q := q) e1 v1 h3 hw hl e2 (by omega) (by omega), v2, n2, hs]
    simp [leB_length]
    omega
  by_cases h : n < 253
  · have hs : szB n = [ob (n : Int)] := if_pos h
    have r1 := rd_at (A := A) (P := P) (Q := Q) (n := n) (w := 1) (z := z) (by rw [hA, hs, leB1' (by omega)]) hz (by omega)
    obtain ⟨e1, n1, v1⟩ := r1
    rw [sz_ok1 e1 (by omega) (by omega), v1, n1, hs]; rfl
  · by_cases h2 : n < 65536
    · exact wide 253 2 253 (by omega) (by omega) rfl rfl (by rw [szB, if_neg h, if_pos h2]; rfl) (by omega) h2
    · by_cases h3 : n < 4294967296
      · exact wide 254 4 65536 (by omega) (by omega) rfl rfl (by rw [szB, if_neg h, if_neg h2, if_pos h3]; rfl) (by omega) h3
      · exact wide 255 8 4294967296 (by omega) (by omega) rfl rfl (by rw [szB, if_neg h, if_neg h2, if_neg h3]; rfl) (by omega) hn
theorem sz_at' {A P Q : List UInt8} {n q z : Nat} (hA : A = P ++ szB n ++ Q) (hz : z = P.length) (hn : n < 18446744073709551616) (hq : n ≤ q) : szV A (z : Int) q = n ∧ szN A (z : Int) q = ((z + (szB n).length : Nat) : Int) ∧ szE A (z : Int) q = 0 := by
  unfold szV szN szE
  rw [sz_at hA hz hn hq]
  exact ⟨rfl, rfl, rfl⟩
theorem mid_at {P X Q : List UInt8} {l h : Nat} (hl : l = P.length) (hh : h = l + X.length) : mid (P ++ X ++ Q) l h = X := by
  unfold mid
  rw [List.take_append_of_le_length (by rw [List.length_append]; omega), List.take_of_length_le (by rw [List.length_append]; omega), hl, List.drop_left]
theorem by_at {A P Q S : List UInt8} {z : Nat} (hA : A = P ++ szB S.length ++ S ++ Q) (hz : z = P.length) (hS : S.length < 18446744073709551616) : byR A (z : Int) (S.length : Int) = (S, ((z + (szB S.length).length + S.length : Nat) : Int), 0) := by
  have h := sz_at' (A := A) (P := P) (Q := S ++ Q) (n := S.length) (q := S.length) (z := z) (by rw [hA]; simp) hz hS (Nat.le_refl _)
  obtain ⟨hv, hn, he⟩ := h
  have hl : A.length = z + (szB S.length).length + S.length + Q.length := by rw [hA, hz]; simp only [List.length_append]
  have e : ((S.length : Int)).toNat = S.length := Int.toNat_natCast _
  rw [by0 (by omega) (by rw [e]; exact he) (by rw [e, hv, hn, Int.toNat_natCast]; omega), e, hv, hn, Int.toNat_natCast]
  rw [hA, mid_at (by simp [hz]) rfl]
  congr 2
theorem by_at' {A P Q S : List UInt8} {z : Nat} (hA : A = P ++ szB S.length ++ S ++ Q) (hz : z = P.length) (hS : S.length < 18446744073709551616) : byX A (z : Int) (S.length : Int) = S ∧ byN A (z : Int) (S.length : Int) = ((z + (szB S.length).length + S.length : Nat) : Int) ∧ byE A (z : Int) (S.length : Int) = 0 := by
  unfold byX byN byE
  rw [by_at hA hz hS]
  exact ⟨rfl, rfl, rfl⟩
/-! ### digests, there and back -/
theorem hL_inj {A B : Nat} (hA : A < M) (hb : B < M) (h : hL A = hL B) : A = B := by
  refine (byt_inj hA hb).1 fun i hi => ?_
  have h1 := congrArg (fun l => l[i]?) h
  simp only [hL, List.getElem?_map, List.getElem?_range hi, Option.map_some, Option.some.injEq] at h1
  have g : ∀ C, 0 ≤ byt C i ∧ byt C i < 256 := fun C => by unfold byt; omega
  have h2 := congrArg (fun x : UInt8 => ((x.toNat : Nat) : Int)) h1
  simp only [ob_nat (g A), ob_nat (g B)] at h2
  exact h2
theorem nB_hL {A : Nat} (hA : A < M) : nB (hL A) = A := hL_inj (nB_M (hL_length A)) hA (hL_nB (hL_length A))
theorem hs_at {A P Q : List UInt8} {h z : Nat} (hA : A = P ++ hL h ++ Q) (hz : z = P.length) (hh : h < M) : hsV A (z : Int) = h ∧ rdN A.length (z : Int) 32 = ((z + 32 : Nat) : Int) ∧ rdE A.length (z : Int) 32 = 0 := by
  have hl : A.length = z + 32 + Q.length := by rw [hA, hz, List.length_append, List.length_append, hL_length]
  have h0 : rdE A.length (z : Int) 32 = 0 := rdE0 (by omega) (by omega)
  refine ⟨?_, ?_, h0⟩
  · rw [hsV, if_pos h0, Int.toNat_natCast]
    have e : (mid A z A.length).take 32 = hL h := by
      unfold mid
      rw [List.take_length, hA, hz, List.append_assoc, List.drop_left, List.take_append_of_le_length (by rw [hL_length]; omega), List.take_of_length_le (by rw [hL_length]; omega)]
    rw [e, nB_hL hh]
  · rw [rdN, if_pos h0]; omega
theorem en_at {n z : Nat} (h : z = n) : enE n (z : Int) = 0 := by subst h; exact en0 (by omega) (by omega)
/-! ### one encoding alone -/
theorem mid1 {B : List UInt8} {a : Nat} (h : a < B.length) : mid B a (a + 1) = [B.getD a 0] := by
  rw [mid_snoc (by omega)]
  have h0 : (mid B a (a + 0)).length = 0 := by
    unfold mid
    rw [List.length_drop, List.length_take]; omega
  rw [List.length_eq_zero_iff.1 h0]; rfl
theorem mid_app {B : List UInt8} {a b c : Nat} (h1 : a ≤ b) (h2 : b ≤ c) (h3 : c ≤ B.length) : mid B a b ++ mid B b c = mid B a c := by
  unfold mid
  have e : B.take c = B.take b ++ (B.take c).drop b := by
    have := List.take_append_drop b (B.take c)
    rw [List.take_take, Nat.min_eq_left h2] at this
    exact this.symm
  conv => rhs; rw [e]
  rw [List.drop_append_of_le_length (by rw [List.length_take]; omega)]
theorem sz_canon {B : List UInt8} {q : Nat} (h : szE B 0 q = 0) : 0 < szN B 0 q ∧ szN B 0 q ≤ B.length ∧ szV B 0 q ≤ q ∧ szB (szV B 0 q) = mid B 0 (szN B 0 q).toNat := by
  unfold szE at h
  unfold szN szV
  by_cases h1 : rdE B.length 0 1 = 0
  · have i1 := rdE_in h1
    have n1 : rdN B.length 0 1 = 1 := by rw [rdN, if_pos h1]; rfl
    have v1 : rdV B 0 1 = gB B 0 := by rw [rdV, if_pos h1]; simp [leN]
    have m1 : mid B 0 1 = [ob ((gB B 0 : Nat) : Int)] := by rw [gB_ob]; exact mid1 (by omega)
    by_cases h2 : rdV B 0 1 < 253
    · by_cases h3 : q < rdV B 0 1
      · rw [sz_lim1 h1 h2 h3] at h; exact absurd h (by decide)
      · rw [sz_ok1 h1 h2 h3, n1]
        refine ⟨Int.zero_lt_one, (by omega : (1 : Int) ≤ B.length), by simpa using h3, ?_⟩
        show szB (rdV B 0 1) = mid B 0 1
        rw [szB, if_pos h2, v1, m1]
    · have h256 := rdV_lt B 0 1
      have key : ∀ m w l, rdV B 0 1 = m → 253 ≤ m → 2 ^ (m - 252) = w → szLeast m = l → w ≤ 8 → (∀ v, l ≤ v → v < 256 ^ w → szB v = ob (m : Int) :: leB v w) →
          0 < (szR B 0 q).2.1 ∧ (szR B 0 q).2.1 ≤ B.length ∧ (szR B 0 q).1 ≤ q ∧ szB (szR B 0 q).1 = mid B 0 ((szR B 0 q).2.1).toNat := by
        intro m w l hm h3 hw hl h8 hs
        by_cases h4 : rdE B.length (rdN B.length 0 1) w = 0
        · by_cases h5 : rdV B (rdN B.length 0 1) w < l
          · rw [sz_can2 (q := q) h1 hm h3 hw hl h4 h5] at h; exact absurd h (by decide)
          · by_cases h6 : q < rdV B (rdN B.length 0 1) w
            · rw [sz_lim2 (q := q) h1 hm h3 hw hl h4 h5 h6] at h; exact absurd h (by decide)
            · rw [sz_ok2 (q := q) h1 hm h3 hw hl h4 h5 h6]
              rw [n1] at h4 h5 h6 ⊢
              have i2 := rdE_in h4
              have n2 : rdN B.length 1 w = 1 + w := by rw [rdN, if_pos h4]
              have v2 : rdV B 1 w = leN B 1 w := by rw [rdV, if_pos h4]; rfl
              simp only [n2]
              refine ⟨by omega, by omega, by omega, ?_⟩
              rw [hs _ (by omega) (rdV_lt B 1 w), v2, leB_leN w (by omega), show ((1 : Int) + (w : Int)).toNat = 1 + w by omega, ← mid_app (a := 0) (b := 1) (c := 1 + w) (by omega) (by omega) (by omega), m1, ← hm, v1]
              rfl
        · rw [sz_err2 (q := q) h1 hm h3 hw rfl h4] at h; exact absurd h h4
      rcases (by omega : rdV B 0 1 = 253 ∨ rdV B 0 1 = 254 ∨ rdV B 0 1 = 255) with e | e | e
      · exact key 253 2 253 e (by omega) rfl rfl (by omega) (fun v h h' => by rw [szB, if_neg (by omega), if_pos h']; rfl)
      · exact key 254 4 65536 e (by omega) rfl rfl (by omega) (fun v h h' => by rw [szB, if_neg (by omega), if_neg (by omega), if_pos h']; rfl)
      · exact key 255 8 4294967296 e (by omega) rfl rfl (by omega) (fun v h h' => by rw [szB, if_neg (by omega), if_neg (by omega), if_neg (by omega)]; rfl)
  · rw [sz_err1 rfl h1] at h; exact absurd h h1
/-! ### texts, there and back -/
theorem dg_hexD {x : Nat} (h : x < 16) : dg (hexD x) = x ∧ dgB (hexD x) = true := by
  revert x
  decide
theorem gB_cons0 (x : UInt8) (B : List UInt8) : gB (x :: B) 0 = x.toNat := rfl
theorem gB_cons (x : UInt8) (B : List UInt8) (i : Nat) : gB (x :: B) (i + 1) = gB B i := rfl
theorem gB_hx (B : List UInt8) : ∀ j, j < B.length → gB (hxS B) (2 * j) = hexD (gB B j / 16) ∧ gB (hxS B) (2 * j + 1) = hexD (gB B j % 16) := by
  induction B with
  | nil => intro j h; simp at h
  | cons x B ih =>
    have hx := UInt8.toNat_lt x
    have e : hxS (x :: B) = ob ((hexD (x.toNat / 16) : Nat) : Int) :: ob ((hexD (x.toNat % 16) : Nat) : Int) :: hxS B := rfl
    intro j h
    cases j with
    | zero => exact ⟨ob_lt (hexD_lt (by omega)), ob_lt (hexD_lt (by omega))⟩
    | succ j =>
      have := ih j (by simpa using h)
      rw [e, gB_cons]
      exact this
theorem hx_digits (B : List UInt8) : ∀ i, i < 2 * B.length → dgB (gB (hxS B) i) = true := by
  intro i hi
  have h := gB_hx B (i / 2) (by omega)
  have h256 := gB_lt B (i / 2)
  rcases Nat.mod_two_eq_zero_or_one i with e | e
  · rw [show i = 2 * (i / 2) by omega, h.1]; exact (dg_hexD (by omega)).2
  · rw [show i = 2 * (i / 2) + 1 by omega, h.2]; exact (dg_hexD (by omega)).2
theorem hx_bytes (B : List UInt8) : uhP (hxS B) B.length = B := by
  apply List.ext_getElem
  · rw [uhP_length]
  · intro j h1 h2
    have h := gB_hx B j h2
    have h256 := gB_lt B j
    simp only [uhP, List.getElem_map, List.getElem_range]
    rw [uh1, h.1, h.2, (dg_hexD (by omega)).1, (dg_hexD (by omega)).1, show 16 * (gB B j / 16) + gB B j % 16 = gB B j by omega, gB_ob]
    simp [List.getD, List.getElem?_eq_getElem h2]
theorem hx_back {B : List UInt8} (h : B.length ≤ 200000) : uhR (hxS B) = (B, 0) := by
  have hl := hxS_length B
  refine uh_ok (i := (hxS B).length) (by omega) (by omega) (Nat.le_refl _) (fun j hj => hx_digits B j (by omega)) ?_
  rw [hl, show 2 * B.length / 2 = B.length by omega, hx_bytes]
theorem hx_back_x {B : List UInt8} (h : B.length ≤ 200000) : uhX (hxS B) = B := (uh_x (hx_back h)).symm
theorem hx_back_e {B : List UInt8} (h : B.length ≤ 200000) : uhE (hxS B) = 0 := by unfold uhE; rw [hx_back h]
/-! ### long texts -/
def limC (N i : Nat) : Array Value := (bs (List.replicate i 102 ++ List.replicate (N - i) 0)).toArray
theorem lim_size {N i : Nat} (h : i ≤ N) : (limC N i).size = N := by simp [limC, bs]; omega
theorem lim_set {N i : Nat} (h : i < N) : (limC N i).setIfInBounds i (.int .u8 102) = limC N (i + 1) := by
  apply Array.ext'
  unfold limC
  simp only [Array.toList_setIfInBounds]
  obtain ⟨m, hm⟩ : ∃ m, N - i = m + 1 := ⟨N - i - 1, by omega⟩
  rw [hm, show N - (i + 1) = m by omega, List.replicate_succ' (n := i), bs_app, bs_app, bs_app]
  have hl : (bs (List.replicate i (102 : UInt8))).length = i := by rw [bs_length, List.length_replicate]
  rw [List.set_append_right _ _ (by omega), hl, Nat.sub_self, List.append_assoc]
  rfl
theorem lim_end {N i : Nat} (h : i = N) : List.replicate i (102 : UInt8) ++ List.replicate (N - i) 0 = List.replicate N 102 := by subst h; simp
theorem gB_rep {N i : Nat} (h : i < N) : gB (List.replicate N 102) i = 102 := by
  unfold gB
  simp [List.getD, List.getElem?_replicate, h]
theorem lim4 {N : Nat} (h : 400000 < N) : uhX (List.replicate N 102) = [] ∧ uhE (List.replicate N 102) = 4 := by
  unfold uhX uhE
  rw [uh4 (by rw [List.length_replicate]; exact h)]
  exact ⟨rfl, rfl⟩
theorem lim7 {N : Nat} (h : ¬ 400000 < N) (h1 : N % 2 = 1) : uhX (List.replicate N 102) = [] ∧ uhE (List.replicate N 102) = 7 := by
  unfold uhX uhE
  rw [uh7 (by rw [List.length_replicate]; exact h) (by rw [List.length_replicate]; omega)]
  exact ⟨rfl, rfl⟩
theorem lim0 {N : Nat} (h : ¬ 400000 < N) (h1 : N % 2 = 0) : (uhX (List.replicate N 102)).length = N / 2 ∧ uhE (List.replicate N 102) = 0 := by
  have e := uh_ok (S := List.replicate N 102) (i := N) (by rw [List.length_replicate]; exact h) (by rw [List.length_replicate]; exact h1) (by rw [List.length_replicate]; exact Nat.le_refl _) (fun j hj => by rw [gB_rep hj]; decide) rfl
  rw [← uh_x e, uhP_length, List.length_replicate]
  refine ⟨rfl, ?_⟩
  unfold uhE
  rw [e]
end Go.Proofs.Ytclccfibfkcagaa
