/-
  What the walks of this seat share, part 5: the texts of it, one behind the other.
-/
import Derived.Test.YtlkbhiaoolddmaaDoorBase4
set_option maxRecDepth 100000

/-! Numbers that are taken from a list one after the other, in plain words. -/
namespace Go.Proofs.YtlkbhiaoolddmaaDoor
open Go

/-- The remainder, from 0 on. -/
def dm (v : Int) (n : Nat) : Nat := (v % (n : Int)).toNat
theorem dm_lt (v : Int) {n : Nat} (hn : 0 < n) : dm v n < n := by
  unfold dm
  have := Int.emod_nonneg v (b := (n : Int)) (by omega)
  have := Int.emod_lt_of_pos v (b := (n : Int)) (by omega)
  omega
/-- The place behind j numbers; the number at a place. -/
def pN (zs : List Int) (j : Nat) : Nat := min j zs.length
def dN (zs : List Int) (j n : Nat) : Nat := if j < zs.length then dm (gI zs j) n else 0
theorem dN_lt (zs : List Int) (j : Nat) {n : Nat} (hn : 0 < n) : dN zs j n < n := by
  unfold dN
  split
  · exact dm_lt _ hn
  · exact hn
theorem pN_le (zs : List Int) (j : Nat) : pN zs j ≤ zs.length := Nat.min_le_right _ _
theorem pN_zero (zs : List Int) : pN zs 0 = 0 := Nat.zero_min _
theorem pN_lt {zs : List Int} {j : Nat} (h : pN zs j < zs.length) : j < zs.length ∧ pN zs j = j := by unfold pN at *; omega
theorem pN_ge {zs : List Int} {j : Nat} (h : ¬ pN zs j < zs.length) : ¬ j < zs.length ∧ pN zs (j + 1) = pN zs j := by unfold pN at *; omega
theorem pN_succ {zs : List Int} {j : Nat} (h : pN zs j < zs.length) : pN zs (j + 1) = pN zs j + 1 := by unfold pN at *; omega
theorem dN_yes {zs : List Int} {j n : Nat} (h : pN zs j < zs.length) : dm (gI zs (pN zs j)) n = dN zs j n := by
  obtain ⟨h1, h2⟩ := pN_lt h
  unfold dN
  rw [if_pos h1, h2]
theorem dN_no {zs : List Int} {j n : Nat} (h : ¬ pN zs j < zs.length) : 0 = dN zs j n := by
  unfold dN
  rw [if_neg (pN_ge h).1]
theorem mod_pos {v : Int} {n : Nat} (h : ¬ Int.tmod v n < 0) : Int.tmod v n = ((dm v n : Nat) : Int) := by
  unfold dm
  rcases Nat.eq_zero_or_pos n with h0 | h0
  · subst h0
    simp at h ⊢
    omega
  · have e := Int.emod_nonneg v (b := (n : Int)) (by omega)
    have e2 := Int.emod_lt_of_pos v (b := (n : Int)) (by omega)
    have h2 := Int.tmod_eq_emod (a := v) (b := (n : Int))
    rw [Int.natAbs_natCast] at h2
    split at h2 <;> omega
theorem mod_neg {v : Int} {n : Nat} (hn : 0 < n) (h : Int.tmod v n < 0) : Int.tmod v n + n = ((dm v n : Nat) : Int) := by
  unfold dm
  have e := Int.emod_nonneg v (b := (n : Int)) (by omega)
  have e2 := Int.emod_lt_of_pos v (b := (n : Int)) (by omega)
  have h2 := Int.tmod_eq_emod (a := v) (b := (n : Int))
  rw [Int.natAbs_natCast] at h2
  split at h2 <;> omega
/-- A digest with a first and a last byte. -/
def hs2 (a b : Nat) : Nat := a * 256 ^ 31 + b
theorem hs2_lt {a b : Nat} (ha : a < 256) (hb : b < 256) : hs2 a b < M := by
  unfold hs2
  rw [M_eq]
  have : a * 256 ^ 31 ≤ 255 * 256 ^ 31 := Nat.mul_le_mul_right _ (by omega)
  omega
theorem hs2_byt {a b : Nat} (ha : a < 256) (hb : b < 256) (i : Nat) (hi : i < 32) : bN (hs2 a b) i = if i = 0 then a else if i = 31 then b else 0 := by
  unfold bN hs2
  by_cases h0 : i = 0
  · subst h0
    rw [if_pos rfl]
    omega
  · rw [if_neg h0]
    by_cases h1 : i = 31
    · subst h1
      rw [if_pos rfl]
      omega
    · rw [if_neg h1]
      obtain ⟨j, hj⟩ : ∃ j, 31 - i = j + 1 := ⟨30 - i, by omega⟩
      have e1 : 256 ^ 31 = 256 ^ (31 - i) * 256 ^ i := by rw [← Nat.pow_add]; congr 1; omega
      have e2 : b / 256 ^ (31 - i) = 0 := Nat.div_eq_of_lt (Nat.lt_of_lt_of_le hb (by rw [hj]; exact Nat.le_self_pow (by omega) 256))
      rw [e1, Nat.mul_comm a, Nat.mul_assoc, Nat.mul_add_div (Nat.pow_pos (by decide)), e2, Nat.add_zero, Nat.mul_comm]
      obtain ⟨q, hq⟩ : ∃ q, i = q + 1 := ⟨i - 1, by omega⟩
      rw [hq, Nat.pow_succ, ← Nat.mul_assoc]
      exact Nat.mul_mod_left _ _
theorem hs2_agg {a b : Nat} (ha : a < 256) (hb : b < 256) : Value.agg #[.int .u8 ((a : Nat) : Int), .int .u8 0, .int .u8 0, .int .u8 0, .int .u8 0, .int .u8 0, .int .u8 0, .int .u8 0, .int .u8 0, .int .u8 0, .int .u8 0, .int .u8 0, .int .u8 0, .int .u8 0, .int .u8 0, .int .u8 0, .int .u8 0, .int .u8 0, .int .u8 0, .int .u8 0, .int .u8 0, .int .u8 0, .int .u8 0, .int .u8 0, .int .u8 0, .int .u8 0, .int .u8 0, .int .u8 0, .int .u8 0, .int .u8 0, .int .u8 0, .int .u8 ((b : Nat) : Int)] = .agg (hB (hs2 a b)) := by
  congr 1
  apply hB_ext rfl
  intro j hj
  rw [byt_bN, hs2_byt ha hb j hj]
  match j, hj with
  | 0, _ => rfl
  | 1, _ => rfl
  | 2, _ => rfl
  | 3, _ => rfl
  | 4, _ => rfl
  | 5, _ => rfl
  | 6, _ => rfl
  | 7, _ => rfl
  | 8, _ => rfl
  | 9, _ => rfl
  | 10, _ => rfl
  | 11, _ => rfl
  | 12, _ => rfl
  | 13, _ => rfl
  | 14, _ => rfl
  | 15, _ => rfl
  | 16, _ => rfl
  | 17, _ => rfl
  | 18, _ => rfl
  | 19, _ => rfl
  | 20, _ => rfl
  | 21, _ => rfl
  | 22, _ => rfl
  | 23, _ => rfl
  | 24, _ => rfl
  | 25, _ => rfl
  | 26, _ => rfl
  | 27, _ => rfl
  | 28, _ => rfl
  | 29, _ => rfl
  | 30, _ => rfl
  | 31, _ => rfl
  | j + 32, h => exact absurd h (by omega)
/-! ### keys that are made -/
def mkX (zs : List Int) (j : Nat) : Nat := 1 + dN zs j 4
def mkK (zs : List Int) (j : Nat) (b : Bool) : Ky := { s := if b = true then mkX zs j else 0, p := pubV (mkX zs j), c := hs2 (dN zs (j + 1) 5) (dN zs (j + 2) 7), d := ((dN zs (j + 3) 3 : Nat) : Int), i := dN zs (j + 4) 5, n := dN zs (j + 5) 5 }
theorem mkX_pos (zs : List Int) (j : Nat) : 1 ≤ mkX zs j ∧ mkX zs j < 5 := by
  have := dN_lt zs j (n := 4) (by decide)
  unfold mkX
  omega
theorem small_lt {x : Nat} (h : x < 256) : x < M := by rw [M_eq]; exact Nat.lt_trans h (by decide)
theorem mkX_lt (zs : List Int) (j : Nat) : mkX zs j < M := small_lt (by have := mkX_pos zs j; omega)
theorem mkX_sec (zs : List Int) (j : Nat) : secB (mkX zs j) = true := by
  have := mkX_pos zs j
  unfold secB
  apply decide_eq_true
  exact ⟨by omega, Nat.lt_trans (show mkX zs j < 5 by omega) (by unfold qP; decide)⟩
theorem mkK_ok (zs : List Int) (j : Nat) (b : Bool) : (mkK zs j b).Ok := by
  have h1 := dN_lt zs (j + 1) (n := 5) (by decide)
  have h2 := dN_lt zs (j + 2) (n := 7) (by decide)
  have h4 := dN_lt zs (j + 4) (n := 5) (by decide)
  have h5 := dN_lt zs (j + 5) (n := 5) (by decide)
  exact ⟨ifM (mkX_lt _ _) zeroM, pubV_lt _, hs2_lt (by omega) (by omega), by show dN zs (j + 4) 5 < _; omega, by show dN zs (j + 5) 5 < _; omega⟩
theorem mkK_snd (zs : List Int) (j : Nat) (b : Bool) : sndB (mkK zs j b) = true := by
  have h3 := dN_lt zs (j + 3) (n := 3) (by decide)
  have hs := mkX_sec zs j
  refine snd_mk (by show 0 ≤ ((dN zs (j + 3) 3 : Nat) : Int); omega) (by show ((dN zs (j + 3) 3 : Nat) : Int) ≤ 8; omega) ?_ ?_
  · show valB (pubV (mkX zs j)) = true
    rw [(pub_yes hs).1]; exact val_pub hs
  · show (if b = true then mkX zs j else 0) = 0 ∨ (secB (if b = true then mkX zs j else 0) = true ∧ pubV (if b = true then mkX zs j else 0) = pubV (mkX zs j))
    cases b
    · exact Or.inl rfl
    · exact Or.inr ⟨hs, rfl⟩
end Go.Proofs.YtlkbhiaoolddmaaDoor

/-! Trees of keys: roots, made paths, and the last equations of codes. -/
namespace Go.Proofs.YtlkbhiaoolddmaaDoor
open Go

theorem len74 {B : List UInt8} (h : ((((B).length : Nat) : Int) != 74) = false) : B.length = 74 := by
  have : ((B.length : Nat) : Int) = 74 := by simpa using h
  omega
theorem len74n {B : List UInt8} (h : ((((B).length : Nat) : Int) != 74) = true) : B.length ≠ 74 := by
  intro e
  rw [e] at h
  exact absurd h (by decide)
theorem b01 {x : Nat} (h : (((x : Nat) : Int) == 0) = true) : x = 0 := by
  have : ((x : Nat) : Int) = 0 := by simpa using h
  omega
theorem b00 {x : Nat} (h : (((x : Nat) : Int) == 0) = false) : x ≠ 0 := by
  intro e; subst e; exact absurd h (by decide)
/-! ### roots -/
def msX (S : List UInt8) : Nat := addmN (tagN tgM S) 0 qP
def msE (S : List UInt8) : Int := if S.length < 16 ∨ 64 < S.length then 5 else pubE (msX S)
def msK (S : List UInt8) : Ky := if msE S = 0 then ⟨msX S, pubV (msX S), tagN tgI S, 0, 0, 0⟩ else Ky.z
theorem msK_ok (S : List UInt8) : (msK S).Ok := by
  unfold msK
  split
  · exact ⟨addmN_lt _ _ qP_lt, pubV_lt _, tagN_lt _ _, by show (0 : Nat) < 4294967296; decide, by show (0 : Nat) < 4294967296; decide⟩
  · exact Ky.z_ok
theorem ms_5 {S : List UInt8} (h : S.length < 16 ∨ 64 < S.length) : msE S = 5 ∧ msK S = Ky.z := by
  have e : msE S = 5 := if_pos h
  exact ⟨e, by unfold msK; rw [e]; rfl⟩
theorem ms_E {S : List UInt8} (h : ¬ (S.length < 16 ∨ 64 < S.length)) : msE S = pubE (msX S) := if_neg h
theorem ms_0 {S : List UInt8} (h : ¬ (S.length < 16 ∨ 64 < S.length)) (hx : addmN (tagN tgM S) 0 qP = 0) : msE S = 60 ∧ msK S = Ky.z := by
  have hs : secB (msX S) = false := by
    unfold secB
    rw [decide_eq_false (fun q => q.1 hx)]
  have e : msE S = 60 := (ms_E h).trans (pub_no hs).2
  exact ⟨e, by unfold msK; rw [e]; rfl⟩
theorem ms_e {S : List UInt8} (h : ¬ (S.length < 16 ∨ 64 < S.length)) (hx : pubE (addmN (tagN tgM S) 0 qP) ≠ 0) : msE S = pubE (addmN (tagN tgM S) 0 qP) ∧ msK S = Ky.z := by
  have e : msE S = pubE (msX S) := ms_E h
  exact ⟨e, by unfold msK; rw [if_neg (by rw [e]; exact hx)]⟩
theorem ms_k {S : List UInt8} (h : ¬ (S.length < 16 ∨ 64 < S.length)) (hx : pubE (addmN (tagN tgM S) 0 qP) = 0) : msE S = 0 ∧ msK S = ⟨addmN (tagN tgM S) 0 qP, pubV (addmN (tagN tgM S) 0 qP), tagN tgI S, 0, 0, 0⟩ := by
  have e : msE S = 0 := (ms_E h).trans hx
  exact ⟨e, by unfold msK; rw [if_pos e]; rfl⟩
section
variable {S : List UInt8} {t y x : Nat} (et : tagN tgM S = t) (ey : tagN tgI S = y) (ex : addmN t 0 qP = x) (h : ¬ (S.length < 16 ∨ 64 < S.length))
include et ex h
theorem msn_0 (hx : x = 0) : msE S = 60 ∧ msK S = Ky.z := by subst et ex; exact ms_0 h hx
theorem msn_e (hx : pubE x ≠ 0) : msE S = pubE x ∧ msK S = Ky.z := by subst et ex; exact ms_e h hx
include ey
theorem msn_k (hx : pubE x = 0) : msE S = 0 ∧ msK S = ⟨x, pubV x, y, 0, 0, 0⟩ := by subst et ey ex; exact ms_k h hx
end
/-! ### a path that is made -/
def dvn (zs : List Int) (j : Nat) : Nat := dN zs (j + 6) 3
def dvP (zs : List Int) (j : Nat) : List Nat := (List.range (dvn zs j)).map fun m => dN zs (j + 7 + m) 5
theorem dvP_soft (zs : List Int) (j : Nat) : ∀ i ∈ dvP zs j, i < 5 := by
  intro i hi
  obtain ⟨m, _, rfl⟩ := List.mem_map.1 hi
  exact dN_lt _ _ (by decide)
theorem dvP_hd (zs : List Int) (j : Nat) : ∀ i ∈ dvP zs j, hdB i = false := fun i hi => decide_eq_false (by have := dvP_soft zs j i hi; omega)
theorem dvP_32 (zs : List Int) (j : Nat) : ∀ i ∈ dvP zs j, i < 4294967296 := fun i hi => by have := dvP_soft zs j i hi; omega
theorem dvP_len (zs : List Int) (j : Nat) : (dvP zs j).length < 3 := by
  unfold dvP
  rw [List.length_map, List.length_range]
  exact dN_lt _ _ (by decide)
theorem dvn_0 {zs : List Int} {j : Nat} (h : decide (0 < ((dN zs (j + 6) 3 : Nat) : Int)) = false) : dvn zs j = 0 := by have := of_decide_eq_false h; unfold dvn; omega
theorem dvn_1 {zs : List Int} {j : Nat} (h : decide (0 < ((dN zs (j + 6) 3 : Nat) : Int)) = true) (h2 : decide (0 < ((dN zs (j + 6) 3 - 1 : Nat) : Int)) = false) : dvn zs j = 1 := by
  have := of_decide_eq_true h; have := of_decide_eq_false h2; unfold dvn; omega
theorem dvn_2 {zs : List Int} {j : Nat} (h2 : decide (0 < ((dN zs (j + 6) 3 - 1 : Nat) : Int)) = true) : dvn zs j = 2 := by
  have := of_decide_eq_true h2; have := dN_lt zs (j + 6) (n := 3) (by decide); unfold dvn; omega
theorem dvP_0 {zs : List Int} {j : Nat} (h : dvn zs j = 0) : nI (dvP zs j) = [] := by unfold dvP; rw [h]; rfl
theorem dvP_1 {zs : List Int} {j : Nat} (h : dvn zs j = 1) : nI (dvP zs j) = [((dN zs (j + 7) 5 : Nat) : Int)] := by unfold dvP; rw [h]; rfl
theorem dvP_2 {zs : List Int} {j : Nat} (h : dvn zs j = 2) : nI (dvP zs j) = [((dN zs (j + 7) 5 : Nat) : Int), ((dN zs (j + 8) 5 : Nat) : Int)] := by unfold dvP; rw [h]; rfl
end Go.Proofs.YtlkbhiaoolddmaaDoor

/-! Descriptors: key paths: the walks. -/
namespace Go.Proofs.YtlkbhiaoolddmaaDoor
open Go Go.RowKit

theorem dhard_any (x : Nat) (w0 : World) : Calls Tryd.prog 32 #[(.int .u32 ((x : Nat) : Int))] w0 (fun ε w' => ε = .returned (.bool (hdB x)) ∧ Below w0.heap.size w0 w') := by
  refine Calls.of_ok (n := 5) (F := (fun _ => True)) Tryd.func32 rfl rfl rfl (by simp) (persTrue (fun _ => trivial)) ?_
  refine sS Tryd.f32 1 [0, 2] [] (fun _ => [(.bool false)]) (fun _ => []) (cR [[]] <| cN) (fun _ => ?_)
  refine sS Tryd.f32 3 [2] [] (fun _ => [(.int .u32 ((x : Nat) : Int)), (.bool (decide (2147483648 ≤ ((x : Nat) : Int)))), (.bool (decide (2147483648 ≤ ((x : Nat) : Int))))]) (fun _ => []) (cR [[], [], []] <| cN) (fun _ => ?_)
  refine ok_ret ?_
  exact mR (v := (.bool (decide (2147483648 ≤ ((x : Nat) : Int))))) (fun _ hS => ⟨congrArg (fun x => Ending.returned (.bool x)) (hd_dec x), hS.bel⟩)

theorem ixfunc_any (a : Option Addr) (c : Nat) (ps : List Nat) (w0 : World) (hf0 : Is w0 .u32 a c (nI ps)) : Calls Tryd.prog 41 #[(.slice a (nI ps).length c), (.func (.func 32) #[] #[])] w0 (fun ε w' => ε = .returned (.int .i64 (ixA ps 0)) ∧ Below w0.heap.size w0 w') := by
  refine Calls.of_ok (n := 19) (F := (fun w => Is w .u32 a c (nI ps) ∧ True)) Tryd.func41 rfl rfl rfl (by simp) (hf0.pers0.and persT) ?_
  have hlen : (nI ps).length ≤ 140737488351232 := hf0.max
  refine sS Tryd.f41 1 [0, 1, 4] [] (fun _ => [(.int .i64 0)]) (fun _ => []) (cR [[]] <| cN) (fun _ => ?_)
  refine ok_seq ?_
  refine sS Tryd.f41 3 [0, 1, 4, 7, 8] [] (fun _ => [(.slice a (nI ps).length c), (.int .i64 (((nI ps).length : Nat) : Int)), (.int .i64 0)]) (fun _ => []) (cR [[], [], []] <| cN) (fun _ => ?_)
  refine ok_block ?_
  refine oL (σ := Nat) (fun i => [(0, (.slice a (nI ps).length c)), (1, (.func (.func 32) #[] #[])), (7, (.int .i64 (((nI ps).length : Nat) : Int))), (8, (.int .i64 ((i : Nat) : Int)))]) (fun _ => []) (fun i => (nI ps).length - i)
    (fun i => (i ≤ (nI ps).length) ∧ (ixA (ps.drop i) i = ixA ps 0)) 0 (⟨Nat.zero_le _, rfl⟩) [] ?_
  rintro i ⟨hi, hr⟩
  change Ok Tryd.prog _ _ 19 [(0, (.slice a (nI ps).length c)), (1, (.func (.func 32) #[] #[])), (7, (.int .i64 (((nI ps).length : Nat) : Int))), (8, (.int .i64 ((i : Nat) : Int)))] _ [] (fun w => Is w .u32 a c (nI ps) ∧ True)
  refine sS Tryd.f41 1 [0, 1, 7, 8, 9] [] (fun _ => [(.bool (decide (((i : Nat) : Int) < (((nI ps).length : Nat) : Int))))]) (fun _ => []) (cR [[]] <| cN) (fun _ => ?_)
  refine ok_seq ?_
  refine oC (decide (((i : Nat) : Int) < (((nI ps).length : Nat) : Int))) (fun hb1 => ?_) (fun hb1 => ?_)
  ·
    rw [hb1]
    refine ok_skip ?_
    refine mt_then ?_
    refine ok_seq ?_
    refine ok_block ?_
    refine sS Tryd.f41 2 [0, 1, 5, 7, 8] [] (fun _ => [(.int .i64 ((i : Nat) : Int)), (.int .i64 ((i : Nat) : Int))]) (fun _ => []) (cR [[], []] <| cN) (fun _ => ?_)
    refine sS Tryd.f41 6 [0, 1, 5, 7, 8, 16] [] (fun _ => [(.func (.func 32) #[] #[]), (.slice a (nI ps).length c), (.int .i64 ((i : Nat) : Int)), (.pointer (adr a i)), (.int .u32 (((ps).getD i 0 : Nat) : Int)), (.bool (hdB ((ps).getD i 0)))]) (fun _ => []) (cR [[], [], []] <| cX (o_semF _ (fun _ => do pure (Next.value (← Instr.indexAt 46 (.slice a (nI ps).length c) (.int .i64 ((i : Nat) : Int))))) (fun _ => (.pointer (adr a i))) (fun _ => (by kernel_rfl)) (fun _ => (by kernel_rfl)) (fun _ _ _ hG => idx_ints Tryd.underlying46 Tryd.sizeOf34 hG.facts0.now.1 rfl ((show ((i : Nat) : Int) = ((i : Nat) : Int) ∧ i < (nI ps).length from ⟨rfl, (by have := of_decide_eq_true hb1; have := hlen; have := hi; omega)⟩)).1 ((show ((i : Nat) : Int) = ((i : Nat) : Int) ∧ i < (nI ps).length from ⟨rfl, (by have := of_decide_eq_true hb1; have := hlen; have := hi; omega)⟩)).2) (fun _ _ _ _ => persT)) <| cX (o_semF _ (fun _ => do pure (Next.value (← Instr.loadAt 34 (.pointer (adr a i))))) (fun _ => (.int .u32 (((ps).getD i 0 : Nat) : Int))) (fun _ => (by kernel_rfl)) (fun _ => (by kernel_rfl)) (fun _ _ _ hG => (ld_ints Tryd.isAgg34 hG.facts0.now.1 ((show ((i : Nat) : Int) = ((i : Nat) : Int) ∧ i < (nI ps).length from ⟨rfl, (by have := of_decide_eq_true hb1; have := hlen; have := hi; omega)⟩)).2).trans (by rw [nI_get])) (fun _ _ _ _ => persT)) <| cC (fun _ w => dhard_any ((ps).getD i 0) w) <| cN) (fun _ => ?_)
    refine oC (hdB ((ps).getD i 0)) (fun hb2 => ?_) (fun hb2 => ?_)
    ·
      rw [hb2]
      refine sS Tryd.f41 2 [0, 1, 4, 7, 8] [] (fun _ => [(.int .i64 ((i : Nat) : Int)), (.int .i64 ((i : Nat) : Int))]) (fun _ => []) (cR [[], []] <| cN) (fun _ => ?_)
      refine ok_ret ?_
      refine mt_block_r ?_
      refine mt_then_r ?_
      refine mt_then_r ?_
      refine mt_block_r ?_
      refine mt_then_r ?_
      exact mR (v := (.int .i64 ((i : Nat) : Int))) (fun _ hS => ⟨congrArg (fun x => Ending.returned (.int .i64 x)) (ix_stop (by have := nI_len ps; have := of_decide_eq_true hb1; have := hlen; have := hi; omega) hb2 hr), hS.bel⟩)
    ·
      rw [hb2]
      refine ok_skip ?_
      refine mt_block_n ?_
      refine mt_then ?_
      refine rS Tryd.f41 2 [0, 1, 7, 8] [] (fun _ => [(.int .i64 ((i + 1 : Nat) : Int)), (.int .i64 ((i + 1 : Nat) : Int))]) (fun _ => []) (cA (v := fun ρ => (.int .i64 (IntKind.i64.wrap (((i : Nat) : Int) + 1)))) (fun _ => (.int .i64 ((i + 1 : Nat) : Int))) (fun _ => congrArg (Value.int .i64) (wrap_addN i 1 (by have := of_decide_eq_true hb1; have := hlen; have := hi; omega))) <| cR [[]] <| cN) (fun _ => ?_)
      exact mN (i + 1) (by show (nI ps).length - (i + 1) < (nI ps).length - i; have := of_decide_eq_true hb1; have := hlen; have := hi; omega) (⟨(by have := of_decide_eq_true hb1; have := hlen; have := hi; omega), ix_next (by have := nI_len ps; have := of_decide_eq_true hb1; have := hlen; have := hi; omega) hb2 hr⟩) []
  ·
    rw [hb1]
    refine ok_exit ?_
    refine mt_then_e ?_
    refine mt_then_e ?_
    refine mt_block_h ?_
    refine mt_then ?_
    refine sS Tryd.f41 1 [4] [] (fun _ => [(.int .i64 (-1))]) (fun _ => []) (cR [[]] <| cN) (fun _ => ?_)
    refine ok_ret ?_
    exact mR (v := (.int .i64 (-1))) (fun _ hS => ⟨congrArg (fun x => Ending.returned (.int .i64 x)) (ix_end (by have := nI_len ps; have := of_decide_eq_false hb1; have := hlen; have := hi; omega) hr), hS.bel⟩)

theorem cofunc_any (a : Option Addr) (c : Nat) (ps : List Nat) (w0 : World) (hf0 : Is w0 .u32 a c (nI ps)) : Calls Tryd.prog 31 #[(.slice a (nI ps).length c), (.func (.func 32) #[] #[])] w0 (fun ε w' => ε = .returned (.bool (ps.any hdB)) ∧ Below w0.heap.size w0 w') := by
  refine Calls.of_ok (n := 9) (F := (fun w => Is w .u32 a c (nI ps) ∧ True)) Tryd.func31 rfl rfl rfl (by simp) (hf0.pers0.and persT) ?_
  refine sS Tryd.f31 1 [0, 1, 4] [] (fun _ => [(.bool false)]) (fun _ => []) (cR [[]] <| cN) (fun _ => ?_)
  refine sS Tryd.f31 5 [4] [] (fun _ => [(.slice a (nI ps).length c), (.func (.func 32) #[] #[]), (.int .i64 (ixA ps 0)), (.bool (decide (0 ≤ (ixA ps 0)))), (.bool (decide (0 ≤ (ixA ps 0))))]) (fun _ => []) (cR [[], []] <| cX (o_callP _ 41 (fun _ => #[(.slice a (nI ps).length c), (.func (.func 32) #[] #[])]) (fun _ => (.int .i64 (ixA ps 0))) (fun _ _ => (by kernel_rfl)) (fun _ => (by kernel_rfl)) (fun _ _ => (by kernel_rfl)) (fun _ _ => trivial) (fun _ _ w hG => ixfunc_any a c ps w hG.facts0.now.1)) <| cR [[], []] <| cN) (fun _ => ?_)
  refine ok_ret ?_
  exact mR (v := (.bool (decide (0 ≤ (ixA ps 0))))) (fun _ hS => ⟨congrArg (fun x => Ending.returned (.bool x)) (ixA_any ps 0), hS.bel⟩)

theorem dvpath_any (p : KpA) (hp : p.Ok) (w0 : World) (hf0 : Is w0 .u32 p.pa p.pc (nI p.ps)) : Calls Tryd.prog 22 #[(.agg (kpV p.k.s p.k.p p.k.c p.k.d ((p.k.i : Nat) : Int) ((p.k.n : Nat) : Int) (.slice p.pa (nI p.ps).length p.pc) (.bool p.wd)))] w0 (fun ε w' => ε = .returned (.bool (KpA.vp p)) ∧ Below w0.heap.size w0 w') := by
  refine Calls.of_ok (n := 40) (F := (fun w => Is w .u32 p.pa p.pc (nI p.ps) ∧ True)) Tryd.func22 rfl rfl rfl (by simp) (hf0.pers0.and persT) ?_
  have hlen : (nI p.ps).length ≤ 140737488351232 := hf0.max
  have hnl : (nI p.ps).length = p.ps.length := nI_len p.ps
  refine sS Tryd.f22 2 [1, 2] [] (fun ρ => [(pt (nb ρ 0)), (.bool false)]) (fun ρ => [(0, { news := [(nb ρ 0, (.cells (kpV p.k.s p.k.p p.k.c p.k.d ((p.k.i : Nat) : Int) ((p.k.n : Nat) : Int) (.slice p.pa (nI p.ps).length p.pc) (.bool p.wd)) 48 (0, 0)))] })]) (cR [[], []] <| cN) (fun ρ1 => ?_)
  refine ok_seq ?_
  rcases Bool.eq_false_or_eq_true (decide (8 < (((nI p.ps).length : Nat) : Int))) with hb1 | hb1
  ·
    refine sS Tryd.f22 10 [1, 2, 14] [] (fun _ => [(.pointer (some ⟨nb ρ1 0, 43, none⟩)), (.slice p.pa (nI p.ps).length p.pc), (.int .i64 (((nI p.ps).length : Nat) : Int)), (.bool true), (.bool true), undef, undef, undef, undef, (.bool true)]) (fun _ => []) (cR [[], [0], []] <| cA (fun _ => (.bool true)) (fun _ => congrArg Value.bool hb1) <| cR [[], [], [], [], [], []] <| cN) (fun _ => ?_)
    refine oY ?_
    refine sS Tryd.f22 1 [1, 2] [] (fun _ => [(.bool false)]) (fun _ => []) (cR [[]] <| cN) (fun _ => ?_)
    refine ok_ret ?_
    refine mt_then_r ?_
    exact mR (v := (.bool false)) (fun _ hS => ⟨congrArg (fun x => Ending.returned (.bool x)) (vp_1 (by have := hnl; have := of_decide_eq_true hb1; have := hlen; omega)), hS.bel⟩)
  ·
    refine sS Tryd.f22 10 [1, 2, 14] [] (fun _ => [(.pointer (some ⟨nb ρ1 0, 43, none⟩)), (.slice p.pa (nI p.ps).length p.pc), (.int .i64 (((nI p.ps).length : Nat) : Int)), (.bool false), (.bool false), (pt (nb ρ1 0)), (.agg (kC p.k.s p.k.p p.k.c p.k.d ((p.k.i : Nat) : Int) ((p.k.n : Nat) : Int))), (.bool (sndB p.k)), (.bool (!(sndB p.k))), (.bool (!(sndB p.k)))]) (fun _ => []) (cR [[], [0], []] <| cA (fun _ => (.bool false)) (fun _ => congrArg Value.bool hb1) <| cR [[], [], [0]] <| cC (fun _ w => ksound_any p.k hp.k w) <| cR [[], []] <| cN) (fun _ => ?_)
    refine oC (!(sndB p.k)) (fun hb2 => ?_) (fun hb2 => ?_)
    ·
      rw [hb2]
      refine sS Tryd.f22 1 [1, 2] [] (fun _ => [(.bool false)]) (fun _ => []) (cR [[]] <| cN) (fun _ => ?_)
      refine ok_ret ?_
      refine mt_then_r ?_
      exact mR (v := (.bool false)) (fun _ hS => ⟨congrArg (fun x => Ending.returned (.bool x)) (vp_2 (not_t hb2)), hS.bel⟩)
    ·
      rw [hb2]
      refine ok_skip ?_
      refine mt_then ?_
      refine sS Tryd.f22 8 [1, 2, 3] [] (fun _ => [(pt (nb ρ1 0)), (.pointer (some ⟨nb ρ1 0, 40, none⟩)), (.int .i64 p.k.d), (.pointer (some ⟨nb ρ1 0, 43, none⟩)), (.slice p.pa (nI p.ps).length p.pc), (.int .i64 (((nI p.ps).length : Nat) : Int)), (.int .i64 (p.k.d + (((nI p.ps).length : Nat) : Int))), (.int .i64 (p.k.d + (((nI p.ps).length : Nat) : Int)))]) (fun _ => []) (cR [[], [], [0], [], [0], []] <| cA (v := fun ρ => (.int .i64 (IntKind.i64.wrap (p.k.d + (((nI p.ps).length : Nat) : Int))))) (fun _ => (.int .i64 (p.k.d + (((nI p.ps).length : Nat) : Int)))) (fun _ => congrArg (Value.int .i64) (i64N (by have := snd_get (not_f hb2); have := hnl; have := of_decide_eq_false hb1; have := hlen; omega))) <| cR [[]] <| cN) (fun _ => ?_)
      refine ok_seq ?_
      refine sS Tryd.f22 2 [1, 2, 3, 23] [] (fun _ => [(.pointer (some ⟨nb ρ1 0, 44, none⟩)), (.bool p.wd)]) (fun _ => []) (cR [[], [0]] <| cN) (fun _ => ?_)
      refine oC (p.wd) (fun hb3 => ?_) (fun hb3 => ?_)
      ·
        rw [hb3]
        refine rS Tryd.f22 3 [1, 2, 3] [] (fun _ => [(.int .i64 (p.k.d + (((nI p.ps).length : Nat) : Int))), (.int .i64 (p.k.d + (((nI p.ps).length : Nat) : Int) + 1)), (.int .i64 (p.k.d + (((nI p.ps).length : Nat) : Int) + 1))]) (fun _ => []) (cR [[]] <| cA (v := fun ρ => (.int .i64 (IntKind.i64.wrap ((p.k.d + (((nI p.ps).length : Nat) : Int)) + 1)))) (fun _ => (.int .i64 (p.k.d + (((nI p.ps).length : Nat) : Int) + 1))) (fun _ => congrArg (Value.int .i64) (i64N (by have := snd_get (not_f hb2); have := hnl; have := of_decide_eq_false hb1; have := hlen; omega))) <| cR [[]] <| cN) (fun _ => ?_)
        refine mt_then ?_
        refine ok_seq ?_
        refine sS Tryd.f22 2 [1, 2, 27] [] (fun _ => [(.int .i64 (p.k.d + (((nI p.ps).length : Nat) : Int) + 1)), (.bool (decide (8 < (p.k.d + (((nI p.ps).length : Nat) : Int) + 1))))]) (fun _ => []) (cR [[], []] <| cN) (fun _ => ?_)
        refine dRs [(1, (pt (nb ρ1 0))), (2, (.bool false)), (27, (.bool (decide (8 < (p.k.d + (((nI p.ps).length : Nat) : Int) + 1)))))] [(nb ρ1 0, (.cells (kpV p.k.s p.k.p p.k.c p.k.d ((p.k.i : Nat) : Int) ((p.k.n : Nat) : Int) (.slice p.pa (nI p.ps).length p.pc) (.bool true)) 48 (0, 0)))] ?_
        refine oC (decide (8 < (p.k.d + (((nI p.ps).length : Nat) : Int) + 1))) (fun hb4 => ?_) (fun hb4 => ?_)
        ·
          rw [hb4]
          refine sS Tryd.f22 1 [1, 2] [] (fun _ => [(.bool false)]) (fun _ => []) (cR [[]] <| cN) (fun _ => ?_)
          refine ok_ret ?_
          refine mt_then_r ?_
          exact mR (v := (.bool false)) (fun _ hS => ⟨congrArg (fun x => Ending.returned (.bool x)) (vp_3 (by have := hnl; have := w1_t hb3; have := of_decide_eq_false hb1; have := of_decide_eq_true hb4; have := hlen; omega)), hS.bel⟩)
        ·
          rw [hb4]
          refine ok_skip ?_
          refine mt_then ?_
          refine sS Tryd.f22 4 [1, 2, 4] [] (fun _ => [(.pointer (some ⟨nb ρ1 0, 43, none⟩)), (.slice p.pa (nI p.ps).length p.pc), (.bool ((p.ps).any hdB)), (.bool ((p.ps).any hdB))]) (fun _ => []) (cR [[], [0]] <| cX (o_callP _ 31 (fun _ => #[(.slice p.pa (nI p.ps).length p.pc), (.func (.func 32) #[] #[])]) (fun _ => (.bool ((p.ps).any hdB))) (fun _ _ => (by kernel_rfl)) (fun _ => (by kernel_rfl)) (fun _ _ => (by kernel_rfl)) (fun _ _ => trivial) (fun _ _ w hG => cofunc_any p.pa p.pc p.ps w hG.facts0.now.1)) <| cR [[]] <| cN) (fun _ => ?_)
          rcases Bool.eq_false_or_eq_true ((p.ps).any hdB) with hb5 | hb5
          ·
            rw [hb5]
            refine sS Tryd.f22 10 [2] [0] (fun _ => [(.bool true), (.bool false), (.bool false), (pt (nb ρ1 0)), (pt (nb ρ1 0)), (U p.k.s), (U 0), (.bool (!decide (p.k.s = 0))), (.bool (!decide (p.k.s = 0))), (.bool (!decide (p.k.s = 0)))]) (fun _ => []) (cR [[], [], [], [], [], [0], []] <| cB (a := fun ρ => (U p.k.s)) (b := fun ρ => (U 0)) (v := fun ρ => (.bool (!decide (p.k.s = 0)))) .neq 43 (fun _ _ => neqU p.k.s 0 hp.k.s (by decide +kernel) _) <| cR [[], []] <| cN) (fun _ => ?_)
            refine ok_ret ?_
            exact mR (v := (.bool (!decide (p.k.s = 0)))) (fun _ hS => ⟨congrArg (fun x => Ending.returned (.bool x)) ((show (!decide (p.k.s = 0)) = KpA.vp p from (Decidable.em (p.k.s = 0)).elim (fun h0 => by rw [decide_eq_true h0]; exact vp_4 hb5 h0) (fun h0 => by rw [decide_eq_false h0]; exact vp_5 (by have := hnl; have := of_decide_eq_false hb1; have := of_decide_eq_false hb4; have := hlen; omega) (not_f hb2) (by have := hnl; have := w1_t hb3; have := of_decide_eq_false hb1; have := of_decide_eq_false hb4; have := hlen; omega) (Or.inr h0)))), hS.bel⟩)
          ·
            rw [hb5]
            refine sS Tryd.f22 10 [2] [0] (fun _ => [(.bool false), (.bool true), (.bool true), undef, undef, undef, undef, undef, (.bool true), (.bool true)]) (fun _ => []) (cR [[], [], [], [], [], [], [], [], [], []] <| cN) (fun _ => ?_)
            refine ok_ret ?_
            exact mR (v := (.bool true)) (fun _ hS => ⟨congrArg (fun x => Ending.returned (.bool x)) (vp_5 (by have := hnl; have := of_decide_eq_false hb1; have := of_decide_eq_false hb4; have := hlen; omega) (not_f hb2) (by have := hnl; have := w1_t hb3; have := of_decide_eq_false hb1; have := of_decide_eq_false hb4; have := hlen; omega) (Or.inl hb5)), hS.bel⟩)
      ·
        rw [hb3]
        refine ok_skip ?_
        refine mt_then ?_
        refine ok_seq ?_
        refine sS Tryd.f22 2 [1, 2, 27] [] (fun _ => [(.int .i64 (p.k.d + (((nI p.ps).length : Nat) : Int))), (.bool (decide (8 < (p.k.d + (((nI p.ps).length : Nat) : Int)))))]) (fun _ => []) (cR [[], []] <| cN) (fun _ => ?_)
        refine dRs [(1, (pt (nb ρ1 0))), (2, (.bool false)), (27, (.bool (decide (8 < (p.k.d + (((nI p.ps).length : Nat) : Int))))))] [(nb ρ1 0, (.cells (kpV p.k.s p.k.p p.k.c p.k.d ((p.k.i : Nat) : Int) ((p.k.n : Nat) : Int) (.slice p.pa (nI p.ps).length p.pc) (.bool false)) 48 (0, 0)))] ?_
        refine oC (decide (8 < (p.k.d + (((nI p.ps).length : Nat) : Int)))) (fun hb6 => ?_) (fun hb6 => ?_)
        ·
          rw [hb6]
          refine sS Tryd.f22 1 [1, 2] [] (fun _ => [(.bool false)]) (fun _ => []) (cR [[]] <| cN) (fun _ => ?_)
          refine ok_ret ?_
          refine mt_then_r ?_
          exact mR (v := (.bool false)) (fun _ hS => ⟨congrArg (fun x => Ending.returned (.bool x)) (vp_3 (by have := hnl; have := w1_f hb3; have := of_decide_eq_false hb1; have := of_decide_eq_true hb6; have := hlen; omega)), hS.bel⟩)
        ·
          rw [hb6]
          refine ok_skip ?_
          refine mt_then ?_
          refine sS Tryd.f22 4 [1, 2, 4] [] (fun _ => [(.pointer (some ⟨nb ρ1 0, 43, none⟩)), (.slice p.pa (nI p.ps).length p.pc), (.bool ((p.ps).any hdB)), (.bool ((p.ps).any hdB))]) (fun _ => []) (cR [[], [0]] <| cX (o_callP _ 31 (fun _ => #[(.slice p.pa (nI p.ps).length p.pc), (.func (.func 32) #[] #[])]) (fun _ => (.bool ((p.ps).any hdB))) (fun _ _ => (by kernel_rfl)) (fun _ => (by kernel_rfl)) (fun _ _ => (by kernel_rfl)) (fun _ _ => trivial) (fun _ _ w hG => cofunc_any p.pa p.pc p.ps w hG.facts0.now.1)) <| cR [[]] <| cN) (fun _ => ?_)
          rcases Bool.eq_false_or_eq_true ((p.ps).any hdB) with hb7 | hb7
          ·
            rw [hb7]
            refine sS Tryd.f22 10 [2] [0] (fun _ => [(.bool true), (.bool false), (.bool false), (pt (nb ρ1 0)), (pt (nb ρ1 0)), (U p.k.s), (U 0), (.bool (!decide (p.k.s = 0))), (.bool (!decide (p.k.s = 0))), (.bool (!decide (p.k.s = 0)))]) (fun _ => []) (cR [[], [], [], [], [], [0], []] <| cB (a := fun ρ => (U p.k.s)) (b := fun ρ => (U 0)) (v := fun ρ => (.bool (!decide (p.k.s = 0)))) .neq 43 (fun _ _ => neqU p.k.s 0 hp.k.s (by decide +kernel) _) <| cR [[], []] <| cN) (fun _ => ?_)
            refine ok_ret ?_
            exact mR (v := (.bool (!decide (p.k.s = 0)))) (fun _ hS => ⟨congrArg (fun x => Ending.returned (.bool x)) ((show (!decide (p.k.s = 0)) = KpA.vp p from (Decidable.em (p.k.s = 0)).elim (fun h0 => by rw [decide_eq_true h0]; exact vp_4 hb7 h0) (fun h0 => by rw [decide_eq_false h0]; exact vp_5 (by have := hnl; have := of_decide_eq_false hb1; have := of_decide_eq_false hb6; have := hlen; omega) (not_f hb2) (by have := hnl; have := w1_f hb3; have := of_decide_eq_false hb1; have := of_decide_eq_false hb6; have := hlen; omega) (Or.inr h0)))), hS.bel⟩)
          ·
            rw [hb7]
            refine sS Tryd.f22 10 [2] [0] (fun _ => [(.bool false), (.bool true), (.bool true), undef, undef, undef, undef, undef, (.bool true), (.bool true)]) (fun _ => []) (cR [[], [], [], [], [], [], [], [], [], []] <| cN) (fun _ => ?_)
            refine ok_ret ?_
            exact mR (v := (.bool true)) (fun _ hS => ⟨congrArg (fun x => Ending.returned (.bool x)) (vp_5 (by have := hnl; have := of_decide_eq_false hb1; have := of_decide_eq_false hb6; have := hlen; omega) (not_f hb2) (by have := hnl; have := w1_f hb3; have := of_decide_eq_false hb1; have := of_decide_eq_false hb6; have := hlen; omega) (Or.inl hb7)), hS.bel⟩)

theorem rdvpath_any (p : KpA) (hp : p.Ok) (w0 : World) (hf0 : Is w0 .u32 p.pa p.pc (nI p.ps)) : Calls Tryd.prog 25 #[(.agg (kpV p.k.s p.k.p p.k.c p.k.d ((p.k.i : Nat) : Int) ((p.k.n : Nat) : Int) (.slice p.pa (nI p.ps).length p.pc) (.bool p.wd)))] w0 (fun ε w' => ε = .returned (.bool (KpA.vp p)) ∧ Below w0.heap.size w0 w') := by
  refine Calls.of_ok (n := 49) (F := (fun w => Is w .u32 p.pa p.pc (nI p.ps) ∧ True)) Tryd.func25 rfl rfl rfl (by simp) (hf0.pers0.and persT) ?_
  have hlen : (nI p.ps).length ≤ 140737488351232 := hf0.max
  have hnl : (nI p.ps).length = p.ps.length := nI_len p.ps
  refine sS Tryd.f25 2 [1, 2] [] (fun ρ => [(pt (nb ρ 0)), (.bool false)]) (fun ρ => [(0, { news := [(nb ρ 0, (.cells (kpV p.k.s p.k.p p.k.c p.k.d ((p.k.i : Nat) : Int) ((p.k.n : Nat) : Int) (.slice p.pa (nI p.ps).length p.pc) (.bool p.wd)) 48 (0, 0)))] })]) (cR [[], []] <| cN) (fun ρ1 => ?_)
  refine sS Tryd.f25 4 [1, 2, 3] [] (fun _ => [(.pointer (some ⟨nb ρ1 0, 43, none⟩)), (.slice p.pa (nI p.ps).length p.pc), (.int .i64 (((nI p.ps).length : Nat) : Int)), (.int .i64 (((nI p.ps).length : Nat) : Int))]) (fun _ => []) (cR [[], [0], [], []] <| cN) (fun _ => ?_)
  refine ok_seq ?_
  refine sS Tryd.f25 2 [1, 2, 3, 9] [] (fun _ => [(.pointer (some ⟨nb ρ1 0, 44, none⟩)), (.bool p.wd)]) (fun _ => []) (cR [[], [0]] <| cN) (fun _ => ?_)
  refine oC (p.wd) (fun hb1 => ?_) (fun hb1 => ?_)
  ·
    rw [hb1]
    refine rS Tryd.f25 3 [1, 2, 3] [] (fun _ => [(.int .i64 (((nI p.ps).length : Nat) : Int)), (.int .i64 ((((nI p.ps).length) + 1 : Nat) : Int)), (.int .i64 ((((nI p.ps).length) + 1 : Nat) : Int))]) (fun _ => []) (cR [[]] <| cA (v := fun ρ => (.int .i64 (IntKind.i64.wrap ((((nI p.ps).length : Nat) : Int) + 1)))) (fun _ => (.int .i64 ((((nI p.ps).length) + 1 : Nat) : Int))) (fun _ => congrArg (Value.int .i64) (wrap_addN ((nI p.ps).length) 1 (by have := hlen; omega))) <| cR [[]] <| cN) (fun _ => ?_)
    refine mt_then ?_
    refine ok_seq ?_
    rcases Bool.eq_false_or_eq_true (decide (8 < (((nI p.ps).length : Nat) : Int))) with hb2 | hb2
    ·
      refine sS Tryd.f25 18 [1, 2, 29] [] (fun _ => [(.pointer (some ⟨nb ρ1 0, 43, none⟩)), (.slice p.pa (nI p.ps).length p.pc), (.int .i64 (((nI p.ps).length : Nat) : Int)), (.bool true), (.bool true), undef, undef, undef, undef, (.bool true), (.bool true), undef, undef, undef, undef, undef, undef, (.bool true)]) (fun _ => []) (cR [[], [0], []] <| cA (fun _ => (.bool true)) (fun _ => congrArg Value.bool hb2) <| cR [[], [], [], [], [], [], [], [], [], [], [], [], [], []] <| cN) (fun _ => ?_)
      refine dRs [(1, (pt (nb ρ1 0))), (2, (.bool false)), (29, (.bool true))] [(nb ρ1 0, (.cells (kpV p.k.s p.k.p p.k.c p.k.d ((p.k.i : Nat) : Int) ((p.k.n : Nat) : Int) (.slice p.pa (nI p.ps).length p.pc) (.bool true)) 48 (0, 0)))] ?_
      refine oY ?_
      refine sS Tryd.f25 1 [1, 2] [] (fun _ => [(.bool false)]) (fun _ => []) (cR [[]] <| cN) (fun _ => ?_)
      refine ok_ret ?_
      refine mt_then_r ?_
      exact mR (v := (.bool false)) (fun _ hS => ⟨congrArg (fun x => Ending.returned (.bool x)) (vp_1 (by have := hnl; have := of_decide_eq_true hb2; have := hlen; omega)), hS.bel⟩)
    ·
      rcases Bool.eq_false_or_eq_true (sndB p.k) with hb3 | hb3
      ·
        refine sS Tryd.f25 18 [1, 2, 29] [] (fun _ => [(.pointer (some ⟨nb ρ1 0, 43, none⟩)), (.slice p.pa (nI p.ps).length p.pc), (.int .i64 (((nI p.ps).length : Nat) : Int)), (.bool false), (.bool false), (pt (nb ρ1 0)), (.agg (kC p.k.s p.k.p p.k.c p.k.d ((p.k.i : Nat) : Int) ((p.k.n : Nat) : Int))), (.bool true), (.bool false), (.bool false), (.bool false), (pt (nb ρ1 0)), (.pointer (some ⟨nb ρ1 0, 40, none⟩)), (.int .i64 p.k.d), (.int .i64 ((((nI p.ps).length) + 1 : Nat) : Int)), (.int .i64 (p.k.d + ((((nI p.ps).length) + 1 : Nat) : Int))), (.bool (decide (8 < (p.k.d + ((((nI p.ps).length) + 1 : Nat) : Int))))), (.bool (decide (8 < (p.k.d + ((((nI p.ps).length) + 1 : Nat) : Int)))))]) (fun _ => []) (cR [[], [0], []] <| cA (fun _ => (.bool false)) (fun _ => congrArg Value.bool hb2) <| cR [[], [], [0]] <| cC (f := 33) (args := fun ρ => #[(.agg (kC p.k.s p.k.p p.k.c p.k.d ((p.k.i : Nat) : Int) ((p.k.n : Nat) : Int)))]) (v := fun ρ => (.bool true)) (fun _ w => by as_aux_lemma => (have hcall := (fun w => rksound_any p.k hp.k w) w; rw [hb3] at hcall; exact hcall)) <| cR [[], [], [], [], [], [0], []] <| cA (v := fun ρ => (.int .i64 (IntKind.i64.wrap (p.k.d + ((((nI p.ps).length) + 1 : Nat) : Int))))) (fun _ => (.int .i64 (p.k.d + ((((nI p.ps).length) + 1 : Nat) : Int)))) (fun _ => congrArg (Value.int .i64) (i64N (by have := snd_get hb3; have := hnl; have := of_decide_eq_false hb2; have := hlen; omega))) <| cR [[], []] <| cN) (fun _ => ?_)
        refine dRs [(1, (pt (nb ρ1 0))), (2, (.bool false)), (29, (.bool (decide (8 < (p.k.d + ((((nI p.ps).length) + 1 : Nat) : Int))))))] [(nb ρ1 0, (.cells (kpV p.k.s p.k.p p.k.c p.k.d ((p.k.i : Nat) : Int) ((p.k.n : Nat) : Int) (.slice p.pa (nI p.ps).length p.pc) (.bool true)) 48 (0, 0)))] ?_
        refine oC (decide (8 < (p.k.d + ((((nI p.ps).length) + 1 : Nat) : Int)))) (fun hb4 => ?_) (fun hb4 => ?_)
        ·
          rw [hb4]
          refine sS Tryd.f25 1 [1, 2] [] (fun _ => [(.bool false)]) (fun _ => []) (cR [[]] <| cN) (fun _ => ?_)
          refine ok_ret ?_
          refine mt_then_r ?_
          exact mR (v := (.bool false)) (fun _ hS => ⟨congrArg (fun x => Ending.returned (.bool x)) (vp_3 (by have := hnl; have := w1_t hb1; have := of_decide_eq_false hb2; have := of_decide_eq_true hb4; have := hlen; omega)), hS.bel⟩)
        ·
          rw [hb4]
          refine ok_skip ?_
          refine mt_then ?_
          refine ok_seq ?_
          refine sS Tryd.f25 1 [1, 2, 4] [] (fun _ => [(.int .i64 0)]) (fun _ => []) (cR [[]] <| cN) (fun _ => ?_)
          refine ok_block ?_
          refine oL (σ := Nat) (fun i => [(1, (pt (nb ρ1 0))), (4, (.int .i64 ((i : Nat) : Int)))]) (fun _ => [(nb ρ1 0, (.cells (kpV p.k.s p.k.p p.k.c p.k.d ((p.k.i : Nat) : Int) ((p.k.n : Nat) : Int) (.slice p.pa (nI p.ps).length p.pc) (.bool true)) 48 (0, 0)))]) (fun i => (nI p.ps).length - i)
            (fun i => (i ≤ (nI p.ps).length) ∧ ((p.ps.drop i).any p.hf = p.ps.any p.hf)) 0 (⟨Nat.zero_le _, rfl⟩) [] ?_
          rintro i ⟨hi, hr⟩
          change Ok Tryd.prog _ _ 49 [(1, (pt (nb ρ1 0))), (4, (.int .i64 ((i : Nat) : Int)))] _ [(nb ρ1 0, (.cells (kpV p.k.s p.k.p p.k.c p.k.d ((p.k.i : Nat) : Int) ((p.k.n : Nat) : Int) (.slice p.pa (nI p.ps).length p.pc) (.bool true)) 48 (0, 0)))] (fun w => Is w .u32 p.pa p.pc (nI p.ps) ∧ True)
          refine ok_seq ?_
          refine sS Tryd.f25 5 [1, 4, 34] [] (fun _ => [(.int .i64 ((i : Nat) : Int)), (.pointer (some ⟨nb ρ1 0, 43, none⟩)), (.slice p.pa (nI p.ps).length p.pc), (.int .i64 (((nI p.ps).length : Nat) : Int)), (.bool (decide (((i : Nat) : Int) < (((nI p.ps).length : Nat) : Int))))]) (fun _ => []) (cR [[], [], [0], [], []] <| cN) (fun _ => ?_)
          refine oC (decide (((i : Nat) : Int) < (((nI p.ps).length : Nat) : Int))) (fun hb5 => ?_) (fun hb5 => ?_)
          ·
            rw [hb5]
            refine ok_skip ?_
            refine mt_then ?_
            refine ok_seq ?_
            refine ok_block ?_
            rcases Bool.eq_false_or_eq_true (decide (2147483648 ≤ (((p.ps).getD i 0 : Nat) : Int))) with hb6 | hb6
            ·
              refine sS Tryd.f25 12 [1, 4, 48] [] (fun _ => [(.pointer (some ⟨nb ρ1 0, 43, none⟩)), (.slice p.pa (nI p.ps).length p.pc), (.int .i64 ((i : Nat) : Int)), (.pointer (adr p.pa i)), (.int .u32 (((p.ps).getD i 0 : Nat) : Int)), (.bool true), (.bool true), (pt (nb ρ1 0)), (pt (nb ρ1 0)), (U p.k.s), (.bool (decide (p.k.s = 0))), (.bool (decide (p.k.s = 0)))]) (fun _ => []) (cR [[], [0], []] <| cX (o_semF _ (fun _ => do pure (Next.value (← Instr.indexAt 46 (.slice p.pa (nI p.ps).length p.pc) (.int .i64 ((i : Nat) : Int))))) (fun _ => (.pointer (adr p.pa i))) (fun _ => (by kernel_rfl)) (fun _ => (by kernel_rfl)) (fun _ _ _ hG => idx_ints Tryd.underlying46 Tryd.sizeOf34 hG.facts0.now.1 rfl ((show ((i : Nat) : Int) = ((i : Nat) : Int) ∧ i < (nI p.ps).length from ⟨rfl, (by have := of_decide_eq_false hb2; have := of_decide_eq_false hb4; have := of_decide_eq_true hb5; have := of_decide_eq_true hb6; have := hlen; have := hi; omega)⟩)).1 ((show ((i : Nat) : Int) = ((i : Nat) : Int) ∧ i < (nI p.ps).length from ⟨rfl, (by have := of_decide_eq_false hb2; have := of_decide_eq_false hb4; have := of_decide_eq_true hb5; have := of_decide_eq_true hb6; have := hlen; have := hi; omega)⟩)).2) (fun _ _ _ _ => persT)) <| cX (o_semF _ (fun _ => do pure (Next.value (← Instr.loadAt 34 (.pointer (adr p.pa i))))) (fun _ => (.int .u32 (((p.ps).getD i 0 : Nat) : Int))) (fun _ => (by kernel_rfl)) (fun _ => (by kernel_rfl)) (fun _ _ _ hG => (ld_ints Tryd.isAgg34 hG.facts0.now.1 ((show ((i : Nat) : Int) = ((i : Nat) : Int) ∧ i < (nI p.ps).length from ⟨rfl, (by have := of_decide_eq_false hb2; have := of_decide_eq_false hb4; have := of_decide_eq_true hb5; have := of_decide_eq_true hb6; have := hlen; have := hi; omega)⟩)).2).trans (by rw [nI_get])) (fun _ _ _ _ => persT)) <| cA (fun _ => (.bool true)) (fun _ => congrArg Value.bool hb6) <| cR [[], [], [], [0]] <| cC (fun _ w => rzero_any p.k.s w hp.k.s) <| cR [[]] <| cN) (fun _ => ?_)
              refine oC (decide (p.k.s = 0)) (fun hb7 => ?_) (fun hb7 => ?_)
              ·
                rw [hb7]
                refine sS Tryd.f25 1 [1, 2, 4] [] (fun _ => [(.bool false)]) (fun _ => []) (cR [[]] <| cN) (fun _ => ?_)
                refine ok_ret ?_
                refine mt_block_r ?_
                refine mt_then_r ?_
                refine mt_then_r ?_
                refine mt_block_r ?_
                refine mt_then_r ?_
                exact mR (v := (.bool false)) (fun _ hS => ⟨congrArg (fun x => Ending.returned (.bool x)) (vp_6 (pa_stop (f := p.hf) (by have := hnl; have := of_decide_eq_false hb2; have := of_decide_eq_false hb4; have := of_decide_eq_true hb5; have := of_decide_eq_true hb6; have := of_decide_eq_true hb7; have := hlen; have := hi; omega) (hf_c hb6 hb7) hr)), hS.bel⟩)
              ·
                rw [hb7]
                refine ok_skip ?_
                refine mt_block_n ?_
                refine mt_then ?_
                refine rS Tryd.f25 3 [1, 4] [] (fun _ => [(.int .i64 ((i : Nat) : Int)), (.int .i64 ((i + 1 : Nat) : Int)), (.int .i64 ((i + 1 : Nat) : Int))]) (fun _ => []) (cR [[]] <| cA (v := fun ρ => (.int .i64 (IntKind.i64.wrap (((i : Nat) : Int) + 1)))) (fun _ => (.int .i64 ((i + 1 : Nat) : Int))) (fun _ => congrArg (Value.int .i64) (wrap_addN i 1 (by have := of_decide_eq_false hb2; have := of_decide_eq_false hb4; have := of_decide_eq_true hb5; have := of_decide_eq_true hb6; have := of_decide_eq_false hb7; have := hlen; have := hi; omega))) <| cR [[]] <| cN) (fun _ => ?_)
                exact mN (i + 1) (by show (nI p.ps).length - (i + 1) < (nI p.ps).length - i; have := of_decide_eq_false hb2; have := of_decide_eq_false hb4; have := of_decide_eq_true hb5; have := of_decide_eq_true hb6; have := of_decide_eq_false hb7; have := hlen; have := hi; omega) (⟨(by have := of_decide_eq_false hb2; have := of_decide_eq_false hb4; have := of_decide_eq_true hb5; have := of_decide_eq_true hb6; have := of_decide_eq_false hb7; have := hlen; have := hi; omega), pa_next (f := p.hf) (by have := hnl; have := of_decide_eq_false hb2; have := of_decide_eq_false hb4; have := of_decide_eq_true hb5; have := of_decide_eq_true hb6; have := of_decide_eq_false hb7; have := hlen; have := hi; omega) (hf_b hb7) hr⟩) []
            ·
              refine sS Tryd.f25 12 [1, 4, 48] [] (fun _ => [(.pointer (some ⟨nb ρ1 0, 43, none⟩)), (.slice p.pa (nI p.ps).length p.pc), (.int .i64 ((i : Nat) : Int)), (.pointer (adr p.pa i)), (.int .u32 (((p.ps).getD i 0 : Nat) : Int)), (.bool false), (.bool false), undef, undef, undef, undef, (.bool false)]) (fun _ => []) (cR [[], [0], []] <| cX (o_semF _ (fun _ => do pure (Next.value (← Instr.indexAt 46 (.slice p.pa (nI p.ps).length p.pc) (.int .i64 ((i : Nat) : Int))))) (fun _ => (.pointer (adr p.pa i))) (fun _ => (by kernel_rfl)) (fun _ => (by kernel_rfl)) (fun _ _ _ hG => idx_ints Tryd.underlying46 Tryd.sizeOf34 hG.facts0.now.1 rfl ((show ((i : Nat) : Int) = ((i : Nat) : Int) ∧ i < (nI p.ps).length from ⟨rfl, (by have := of_decide_eq_false hb2; have := of_decide_eq_false hb4; have := of_decide_eq_true hb5; have := of_decide_eq_false hb6; have := hlen; have := hi; omega)⟩)).1 ((show ((i : Nat) : Int) = ((i : Nat) : Int) ∧ i < (nI p.ps).length from ⟨rfl, (by have := of_decide_eq_false hb2; have := of_decide_eq_false hb4; have := of_decide_eq_true hb5; have := of_decide_eq_false hb6; have := hlen; have := hi; omega)⟩)).2) (fun _ _ _ _ => persT)) <| cX (o_semF _ (fun _ => do pure (Next.value (← Instr.loadAt 34 (.pointer (adr p.pa i))))) (fun _ => (.int .u32 (((p.ps).getD i 0 : Nat) : Int))) (fun _ => (by kernel_rfl)) (fun _ => (by kernel_rfl)) (fun _ _ _ hG => (ld_ints Tryd.isAgg34 hG.facts0.now.1 ((show ((i : Nat) : Int) = ((i : Nat) : Int) ∧ i < (nI p.ps).length from ⟨rfl, (by have := of_decide_eq_false hb2; have := of_decide_eq_false hb4; have := of_decide_eq_true hb5; have := of_decide_eq_false hb6; have := hlen; have := hi; omega)⟩)).2).trans (by rw [nI_get])) (fun _ _ _ _ => persT)) <| cA (fun _ => (.bool false)) (fun _ => congrArg Value.bool hb6) <| cR [[], [], [], [], [], []] <| cN) (fun _ => ?_)
              refine oN ?_
              refine ok_skip ?_
              refine mt_block_n ?_
              refine mt_then ?_
              refine rS Tryd.f25 3 [1, 4] [] (fun _ => [(.int .i64 ((i : Nat) : Int)), (.int .i64 ((i + 1 : Nat) : Int)), (.int .i64 ((i + 1 : Nat) : Int))]) (fun _ => []) (cR [[]] <| cA (v := fun ρ => (.int .i64 (IntKind.i64.wrap (((i : Nat) : Int) + 1)))) (fun _ => (.int .i64 ((i + 1 : Nat) : Int))) (fun _ => congrArg (Value.int .i64) (wrap_addN i 1 (by have := of_decide_eq_false hb2; have := of_decide_eq_false hb4; have := of_decide_eq_true hb5; have := of_decide_eq_false hb6; have := hlen; have := hi; omega))) <| cR [[]] <| cN) (fun _ => ?_)
              exact mN (i + 1) (by show (nI p.ps).length - (i + 1) < (nI p.ps).length - i; have := of_decide_eq_false hb2; have := of_decide_eq_false hb4; have := of_decide_eq_true hb5; have := of_decide_eq_false hb6; have := hlen; have := hi; omega) (⟨(by have := of_decide_eq_false hb2; have := of_decide_eq_false hb4; have := of_decide_eq_true hb5; have := of_decide_eq_false hb6; have := hlen; have := hi; omega), pa_next (f := p.hf) (by have := hnl; have := of_decide_eq_false hb2; have := of_decide_eq_false hb4; have := of_decide_eq_true hb5; have := of_decide_eq_false hb6; have := hlen; have := hi; omega) (hf_a hb6) hr⟩) []
          ·
            rw [hb5]
            refine ok_exit ?_
            refine mt_then_e ?_
            refine mt_then_e ?_
            refine mt_block_h ?_
            refine mt_then ?_
            refine sS Tryd.f25 1 [2] [0] (fun _ => [(.bool true)]) (fun _ => []) (cR [[]] <| cN) (fun _ => ?_)
            refine ok_ret ?_
            exact mR (v := (.bool true)) (fun _ hS => ⟨congrArg (fun x => Ending.returned (.bool x)) (vp_5 (by have := hnl; have := of_decide_eq_false hb2; have := of_decide_eq_false hb4; have := of_decide_eq_false hb5; have := hlen; have := hi; omega) hb3 (by have := hnl; have := w1_t hb1; have := of_decide_eq_false hb2; have := of_decide_eq_false hb4; have := of_decide_eq_false hb5; have := hlen; have := hi; omega) (vp_7 (all_endN (by have := hnl; have := of_decide_eq_false hb2; have := of_decide_eq_false hb4; have := of_decide_eq_false hb5; have := hlen; have := hi; omega) hr))), hS.bel⟩)
      ·
        refine sS Tryd.f25 18 [1, 2, 29] [] (fun _ => [(.pointer (some ⟨nb ρ1 0, 43, none⟩)), (.slice p.pa (nI p.ps).length p.pc), (.int .i64 (((nI p.ps).length : Nat) : Int)), (.bool false), (.bool false), (pt (nb ρ1 0)), (.agg (kC p.k.s p.k.p p.k.c p.k.d ((p.k.i : Nat) : Int) ((p.k.n : Nat) : Int))), (.bool false), (.bool true), (.bool true), (.bool true), undef, undef, undef, undef, undef, undef, (.bool true)]) (fun _ => []) (cR [[], [0], []] <| cA (fun _ => (.bool false)) (fun _ => congrArg Value.bool hb2) <| cR [[], [], [0]] <| cC (f := 33) (args := fun ρ => #[(.agg (kC p.k.s p.k.p p.k.c p.k.d ((p.k.i : Nat) : Int) ((p.k.n : Nat) : Int)))]) (v := fun ρ => (.bool false)) (fun _ w => by as_aux_lemma => (have hcall := (fun w => rksound_any p.k hp.k w) w; rw [hb3] at hcall; exact hcall)) <| cR [[], [], [], [], [], [], [], [], [], []] <| cN) (fun _ => ?_)
        refine dRs [(1, (pt (nb ρ1 0))), (2, (.bool false)), (29, (.bool true))] [(nb ρ1 0, (.cells (kpV p.k.s p.k.p p.k.c p.k.d ((p.k.i : Nat) : Int) ((p.k.n : Nat) : Int) (.slice p.pa (nI p.ps).length p.pc) (.bool true)) 48 (0, 0)))] ?_
        refine oY ?_
        refine sS Tryd.f25 1 [1, 2] [] (fun _ => [(.bool false)]) (fun _ => []) (cR [[]] <| cN) (fun _ => ?_)
        refine ok_ret ?_
        refine mt_then_r ?_
        exact mR (v := (.bool false)) (fun _ hS => ⟨congrArg (fun x => Ending.returned (.bool x)) (vp_2 hb3), hS.bel⟩)
  ·
    rw [hb1]
    refine ok_skip ?_
    refine mt_then ?_
    refine ok_seq ?_
    rcases Bool.eq_false_or_eq_true (decide (8 < (((nI p.ps).length : Nat) : Int))) with hb8 | hb8
    ·
      refine sS Tryd.f25 18 [1, 2, 29] [] (fun _ => [(.pointer (some ⟨nb ρ1 0, 43, none⟩)), (.slice p.pa (nI p.ps).length p.pc), (.int .i64 (((nI p.ps).length : Nat) : Int)), (.bool true), (.bool true), undef, undef, undef, undef, (.bool true), (.bool true), undef, undef, undef, undef, undef, undef, (.bool true)]) (fun _ => []) (cR [[], [0], []] <| cA (fun _ => (.bool true)) (fun _ => congrArg Value.bool hb8) <| cR [[], [], [], [], [], [], [], [], [], [], [], [], [], []] <| cN) (fun _ => ?_)
      refine oY ?_
      refine sS Tryd.f25 1 [1, 2] [] (fun _ => [(.bool false)]) (fun _ => []) (cR [[]] <| cN) (fun _ => ?_)
      refine ok_ret ?_
      refine mt_then_r ?_
      exact mR (v := (.bool false)) (fun _ hS => ⟨congrArg (fun x => Ending.returned (.bool x)) (vp_1 (by have := hnl; have := of_decide_eq_true hb8; have := hlen; omega)), hS.bel⟩)
    ·
      rcases Bool.eq_false_or_eq_true (sndB p.k) with hb9 | hb9
      ·
        refine sS Tryd.f25 18 [1, 2, 29] [] (fun _ => [(.pointer (some ⟨nb ρ1 0, 43, none⟩)), (.slice p.pa (nI p.ps).length p.pc), (.int .i64 (((nI p.ps).length : Nat) : Int)), (.bool false), (.bool false), (pt (nb ρ1 0)), (.agg (kC p.k.s p.k.p p.k.c p.k.d ((p.k.i : Nat) : Int) ((p.k.n : Nat) : Int))), (.bool true), (.bool false), (.bool false), (.bool false), (pt (nb ρ1 0)), (.pointer (some ⟨nb ρ1 0, 40, none⟩)), (.int .i64 p.k.d), (.int .i64 (((nI p.ps).length : Nat) : Int)), (.int .i64 (p.k.d + (((nI p.ps).length : Nat) : Int))), (.bool (decide (8 < (p.k.d + (((nI p.ps).length : Nat) : Int))))), (.bool (decide (8 < (p.k.d + (((nI p.ps).length : Nat) : Int)))))]) (fun _ => []) (cR [[], [0], []] <| cA (fun _ => (.bool false)) (fun _ => congrArg Value.bool hb8) <| cR [[], [], [0]] <| cC (f := 33) (args := fun ρ => #[(.agg (kC p.k.s p.k.p p.k.c p.k.d ((p.k.i : Nat) : Int) ((p.k.n : Nat) : Int)))]) (v := fun ρ => (.bool true)) (fun _ w => by as_aux_lemma => (have hcall := (fun w => rksound_any p.k hp.k w) w; rw [hb9] at hcall; exact hcall)) <| cR [[], [], [], [], [], [0], []] <| cA (v := fun ρ => (.int .i64 (IntKind.i64.wrap (p.k.d + (((nI p.ps).length : Nat) : Int))))) (fun _ => (.int .i64 (p.k.d + (((nI p.ps).length : Nat) : Int)))) (fun _ => congrArg (Value.int .i64) (i64N (by have := snd_get hb9; have := hnl; have := of_decide_eq_false hb8; have := hlen; omega))) <| cR [[], []] <| cN) (fun _ => ?_)
        refine oC (decide (8 < (p.k.d + (((nI p.ps).length : Nat) : Int)))) (fun hb10 => ?_) (fun hb10 => ?_)
        ·
          rw [hb10]
          refine sS Tryd.f25 1 [1, 2] [] (fun _ => [(.bool false)]) (fun _ => []) (cR [[]] <| cN) (fun _ => ?_)
          refine ok_ret ?_
          refine mt_then_r ?_
          exact mR (v := (.bool false)) (fun _ hS => ⟨congrArg (fun x => Ending.returned (.bool x)) (vp_3 (by have := hnl; have := w1_f hb1; have := of_decide_eq_false hb8; have := of_decide_eq_true hb10; have := hlen; omega)), hS.bel⟩)
        ·
          rw [hb10]
          refine ok_skip ?_
          refine mt_then ?_
          refine ok_seq ?_
          refine sS Tryd.f25 1 [1, 2, 4] [] (fun _ => [(.int .i64 0)]) (fun _ => []) (cR [[]] <| cN) (fun _ => ?_)
          refine dRs [(1, (pt (nb ρ1 0))), (2, (.bool false)), (4, (.int .i64 0))] [(nb ρ1 0, (.cells (kpV p.k.s p.k.p p.k.c p.k.d ((p.k.i : Nat) : Int) ((p.k.n : Nat) : Int) (.slice p.pa (nI p.ps).length p.pc) (.bool false)) 48 (0, 0)))] ?_
          refine ok_block ?_
          refine oL (σ := Nat) (fun i => [(1, (pt (nb ρ1 0))), (4, (.int .i64 ((i : Nat) : Int)))]) (fun _ => [(nb ρ1 0, (.cells (kpV p.k.s p.k.p p.k.c p.k.d ((p.k.i : Nat) : Int) ((p.k.n : Nat) : Int) (.slice p.pa (nI p.ps).length p.pc) (.bool false)) 48 (0, 0)))]) (fun i => (nI p.ps).length - i)
            (fun i => (i ≤ (nI p.ps).length) ∧ ((p.ps.drop i).any p.hf = p.ps.any p.hf)) 0 (⟨Nat.zero_le _, rfl⟩) [] ?_
          rintro i ⟨hi, hr⟩
          change Ok Tryd.prog _ _ 49 [(1, (pt (nb ρ1 0))), (4, (.int .i64 ((i : Nat) : Int)))] _ [(nb ρ1 0, (.cells (kpV p.k.s p.k.p p.k.c p.k.d ((p.k.i : Nat) : Int) ((p.k.n : Nat) : Int) (.slice p.pa (nI p.ps).length p.pc) (.bool false)) 48 (0, 0)))] (fun w => Is w .u32 p.pa p.pc (nI p.ps) ∧ True)
          refine ok_seq ?_
          refine sS Tryd.f25 5 [1, 4, 34] [] (fun _ => [(.int .i64 ((i : Nat) : Int)), (.pointer (some ⟨nb ρ1 0, 43, none⟩)), (.slice p.pa (nI p.ps).length p.pc), (.int .i64 (((nI p.ps).length : Nat) : Int)), (.bool (decide (((i : Nat) : Int) < (((nI p.ps).length : Nat) : Int))))]) (fun _ => []) (cR [[], [], [0], [], []] <| cN) (fun _ => ?_)
          refine oC (decide (((i : Nat) : Int) < (((nI p.ps).length : Nat) : Int))) (fun hb11 => ?_) (fun hb11 => ?_)
          ·
            rw [hb11]
            refine ok_skip ?_
            refine mt_then ?_
            refine ok_seq ?_
            refine ok_block ?_
            rcases Bool.eq_false_or_eq_true (decide (2147483648 ≤ (((p.ps).getD i 0 : Nat) : Int))) with hb12 | hb12
            ·
              refine sS Tryd.f25 12 [1, 4, 48] [] (fun _ => [(.pointer (some ⟨nb ρ1 0, 43, none⟩)), (.slice p.pa (nI p.ps).length p.pc), (.int .i64 ((i : Nat) : Int)), (.pointer (adr p.pa i)), (.int .u32 (((p.ps).getD i 0 : Nat) : Int)), (.bool true), (.bool true), (pt (nb ρ1 0)), (pt (nb ρ1 0)), (U p.k.s), (.bool (decide (p.k.s = 0))), (.bool (decide (p.k.s = 0)))]) (fun _ => []) (cR [[], [0], []] <| cX (o_semF _ (fun _ => do pure (Next.value (← Instr.indexAt 46 (.slice p.pa (nI p.ps).length p.pc) (.int .i64 ((i : Nat) : Int))))) (fun _ => (.pointer (adr p.pa i))) (fun _ => (by kernel_rfl)) (fun _ => (by kernel_rfl)) (fun _ _ _ hG => idx_ints Tryd.underlying46 Tryd.sizeOf34 hG.facts0.now.1 rfl ((show ((i : Nat) : Int) = ((i : Nat) : Int) ∧ i < (nI p.ps).length from ⟨rfl, (by have := of_decide_eq_false hb8; have := of_decide_eq_false hb10; have := of_decide_eq_true hb11; have := of_decide_eq_true hb12; have := hlen; have := hi; omega)⟩)).1 ((show ((i : Nat) : Int) = ((i : Nat) : Int) ∧ i < (nI p.ps).length from ⟨rfl, (by have := of_decide_eq_false hb8; have := of_decide_eq_false hb10; have := of_decide_eq_true hb11; have := of_decide_eq_true hb12; have := hlen; have := hi; omega)⟩)).2) (fun _ _ _ _ => persT)) <| cX (o_semF _ (fun _ => do pure (Next.value (← Instr.loadAt 34 (.pointer (adr p.pa i))))) (fun _ => (.int .u32 (((p.ps).getD i 0 : Nat) : Int))) (fun _ => (by kernel_rfl)) (fun _ => (by kernel_rfl)) (fun _ _ _ hG => (ld_ints Tryd.isAgg34 hG.facts0.now.1 ((show ((i : Nat) : Int) = ((i : Nat) : Int) ∧ i < (nI p.ps).length from ⟨rfl, (by have := of_decide_eq_false hb8; have := of_decide_eq_false hb10; have := of_decide_eq_true hb11; have := of_decide_eq_true hb12; have := hlen; have := hi; omega)⟩)).2).trans (by rw [nI_get])) (fun _ _ _ _ => persT)) <| cA (fun _ => (.bool true)) (fun _ => congrArg Value.bool hb12) <| cR [[], [], [], [0]] <| cC (fun _ w => rzero_any p.k.s w hp.k.s) <| cR [[]] <| cN) (fun _ => ?_)
              refine oC (decide (p.k.s = 0)) (fun hb13 => ?_) (fun hb13 => ?_)
              ·
                rw [hb13]
                refine sS Tryd.f25 1 [1, 2, 4] [] (fun _ => [(.bool false)]) (fun _ => []) (cR [[]] <| cN) (fun _ => ?_)
                refine ok_ret ?_
                refine mt_block_r ?_
                refine mt_then_r ?_
                refine mt_then_r ?_
                refine mt_block_r ?_
                refine mt_then_r ?_
                exact mR (v := (.bool false)) (fun _ hS => ⟨congrArg (fun x => Ending.returned (.bool x)) (vp_6 (pa_stop (f := p.hf) (by have := hnl; have := of_decide_eq_false hb8; have := of_decide_eq_false hb10; have := of_decide_eq_true hb11; have := of_decide_eq_true hb12; have := of_decide_eq_true hb13; have := hlen; have := hi; omega) (hf_c hb12 hb13) hr)), hS.bel⟩)
              ·
                rw [hb13]
                refine ok_skip ?_
                refine mt_block_n ?_
                refine mt_then ?_
                refine rS Tryd.f25 3 [1, 4] [] (fun _ => [(.int .i64 ((i : Nat) : Int)), (.int .i64 ((i + 1 : Nat) : Int)), (.int .i64 ((i + 1 : Nat) : Int))]) (fun _ => []) (cR [[]] <| cA (v := fun ρ => (.int .i64 (IntKind.i64.wrap (((i : Nat) : Int) + 1)))) (fun _ => (.int .i64 ((i + 1 : Nat) : Int))) (fun _ => congrArg (Value.int .i64) (wrap_addN i 1 (by have := of_decide_eq_false hb8; have := of_decide_eq_false hb10; have := of_decide_eq_true hb11; have := of_decide_eq_true hb12; have := of_decide_eq_false hb13; have := hlen; have := hi; omega))) <| cR [[]] <| cN) (fun _ => ?_)
                exact mN (i + 1) (by show (nI p.ps).length - (i + 1) < (nI p.ps).length - i; have := of_decide_eq_false hb8; have := of_decide_eq_false hb10; have := of_decide_eq_true hb11; have := of_decide_eq_true hb12; have := of_decide_eq_false hb13; have := hlen; have := hi; omega) (⟨(by have := of_decide_eq_false hb8; have := of_decide_eq_false hb10; have := of_decide_eq_true hb11; have := of_decide_eq_true hb12; have := of_decide_eq_false hb13; have := hlen; have := hi; omega), pa_next (f := p.hf) (by have := hnl; have := of_decide_eq_false hb8; have := of_decide_eq_false hb10; have := of_decide_eq_true hb11; have := of_decide_eq_true hb12; have := of_decide_eq_false hb13; have := hlen; have := hi; omega) (hf_b hb13) hr⟩) []
            ·
              refine sS Tryd.f25 12 [1, 4, 48] [] (fun _ => [(.pointer (some ⟨nb ρ1 0, 43, none⟩)), (.slice p.pa (nI p.ps).length p.pc), (.int .i64 ((i : Nat) : Int)), (.pointer (adr p.pa i)), (.int .u32 (((p.ps).getD i 0 : Nat) : Int)), (.bool false), (.bool false), undef, undef, undef, undef, (.bool false)]) (fun _ => []) (cR [[], [0], []] <| cX (o_semF _ (fun _ => do pure (Next.value (← Instr.indexAt 46 (.slice p.pa (nI p.ps).length p.pc) (.int .i64 ((i : Nat) : Int))))) (fun _ => (.pointer (adr p.pa i))) (fun _ => (by kernel_rfl)) (fun _ => (by kernel_rfl)) (fun _ _ _ hG => idx_ints Tryd.underlying46 Tryd.sizeOf34 hG.facts0.now.1 rfl ((show ((i : Nat) : Int) = ((i : Nat) : Int) ∧ i < (nI p.ps).length from ⟨rfl, (by have := of_decide_eq_false hb8; have := of_decide_eq_false hb10; have := of_decide_eq_true hb11; have := of_decide_eq_false hb12; have := hlen; have := hi; omega)⟩)).1 ((show ((i : Nat) : Int) = ((i : Nat) : Int) ∧ i < (nI p.ps).length from ⟨rfl, (by have := of_decide_eq_false hb8; have := of_decide_eq_false hb10; have := of_decide_eq_true hb11; have := of_decide_eq_false hb12; have := hlen; have := hi; omega)⟩)).2) (fun _ _ _ _ => persT)) <| cX (o_semF _ (fun _ => do pure (Next.value (← Instr.loadAt 34 (.pointer (adr p.pa i))))) (fun _ => (.int .u32 (((p.ps).getD i 0 : Nat) : Int))) (fun _ => (by kernel_rfl)) (fun _ => (by kernel_rfl)) (fun _ _ _ hG => (ld_ints Tryd.isAgg34 hG.facts0.now.1 ((show ((i : Nat) : Int) = ((i : Nat) : Int) ∧ i < (nI p.ps).length from ⟨rfl, (by have := of_decide_eq_false hb8; have := of_decide_eq_false hb10; have := of_decide_eq_true hb11; have := of_decide_eq_false hb12; have := hlen; have := hi; omega)⟩)).2).trans (by rw [nI_get])) (fun _ _ _ _ => persT)) <| cA (fun _ => (.bool false)) (fun _ => congrArg Value.bool hb12) <| cR [[], [], [], [], [], []] <| cN) (fun _ => ?_)
              refine oN ?_
              refine ok_skip ?_
              refine mt_block_n ?_
              refine mt_then ?_
              refine rS Tryd.f25 3 [1, 4] [] (fun _ => [(.int .i64 ((i : Nat) : Int)), (.int .i64 ((i + 1 : Nat) : Int)), (.int .i64 ((i + 1 : Nat) : Int))]) (fun _ => []) (cR [[]] <| cA (v := fun ρ => (.int .i64 (IntKind.i64.wrap (((i : Nat) : Int) + 1)))) (fun _ => (.int .i64 ((i + 1 : Nat) : Int))) (fun _ => congrArg (Value.int .i64) (wrap_addN i 1 (by have := of_decide_eq_false hb8; have := of_decide_eq_false hb10; have := of_decide_eq_true hb11; have := of_decide_eq_false hb12; have := hlen; have := hi; omega))) <| cR [[]] <| cN) (fun _ => ?_)
              exact mN (i + 1) (by show (nI p.ps).length - (i + 1) < (nI p.ps).length - i; have := of_decide_eq_false hb8; have := of_decide_eq_false hb10; have := of_decide_eq_true hb11; have := of_decide_eq_false hb12; have := hlen; have := hi; omega) (⟨(by have := of_decide_eq_false hb8; have := of_decide_eq_false hb10; have := of_decide_eq_true hb11; have := of_decide_eq_false hb12; have := hlen; have := hi; omega), pa_next (f := p.hf) (by have := hnl; have := of_decide_eq_false hb8; have := of_decide_eq_false hb10; have := of_decide_eq_true hb11; have := of_decide_eq_false hb12; have := hlen; have := hi; omega) (hf_a hb12) hr⟩) []
          ·
            rw [hb11]
            refine ok_exit ?_
            refine mt_then_e ?_
            refine mt_then_e ?_
            refine mt_block_h ?_
            refine mt_then ?_
            refine sS Tryd.f25 1 [2] [0] (fun _ => [(.bool true)]) (fun _ => []) (cR [[]] <| cN) (fun _ => ?_)
            refine ok_ret ?_
            exact mR (v := (.bool true)) (fun _ hS => ⟨congrArg (fun x => Ending.returned (.bool x)) (vp_5 (by have := hnl; have := of_decide_eq_false hb8; have := of_decide_eq_false hb10; have := of_decide_eq_false hb11; have := hlen; have := hi; omega) hb9 (by have := hnl; have := w1_f hb1; have := of_decide_eq_false hb8; have := of_decide_eq_false hb10; have := of_decide_eq_false hb11; have := hlen; have := hi; omega) (vp_7 (all_endN (by have := hnl; have := of_decide_eq_false hb8; have := of_decide_eq_false hb10; have := of_decide_eq_false hb11; have := hlen; have := hi; omega) hr))), hS.bel⟩)
      ·
        refine sS Tryd.f25 18 [1, 2, 29] [] (fun _ => [(.pointer (some ⟨nb ρ1 0, 43, none⟩)), (.slice p.pa (nI p.ps).length p.pc), (.int .i64 (((nI p.ps).length : Nat) : Int)), (.bool false), (.bool false), (pt (nb ρ1 0)), (.agg (kC p.k.s p.k.p p.k.c p.k.d ((p.k.i : Nat) : Int) ((p.k.n : Nat) : Int))), (.bool false), (.bool true), (.bool true), (.bool true), undef, undef, undef, undef, undef, undef, (.bool true)]) (fun _ => []) (cR [[], [0], []] <| cA (fun _ => (.bool false)) (fun _ => congrArg Value.bool hb8) <| cR [[], [], [0]] <| cC (f := 33) (args := fun ρ => #[(.agg (kC p.k.s p.k.p p.k.c p.k.d ((p.k.i : Nat) : Int) ((p.k.n : Nat) : Int)))]) (v := fun ρ => (.bool false)) (fun _ w => by as_aux_lemma => (have hcall := (fun w => rksound_any p.k hp.k w) w; rw [hb9] at hcall; exact hcall)) <| cR [[], [], [], [], [], [], [], [], [], []] <| cN) (fun _ => ?_)
        refine oY ?_
        refine sS Tryd.f25 1 [1, 2] [] (fun _ => [(.bool false)]) (fun _ => []) (cR [[]] <| cN) (fun _ => ?_)
        refine ok_ret ?_
        refine mt_then_r ?_
        exact mR (v := (.bool false)) (fun _ hS => ⟨congrArg (fun x => Ending.returned (.bool x)) (vp_2 hb9), hS.bel⟩)
end Go.Proofs.YtlkbhiaoolddmaaDoor

/-! Descriptors: valid ones, ranged ones: the walks. -/
namespace Go.Proofs.YtlkbhiaoolddmaaDoor
open Go Go.RowKit

theorem dvalid_any (a : Option Addr) (c : Nat) (ts : List TmA) (w0 : World) (hf0 : TmF w0 a c ts) : Calls Tryd.prog 8 #[(.slice a (ts).length c)] w0 (fun ε w' => ε = .returned (.bool (vlB ts)) ∧ Below w0.heap.size w0 w') := by
  refine Calls.of_ok (n := 50) (F := (fun w => TmF w a c ts ∧ True)) Tryd.func8 rfl rfl rfl (by simp) (hf0.pers0.and persT) ?_
  have hlen : ts.length ≤ 1000000 := hf0.max
  have ho : TsOk ts := hf0.oks
  refine sS Tryd.f8 1 [0, 2] [] (fun _ => [(.bool false)]) (fun _ => []) (cR [[]] <| cN) (fun _ => ?_)
  refine ok_seq ?_
  rcases Bool.eq_false_or_eq_true (decide ((((ts).length : Nat) : Int) < 1)) with hb1 | hb1
  ·
    refine sS Tryd.f8 13 [0, 2, 21] [] (fun _ => [(.slice a (ts).length c), (.int .i64 (((ts).length : Nat) : Int)), (.bool true), (.bool true), undef, undef, undef, (.bool true), (.bool true), undef, undef, undef, (.bool true)]) (fun _ => []) (cR [[], []] <| cA (fun _ => (.bool true)) (fun _ => congrArg Value.bool hb1) <| cR [[], [], [], [], [], [], [], [], [], []] <| cN) (fun _ => ?_)
    refine oY ?_
    refine sS Tryd.f8 1 [0, 2] [] (fun _ => [(.bool false)]) (fun _ => []) (cR [[]] <| cN) (fun _ => ?_)
    refine ok_ret ?_
    refine mt_then_r ?_
    exact mR (v := (.bool false)) (fun _ hS => ⟨congrArg (fun x => Ending.returned (.bool x)) (vl_a (by have := of_decide_eq_true hb1; have := hlen; omega)), hS.bel⟩)
  ·
    rcases Bool.eq_false_or_eq_true (decide (8 < (((ts).length : Nat) : Int))) with hb2 | hb2
    ·
      refine sS Tryd.f8 13 [0, 2, 21] [] (fun _ => [(.slice a (ts).length c), (.int .i64 (((ts).length : Nat) : Int)), (.bool false), (.bool false), (.slice a (ts).length c), (.int .i64 (((ts).length : Nat) : Int)), (.bool true), (.bool true), (.bool true), undef, undef, undef, (.bool true)]) (fun _ => []) (cR [[], []] <| cA (fun _ => (.bool false)) (fun _ => congrArg Value.bool hb1) <| cR [[], [], []] <| cA (fun _ => (.bool true)) (fun _ => congrArg Value.bool hb2) <| cR [[], [], [], [], [], []] <| cN) (fun _ => ?_)
      refine oY ?_
      refine sS Tryd.f8 1 [0, 2] [] (fun _ => [(.bool false)]) (fun _ => []) (cR [[]] <| cN) (fun _ => ?_)
      refine ok_ret ?_
      refine mt_then_r ?_
      exact mR (v := (.bool false)) (fun _ hS => ⟨congrArg (fun x => Ending.returned (.bool x)) (vl_a (by have := of_decide_eq_false hb1; have := of_decide_eq_true hb2; have := hlen; omega)), hS.bel⟩)
    ·
      refine sS Tryd.f8 13 [0, 2, 21] [] (fun _ => [(.slice a (ts).length c), (.int .i64 (((ts).length : Nat) : Int)), (.bool false), (.bool false), (.slice a (ts).length c), (.int .i64 (((ts).length : Nat) : Int)), (.bool false), (.bool false), (.bool false), (.slice a (ts).length c), (.bool (whB 1 ts)), (.bool (!(whB 1 ts))), (.bool (!(whB 1 ts)))]) (fun _ => []) (cR [[], []] <| cA (fun _ => (.bool false)) (fun _ => congrArg Value.bool hb1) <| cR [[], [], []] <| cA (fun _ => (.bool false)) (fun _ => congrArg Value.bool hb2) <| cR [[], [], []] <| cX (o_callP _ 20 (fun _ => #[(.slice a (ts).length c)]) (fun _ => (.bool (whB 1 ts))) (fun _ _ => (by kernel_rfl)) (fun _ => (by kernel_rfl)) (fun _ _ => (by kernel_rfl)) (fun _ _ => trivial) (fun _ _ w hG => dwhole_any a c ts w hG.facts0.now.1)) <| cR [[], []] <| cN) (fun _ => ?_)
      refine oC (!(whB 1 ts)) (fun hb3 => ?_) (fun hb3 => ?_)
      ·
        rw [hb3]
        refine sS Tryd.f8 1 [0, 2] [] (fun _ => [(.bool false)]) (fun _ => []) (cR [[]] <| cN) (fun _ => ?_)
        refine ok_ret ?_
        refine mt_then_r ?_
        exact mR (v := (.bool false)) (fun _ hS => ⟨congrArg (fun x => Ending.returned (.bool x)) (vl_b (not_t hb3)), hS.bel⟩)
      ·
        rw [hb3]
        refine ok_skip ?_
        refine mt_then ?_
        refine ok_seq ?_
        refine sS Tryd.f8 3 [0, 2, 22, 23, 24] [] (fun _ => [(.slice a (ts).length c), (.int .i64 (((ts).length : Nat) : Int)), (.int .i64 0)]) (fun _ => []) (cR [[], [], []] <| cN) (fun _ => ?_)
        refine ok_block ?_
        refine oL (σ := Nat) (fun i => [(0, (.slice a (ts).length c)), (22, (.slice a (ts).length c)), (23, (.int .i64 (((ts).length : Nat) : Int))), (24, (.int .i64 ((i : Nat) : Int)))]) (fun _ => []) (fun i => ts.length - i)
          (fun i => (i ≤ ts.length) ∧ ((ts.drop i).all (TmA.fd) = ts.all (TmA.fd))) 0 (⟨Nat.zero_le _, rfl⟩) [] ?_
        rintro i ⟨hi, hA⟩
        change Ok Tryd.prog _ _ 50 [(0, (.slice a (ts).length c)), (22, (.slice a (ts).length c)), (23, (.int .i64 (((ts).length : Nat) : Int))), (24, (.int .i64 ((i : Nat) : Int)))] _ [] (fun w => TmF w a c ts ∧ True)
        refine sS Tryd.f8 1 [0, 22, 23, 24, 25] [] (fun _ => [(.bool (decide (((i : Nat) : Int) < (((ts).length : Nat) : Int))))]) (fun _ => []) (cR [[]] <| cN) (fun _ => ?_)
        refine ok_seq ?_
        refine oC (decide (((i : Nat) : Int) < (((ts).length : Nat) : Int))) (fun hb4 => ?_) (fun hb4 => ?_)
        ·
          rw [hb4]
          refine ok_skip ?_
          refine mt_then ?_
          refine ok_seq ?_
          refine ok_block ?_
          refine sS Tryd.f8 4 [0, 4, 22, 23, 24] [] (fun ρ => [(.pointer (adr a (i * 36))), (.agg (tmV ((gT ts i).kd) ((gT ts i).m) (((gT ts i).nu : Nat) : Int) ((gT ts i).h) (.slice ((gT ts i).ka) ((gT ts i).ks).length ((gT ts i).kc)))), (pt (nb ρ 2)), undef]) (fun ρ => [(2, { news := [(nb ρ 2, (.cells (tmV 0 0 0 0 (.slice none 0 0)) 39 (0, 0)))] }), (3, { puts := [(16, nb ρ 2, (.cells (tmV ((gT ts i).kd) ((gT ts i).m) (((gT ts i).nu : Nat) : Int) ((gT ts i).h) (.slice ((gT ts i).ka) ((gT ts i).ks).length ((gT ts i).kc))) 39 (0, 0)))] })]) (cX (o_semF _ (fun _ => do pure (Next.value (← Instr.indexAt 24 (.slice a (ts).length c) (.int .i64 ((i : Nat) : Int))))) (fun _ => (.pointer (adr a (i * 36)))) (fun _ => (by kernel_rfl)) (fun _ => (by kernel_rfl)) (fun _ _ _ hG => TmF.idx Tryd.underlying24 Tryd.sizeOf39 hG.facts0.now.1 rfl ((show ((i : Nat) : Int) = ((i : Nat) : Int) ∧ i < (ts).length from ⟨rfl, (by have := of_decide_eq_false hb1; have := of_decide_eq_false hb2; have := of_decide_eq_true hb4; have := hlen; have := hi; omega)⟩)).1 ((show ((i : Nat) : Int) = ((i : Nat) : Int) ∧ i < (ts).length from ⟨rfl, (by have := of_decide_eq_false hb1; have := of_decide_eq_false hb2; have := of_decide_eq_true hb4; have := hlen; have := hi; omega)⟩)).2) (fun _ _ _ _ => persT)) <| cX (o_semF _ (fun _ => do pure (Next.value (← Instr.loadAt 39 (.pointer (adr a (i * 36)))))) (fun _ => (.agg (tmV ((gT ts i).kd) ((gT ts i).m) (((gT ts i).nu : Nat) : Int) ((gT ts i).h) (.slice ((gT ts i).ka) ((gT ts i).ks).length ((gT ts i).kc))))) (fun _ => (by kernel_rfl)) (fun _ => (by kernel_rfl)) (fun _ _ _ hG => TmF.ldA (i := i) Tryd.isAgg39 Tryd.sizeOf39 hG.facts0.now.1 ((show ((i : Nat) : Int) = ((i : Nat) : Int) ∧ i < (ts).length from ⟨rfl, (by have := of_decide_eq_false hb1; have := of_decide_eq_false hb2; have := of_decide_eq_true hb4; have := hlen; have := hi; omega)⟩)).2) (fun _ _ _ _ => persT)) <| cR [[], [16]] <| cN) (fun _ => ?_)
          refine sS Tryd.f8 3 [0, 22, 23, 24, 30] [0] (fun _ => [(.agg (tmV ((gT ts i).kd) ((gT ts i).m) (((gT ts i).nu : Nat) : Int) ((gT ts i).h) (.slice ((gT ts i).ka) ((gT ts i).ks).length ((gT ts i).kc)))), (.bool (fdN ((gT ts i).kd) ((gT ts i).m) ((gT ts i).nu) ((gT ts i).h) ((gT ts i).ks).length)), (.bool (!(fdN ((gT ts i).kd) ((gT ts i).m) ((gT ts i).nu) ((gT ts i).h) ((gT ts i).ks).length)))]) (fun _ => []) (cR [[0]] <| cC (fun _ w => dfields_any ((gT ts i).kd) ((gT ts i).m) ((gT ts i).nu) ((gT ts i).h) ((gT ts i).ka) ((gT ts i).kc) ((gT ts i).ks) (ho.gT i).h w) <| cR [[]] <| cN) (fun _ => ?_)
          refine oC (!(fdN ((gT ts i).kd) ((gT ts i).m) ((gT ts i).nu) ((gT ts i).h) ((gT ts i).ks).length)) (fun hb5 => ?_) (fun hb5 => ?_)
          ·
            rw [hb5]
            refine sS Tryd.f8 1 [0, 2, 22, 23, 24] [] (fun _ => [(.bool false)]) (fun _ => []) (cR [[]] <| cN) (fun _ => ?_)
            refine ok_ret ?_
            refine mt_block_r ?_
            refine mt_then_r ?_
            refine mt_then_r ?_
            refine mt_block_r ?_
            refine mt_then_r ?_
            exact mR (v := (.bool false)) (fun _ hS => ⟨congrArg (fun x => Ending.returned (.bool x)) (vl_c (all_stop (f := TmA.fd) (l := ts) (by have := of_decide_eq_false hb1; have := of_decide_eq_false hb2; have := of_decide_eq_true hb4; have := hlen; have := hi; omega) (not_t hb5) hA)), hS.bel⟩)
          ·
            rw [hb5]
            refine ok_skip ?_
            refine mt_block_n ?_
            refine mt_then ?_
            refine rS Tryd.f8 2 [0, 22, 23, 24] [] (fun _ => [(.int .i64 ((i + 1 : Nat) : Int)), (.int .i64 ((i + 1 : Nat) : Int))]) (fun _ => []) (cA (v := fun ρ => (.int .i64 (IntKind.i64.wrap (((i : Nat) : Int) + 1)))) (fun _ => (.int .i64 ((i + 1 : Nat) : Int))) (fun _ => congrArg (Value.int .i64) (wrap_addN i 1 (by have := of_decide_eq_false hb1; have := of_decide_eq_false hb2; have := of_decide_eq_true hb4; have := hlen; have := hi; omega))) <| cR [[]] <| cN) (fun _ => ?_)
            exact mN (i + 1) (by show ts.length - (i + 1) < ts.length - i; have := of_decide_eq_false hb1; have := of_decide_eq_false hb2; have := of_decide_eq_true hb4; have := hlen; have := hi; omega) (⟨(by have := of_decide_eq_false hb1; have := of_decide_eq_false hb2; have := of_decide_eq_true hb4; have := hlen; have := hi; omega), all_next (f := TmA.fd) (l := ts) (by have := of_decide_eq_false hb1; have := of_decide_eq_false hb2; have := of_decide_eq_true hb4; have := hlen; have := hi; omega) (not_f hb5) hA⟩) []
        ·
          rw [hb4]
          refine ok_exit ?_
          refine mt_then_e ?_
          refine mt_then_e ?_
          refine mt_block_h ?_
          refine mt_then ?_
          refine ok_seq ?_
          refine sS Tryd.f8 3 [32, 33, 34] [] (fun _ => [(.slice a (ts).length c), (.int .i64 (((ts).length : Nat) : Int)), (.int .i64 0)]) (fun _ => []) (cR [[], [], []] <| cN) (fun _ => ?_)
          refine ok_block ?_
          refine oL (σ := Nat) (fun i2 => [(32, (.slice a (ts).length c)), (33, (.int .i64 (((ts).length : Nat) : Int))), (34, (.int .i64 ((i2 : Nat) : Int)))]) (fun _ => []) (fun i2 => ts.length - i2)
            (fun i2 => (i2 ≤ ts.length) ∧ ((ts.drop i2).all (TmA.vk) = ts.all (TmA.vk))) 0 (⟨Nat.zero_le _, rfl⟩) [] ?_
          rintro i2 ⟨hi2, hB⟩
          change Ok Tryd.prog _ _ 50 [(32, (.slice a (ts).length c)), (33, (.int .i64 (((ts).length : Nat) : Int))), (34, (.int .i64 ((i2 : Nat) : Int)))] _ [] (fun w => TmF w a c ts ∧ True)
          refine sS Tryd.f8 1 [32, 33, 34, 35] [] (fun _ => [(.bool (decide (((i2 : Nat) : Int) < (((ts).length : Nat) : Int))))]) (fun _ => []) (cR [[]] <| cN) (fun _ => ?_)
          refine ok_seq ?_
          refine oC (decide (((i2 : Nat) : Int) < (((ts).length : Nat) : Int))) (fun hb6 => ?_) (fun hb6 => ?_)
          ·
            rw [hb6]
            refine ok_skip ?_
            refine mt_then ?_
            refine ok_seq ?_
            refine ok_block ?_
            refine sS Tryd.f8 4 [6, 32, 33, 34] [] (fun ρ => [(.pointer (adr a (i2 * 36))), (.agg (tmV ((gT ts i2).kd) ((gT ts i2).m) (((gT ts i2).nu : Nat) : Int) ((gT ts i2).h) (.slice ((gT ts i2).ka) ((gT ts i2).ks).length ((gT ts i2).kc)))), (pt (nb ρ 2)), undef]) (fun ρ => [(2, { news := [(nb ρ 2, (.cells (tmV 0 0 0 0 (.slice none 0 0)) 39 (0, 0)))] }), (3, { puts := [(16, nb ρ 2, (.cells (tmV ((gT ts i2).kd) ((gT ts i2).m) (((gT ts i2).nu : Nat) : Int) ((gT ts i2).h) (.slice ((gT ts i2).ka) ((gT ts i2).ks).length ((gT ts i2).kc))) 39 (0, 0)))] })]) (cX (o_semF _ (fun _ => do pure (Next.value (← Instr.indexAt 24 (.slice a (ts).length c) (.int .i64 ((i2 : Nat) : Int))))) (fun _ => (.pointer (adr a (i2 * 36)))) (fun _ => (by kernel_rfl)) (fun _ => (by kernel_rfl)) (fun _ _ _ hG => TmF.idx Tryd.underlying24 Tryd.sizeOf39 hG.facts0.now.1 rfl ((show ((i2 : Nat) : Int) = ((i2 : Nat) : Int) ∧ i2 < (ts).length from ⟨rfl, (by have := of_decide_eq_false hb1; have := of_decide_eq_false hb2; have := of_decide_eq_false hb4; have := of_decide_eq_true hb6; have := hlen; have := hi; have := hi2; omega)⟩)).1 ((show ((i2 : Nat) : Int) = ((i2 : Nat) : Int) ∧ i2 < (ts).length from ⟨rfl, (by have := of_decide_eq_false hb1; have := of_decide_eq_false hb2; have := of_decide_eq_false hb4; have := of_decide_eq_true hb6; have := hlen; have := hi; have := hi2; omega)⟩)).2) (fun _ _ _ _ => persT)) <| cX (o_semF _ (fun _ => do pure (Next.value (← Instr.loadAt 39 (.pointer (adr a (i2 * 36)))))) (fun _ => (.agg (tmV ((gT ts i2).kd) ((gT ts i2).m) (((gT ts i2).nu : Nat) : Int) ((gT ts i2).h) (.slice ((gT ts i2).ka) ((gT ts i2).ks).length ((gT ts i2).kc))))) (fun _ => (by kernel_rfl)) (fun _ => (by kernel_rfl)) (fun _ _ _ hG => TmF.ldA (i := i2) Tryd.isAgg39 Tryd.sizeOf39 hG.facts0.now.1 ((show ((i2 : Nat) : Int) = ((i2 : Nat) : Int) ∧ i2 < (ts).length from ⟨rfl, (by have := of_decide_eq_false hb1; have := of_decide_eq_false hb2; have := of_decide_eq_false hb4; have := of_decide_eq_true hb6; have := hlen; have := hi; have := hi2; omega)⟩)).2) (fun _ _ _ _ => persT)) <| cR [[], [16]] <| cN) (fun ρ16 => ?_)
            refine sS Tryd.f8 4 [32, 33, 34, 39, 40, 41] [0] (fun _ => [(.pointer (some ⟨nb ρ16 2, 35, none⟩)), (.slice ((gT ts i2).ka) ((gT ts i2).ks).length ((gT ts i2).kc)), (.int .i64 ((((gT ts i2).ks).length : Nat) : Int)), (.int .i64 0)]) (fun _ => []) (cR [[], [0], [], []] <| cN) (fun _ => ?_)
            refine ok_block ?_
            refine oL (σ := Nat) (fun k => [(32, (.slice a (ts).length c)), (33, (.int .i64 (((ts).length : Nat) : Int))), (34, (.int .i64 ((i2 : Nat) : Int))), (39, (.slice ((gT ts i2).ka) ((gT ts i2).ks).length ((gT ts i2).kc))), (40, (.int .i64 ((((gT ts i2).ks).length : Nat) : Int))), (41, (.int .i64 ((k : Nat) : Int)))]) (fun _ => []) (fun k => (gT ts i2).ks.length - k)
              (fun k => (k ≤ (gT ts i2).ks.length) ∧ (((gT ts i2).ks.drop k).all KpA.vp = (gT ts i2).ks.all KpA.vp)) 0 (⟨Nat.zero_le _, rfl⟩) [] ?_
            rintro k ⟨hk, hC⟩
            change Ok Tryd.prog _ _ 50 [(32, (.slice a (ts).length c)), (33, (.int .i64 (((ts).length : Nat) : Int))), (34, (.int .i64 ((i2 : Nat) : Int))), (39, (.slice ((gT ts i2).ka) ((gT ts i2).ks).length ((gT ts i2).kc))), (40, (.int .i64 ((((gT ts i2).ks).length : Nat) : Int))), (41, (.int .i64 ((k : Nat) : Int)))] _ [] (fun w => TmF w a c ts ∧ True)
            have hkl : (gT ts i2).ks.length ≤ 1000000 := ho.klen hf0 i2
            refine sS Tryd.f8 1 [32, 33, 34, 39, 40, 41, 42] [] (fun _ => [(.bool (decide (((k : Nat) : Int) < ((((gT ts i2).ks).length : Nat) : Int))))]) (fun _ => []) (cR [[]] <| cN) (fun _ => ?_)
            refine ok_seq ?_
            refine oC (decide (((k : Nat) : Int) < ((((gT ts i2).ks).length : Nat) : Int))) (fun hb7 => ?_) (fun hb7 => ?_)
            ·
              rw [hb7]
              refine ok_skip ?_
              refine mt_then ?_
              refine ok_seq ?_
              refine ok_block ?_
              refine sS Tryd.f8 4 [8, 32, 33, 34, 39, 40, 41] [] (fun ρ => [(.pointer (adr ((gT ts i2).ka) (k * 45))), (.agg (kpV ((gK ((gT ts i2).ks) k).k.s) ((gK ((gT ts i2).ks) k).k.p) ((gK ((gT ts i2).ks) k).k.c) ((gK ((gT ts i2).ks) k).k.d) (((gK ((gT ts i2).ks) k).k.i : Nat) : Int) (((gK ((gT ts i2).ks) k).k.n : Nat) : Int) (.slice ((gK ((gT ts i2).ks) k).pa) (nI (gK ((gT ts i2).ks) k).ps).length ((gK ((gT ts i2).ks) k).pc)) (.bool ((gK ((gT ts i2).ks) k).wd)))), (pt (nb ρ 2)), undef]) (fun ρ => [(2, { news := [(nb ρ 2, (.cells (kpV 0 0 0 0 0 0 (.slice none 0 0) (.bool false)) 48 (0, 0)))] }), (3, { puts := [(16, nb ρ 2, (.cells (kpV ((gK ((gT ts i2).ks) k).k.s) ((gK ((gT ts i2).ks) k).k.p) ((gK ((gT ts i2).ks) k).k.c) ((gK ((gT ts i2).ks) k).k.d) (((gK ((gT ts i2).ks) k).k.i : Nat) : Int) (((gK ((gT ts i2).ks) k).k.n : Nat) : Int) (.slice ((gK ((gT ts i2).ks) k).pa) (nI (gK ((gT ts i2).ks) k).ps).length ((gK ((gT ts i2).ks) k).pc)) (.bool ((gK ((gT ts i2).ks) k).wd))) 48 (0, 0)))] })]) (cX (o_semF _ (fun _ => do pure (Next.value (← Instr.indexAt 37 (.slice ((gT ts i2).ka) ((gT ts i2).ks).length ((gT ts i2).kc)) (.int .i64 ((k : Nat) : Int))))) (fun _ => (.pointer (adr ((gT ts i2).ka) (k * 45)))) (fun _ => (by kernel_rfl)) (fun _ => (by kernel_rfl)) (fun _ _ _ hG => KpF.idx Tryd.underlying37 Tryd.sizeOf48 ((hG.facts0.now.1).sub _ (gT_mem ((show ((i2 : Nat) : Int) = ((i2 : Nat) : Int) ∧ i2 < (ts).length from ⟨rfl, (by have := of_decide_eq_false hb1; have := of_decide_eq_false hb2; have := of_decide_eq_false hb4; have := of_decide_eq_true hb6; have := hlen; have := hi; have := hi2; omega)⟩)).2)) rfl ((show ((k : Nat) : Int) = ((k : Nat) : Int) ∧ k < ((gT ts i2).ks).length from ⟨rfl, (by have := of_decide_eq_false hb1; have := of_decide_eq_false hb2; have := of_decide_eq_false hb4; have := of_decide_eq_true hb6; have := of_decide_eq_true hb7; have := hlen; have := hi; have := hi2; have := hk; have := hkl; omega)⟩)).1 ((show ((k : Nat) : Int) = ((k : Nat) : Int) ∧ k < ((gT ts i2).ks).length from ⟨rfl, (by have := of_decide_eq_false hb1; have := of_decide_eq_false hb2; have := of_decide_eq_false hb4; have := of_decide_eq_true hb6; have := of_decide_eq_true hb7; have := hlen; have := hi; have := hi2; have := hk; have := hkl; omega)⟩)).2) (fun _ _ _ _ => persT)) <| cX (o_semF _ (fun _ => do pure (Next.value (← Instr.loadAt 48 (.pointer (adr ((gT ts i2).ka) (k * 45)))))) (fun _ => (.agg (kpV ((gK ((gT ts i2).ks) k).k.s) ((gK ((gT ts i2).ks) k).k.p) ((gK ((gT ts i2).ks) k).k.c) ((gK ((gT ts i2).ks) k).k.d) (((gK ((gT ts i2).ks) k).k.i : Nat) : Int) (((gK ((gT ts i2).ks) k).k.n : Nat) : Int) (.slice ((gK ((gT ts i2).ks) k).pa) (nI (gK ((gT ts i2).ks) k).ps).length ((gK ((gT ts i2).ks) k).pc)) (.bool ((gK ((gT ts i2).ks) k).wd))))) (fun _ => (by kernel_rfl)) (fun _ => (by kernel_rfl)) (fun _ _ _ hG => KpF.ldA (i := k) Tryd.isAgg48 Tryd.sizeOf48 ((hG.facts0.now.1).sub _ (gT_mem ((show ((i2 : Nat) : Int) = ((i2 : Nat) : Int) ∧ i2 < (ts).length from ⟨rfl, (by have := of_decide_eq_false hb1; have := of_decide_eq_false hb2; have := of_decide_eq_false hb4; have := of_decide_eq_true hb6; have := hlen; have := hi; have := hi2; omega)⟩)).2)) ((show ((k : Nat) : Int) = ((k : Nat) : Int) ∧ k < ((gT ts i2).ks).length from ⟨rfl, (by have := of_decide_eq_false hb1; have := of_decide_eq_false hb2; have := of_decide_eq_false hb4; have := of_decide_eq_true hb6; have := of_decide_eq_true hb7; have := hlen; have := hi; have := hi2; have := hk; have := hkl; omega)⟩)).2) (fun _ _ _ _ => persT)) <| cR [[], [16]] <| cN) (fun _ => ?_)
              refine sS Tryd.f8 3 [32, 33, 34, 39, 40, 41, 47] [0] (fun _ => [(.agg (kpV ((gK ((gT ts i2).ks) k).k.s) ((gK ((gT ts i2).ks) k).k.p) ((gK ((gT ts i2).ks) k).k.c) ((gK ((gT ts i2).ks) k).k.d) (((gK ((gT ts i2).ks) k).k.i : Nat) : Int) (((gK ((gT ts i2).ks) k).k.n : Nat) : Int) (.slice ((gK ((gT ts i2).ks) k).pa) (nI (gK ((gT ts i2).ks) k).ps).length ((gK ((gT ts i2).ks) k).pc)) (.bool ((gK ((gT ts i2).ks) k).wd)))), (.bool (KpA.vp (gK ((gT ts i2).ks) k))), (.bool (!(KpA.vp (gK ((gT ts i2).ks) k))))]) (fun _ => []) (cR [[0]] <| cX (o_callP _ 22 (fun _ => #[(.agg (kpV ((gK ((gT ts i2).ks) k).k.s) ((gK ((gT ts i2).ks) k).k.p) ((gK ((gT ts i2).ks) k).k.c) ((gK ((gT ts i2).ks) k).k.d) (((gK ((gT ts i2).ks) k).k.i : Nat) : Int) (((gK ((gT ts i2).ks) k).k.n : Nat) : Int) (.slice ((gK ((gT ts i2).ks) k).pa) (nI (gK ((gT ts i2).ks) k).ps).length ((gK ((gT ts i2).ks) k).pc)) (.bool ((gK ((gT ts i2).ks) k).wd))))]) (fun _ => (.bool (KpA.vp (gK ((gT ts i2).ks) k)))) (fun _ _ => (by kernel_rfl)) (fun _ => (by kernel_rfl)) (fun _ _ => (by kernel_rfl)) (fun _ _ => trivial) (fun _ _ w hG => dvpath_any (gK ((gT ts i2).ks) k) (ho.gK i2 k) w ((((hG.facts0.now.1).sub _ (gT_mem ((show ((i2 : Nat) : Int) = ((i2 : Nat) : Int) ∧ i2 < (ts).length from ⟨rfl, (by have := of_decide_eq_false hb1; have := of_decide_eq_false hb2; have := of_decide_eq_false hb4; have := of_decide_eq_true hb6; have := hlen; have := hi; have := hi2; omega)⟩)).2))).sub _ (gK_mem ((show ((k : Nat) : Int) = ((k : Nat) : Int) ∧ k < ((gT ts i2).ks).length from ⟨rfl, (by have := of_decide_eq_false hb1; have := of_decide_eq_false hb2; have := of_decide_eq_false hb4; have := of_decide_eq_true hb6; have := of_decide_eq_true hb7; have := hlen; have := hi; have := hi2; have := hk; have := hkl; omega)⟩)).2)))) <| cR [[]] <| cN) (fun _ => ?_)
              refine oC (!(KpA.vp (gK ((gT ts i2).ks) k))) (fun hb8 => ?_) (fun hb8 => ?_)
              ·
                rw [hb8]
                refine sS Tryd.f8 1 [2, 32, 33, 34, 39, 40, 41] [] (fun _ => [(.bool false)]) (fun _ => []) (cR [[]] <| cN) (fun _ => ?_)
                refine ok_ret ?_
                refine mt_block_r ?_
                refine mt_then_r ?_
                refine mt_then_r ?_
                refine mt_block_r ?_
                refine mt_block_r ?_
                refine mt_then_r ?_
                refine mt_then_r ?_
                refine mt_block_r ?_
                refine mt_then_r ?_
                exact mR (v := (.bool false)) (fun _ hS => ⟨congrArg (fun x => Ending.returned (.bool x)) (vl_d (all_stop (f := TmA.vk) (l := ts) (by have := of_decide_eq_false hb1; have := of_decide_eq_false hb2; have := of_decide_eq_false hb4; have := of_decide_eq_true hb6; have := of_decide_eq_true hb7; have := hlen; have := hi; have := hi2; have := hk; have := hkl; omega) (all_stop (f := KpA.vp) (l := (gT ts i2).ks) (by have := of_decide_eq_false hb1; have := of_decide_eq_false hb2; have := of_decide_eq_false hb4; have := of_decide_eq_true hb6; have := of_decide_eq_true hb7; have := hlen; have := hi; have := hi2; have := hk; have := hkl; omega) (not_t hb8) hC) hB)), hS.bel⟩)
              ·
                rw [hb8]
                refine ok_skip ?_
                refine mt_block_n ?_
                refine mt_then ?_
                refine rS Tryd.f8 2 [32, 33, 34, 39, 40, 41] [] (fun _ => [(.int .i64 ((k + 1 : Nat) : Int)), (.int .i64 ((k + 1 : Nat) : Int))]) (fun _ => []) (cA (v := fun ρ => (.int .i64 (IntKind.i64.wrap (((k : Nat) : Int) + 1)))) (fun _ => (.int .i64 ((k + 1 : Nat) : Int))) (fun _ => congrArg (Value.int .i64) (wrap_addN k 1 (by have := of_decide_eq_false hb1; have := of_decide_eq_false hb2; have := of_decide_eq_false hb4; have := of_decide_eq_true hb6; have := of_decide_eq_true hb7; have := hlen; have := hi; have := hi2; have := hk; have := hkl; omega))) <| cR [[]] <| cN) (fun _ => ?_)
                exact mN (k + 1) (by show (gT ts i2).ks.length - (k + 1) < (gT ts i2).ks.length - k; have := of_decide_eq_false hb1; have := of_decide_eq_false hb2; have := of_decide_eq_false hb4; have := of_decide_eq_true hb6; have := of_decide_eq_true hb7; have := hlen; have := hi; have := hi2; have := hk; have := hkl; omega) (⟨(by have := of_decide_eq_false hb1; have := of_decide_eq_false hb2; have := of_decide_eq_false hb4; have := of_decide_eq_true hb6; have := of_decide_eq_true hb7; have := hlen; have := hi; have := hi2; have := hk; have := hkl; omega), all_next (f := KpA.vp) (l := (gT ts i2).ks) (by have := of_decide_eq_false hb1; have := of_decide_eq_false hb2; have := of_decide_eq_false hb4; have := of_decide_eq_true hb6; have := of_decide_eq_true hb7; have := hlen; have := hi; have := hi2; have := hk; have := hkl; omega) (not_f hb8) hC⟩) []
            ·
              rw [hb7]
              refine ok_exit ?_
              refine mt_then_e ?_
              refine mt_then_e ?_
              refine mt_block_h ?_
              refine mt_block_n ?_
              refine mt_then ?_
              refine rS Tryd.f8 2 [32, 33, 34] [] (fun _ => [(.int .i64 ((i2 + 1 : Nat) : Int)), (.int .i64 ((i2 + 1 : Nat) : Int))]) (fun _ => []) (cA (v := fun ρ => (.int .i64 (IntKind.i64.wrap (((i2 : Nat) : Int) + 1)))) (fun _ => (.int .i64 ((i2 + 1 : Nat) : Int))) (fun _ => congrArg (Value.int .i64) (wrap_addN i2 1 (by have := of_decide_eq_false hb1; have := of_decide_eq_false hb2; have := of_decide_eq_false hb4; have := of_decide_eq_true hb6; have := of_decide_eq_false hb7; have := hlen; have := hi; have := hi2; have := hk; have := hkl; omega))) <| cR [[]] <| cN) (fun _ => ?_)
              exact mN (i2 + 1) (by show ts.length - (i2 + 1) < ts.length - i2; have := of_decide_eq_false hb1; have := of_decide_eq_false hb2; have := of_decide_eq_false hb4; have := of_decide_eq_true hb6; have := of_decide_eq_false hb7; have := hlen; have := hi; have := hi2; have := hk; have := hkl; omega) (⟨(by have := of_decide_eq_false hb1; have := of_decide_eq_false hb2; have := of_decide_eq_false hb4; have := of_decide_eq_true hb6; have := of_decide_eq_false hb7; have := hlen; have := hi; have := hi2; have := hk; have := hkl; omega), all_next (f := TmA.vk) (l := ts) (by have := of_decide_eq_false hb1; have := of_decide_eq_false hb2; have := of_decide_eq_false hb4; have := of_decide_eq_true hb6; have := of_decide_eq_false hb7; have := hlen; have := hi; have := hi2; have := hk; have := hkl; omega) (all_end (f := KpA.vp) (l := (gT ts i2).ks) (by have := of_decide_eq_false hb1; have := of_decide_eq_false hb2; have := of_decide_eq_false hb4; have := of_decide_eq_true hb6; have := of_decide_eq_false hb7; have := hlen; have := hi; have := hi2; have := hk; have := hkl; omega) hC) hB⟩) []
          ·
            rw [hb6]
            refine ok_exit ?_
            refine mt_then_e ?_
            refine mt_then_e ?_
            refine mt_block_h ?_
            refine mt_then ?_
            refine sS Tryd.f8 1 [2] [] (fun _ => [(.bool true)]) (fun _ => []) (cR [[]] <| cN) (fun _ => ?_)
            refine ok_ret ?_
            exact mR (v := (.bool true)) (fun _ hS => ⟨congrArg (fun x => Ending.returned (.bool x)) (vl_e (by have := of_decide_eq_false hb1; have := of_decide_eq_false hb2; have := of_decide_eq_false hb4; have := of_decide_eq_false hb6; have := hlen; have := hi; have := hi2; omega) (not_f hb3) (all_end (f := TmA.fd) (l := ts) (by have := of_decide_eq_false hb1; have := of_decide_eq_false hb2; have := of_decide_eq_false hb4; have := of_decide_eq_false hb6; have := hlen; have := hi; have := hi2; omega) hA) (all_end (f := TmA.vk) (l := ts) (by have := of_decide_eq_false hb1; have := of_decide_eq_false hb2; have := of_decide_eq_false hb4; have := of_decide_eq_false hb6; have := hlen; have := hi; have := hi2; omega) hB)), hS.bel⟩)

theorem rdvalid_any (a : Option Addr) (c : Nat) (ts : List TmA) (w0 : World) (hf0 : TmF w0 a c ts) : Calls Tryd.prog 9 #[(.slice a (ts).length c)] w0 (fun ε w' => ε = .returned (.bool (vlB ts)) ∧ Below w0.heap.size w0 w') := by
  refine Calls.of_ok (n := 47) (F := (fun w => TmF w a c ts ∧ True)) Tryd.func9 rfl rfl rfl (by simp) (hf0.pers0.and persT) ?_
  have hlen : ts.length ≤ 1000000 := hf0.max
  have ho : TsOk ts := hf0.oks
  refine sS Tryd.f9 1 [0, 2] [] (fun _ => [(.bool false)]) (fun _ => []) (cR [[]] <| cN) (fun _ => ?_)
  refine ok_seq ?_
  refine sS Tryd.f9 3 [0, 2, 8] [] (fun _ => [(.slice a (ts).length c), (.bool (shB ts)), (.bool (!(shB ts)))]) (fun _ => []) (cR [[]] <| cX (o_callP _ 23 (fun _ => #[(.slice a (ts).length c)]) (fun _ => (.bool (shB ts))) (fun _ _ => (by kernel_rfl)) (fun _ => (by kernel_rfl)) (fun _ _ => (by kernel_rfl)) (fun _ _ => trivial) (fun _ _ w hG => rdshaped_any a c ts w hG.facts0.now.1)) <| cR [[]] <| cN) (fun _ => ?_)
  refine oC (!(shB ts)) (fun hb1 => ?_) (fun hb1 => ?_)
  ·
    rw [hb1]
    refine sS Tryd.f9 1 [0, 2] [] (fun _ => [(.bool false)]) (fun _ => []) (cR [[]] <| cN) (fun _ => ?_)
    refine ok_ret ?_
    refine mt_then_r ?_
    exact mR (v := (.bool false)) (fun _ hS => ⟨congrArg (fun x => Ending.returned (.bool x)) (sh_no (not_t hb1)), hS.bel⟩)
  ·
    rw [hb1]
    refine ok_skip ?_
    refine mt_then ?_
    refine ok_seq ?_
    refine sS Tryd.f9 1 [0, 2, 3] [] (fun _ => [(.int .i64 0)]) (fun _ => []) (cR [[]] <| cN) (fun _ => ?_)
    refine ok_block ?_
    refine oL (σ := Nat) (fun i => [(0, (.slice a (ts).length c)), (3, (.int .i64 ((i : Nat) : Int)))]) (fun _ => []) (fun i => ts.length - i)
      (fun i => (i ≤ ts.length) ∧ ((ts.drop i).all (TmA.fd) = ts.all (TmA.fd))) 0 (⟨Nat.zero_le _, rfl⟩) [] ?_
    rintro i ⟨hi, hA⟩
    change Ok Tryd.prog _ _ 47 [(0, (.slice a (ts).length c)), (3, (.int .i64 ((i : Nat) : Int)))] _ [] (fun w => TmF w a c ts ∧ True)
    refine ok_seq ?_
    refine sS Tryd.f9 4 [0, 3, 12] [] (fun _ => [(.int .i64 ((i : Nat) : Int)), (.slice a (ts).length c), (.int .i64 (((ts).length : Nat) : Int)), (.bool (decide (((i : Nat) : Int) < (((ts).length : Nat) : Int))))]) (fun _ => []) (cR [[], [], [], []] <| cN) (fun _ => ?_)
    refine oC (decide (((i : Nat) : Int) < (((ts).length : Nat) : Int))) (fun hb2 => ?_) (fun hb2 => ?_)
    ·
      rw [hb2]
      refine ok_skip ?_
      refine mt_then ?_
      refine ok_seq ?_
      refine ok_block ?_
      refine sS Tryd.f9 6 [0, 3, 20] [] (fun _ => [(.slice a (ts).length c), (.int .i64 ((i : Nat) : Int)), (.pointer (adr a (i * 36))), (.agg (tmV ((gT ts i).kd) ((gT ts i).m) (((gT ts i).nu : Nat) : Int) ((gT ts i).h) (.slice ((gT ts i).ka) ((gT ts i).ks).length ((gT ts i).kc)))), (.bool (fdN ((gT ts i).kd) ((gT ts i).m) ((gT ts i).nu) ((gT ts i).h) ((gT ts i).ks).length)), (.bool (!(fdN ((gT ts i).kd) ((gT ts i).m) ((gT ts i).nu) ((gT ts i).h) ((gT ts i).ks).length)))]) (fun _ => []) (cR [[], []] <| cX (o_semF _ (fun _ => do pure (Next.value (← Instr.indexAt 24 (.slice a (ts).length c) (.int .i64 ((i : Nat) : Int))))) (fun _ => (.pointer (adr a (i * 36)))) (fun _ => (by kernel_rfl)) (fun _ => (by kernel_rfl)) (fun _ _ _ hG => TmF.idx Tryd.underlying24 Tryd.sizeOf39 hG.facts0.now.1 rfl ((show ((i : Nat) : Int) = ((i : Nat) : Int) ∧ i < (ts).length from ⟨rfl, (by have := of_decide_eq_true hb2; have := hlen; have := hi; omega)⟩)).1 ((show ((i : Nat) : Int) = ((i : Nat) : Int) ∧ i < (ts).length from ⟨rfl, (by have := of_decide_eq_true hb2; have := hlen; have := hi; omega)⟩)).2) (fun _ _ _ _ => persT)) <| cX (o_semF _ (fun _ => do pure (Next.value (← Instr.loadAt 39 (.pointer (adr a (i * 36)))))) (fun _ => (.agg (tmV ((gT ts i).kd) ((gT ts i).m) (((gT ts i).nu : Nat) : Int) ((gT ts i).h) (.slice ((gT ts i).ka) ((gT ts i).ks).length ((gT ts i).kc))))) (fun _ => (by kernel_rfl)) (fun _ => (by kernel_rfl)) (fun _ _ _ hG => TmF.ldA (i := i) Tryd.isAgg39 Tryd.sizeOf39 hG.facts0.now.1 ((show ((i : Nat) : Int) = ((i : Nat) : Int) ∧ i < (ts).length from ⟨rfl, (by have := of_decide_eq_true hb2; have := hlen; have := hi; omega)⟩)).2) (fun _ _ _ _ => persT)) <| cC (fun _ w => rdfields_any ((gT ts i).kd) ((gT ts i).m) ((gT ts i).nu) ((gT ts i).h) ((gT ts i).ka) ((gT ts i).kc) ((gT ts i).ks) (ho.gT i).h w) <| cR [[]] <| cN) (fun _ => ?_)
      refine oC (!(fdN ((gT ts i).kd) ((gT ts i).m) ((gT ts i).nu) ((gT ts i).h) ((gT ts i).ks).length)) (fun hb3 => ?_) (fun hb3 => ?_)
      ·
        rw [hb3]
        refine sS Tryd.f9 1 [0, 2, 3] [] (fun _ => [(.bool false)]) (fun _ => []) (cR [[]] <| cN) (fun _ => ?_)
        refine ok_ret ?_
        refine mt_block_r ?_
        refine mt_then_r ?_
        refine mt_then_r ?_
        refine mt_block_r ?_
        refine mt_then_r ?_
        exact mR (v := (.bool false)) (fun _ hS => ⟨congrArg (fun x => Ending.returned (.bool x)) (vl_c (all_stop (f := TmA.fd) (l := ts) (by have := of_decide_eq_true hb2; have := hlen; have := hi; omega) (not_t hb3) hA)), hS.bel⟩)
      ·
        rw [hb3]
        refine ok_skip ?_
        refine mt_block_n ?_
        refine mt_then ?_
        refine rS Tryd.f9 3 [0, 3] [] (fun _ => [(.int .i64 ((i : Nat) : Int)), (.int .i64 ((i + 1 : Nat) : Int)), (.int .i64 ((i + 1 : Nat) : Int))]) (fun _ => []) (cR [[]] <| cA (v := fun ρ => (.int .i64 (IntKind.i64.wrap (((i : Nat) : Int) + 1)))) (fun _ => (.int .i64 ((i + 1 : Nat) : Int))) (fun _ => congrArg (Value.int .i64) (wrap_addN i 1 (by have := of_decide_eq_true hb2; have := hlen; have := hi; omega))) <| cR [[]] <| cN) (fun _ => ?_)
        exact mN (i + 1) (by show ts.length - (i + 1) < ts.length - i; have := of_decide_eq_true hb2; have := hlen; have := hi; omega) (⟨(by have := of_decide_eq_true hb2; have := hlen; have := hi; omega), all_next (f := TmA.fd) (l := ts) (by have := of_decide_eq_true hb2; have := hlen; have := hi; omega) (not_f hb3) hA⟩) []
    ·
      rw [hb2]
      refine ok_exit ?_
      refine mt_then_e ?_
      refine mt_then_e ?_
      refine mt_block_h ?_
      refine mt_then ?_
      refine ok_seq ?_
      refine sS Tryd.f9 1 [0, 4] [] (fun _ => [(.int .i64 0)]) (fun _ => []) (cR [[]] <| cN) (fun _ => ?_)
      refine ok_block ?_
      refine oL (σ := Nat) (fun i2 => [(0, (.slice a (ts).length c)), (4, (.int .i64 ((i2 : Nat) : Int)))]) (fun _ => []) (fun i2 => ts.length - i2)
        (fun i2 => (i2 ≤ ts.length) ∧ ((ts.drop i2).all (TmA.vk) = ts.all (TmA.vk))) 0 (⟨Nat.zero_le _, rfl⟩) [] ?_
      rintro i2 ⟨hi2, hB⟩
      change Ok Tryd.prog _ _ 47 [(0, (.slice a (ts).length c)), (4, (.int .i64 ((i2 : Nat) : Int)))] _ [] (fun w => TmF w a c ts ∧ True)
      refine ok_seq ?_
      refine sS Tryd.f9 4 [0, 4, 24] [] (fun _ => [(.int .i64 ((i2 : Nat) : Int)), (.slice a (ts).length c), (.int .i64 (((ts).length : Nat) : Int)), (.bool (decide (((i2 : Nat) : Int) < (((ts).length : Nat) : Int))))]) (fun _ => []) (cR [[], [], [], []] <| cN) (fun _ => ?_)
      refine oC (decide (((i2 : Nat) : Int) < (((ts).length : Nat) : Int))) (fun hb4 => ?_) (fun hb4 => ?_)
      ·
        rw [hb4]
        refine ok_skip ?_
        refine mt_then ?_
        refine ok_seq ?_
        refine ok_block ?_
        refine sS Tryd.f9 1 [0, 4, 5] [] (fun _ => [(.int .i64 0)]) (fun _ => []) (cR [[]] <| cN) (fun _ => ?_)
        refine ok_block ?_
        refine oL (σ := Nat) (fun k => [(0, (.slice a (ts).length c)), (4, (.int .i64 ((i2 : Nat) : Int))), (5, (.int .i64 ((k : Nat) : Int)))]) (fun _ => []) (fun k => (gT ts i2).ks.length - k)
          (fun k => (k ≤ (gT ts i2).ks.length) ∧ (((gT ts i2).ks.drop k).all KpA.vp = (gT ts i2).ks.all KpA.vp)) 0 (⟨Nat.zero_le _, rfl⟩) [] ?_
        rintro k ⟨hk, hC⟩
        change Ok Tryd.prog _ _ 47 [(0, (.slice a (ts).length c)), (4, (.int .i64 ((i2 : Nat) : Int))), (5, (.int .i64 ((k : Nat) : Int)))] _ [] (fun w => TmF w a c ts ∧ True)
        have hkl : (gT ts i2).ks.length ≤ 1000000 := ho.klen hf0 i2
        refine ok_seq ?_
        refine sS Tryd.f9 8 [0, 4, 5, 34] [] (fun _ => [(.int .i64 ((k : Nat) : Int)), (.slice a (ts).length c), (.int .i64 ((i2 : Nat) : Int)), (.pointer (adr a (i2 * 36))), (.pointer (adr a (i2 * 36 + 35))), (.slice ((gT ts i2).ka) ((gT ts i2).ks).length ((gT ts i2).kc)), (.int .i64 ((((gT ts i2).ks).length : Nat) : Int)), (.bool (decide (((k : Nat) : Int) < ((((gT ts i2).ks).length : Nat) : Int))))]) (fun _ => []) (cR [[], [], []] <| cX (o_semF _ (fun _ => do pure (Next.value (← Instr.indexAt 24 (.slice a (ts).length c) (.int .i64 ((i2 : Nat) : Int))))) (fun _ => (.pointer (adr a (i2 * 36)))) (fun _ => (by kernel_rfl)) (fun _ => (by kernel_rfl)) (fun _ _ _ hG => TmF.idx Tryd.underlying24 Tryd.sizeOf39 hG.facts0.now.1 rfl ((show ((i2 : Nat) : Int) = ((i2 : Nat) : Int) ∧ i2 < (ts).length from ⟨rfl, (by have := of_decide_eq_false hb2; have := of_decide_eq_true hb4; have := hlen; have := hi; have := hi2; have := hk; have := hkl; omega)⟩)).1 ((show ((i2 : Nat) : Int) = ((i2 : Nat) : Int) ∧ i2 < (ts).length from ⟨rfl, (by have := of_decide_eq_false hb2; have := of_decide_eq_true hb4; have := hlen; have := hi; have := hi2; have := hk; have := hkl; omega)⟩)).2) (fun _ _ _ _ => persT)) <| cX (o_semF _ (fun _ => do pure (Next.value (← Instr.fieldAt 39 (.pointer (adr a (i2 * 36))) 4))) (fun _ => (.pointer (adr a (i2 * 36 + 35)))) (fun _ => (by kernel_rfl)) (fun _ => (by kernel_rfl)) (fun _ _ _ hG => fld_rs (o := 35) (k := i2 * 36) Tryd.underlying39 rfl rfl rfl Tryd.sizeOf37 (hG.facts0.now.1.pos ((show ((i2 : Nat) : Int) = ((i2 : Nat) : Int) ∧ i2 < (ts).length from ⟨rfl, (by have := of_decide_eq_false hb2; have := of_decide_eq_true hb4; have := hlen; have := hi; have := hi2; have := hk; have := hkl; omega)⟩)).2).1 (hG.facts0.now.1.pos ((show ((i2 : Nat) : Int) = ((i2 : Nat) : Int) ∧ i2 < (ts).length from ⟨rfl, (by have := of_decide_eq_false hb2; have := of_decide_eq_true hb4; have := hlen; have := hi; have := hi2; have := hk; have := hkl; omega)⟩)).2).2) (fun _ _ _ _ => persT)) <| cX (o_semF _ (fun _ => do pure (Next.value (← Instr.loadAt 37 (.pointer (adr a (i2 * 36 + 35)))))) (fun _ => (.slice ((gT ts i2).ka) ((gT ts i2).ks).length ((gT ts i2).kc))) (fun _ => (by kernel_rfl)) (fun _ => (by kernel_rfl)) (fun _ _ _ hG => TmF.ld (i := i2) (j := 35) Tryd.isAgg37 hG.facts0.now.1 ((show ((i2 : Nat) : Int) = ((i2 : Nat) : Int) ∧ i2 < (ts).length from ⟨rfl, (by have := of_decide_eq_false hb2; have := of_decide_eq_true hb4; have := hlen; have := hi; have := hi2; have := hk; have := hkl; omega)⟩)).2 (by decide) (by kernel_rfl)) (fun _ _ _ _ => persT)) <| cR [[], []] <| cN) (fun _ => ?_)
        refine oC (decide (((k : Nat) : Int) < ((((gT ts i2).ks).length : Nat) : Int))) (fun hb5 => ?_) (fun hb5 => ?_)
        ·
          rw [hb5]
          refine ok_skip ?_
          refine mt_then ?_
          refine ok_seq ?_
          refine ok_block ?_
          refine sS Tryd.f9 10 [0, 4, 5, 46] [] (fun _ => [(.slice a (ts).length c), (.int .i64 ((i2 : Nat) : Int)), (.pointer (adr a (i2 * 36))), (.pointer (adr a (i2 * 36 + 35))), (.slice ((gT ts i2).ka) ((gT ts i2).ks).length ((gT ts i2).kc)), (.int .i64 ((k : Nat) : Int)), (.pointer (adr ((gT ts i2).ka) (k * 45))), (.agg (kpV ((gK ((gT ts i2).ks) k).k.s) ((gK ((gT ts i2).ks) k).k.p) ((gK ((gT ts i2).ks) k).k.c) ((gK ((gT ts i2).ks) k).k.d) (((gK ((gT ts i2).ks) k).k.i : Nat) : Int) (((gK ((gT ts i2).ks) k).k.n : Nat) : Int) (.slice ((gK ((gT ts i2).ks) k).pa) (nI (gK ((gT ts i2).ks) k).ps).length ((gK ((gT ts i2).ks) k).pc)) (.bool ((gK ((gT ts i2).ks) k).wd)))), (.bool (KpA.vp (gK ((gT ts i2).ks) k))), (.bool (!(KpA.vp (gK ((gT ts i2).ks) k))))]) (fun _ => []) (cR [[], []] <| cX (o_semF _ (fun _ => do pure (Next.value (← Instr.indexAt 24 (.slice a (ts).length c) (.int .i64 ((i2 : Nat) : Int))))) (fun _ => (.pointer (adr a (i2 * 36)))) (fun _ => (by kernel_rfl)) (fun _ => (by kernel_rfl)) (fun _ _ _ hG => TmF.idx Tryd.underlying24 Tryd.sizeOf39 hG.facts0.now.1 rfl ((show ((i2 : Nat) : Int) = ((i2 : Nat) : Int) ∧ i2 < (ts).length from ⟨rfl, (by have := of_decide_eq_false hb2; have := of_decide_eq_true hb4; have := of_decide_eq_true hb5; have := hlen; have := hi; have := hi2; have := hk; have := hkl; omega)⟩)).1 ((show ((i2 : Nat) : Int) = ((i2 : Nat) : Int) ∧ i2 < (ts).length from ⟨rfl, (by have := of_decide_eq_false hb2; have := of_decide_eq_true hb4; have := of_decide_eq_true hb5; have := hlen; have := hi; have := hi2; have := hk; have := hkl; omega)⟩)).2) (fun _ _ _ _ => persT)) <| cX (o_semF _ (fun _ => do pure (Next.value (← Instr.fieldAt 39 (.pointer (adr a (i2 * 36))) 4))) (fun _ => (.pointer (adr a (i2 * 36 + 35)))) (fun _ => (by kernel_rfl)) (fun _ => (by kernel_rfl)) (fun _ _ _ hG => fld_rs (o := 35) (k := i2 * 36) Tryd.underlying39 rfl rfl rfl Tryd.sizeOf37 (hG.facts0.now.1.pos ((show ((i2 : Nat) : Int) = ((i2 : Nat) : Int) ∧ i2 < (ts).length from ⟨rfl, (by have := of_decide_eq_false hb2; have := of_decide_eq_true hb4; have := of_decide_eq_true hb5; have := hlen; have := hi; have := hi2; have := hk; have := hkl; omega)⟩)).2).1 (hG.facts0.now.1.pos ((show ((i2 : Nat) : Int) = ((i2 : Nat) : Int) ∧ i2 < (ts).length from ⟨rfl, (by have := of_decide_eq_false hb2; have := of_decide_eq_true hb4; have := of_decide_eq_true hb5; have := hlen; have := hi; have := hi2; have := hk; have := hkl; omega)⟩)).2).2) (fun _ _ _ _ => persT)) <| cX (o_semF _ (fun _ => do pure (Next.value (← Instr.loadAt 37 (.pointer (adr a (i2 * 36 + 35)))))) (fun _ => (.slice ((gT ts i2).ka) ((gT ts i2).ks).length ((gT ts i2).kc))) (fun _ => (by kernel_rfl)) (fun _ => (by kernel_rfl)) (fun _ _ _ hG => TmF.ld (i := i2) (j := 35) Tryd.isAgg37 hG.facts0.now.1 ((show ((i2 : Nat) : Int) = ((i2 : Nat) : Int) ∧ i2 < (ts).length from ⟨rfl, (by have := of_decide_eq_false hb2; have := of_decide_eq_true hb4; have := of_decide_eq_true hb5; have := hlen; have := hi; have := hi2; have := hk; have := hkl; omega)⟩)).2 (by decide) (by kernel_rfl)) (fun _ _ _ _ => persT)) <| cR [[]] <| cX (o_semF _ (fun _ => do pure (Next.value (← Instr.indexAt 37 (.slice ((gT ts i2).ka) ((gT ts i2).ks).length ((gT ts i2).kc)) (.int .i64 ((k : Nat) : Int))))) (fun _ => (.pointer (adr ((gT ts i2).ka) (k * 45)))) (fun _ => (by kernel_rfl)) (fun _ => (by kernel_rfl)) (fun _ _ _ hG => KpF.idx Tryd.underlying37 Tryd.sizeOf48 ((hG.facts0.now.1).sub _ (gT_mem ((show ((i2 : Nat) : Int) = ((i2 : Nat) : Int) ∧ i2 < (ts).length from ⟨rfl, (by have := of_decide_eq_false hb2; have := of_decide_eq_true hb4; have := of_decide_eq_true hb5; have := hlen; have := hi; have := hi2; have := hk; have := hkl; omega)⟩)).2)) rfl ((show ((k : Nat) : Int) = ((k : Nat) : Int) ∧ k < ((gT ts i2).ks).length from ⟨rfl, (by have := of_decide_eq_false hb2; have := of_decide_eq_true hb4; have := of_decide_eq_true hb5; have := hlen; have := hi; have := hi2; have := hk; have := hkl; omega)⟩)).1 ((show ((k : Nat) : Int) = ((k : Nat) : Int) ∧ k < ((gT ts i2).ks).length from ⟨rfl, (by have := of_decide_eq_false hb2; have := of_decide_eq_true hb4; have := of_decide_eq_true hb5; have := hlen; have := hi; have := hi2; have := hk; have := hkl; omega)⟩)).2) (fun _ _ _ _ => persT)) <| cX (o_semF _ (fun _ => do pure (Next.value (← Instr.loadAt 48 (.pointer (adr ((gT ts i2).ka) (k * 45)))))) (fun _ => (.agg (kpV ((gK ((gT ts i2).ks) k).k.s) ((gK ((gT ts i2).ks) k).k.p) ((gK ((gT ts i2).ks) k).k.c) ((gK ((gT ts i2).ks) k).k.d) (((gK ((gT ts i2).ks) k).k.i : Nat) : Int) (((gK ((gT ts i2).ks) k).k.n : Nat) : Int) (.slice ((gK ((gT ts i2).ks) k).pa) (nI (gK ((gT ts i2).ks) k).ps).length ((gK ((gT ts i2).ks) k).pc)) (.bool ((gK ((gT ts i2).ks) k).wd))))) (fun _ => (by kernel_rfl)) (fun _ => (by kernel_rfl)) (fun _ _ _ hG => KpF.ldA (i := k) Tryd.isAgg48 Tryd.sizeOf48 ((hG.facts0.now.1).sub _ (gT_mem ((show ((i2 : Nat) : Int) = ((i2 : Nat) : Int) ∧ i2 < (ts).length from ⟨rfl, (by have := of_decide_eq_false hb2; have := of_decide_eq_true hb4; have := of_decide_eq_true hb5; have := hlen; have := hi; have := hi2; have := hk; have := hkl; omega)⟩)).2)) ((show ((k : Nat) : Int) = ((k : Nat) : Int) ∧ k < ((gT ts i2).ks).length from ⟨rfl, (by have := of_decide_eq_false hb2; have := of_decide_eq_true hb4; have := of_decide_eq_true hb5; have := hlen; have := hi; have := hi2; have := hk; have := hkl; omega)⟩)).2) (fun _ _ _ _ => persT)) <| cX (o_callP _ 25 (fun _ => #[(.agg (kpV ((gK ((gT ts i2).ks) k).k.s) ((gK ((gT ts i2).ks) k).k.p) ((gK ((gT ts i2).ks) k).k.c) ((gK ((gT ts i2).ks) k).k.d) (((gK ((gT ts i2).ks) k).k.i : Nat) : Int) (((gK ((gT ts i2).ks) k).k.n : Nat) : Int) (.slice ((gK ((gT ts i2).ks) k).pa) (nI (gK ((gT ts i2).ks) k).ps).length ((gK ((gT ts i2).ks) k).pc)) (.bool ((gK ((gT ts i2).ks) k).wd))))]) (fun _ => (.bool (KpA.vp (gK ((gT ts i2).ks) k)))) (fun _ _ => (by kernel_rfl)) (fun _ => (by kernel_rfl)) (fun _ _ => (by kernel_rfl)) (fun _ _ => trivial) (fun _ _ w hG => rdvpath_any (gK ((gT ts i2).ks) k) (ho.gK i2 k) w ((((hG.facts0.now.1).sub _ (gT_mem ((show ((i2 : Nat) : Int) = ((i2 : Nat) : Int) ∧ i2 < (ts).length from ⟨rfl, (by have := of_decide_eq_false hb2; have := of_decide_eq_true hb4; have := of_decide_eq_true hb5; have := hlen; have := hi; have := hi2; have := hk; have := hkl; omega)⟩)).2))).sub _ (gK_mem ((show ((k : Nat) : Int) = ((k : Nat) : Int) ∧ k < ((gT ts i2).ks).length from ⟨rfl, (by have := of_decide_eq_false hb2; have := of_decide_eq_true hb4; have := of_decide_eq_true hb5; have := hlen; have := hi; have := hi2; have := hk; have := hkl; omega)⟩)).2)))) <| cR [[]] <| cN) (fun _ => ?_)
          refine oC (!(KpA.vp (gK ((gT ts i2).ks) k))) (fun hb6 => ?_) (fun hb6 => ?_)
          ·
            rw [hb6]
            refine sS Tryd.f9 1 [0, 2, 4, 5] [] (fun _ => [(.bool false)]) (fun _ => []) (cR [[]] <| cN) (fun _ => ?_)
            refine ok_ret ?_
            refine mt_block_r ?_
            refine mt_then_r ?_
            refine mt_then_r ?_
            refine mt_block_r ?_
            refine mt_block_r ?_
            refine mt_then_r ?_
            refine mt_then_r ?_
            refine mt_block_r ?_
            refine mt_then_r ?_
            exact mR (v := (.bool false)) (fun _ hS => ⟨congrArg (fun x => Ending.returned (.bool x)) (vl_d (all_stop (f := TmA.vk) (l := ts) (by have := of_decide_eq_false hb2; have := of_decide_eq_true hb4; have := of_decide_eq_true hb5; have := hlen; have := hi; have := hi2; have := hk; have := hkl; omega) (all_stop (f := KpA.vp) (l := (gT ts i2).ks) (by have := of_decide_eq_false hb2; have := of_decide_eq_true hb4; have := of_decide_eq_true hb5; have := hlen; have := hi; have := hi2; have := hk; have := hkl; omega) (not_t hb6) hC) hB)), hS.bel⟩)
          ·
            rw [hb6]
            refine ok_skip ?_
            refine mt_block_n ?_
            refine mt_then ?_
            refine rS Tryd.f9 3 [0, 4, 5] [] (fun _ => [(.int .i64 ((k : Nat) : Int)), (.int .i64 ((k + 1 : Nat) : Int)), (.int .i64 ((k + 1 : Nat) : Int))]) (fun _ => []) (cR [[]] <| cA (v := fun ρ => (.int .i64 (IntKind.i64.wrap (((k : Nat) : Int) + 1)))) (fun _ => (.int .i64 ((k + 1 : Nat) : Int))) (fun _ => congrArg (Value.int .i64) (wrap_addN k 1 (by have := of_decide_eq_false hb2; have := of_decide_eq_true hb4; have := of_decide_eq_true hb5; have := hlen; have := hi; have := hi2; have := hk; have := hkl; omega))) <| cR [[]] <| cN) (fun _ => ?_)
            exact mN (k + 1) (by show (gT ts i2).ks.length - (k + 1) < (gT ts i2).ks.length - k; have := of_decide_eq_false hb2; have := of_decide_eq_true hb4; have := of_decide_eq_true hb5; have := hlen; have := hi; have := hi2; have := hk; have := hkl; omega) (⟨(by have := of_decide_eq_false hb2; have := of_decide_eq_true hb4; have := of_decide_eq_true hb5; have := hlen; have := hi; have := hi2; have := hk; have := hkl; omega), all_next (f := KpA.vp) (l := (gT ts i2).ks) (by have := of_decide_eq_false hb2; have := of_decide_eq_true hb4; have := of_decide_eq_true hb5; have := hlen; have := hi; have := hi2; have := hk; have := hkl; omega) (not_f hb6) hC⟩) []
        ·
          rw [hb5]
          refine ok_exit ?_
          refine mt_then_e ?_
          refine mt_then_e ?_
          refine mt_block_h ?_
          refine mt_block_n ?_
          refine mt_then ?_
          refine rS Tryd.f9 3 [0, 4] [] (fun _ => [(.int .i64 ((i2 : Nat) : Int)), (.int .i64 ((i2 + 1 : Nat) : Int)), (.int .i64 ((i2 + 1 : Nat) : Int))]) (fun _ => []) (cR [[]] <| cA (v := fun ρ => (.int .i64 (IntKind.i64.wrap (((i2 : Nat) : Int) + 1)))) (fun _ => (.int .i64 ((i2 + 1 : Nat) : Int))) (fun _ => congrArg (Value.int .i64) (wrap_addN i2 1 (by have := of_decide_eq_false hb2; have := of_decide_eq_true hb4; have := of_decide_eq_false hb5; have := hlen; have := hi; have := hi2; have := hk; have := hkl; omega))) <| cR [[]] <| cN) (fun _ => ?_)
          exact mN (i2 + 1) (by show ts.length - (i2 + 1) < ts.length - i2; have := of_decide_eq_false hb2; have := of_decide_eq_true hb4; have := of_decide_eq_false hb5; have := hlen; have := hi; have := hi2; have := hk; have := hkl; omega) (⟨(by have := of_decide_eq_false hb2; have := of_decide_eq_true hb4; have := of_decide_eq_false hb5; have := hlen; have := hi; have := hi2; have := hk; have := hkl; omega), all_next (f := TmA.vk) (l := ts) (by have := of_decide_eq_false hb2; have := of_decide_eq_true hb4; have := of_decide_eq_false hb5; have := hlen; have := hi; have := hi2; have := hk; have := hkl; omega) (all_end (f := KpA.vp) (l := (gT ts i2).ks) (by have := of_decide_eq_false hb2; have := of_decide_eq_true hb4; have := of_decide_eq_false hb5; have := hlen; have := hi; have := hi2; have := hk; have := hkl; omega) hC) hB⟩) []
      ·
        rw [hb4]
        refine ok_exit ?_
        refine mt_then_e ?_
        refine mt_then_e ?_
        refine mt_block_h ?_
        refine mt_then ?_
        refine sS Tryd.f9 1 [2] [] (fun _ => [(.bool true)]) (fun _ => []) (cR [[]] <| cN) (fun _ => ?_)
        refine ok_ret ?_
        exact mR (v := (.bool true)) (fun _ hS => ⟨congrArg (fun x => Ending.returned (.bool x)) (vl_e (sh_yes (not_f hb1)).1 (sh_yes (not_f hb1)).2 (all_end (f := TmA.fd) (l := ts) (by have := of_decide_eq_false hb2; have := of_decide_eq_false hb4; have := hlen; have := hi; have := hi2; omega) hA) (all_end (f := TmA.vk) (l := ts) (by have := of_decide_eq_false hb2; have := of_decide_eq_false hb4; have := hlen; have := hi; have := hi2; omega) hB)), hS.bel⟩)

theorem dranged_any (a : Option Addr) (c : Nat) (ts : List TmA) (w0 : World) (hf0 : TmF w0 a c ts) : Calls Tryd.prog 10 #[(.slice a (ts).length c)] w0 (fun ε w' => ε = .returned (.bool (rgB ts)) ∧ Below w0.heap.size w0 w') := by
  refine Calls.of_ok (n := 24) (F := (fun w => TmF w a c ts ∧ True)) Tryd.func10 rfl rfl rfl (by simp) (hf0.pers0.and persT) ?_
  have hlen : ts.length ≤ 1000000 := hf0.max
  have ho : TsOk ts := hf0.oks
  refine sS Tryd.f10 1 [0, 2] [] (fun _ => [(.bool false)]) (fun _ => []) (cR [[]] <| cN) (fun _ => ?_)
  refine ok_seq ?_
  refine sS Tryd.f10 3 [2, 7, 8, 9] [] (fun _ => [(.slice a (ts).length c), (.int .i64 (((ts).length : Nat) : Int)), (.int .i64 0)]) (fun _ => []) (cR [[], [], []] <| cN) (fun _ => ?_)
  refine ok_block ?_
  refine oL (σ := Nat) (fun i2 => [(7, (.slice a (ts).length c)), (8, (.int .i64 (((ts).length : Nat) : Int))), (9, (.int .i64 ((i2 : Nat) : Int)))]) (fun _ => []) (fun i2 => ts.length - i2)
    (fun i2 => (i2 ≤ ts.length) ∧ ((ts.drop i2).any (TmA.rg) = ts.any (TmA.rg))) 0 (⟨Nat.zero_le _, rfl⟩) [] ?_
  rintro i2 ⟨hi2, hB⟩
  change Ok Tryd.prog _ _ 24 [(7, (.slice a (ts).length c)), (8, (.int .i64 (((ts).length : Nat) : Int))), (9, (.int .i64 ((i2 : Nat) : Int)))] _ [] (fun w => TmF w a c ts ∧ True)
  refine sS Tryd.f10 1 [7, 8, 9, 10] [] (fun _ => [(.bool (decide (((i2 : Nat) : Int) < (((ts).length : Nat) : Int))))]) (fun _ => []) (cR [[]] <| cN) (fun _ => ?_)
  refine ok_seq ?_
  refine oC (decide (((i2 : Nat) : Int) < (((ts).length : Nat) : Int))) (fun hb1 => ?_) (fun hb1 => ?_)
  ·
    rw [hb1]
    refine ok_skip ?_
    refine mt_then ?_
    refine ok_seq ?_
    refine ok_block ?_
    refine sS Tryd.f10 4 [4, 7, 8, 9] [] (fun ρ => [(.pointer (adr a (i2 * 36))), (.agg (tmV ((gT ts i2).kd) ((gT ts i2).m) (((gT ts i2).nu : Nat) : Int) ((gT ts i2).h) (.slice ((gT ts i2).ka) ((gT ts i2).ks).length ((gT ts i2).kc)))), (pt (nb ρ 2)), undef]) (fun ρ => [(2, { news := [(nb ρ 2, (.cells (tmV 0 0 0 0 (.slice none 0 0)) 39 (0, 0)))] }), (3, { puts := [(16, nb ρ 2, (.cells (tmV ((gT ts i2).kd) ((gT ts i2).m) (((gT ts i2).nu : Nat) : Int) ((gT ts i2).h) (.slice ((gT ts i2).ka) ((gT ts i2).ks).length ((gT ts i2).kc))) 39 (0, 0)))] })]) (cX (o_semF _ (fun _ => do pure (Next.value (← Instr.indexAt 24 (.slice a (ts).length c) (.int .i64 ((i2 : Nat) : Int))))) (fun _ => (.pointer (adr a (i2 * 36)))) (fun _ => (by kernel_rfl)) (fun _ => (by kernel_rfl)) (fun _ _ _ hG => TmF.idx Tryd.underlying24 Tryd.sizeOf39 hG.facts0.now.1 rfl ((show ((i2 : Nat) : Int) = ((i2 : Nat) : Int) ∧ i2 < (ts).length from ⟨rfl, (by have := of_decide_eq_true hb1; have := hlen; have := hi2; omega)⟩)).1 ((show ((i2 : Nat) : Int) = ((i2 : Nat) : Int) ∧ i2 < (ts).length from ⟨rfl, (by have := of_decide_eq_true hb1; have := hlen; have := hi2; omega)⟩)).2) (fun _ _ _ _ => persT)) <| cX (o_semF _ (fun _ => do pure (Next.value (← Instr.loadAt 39 (.pointer (adr a (i2 * 36)))))) (fun _ => (.agg (tmV ((gT ts i2).kd) ((gT ts i2).m) (((gT ts i2).nu : Nat) : Int) ((gT ts i2).h) (.slice ((gT ts i2).ka) ((gT ts i2).ks).length ((gT ts i2).kc))))) (fun _ => (by kernel_rfl)) (fun _ => (by kernel_rfl)) (fun _ _ _ hG => TmF.ldA (i := i2) Tryd.isAgg39 Tryd.sizeOf39 hG.facts0.now.1 ((show ((i2 : Nat) : Int) = ((i2 : Nat) : Int) ∧ i2 < (ts).length from ⟨rfl, (by have := of_decide_eq_true hb1; have := hlen; have := hi2; omega)⟩)).2) (fun _ _ _ _ => persT)) <| cR [[], [16]] <| cN) (fun ρ4 => ?_)
    refine sS Tryd.f10 4 [7, 8, 9, 14, 15, 16] [0] (fun _ => [(.pointer (some ⟨nb ρ4 2, 35, none⟩)), (.slice ((gT ts i2).ka) ((gT ts i2).ks).length ((gT ts i2).kc)), (.int .i64 ((((gT ts i2).ks).length : Nat) : Int)), (.int .i64 0)]) (fun _ => []) (cR [[], [0], [], []] <| cN) (fun _ => ?_)
    refine ok_block ?_
    refine oL (σ := Nat) (fun k => [(7, (.slice a (ts).length c)), (8, (.int .i64 (((ts).length : Nat) : Int))), (9, (.int .i64 ((i2 : Nat) : Int))), (14, (.slice ((gT ts i2).ka) ((gT ts i2).ks).length ((gT ts i2).kc))), (15, (.int .i64 ((((gT ts i2).ks).length : Nat) : Int))), (16, (.int .i64 ((k : Nat) : Int)))]) (fun _ => []) (fun k => (gT ts i2).ks.length - k)
      (fun k => (k ≤ (gT ts i2).ks.length) ∧ (((gT ts i2).ks.drop k).any KpA.wd = (gT ts i2).ks.any KpA.wd)) 0 (⟨Nat.zero_le _, rfl⟩) [] ?_
    rintro k ⟨hk, hC⟩
    change Ok Tryd.prog _ _ 24 [(7, (.slice a (ts).length c)), (8, (.int .i64 (((ts).length : Nat) : Int))), (9, (.int .i64 ((i2 : Nat) : Int))), (14, (.slice ((gT ts i2).ka) ((gT ts i2).ks).length ((gT ts i2).kc))), (15, (.int .i64 ((((gT ts i2).ks).length : Nat) : Int))), (16, (.int .i64 ((k : Nat) : Int)))] _ [] (fun w => TmF w a c ts ∧ True)
    have hkl : (gT ts i2).ks.length ≤ 1000000 := ho.klen hf0 i2
    refine sS Tryd.f10 1 [7, 8, 9, 14, 15, 16, 17] [] (fun _ => [(.bool (decide (((k : Nat) : Int) < ((((gT ts i2).ks).length : Nat) : Int))))]) (fun _ => []) (cR [[]] <| cN) (fun _ => ?_)
    refine ok_seq ?_
    refine oC (decide (((k : Nat) : Int) < ((((gT ts i2).ks).length : Nat) : Int))) (fun hb2 => ?_) (fun hb2 => ?_)
    ·
      rw [hb2]
      refine ok_skip ?_
      refine mt_then ?_
      refine ok_seq ?_
      refine ok_block ?_
      refine sS Tryd.f10 4 [6, 7, 8, 9, 14, 15, 16] [] (fun ρ => [(.pointer (adr ((gT ts i2).ka) (k * 45))), (.agg (kpV ((gK ((gT ts i2).ks) k).k.s) ((gK ((gT ts i2).ks) k).k.p) ((gK ((gT ts i2).ks) k).k.c) ((gK ((gT ts i2).ks) k).k.d) (((gK ((gT ts i2).ks) k).k.i : Nat) : Int) (((gK ((gT ts i2).ks) k).k.n : Nat) : Int) (.slice ((gK ((gT ts i2).ks) k).pa) (nI (gK ((gT ts i2).ks) k).ps).length ((gK ((gT ts i2).ks) k).pc)) (.bool ((gK ((gT ts i2).ks) k).wd)))), (pt (nb ρ 2)), undef]) (fun ρ => [(2, { news := [(nb ρ 2, (.cells (kpV 0 0 0 0 0 0 (.slice none 0 0) (.bool false)) 48 (0, 0)))] }), (3, { puts := [(16, nb ρ 2, (.cells (kpV ((gK ((gT ts i2).ks) k).k.s) ((gK ((gT ts i2).ks) k).k.p) ((gK ((gT ts i2).ks) k).k.c) ((gK ((gT ts i2).ks) k).k.d) (((gK ((gT ts i2).ks) k).k.i : Nat) : Int) (((gK ((gT ts i2).ks) k).k.n : Nat) : Int) (.slice ((gK ((gT ts i2).ks) k).pa) (nI (gK ((gT ts i2).ks) k).ps).length ((gK ((gT ts i2).ks) k).pc)) (.bool ((gK ((gT ts i2).ks) k).wd))) 48 (0, 0)))] })]) (cX (o_semF _ (fun _ => do pure (Next.value (← Instr.indexAt 37 (.slice ((gT ts i2).ka) ((gT ts i2).ks).length ((gT ts i2).kc)) (.int .i64 ((k : Nat) : Int))))) (fun _ => (.pointer (adr ((gT ts i2).ka) (k * 45)))) (fun _ => (by kernel_rfl)) (fun _ => (by kernel_rfl)) (fun _ _ _ hG => KpF.idx Tryd.underlying37 Tryd.sizeOf48 ((hG.facts0.now.1).sub _ (gT_mem ((show ((i2 : Nat) : Int) = ((i2 : Nat) : Int) ∧ i2 < (ts).length from ⟨rfl, (by have := of_decide_eq_true hb1; have := hlen; have := hi2; omega)⟩)).2)) rfl ((show ((k : Nat) : Int) = ((k : Nat) : Int) ∧ k < ((gT ts i2).ks).length from ⟨rfl, (by have := of_decide_eq_true hb1; have := of_decide_eq_true hb2; have := hlen; have := hi2; have := hk; have := hkl; omega)⟩)).1 ((show ((k : Nat) : Int) = ((k : Nat) : Int) ∧ k < ((gT ts i2).ks).length from ⟨rfl, (by have := of_decide_eq_true hb1; have := of_decide_eq_true hb2; have := hlen; have := hi2; have := hk; have := hkl; omega)⟩)).2) (fun _ _ _ _ => persT)) <| cX (o_semF _ (fun _ => do pure (Next.value (← Instr.loadAt 48 (.pointer (adr ((gT ts i2).ka) (k * 45)))))) (fun _ => (.agg (kpV ((gK ((gT ts i2).ks) k).k.s) ((gK ((gT ts i2).ks) k).k.p) ((gK ((gT ts i2).ks) k).k.c) ((gK ((gT ts i2).ks) k).k.d) (((gK ((gT ts i2).ks) k).k.i : Nat) : Int) (((gK ((gT ts i2).ks) k).k.n : Nat) : Int) (.slice ((gK ((gT ts i2).ks) k).pa) (nI (gK ((gT ts i2).ks) k).ps).length ((gK ((gT ts i2).ks) k).pc)) (.bool ((gK ((gT ts i2).ks) k).wd))))) (fun _ => (by kernel_rfl)) (fun _ => (by kernel_rfl)) (fun _ _ _ hG => KpF.ldA (i := k) Tryd.isAgg48 Tryd.sizeOf48 ((hG.facts0.now.1).sub _ (gT_mem ((show ((i2 : Nat) : Int) = ((i2 : Nat) : Int) ∧ i2 < (ts).length from ⟨rfl, (by have := of_decide_eq_true hb1; have := hlen; have := hi2; omega)⟩)).2)) ((show ((k : Nat) : Int) = ((k : Nat) : Int) ∧ k < ((gT ts i2).ks).length from ⟨rfl, (by have := of_decide_eq_true hb1; have := of_decide_eq_true hb2; have := hlen; have := hi2; have := hk; have := hkl; omega)⟩)).2) (fun _ _ _ _ => persT)) <| cR [[], [16]] <| cN) (fun ρ7 => ?_)
      refine sS Tryd.f10 2 [7, 8, 9, 14, 15, 16, 21] [0] (fun _ => [(.pointer (some ⟨nb ρ7 2, 44, none⟩)), (.bool ((gK ((gT ts i2).ks) k).wd))]) (fun _ => []) (cR [[], [0]] <| cN) (fun _ => ?_)
      refine oC ((gK ((gT ts i2).ks) k).wd) (fun hb3 => ?_) (fun hb3 => ?_)
      ·
        rw [hb3]
        refine sS Tryd.f10 1 [2, 7, 8, 9, 14, 15, 16] [] (fun _ => [(.bool true)]) (fun _ => []) (cR [[]] <| cN) (fun _ => ?_)
        refine ok_ret ?_
        refine mt_block_r ?_
        refine mt_then_r ?_
        refine mt_then_r ?_
        refine mt_block_r ?_
        refine mt_block_r ?_
        refine mt_then_r ?_
        refine mt_then_r ?_
        refine mt_block_r ?_
        refine mt_then_r ?_
        exact mR (v := (.bool true)) (fun _ hS => ⟨congrArg (fun x => Ending.returned (.bool x)) ((any_stop (f := TmA.rg) (l := ts) (by have := of_decide_eq_true hb1; have := of_decide_eq_true hb2; have := hlen; have := hi2; have := hk; have := hkl; omega) (any_stop (f := KpA.wd) (l := (gT ts i2).ks) (by have := of_decide_eq_true hb1; have := of_decide_eq_true hb2; have := hlen; have := hi2; have := hk; have := hkl; omega) hb3 hC) hB).symm), hS.bel⟩)
      ·
        rw [hb3]
        refine ok_skip ?_
        refine mt_block_n ?_
        refine mt_then ?_
        refine rS Tryd.f10 2 [7, 8, 9, 14, 15, 16] [] (fun _ => [(.int .i64 ((k + 1 : Nat) : Int)), (.int .i64 ((k + 1 : Nat) : Int))]) (fun _ => []) (cA (v := fun ρ => (.int .i64 (IntKind.i64.wrap (((k : Nat) : Int) + 1)))) (fun _ => (.int .i64 ((k + 1 : Nat) : Int))) (fun _ => congrArg (Value.int .i64) (wrap_addN k 1 (by have := of_decide_eq_true hb1; have := of_decide_eq_true hb2; have := hlen; have := hi2; have := hk; have := hkl; omega))) <| cR [[]] <| cN) (fun _ => ?_)
        exact mN (k + 1) (by show (gT ts i2).ks.length - (k + 1) < (gT ts i2).ks.length - k; have := of_decide_eq_true hb1; have := of_decide_eq_true hb2; have := hlen; have := hi2; have := hk; have := hkl; omega) (⟨(by have := of_decide_eq_true hb1; have := of_decide_eq_true hb2; have := hlen; have := hi2; have := hk; have := hkl; omega), any_next (f := KpA.wd) (l := (gT ts i2).ks) (by have := of_decide_eq_true hb1; have := of_decide_eq_true hb2; have := hlen; have := hi2; have := hk; have := hkl; omega) hb3 hC⟩) []
    ·
      rw [hb2]
      refine ok_exit ?_
      refine mt_then_e ?_
      refine mt_then_e ?_
      refine mt_block_h ?_
      refine mt_block_n ?_
      refine mt_then ?_
      refine rS Tryd.f10 2 [7, 8, 9] [] (fun _ => [(.int .i64 ((i2 + 1 : Nat) : Int)), (.int .i64 ((i2 + 1 : Nat) : Int))]) (fun _ => []) (cA (v := fun ρ => (.int .i64 (IntKind.i64.wrap (((i2 : Nat) : Int) + 1)))) (fun _ => (.int .i64 ((i2 + 1 : Nat) : Int))) (fun _ => congrArg (Value.int .i64) (wrap_addN i2 1 (by have := of_decide_eq_true hb1; have := of_decide_eq_false hb2; have := hlen; have := hi2; have := hk; have := hkl; omega))) <| cR [[]] <| cN) (fun _ => ?_)
      exact mN (i2 + 1) (by show ts.length - (i2 + 1) < ts.length - i2; have := of_decide_eq_true hb1; have := of_decide_eq_false hb2; have := hlen; have := hi2; have := hk; have := hkl; omega) (⟨(by have := of_decide_eq_true hb1; have := of_decide_eq_false hb2; have := hlen; have := hi2; have := hk; have := hkl; omega), any_next (f := TmA.rg) (l := ts) (by have := of_decide_eq_true hb1; have := of_decide_eq_false hb2; have := hlen; have := hi2; have := hk; have := hkl; omega) (any_end (f := KpA.wd) (l := (gT ts i2).ks) (by have := of_decide_eq_true hb1; have := of_decide_eq_false hb2; have := hlen; have := hi2; have := hk; have := hkl; omega) hC) hB⟩) []
  ·
    rw [hb1]
    refine ok_exit ?_
    refine mt_then_e ?_
    refine mt_then_e ?_
    refine mt_block_h ?_
    refine mt_then ?_
    refine sS Tryd.f10 1 [2] [] (fun _ => [(.bool false)]) (fun _ => []) (cR [[]] <| cN) (fun _ => ?_)
    refine ok_ret ?_
    exact mR (v := (.bool false)) (fun _ hS => ⟨congrArg (fun x => Ending.returned (.bool x)) ((any_end (f := TmA.rg) (l := ts) (by have := of_decide_eq_false hb1; have := hlen; have := hi2; omega) hB).symm), hS.bel⟩)

theorem rdranged_any (a : Option Addr) (c : Nat) (ts : List TmA) (w0 : World) (hf0 : TmF w0 a c ts) : Calls Tryd.prog 11 #[(.slice a (ts).length c)] w0 (fun ε w' => ε = .returned (.bool (rgB ts)) ∧ Below w0.heap.size w0 w') := by
  refine Calls.of_ok (n := 30) (F := (fun w => TmF w a c ts ∧ True)) Tryd.func11 rfl rfl rfl (by simp) (hf0.pers0.and persT) ?_
  have hlen : ts.length ≤ 1000000 := hf0.max
  have ho : TsOk ts := hf0.oks
  refine sS Tryd.f11 1 [0, 2] [] (fun _ => [(.bool false)]) (fun _ => []) (cR [[]] <| cN) (fun _ => ?_)
  refine ok_seq ?_
  refine sS Tryd.f11 1 [0, 2, 3] [] (fun _ => [(.int .i64 0)]) (fun _ => []) (cR [[]] <| cN) (fun _ => ?_)
  refine ok_block ?_
  refine oL (σ := Nat) (fun i2 => [(0, (.slice a (ts).length c)), (3, (.int .i64 ((i2 : Nat) : Int)))]) (fun _ => []) (fun i2 => ts.length - i2)
    (fun i2 => (i2 ≤ ts.length) ∧ ((ts.drop i2).any (TmA.rg) = ts.any (TmA.rg))) 0 (⟨Nat.zero_le _, rfl⟩) [] ?_
  rintro i2 ⟨hi2, hB⟩
  change Ok Tryd.prog _ _ 30 [(0, (.slice a (ts).length c)), (3, (.int .i64 ((i2 : Nat) : Int)))] _ [] (fun w => TmF w a c ts ∧ True)
  refine ok_seq ?_
  refine sS Tryd.f11 4 [0, 3, 8] [] (fun _ => [(.int .i64 ((i2 : Nat) : Int)), (.slice a (ts).length c), (.int .i64 (((ts).length : Nat) : Int)), (.bool (decide (((i2 : Nat) : Int) < (((ts).length : Nat) : Int))))]) (fun _ => []) (cR [[], [], [], []] <| cN) (fun _ => ?_)
  refine oC (decide (((i2 : Nat) : Int) < (((ts).length : Nat) : Int))) (fun hb1 => ?_) (fun hb1 => ?_)
  ·
    rw [hb1]
    refine ok_skip ?_
    refine mt_then ?_
    refine ok_seq ?_
    refine ok_block ?_
    refine sS Tryd.f11 1 [0, 3, 4] [] (fun _ => [(.int .i64 0)]) (fun _ => []) (cR [[]] <| cN) (fun _ => ?_)
    refine ok_block ?_
    refine oL (σ := Nat) (fun k => [(0, (.slice a (ts).length c)), (3, (.int .i64 ((i2 : Nat) : Int))), (4, (.int .i64 ((k : Nat) : Int)))]) (fun _ => []) (fun k => (gT ts i2).ks.length - k)
      (fun k => (k ≤ (gT ts i2).ks.length) ∧ (((gT ts i2).ks.drop k).any KpA.wd = (gT ts i2).ks.any KpA.wd)) 0 (⟨Nat.zero_le _, rfl⟩) [] ?_
    rintro k ⟨hk, hC⟩
    change Ok Tryd.prog _ _ 30 [(0, (.slice a (ts).length c)), (3, (.int .i64 ((i2 : Nat) : Int))), (4, (.int .i64 ((k : Nat) : Int)))] _ [] (fun w => TmF w a c ts ∧ True)
    have hkl : (gT ts i2).ks.length ≤ 1000000 := ho.klen hf0 i2
    refine ok_seq ?_
    refine sS Tryd.f11 8 [0, 3, 4, 18] [] (fun _ => [(.int .i64 ((k : Nat) : Int)), (.slice a (ts).length c), (.int .i64 ((i2 : Nat) : Int)), (.pointer (adr a (i2 * 36))), (.pointer (adr a (i2 * 36 + 35))), (.slice ((gT ts i2).ka) ((gT ts i2).ks).length ((gT ts i2).kc)), (.int .i64 ((((gT ts i2).ks).length : Nat) : Int)), (.bool (decide (((k : Nat) : Int) < ((((gT ts i2).ks).length : Nat) : Int))))]) (fun _ => []) (cR [[], [], []] <| cX (o_semF _ (fun _ => do pure (Next.value (← Instr.indexAt 24 (.slice a (ts).length c) (.int .i64 ((i2 : Nat) : Int))))) (fun _ => (.pointer (adr a (i2 * 36)))) (fun _ => (by kernel_rfl)) (fun _ => (by kernel_rfl)) (fun _ _ _ hG => TmF.idx Tryd.underlying24 Tryd.sizeOf39 hG.facts0.now.1 rfl ((show ((i2 : Nat) : Int) = ((i2 : Nat) : Int) ∧ i2 < (ts).length from ⟨rfl, (by have := of_decide_eq_true hb1; have := hlen; have := hi2; have := hk; have := hkl; omega)⟩)).1 ((show ((i2 : Nat) : Int) = ((i2 : Nat) : Int) ∧ i2 < (ts).length from ⟨rfl, (by have := of_decide_eq_true hb1; have := hlen; have := hi2; have := hk; have := hkl; omega)⟩)).2) (fun _ _ _ _ => persT)) <| cX (o_semF _ (fun _ => do pure (Next.value (← Instr.fieldAt 39 (.pointer (adr a (i2 * 36))) 4))) (fun _ => (.pointer (adr a (i2 * 36 + 35)))) (fun _ => (by kernel_rfl)) (fun _ => (by kernel_rfl)) (fun _ _ _ hG => fld_rs (o := 35) (k := i2 * 36) Tryd.underlying39 rfl rfl rfl Tryd.sizeOf37 (hG.facts0.now.1.pos ((show ((i2 : Nat) : Int) = ((i2 : Nat) : Int) ∧ i2 < (ts).length from ⟨rfl, (by have := of_decide_eq_true hb1; have := hlen; have := hi2; have := hk; have := hkl; omega)⟩)).2).1 (hG.facts0.now.1.pos ((show ((i2 : Nat) : Int) = ((i2 : Nat) : Int) ∧ i2 < (ts).length from ⟨rfl, (by have := of_decide_eq_true hb1; have := hlen; have := hi2; have := hk; have := hkl; omega)⟩)).2).2) (fun _ _ _ _ => persT)) <| cX (o_semF _ (fun _ => do pure (Next.value (← Instr.loadAt 37 (.pointer (adr a (i2 * 36 + 35)))))) (fun _ => (.slice ((gT ts i2).ka) ((gT ts i2).ks).length ((gT ts i2).kc))) (fun _ => (by kernel_rfl)) (fun _ => (by kernel_rfl)) (fun _ _ _ hG => TmF.ld (i := i2) (j := 35) Tryd.isAgg37 hG.facts0.now.1 ((show ((i2 : Nat) : Int) = ((i2 : Nat) : Int) ∧ i2 < (ts).length from ⟨rfl, (by have := of_decide_eq_true hb1; have := hlen; have := hi2; have := hk; have := hkl; omega)⟩)).2 (by decide) (by kernel_rfl)) (fun _ _ _ _ => persT)) <| cR [[], []] <| cN) (fun _ => ?_)
    refine oC (decide (((k : Nat) : Int) < ((((gT ts i2).ks).length : Nat) : Int))) (fun hb2 => ?_) (fun hb2 => ?_)
    ·
      rw [hb2]
      refine ok_skip ?_
      refine mt_then ?_
      refine ok_seq ?_
      refine ok_block ?_
      refine sS Tryd.f11 9 [0, 3, 4, 29] [] (fun _ => [(.slice a (ts).length c), (.int .i64 ((i2 : Nat) : Int)), (.pointer (adr a (i2 * 36))), (.pointer (adr a (i2 * 36 + 35))), (.slice ((gT ts i2).ka) ((gT ts i2).ks).length ((gT ts i2).kc)), (.int .i64 ((k : Nat) : Int)), (.pointer (adr ((gT ts i2).ka) (k * 45))), (.pointer (adr ((gT ts i2).ka) (k * 45 + 44))), (.bool ((gK ((gT ts i2).ks) k).wd))]) (fun _ => []) (cR [[], []] <| cX (o_semF _ (fun _ => do pure (Next.value (← Instr.indexAt 24 (.slice a (ts).length c) (.int .i64 ((i2 : Nat) : Int))))) (fun _ => (.pointer (adr a (i2 * 36)))) (fun _ => (by kernel_rfl)) (fun _ => (by kernel_rfl)) (fun _ _ _ hG => TmF.idx Tryd.underlying24 Tryd.sizeOf39 hG.facts0.now.1 rfl ((show ((i2 : Nat) : Int) = ((i2 : Nat) : Int) ∧ i2 < (ts).length from ⟨rfl, (by have := of_decide_eq_true hb1; have := of_decide_eq_true hb2; have := hlen; have := hi2; have := hk; have := hkl; omega)⟩)).1 ((show ((i2 : Nat) : Int) = ((i2 : Nat) : Int) ∧ i2 < (ts).length from ⟨rfl, (by have := of_decide_eq_true hb1; have := of_decide_eq_true hb2; have := hlen; have := hi2; have := hk; have := hkl; omega)⟩)).2) (fun _ _ _ _ => persT)) <| cX (o_semF _ (fun _ => do pure (Next.value (← Instr.fieldAt 39 (.pointer (adr a (i2 * 36))) 4))) (fun _ => (.pointer (adr a (i2 * 36 + 35)))) (fun _ => (by kernel_rfl)) (fun _ => (by kernel_rfl)) (fun _ _ _ hG => fld_rs (o := 35) (k := i2 * 36) Tryd.underlying39 rfl rfl rfl Tryd.sizeOf37 (hG.facts0.now.1.pos ((show ((i2 : Nat) : Int) = ((i2 : Nat) : Int) ∧ i2 < (ts).length from ⟨rfl, (by have := of_decide_eq_true hb1; have := of_decide_eq_true hb2; have := hlen; have := hi2; have := hk; have := hkl; omega)⟩)).2).1 (hG.facts0.now.1.pos ((show ((i2 : Nat) : Int) = ((i2 : Nat) : Int) ∧ i2 < (ts).length from ⟨rfl, (by have := of_decide_eq_true hb1; have := of_decide_eq_true hb2; have := hlen; have := hi2; have := hk; have := hkl; omega)⟩)).2).2) (fun _ _ _ _ => persT)) <| cX (o_semF _ (fun _ => do pure (Next.value (← Instr.loadAt 37 (.pointer (adr a (i2 * 36 + 35)))))) (fun _ => (.slice ((gT ts i2).ka) ((gT ts i2).ks).length ((gT ts i2).kc))) (fun _ => (by kernel_rfl)) (fun _ => (by kernel_rfl)) (fun _ _ _ hG => TmF.ld (i := i2) (j := 35) Tryd.isAgg37 hG.facts0.now.1 ((show ((i2 : Nat) : Int) = ((i2 : Nat) : Int) ∧ i2 < (ts).length from ⟨rfl, (by have := of_decide_eq_true hb1; have := of_decide_eq_true hb2; have := hlen; have := hi2; have := hk; have := hkl; omega)⟩)).2 (by decide) (by kernel_rfl)) (fun _ _ _ _ => persT)) <| cR [[]] <| cX (o_semF _ (fun _ => do pure (Next.value (← Instr.indexAt 37 (.slice ((gT ts i2).ka) ((gT ts i2).ks).length ((gT ts i2).kc)) (.int .i64 ((k : Nat) : Int))))) (fun _ => (.pointer (adr ((gT ts i2).ka) (k * 45)))) (fun _ => (by kernel_rfl)) (fun _ => (by kernel_rfl)) (fun _ _ _ hG => KpF.idx Tryd.underlying37 Tryd.sizeOf48 ((hG.facts0.now.1).sub _ (gT_mem ((show ((i2 : Nat) : Int) = ((i2 : Nat) : Int) ∧ i2 < (ts).length from ⟨rfl, (by have := of_decide_eq_true hb1; have := of_decide_eq_true hb2; have := hlen; have := hi2; have := hk; have := hkl; omega)⟩)).2)) rfl ((show ((k : Nat) : Int) = ((k : Nat) : Int) ∧ k < ((gT ts i2).ks).length from ⟨rfl, (by have := of_decide_eq_true hb1; have := of_decide_eq_true hb2; have := hlen; have := hi2; have := hk; have := hkl; omega)⟩)).1 ((show ((k : Nat) : Int) = ((k : Nat) : Int) ∧ k < ((gT ts i2).ks).length from ⟨rfl, (by have := of_decide_eq_true hb1; have := of_decide_eq_true hb2; have := hlen; have := hi2; have := hk; have := hkl; omega)⟩)).2) (fun _ _ _ _ => persT)) <| cX (o_semF _ (fun _ => do pure (Next.value (← Instr.fieldAt 48 (.pointer (adr ((gT ts i2).ka) (k * 45))) 2))) (fun _ => (.pointer (adr ((gT ts i2).ka) (k * 45 + 44)))) (fun _ => (by kernel_rfl)) (fun _ => (by kernel_rfl)) (fun _ _ _ hG => fld_rs (o := 44) (k := k * 45) Tryd.underlying48 rfl rfl rfl Tryd.sizeOf4 (((hG.facts0.now.1).sub _ (gT_mem ((show ((i2 : Nat) : Int) = ((i2 : Nat) : Int) ∧ i2 < (ts).length from ⟨rfl, (by have := of_decide_eq_true hb1; have := of_decide_eq_true hb2; have := hlen; have := hi2; have := hk; have := hkl; omega)⟩)).2)).pos ((show ((k : Nat) : Int) = ((k : Nat) : Int) ∧ k < ((gT ts i2).ks).length from ⟨rfl, (by have := of_decide_eq_true hb1; have := of_decide_eq_true hb2; have := hlen; have := hi2; have := hk; have := hkl; omega)⟩)).2).1 (((hG.facts0.now.1).sub _ (gT_mem ((show ((i2 : Nat) : Int) = ((i2 : Nat) : Int) ∧ i2 < (ts).length from ⟨rfl, (by have := of_decide_eq_true hb1; have := of_decide_eq_true hb2; have := hlen; have := hi2; have := hk; have := hkl; omega)⟩)).2)).pos ((show ((k : Nat) : Int) = ((k : Nat) : Int) ∧ k < ((gT ts i2).ks).length from ⟨rfl, (by have := of_decide_eq_true hb1; have := of_decide_eq_true hb2; have := hlen; have := hi2; have := hk; have := hkl; omega)⟩)).2).2) (fun _ _ _ _ => persT)) <| cX (o_semF _ (fun _ => do pure (Next.value (← Instr.loadAt 4 (.pointer (adr ((gT ts i2).ka) (k * 45 + 44)))))) (fun _ => (.bool ((gK ((gT ts i2).ks) k).wd))) (fun _ => (by kernel_rfl)) (fun _ => (by kernel_rfl)) (fun _ _ _ hG => KpF.ld (i := k) (j := 44) Tryd.isAgg4 ((hG.facts0.now.1).sub _ (gT_mem ((show ((i2 : Nat) : Int) = ((i2 : Nat) : Int) ∧ i2 < (ts).length from ⟨rfl, (by have := of_decide_eq_true hb1; have := of_decide_eq_true hb2; have := hlen; have := hi2; have := hk; have := hkl; omega)⟩)).2)) ((show ((k : Nat) : Int) = ((k : Nat) : Int) ∧ k < ((gT ts i2).ks).length from ⟨rfl, (by have := of_decide_eq_true hb1; have := of_decide_eq_true hb2; have := hlen; have := hi2; have := hk; have := hkl; omega)⟩)).2 (by decide) (by kernel_rfl)) (fun _ _ _ _ => persT)) <| cN) (fun _ => ?_)
      refine oC ((gK ((gT ts i2).ks) k).wd) (fun hb3 => ?_) (fun hb3 => ?_)
      ·
        rw [hb3]
        refine sS Tryd.f11 1 [0, 2, 3, 4] [] (fun _ => [(.bool true)]) (fun _ => []) (cR [[]] <| cN) (fun _ => ?_)
        refine ok_ret ?_
        refine mt_block_r ?_
        refine mt_then_r ?_
        refine mt_then_r ?_
        refine mt_block_r ?_
        refine mt_block_r ?_
        refine mt_then_r ?_
        refine mt_then_r ?_
        refine mt_block_r ?_
        refine mt_then_r ?_
        exact mR (v := (.bool true)) (fun _ hS => ⟨congrArg (fun x => Ending.returned (.bool x)) ((any_stop (f := TmA.rg) (l := ts) (by have := of_decide_eq_true hb1; have := of_decide_eq_true hb2; have := hlen; have := hi2; have := hk; have := hkl; omega) (any_stop (f := KpA.wd) (l := (gT ts i2).ks) (by have := of_decide_eq_true hb1; have := of_decide_eq_true hb2; have := hlen; have := hi2; have := hk; have := hkl; omega) hb3 hC) hB).symm), hS.bel⟩)
      ·
        rw [hb3]
        refine ok_skip ?_
        refine mt_block_n ?_
        refine mt_then ?_
        refine rS Tryd.f11 3 [0, 3, 4] [] (fun _ => [(.int .i64 ((k : Nat) : Int)), (.int .i64 ((k + 1 : Nat) : Int)), (.int .i64 ((k + 1 : Nat) : Int))]) (fun _ => []) (cR [[]] <| cA (v := fun ρ => (.int .i64 (IntKind.i64.wrap (((k : Nat) : Int) + 1)))) (fun _ => (.int .i64 ((k + 1 : Nat) : Int))) (fun _ => congrArg (Value.int .i64) (wrap_addN k 1 (by have := of_decide_eq_true hb1; have := of_decide_eq_true hb2; have := hlen; have := hi2; have := hk; have := hkl; omega))) <| cR [[]] <| cN) (fun _ => ?_)
        exact mN (k + 1) (by show (gT ts i2).ks.length - (k + 1) < (gT ts i2).ks.length - k; have := of_decide_eq_true hb1; have := of_decide_eq_true hb2; have := hlen; have := hi2; have := hk; have := hkl; omega) (⟨(by have := of_decide_eq_true hb1; have := of_decide_eq_true hb2; have := hlen; have := hi2; have := hk; have := hkl; omega), any_next (f := KpA.wd) (l := (gT ts i2).ks) (by have := of_decide_eq_true hb1; have := of_decide_eq_true hb2; have := hlen; have := hi2; have := hk; have := hkl; omega) hb3 hC⟩) []
    ·
      rw [hb2]
      refine ok_exit ?_
      refine mt_then_e ?_
      refine mt_then_e ?_
      refine mt_block_h ?_
      refine mt_block_n ?_
      refine mt_then ?_
      refine rS Tryd.f11 3 [0, 3] [] (fun _ => [(.int .i64 ((i2 : Nat) : Int)), (.int .i64 ((i2 + 1 : Nat) : Int)), (.int .i64 ((i2 + 1 : Nat) : Int))]) (fun _ => []) (cR [[]] <| cA (v := fun ρ => (.int .i64 (IntKind.i64.wrap (((i2 : Nat) : Int) + 1)))) (fun _ => (.int .i64 ((i2 + 1 : Nat) : Int))) (fun _ => congrArg (Value.int .i64) (wrap_addN i2 1 (by have := of_decide_eq_true hb1; have := of_decide_eq_false hb2; have := hlen; have := hi2; have := hk; have := hkl; omega))) <| cR [[]] <| cN) (fun _ => ?_)
      exact mN (i2 + 1) (by show ts.length - (i2 + 1) < ts.length - i2; have := of_decide_eq_true hb1; have := of_decide_eq_false hb2; have := hlen; have := hi2; have := hk; have := hkl; omega) (⟨(by have := of_decide_eq_true hb1; have := of_decide_eq_false hb2; have := hlen; have := hi2; have := hk; have := hkl; omega), any_next (f := TmA.rg) (l := ts) (by have := of_decide_eq_true hb1; have := of_decide_eq_false hb2; have := hlen; have := hi2; have := hk; have := hkl; omega) (any_end (f := KpA.wd) (l := (gT ts i2).ks) (by have := of_decide_eq_true hb1; have := of_decide_eq_false hb2; have := hlen; have := hi2; have := hk; have := hkl; omega) hC) hB⟩) []
  ·
    rw [hb1]
    refine ok_exit ?_
    refine mt_then_e ?_
    refine mt_then_e ?_
    refine mt_block_h ?_
    refine mt_then ?_
    refine sS Tryd.f11 1 [2] [] (fun _ => [(.bool false)]) (fun _ => []) (cR [[]] <| cN) (fun _ => ?_)
    refine ok_ret ?_
    exact mR (v := (.bool false)) (fun _ hS => ⟨congrArg (fun x => Ending.returned (.bool x)) ((any_end (f := TmA.rg) (l := ts) (by have := of_decide_eq_false hb1; have := hlen; have := hi2; omega) hB).symm), hS.bel⟩)
end Go.Proofs.YtlkbhiaoolddmaaDoor

/-! Numbers that are taken from a list: the walks' last equations. -/
namespace Go.Proofs.YtlkbhiaoolddmaaDoor
open Go Go.RowKit

theorem run_remI {P : Program} {t : TypeId} {v : Int} {n : Nat} (hn : 0 < n) (w : World) : (binOp .rem t (.int .i64 v) (.int .i64 (n : Int))).run P w = .ok (.int .i64 (Int.tmod v (n : Int))) w := by
  simp only [binOp, Op.intDiv, ne_eq, not_true_eq_false, if_false, if_neg (by omega : ¬ (n : Int) = 0)]
  rfl
theorem mod_wrap {v : Int} {n : Nat} (hn : 0 < n ∧ n ≤ 1099511627776) (h : Int.tmod v n < 0) : IntKind.i64.wrap (Int.tmod v (n : Int) + (n : Int)) = ((dm v n : Nat) : Int) := by
  have h1 := mod_neg hn.1 h
  have h2 := dm_lt v hn.1
  rw [h1]
  exact i64N (by omega)
/-- Integers of 64 bits. -/
def Z64 (zs : List Int) : Prop := ∀ z ∈ zs, -9223372036854775808 ≤ z ∧ z < 9223372036854775808
theorem Z64.get {zs : List Int} (h : Z64 zs) (i : Nat) : -9223372036854775808 ≤ gI zs i ∧ gI zs i < 9223372036854775808 := by
  unfold gI
  by_cases hi : i < zs.length
  · rw [List.getD_eq_getElem?_getD, List.getElem?_eq_getElem hi]
    exact h _ (List.getElem_mem hi)
  · rw [List.getD_eq_getElem?_getD, List.getElem?_eq_none (by omega)]
    decide
theorem pN_wrap {zs : List Int} {j : Nat} (hl : zs.length ≤ 140737488351232) (h : ((pN zs j : Nat) : Int) < ((zs.length : Nat) : Int)) : IntKind.i64.wrap (((pN zs j : Nat) : Int) + 1) = ((pN zs (j + 1) : Nat) : Int) := by
  have h1 := pN_succ (zs := zs) (j := j) (by omega)
  rw [h1, i64N (by omega)]
  omega
theorem pN_back {zs : List Int} {j : Nat} (hl : zs.length ≤ 140737488351232) (h : ((pN zs j : Nat) : Int) < ((zs.length : Nat) : Int)) : IntKind.i64.wrap (((pN zs (j + 1) : Nat) : Int) - 1) = ((pN zs j : Nat) : Int) := by
  have h1 := pN_succ (zs := zs) (j := j) (by omega)
  rw [h1, i64N (by omega)]
  omega
theorem snd4 : sndB (Ky.mk 0 4 0 0 0 0) = true := by
  refine snd_mk (by decide) (by decide) ?_ (Or.inl rfl)
  show valB 4 = true
  rw [← sane_pub, (pub_yes sane_sec).1]; exact val_pub sane_sec
end Go.Proofs.YtlkbhiaoolddmaaDoor

/-! Numbers that are taken from a list, and what is made of them: the walks. -/
namespace Go.Proofs.YtlkbhiaoolddmaaDoor
open Go Go.RowKit

theorem mod_any (v : Int) (n : Nat) (hn : 0 < n ∧ n ≤ 1099511627776) (__hv : -9223372036854775808 ≤ v ∧ v < 9223372036854775808) (w0 : World) : Calls Tryd.prog 14 #[(.int .i64 v), (.int .i64 ((n : Nat) : Int))] w0 (fun ε w' => ε = .returned (.int .i64 ((dm v n : Nat) : Int)) ∧ Below w0.heap.size w0 w') := by
  refine Calls.of_ok (n := 15) (F := (fun _ => True)) Tryd.func14 rfl rfl rfl (by simp) (persTrue (fun _ => trivial)) ?_
  refine sS Tryd.f14 1 [0, 1, 4] [] (fun _ => [(.int .i64 0)]) (fun _ => []) (cR [[]] <| cN) (fun _ => ?_)
  refine sS Tryd.f14 4 [1, 4, 5] [] (fun _ => [(.int .i64 v), (.int .i64 ((n : Nat) : Int)), (.int .i64 (Int.tmod v ((n : Nat) : Int))), (.int .i64 (Int.tmod v ((n : Nat) : Int)))]) (fun _ => []) (cR [[], []] <| cB (a := fun ρ => (.int .i64 v)) (b := fun ρ => (.int .i64 ((n : Nat) : Int))) (v := fun ρ => (.int .i64 (Int.tmod v ((n : Nat) : Int)))) .rem 3 (fun _ w => run_remI hn.1 w) <| cR [[]] <| cN) (fun _ => ?_)
  refine ok_seq ?_
  refine sS Tryd.f14 2 [1, 4, 5, 10] [] (fun _ => [(.int .i64 (Int.tmod v ((n : Nat) : Int))), (.bool (decide ((Int.tmod v ((n : Nat) : Int)) < 0)))]) (fun _ => []) (cR [[], []] <| cN) (fun _ => ?_)
  refine oC (decide ((Int.tmod v ((n : Nat) : Int)) < 0)) (fun hb1 => ?_) (fun hb1 => ?_)
  ·
    rw [hb1]
    refine rS Tryd.f14 4 [4, 5] [] (fun _ => [(.int .i64 (Int.tmod v ((n : Nat) : Int))), (.int .i64 ((n : Nat) : Int)), (.int .i64 ((dm v n : Nat) : Int)), (.int .i64 ((dm v n : Nat) : Int))]) (fun _ => []) (cR [[], []] <| cA (fun _ => (.int .i64 ((dm v n : Nat) : Int))) (fun _ => congrArg (Value.int .i64) (mod_wrap hn (of_decide_eq_true hb1))) <| cR [[]] <| cN) (fun _ => ?_)
    refine mt_then ?_
    refine sS Tryd.f14 2 [4] [] (fun _ => [(.int .i64 ((dm v n : Nat) : Int)), (.int .i64 ((dm v n : Nat) : Int))]) (fun _ => []) (cR [[], []] <| cN) (fun _ => ?_)
    refine ok_ret ?_
    exact mR (v := (.int .i64 ((dm v n : Nat) : Int))) (fun _ hS => ⟨rfl, hS.bel⟩)
  ·
    rw [hb1]
    refine ok_skip ?_
    refine mt_then ?_
    refine sS Tryd.f14 2 [4] [] (fun _ => [(.int .i64 (Int.tmod v ((n : Nat) : Int))), (.int .i64 (Int.tmod v ((n : Nat) : Int)))]) (fun _ => []) (cR [[], []] <| cN) (fun _ => ?_)
    refine ok_ret ?_
    exact mR (v := (.int .i64 (Int.tmod v ((n : Nat) : Int)))) (fun _ hS => ⟨congrArg (fun x => Ending.returned (.int .i64 x)) (mod_pos (of_decide_eq_false hb1)), hS.bel⟩)

theorem left_any (g : Nat) (a : Option Addr) (c : Nat) (zs : List Int) (j : Nat) (w0 : World) (hf0 : Kb w0 g #[(.slice a (zs).length c), (.int .i64 ((pN zs j : Nat) : Int))]) : Calls Tryd.prog 28 #[(pt g)] w0 (fun ε w' => ε = .returned (.bool (decide (((pN zs j : Nat) : Int) < (((zs).length : Nat) : Int)))) ∧ Below w0.heap.size w0 w') := by
  refine Calls.of_ok (n := 13) (F := (fun w => Kb w g #[(.slice a (zs).length c), (.int .i64 ((pN zs j : Nat) : Int))] ∧ True)) Tryd.func28 rfl rfl rfl (by simp) (hf0.pers0.and persT) ?_
  refine sS Tryd.f28 1 [0, 2] [] (fun _ => [(.bool false)]) (fun _ => []) (cR [[]] <| cN) (fun _ => ?_)
  refine sD Tryd.f28 [0, 1, 3, 7, 0, 16, 48, 112, 240, 511, 1023] 11 [2] [] (fun _ => [(pt g), (pt g), (.pointer (some ⟨g, 1, none⟩)), (.int .i64 ((pN zs j : Nat) : Int)), (pt g), (pt g), (pt g), (.slice a (zs).length c), (.int .i64 (((zs).length : Nat) : Int)), (.bool (decide (((pN zs j : Nat) : Int) < (((zs).length : Nat) : Int)))), (.bool (decide (((pN zs j : Nat) : Int) < (((zs).length : Nat) : Int))))]) (fun _ => []) (cR [[], [], []] <| cX (o_semF _ (fun _ => do pure (Next.value (← Instr.loadAt 3 (.pointer (some ⟨g, 1, none⟩))))) (fun _ => (.int .i64 ((pN zs j : Nat) : Int))) (fun _ => (by kernel_rfl)) (fun _ => (by kernel_rfl)) (fun _ _ _ hG => ld_blk Tryd.isAgg3 (hG.facts0.now.1) (rfl)) (fun _ _ _ _ => persT)) <| cR [[], [], []] <| cX (o_semF _ (fun _ => do pure (Next.value (← Instr.loadAt 22 (pt g)))) (fun _ => (.slice a (zs).length c)) (fun _ => (by kernel_rfl)) (fun _ => (by kernel_rfl)) (fun _ _ _ hG => ld_blk Tryd.isAgg22 (hG.facts0.now.1) (rfl)) (fun _ _ _ _ => persT)) <| cR [[], [], []] <| cN) (fun _ => ?_)
  refine ok_ret ?_
  exact mR (v := (.bool (decide (((pN zs j : Nat) : Int) < (((zs).length : Nat) : Int))))) (fun _ hS => ⟨rfl, hS.bel⟩)

theorem next_any (g : Nat) (a : Option Addr) (c : Nat) (zs : List Int) (j : Nat) (n : Nat) (hn : 0 < n ∧ n ≤ 1099511627776) (hz : Z64 zs) (w0 : World) (hK : Knows [(g, (.cells #[(.slice a (zs).length c), (.int .i64 ((pN zs j : Nat) : Int))] 51 (0, 0)))] w0) (hP : Pers (fun b => b ∈ ([(g, (.cells #[(.slice a (zs).length c), (.int .i64 ((pN zs j : Nat) : Int))] 51 (0, 0)))] : List (Nat × Obj)).map (·.1)) (fun w => Is w .i64 a c zs ∧ True) w0) : Calls Tryd.prog 16 #[(pt g), (.int .i64 ((n : Nat) : Int))] w0 (fun ε w' => ε = .returned (.int .i64 ((dN zs j n : Nat) : Int)) ∧ Upd (fun b => b ∈ ([(g, (.cells #[(.slice a (zs).length c), (.int .i64 ((pN zs j : Nat) : Int))] 51 (0, 0)))] : List (Nat × Obj)).map (·.1)) w0 w' ∧ Knows [(g, (.cells #[(.slice a (zs).length c), (.int .i64 ((pN zs (j + 1) : Nat) : Int))] 51 (0, 0)))] w') := by
  refine Calls.of_okW (n := 28) (F := (fun w => Is w .i64 a c zs ∧ True)) [(g, (.cells #[(.slice a (zs).length c), (.int .i64 ((pN zs j : Nat) : Int))] 51 (0, 0)))] Tryd.func16 rfl rfl rfl (by simp) hK (by simp) hP ?_
  have hlen : zs.length ≤ 140737488351232 := hP.now.1.max
  refine sS Tryd.f16 1 [0, 1, 4] [] (fun _ => [(.int .i64 0)]) (fun _ => []) (cR [[]] <| cN) (fun _ => ?_)
  refine ok_seq ?_
  refine sS Tryd.f16 3 [0, 1, 4, 7] [] (fun _ => [(pt g), (.bool (decide (((pN zs j : Nat) : Int) < (((zs).length : Nat) : Int)))), (.bool (!(decide (((pN zs j : Nat) : Int) < (((zs).length : Nat) : Int)))))]) (fun _ => []) (cR [[]] <| cX (o_callP _ 28 (fun _ => #[(pt g)]) (fun _ => (.bool (decide (((pN zs j : Nat) : Int) < (((zs).length : Nat) : Int))))) (fun _ _ => (by kernel_rfl)) (fun _ => (by kernel_rfl)) (fun _ _ => (by kernel_rfl)) (fun _ _ => trivial) (fun _ _ w hG => left_any g a c zs j w (Kb.of_block (hG.known (g := g) (o := (.cells #[(.slice a (zs).length c), (.int .i64 ((pN zs j : Nat) : Int))] 51 (0, 0))) 0 (by kernel_rfl) (by kernel_rfl))))) <| cR [[]] <| cN) (fun _ => ?_)
  refine oC (!(decide (((pN zs j : Nat) : Int) < (((zs).length : Nat) : Int)))) (fun hb1 => ?_) (fun hb1 => ?_)
  ·
    rw [hb1]
    refine sS Tryd.f16 1 [0, 1, 4] [] (fun _ => [(.int .i64 0)]) (fun _ => []) (cR [[]] <| cN) (fun _ => ?_)
    refine ok_ret ?_
    refine mt_then_r ?_
    exact mR (v := (.int .i64 0)) (fun _ hS => ⟨congrArg (fun x => Ending.returned (.int .i64 x)) (congrArg (fun z : Nat => (z : Int)) (dN_no (fun h => absurd (Int.ofNat_lt.2 h) (of_decide_eq_false (not_t hb1))))), hS.below, (by rw [(pN_ge (fun h => absurd (Int.ofNat_lt.2 h) (of_decide_eq_false (not_t hb1)))).2]; exact hS.knows [1])⟩)
  ·
    rw [hb1]
    refine ok_skip ?_
    refine mt_then ?_
    refine sS Tryd.f16 8 [0, 1, 4] [] (fun _ => [(pt g), (pt g), (.pointer (some ⟨g, 1, none⟩)), (.int .i64 ((pN zs j : Nat) : Int)), (.int .i64 ((pN zs (j + 1) : Nat) : Int)), (pt g), (.pointer (some ⟨g, 1, none⟩)), undef]) (fun _ => [(7, { puts := [(0, g, (.cells #[(.slice a (zs).length c), (.int .i64 ((pN zs (j + 1) : Nat) : Int))] 51 (0, 0)))] })]) (cR [[], [], [], [0]] <| cA (fun _ => (.int .i64 ((pN zs (j + 1) : Nat) : Int))) (fun _ => congrArg (Value.int .i64) (pN_wrap hlen (of_decide_eq_true (not_f hb1)))) <| cR [[], [], [0]] <| cN) (fun _ => ?_)
    refine sD Tryd.f16 [0, 1, 3, 7, 0, 16, 48, 112, 240, 511, 1023, 0, 4095, 8191] 14 [4] [] (fun _ => [(pt g), (pt g), (pt g), (.slice a (zs).length c), (pt g), (pt g), (.pointer (some ⟨g, 1, none⟩)), (.int .i64 ((pN zs (j + 1) : Nat) : Int)), (.int .i64 ((pN zs j : Nat) : Int)), (.pointer (adr a (pN zs j))), (.int .i64 (gI zs (pN zs j))), (.int .i64 ((n : Nat) : Int)), (.int .i64 ((dm (gI zs (pN zs j)) n : Nat) : Int)), (.int .i64 ((dm (gI zs (pN zs j)) n : Nat) : Int))]) (fun _ => []) (cR [[], [], [], [0], [], [], [], [0]] <| cA (fun _ => (.int .i64 ((pN zs j : Nat) : Int))) (fun _ => congrArg (Value.int .i64) (pN_back hlen (of_decide_eq_true (not_f hb1)))) <| cX (o_semF _ (fun _ => do pure (Next.value (← Instr.indexAt 22 (.slice a (zs).length c) (.int .i64 ((pN zs j : Nat) : Int))))) (fun _ => (.pointer (adr a (pN zs j)))) (fun _ => (by kernel_rfl)) (fun _ => (by kernel_rfl)) (fun _ _ _ hG => idx_ints Tryd.underlying22 Tryd.sizeOf3 hG.facts0.now.1 rfl ((show ((pN zs j : Nat) : Int) = ((pN zs j : Nat) : Int) ∧ pN zs j < (zs).length from ⟨rfl, (Int.ofNat_lt.1 (of_decide_eq_true (not_f hb1)))⟩)).1 ((show ((pN zs j : Nat) : Int) = ((pN zs j : Nat) : Int) ∧ pN zs j < (zs).length from ⟨rfl, (Int.ofNat_lt.1 (of_decide_eq_true (not_f hb1)))⟩)).2) (fun _ _ _ _ => persT)) <| cX (o_semF _ (fun _ => do pure (Next.value (← Instr.loadAt 3 (.pointer (adr a (pN zs j)))))) (fun _ => (.int .i64 (gI zs (pN zs j)))) (fun _ => (by kernel_rfl)) (fun _ => (by kernel_rfl)) (fun _ _ _ hG => (ld_ints Tryd.isAgg3 hG.facts0.now.1 ((show ((pN zs j : Nat) : Int) = ((pN zs j : Nat) : Int) ∧ pN zs j < (zs).length from ⟨rfl, (Int.ofNat_lt.1 (of_decide_eq_true (not_f hb1)))⟩)).2)) (fun _ _ _ _ => persT)) <| cR [[]] <| cC (f := 14) (args := fun ρ => #[(.int .i64 (gI zs (pN zs j))), (.int .i64 ((n : Nat) : Int))]) (v := fun ρ => (.int .i64 ((dm (gI zs (pN zs j)) n : Nat) : Int))) (fun _ w => (fun w => mod_any (gI zs (pN zs j)) n hn (hz.get _) w) w) <| cR [[]] <| cN) (fun _ => ?_)
    refine ok_ret ?_
    exact mR (v := (.int .i64 ((dm (gI zs (pN zs j)) n : Nat) : Int))) (fun _ hS => ⟨congrArg (fun x => Ending.returned (.int .i64 x)) (congrArg (fun z : Nat => (z : Int)) (dN_yes (Int.ofNat_lt.1 (of_decide_eq_true (not_f hb1))))), hS.below, hS.knows [1]⟩)

theorem range_any (g : Nat) (a : Option Addr) (c : Nat) (zs : List Int) (j : Nat) (lo : Nat) (hi : Nat) (hlh : lo ≤ hi ∧ hi ≤ 1000000) (hz : Z64 zs) (w0 : World) (hK : Knows [(g, (.cells #[(.slice a (zs).length c), (.int .i64 ((pN zs j : Nat) : Int))] 51 (0, 0)))] w0) (hP : Pers (fun b => b ∈ ([(g, (.cells #[(.slice a (zs).length c), (.int .i64 ((pN zs j : Nat) : Int))] 51 (0, 0)))] : List (Nat × Obj)).map (·.1)) (fun w => Is w .i64 a c zs ∧ True) w0) : Calls Tryd.prog 19 #[(pt g), (.int .i64 ((lo : Nat) : Int)), (.int .i64 ((hi : Nat) : Int))] w0 (fun ε w' => ε = .returned (.int .i64 ((lo + dN zs j (hi - lo + 1) : Nat) : Int)) ∧ Upd (fun b => b ∈ ([(g, (.cells #[(.slice a (zs).length c), (.int .i64 ((pN zs j : Nat) : Int))] 51 (0, 0)))] : List (Nat × Obj)).map (·.1)) w0 w' ∧ Knows [(g, (.cells #[(.slice a (zs).length c), (.int .i64 ((pN zs (j + 1) : Nat) : Int))] 51 (0, 0)))] w') := by
  refine Calls.of_okW (n := 15) (F := (fun w => Is w .i64 a c zs ∧ True)) [(g, (.cells #[(.slice a (zs).length c), (.int .i64 ((pN zs j : Nat) : Int))] 51 (0, 0)))] Tryd.func19 rfl rfl rfl (by simp) hK (by simp) hP ?_
  refine sS Tryd.f19 1 [0, 1, 2, 6] [] (fun _ => [(.int .i64 0)]) (fun _ => []) (cR [[]] <| cN) (fun _ => ?_)
  refine sS Tryd.f19 9 [6] [] (fun _ => [(.int .i64 ((lo : Nat) : Int)), (pt g), (.int .i64 ((hi : Nat) : Int)), (.int .i64 ((lo : Nat) : Int)), (.int .i64 ((hi - lo : Nat) : Int)), (.int .i64 ((hi - lo + 1 : Nat) : Int)), (.int .i64 ((dN zs j (hi - lo + 1) : Nat) : Int)), (.int .i64 ((lo + dN zs j (hi - lo + 1) : Nat) : Int)), (.int .i64 ((lo + dN zs j (hi - lo + 1) : Nat) : Int))]) (fun _ => [(6, { puts := [(0, g, (.cells #[(.slice a (zs).length c), (.int .i64 ((pN zs (j + 1) : Nat) : Int))] 51 (0, 0)))] })]) (cR [[], [], [], []] <| cA (v := fun ρ => (.int .i64 (IntKind.i64.wrap (((hi : Nat) : Int) - ((lo : Nat) : Int))))) (fun _ => (.int .i64 ((hi - lo : Nat) : Int))) (fun _ => congrArg (Value.int .i64) ((i64N (by have := hlh; omega)).trans (by have := hlh; omega))) <| cA (v := fun ρ => (.int .i64 (IntKind.i64.wrap (((hi - lo : Nat) : Int) + 1)))) (fun _ => (.int .i64 ((hi - lo + 1 : Nat) : Int))) (fun _ => congrArg (Value.int .i64) ((i64N (by have := hlh; omega)).trans (by omega))) <| cX (o_callW _ [0] 16 (fun _ => #[(pt g), (.int .i64 ((hi - lo + 1 : Nat) : Int))]) (fun _ => (.int .i64 ((dN zs j (hi - lo + 1) : Nat) : Int))) (fun _ => [(g, (.cells #[(.slice a (zs).length c), (.int .i64 ((pN zs j : Nat) : Int))] 51 (0, 0)))]) (fun _ => [(g, (.cells #[(.slice a (zs).length c), (.int .i64 ((pN zs (j + 1) : Nat) : Int))] 51 (0, 0)))]) (fun _ _ w hG hK => next_any g a c zs j (hi - lo + 1) (by have := hlh; omega) hz w hK (hG.persK [0] (by kernel_rfl) (by kernel_rfl) (fun _ hF => ⟨hF.1, trivial⟩)) )) <| cA (v := fun ρ => (.int .i64 (IntKind.i64.wrap (((lo : Nat) : Int) + ((dN zs j (hi - lo + 1) : Nat) : Int))))) (fun _ => (.int .i64 ((lo + dN zs j (hi - lo + 1) : Nat) : Int))) (fun _ => congrArg (Value.int .i64) ((i64N (by have := hlh; have := dN_lt zs j (n := hi - lo + 1) (by omega); omega)).trans (by omega))) <| cR [[]] <| cN) (fun _ => ?_)
  refine ok_ret ?_
  exact mR (v := (.int .i64 ((lo + dN zs j (hi - lo + 1) : Nat) : Int))) (fun _ hS => ⟨rfl, hS.below, hS.knows [1]⟩)

theorem msecret_any (g : Nat) (a : Option Addr) (c : Nat) (zs : List Int) (j : Nat) (hz : Z64 zs) (w0 : World) (hK : Knows [(g, (.cells #[(.slice a (zs).length c), (.int .i64 ((pN zs j : Nat) : Int))] 51 (0, 0)))] w0) (hP : Pers (fun b => b ∈ ([(g, (.cells #[(.slice a (zs).length c), (.int .i64 ((pN zs j : Nat) : Int))] 51 (0, 0)))] : List (Nat × Obj)).map (·.1)) (fun w => Is w .i64 a c zs ∧ True) w0) : Calls Tryd.prog 37 #[(pt g)] w0 (fun ε w' => ε = .returned (U (mkX zs j)) ∧ Upd (fun b => b ∈ ([(g, (.cells #[(.slice a (zs).length c), (.int .i64 ((pN zs j : Nat) : Int))] 51 (0, 0)))] : List (Nat × Obj)).map (·.1)) w0 w' ∧ Knows [(g, (.cells #[(.slice a (zs).length c), (.int .i64 ((pN zs (j + 1) : Nat) : Int))] 51 (0, 0)))] w') := by
  refine Calls.of_okW (n := 7) (F := (fun w => Is w .i64 a c zs ∧ True)) [(g, (.cells #[(.slice a (zs).length c), (.int .i64 ((pN zs j : Nat) : Int))] 51 (0, 0)))] Tryd.func37 rfl rfl rfl (by simp) hK (by simp) hP ?_
  refine sS Tryd.f37 1 [0, 2] [] (fun ρ => [(pt (nb ρ 0))]) (fun ρ => [(0, { news := [(nb ρ 0, (.cells (cU 0) 43 (0, 0)))] })]) (cR [[]] <| cN) (fun ρ1 => ?_)
  refine sS Tryd.f37 5 [2] [] (fun _ => [(pt g), (.int .i64 ((1 + dN zs j 4 : Nat) : Int)), (.int .u64 ((1 + dN zs j 4 : Nat) : Int)), (U (1 + dN zs j 4)), undef]) (fun _ => [(1, { puts := [(0, g, (.cells #[(.slice a (zs).length c), (.int .i64 ((pN zs (j + 1) : Nat) : Int))] 51 (0, 0)))] }), (4, { puts := [(1, nb ρ1 0, (.cells (cU (1 + dN zs j 4)) 43 (0, 0)))] })]) (cR [[]] <| cX (o_callW _ [0] 19 (fun _ => #[(pt g), (.int .i64 1), (.int .i64 4)]) (fun _ => (.int .i64 ((1 + dN zs j 4 : Nat) : Int))) (fun _ => [(g, (.cells #[(.slice a (zs).length c), (.int .i64 ((pN zs j : Nat) : Int))] 51 (0, 0)))]) (fun _ => [(g, (.cells #[(.slice a (zs).length c), (.int .i64 ((pN zs (j + 1) : Nat) : Int))] 51 (0, 0)))]) (fun _ _ w hG hK => range_any g a c zs j 1 4 (by decide) hz w hK (hG.persK [0] (by kernel_rfl) (by kernel_rfl) (fun _ hF => ⟨hF.1, trivial⟩)) )) <| cA (v := fun ρ => (.int .u64 (IntKind.u64.wrap (((1 + dN zs j 4 : Nat) : Int))))) (fun _ => (.int .u64 ((1 + dN zs j 4 : Nat) : Int))) (fun _ => congrArg (Value.int .u64) (u64N (by have h := mkX_pos zs j; unfold mkX at h; omega))) <| cC (fun _ w => rfromuint_lit (1 + dN zs j 4) w (by have h := mkX_pos zs j; unfold mkX at h; omega)) <| cR [[1]] <| cN) (fun _ => ?_)
  refine ok_ret ?_
  exact mR (v := (U (1 + dN zs j 4))) (ps := [1,1,1,1]) (fun _ hS => ⟨rfl, hS.below, hS.knows [1, 0]⟩)

theorem mpublic_any (x : Nat) (hx : x < M) (w0 : World) : Calls Tryd.prog 38 #[(U x)] w0 (fun ε w' => ε = .returned (U (pubV x)) ∧ Below w0.heap.size w0 w') := by
  refine Calls.of_ok (n := 11) (F := (fun _ => True)) Tryd.func38 rfl rfl rfl (by simp) (persTrue (fun _ => trivial)) ?_
  refine sS Tryd.f38 2 [1, 2] [] (fun ρ => [(pt (nb ρ 0)), (pt (nb ρ 1))]) (fun ρ => [(0, { news := [(nb ρ 0, (.cells (cU x) 43 (0, 0)))] }), (1, { news := [(nb ρ 1, (.cells (cU 0) 43 (0, 0)))] })]) (cR [[], []] <| cN) (fun ρ1 => ?_)
  refine sS Tryd.f38 8 [2, 3] [0, 1, 1] (fun ρ => [(U x), (.tuple #[(U (pubV x)), (.int .i64 (pubE x))]), (.tuple #[(U (pubV x)), (.int .i64 (pubE x))]), (U (pubV x)), (.int .i64 (pubE x)), (pt (nb ρ 5)), undef, (.int .i64 (pubE x))]) (fun ρ => [(5, { news := [(nb ρ 5, (.cells (cU 0) 43 (0, 0)))] }), (6, { puts := [(42, nb ρ 5, (.cells (cU (pubV x)) 43 (0, 0)))] })]) (cR [[0]] <| cC (fun _ w => rpublic_any x hx w) <| cR [[], [], [], [], [42], []] <| cN) (fun _ => ?_)
  refine sS Tryd.f38 2 [2] [1, 0] (fun _ => [(U (pubV x)), undef]) (fun _ => [(1, { puts := [(0, nb ρ1 1, (.cells (cU (pubV x)) 43 (0, 0)))] })]) (cR [[1], [0]] <| cN) (fun _ => ?_)
  refine ok_ret ?_
  exact mR (v := (U (pubV x))) (fun _ hS => ⟨rfl, hS.bel⟩)

theorem mhash_any (g : Nat) (a : Option Addr) (c : Nat) (zs : List Int) (j : Nat) (hz : Z64 zs) (w0 : World) (hK : Knows [(g, (.cells #[(.slice a (zs).length c), (.int .i64 ((pN zs j : Nat) : Int))] 51 (0, 0)))] w0) (hP : Pers (fun b => b ∈ ([(g, (.cells #[(.slice a (zs).length c), (.int .i64 ((pN zs j : Nat) : Int))] 51 (0, 0)))] : List (Nat × Obj)).map (·.1)) (fun w => Is w .i64 a c zs ∧ True) w0) : Calls Tryd.prog 17 #[(pt g)] w0 (fun ε w' => ε = .returned (.agg (hB (hs2 (dN zs j 5) (dN zs (j + 1) 7)))) ∧ Upd (fun b => b ∈ ([(g, (.cells #[(.slice a (zs).length c), (.int .i64 ((pN zs j : Nat) : Int))] 51 (0, 0)))] : List (Nat × Obj)).map (·.1)) w0 w' ∧ Knows [(g, (.cells #[(.slice a (zs).length c), (.int .i64 ((pN zs (j + 2) : Nat) : Int))] 51 (0, 0)))] w') := by
  refine Calls.of_okW (n := 10) (F := (fun w => Is w .i64 a c zs ∧ True)) [(g, (.cells #[(.slice a (zs).length c), (.int .i64 ((pN zs j : Nat) : Int))] 51 (0, 0)))] Tryd.func17 rfl rfl rfl (by simp) hK (by simp) hP ?_
  refine sS Tryd.f17 1 [0, 2] [] (fun ρ => [(pt (nb ρ 0))]) (fun ρ => [(0, { news := [(nb ρ 0, (.cells (hB 0) 36 (0, 0)))] })]) (cR [[]] <| cN) (fun ρ1 => ?_)
  refine sS Tryd.f17 8 [2] [] (fun _ => [(pt g), (.int .i64 ((dN zs j 5 : Nat) : Int)), (.int .u8 ((dN zs j 5 : Nat) : Int)), (pt g), (.int .i64 ((dN zs (j + 1) 7 : Nat) : Int)), (.int .u8 ((dN zs (j + 1) 7 : Nat) : Int)), (.agg (hB (hs2 (dN zs j 5) (dN zs (j + 1) 7)))), undef]) (fun _ => [(1, { puts := [(0, g, (.cells #[(.slice a (zs).length c), (.int .i64 ((pN zs (j + 1) : Nat) : Int))] 51 (0, 0)))] }), (4, { puts := [(0, g, (.cells #[(.slice a (zs).length c), (.int .i64 ((pN zs (j + 2) : Nat) : Int))] 51 (0, 0)))] }), (7, { puts := [(1, nb ρ1 0, (.cells (hB (hs2 (dN zs j 5) (dN zs (j + 1) 7))) 36 (0, 0)))] })]) (cR [[]] <| cX (o_callW _ [0] 16 (fun _ => #[(pt g), (.int .i64 5)]) (fun _ => (.int .i64 ((dN zs j 5 : Nat) : Int))) (fun _ => [(g, (.cells #[(.slice a (zs).length c), (.int .i64 ((pN zs j : Nat) : Int))] 51 (0, 0)))]) (fun _ => [(g, (.cells #[(.slice a (zs).length c), (.int .i64 ((pN zs (j + 1) : Nat) : Int))] 51 (0, 0)))]) (fun _ _ w hG hK => next_any g a c zs j 5 (by decide) hz w hK (hG.persK [0] (by kernel_rfl) (by kernel_rfl) (fun _ hF => ⟨hF.1, trivial⟩)) )) <| cA (v := fun ρ => (.int .u8 (IntKind.u8.wrap (((dN zs j 5 : Nat) : Int))))) (fun _ => (.int .u8 ((dN zs j 5 : Nat) : Int))) (fun _ => congrArg (Value.int .u8) (u8N (Nat.lt_of_lt_of_le (dN_lt zs j (by decide)) (by decide)))) <| cR [[]] <| cX (o_callW _ [0] 16 (fun _ => #[(pt g), (.int .i64 7)]) (fun _ => (.int .i64 ((dN zs (j + 1) 7 : Nat) : Int))) (fun _ => [(g, (.cells #[(.slice a (zs).length c), (.int .i64 ((pN zs (j + 1) : Nat) : Int))] 51 (0, 0)))]) (fun _ => [(g, (.cells #[(.slice a (zs).length c), (.int .i64 ((pN zs (j + 2) : Nat) : Int))] 51 (0, 0)))]) (fun _ _ w hG hK => next_any g a c zs (j + 1) 7 (by decide) hz w hK (hG.persK [0] (by kernel_rfl) (by kernel_rfl) (fun _ hF => ⟨hF.1, trivial⟩)) )) <| cA (v := fun ρ => (.int .u8 (IntKind.u8.wrap (((dN zs (j + 1) 7 : Nat) : Int))))) (fun _ => (.int .u8 ((dN zs (j + 1) 7 : Nat) : Int))) (fun _ => congrArg (Value.int .u8) (u8N (Nat.lt_of_lt_of_le (dN_lt zs (j + 1) (by decide)) (by decide)))) <| cA (v := fun ρ => (.agg #[(.int .u8 ((dN zs j 5 : Nat) : Int)), (.int .u8 0), (.int .u8 0), (.int .u8 0), (.int .u8 0), (.int .u8 0), (.int .u8 0), (.int .u8 0), (.int .u8 0), (.int .u8 0), (.int .u8 0), (.int .u8 0), (.int .u8 0), (.int .u8 0), (.int .u8 0), (.int .u8 0), (.int .u8 0), (.int .u8 0), (.int .u8 0), (.int .u8 0), (.int .u8 0), (.int .u8 0), (.int .u8 0), (.int .u8 0), (.int .u8 0), (.int .u8 0), (.int .u8 0), (.int .u8 0), (.int .u8 0), (.int .u8 0), (.int .u8 0), (.int .u8 ((dN zs (j + 1) 7 : Nat) : Int))])) (fun _ => (.agg (hB (hs2 (dN zs j 5) (dN zs (j + 1) 7))))) (fun _ => hs2_agg (Nat.lt_of_lt_of_le (dN_lt zs j (by decide)) (by decide)) (Nat.lt_of_lt_of_le (dN_lt zs (j + 1) (by decide)) (by decide))) <| cR [[1]] <| cN) (fun _ => ?_)
  refine ok_ret ?_
  exact mR (v := (.agg (hB (hs2 (dN zs j 5) (dN zs (j + 1) 7))))) (ps := [1,1,1,1,1,1,1,1,1,1,1,1,1,1,1,1,1,1,1,1,1,1,1,1,1,1,1,1,1,1,1,1]) (fun _ hS => ⟨rfl, hS.below, hS.knows [1, 0]⟩)

theorem mkey_any (g : Nat) (a : Option Addr) (c : Nat) (zs : List Int) (j : Nat) (pv : Bool) (hz : Z64 zs) (w0 : World) (hK : Knows [(g, (.cells #[(.slice a (zs).length c), (.int .i64 ((pN zs j : Nat) : Int))] 51 (0, 0)))] w0) (hP : Pers (fun b => b ∈ ([(g, (.cells #[(.slice a (zs).length c), (.int .i64 ((pN zs j : Nat) : Int))] 51 (0, 0)))] : List (Nat × Obj)).map (·.1)) (fun w => Is w .i64 a c zs ∧ True) w0) : Calls Tryd.prog 29 #[(pt g), (.bool pv)] w0 (fun ε w' => ε = .returned (.agg (kC ((mkK zs j pv).s) ((mkK zs j pv).p) ((mkK zs j pv).c) ((mkK zs j pv).d) (((mkK zs j pv).i : Nat) : Int) (((mkK zs j pv).n : Nat) : Int))) ∧ Upd (fun b => b ∈ ([(g, (.cells #[(.slice a (zs).length c), (.int .i64 ((pN zs j : Nat) : Int))] 51 (0, 0)))] : List (Nat × Obj)).map (·.1)) w0 w' ∧ Knows [(g, (.cells #[(.slice a (zs).length c), (.int .i64 ((pN zs (j + 6) : Nat) : Int))] 51 (0, 0)))] w') := by
  refine Calls.of_okW (n := 26) (F := (fun w => Is w .i64 a c zs ∧ True)) [(g, (.cells #[(.slice a (zs).length c), (.int .i64 ((pN zs j : Nat) : Int))] 51 (0, 0)))] Tryd.func29 rfl rfl rfl (by simp) hK (by simp) hP ?_
  refine sS Tryd.f29 1 [0, 1, 4] [] (fun ρ => [(pt (nb ρ 0))]) (fun ρ => [(0, { news := [(nb ρ 0, (.cells (kC 0 0 0 0 0 0) 45 (0, 0)))] })]) (cR [[]] <| cN) (fun ρ1 => ?_)
  refine sS Tryd.f29 4 [0, 1, 4, 5] [] (fun ρ => [(pt g), (U (mkX zs j)), (pt (nb ρ 2)), undef]) (fun ρ => [(1, { puts := [(0, g, (.cells #[(.slice a (zs).length c), (.int .i64 ((pN zs (j + 1) : Nat) : Int))] 51 (0, 0)))] }), (2, { news := [(nb ρ 2, (.cells (cU 0) 43 (0, 0)))] }), (3, { puts := [(18, nb ρ 2, (.cells (cU (mkX zs j)) 43 (0, 0)))] })]) (cR [[]] <| cX (o_callW _ [0] 37 (fun _ => #[(pt g)]) (fun _ => (U (mkX zs j))) (fun _ => [(g, (.cells #[(.slice a (zs).length c), (.int .i64 ((pN zs j : Nat) : Int))] 51 (0, 0)))]) (fun _ => [(g, (.cells #[(.slice a (zs).length c), (.int .i64 ((pN zs (j + 1) : Nat) : Int))] 51 (0, 0)))]) (fun _ _ w hG hK => msecret_any g a c zs j  hz w hK (hG.persK [0] (by kernel_rfl) (by kernel_rfl) (fun _ hF => ⟨hF.1, trivial⟩)) )) <| cR [[], [18]] <| cN) (fun _ => ?_)
  refine sS Tryd.f29 15 [1, 4, 5, 6] [] (fun ρ => [(U (mkX zs j)), (U (pubV (mkX zs j))), (pt g), (.agg (hB (hs2 (dN zs (j + 1) 5) (dN zs (j + 2) 7)))), (pt g), (.int .i64 ((dN zs (j + 3) 3 : Nat) : Int)), (pt g), (.int .i64 ((dN zs (j + 4) 5 : Nat) : Int)), (.int .u32 ((dN zs (j + 4) 5 : Nat) : Int)), (pt g), (.int .i64 ((dN zs (j + 5) 5 : Nat) : Int)), (.int .u32 ((dN zs (j + 5) 5 : Nat) : Int)), (.agg (kC 0 (pubV (mkX zs j)) (hs2 (dN zs (j + 1) 5) (dN zs (j + 2) 7)) ((dN zs (j + 3) 3 : Nat) : Int) ((dN zs (j + 4) 5 : Nat) : Int) ((dN zs (j + 5) 5 : Nat) : Int))), (pt (nb ρ 13)), undef]) (fun ρ => [(3, { puts := [(0, g, (.cells #[(.slice a (zs).length c), (.int .i64 ((pN zs (j + 3) : Nat) : Int))] 51 (0, 0)))] }), (5, { puts := [(0, g, (.cells #[(.slice a (zs).length c), (.int .i64 ((pN zs (j + 4) : Nat) : Int))] 51 (0, 0)))] }), (7, { puts := [(0, g, (.cells #[(.slice a (zs).length c), (.int .i64 ((pN zs (j + 5) : Nat) : Int))] 51 (0, 0)))] }), (10, { puts := [(0, g, (.cells #[(.slice a (zs).length c), (.int .i64 ((pN zs (j + 6) : Nat) : Int))] 51 (0, 0)))] }), (13, { news := [(nb ρ 13, (.cells (kC 0 0 0 0 0 0) 45 (0, 0)))] }), (14, { puts := [(107, nb ρ 13, (.cells (kC 0 (pubV (mkX zs j)) (hs2 (dN zs (j + 1) 5) (dN zs (j + 2) 7)) ((dN zs (j + 3) 3 : Nat) : Int) ((dN zs (j + 4) 5 : Nat) : Int) ((dN zs (j + 5) 5 : Nat) : Int)) 45 (0, 0)))] })]) (cR [[2]] <| cC (f := 38) (args := fun ρ => #[(U (mkX zs j))]) (v := fun ρ => (U (pubV (mkX zs j)))) (fun _ w => (fun w => mpublic_any (mkX zs j) (mkX_lt _ _) w) w) <| cR [[]] <| cX (o_callW _ [0] 17 (fun _ => #[(pt g)]) (fun _ => (.agg (hB (hs2 (dN zs (j + 1) 5) (dN zs (j + 2) 7))))) (fun _ => [(g, (.cells #[(.slice a (zs).length c), (.int .i64 ((pN zs (j + 1) : Nat) : Int))] 51 (0, 0)))]) (fun _ => [(g, (.cells #[(.slice a (zs).length c), (.int .i64 ((pN zs (j + 3) : Nat) : Int))] 51 (0, 0)))]) (fun _ _ w hG hK => mhash_any g a c zs (j + 1)  hz w hK (hG.persK [0] (by kernel_rfl) (by kernel_rfl) (fun _ hF => ⟨hF.1, trivial⟩)) )) <| cR [[]] <| cX (o_callW _ [0] 16 (fun _ => #[(pt g), (.int .i64 3)]) (fun _ => (.int .i64 ((dN zs (j + 3) 3 : Nat) : Int))) (fun _ => [(g, (.cells #[(.slice a (zs).length c), (.int .i64 ((pN zs (j + 3) : Nat) : Int))] 51 (0, 0)))]) (fun _ => [(g, (.cells #[(.slice a (zs).length c), (.int .i64 ((pN zs (j + 4) : Nat) : Int))] 51 (0, 0)))]) (fun _ _ w hG hK => next_any g a c zs (j + 3) 3 (by decide) hz w hK (hG.persK [0] (by kernel_rfl) (by kernel_rfl) (fun _ hF => ⟨hF.1, trivial⟩)) )) <| cR [[]] <| cX (o_callW _ [0] 16 (fun _ => #[(pt g), (.int .i64 5)]) (fun _ => (.int .i64 ((dN zs (j + 4) 5 : Nat) : Int))) (fun _ => [(g, (.cells #[(.slice a (zs).length c), (.int .i64 ((pN zs (j + 4) : Nat) : Int))] 51 (0, 0)))]) (fun _ => [(g, (.cells #[(.slice a (zs).length c), (.int .i64 ((pN zs (j + 5) : Nat) : Int))] 51 (0, 0)))]) (fun _ _ w hG hK => next_any g a c zs (j + 4) 5 (by decide) hz w hK (hG.persK [0] (by kernel_rfl) (by kernel_rfl) (fun _ hF => ⟨hF.1, trivial⟩)) )) <| cA (v := fun ρ => (.int .u32 (IntKind.u32.wrap (((dN zs (j + 4) 5 : Nat) : Int))))) (fun _ => (.int .u32 ((dN zs (j + 4) 5 : Nat) : Int))) (fun _ => congrArg (Value.int .u32) (u32N (Nat.lt_of_lt_of_le (dN_lt zs (j + 4) (by decide)) (by decide)))) <| cR [[]] <| cX (o_callW _ [0] 16 (fun _ => #[(pt g), (.int .i64 5)]) (fun _ => (.int .i64 ((dN zs (j + 5) 5 : Nat) : Int))) (fun _ => [(g, (.cells #[(.slice a (zs).length c), (.int .i64 ((pN zs (j + 5) : Nat) : Int))] 51 (0, 0)))]) (fun _ => [(g, (.cells #[(.slice a (zs).length c), (.int .i64 ((pN zs (j + 6) : Nat) : Int))] 51 (0, 0)))]) (fun _ _ w hG hK => next_any g a c zs (j + 5) 5 (by decide) hz w hK (hG.persK [0] (by kernel_rfl) (by kernel_rfl) (fun _ hF => ⟨hF.1, trivial⟩)) )) <| cA (v := fun ρ => (.int .u32 (IntKind.u32.wrap (((dN zs (j + 5) 5 : Nat) : Int))))) (fun _ => (.int .u32 ((dN zs (j + 5) 5 : Nat) : Int))) (fun _ => congrArg (Value.int .u32) (u32N (Nat.lt_of_lt_of_le (dN_lt zs (j + 5) (by decide)) (by decide)))) <| cR [[], [], [107]] <| cN) (fun ρ3 => ?_)
  refine ok_seq ?_
  refine sS Tryd.f29 1 [4, 5, 6, 22] [] (fun _ => [(.bool pv)]) (fun _ => []) (cR [[]] <| cN) (fun _ => ?_)
  refine oC (pv) (fun hb1 => ?_) (fun hb1 => ?_)
  ·
    rw [hb1]
    refine rS Tryd.f29 3 [4, 6] [1, 1, 0, 1] (fun _ => [(U (mkX zs j)), (pt (nb ρ3 13)), undef]) (fun _ => [(2, { puts := [(3, nb ρ3 13, (.cells (kC (mkX zs j) (pubV (mkX zs j)) (hs2 (dN zs (j + 1) 5) (dN zs (j + 2) 7)) ((dN zs (j + 3) 3 : Nat) : Int) ((dN zs (j + 4) 5 : Nat) : Int) ((dN zs (j + 5) 5 : Nat) : Int)) 45 (0, 0)))] })]) (cR [[2], [], [3]] <| cN) (fun _ => ?_)
    refine mt_then ?_
    refine sS Tryd.f29 2 [4] [1, 1, 0] (fun _ => [(.agg (kC (mkX zs j) (pubV (mkX zs j)) (hs2 (dN zs (j + 1) 5) (dN zs (j + 2) 7)) ((dN zs (j + 3) 3 : Nat) : Int) ((dN zs (j + 4) 5 : Nat) : Int) ((dN zs (j + 5) 5 : Nat) : Int))), undef]) (fun _ => [(1, { puts := [(1, nb ρ1 0, (.cells (kC (mkX zs j) (pubV (mkX zs j)) (hs2 (dN zs (j + 1) 5) (dN zs (j + 2) 7)) ((dN zs (j + 3) 3 : Nat) : Int) ((dN zs (j + 4) 5 : Nat) : Int) ((dN zs (j + 5) 5 : Nat) : Int)) 45 (0, 0)))] })]) (cR [[2], [1]] <| cN) (fun _ => ?_)
    refine ok_ret ?_
    exact mR (v := (.agg (kC (mkX zs j) (pubV (mkX zs j)) (hs2 (dN zs (j + 1) 5) (dN zs (j + 2) 7)) ((dN zs (j + 3) 3 : Nat) : Int) ((dN zs (j + 4) 5 : Nat) : Int) ((dN zs (j + 5) 5 : Nat) : Int)))) (ps := [1,1,1,1,1,1,1,1,1,1,1,1,1,1,1,1,1,1,1,1,1,1,1,1,1,1,1,1,1,1,1,1,1,1,1,1,1,1,1,1,1,1,1]) (fun _ hS => ⟨rfl, hS.below, hS.knows [1, 0]⟩)
  ·
    rw [hb1]
    refine ok_skip ?_
    refine mt_then ?_
    refine sS Tryd.f29 2 [4] [1, 1, 0, 0] (fun _ => [(.agg (kC 0 (pubV (mkX zs j)) (hs2 (dN zs (j + 1) 5) (dN zs (j + 2) 7)) ((dN zs (j + 3) 3 : Nat) : Int) ((dN zs (j + 4) 5 : Nat) : Int) ((dN zs (j + 5) 5 : Nat) : Int))), undef]) (fun _ => [(1, { puts := [(1, nb ρ1 0, (.cells (kC 0 (pubV (mkX zs j)) (hs2 (dN zs (j + 1) 5) (dN zs (j + 2) 7)) ((dN zs (j + 3) 3 : Nat) : Int) ((dN zs (j + 4) 5 : Nat) : Int) ((dN zs (j + 5) 5 : Nat) : Int)) 45 (0, 0)))] })]) (cR [[3], [1]] <| cN) (fun _ => ?_)
    refine ok_ret ?_
    exact mR (v := (.agg (kC 0 (pubV (mkX zs j)) (hs2 (dN zs (j + 1) 5) (dN zs (j + 2) 7)) ((dN zs (j + 3) 3 : Nat) : Int) ((dN zs (j + 4) 5 : Nat) : Int) ((dN zs (j + 5) 5 : Nat) : Int)))) (ps := [1,1,1,1,1,1,1,1,1,1,1,1,1,1,1,1,1,1,1,1,1,1,1,1,1,1,1,1,1,1,1,1,1,1,1,1,1,1,1,1,1,1,1]) (fun _ hS => ⟨rfl, hS.below, hS.knows [1, 0]⟩)

theorem mnew_any (a : Option Addr) (c : Nat) (zs : List Int) (w0 : World) (hf0 : Is w0 .i64 a c zs) : Calls Tryd.prog 6 #[(.slice a (zs).length c)] w0 (fun ε w' => ∃ g, ε = .returned (pt g) ∧ Below w0.heap.size w0 w' ∧ w0.heap.size ≤ g ∧ w'.heap[g]? = some (.cells #[(.slice a (zs).length c), (.int .i64 ((pN zs 0 : Nat) : Int))] 51 (0, 0))) := by
  refine Calls.of_ok (n := 6) (F := (fun w => Is w .i64 a c zs ∧ True)) Tryd.func6 rfl rfl rfl (by simp) (hf0.pers0.and persT) ?_
  refine sS Tryd.f6 1 [0, 2] [] (fun _ => [(.pointer none)]) (fun _ => []) (cR [[]] <| cN) (fun _ => ?_)
  refine sS Tryd.f6 4 [2] [] (fun ρ => [(.slice a (zs).length c), (.agg #[(.slice a (zs).length c), (.int .i64 0)]), (pt (nb ρ 2)), (pt (nb ρ 2))]) (fun ρ => [(2, { news := [(nb ρ 2, (.cells #[(.slice a (zs).length c), (.int .i64 0)] 51 (0, 0)))] })]) (cR [[], [], [], []] <| cN) (fun ρ2 => ?_)
  refine ok_ret ?_
  refine mD [(2, (pt (nb ρ2 2)))] [(nb ρ2 2, (.cells #[(.slice a (zs).length c), (.int .i64 0)] 51 (0, 0)))] ?_
  exact mR (v := (pt (nb ρ2 2))) (fun _ hS => ⟨nb ρ2 2, rfl, hS.bel, (hS.newb (.head _)).1, (hS.newb (.head _)).2.trans (by rw [pN_zero]; rfl)⟩)
end Go.Proofs.YtlkbhiaoolddmaaDoor

/-! Lists of terms that are made and changed: rows, facts. -/
namespace Go.Proofs.YtlkbhiaoolddmaaDoor
open Go Go.RowKit

def tmR (ts : List TmA) : List Value := ts.flatMap fun t => t.row.toList
def kpR (ks : List KpA) : List Value := ks.flatMap fun p => p.row.toList
theorem tmR_len (ts : List TmA) : (tmR ts).length = ts.length * 36 := fm_len TmA.row_len ts
theorem kpR_len (ks : List KpA) : (kpR ks).length = ks.length * 45 := fm_len KpA.row_len ks
theorem cU_one (s : Nat) : ∀ u ∈ (cU s).toList, u.oneCell' = true := by
  intro u hu
  simp [] at hu
  rcases hu with rfl | rfl | rfl | rfl <;> rfl
theorem hB_oneL (h : Nat) : ∀ u ∈ (hB h).toList, u.oneCell' = true := by
  intro u hu
  unfold hB at hu
  simp only [List.mem_map] at hu
  obtain ⟨i, _, rfl⟩ := hu
  rfl
theorem TmA.row_one (t : TmA) : ∀ u ∈ t.row.toList, u.oneCell' = true := by
  intro u hu
  simp only [TmA.row, tmV, Array.toList_append, List.mem_append] at hu
  rcases hu with (hu | hu) | hu
  · simp at hu; rcases hu with rfl | rfl | rfl <;> rfl
  · exact hB_oneL _ u hu
  · simp at hu; rcases hu with rfl; rfl
theorem tmR_one (ts : List TmA) : ∀ u ∈ tmR ts, u.oneCell' = true := by
  intro u hu
  obtain ⟨t, _, hu⟩ := List.mem_flatMap.1 hu
  exact t.row_one u hu
theorem TmF.src {P : Program} {w : World} {a : Option Addr} {c : Nat} {ts : List TmA} {tx e' : TypeId} (hk : P.underlying tx = some (.slice e')) (h : TmF w a c ts) : Src P 36 tx (.slice a ts.length c) ts.length (tmR ts) w := by
  cases a with
  | none =>
    have h0 : ts = [] := by
      rcases h.rows with h0 | ⟨p, hp, _⟩
      · have := congrArg List.length h0
        rw [fm_len TmA.row_len] at this
        exact List.eq_nil_of_length_eq_zero (by simp only [List.length_nil] at this; omega)
      · exact absurd hp (by simp)
    subst h0
    exact Src.ofNil w hk c
  | some p =>
    refine Src.ofSlice w hk p ts.length c (tmR ts) (tmR_len ts) ?_ (tmR_one ts)
    intro j u hu
    rcases h.rows with h0 | ⟨p', hp, hh⟩
    · rw [show tmR ts = [] from h0] at hu; simp at hu
    · obtain rfl : p = p' := by simpa using hp
      exact hh j u hu
/-- A row of terms, with room. -/
abbrev At (C : Array Value) (ts : List TmA) (c : Nat) : Prop := Av C 36 ts.length (tmR ts) c
theorem At.app {C : Array Value} {ts us : List TmA} {c : Nat} (h : Av C 36 (ts.length + us.length) (tmR ts ++ tmR us) c) : At C (ts ++ us) c := by
  unfold At
  rw [List.length_append, show tmR (ts ++ us) = tmR ts ++ tmR us from List.flatMap_append]
  exact h
theorem At.src {P : Program} {w : World} {g c : Nat} {C : Array Value} {ts : List TmA} {T tx e' : TypeId} {fr : Nat × Nat} (hk : P.underlying tx = some (.slice e')) (hb : w.heap[g]? = some (.cells C T fr)) (hA : At C ts c) : Src P 36 tx (.slice (some ⟨g, 0, none⟩) ts.length c) ts.length (tmR ts) w := by
  refine Src.ofSlice w hk ⟨g, 0, none⟩ ts.length c (tmR ts) (tmR_len ts) ?_ (tmR_one ts)
  intro j u hu
  rcases Rs.of_av hb hA with h0 | ⟨p', hp, hh⟩
  · rw [h0] at hu; simp at hu
  · obtain rfl : (⟨g, 0, none⟩ : Addr) = p' := by simpa using hp
    exact hh j u hu
theorem tmR_nil : tmR [] = [] := rfl
theorem At.empty : At #[] [] 0 := ⟨rfl, rfl, Nat.le_refl _, rfl⟩
theorem At.one (t : TmA) : At t.row [t] 1 := by
  have e : tmR [t] = t.row.toList := by simp [tmR]
  refine ⟨?_, ?_, Nat.le_refl _, ?_⟩
  · rw [e, List.take_length]
  · rw [tmR_len]
  · have := t.row_len
    rw [Array.length_toList] at this
    exact this
/-! ### a term that is changed -/
theorem fm_set {α : Type} {f : α → List Value} {n : Nat} (hf : ∀ x, (f x).length = n) : ∀ (l : List α) (i o : Nat) (x : α) (v : Value), i < l.length → o < n → (∀ y, l[i]? = some y → f x = (f y).set o v) → (l.set i x).flatMap f = (l.flatMap f).set (i * n + o) v
  | [], _, _, _, _, h, _, _ => absurd h (by simp)
  | y :: r, 0, o, x, v, _, ho, hx => by
    rw [List.set_cons_zero, List.flatMap_cons, List.flatMap_cons, Nat.zero_mul, Nat.zero_add, List.set_append_left _ _ (by rw [hf]; exact ho), hx y rfl]
  | y :: r, i + 1, o, x, v, h, ho, hx => by
    rw [List.set_cons_succ, List.flatMap_cons, List.flatMap_cons, fm_set hf r i o x v (by simpa using h) ho (fun z hz => hx z (by simpa using hz)), List.set_append_right _ _ (by rw [hf, Nat.add_mul, Nat.one_mul]; omega), hf, show (i + 1) * n + o - n = i * n + o by rw [Nat.add_mul, Nat.one_mul]; omega]
theorem Av.set {C : Array Value} {sz n c j : Nat} {xs : List Value} {v : Value} (h : Av C sz n xs c) : Av (C.setIfInBounds j v) sz n (xs.set j v) c := by
  refine ⟨?_, by rw [List.length_set]; exact h.len, h.le, by rw [Array.size_setIfInBounds]; exact h.size⟩
  rw [List.length_set, Array.toList_setIfInBounds, List.take_set, h.hd]
theorem At.set {C : Array Value} {ts : List TmA} {c j o : Nat} {v : Value} (t' : TmA) (h : At C ts c) (hj : j < ts.length) (ho : o < 36) (hr : t'.row.toList = (gT ts j).row.toList.set o v) : At (C.setIfInBounds (j * 36 + o) v) (ts.set j t') c := by
  have e : tmR (ts.set j t') = (tmR ts).set (j * 36 + o) v := fm_set TmA.row_len ts j o t' v hj ho (fun y hy => by
    rw [hr]
    have : gT ts j = y := by unfold gT; rw [List.getD_eq_getElem?_getD, hy]; rfl
    rw [this])
  unfold At
  rw [List.length_set, e]
  exact Av.set h
theorem At.get {C : Array Value} {ts : List TmA} {c j o : Nat} {v : Value} (h : At C ts c) (hj : j < ts.length) (ho : o < 36) (hv : (gT ts j).row[o]? = some v) : C[j * 36 + o]? = some v := by
  have h1 := TmF.cell hj ho hv
  have h2 := h.hd
  rw [show (ts.flatMap fun t => t.row.toList) = tmR ts from rfl, ← h2, List.getElem?_take] at h1
  split at h1
  · simpa using h1
  · exact absurd h1 (by simp)
theorem At.size {C : Array Value} {ts : List TmA} {c j o : Nat} (h : At C ts c) (hj : j < ts.length) (ho : o < 36) : j * 36 + o < C.size := by
  have := h.le; rw [Av.size h]; omega
/-! ### what is handed back -/
theorem rsP {T : Nat → Prop} {w0 w : World} {g sz n c : Nat} {C : Array Value} {e : TypeId} {fr : Nat × Nat} {xs : List Value} (hT : ∀ b, T b → b < w0.heap.size) (hg : w0.heap.size ≤ g ∧ w.heap[g]? = some (.cells C e fr)) (hA : Av C sz n xs c) : Pers T (fun w => Rs w (some ⟨g, 0, none⟩) xs) w :=
  (Rs.of_av hg.2 hA).pers (fun p hp _ hx => by
    obtain rfl : (⟨g, 0, none⟩ : Addr) = p := by simpa using hp
    have h1 : g < w0.heap.size := hT _ hx
    have := hg.1
    omega)
/-- Each term is one of ts, but for what does not lie elsewhere; or it has no keys. -/
def SubT (ts ts' : List TmA) : Prop := ∀ t' ∈ ts', t'.Ok ∧ (t'.ks = [] ∨ ∃ t ∈ ts, t'.ka = t.ka ∧ t'.kc = t.kc ∧ t'.ks = t.ks)
theorem SubT.refl {ts : List TmA} (h : ∀ t ∈ ts, t.Ok) : SubT ts ts := fun t ht => ⟨h t ht, Or.inr ⟨t, ht, rfl, rfl, rfl⟩⟩
theorem SubT.app {ts us vs : List TmA} (h : SubT ts us) (h2 : SubT ts vs) : SubT ts (us ++ vs) := fun t ht => (List.mem_append.1 ht).elim (h t) (h2 t)
theorem SubT.tail {ts us : List TmA} (h : SubT ts us) : SubT ts us.tail := fun t ht => h t (List.mem_of_mem_tail ht)
theorem SubT.set {ts us : List TmA} {j : Nat} {t' : TmA} (h : SubT ts us) (ho : t'.Ok) (hk : t'.ks = [] ∨ ∃ t ∈ ts, t'.ka = t.ka ∧ t'.kc = t.kc ∧ t'.ks = t.ks) : SubT ts (us.set j t') := fun t ht => by
  rcases List.mem_or_eq_of_mem_set ht with h1 | rfl
  · exact h t h1
  · exact ⟨ho, hk⟩
theorem TmF.pack {T : Nat → Prop} {w0 w : World} {a : Option Addr} {c c' g : Nat} {C : Array Value} {e : TypeId} {fr : Nat × Nat} {ts ts' : List TmA} (hT : ∀ b, T b → b < w0.heap.size) (hb : Below w0.heap.size w0 w) (hP : Pers T (fun w => TmF w a c ts) w0) (hg : w0.heap.size ≤ g ∧ w.heap[g]? = some (.cells C e fr)) (hA : At C ts' c') (hm : ts'.length ≤ 1000000) (hs : SubT ts ts') : Pers T (fun w => TmF w (some ⟨g, 0, none⟩) c' ts') w := by
  have hP' : Pers T (fun w => TmF w a c ts) w := hP.upd (X := fun _ => False) (Upd.of_below hb) (fun _ h => h.elim) (fun b hb => Or.inl hb)
  refine TmF.mkP hA.le hm (rsP hT hg hA) (fun t' ht => ?_) (fun t' ht => (hs t' ht).1)
  rcases (hs t' ht).2 with h0 | ⟨t, htm, e1, e2, e3⟩
  · rw [h0]; exact persTrue (fun _ => KpF.nil)
  · rw [e1, e2, e3]; exact hP'.mono (fun _ h => h.sub t htm)
theorem TmF.of_at {T : Nat → Prop} {w : World} {g c : Nat} {ts : List TmA} (h : Pers T (fun w => TmF w (some ⟨g, 0, none⟩) c ts) w) {ts' : List TmA} (e : ts = ts') : Pers T (fun w => TmF w (some ⟨g, 0, none⟩) c ts') w := e ▸ h
theorem TmF.tail {w : World} {a : Option Addr} {c : Nat} {ts : List TmA} (h : TmF w a c ts) (h0 : 0 < ts.length) : TmF w (if c = 1 then a else a.map (·.add (1 * 36))) (c - 1) ts.tail := by
  have hle := h.le
  refine ⟨by rw [List.length_tail]; omega, by rw [List.length_tail]; have := h.max; omega, ?_, fun t ht => h.sub t (List.mem_of_mem_tail ht), fun t ht => h.ok t (List.mem_of_mem_tail ht)⟩
  by_cases hc : c = 1
  · have : ts.tail = [] := List.eq_nil_of_length_eq_zero (by rw [List.length_tail]; omega)
    rw [this]; exact Or.inl rfl
  · rw [if_neg hc]
    have e : (ts.tail.flatMap fun t => t.row.toList) = (ts.flatMap fun t => t.row.toList).drop 36 := by
      cases ts with
      | nil => simp at h0
      | cons t r => rw [List.tail_cons, List.flatMap_cons, List.drop_append_of_le_length (by rw [TmA.row_len]; exact Nat.le_refl _), List.drop_of_length_le (by rw [TmA.row_len]; exact Nat.le_refl _), List.nil_append]
    rw [e]
    exact h.rows.drop 36
theorem set_eq {_v : Value} {A B : Array Value} (h : A = B) : A.toList = B.toList := congrArg Array.toList h
/-- A digest with a byte that is changed. -/
def hS5 (h : Nat) : Nat := nB ((hL h).set 5 1)
theorem hS5_lt (h : Nat) : hS5 h < M := nB_M (by rw [List.length_set, hL_length])
theorem hS5_row (h : Nat) : hB (hS5 h) = (hB h).setIfInBounds 5 (.int .u8 1) := by
  unfold hS5
  rw [← hB_nB (by rw [List.length_set, hL_length])]
  apply Array.ext'
  have hh := hd_hB h
  unfold Hd at hh
  rw [hL_length, List.take_of_length_le (by rw [Array.length_toList, hB_size]; exact Nat.le_refl _)] at hh
  rw [Array.toList_setIfInBounds, hh]
  unfold bs
  rw [List.map_set]
  rfl
end Go.Proofs.YtlkbhiaoolddmaaDoor

/-! Calls that hand back lists of terms; rows of terms that grow. -/
namespace Go.Proofs.YtlkbhiaoolddmaaDoor
open Go Go.RowKit

/-- A list of terms that is made: it is short, and not empty. -/
def TmN (w : World) (a : Option Addr) (c : Nat) (ts : List TmA) : Prop := TmF w a c ts ∧ 0 < ts.length ∧ ts.length ≤ 8
theorem TmN.pers0 {w : World} {a : Option Addr} {c : Nat} {ts : List TmA} (h : TmN w a c ts) : Pers (fun _ => False) (fun w => TmN w a c ts) w := h.1.pers0.mono (fun _ h1 => ⟨h1, h.2⟩)
def ot (ρ : Nat → Orc) (i : Nat) : List TmA := (ρ i).t
section
variable {P : Program} {ops : Array Oper} {D : List Nat} {l : List (Nat × Value)} {w0 : Base} {h : List (Nat × Obj)} {F0 : World → Prop}
variable {vals : (Nat → Orc) → Nat → Value} {effs : (Nat → Orc) → Nat → Eff} {fact : (Nat → Orc) → Nat → World → Prop}
theorem o_callGT (i : Nat) (f : FuncId) (args : (Nat → Orc) → Array Value)
    (hc : ∀ ρ z, callChkF P ops D l (vals ρ) i z = some (.enter f (args ρ), [], []))
    (he : ∀ ρ r, effs (upd ρ i r) i = {})
    (hf : ∀ ρ T w, Given ops D w0 h F0 effs fact i ρ T w → Calls P f (args ρ) w (fun e w' => Below w.heap.size w w' ∧ ∃ r, e = .returned (vals (upd ρ i r) i) ∧ Pers T (fact (upd ρ i r) i) w')) : Obl P ops D l w0 h F0 vals effs fact i := by
  have key : ∀ ρ z, ((ops[i]?).isSome = true ∧ wantV (vals ρ) (opAt ops i) = true) ∧ grun P (execOp (evalAt ops D l (vals ρ) i) (opAt ops i)) [] [] z = some (.enter f (args ρ), [], []) := by
    intro ρ z
    have h1 := hc ρ z
    unfold callChkF at h1
    split at h1
    · rename_i hb
      simp only [Bool.and_eq_true] at hb
      exact ⟨hb, h1⟩
    · exact absurd h1 (by simp)
  intro o ho ρ T w hG
  have hoe := opAt_some (key ρ []).1.1
  rw [ho] at hoe
  obtain rfl : o = opAt ops i := by simpa using hoe
  rw [if_pos (key ρ []).1.2]
  obtain ⟨w1, h1, _, _, h4, _, _⟩ := grun_sound (P := P) (execOp (evalAt ops D l (vals ρ) i) (opAt ops i)) [] [] w _ _ _ (by intro y hy; simp at hy) (by simp) ((key ρ _).2) trivial
  have hb : Below w.heap.size w w1 := ⟨h4.os, h4.tape, h4.output, h4.size, fun k hk => h4.block k hk (by simp)⟩
  have hheap : ∀ b, b < w.heap.size → w1.heap[b]? = w.heap[b]? := fun b hb' => hb.block b hb'
  have hG1 : Given ops D w0 h F0 effs fact i ρ T w1 := by
    have tr : ∀ {F : World → Prop}, Pers T F w → Pers T F w1 := by
      rintro F ⟨S, s1, s2⟩
      refine ⟨S, fun b hb' => ⟨Nat.lt_of_lt_of_le (s1 b hb').1 hb.size, (s1 b hb').2⟩, fun w' hw => s2 w' (fun b hb' => ?_)⟩
      rw [hw b hb', hheap b (s1 b hb').1]
    refine ⟨fun b hb' => Nat.lt_of_lt_of_le (hG.lt b hb') hb.size, hG.below.trans (Upd.of_below hb), fun n x hn hk => ?_, hG.ne, tr hG.facts0, fun j hj => tr (hG.facts j hj)⟩
    have := hG.block n x hn hk
    refine ⟨?_, this.2⟩
    rw [hheap _ (hG.lt _ this.2.1)]
    exact this.1
  unfold opv
  rw [h1]
  refine (hf ρ T w1 hG1).mono (fun e w2 hew => ?_)
  obtain ⟨hb2, r, rfl, hp⟩ := hew
  show After ops D h vals effs fact i ρ T w _ w2
  refine ⟨r, rfl, Upd.of_below (hb.trans (hb2.mono hb.size)), ?_, ?_, ?_, ?_⟩
  · rw [he]; intro n q hm; simp at hm
  · rw [he]; intro k b q hk; simp at hk
  · rw [he]; simp
  · rw [he]
    refine hp.sub (fun b hbT => ?_)
    rcases hbT with hbT | hbT
    · exact hbT
    · simp at hbT
/-- A call that hands back a list of terms, which may share what lies elsewhere. -/
theorem o_callT (i : Nat) (f : FuncId) (args : (Nat → Orc) → Array Value) (v : (Nat → Orc) → Option Addr → Nat → List TmA → Value)
    (hf : ∀ ρ T w, Given ops D w0 h F0 effs fact i ρ T w → Calls P f (args ρ) w (fun e w' => Below w.heap.size w w' ∧ ∃ a c ts, e = .returned (v ρ a c ts) ∧ Pers T (fun w => TmF w a c ts) w'))
    (hc : ∀ ρ z, callChkF P ops D l (vals ρ) i z = some (.enter f (args ρ), [], []) := by intros; kernel_rfl)
    (hv : ∀ ρ r, vals (upd ρ i r) i = v ρ r.a (r.n.headD 0) r.t := by intros; kernel_rfl) (he : ∀ ρ r, effs (upd ρ i r) i = {} := by intros; kernel_rfl)
    (ht : ∀ ρ r, fact (upd ρ i r) i = (fun w => TmF w r.a (r.n.headD 0) r.t) := by intros; kernel_rfl) : Obl P ops D l w0 h F0 vals effs fact i := by
  refine o_callGT i f args hc he (fun ρ T w hG => (hf ρ T w hG).mono (fun e w' hew => ?_))
  obtain ⟨hb, a, c, ts, h1, h2⟩ := hew
  refine ⟨hb, { n := [c], a := a, t := ts }, ?_, ?_⟩
  · rw [hv]; exact h1
  · rw [ht]; exact h2
/-- A call that takes numbers from a deck and hands back a list of terms. -/
theorem o_callWT (i : Nat) (ns : List Nat) (f : FuncId) (args : (Nat → Orc) → Array Value) (v : (Nat → Orc) → Option Addr → Nat → List TmA → Value) (K : (Nat → Orc) → List (Nat × Obj)) (K' : (Nat → Orc) → Nat → List (Nat × Obj))
    (hf : ∀ ρ T w, Given ops D w0 h F0 effs fact i ρ T w → Knows (K ρ) w → Calls P f (args ρ) w (fun e w' => ∃ a c ts j, e = .returned (v ρ a c ts) ∧ Upd (fun b => b ∈ (K ρ).map (·.1)) w w' ∧ Knows (K' ρ j) w' ∧ Pers (fun b => b < w.heap.size) (fun w => TmN w a c ts) w'))
    (hc : ∀ ρ z, callChkF P ops D l (vals ρ) i z = some (.enter f (args ρ), [], []) := by intros; kernel_rfl)
    (hv : ∀ ρ r, vals (upd ρ i r) i = v ρ r.a (r.n.headD 0) r.t := by intros; kernel_rfl) (he : ∀ ρ r, effs (upd ρ i r) i = { puts := ns.zip (K' ρ (r.n.tail.headD 0)) } := by intros; kernel_rfl)
    (hn : ∀ ρ, namesOk ops D h (effs ρ) i ns = true := by intros; kernel_rfl) (hk : ∀ ρ, known ops D h (effs ρ) i ns = K ρ := by intros; kernel_rfl) (hl : ∀ ρ j, (K' ρ j).map (·.1) = (K ρ).map (·.1) := by intros; kernel_rfl)
    (ht : ∀ ρ r, fact (upd ρ i r) i = (fun w => TmN w r.a (r.n.headD 0) r.t) := by intros; kernel_rfl) : Obl P ops D l w0 h F0 vals effs fact i := by
  refine o_callGW i ns f args K (fun ρ r => K' ρ (r.n.tail.headD 0)) hc he hn hk (fun ρ r => hl ρ _) (fun ρ T w hG hK => (hf ρ T w hG hK).mono (fun e w' hew => ?_))
  obtain ⟨a, c, ts, j, h1, h2, h3, h4⟩ := hew
  refine ⟨h2, { n := [c, j], a := a, t := ts }, ?_, h3, ?_⟩
  · rw [hv]; exact h1
  · rw [ht]; exact h4
/-- As o_callWI; it is kept that the integers are new. -/
theorem o_callWJ (i : Nat) (ns : List Nat) (f : FuncId) (args : (Nat → Orc) → Array Value) (v : (Nat → Orc) → Option Addr → Nat → Value) (ik : IntKind) (zs : (Nat → Orc) → List Int) (K K' : (Nat → Orc) → List (Nat × Obj))
    (hf : ∀ ρ T w, Given ops D w0 h F0 effs fact i ρ T w → Knows (K ρ) w → Calls P f (args ρ) w (fun e w' => ∃ a c, e = .returned (v ρ a c) ∧ Upd (fun b => b ∈ (K ρ).map (·.1)) w w' ∧ Knows (K' ρ) w' ∧ Fi w w' ik a c (zs ρ)))
    (hc : ∀ ρ z, callChkF P ops D l (vals ρ) i z = some (.enter f (args ρ), [], []) := by intros; kernel_rfl)
    (hv : ∀ ρ r, vals (upd ρ i r) i = v ρ r.a (r.n.headD 0) := by intros; kernel_rfl) (he : ∀ ρ r, effs (upd ρ i r) i = { puts := ns.zip (K' ρ) } := by intros; kernel_rfl)
    (hn : ∀ ρ, namesOk ops D h (effs ρ) i ns = true := by intros; kernel_rfl) (hk : ∀ ρ, known ops D h (effs ρ) i ns = K ρ := by intros; kernel_rfl) (hl : ∀ ρ, (K' ρ).map (·.1) = (K ρ).map (·.1) := by intros; kernel_rfl)
    (ht : ∀ ρ r, fact (upd ρ i r) i = (fun w => Fi w0.w w ik r.a (r.n.headD 0) (zs ρ)) := by intros; kernel_rfl) : Obl P ops D l w0 h F0 vals effs fact i := by
  refine o_callGW i ns f args K (fun ρ _ => K' ρ) hc he hn hk (fun ρ _ => hl ρ) (fun ρ T w hG hK => (hf ρ T w hG hK).mono (fun e w' hew => ?_))
  obtain ⟨a, c, h1, h2, h3, h4⟩ := hew
  refine ⟨h2, { n := [c], a := a }, ?_, h3, ?_⟩
  · rw [hv]; exact h1
  · rw [ht]; exact (h4.pers (fun b hb => hb)).mono (fun _ hi => ⟨hi, fun p hp hn => Nat.le_trans hG.below.size (h4.2 p hp hn)⟩)
end
/-! ### rows of terms that grow -/
section
variable {P : Program} {t e : TypeId} {b : Nat} {z : Value}
theorem src_t1 {w : World} {g : Nat} {x : TmA} {T tx e' : TypeId} {fr : Nat × Nat} (hk : P.underlying tx = some (.slice e')) (hb : w.heap[g]? = some (.cells x.row T fr)) : Src P 36 tx (.slice (some ⟨g, 0, none⟩) 1 1) 1 (tmR [x]) w := by
  have e : tmR [x] = x.row.toList := by simp [tmR]
  rw [e]
  exact src_blk hk (by rw [Array.toArray_toList]; exact hb) (by rw [x.row_len]) (List.all_eq_true.2 x.row_one)
theorem src_t2 {w : World} {g : Nat} {x y : TmA} {T tx e' : TypeId} {fr : Nat × Nat} (hk : P.underlying tx = some (.slice e')) (hb : w.heap[g]? = some (.cells (x.row ++ y.row) T fr)) : Src P 36 tx (.slice (some ⟨g, 0, none⟩) 2 2) 2 (tmR [x, y]) w := by
  have e : tmR [x, y] = (x.row ++ y.row).toList := by simp [tmR]
  rw [e]
  exact src_blk hk (by rw [Array.toArray_toList]; exact hb) (by rw [Array.toList_append, List.length_append, x.row_len, y.row_len]) (List.all_eq_true.2 (fun u hu => by
    rw [Array.toList_append] at hu
    exact (List.mem_append.1 hu).elim (x.row_one u) (y.row_one u)))
theorem appT_nil {w : World} {ty tx : TypeId} (ht : P.underlying t = some (.slice e)) (hi : elike P e 36 b z) {x : Value} {us : List TmA} (hs : Src P 36 tx x us.length (tmR us) w) (h0 : 0 < us.length) (hm : us.length ≤ 1000) (hb : b ≤ 1000) :
    ∃ k w', (do pure (Next.value (← Builtin.append_ #[t, tx] ty #[.slice none 0 0, x])) : Sem Next).run P w = .ok (.value (.slice (some ⟨([w.heap.size, k] : List Nat).headD 0, 0, none⟩) us.length (us.length + ([w.heap.size, k] : List Nat).tail.headD 0))) w' ∧ Grew w w' (.cells ((tmR us).toArray ++ Builtin.zeroCells z.cells (([w.heap.size, k] : List Nat).tail.headD 0)) e (0, 0)) :=
  appV_nil ht hi hs h0 (by omega) (Nat.le_trans (Nat.mul_le_mul hm hb) (by decide))
theorem At.fresh (hz : z.cells.size = 36) (us : List TmA) (k : Nat) : At ((tmR us).toArray ++ Builtin.zeroCells z.cells k) us (us.length + k) := Av.fresh hz (tmR_len us) k
theorem appT_any {w : World} {ty tx : TypeId} (ht : P.underlying t = some (.slice e)) (hi : elike P e 36 b z) {g c : Nat} {C : Array Value} {x : Value} {ts us : List TmA} (hA : At C ts c) (hs : Src P 36 tx x us.length (tmR us) w) (hm : ts.length + us.length ≤ 1000) (hb : b ≤ 1000) (hg : w.heap[g]? = some (.cells C e (0, 0))) :
    ∃ r w', (do pure (Next.value (← Builtin.append_ #[t, tx] ty #[.slice (some ⟨g, 0, none⟩) ts.length c, x])) : Sem Next).run P w = .ok (.value (.slice (some ⟨r.n.headD 0, 0, none⟩) (ts ++ us).length (r.n.tail.headD 0))) w' ∧ At (orcC r) (ts ++ us) (r.n.tail.headD 0) ∧ Moved w w' g (r.n.headD 0) (.cells (orcC r) e (0, 0)) := by
  obtain ⟨r, w', h1, h2, h3⟩ := appV_any (ty := ty) ht hi hA hs (by omega) (Nat.le_trans (Nat.mul_le_mul hm hb) (by decide)) hg
  refine ⟨r, w', ?_, At.app h2, h3⟩
  rw [List.length_append]; exact h1
end
/-- A list without its first term. -/
theorem slice_t {P : Program} {t e : TypeId} (ht : P.underlying t = some (.slice e)) (hs : ∀ w, (sizeOf e).run P w = .ok 36 w) {w : World} {g m c : Nat} {ts : List TmA} (hm : m = ts.length) (h0 : 0 < ts.length) (_hc : ts.length ≤ c) :
    (do pure (Next.value (← Instr.sliceAt t (.slice (some ⟨g, 0, none⟩) m c) (some (.int .i64 1)) none none)) : Sem Next).run P w = .ok (.value (.slice (if c = 1 then some ⟨g, 0, none⟩ else (some (⟨g, 0, none⟩ : Addr)).map (·.add (1 * 36))) ts.tail.length (c - 1))) w := by
  subst hm
  have hs := hs w
  have hb1 : (Instr.sliceBounds true ts.length c (some (.int .i64 1)) none none).run P w = .ok (1, ts.length, c) w := by
    have h1 : (1 : Nat) ≤ ts.length := h0
    simp [Instr.sliceBounds, Instr.sliceBound, asIntOf]
    try omega
  rw [List.length_tail]
  simp [Instr.sliceAt, Instr.slice, run_underlying ht, hs, hb1]
/-! ### key paths that are made -/
theorem kp_one (p : KpA) : ∀ u ∈ p.row.toList, u.oneCell' = true := by
  intro u hu
  simp only [KpA.row, kpV, Array.toList_append, List.mem_append] at hu
  rcases hu with ((hu | hu) | hu) | hu
  · exact cU_one _ u hu
  · exact cU_one _ u hu
  · exact hB_oneL _ u hu
  · simp at hu; rcases hu with rfl | rfl | rfl | rfl | rfl <;> rfl
theorem Ak.one (p : KpA) : Av p.row 45 1 (kpR [p]) 1 := by
  have e : kpR [p] = p.row.toList := by simp [kpR]
  have hl := p.row_len
  refine ⟨?_, ?_, Nat.le_refl _, ?_⟩
  · rw [e, List.take_length]
  · rw [kpR_len]; rfl
  · rw [Array.length_toList] at hl; exact hl
theorem Ak.two (p q : KpA) : Av (p.row ++ q.row) 45 2 (kpR [p, q]) 2 := by
  have e : kpR [p, q] = (p.row ++ q.row).toList := by simp [kpR]
  have hl := p.row_len
  have hq := q.row_len
  rw [Array.length_toList] at hl hq
  refine ⟨?_, ?_, Nat.le_refl _, ?_⟩
  · rw [e, List.take_length]
  · rw [kpR_len]; rfl
  · rw [Array.size_append, hl, hq]
theorem kf1 {T : Nat → Prop} {w0 w : World} {g : Nat} {e : TypeId} {fr : Nat × Nat} {p : KpA} (hT : ∀ b, T b → b < w0.heap.size) (hg : w0.heap.size ≤ g ∧ w.heap[g]? = some (.cells p.row e fr)) (hf : Pers T (fun w => Is w .u32 p.pa p.pc (nI p.ps)) w) (ho : p.Ok) : Pers T (fun w => KpF w (some ⟨g, 0, none⟩) 1 [p]) w :=
  KpF.mkP (Nat.le_refl 1) (Nat.le_of_ble_eq_true rfl) (rsP hT hg (Ak.one p)) (fun q hq => by rw [List.mem_singleton.1 hq]; exact hf) (fun q hq => by rw [List.mem_singleton.1 hq]; exact ho)
theorem kf2 {T : Nat → Prop} {w0 w : World} {g : Nat} {e : TypeId} {fr : Nat × Nat} {p q : KpA} (hT : ∀ b, T b → b < w0.heap.size) (hg : w0.heap.size ≤ g ∧ w.heap[g]? = some (.cells (p.row ++ q.row) e fr)) (hf : Pers T (fun w => Is w .u32 p.pa p.pc (nI p.ps)) w) (ho : p.Ok) (hf2 : Pers T (fun w => Is w .u32 q.pa q.pc (nI q.ps)) w) (ho2 : q.Ok) : Pers T (fun w => KpF w (some ⟨g, 0, none⟩) 2 [p, q]) w :=
  KpF.mkP (Nat.le_refl 2) (Nat.le_of_ble_eq_true rfl) (rsP hT hg (Ak.two p q)) (fun r hr => by
    rcases List.mem_cons.1 hr with rfl | hr
    · exact hf
    · rw [List.mem_singleton.1 hr]; exact hf2) (fun r hr => by
    rcases List.mem_cons.1 hr with rfl | hr
    · exact ho
    · rw [List.mem_singleton.1 hr]; exact ho2)
/-- A term with its keys, in new memory. -/
def MadeT (T : Nat → Prop) (w : World) (t : TmA) : Prop := t.Ok ∧ Pers T (fun w => KpF w t.ka t.kc t.ks) w
theorem made_nil {T : Nat → Prop} {w : World} : ∀ t ∈ ([] : List TmA), MadeT T w t := by simp
theorem made_app {T : Nat → Prop} {w : World} {ts us : List TmA} (h : ∀ t ∈ ts, MadeT T w t) (h2 : ∀ t ∈ us, MadeT T w t) : ∀ t ∈ ts ++ us, MadeT T w t := fun t ht => (List.mem_append.1 ht).elim (h t) (h2 t)
theorem made_1 {T : Nat → Prop} {w : World} {t : TmA} (h : MadeT T w t) : ∀ x ∈ [t], MadeT T w x := fun x hx => by rw [List.mem_singleton.1 hx]; exact h
theorem made_2 {T : Nat → Prop} {w : World} {t u : TmA} (h : MadeT T w t) (h2 : MadeT T w u) : ∀ x ∈ [t, u], MadeT T w x := made_app (ts := [t]) (us := [u]) (made_1 h) (made_1 h2)
theorem made_all {T : Nat → Prop} {w0 w : World} {g c : Nat} {C : Array Value} {e : TypeId} {fr : Nat × Nat} {ts : List TmA} (hT : ∀ b, T b → b < w0.heap.size) (hg : w0.heap.size ≤ g ∧ w.heap[g]? = some (.cells C e fr)) (hA : At C ts c) (h : ∀ t ∈ ts, MadeT T w t) (h0 : 0 < ts.length) (h8 : ts.length ≤ 8) : Pers T (fun w => TmN w (some ⟨g, 0, none⟩) c ts) w :=
  (TmF.mkP hA.le (by omega) (rsP hT hg hA) (fun t ht => (h t ht).2) (fun t ht => (h t ht).1)).mono (fun _ hh => ⟨hh, h0, h8⟩)
end Go.Proofs.YtlkbhiaoolddmaaDoor

/-! Key paths and terms that are made of numbers. -/
namespace Go.Proofs.YtlkbhiaoolddmaaDoor
open Go

def ptn (zs : List Int) (j : Nat) : Nat := dN zs (j + 8) 2
def ptP (zs : List Int) (j : Nat) : List Nat := (List.range (ptn zs j)).map fun m => dN zs (j + 9 + m) 4
theorem ptn_0 {zs : List Int} {j : Nat} (h : decide (0 < ((dN zs (j + 8) 2 : Nat) : Int)) = false) : ptn zs j = 0 := by have := of_decide_eq_false h; unfold ptn; omega
theorem ptn_1 {zs : List Int} {j : Nat} (h : decide (0 < ((dN zs (j + 8) 2 : Nat) : Int)) = true) : ptn zs j = 1 := by
  have := of_decide_eq_true h; have := dN_lt zs (j + 8) (n := 2) (by decide); unfold ptn; omega
theorem ptP_0 {zs : List Int} {j : Nat} (h : ptn zs j = 0) : nI (ptP zs j) = [] := by unfold ptP; rw [h]; rfl
theorem ptP_1 {zs : List Int} {j : Nat} (h : ptn zs j = 1) : nI (ptP zs j) = [((dN zs (j + 9) 4 : Nat) : Int)] := by unfold ptP; rw [h]; rfl
theorem ptP_32 (zs : List Int) (j : Nat) : ∀ i ∈ ptP zs j, i < 4294967296 := by
  intro i hi
  obtain ⟨m, _, rfl⟩ := List.mem_map.1 hi
  exact Nat.lt_of_lt_of_le (dN_lt _ _ (by decide)) (by decide)
def ptB (zs : List Int) (j : Nat) : Bool := ((dN zs (j + 7) 2 : Nat) : Int) == 0
def ptK (zs : List Int) (j : Nat) : Ky := mkK zs (j + 1) (((dN zs j 3 : Nat) : Int) == 0)
theorem ptK_ok (zs : List Int) (j : Nat) : (ptK zs j).Ok := mkK_ok _ _ _
/-- The key path that is made, where its steps lie. -/
def ptA (zs : List Int) (j : Nat) (a : Option Addr) (c : Nat) : KpA := ⟨ptK zs j, ptP zs j, ptB zs j, a, c⟩
theorem ptA_ok (zs : List Int) (j : Nat) (a : Option Addr) (c : Nat) : (ptA zs j a c).Ok := ⟨ptK_ok zs j, by
  have := dN_lt zs (j + 1 + 3) (n := 3) (by decide)
  show rng ((dN zs (j + 1 + 3) 3 : Nat) : Int)
  unfold rng; omega, ptP_32 zs j⟩
/-! ### made terms, by names -/
def tN (kd : Int) (n : Nat) : TmA := ⟨kd, 0, n, 0, [], none, 0⟩
def tH (h : Nat) : TmA := ⟨5, 0, 0, h, [], none, 0⟩
def tE : TmA := ⟨6, 0, 0, 0, [], none, 0⟩
def tK (zs : List Int) (j : Nat) (a : Option Addr) (c g : Nat) : TmA := ⟨1, 0, 0, 0, [ptA zs j a c], some ⟨g, 0, none⟩, 1⟩
def tM (m : Nat) (zs : List Int) (j : Nat) (a : Option Addr) (c : Nat) (j2 : Nat) (a2 : Option Addr) (c2 g : Nat) : TmA := ⟨2, (m : Int), 0, 0, [ptA zs j a c, ptA zs j2 a2 c2], some ⟨g, 0, none⟩, 2⟩
theorem z32 : (0 : Nat) < 4294967296 := by decide
end Go.Proofs.YtlkbhiaoolddmaaDoor
