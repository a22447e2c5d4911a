/-
  What the walks of this seat share, part 4: the texts of it, one behind the other.
-/
import Derived.Test.YtlkbhiaoolddmaaDoorBase3
set_option maxRecDepth 100000

/-! Trees of keys: the walks' last equations. -/
namespace Go.Proofs.YtlkbhiaoolddmaaDoor
open Go

theorem snd_end1 {k : Ky} (h1 : decide (k.d < 0) = true) : false = sndB k := by
  have := of_decide_eq_true h1
  unfold sndB
  rw [decide_eq_false (show ¬ 0 ≤ k.d by omega)]; rfl
theorem snd_end2 {k : Ky} (_ : decide (k.d < 0) = false) (h2 : decide (8 < k.d) = true) : false = sndB k := by
  have := of_decide_eq_true h2
  unfold sndB
  rw [decide_eq_false (show ¬ k.d ≤ 8 by omega), Bool.false_and, Bool.and_false]
theorem snd_end3 {k : Ky} (_ : decide (k.d < 0) = false) (_ : decide (8 < k.d) = false) (h3 : valB k.p = false) : false = sndB k := by
  unfold sndB
  rw [h3, Bool.false_and, Bool.and_false, Bool.and_false]
theorem snd_mid {k : Ky} (h1 : decide (k.d < 0) = false) (h2 : decide (8 < k.d) = false) (h3 : valB k.p = true) : sndB k = (decide (k.s = 0) || (decide (pubE k.s = 0) && decide (pubV k.s = k.p))) := by
  have := of_decide_eq_false h1
  have := of_decide_eq_false h2
  unfold sndB
  rw [decide_eq_true (show 0 ≤ k.d by omega), decide_eq_true (show k.d ≤ 8 by omega), h3]; rfl
theorem snd_ok4 {k : Ky} (h1 : decide (k.d < 0) = false) (h2 : decide (8 < k.d) = false) (h3 : valB k.p = true) (h4 : decide (k.s = 0) = true) : true = sndB k := by
  rw [snd_mid h1 h2 h3, h4]; rfl
theorem snd_ok5 {k : Ky} (h1 : decide (k.d < 0) = false) (h2 : decide (8 < k.d) = false) (h3 : valB k.p = true) (h4 : decide (k.s = 0) = false) (h5 : (pubE k.s == 0) = true) : decide (pubV k.s = k.p) = sndB k := by
  have h : pubE k.s = 0 := by simpa using h5
  rw [snd_mid h1 h2 h3, h4, decide_eq_true h]; rfl
theorem snd_end5 {k : Ky} (h1 : decide (k.d < 0) = false) (h2 : decide (8 < k.d) = false) (h3 : valB k.p = true) (h4 : decide (k.s = 0) = false) (h5 : (pubE k.s == 0) = false) : false = sndB k := by
  have h : ¬ pubE k.s = 0 := by simpa using h5
  rw [snd_mid h1 h2 h3, h4, decide_eq_false h]; rfl
/-! ### prints -/
theorem hiN_small {D j : Nat} (h : j < 4) : hiN D j < 16777216 :=
  Nat.lt_of_lt_of_le (hiN_lt D j) (by rw [show (16777216 : Nat) = 256 ^ 3 from rfl]; exact Nat.pow_le_pow_right (by decide) (by omega))
theorem or_hi {D j : Nat} (h : j < 4) : bits .or .u32 ((hiN D j * 256 : Nat) : Int) ((bN D j : Nat) : Int) = ((hiN D (j + 1) : Nat) : Int) := by
  have h1 := hiN_small (D := D) h
  have h2 := bN_lt D j
  exact or_gen (x := hiN D j) (y := bN D j) (k := 8) h2 (by show _ * 256 < _; omega) (by omega)
theorem run_hi8 {P : Program} {t : TypeId} {D j : Nat} (h : j < 4) (w : World) : (binOp .shl t (.int .u32 ((hiN D j : Nat) : Int)) (.int .u64 8)).run P w = .ok (.int .u32 ((hiN D j * 256 : Nat) : Int)) w :=
  run_shlU (k := .u32) (yk := .u64) (x := hiN D j) (c := 8) rfl (by have := hiN_small (D := D) h; show hiN D j * 256 < 4294967296; omega) (fun _ => by decide) w
theorem u32_bN (D j : Nat) : IntKind.u32.wrap ((bN D j : Nat) : Int) = ((bN D j : Nat) : Int) := u32N (Nat.lt_trans (bN_lt D j) (by decide))
theorem run_bN {P : Program} {t : TypeId} {D j c : Nat} (hc : c ≤ 24) (w : World) : (binOp .shl t (.int .u32 ((bN D j : Nat) : Int)) (.int .u64 ((c : Nat) : Int))).run P w = .ok (.int .u32 ((bN D j * 2 ^ c : Nat) : Int)) w :=
  run_shlU (k := .u32) (yk := .u64) (x := bN D j) (c := c) rfl (by
    have h1 := bN_lt D j
    have h2 : 2 ^ c ≤ 2 ^ 24 := Nat.pow_le_pow_right (by decide) hc
    have h3 : bN D j * 2 ^ c ≤ 255 * 2 ^ 24 := Nat.mul_le_mul (by omega) h2
    show bN D j * 2 ^ c < 4294967296
    omega) (fun _ => by show c ≤ 32; omega) w
theorem or_p1 (D : Nat) : bits .or .u32 ((bN D 0 * 2 ^ 24 : Nat) : Int) ((bN D 1 * 2 ^ 16 : Nat) : Int) = (((bN D 0 * 256 + bN D 1) * 65536 : Nat) : Int) := or_w1 (bN_lt D 0) (bN_lt D 1)
theorem or_p2 (D : Nat) : bits .or .u32 (((bN D 0 * 256 + bN D 1) * 65536 : Nat) : Int) ((bN D 2 * 2 ^ 8 : Nat) : Int) = ((((bN D 0 * 256 + bN D 1) * 256 + bN D 2) * 256 : Nat) : Int) := or_w2 (bN_lt D 0) (bN_lt D 1) (bN_lt D 2)
theorem or_p3 (D : Nat) : bits .or .u32 ((((bN D 0 * 256 + bN D 1) * 256 + bN D 2) * 256 : Nat) : Int) ((bN D 3 : Nat) : Int) = ((hiN D 4 : Nat) : Int) := by
  have h0 := bN_lt D 0; have h1 := bN_lt D 1; have h2 := bN_lt D 2; have h3 := bN_lt D 3
  refine (or_gen (x := (bN D 0 * 256 + bN D 1) * 256 + bN D 2) (y := bN D 3) (k := 8) h3 (by show _ * 256 < _; omega) (by omega)).trans ?_
  simp [hiN]
end Go.Proofs.YtlkbhiaoolddmaaDoor

/-! Trees of keys: the last equations of steps. -/
namespace Go.Proofs.YtlkbhiaoolddmaaDoor
open Go

theorem hd_t {i : Nat} (h : decide (2147483648 ≤ ((i : Nat) : Int)) = true) : hdB i = true := decide_eq_true (by have := of_decide_eq_true h; omega)
theorem hd_f {i : Nat} (h : decide (2147483648 ≤ ((i : Nat) : Int)) = false) : hdB i = false := decide_eq_false (by have := of_decide_eq_false h; omega)
theorem twk_1 {k : Ky} {i : Nat} (h : decide (2147483648 ≤ ((i : Nat) : Int)) = true) : tagN tgH ((hL k.c ++ hL k.s) ++ leB i 4) = twk k i := by unfold twk; rw [if_pos (hd_t h)]
theorem twk_0 {k : Ky} {i : Nat} (h : decide (2147483648 ≤ ((i : Nat) : Int)) = false) : tagN tgS ((hL k.c ++ hL k.p) ++ leB i 4) = twk k i := by unfold twk; rw [hd_f h]; rfl
theorem eqI {x y : Int} (h : (x == y) = true) : x = y := by simpa using h
theorem neI {x y : Int} (h : (x == y) = false) : x ≠ y := by simpa using h
theorem bnI {x : Int} (h : (x == 0) = true) : (x != 0) = false := by rw [eqI h]; rfl
theorem d8_t {k : Ky} (hs : sndB k = true) (h : decide (8 ≤ k.d) = true) : k.d = 8 := by have := snd_get hs; have := of_decide_eq_true h; omega
theorem d8_f {k : Ky} (h : decide (8 ≤ k.d) = false) : k.d ≠ 8 := by have := of_decide_eq_false h; omega
theorem bn_n {x : Int} {b : Bool} (h : (x == 0) = b) : (x != 0) = !b := by unfold bne; rw [h]
theorem pub_ts {x t : Nat} (h : (tsE x t != 0) = false) : (pubE (tsV x t) != 0) = false := by
  have ho := tsE_ok h
  rw [(both ho.1 ho.2).2.2.1]; rfl
theorem pub_ts2 {x t : Nat} (h : (tsE x t != 0) = false) : (pubE (tsV x t) == 0) = true := by
  have ho := tsE_ok h
  rw [(both ho.1 ho.2).2.2.1]; rfl
theorem st_4 {k : Ky} {i : Nat} (h : k.d = 8) : stE k i = 4 ∧ stK k i = Ky.z := by
  have e : stE k i = 4 := if_pos h
  exact ⟨e, by unfold stK; rw [if_neg (by rw [e]; decide)]⟩
theorem st_250 {k : Ky} {i : Nat} (h : k.d ≠ 8) (hh : hdB i = true) (hs : k.s = 0) : stE k i = 250 ∧ stK k i = Ky.z := by
  have e : stE k i = 250 := by unfold stE; rw [if_neg h, if_pos ⟨hh, hs⟩]
  exact ⟨e, by unfold stK; rw [if_neg (by rw [e]; decide)]⟩
theorem st_E {k : Ky} {i : Nat} (h : k.d ≠ 8) (hn : hdB i = false ∨ k.s ≠ 0) : stE k i = if k.s = 0 then twE k.p (twk k i) else tsE k.s (twk k i) := by
  unfold stE
  rw [if_neg h, if_neg (fun q => hn.elim (fun a => by rw [q.1] at a; exact absurd a (by decide)) (fun a => a q.2))]
theorem st_s1 {k : Ky} {i : Nat} (h : k.d ≠ 8) (hn : hdB i = false ∨ k.s ≠ 0) (hs : k.s ≠ 0) (he : tsE k.s (twk k i) ≠ 0) : stE k i = tsE k.s (twk k i) ∧ stK k i = Ky.z := by
  have e : stE k i = tsE k.s (twk k i) := by rw [st_E h hn, if_neg hs]
  exact ⟨e, by unfold stK; rw [if_neg (by rw [e]; exact he)]⟩
theorem st_p1 {k : Ky} {i : Nat} (h : k.d ≠ 8) (hn : hdB i = false ∨ k.s ≠ 0) (hs : k.s = 0) (he : twE k.p (twk k i) ≠ 0) : stE k i = twE k.p (twk k i) ∧ stK k i = Ky.z := by
  have e : stE k i = twE k.p (twk k i) := by rw [st_E h hn, if_pos hs]
  exact ⟨e, by unfold stK; rw [if_neg (by rw [e]; exact he)]⟩
theorem st_s0 {k : Ky} {i : Nat} (h : k.d ≠ 8) (hn : hdB i = false ∨ k.s ≠ 0) (hs : k.s ≠ 0) (he : tsE k.s (twk k i) = 0) : stE k i = 0 ∧ stK k i = ⟨tsV k.s (twk k i), pubV (tsV k.s (twk k i)), hmN k.c (hL (twk k i)), k.d + 1, i, prN k.p⟩ := by
  have e : stE k i = 0 := by rw [st_E h hn, if_neg hs, he]
  exact ⟨e, by unfold stK; rw [if_pos e, if_neg hs, if_neg hs]⟩
theorem st_p0 {k : Ky} {i : Nat} (h : k.d ≠ 8) (hn : hdB i = false ∨ k.s ≠ 0) (hs : k.s = 0) (he : twE k.p (twk k i) = 0) : stE k i = 0 ∧ stK k i = ⟨0, twV k.p (twk k i), hmN k.c (hL (twk k i)), k.d + 1, i, prN k.p⟩ := by
  have e : stE k i = 0 := by rw [st_E h hn, if_pos hs, he]
  exact ⟨e, by unfold stK; rw [if_pos e, if_pos hs, if_pos hs]⟩
theorem ch_yes {k : Ky} {i : Nat} (h : sndB k = true) : chE k i = stE k i ∧ chK k i = stK k i := by unfold chE chK; rw [if_pos h, if_pos h]; exact ⟨rfl, rfl⟩
theorem ch_6 {k : Ky} {i : Nat} (h : sndB k = false) : chE k i = 6 ∧ chK k i = Ky.z := by unfold chE chK; rw [h]; exact ⟨rfl, rfl⟩
theorem ch_4 {k : Ky} {i : Nat} (s : sndB k = true) (h : k.d = 8) : chE k i = 4 ∧ chK k i = Ky.z := by rw [(ch_yes s).1, (ch_yes s).2]; exact st_4 h
theorem ch_250 {k : Ky} {i : Nat} (s : sndB k = true) (h : k.d ≠ 8) (hh : hdB i = true) (hs : k.s = 0) : chE k i = 250 ∧ chK k i = Ky.z := by rw [(ch_yes s).1, (ch_yes s).2]; exact st_250 h hh hs
theorem ch_s1 {k : Ky} {i : Nat} (s : sndB k = true) (h : k.d ≠ 8) (hn : hdB i = false ∨ k.s ≠ 0) (hs : k.s ≠ 0) (he : tsE k.s (twk k i) ≠ 0) : chE k i = tsE k.s (twk k i) ∧ chK k i = Ky.z := by rw [(ch_yes s).1, (ch_yes s).2]; exact st_s1 h hn hs he
theorem ch_p1 {k : Ky} {i : Nat} (s : sndB k = true) (h : k.d ≠ 8) (hn : hdB i = false ∨ k.s ≠ 0) (hs : k.s = 0) (he : twE k.p (twk k i) ≠ 0) : chE k i = twE k.p (twk k i) ∧ chK k i = Ky.z := by rw [(ch_yes s).1, (ch_yes s).2]; exact st_p1 h hn hs he
theorem ch_s0 {k : Ky} {i : Nat} (s : sndB k = true) (h : k.d ≠ 8) (hn : hdB i = false ∨ k.s ≠ 0) (hs : k.s ≠ 0) (he : tsE k.s (twk k i) = 0) : chE k i = 0 ∧ chK k i = ⟨tsV k.s (twk k i), pubV (tsV k.s (twk k i)), hmN k.c (hL (twk k i)), k.d + 1, i, prN k.p⟩ := by rw [(ch_yes s).1, (ch_yes s).2]; exact st_s0 h hn hs he
theorem ch_p0 {k : Ky} {i : Nat} (s : sndB k = true) (h : k.d ≠ 8) (hn : hdB i = false ∨ k.s ≠ 0) (hs : k.s = 0) (he : twE k.p (twk k i) = 0) : chE k i = 0 ∧ chK k i = ⟨0, twV k.p (twk k i), hmN k.c (hL (twk k i)), k.d + 1, i, prN k.p⟩ := by rw [(ch_yes s).1, (ch_yes s).2]; exact st_p0 h hn hs he
/-! ### paths, step by step -/
def nI (ps : List Nat) : List Int := ps.map fun n => ((n : Nat) : Int)
theorem nI_len (ps : List Nat) : (nI ps).length = ps.length := List.length_map _
theorem nI_get (ps : List Nat) (j : Nat) : gI (nI ps) j = ((ps.getD j 0 : Nat) : Int) := by
  unfold gI nI
  rw [List.getD_eq_getElem?_getD, List.getD_eq_getElem?_getD, List.getElem?_map]
  cases ps[j]? <;> rfl
theorem nI_mid (ps : List Nat) (l h : Nat) : midI (nI ps) l h = nI ((ps.take h).drop l) := by
  unfold midI nI
  rw [List.map_drop, List.map_take]
theorem get_all {p : Nat → Prop} {ps : List Nat} (h : ∀ i ∈ ps, p i) (h0 : p 0) (j : Nat) : p (ps.getD j 0) := by
  rw [List.getD_eq_getElem?_getD]
  cases e : ps[j]? with
  | none => exact h0
  | some x => exact h x (List.mem_of_getElem? e)
theorem drop_get {ps : List Nat} {j : Nat} (h : j < ps.length) : ps.drop j = ps.getD j 0 :: ps.drop (j + 1) := by
  rw [List.drop_eq_getElem_cons h, List.getD_eq_getElem?_getD, List.getElem?_eq_getElem h]; rfl
theorem dv_fail {k x : Ky} {ps : List Nat} {j : Nat} (hs : sndB k = true) (hx : sndB x = true) (hj : j < ps.length) (hE : dvE x (ps.drop j) = dvE k ps) (hK : dvK x (ps.drop j) = dvK k ps) (h : (chE x (ps.getD j 0) != 0) = true) : drE k ps = chE x (ps.getD j 0) ∧ drK k ps = Ky.z := by
  have hne : stE x (ps.getD j 0) ≠ 0 := by rw [← (ch_yes hx).1]; simpa using h
  rw [drop_get hj] at hE hK
  simp only [dvE, dvK] at hE hK
  rw [if_neg hne] at hE hK
  unfold drE drK
  rw [if_pos hs, if_pos hs, ← hE, ← hK, (ch_yes hx).1]
  exact ⟨rfl, rfl⟩
theorem dv_next {k x : Ky} {ps : List Nat} {j : Nat} (hx : sndB x = true) (hj : j < ps.length) (hE : dvE x (ps.drop j) = dvE k ps) (hK : dvK x (ps.drop j) = dvK k ps) (h : (chE x (ps.getD j 0) != 0) = false) : sndB (chK x (ps.getD j 0)) = true ∧ dvE (chK x (ps.getD j 0)) (ps.drop (j + 1)) = dvE k ps ∧ dvK (chK x (ps.getD j 0)) (ps.drop (j + 1)) = dvK k ps := by
  have h0 : stE x (ps.getD j 0) = 0 := by rw [← (ch_yes hx).1]; simpa using h
  rw [drop_get hj] at hE hK
  simp only [dvE, dvK] at hE hK
  rw [if_pos h0] at hE hK
  rw [(ch_yes hx).2]
  exact ⟨st_snd hx h0, hE, hK⟩
theorem dv_done {k x : Ky} {ps : List Nat} {j : Nat} (hs : sndB k = true) (hj : ps.length ≤ j) (hE : dvE x (ps.drop j) = dvE k ps) (hK : dvK x (ps.drop j) = dvK k ps) : drE k ps = 0 ∧ drK k ps = x := by
  rw [List.drop_eq_nil_of_le hj] at hE hK
  unfold drE drK
  rw [if_pos hs, if_pos hs, ← hE, ← hK]
  exact ⟨rfl, rfl⟩
theorem dr_6 {k : Ky} {ps : List Nat} (hs : sndB k = false) : drE k ps = 6 ∧ drK k ps = Ky.z := by unfold drE drK; rw [hs]; exact ⟨rfl, rfl⟩
theorem nI_of {zs : List Int} (h : ∀ z ∈ zs, (Lit.int .u32 z).wf = true) : ∃ ps : List Nat, zs = nI ps ∧ ∀ i ∈ ps, i < 4294967296 := by
  have key : ∀ z ∈ zs, 0 ≤ z ∧ z < 4294967296 := by
    intro z hz
    have hw := h z hz
    simp [Lit.wf, IntKind.min, IntKind.max, IntKind.signed, IntKind.bits] at hw
    omega
  refine ⟨zs.map Int.toNat, ?_, ?_⟩
  · unfold nI
    rw [List.map_map]
    conv => lhs; rw [← List.map_id zs]
    apply List.map_congr_left
    intro z hz
    have := key z hz
    show z = ((z.toNat : Nat) : Int)
    omega
  · intro i hi
    obtain ⟨z, hz, rfl⟩ := List.mem_map.1 hi
    have := key z hz
    omega
end Go.Proofs.YtlkbhiaoolddmaaDoor

/-! Terms of descriptors, and key paths, as they lie in memory. -/
namespace Go.Proofs.YtlkbhiaoolddmaaDoor
open Go Go.RowKit

theorem neqH (A B : Nat) (h1 : A < M) (h2 : B < M) (w : World) : (binOp .neq 36 (.agg (hB A)) (.agg (hB B))).run Tryd.prog w = .ok (.bool (!decide (A = B))) w := by
  rw [run_neq_ints (n := 32) (e := 5) Tryd.underlying36 Tryd.underlying5 (by kernel_rfl) (byt A) (byt B) _ _ (hB_get A) (hB_get B) w]
  rw [decide_eq_decide.2 (byt_inj h1 h2)]
def kpV (s p c : Nat) (d i n : Int) (x y : Value) : Array Value := cU s ++ cU p ++ hB c ++ #[.int .i64 d, .int .u32 i, .int .u32 n, x, y]
def tmV (kd m nu : Int) (h : Nat) (x : Value) : Array Value := #[.int .i64 kd, .int .i64 m, .int .u32 nu] ++ hB h ++ #[x]
def KpA.row (p : KpA) : Array Value := kpV p.k.s p.k.p p.k.c p.k.d ((p.k.i : Nat) : Int) ((p.k.n : Nat) : Int) (.slice p.pa (nI p.ps).length p.pc) (.bool p.wd)
def TmA.row (t : TmA) : Array Value := tmV t.kd t.m ((t.nu : Nat) : Int) t.h (.slice t.ka t.ks.length t.kc)
theorem KpA.row_len (p : KpA) : p.row.toList.length = 45 := by simp [KpA.row, kpV, cU, hB_size]
theorem TmA.row_len (t : TmA) : t.row.toList.length = 36 := by simp [TmA.row, tmV, hB_size]
def rng (z : Int) : Prop := -9223372036854775808 ≤ z ∧ z < 9223372036854775808
theorem rng_lit {z : Int} (h : -9223372036854775808 ≤ z ∧ z < 9223372036854775808) : rng z := h
theorem rng_nat {n : Nat} (h : n < 1000000) : rng ((n : Nat) : Int) := by unfold rng; omega
structure KpA.Ok (p : KpA) : Prop where
  k : p.k.Ok
  d : rng p.k.d
  ps : ∀ i ∈ p.ps, i < 4294967296
structure TmA.Ok (t : TmA) : Prop where
  kd : rng t.kd
  m : rng t.m
  nu : t.nu < 4294967296
  h : t.h < M
theorem KpA.ok_d : (default : KpA).Ok := ⟨Ky.z_ok, by unfold rng; exact ⟨by decide, by decide⟩, fun i hi => absurd hi (by simp [default])⟩
theorem TmA.ok_d : (default : TmA).Ok := ⟨by unfold rng; exact ⟨by decide, by decide⟩, by unfold rng; exact ⟨by decide, by decide⟩, by decide, zeroM⟩
def gK (l : List KpA) (i : Nat) : KpA := l.getD i default
def gT (l : List TmA) (i : Nat) : TmA := l.getD i default
theorem getD_mem {α : Type} [Inhabited α] {l : List α} {i : Nat} (h : i < l.length) : l.getD i default ∈ l := by
  rw [List.getD_eq_getElem?_getD, List.getElem?_eq_getElem h]
  exact List.getElem_mem h
theorem gK_mem {l : List KpA} {i : Nat} (h : i < l.length) : gK l i ∈ l := getD_mem h
theorem gT_mem {l : List TmA} {i : Nat} (h : i < l.length) : gT l i ∈ l := getD_mem h
/-- All that is known of a list of terms. -/
def TsOk (ts : List TmA) : Prop := ∀ t ∈ ts, t.Ok ∧ ∀ p ∈ t.ks, p.Ok
def KsOk (ks : List KpA) : Prop := ∀ p ∈ ks, p.Ok
theorem getD_all {α : Type} [Inhabited α] {q : α → Prop} {l : List α} (h : ∀ x ∈ l, q x) (h0 : q default) (i : Nat) : q (l.getD i default) := by
  rw [List.getD_eq_getElem?_getD]
  cases e : l[i]? with
  | none => exact h0
  | some x => exact h x (List.mem_of_getElem? e)
theorem KsOk.gK1 {ks : List KpA} (h : KsOk ks) (j : Nat) : (gK ks j).Ok := getD_all h KpA.ok_d j
theorem TsOk.gT {ts : List TmA} (h : TsOk ts) (i : Nat) : (gT ts i).Ok := (getD_all (q := fun t : TmA => t.Ok ∧ ∀ p ∈ t.ks, p.Ok) h ⟨TmA.ok_d, fun p hp => absurd hp (by simp [default])⟩ i).1
theorem TsOk.gK {ts : List TmA} (h : TsOk ts) (i j : Nat) : (gK (Go.Proofs.YtlkbhiaoolddmaaDoor.gT ts i).ks j).Ok := KsOk.gK1 (getD_all (q := fun t : TmA => t.Ok ∧ ∀ p ∈ t.ks, p.Ok) h ⟨TmA.ok_d, fun p hp => absurd hp (by simp [default])⟩ i).2 j
/-! ### rows of structs -/
section
variable {α : Type} {f : α → List Value} {n : Nat}
theorem fm_len (hf : ∀ x, (f x).length = n) : ∀ l : List α, (l.flatMap f).length = l.length * n
  | [] => by simp
  | x :: r => by
    rw [List.flatMap_cons, List.length_append, hf, fm_len hf r, List.length_cons, Nat.add_mul, Nat.one_mul, Nat.add_comm]
theorem fm_get (hf : ∀ x, (f x).length = n) [Inhabited α] : ∀ (l : List α) (i j : Nat), i < l.length → j < n → (l.flatMap f)[i * n + j]? = (f (l.getD i default))[j]?
  | [], i, _, h, _ => absurd h (by simp)
  | x :: r, 0, j, _, hj => by
    rw [List.flatMap_cons, Nat.zero_mul, Nat.zero_add, List.getElem?_append_left (by rw [hf]; exact hj)]
    rfl
  | x :: r, i + 1, j, h, hj => by
    rw [List.flatMap_cons, List.getElem?_append_right (by rw [hf, Nat.add_mul, Nat.one_mul]; omega), hf, show (i + 1) * n + j - n = i * n + j by rw [Nat.add_mul, Nat.one_mul]; omega, fm_get hf r i j (by simpa using h) hj]
    rfl
end
/-! ### the facts -/
structure KpF (w : World) (a : Option Addr) (c : Nat) (l : List KpA) : Prop where
  le : l.length ≤ c
  max : l.length ≤ 1000000
  rows : Rs w a (l.flatMap fun p => p.row.toList)
  sub : ∀ p ∈ l, Is w .u32 p.pa p.pc (nI p.ps)
  ok : ∀ p ∈ l, p.Ok
structure TmF (w : World) (a : Option Addr) (c : Nat) (l : List TmA) : Prop where
  le : l.length ≤ c
  max : l.length ≤ 1000000
  rows : Rs w a (l.flatMap fun t => t.row.toList)
  sub : ∀ t ∈ l, KpF w t.ka t.kc t.ks
  ok : ∀ t ∈ l, t.Ok
theorem TmF.oks {w : World} {a : Option Addr} {c : Nat} {l : List TmA} (h : TmF w a c l) : TsOk l := fun t ht => ⟨h.ok t ht, (h.sub t ht).ok⟩
theorem TsOk.klen {ts : List TmA} (_ : TsOk ts) {w : World} {a : Option Addr} {c : Nat} (h : TmF w a c ts) (i : Nat) : (Go.Proofs.YtlkbhiaoolddmaaDoor.gT ts i).ks.length ≤ 1000000 :=
  getD_all (q := fun t : TmA => t.ks.length ≤ 1000000) (fun t ht => (h.sub t ht).max) (by decide) i
theorem KpF.nil {w : World} {a : Option Addr} {c : Nat} : KpF w a c [] := ⟨by simp, by simp, Or.inl rfl, by simp, by simp⟩
theorem TmF.nil {w : World} {a : Option Addr} {c : Nat} : TmF w a c [] := ⟨by simp, by simp, Or.inl rfl, by simp, by simp⟩
theorem persAll {α : Type} {T : Nat → Prop} {F : α → World → Prop} {w : World} : ∀ {l : List α}, (∀ x ∈ l, Pers T (F x) w) → Pers T (fun w => ∀ x ∈ l, F x w) w
  | [], _ => persTrue (fun _ x hx => absurd hx (by simp))
  | x :: r, h => ((h x List.mem_cons_self).and (persAll (l := r) (fun y hy => h y (List.mem_cons_of_mem _ hy)))).mono (fun _ hh y hy => by
    rcases List.mem_cons.1 hy with rfl | hy
    · exact hh.1
    · exact hh.2 y hy)
theorem KpF.mkP {T : Nat → Prop} {w : World} {a : Option Addr} {c : Nat} {l : List KpA} (hle : l.length ≤ c) (hmax : l.length ≤ 1000000) (hr : Pers T (fun w => Rs w a (l.flatMap fun p => p.row.toList)) w) (hs : ∀ p ∈ l, Pers T (fun w => Is w .u32 p.pa p.pc (nI p.ps)) w) (ok : ∀ p ∈ l, p.Ok) : Pers T (fun w => KpF w a c l) w :=
  (hr.and (persAll hs)).mono (fun _ h => ⟨hle, hmax, h.1, h.2, ok⟩)
theorem TmF.mkP {T : Nat → Prop} {w : World} {a : Option Addr} {c : Nat} {l : List TmA} (hle : l.length ≤ c) (hmax : l.length ≤ 1000000) (hr : Pers T (fun w => Rs w a (l.flatMap fun p => p.row.toList)) w) (hs : ∀ t ∈ l, Pers T (fun w => KpF w t.ka t.kc t.ks) w) (ok : ∀ t ∈ l, t.Ok) : Pers T (fun w => TmF w a c l) w :=
  (hr.and (persAll hs)).mono (fun _ h => ⟨hle, hmax, h.1, h.2, ok⟩)
theorem apart0 {a : Option Addr} {n : Nat} : Apart (fun _ => False) a n := fun _ _ _ => id
theorem KpF.pers0 {w : World} {a : Option Addr} {c : Nat} {l : List KpA} (h : KpF w a c l) : Pers (fun _ => False) (fun w => KpF w a c l) w :=
  KpF.mkP h.le h.max (h.rows.pers apart0) (fun p hp => (h.sub p hp).pers0) h.ok
theorem TmF.pers0 {w : World} {a : Option Addr} {c : Nat} {l : List TmA} (h : TmF w a c l) : Pers (fun _ => False) (fun w => TmF w a c l) w :=
  TmF.mkP h.le h.max (h.rows.pers apart0) (fun t ht => (h.sub t ht).pers0) h.ok
/-! ### runs -/
section
variable {P : Program} {t e : TypeId}
theorem Rs.some {w : World} {a : Option Addr} {vs : List Value} (h : Rs w a vs) {i : Nat} (hi : i < vs.length) : ∃ p, a = .some p ∧ ∀ i v, vs[i]? = .some v → w.cell? (p.add i) = .some v := by
  rcases h with rfl | h
  · simp at hi
  · exact h
theorem adr_add (p : Addr) (k o : Nat) : adr (some p) (k + o) = some ((p.add k).add o) := by
  unfold adr
  rw [Option.map_some, Addr.add_add]
theorem idx_rs (ht : P.underlying t = some (.slice e)) {sz : Nat} (hs : ∀ w, (sizeOf e).run P w = .ok sz w) {w : World} {a : Option Addr} {c m : Nat} {vs : List Value} {k : IntKind} {z : Int} {j : Nat} (hr : Rs w a vs) (hv : 0 < vs.length) (hz : z = (j : Int)) (hj : j < m) :
    (do pure (Next.value (← Instr.indexAt t (.slice a m c) (.int k z))) : Sem Next).run P w = .ok (.value (.pointer (adr a (j * sz)))) w := by
  subst hz
  obtain ⟨p, rfl, _⟩ := hr.some hv
  have hs := hs w
  simp [Instr.indexAt, asIntOf, Sem.run_bind, run_underlying ht, hj, hs, adr]
theorem fld_rs {s ft : TypeId} {fs : Array Field} {f : Nat} {fd : Field} {o n : Nat} (hu : P.underlying s = some (.struct fs)) (hf : fs[f]? = some fd) (hft : fd.type = ft) (ho : fd.offset = o) (hs : ∀ w, (sizeOf ft).run P w = .ok (n + 1) w) {w : World} {a : Option Addr} {vs : List Value} {k : Nat} (hr : Rs w a vs) (hv : 0 < vs.length) :
    (do pure (Next.value (← Instr.fieldAt s (.pointer (adr a k)) f)) : Sem Next).run P w = .ok (.value (.pointer (adr a (k + o)))) w := by
  subst hft ho
  obtain ⟨p, rfl, _⟩ := hr.some hv
  have hs := hs w
  rw [adr_add]
  simp [Instr.fieldAt, Instr.sureAddr, fieldPlace, Sem.run_bind, run_underlying hu, hf, hs, adr]
theorem ld_rs1 {w : World} {a : Option Addr} {vs : List Value} {k : Nat} {v : Value} (ha : ∀ w, (isAgg e).run P w = .ok false w) (hr : Rs w a vs) (hv : vs[k]? = some v) :
    (do pure (Next.value (← Instr.loadAt e (.pointer (adr a k)))) : Sem Next).run P w = .ok (.value v) w := by
  obtain ⟨p, rfl, hp⟩ := hr.some (List.getElem?_eq_some_iff.1 hv).1
  have hp := hp k v hv
  simp only [adr, Option.map_some, Instr.loadAt, Instr.sureAddr, loadVar, Sem.run_bind, Sem.run_pure, Result.andThen_ok, ha, Bool.false_eq_true, if_false, load, Sem.run, hp]
theorem ld_rsA {w : World} {a : Option Addr} {vs us : List Value} {k n : Nat} (ha : ∀ w, (isAgg e).run P w = .ok true w) (hs : ∀ w, (sizeOf e).run P w = .ok n w) (hr : Rs w a vs) (hn : us.length = n) (h0 : 0 < n) (hv : ∀ j, j < n → vs[k + j]? = us[j]?) :
    (do pure (Next.value (← Instr.loadAt e (.pointer (adr a k)))) : Sem Next).run P w = .ok (.value (.agg us.toArray)) w := by
  have hlt : k < vs.length := by
    have h1 := hv 0 h0
    rw [List.getElem?_eq_getElem (show 0 < us.length by omega)] at h1
    have := (List.getElem?_eq_some_iff.1 h1).1
    omega
  obtain ⟨p, rfl, hp⟩ := hr.some hlt
  have hl := run_loadCells_list (P := P) w (p.add k) us (fun j v hj => by
    rw [Addr.add_add]
    have hj' : j < n := by rw [← hn]; exact (List.getElem?_eq_some_iff.1 hj).1
    exact hp _ _ ((hv j hj').trans hj))
  rw [hn] at hl
  simp only [adr, Option.map_some, Instr.loadAt, Instr.sureAddr, loadVar, Sem.run_bind, Sem.run_pure, Result.andThen_ok, ha, if_true, hs, hl]
end
section
variable {P : Program} {t e : TypeId} {w : World} {a : Option Addr} {c : Nat}
theorem TmF.pos {ts : List TmA} (h : TmF w a c ts) {i : Nat} (hi : i < ts.length) : Rs w a (ts.flatMap fun t => t.row.toList) ∧ 0 < (ts.flatMap fun t => t.row.toList).length := ⟨h.rows, by rw [fm_len TmA.row_len]; omega⟩
theorem KpF.pos {ks : List KpA} (h : KpF w a c ks) {i : Nat} (hi : i < ks.length) : Rs w a (ks.flatMap fun t => t.row.toList) ∧ 0 < (ks.flatMap fun t => t.row.toList).length := ⟨h.rows, by rw [fm_len KpA.row_len]; omega⟩
theorem TmF.idx {ts : List TmA} (ht : P.underlying t = some (.slice e)) (hs : ∀ w, (sizeOf e).run P w = .ok 36 w) {m : Nat} {k : IntKind} {z : Int} {j : Nat} (h : TmF w a c ts) (hm : m = ts.length) (hz : z = (j : Int)) (hj : j < ts.length) :
    (do pure (Next.value (← Instr.indexAt t (.slice a m c) (.int k z))) : Sem Next).run P w = .ok (.value (.pointer (adr a (j * 36)))) w := idx_rs ht hs (h.pos hj).1 (h.pos hj).2 hz (by omega)
theorem KpF.idx {ks : List KpA} (ht : P.underlying t = some (.slice e)) (hs : ∀ w, (sizeOf e).run P w = .ok 45 w) {m : Nat} {k : IntKind} {z : Int} {j : Nat} (h : KpF w a c ks) (hm : m = ks.length) (hz : z = (j : Int)) (hj : j < ks.length) :
    (do pure (Next.value (← Instr.indexAt t (.slice a m c) (.int k z))) : Sem Next).run P w = .ok (.value (.pointer (adr a (j * 45)))) w := idx_rs ht hs (h.pos hj).1 (h.pos hj).2 hz (by omega)
theorem TmF.cell {ts : List TmA} {i j : Nat} {v : Value} (hi : i < ts.length) (hj : j < 36) (hv : (gT ts i).row[j]? = some v) : (ts.flatMap fun t => t.row.toList)[i * 36 + j]? = some v := by
  rw [fm_get TmA.row_len ts i j hi hj, Array.getElem?_toList]; exact hv
theorem KpF.cell {ks : List KpA} {i j : Nat} {v : Value} (hi : i < ks.length) (hj : j < 45) (hv : (gK ks i).row[j]? = some v) : (ks.flatMap fun t => t.row.toList)[i * 45 + j]? = some v := by
  rw [fm_get KpA.row_len ks i j hi hj, Array.getElem?_toList]; exact hv
theorem TmF.ld {ts : List TmA} {i j : Nat} {v : Value} (ha : ∀ w, (isAgg e).run P w = .ok false w) (h : TmF w a c ts) (hi : i < ts.length) (hj : j < 36) (hv : (gT ts i).row[j]? = some v) :
    (do pure (Next.value (← Instr.loadAt e (.pointer (adr a (i * 36 + j))))) : Sem Next).run P w = .ok (.value v) w := ld_rs1 ha h.rows (TmF.cell hi hj hv)
theorem KpF.ld {ks : List KpA} {i j : Nat} {v : Value} (ha : ∀ w, (isAgg e).run P w = .ok false w) (h : KpF w a c ks) (hi : i < ks.length) (hj : j < 45) (hv : (gK ks i).row[j]? = some v) :
    (do pure (Next.value (← Instr.loadAt e (.pointer (adr a (i * 45 + j))))) : Sem Next).run P w = .ok (.value v) w := ld_rs1 ha h.rows (KpF.cell hi hj hv)
theorem TmF.ldA {ts : List TmA} {i : Nat} (ha : ∀ w, (isAgg e).run P w = .ok true w) (hs : ∀ w, (sizeOf e).run P w = .ok 36 w) (h : TmF w a c ts) (hi : i < ts.length) :
    (do pure (Next.value (← Instr.loadAt e (.pointer (adr a (i * 36))))) : Sem Next).run P w = .ok (.value (.agg (gT ts i).row)) w := by
  have h1 := ld_rsA (us := (gT ts i).row.toList) ha hs h.rows (TmA.row_len _) (by decide) (fun j hj => fm_get TmA.row_len ts i j hi hj)
  rw [Array.toArray_toList] at h1; exact h1
theorem KpF.ldA {ks : List KpA} {i : Nat} (ha : ∀ w, (isAgg e).run P w = .ok true w) (hs : ∀ w, (sizeOf e).run P w = .ok 45 w) (h : KpF w a c ks) (hi : i < ks.length) :
    (do pure (Next.value (← Instr.loadAt e (.pointer (adr a (i * 45))))) : Sem Next).run P w = .ok (.value (.agg (gK ks i).row)) w := by
  have h1 := ld_rsA (us := (gK ks i).row.toList) ha hs h.rows (KpA.row_len _) (by decide) (fun j hj => fm_get KpA.row_len ks i j hi hj)
  rw [Array.toArray_toList] at h1; exact h1
end
end Go.Proofs.YtlkbhiaoolddmaaDoor

/-! Descriptors, in plain words: which lists of terms are valid, which are ranged. -/
namespace Go.Proofs.YtlkbhiaoolddmaaDoor
open Go

def kdN (k : Int) : Int := if k = 1 ∨ k = 2 then 0 else if k = 3 ∨ k = 4 ∨ k = 5 then 1 else if k = 6 then 2 else -1
theorem kdN_rng (k : Int) : -1 ≤ kdN k ∧ kdN k ≤ 2 := by unfold kdN; split <;> (try split) <;> (try split) <;> decide
/-- One term and all that belongs to it. -/
def whB : Int → List TmA → Bool
  | m, [] => decide (m = 0)
  | m, t :: r => if m = 0 ∨ kdN t.kd < 0 then false else whB (m + (kdN t.kd - 1)) r
def fdN (kd m : Int) (nu h n : Nat) : Bool :=
  if kd ≠ 2 ∧ m ≠ 0 then false else if (kd ≠ 3 ∧ kd ≠ 4) ∧ nu ≠ 0 then false else if kd ≠ 5 ∧ h ≠ 0 then false else
  if kd = 1 then decide (n = 1) else if kd = 2 then decide (1 ≤ n ∧ n ≤ 15 ∧ 1 ≤ m ∧ m ≤ (n : Int)) else decide (n = 0)
def TmA.fd (t : TmA) : Bool := fdN t.kd t.m t.nu t.h t.ks.length
def KpA.w1 (p : KpA) : Nat := if p.wd = true then 1 else 0
def KpA.vp (p : KpA) : Bool := decide (p.ps.length ≤ 8) && (sndB p.k && (decide (p.k.d + p.ps.length + p.w1 ≤ 8) && (!p.ps.any hdB || decide (p.k.s ≠ 0))))
def vkB (ks : List KpA) : Bool := ks.all KpA.vp
def TmA.vk (t : TmA) : Bool := vkB t.ks
def vlB (ts : List TmA) : Bool := decide (1 ≤ ts.length ∧ ts.length ≤ 8) && (whB 1 ts && (ts.all TmA.fd && ts.all TmA.vk))
def rgK (ks : List KpA) : Bool := ks.any KpA.wd
def TmA.rg (t : TmA) : Bool := rgK t.ks
def rgB (ts : List TmA) : Bool := ts.any TmA.rg
/-! ### loops over lists -/
section
variable {α : Type} [Inhabited α] {f : α → Bool} {l : List α} {i : Nat}
theorem dropD (h : i < l.length) : l.drop i = l.getD i default :: l.drop (i + 1) := by
  rw [List.drop_eq_getElem_cons h, List.getD_eq_getElem?_getD, List.getElem?_eq_getElem h]; rfl
theorem all_next (h : i < l.length) (hf : f (l.getD i default) = true) (hr : (l.drop i).all f = l.all f) : (l.drop (i + 1)).all f = l.all f := by
  rw [dropD h, List.all_cons, hf, Bool.true_and] at hr; exact hr
theorem all_stop (h : i < l.length) (hf : f (l.getD i default) = false) (hr : (l.drop i).all f = l.all f) : l.all f = false := by
  rw [dropD h, List.all_cons, hf, Bool.false_and] at hr; exact hr.symm
theorem any_next (h : i < l.length) (hf : f (l.getD i default) = false) (hr : (l.drop i).any f = l.any f) : (l.drop (i + 1)).any f = l.any f := by
  rw [dropD h, List.any_cons, hf, Bool.false_or] at hr; exact hr
theorem any_stop (h : i < l.length) (hf : f (l.getD i default) = true) (hr : (l.drop i).any f = l.any f) : l.any f = true := by
  rw [dropD h, List.any_cons, hf, Bool.true_or] at hr; exact hr.symm
end
theorem all_end {α : Type} {f : α → Bool} {l : List α} {i : Nat} (h : l.length ≤ i) (hr : (l.drop i).all f = l.all f) : l.all f = true := by
  rw [List.drop_eq_nil_of_le h] at hr; exact hr.symm
theorem any_end {α : Type} {f : α → Bool} {l : List α} {i : Nat} (h : l.length ≤ i) (hr : (l.drop i).any f = l.any f) : l.any f = false := by
  rw [List.drop_eq_nil_of_le h] at hr; exact hr.symm
theorem wh_next {ts : List TmA} {i : Nat} {m : Int} (h : i < ts.length) (h0 : m ≠ 0) (hk : ¬ kdN (gT ts i).kd < 0) (hr : whB m (ts.drop i) = whB 1 ts) : whB (m + (kdN (gT ts i).kd - 1)) (ts.drop (i + 1)) = whB 1 ts := by
  rw [dropD h] at hr
  simp only [whB] at hr
  rw [if_neg (by intro q; rcases q with q | q; exact h0 q; exact hk q)] at hr
  exact hr
theorem wh_stop {ts : List TmA} {i : Nat} {m : Int} (h : i < ts.length) (hk : m = 0 ∨ kdN (gT ts i).kd < 0) (hr : whB m (ts.drop i) = whB 1 ts) : whB 1 ts = false := by
  rw [dropD h] at hr
  simp only [whB] at hr
  have hk' : m = 0 ∨ kdN (ts.getD i default).kd < 0 := hk
  rw [if_pos hk'] at hr
  exact hr.symm
theorem wh_end {ts : List TmA} {i : Nat} {m : Int} (h : ts.length ≤ i) (hr : whB m (ts.drop i) = whB 1 ts) : decide (m = 0) = whB 1 ts := by
  rw [List.drop_eq_nil_of_le h] at hr; exact hr
/-! ### the walks' last equations -/
theorem beq_dec (m : Int) : (m == 0) = decide (m = 0) := by rw [Bool.eq_iff_iff, beq_iff_eq, decide_eq_true_eq]
theorem kd_1 {z : Int} (h : z = 1 ∨ z = 2) : 0 = kdN z := by unfold kdN; rw [if_pos h]
theorem kd_3 {z : Int} (h : z = 3 ∨ z = 4 ∨ z = 5) : 1 = kdN z := by unfold kdN; rw [if_neg (by omega), if_pos h]
theorem kd_6 {z : Int} (h : z = 6) : 2 = kdN z := by unfold kdN; rw [if_neg (by omega), if_neg (by omega), if_pos h]
theorem kd_0 {z : Int} (h : ¬ (1 ≤ z ∧ z ≤ 6)) : -1 = kdN z := by unfold kdN; rw [if_neg (by omega), if_neg (by omega), if_neg (by omega)]
/-- The fields of a kind of terms, as a proposition over numbers. -/
def FdP (kd m : Int) (nu h n : Nat) : Prop := (kd = 2 ∨ m = 0) ∧ (kd = 3 ∨ kd = 4 ∨ nu = 0) ∧ (kd = 5 ∨ h = 0) ∧ (kd = 1 → n = 1) ∧ (kd = 2 → 1 ≤ n ∧ n ≤ 15 ∧ 1 ≤ m ∧ m ≤ (n : Int)) ∧ (kd ≠ 1 → kd ≠ 2 → n = 0)
theorem fd_iff (kd m : Int) (nu h n : Nat) : fdN kd m nu h n = true ↔ FdP kd m nu h n := by
  unfold fdN FdP
  split
  · simp; omega
  · split
    · simp; omega
    · split
      · simp; omega
      · split
        · simp; omega
        · split
          · simp; omega
          · simp; omega
section
variable {kd m : Int} {nu h n : Nat}
theorem fd_t (q : FdP kd m nu h n) : true = fdN kd m nu h n := ((fd_iff kd m nu h n).2 q).symm
theorem fd_f (q : ¬ FdP kd m nu h n) : false = fdN kd m nu h n := (Bool.eq_false_iff.2 (fun e => q ((fd_iff kd m nu h n).1 e))).symm
theorem fd_d {p : Prop} [Decidable p] (q : p ↔ FdP kd m nu h n) : decide p = fdN kd m nu h n := by rw [Bool.eq_iff_iff, decide_eq_true_eq, fd_iff]; exact q
theorem fd_b {x y : Int} (q : x = y ↔ FdP kd m nu h n) : (x == y) = fdN kd m nu h n := by rw [Bool.eq_iff_iff, beq_iff_eq, fd_iff]; exact q
end
theorem bne_t {x y : Int} (h : x ≠ y) : (x != y) = true := by simpa using h
theorem beq_f {x y : Int} (h : x ≠ y) : (x == y) = false := by simpa using h
theorem bneI {x y : Int} (h : (x != y) = true) : x ≠ y := by simpa using h
theorem bneI0 {x y : Int} (h : (x != y) = false) : x = y := by simpa using h
def shB (ts : List TmA) : Bool := whB 1 ts && (decide (1 ≤ ts.length) && decide (ts.length ≤ 8))
section
variable {ts : List TmA} {m : Int} (hw : decide (m = 0) = whB 1 ts)
include hw
theorem sh_0 (h : (m == 0) = false) : false = shB ts := by unfold shB; rw [← hw, ← beq_dec, h]; rfl
theorem sh_2 (h : (m == 0) = true) (h1 : decide (1 ≤ (((ts).length : Nat) : Int)) = true) : decide ((((ts).length : Nat) : Int) ≤ 8) = shB ts := by
  have := of_decide_eq_true h1
  unfold shB; rw [← hw, ← beq_dec, h, decide_eq_true (show 1 ≤ ts.length by omega), Bool.true_and, Bool.true_and, decide_eq_decide]; omega
end
theorem sh_1 {ts : List TmA} {m : Int} (_ : decide (m = 0) = whB 1 ts) (_ : (m == 0) = true) (h1 : decide (1 ≤ (((ts).length : Nat) : Int)) = false) : false = shB ts := by
  have := of_decide_eq_false h1
  unfold shB; rw [decide_eq_false (show ¬ 1 ≤ ts.length by omega), Bool.false_and, Bool.and_false]
theorem vl_a {ts : List TmA} (h : ¬ (1 ≤ ts.length ∧ ts.length ≤ 8)) : false = vlB ts := by unfold vlB; rw [decide_eq_false h]; rfl
theorem vl_b {ts : List TmA} (h : whB 1 ts = false) : false = vlB ts := by unfold vlB; rw [h, Bool.false_and, Bool.and_false]
theorem vl_c {ts : List TmA} (h : ts.all TmA.fd = false) : false = vlB ts := by unfold vlB; rw [h, Bool.false_and, Bool.and_false, Bool.and_false]
theorem vl_d {ts : List TmA} (h : ts.all TmA.vk = false) : false = vlB ts := by unfold vlB; rw [h, Bool.and_false, Bool.and_false, Bool.and_false]
theorem vl_e {ts : List TmA} (h1 : 1 ≤ ts.length ∧ ts.length ≤ 8) (h2 : whB 1 ts = true) (h3 : ts.all TmA.fd = true) (h4 : ts.all TmA.vk = true) : true = vlB ts := by unfold vlB; rw [decide_eq_true h1, h2, h3, h4]; rfl
theorem sh_no {ts : List TmA} (h : shB ts = false) : false = vlB ts := by
  unfold shB at h
  cases e : whB 1 ts
  · exact vl_b e
  · rw [e, Bool.true_and, ← Bool.decide_and] at h; exact vl_a (of_decide_eq_false h)
theorem sh_yes {ts : List TmA} (h : shB ts = true) : (1 ≤ ts.length ∧ ts.length ≤ 8) ∧ whB 1 ts = true := by
  unfold shB at h
  simp only [Bool.and_eq_true, decide_eq_true_eq] at h
  exact ⟨h.2, h.1⟩
theorem w1_t {p : KpA} (h : p.wd = true) : p.w1 = 1 := by unfold KpA.w1; rw [if_pos h]
theorem w1_f {p : KpA} (h : p.wd = false) : p.w1 = 0 := by unfold KpA.w1; rw [h]; rfl
theorem vp_1 {p : KpA} (h : ¬ p.ps.length ≤ 8) : false = p.vp := by unfold KpA.vp; rw [decide_eq_false h]; rfl
theorem vp_2 {p : KpA} (h : sndB p.k = false) : false = p.vp := by unfold KpA.vp; rw [h, Bool.false_and, Bool.and_false]
theorem vp_3 {p : KpA} (h : ¬ p.k.d + p.ps.length + p.w1 ≤ 8) : false = p.vp := by unfold KpA.vp; rw [decide_eq_false h, Bool.false_and, Bool.and_false, Bool.and_false]
theorem vp_4 {p : KpA} (h : p.ps.any hdB = true) (hs : p.k.s = 0) : false = p.vp := by unfold KpA.vp; rw [h, decide_eq_false (not_not_intro hs), Bool.not_true, Bool.or_false, Bool.and_false, Bool.and_false, Bool.and_false]
theorem vp_5 {p : KpA} (h1 : p.ps.length ≤ 8) (h2 : sndB p.k = true) (h3 : p.k.d + p.ps.length + p.w1 ≤ 8) (h : p.ps.any hdB = false ∨ p.k.s ≠ 0) : true = p.vp := by
  unfold KpA.vp
  rw [decide_eq_true h1, h2, decide_eq_true h3]
  rcases h with h | h
  · rw [h]; rfl
  · rw [decide_eq_true h, Bool.or_true]; rfl
theorem hd_dec (x : Nat) : decide (2147483648 ≤ ((x : Nat) : Int)) = hdB x := by unfold hdB; rw [decide_eq_decide]; omega
def ixA : List Nat → Nat → Int
  | [], _ => -1
  | x :: r, i => if hdB x = true then (i : Int) else ixA r (i + 1)
theorem ixA_any : ∀ (ps : List Nat) (i : Nat), decide (0 ≤ ixA ps i) = ps.any hdB
  | [], _ => rfl
  | x :: r, i => by
    rw [ixA, List.any_cons]
    by_cases h : hdB x = true
    · rw [if_pos h, h, Bool.true_or]; exact decide_eq_true (by omega)
    · rw [if_neg h, Bool.eq_false_iff.2 h, Bool.false_or]; exact ixA_any r (i + 1)
theorem ix_next {ps : List Nat} {i : Nat} (h : i < ps.length) (hf : hdB (ps.getD i 0) = false) (hr : ixA (ps.drop i) i = ixA ps 0) : ixA (ps.drop (i + 1)) (i + 1) = ixA ps 0 := by
  rw [drop_get h, ixA, hf] at hr; exact hr
theorem ix_stop {ps : List Nat} {i : Nat} (h : i < ps.length) (hf : hdB (ps.getD i 0) = true) (hr : ixA (ps.drop i) i = ixA ps 0) : (i : Int) = ixA ps 0 := by
  rw [drop_get h, ixA, hf] at hr; exact hr
theorem ix_end {ps : List Nat} {i : Nat} (h : ps.length ≤ i) (hr : ixA (ps.drop i) i = ixA ps 0) : -1 = ixA ps 0 := by
  rw [List.drop_eq_nil_of_le h] at hr; exact hr
theorem pa_next {ps : List Nat} {i : Nat} {f : Nat → Bool} (h : i < ps.length) (hf : f (ps.getD i 0) = false) (hr : (ps.drop i).any f = ps.any f) : (ps.drop (i + 1)).any f = ps.any f := by
  rw [drop_get h, List.any_cons, hf, Bool.false_or] at hr; exact hr
theorem pa_stop {ps : List Nat} {i : Nat} {f : Nat → Bool} (h : i < ps.length) (hf : f (ps.getD i 0) = true) (hr : (ps.drop i).any f = ps.any f) : ps.any f = true := by
  rw [drop_get h, List.any_cons, hf, Bool.true_or] at hr; exact hr.symm
theorem all_endN {ps : List Nat} {i : Nat} {f : Nat → Bool} (h : ps.length ≤ i) (hr : (ps.drop i).any f = ps.any f) : ps.any f = false := any_end h hr
theorem any_and (ps : List Nat) (b : Bool) : (ps.any fun x => hdB x && b) = (ps.any hdB && b) := by
  induction ps with
  | nil => rfl
  | cons x r ih => rw [List.any_cons, List.any_cons, ih]; cases hdB x <;> cases b <;> simp
/-- A hardened step without a secret. -/
def KpA.hf (p : KpA) (x : Nat) : Bool := hdB x && decide (p.k.s = 0)
theorem hf_a {p : KpA} {x : Nat} (h : decide (2147483648 ≤ ((x : Nat) : Int)) = false) : p.hf x = false := by unfold KpA.hf; rw [← hd_dec, h]; rfl
theorem hf_b {p : KpA} {x : Nat} (h : decide (p.k.s = 0) = false) : p.hf x = false := by unfold KpA.hf; rw [h, Bool.and_false]
theorem hf_c {p : KpA} {x : Nat} (h : decide (2147483648 ≤ ((x : Nat) : Int)) = true) (h0 : decide (p.k.s = 0) = true) : p.hf x = true := by unfold KpA.hf; rw [← hd_dec, h, h0]; rfl
theorem vp_6 {p : KpA} (h : p.ps.any p.hf = true) : false = p.vp := by
  rw [show p.ps.any p.hf = p.ps.any (fun x => hdB x && decide (p.k.s = 0)) from rfl, any_and, Bool.and_eq_true] at h
  exact vp_4 h.1 (of_decide_eq_true h.2)
theorem vp_7 {p : KpA} (h : p.ps.any p.hf = false) : p.ps.any hdB = false ∨ p.k.s ≠ 0 := by
  rw [show p.ps.any p.hf = p.ps.any (fun x => hdB x && decide (p.k.s = 0)) from rfl, any_and, Bool.and_eq_false_iff] at h
  exact h.imp id of_decide_eq_false
end Go.Proofs.YtlkbhiaoolddmaaDoor

/-! Descriptors: kinds of terms, whole lists, fields: the walks. -/
namespace Go.Proofs.YtlkbhiaoolddmaaDoor
open Go Go.RowKit

theorem dkids_any (z : Int) (w0 : World) : Calls Tryd.prog 12 #[(.int .i64 z)] w0 (fun ε w' => ε = .returned (.int .i64 (kdN z)) ∧ Below w0.heap.size w0 w') := by
  refine Calls.of_ok (n := 13) (F := (fun _ => True)) Tryd.func12 rfl rfl rfl (by simp) (persTrue (fun _ => trivial)) ?_
  refine sS Tryd.f12 1 [0, 2] [] (fun _ => [(.int .i64 0)]) (fun _ => []) (cR [[]] <| cN) (fun _ => ?_)
  refine ok_seq ?_
  refine sS Tryd.f12 1 [2, 3] [] (fun _ => [(.int .i64 z)]) (fun _ => []) (cR [[]] <| cN) (fun _ => ?_)
  refine ok_block ?_
  refine ok_seq ?_
  refine sS Tryd.f12 2 [2, 3, 4] [] (fun _ => [(.bool (z == 1)), (.bool (z == 1))]) (fun _ => []) (cR [[], []] <| cN) (fun _ => ?_)
  refine oC (z == 1) (fun hb1 => ?_) (fun hb1 => ?_)
  ·
    rw [hb1]
    refine ok_skip ?_
    refine mt_then ?_
    refine oY ?_
    refine sS Tryd.f12 1 [2] [] (fun _ => [(.int .i64 0)]) (fun _ => []) (cR [[]] <| cN) (fun _ => ?_)
    refine ok_ret ?_
    refine mt_block_r ?_
    refine mt_then_r ?_
    exact mR (v := (.int .i64 0)) (fun _ hS => ⟨congrArg (fun x => Ending.returned (.int .i64 x)) (kd_1 (by have := eqI hb1; omega)), hS.bel⟩)
  ·
    rw [hb1]
    refine rS Tryd.f12 2 [2, 3, 4] [] (fun _ => [(.bool (z == 2)), (.bool (z == 2))]) (fun _ => []) (cR [[], []] <| cN) (fun _ => ?_)
    refine mt_then ?_
    refine oC (z == 2) (fun hb2 => ?_) (fun hb2 => ?_)
    ·
      rw [hb2]
      refine sS Tryd.f12 1 [2] [] (fun _ => [(.int .i64 0)]) (fun _ => []) (cR [[]] <| cN) (fun _ => ?_)
      refine ok_ret ?_
      refine mt_block_r ?_
      refine mt_then_r ?_
      exact mR (v := (.int .i64 0)) (fun _ hS => ⟨congrArg (fun x => Ending.returned (.int .i64 x)) (kd_1 (by have := neI hb1; have := eqI hb2; omega)), hS.bel⟩)
    ·
      rw [hb2]
      refine ok_seq ?_
      refine sS Tryd.f12 2 [2, 3, 7] [] (fun _ => [(.bool (z == 3)), (.bool (z == 3))]) (fun _ => []) (cR [[], []] <| cN) (fun _ => ?_)
      refine dRs [(2, (.int .i64 0)), (3, (.int .i64 z)), (7, (.bool (z == 3)))] [] ?_
      refine oC (z == 3) (fun hb3 => ?_) (fun hb3 => ?_)
      ·
        rw [hb3]
        refine ok_skip ?_
        refine mt_then ?_
        refine oY ?_
        refine sS Tryd.f12 1 [2] [] (fun _ => [(.int .i64 1)]) (fun _ => []) (cR [[]] <| cN) (fun _ => ?_)
        refine ok_ret ?_
        refine mt_block_r ?_
        refine mt_then_r ?_
        exact mR (v := (.int .i64 1)) (fun _ hS => ⟨congrArg (fun x => Ending.returned (.int .i64 x)) (kd_3 (by have := neI hb1; have := neI hb2; have := eqI hb3; omega)), hS.bel⟩)
      ·
        rw [hb3]
        refine sS Tryd.f12 2 [2, 3, 7] [] (fun _ => [(.bool (z == 4)), (.bool (z == 4))]) (fun _ => []) (cR [[], []] <| cN) (fun _ => ?_)
        refine oC (z == 4) (fun hb4 => ?_) (fun hb4 => ?_)
        ·
          rw [hb4]
          refine ok_skip ?_
          refine mt_then ?_
          refine oY ?_
          refine sS Tryd.f12 1 [2] [] (fun _ => [(.int .i64 1)]) (fun _ => []) (cR [[]] <| cN) (fun _ => ?_)
          refine ok_ret ?_
          refine mt_block_r ?_
          refine mt_then_r ?_
          exact mR (v := (.int .i64 1)) (fun _ hS => ⟨congrArg (fun x => Ending.returned (.int .i64 x)) (kd_3 (by have := neI hb1; have := neI hb2; have := neI hb3; have := eqI hb4; omega)), hS.bel⟩)
        ·
          rw [hb4]
          refine rS Tryd.f12 2 [2, 3, 7] [] (fun _ => [(.bool (z == 5)), (.bool (z == 5))]) (fun _ => []) (cR [[], []] <| cN) (fun _ => ?_)
          refine mt_then ?_
          refine oC (z == 5) (fun hb5 => ?_) (fun hb5 => ?_)
          ·
            rw [hb5]
            refine sS Tryd.f12 1 [2] [] (fun _ => [(.int .i64 1)]) (fun _ => []) (cR [[]] <| cN) (fun _ => ?_)
            refine ok_ret ?_
            refine mt_block_r ?_
            refine mt_then_r ?_
            exact mR (v := (.int .i64 1)) (fun _ hS => ⟨congrArg (fun x => Ending.returned (.int .i64 x)) (kd_3 (by have := neI hb1; have := neI hb2; have := neI hb3; have := neI hb4; have := eqI hb5; omega)), hS.bel⟩)
          ·
            rw [hb5]
            refine sS Tryd.f12 2 [2, 11] [] (fun _ => [(.bool (z == 6)), (.bool (z == 6))]) (fun _ => []) (cR [[], []] <| cN) (fun _ => ?_)
            refine oC (z == 6) (fun hb6 => ?_) (fun hb6 => ?_)
            ·
              rw [hb6]
              refine sS Tryd.f12 1 [2] [] (fun _ => [(.int .i64 2)]) (fun _ => []) (cR [[]] <| cN) (fun _ => ?_)
              refine ok_ret ?_
              refine mt_block_r ?_
              refine mt_then_r ?_
              exact mR (v := (.int .i64 2)) (fun _ hS => ⟨congrArg (fun x => Ending.returned (.int .i64 x)) (kd_6 (by have := neI hb1; have := neI hb2; have := neI hb3; have := neI hb4; have := neI hb5; have := eqI hb6; omega)), hS.bel⟩)
            ·
              rw [hb6]
              refine ok_skip ?_
              refine mt_block_n ?_
              refine mt_then ?_
              refine sS Tryd.f12 1 [2] [] (fun _ => [(.int .i64 (-1))]) (fun _ => []) (cR [[]] <| cN) (fun _ => ?_)
              refine ok_ret ?_
              exact mR (v := (.int .i64 (-1))) (fun _ hS => ⟨congrArg (fun x => Ending.returned (.int .i64 x)) (kd_0 (by have := neI hb1; have := neI hb2; have := neI hb3; have := neI hb4; have := neI hb5; have := neI hb6; omega)), hS.bel⟩)

theorem rdkids_any (z : Int) (w0 : World) : Calls Tryd.prog 13 #[(.int .i64 z)] w0 (fun ε w' => ε = .returned (.int .i64 (kdN z)) ∧ Below w0.heap.size w0 w') := by
  refine Calls.of_ok (n := 13) (F := (fun _ => True)) Tryd.func13 rfl rfl rfl (by simp) (persTrue (fun _ => trivial)) ?_
  refine sS Tryd.f13 1 [0, 2] [] (fun _ => [(.int .i64 0)]) (fun _ => []) (cR [[]] <| cN) (fun _ => ?_)
  refine ok_seq ?_
  refine sS Tryd.f13 1 [2, 3] [] (fun _ => [(.int .i64 z)]) (fun _ => []) (cR [[]] <| cN) (fun _ => ?_)
  refine ok_block ?_
  refine ok_seq ?_
  refine sS Tryd.f13 2 [2, 3, 4] [] (fun _ => [(.bool (z == 1)), (.bool (z == 1))]) (fun _ => []) (cR [[], []] <| cN) (fun _ => ?_)
  refine oC (z == 1) (fun hb1 => ?_) (fun hb1 => ?_)
  ·
    rw [hb1]
    refine ok_skip ?_
    refine mt_then ?_
    refine oY ?_
    refine sS Tryd.f13 1 [2] [] (fun _ => [(.int .i64 0)]) (fun _ => []) (cR [[]] <| cN) (fun _ => ?_)
    refine ok_ret ?_
    refine mt_block_r ?_
    refine mt_then_r ?_
    exact mR (v := (.int .i64 0)) (fun _ hS => ⟨congrArg (fun x => Ending.returned (.int .i64 x)) (kd_1 (by have := eqI hb1; omega)), hS.bel⟩)
  ·
    rw [hb1]
    refine rS Tryd.f13 2 [2, 3, 4] [] (fun _ => [(.bool (z == 2)), (.bool (z == 2))]) (fun _ => []) (cR [[], []] <| cN) (fun _ => ?_)
    refine mt_then ?_
    refine oC (z == 2) (fun hb2 => ?_) (fun hb2 => ?_)
    ·
      rw [hb2]
      refine sS Tryd.f13 1 [2] [] (fun _ => [(.int .i64 0)]) (fun _ => []) (cR [[]] <| cN) (fun _ => ?_)
      refine ok_ret ?_
      refine mt_block_r ?_
      refine mt_then_r ?_
      exact mR (v := (.int .i64 0)) (fun _ hS => ⟨congrArg (fun x => Ending.returned (.int .i64 x)) (kd_1 (by have := neI hb1; have := eqI hb2; omega)), hS.bel⟩)
    ·
      rw [hb2]
      refine ok_seq ?_
      refine sS Tryd.f13 2 [2, 3, 7] [] (fun _ => [(.bool (z == 3)), (.bool (z == 3))]) (fun _ => []) (cR [[], []] <| cN) (fun _ => ?_)
      refine dRs [(2, (.int .i64 0)), (3, (.int .i64 z)), (7, (.bool (z == 3)))] [] ?_
      refine oC (z == 3) (fun hb3 => ?_) (fun hb3 => ?_)
      ·
        rw [hb3]
        refine ok_skip ?_
        refine mt_then ?_
        refine oY ?_
        refine sS Tryd.f13 1 [2] [] (fun _ => [(.int .i64 1)]) (fun _ => []) (cR [[]] <| cN) (fun _ => ?_)
        refine ok_ret ?_
        refine mt_block_r ?_
        refine mt_then_r ?_
        exact mR (v := (.int .i64 1)) (fun _ hS => ⟨congrArg (fun x => Ending.returned (.int .i64 x)) (kd_3 (by have := neI hb1; have := neI hb2; have := eqI hb3; omega)), hS.bel⟩)
      ·
        rw [hb3]
        refine sS Tryd.f13 2 [2, 3, 7] [] (fun _ => [(.bool (z == 4)), (.bool (z == 4))]) (fun _ => []) (cR [[], []] <| cN) (fun _ => ?_)
        refine oC (z == 4) (fun hb4 => ?_) (fun hb4 => ?_)
        ·
          rw [hb4]
          refine ok_skip ?_
          refine mt_then ?_
          refine oY ?_
          refine sS Tryd.f13 1 [2] [] (fun _ => [(.int .i64 1)]) (fun _ => []) (cR [[]] <| cN) (fun _ => ?_)
          refine ok_ret ?_
          refine mt_block_r ?_
          refine mt_then_r ?_
          exact mR (v := (.int .i64 1)) (fun _ hS => ⟨congrArg (fun x => Ending.returned (.int .i64 x)) (kd_3 (by have := neI hb1; have := neI hb2; have := neI hb3; have := eqI hb4; omega)), hS.bel⟩)
        ·
          rw [hb4]
          refine rS Tryd.f13 2 [2, 3, 7] [] (fun _ => [(.bool (z == 5)), (.bool (z == 5))]) (fun _ => []) (cR [[], []] <| cN) (fun _ => ?_)
          refine mt_then ?_
          refine oC (z == 5) (fun hb5 => ?_) (fun hb5 => ?_)
          ·
            rw [hb5]
            refine sS Tryd.f13 1 [2] [] (fun _ => [(.int .i64 1)]) (fun _ => []) (cR [[]] <| cN) (fun _ => ?_)
            refine ok_ret ?_
            refine mt_block_r ?_
            refine mt_then_r ?_
            exact mR (v := (.int .i64 1)) (fun _ hS => ⟨congrArg (fun x => Ending.returned (.int .i64 x)) (kd_3 (by have := neI hb1; have := neI hb2; have := neI hb3; have := neI hb4; have := eqI hb5; omega)), hS.bel⟩)
          ·
            rw [hb5]
            refine sS Tryd.f13 2 [2, 11] [] (fun _ => [(.bool (z == 6)), (.bool (z == 6))]) (fun _ => []) (cR [[], []] <| cN) (fun _ => ?_)
            refine oC (z == 6) (fun hb6 => ?_) (fun hb6 => ?_)
            ·
              rw [hb6]
              refine sS Tryd.f13 1 [2] [] (fun _ => [(.int .i64 2)]) (fun _ => []) (cR [[]] <| cN) (fun _ => ?_)
              refine ok_ret ?_
              refine mt_block_r ?_
              refine mt_then_r ?_
              exact mR (v := (.int .i64 2)) (fun _ hS => ⟨congrArg (fun x => Ending.returned (.int .i64 x)) (kd_6 (by have := neI hb1; have := neI hb2; have := neI hb3; have := neI hb4; have := neI hb5; have := eqI hb6; omega)), hS.bel⟩)
            ·
              rw [hb6]
              refine ok_skip ?_
              refine mt_block_n ?_
              refine mt_then ?_
              refine sS Tryd.f13 1 [2] [] (fun _ => [(.int .i64 (-1))]) (fun _ => []) (cR [[]] <| cN) (fun _ => ?_)
              refine ok_ret ?_
              exact mR (v := (.int .i64 (-1))) (fun _ hS => ⟨congrArg (fun x => Ending.returned (.int .i64 x)) (kd_0 (by have := neI hb1; have := neI hb2; have := neI hb3; have := neI hb4; have := neI hb5; have := neI hb6; omega)), hS.bel⟩)

theorem dwhole_any (a : Option Addr) (c : Nat) (ts : List TmA) (w0 : World) (hf0 : TmF w0 a c ts) : Calls Tryd.prog 20 #[(.slice a (ts).length c)] w0 (fun ε w' => ε = .returned (.bool (whB 1 ts)) ∧ Below w0.heap.size w0 w') := by
  refine Calls.of_ok (n := 29) (F := (fun w => TmF w a c ts ∧ True)) Tryd.func20 rfl rfl rfl (by simp) (hf0.pers0.and persT) ?_
  have hlen : ts.length ≤ 1000000 := hf0.max
  have ho : TsOk ts := hf0.oks
  refine sS Tryd.f20 1 [0, 2] [] (fun _ => [(.bool false)]) (fun _ => []) (cR [[]] <| cN) (fun _ => ?_)
  refine sS Tryd.f20 1 [0, 2, 3] [] (fun _ => [(.int .i64 1)]) (fun _ => []) (cR [[]] <| cN) (fun _ => ?_)
  refine ok_seq ?_
  refine sS Tryd.f20 3 [2, 3, 7, 8, 9] [] (fun _ => [(.slice a (ts).length c), (.int .i64 (((ts).length : Nat) : Int)), (.int .i64 0)]) (fun _ => []) (cR [[], [], []] <| cN) (fun _ => ?_)
  refine ok_block ?_
  refine oL (σ := Nat × Int) (fun ⟨i, m⟩ => [(3, (.int .i64 m)), (7, (.slice a (ts).length c)), (8, (.int .i64 (((ts).length : Nat) : Int))), (9, (.int .i64 ((i : Nat) : Int)))]) (fun ⟨_, _⟩ => []) (fun ⟨i, _⟩ => ts.length - i)
    (fun ⟨i, m⟩ => (i ≤ ts.length) ∧ (0 ≤ m ∧ m ≤ 1 + (i : Int)) ∧ (whB m (ts.drop i) = whB 1 ts)) (0, 1) (⟨Nat.zero_le _, by decide, rfl⟩) [] ?_
  rintro ⟨i, m⟩ ⟨hi, hm, hr⟩
  change Ok Tryd.prog _ _ 29 [(3, (.int .i64 m)), (7, (.slice a (ts).length c)), (8, (.int .i64 (((ts).length : Nat) : Int))), (9, (.int .i64 ((i : Nat) : Int)))] _ [] (fun w => TmF w a c ts ∧ True)
  refine sS Tryd.f20 1 [3, 7, 8, 9, 10] [] (fun _ => [(.bool (decide (((i : Nat) : Int) < (((ts).length : Nat) : Int))))]) (fun _ => []) (cR [[]] <| cN) (fun _ => ?_)
  refine ok_seq ?_
  refine oC (decide (((i : Nat) : Int) < (((ts).length : Nat) : Int))) (fun hb1 => ?_) (fun hb1 => ?_)
  ·
    rw [hb1]
    refine ok_skip ?_
    refine mt_then ?_
    refine ok_seq ?_
    refine ok_block ?_
    refine sS Tryd.f20 4 [3, 5, 7, 8, 9] [] (fun ρ => [(.pointer (adr a (i * 36))), (.agg (tmV ((gT ts i).kd) ((gT ts i).m) (((gT ts i).nu : Nat) : Int) ((gT ts i).h) (.slice ((gT ts i).ka) ((gT ts i).ks).length ((gT ts i).kc)))), (pt (nb ρ 2)), undef]) (fun ρ => [(2, { news := [(nb ρ 2, (.cells (tmV 0 0 0 0 (.slice none 0 0)) 39 (0, 0)))] }), (3, { puts := [(16, nb ρ 2, (.cells (tmV ((gT ts i).kd) ((gT ts i).m) (((gT ts i).nu : Nat) : Int) ((gT ts i).h) (.slice ((gT ts i).ka) ((gT ts i).ks).length ((gT ts i).kc))) 39 (0, 0)))] })]) (cX (o_semF _ (fun _ => do pure (Next.value (← Instr.indexAt 24 (.slice a (ts).length c) (.int .i64 ((i : Nat) : Int))))) (fun _ => (.pointer (adr a (i * 36)))) (fun _ => (by kernel_rfl)) (fun _ => (by kernel_rfl)) (fun _ _ _ hG => TmF.idx Tryd.underlying24 Tryd.sizeOf39 hG.facts0.now.1 rfl ((show ((i : Nat) : Int) = ((i : Nat) : Int) ∧ i < (ts).length from ⟨rfl, (by have := of_decide_eq_true hb1; have := hlen; have := hi; omega)⟩)).1 ((show ((i : Nat) : Int) = ((i : Nat) : Int) ∧ i < (ts).length from ⟨rfl, (by have := of_decide_eq_true hb1; have := hlen; have := hi; omega)⟩)).2) (fun _ _ _ _ => persT)) <| cX (o_semF _ (fun _ => do pure (Next.value (← Instr.loadAt 39 (.pointer (adr a (i * 36)))))) (fun _ => (.agg (tmV ((gT ts i).kd) ((gT ts i).m) (((gT ts i).nu : Nat) : Int) ((gT ts i).h) (.slice ((gT ts i).ka) ((gT ts i).ks).length ((gT ts i).kc))))) (fun _ => (by kernel_rfl)) (fun _ => (by kernel_rfl)) (fun _ _ _ hG => TmF.ldA (i := i) Tryd.isAgg39 Tryd.sizeOf39 hG.facts0.now.1 ((show ((i : Nat) : Int) = ((i : Nat) : Int) ∧ i < (ts).length from ⟨rfl, (by have := of_decide_eq_true hb1; have := hlen; have := hi; omega)⟩)).2) (fun _ _ _ _ => persT)) <| cR [[], [16]] <| cN) (fun ρ5 => ?_)
    refine sS Tryd.f20 4 [3, 6, 7, 8, 9] [0] (fun _ => [(pt (nb ρ5 2)), (.int .i64 ((gT ts i).kd)), (.int .i64 (kdN (gT ts i).kd)), (.int .i64 (kdN (gT ts i).kd))]) (fun _ => []) (cR [[], [0]] <| cC (fun _ w => dkids_any (gT ts i).kd w) <| cR [[]] <| cN) (fun _ => ?_)
    refine ok_seq ?_
    rcases Bool.eq_false_or_eq_true (m == 0) with hb2 | hb2
    ·
      refine sS Tryd.f20 6 [3, 6, 7, 8, 9, 21] [] (fun _ => [(.int .i64 m), (.bool true), (.bool true), undef, undef, (.bool true)]) (fun _ => []) (cR [[]] <| cA (fun _ => (.bool true)) (fun _ => congrArg Value.bool hb2) <| cR [[], [], [], []] <| cN) (fun _ => ?_)
      refine oY ?_
      refine sS Tryd.f20 1 [2, 3, 6, 7, 8, 9] [] (fun _ => [(.bool false)]) (fun _ => []) (cR [[]] <| cN) (fun _ => ?_)
      refine ok_ret ?_
      refine mt_then_r ?_
      refine mt_block_r ?_
      refine mt_then_r ?_
      refine mt_then_r ?_
      refine mt_block_r ?_
      refine mt_then_r ?_
      exact mR (v := (.bool false)) (fun _ hS => ⟨congrArg (fun x => Ending.returned (.bool x)) ((wh_stop (by have := of_decide_eq_true hb1; have := hlen; have := hi; omega) (Or.inl (eqI hb2)) hr).symm), hS.bel⟩)
    ·
      refine sS Tryd.f20 6 [3, 6, 7, 8, 9, 21] [] (fun _ => [(.int .i64 m), (.bool false), (.bool false), (.int .i64 (kdN (gT ts i).kd)), (.bool (decide ((kdN (gT ts i).kd) < 0))), (.bool (decide ((kdN (gT ts i).kd) < 0)))]) (fun _ => []) (cR [[]] <| cA (fun _ => (.bool false)) (fun _ => congrArg Value.bool hb2) <| cR [[], [], [], []] <| cN) (fun _ => ?_)
      refine oC (decide ((kdN (gT ts i).kd) < 0)) (fun hb3 => ?_) (fun hb3 => ?_)
      ·
        rw [hb3]
        refine sS Tryd.f20 1 [2, 3, 6, 7, 8, 9] [] (fun _ => [(.bool false)]) (fun _ => []) (cR [[]] <| cN) (fun _ => ?_)
        refine ok_ret ?_
        refine mt_then_r ?_
        refine mt_block_r ?_
        refine mt_then_r ?_
        refine mt_then_r ?_
        refine mt_block_r ?_
        refine mt_then_r ?_
        exact mR (v := (.bool false)) (fun _ hS => ⟨congrArg (fun x => Ending.returned (.bool x)) ((wh_stop (by have := of_decide_eq_true hb1; have := of_decide_eq_true hb3; have := hlen; have := hi; omega) (Or.inr (of_decide_eq_true hb3)) hr).symm), hS.bel⟩)
      ·
        rw [hb3]
        refine ok_skip ?_
        refine mt_then ?_
        refine rS Tryd.f20 5 [3, 7, 8, 9] [] (fun _ => [(.int .i64 m), (.int .i64 (kdN (gT ts i).kd)), (.int .i64 (kdN (gT ts i).kd - 1)), (.int .i64 (m + (kdN (gT ts i).kd - 1))), (.int .i64 (m + (kdN (gT ts i).kd - 1)))]) (fun _ => []) (cR [[], []] <| cA (v := fun ρ => (.int .i64 (IntKind.i64.wrap ((kdN (gT ts i).kd) - 1)))) (fun _ => (.int .i64 (kdN (gT ts i).kd - 1))) (fun _ => congrArg (Value.int .i64) (i64N (by have := kdN_rng (gT ts i).kd; omega))) <| cA (v := fun ρ => (.int .i64 (IntKind.i64.wrap (m + (kdN (gT ts i).kd - 1))))) (fun _ => (.int .i64 (m + (kdN (gT ts i).kd - 1)))) (fun _ => congrArg (Value.int .i64) (i64N (by have := kdN_rng (gT ts i).kd; have := hm; have := hi; have := hlen; omega))) <| cR [[]] <| cN) (fun _ => ?_)
        refine mt_block_n ?_
        refine mt_then ?_
        refine rS Tryd.f20 2 [3, 7, 8, 9] [] (fun _ => [(.int .i64 ((i + 1 : Nat) : Int)), (.int .i64 ((i + 1 : Nat) : Int))]) (fun _ => []) (cA (v := fun ρ => (.int .i64 (IntKind.i64.wrap (((i : Nat) : Int) + 1)))) (fun _ => (.int .i64 ((i + 1 : Nat) : Int))) (fun _ => congrArg (Value.int .i64) (wrap_addN i 1 (by have := of_decide_eq_true hb1; have := of_decide_eq_false hb3; have := hlen; have := hi; omega))) <| cR [[]] <| cN) (fun _ => ?_)
        exact mN (i + 1, m + (kdN (gT ts i).kd - 1)) (by show ts.length - (i + 1) < ts.length - i; have := of_decide_eq_true hb1; have := of_decide_eq_false hb3; have := hlen; have := hi; omega) (⟨(by have := of_decide_eq_true hb1; have := of_decide_eq_false hb3; have := hlen; have := hi; omega), by have := kdN_rng (gT ts i).kd; have := hm; have := neI hb2; have := of_decide_eq_false hb3; omega, wh_next (by have := of_decide_eq_true hb1; have := of_decide_eq_false hb3; have := hlen; have := hi; omega) (neI hb2) (of_decide_eq_false hb3) hr⟩) []
  ·
    rw [hb1]
    refine ok_exit ?_
    refine mt_then_e ?_
    refine mt_then_e ?_
    refine mt_block_h ?_
    refine mt_then ?_
    refine sS Tryd.f20 3 [2] [] (fun _ => [(.int .i64 m), (.bool (m == 0)), (.bool (m == 0))]) (fun _ => []) (cR [[], [], []] <| cN) (fun _ => ?_)
    refine ok_ret ?_
    exact mR (v := (.bool (m == 0))) (fun _ hS => ⟨congrArg (fun x => Ending.returned (.bool x)) ((beq_dec m).trans (wh_end (by have := of_decide_eq_false hb1; have := hlen; have := hi; omega) hr)), hS.bel⟩)

theorem rdshaped_any (a : Option Addr) (c : Nat) (ts : List TmA) (w0 : World) (hf0 : TmF w0 a c ts) : Calls Tryd.prog 23 #[(.slice a (ts).length c)] w0 (fun ε w' => ε = .returned (.bool (shB ts)) ∧ Below w0.heap.size w0 w') := by
  refine Calls.of_ok (n := 40) (F := (fun w => TmF w a c ts ∧ True)) Tryd.func23 rfl rfl rfl (by simp) (hf0.pers0.and persT) ?_
  have hlen : ts.length ≤ 1000000 := hf0.max
  have ho : TsOk ts := hf0.oks
  refine sS Tryd.f23 1 [0, 2] [] (fun _ => [(.bool false)]) (fun _ => []) (cR [[]] <| cN) (fun _ => ?_)
  refine sS Tryd.f23 1 [0, 2, 3] [] (fun _ => [(.int .i64 1)]) (fun _ => []) (cR [[]] <| cN) (fun _ => ?_)
  refine ok_seq ?_
  refine sS Tryd.f23 1 [0, 2, 3, 4] [] (fun _ => [(.int .i64 0)]) (fun _ => []) (cR [[]] <| cN) (fun _ => ?_)
  refine ok_block ?_
  refine oL (σ := Nat × Int) (fun ⟨i, m⟩ => [(0, (.slice a (ts).length c)), (3, (.int .i64 m)), (4, (.int .i64 ((i : Nat) : Int)))]) (fun ⟨_, _⟩ => []) (fun ⟨i, _⟩ => ts.length - i)
    (fun ⟨i, m⟩ => (i ≤ ts.length) ∧ (0 ≤ m ∧ m ≤ 1 + (i : Int)) ∧ (whB m (ts.drop i) = whB 1 ts)) (0, 1) (⟨Nat.zero_le _, by decide, rfl⟩) [] ?_
  rintro ⟨i, m⟩ ⟨hi, hm, hr⟩
  change Ok Tryd.prog _ _ 40 [(0, (.slice a (ts).length c)), (3, (.int .i64 m)), (4, (.int .i64 ((i : Nat) : Int)))] _ [] (fun w => TmF w a c ts ∧ True)
  refine ok_seq ?_
  refine sS Tryd.f23 4 [0, 3, 4, 9] [] (fun _ => [(.int .i64 ((i : Nat) : Int)), (.slice a (ts).length c), (.int .i64 (((ts).length : Nat) : Int)), (.bool (decide (((i : Nat) : Int) < (((ts).length : Nat) : Int))))]) (fun _ => []) (cR [[], [], [], []] <| cN) (fun _ => ?_)
  refine oC (decide (((i : Nat) : Int) < (((ts).length : Nat) : Int))) (fun hb1 => ?_) (fun hb1 => ?_)
  ·
    rw [hb1]
    refine ok_skip ?_
    refine mt_then ?_
    refine ok_seq ?_
    refine ok_block ?_
    refine sS Tryd.f23 7 [0, 3, 4, 5] [] (fun _ => [(.slice a (ts).length c), (.int .i64 ((i : Nat) : Int)), (.pointer (adr a (i * 36))), (.pointer (adr a (i * 36))), (.int .i64 ((gT ts i).kd)), (.int .i64 (kdN (gT ts i).kd)), (.int .i64 (kdN (gT ts i).kd))]) (fun _ => []) (cR [[], []] <| cX (o_semF _ (fun _ => do pure (Next.value (← Instr.indexAt 24 (.slice a (ts).length c) (.int .i64 ((i : Nat) : Int))))) (fun _ => (.pointer (adr a (i * 36)))) (fun _ => (by kernel_rfl)) (fun _ => (by kernel_rfl)) (fun _ _ _ hG => TmF.idx Tryd.underlying24 Tryd.sizeOf39 hG.facts0.now.1 rfl ((show ((i : Nat) : Int) = ((i : Nat) : Int) ∧ i < (ts).length from ⟨rfl, (by have := of_decide_eq_true hb1; have := hlen; have := hi; omega)⟩)).1 ((show ((i : Nat) : Int) = ((i : Nat) : Int) ∧ i < (ts).length from ⟨rfl, (by have := of_decide_eq_true hb1; have := hlen; have := hi; omega)⟩)).2) (fun _ _ _ _ => persT)) <| cX (o_semF _ (fun _ => do pure (Next.value (← Instr.fieldAt 39 (.pointer (adr a (i * 36))) 0))) (fun _ => (.pointer (adr a (i * 36)))) (fun _ => (by kernel_rfl)) (fun _ => (by kernel_rfl)) (fun _ _ _ hG => fld_rs (o := 0) (k := i * 36) Tryd.underlying39 rfl rfl rfl Tryd.sizeOf3 (hG.facts0.now.1.pos ((show ((i : Nat) : Int) = ((i : Nat) : Int) ∧ i < (ts).length from ⟨rfl, (by have := of_decide_eq_true hb1; have := hlen; have := hi; omega)⟩)).2).1 (hG.facts0.now.1.pos ((show ((i : Nat) : Int) = ((i : Nat) : Int) ∧ i < (ts).length from ⟨rfl, (by have := of_decide_eq_true hb1; have := hlen; have := hi; omega)⟩)).2).2) (fun _ _ _ _ => persT)) <| cX (o_semF _ (fun _ => do pure (Next.value (← Instr.loadAt 3 (.pointer (adr a (i * 36)))))) (fun _ => (.int .i64 ((gT ts i).kd))) (fun _ => (by kernel_rfl)) (fun _ => (by kernel_rfl)) (fun _ _ _ hG => TmF.ld (i := i) (j := 0) Tryd.isAgg3 hG.facts0.now.1 ((show ((i : Nat) : Int) = ((i : Nat) : Int) ∧ i < (ts).length from ⟨rfl, (by have := of_decide_eq_true hb1; have := hlen; have := hi; omega)⟩)).2 (by decide) (by kernel_rfl)) (fun _ _ _ _ => persT)) <| cC (fun _ w => rdkids_any (gT ts i).kd w) <| cR [[]] <| cN) (fun _ => ?_)
    refine ok_seq ?_
    rcases Bool.eq_false_or_eq_true (decide ((kdN (gT ts i).kd) < 0)) with hb2 | hb2
    ·
      refine sS Tryd.f23 6 [0, 3, 4, 5, 23] [] (fun _ => [(.int .i64 (kdN (gT ts i).kd)), (.bool true), (.bool true), undef, undef, (.bool true)]) (fun _ => []) (cR [[]] <| cA (fun _ => (.bool true)) (fun _ => congrArg Value.bool hb2) <| cR [[], [], [], []] <| cN) (fun _ => ?_)
      refine oY ?_
      refine sS Tryd.f23 1 [0, 2, 3, 4, 5] [] (fun _ => [(.bool false)]) (fun _ => []) (cR [[]] <| cN) (fun _ => ?_)
      refine ok_ret ?_
      refine mt_then_r ?_
      refine mt_block_r ?_
      refine mt_then_r ?_
      refine mt_then_r ?_
      refine mt_block_r ?_
      refine mt_then_r ?_
      exact mR (v := (.bool false)) (fun _ hS => ⟨congrArg (fun x => Ending.returned (.bool x)) ((show false = shB ts by unfold shB; rw [wh_stop (by have := of_decide_eq_true hb1; have := of_decide_eq_true hb2; have := hlen; have := hi; omega) (Or.inr (of_decide_eq_true hb2)) hr]; rfl)), hS.bel⟩)
    ·
      refine sS Tryd.f23 6 [0, 3, 4, 5, 23] [] (fun _ => [(.int .i64 (kdN (gT ts i).kd)), (.bool false), (.bool false), (.int .i64 m), (.bool (m == 0)), (.bool (m == 0))]) (fun _ => []) (cR [[]] <| cA (fun _ => (.bool false)) (fun _ => congrArg Value.bool hb2) <| cR [[], [], [], []] <| cN) (fun _ => ?_)
      refine oC (m == 0) (fun hb3 => ?_) (fun hb3 => ?_)
      ·
        rw [hb3]
        refine sS Tryd.f23 1 [0, 2, 3, 4, 5] [] (fun _ => [(.bool false)]) (fun _ => []) (cR [[]] <| cN) (fun _ => ?_)
        refine ok_ret ?_
        refine mt_then_r ?_
        refine mt_block_r ?_
        refine mt_then_r ?_
        refine mt_then_r ?_
        refine mt_block_r ?_
        refine mt_then_r ?_
        exact mR (v := (.bool false)) (fun _ hS => ⟨congrArg (fun x => Ending.returned (.bool x)) ((show false = shB ts by unfold shB; rw [wh_stop (by have := of_decide_eq_true hb1; have := of_decide_eq_false hb2; have := hlen; have := hi; omega) (Or.inl (eqI hb3)) hr]; rfl)), hS.bel⟩)
      ·
        rw [hb3]
        refine ok_skip ?_
        refine mt_then ?_
        refine rS Tryd.f23 5 [0, 3, 4] [] (fun _ => [(.int .i64 m), (.int .i64 (m - 1)), (.int .i64 (kdN (gT ts i).kd)), (.int .i64 (m + (kdN (gT ts i).kd - 1))), (.int .i64 (m + (kdN (gT ts i).kd - 1)))]) (fun _ => []) (cR [[]] <| cA (v := fun ρ => (.int .i64 (IntKind.i64.wrap (m - 1)))) (fun _ => (.int .i64 (m - 1))) (fun _ => congrArg (Value.int .i64) (i64N (by have := hm; have := hi; have := hlen; omega))) <| cR [[]] <| cA (v := fun ρ => (.int .i64 (IntKind.i64.wrap ((m - 1) + (kdN (gT ts i).kd))))) (fun _ => (.int .i64 (m + (kdN (gT ts i).kd - 1)))) (fun _ => congrArg (Value.int .i64) ((i64N (by have := kdN_rng (gT ts i).kd; have := hm; have := hi; have := hlen; omega)).trans (by omega))) <| cR [[]] <| cN) (fun _ => ?_)
        refine mt_block_n ?_
        refine mt_then ?_
        refine rS Tryd.f23 3 [0, 3, 4] [] (fun _ => [(.int .i64 ((i : Nat) : Int)), (.int .i64 ((i + 1 : Nat) : Int)), (.int .i64 ((i + 1 : Nat) : Int))]) (fun _ => []) (cR [[]] <| cA (v := fun ρ => (.int .i64 (IntKind.i64.wrap (((i : Nat) : Int) + 1)))) (fun _ => (.int .i64 ((i + 1 : Nat) : Int))) (fun _ => congrArg (Value.int .i64) (wrap_addN i 1 (by have := of_decide_eq_true hb1; have := of_decide_eq_false hb2; have := hlen; have := hi; omega))) <| cR [[]] <| cN) (fun _ => ?_)
        exact mN (i + 1, m + (kdN (gT ts i).kd - 1)) (by show ts.length - (i + 1) < ts.length - i; have := of_decide_eq_true hb1; have := of_decide_eq_false hb2; have := hlen; have := hi; omega) (⟨(by have := of_decide_eq_true hb1; have := of_decide_eq_false hb2; have := hlen; have := hi; omega), by have := kdN_rng (gT ts i).kd; have := hm; have := neI hb3; have := of_decide_eq_false hb2; omega, wh_next (by have := of_decide_eq_true hb1; have := of_decide_eq_false hb2; have := hlen; have := hi; omega) (neI hb3) (of_decide_eq_false hb2) hr⟩) []
  ·
    rw [hb1]
    refine ok_exit ?_
    refine mt_then_e ?_
    refine mt_then_e ?_
    refine mt_block_h ?_
    refine mt_then ?_
    rcases Bool.eq_false_or_eq_true (m == 0) with hb4 | hb4
    ·
      rcases Bool.eq_false_or_eq_true (decide (1 ≤ (((ts).length : Nat) : Int))) with hb5 | hb5
      ·
        refine sS Tryd.f23 13 [2] [] (fun _ => [(.int .i64 m), (.bool true), (.bool true), (.slice a (ts).length c), (.int .i64 (((ts).length : Nat) : Int)), (.bool true), (.bool true), (.bool true), (.slice a (ts).length c), (.int .i64 (((ts).length : Nat) : Int)), (.bool (decide ((((ts).length : Nat) : Int) ≤ 8))), (.bool (decide ((((ts).length : Nat) : Int) ≤ 8))), (.bool (decide ((((ts).length : Nat) : Int) ≤ 8)))]) (fun _ => []) (cR [[]] <| cA (fun _ => (.bool true)) (fun _ => congrArg Value.bool hb4) <| cR [[], [], []] <| cA (fun _ => (.bool true)) (fun _ => congrArg Value.bool hb5) <| cR [[], [], [], [], [], [], []] <| cN) (fun _ => ?_)
        refine ok_ret ?_
        exact mR (v := (.bool (decide ((((ts).length : Nat) : Int) ≤ 8)))) (fun _ hS => ⟨congrArg (fun x => Ending.returned (.bool x)) (sh_2 (wh_end (by have := of_decide_eq_false hb1; have := of_decide_eq_true hb5; have := hlen; have := hi; omega) hr) hb4 hb5), hS.bel⟩)
      ·
        refine sS Tryd.f23 13 [2] [] (fun _ => [(.int .i64 m), (.bool true), (.bool true), (.slice a (ts).length c), (.int .i64 (((ts).length : Nat) : Int)), (.bool false), (.bool false), (.bool false), undef, undef, undef, (.bool false), (.bool false)]) (fun _ => []) (cR [[]] <| cA (fun _ => (.bool true)) (fun _ => congrArg Value.bool hb4) <| cR [[], [], []] <| cA (fun _ => (.bool false)) (fun _ => congrArg Value.bool hb5) <| cR [[], [], [], [], [], [], []] <| cN) (fun _ => ?_)
        refine ok_ret ?_
        exact mR (v := (.bool false)) (fun _ hS => ⟨congrArg (fun x => Ending.returned (.bool x)) (sh_1 (wh_end (by have := of_decide_eq_false hb1; have := of_decide_eq_false hb5; have := hlen; have := hi; omega) hr) hb4 hb5), hS.bel⟩)
    ·
      refine sS Tryd.f23 13 [2] [] (fun _ => [(.int .i64 m), (.bool false), (.bool false), undef, undef, undef, (.bool false), (.bool false), undef, undef, undef, (.bool false), (.bool false)]) (fun _ => []) (cR [[]] <| cA (fun _ => (.bool false)) (fun _ => congrArg Value.bool hb4) <| cR [[], [], [], [], [], [], [], [], [], [], []] <| cN) (fun _ => ?_)
      refine ok_ret ?_
      exact mR (v := (.bool false)) (fun _ hS => ⟨congrArg (fun x => Ending.returned (.bool x)) (sh_0 (wh_end (by have := of_decide_eq_false hb1; have := hlen; have := hi; omega) hr) hb4), hS.bel⟩)

theorem dfields_any (kd : Int) (m : Int) (nu : Nat) (h : Nat) (ka : Option Addr) (kc : Nat) (ks : List KpA) (hh : h < M) (w0 : World) : Calls Tryd.prog 21 #[(.agg (tmV kd m ((nu : Nat) : Int) h (.slice ka (ks).length kc)))] w0 (fun ε w' => ε = .returned (.bool (fdN kd m nu h (ks).length)) ∧ Below w0.heap.size w0 w') := by
  refine Calls.of_ok (n := 70) (F := (fun _ => True)) Tryd.func21 rfl rfl rfl (by simp) (persTrue (fun _ => trivial)) ?_
  refine sS Tryd.f21 2 [1, 2] [] (fun ρ => [(pt (nb ρ 0)), (.bool false)]) (fun ρ => [(0, { news := [(nb ρ 0, (.cells (tmV kd m ((nu : Nat) : Int) h (.slice ka (ks).length kc)) 39 (0, 0)))] })]) (cR [[], []] <| cN) (fun ρ1 => ?_)
  refine ok_seq ?_
  rcases Bool.eq_false_or_eq_true (kd != 2) with hb1 | hb1
  ·
    refine sS Tryd.f21 8 [1, 2, 10] [] (fun _ => [(pt (nb ρ1 0)), (.int .i64 kd), (.bool true), (.bool true), (.pointer (some ⟨nb ρ1 0, 1, none⟩)), (.int .i64 m), (.bool (m != 0)), (.bool (m != 0))]) (fun _ => []) (cR [[], [0]] <| cA (fun _ => (.bool true)) (fun _ => congrArg Value.bool hb1) <| cR [[], [], [0], [], []] <| cN) (fun _ => ?_)
    refine oC (m != 0) (fun hb2 => ?_) (fun hb2 => ?_)
    ·
      rw [hb2]
      refine sS Tryd.f21 1 [1, 2] [] (fun _ => [(.bool false)]) (fun _ => []) (cR [[]] <| cN) (fun _ => ?_)
      refine ok_ret ?_
      refine mt_then_r ?_
      exact mR (v := (.bool false)) (fun _ hS => ⟨congrArg (fun x => Ending.returned (.bool x)) ((fd_f (by have := bneI hb1; have := bneI hb2; unfold FdP; omega))), hS.bel⟩)
    ·
      rw [hb2]
      refine ok_skip ?_
      refine mt_then ?_
      refine ok_seq ?_
      rcases Bool.eq_false_or_eq_true (kd != 3) with hb3 | hb3
      ·
        rcases Bool.eq_false_or_eq_true (kd != 4) with hb4 | hb4
        ·
          refine sS Tryd.f21 13 [1, 2, 23] [] (fun _ => [(pt (nb ρ1 0)), (.int .i64 kd), (.bool true), (.bool true), (pt (nb ρ1 0)), (.int .i64 kd), (.bool true), (.bool true), (.bool true), (.pointer (some ⟨nb ρ1 0, 2, none⟩)), (.int .u32 ((nu : Nat) : Int)), (.bool (((nu : Nat) : Int) != 0)), (.bool (((nu : Nat) : Int) != 0))]) (fun _ => []) (cR [[], [0]] <| cA (fun _ => (.bool true)) (fun _ => congrArg Value.bool hb3) <| cR [[], [], [0]] <| cA (fun _ => (.bool true)) (fun _ => congrArg Value.bool hb4) <| cR [[], [], [], [0], [], []] <| cN) (fun _ => ?_)
          refine oC (((nu : Nat) : Int) != 0) (fun hb5 => ?_) (fun hb5 => ?_)
          ·
            rw [hb5]
            refine sS Tryd.f21 1 [1, 2] [] (fun _ => [(.bool false)]) (fun _ => []) (cR [[]] <| cN) (fun _ => ?_)
            refine ok_ret ?_
            refine mt_then_r ?_
            exact mR (v := (.bool false)) (fun _ hS => ⟨congrArg (fun x => Ending.returned (.bool x)) ((fd_f (by have := bneI hb1; have := bneI0 hb2; have := bneI hb3; have := bneI hb4; have := bneI hb5; unfold FdP; omega))), hS.bel⟩)
          ·
            rw [hb5]
            refine ok_skip ?_
            refine mt_then ?_
            refine ok_seq ?_
            rcases Bool.eq_false_or_eq_true (kd != 5) with hb6 | hb6
            ·
              refine sS Tryd.f21 9 [1, 2, 32] [] (fun _ => [(pt (nb ρ1 0)), (.int .i64 kd), (.bool true), (.bool true), (.pointer (some ⟨nb ρ1 0, 3, none⟩)), (.agg (hB h)), (.agg (hB 0)), (.bool (!decide (h = 0))), (.bool (!decide (h = 0)))]) (fun _ => []) (cR [[], [0]] <| cA (fun _ => (.bool true)) (fun _ => congrArg Value.bool hb6) <| cR [[], [], [0], []] <| cB (a := fun ρ => (.agg (hB h))) (b := fun ρ => (.agg (hB 0))) (v := fun ρ => (.bool (!decide (h = 0)))) .neq 36 (fun _ _ => neqH h 0 hh (by decide +kernel) _) <| cR [[]] <| cN) (fun _ => ?_)
              refine oC (!decide (h = 0)) (fun hb7 => ?_) (fun hb7 => ?_)
              ·
                rw [hb7]
                refine sS Tryd.f21 1 [1, 2] [] (fun _ => [(.bool false)]) (fun _ => []) (cR [[]] <| cN) (fun _ => ?_)
                refine ok_ret ?_
                refine mt_then_r ?_
                exact mR (v := (.bool false)) (fun _ hS => ⟨congrArg (fun x => Ending.returned (.bool x)) ((fd_f (by have := bneI hb1; have := bneI0 hb2; have := bneI hb3; have := bneI hb4; have := bneI0 hb5; have := bneI hb6; have := of_decide_eq_false (not_t hb7); unfold FdP; omega))), hS.bel⟩)
              ·
                rw [hb7]
                refine ok_skip ?_
                refine mt_then ?_
                refine ok_seq ?_
                refine sS Tryd.f21 2 [1, 2, 34] [] (fun _ => [(pt (nb ρ1 0)), (.int .i64 kd)]) (fun _ => []) (cR [[], [0]] <| cN) (fun _ => ?_)
                refine dRs [(1, (pt (nb ρ1 0))), (2, (.bool false)), (34, (.int .i64 kd))] [(nb ρ1 0, (.cells (tmV kd m ((nu : Nat) : Int) h (.slice ka (ks).length kc)) 39 (0, 0)))] ?_
                refine ok_block ?_
                refine sS Tryd.f21 2 [1, 2, 34, 35] [] (fun _ => [(.bool (kd == 1)), (.bool (kd == 1))]) (fun _ => []) (cR [[], []] <| cN) (fun _ => ?_)
                refine oC (kd == 1) (fun hb8 => ?_) (fun hb8 => ?_)
                ·
                  rw [hb8]
                  refine sS Tryd.f21 5 [1, 2] [] (fun _ => [(.pointer (some ⟨nb ρ1 0, 35, none⟩)), (.slice ka (ks).length kc), (.int .i64 (((ks).length : Nat) : Int)), (.bool ((((ks).length : Nat) : Int) == 1)), (.bool ((((ks).length : Nat) : Int) == 1))]) (fun _ => []) (cR [[], [0], [], [], []] <| cN) (fun _ => ?_)
                  refine ok_ret ?_
                  refine mt_block_r ?_
                  refine mt_then_r ?_
                  exact mR (v := (.bool ((((ks).length : Nat) : Int) == 1))) (fun _ hS => ⟨congrArg (fun x => Ending.returned (.bool x)) ((fd_b (by have := bneI hb1; have := bneI0 hb2; have := bneI hb3; have := bneI hb4; have := bneI0 hb5; have := bneI hb6; have := of_decide_eq_true (not_f hb7); have := eqI hb8; unfold FdP; omega))), hS.bel⟩)
                ·
                  rw [hb8]
                  refine sS Tryd.f21 2 [1, 2, 41] [] (fun _ => [(.bool false), (.bool false)]) (fun _ => []) (cA (fun _ => (.bool false)) (fun _ => congrArg Value.bool (beq_f (bneI hb1))) <| cR [[]] <| cN) (fun _ => ?_)
                  refine oN ?_
                  refine ok_skip ?_
                  refine mt_block_n ?_
                  refine mt_then ?_
                  refine sS Tryd.f21 5 [2] [0] (fun _ => [(.pointer (some ⟨nb ρ1 0, 35, none⟩)), (.slice ka (ks).length kc), (.int .i64 (((ks).length : Nat) : Int)), (.bool ((((ks).length : Nat) : Int) == 0)), (.bool ((((ks).length : Nat) : Int) == 0))]) (fun _ => []) (cR [[], [0], [], [], []] <| cN) (fun _ => ?_)
                  refine ok_ret ?_
                  exact mR (v := (.bool ((((ks).length : Nat) : Int) == 0))) (fun _ hS => ⟨congrArg (fun x => Ending.returned (.bool x)) ((fd_b (by have := bneI hb1; have := bneI0 hb2; have := bneI hb3; have := bneI hb4; have := bneI0 hb5; have := bneI hb6; have := of_decide_eq_true (not_f hb7); have := neI hb8; unfold FdP; omega))), hS.bel⟩)
            ·
              refine sS Tryd.f21 9 [1, 2, 32] [] (fun _ => [(pt (nb ρ1 0)), (.int .i64 kd), (.bool false), (.bool false), undef, undef, undef, undef, (.bool false)]) (fun _ => []) (cR [[], [0]] <| cA (fun _ => (.bool false)) (fun _ => congrArg Value.bool hb6) <| cR [[], [], [], [], [], []] <| cN) (fun _ => ?_)
              refine oN ?_
              refine ok_skip ?_
              refine mt_then ?_
              refine ok_seq ?_
              refine sS Tryd.f21 2 [1, 2, 34] [] (fun _ => [(pt (nb ρ1 0)), (.int .i64 kd)]) (fun _ => []) (cR [[], [0]] <| cN) (fun _ => ?_)
              refine dRs [(1, (pt (nb ρ1 0))), (2, (.bool false)), (34, (.int .i64 kd))] [(nb ρ1 0, (.cells (tmV kd m ((nu : Nat) : Int) h (.slice ka (ks).length kc)) 39 (0, 0)))] ?_
              refine ok_block ?_
              refine sS Tryd.f21 2 [1, 2, 34, 35] [] (fun _ => [(.bool false), (.bool false)]) (fun _ => []) (cA (v := fun ρ => (.bool (kd == 1))) (fun _ => (.bool false)) (fun _ => congrArg Value.bool (show (kd == 1) = false by rw [bneI0 hb6]; rfl)) <| cR [[]] <| cN) (fun _ => ?_)
              refine oN ?_
              refine sS Tryd.f21 2 [1, 2, 41] [] (fun _ => [(.bool false), (.bool false)]) (fun _ => []) (cA (v := fun ρ => (.bool (kd == 2))) (fun _ => (.bool false)) (fun _ => congrArg Value.bool (show (kd == 2) = false by rw [bneI0 hb6]; rfl)) <| cR [[]] <| cN) (fun _ => ?_)
              refine oN ?_
              refine ok_skip ?_
              refine mt_block_n ?_
              refine mt_then ?_
              refine sS Tryd.f21 5 [2] [0] (fun _ => [(.pointer (some ⟨nb ρ1 0, 35, none⟩)), (.slice ka (ks).length kc), (.int .i64 (((ks).length : Nat) : Int)), (.bool ((((ks).length : Nat) : Int) == 0)), (.bool ((((ks).length : Nat) : Int) == 0))]) (fun _ => []) (cR [[], [0], [], [], []] <| cN) (fun _ => ?_)
              refine ok_ret ?_
              exact mR (v := (.bool ((((ks).length : Nat) : Int) == 0))) (fun _ hS => ⟨congrArg (fun x => Ending.returned (.bool x)) ((fd_b (by have := bneI hb1; have := bneI0 hb2; have := bneI hb3; have := bneI hb4; have := bneI0 hb5; have := bneI0 hb6; unfold FdP; omega))), hS.bel⟩)
        ·
          refine sS Tryd.f21 13 [1, 2, 23] [] (fun _ => [(pt (nb ρ1 0)), (.int .i64 kd), (.bool true), (.bool true), (pt (nb ρ1 0)), (.int .i64 kd), (.bool false), (.bool false), (.bool false), undef, undef, undef, (.bool false)]) (fun _ => []) (cR [[], [0]] <| cA (fun _ => (.bool true)) (fun _ => congrArg Value.bool hb3) <| cR [[], [], [0]] <| cA (fun _ => (.bool false)) (fun _ => congrArg Value.bool hb4) <| cR [[], [], [], [], [], []] <| cN) (fun _ => ?_)
          refine oN ?_
          refine ok_skip ?_
          refine mt_then ?_
          refine ok_seq ?_
          refine sS Tryd.f21 9 [1, 2, 32] [] (fun _ => [(pt (nb ρ1 0)), (.int .i64 kd), (.bool true), (.bool true), (.pointer (some ⟨nb ρ1 0, 3, none⟩)), (.agg (hB h)), (.agg (hB 0)), (.bool (!decide (h = 0))), (.bool (!decide (h = 0)))]) (fun _ => []) (cR [[], [0]] <| cA (v := fun ρ => (.bool (kd != 5))) (fun _ => (.bool true)) (fun _ => congrArg Value.bool (show (kd != 5) = true by rw [bneI0 hb4]; rfl)) <| cR [[], [], [0], []] <| cB (a := fun ρ => (.agg (hB h))) (b := fun ρ => (.agg (hB 0))) (v := fun ρ => (.bool (!decide (h = 0)))) .neq 36 (fun _ _ => neqH h 0 hh (by decide +kernel) _) <| cR [[]] <| cN) (fun _ => ?_)
          refine oC (!decide (h = 0)) (fun hb9 => ?_) (fun hb9 => ?_)
          ·
            rw [hb9]
            refine sS Tryd.f21 1 [1, 2] [] (fun _ => [(.bool false)]) (fun _ => []) (cR [[]] <| cN) (fun _ => ?_)
            refine ok_ret ?_
            refine mt_then_r ?_
            exact mR (v := (.bool false)) (fun _ hS => ⟨congrArg (fun x => Ending.returned (.bool x)) ((fd_f (by have := bneI hb1; have := bneI0 hb2; have := bneI hb3; have := bneI0 hb4; have := of_decide_eq_false (not_t hb9); unfold FdP; omega))), hS.bel⟩)
          ·
            rw [hb9]
            refine ok_skip ?_
            refine mt_then ?_
            refine ok_seq ?_
            refine sS Tryd.f21 2 [1, 2, 34] [] (fun _ => [(pt (nb ρ1 0)), (.int .i64 kd)]) (fun _ => []) (cR [[], [0]] <| cN) (fun _ => ?_)
            refine dRs [(1, (pt (nb ρ1 0))), (2, (.bool false)), (34, (.int .i64 kd))] [(nb ρ1 0, (.cells (tmV kd m ((nu : Nat) : Int) h (.slice ka (ks).length kc)) 39 (0, 0)))] ?_
            refine ok_block ?_
            refine sS Tryd.f21 2 [1, 2, 34, 35] [] (fun _ => [(.bool false), (.bool false)]) (fun _ => []) (cA (v := fun ρ => (.bool (kd == 1))) (fun _ => (.bool false)) (fun _ => congrArg Value.bool (show (kd == 1) = false by rw [bneI0 hb4]; rfl)) <| cR [[]] <| cN) (fun _ => ?_)
            refine oN ?_
            refine sS Tryd.f21 2 [1, 2, 41] [] (fun _ => [(.bool false), (.bool false)]) (fun _ => []) (cA (v := fun ρ => (.bool (kd == 2))) (fun _ => (.bool false)) (fun _ => congrArg Value.bool (show (kd == 2) = false by rw [bneI0 hb4]; rfl)) <| cR [[]] <| cN) (fun _ => ?_)
            refine oN ?_
            refine ok_skip ?_
            refine mt_block_n ?_
            refine mt_then ?_
            refine sS Tryd.f21 5 [2] [0] (fun _ => [(.pointer (some ⟨nb ρ1 0, 35, none⟩)), (.slice ka (ks).length kc), (.int .i64 (((ks).length : Nat) : Int)), (.bool ((((ks).length : Nat) : Int) == 0)), (.bool ((((ks).length : Nat) : Int) == 0))]) (fun _ => []) (cR [[], [0], [], [], []] <| cN) (fun _ => ?_)
            refine ok_ret ?_
            exact mR (v := (.bool ((((ks).length : Nat) : Int) == 0))) (fun _ hS => ⟨congrArg (fun x => Ending.returned (.bool x)) ((fd_b (by have := bneI hb1; have := bneI0 hb2; have := bneI hb3; have := bneI0 hb4; have := of_decide_eq_true (not_f hb9); unfold FdP; omega))), hS.bel⟩)
      ·
        refine sS Tryd.f21 13 [1, 2, 23] [] (fun _ => [(pt (nb ρ1 0)), (.int .i64 kd), (.bool false), (.bool false), undef, undef, undef, (.bool false), (.bool false), undef, undef, undef, (.bool false)]) (fun _ => []) (cR [[], [0]] <| cA (fun _ => (.bool false)) (fun _ => congrArg Value.bool hb3) <| cR [[], [], [], [], [], [], [], [], [], []] <| cN) (fun _ => ?_)
        refine oN ?_
        refine ok_skip ?_
        refine mt_then ?_
        refine ok_seq ?_
        refine sS Tryd.f21 9 [1, 2, 32] [] (fun _ => [(pt (nb ρ1 0)), (.int .i64 kd), (.bool true), (.bool true), (.pointer (some ⟨nb ρ1 0, 3, none⟩)), (.agg (hB h)), (.agg (hB 0)), (.bool (!decide (h = 0))), (.bool (!decide (h = 0)))]) (fun _ => []) (cR [[], [0]] <| cA (v := fun ρ => (.bool (kd != 5))) (fun _ => (.bool true)) (fun _ => congrArg Value.bool (show (kd != 5) = true by rw [bneI0 hb3]; rfl)) <| cR [[], [], [0], []] <| cB (a := fun ρ => (.agg (hB h))) (b := fun ρ => (.agg (hB 0))) (v := fun ρ => (.bool (!decide (h = 0)))) .neq 36 (fun _ _ => neqH h 0 hh (by decide +kernel) _) <| cR [[]] <| cN) (fun _ => ?_)
        refine oC (!decide (h = 0)) (fun hb10 => ?_) (fun hb10 => ?_)
        ·
          rw [hb10]
          refine sS Tryd.f21 1 [1, 2] [] (fun _ => [(.bool false)]) (fun _ => []) (cR [[]] <| cN) (fun _ => ?_)
          refine ok_ret ?_
          refine mt_then_r ?_
          exact mR (v := (.bool false)) (fun _ hS => ⟨congrArg (fun x => Ending.returned (.bool x)) ((fd_f (by have := bneI hb1; have := bneI0 hb2; have := bneI0 hb3; have := of_decide_eq_false (not_t hb10); unfold FdP; omega))), hS.bel⟩)
        ·
          rw [hb10]
          refine ok_skip ?_
          refine mt_then ?_
          refine ok_seq ?_
          refine sS Tryd.f21 2 [1, 2, 34] [] (fun _ => [(pt (nb ρ1 0)), (.int .i64 kd)]) (fun _ => []) (cR [[], [0]] <| cN) (fun _ => ?_)
          refine dRs [(1, (pt (nb ρ1 0))), (2, (.bool false)), (34, (.int .i64 kd))] [(nb ρ1 0, (.cells (tmV kd m ((nu : Nat) : Int) h (.slice ka (ks).length kc)) 39 (0, 0)))] ?_
          refine ok_block ?_
          refine sS Tryd.f21 2 [1, 2, 34, 35] [] (fun _ => [(.bool false), (.bool false)]) (fun _ => []) (cA (v := fun ρ => (.bool (kd == 1))) (fun _ => (.bool false)) (fun _ => congrArg Value.bool (show (kd == 1) = false by rw [bneI0 hb3]; rfl)) <| cR [[]] <| cN) (fun _ => ?_)
          refine oN ?_
          refine sS Tryd.f21 2 [1, 2, 41] [] (fun _ => [(.bool false), (.bool false)]) (fun _ => []) (cA (v := fun ρ => (.bool (kd == 2))) (fun _ => (.bool false)) (fun _ => congrArg Value.bool (show (kd == 2) = false by rw [bneI0 hb3]; rfl)) <| cR [[]] <| cN) (fun _ => ?_)
          refine oN ?_
          refine ok_skip ?_
          refine mt_block_n ?_
          refine mt_then ?_
          refine sS Tryd.f21 5 [2] [0] (fun _ => [(.pointer (some ⟨nb ρ1 0, 35, none⟩)), (.slice ka (ks).length kc), (.int .i64 (((ks).length : Nat) : Int)), (.bool ((((ks).length : Nat) : Int) == 0)), (.bool ((((ks).length : Nat) : Int) == 0))]) (fun _ => []) (cR [[], [0], [], [], []] <| cN) (fun _ => ?_)
          refine ok_ret ?_
          exact mR (v := (.bool ((((ks).length : Nat) : Int) == 0))) (fun _ hS => ⟨congrArg (fun x => Ending.returned (.bool x)) ((fd_b (by have := bneI hb1; have := bneI0 hb2; have := bneI0 hb3; have := of_decide_eq_true (not_f hb10); unfold FdP; omega))), hS.bel⟩)
  ·
    refine sS Tryd.f21 8 [1, 2, 10] [] (fun _ => [(pt (nb ρ1 0)), (.int .i64 kd), (.bool false), (.bool false), undef, undef, undef, (.bool false)]) (fun _ => []) (cR [[], [0]] <| cA (fun _ => (.bool false)) (fun _ => congrArg Value.bool hb1) <| cR [[], [], [], [], []] <| cN) (fun _ => ?_)
    refine oN ?_
    refine ok_skip ?_
    refine mt_then ?_
    refine ok_seq ?_
    refine sS Tryd.f21 13 [1, 2, 23] [] (fun _ => [(pt (nb ρ1 0)), (.int .i64 kd), (.bool true), (.bool true), (pt (nb ρ1 0)), (.int .i64 kd), (.bool true), (.bool true), (.bool true), (.pointer (some ⟨nb ρ1 0, 2, none⟩)), (.int .u32 ((nu : Nat) : Int)), (.bool (((nu : Nat) : Int) != 0)), (.bool (((nu : Nat) : Int) != 0))]) (fun _ => []) (cR [[], [0]] <| cA (v := fun ρ => (.bool (kd != 3))) (fun _ => (.bool true)) (fun _ => congrArg Value.bool (show (kd != 3) = true by rw [bneI0 hb1]; rfl)) <| cR [[], [], [0]] <| cA (v := fun ρ => (.bool (kd != 4))) (fun _ => (.bool true)) (fun _ => congrArg Value.bool (show (kd != 4) = true by rw [bneI0 hb1]; rfl)) <| cR [[], [], [], [0], [], []] <| cN) (fun _ => ?_)
    refine oC (((nu : Nat) : Int) != 0) (fun hb11 => ?_) (fun hb11 => ?_)
    ·
      rw [hb11]
      refine sS Tryd.f21 1 [1, 2] [] (fun _ => [(.bool false)]) (fun _ => []) (cR [[]] <| cN) (fun _ => ?_)
      refine ok_ret ?_
      refine mt_then_r ?_
      exact mR (v := (.bool false)) (fun _ hS => ⟨congrArg (fun x => Ending.returned (.bool x)) ((fd_f (by have := bneI0 hb1; have := bneI hb11; unfold FdP; omega))), hS.bel⟩)
    ·
      rw [hb11]
      refine ok_skip ?_
      refine mt_then ?_
      refine ok_seq ?_
      refine sS Tryd.f21 9 [1, 2, 32] [] (fun _ => [(pt (nb ρ1 0)), (.int .i64 kd), (.bool true), (.bool true), (.pointer (some ⟨nb ρ1 0, 3, none⟩)), (.agg (hB h)), (.agg (hB 0)), (.bool (!decide (h = 0))), (.bool (!decide (h = 0)))]) (fun _ => []) (cR [[], [0]] <| cA (v := fun ρ => (.bool (kd != 5))) (fun _ => (.bool true)) (fun _ => congrArg Value.bool (show (kd != 5) = true by rw [bneI0 hb1]; rfl)) <| cR [[], [], [0], []] <| cB (a := fun ρ => (.agg (hB h))) (b := fun ρ => (.agg (hB 0))) (v := fun ρ => (.bool (!decide (h = 0)))) .neq 36 (fun _ _ => neqH h 0 hh (by decide +kernel) _) <| cR [[]] <| cN) (fun _ => ?_)
      refine oC (!decide (h = 0)) (fun hb12 => ?_) (fun hb12 => ?_)
      ·
        rw [hb12]
        refine sS Tryd.f21 1 [1, 2] [] (fun _ => [(.bool false)]) (fun _ => []) (cR [[]] <| cN) (fun _ => ?_)
        refine ok_ret ?_
        refine mt_then_r ?_
        exact mR (v := (.bool false)) (fun _ hS => ⟨congrArg (fun x => Ending.returned (.bool x)) ((fd_f (by have := bneI0 hb1; have := bneI0 hb11; have := of_decide_eq_false (not_t hb12); unfold FdP; omega))), hS.bel⟩)
      ·
        rw [hb12]
        refine ok_skip ?_
        refine mt_then ?_
        refine ok_seq ?_
        refine sS Tryd.f21 2 [1, 2, 34] [] (fun _ => [(pt (nb ρ1 0)), (.int .i64 kd)]) (fun _ => []) (cR [[], [0]] <| cN) (fun _ => ?_)
        refine dRs [(1, (pt (nb ρ1 0))), (2, (.bool false)), (34, (.int .i64 kd))] [(nb ρ1 0, (.cells (tmV kd m ((nu : Nat) : Int) h (.slice ka (ks).length kc)) 39 (0, 0)))] ?_
        refine ok_block ?_
        refine sS Tryd.f21 2 [1, 2, 34, 35] [] (fun _ => [(.bool false), (.bool false)]) (fun _ => []) (cA (v := fun ρ => (.bool (kd == 1))) (fun _ => (.bool false)) (fun _ => congrArg Value.bool (show (kd == 1) = false by rw [bneI0 hb1]; rfl)) <| cR [[]] <| cN) (fun _ => ?_)
        refine oN ?_
        refine sS Tryd.f21 2 [1, 2, 41] [] (fun _ => [(.bool true), (.bool true)]) (fun _ => []) (cA (v := fun ρ => (.bool (kd == 2))) (fun _ => (.bool true)) (fun _ => congrArg Value.bool (show (kd == 2) = true by rw [bneI0 hb1]; rfl)) <| cR [[]] <| cN) (fun _ => ?_)
        refine oY ?_
        rcases Bool.eq_false_or_eq_true (decide (1 ≤ (((ks).length : Nat) : Int))) with hb13 | hb13
        ·
          rcases Bool.eq_false_or_eq_true (decide ((((ks).length : Nat) : Int) ≤ 15)) with hb14 | hb14
          ·
            rcases Bool.eq_false_or_eq_true (decide (1 ≤ m)) with hb15 | hb15
            ·
              refine sS Tryd.f21 24 [1, 2] [] (fun _ => [(.pointer (some ⟨nb ρ1 0, 35, none⟩)), (.slice ka (ks).length kc), (.int .i64 (((ks).length : Nat) : Int)), (.bool true), (.bool true), (.pointer (some ⟨nb ρ1 0, 35, none⟩)), (.slice ka (ks).length kc), (.int .i64 (((ks).length : Nat) : Int)), (.bool true), (.bool true), (.bool true), (.pointer (some ⟨nb ρ1 0, 1, none⟩)), (.int .i64 m), (.bool true), (.bool true), (.bool true), (.pointer (some ⟨nb ρ1 0, 1, none⟩)), (.int .i64 m), (.pointer (some ⟨nb ρ1 0, 35, none⟩)), (.slice ka (ks).length kc), (.int .i64 (((ks).length : Nat) : Int)), (.bool (decide (m ≤ (((ks).length : Nat) : Int)))), (.bool (decide (m ≤ (((ks).length : Nat) : Int)))), (.bool (decide (m ≤ (((ks).length : Nat) : Int))))]) (fun _ => []) (cR [[], [0], []] <| cA (fun _ => (.bool true)) (fun _ => congrArg Value.bool hb13) <| cR [[], [], [0], []] <| cA (fun _ => (.bool true)) (fun _ => congrArg Value.bool hb14) <| cR [[], [], [], [0]] <| cA (fun _ => (.bool true)) (fun _ => congrArg Value.bool hb15) <| cR [[], [], [], [0], [], [0], [], [], [], []] <| cN) (fun _ => ?_)
              refine ok_ret ?_
              refine mt_block_r ?_
              refine mt_then_r ?_
              exact mR (v := (.bool (decide (m ≤ (((ks).length : Nat) : Int))))) (fun _ hS => ⟨congrArg (fun x => Ending.returned (.bool x)) ((fd_d (by have := bneI0 hb1; have := bneI0 hb11; have := of_decide_eq_true (not_f hb12); have := of_decide_eq_true hb13; have := of_decide_eq_true hb14; have := of_decide_eq_true hb15; unfold FdP; omega))), hS.bel⟩)
            ·
              refine sS Tryd.f21 24 [1, 2] [] (fun _ => [(.pointer (some ⟨nb ρ1 0, 35, none⟩)), (.slice ka (ks).length kc), (.int .i64 (((ks).length : Nat) : Int)), (.bool true), (.bool true), (.pointer (some ⟨nb ρ1 0, 35, none⟩)), (.slice ka (ks).length kc), (.int .i64 (((ks).length : Nat) : Int)), (.bool true), (.bool true), (.bool true), (.pointer (some ⟨nb ρ1 0, 1, none⟩)), (.int .i64 m), (.bool false), (.bool false), (.bool false), undef, undef, undef, undef, undef, undef, (.bool false), (.bool false)]) (fun _ => []) (cR [[], [0], []] <| cA (fun _ => (.bool true)) (fun _ => congrArg Value.bool hb13) <| cR [[], [], [0], []] <| cA (fun _ => (.bool true)) (fun _ => congrArg Value.bool hb14) <| cR [[], [], [], [0]] <| cA (fun _ => (.bool false)) (fun _ => congrArg Value.bool hb15) <| cR [[], [], [], [], [], [], [], [], [], []] <| cN) (fun _ => ?_)
              refine ok_ret ?_
              refine mt_block_r ?_
              refine mt_then_r ?_
              exact mR (v := (.bool false)) (fun _ hS => ⟨congrArg (fun x => Ending.returned (.bool x)) ((fd_f (by have := bneI0 hb1; have := bneI0 hb11; have := of_decide_eq_true (not_f hb12); have := of_decide_eq_true hb13; have := of_decide_eq_true hb14; have := of_decide_eq_false hb15; unfold FdP; omega))), hS.bel⟩)
          ·
            refine sS Tryd.f21 24 [1, 2] [] (fun _ => [(.pointer (some ⟨nb ρ1 0, 35, none⟩)), (.slice ka (ks).length kc), (.int .i64 (((ks).length : Nat) : Int)), (.bool true), (.bool true), (.pointer (some ⟨nb ρ1 0, 35, none⟩)), (.slice ka (ks).length kc), (.int .i64 (((ks).length : Nat) : Int)), (.bool false), (.bool false), (.bool false), undef, undef, undef, (.bool false), (.bool false), undef, undef, undef, undef, undef, undef, (.bool false), (.bool false)]) (fun _ => []) (cR [[], [0], []] <| cA (fun _ => (.bool true)) (fun _ => congrArg Value.bool hb13) <| cR [[], [], [0], []] <| cA (fun _ => (.bool false)) (fun _ => congrArg Value.bool hb14) <| cR [[], [], [], [], [], [], [], [], [], [], [], [], [], [], []] <| cN) (fun _ => ?_)
            refine ok_ret ?_
            refine mt_block_r ?_
            refine mt_then_r ?_
            exact mR (v := (.bool false)) (fun _ hS => ⟨congrArg (fun x => Ending.returned (.bool x)) ((fd_f (by have := bneI0 hb1; have := bneI0 hb11; have := of_decide_eq_true (not_f hb12); have := of_decide_eq_true hb13; have := of_decide_eq_false hb14; unfold FdP; omega))), hS.bel⟩)
        ·
          refine sS Tryd.f21 24 [1, 2] [] (fun _ => [(.pointer (some ⟨nb ρ1 0, 35, none⟩)), (.slice ka (ks).length kc), (.int .i64 (((ks).length : Nat) : Int)), (.bool false), (.bool false), undef, undef, undef, undef, (.bool false), (.bool false), undef, undef, undef, (.bool false), (.bool false), undef, undef, undef, undef, undef, undef, (.bool false), (.bool false)]) (fun _ => []) (cR [[], [0], []] <| cA (fun _ => (.bool false)) (fun _ => congrArg Value.bool hb13) <| cR [[], [], [], [], [], [], [], [], [], [], [], [], [], [], [], [], [], [], [], []] <| cN) (fun _ => ?_)
          refine ok_ret ?_
          refine mt_block_r ?_
          refine mt_then_r ?_
          exact mR (v := (.bool false)) (fun _ hS => ⟨congrArg (fun x => Ending.returned (.bool x)) ((fd_f (by have := bneI0 hb1; have := bneI0 hb11; have := of_decide_eq_true (not_f hb12); have := of_decide_eq_false hb13; unfold FdP; omega))), hS.bel⟩)

theorem rdfields_any (kd : Int) (m : Int) (nu : Nat) (h : Nat) (ka : Option Addr) (kc : Nat) (ks : List KpA) (hh : h < M) (w0 : World) : Calls Tryd.prog 24 #[(.agg (tmV kd m ((nu : Nat) : Int) h (.slice ka (ks).length kc)))] w0 (fun ε w' => ε = .returned (.bool (fdN kd m nu h (ks).length)) ∧ Below w0.heap.size w0 w') := by
  refine Calls.of_ok (n := 68) (F := (fun _ => True)) Tryd.func24 rfl rfl rfl (by simp) (persTrue (fun _ => trivial)) ?_
  refine sS Tryd.f24 2 [1, 2] [] (fun ρ => [(pt (nb ρ 0)), (.bool false)]) (fun ρ => [(0, { news := [(nb ρ 0, (.cells (tmV kd m ((nu : Nat) : Int) h (.slice ka (ks).length kc)) 39 (0, 0)))] })]) (cR [[], []] <| cN) (fun ρ1 => ?_)
  refine sS Tryd.f24 4 [1, 2, 3] [] (fun _ => [(.pointer (some ⟨nb ρ1 0, 35, none⟩)), (.slice ka (ks).length kc), (.int .i64 (((ks).length : Nat) : Int)), (.int .i64 (((ks).length : Nat) : Int))]) (fun _ => []) (cR [[], [0], [], []] <| cN) (fun _ => ?_)
  refine ok_seq ?_
  rcases Bool.eq_false_or_eq_true (((nu : Nat) : Int) != 0) with hb1 | hb1
  ·
    rcases Bool.eq_false_or_eq_true (kd != 3) with hb2 | hb2
    ·
      rcases Bool.eq_false_or_eq_true (kd != 4) with hb3 | hb3
      ·
        refine sS Tryd.f24 24 [1, 2, 3, 30] [] (fun _ => [(.pointer (some ⟨nb ρ1 0, 2, none⟩)), (.int .u32 ((nu : Nat) : Int)), (.bool true), (.bool true), (pt (nb ρ1 0)), (.int .i64 kd), (.bool true), (.bool true), (.bool true), (pt (nb ρ1 0)), (.int .i64 kd), (.bool true), (.bool true), (.bool true), undef, undef, undef, undef, undef, undef, undef, undef, undef, (.bool true)]) (fun _ => []) (cR [[], [0]] <| cA (fun _ => (.bool true)) (fun _ => congrArg Value.bool hb1) <| cR [[], [], [0]] <| cA (fun _ => (.bool true)) (fun _ => congrArg Value.bool hb2) <| cR [[], [], [], [0]] <| cA (fun _ => (.bool true)) (fun _ => congrArg Value.bool hb3) <| cR [[], [], [], [], [], [], [], [], [], [], [], []] <| cN) (fun _ => ?_)
        refine oY ?_
        refine sS Tryd.f24 1 [1, 2, 3] [] (fun _ => [(.bool false)]) (fun _ => []) (cR [[]] <| cN) (fun _ => ?_)
        refine ok_ret ?_
        refine mt_then_r ?_
        exact mR (v := (.bool false)) (fun _ hS => ⟨congrArg (fun x => Ending.returned (.bool x)) ((fd_f (by have := bneI hb1; have := bneI hb2; have := bneI hb3; unfold FdP; omega))), hS.bel⟩)
      ·
        rcases Bool.eq_false_or_eq_true (decide (h = 0)) with hb4 | hb4
        ·
          refine sS Tryd.f24 24 [1, 2, 3, 30] [] (fun _ => [(.pointer (some ⟨nb ρ1 0, 2, none⟩)), (.int .u32 ((nu : Nat) : Int)), (.bool true), (.bool true), (pt (nb ρ1 0)), (.int .i64 kd), (.bool true), (.bool true), (.bool true), (pt (nb ρ1 0)), (.int .i64 kd), (.bool false), (.bool false), (.bool false), (.pointer (some ⟨nb ρ1 0, 3, none⟩)), (.agg (hB h)), (.agg (hB 0)), (.bool false), (.bool false), undef, undef, undef, (.bool false), (.bool false)]) (fun _ => []) (cR [[], [0]] <| cA (fun _ => (.bool true)) (fun _ => congrArg Value.bool hb1) <| cR [[], [], [0]] <| cA (fun _ => (.bool true)) (fun _ => congrArg Value.bool hb2) <| cR [[], [], [], [0]] <| cA (fun _ => (.bool false)) (fun _ => congrArg Value.bool hb3) <| cR [[], [], [], [0], []] <| cB (a := fun ρ => (.agg (hB h))) (b := fun ρ => (.agg (hB 0))) (v := fun ρ => (.bool false)) .neq 36 (fun _ _ => (neqH h 0 hh (by decide +kernel) _).trans (by rw [hb4]; try rfl)) <| cR [[], [], [], [], [], []] <| cN) (fun _ => ?_)
          refine oN ?_
          refine ok_skip ?_
          refine mt_then ?_
          refine ok_seq ?_
          refine sS Tryd.f24 2 [1, 2, 3, 32] [] (fun _ => [(pt (nb ρ1 0)), (.int .i64 kd)]) (fun _ => []) (cR [[], [0]] <| cN) (fun _ => ?_)
          refine ok_block ?_
          refine sS Tryd.f24 2 [1, 2, 3, 32, 33] [] (fun _ => [(.bool false), (.bool false)]) (fun _ => []) (cA (v := fun ρ => (.bool (kd == 1))) (fun _ => (.bool false)) (fun _ => congrArg Value.bool (show (kd == 1) = false by rw [bneI0 hb3]; rfl)) <| cR [[]] <| cN) (fun _ => ?_)
          refine dRs [(1, (pt (nb ρ1 0))), (2, (.bool false)), (3, (.int .i64 (((ks).length : Nat) : Int))), (32, (.int .i64 kd)), (33, (.bool false))] [(nb ρ1 0, (.cells (tmV kd m ((nu : Nat) : Int) h (.slice ka (ks).length kc)) 39 (0, 0)))] ?_
          refine oN ?_
          refine sS Tryd.f24 2 [1, 2, 3, 42] [] (fun _ => [(.bool false), (.bool false)]) (fun _ => []) (cA (v := fun ρ => (.bool (kd == 2))) (fun _ => (.bool false)) (fun _ => congrArg Value.bool (show (kd == 2) = false by rw [bneI0 hb3]; rfl)) <| cR [[]] <| cN) (fun _ => ?_)
          refine oN ?_
          refine ok_skip ?_
          refine mt_block_n ?_
          refine mt_then ?_
          rcases Bool.eq_false_or_eq_true ((((ks).length : Nat) : Int) == 0) with hb5 | hb5
          ·
            refine sS Tryd.f24 8 [2] [0] (fun _ => [(.int .i64 (((ks).length : Nat) : Int)), (.bool true), (.bool true), (.pointer (some ⟨nb ρ1 0, 1, none⟩)), (.int .i64 m), (.bool (m == 0)), (.bool (m == 0)), (.bool (m == 0))]) (fun _ => []) (cR [[]] <| cA (fun _ => (.bool true)) (fun _ => congrArg Value.bool hb5) <| cR [[], [], [0], [], [], []] <| cN) (fun _ => ?_)
            refine ok_ret ?_
            exact mR (v := (.bool (m == 0))) (fun _ hS => ⟨congrArg (fun x => Ending.returned (.bool x)) ((fd_b (by have := bneI hb1; have := bneI hb2; have := bneI0 hb3; have := of_decide_eq_true hb4; have := eqI hb5; unfold FdP; omega))), hS.bel⟩)
          ·
            refine sS Tryd.f24 8 [2] [0] (fun _ => [(.int .i64 (((ks).length : Nat) : Int)), (.bool false), (.bool false), undef, undef, undef, (.bool false), (.bool false)]) (fun _ => []) (cR [[]] <| cA (fun _ => (.bool false)) (fun _ => congrArg Value.bool hb5) <| cR [[], [], [], [], [], []] <| cN) (fun _ => ?_)
            refine ok_ret ?_
            exact mR (v := (.bool false)) (fun _ hS => ⟨congrArg (fun x => Ending.returned (.bool x)) ((fd_f (by have := bneI hb1; have := bneI hb2; have := bneI0 hb3; have := of_decide_eq_true hb4; have := neI hb5; unfold FdP; omega))), hS.bel⟩)
        ·
          refine sS Tryd.f24 24 [1, 2, 3, 30] [] (fun _ => [(.pointer (some ⟨nb ρ1 0, 2, none⟩)), (.int .u32 ((nu : Nat) : Int)), (.bool true), (.bool true), (pt (nb ρ1 0)), (.int .i64 kd), (.bool true), (.bool true), (.bool true), (pt (nb ρ1 0)), (.int .i64 kd), (.bool false), (.bool false), (.bool false), (.pointer (some ⟨nb ρ1 0, 3, none⟩)), (.agg (hB h)), (.agg (hB 0)), (.bool true), (.bool true), (pt (nb ρ1 0)), (.int .i64 kd), (.bool true), (.bool true), (.bool true)]) (fun _ => []) (cR [[], [0]] <| cA (fun _ => (.bool true)) (fun _ => congrArg Value.bool hb1) <| cR [[], [], [0]] <| cA (fun _ => (.bool true)) (fun _ => congrArg Value.bool hb2) <| cR [[], [], [], [0]] <| cA (fun _ => (.bool false)) (fun _ => congrArg Value.bool hb3) <| cR [[], [], [], [0], []] <| cB (a := fun ρ => (.agg (hB h))) (b := fun ρ => (.agg (hB 0))) (v := fun ρ => (.bool true)) .neq 36 (fun _ _ => (neqH h 0 hh (by decide +kernel) _).trans (by rw [hb4]; try rfl)) <| cR [[], [], [0]] <| cA (v := fun ρ => (.bool (kd != 5))) (fun _ => (.bool true)) (fun _ => congrArg Value.bool (show (kd != 5) = true by rw [bneI0 hb3]; rfl)) <| cR [[], []] <| cN) (fun _ => ?_)
          refine oY ?_
          refine sS Tryd.f24 1 [1, 2, 3] [] (fun _ => [(.bool false)]) (fun _ => []) (cR [[]] <| cN) (fun _ => ?_)
          refine ok_ret ?_
          refine mt_then_r ?_
          exact mR (v := (.bool false)) (fun _ hS => ⟨congrArg (fun x => Ending.returned (.bool x)) ((fd_f (by have := bneI hb1; have := bneI hb2; have := bneI0 hb3; have := of_decide_eq_false hb4; unfold FdP; omega))), hS.bel⟩)
    ·
      rcases Bool.eq_false_or_eq_true (decide (h = 0)) with hb6 | hb6
      ·
        refine sS Tryd.f24 24 [1, 2, 3, 30] [] (fun _ => [(.pointer (some ⟨nb ρ1 0, 2, none⟩)), (.int .u32 ((nu : Nat) : Int)), (.bool true), (.bool true), (pt (nb ρ1 0)), (.int .i64 kd), (.bool false), (.bool false), (.bool false), undef, undef, undef, (.bool false), (.bool false), (.pointer (some ⟨nb ρ1 0, 3, none⟩)), (.agg (hB h)), (.agg (hB 0)), (.bool false), (.bool false), undef, undef, undef, (.bool false), (.bool false)]) (fun _ => []) (cR [[], [0]] <| cA (fun _ => (.bool true)) (fun _ => congrArg Value.bool hb1) <| cR [[], [], [0]] <| cA (fun _ => (.bool false)) (fun _ => congrArg Value.bool hb2) <| cR [[], [], [], [], [], [], [], [], [0], []] <| cB (a := fun ρ => (.agg (hB h))) (b := fun ρ => (.agg (hB 0))) (v := fun ρ => (.bool false)) .neq 36 (fun _ _ => (neqH h 0 hh (by decide +kernel) _).trans (by rw [hb6]; try rfl)) <| cR [[], [], [], [], [], []] <| cN) (fun _ => ?_)
        refine oN ?_
        refine ok_skip ?_
        refine mt_then ?_
        refine ok_seq ?_
        refine sS Tryd.f24 2 [1, 2, 3, 32] [] (fun _ => [(pt (nb ρ1 0)), (.int .i64 kd)]) (fun _ => []) (cR [[], [0]] <| cN) (fun _ => ?_)
        refine ok_block ?_
        refine sS Tryd.f24 2 [1, 2, 3, 32, 33] [] (fun _ => [(.bool false), (.bool false)]) (fun _ => []) (cA (v := fun ρ => (.bool (kd == 1))) (fun _ => (.bool false)) (fun _ => congrArg Value.bool (show (kd == 1) = false by rw [bneI0 hb2]; rfl)) <| cR [[]] <| cN) (fun _ => ?_)
        refine dRs [(1, (pt (nb ρ1 0))), (2, (.bool false)), (3, (.int .i64 (((ks).length : Nat) : Int))), (32, (.int .i64 kd)), (33, (.bool false))] [(nb ρ1 0, (.cells (tmV kd m ((nu : Nat) : Int) h (.slice ka (ks).length kc)) 39 (0, 0)))] ?_
        refine oN ?_
        refine sS Tryd.f24 2 [1, 2, 3, 42] [] (fun _ => [(.bool false), (.bool false)]) (fun _ => []) (cA (v := fun ρ => (.bool (kd == 2))) (fun _ => (.bool false)) (fun _ => congrArg Value.bool (show (kd == 2) = false by rw [bneI0 hb2]; rfl)) <| cR [[]] <| cN) (fun _ => ?_)
        refine oN ?_
        refine ok_skip ?_
        refine mt_block_n ?_
        refine mt_then ?_
        rcases Bool.eq_false_or_eq_true ((((ks).length : Nat) : Int) == 0) with hb7 | hb7
        ·
          refine sS Tryd.f24 8 [2] [0] (fun _ => [(.int .i64 (((ks).length : Nat) : Int)), (.bool true), (.bool true), (.pointer (some ⟨nb ρ1 0, 1, none⟩)), (.int .i64 m), (.bool (m == 0)), (.bool (m == 0)), (.bool (m == 0))]) (fun _ => []) (cR [[]] <| cA (fun _ => (.bool true)) (fun _ => congrArg Value.bool hb7) <| cR [[], [], [0], [], [], []] <| cN) (fun _ => ?_)
          refine ok_ret ?_
          exact mR (v := (.bool (m == 0))) (fun _ hS => ⟨congrArg (fun x => Ending.returned (.bool x)) ((fd_b (by have := bneI hb1; have := bneI0 hb2; have := of_decide_eq_true hb6; have := eqI hb7; unfold FdP; omega))), hS.bel⟩)
        ·
          refine sS Tryd.f24 8 [2] [0] (fun _ => [(.int .i64 (((ks).length : Nat) : Int)), (.bool false), (.bool false), undef, undef, undef, (.bool false), (.bool false)]) (fun _ => []) (cR [[]] <| cA (fun _ => (.bool false)) (fun _ => congrArg Value.bool hb7) <| cR [[], [], [], [], [], []] <| cN) (fun _ => ?_)
          refine ok_ret ?_
          exact mR (v := (.bool false)) (fun _ hS => ⟨congrArg (fun x => Ending.returned (.bool x)) ((fd_f (by have := bneI hb1; have := bneI0 hb2; have := of_decide_eq_true hb6; have := neI hb7; unfold FdP; omega))), hS.bel⟩)
      ·
        refine sS Tryd.f24 24 [1, 2, 3, 30] [] (fun _ => [(.pointer (some ⟨nb ρ1 0, 2, none⟩)), (.int .u32 ((nu : Nat) : Int)), (.bool true), (.bool true), (pt (nb ρ1 0)), (.int .i64 kd), (.bool false), (.bool false), (.bool false), undef, undef, undef, (.bool false), (.bool false), (.pointer (some ⟨nb ρ1 0, 3, none⟩)), (.agg (hB h)), (.agg (hB 0)), (.bool true), (.bool true), (pt (nb ρ1 0)), (.int .i64 kd), (.bool true), (.bool true), (.bool true)]) (fun _ => []) (cR [[], [0]] <| cA (fun _ => (.bool true)) (fun _ => congrArg Value.bool hb1) <| cR [[], [], [0]] <| cA (fun _ => (.bool false)) (fun _ => congrArg Value.bool hb2) <| cR [[], [], [], [], [], [], [], [], [0], []] <| cB (a := fun ρ => (.agg (hB h))) (b := fun ρ => (.agg (hB 0))) (v := fun ρ => (.bool true)) .neq 36 (fun _ _ => (neqH h 0 hh (by decide +kernel) _).trans (by rw [hb6]; try rfl)) <| cR [[], [], [0]] <| cA (v := fun ρ => (.bool (kd != 5))) (fun _ => (.bool true)) (fun _ => congrArg Value.bool (show (kd != 5) = true by rw [bneI0 hb2]; rfl)) <| cR [[], []] <| cN) (fun _ => ?_)
        refine oY ?_
        refine sS Tryd.f24 1 [1, 2, 3] [] (fun _ => [(.bool false)]) (fun _ => []) (cR [[]] <| cN) (fun _ => ?_)
        refine ok_ret ?_
        refine mt_then_r ?_
        exact mR (v := (.bool false)) (fun _ hS => ⟨congrArg (fun x => Ending.returned (.bool x)) ((fd_f (by have := bneI hb1; have := bneI0 hb2; have := of_decide_eq_false hb6; unfold FdP; omega))), hS.bel⟩)
  ·
    rcases Bool.eq_false_or_eq_true (decide (h = 0)) with hb8 | hb8
    ·
      refine sS Tryd.f24 24 [1, 2, 3, 30] [] (fun _ => [(.pointer (some ⟨nb ρ1 0, 2, none⟩)), (.int .u32 ((nu : Nat) : Int)), (.bool false), (.bool false), undef, undef, undef, (.bool false), (.bool false), undef, undef, undef, (.bool false), (.bool false), (.pointer (some ⟨nb ρ1 0, 3, none⟩)), (.agg (hB h)), (.agg (hB 0)), (.bool false), (.bool false), undef, undef, undef, (.bool false), (.bool false)]) (fun _ => []) (cR [[], [0]] <| cA (fun _ => (.bool false)) (fun _ => congrArg Value.bool hb1) <| cR [[], [], [], [], [], [], [], [], [], [], [], [], [0], []] <| cB (a := fun ρ => (.agg (hB h))) (b := fun ρ => (.agg (hB 0))) (v := fun ρ => (.bool false)) .neq 36 (fun _ _ => (neqH h 0 hh (by decide +kernel) _).trans (by rw [hb8]; try rfl)) <| cR [[], [], [], [], [], []] <| cN) (fun _ => ?_)
      refine oN ?_
      refine ok_skip ?_
      refine mt_then ?_
      refine ok_seq ?_
      refine sS Tryd.f24 2 [1, 2, 3, 32] [] (fun _ => [(pt (nb ρ1 0)), (.int .i64 kd)]) (fun _ => []) (cR [[], [0]] <| cN) (fun _ => ?_)
      refine ok_block ?_
      refine sS Tryd.f24 2 [1, 2, 3, 32, 33] [] (fun _ => [(.bool (kd == 1)), (.bool (kd == 1))]) (fun _ => []) (cR [[], []] <| cN) (fun _ => ?_)
      refine dRs [(1, (pt (nb ρ1 0))), (2, (.bool false)), (3, (.int .i64 (((ks).length : Nat) : Int))), (32, (.int .i64 kd)), (33, (.bool (kd == 1)))] [(nb ρ1 0, (.cells (tmV kd m ((nu : Nat) : Int) h (.slice ka (ks).length kc)) 39 (0, 0)))] ?_
      refine oC (kd == 1) (fun hb9 => ?_) (fun hb9 => ?_)
      ·
        rw [hb9]
        rcases Bool.eq_false_or_eq_true ((((ks).length : Nat) : Int) == 1) with hb10 | hb10
        ·
          refine sS Tryd.f24 8 [1, 2, 3] [] (fun _ => [(.int .i64 (((ks).length : Nat) : Int)), (.bool true), (.bool true), (.pointer (some ⟨nb ρ1 0, 1, none⟩)), (.int .i64 m), (.bool (m == 0)), (.bool (m == 0)), (.bool (m == 0))]) (fun _ => []) (cR [[]] <| cA (fun _ => (.bool true)) (fun _ => congrArg Value.bool hb10) <| cR [[], [], [0], [], [], []] <| cN) (fun _ => ?_)
          refine ok_ret ?_
          refine mt_block_r ?_
          refine mt_then_r ?_
          exact mR (v := (.bool (m == 0))) (fun _ hS => ⟨congrArg (fun x => Ending.returned (.bool x)) ((fd_b (by have := bneI0 hb1; have := of_decide_eq_true hb8; have := eqI hb9; have := eqI hb10; unfold FdP; omega))), hS.bel⟩)
        ·
          refine sS Tryd.f24 8 [1, 2, 3] [] (fun _ => [(.int .i64 (((ks).length : Nat) : Int)), (.bool false), (.bool false), undef, undef, undef, (.bool false), (.bool false)]) (fun _ => []) (cR [[]] <| cA (fun _ => (.bool false)) (fun _ => congrArg Value.bool hb10) <| cR [[], [], [], [], [], []] <| cN) (fun _ => ?_)
          refine ok_ret ?_
          refine mt_block_r ?_
          refine mt_then_r ?_
          exact mR (v := (.bool false)) (fun _ hS => ⟨congrArg (fun x => Ending.returned (.bool x)) ((fd_f (by have := bneI0 hb1; have := of_decide_eq_true hb8; have := eqI hb9; have := neI hb10; unfold FdP; omega))), hS.bel⟩)
      ·
        rw [hb9]
        refine sS Tryd.f24 2 [1, 2, 3, 42] [] (fun _ => [(.bool (kd == 2)), (.bool (kd == 2))]) (fun _ => []) (cR [[], []] <| cN) (fun _ => ?_)
        refine oC (kd == 2) (fun hb11 => ?_) (fun hb11 => ?_)
        ·
          rw [hb11]
          rcases Bool.eq_false_or_eq_true (decide (1 ≤ (((ks).length : Nat) : Int))) with hb12 | hb12
          ·
            rcases Bool.eq_false_or_eq_true (decide ((((ks).length : Nat) : Int) ≤ 15)) with hb13 | hb13
            ·
              rcases Bool.eq_false_or_eq_true (decide (1 ≤ m)) with hb14 | hb14
              ·
                refine sS Tryd.f24 18 [1, 2, 3] [] (fun _ => [(.int .i64 (((ks).length : Nat) : Int)), (.bool true), (.bool true), (.int .i64 (((ks).length : Nat) : Int)), (.bool true), (.bool true), (.bool true), (.pointer (some ⟨nb ρ1 0, 1, none⟩)), (.int .i64 m), (.bool true), (.bool true), (.bool true), (.pointer (some ⟨nb ρ1 0, 1, none⟩)), (.int .i64 m), (.int .i64 (((ks).length : Nat) : Int)), (.bool (decide (m ≤ (((ks).length : Nat) : Int)))), (.bool (decide (m ≤ (((ks).length : Nat) : Int)))), (.bool (decide (m ≤ (((ks).length : Nat) : Int))))]) (fun _ => []) (cR [[]] <| cA (fun _ => (.bool true)) (fun _ => congrArg Value.bool hb12) <| cR [[], []] <| cA (fun _ => (.bool true)) (fun _ => congrArg Value.bool hb13) <| cR [[], [], [], [0]] <| cA (fun _ => (.bool true)) (fun _ => congrArg Value.bool hb14) <| cR [[], [], [], [0], [], [], [], []] <| cN) (fun _ => ?_)
                refine ok_ret ?_
                refine mt_block_r ?_
                refine mt_then_r ?_
                exact mR (v := (.bool (decide (m ≤ (((ks).length : Nat) : Int))))) (fun _ hS => ⟨congrArg (fun x => Ending.returned (.bool x)) ((fd_d (by have := bneI0 hb1; have := of_decide_eq_true hb8; have := neI hb9; have := eqI hb11; have := of_decide_eq_true hb12; have := of_decide_eq_true hb13; have := of_decide_eq_true hb14; unfold FdP; omega))), hS.bel⟩)
              ·
                refine sS Tryd.f24 18 [1, 2, 3] [] (fun _ => [(.int .i64 (((ks).length : Nat) : Int)), (.bool true), (.bool true), (.int .i64 (((ks).length : Nat) : Int)), (.bool true), (.bool true), (.bool true), (.pointer (some ⟨nb ρ1 0, 1, none⟩)), (.int .i64 m), (.bool false), (.bool false), (.bool false), undef, undef, undef, undef, (.bool false), (.bool false)]) (fun _ => []) (cR [[]] <| cA (fun _ => (.bool true)) (fun _ => congrArg Value.bool hb12) <| cR [[], []] <| cA (fun _ => (.bool true)) (fun _ => congrArg Value.bool hb13) <| cR [[], [], [], [0]] <| cA (fun _ => (.bool false)) (fun _ => congrArg Value.bool hb14) <| cR [[], [], [], [], [], [], [], []] <| cN) (fun _ => ?_)
                refine ok_ret ?_
                refine mt_block_r ?_
                refine mt_then_r ?_
                exact mR (v := (.bool false)) (fun _ hS => ⟨congrArg (fun x => Ending.returned (.bool x)) ((fd_f (by have := bneI0 hb1; have := of_decide_eq_true hb8; have := neI hb9; have := eqI hb11; have := of_decide_eq_true hb12; have := of_decide_eq_true hb13; have := of_decide_eq_false hb14; unfold FdP; omega))), hS.bel⟩)
            ·
              refine sS Tryd.f24 18 [1, 2, 3] [] (fun _ => [(.int .i64 (((ks).length : Nat) : Int)), (.bool true), (.bool true), (.int .i64 (((ks).length : Nat) : Int)), (.bool false), (.bool false), (.bool false), undef, undef, undef, (.bool false), (.bool false), undef, undef, undef, undef, (.bool false), (.bool false)]) (fun _ => []) (cR [[]] <| cA (fun _ => (.bool true)) (fun _ => congrArg Value.bool hb12) <| cR [[], []] <| cA (fun _ => (.bool false)) (fun _ => congrArg Value.bool hb13) <| cR [[], [], [], [], [], [], [], [], [], [], [], [], []] <| cN) (fun _ => ?_)
              refine ok_ret ?_
              refine mt_block_r ?_
              refine mt_then_r ?_
              exact mR (v := (.bool false)) (fun _ hS => ⟨congrArg (fun x => Ending.returned (.bool x)) ((fd_f (by have := bneI0 hb1; have := of_decide_eq_true hb8; have := neI hb9; have := eqI hb11; have := of_decide_eq_true hb12; have := of_decide_eq_false hb13; unfold FdP; omega))), hS.bel⟩)
          ·
            refine sS Tryd.f24 18 [1, 2, 3] [] (fun _ => [(.int .i64 (((ks).length : Nat) : Int)), (.bool false), (.bool false), undef, undef, (.bool false), (.bool false), undef, undef, undef, (.bool false), (.bool false), undef, undef, undef, undef, (.bool false), (.bool false)]) (fun _ => []) (cR [[]] <| cA (fun _ => (.bool false)) (fun _ => congrArg Value.bool hb12) <| cR [[], [], [], [], [], [], [], [], [], [], [], [], [], [], [], []] <| cN) (fun _ => ?_)
            refine ok_ret ?_
            refine mt_block_r ?_
            refine mt_then_r ?_
            exact mR (v := (.bool false)) (fun _ hS => ⟨congrArg (fun x => Ending.returned (.bool x)) ((fd_f (by have := bneI0 hb1; have := of_decide_eq_true hb8; have := neI hb9; have := eqI hb11; have := of_decide_eq_false hb12; unfold FdP; omega))), hS.bel⟩)
        ·
          rw [hb11]
          refine ok_skip ?_
          refine mt_block_n ?_
          refine mt_then ?_
          rcases Bool.eq_false_or_eq_true ((((ks).length : Nat) : Int) == 0) with hb15 | hb15
          ·
            refine sS Tryd.f24 8 [2] [0] (fun _ => [(.int .i64 (((ks).length : Nat) : Int)), (.bool true), (.bool true), (.pointer (some ⟨nb ρ1 0, 1, none⟩)), (.int .i64 m), (.bool (m == 0)), (.bool (m == 0)), (.bool (m == 0))]) (fun _ => []) (cR [[]] <| cA (fun _ => (.bool true)) (fun _ => congrArg Value.bool hb15) <| cR [[], [], [0], [], [], []] <| cN) (fun _ => ?_)
            refine ok_ret ?_
            exact mR (v := (.bool (m == 0))) (fun _ hS => ⟨congrArg (fun x => Ending.returned (.bool x)) ((fd_b (by have := bneI0 hb1; have := of_decide_eq_true hb8; have := neI hb9; have := neI hb11; have := eqI hb15; unfold FdP; omega))), hS.bel⟩)
          ·
            refine sS Tryd.f24 8 [2] [0] (fun _ => [(.int .i64 (((ks).length : Nat) : Int)), (.bool false), (.bool false), undef, undef, undef, (.bool false), (.bool false)]) (fun _ => []) (cR [[]] <| cA (fun _ => (.bool false)) (fun _ => congrArg Value.bool hb15) <| cR [[], [], [], [], [], []] <| cN) (fun _ => ?_)
            refine ok_ret ?_
            exact mR (v := (.bool false)) (fun _ hS => ⟨congrArg (fun x => Ending.returned (.bool x)) ((fd_f (by have := bneI0 hb1; have := of_decide_eq_true hb8; have := neI hb9; have := neI hb11; have := neI hb15; unfold FdP; omega))), hS.bel⟩)
    ·
      refine sS Tryd.f24 24 [1, 2, 3, 30] [] (fun _ => [(.pointer (some ⟨nb ρ1 0, 2, none⟩)), (.int .u32 ((nu : Nat) : Int)), (.bool false), (.bool false), undef, undef, undef, (.bool false), (.bool false), undef, undef, undef, (.bool false), (.bool false), (.pointer (some ⟨nb ρ1 0, 3, none⟩)), (.agg (hB h)), (.agg (hB 0)), (.bool true), (.bool true), (pt (nb ρ1 0)), (.int .i64 kd), (.bool (kd != 5)), (.bool (kd != 5)), (.bool (kd != 5))]) (fun _ => []) (cR [[], [0]] <| cA (fun _ => (.bool false)) (fun _ => congrArg Value.bool hb1) <| cR [[], [], [], [], [], [], [], [], [], [], [], [], [0], []] <| cB (a := fun ρ => (.agg (hB h))) (b := fun ρ => (.agg (hB 0))) (v := fun ρ => (.bool true)) .neq 36 (fun _ _ => (neqH h 0 hh (by decide +kernel) _).trans (by rw [hb8]; try rfl)) <| cR [[], [], [0], [], [], []] <| cN) (fun _ => ?_)
      refine oC (kd != 5) (fun hb16 => ?_) (fun hb16 => ?_)
      ·
        rw [hb16]
        refine sS Tryd.f24 1 [1, 2, 3] [] (fun _ => [(.bool false)]) (fun _ => []) (cR [[]] <| cN) (fun _ => ?_)
        refine ok_ret ?_
        refine mt_then_r ?_
        exact mR (v := (.bool false)) (fun _ hS => ⟨congrArg (fun x => Ending.returned (.bool x)) ((fd_f (by have := bneI0 hb1; have := of_decide_eq_false hb8; have := bneI hb16; unfold FdP; omega))), hS.bel⟩)
      ·
        rw [hb16]
        refine ok_skip ?_
        refine mt_then ?_
        refine ok_seq ?_
        refine sS Tryd.f24 2 [1, 2, 3, 32] [] (fun _ => [(pt (nb ρ1 0)), (.int .i64 kd)]) (fun _ => []) (cR [[], [0]] <| cN) (fun _ => ?_)
        refine ok_block ?_
        refine sS Tryd.f24 2 [1, 2, 3, 32, 33] [] (fun _ => [(.bool false), (.bool false)]) (fun _ => []) (cA (v := fun ρ => (.bool (kd == 1))) (fun _ => (.bool false)) (fun _ => congrArg Value.bool (show (kd == 1) = false by rw [bneI0 hb16]; rfl)) <| cR [[]] <| cN) (fun _ => ?_)
        refine dRs [(1, (pt (nb ρ1 0))), (2, (.bool false)), (3, (.int .i64 (((ks).length : Nat) : Int))), (32, (.int .i64 kd)), (33, (.bool false))] [(nb ρ1 0, (.cells (tmV kd m ((nu : Nat) : Int) h (.slice ka (ks).length kc)) 39 (0, 0)))] ?_
        refine oN ?_
        refine sS Tryd.f24 2 [1, 2, 3, 42] [] (fun _ => [(.bool false), (.bool false)]) (fun _ => []) (cA (v := fun ρ => (.bool (kd == 2))) (fun _ => (.bool false)) (fun _ => congrArg Value.bool (show (kd == 2) = false by rw [bneI0 hb16]; rfl)) <| cR [[]] <| cN) (fun _ => ?_)
        refine oN ?_
        refine ok_skip ?_
        refine mt_block_n ?_
        refine mt_then ?_
        rcases Bool.eq_false_or_eq_true ((((ks).length : Nat) : Int) == 0) with hb17 | hb17
        ·
          refine sS Tryd.f24 8 [2] [0] (fun _ => [(.int .i64 (((ks).length : Nat) : Int)), (.bool true), (.bool true), (.pointer (some ⟨nb ρ1 0, 1, none⟩)), (.int .i64 m), (.bool (m == 0)), (.bool (m == 0)), (.bool (m == 0))]) (fun _ => []) (cR [[]] <| cA (fun _ => (.bool true)) (fun _ => congrArg Value.bool hb17) <| cR [[], [], [0], [], [], []] <| cN) (fun _ => ?_)
          refine ok_ret ?_
          exact mR (v := (.bool (m == 0))) (fun _ hS => ⟨congrArg (fun x => Ending.returned (.bool x)) ((fd_b (by have := bneI0 hb1; have := of_decide_eq_false hb8; have := bneI0 hb16; have := eqI hb17; unfold FdP; omega))), hS.bel⟩)
        ·
          refine sS Tryd.f24 8 [2] [0] (fun _ => [(.int .i64 (((ks).length : Nat) : Int)), (.bool false), (.bool false), undef, undef, undef, (.bool false), (.bool false)]) (fun _ => []) (cR [[]] <| cA (fun _ => (.bool false)) (fun _ => congrArg Value.bool hb17) <| cR [[], [], [], [], [], []] <| cN) (fun _ => ?_)
          refine ok_ret ?_
          exact mR (v := (.bool false)) (fun _ hS => ⟨congrArg (fun x => Ending.returned (.bool x)) ((fd_f (by have := bneI0 hb1; have := of_decide_eq_false hb8; have := bneI0 hb16; have := neI hb17; unfold FdP; omega))), hS.bel⟩)
end Go.Proofs.YtlkbhiaoolddmaaDoor

/-! Sums of texts, in plain words. -/
namespace Go.Proofs.YtlkbhiaoolddmaaDoor
open Go

def tgD : List UInt8 := [108, 105, 103, 104, 116, 99, 108, 105, 101, 110, 116, 47, 100, 101, 115, 99, 114, 105, 112, 116, 111, 114]
theorem sum_8 (d : Nat) : ((((hxS ((hL d).take 4)).length : Nat) : Int) == 8) = true := by
  have h : (hxS ((hL d).take 4)).length = 8 := by rw [hxS_length, List.length_take, hL_length]; rfl
  rw [h]; rfl
end Go.Proofs.YtlkbhiaoolddmaaDoor

/-! Descriptors: sums of texts, the sanity check: the walks. -/
namespace Go.Proofs.YtlkbhiaoolddmaaDoor
open Go Go.RowKit

theorem hex_any (a : Option Addr) (c : Nat) (B : List UInt8) (h46 : B.length ≤ 70368744175616) (w0 : World) (hf0 : Bs w0 a c B) : Calls Tryd.prog 27 #[(.slice a (B).length c)] w0 (fun ε w' => ε = .returned (.string (strB (hxS B))) ∧ Below w0.heap.size w0 w') := by
  refine Calls.of_ok (n := 28) (F := (fun w => Bs w a c B ∧ True)) Tryd.func27 rfl rfl rfl (by simp) (hf0.pers0.and persT) ?_
  refine sS Tryd.f27 1 [0, 2] [] (fun _ => [(.string ⟨#[]⟩)]) (fun _ => []) (cR [[]] <| cN) (fun _ => ?_)
  refine sS Tryd.f27 5 [0, 2, 3] [] (fun ρ => [(.slice a (B).length c), (.int .i64 (((B).length : Nat) : Int)), (.int .i64 ((2 * ((B).length) : Nat) : Int)), (.slice (some ⟨nb ρ 3, 0, none⟩) (([] : List UInt8)).length (2 * ((B).length))), (.slice (some ⟨nb ρ 3, 0, none⟩) (([] : List UInt8)).length (2 * ((B).length)))]) (fun ρ => [(3, { news := [(nb ρ 3, (.cells (zB (2 * ((B).length))) 5 (0, 0)))] })]) (cR [[], []] <| cA (v := fun ρ => (.int .i64 (IntKind.i64.wrap (2 * (((B).length : Nat) : Int))))) (fun _ => (.int .i64 ((2 * ((B).length) : Nat) : Int))) (fun _ => congrArg (Value.int .i64) (wrap_mulN 2 ((B).length) (by have := h46; omega))) <| cX (o_new1 _ (fun _ => do pure (Next.value (← Instr.makeSlice 56 (.int .i64 0) (.int .i64 ((2 * ((B).length) : Nat) : Int))))) (fun _ z => (.slice (some ⟨z.headD 0, 0, none⟩) (([] : List UInt8)).length (2 * ((B).length)))) (fun _ _ => (.cells (zB (2 * ((B).length))) 5 (0, 0))) (fun _ _ => (by kernel_rfl)) (fun _ => (by kernel_rfl)) (fun _ _ => trivial) (fun _ _ w _ => make_rowL Tryd.underlying56 u8i (([] : List UInt8)) (rfl) (rfl) (Nat.zero_le _) (by have := h46; omega) w)) <| cR [[]] <| cN) (fun ρ2 => ?_)
  refine ok_seq ?_
  refine sS Tryd.f27 3 [2, 3, 10, 11, 12] [] (fun _ => [(.slice a (B).length c), (.int .i64 (((B).length : Nat) : Int)), (.int .i64 0)]) (fun _ => []) (cR [[], [], []] <| cN) (fun _ => ?_)
  refine ok_block ?_
  refine oL (σ := Nat × (List UInt8) × (Array Value)) (fun ⟨i, X, _⟩ => [(2, (.string ⟨#[]⟩)), (3, (.slice (some ⟨nb ρ2 3, 0, none⟩) (X).length (2 * ((B).length)))), (10, (.slice a (B).length c)), (11, (.int .i64 (((B).length : Nat) : Int))), (12, (.int .i64 ((i : Nat) : Int)))]) (fun ⟨_, _, C⟩ => [(nb ρ2 3, (.cells C 5 (0, 0)))]) (fun ⟨i, _, _⟩ => B.length - i)
    (fun ⟨i, X, C⟩ => (i ≤ B.length) ∧ (X = hxS (B.take i)) ∧ (Hd C X) ∧ (C.size = 2 * B.length)) (0, ([] : List UInt8), zB (2 * ((B).length))) (⟨Nat.zero_le _, rfl, Hd.nil _, zB_size _⟩) [] ?_
  rintro ⟨i, X, C⟩ ⟨hi, hX, hC, hs⟩
  change Ok Tryd.prog _ _ 28 [(2, (.string ⟨#[]⟩)), (3, (.slice (some ⟨nb ρ2 3, 0, none⟩) (X).length (2 * ((B).length)))), (10, (.slice a (B).length c)), (11, (.int .i64 (((B).length : Nat) : Int))), (12, (.int .i64 ((i : Nat) : Int)))] _ [(nb ρ2 3, (.cells C 5 (0, 0)))] (fun w => Bs w a c B ∧ True)
  refine sS Tryd.f27 1 [2, 3, 10, 11, 12, 13] [] (fun _ => [(.bool (decide (((i : Nat) : Int) < (((B).length : Nat) : Int))))]) (fun _ => []) (cR [[]] <| cN) (fun _ => ?_)
  refine ok_seq ?_
  refine oC (decide (((i : Nat) : Int) < (((B).length : Nat) : Int))) (fun hb1 => ?_) (fun hb1 => ?_)
  ·
    rw [hb1]
    refine ok_skip ?_
    refine mt_then ?_
    refine ok_seq ?_
    refine ok_block ?_
    refine sS Tryd.f27 3 [2, 3, 5, 10, 11, 12] [] (fun _ => [(.pointer (adr a i)), (.int .u8 ((gB B i : Nat) : Int)), (.int .u8 ((gB B i : Nat) : Int))]) (fun _ => []) (cX (o_semF _ (fun _ => do pure (Next.value (← Instr.indexAt 56 (.slice a (B).length c) (.int .i64 ((i : Nat) : Int))))) (fun _ => (.pointer (adr a i))) (fun _ => (by kernel_rfl)) (fun _ => (by kernel_rfl)) (fun _ _ _ hG => idx_bytes Tryd.underlying56 u8i hG.facts0.now.1 rfl ((show ((i : Nat) : Int) = ((i : Nat) : Int) ∧ i < (B).length from ⟨rfl, (by have := of_decide_eq_true hb1; have := h46; have := hi; have := hx_len hi hX; omega)⟩)).1 ((show ((i : Nat) : Int) = ((i : Nat) : Int) ∧ i < (B).length from ⟨rfl, (by have := of_decide_eq_true hb1; have := h46; have := hi; have := hx_len hi hX; omega)⟩)).2) (fun _ _ _ _ => persT)) <| cX (o_semF _ (fun _ => do pure (Next.value (← Instr.loadAt 5 (.pointer (adr a i))))) (fun _ => (.int .u8 ((gB B i : Nat) : Int))) (fun _ => (by kernel_rfl)) (fun _ => (by kernel_rfl)) (fun _ _ _ hG => ld_bytes Tryd.isAgg5 hG.facts0.now.1 ((show ((i : Nat) : Int) = ((i : Nat) : Int) ∧ i < (B).length from ⟨rfl, (by have := of_decide_eq_true hb1; have := h46; have := hi; have := hx_len hi hX; omega)⟩)).2) (fun _ _ _ _ => persT)) <| cR [[]] <| cN) (fun _ => ?_)
    refine rD Tryd.f27 [0, 0, 2, 6, 0, 16, 48, 126, 255, 511] 10 [2, 3, 10, 11, 12] [1, 0] (fun ρ => [(.slice (some ⟨nb ρ2 3, 0, none⟩) (X).length (2 * ((B).length))), (.int .u8 ((gB B i : Nat) : Int)), (.int .u8 ((gB B i / 16 : Nat) : Int)), (.int .u8 ((hexD (gB B i / 16) : Nat) : Int)), (.int .u8 ((gB B i : Nat) : Int)), (.int .u8 ((gB B i % 16 : Nat) : Int)), (.int .u8 ((hexD (gB B i % 16) : Nat) : Int)), (.slice (some ⟨nb ρ 7, 0, none⟩) (([ob ((hexD (gB B i / 16) : Nat) : Int), ob ((hexD (gB B i % 16) : Nat) : Int)] : List UInt8)).length 2), (.slice (some ⟨nb ρ2 3, 0, none⟩) (X ++ ([ob ((hexD (gB B i / 16) : Nat) : Int), ob ((hexD (gB B i % 16) : Nat) : Int)] : List UInt8)).length (2 * ((B).length))), (.slice (some ⟨nb ρ2 3, 0, none⟩) (X ++ ([ob ((hexD (gB B i / 16) : Nat) : Int), ob ((hexD (gB B i % 16) : Nat) : Int)] : List UInt8)).length (2 * ((B).length)))]) (fun ρ => [(7, { news := [(nb ρ 7, (.cells #[(.int .u8 ((hexD (gB B i / 16) : Nat) : Int)), (.int .u8 ((hexD (gB B i % 16) : Nat) : Int))] 5 (0, 0)))] }), (8, { puts := [(0, nb ρ2 3, (.cells (inpl C (X).length (bs ([ob ((hexD (gB B i / 16) : Nat) : Int), ob ((hexD (gB B i % 16) : Nat) : Int)] : List UInt8))) 5 (0, 0)))] })]) (cR [[], []] <| cB (a := fun ρ => (.int .u8 ((gB B i : Nat) : Int))) (b := fun ρ => (.int .u64 4)) (v := fun ρ => (.int .u8 ((gB B i / 16 : Nat) : Int))) .shr 5 (fun _ w => run_shrU (k := .u8) (x := gB B i) (c := 4) (gB_lt B i) w) <| cX (o_sem _ (fun _ => do pure (Next.value (← Instr.index 9 (.string (strB ([48, 49, 50, 51, 52, 53, 54, 55, 56, 57, 97, 98, 99, 100, 101, 102] : List UInt8))) (.int .u8 ((gB B i / 16 : Nat) : Int))))) (fun _ => (.int .u8 ((hexD (gB B i / 16) : Nat) : Int))) (fun _ => (by kernel_rfl)) (fun _ => (by kernel_rfl)) (fun _ w => (idx_str (S := ([48, 49, 50, 51, 52, 53, 54, 55, 56, 57, 97, 98, 99, 100, 101, 102] : List UInt8)) Tryd.underlying9 ((show ((gB B i / 16 : Nat) : Int) = (((gB B i / 16) : Nat) : Int) ∧ (gB B i / 16) < (([48, 49, 50, 51, 52, 53, 54, 55, 56, 57, 97, 98, 99, 100, 101, 102] : List UInt8)).length from ⟨rfl, (by have := gB_lt B i; show gB B i / 16 < 16; omega)⟩)).1 ((show ((gB B i / 16 : Nat) : Int) = (((gB B i / 16) : Nat) : Int) ∧ (gB B i / 16) < (([48, 49, 50, 51, 52, 53, 54, 55, 56, 57, 97, 98, 99, 100, 101, 102] : List UInt8)).length from ⟨rfl, (by have := gB_lt B i; show gB B i / 16 < 16; omega)⟩)).2 w).trans (by rw [gB_dig (show gB B i / 16 < 16 by have := gB_lt B i; omega)]))) <| cR [[]] <| cA (fun _ => (.int .u8 ((gB B i % 16 : Nat) : Int))) (fun _ => congrArg (Value.int .u8) (and15 (gB_lt B i))) <| cX (o_sem _ (fun _ => do pure (Next.value (← Instr.index 9 (.string (strB ([48, 49, 50, 51, 52, 53, 54, 55, 56, 57, 97, 98, 99, 100, 101, 102] : List UInt8))) (.int .u8 ((gB B i % 16 : Nat) : Int))))) (fun _ => (.int .u8 ((hexD (gB B i % 16) : Nat) : Int))) (fun _ => (by kernel_rfl)) (fun _ => (by kernel_rfl)) (fun _ w => (idx_str (S := ([48, 49, 50, 51, 52, 53, 54, 55, 56, 57, 97, 98, 99, 100, 101, 102] : List UInt8)) Tryd.underlying9 ((show ((gB B i % 16 : Nat) : Int) = (((gB B i % 16) : Nat) : Int) ∧ (gB B i % 16) < (([48, 49, 50, 51, 52, 53, 54, 55, 56, 57, 97, 98, 99, 100, 101, 102] : List UInt8)).length from ⟨rfl, (by have := gB_lt B i; show gB B i % 16 < 16; omega)⟩)).1 ((show ((gB B i % 16 : Nat) : Int) = (((gB B i % 16) : Nat) : Int) ∧ (gB B i % 16) < (([48, 49, 50, 51, 52, 53, 54, 55, 56, 57, 97, 98, 99, 100, 101, 102] : List UInt8)).length from ⟨rfl, (by have := gB_lt B i; show gB B i % 16 < 16; omega)⟩)).2 w).trans (by rw [gB_dig (show gB B i % 16 < 16 by have := gB_lt B i; omega)]))) <| cR [[]] <| cX (o_put1 _ 0 (fun ρ => do pure (Next.value (← Builtin.append_ #[56, 56] 56 #[(.slice (some ⟨nb ρ2 3, 0, none⟩) (X).length (2 * ((B).length))), (.slice (some ⟨nb ρ 7, 0, none⟩) (([ob ((hexD (gB B i / 16) : Nat) : Int), ob ((hexD (gB B i % 16) : Nat) : Int)] : List UInt8)).length 2)]))) (fun _ => nb ρ2 3) (fun _ => (.cells C 5 (0, 0))) (fun _ => (.cells (inpl C (X).length (bs ([ob ((hexD (gB B i / 16) : Nat) : Int), ob ((hexD (gB B i % 16) : Nat) : Int)] : List UInt8))) 5 (0, 0))) (fun _ => (.slice (some ⟨nb ρ2 3, 0, none⟩) (X ++ ([ob ((hexD (gB B i / 16) : Nat) : Int), ob ((hexD (gB B i % 16) : Nat) : Int)] : List UInt8)).length (2 * ((B).length)))) (fun _ => (by kernel_rfl)) (fun _ => (by kernel_rfl)) (fun _ => (by kernel_rfl)) (fun _ => (by kernel_rfl)) (fun _ _ => trivial) (fun ρ _ _ hG hg => app_roomL Tryd.underlying56 u8i hg (Bs.src (tx := 56) Tryd.underlying56 (Bs.of_hd (hG.known (g := nb ρ 7) (o := (.cells #[(.int .u8 ((hexD (gB B i / 16) : Nat) : Int)), (.int .u8 ((hexD (gB B i % 16) : Nat) : Int))] 5 (0, 0))) 57 (by kernel_rfl) (by kernel_rfl)) (hd2 (hexD_rng (by have := gB_lt B i; omega)) (hexD_rng (by have := gB_lt B i; omega))) (Nat.le_refl 2) (Nat.le_of_ble_eq_true rfl))) hs ((by simp only [List.length_cons, List.length_nil]; have := of_decide_eq_true hb1; have := h46; have := hi; have := hx_len hi hX; omega)))) <| cR [[]] <| cN) (fun _ => ?_)
    refine mt_block_n ?_
    refine mt_then ?_
    refine rS Tryd.f27 2 [2, 3, 10, 11, 12] [] (fun _ => [(.int .i64 ((i + 1 : Nat) : Int)), (.int .i64 ((i + 1 : Nat) : Int))]) (fun _ => []) (cA (v := fun ρ => (.int .i64 (IntKind.i64.wrap (((i : Nat) : Int) + 1)))) (fun _ => (.int .i64 ((i + 1 : Nat) : Int))) (fun _ => congrArg (Value.int .i64) (wrap_addN i 1 (by have := of_decide_eq_true hb1; have := h46; have := hi; have := hx_len hi hX; omega))) <| cR [[]] <| cN) (fun _ => ?_)
    exact mN (i + 1, X ++ ([ob ((hexD (gB B i / 16) : Nat) : Int), ob ((hexD (gB B i % 16) : Nat) : Int)] : List UInt8), inpl C (X).length (bs ([ob ((hexD (gB B i / 16) : Nat) : Int), ob ((hexD (gB B i % 16) : Nat) : Int)] : List UInt8))) (by show B.length - (i + 1) < B.length - i; have := of_decide_eq_true hb1; have := h46; have := hi; have := hx_len hi hX; omega) (⟨(by have := of_decide_eq_true hb1; have := h46; have := hi; have := hx_len hi hX; omega), hx_next (by have := of_decide_eq_true hb1; have := h46; have := hi; have := hx_len hi hX; omega) hX, (Hd.inpl hC rfl), ((inpl_size _ _ _ (room_le hs ((by simp only [List.length_cons, List.length_nil]; have := of_decide_eq_true hb1; have := h46; have := hi; have := hx_len hi hX; omega)))).trans hs)⟩) []
  ·
    rw [hb1]
    refine ok_exit ?_
    refine mt_then_e ?_
    refine mt_then_e ?_
    refine mt_block_h ?_
    refine mt_then ?_
    refine sS Tryd.f27 3 [2] [0] (fun _ => [(.slice (some ⟨nb ρ2 3, 0, none⟩) (X).length (2 * ((B).length))), (.string (strB X)), (.string (strB X))]) (fun _ => []) (cR [[]] <| cX (o_semF _ (fun _ => do pure (Next.value (← convert 56 9 (.slice (some ⟨nb ρ2 3, 0, none⟩) (X).length (2 * ((B).length)))))) (fun _ => (.string (strB X))) (fun _ => (by kernel_rfl)) (fun _ => (by kernel_rfl)) (fun _ _ _ hG => str_bytes (xs := X) Tryd.underlying56 Tryd.underlying5 Tryd.underlying9 (Bs.of_hd (hG.known (g := nb ρ2 3) (o := (.cells C 5 (0, 0))) 0 (by kernel_rfl) (by kernel_rfl)) hC (by have := h46; have := hi; have := hx_len hi hX; omega) (by have := h46; have := hi; have := hx_len hi hX; omega)) rfl) (fun _ _ _ _ => persT)) <| cR [[]] <| cN) (fun _ => ?_)
    refine ok_ret ?_
    exact mR (v := (.string (strB X))) (fun _ hS => ⟨congrArg (fun x => Ending.returned (.string (strB x))) (hx_end (by have := of_decide_eq_false hb1; have := h46; have := hi; have := hx_len hi hX; omega) hX), hS.bel⟩)

theorem dsum_any (S : List UInt8) (hS : S.length + 1000 ≤ 140737488351232) (w0 : World) (hf0 : Kb w0 1 (rowK .u32 64 kN)) (hf1 : Kb w0 0 #[(.int .u32 1779033703), (.int .u32 3144134277), (.int .u32 1013904242), (.int .u32 2773480762), (.int .u32 1359893119), (.int .u32 2600822924), (.int .u32 528734635), (.int .u32 1541459225)]) : Calls Tryd.prog 15 #[(.string (strB S))] w0 (fun ε w' => ε = .returned (.string (strB (hxS ((hL (tagN tgD S)).take 4)))) ∧ Below w0.heap.size w0 w') := by
  refine Calls.of_ok (n := 9) (F := (fun w => Kb w 1 (rowK .u32 64 kN) ∧ Kb w 0 #[(.int .u32 1779033703), (.int .u32 3144134277), (.int .u32 1013904242), (.int .u32 2773480762), (.int .u32 1359893119), (.int .u32 2600822924), (.int .u32 528734635), (.int .u32 1541459225)] ∧ True)) Tryd.func15 rfl rfl rfl (by simp) (hf0.pers0.and (hf1.pers0.and persT)) ?_
  refine sS Tryd.f15 1 [0, 2] [] (fun _ => [(.string ⟨#[]⟩)]) (fun _ => []) (cR [[]] <| cN) (fun _ => ?_)
  refine sSf Tryd.f15 5 [2, 3] [] (fun ρ => [(.string (strB S)), (.slice (oa ρ 1) (S).length (nb ρ 1)), (.agg (hB (tagN tgD S))), (pt (nb ρ 3)), undef]) (fun ρ => [(3, { news := [(nb ρ 3, (.cells (hB 0) 36 (0, 0)))] }), (4, { puts := [(24, nb ρ 3, (.cells (hB (tagN tgD S)) 36 (0, 0)))] })]) (fun ρ => [(1, fun w => Fs w0 w (oa ρ 1) (nb ρ 1) S)]) (fun ρ => (fun w => Kb w 1 (rowK .u32 64 kN) ∧ Kb w 0 #[(.int .u32 1779033703), (.int .u32 3144134277), (.int .u32 1013904242), (.int .u32 2773480762), (.int .u32 1359893119), (.int .u32 2600822924), (.int .u32 528734635), (.int .u32 1541459225)] ∧ Fs w0 w (oa ρ 1) (nb ρ 1) S ∧ True)) (fun _ => True) (fun _ _ hF hf => ⟨⟨hF.1, hF.2.1, hf 1, trivial⟩, trivial⟩) (cR [[]] <| cX (o_newF _ (fun _ => do pure (Next.value (← convert 9 56 (.string (strB S))))) (fun _ α κ => (.slice α (S).length κ)) (fun _ => S) (fun _ _ => (by kernel_rfl)) (fun _ => (by kernel_rfl)) (fun _ _ => (by kernel_rfl)) (fun _ _ w _ => bytes_str Tryd.underlying9 Tryd.underlying56 Tryd.underlying5 S (by have := hS; omega) w)) <| cX (o_callP _ 26 (fun ρ => #[(.string ⟨#[108, 105, 103, 104, 116, 99, 108, 105, 101, 110, 116, 47, 100, 101, 115, 99, 114, 105, 112, 116, 111, 114]⟩), (.slice (oa ρ 1) (S).length (nb ρ 1))]) (fun _ => (.agg (hB (tagN tgD S)))) (fun _ _ => (by kernel_rfl)) (fun _ => (by kernel_rfl)) (fun _ _ => (by kernel_rfl)) (fun _ _ => trivial) (fun ρ _ w hG => tagged_any tgD (oa ρ 1) (nb ρ 1) S (by decide) (by have := hS; omega) w ((show Fs w0 w (oa ρ 1) (nb ρ 1) S from (hG.facts 1 rfl).now).1) hG.facts0.now.1 hG.facts0.now.2.1)) <| cR [[], [24]] <| cN) (fun ρ2 _ => ?_)
  refine sS Tryd.f15 3 [2] [0] (fun _ => [(.slice (some ⟨nb ρ2 3, 0, none⟩) ((hL (tagN tgD S)).take 4).length 32), (.string (strB (hxS ((hL (tagN tgD S)).take 4)))), (.string (strB (hxS ((hL (tagN tgD S)).take 4))))]) (fun _ => []) (cR [[]] <| cX (o_callP _ 27 (fun _ => #[(.slice (some ⟨nb ρ2 3, 0, none⟩) ((hL (tagN tgD S)).take 4).length 32)]) (fun _ => (.string (strB (hxS ((hL (tagN tgD S)).take 4))))) (fun _ _ => (by kernel_rfl)) (fun _ => (by kernel_rfl)) (fun _ _ => (by kernel_rfl)) (fun _ _ => trivial) (fun _ _ w hG => hex_any (some ⟨nb ρ2 3, 0, none⟩) 32 ((hL (tagN tgD S)).take 4) (by rw [List.length_take, hL_length]; decide) w (Bs.of_hd (c := 32) (hG.known (g := nb ρ2 3) (o := (.cells (hB (tagN tgD S)) 36 (0, 0))) 0 (by kernel_rfl) (by kernel_rfl)) (Hd.take (hd_hB _) _) (Nat.le_of_ble_eq_true rfl) (Nat.le_of_ble_eq_true rfl)))) <| cR [[]] <| cN) (fun _ => ?_)
  refine ok_ret ?_
  exact mR (v := (.string (strB (hxS ((hL (tagN tgD S)).take 4))))) (fun _ hS => ⟨rfl, hS.bel⟩)

theorem dsanew_any (dd : Nat) (edd : tagN tgD ([] : List UInt8) = dd) (w0 : World) (hf0 : Kb w0 1 (rowK .u32 64 kN)) (hf1 : Kb w0 0 #[(.int .u32 1779033703), (.int .u32 3144134277), (.int .u32 1013904242), (.int .u32 2773480762), (.int .u32 1359893119), (.int .u32 2600822924), (.int .u32 528734635), (.int .u32 1541459225)]) : Calls Tryd.prog 4 #[] w0 (fun ε w' => ε = .returned (.bool true) ∧ Below w0.heap.size w0 w') := by
  refine Calls.of_ok (n := 12) (F := (fun w => Kb w 1 (rowK .u32 64 kN) ∧ Kb w 0 #[(.int .u32 1779033703), (.int .u32 3144134277), (.int .u32 1013904242), (.int .u32 2773480762), (.int .u32 1359893119), (.int .u32 2600822924), (.int .u32 528734635), (.int .u32 1541459225)] ∧ True)) Tryd.func4 rfl rfl rfl (by simp) (hf0.pers0.and (hf1.pers0.and persT)) ?_
  refine sS Tryd.f4 1 [0] [] (fun _ => [(.bool false)]) (fun _ => []) (cR [[]] <| cN) (fun _ => ?_)
  refine sS Tryd.f4 12 [0] [] (fun _ => [(.int .i64 (kdN 6)), (.bool true), (.bool true), (.int .i64 (kdN 9)), (.bool true), (.bool true), (.bool true), (.string (strB (hxS ((hL dd).take 4)))), (.int .i64 (((hxS ((hL dd).take 4)).length : Nat) : Int)), (.bool true), (.bool true), (.bool true)]) (fun _ => []) (cC (fun _ w => dkids_any 6 w) <| cA (v := fun ρ => (.bool ((kdN 6) == 2))) (fun _ => (.bool true)) (fun _ => congrArg Value.bool (show ((kdN 6) == 2) = true from rfl)) <| cR [[]] <| cC (fun _ w => dkids_any 9 w) <| cA (v := fun ρ => (.bool ((kdN 9) == (-1)))) (fun _ => (.bool true)) (fun _ => congrArg Value.bool (show ((kdN 9) == (-1)) = true from rfl)) <| cR [[], []] <| cX (o_callP _ 15 (fun _ => #[(.string ⟨#[]⟩)]) (fun _ => (.string (strB (hxS ((hL dd).take 4))))) (fun _ _ => (by kernel_rfl)) (fun _ => (by kernel_rfl)) (fun _ _ => (by kernel_rfl)) (fun _ _ => trivial) (fun _ _ w hG => (by as_aux_lemma => (have hcall := dsum_any ([] : List UInt8) (by decide) w hG.facts0.now.1 hG.facts0.now.2.1; rw [edd] at hcall; exact hcall)))) <| cR [[]] <| cA (fun _ => (.bool true)) (fun _ => congrArg Value.bool (sum_8 dd)) <| cR [[], []] <| cN) (fun _ => ?_)
  refine ok_ret ?_
  exact mR (v := (.bool true)) (fun _ hS => ⟨rfl, hS.bel⟩)
theorem dsane_any (w0 : World) (hf0 : Kb w0 1 (rowK .u32 64 kN)) (hf1 : Kb w0 0 #[(.int .u32 1779033703), (.int .u32 3144134277), (.int .u32 1013904242), (.int .u32 2773480762), (.int .u32 1359893119), (.int .u32 2600822924), (.int .u32 528734635), (.int .u32 1541459225)]) : Calls Tryd.prog 4 #[] w0 (fun ε w' => ε = .returned (.bool true) ∧ Below w0.heap.size w0 w') := dsanew_any _ rfl w0 hf0 hf1
end Go.Proofs.YtlkbhiaoolddmaaDoor

/-! Numbers modulo a number: reduce. -/
namespace Go.Proofs.YtlkbhiaoolddmaaDoor
open Go Go.RowKit

theorem reduce_w (a : Nat) (m : Nat) (ha : a < M) (hm : m < M) (w0 : World) : Calls Tryd.prog 81 #[(U a), (U m)] w0 (fun ε w' => ε = .returned (U (redN a m)) ∧ Below w0.heap.size w0 w') := by
  refine Calls.of_ok (n := 22) (F := (fun _ => True)) Tryd.func81 rfl rfl rfl (by simp) (persTrue (fun _ => trivial)) ?_
  refine sS Tryd.f81 3 [2, 3, 4] [] (fun ρ => [(pt (nb ρ 0)), (pt (nb ρ 1)), (pt (nb ρ 2))]) (fun ρ => [(0, { news := [(nb ρ 0, (.cells (cU a) 43 (0, 0)))] }), (1, { news := [(nb ρ 1, (.cells (cU m) 43 (0, 0)))] }), (2, { news := [(nb ρ 2, (.cells (cU 0) 43 (0, 0)))] })]) (cR [[], [], []] <| cN) (fun ρ1 => ?_)
  refine ok_seq ?_
  refine sS Tryd.f81 4 [2, 3, 4, 11] [] (fun _ => [(U a), (U m), (.int .i64 (cmpN a m)), (.bool (decide ((cmpN a m) < 0)))]) (fun _ => []) (cR [[0], [1]] <| cC (fun _ w => cmp_any a m w ha hm) <| cR [[]] <| cN) (fun _ => ?_)
  refine oC (decide ((cmpN a m) < 0)) (fun hb1 => ?_) (fun hb1 => ?_)
  ·
    rw [hb1]
    refine sS Tryd.f81 2 [2, 3, 4] [] (fun _ => [(U a), undef]) (fun _ => [(1, { puts := [(2, nb ρ1 2, (.cells (cU a) 43 (0, 0)))] })]) (cR [[0], [2]] <| cN) (fun _ => ?_)
    refine ok_ret ?_
    refine mt_then_r ?_
    exact mR (v := (U a)) (ps := [2,2,2,2]) (fun _ hS => ⟨congrArg (fun x => Ending.returned (U x)) (red_lt hb1), hS.bel⟩)
  ·
    rw [hb1]
    refine ok_skip ?_
    refine mt_then ?_
    refine sS Tryd.f81 13 [4, 6] [0, 0, 1, 0, 1] (fun ρ => [(U 0), (U a), (U m), (.tuple #[(U (divQ 0 a m)), (U (divR 0 a m)), (.bool (decide (0 < m)))]), (.tuple #[(U (divQ 0 a m)), (U (divR 0 a m)), (.bool (decide (0 < m)))]), (U (divQ 0 a m)), (U (divR 0 a m)), (.bool (decide (0 < m))), (pt (nb ρ 8)), (pt (nb ρ 9)), undef, undef, (.bool (decide (0 < m)))]) (fun ρ => [(8, { news := [(nb ρ 8, (.cells (cU 0) 43 (0, 0)))] }), (9, { news := [(nb ρ 9, (.cells (cU 0) 43 (0, 0)))] }), (10, { puts := [(67, nb ρ 8, (.cells (cU (divQ 0 a m)) 43 (0, 0)))] }), (11, { puts := [(75, nb ρ 9, (.cells (cU (divR 0 a m)) 43 (0, 0)))] })]) (cR [[], [0], [1]] <| cC (fun _ w => div_any 0 a m w (by decide +kernel) ha hm) <| cR [[], [], [], [], [], [], [67], [75], []] <| cN) (fun _ => ?_)
    refine sS Tryd.f81 2 [4] [1, 0] (fun _ => [(U (divR 0 a m)), undef]) (fun _ => [(1, { puts := [(0, nb ρ1 2, (.cells (cU (divR 0 a m)) 43 (0, 0)))] })]) (cR [[1], [0]] <| cN) (fun _ => ?_)
    refine ok_ret ?_
    exact mR (v := (U (divR 0 a m))) (fun _ hS => ⟨congrArg (fun x => Ending.returned (U x)) (red_div hb1), hS.bel⟩)
theorem reduce_any (a m : Nat) (w0 : World) (ha : a < M) (hm : m < M) : Calls Tryd.prog 81 #[U a, U m] w0 (fun ε w' => ε = .returned (U (redN a m)) ∧ Below w0.heap.size w0 w') := reduce_w a m ha hm w0

theorem rreduce_w (a : Nat) (m : Nat) (ha : a < M) (hm : m < M) (w0 : World) : Calls Tryd.prog 75 #[(U a), (U m)] w0 (fun ε w' => ε = .returned (U (redN a m)) ∧ Below w0.heap.size w0 w') := by
  refine Calls.of_ok (n := 17) (F := (fun _ => True)) Tryd.func75 rfl rfl rfl (by simp) (persTrue (fun _ => trivial)) ?_
  refine sS Tryd.f75 3 [2, 3, 4] [] (fun ρ => [(pt (nb ρ 0)), (pt (nb ρ 1)), (pt (nb ρ 2))]) (fun ρ => [(0, { news := [(nb ρ 0, (.cells (cU a) 43 (0, 0)))] }), (1, { news := [(nb ρ 1, (.cells (cU m) 43 (0, 0)))] }), (2, { news := [(nb ρ 2, (.cells (cU 0) 43 (0, 0)))] })]) (cR [[], [], []] <| cN) (fun ρ1 => ?_)
  refine sS Tryd.f75 13 [4, 6] [0, 0, 1, 0, 1] (fun ρ => [(U 0), (U a), (U m), (.tuple #[(U (divQ 0 a m)), (U (divR 0 a m)), (.bool (decide (0 < m)))]), (.tuple #[(U (divQ 0 a m)), (U (divR 0 a m)), (.bool (decide (0 < m)))]), (U (divQ 0 a m)), (U (divR 0 a m)), (.bool (decide (0 < m))), (pt (nb ρ 8)), (pt (nb ρ 9)), undef, undef, (.bool (decide (0 < m)))]) (fun ρ => [(8, { news := [(nb ρ 8, (.cells (cU 0) 43 (0, 0)))] }), (9, { news := [(nb ρ 9, (.cells (cU 0) 43 (0, 0)))] }), (10, { puts := [(67, nb ρ 8, (.cells (cU (divQ 0 a m)) 43 (0, 0)))] }), (11, { puts := [(75, nb ρ 9, (.cells (cU (divR 0 a m)) 43 (0, 0)))] })]) (cR [[], [0], [1]] <| cC (fun _ w => rdiv_any 0 a m w (by decide +kernel) ha hm) <| cR [[], [], [], [], [], [], [67], [75], []] <| cN) (fun _ => ?_)
  refine sS Tryd.f75 2 [4] [1, 0] (fun _ => [(U (divR 0 a m)), undef]) (fun _ => [(1, { puts := [(0, nb ρ1 2, (.cells (cU (divR 0 a m)) 43 (0, 0)))] })]) (cR [[1], [0]] <| cN) (fun _ => ?_)
  refine ok_ret ?_
  exact mR (v := (U (divR 0 a m))) (fun _ hS => ⟨congrArg (fun x => Ending.returned (U x)) (red_div0 a m), hS.bel⟩)
theorem rreduce_any (a m : Nat) (w0 : World) (ha : a < M) (hm : m < M) : Calls Tryd.prog 75 #[U a, U m] w0 (fun ε w' => ε = .returned (U (redN a m)) ∧ Below w0.heap.size w0 w') := rreduce_w a m ha hm w0
end Go.Proofs.YtlkbhiaoolddmaaDoor

/-! Products: the walks. -/
namespace Go.Proofs.YtlkbhiaoolddmaaDoor
open Go Go.RowKit
theorem mul64_any (x y : Int) (hx : Word x) (hy : Word y) (w : World) : Calls Tryd.prog 84 #[.int .u64 x, .int .u64 y] w fun ε w' => ε = .returned (.tuple #[.int .u64 (mulHi x y), .int .u64 (mulLo x y)]) ∧ Below w.heap.size w w' := by
  obtain ⟨x, rfl⟩ := Int.eq_ofNat_of_zero_le hx.1
  obtain ⟨y, rfl⟩ := Int.eq_ofNat_of_zero_le hy.1
  refine (mul64_nat x y (by have := hx.2; omega) (by have := hy.2; omega) w).mono ?_
  rintro e w' ⟨rfl, rfl⟩
  refine ⟨?_, Below.refl _ _⟩
  unfold mulHi mulLo
  rw [Int.natCast_ediv, Int.natCast_emod, Int.natCast_mul]; rfl
theorem word_lit (n : Nat) (h : n < 18446744073709551616) : Word (n : Int) := ⟨by omega, by omega⟩

theorem mul_w (a : Nat) (b : Nat) (ha : a < M) (hb : b < M) (w0 : World) : Calls Tryd.prog 79 #[(U a), (U b)] w0 (fun ε w' => ε = .returned (.tuple #[(U (a * b / M)), (U (a * b % M))]) ∧ Below w0.heap.size w0 w') := by
  refine Calls.of_ok (n := 69) (F := (fun _ => True)) Tryd.func79 rfl rfl rfl (by simp) (persTrue (fun _ => trivial)) ?_
  refine sS Tryd.f79 4 [2, 3, 4, 5] [] (fun ρ => [(pt (nb ρ 0)), (pt (nb ρ 1)), (pt (nb ρ 2)), (pt (nb ρ 3))]) (fun ρ => [(0, { news := [(nb ρ 0, (.cells (cU a) 43 (0, 0)))] }), (1, { news := [(nb ρ 1, (.cells (cU b) 43 (0, 0)))] }), (2, { news := [(nb ρ 2, (.cells (cU 0) 43 (0, 0)))] }), (3, { news := [(nb ρ 3, (.cells (cU 0) 43 (0, 0)))] })]) (cR [[], [], [], []] <| cN) (fun ρ1 => ?_)
  refine sS Tryd.f79 1 [2, 3, 4, 5, 6] [] (fun ρ => [(pt (nb ρ 0))]) (fun ρ => [(0, { news := [(nb ρ 0, (.cells #[(.int .u64 0), (.int .u64 0), (.int .u64 0), (.int .u64 0), (.int .u64 0), (.int .u64 0), (.int .u64 0), (.int .u64 0)] 97 (0, 0)))] })]) (cR [[]] <| cN) (fun ρ2 => ?_)
  refine ok_seq ?_
  refine sS Tryd.f79 1 [2, 3, 4, 5, 6, 14] [] (fun _ => [(.int .i64 0)]) (fun _ => []) (cR [[]] <| cN) (fun _ => ?_)
  refine ok_block ?_
  refine oL (σ := Nat × (Nat → Int)) (fun ⟨i, _⟩ => [(2, (pt (nb ρ1 0))), (3, (pt (nb ρ1 1))), (4, (pt (nb ρ1 2))), (5, (pt (nb ρ1 3))), (6, (pt (nb ρ2 0))), (14, (.int .i64 ((i : Nat) : Int)))]) (fun ⟨_, f⟩ => [(nb ρ1 0, (.cells (cU a) 43 (0, 0))), (nb ρ1 1, (.cells (cU b) 43 (0, 0))), (nb ρ1 2, (.cells (cU 0) 43 (0, 0))), (nb ρ1 3, (.cells (cU 0) 43 (0, 0))), (nb ρ2 0, (.cells (c8 f) 97 (0, 0)))]) (fun ⟨i, _⟩ => 4 - i)
    (fun ⟨i, f⟩ => (i ≤ 4) ∧ (MulO a b i f)) (0, (fun _ => 0)) (⟨by omega, mulO_zero a b⟩) [] ?_
  rintro ⟨i, f⟩ ⟨hi, hO⟩
  change Ok Tryd.prog _ _ 69 [(2, (pt (nb ρ1 0))), (3, (pt (nb ρ1 1))), (4, (pt (nb ρ1 2))), (5, (pt (nb ρ1 3))), (6, (pt (nb ρ2 0))), (14, (.int .i64 ((i : Nat) : Int)))] _ [(nb ρ1 0, (.cells (cU a) 43 (0, 0))), (nb ρ1 1, (.cells (cU b) 43 (0, 0))), (nb ρ1 2, (.cells (cU 0) 43 (0, 0))), (nb ρ1 3, (.cells (cU 0) 43 (0, 0))), (nb ρ2 0, (.cells (c8 f) 97 (0, 0)))] (fun _ => True)
  refine sS Tryd.f79 1 [2, 3, 4, 5, 6, 14, 15] [] (fun _ => [(.bool (decide (((i : Nat) : Int) < 4)))]) (fun _ => []) (cR [[]] <| cN) (fun _ => ?_)
  refine ok_seq ?_
  refine oC (decide (((i : Nat) : Int) < 4)) (fun hb1 => ?_) (fun hb1 => ?_)
  ·
    rw [hb1]
    refine ok_skip ?_
    refine mt_then ?_
    refine ok_seq ?_
    refine ok_block ?_
    refine sS Tryd.f79 2 [2, 3, 4, 5, 6, 7, 14] [] (fun _ => [(.int .i64 ((i : Nat) : Int)), (.int .i64 ((i : Nat) : Int))]) (fun _ => []) (cR [[], []] <| cN) (fun _ => ?_)
    refine sS Tryd.f79 1 [2, 3, 4, 5, 6, 7, 8, 14] [] (fun _ => [(.int .u64 0)]) (fun _ => []) (cR [[]] <| cN) (fun _ => ?_)
    refine ok_seq ?_
    refine sS Tryd.f79 1 [2, 3, 4, 5, 6, 7, 8, 14, 17] [] (fun _ => [(.int .i64 0)]) (fun _ => []) (cR [[]] <| cN) (fun _ => ?_)
    refine ok_block ?_
    refine oL (σ := Nat × (Nat → Int) × Int) (fun ⟨j, _, c⟩ => [(2, (pt (nb ρ1 0))), (3, (pt (nb ρ1 1))), (4, (pt (nb ρ1 2))), (5, (pt (nb ρ1 3))), (6, (pt (nb ρ2 0))), (7, (.int .i64 ((i : Nat) : Int))), (8, (.int .u64 c)), (14, (.int .i64 ((i : Nat) : Int))), (17, (.int .i64 ((j : Nat) : Int)))]) (fun ⟨_, u, _⟩ => [(nb ρ1 0, (.cells (cU a) 43 (0, 0))), (nb ρ1 1, (.cells (cU b) 43 (0, 0))), (nb ρ1 2, (.cells (cU 0) 43 (0, 0))), (nb ρ1 3, (.cells (cU 0) 43 (0, 0))), (nb ρ2 0, (.cells (c8 u) 97 (0, 0)))]) (fun ⟨j, _, _⟩ => 4 - j)
      (fun ⟨j, u, c⟩ => (j ≤ 4) ∧ (MulI a b i j u c)) (0, f, 0) (⟨by omega, mulO_begin hO⟩) [] ?_
    rintro ⟨j, u, c⟩ ⟨hj, hM⟩
    change Ok Tryd.prog _ _ 69 [(2, (pt (nb ρ1 0))), (3, (pt (nb ρ1 1))), (4, (pt (nb ρ1 2))), (5, (pt (nb ρ1 3))), (6, (pt (nb ρ2 0))), (7, (.int .i64 ((i : Nat) : Int))), (8, (.int .u64 c)), (14, (.int .i64 ((i : Nat) : Int))), (17, (.int .i64 ((j : Nat) : Int)))] _ [(nb ρ1 0, (.cells (cU a) 43 (0, 0))), (nb ρ1 1, (.cells (cU b) 43 (0, 0))), (nb ρ1 2, (.cells (cU 0) 43 (0, 0))), (nb ρ1 3, (.cells (cU 0) 43 (0, 0))), (nb ρ2 0, (.cells (c8 u) 97 (0, 0)))] (fun _ => True)
    refine sS Tryd.f79 1 [2, 3, 4, 5, 6, 7, 8, 14, 17, 18] [] (fun _ => [(.bool (decide (((j : Nat) : Int) < 4)))]) (fun _ => []) (cR [[]] <| cN) (fun _ => ?_)
    refine ok_seq ?_
    refine oC (decide (((j : Nat) : Int) < 4)) (fun hb2 => ?_) (fun hb2 => ?_)
    ·
      rw [hb2]
      refine ok_skip ?_
      refine mt_then ?_
      refine ok_seq ?_
      refine ok_block ?_
      refine sS Tryd.f79 2 [2, 3, 4, 5, 6, 7, 8, 9, 14, 17] [] (fun _ => [(.int .i64 ((j : Nat) : Int)), (.int .i64 ((j : Nat) : Int))]) (fun _ => []) (cR [[], []] <| cN) (fun _ => ?_)
      refine sD Tryd.f79 [0, 1, 3, 0, 8, 24, 63, 127, 255, 255, 511, 2047] 12 [2, 3, 4, 5, 6, 7, 8, 9, 10, 11, 14, 17] [] (fun _ => [(.int .i64 ((i : Nat) : Int)), (.pointer (some ⟨nb ρ1 0, i, none⟩)), (.int .u64 (wd a i)), (.int .i64 ((j : Nat) : Int)), (.pointer (some ⟨nb ρ1 1, j, none⟩)), (.int .u64 (wd b j)), (.tuple #[(.int .u64 (mulHi (wd a i) (wd b j))), (.int .u64 (mulLo (wd a i) (wd b j)))]), (.tuple #[(.int .u64 (mulHi (wd a i) (wd b j))), (.int .u64 (mulLo (wd a i) (wd b j)))]), (.int .u64 (mulHi (wd a i) (wd b j))), (.int .u64 (mulLo (wd a i) (wd b j))), (.int .u64 (mulHi (wd a i) (wd b j))), (.int .u64 (mulLo (wd a i) (wd b j)))]) (fun _ => []) (cR [[]] <| cX (o_sem _ (fun _ => do pure (Next.value (← Instr.indexAt 43 (pt (nb ρ1 0)) (.int .i64 ((i : Nat) : Int))))) (fun _ => (.pointer (some ⟨nb ρ1 0, i, none⟩))) (fun _ => by kernel_rfl) (fun _ => by kernel_rfl) (fun _ w => run_idx_nat (n := ((i : Nat) : Int)) (i := i) Tryd.underlying43 Tryd.sizeOf41 (⟨rfl, by have := of_decide_eq_true hb1; omega⟩) w)) <| cX (o_ld _ 0 41 (fun _ => nb ρ1 0) (fun _ => i) (fun _ => (cU a)) 43 (0, 0) (fun _ => (.int .u64 (wd a i))) (fun _ => by kernel_rfl) Tryd.isAgg41 (fun _ => cU_get a i (by have := of_decide_eq_true hb1; omega))) <| cR [[]] <| cX (o_sem _ (fun _ => do pure (Next.value (← Instr.indexAt 43 (pt (nb ρ1 1)) (.int .i64 ((j : Nat) : Int))))) (fun _ => (.pointer (some ⟨nb ρ1 1, j, none⟩))) (fun _ => by kernel_rfl) (fun _ => by kernel_rfl) (fun _ w => run_idx_nat (n := ((j : Nat) : Int)) (i := j) Tryd.underlying43 Tryd.sizeOf41 (⟨rfl, by have := of_decide_eq_true hb2; omega⟩) w)) <| cX (o_ld _ 1 41 (fun _ => nb ρ1 1) (fun _ => j) (fun _ => (cU b)) 43 (0, 0) (fun _ => (.int .u64 (wd b j))) (fun _ => by kernel_rfl) Tryd.isAgg41 (fun _ => cU_get b j (by have := of_decide_eq_true hb2; omega))) <| cC (fun _ w => mul64_any (wd a i) (wd b j) (wd_word a i) (wd_word b j) w) <| cR [[], [], [], [], []] <| cN) (fun _ => ?_)
      refine sS Tryd.f79 12 [2, 3, 4, 5, 6, 7, 8, 9, 10, 12, 13, 14, 17] [] (fun _ => [(.int .u64 (mulLo (wd a i) (wd b j))), (.int .i64 ((i : Nat) : Int)), (.int .i64 ((j : Nat) : Int)), (.int .i64 ((i + j : Nat) : Int)), (.pointer (some ⟨nb ρ2 0, i + j, none⟩)), (.int .u64 (u (i + j))), (.tuple #[(.int .u64 (addLo (mulLo (wd a i) (wd b j)) (u (i + j)) 0)), (.int .u64 (addHi (mulLo (wd a i) (wd b j)) (u (i + j)) 0))]), (.tuple #[(.int .u64 (addLo (mulLo (wd a i) (wd b j)) (u (i + j)) 0)), (.int .u64 (addHi (mulLo (wd a i) (wd b j)) (u (i + j)) 0))]), (.int .u64 (addLo (mulLo (wd a i) (wd b j)) (u (i + j)) 0)), (.int .u64 (addHi (mulLo (wd a i) (wd b j)) (u (i + j)) 0)), (.int .u64 (addLo (mulLo (wd a i) (wd b j)) (u (i + j)) 0)), (.int .u64 (addHi (mulLo (wd a i) (wd b j)) (u (i + j)) 0))]) (fun _ => []) (cR [[], [], []] <| cA (v := fun ρ => (.int .i64 (IntKind.i64.wrap (((i : Nat) : Int) + ((j : Nat) : Int))))) (fun _ => (.int .i64 ((i + j : Nat) : Int))) (fun _ => congrArg (Value.int .i64) (wrap_add_nat i j (by have := of_decide_eq_true hb1; have := of_decide_eq_true hb2; omega))) <| cX (o_sem _ (fun _ => do pure (Next.value (← Instr.indexAt 97 (pt (nb ρ2 0)) (.int .i64 ((i + j : Nat) : Int))))) (fun _ => (.pointer (some ⟨nb ρ2 0, i + j, none⟩))) (fun _ => by kernel_rfl) (fun _ => by kernel_rfl) (fun _ w => run_idx_nat (n := ((i + j : Nat) : Int)) (i := i + j) Tryd.underlying97 Tryd.sizeOf41 (⟨rfl, by have := of_decide_eq_true hb1; have := of_decide_eq_true hb2; omega⟩) w)) <| cX (o_ld _ 4 41 (fun _ => nb ρ2 0) (fun _ => i + j) (fun _ => (c8 u)) 97 (0, 0) (fun _ => (.int .u64 (u (i + j)))) (fun _ => by kernel_rfl) Tryd.isAgg41 (fun _ => c8_get u (i + j) (by have := of_decide_eq_true hb1; have := of_decide_eq_true hb2; omega))) <| cX (o_sem _ (fun _ => callFunc 85 #[(.int .u64 (mulLo (wd a i) (wd b j))), (.int .u64 (u (i + j))), (.int .u64 0)]) (fun _ => (.tuple #[(.int .u64 (addLo (mulLo (wd a i) (wd b j)) (u (i + j)) 0)), (.int .u64 (addHi (mulLo (wd a i) (wd b j)) (u (i + j)) 0))])) (fun _ => by kernel_rfl) (fun _ => by kernel_rfl) (fun _ w => (add64 (mulLo (wd a i) (wd b j)) (u (i + j)) 0 (word_mulLo _ _) (hM.word _) bit_zero) w)) <| cR [[], [], [], [], []] <| cN) (fun _ => ?_)
      refine sS Tryd.f79 4 [2, 3, 4, 5, 6, 7, 8, 9, 10, 12, 13, 14, 17] [] (fun _ => [(.int .u64 (mulHi (wd a i) (wd b j))), (.int .u64 (addHi (mulLo (wd a i) (wd b j)) (u (i + j)) 0)), (.int .u64 (IntKind.u64.wrap ((mulHi (wd a i) (wd b j)) + (addHi (mulLo (wd a i) (wd b j)) (u (i + j)) 0)))), (.int .u64 (IntKind.u64.wrap ((mulHi (wd a i) (wd b j)) + (addHi (mulLo (wd a i) (wd b j)) (u (i + j)) 0))))]) (fun _ => []) (cR [[], [], [], []] <| cN) (fun _ => ?_)
      refine dRs [(2, (pt (nb ρ1 0))), (3, (pt (nb ρ1 1))), (4, (pt (nb ρ1 2))), (5, (pt (nb ρ1 3))), (6, (pt (nb ρ2 0))), (7, (.int .i64 ((i : Nat) : Int))), (8, (.int .u64 c)), (9, (.int .i64 ((j : Nat) : Int))), (10, (.int .u64 (IntKind.u64.wrap ((mulHi (wd a i) (wd b j)) + (addHi (mulLo (wd a i) (wd b j)) (u (i + j)) 0))))), (12, (.int .u64 (addLo (mulLo (wd a i) (wd b j)) (u (i + j)) 0))), (13, (.int .u64 (addHi (mulLo (wd a i) (wd b j)) (u (i + j)) 0))), (14, (.int .i64 ((i : Nat) : Int))), (17, (.int .i64 ((j : Nat) : Int)))] [(nb ρ1 0, (.cells (cU a) 43 (0, 0))), (nb ρ1 1, (.cells (cU b) 43 (0, 0))), (nb ρ1 2, (.cells (cU 0) 43 (0, 0))), (nb ρ1 3, (.cells (cU 0) 43 (0, 0))), (nb ρ2 0, (.cells (c8 u) 97 (0, 0)))] ?_
      refine sS Tryd.f79 8 [2, 3, 4, 5, 6, 7, 8, 9, 10, 12, 13, 14, 17] [] (fun _ => [(.int .u64 (addLo (mulLo (wd a i) (wd b j)) (u (i + j)) 0)), (.int .u64 c), (.tuple #[(.int .u64 (addLo (addLo (mulLo (wd a i) (wd b j)) (u (i + j)) 0) c 0)), (.int .u64 (addHi (addLo (mulLo (wd a i) (wd b j)) (u (i + j)) 0) c 0))]), (.tuple #[(.int .u64 (addLo (addLo (mulLo (wd a i) (wd b j)) (u (i + j)) 0) c 0)), (.int .u64 (addHi (addLo (mulLo (wd a i) (wd b j)) (u (i + j)) 0) c 0))]), (.int .u64 (addLo (addLo (mulLo (wd a i) (wd b j)) (u (i + j)) 0) c 0)), (.int .u64 (addHi (addLo (mulLo (wd a i) (wd b j)) (u (i + j)) 0) c 0)), (.int .u64 (addLo (addLo (mulLo (wd a i) (wd b j)) (u (i + j)) 0) c 0)), (.int .u64 (addHi (addLo (mulLo (wd a i) (wd b j)) (u (i + j)) 0) c 0))]) (fun _ => []) (cR [[], []] <| cX (o_sem _ (fun _ => callFunc 85 #[(.int .u64 (addLo (mulLo (wd a i) (wd b j)) (u (i + j)) 0)), (.int .u64 c), (.int .u64 0)]) (fun _ => (.tuple #[(.int .u64 (addLo (addLo (mulLo (wd a i) (wd b j)) (u (i + j)) 0) c 0)), (.int .u64 (addHi (addLo (mulLo (wd a i) (wd b j)) (u (i + j)) 0) c 0))])) (fun _ => by kernel_rfl) (fun _ => by kernel_rfl) (fun _ w => (add64 (addLo (mulLo (wd a i) (wd b j)) (u (i + j)) 0) c 0 (word_addLo _ _ _) hM.car bit_zero) w)) <| cR [[], [], [], [], []] <| cN) (fun _ => ?_)
      refine rS Tryd.f79 10 [2, 3, 4, 5, 6, 7, 8, 14, 17] [] (fun _ => [(.int .i64 ((i : Nat) : Int)), (.int .i64 ((j : Nat) : Int)), (.int .i64 ((i + j : Nat) : Int)), (.int .u64 (addLo (addLo (mulLo (wd a i) (wd b j)) (u (i + j)) 0) c 0)), (.int .u64 (IntKind.u64.wrap ((mulHi (wd a i) (wd b j)) + (addHi (mulLo (wd a i) (wd b j)) (u (i + j)) 0)))), (.int .u64 (addHi (addLo (mulLo (wd a i) (wd b j)) (u (i + j)) 0) c 0)), (.int .u64 (IntKind.u64.wrap ((IntKind.u64.wrap ((mulHi (wd a i) (wd b j)) + (addHi (mulLo (wd a i) (wd b j)) (u (i + j)) 0))) + (addHi (addLo (mulLo (wd a i) (wd b j)) (u (i + j)) 0) c 0)))), (.pointer (some ⟨nb ρ2 0, i + j, none⟩)), undef, (.int .u64 (IntKind.u64.wrap ((IntKind.u64.wrap ((mulHi (wd a i) (wd b j)) + (addHi (mulLo (wd a i) (wd b j)) (u (i + j)) 0))) + (addHi (addLo (mulLo (wd a i) (wd b j)) (u (i + j)) 0) c 0))))]) (fun _ => [(8, { puts := [(4, nb ρ2 0, (.cells (c8 (updf u (i + j) (addLo (addLo (mulLo (wd a i) (wd b j)) (u (i + j)) 0) c 0))) 97 (0, 0)))] })]) (cR [[], []] <| cA (v := fun ρ => (.int .i64 (IntKind.i64.wrap (((i : Nat) : Int) + ((j : Nat) : Int))))) (fun _ => (.int .i64 ((i + j : Nat) : Int))) (fun _ => congrArg (Value.int .i64) (wrap_add_nat i j (by have := of_decide_eq_true hb1; have := of_decide_eq_true hb2; omega))) <| cR [[], [], [], []] <| cX (o_sem _ (fun _ => do pure (Next.value (← Instr.indexAt 97 (pt (nb ρ2 0)) (.int .i64 ((i + j : Nat) : Int))))) (fun _ => (.pointer (some ⟨nb ρ2 0, i + j, none⟩))) (fun _ => by kernel_rfl) (fun _ => by kernel_rfl) (fun _ w => run_idx_nat (n := ((i + j : Nat) : Int)) (i := i + j) Tryd.underlying97 Tryd.sizeOf41 (⟨rfl, by have := of_decide_eq_true hb1; have := of_decide_eq_true hb2; omega⟩) w)) <| cX (o_st _ 4 41 (fun _ => nb ρ2 0) (fun _ => i + j) (fun _ => (c8 u)) (fun _ => (c8 (updf u (i + j) (addLo (addLo (mulLo (wd a i) (wd b j)) (u (i + j)) 0) c 0)))) 97 (fun _ => (.int .u64 (addLo (addLo (mulLo (wd a i) (wd b j)) (u (i + j)) 0) c 0))) (fun _ => by kernel_rfl) Tryd.sizeOf41 (fun _ => rfl) (fun _ => (show _ < 8 from (by have := of_decide_eq_true hb1; have := of_decide_eq_true hb2; omega))) (fun _ => c8_set u (i + j) (addLo (addLo (mulLo (wd a i) (wd b j)) (u (i + j)) 0) c 0) (by have := of_decide_eq_true hb1; have := of_decide_eq_true hb2; omega))) <| cR [[]] <| cN) (fun _ => ?_)
      refine mt_block_n ?_
      refine mt_then ?_
      refine rS Tryd.f79 2 [2, 3, 4, 5, 6, 7, 8, 14, 17] [] (fun _ => [(.int .i64 ((j + 1 : Nat) : Int)), (.int .i64 ((j + 1 : Nat) : Int))]) (fun _ => []) (cA (v := fun ρ => (.int .i64 (IntKind.i64.wrap (((j : Nat) : Int) + 1)))) (fun _ => (.int .i64 ((j + 1 : Nat) : Int))) (fun _ => congrArg (Value.int .i64) (wrap_add_nat j 1 (by have := of_decide_eq_true hb1; have := of_decide_eq_true hb2; omega))) <| cR [[]] <| cN) (fun _ => ?_)
      exact mN (j + 1, updf u (i + j) (addLo (addLo (mulLo (wd a i) (wd b j)) (u (i + j)) 0) c 0), IntKind.u64.wrap ((IntKind.u64.wrap ((mulHi (wd a i) (wd b j)) + (addHi (mulLo (wd a i) (wd b j)) (u (i + j)) 0))) + (addHi (addLo (mulLo (wd a i) (wd b j)) (u (i + j)) 0) c 0))) (by show 4 - (j + 1) < 4 - j; have := of_decide_eq_true hb2; omega) (⟨by have := of_decide_eq_true hb2; omega, mulI_next (by have := of_decide_eq_true hb1; omega) (by have := of_decide_eq_true hb2; omega) hM (word_addLo _ _ _) (mul_step (wd_word a i) (wd_word b j) (hM.word _) hM.car).2 (mul_step (wd_word a i) (wd_word b j) (hM.word _) hM.car).1⟩) []
    ·
      rw [hb2]
      refine ok_exit ?_
      refine mt_then_e ?_
      refine mt_then_e ?_
      refine mt_block_h ?_
      refine mt_then ?_
      refine rS Tryd.f79 5 [2, 3, 4, 5, 6, 14] [] (fun _ => [(.int .i64 ((i : Nat) : Int)), (.int .i64 ((i + 4 : Nat) : Int)), (.int .u64 c), (.pointer (some ⟨nb ρ2 0, i + 4, none⟩)), undef]) (fun _ => [(4, { puts := [(4, nb ρ2 0, (.cells (c8 (updf u (i + 4) c)) 97 (0, 0)))] })]) (cR [[]] <| cA (v := fun ρ => (.int .i64 (IntKind.i64.wrap (((i : Nat) : Int) + 4)))) (fun _ => (.int .i64 ((i + 4 : Nat) : Int))) (fun _ => congrArg (Value.int .i64) (wrap_add_nat i 4 (by have := of_decide_eq_true hb1; omega))) <| cR [[]] <| cX (o_sem _ (fun _ => do pure (Next.value (← Instr.indexAt 97 (pt (nb ρ2 0)) (.int .i64 ((i + 4 : Nat) : Int))))) (fun _ => (.pointer (some ⟨nb ρ2 0, i + 4, none⟩))) (fun _ => by kernel_rfl) (fun _ => by kernel_rfl) (fun _ w => run_idx_nat (n := ((i + 4 : Nat) : Int)) (i := i + 4) Tryd.underlying97 Tryd.sizeOf41 (⟨rfl, by have := of_decide_eq_true hb1; omega⟩) w)) <| cX (o_st _ 4 41 (fun _ => nb ρ2 0) (fun _ => i + 4) (fun _ => (c8 u)) (fun _ => (c8 (updf u (i + 4) c))) 97 (fun _ => (.int .u64 c)) (fun _ => by kernel_rfl) Tryd.sizeOf41 (fun _ => rfl) (fun _ => (show _ < 8 from (by have := of_decide_eq_true hb1; omega))) (fun _ => c8_set u (i + 4) c (by have := of_decide_eq_true hb1; omega))) <| cN) (fun _ => ?_)
      refine mt_block_n ?_
      refine mt_then ?_
      refine rS Tryd.f79 2 [2, 3, 4, 5, 6, 14] [] (fun _ => [(.int .i64 ((i + 1 : Nat) : Int)), (.int .i64 ((i + 1 : Nat) : Int))]) (fun _ => []) (cA (v := fun ρ => (.int .i64 (IntKind.i64.wrap (((i : Nat) : Int) + 1)))) (fun _ => (.int .i64 ((i + 1 : Nat) : Int))) (fun _ => congrArg (Value.int .i64) (wrap_add_nat i 1 (by have := of_decide_eq_true hb1; omega))) <| cR [[]] <| cN) (fun _ => ?_)
      exact mN (i + 1, updf u (i + 4) c) (by show 4 - (i + 1) < 4 - i; have := of_decide_eq_true hb1; omega) (⟨by have := of_decide_eq_true hb1; omega, mulI_end (by have := of_decide_eq_true hb1; omega) (by have : j = 4 := (by have := of_decide_eq_false hb2; omega); subst this; exact hM)⟩) []
  ·
    rw [hb1]
    refine ok_exit ?_
    refine mt_then_e ?_
    refine mt_then_e ?_
    refine mt_block_h ?_
    refine mt_then ?_
    refine sD Tryd.f79 [0, 1, 3, 0, 8, 24, 7, 127] 8 [4, 5] [0, 0, 1, 1, 0] (fun _ => [(.slice (some ⟨nb ρ2 0, 4, none⟩) 4 4), (.pointer (some ⟨nb ρ2 0, 4, none⟩)), (.agg #[(.int .u64 (f 4)), (.int .u64 (f 5)), (.int .u64 (f 6)), (.int .u64 (f 7))]), (.slice (some ⟨nb ρ2 0, 0, none⟩) 4 8), (pt (nb ρ2 0)), (.agg #[(.int .u64 (f 0)), (.int .u64 (f 1)), (.int .u64 (f 2)), (.int .u64 (f 3))]), undef, undef]) (fun _ => [(6, { puts := [(2, nb ρ1 2, (.cells #[(.int .u64 (f 4)), (.int .u64 (f 5)), (.int .u64 (f 6)), (.int .u64 (f 7))] 43 (0, 0)))] }), (7, { puts := [(3, nb ρ1 3, (.cells #[(.int .u64 (f 0)), (.int .u64 (f 1)), (.int .u64 (f 2)), (.int .u64 (f 3))] 43 (0, 0)))] })]) (cR [[], [], [4], [], [], [4], [2], [3]] <| cN) (fun _ => ?_)
    refine ok_ret ?_
    exact mR (v := (.tuple #[(.agg #[(.int .u64 (f 4)), (.int .u64 (f 5)), (.int .u64 (f 6)), (.int .u64 (f 7))]), (.agg #[(.int .u64 (f 0)), (.int .u64 (f 1)), (.int .u64 (f 2)), (.int .u64 (f 3))])])) (ps := [0,0,0,0,1,1,1,1]) (fun _ hS => ⟨mul_end ha hb (by have : i = 4 := (by have := of_decide_eq_false hb1; omega); subst this; exact hO), hS.bel⟩)
theorem mul_any (a b : Nat) (w0 : World) (ha : a < M) (hb : b < M) : Calls Tryd.prog 79 #[U a, U b] w0 (fun ε w' => ε = .returned (.tuple #[(U (a * b / M)), (U (a * b % M))]) ∧ Below w0.heap.size w0 w') := mul_w a b ha hb w0

theorem rmul_w (a : Nat) (b : Nat) (ha : a < M) (hb : b < M) (w0 : World) : Calls Tryd.prog 83 #[(U a), (U b)] w0 (fun ε w' => ε = .returned (.tuple #[(U (a * b / M)), (U (a * b % M))]) ∧ Below w0.heap.size w0 w') := by
  refine Calls.of_ok (n := 71) (F := (fun _ => True)) Tryd.func83 rfl rfl rfl (by simp) (persTrue (fun _ => trivial)) ?_
  refine sS Tryd.f83 4 [2, 3, 4, 5] [] (fun ρ => [(pt (nb ρ 0)), (pt (nb ρ 1)), (pt (nb ρ 2)), (pt (nb ρ 3))]) (fun ρ => [(0, { news := [(nb ρ 0, (.cells (cU a) 43 (0, 0)))] }), (1, { news := [(nb ρ 1, (.cells (cU b) 43 (0, 0)))] }), (2, { news := [(nb ρ 2, (.cells (cU 0) 43 (0, 0)))] }), (3, { news := [(nb ρ 3, (.cells (cU 0) 43 (0, 0)))] })]) (cR [[], [], [], []] <| cN) (fun ρ1 => ?_)
  refine sS Tryd.f83 1 [2, 3, 4, 5, 6] [] (fun ρ => [(pt (nb ρ 0))]) (fun ρ => [(0, { news := [(nb ρ 0, (.cells #[(.int .u64 0), (.int .u64 0), (.int .u64 0), (.int .u64 0), (.int .u64 0), (.int .u64 0), (.int .u64 0), (.int .u64 0)] 97 (0, 0)))] })]) (cR [[]] <| cN) (fun ρ2 => ?_)
  refine ok_seq ?_
  refine sS Tryd.f83 1 [2, 3, 4, 5, 6, 15] [] (fun _ => [(.int .i64 0)]) (fun _ => []) (cR [[]] <| cN) (fun _ => ?_)
  refine ok_block ?_
  refine oL (σ := Nat × (Nat → Int)) (fun ⟨i, _⟩ => [(2, (pt (nb ρ1 0))), (3, (pt (nb ρ1 1))), (4, (pt (nb ρ1 2))), (5, (pt (nb ρ1 3))), (6, (pt (nb ρ2 0))), (15, (.int .i64 ((i : Nat) : Int)))]) (fun ⟨_, f⟩ => [(nb ρ1 0, (.cells (cU a) 43 (0, 0))), (nb ρ1 1, (.cells (cU b) 43 (0, 0))), (nb ρ1 2, (.cells (cU 0) 43 (0, 0))), (nb ρ1 3, (.cells (cU 0) 43 (0, 0))), (nb ρ2 0, (.cells (c8 f) 97 (0, 0)))]) (fun ⟨i, _⟩ => 4 - i)
    (fun ⟨i, f⟩ => (i ≤ 4) ∧ (MulO a b i f)) (0, (fun _ => 0)) (⟨by omega, mulO_zero a b⟩) [] ?_
  rintro ⟨i, f⟩ ⟨hi, hO⟩
  change Ok Tryd.prog _ _ 71 [(2, (pt (nb ρ1 0))), (3, (pt (nb ρ1 1))), (4, (pt (nb ρ1 2))), (5, (pt (nb ρ1 3))), (6, (pt (nb ρ2 0))), (15, (.int .i64 ((i : Nat) : Int)))] _ [(nb ρ1 0, (.cells (cU a) 43 (0, 0))), (nb ρ1 1, (.cells (cU b) 43 (0, 0))), (nb ρ1 2, (.cells (cU 0) 43 (0, 0))), (nb ρ1 3, (.cells (cU 0) 43 (0, 0))), (nb ρ2 0, (.cells (c8 f) 97 (0, 0)))] (fun _ => True)
  refine sS Tryd.f83 1 [2, 3, 4, 5, 6, 15, 16] [] (fun _ => [(.bool (decide (((i : Nat) : Int) < 4)))]) (fun _ => []) (cR [[]] <| cN) (fun _ => ?_)
  refine ok_seq ?_
  refine oC (decide (((i : Nat) : Int) < 4)) (fun hb1 => ?_) (fun hb1 => ?_)
  ·
    rw [hb1]
    refine ok_skip ?_
    refine mt_then ?_
    refine ok_seq ?_
    refine ok_block ?_
    refine sS Tryd.f83 2 [2, 3, 4, 5, 6, 7, 15] [] (fun _ => [(.int .i64 ((i : Nat) : Int)), (.int .i64 ((i : Nat) : Int))]) (fun _ => []) (cR [[], []] <| cN) (fun _ => ?_)
    refine sS Tryd.f83 1 [2, 3, 4, 5, 6, 7, 8, 15] [] (fun _ => [(.int .u64 0)]) (fun _ => []) (cR [[]] <| cN) (fun _ => ?_)
    refine ok_seq ?_
    refine sS Tryd.f83 1 [2, 3, 4, 5, 6, 7, 8, 15, 18] [] (fun _ => [(.int .i64 0)]) (fun _ => []) (cR [[]] <| cN) (fun _ => ?_)
    refine ok_block ?_
    refine oL (σ := Nat × (Nat → Int) × Int) (fun ⟨j, _, c⟩ => [(2, (pt (nb ρ1 0))), (3, (pt (nb ρ1 1))), (4, (pt (nb ρ1 2))), (5, (pt (nb ρ1 3))), (6, (pt (nb ρ2 0))), (7, (.int .i64 ((i : Nat) : Int))), (8, (.int .u64 c)), (15, (.int .i64 ((i : Nat) : Int))), (18, (.int .i64 ((j : Nat) : Int)))]) (fun ⟨_, u, _⟩ => [(nb ρ1 0, (.cells (cU a) 43 (0, 0))), (nb ρ1 1, (.cells (cU b) 43 (0, 0))), (nb ρ1 2, (.cells (cU 0) 43 (0, 0))), (nb ρ1 3, (.cells (cU 0) 43 (0, 0))), (nb ρ2 0, (.cells (c8 u) 97 (0, 0)))]) (fun ⟨j, _, _⟩ => 4 - j)
      (fun ⟨j, u, c⟩ => (j ≤ 4) ∧ (MulI a b i j u c)) (0, f, 0) (⟨by omega, mulO_begin hO⟩) [] ?_
    rintro ⟨j, u, c⟩ ⟨hj, hM⟩
    change Ok Tryd.prog _ _ 71 [(2, (pt (nb ρ1 0))), (3, (pt (nb ρ1 1))), (4, (pt (nb ρ1 2))), (5, (pt (nb ρ1 3))), (6, (pt (nb ρ2 0))), (7, (.int .i64 ((i : Nat) : Int))), (8, (.int .u64 c)), (15, (.int .i64 ((i : Nat) : Int))), (18, (.int .i64 ((j : Nat) : Int)))] _ [(nb ρ1 0, (.cells (cU a) 43 (0, 0))), (nb ρ1 1, (.cells (cU b) 43 (0, 0))), (nb ρ1 2, (.cells (cU 0) 43 (0, 0))), (nb ρ1 3, (.cells (cU 0) 43 (0, 0))), (nb ρ2 0, (.cells (c8 u) 97 (0, 0)))] (fun _ => True)
    refine sS Tryd.f83 1 [2, 3, 4, 5, 6, 7, 8, 15, 18, 19] [] (fun _ => [(.bool (decide (((j : Nat) : Int) < 4)))]) (fun _ => []) (cR [[]] <| cN) (fun _ => ?_)
    refine ok_seq ?_
    refine oC (decide (((j : Nat) : Int) < 4)) (fun hb2 => ?_) (fun hb2 => ?_)
    ·
      rw [hb2]
      refine ok_skip ?_
      refine mt_then ?_
      refine ok_seq ?_
      refine ok_block ?_
      refine sS Tryd.f83 2 [2, 3, 4, 5, 6, 7, 8, 9, 15, 18] [] (fun _ => [(.int .i64 ((j : Nat) : Int)), (.int .i64 ((j : Nat) : Int))]) (fun _ => []) (cR [[], []] <| cN) (fun _ => ?_)
      refine sD Tryd.f83 [0, 1, 3, 0, 8, 24, 63, 127, 255, 255, 511, 2047] 12 [2, 3, 4, 5, 6, 7, 8, 9, 10, 11, 15, 18] [] (fun _ => [(.int .i64 ((i : Nat) : Int)), (.pointer (some ⟨nb ρ1 0, i, none⟩)), (.int .u64 (wd a i)), (.int .i64 ((j : Nat) : Int)), (.pointer (some ⟨nb ρ1 1, j, none⟩)), (.int .u64 (wd b j)), (.tuple #[(.int .u64 (mulHi (wd a i) (wd b j))), (.int .u64 (mulLo (wd a i) (wd b j)))]), (.tuple #[(.int .u64 (mulHi (wd a i) (wd b j))), (.int .u64 (mulLo (wd a i) (wd b j)))]), (.int .u64 (mulHi (wd a i) (wd b j))), (.int .u64 (mulLo (wd a i) (wd b j))), (.int .u64 (mulHi (wd a i) (wd b j))), (.int .u64 (mulLo (wd a i) (wd b j)))]) (fun _ => []) (cR [[]] <| cX (o_sem _ (fun _ => do pure (Next.value (← Instr.indexAt 43 (pt (nb ρ1 0)) (.int .i64 ((i : Nat) : Int))))) (fun _ => (.pointer (some ⟨nb ρ1 0, i, none⟩))) (fun _ => by kernel_rfl) (fun _ => by kernel_rfl) (fun _ w => run_idx_nat (n := ((i : Nat) : Int)) (i := i) Tryd.underlying43 Tryd.sizeOf41 (⟨rfl, by have := of_decide_eq_true hb1; omega⟩) w)) <| cX (o_ld _ 0 41 (fun _ => nb ρ1 0) (fun _ => i) (fun _ => (cU a)) 43 (0, 0) (fun _ => (.int .u64 (wd a i))) (fun _ => by kernel_rfl) Tryd.isAgg41 (fun _ => cU_get a i (by have := of_decide_eq_true hb1; omega))) <| cR [[]] <| cX (o_sem _ (fun _ => do pure (Next.value (← Instr.indexAt 43 (pt (nb ρ1 1)) (.int .i64 ((j : Nat) : Int))))) (fun _ => (.pointer (some ⟨nb ρ1 1, j, none⟩))) (fun _ => by kernel_rfl) (fun _ => by kernel_rfl) (fun _ w => run_idx_nat (n := ((j : Nat) : Int)) (i := j) Tryd.underlying43 Tryd.sizeOf41 (⟨rfl, by have := of_decide_eq_true hb2; omega⟩) w)) <| cX (o_ld _ 1 41 (fun _ => nb ρ1 1) (fun _ => j) (fun _ => (cU b)) 43 (0, 0) (fun _ => (.int .u64 (wd b j))) (fun _ => by kernel_rfl) Tryd.isAgg41 (fun _ => cU_get b j (by have := of_decide_eq_true hb2; omega))) <| cC (fun _ w => mul64_any (wd a i) (wd b j) (wd_word a i) (wd_word b j) w) <| cR [[], [], [], [], []] <| cN) (fun _ => ?_)
      refine sS Tryd.f83 12 [2, 3, 4, 5, 6, 7, 8, 9, 10, 12, 13, 15, 18] [] (fun _ => [(.int .i64 ((i : Nat) : Int)), (.int .i64 ((j : Nat) : Int)), (.int .i64 ((i + j : Nat) : Int)), (.pointer (some ⟨nb ρ2 0, i + j, none⟩)), (.int .u64 (u (i + j))), (.int .u64 (mulLo (wd a i) (wd b j))), (.tuple #[(.int .u64 (addLo (u (i + j)) (mulLo (wd a i) (wd b j)) 0)), (.int .u64 (addHi (u (i + j)) (mulLo (wd a i) (wd b j)) 0))]), (.tuple #[(.int .u64 (addLo (u (i + j)) (mulLo (wd a i) (wd b j)) 0)), (.int .u64 (addHi (u (i + j)) (mulLo (wd a i) (wd b j)) 0))]), (.int .u64 (addLo (u (i + j)) (mulLo (wd a i) (wd b j)) 0)), (.int .u64 (addHi (u (i + j)) (mulLo (wd a i) (wd b j)) 0)), (.int .u64 (addLo (u (i + j)) (mulLo (wd a i) (wd b j)) 0)), (.int .u64 (addHi (u (i + j)) (mulLo (wd a i) (wd b j)) 0))]) (fun _ => []) (cR [[], []] <| cA (v := fun ρ => (.int .i64 (IntKind.i64.wrap (((i : Nat) : Int) + ((j : Nat) : Int))))) (fun _ => (.int .i64 ((i + j : Nat) : Int))) (fun _ => congrArg (Value.int .i64) (wrap_add_nat i j (by have := of_decide_eq_true hb1; have := of_decide_eq_true hb2; omega))) <| cX (o_sem _ (fun _ => do pure (Next.value (← Instr.indexAt 97 (pt (nb ρ2 0)) (.int .i64 ((i + j : Nat) : Int))))) (fun _ => (.pointer (some ⟨nb ρ2 0, i + j, none⟩))) (fun _ => by kernel_rfl) (fun _ => by kernel_rfl) (fun _ w => run_idx_nat (n := ((i + j : Nat) : Int)) (i := i + j) Tryd.underlying97 Tryd.sizeOf41 (⟨rfl, by have := of_decide_eq_true hb1; have := of_decide_eq_true hb2; omega⟩) w)) <| cX (o_ld _ 4 41 (fun _ => nb ρ2 0) (fun _ => i + j) (fun _ => (c8 u)) 97 (0, 0) (fun _ => (.int .u64 (u (i + j)))) (fun _ => by kernel_rfl) Tryd.isAgg41 (fun _ => c8_get u (i + j) (by have := of_decide_eq_true hb1; have := of_decide_eq_true hb2; omega))) <| cR [[]] <| cX (o_sem _ (fun _ => callFunc 85 #[(.int .u64 (u (i + j))), (.int .u64 (mulLo (wd a i) (wd b j))), (.int .u64 0)]) (fun _ => (.tuple #[(.int .u64 (addLo (u (i + j)) (mulLo (wd a i) (wd b j)) 0)), (.int .u64 (addHi (u (i + j)) (mulLo (wd a i) (wd b j)) 0))])) (fun _ => by kernel_rfl) (fun _ => by kernel_rfl) (fun _ w => (add64 (u (i + j)) (mulLo (wd a i) (wd b j)) 0 (hM.word _) (word_mulLo _ _) bit_zero) w)) <| cR [[], [], [], [], []] <| cN) (fun _ => ?_)
      refine sS Tryd.f83 8 [2, 3, 4, 5, 6, 7, 8, 9, 10, 12, 13, 14, 15, 18] [] (fun _ => [(.int .u64 (addLo (u (i + j)) (mulLo (wd a i) (wd b j)) 0)), (.int .u64 c), (.tuple #[(.int .u64 (addLo (addLo (u (i + j)) (mulLo (wd a i) (wd b j)) 0) c 0)), (.int .u64 (addHi (addLo (u (i + j)) (mulLo (wd a i) (wd b j)) 0) c 0))]), (.tuple #[(.int .u64 (addLo (addLo (u (i + j)) (mulLo (wd a i) (wd b j)) 0) c 0)), (.int .u64 (addHi (addLo (u (i + j)) (mulLo (wd a i) (wd b j)) 0) c 0))]), (.int .u64 (addLo (addLo (u (i + j)) (mulLo (wd a i) (wd b j)) 0) c 0)), (.int .u64 (addHi (addLo (u (i + j)) (mulLo (wd a i) (wd b j)) 0) c 0)), (.int .u64 (addLo (addLo (u (i + j)) (mulLo (wd a i) (wd b j)) 0) c 0)), (.int .u64 (addHi (addLo (u (i + j)) (mulLo (wd a i) (wd b j)) 0) c 0))]) (fun _ => []) (cR [[], []] <| cX (o_sem _ (fun _ => callFunc 85 #[(.int .u64 (addLo (u (i + j)) (mulLo (wd a i) (wd b j)) 0)), (.int .u64 c), (.int .u64 0)]) (fun _ => (.tuple #[(.int .u64 (addLo (addLo (u (i + j)) (mulLo (wd a i) (wd b j)) 0) c 0)), (.int .u64 (addHi (addLo (u (i + j)) (mulLo (wd a i) (wd b j)) 0) c 0))])) (fun _ => by kernel_rfl) (fun _ => by kernel_rfl) (fun _ w => (add64 (addLo (u (i + j)) (mulLo (wd a i) (wd b j)) 0) c 0 (word_addLo _ _ _) hM.car bit_zero) w)) <| cR [[], [], [], [], []] <| cN) (fun _ => ?_)
      refine dRs [(2, (pt (nb ρ1 0))), (3, (pt (nb ρ1 1))), (4, (pt (nb ρ1 2))), (5, (pt (nb ρ1 3))), (6, (pt (nb ρ2 0))), (7, (.int .i64 ((i : Nat) : Int))), (8, (.int .u64 c)), (9, (.int .i64 ((j : Nat) : Int))), (10, (.int .u64 (mulHi (wd a i) (wd b j)))), (12, (.int .u64 (addLo (addLo (u (i + j)) (mulLo (wd a i) (wd b j)) 0) c 0))), (13, (.int .u64 (addHi (u (i + j)) (mulLo (wd a i) (wd b j)) 0))), (14, (.int .u64 (addHi (addLo (u (i + j)) (mulLo (wd a i) (wd b j)) 0) c 0))), (15, (.int .i64 ((i : Nat) : Int))), (18, (.int .i64 ((j : Nat) : Int)))] [(nb ρ1 0, (.cells (cU a) 43 (0, 0))), (nb ρ1 1, (.cells (cU b) 43 (0, 0))), (nb ρ1 2, (.cells (cU 0) 43 (0, 0))), (nb ρ1 3, (.cells (cU 0) 43 (0, 0))), (nb ρ2 0, (.cells (c8 u) 97 (0, 0)))] ?_
      refine rS Tryd.f83 12 [2, 3, 4, 5, 6, 7, 8, 15, 18] [] (fun _ => [(.int .i64 ((i : Nat) : Int)), (.int .i64 ((j : Nat) : Int)), (.int .i64 ((i + j : Nat) : Int)), (.int .u64 (addLo (addLo (u (i + j)) (mulLo (wd a i) (wd b j)) 0) c 0)), (.int .u64 (mulHi (wd a i) (wd b j))), (.int .u64 (addHi (u (i + j)) (mulLo (wd a i) (wd b j)) 0)), (.int .u64 (IntKind.u64.wrap ((mulHi (wd a i) (wd b j)) + (addHi (u (i + j)) (mulLo (wd a i) (wd b j)) 0)))), (.int .u64 (addHi (addLo (u (i + j)) (mulLo (wd a i) (wd b j)) 0) c 0)), (.int .u64 (IntKind.u64.wrap ((IntKind.u64.wrap ((mulHi (wd a i) (wd b j)) + (addHi (u (i + j)) (mulLo (wd a i) (wd b j)) 0))) + (addHi (addLo (u (i + j)) (mulLo (wd a i) (wd b j)) 0) c 0)))), (.pointer (some ⟨nb ρ2 0, i + j, none⟩)), undef, (.int .u64 (IntKind.u64.wrap ((IntKind.u64.wrap ((mulHi (wd a i) (wd b j)) + (addHi (u (i + j)) (mulLo (wd a i) (wd b j)) 0))) + (addHi (addLo (u (i + j)) (mulLo (wd a i) (wd b j)) 0) c 0))))]) (fun _ => [(10, { puts := [(4, nb ρ2 0, (.cells (c8 (updf u (i + j) (addLo (addLo (u (i + j)) (mulLo (wd a i) (wd b j)) 0) c 0))) 97 (0, 0)))] })]) (cR [[], []] <| cA (v := fun ρ => (.int .i64 (IntKind.i64.wrap (((i : Nat) : Int) + ((j : Nat) : Int))))) (fun _ => (.int .i64 ((i + j : Nat) : Int))) (fun _ => congrArg (Value.int .i64) (wrap_add_nat i j (by have := of_decide_eq_true hb1; have := of_decide_eq_true hb2; omega))) <| cR [[], [], [], [], [], []] <| cX (o_sem _ (fun _ => do pure (Next.value (← Instr.indexAt 97 (pt (nb ρ2 0)) (.int .i64 ((i + j : Nat) : Int))))) (fun _ => (.pointer (some ⟨nb ρ2 0, i + j, none⟩))) (fun _ => by kernel_rfl) (fun _ => by kernel_rfl) (fun _ w => run_idx_nat (n := ((i + j : Nat) : Int)) (i := i + j) Tryd.underlying97 Tryd.sizeOf41 (⟨rfl, by have := of_decide_eq_true hb1; have := of_decide_eq_true hb2; omega⟩) w)) <| cX (o_st _ 4 41 (fun _ => nb ρ2 0) (fun _ => i + j) (fun _ => (c8 u)) (fun _ => (c8 (updf u (i + j) (addLo (addLo (u (i + j)) (mulLo (wd a i) (wd b j)) 0) c 0)))) 97 (fun _ => (.int .u64 (addLo (addLo (u (i + j)) (mulLo (wd a i) (wd b j)) 0) c 0))) (fun _ => by kernel_rfl) Tryd.sizeOf41 (fun _ => rfl) (fun _ => (show _ < 8 from (by have := of_decide_eq_true hb1; have := of_decide_eq_true hb2; omega))) (fun _ => c8_set u (i + j) (addLo (addLo (u (i + j)) (mulLo (wd a i) (wd b j)) 0) c 0) (by have := of_decide_eq_true hb1; have := of_decide_eq_true hb2; omega))) <| cR [[]] <| cN) (fun _ => ?_)
      refine mt_block_n ?_
      refine mt_then ?_
      refine rS Tryd.f83 2 [2, 3, 4, 5, 6, 7, 8, 15, 18] [] (fun _ => [(.int .i64 ((j + 1 : Nat) : Int)), (.int .i64 ((j + 1 : Nat) : Int))]) (fun _ => []) (cA (v := fun ρ => (.int .i64 (IntKind.i64.wrap (((j : Nat) : Int) + 1)))) (fun _ => (.int .i64 ((j + 1 : Nat) : Int))) (fun _ => congrArg (Value.int .i64) (wrap_add_nat j 1 (by have := of_decide_eq_true hb1; have := of_decide_eq_true hb2; omega))) <| cR [[]] <| cN) (fun _ => ?_)
      exact mN (j + 1, updf u (i + j) (addLo (addLo (u (i + j)) (mulLo (wd a i) (wd b j)) 0) c 0), IntKind.u64.wrap ((IntKind.u64.wrap ((mulHi (wd a i) (wd b j)) + (addHi (u (i + j)) (mulLo (wd a i) (wd b j)) 0))) + (addHi (addLo (u (i + j)) (mulLo (wd a i) (wd b j)) 0) c 0))) (by show 4 - (j + 1) < 4 - j; have := of_decide_eq_true hb2; omega) (⟨by have := of_decide_eq_true hb2; omega, mulI_next (by have := of_decide_eq_true hb1; omega) (by have := of_decide_eq_true hb2; omega) hM (word_addLo _ _ _) (rmul_step (wd_word a i) (wd_word b j) (hM.word _) hM.car).2 (rmul_step (wd_word a i) (wd_word b j) (hM.word _) hM.car).1⟩) []
    ·
      rw [hb2]
      refine ok_exit ?_
      refine mt_then_e ?_
      refine mt_then_e ?_
      refine mt_block_h ?_
      refine mt_then ?_
      refine rS Tryd.f83 5 [2, 3, 4, 5, 6, 15] [] (fun _ => [(.int .i64 ((i : Nat) : Int)), (.int .i64 ((i + 4 : Nat) : Int)), (.int .u64 c), (.pointer (some ⟨nb ρ2 0, i + 4, none⟩)), undef]) (fun _ => [(4, { puts := [(4, nb ρ2 0, (.cells (c8 (updf u (i + 4) c)) 97 (0, 0)))] })]) (cR [[]] <| cA (v := fun ρ => (.int .i64 (IntKind.i64.wrap (((i : Nat) : Int) + 4)))) (fun _ => (.int .i64 ((i + 4 : Nat) : Int))) (fun _ => congrArg (Value.int .i64) (wrap_add_nat i 4 (by have := of_decide_eq_true hb1; omega))) <| cR [[]] <| cX (o_sem _ (fun _ => do pure (Next.value (← Instr.indexAt 97 (pt (nb ρ2 0)) (.int .i64 ((i + 4 : Nat) : Int))))) (fun _ => (.pointer (some ⟨nb ρ2 0, i + 4, none⟩))) (fun _ => by kernel_rfl) (fun _ => by kernel_rfl) (fun _ w => run_idx_nat (n := ((i + 4 : Nat) : Int)) (i := i + 4) Tryd.underlying97 Tryd.sizeOf41 (⟨rfl, by have := of_decide_eq_true hb1; omega⟩) w)) <| cX (o_st _ 4 41 (fun _ => nb ρ2 0) (fun _ => i + 4) (fun _ => (c8 u)) (fun _ => (c8 (updf u (i + 4) c))) 97 (fun _ => (.int .u64 c)) (fun _ => by kernel_rfl) Tryd.sizeOf41 (fun _ => rfl) (fun _ => (show _ < 8 from (by have := of_decide_eq_true hb1; omega))) (fun _ => c8_set u (i + 4) c (by have := of_decide_eq_true hb1; omega))) <| cN) (fun _ => ?_)
      refine mt_block_n ?_
      refine mt_then ?_
      refine rS Tryd.f83 2 [2, 3, 4, 5, 6, 15] [] (fun _ => [(.int .i64 ((i + 1 : Nat) : Int)), (.int .i64 ((i + 1 : Nat) : Int))]) (fun _ => []) (cA (v := fun ρ => (.int .i64 (IntKind.i64.wrap (((i : Nat) : Int) + 1)))) (fun _ => (.int .i64 ((i + 1 : Nat) : Int))) (fun _ => congrArg (Value.int .i64) (wrap_add_nat i 1 (by have := of_decide_eq_true hb1; omega))) <| cR [[]] <| cN) (fun _ => ?_)
      exact mN (i + 1, updf u (i + 4) c) (by show 4 - (i + 1) < 4 - i; have := of_decide_eq_true hb1; omega) (⟨by have := of_decide_eq_true hb1; omega, mulI_end (by have := of_decide_eq_true hb1; omega) (by have : j = 4 := (by have := of_decide_eq_false hb2; omega); subst this; exact hM)⟩) []
  ·
    rw [hb1]
    refine ok_exit ?_
    refine mt_then_e ?_
    refine mt_then_e ?_
    refine mt_block_h ?_
    refine mt_then ?_
    refine sD Tryd.f83 [0, 0, 3] 3 [4, 5, 6] [0, 0, 1, 1, 1] (fun _ => [(.slice (some ⟨nb ρ1 3, 0, none⟩) 4 4), (.slice (some ⟨nb ρ2 0, 0, none⟩) 4 8), (.int .i64 4)]) (fun _ => [(2, { puts := [(3, nb ρ1 3, (.cells #[(.int .u64 (f 0)), (.int .u64 (f 1)), (.int .u64 (f 2)), (.int .u64 (f 3))] 43 (0, 0)))] })]) (cR [[], []] <| cX (o_run _ [3, 4] [1, 1, 1, 1, 0, 0, 0, 0] (fun _ _ => [nb ρ2 0, nb ρ2 0, nb ρ2 0, nb ρ2 0, nb ρ1 3, nb ρ1 3, nb ρ1 3, nb ρ1 3]) (fun _ _ => by kernel_rfl)) <| cN) (fun _ => ?_)
    refine sD Tryd.f83 [0, 0, 3] 3 [4, 5] [1, 1, 0] (fun _ => [(.slice (some ⟨nb ρ1 2, 0, none⟩) 4 4), (.slice (some ⟨nb ρ2 0, 4, none⟩) 4 4), (.int .i64 4)]) (fun _ => [(2, { puts := [(0, nb ρ1 2, (.cells #[(.int .u64 (f 4)), (.int .u64 (f 5)), (.int .u64 (f 6)), (.int .u64 (f 7))] 43 (0, 0)))] })]) (cR [[], []] <| cX (o_run _ [0, 2] [1, 1, 1, 1, 0, 0, 0, 0] (fun _ _ => [nb ρ2 0, nb ρ2 0, nb ρ2 0, nb ρ2 0, nb ρ1 2, nb ρ1 2, nb ρ1 2, nb ρ1 2]) (fun _ _ => by kernel_rfl)) <| cN) (fun _ => ?_)
    refine sS Tryd.f83 4 [4, 5] [] (fun _ => [(.agg #[(.int .u64 (f 4)), (.int .u64 (f 5)), (.int .u64 (f 6)), (.int .u64 (f 7))]), (.agg #[(.int .u64 (f 0)), (.int .u64 (f 1)), (.int .u64 (f 2)), (.int .u64 (f 3))]), undef, undef]) (fun _ => [(2, { puts := [(0, nb ρ1 2, (.cells #[(.int .u64 (f 4)), (.int .u64 (f 5)), (.int .u64 (f 6)), (.int .u64 (f 7))] 43 (0, 0)))] }), (3, { puts := [(1, nb ρ1 3, (.cells #[(.int .u64 (f 0)), (.int .u64 (f 1)), (.int .u64 (f 2)), (.int .u64 (f 3))] 43 (0, 0)))] })]) (cR [[0], [1], [0], [1]] <| cN) (fun _ => ?_)
    refine ok_ret ?_
    exact mR (v := (.tuple #[(.agg #[(.int .u64 (f 4)), (.int .u64 (f 5)), (.int .u64 (f 6)), (.int .u64 (f 7))]), (.agg #[(.int .u64 (f 0)), (.int .u64 (f 1)), (.int .u64 (f 2)), (.int .u64 (f 3))])])) (ps := [0,0,0,0,1,1,1,1]) (fun _ hS => ⟨mul_end ha hb (by have : i = 4 := (by have := of_decide_eq_false hb1; omega); subst this; exact hO), hS.bel⟩)
theorem rmul_any (a b : Nat) (w0 : World) (ha : a < M) (hb : b < M) : Calls Tryd.prog 83 #[U a, U b] w0 (fun ε w' => ε = .returned (.tuple #[(U (a * b / M)), (U (a * b % M))]) ∧ Below w0.heap.size w0 w') := rmul_w a b ha hb w0
end Go.Proofs.YtlkbhiaoolddmaaDoor

/-! Sums, differences and products modulo a number: the walks. -/
namespace Go.Proofs.YtlkbhiaoolddmaaDoor
open Go Go.RowKit

theorem mulmod_w (a : Nat) (b : Nat) (m : Nat) (ha : a < M) (hb : b < M) (hm : m < M) (w0 : World) : Calls Tryd.prog 73 #[(U a), (U b), (U m)] w0 (fun ε w' => ε = .returned (U (mulmN a b m)) ∧ Below w0.heap.size w0 w') := by
  refine Calls.of_ok (n := 33) (F := (fun _ => True)) Tryd.func73 rfl rfl rfl (by simp) (persTrue (fun _ => trivial)) ?_
  refine sS Tryd.f73 4 [3, 4, 5, 6] [] (fun ρ => [(pt (nb ρ 0)), (pt (nb ρ 1)), (pt (nb ρ 2)), (pt (nb ρ 3))]) (fun ρ => [(0, { news := [(nb ρ 0, (.cells (cU a) 43 (0, 0)))] }), (1, { news := [(nb ρ 1, (.cells (cU b) 43 (0, 0)))] }), (2, { news := [(nb ρ 2, (.cells (cU m) 43 (0, 0)))] }), (3, { news := [(nb ρ 3, (.cells (cU 0) 43 (0, 0)))] })]) (cR [[], [], [], []] <| cN) (fun ρ1 => ?_)
  refine ok_seq ?_
  refine sS Tryd.f73 3 [3, 4, 5, 6, 14] [] (fun _ => [(U m), (U 0), (.bool (decide (m = 0)))]) (fun _ => []) (cR [[2], []] <| cB (a := fun ρ => (U m)) (b := fun ρ => (U 0)) (v := fun ρ => (.bool (decide (m = 0)))) .eql 43 (fun _ _ => eqlU m 0 hm (by decide +kernel) _) <| cN) (fun _ => ?_)
  refine oC (decide (m = 0)) (fun hb1 => ?_) (fun hb1 => ?_)
  ·
    rw [hb1]
    refine sS Tryd.f73 2 [3, 4, 5, 6] [] (fun _ => [(U 0), undef]) (fun _ => [(1, { puts := [(3, nb ρ1 3, (.cells (cU 0) 43 (0, 0)))] })]) (cR [[], [3]] <| cN) (fun _ => ?_)
    refine ok_ret ?_
    refine mt_then_r ?_
    exact mR (v := (U 0)) (ps := [3,3,3,3]) (fun _ hS => ⟨congrArg (fun x => Ending.returned (U x)) (mulm_0 hb1), hS.bel⟩)
  ·
    rw [hb1]
    refine ok_skip ?_
    refine mt_then ?_
    refine sS Tryd.f73 10 [5, 6, 7, 8] [0, 0, 1, 1, 1, 1] (fun ρ => [(U a), (U b), (.tuple #[(U ((a * b) / M)), (U ((a * b) % M))]), (.tuple #[(U ((a * b) / M)), (U ((a * b) % M))]), (U ((a * b) / M)), (U ((a * b) % M)), (pt (nb ρ 6)), (pt (nb ρ 7)), undef, undef]) (fun ρ => [(6, { news := [(nb ρ 6, (.cells (cU 0) 43 (0, 0)))] }), (7, { news := [(nb ρ 7, (.cells (cU 0) 43 (0, 0)))] }), (8, { puts := [(52, nb ρ 6, (.cells (cU ((a * b) / M)) 43 (0, 0)))] }), (9, { puts := [(60, nb ρ 7, (.cells (cU ((a * b) % M)) 43 (0, 0)))] })]) (cR [[0], [1]] <| cC (fun _ w => mul_any a b w ha hb) <| cR [[], [], [], [], [], [52], [60]] <| cN) (fun _ => ?_)
    refine sD Tryd.f73 [0, 0, 3, 0, 0, 31, 63, 127, 127, 127, 0, 0, 3327, 7679, 16383] 15 [6, 10] [0, 1, 0, 0, 0, 1] (fun ρ => [(U ((a * b) / M)), (U m), (U (redN ((a * b) / M) m)), (U ((a * b) % M)), (U m), (.tuple #[(U (divQ (redN ((a * b) / M) m) ((a * b) % M) m)), (U (divR (redN ((a * b) / M) m) ((a * b) % M) m)), (.bool (decide ((redN ((a * b) / M) m) < m)))]), (.tuple #[(U (divQ (redN ((a * b) / M) m) ((a * b) % M) m)), (U (divR (redN ((a * b) / M) m) ((a * b) % M) m)), (.bool (decide ((redN ((a * b) / M) m) < m)))]), (U (divQ (redN ((a * b) / M) m) ((a * b) % M) m)), (U (divR (redN ((a * b) / M) m) ((a * b) % M) m)), (.bool (decide ((redN ((a * b) / M) m) < m))), (pt (nb ρ 10)), (pt (nb ρ 11)), undef, undef, (.bool (decide ((redN ((a * b) / M) m) < m)))]) (fun ρ => [(10, { news := [(nb ρ 10, (.cells (cU 0) 43 (0, 0)))] }), (11, { news := [(nb ρ 11, (.cells (cU 0) 43 (0, 0)))] }), (12, { puts := [(84, nb ρ 10, (.cells (cU (divQ (redN ((a * b) / M) m) ((a * b) % M) m)) 43 (0, 0)))] }), (13, { puts := [(92, nb ρ 11, (.cells (cU (divR (redN ((a * b) / M) m) ((a * b) % M) m)) 43 (0, 0)))] })]) (cR [[2], [0]] <| cC (fun _ w => reduce_any ((a * b) / M) m w (mulhi_lt ha hb) hm) <| cR [[3], [0]] <| cC (f := 80) (args := fun ρ => #[(U (redN ((a * b) / M) m)), (U ((a * b) % M)), (U m)]) (v := fun ρ => (.tuple #[(U (divQ (redN ((a * b) / M) m) ((a * b) % M) m)), (U (divR (redN ((a * b) / M) m) ((a * b) % M) m)), (.bool (decide ((redN ((a * b) / M) m) < m)))])) (fun _ w => (fun w => div_any (redN ((a * b) / M) m) ((a * b) % M) m w (redN_lt (mulhi_lt ha hb)) (modM_lt _) hm) w) <| cR [[], [], [], [], [], [], [84], [92], []] <| cN) (fun _ => ?_)
    refine sS Tryd.f73 2 [6] [1, 0] (fun _ => [(U (divR (redN ((a * b) / M) m) ((a * b) % M) m)), undef]) (fun _ => [(1, { puts := [(0, nb ρ1 3, (.cells (cU (divR (redN ((a * b) / M) m) ((a * b) % M) m)) 43 (0, 0)))] })]) (cR [[1], [0]] <| cN) (fun _ => ?_)
    refine ok_ret ?_
    exact mR (v := (U (divR (redN ((a * b) / M) m) ((a * b) % M) m))) (fun _ hS => ⟨congrArg (fun x => Ending.returned (U x)) (mulm_1 hb1), hS.bel⟩)
theorem mulmod_any (a b m : Nat) (w0 : World) (ha : a < M) (hb : b < M) (hm : m < M) : Calls Tryd.prog 73 #[U a, U b, U m] w0 (fun ε w' => ε = .returned (U (mulmN a b m)) ∧ Below w0.heap.size w0 w') := mulmod_w a b m ha hb hm w0

theorem rmulmod_w (a : Nat) (b : Nat) (m : Nat) (ha : a < M) (hb : b < M) (hm : m < M) (w0 : World) : Calls Tryd.prog 77 #[(U a), (U b), (U m)] w0 (fun ε w' => ε = .returned (U (mulmN a b m)) ∧ Below w0.heap.size w0 w') := by
  refine Calls.of_ok (n := 34) (F := (fun _ => True)) Tryd.func77 rfl rfl rfl (by simp) (persTrue (fun _ => trivial)) ?_
  refine sS Tryd.f77 4 [3, 4, 5, 6] [] (fun ρ => [(pt (nb ρ 0)), (pt (nb ρ 1)), (pt (nb ρ 2)), (pt (nb ρ 3))]) (fun ρ => [(0, { news := [(nb ρ 0, (.cells (cU a) 43 (0, 0)))] }), (1, { news := [(nb ρ 1, (.cells (cU b) 43 (0, 0)))] }), (2, { news := [(nb ρ 2, (.cells (cU m) 43 (0, 0)))] }), (3, { news := [(nb ρ 3, (.cells (cU 0) 43 (0, 0)))] })]) (cR [[], [], [], []] <| cN) (fun ρ1 => ?_)
  refine ok_seq ?_
  refine sS Tryd.f77 2 [3, 4, 5, 6, 13] [] (fun _ => [(U m), (.bool (decide (m = 0)))]) (fun _ => []) (cR [[2]] <| cC (fun _ w => rzero_any m w hm) <| cN) (fun _ => ?_)
  refine oC (decide (m = 0)) (fun hb1 => ?_) (fun hb1 => ?_)
  ·
    rw [hb1]
    refine sS Tryd.f77 2 [3, 4, 5, 6] [] (fun _ => [(U m), undef]) (fun _ => [(1, { puts := [(3, nb ρ1 3, (.cells (cU m) 43 (0, 0)))] })]) (cR [[2], [3]] <| cN) (fun _ => ?_)
    refine ok_ret ?_
    refine mt_then_r ?_
    exact mR (v := (U m)) (ps := [3,3,3,3]) (fun _ hS => ⟨congrArg (fun x => Ending.returned (U x)) (mulm_0' hb1), hS.bel⟩)
  ·
    rw [hb1]
    refine ok_skip ?_
    refine mt_then ?_
    refine sD Tryd.f77 [0, 0, 3, 0, 0, 31, 63, 127, 255, 255, 0, 0, 3583, 8191] 14 [5, 6, 7, 8] [0, 0, 1, 1, 1, 1] (fun ρ => [(U a), (U m), (U (redN a m)), (U b), (U m), (U (redN b m)), (.tuple #[(U (((redN a m) * (redN b m)) / M)), (U (((redN a m) * (redN b m)) % M))]), (.tuple #[(U (((redN a m) * (redN b m)) / M)), (U (((redN a m) * (redN b m)) % M))]), (U (((redN a m) * (redN b m)) / M)), (U (((redN a m) * (redN b m)) % M)), (pt (nb ρ 10)), (pt (nb ρ 11)), undef, undef]) (fun ρ => [(10, { news := [(nb ρ 10, (.cells (cU 0) 43 (0, 0)))] }), (11, { news := [(nb ρ 11, (.cells (cU 0) 43 (0, 0)))] }), (12, { puts := [(84, nb ρ 10, (.cells (cU (((redN a m) * (redN b m)) / M)) 43 (0, 0)))] }), (13, { puts := [(92, nb ρ 11, (.cells (cU (((redN a m) * (redN b m)) % M)) 43 (0, 0)))] })]) (cR [[0], [2]] <| cC (fun _ w => rreduce_any a m w ha hm) <| cR [[1], [2]] <| cC (fun _ w => rreduce_any b m w hb hm) <| cC (fun _ w => rmul_any (redN a m) (redN b m) w (redN_lt ha) (redN_lt hb)) <| cR [[], [], [], [], [], [84], [92]] <| cN) (fun _ => ?_)
    refine sS Tryd.f77 13 [6, 10] [0, 1, 0, 0, 0, 1] (fun ρ => [(U (((redN a m) * (redN b m)) / M)), (U (((redN a m) * (redN b m)) % M)), (U m), (.tuple #[(U (divQ (((redN a m) * (redN b m)) / M) (((redN a m) * (redN b m)) % M) m)), (U (divR (((redN a m) * (redN b m)) / M) (((redN a m) * (redN b m)) % M) m)), (.bool (decide ((((redN a m) * (redN b m)) / M) < m)))]), (.tuple #[(U (divQ (((redN a m) * (redN b m)) / M) (((redN a m) * (redN b m)) % M) m)), (U (divR (((redN a m) * (redN b m)) / M) (((redN a m) * (redN b m)) % M) m)), (.bool (decide ((((redN a m) * (redN b m)) / M) < m)))]), (U (divQ (((redN a m) * (redN b m)) / M) (((redN a m) * (redN b m)) % M) m)), (U (divR (((redN a m) * (redN b m)) / M) (((redN a m) * (redN b m)) % M) m)), (.bool (decide ((((redN a m) * (redN b m)) / M) < m))), (pt (nb ρ 8)), (pt (nb ρ 9)), undef, undef, (.bool (decide ((((redN a m) * (redN b m)) / M) < m)))]) (fun ρ => [(8, { news := [(nb ρ 8, (.cells (cU 0) 43 (0, 0)))] }), (9, { news := [(nb ρ 9, (.cells (cU 0) 43 (0, 0)))] }), (10, { puts := [(68, nb ρ 8, (.cells (cU (divQ (((redN a m) * (redN b m)) / M) (((redN a m) * (redN b m)) % M) m)) 43 (0, 0)))] }), (11, { puts := [(76, nb ρ 9, (.cells (cU (divR (((redN a m) * (redN b m)) / M) (((redN a m) * (redN b m)) % M) m)) 43 (0, 0)))] })]) (cR [[2], [3], [0]] <| cC (f := 82) (args := fun ρ => #[(U (((redN a m) * (redN b m)) / M)), (U (((redN a m) * (redN b m)) % M)), (U m)]) (v := fun ρ => (.tuple #[(U (divQ (((redN a m) * (redN b m)) / M) (((redN a m) * (redN b m)) % M) m)), (U (divR (((redN a m) * (redN b m)) / M) (((redN a m) * (redN b m)) % M) m)), (.bool (decide ((((redN a m) * (redN b m)) / M) < m)))])) (fun _ w => (fun w => rdiv_any (((redN a m) * (redN b m)) / M) (((redN a m) * (redN b m)) % M) m w (mulhi_lt (redN_lt ha) (redN_lt hb)) (modM_lt _) hm) w) <| cR [[], [], [], [], [], [], [68], [76], []] <| cN) (fun _ => ?_)
    refine sS Tryd.f77 2 [6] [1, 0] (fun _ => [(U (divR (((redN a m) * (redN b m)) / M) (((redN a m) * (redN b m)) % M) m)), undef]) (fun _ => [(1, { puts := [(0, nb ρ1 3, (.cells (cU (divR (((redN a m) * (redN b m)) / M) (((redN a m) * (redN b m)) % M) m)) 43 (0, 0)))] })]) (cR [[1], [0]] <| cN) (fun _ => ?_)
    refine ok_ret ?_
    exact mR (v := (U (divR (((redN a m) * (redN b m)) / M) (((redN a m) * (redN b m)) % M) m))) (fun _ hS => ⟨congrArg (fun x => Ending.returned (U x)) (mulm_2 hm hb1), hS.bel⟩)
theorem rmulmod_any (a b m : Nat) (w0 : World) (ha : a < M) (hb : b < M) (hm : m < M) : Calls Tryd.prog 77 #[U a, U b, U m] w0 (fun ε w' => ε = .returned (U (mulmN a b m)) ∧ Below w0.heap.size w0 w') := rmulmod_w a b m ha hb hm w0
end Go.Proofs.YtlkbhiaoolddmaaDoor

/-! Shifts: the walks. -/
namespace Go.Proofs.YtlkbhiaoolddmaaDoor
open Go Go.RowKit

theorem rshr_neg (a : Nat) (n : Int) (hn : n ≤ 0) (w0 : World) : Calls Tryd.prog 71 #[(U a), (.int .i64 n)] w0 (fun ε w' => ε = .returned (U a) ∧ Below w0.heap.size w0 w') := by
  refine Calls.of_ok (n := 34) (F := (fun _ => True)) Tryd.func71 rfl rfl rfl (by simp) (persTrue (fun _ => trivial)) ?_
  have hk0 : decide (n ≤ 0) = true := decide_eq_true hn
  refine sS Tryd.f71 2 [1, 2, 4] [] (fun ρ => [(pt (nb ρ 0)), (pt (nb ρ 1))]) (fun ρ => [(0, { news := [(nb ρ 0, (.cells (cU a) 43 (0, 0)))] }), (1, { news := [(nb ρ 1, (.cells (cU 0) 43 (0, 0)))] })]) (cR [[], []] <| cN) (fun ρ1 => ?_)
  refine ok_seq ?_
  refine sS Tryd.f71 2 [1, 2, 4, 8] [] (fun _ => [(.int .i64 n), (.bool true)]) (fun _ => []) (cR [[]] <| cA (fun _ => (.bool true)) (fun _ => congrArg Value.bool hk0) <| cN) (fun _ => ?_)
  refine oY ?_
  refine sS Tryd.f71 2 [1, 2, 4] [] (fun _ => [(U a), undef]) (fun _ => [(1, { puts := [(1, nb ρ1 1, (.cells (cU a) 43 (0, 0)))] })]) (cR [[0], [1]] <| cN) (fun _ => ?_)
  refine ok_ret ?_
  refine mt_then_r ?_
  exact mR (v := (U a)) (ps := [1,1,1,1]) (fun _ hS => ⟨rfl, hS.bel⟩)

theorem rshr_big (a : Nat) (n : Int) (hn : 256 ≤ n) (w0 : World) : Calls Tryd.prog 71 #[(U a), (.int .i64 n)] w0 (fun ε w' => ε = .returned (U 0) ∧ Below w0.heap.size w0 w') := by
  refine Calls.of_ok (n := 34) (F := (fun _ => True)) Tryd.func71 rfl rfl rfl (by simp) (persTrue (fun _ => trivial)) ?_
  have hk0 : decide (n ≤ 0) = false := decide_eq_false (by omega)
  have hk1 : decide (256 ≤ n) = true := decide_eq_true hn
  refine sS Tryd.f71 2 [1, 2, 4] [] (fun ρ => [(pt (nb ρ 0)), (pt (nb ρ 1))]) (fun ρ => [(0, { news := [(nb ρ 0, (.cells (cU a) 43 (0, 0)))] }), (1, { news := [(nb ρ 1, (.cells (cU 0) 43 (0, 0)))] })]) (cR [[], []] <| cN) (fun ρ1 => ?_)
  refine ok_seq ?_
  refine sS Tryd.f71 2 [1, 2, 4, 8] [] (fun _ => [(.int .i64 n), (.bool false)]) (fun _ => []) (cR [[]] <| cA (fun _ => (.bool false)) (fun _ => congrArg Value.bool hk0) <| cN) (fun _ => ?_)
  refine oN ?_
  refine ok_skip ?_
  refine mt_then ?_
  refine ok_seq ?_
  refine sS Tryd.f71 2 [1, 2, 4, 11] [] (fun _ => [(.int .i64 n), (.bool true)]) (fun _ => []) (cR [[]] <| cA (fun _ => (.bool true)) (fun _ => congrArg Value.bool hk1) <| cN) (fun _ => ?_)
  refine oY ?_
  refine sS Tryd.f71 2 [1, 2, 4] [] (fun _ => [(U 0), undef]) (fun _ => [(1, { puts := [(1, nb ρ1 1, (.cells (cU 0) 43 (0, 0)))] })]) (cR [[], [1]] <| cN) (fun _ => ?_)
  refine ok_ret ?_
  refine mt_then_r ?_
  exact mR (v := (U 0)) (ps := [1,1,1,1]) (fun _ hS => ⟨rfl, hS.bel⟩)
theorem run_shl1 {P : Program} {t : TypeId} (k : Nat) (h : k < 64) (w : World) : (binOp .shl t (.int .u64 1) (.int .i64 (k : Int))).run P w = .ok (.int .u64 (2 ^ k)) w := by
  rw [run_shl]
  unfold shlW
  rw [Nat.min_eq_left (by omega), Int.one_mul, pow_in k h]

theorem rshr_mid (a : Nat) (m : Nat) (ha : a < M) (_h0 : 0 < m) (_hm : m < 256) (w0 : World) : Calls Tryd.prog 71 #[(U a), (.int .i64 ((m : Nat) : Int))] w0 (fun ε w' => ε = .returned (U (a / 2 ^ m)) ∧ Below w0.heap.size w0 w') := by
  refine Calls.of_ok (n := 34) (F := (fun _ => True)) Tryd.func71 rfl rfl rfl (by simp) (persTrue (fun _ => trivial)) ?_
  have hk0 : decide (((m : Nat) : Int) ≤ 0) = false := decide_eq_false (by omega)
  have hk1 : decide (256 ≤ ((m : Nat) : Int)) = false := decide_eq_false (by omega)
  refine sS Tryd.f71 2 [1, 2, 4] [] (fun ρ => [(pt (nb ρ 0)), (pt (nb ρ 1))]) (fun ρ => [(0, { news := [(nb ρ 0, (.cells (cU a) 43 (0, 0)))] }), (1, { news := [(nb ρ 1, (.cells (cU 0) 43 (0, 0)))] })]) (cR [[], []] <| cN) (fun ρ1 => ?_)
  refine ok_seq ?_
  refine sS Tryd.f71 2 [1, 2, 4, 8] [] (fun _ => [(.int .i64 ((m : Nat) : Int)), (.bool false)]) (fun _ => []) (cR [[]] <| cA (fun _ => (.bool false)) (fun _ => congrArg Value.bool hk0) <| cN) (fun _ => ?_)
  refine oN ?_
  refine ok_skip ?_
  refine mt_then ?_
  refine ok_seq ?_
  refine sS Tryd.f71 2 [1, 2, 4, 11] [] (fun _ => [(.int .i64 ((m : Nat) : Int)), (.bool false)]) (fun _ => []) (cR [[]] <| cA (fun _ => (.bool false)) (fun _ => congrArg Value.bool hk1) <| cN) (fun _ => ?_)
  refine oN ?_
  refine ok_skip ?_
  refine mt_then ?_
  refine sS Tryd.f71 1 [1, 2, 4, 5] [] (fun ρ => [(pt (nb ρ 0))]) (fun ρ => [(0, { news := [(nb ρ 0, (.cells (cU 0) 43 (0, 0)))] })]) (cR [[]] <| cN) (fun ρ4 => ?_)
  refine ok_seq ?_
  refine sS Tryd.f71 1 [1, 2, 4, 5, 6] [] (fun _ => [(.int .i64 0)]) (fun _ => []) (cR [[]] <| cN) (fun _ => ?_)
  refine dRs [(1, (.int .i64 ((m : Nat) : Int))), (2, (pt (nb ρ1 0))), (4, (pt (nb ρ1 1))), (5, (pt (nb ρ4 0))), (6, (.int .i64 0))] [(nb ρ1 0, (.cells (cU a) 43 (0, 0))), (nb ρ1 1, (.cells (cU 0) 43 (0, 0))), (nb ρ4 0, (.cells (cU 0) 43 (0, 0)))] ?_
  refine ok_block ?_
  refine oL (σ := Nat × Nat) (fun ⟨i, _⟩ => [(1, (.int .i64 ((m : Nat) : Int))), (2, (pt (nb ρ1 0))), (4, (pt (nb ρ1 1))), (5, (pt (nb ρ4 0))), (6, (.int .i64 ((i : Nat) : Int)))]) (fun ⟨_, b⟩ => [(nb ρ1 0, (.cells (cU a) 43 (0, 0))), (nb ρ1 1, (.cells (cU 0) 43 (0, 0))), (nb ρ4 0, (.cells (cU b) 43 (0, 0)))]) (fun ⟨i, _⟩ => 256 - i)
    (fun ⟨i, b⟩ => (i + m ≤ 256) ∧ (b = a / 2 ^ m % 2 ^ i)) (0, 0) (⟨by omega, by simp [Nat.mod_one]⟩) [] ?_
  rintro ⟨i, b⟩ ⟨hi, hb⟩
  change Ok Tryd.prog _ _ 34 [(1, (.int .i64 ((m : Nat) : Int))), (2, (pt (nb ρ1 0))), (4, (pt (nb ρ1 1))), (5, (pt (nb ρ4 0))), (6, (.int .i64 ((i : Nat) : Int)))] _ [(nb ρ1 0, (.cells (cU a) 43 (0, 0))), (nb ρ1 1, (.cells (cU 0) 43 (0, 0))), (nb ρ4 0, (.cells (cU b) 43 (0, 0)))] (fun _ => True)
  refine ok_seq ?_
  refine sS Tryd.f71 4 [1, 2, 4, 5, 6, 16] [] (fun _ => [(.int .i64 ((i : Nat) : Int)), (.int .i64 ((m : Nat) : Int)), (.int .i64 ((i + m : Nat) : Int)), (.bool (decide (((i + m : Nat) : Int) < 256)))]) (fun _ => []) (cR [[], []] <| cA (v := fun ρ => (.int .i64 (IntKind.i64.wrap (((i : Nat) : Int) + ((m : Nat) : Int))))) (fun _ => (.int .i64 ((i + m : Nat) : Int))) (fun _ => congrArg (Value.int .i64) (wrap_add_nat i m (by have := hi; omega))) <| cR [[]] <| cN) (fun _ => ?_)
  refine oC (decide (((i + m : Nat) : Int) < 256)) (fun hb1 => ?_) (fun hb1 => ?_)
  ·
    rw [hb1]
    refine ok_skip ?_
    refine mt_then ?_
    refine ok_seq ?_
    refine ok_block ?_
    refine sS Tryd.f71 5 [1, 2, 4, 5, 6, 23] [] (fun _ => [(U a), (.int .i64 ((i : Nat) : Int)), (.int .i64 ((m : Nat) : Int)), (.int .i64 ((i + m : Nat) : Int)), (.bool (bitN a (i + m)))]) (fun _ => []) (cR [[0], [], []] <| cA (v := fun ρ => (.int .i64 (IntKind.i64.wrap (((i : Nat) : Int) + ((m : Nat) : Int))))) (fun _ => (.int .i64 ((i + m : Nat) : Int))) (fun _ => congrArg (Value.int .i64) (wrap_add_nat i m (by have := hi; omega))) <| cC (fun _ w => rbit_any a (i + m) w (by have := of_decide_eq_true hb1; omega)) <| cN) (fun _ => ?_)
    refine oC (bitN a (i + m)) (fun hb2 => ?_) (fun hb2 => ?_)
    ·
      rw [hb2]
      refine rD Tryd.f71 [0, 1, 3, 7, 0, 16, 48, 127, 255, 511] 10 [1, 2, 4, 5, 6] [] (fun _ => [(.int .i64 ((i : Nat) : Int)), (.int .i64 ((i / 64 : Nat) : Int)), (.pointer (some ⟨nb ρ4 0, i / 64, none⟩)), (.int .u64 (wd b (i / 64))), (.int .i64 ((i : Nat) : Int)), (.int .i64 ((i % 64 : Nat) : Int)), (.int .u64 ((2 : Int) ^ (i % 64))), (.int .u64 (bits .or .u64 (wd b (i / 64)) ((2 : Int) ^ (i % 64)))), (.pointer (some ⟨nb ρ4 0, i / 64, none⟩)), undef]) (fun _ => [(9, { puts := [(2, nb ρ4 0, (.cells (cU (b + 2 ^ (64 * (i / 64) + i % 64))) 43 (0, 0)))] })]) (cR [[]] <| cB (a := fun ρ => (.int .i64 ((i : Nat) : Int))) (b := fun ρ => (.int .i64 64)) (v := fun ρ => (.int .i64 ((i / 64 : Nat) : Int))) .quo 3 (fun _ w => run_quo_nat i 64 (i / 64) (by decide) (by have := hi; omega) rfl w) <| cX (o_sem _ (fun _ => do pure (Next.value (← Instr.indexAt 43 (pt (nb ρ4 0)) (.int .i64 ((i / 64 : Nat) : Int))))) (fun _ => (.pointer (some ⟨nb ρ4 0, i / 64, none⟩))) (fun _ => by kernel_rfl) (fun _ => by kernel_rfl) (fun _ w => run_idx_nat (n := ((i / 64 : Nat) : Int)) (i := i / 64) Tryd.underlying43 Tryd.sizeOf41 (⟨rfl, by have := of_decide_eq_true hb1; omega⟩) w)) <| cX (o_ld _ 2 41 (fun _ => nb ρ4 0) (fun _ => i / 64) (fun _ => (cU b)) 43 (0, 0) (fun _ => (.int .u64 (wd b (i / 64)))) (fun _ => by kernel_rfl) Tryd.isAgg41 (fun _ => cU_get b (i / 64) (by have := of_decide_eq_true hb1; omega))) <| cR [[]] <| cB (a := fun ρ => (.int .i64 ((i : Nat) : Int))) (b := fun ρ => (.int .i64 64)) (v := fun ρ => (.int .i64 ((i % 64 : Nat) : Int))) .rem 3 (fun _ w => run_rem_nat i 64 (i % 64) (by decide) rfl w) <| cB (a := fun ρ => (.int .u64 1)) (b := fun ρ => (.int .i64 ((i % 64 : Nat) : Int))) (v := fun ρ => (.int .u64 ((2 : Int) ^ (i % 64)))) .shl 41 (fun _ w => run_shl1 (i % 64) (by omega) w) <| cR [[]] <| cX (o_sem _ (fun _ => do pure (Next.value (← Instr.indexAt 43 (pt (nb ρ4 0)) (.int .i64 ((i / 64 : Nat) : Int))))) (fun _ => (.pointer (some ⟨nb ρ4 0, i / 64, none⟩))) (fun _ => by kernel_rfl) (fun _ => by kernel_rfl) (fun _ w => run_idx_nat (n := ((i / 64 : Nat) : Int)) (i := i / 64) Tryd.underlying43 Tryd.sizeOf41 (⟨rfl, by have := of_decide_eq_true hb1; omega⟩) w)) <| cX (o_st _ 2 41 (fun _ => nb ρ4 0) (fun _ => i / 64) (fun _ => (cU b)) (fun _ => (cU (b + 2 ^ (64 * (i / 64) + i % 64)))) 43 (fun _ => (.int .u64 (bits .or .u64 (wd b (i / 64)) ((2 : Int) ^ (i % 64))))) (fun _ => by kernel_rfl) Tryd.sizeOf41 (fun _ => rfl) (fun _ => (show _ < 4 from by have := of_decide_eq_true hb1; omega)) (fun _ => setlow_row b (i / 64) (i % 64) (by have := of_decide_eq_true hb1; omega) (by omega) (by rw [hb, show 64 * (i / 64) + i % 64 = i by omega]; exact Nat.mod_lt _ (Nat.pow_pos (by decide))))) <| cN) (fun _ => ?_)
      refine mt_block_n ?_
      refine mt_then ?_
      refine rS Tryd.f71 3 [1, 2, 4, 5, 6] [] (fun _ => [(.int .i64 ((i : Nat) : Int)), (.int .i64 ((i + 1 : Nat) : Int)), (.int .i64 ((i + 1 : Nat) : Int))]) (fun _ => []) (cR [[]] <| cA (v := fun ρ => (.int .i64 (IntKind.i64.wrap (((i : Nat) : Int) + 1)))) (fun _ => (.int .i64 ((i + 1 : Nat) : Int))) (fun _ => congrArg (Value.int .i64) (wrap_add_nat i 1 (by have := hi; omega))) <| cR [[]] <| cN) (fun _ => ?_)
      exact mN (i + 1, b + 2 ^ (64 * (i / 64) + i % 64)) (by show 256 - (i + 1) < 256 - i; have := of_decide_eq_true hb1; omega) (⟨by have := of_decide_eq_true hb1; omega, by rw [low_next, hb]; have h2 := hb2; unfold bitN at h2; rw [shr_bit] at h2; rw [if_pos (of_decide_eq_true h2), show 64 * (i / 64) + i % 64 = i by omega]⟩) []
    ·
      rw [hb2]
      refine ok_skip ?_
      refine mt_block_n ?_
      refine mt_then ?_
      refine rS Tryd.f71 3 [1, 2, 4, 5, 6] [] (fun _ => [(.int .i64 ((i : Nat) : Int)), (.int .i64 ((i + 1 : Nat) : Int)), (.int .i64 ((i + 1 : Nat) : Int))]) (fun _ => []) (cR [[]] <| cA (v := fun ρ => (.int .i64 (IntKind.i64.wrap (((i : Nat) : Int) + 1)))) (fun _ => (.int .i64 ((i + 1 : Nat) : Int))) (fun _ => congrArg (Value.int .i64) (wrap_add_nat i 1 (by have := hi; omega))) <| cR [[]] <| cN) (fun _ => ?_)
      exact mN (i + 1, b) (by show 256 - (i + 1) < 256 - i; have := of_decide_eq_true hb1; omega) (⟨by have := of_decide_eq_true hb1; omega, by rw [low_next, hb]; have h2 := hb2; unfold bitN at h2; rw [shr_bit] at h2; rw [if_neg (of_decide_eq_false h2), Nat.add_zero]⟩) []
  ·
    rw [hb1]
    refine ok_exit ?_
    refine mt_then_e ?_
    refine mt_then_e ?_
    refine mt_block_h ?_
    refine mt_then ?_
    refine sS Tryd.f71 2 [4] [0, 1, 0] (fun _ => [(U b), undef]) (fun _ => [(1, { puts := [(1, nb ρ1 1, (.cells (cU b) 43 (0, 0)))] })]) (cR [[2], [1]] <| cN) (fun _ => ?_)
    refine ok_ret ?_
    exact mR (v := (U b)) (fun _ hS => ⟨congrArg (fun x => Ending.returned (U x)) (by rw [hb]; exact shr_all ha (by have := of_decide_eq_false hb1; omega)), hS.bel⟩)
theorem rshr_any (a : Nat) (n : Int) (w0 : World) (ha : a < M) : Calls Tryd.prog 71 #[U a, .int .i64 n] w0 (fun ε w' => ε = .returned (U (shrZ a n)) ∧ Below w0.heap.size w0 w') := by
  unfold shrZ
  by_cases h0 : n < 0
  · rw [if_pos h0]; exact rshr_neg a n (by omega) w0
  · rw [if_neg h0]
    by_cases h1 : 256 ≤ n
    · rw [shrN_big ha (by omega)]; exact rshr_big a n h1 w0
    · obtain ⟨k, rfl⟩ := Int.eq_ofNat_of_zero_le (by omega : 0 ≤ n)
      rw [Int.toNat_natCast]
      by_cases hk : k = 0
      · subst hk; rw [Nat.pow_zero, Nat.div_one]; exact rshr_neg a _ (by omega) w0
      · exact rshr_mid a k ha (by omega) (by omega) w0
end Go.Proofs.YtlkbhiaoolddmaaDoor

/-! Powers modulo a number: the walks. -/
namespace Go.Proofs.YtlkbhiaoolddmaaDoor
open Go Go.RowKit

theorem rexpmod_w (a : Nat) (e : Nat) (m : Nat) (ha : a < M) (he : e < M) (hm : m < M) (w0 : World) : Calls Tryd.prog 70 #[(U a), (U e), (U m)] w0 (fun ε w' => ε = .returned (U (expmN a e m)) ∧ Below w0.heap.size w0 w') := by
  refine Calls.of_ok (n := 34) (F := (fun _ => True)) Tryd.func70 rfl rfl rfl (by simp) (persTrue (fun _ => trivial)) ?_
  refine sS Tryd.f70 4 [3, 4, 5, 6] [] (fun ρ => [(pt (nb ρ 0)), (pt (nb ρ 1)), (pt (nb ρ 2)), (pt (nb ρ 3))]) (fun ρ => [(0, { news := [(nb ρ 0, (.cells (cU a) 43 (0, 0)))] }), (1, { news := [(nb ρ 1, (.cells (cU e) 43 (0, 0)))] }), (2, { news := [(nb ρ 2, (.cells (cU m) 43 (0, 0)))] }), (3, { news := [(nb ρ 3, (.cells (cU 0) 43 (0, 0)))] })]) (cR [[], [], [], []] <| cN) (fun ρ1 => ?_)
  refine ok_seq ?_
  refine sS Tryd.f70 2 [3, 4, 5, 6, 10] [] (fun _ => [(U m), (.bool (decide (m = 0)))]) (fun _ => []) (cR [[2]] <| cC (fun _ w => rzero_any m w hm) <| cN) (fun _ => ?_)
  refine oC (decide (m = 0)) (fun hb1 => ?_) (fun hb1 => ?_)
  ·
    rw [hb1]
    refine sS Tryd.f70 2 [3, 4, 5, 6] [] (fun _ => [(U m), undef]) (fun _ => [(1, { puts := [(3, nb ρ1 3, (.cells (cU m) 43 (0, 0)))] })]) (cR [[2], [3]] <| cN) (fun _ => ?_)
    refine ok_ret ?_
    refine mt_then_r ?_
    exact mR (v := (U m)) (ps := [3,3,3,3]) (fun _ hS => ⟨congrArg (fun x => Ending.returned (U x)) (expm_0' hb1), hS.bel⟩)
  ·
    rw [hb1]
    refine ok_skip ?_
    refine mt_then ?_
    refine sD Tryd.f70 [0, 0, 3, 0, 15] 5 [3, 4, 5, 6, 7] [] (fun ρ => [(U 1), (U m), (U (redN 1 m)), (pt (nb ρ 3)), undef]) (fun ρ => [(3, { news := [(nb ρ 3, (.cells (cU 0) 43 (0, 0)))] }), (4, { puts := [(28, nb ρ 3, (.cells (cU (redN 1 m)) 43 (0, 0)))] })]) (cC (fun _ w => rfromuint_lit 1 w (by decide)) <| cR [[2]] <| cC (fun _ w => rreduce_any 1 m w (by decide +kernel) hm) <| cR [[], [28]] <| cN) (fun ρ4 => ?_)
    refine ok_seq ?_
    refine sS Tryd.f70 4 [3, 4, 5, 6, 7, 8] [] (fun _ => [(U e), (.int .i64 ((lenN e : Nat) : Int)), (.int .i64 (((lenN e : Nat) : Int) - 1)), (.int .i64 (((lenN e : Nat) : Int) - 1))]) (fun _ => []) (cR [[1]] <| cC (fun _ w => rlen_any e w he) <| cA (v := fun ρ => (.int .i64 (IntKind.i64.wrap (((lenN e : Nat) : Int) - 1)))) (fun _ => (.int .i64 (((lenN e : Nat) : Int) - 1))) (fun _ => congrArg (Value.int .i64) (wrap_pred (by have := lenN_le e he; omega))) <| cR [[]] <| cN) (fun _ => ?_)
    refine ok_block ?_
    refine oL (σ := Nat × Nat) (fun ⟨k, _⟩ => [(3, (pt (nb ρ1 0))), (4, (pt (nb ρ1 1))), (5, (pt (nb ρ1 2))), (6, (pt (nb ρ1 3))), (7, (pt (nb ρ4 3))), (8, (.int .i64 (((k : Nat) : Int) - 1)))]) (fun ⟨_, p⟩ => [(nb ρ1 0, (.cells (cU a) 43 (0, 0))), (nb ρ1 1, (.cells (cU e) 43 (0, 0))), (nb ρ1 2, (.cells (cU m) 43 (0, 0))), (nb ρ1 3, (.cells (cU 0) 43 (0, 0))), (nb ρ4 3, (.cells (cU p) 43 (0, 0)))]) (fun ⟨k, _⟩ => k)
      (fun ⟨k, p⟩ => (k ≤ 256) ∧ (p = a ^ (e / 2 ^ k) % m)) (lenN e, redN 1 m) (⟨lenN_le e he, exp_start hb1⟩) [] ?_
    rintro ⟨k, p⟩ ⟨hk, hp⟩
    change Ok Tryd.prog _ _ 34 [(3, (pt (nb ρ1 0))), (4, (pt (nb ρ1 1))), (5, (pt (nb ρ1 2))), (6, (pt (nb ρ1 3))), (7, (pt (nb ρ4 3))), (8, (.int .i64 (((k : Nat) : Int) - 1)))] _ [(nb ρ1 0, (.cells (cU a) 43 (0, 0))), (nb ρ1 1, (.cells (cU e) 43 (0, 0))), (nb ρ1 2, (.cells (cU m) 43 (0, 0))), (nb ρ1 3, (.cells (cU 0) 43 (0, 0))), (nb ρ4 3, (.cells (cU p) 43 (0, 0)))] (fun _ => True)
    have hpM : p < M := exp_lt hm hb1 hp
    refine ok_seq ?_
    refine sS Tryd.f70 2 [3, 4, 5, 6, 7, 8, 19] [] (fun _ => [(.int .i64 (((k : Nat) : Int) - 1)), (.bool (decide (0 ≤ (((k : Nat) : Int) - 1))))]) (fun _ => []) (cR [[], []] <| cN) (fun _ => ?_)
    refine oC (decide (0 ≤ (((k : Nat) : Int) - 1))) (fun hb2 => ?_) (fun hb2 => ?_)
    ·
      rw [hb2]
      refine ok_skip ?_
      refine mt_then ?_
      refine ok_seq ?_
      refine ok_block ?_
      refine sS Tryd.f70 5 [3, 4, 5, 6, 7, 8] [] (fun _ => [(U p), (U p), (U m), (U (mulmN p p m)), undef]) (fun _ => [(4, { puts := [(4, nb ρ4 3, (.cells (cU (mulmN p p m)) 43 (0, 0)))] })]) (cR [[4], [4], [2]] <| cC (fun _ w => rmulmod_any p p m w hpM hpM hm) <| cR [[4]] <| cN) (fun _ => ?_)
      refine sS Tryd.f70 3 [3, 4, 5, 6, 7, 8, 28] [] (fun _ => [(U e), (.int .i64 (((k : Nat) : Int) - 1)), (.bool (bitN e (k - 1)))]) (fun _ => []) (cR [[1], []] <| cC (f := 78) (args := fun ρ => #[(U e), (.int .i64 (((k : Nat) : Int) - 1))]) (v := fun ρ => (.bool (bitN e (k - 1)))) (fun _ w => (fun w => rbit_at e (k - 1) _ (by have h1 := of_decide_eq_true hb2; omega) w (by have h1 := of_decide_eq_true hb2; have := hk; omega)) w) <| cN) (fun _ => ?_)
      refine oC (bitN e (k - 1)) (fun hb3 => ?_) (fun hb3 => ?_)
      ·
        rw [hb3]
        refine rS Tryd.f70 5 [3, 4, 5, 6, 7, 8] [] (fun _ => [(U (mulmN p p m)), (U a), (U m), (U (mulmN (mulmN p p m) a m)), undef]) (fun _ => [(4, { puts := [(4, nb ρ4 3, (.cells (cU (mulmN (mulmN p p m) a m)) 43 (0, 0)))] })]) (cR [[4], [0], [2]] <| cC (f := 77) (args := fun ρ => #[(U (mulmN p p m)), (U a), (U m)]) (v := fun ρ => (U (mulmN (mulmN p p m) a m))) (fun _ w => (fun w => rmulmod_any (mulmN p p m) a m w (mulmN_lt _ _ hm) ha hm) w) <| cR [[4]] <| cN) (fun _ => ?_)
        refine mt_block_n ?_
        refine mt_then ?_
        refine rS Tryd.f70 3 [3, 4, 5, 6, 7, 8] [] (fun _ => [(.int .i64 (((k : Nat) : Int) - 1)), (.int .i64 (((k - 1 : Nat) : Int) - 1)), (.int .i64 (((k - 1 : Nat) : Int) - 1))]) (fun _ => []) (cR [[]] <| cA (v := fun ρ => (.int .i64 (IntKind.i64.wrap ((((k : Nat) : Int) - 1) - 1)))) (fun _ => (.int .i64 (((k - 1 : Nat) : Int) - 1))) (fun _ => congrArg (Value.int .i64) (wrap_down (by have h1 := of_decide_eq_true hb2; omega) (by have := hk; omega))) <| cR [[]] <| cN) (fun _ => ?_)
        exact mN (k - 1, mulmN (mulmN p p m) a m) (by show k - 1 < k; have h1 := of_decide_eq_true hb2; omega) (⟨by have := hk; omega, by rw [exp_step1 hp (redN_pos (a := 0) hb1).2.1, half_odd (by have h1 := of_decide_eq_true hb2; omega) hb3]⟩) []
      ·
        rw [hb3]
        refine ok_skip ?_
        refine mt_block_n ?_
        refine mt_then ?_
        refine rS Tryd.f70 3 [3, 4, 5, 6, 7, 8] [] (fun _ => [(.int .i64 (((k : Nat) : Int) - 1)), (.int .i64 (((k - 1 : Nat) : Int) - 1)), (.int .i64 (((k - 1 : Nat) : Int) - 1))]) (fun _ => []) (cR [[]] <| cA (v := fun ρ => (.int .i64 (IntKind.i64.wrap ((((k : Nat) : Int) - 1) - 1)))) (fun _ => (.int .i64 (((k - 1 : Nat) : Int) - 1))) (fun _ => congrArg (Value.int .i64) (wrap_down (by have h1 := of_decide_eq_true hb2; omega) (by have := hk; omega))) <| cR [[]] <| cN) (fun _ => ?_)
        exact mN (k - 1, mulmN p p m) (by show k - 1 < k; have h1 := of_decide_eq_true hb2; omega) (⟨by have := hk; omega, by rw [exp_step hp (redN_pos (a := 0) hb1).2.1, half_even (by have h1 := of_decide_eq_true hb2; omega) hb3]⟩) []
    ·
      rw [hb2]
      refine ok_exit ?_
      refine mt_then_e ?_
      refine mt_then_e ?_
      refine mt_block_h ?_
      refine mt_then ?_
      refine sS Tryd.f70 2 [6] [0, 0, 0, 1, 0] (fun _ => [(U p), undef]) (fun _ => [(1, { puts := [(3, nb ρ1 3, (.cells (cU p) 43 (0, 0)))] })]) (cR [[4], [3]] <| cN) (fun _ => ?_)
      refine ok_ret ?_
      exact mR (v := (U p)) (fun _ hS => ⟨congrArg (fun x => Ending.returned (U x)) (exp_end (k := k) hb1 (by have h1 := of_decide_eq_false hb2; omega) hp), hS.bel⟩)
theorem rexpmod_any (a e m : Nat) (w0 : World) (ha : a < M) (he : e < M) (hm : m < M) : Calls Tryd.prog 70 #[U a, U e, U m] w0 (fun ε w' => ε = .returned (U (expmN a e m)) ∧ Below w0.heap.size w0 w') := rexpmod_w a e m ha he hm w0
end Go.Proofs.YtlkbhiaoolddmaaDoor

/-! Big-endian forms: the walks of Bytes and FromBytes. -/
namespace Go.Proofs.YtlkbhiaoolddmaaDoor
open Go Go.RowKit

theorem hB_step {A k : Nat} {C : Array Value} {v : Int} (hC : C.size = 32) (hk : k < 32) (hj : ∀ j, j < k → C[j]? = some (.int .u8 (byt A j))) (hv : v = byt A k) :
    (C.setIfInBounds k (.int .u8 v)).size = 32 ∧ ∀ j, j < k + 1 → (C.setIfInBounds k (.int .u8 v))[j]? = some (.int .u8 (byt A j)) := by
  refine ⟨by simpa using hC, fun j h => ?_⟩
  by_cases e : j = k
  · subst e; rw [hv]; simp [hC, hk]
  · rw [Array.getElem?_setIfInBounds_ne (fun x => e x.symm)]; exact hj j (by omega)

theorem size_hash {C : Array Value} (h : C.size = 32) : (Tryd.prog.info? 36).map (·.size) = some C.size := by rw [h]; kernel_rfl


theorem run_index_hash (A k : Nat) (hk : k < 32) (w : World) : (Instr.index 36 (.agg (hB A)) (.int .i64 k)).run Tryd.prog w = .ok (.int .u8 (byt A k)) w := by
  have h := hB_get A k hk
  have h0 : (0 : Int) ≤ (k : Int) ∧ (k : Int) < 32 := by omega
  simp [Instr.index, go_sem, part, h, h0, hk]
end Go.Proofs.YtlkbhiaoolddmaaDoor

/-! Big-endian forms: the walks of the reference's Bytes and FromBytes. -/
namespace Go.Proofs.YtlkbhiaoolddmaaDoor
open Go Go.RowKit
theorem setCell_drewN (w : World) (n : Nat) (a : Addr) (v : Value) : (w.drewN n).setCell a v = (w.setCell a v).drewN n := rfl
end Go.Proofs.YtlkbhiaoolddmaaDoor

/-! The group: the walks. -/
namespace Go.Proofs.YtlkbhiaoolddmaaDoor
open Go Go.RowKit

theorem gmodulus_w  (w0 : World) : Calls Tryd.prog 57 #[] w0 (fun ε w' => ε = .returned (U pP) ∧ Below w0.heap.size w0 w') := by
  refine Calls.of_ok (n := 2) (F := (fun _ => True)) Tryd.func57 rfl rfl rfl (by simp) (persTrue (fun _ => trivial)) ?_
  refine sS Tryd.f57 1 [0] [] (fun ρ => [(pt (nb ρ 0))]) (fun ρ => [(0, { news := [(nb ρ 0, (.cells (cU 0) 43 (0, 0)))] })]) (cR [[]] <| cN) (fun ρ1 => ?_)
  refine sS Tryd.f57 2 [0] [] (fun _ => [(U 115792089237316195423570985008687907853269984665640564039457584007913129603823), undef]) (fun _ => [(1, { puts := [(0, nb ρ1 0, (.cells (cU 115792089237316195423570985008687907853269984665640564039457584007913129603823) 43 (0, 0)))] })]) (cR [[], [0]] <| cN) (fun _ => ?_)
  refine ok_ret ?_
  exact mR (v := (U 115792089237316195423570985008687907853269984665640564039457584007913129603823)) (fun _ hS => ⟨congrArg (fun x => Ending.returned (U x)) (by decide +kernel), hS.bel⟩)
theorem gmodulus_any (w0 : World)  : Calls Tryd.prog 57 #[] w0 (fun ε w' => ε = .returned (U pP) ∧ Below w0.heap.size w0 w') := gmodulus_w  w0

theorem gorder_w  (w0 : World) : Calls Tryd.prog 59 #[] w0 (fun ε w' => ε = .returned (U qP) ∧ Below w0.heap.size w0 w') := by
  refine Calls.of_ok (n := 2) (F := (fun _ => True)) Tryd.func59 rfl rfl rfl (by simp) (persTrue (fun _ => trivial)) ?_
  refine sS Tryd.f59 1 [0] [] (fun ρ => [(pt (nb ρ 0))]) (fun ρ => [(0, { news := [(nb ρ 0, (.cells (cU 0) 43 (0, 0)))] })]) (cR [[]] <| cN) (fun ρ1 => ?_)
  refine sS Tryd.f59 2 [0] [] (fun _ => [(U 57896044618658097711785492504343953926634992332820282019728792003956564801911), undef]) (fun _ => [(1, { puts := [(0, nb ρ1 0, (.cells (cU 57896044618658097711785492504343953926634992332820282019728792003956564801911) 43 (0, 0)))] })]) (cR [[], [0]] <| cN) (fun _ => ?_)
  refine ok_ret ?_
  exact mR (v := (U 57896044618658097711785492504343953926634992332820282019728792003956564801911)) (fun _ hS => ⟨congrArg (fun x => Ending.returned (U x)) (by decide +kernel), hS.bel⟩)
theorem gorder_any (w0 : World)  : Calls Tryd.prog 59 #[] w0 (fun ε w' => ε = .returned (U qP) ∧ Below w0.heap.size w0 w') := gorder_w  w0

theorem rgmodulus_w  (w0 : World) : Calls Tryd.prog 62 #[] w0 (fun ε w' => ε = .returned (U pP) ∧ Below w0.heap.size w0 w') := by
  refine Calls.of_ok (n := 10) (F := (fun _ => True)) Tryd.func62 rfl rfl rfl (by simp) (persTrue (fun _ => trivial)) ?_
  refine sS Tryd.f62 1 [0] [] (fun ρ => [(pt (nb ρ 0))]) (fun ρ => [(0, { news := [(nb ρ 0, (.cells (cU 0) 43 (0, 0)))] })]) (cR [[]] <| cN) (fun ρ1 => ?_)
  refine sS Tryd.f62 9 [0, 1] [] (fun ρ => [(U 0), (U 36113), (.tuple #[(U ((0 + M - 36113) % M)), (.bool (decide (0 < 36113)))]), (.tuple #[(U ((0 + M - 36113) % M)), (.bool (decide (0 < 36113)))]), (U ((0 + M - 36113) % M)), (.bool (decide (0 < 36113))), (pt (nb ρ 6)), undef, (.bool (decide (0 < 36113)))]) (fun ρ => [(6, { news := [(nb ρ 6, (.cells (cU 0) 43 (0, 0)))] }), (7, { puts := [(49, nb ρ 6, (.cells (cU ((0 + M - 36113) % M)) 43 (0, 0)))] })]) (cR [[]] <| cC (fun _ w => rfromuint_lit 36113 w (by decide)) <| cC (fun _ w => rsub_any 0 36113 w (by decide +kernel) (by decide +kernel)) <| cR [[], [], [], [], [49], []] <| cN) (fun _ => ?_)
  refine sS Tryd.f62 2 [0] [1, 0] (fun _ => [(U ((0 + M - 36113) % M)), undef]) (fun _ => [(1, { puts := [(0, nb ρ1 0, (.cells (cU ((0 + M - 36113) % M)) 43 (0, 0)))] })]) (cR [[1], [0]] <| cN) (fun _ => ?_)
  refine ok_ret ?_
  exact mR (v := (U ((0 + M - 36113) % M))) (fun _ hS => ⟨congrArg (fun x => Ending.returned (U x)) (by decide +kernel), hS.bel⟩)
theorem rgmodulus_any (w0 : World)  : Calls Tryd.prog 62 #[] w0 (fun ε w' => ε = .returned (U pP) ∧ Below w0.heap.size w0 w') := rgmodulus_w  w0

theorem rgorder_w  (w0 : World) : Calls Tryd.prog 64 #[] w0 (fun ε w' => ε = .returned (U qP) ∧ Below w0.heap.size w0 w') := by
  refine Calls.of_ok (n := 3) (F := (fun _ => True)) Tryd.func64 rfl rfl rfl (by simp) (persTrue (fun _ => trivial)) ?_
  refine sS Tryd.f64 1 [0] [] (fun ρ => [(pt (nb ρ 0))]) (fun ρ => [(0, { news := [(nb ρ 0, (.cells (cU 0) 43 (0, 0)))] })]) (cR [[]] <| cN) (fun ρ1 => ?_)
  refine sS Tryd.f64 3 [0] [] (fun _ => [(U pP), (U (shrZ pP 1)), undef]) (fun _ => [(2, { puts := [(0, nb ρ1 0, (.cells (cU (shrZ pP 1)) 43 (0, 0)))] })]) (cC (fun _ w => rgmodulus_any w) <| cC (fun _ w => rshr_any pP 1 w pP_lt) <| cR [[0]] <| cN) (fun _ => ?_)
  refine ok_ret ?_
  exact mR (v := (U (shrZ pP 1))) (fun _ hS => ⟨congrArg (fun x => Ending.returned (U x)) (by decide +kernel), hS.bel⟩)
theorem rgorder_any (w0 : World)  : Calls Tryd.prog 64 #[] w0 (fun ε w' => ε = .returned (U qP) ∧ Below w0.heap.size w0 w') := rgorder_w  w0

theorem rgone_w  (w0 : World) : Calls Tryd.prog 65 #[] w0 (fun ε w' => ε = .returned (U 1) ∧ Below w0.heap.size w0 w') := by
  refine Calls.of_ok (n := 2) (F := (fun _ => True)) Tryd.func65 rfl rfl rfl (by simp) (persTrue (fun _ => trivial)) ?_
  refine sS Tryd.f65 1 [0] [] (fun ρ => [(pt (nb ρ 0))]) (fun ρ => [(0, { news := [(nb ρ 0, (.cells (cU 0) 43 (0, 0)))] })]) (cR [[]] <| cN) (fun ρ1 => ?_)
  refine sS Tryd.f65 2 [0] [] (fun _ => [(U 1), undef]) (fun _ => [(1, { puts := [(0, nb ρ1 0, (.cells (cU 1) 43 (0, 0)))] })]) (cC (fun _ w => rfromuint_lit 1 w (by decide)) <| cR [[0]] <| cN) (fun _ => ?_)
  refine ok_ret ?_
  exact mR (v := (U 1)) (fun _ hS => ⟨rfl, hS.bel⟩)
theorem rgone_any (w0 : World)  : Calls Tryd.prog 65 #[] w0 (fun ε w' => ε = .returned (U 1) ∧ Below w0.heap.size w0 w') := rgone_w  w0

theorem gmul_w (a : Nat) (b : Nat) (ha : a < M) (hb : b < M) (w0 : World) : Calls Tryd.prog 68 #[(U a), (U b)] w0 (fun ε w' => ε = .returned (U (mulmN a b pP)) ∧ Below w0.heap.size w0 w') := by
  refine Calls.of_ok (n := 9) (F := (fun _ => True)) Tryd.func68 rfl rfl rfl (by simp) (persTrue (fun _ => trivial)) ?_
  refine sS Tryd.f68 3 [2, 3, 4] [] (fun ρ => [(pt (nb ρ 0)), (pt (nb ρ 1)), (pt (nb ρ 2))]) (fun ρ => [(0, { news := [(nb ρ 0, (.cells (cU a) 43 (0, 0)))] }), (1, { news := [(nb ρ 1, (.cells (cU b) 43 (0, 0)))] }), (2, { news := [(nb ρ 2, (.cells (cU 0) 43 (0, 0)))] })]) (cR [[], [], []] <| cN) (fun ρ1 => ?_)
  refine sD Tryd.f68 [0, 0, 0, 7, 15] 5 [4] [0, 0, 1] (fun _ => [(U a), (U b), (U pP), (U (mulmN a b pP)), undef]) (fun _ => [(4, { puts := [(2, nb ρ1 2, (.cells (cU (mulmN a b pP)) 43 (0, 0)))] })]) (cR [[0], [1]] <| cC (fun _ w => gmodulus_any w) <| cC (fun _ w => mulmod_any a b pP w ha hb pP_lt) <| cR [[2]] <| cN) (fun _ => ?_)
  refine ok_ret ?_
  exact mR (v := (U (mulmN a b pP))) (fun _ hS => ⟨rfl, hS.bel⟩)
theorem gmul_any (a b : Nat) (w0 : World) (ha : a < M) (hb : b < M) : Calls Tryd.prog 68 #[(U a), (U b)] w0 (fun ε w' => ε = .returned (U (mulmN a b pP)) ∧ Below w0.heap.size w0 w') := gmul_w a b ha hb w0

theorem gexp_w (a : Nat) (e : Nat) (ha : a < M) (he : e < M) (w0 : World) : Calls Tryd.prog 58 #[(U a), (U e)] w0 (fun ε w' => ε = .returned (U (expmN a e pP)) ∧ Below w0.heap.size w0 w') := by
  refine Calls.of_ok (n := 37) (F := (fun _ => True)) Tryd.func58 rfl rfl rfl (by simp) (persTrue (fun _ => trivial)) ?_
  refine sS Tryd.f58 3 [2, 3, 4] [] (fun ρ => [(pt (nb ρ 0)), (pt (nb ρ 1)), (pt (nb ρ 2))]) (fun ρ => [(0, { news := [(nb ρ 0, (.cells (cU a) 43 (0, 0)))] }), (1, { news := [(nb ρ 1, (.cells (cU e) 43 (0, 0)))] }), (2, { news := [(nb ρ 2, (.cells (cU 0) 43 (0, 0)))] })]) (cR [[], [], []] <| cN) (fun ρ1 => ?_)
  refine sS Tryd.f58 3 [2, 3, 4, 5] [] (fun ρ => [(U 1), (pt (nb ρ 1)), undef]) (fun ρ => [(1, { news := [(nb ρ 1, (.cells (cU 0) 43 (0, 0)))] }), (2, { puts := [(11, nb ρ 1, (.cells (cU 1) 43 (0, 0)))] })]) (cC (fun _ w => fromuint_lit 1 w (by decide)) <| cR [[], [11]] <| cN) (fun ρ2 => ?_)
  refine sS Tryd.f58 3 [2, 3, 4, 5, 6] [] (fun _ => [(U e), (.int .i64 ((lenN e : Nat) : Int)), (.int .i64 ((lenN e : Nat) : Int))]) (fun _ => []) (cR [[1]] <| cC (fun _ w => len_any e w he) <| cR [[]] <| cN) (fun _ => ?_)
  refine ok_seq ?_
  refine sS Tryd.f58 2 [2, 3, 4, 5, 6, 12, 13] [] (fun _ => [(.int .i64 ((lenN e : Nat) : Int)), (.int .i64 0)]) (fun _ => []) (cR [[], []] <| cN) (fun _ => ?_)
  refine ok_block ?_
  refine oL (σ := Nat × Nat) (fun ⟨i, _⟩ => [(2, (pt (nb ρ1 0))), (3, (pt (nb ρ1 1))), (4, (pt (nb ρ1 2))), (5, (pt (nb ρ2 1))), (6, (.int .i64 ((lenN e : Nat) : Int))), (12, (.int .i64 ((lenN e : Nat) : Int))), (13, (.int .i64 ((i : Nat) : Int)))]) (fun ⟨_, p⟩ => [(nb ρ1 0, (.cells (cU a) 43 (0, 0))), (nb ρ1 1, (.cells (cU e) 43 (0, 0))), (nb ρ1 2, (.cells (cU 0) 43 (0, 0))), (nb ρ2 1, (.cells (cU p) 43 (0, 0)))]) (fun ⟨i, _⟩ => lenN e - i)
    (fun ⟨i, p⟩ => (i ≤ lenN e) ∧ (p = a ^ (e / 2 ^ (lenN e - i)) % pP)) (0, 1) (⟨Nat.zero_le _, exp_one a e⟩) [] ?_
  rintro ⟨i, p⟩ ⟨hi, hp⟩
  change Ok Tryd.prog _ _ 37 [(2, (pt (nb ρ1 0))), (3, (pt (nb ρ1 1))), (4, (pt (nb ρ1 2))), (5, (pt (nb ρ2 1))), (6, (.int .i64 ((lenN e : Nat) : Int))), (12, (.int .i64 ((lenN e : Nat) : Int))), (13, (.int .i64 ((i : Nat) : Int)))] _ [(nb ρ1 0, (.cells (cU a) 43 (0, 0))), (nb ρ1 1, (.cells (cU e) 43 (0, 0))), (nb ρ1 2, (.cells (cU 0) 43 (0, 0))), (nb ρ2 1, (.cells (cU p) 43 (0, 0)))] (fun _ => True)
  have hpM : p < M := gexp_lt hp
  refine sS Tryd.f58 1 [2, 3, 4, 5, 6, 12, 13, 14] [] (fun _ => [(.bool (decide (((i : Nat) : Int) < ((lenN e : Nat) : Int))))]) (fun _ => []) (cR [[]] <| cN) (fun _ => ?_)
  refine ok_seq ?_
  refine oC (decide (((i : Nat) : Int) < ((lenN e : Nat) : Int))) (fun hb1 => ?_) (fun hb1 => ?_)
  ·
    rw [hb1]
    refine ok_skip ?_
    refine mt_then ?_
    refine ok_seq ?_
    refine ok_block ?_
    refine sS Tryd.f58 2 [2, 3, 4, 5, 6, 7, 12, 13] [] (fun _ => [(.int .i64 ((i : Nat) : Int)), (.int .i64 ((i : Nat) : Int))]) (fun _ => []) (cR [[], []] <| cN) (fun _ => ?_)
    refine sS Tryd.f58 5 [2, 3, 4, 5, 6, 8, 12, 13] [] (fun _ => [(.int .i64 ((lenN e : Nat) : Int)), (.int .i64 ((lenN e - 1 : Nat) : Int)), (.int .i64 ((i : Nat) : Int)), (.int .i64 ((lenN e - 1 - i : Nat) : Int)), (.int .i64 ((lenN e - 1 - i : Nat) : Int))]) (fun _ => []) (cR [[]] <| cA (v := fun ρ => (.int .i64 (IntKind.i64.wrap (((lenN e : Nat) : Int) - 1)))) (fun _ => (.int .i64 ((lenN e - 1 : Nat) : Int))) (fun _ => congrArg (Value.int .i64) (wrap_sub_nat (lenN e) 1 (by have h1 := of_decide_eq_true hb1; have h2 := lenN_le e he; omega) (by have h1 := of_decide_eq_true hb1; have h2 := lenN_le e he; omega))) <| cR [[]] <| cA (v := fun ρ => (.int .i64 (IntKind.i64.wrap (((lenN e - 1 : Nat) : Int) - ((i : Nat) : Int))))) (fun _ => (.int .i64 ((lenN e - 1 - i : Nat) : Int))) (fun _ => congrArg (Value.int .i64) (wrap_sub_nat (lenN e - 1) i (by have h1 := of_decide_eq_true hb1; have h2 := lenN_le e he; omega) (by have h1 := of_decide_eq_true hb1; have h2 := lenN_le e he; omega))) <| cR [[]] <| cN) (fun _ => ?_)
    refine sS Tryd.f58 4 [2, 3, 4, 5, 6, 8, 12, 13] [] (fun _ => [(U p), (U p), (U (mulmN p p pP)), undef]) (fun _ => [(3, { puts := [(3, nb ρ2 1, (.cells (cU (mulmN p p pP)) 43 (0, 0)))] })]) (cR [[3], [3]] <| cC (fun _ w => gmul_any p p w hpM hpM) <| cR [[3]] <| cN) (fun _ => ?_)
    refine sS Tryd.f58 9 [2, 3, 4, 5, 6, 12, 13, 31] [] (fun _ => [(.int .i64 ((lenN e - 1 - i : Nat) : Int)), (.int .i64 (((lenN e - 1 - i) / 64 : Nat) : Int)), (.pointer (some ⟨nb ρ1 1, (lenN e - 1 - i) / 64, none⟩)), (.int .u64 (wd e ((lenN e - 1 - i) / 64))), (.int .i64 ((lenN e - 1 - i : Nat) : Int)), (.int .i64 (((lenN e - 1 - i) % 64 : Nat) : Int)), (.int .u64 (shrW (wd e ((lenN e - 1 - i) / 64)) ((lenN e - 1 - i) % 64))), (.int .u64 (bits .and .u64 (shrW (wd e ((lenN e - 1 - i) / 64)) ((lenN e - 1 - i) % 64)) 1)), (.bool (bitN e (lenN e - 1 - i)))]) (fun _ => []) (cR [[]] <| cB (a := fun ρ => (.int .i64 ((lenN e - 1 - i : Nat) : Int))) (b := fun ρ => (.int .i64 64)) (v := fun ρ => (.int .i64 (((lenN e - 1 - i) / 64 : Nat) : Int))) .quo 3 (fun _ w => run_quo_nat (lenN e - 1 - i) 64 ((lenN e - 1 - i) / 64) (by decide) (by have h1 := of_decide_eq_true hb1; have h2 := lenN_le e he; omega) rfl w) <| cX (o_sem _ (fun _ => do pure (Next.value (← Instr.indexAt 43 (pt (nb ρ1 1)) (.int .i64 (((lenN e - 1 - i) / 64 : Nat) : Int))))) (fun _ => (.pointer (some ⟨nb ρ1 1, (lenN e - 1 - i) / 64, none⟩))) (fun _ => by kernel_rfl) (fun _ => by kernel_rfl) (fun _ w => run_idx_nat (n := (((lenN e - 1 - i) / 64 : Nat) : Int)) (i := (lenN e - 1 - i) / 64) Tryd.underlying43 Tryd.sizeOf41 (⟨rfl, (by have h1 := of_decide_eq_true hb1; have h2 := lenN_le e he; omega)⟩) w)) <| cX (o_ld _ 1 41 (fun _ => nb ρ1 1) (fun _ => (lenN e - 1 - i) / 64) (fun _ => (cU e)) 43 (0, 0) (fun _ => (.int .u64 (wd e ((lenN e - 1 - i) / 64)))) (fun _ => by kernel_rfl) Tryd.isAgg41 (fun _ => cU_get e ((lenN e - 1 - i) / 64) (by have h1 := of_decide_eq_true hb1; have h2 := lenN_le e he; omega))) <| cR [[]] <| cB (a := fun ρ => (.int .i64 ((lenN e - 1 - i : Nat) : Int))) (b := fun ρ => (.int .i64 64)) (v := fun ρ => (.int .i64 (((lenN e - 1 - i) % 64 : Nat) : Int))) .rem 3 (fun _ w => run_rem_nat (lenN e - 1 - i) 64 ((lenN e - 1 - i) % 64) (by decide) rfl w) <| cB (a := fun ρ => (.int .u64 (wd e ((lenN e - 1 - i) / 64)))) (b := fun ρ => (.int .i64 (((lenN e - 1 - i) % 64 : Nat) : Int))) (v := fun ρ => (.int .u64 (shrW (wd e ((lenN e - 1 - i) / 64)) ((lenN e - 1 - i) % 64)))) .shr 41 (fun _ w => run_shr (wd e ((lenN e - 1 - i) / 64)) ((lenN e - 1 - i) % 64) w) <| cR [[]] <| cA (fun _ => (.bool (bitN e (lenN e - 1 - i)))) (fun _ => congrArg Value.bool (expbit e (lenN e - 1 - i))) <| cN) (fun _ => ?_)
    refine dRs [(2, (pt (nb ρ1 0))), (3, (pt (nb ρ1 1))), (4, (pt (nb ρ1 2))), (5, (pt (nb ρ2 1))), (6, (.int .i64 ((lenN e : Nat) : Int))), (12, (.int .i64 ((lenN e : Nat) : Int))), (13, (.int .i64 ((i : Nat) : Int))), (31, (.bool (bitN e (lenN e - 1 - i))))] [(nb ρ1 0, (.cells (cU a) 43 (0, 0))), (nb ρ1 1, (.cells (cU e) 43 (0, 0))), (nb ρ1 2, (.cells (cU 0) 43 (0, 0))), (nb ρ2 1, (.cells (cU (mulmN p p pP)) 43 (0, 0)))] ?_
    refine oC (bitN e (lenN e - 1 - i)) (fun hb2 => ?_) (fun hb2 => ?_)
    ·
      rw [hb2]
      refine rS Tryd.f58 4 [2, 3, 4, 5, 6, 12, 13] [] (fun _ => [(U (mulmN p p pP)), (U a), (U (mulmN (mulmN p p pP) a pP)), undef]) (fun _ => [(3, { puts := [(3, nb ρ2 1, (.cells (cU (mulmN (mulmN p p pP) a pP)) 43 (0, 0)))] })]) (cR [[3], [0]] <| cC (f := 68) (args := fun ρ => #[(U (mulmN p p pP)), (U a)]) (v := fun ρ => (U (mulmN (mulmN p p pP) a pP))) (fun _ w => (fun w => gmul_any (mulmN p p pP) a w (mulmN_lt _ _ pP_lt) ha) w) <| cR [[3]] <| cN) (fun _ => ?_)
      refine mt_block_n ?_
      refine mt_then ?_
      refine rS Tryd.f58 2 [2, 3, 4, 5, 6, 12, 13] [] (fun _ => [(.int .i64 ((i + 1 : Nat) : Int)), (.int .i64 ((i + 1 : Nat) : Int))]) (fun _ => []) (cA (v := fun ρ => (.int .i64 (IntKind.i64.wrap (((i : Nat) : Int) + 1)))) (fun _ => (.int .i64 ((i + 1 : Nat) : Int))) (fun _ => congrArg (Value.int .i64) (wrap_add_nat i 1 (by have h1 := of_decide_eq_true hb1; have h2 := lenN_le e he; omega))) <| cR [[]] <| cN) (fun _ => ?_)
      exact mN (i + 1, mulmN (mulmN p p pP) a pP) (by show lenN e - (i + 1) < lenN e - i; have h1 := of_decide_eq_true hb1; have h2 := lenN_le e he; omega) (⟨by have h1 := of_decide_eq_true hb1; have h2 := lenN_le e he; omega, by rw [exp_step1 hp (Nat.lt_trans Nat.zero_lt_one pP_pos), show lenN e - (i + 1) = (lenN e - i) - 1 by omega, ← half_odd (by have h1 := of_decide_eq_true hb1; have h2 := lenN_le e he; omega) (by rw [show lenN e - i - 1 = lenN e - 1 - i by omega]; exact hb2)]⟩) []
    ·
      rw [hb2]
      refine ok_skip ?_
      refine mt_block_n ?_
      refine mt_then ?_
      refine rS Tryd.f58 2 [2, 3, 4, 5, 6, 12, 13] [] (fun _ => [(.int .i64 ((i + 1 : Nat) : Int)), (.int .i64 ((i + 1 : Nat) : Int))]) (fun _ => []) (cA (v := fun ρ => (.int .i64 (IntKind.i64.wrap (((i : Nat) : Int) + 1)))) (fun _ => (.int .i64 ((i + 1 : Nat) : Int))) (fun _ => congrArg (Value.int .i64) (wrap_add_nat i 1 (by have h1 := of_decide_eq_true hb1; have h2 := lenN_le e he; omega))) <| cR [[]] <| cN) (fun _ => ?_)
      exact mN (i + 1, mulmN p p pP) (by show lenN e - (i + 1) < lenN e - i; have h1 := of_decide_eq_true hb1; have h2 := lenN_le e he; omega) (⟨by have h1 := of_decide_eq_true hb1; have h2 := lenN_le e he; omega, by rw [exp_step hp (Nat.lt_trans Nat.zero_lt_one pP_pos), show lenN e - (i + 1) = (lenN e - i) - 1 by omega, ← half_even (by have h1 := of_decide_eq_true hb1; have h2 := lenN_le e he; omega) (by rw [show lenN e - i - 1 = lenN e - 1 - i by omega]; exact hb2)]⟩) []
  ·
    rw [hb1]
    refine ok_exit ?_
    refine mt_then_e ?_
    refine mt_then_e ?_
    refine mt_block_h ?_
    refine mt_then ?_
    refine sS Tryd.f58 2 [4] [0, 0, 1, 0] (fun _ => [(U p), undef]) (fun _ => [(1, { puts := [(2, nb ρ1 2, (.cells (cU p) 43 (0, 0)))] })]) (cR [[3], [2]] <| cN) (fun _ => ?_)
    refine ok_ret ?_
    exact mR (v := (U p)) (fun _ hS => ⟨congrArg (fun x => Ending.returned (U x)) (gexp_end (i := i) (by have h1 := of_decide_eq_false hb1; omega) hp), hS.bel⟩)
theorem gexp_any (a e : Nat) (w0 : World) (ha : a < M) (he : e < M) : Calls Tryd.prog 58 #[(U a), (U e)] w0 (fun ε w' => ε = .returned (U (expmN a e pP)) ∧ Below w0.heap.size w0 w') := gexp_w a e ha he w0

theorem rgexp_w (a : Nat) (e : Nat) (ha : a < M) (he : e < M) (w0 : World) : Calls Tryd.prog 63 #[(U a), (U e)] w0 (fun ε w' => ε = .returned (U (expmN a e pP)) ∧ Below w0.heap.size w0 w') := by
  refine Calls.of_ok (n := 9) (F := (fun _ => True)) Tryd.func63 rfl rfl rfl (by simp) (persTrue (fun _ => trivial)) ?_
  refine sS Tryd.f63 3 [2, 3, 4] [] (fun ρ => [(pt (nb ρ 0)), (pt (nb ρ 1)), (pt (nb ρ 2))]) (fun ρ => [(0, { news := [(nb ρ 0, (.cells (cU a) 43 (0, 0)))] }), (1, { news := [(nb ρ 1, (.cells (cU e) 43 (0, 0)))] }), (2, { news := [(nb ρ 2, (.cells (cU 0) 43 (0, 0)))] })]) (cR [[], [], []] <| cN) (fun ρ1 => ?_)
  refine sD Tryd.f63 [0, 0, 0, 7, 15] 5 [4] [0, 0, 1] (fun _ => [(U a), (U e), (U pP), (U (expmN a e pP)), undef]) (fun _ => [(4, { puts := [(2, nb ρ1 2, (.cells (cU (expmN a e pP)) 43 (0, 0)))] })]) (cR [[0], [1]] <| cC (fun _ w => rgmodulus_any w) <| cC (fun _ w => rexpmod_any a e pP w ha he pP_lt) <| cR [[2]] <| cN) (fun _ => ?_)
  refine ok_ret ?_
  exact mR (v := (U (expmN a e pP))) (fun _ hS => ⟨rfl, hS.bel⟩)
theorem rgexp_any (a e : Nat) (w0 : World) (ha : a < M) (he : e < M) : Calls Tryd.prog 63 #[(U a), (U e)] w0 (fun ε w' => ε = .returned (U (expmN a e pP)) ∧ Below w0.heap.size w0 w') := rgexp_w a e ha he w0

theorem gmember_w (a : Nat) (ha : a < M) (w0 : World) : Calls Tryd.prog 48 #[(U a)] w0 (fun ε w' => ε = .returned (.bool (memB a)) ∧ Below w0.heap.size w0 w') := by
  refine Calls.of_ok (n := 17) (F := (fun _ => True)) Tryd.func48 rfl rfl rfl (by simp) (persTrue (fun _ => trivial)) ?_
  refine sS Tryd.f48 2 [1, 2] [] (fun ρ => [(pt (nb ρ 0)), (.bool false)]) (fun ρ => [(0, { news := [(nb ρ 0, (.cells (cU a) 43 (0, 0)))] })]) (cR [[], []] <| cN) (fun _ => ?_)
  refine ok_seq ?_
  rcases Bool.eq_false_or_eq_true (decide (a = 0)) with hb1 | hb1
  ·
    refine sD Tryd.f48 [0, 0, 3, 7, 15, 15, 63, 127, 255] 9 [1, 2, 11] [] (fun _ => [(U a), (U 0), (.bool true), (.bool true), undef, undef, undef, undef, (.bool true)]) (fun _ => []) (cR [[0], []] <| cB (a := fun ρ => (U a)) (b := fun ρ => (U 0)) (v := fun ρ => (.bool true)) .eql 43 (fun _ _ => (eqlU a 0 ha (by decide +kernel) _).trans (by rw [hb1]; try rfl)) <| cR [[], [], [], [], [], []] <| cN) (fun _ => ?_)
    refine oY ?_
    refine sS Tryd.f48 1 [1, 2] [] (fun _ => [(.bool false)]) (fun _ => []) (cR [[]] <| cN) (fun _ => ?_)
    refine ok_ret ?_
    refine mt_then_r ?_
    exact mR (v := (.bool false)) (fun _ hS => ⟨congrArg (fun x => Ending.returned (.bool x)) (mem_no1 hb1), hS.bel⟩)
  ·
    refine sD Tryd.f48 [0, 0, 3, 7, 15, 15, 63, 127, 255] 9 [1, 2, 11] [] (fun _ => [(U a), (U 0), (.bool false), (.bool false), (U a), (U pP), (.int .i64 (cmpN a pP)), (.bool (decide (0 ≤ (cmpN a pP)))), (.bool (decide (0 ≤ (cmpN a pP))))]) (fun _ => []) (cR [[0], []] <| cB (a := fun ρ => (U a)) (b := fun ρ => (U 0)) (v := fun ρ => (.bool false)) .eql 43 (fun _ _ => (eqlU a 0 ha (by decide +kernel) _).trans (by rw [hb1]; try rfl)) <| cR [[], [0]] <| cC (fun _ w => gmodulus_any w) <| cC (fun _ w => cmp_any a pP w ha pP_lt) <| cR [[], []] <| cN) (fun _ => ?_)
    refine oC (decide (0 ≤ (cmpN a pP))) (fun hb2 => ?_) (fun hb2 => ?_)
    ·
      rw [hb2]
      refine sS Tryd.f48 1 [1, 2] [] (fun _ => [(.bool false)]) (fun _ => []) (cR [[]] <| cN) (fun _ => ?_)
      refine ok_ret ?_
      refine mt_then_r ?_
      exact mR (v := (.bool false)) (fun _ hS => ⟨congrArg (fun x => Ending.returned (.bool x)) (mem_no2 hb2), hS.bel⟩)
    ·
      rw [hb2]
      refine ok_skip ?_
      refine mt_then ?_
      refine sD Tryd.f48 [0, 0, 3, 7, 15, 31] 6 [2] [0] (fun _ => [(U a), (U qP), (U (expmN a qP pP)), (U 1), (.bool (decide (expmN a qP pP = 1))), (.bool (decide (expmN a qP pP = 1)))]) (fun _ => []) (cR [[0]] <| cC (fun _ w => gorder_any w) <| cC (fun _ w => gexp_any a qP w ha qP_lt) <| cC (fun _ w => fromuint_lit 1 w (by decide)) <| cB (a := fun ρ => (U (expmN a qP pP))) (b := fun ρ => (U 1)) (v := fun ρ => (.bool (decide (expmN a qP pP = 1)))) .eql 43 (fun _ _ => eqlU (expmN a qP pP) 1 (expmN_lt _ _ pP_lt) (by decide +kernel) _) <| cR [[]] <| cN) (fun _ => ?_)
      refine ok_ret ?_
      exact mR (v := (.bool (decide (expmN a qP pP = 1)))) (fun _ hS => ⟨congrArg (fun x => Ending.returned (.bool x)) (mem_yes hb1 (by have := of_decide_eq_false hb2; omega)), hS.bel⟩)
theorem gmember_any (a : Nat) (w0 : World) (ha : a < M) : Calls Tryd.prog 48 #[(U a)] w0 (fun ε w' => ε = .returned (.bool (memB a)) ∧ Below w0.heap.size w0 w') := gmember_w a ha w0

theorem gpower_w (e : Nat) (he : e < M) (w0 : World) : Calls Tryd.prog 50 #[(U e)] w0 (fun ε w' => ε = .returned (U (expmN 4 e pP)) ∧ Below w0.heap.size w0 w') := by
  refine Calls.of_ok (n := 6) (F := (fun _ => True)) Tryd.func50 rfl rfl rfl (by simp) (persTrue (fun _ => trivial)) ?_
  refine sS Tryd.f50 2 [1, 2] [] (fun ρ => [(pt (nb ρ 0)), (pt (nb ρ 1))]) (fun ρ => [(0, { news := [(nb ρ 0, (.cells (cU e) 43 (0, 0)))] }), (1, { news := [(nb ρ 1, (.cells (cU 0) 43 (0, 0)))] })]) (cR [[], []] <| cN) (fun ρ1 => ?_)
  refine sD Tryd.f50 [0, 0, 3, 7] 4 [2] [0, 1] (fun _ => [(U 4), (U e), (U (expmN 4 e pP)), undef]) (fun _ => [(3, { puts := [(1, nb ρ1 1, (.cells (cU (expmN 4 e pP)) 43 (0, 0)))] })]) (cC (fun _ w => fromuint_lit 4 w (by decide)) <| cR [[0]] <| cC (fun _ w => gexp_any 4 e w (by decide +kernel) he) <| cR [[1]] <| cN) (fun _ => ?_)
  refine ok_ret ?_
  exact mR (v := (U (expmN 4 e pP))) (fun _ hS => ⟨rfl, hS.bel⟩)
theorem gpower_any (e : Nat) (w0 : World) (he : e < M) : Calls Tryd.prog 50 #[(U e)] w0 (fun ε w' => ε = .returned (U (expmN 4 e pP)) ∧ Below w0.heap.size w0 w') := gpower_w e he w0

theorem rgmember_w (a : Nat) (ha : a < M) (w0 : World) : Calls Tryd.prog 51 #[(U a)] w0 (fun ε w' => ε = .returned (.bool (memB a)) ∧ Below w0.heap.size w0 w') := by
  refine Calls.of_ok (n := 19) (F := (fun _ => True)) Tryd.func51 rfl rfl rfl (by simp) (persTrue (fun _ => trivial)) ?_
  refine sS Tryd.f51 2 [1, 2] [] (fun ρ => [(pt (nb ρ 0)), (.bool false)]) (fun ρ => [(0, { news := [(nb ρ 0, (.cells (cU a) 43 (0, 0)))] })]) (cR [[], []] <| cN) (fun _ => ?_)
  rcases Bool.eq_false_or_eq_true (decide (a = 0)) with hb1 | hb1
  ·
    refine sD Tryd.f51 [0, 1, 3, 7, 15, 15, 63, 127, 255, 511, 1023, 1023, 4095, 8191, 16383, 32767, 65535] 17 [2] [0] (fun _ => [(U a), (.bool true), (.bool false), (.bool false), undef, undef, undef, undef, (.bool false), (.bool false), undef, undef, undef, undef, undef, (.bool false), (.bool false)]) (fun _ => []) (cR [[0]] <| cC (f := 34) (args := fun ρ => #[(U a)]) (v := fun ρ => (.bool true)) (fun _ w => by as_aux_lemma => (have hcall := (fun w => rzero_any a w ha) w; rw [hb1] at hcall; exact hcall)) <| cR [[], [], [], [], [], [], [], [], [], [], [], [], [], [], []] <| cN) (fun _ => ?_)
    refine ok_ret ?_
    exact mR (v := (.bool false)) (fun _ hS => ⟨congrArg (fun x => Ending.returned (.bool x)) (mem_no1 hb1), hS.bel⟩)
  ·
    rcases Bool.eq_false_or_eq_true (decide ((cmpN a pP) < 0)) with hb2 | hb2
    ·
      refine sD Tryd.f51 [0, 1, 3, 7, 15, 15, 63, 127, 255, 511, 1023, 1023, 4095, 8191, 16383, 32767, 65535] 17 [2] [0] (fun _ => [(U a), (.bool false), (.bool true), (.bool true), (U a), (U pP), (.int .i64 (cmpN a pP)), (.bool true), (.bool true), (.bool true), (U a), (U qP), (U (expmN a qP pP)), (U 1), (.bool (decide (expmN a qP pP = 1))), (.bool (decide (expmN a qP pP = 1))), (.bool (decide (expmN a qP pP = 1)))]) (fun _ => []) (cR [[0]] <| cC (f := 34) (args := fun ρ => #[(U a)]) (v := fun ρ => (.bool false)) (fun _ w => by as_aux_lemma => (have hcall := (fun w => rzero_any a w ha) w; rw [hb1] at hcall; exact hcall)) <| cR [[], [], [0]] <| cC (fun _ w => rgmodulus_any w) <| cC (fun _ w => rcmp_any a pP w ha pP_lt) <| cA (fun _ => (.bool true)) (fun _ => congrArg Value.bool hb2) <| cR [[], [], [0]] <| cC (fun _ w => rgorder_any w) <| cC (fun _ w => rgexp_any a qP w ha qP_lt) <| cC (fun _ w => rgone_any w) <| cB (a := fun ρ => (U (expmN a qP pP))) (b := fun ρ => (U 1)) (v := fun ρ => (.bool (decide (expmN a qP pP = 1)))) .eql 43 (fun _ _ => eqlU (expmN a qP pP) 1 (expmN_lt _ _ pP_lt) (by decide +kernel) _) <| cR [[], []] <| cN) (fun _ => ?_)
      refine ok_ret ?_
      exact mR (v := (.bool (decide (expmN a qP pP = 1)))) (fun _ hS => ⟨congrArg (fun x => Ending.returned (.bool x)) (mem_yes hb1 (by have := of_decide_eq_true hb2; omega)), hS.bel⟩)
    ·
      refine sD Tryd.f51 [0, 1, 3, 7, 15, 15, 63, 127, 255, 511, 1023, 1023, 4095, 8191, 16383, 32767, 65535] 17 [2] [0] (fun _ => [(U a), (.bool false), (.bool true), (.bool true), (U a), (U pP), (.int .i64 (cmpN a pP)), (.bool false), (.bool false), (.bool false), undef, undef, undef, undef, undef, (.bool false), (.bool false)]) (fun _ => []) (cR [[0]] <| cC (f := 34) (args := fun ρ => #[(U a)]) (v := fun ρ => (.bool false)) (fun _ w => by as_aux_lemma => (have hcall := (fun w => rzero_any a w ha) w; rw [hb1] at hcall; exact hcall)) <| cR [[], [], [0]] <| cC (fun _ w => rgmodulus_any w) <| cC (fun _ w => rcmp_any a pP w ha pP_lt) <| cA (fun _ => (.bool false)) (fun _ => congrArg Value.bool hb2) <| cR [[], [], [], [], [], [], [], [], []] <| cN) (fun _ => ?_)
      refine ok_ret ?_
      exact mR (v := (.bool false)) (fun _ hS => ⟨congrArg (fun x => Ending.returned (.bool x)) (mem_no3 hb2), hS.bel⟩)
theorem rgmember_any (a : Nat) (w0 : World) (ha : a < M) : Calls Tryd.prog 51 #[(U a)] w0 (fun ε w' => ε = .returned (.bool (memB a)) ∧ Below w0.heap.size w0 w') := rgmember_w a ha w0

theorem rgpower_w (e : Nat) (he : e < M) (w0 : World) : Calls Tryd.prog 53 #[(U e)] w0 (fun ε w' => ε = .returned (U (expmN 4 e pP)) ∧ Below w0.heap.size w0 w') := by
  refine Calls.of_ok (n := 6) (F := (fun _ => True)) Tryd.func53 rfl rfl rfl (by simp) (persTrue (fun _ => trivial)) ?_
  refine sS Tryd.f53 2 [1, 2] [] (fun ρ => [(pt (nb ρ 0)), (pt (nb ρ 1))]) (fun ρ => [(0, { news := [(nb ρ 0, (.cells (cU e) 43 (0, 0)))] }), (1, { news := [(nb ρ 1, (.cells (cU 0) 43 (0, 0)))] })]) (cR [[], []] <| cN) (fun ρ1 => ?_)
  refine sD Tryd.f53 [0, 0, 3, 7] 4 [2] [0, 1] (fun _ => [(U 4), (U e), (U (expmN 4 e pP)), undef]) (fun _ => [(3, { puts := [(1, nb ρ1 1, (.cells (cU (expmN 4 e pP)) 43 (0, 0)))] })]) (cC (fun _ w => rfromuint_lit 4 w (by decide)) <| cR [[0]] <| cC (fun _ w => rgexp_any 4 e w (by decide +kernel) he) <| cR [[1]] <| cN) (fun _ => ?_)
  refine ok_ret ?_
  exact mR (v := (U (expmN 4 e pP))) (fun _ hS => ⟨rfl, hS.bel⟩)
theorem rgpower_any (e : Nat) (w0 : World) (he : e < M) : Calls Tryd.prog 53 #[(U e)] w0 (fun ε w' => ε = .returned (U (expmN 4 e pP)) ∧ Below w0.heap.size w0 w') := rgpower_w e he w0
end Go.Proofs.YtlkbhiaoolddmaaDoor

/-! Keys and signatures: the walks. -/
namespace Go.Proofs.YtlkbhiaoolddmaaDoor
open Go Go.RowKit

theorem scalarb_any (a : Nat) (ha : a < M) (w0 : World) : Calls Tryd.prog 60 #[(U a)] w0 (fun ε w' => ε = .returned (.bool (scB a)) ∧ Below w0.heap.size w0 w') := by
  refine Calls.of_ok (n := 7) (F := (fun _ => True)) Tryd.func60 rfl rfl rfl (by simp) (persTrue (fun _ => trivial)) ?_
  refine sS Tryd.f60 2 [1, 2] [] (fun ρ => [(pt (nb ρ 0)), (.bool false)]) (fun ρ => [(0, { news := [(nb ρ 0, (.cells (cU a) 43 (0, 0)))] })]) (cR [[], []] <| cN) (fun _ => ?_)
  refine sD Tryd.f60 [0, 0, 3, 7, 15] 5 [2] [0] (fun _ => [(U a), (U qP), (.int .i64 (cmpN a qP)), (.bool (decide ((cmpN a qP) < 0))), (.bool (decide ((cmpN a qP) < 0)))]) (fun _ => []) (cR [[0]] <| cC (fun _ w => gorder_any w) <| cC (fun _ w => cmp_any a qP w ha qP_lt) <| cR [[], []] <| cN) (fun _ => ?_)
  refine ok_ret ?_
  exact mR (v := (.bool (decide ((cmpN a qP) < 0)))) (fun _ hS => ⟨congrArg (fun x => Ending.returned (.bool x)) (sc_dec a), hS.bel⟩)

theorem secret_any (x : Nat) (hx : x < M) (w0 : World) : Calls Tryd.prog 49 #[(U x)] w0 (fun ε w' => ε = .returned (.bool (secB x)) ∧ Below w0.heap.size w0 w') := by
  refine Calls.of_ok (n := 10) (F := (fun _ => True)) Tryd.func49 rfl rfl rfl (by simp) (persTrue (fun _ => trivial)) ?_
  refine sS Tryd.f49 2 [1, 2] [] (fun ρ => [(pt (nb ρ 0)), (.bool false)]) (fun ρ => [(0, { news := [(nb ρ 0, (.cells (cU x) 43 (0, 0)))] })]) (cR [[], []] <| cN) (fun _ => ?_)
  rcases Bool.eq_false_or_eq_true (decide (x = 0)) with hb1 | hb1
  ·
    refine sS Tryd.f49 8 [2] [0] (fun _ => [(U x), (U 0), (.bool false), (.bool false), undef, undef, (.bool false), (.bool false)]) (fun _ => []) (cR [[0], []] <| cB (a := fun ρ => (U x)) (b := fun ρ => (U 0)) (v := fun ρ => (.bool false)) .neq 43 (fun _ _ => (neqU x 0 hx (by decide +kernel) _).trans (by rw [hb1]; try rfl)) <| cR [[], [], [], [], []] <| cN) (fun _ => ?_)
    refine ok_ret ?_
    exact mR (v := (.bool false)) (fun _ hS => ⟨congrArg (fun x => Ending.returned (.bool x)) (sec_0 hb1), hS.bel⟩)
  ·
    refine sS Tryd.f49 8 [2] [0] (fun _ => [(U x), (U 0), (.bool true), (.bool true), (U x), (.bool (scB x)), (.bool (scB x)), (.bool (scB x))]) (fun _ => []) (cR [[0], []] <| cB (a := fun ρ => (U x)) (b := fun ρ => (U 0)) (v := fun ρ => (.bool true)) .neq 43 (fun _ _ => (neqU x 0 hx (by decide +kernel) _).trans (by rw [hb1]; try rfl)) <| cR [[], [0]] <| cC (fun _ w => scalarb_any x hx w) <| cR [[], []] <| cN) (fun _ => ?_)
    refine ok_ret ?_
    exact mR (v := (.bool (scB x))) (fun _ hS => ⟨congrArg (fun x => Ending.returned (.bool x)) (sec_1 hb1), hS.bel⟩)

theorem rsecret_any (x : Nat) (hx : x < M) (w0 : World) : Calls Tryd.prog 52 #[(U x)] w0 (fun ε w' => ε = .returned (.bool (secB x)) ∧ Below w0.heap.size w0 w') := by
  refine Calls.of_ok (n := 12) (F := (fun _ => True)) Tryd.func52 rfl rfl rfl (by simp) (persTrue (fun _ => trivial)) ?_
  refine sS Tryd.f52 2 [1, 2] [] (fun ρ => [(pt (nb ρ 0)), (.bool false)]) (fun ρ => [(0, { news := [(nb ρ 0, (.cells (cU x) 43 (0, 0)))] })]) (cR [[], []] <| cN) (fun _ => ?_)
  rcases Bool.eq_false_or_eq_true (decide (x = 0)) with hb1 | hb1
  ·
    refine sD Tryd.f52 [0, 1, 3, 7, 15, 15, 63, 127, 255, 511] 10 [2] [0] (fun _ => [(U x), (.bool true), (.bool false), (.bool false), undef, undef, undef, undef, (.bool false), (.bool false)]) (fun _ => []) (cR [[0]] <| cC (f := 34) (args := fun ρ => #[(U x)]) (v := fun ρ => (.bool true)) (fun _ w => by as_aux_lemma => (have hcall := (fun w => rzero_any x w hx) w; rw [hb1] at hcall; exact hcall)) <| cR [[], [], [], [], [], [], [], []] <| cN) (fun _ => ?_)
    refine ok_ret ?_
    exact mR (v := (.bool false)) (fun _ hS => ⟨congrArg (fun x => Ending.returned (.bool x)) (sec_0 hb1), hS.bel⟩)
  ·
    refine sD Tryd.f52 [0, 1, 3, 7, 15, 15, 63, 127, 255, 511] 10 [2] [0] (fun _ => [(U x), (.bool false), (.bool true), (.bool true), (U x), (U qP), (.int .i64 (cmpN x qP)), (.bool (decide ((cmpN x qP) < 0))), (.bool (decide ((cmpN x qP) < 0))), (.bool (decide ((cmpN x qP) < 0)))]) (fun _ => []) (cR [[0]] <| cC (f := 34) (args := fun ρ => #[(U x)]) (v := fun ρ => (.bool false)) (fun _ w => by as_aux_lemma => (have hcall := (fun w => rzero_any x w hx) w; rw [hb1] at hcall; exact hcall)) <| cR [[], [], [0]] <| cC (fun _ w => rgorder_any w) <| cC (fun _ w => rcmp_any x qP w hx qP_lt) <| cR [[], [], []] <| cN) (fun _ => ?_)
    refine ok_ret ?_
    exact mR (v := (.bool (decide ((cmpN x qP) < 0)))) (fun _ hS => ⟨congrArg (fun x => Ending.returned (.bool x)) ((sc_dec x).trans (sec_1 hb1)), hS.bel⟩)

theorem public_any (x : Nat) (hx : x < M) (w0 : World) : Calls Tryd.prog 40 #[(U x)] w0 (fun ε w' => ε = .returned (.tuple #[(U (pubV x)), (.int .i64 (pubE x))]) ∧ Below w0.heap.size w0 w') := by
  refine Calls.of_ok (n := 10) (F := (fun _ => True)) Tryd.func40 rfl rfl rfl (by simp) (persTrue (fun _ => trivial)) ?_
  refine sS Tryd.f40 3 [1, 2, 3] [] (fun ρ => [(pt (nb ρ 0)), (pt (nb ρ 1)), (.int .i64 0)]) (fun ρ => [(0, { news := [(nb ρ 0, (.cells (cU x) 43 (0, 0)))] }), (1, { news := [(nb ρ 1, (.cells (cU 0) 43 (0, 0)))] })]) (cR [[], [], []] <| cN) (fun ρ1 => ?_)
  refine ok_seq ?_
  refine sS Tryd.f40 3 [1, 2, 3, 6] [] (fun _ => [(U x), (.bool (secB x)), (.bool (!(secB x)))]) (fun _ => []) (cR [[0]] <| cC (fun _ w => secret_any x hx w) <| cR [[]] <| cN) (fun _ => ?_)
  refine oC (!(secB x)) (fun hb1 => ?_) (fun hb1 => ?_)
  ·
    rw [hb1]
    refine sS Tryd.f40 3 [1, 2, 3] [] (fun _ => [(U 0), undef, (.int .i64 60)]) (fun _ => [(1, { puts := [(1, nb ρ1 1, (.cells (cU 0) 43 (0, 0)))] })]) (cR [[], [1], []] <| cN) (fun _ => ?_)
    refine ok_ret ?_
    refine mt_then_r ?_
    exact mR (v := (.tuple #[(U 0), (.int .i64 60)])) (ps := [1,1,1,1]) (fun _ hS => ⟨by rw [(pub_no (not_t hb1)).1, (pub_no (not_t hb1)).2], hS.bel⟩)
  ·
    rw [hb1]
    refine ok_skip ?_
    refine mt_then ?_
    refine sS Tryd.f40 4 [2, 3] [0, 1] (fun _ => [(U x), (U (expmN 4 x pP)), undef, (.int .i64 0)]) (fun _ => [(2, { puts := [(1, nb ρ1 1, (.cells (cU (expmN 4 x pP)) 43 (0, 0)))] })]) (cR [[0]] <| cC (fun _ w => gpower_any x w hx) <| cR [[1], []] <| cN) (fun _ => ?_)
    refine ok_ret ?_
    exact mR (v := (.tuple #[(U (expmN 4 x pP)), (.int .i64 0)])) (fun _ hS => ⟨by rw [(pub_yes (not_f hb1)).1, (pub_yes (not_f hb1)).2], hS.bel⟩)

theorem valid_any (p : Nat) (hp : p < M) (w0 : World) : Calls Tryd.prog 39 #[(U p)] w0 (fun ε w' => ε = .returned (.bool (valB p)) ∧ Below w0.heap.size w0 w') := by
  refine Calls.of_ok (n := 10) (F := (fun _ => True)) Tryd.func39 rfl rfl rfl (by simp) (persTrue (fun _ => trivial)) ?_
  refine sS Tryd.f39 2 [1, 2] [] (fun ρ => [(pt (nb ρ 0)), (.bool false)]) (fun ρ => [(0, { news := [(nb ρ 0, (.cells (cU p) 43 (0, 0)))] })]) (cR [[], []] <| cN) (fun _ => ?_)
  rcases Bool.eq_false_or_eq_true (decide (p = 1)) with hb1 | hb1
  ·
    refine sD Tryd.f39 [0, 0, 3, 7, 15, 31, 63, 127] 8 [2] [0] (fun _ => [(U p), (U 1), (.bool false), (.bool false), undef, undef, (.bool false), (.bool false)]) (fun _ => []) (cR [[0]] <| cC (fun _ w => fromuint_lit 1 w (by decide)) <| cB (a := fun ρ => (U p)) (b := fun ρ => (U 1)) (v := fun ρ => (.bool false)) .neq 43 (fun _ _ => (neqU p 1 hp (by decide +kernel) _).trans (by rw [hb1]; try rfl)) <| cR [[], [], [], [], []] <| cN) (fun _ => ?_)
    refine ok_ret ?_
    exact mR (v := (.bool false)) (fun _ hS => ⟨congrArg (fun x => Ending.returned (.bool x)) (val_0 hb1), hS.bel⟩)
  ·
    refine sD Tryd.f39 [0, 0, 3, 7, 15, 31, 63, 127] 8 [2] [0] (fun _ => [(U p), (U 1), (.bool true), (.bool true), (U p), (.bool (memB p)), (.bool (memB p)), (.bool (memB p))]) (fun _ => []) (cR [[0]] <| cC (fun _ w => fromuint_lit 1 w (by decide)) <| cB (a := fun ρ => (U p)) (b := fun ρ => (U 1)) (v := fun ρ => (.bool true)) .neq 43 (fun _ _ => (neqU p 1 hp (by decide +kernel) _).trans (by rw [hb1]; try rfl)) <| cR [[], [0]] <| cC (fun _ w => gmember_any p w hp) <| cR [[], []] <| cN) (fun _ => ?_)
    refine ok_ret ?_
    exact mR (v := (.bool (memB p))) (fun _ hS => ⟨congrArg (fun x => Ending.returned (.bool x)) (val_1 hb1), hS.bel⟩)

theorem rpublic_any (x : Nat) (hx : x < M) (w0 : World) : Calls Tryd.prog 43 #[(U x)] w0 (fun ε w' => ε = .returned (.tuple #[(U (pubV x)), (.int .i64 (pubE x))]) ∧ Below w0.heap.size w0 w') := by
  refine Calls.of_ok (n := 10) (F := (fun _ => True)) Tryd.func43 rfl rfl rfl (by simp) (persTrue (fun _ => trivial)) ?_
  refine sS Tryd.f43 3 [1, 2, 3] [] (fun ρ => [(pt (nb ρ 0)), (pt (nb ρ 1)), (.int .i64 0)]) (fun ρ => [(0, { news := [(nb ρ 0, (.cells (cU x) 43 (0, 0)))] }), (1, { news := [(nb ρ 1, (.cells (cU 0) 43 (0, 0)))] })]) (cR [[], [], []] <| cN) (fun ρ1 => ?_)
  refine ok_seq ?_
  refine sS Tryd.f43 3 [1, 2, 3, 6] [] (fun _ => [(U x), (.bool (secB x)), (.bool (!(secB x)))]) (fun _ => []) (cR [[0]] <| cC (fun _ w => rsecret_any x hx w) <| cR [[]] <| cN) (fun _ => ?_)
  refine oC (!(secB x)) (fun hb1 => ?_) (fun hb1 => ?_)
  ·
    rw [hb1]
    refine sS Tryd.f43 3 [1, 2, 3] [] (fun _ => [(U 0), undef, (.int .i64 60)]) (fun _ => [(1, { puts := [(1, nb ρ1 1, (.cells (cU 0) 43 (0, 0)))] })]) (cR [[], [1], []] <| cN) (fun _ => ?_)
    refine ok_ret ?_
    refine mt_then_r ?_
    exact mR (v := (.tuple #[(U 0), (.int .i64 60)])) (ps := [1,1,1,1]) (fun _ hS => ⟨by rw [(pub_no (not_t hb1)).1, (pub_no (not_t hb1)).2], hS.bel⟩)
  ·
    rw [hb1]
    refine ok_skip ?_
    refine mt_then ?_
    refine sS Tryd.f43 4 [2, 3] [0, 1] (fun _ => [(U x), (U (expmN 4 x pP)), undef, (.int .i64 0)]) (fun _ => [(2, { puts := [(1, nb ρ1 1, (.cells (cU (expmN 4 x pP)) 43 (0, 0)))] })]) (cR [[0]] <| cC (fun _ w => rgpower_any x w hx) <| cR [[1], []] <| cN) (fun _ => ?_)
    refine ok_ret ?_
    exact mR (v := (.tuple #[(U (expmN 4 x pP)), (.int .i64 0)])) (fun _ hS => ⟨by rw [(pub_yes (not_f hb1)).1, (pub_yes (not_f hb1)).2], hS.bel⟩)

theorem rvalid_any (p : Nat) (hp : p < M) (w0 : World) : Calls Tryd.prog 42 #[(U p)] w0 (fun ε w' => ε = .returned (.bool (valB p)) ∧ Below w0.heap.size w0 w') := by
  refine Calls.of_ok (n := 10) (F := (fun _ => True)) Tryd.func42 rfl rfl rfl (by simp) (persTrue (fun _ => trivial)) ?_
  refine sS Tryd.f42 2 [1, 2] [] (fun ρ => [(pt (nb ρ 0)), (.bool false)]) (fun ρ => [(0, { news := [(nb ρ 0, (.cells (cU p) 43 (0, 0)))] })]) (cR [[], []] <| cN) (fun _ => ?_)
  rcases Bool.eq_false_or_eq_true (decide (p = 1)) with hb1 | hb1
  ·
    refine sD Tryd.f42 [0, 0, 3, 7, 15, 31, 63, 127] 8 [2] [0] (fun _ => [(U p), (U 1), (.bool false), (.bool false), undef, undef, (.bool false), (.bool false)]) (fun _ => []) (cR [[0]] <| cC (fun _ w => rfromuint_lit 1 w (by decide)) <| cB (a := fun ρ => (U p)) (b := fun ρ => (U 1)) (v := fun ρ => (.bool false)) .neq 43 (fun _ _ => (neqU p 1 hp (by decide +kernel) _).trans (by rw [hb1]; try rfl)) <| cR [[], [], [], [], []] <| cN) (fun _ => ?_)
    refine ok_ret ?_
    exact mR (v := (.bool false)) (fun _ hS => ⟨congrArg (fun x => Ending.returned (.bool x)) (val_0 hb1), hS.bel⟩)
  ·
    refine sD Tryd.f42 [0, 0, 3, 7, 15, 31, 63, 127] 8 [2] [0] (fun _ => [(U p), (U 1), (.bool true), (.bool true), (U p), (.bool (memB p)), (.bool (memB p)), (.bool (memB p))]) (fun _ => []) (cR [[0]] <| cC (fun _ w => rfromuint_lit 1 w (by decide)) <| cB (a := fun ρ => (U p)) (b := fun ρ => (U 1)) (v := fun ρ => (.bool true)) .neq 43 (fun _ _ => (neqU p 1 hp (by decide +kernel) _).trans (by rw [hb1]; try rfl)) <| cR [[], [0]] <| cC (fun _ w => rgmember_any p w hp) <| cR [[], []] <| cN) (fun _ => ?_)
    refine ok_ret ?_
    exact mR (v := (.bool (memB p))) (fun _ hS => ⟨congrArg (fun x => Ending.returned (.bool x)) (val_1 hb1), hS.bel⟩)
end Go.Proofs.YtlkbhiaoolddmaaDoor

/-! Keys of trees: which are sound, what is left without the secret: the walks. -/
namespace Go.Proofs.YtlkbhiaoolddmaaDoor
open Go Go.RowKit

theorem ksound_any (k : Ky) (hk : k.Ok) (w0 : World) : Calls Tryd.prog 30 #[(.agg (kC k.s k.p k.c k.d ((k.i : Nat) : Int) ((k.n : Nat) : Int)))] w0 (fun ε w' => ε = .returned (.bool (sndB k)) ∧ Below w0.heap.size w0 w') := by
  refine Calls.of_ok (n := 37) (F := (fun _ => True)) Tryd.func30 rfl rfl rfl (by simp) (persTrue (fun _ => trivial)) ?_
  refine sS Tryd.f30 2 [1, 2] [] (fun ρ => [(pt (nb ρ 0)), (.bool false)]) (fun ρ => [(0, { news := [(nb ρ 0, (.cells (kC k.s k.p k.c k.d ((k.i : Nat) : Int) ((k.n : Nat) : Int)) 45 (0, 0)))] })]) (cR [[], []] <| cN) (fun ρ1 => ?_)
  refine ok_seq ?_
  rcases Bool.eq_false_or_eq_true (decide (k.d < 0)) with hb1 | hb1
  ·
    refine sS Tryd.f30 14 [1, 2, 18] [] (fun _ => [(.pointer (some ⟨nb ρ1 0, 40, none⟩)), (.int .i64 k.d), (.bool true), (.bool true), undef, undef, undef, (.bool true), (.bool true), undef, undef, undef, undef, (.bool true)]) (fun _ => []) (cR [[], [0]] <| cA (fun _ => (.bool true)) (fun _ => congrArg Value.bool hb1) <| cR [[], [], [], [], [], [], [], [], [], [], []] <| cN) (fun _ => ?_)
    refine oY ?_
    refine sS Tryd.f30 1 [1, 2] [] (fun _ => [(.bool false)]) (fun _ => []) (cR [[]] <| cN) (fun _ => ?_)
    refine ok_ret ?_
    refine mt_then_r ?_
    exact mR (v := (.bool false)) (fun _ hS => ⟨congrArg (fun x => Ending.returned (.bool x)) (snd_end1 hb1), hS.bel⟩)
  ·
    rcases Bool.eq_false_or_eq_true (decide (8 < k.d)) with hb2 | hb2
    ·
      refine sS Tryd.f30 14 [1, 2, 18] [] (fun _ => [(.pointer (some ⟨nb ρ1 0, 40, none⟩)), (.int .i64 k.d), (.bool false), (.bool false), (.pointer (some ⟨nb ρ1 0, 40, none⟩)), (.int .i64 k.d), (.bool true), (.bool true), (.bool true), undef, undef, undef, undef, (.bool true)]) (fun _ => []) (cR [[], [0]] <| cA (fun _ => (.bool false)) (fun _ => congrArg Value.bool hb1) <| cR [[], [], [0]] <| cA (fun _ => (.bool true)) (fun _ => congrArg Value.bool hb2) <| cR [[], [], [], [], [], [], []] <| cN) (fun _ => ?_)
      refine oY ?_
      refine sS Tryd.f30 1 [1, 2] [] (fun _ => [(.bool false)]) (fun _ => []) (cR [[]] <| cN) (fun _ => ?_)
      refine ok_ret ?_
      refine mt_then_r ?_
      exact mR (v := (.bool false)) (fun _ hS => ⟨congrArg (fun x => Ending.returned (.bool x)) (snd_end2 hb1 hb2), hS.bel⟩)
    ·
      refine sS Tryd.f30 14 [1, 2, 18] [] (fun _ => [(.pointer (some ⟨nb ρ1 0, 40, none⟩)), (.int .i64 k.d), (.bool false), (.bool false), (.pointer (some ⟨nb ρ1 0, 40, none⟩)), (.int .i64 k.d), (.bool false), (.bool false), (.bool false), (.pointer (some ⟨nb ρ1 0, 4, none⟩)), (U k.p), (.bool (valB k.p)), (.bool (!(valB k.p))), (.bool (!(valB k.p)))]) (fun _ => []) (cR [[], [0]] <| cA (fun _ => (.bool false)) (fun _ => congrArg Value.bool hb1) <| cR [[], [], [0]] <| cA (fun _ => (.bool false)) (fun _ => congrArg Value.bool hb2) <| cR [[], [], [], [0]] <| cC (fun _ w => valid_any k.p hk.p w) <| cR [[], []] <| cN) (fun _ => ?_)
      refine oC (!(valB k.p)) (fun hb3 => ?_) (fun hb3 => ?_)
      ·
        rw [hb3]
        refine sS Tryd.f30 1 [1, 2] [] (fun _ => [(.bool false)]) (fun _ => []) (cR [[]] <| cN) (fun _ => ?_)
        refine ok_ret ?_
        refine mt_then_r ?_
        exact mR (v := (.bool false)) (fun _ hS => ⟨congrArg (fun x => Ending.returned (.bool x)) (snd_end3 hb1 hb2 (not_t hb3)), hS.bel⟩)
      ·
        rw [hb3]
        refine ok_skip ?_
        refine mt_then ?_
        refine ok_seq ?_
        refine sS Tryd.f30 4 [1, 2, 22] [] (fun _ => [(pt (nb ρ1 0)), (U k.s), (U 0), (.bool (decide (k.s = 0)))]) (fun _ => []) (cR [[], [0], []] <| cB (a := fun ρ => (U k.s)) (b := fun ρ => (U 0)) (v := fun ρ => (.bool (decide (k.s = 0)))) .eql 43 (fun _ _ => eqlU k.s 0 hk.s (by decide +kernel) _) <| cN) (fun _ => ?_)
        refine oC (decide (k.s = 0)) (fun hb4 => ?_) (fun hb4 => ?_)
        ·
          rw [hb4]
          refine sS Tryd.f30 1 [1, 2] [] (fun _ => [(.bool true)]) (fun _ => []) (cR [[]] <| cN) (fun _ => ?_)
          refine ok_ret ?_
          refine mt_then_r ?_
          exact mR (v := (.bool true)) (fun _ hS => ⟨congrArg (fun x => Ending.returned (.bool x)) (snd_ok4 hb1 hb2 (not_f hb3) hb4), hS.bel⟩)
        ·
          rw [hb4]
          refine ok_skip ?_
          refine mt_then ?_
          refine sS Tryd.f30 9 [1, 2, 3, 4] [] (fun ρ => [(pt (nb ρ1 0)), (U k.s), (.tuple #[(U (pubV k.s)), (.int .i64 (pubE k.s))]), (.tuple #[(U (pubV k.s)), (.int .i64 (pubE k.s))]), (U (pubV k.s)), (.int .i64 (pubE k.s)), (pt (nb ρ 6)), undef, (.int .i64 (pubE k.s))]) (fun ρ => [(6, { news := [(nb ρ 6, (.cells (cU 0) 43 (0, 0)))] }), (7, { puts := [(49, nb ρ 6, (.cells (cU (pubV k.s)) 43 (0, 0)))] })]) (cR [[], [0]] <| cC (fun _ w => public_any k.s hk.s w) <| cR [[], [], [], [], [49], []] <| cN) (fun _ => ?_)
          rcases Bool.eq_false_or_eq_true ((pubE k.s) == 0) with hb5 | hb5
          ·
            refine sS Tryd.f30 9 [2] [0, 0] (fun _ => [(.int .i64 (pubE k.s)), (.bool true), (.bool true), (U (pubV k.s)), (.pointer (some ⟨nb ρ1 0, 4, none⟩)), (U k.p), (.bool (decide (pubV k.s = k.p))), (.bool (decide (pubV k.s = k.p))), (.bool (decide (pubV k.s = k.p)))]) (fun _ => []) (cR [[]] <| cA (fun _ => (.bool true)) (fun _ => congrArg Value.bool hb5) <| cR [[], [1], [], [0]] <| cB (a := fun ρ => (U (pubV k.s))) (b := fun ρ => (U k.p)) (v := fun ρ => (.bool (decide (pubV k.s = k.p)))) .eql 43 (fun _ _ => eqlU (pubV k.s) k.p (pubV_lt _) hk.p _) <| cR [[], []] <| cN) (fun _ => ?_)
            refine ok_ret ?_
            exact mR (v := (.bool (decide (pubV k.s = k.p)))) (fun _ hS => ⟨congrArg (fun x => Ending.returned (.bool x)) (snd_ok5 hb1 hb2 (not_f hb3) hb4 hb5), hS.bel⟩)
          ·
            refine sS Tryd.f30 9 [2] [0, 0] (fun _ => [(.int .i64 (pubE k.s)), (.bool false), (.bool false), undef, undef, undef, undef, (.bool false), (.bool false)]) (fun _ => []) (cR [[]] <| cA (fun _ => (.bool false)) (fun _ => congrArg Value.bool hb5) <| cR [[], [], [], [], [], [], []] <| cN) (fun _ => ?_)
            refine ok_ret ?_
            exact mR (v := (.bool false)) (fun _ hS => ⟨congrArg (fun x => Ending.returned (.bool x)) (snd_end5 hb1 hb2 (not_f hb3) hb4 hb5), hS.bel⟩)

theorem rksound_any (k : Ky) (hk : k.Ok) (w0 : World) : Calls Tryd.prog 33 #[(.agg (kC k.s k.p k.c k.d ((k.i : Nat) : Int) ((k.n : Nat) : Int)))] w0 (fun ε w' => ε = .returned (.bool (sndB k)) ∧ Below w0.heap.size w0 w') := by
  refine Calls.of_ok (n := 36) (F := (fun _ => True)) Tryd.func33 rfl rfl rfl (by simp) (persTrue (fun _ => trivial)) ?_
  refine sS Tryd.f33 2 [1, 2] [] (fun ρ => [(pt (nb ρ 0)), (.bool false)]) (fun ρ => [(0, { news := [(nb ρ 0, (.cells (kC k.s k.p k.c k.d ((k.i : Nat) : Int) ((k.n : Nat) : Int)) 45 (0, 0)))] })]) (cR [[], []] <| cN) (fun ρ1 => ?_)
  refine ok_seq ?_
  rcases Bool.eq_false_or_eq_true (decide (k.d < 0)) with hb1 | hb1
  ·
    refine sS Tryd.f33 14 [1, 2, 18] [] (fun _ => [(.pointer (some ⟨nb ρ1 0, 40, none⟩)), (.int .i64 k.d), (.bool true), (.bool true), undef, undef, undef, (.bool true), (.bool true), undef, undef, undef, undef, (.bool true)]) (fun _ => []) (cR [[], [0]] <| cA (fun _ => (.bool true)) (fun _ => congrArg Value.bool hb1) <| cR [[], [], [], [], [], [], [], [], [], [], []] <| cN) (fun _ => ?_)
    refine oY ?_
    refine sS Tryd.f33 1 [1, 2] [] (fun _ => [(.bool false)]) (fun _ => []) (cR [[]] <| cN) (fun _ => ?_)
    refine ok_ret ?_
    refine mt_then_r ?_
    exact mR (v := (.bool false)) (fun _ hS => ⟨congrArg (fun x => Ending.returned (.bool x)) (snd_end1 hb1), hS.bel⟩)
  ·
    rcases Bool.eq_false_or_eq_true (decide (8 < k.d)) with hb2 | hb2
    ·
      refine sS Tryd.f33 14 [1, 2, 18] [] (fun _ => [(.pointer (some ⟨nb ρ1 0, 40, none⟩)), (.int .i64 k.d), (.bool false), (.bool false), (.pointer (some ⟨nb ρ1 0, 40, none⟩)), (.int .i64 k.d), (.bool true), (.bool true), (.bool true), undef, undef, undef, undef, (.bool true)]) (fun _ => []) (cR [[], [0]] <| cA (fun _ => (.bool false)) (fun _ => congrArg Value.bool hb1) <| cR [[], [], [0]] <| cA (fun _ => (.bool true)) (fun _ => congrArg Value.bool hb2) <| cR [[], [], [], [], [], [], []] <| cN) (fun _ => ?_)
      refine oY ?_
      refine sS Tryd.f33 1 [1, 2] [] (fun _ => [(.bool false)]) (fun _ => []) (cR [[]] <| cN) (fun _ => ?_)
      refine ok_ret ?_
      refine mt_then_r ?_
      exact mR (v := (.bool false)) (fun _ hS => ⟨congrArg (fun x => Ending.returned (.bool x)) (snd_end2 hb1 hb2), hS.bel⟩)
    ·
      refine sS Tryd.f33 14 [1, 2, 18] [] (fun _ => [(.pointer (some ⟨nb ρ1 0, 40, none⟩)), (.int .i64 k.d), (.bool false), (.bool false), (.pointer (some ⟨nb ρ1 0, 40, none⟩)), (.int .i64 k.d), (.bool false), (.bool false), (.bool false), (.pointer (some ⟨nb ρ1 0, 4, none⟩)), (U k.p), (.bool (valB k.p)), (.bool (!(valB k.p))), (.bool (!(valB k.p)))]) (fun _ => []) (cR [[], [0]] <| cA (fun _ => (.bool false)) (fun _ => congrArg Value.bool hb1) <| cR [[], [], [0]] <| cA (fun _ => (.bool false)) (fun _ => congrArg Value.bool hb2) <| cR [[], [], [], [0]] <| cC (fun _ w => rvalid_any k.p hk.p w) <| cR [[], []] <| cN) (fun _ => ?_)
      refine oC (!(valB k.p)) (fun hb3 => ?_) (fun hb3 => ?_)
      ·
        rw [hb3]
        refine sS Tryd.f33 1 [1, 2] [] (fun _ => [(.bool false)]) (fun _ => []) (cR [[]] <| cN) (fun _ => ?_)
        refine ok_ret ?_
        refine mt_then_r ?_
        exact mR (v := (.bool false)) (fun _ hS => ⟨congrArg (fun x => Ending.returned (.bool x)) (snd_end3 hb1 hb2 (not_t hb3)), hS.bel⟩)
      ·
        rw [hb3]
        refine ok_skip ?_
        refine mt_then ?_
        refine ok_seq ?_
        refine sS Tryd.f33 3 [1, 2, 21] [] (fun _ => [(pt (nb ρ1 0)), (U k.s), (.bool (decide (k.s = 0)))]) (fun _ => []) (cR [[], [0]] <| cC (fun _ w => rzero_any k.s w hk.s) <| cN) (fun _ => ?_)
        refine oC (decide (k.s = 0)) (fun hb4 => ?_) (fun hb4 => ?_)
        ·
          rw [hb4]
          refine sS Tryd.f33 1 [1, 2] [] (fun _ => [(.bool true)]) (fun _ => []) (cR [[]] <| cN) (fun _ => ?_)
          refine ok_ret ?_
          refine mt_then_r ?_
          exact mR (v := (.bool true)) (fun _ hS => ⟨congrArg (fun x => Ending.returned (.bool x)) (snd_ok4 hb1 hb2 (not_f hb3) hb4), hS.bel⟩)
        ·
          rw [hb4]
          refine ok_skip ?_
          refine mt_then ?_
          refine sS Tryd.f33 9 [1, 2, 3, 4] [] (fun ρ => [(pt (nb ρ1 0)), (U k.s), (.tuple #[(U (pubV k.s)), (.int .i64 (pubE k.s))]), (.tuple #[(U (pubV k.s)), (.int .i64 (pubE k.s))]), (U (pubV k.s)), (.int .i64 (pubE k.s)), (pt (nb ρ 6)), undef, (.int .i64 (pubE k.s))]) (fun ρ => [(6, { news := [(nb ρ 6, (.cells (cU 0) 43 (0, 0)))] }), (7, { puts := [(49, nb ρ 6, (.cells (cU (pubV k.s)) 43 (0, 0)))] })]) (cR [[], [0]] <| cC (fun _ w => rpublic_any k.s hk.s w) <| cR [[], [], [], [], [49], []] <| cN) (fun _ => ?_)
          rcases Bool.eq_false_or_eq_true ((pubE k.s) == 0) with hb5 | hb5
          ·
            refine sS Tryd.f33 9 [2] [0, 0] (fun _ => [(.int .i64 (pubE k.s)), (.bool true), (.bool true), (U (pubV k.s)), (.pointer (some ⟨nb ρ1 0, 4, none⟩)), (U k.p), (.bool (decide (pubV k.s = k.p))), (.bool (decide (pubV k.s = k.p))), (.bool (decide (pubV k.s = k.p)))]) (fun _ => []) (cR [[]] <| cA (fun _ => (.bool true)) (fun _ => congrArg Value.bool hb5) <| cR [[], [1], [], [0]] <| cB (a := fun ρ => (U (pubV k.s))) (b := fun ρ => (U k.p)) (v := fun ρ => (.bool (decide (pubV k.s = k.p)))) .eql 43 (fun _ _ => eqlU (pubV k.s) k.p (pubV_lt _) hk.p _) <| cR [[], []] <| cN) (fun _ => ?_)
            refine ok_ret ?_
            exact mR (v := (.bool (decide (pubV k.s = k.p)))) (fun _ hS => ⟨congrArg (fun x => Ending.returned (.bool x)) (snd_ok5 hb1 hb2 (not_f hb3) hb4 hb5), hS.bel⟩)
          ·
            refine sS Tryd.f33 9 [2] [0, 0] (fun _ => [(.int .i64 (pubE k.s)), (.bool false), (.bool false), undef, undef, undef, undef, (.bool false), (.bool false)]) (fun _ => []) (cR [[]] <| cA (fun _ => (.bool false)) (fun _ => congrArg Value.bool hb5) <| cR [[], [], [], [], [], [], []] <| cN) (fun _ => ?_)
            refine ok_ret ?_
            exact mR (v := (.bool false)) (fun _ hS => ⟨congrArg (fun x => Ending.returned (.bool x)) (snd_end5 hb1 hb2 (not_f hb3) hb4 hb5), hS.bel⟩)
end Go.Proofs.YtlkbhiaoolddmaaDoor
