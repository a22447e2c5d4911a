/-
  What the walks of this seat share, part 5: the texts of it, one behind the other.
-/
import Derived.Test.YtjdhjkceahaegaaGreatDoorBase4
import Derived.ProofKit
import Derived.OpenShut
import Derived.Test.YtjdhjkceahaegaaGreatDoorChecked
import Derived.SizedLaws
import Derived.ChangeSlices
import Derived.ChangeMaps5
import Derived.ChangeArms
import Derived.WideShapes
import Derived.Test.YtjdhjkceahaegaaGreatDoorRows
import Derived.LaidMore
import Derived.LaidHandle
import Derived.MakeChecks
import Derived.Lib.LaidTab
set_option maxRecDepth 100000

/-! Rows of integers: facts, places, loads, slices. -/
namespace Go.Proofs.YtjdhjkceahaegaaGreatDoor
open Go Go.RowKit

def iv (k : IntKind) (zs : List Int) : List Value := zs.map (.int k)
theorem iv_length (k : IntKind) (zs : List Int) : (iv k zs).length = zs.length := List.length_map _
def gI (zs : List Int) (i : Nat) : Int := zs.getD i 0
/-- The integers zs lie at a; the slice has room c. -/
structure Is (w : World) (k : IntKind) (a : Option Addr) (c : Nat) (zs : List Int) : Prop where
  le : zs.length ≤ c
  max : zs.length ≤ 140737488351232
  rows : Rs w a (iv k zs)
theorem Is.nil {w : World} {k : IntKind} {a : Option Addr} {c : Nat} : Is w k a c [] := ⟨by simp, by simp, Or.inl rfl⟩
theorem Is.pers {T : Nat → Prop} {w : World} {k : IntKind} {a : Option Addr} {c : Nat} {zs : List Int} (h : Is w k a c zs) (hT : Apart T a zs.length) : Pers T (fun w => Is w k a c zs) w :=
  (h.rows.pers (by rw [iv_length]; exact hT)).mono (fun _ hr => ⟨h.le, h.max, hr⟩)
theorem Is.pers0 {w : World} {k : IntKind} {a : Option Addr} {c : Nat} {zs : List Int} (h : Is w k a c zs) : Pers (fun _ => False) (fun w => Is w k a c zs) w := h.pers (fun _ _ _ => id)
theorem Is.cell {w : World} {k : IntKind} {a : Option Addr} {c : Nat} {zs : List Int} (h : Is w k a c zs) {i : Nat} (hi : i < zs.length) : ∃ p, a = some p ∧ w.cell? (p.add i) = some (.int k (gI zs i)) := by
  rcases h.rows with h0 | ⟨p, rfl, hh⟩
  · have := congrArg List.length h0
    rw [iv_length] at this
    simp at this
    subst this
    simp at hi
  · refine ⟨p, rfl, hh i _ ?_⟩
    unfold iv
    rw [List.getElem?_map, List.getElem?_eq_getElem hi]
    simp [gI, List.getD, List.getElem?_eq_getElem hi]
def midI (zs : List Int) (l h : Nat) : List Int := (zs.take h).drop l
theorem midI_length (zs : List Int) (l h : Nat) (hh : h ≤ zs.length) : (midI zs l h).length = h - l := by
  unfold midI
  rw [List.length_drop, List.length_take]
  omega
theorem Is.mid {w : World} {ik : IntKind} {a : Option Addr} {c : Nat} {zs : List Int} (h : Is w ik a c zs) {l k : Nat} (hl : l ≤ k) (hk : k ≤ zs.length) : Is w ik (sadr a l c) (c - l) (midI zs l k) := by
  have hle := h.le
  have hm := h.max
  have hlen := midI_length zs l k hk
  refine ⟨by omega, by omega, ?_⟩
  unfold sadr
  split
  · have : midI zs l k = [] := List.eq_nil_of_length_eq_zero (by omega)
    rw [this]
    exact Or.inl rfl
  · unfold adr midI iv
    rw [List.map_drop, List.map_take]
    exact (h.rows.take k).drop l
section
variable {P : Program} {t e : TypeId}
theorem idx_ints (ht : P.underlying t = some (.slice e)) (hs : ∀ w, (sizeOf e).run P w = .ok 1 w) {w : World} {ik : IntKind} {a : Option Addr} {c m : Nat} {zs : List Int} {k : IntKind} {z : Int} {j : Nat} (hb : Is w ik a c zs) (hm : m = zs.length) (hz : z = (j : Int)) (hj : j < zs.length) :
    (do pure (Next.value (← Instr.indexAt t (.slice a m c) (.int k z))) : Sem Next).run P w = .ok (.value (.pointer (adr a j))) w := by
  subst hm hz
  obtain ⟨p, rfl, _⟩ := hb.cell hj
  have hs := hs w
  simp [Instr.indexAt, asIntOf, Sem.run_bind, run_underlying ht, hj, hs, adr]
theorem ld_ints {w : World} {ik : IntKind} {a : Option Addr} {c : Nat} {zs : List Int} {j : Nat} (ha : ∀ w, (isAgg e).run P w = .ok false w) (hb : Is w ik a c zs) (hj : j < zs.length) :
    (do pure (Next.value (← Instr.loadAt e (.pointer (adr a j)))) : Sem Next).run P w = .ok (.value (.int ik (gI zs j))) w := by
  obtain ⟨p, rfl, hp⟩ := hb.cell hj
  simp only [adr, Option.map_some, Instr.loadAt, Instr.sureAddr, loadVar, Sem.run_bind, Sem.run_pure, Result.andThen_ok, ha, Bool.false_eq_true, if_false, load, Sem.run, hp]
theorem slice_ints (ht : P.underlying t = some (.slice e)) (hs : ∀ w, (sizeOf e).run P w = .ok 1 w) {w : World} {ik : IntKind} {a : Option Addr} {c m : Nat} {zs : List Int} {lo hi' : Option Value} {l k : Nat} (hb : Is w ik a c zs) (hm : m = zs.length)
    (hlo : lo = none ∧ l = 0 ∨ lo = some (.int .i64 (l : Int))) (hhi : hi' = none ∧ k = zs.length ∨ hi' = some (.int .i64 (k : Int))) (hl : l ≤ k) (hk : k ≤ zs.length) :
    (do pure (Next.value (← Instr.sliceAt t (.slice a m c) lo hi' none)) : Sem Next).run P w = .ok (.value (.slice (sadr a l c) (midI zs l k).length (c - l))) w := by
  subst hm
  have hle := hb.le
  have hs := hs w
  have h1 : l ≤ k := by omega
  have h2 : k ≤ c := by omega
  rw [midI_length zs l k hk]
  have hb1 : (Instr.sliceBounds true zs.length c lo hi' none).run P w = .ok (l, k, c) w := by
    rcases hlo with ⟨rfl, rfl⟩ | rfl
    · rcases hhi with ⟨rfl, rfl⟩ | rfl
      · simp [Instr.sliceBounds]
      · simp [Instr.sliceBounds, Instr.sliceBound, asIntOf, h2]
    · rcases hhi with ⟨rfl, rfl⟩ | rfl
      · simp [Instr.sliceBounds, Instr.sliceBound, asIntOf, h1]
      · simp [Instr.sliceBounds, Instr.sliceBound, asIntOf, h1, h2]
  simp [Instr.sliceAt, Instr.slice, run_underlying ht, hs, sadr, adr, hb1]
end
/-- A key's cells. -/
def kC (s p c : Nat) (d i n : Int) : Array Value := cU s ++ cU p ++ hB c ++ #[.int .i64 d, .int .u32 i, .int .u32 n]
end Go.Proofs.YtjdhjkceahaegaaGreatDoor

/-! Trees of keys: the walks' last equations. -/
namespace Go.Proofs.YtjdhjkceahaegaaGreatDoor
open Go

theorem snd_end1 {k : Ky} (h1 : decide (k.d < 0) = true) : false = sndB k := by
  have := of_decide_eq_true h1
  unfold sndB
  rw [decide_eq_false (show ¬ 0 ≤ k.d by omega)]; rfl
theorem snd_end2 {k : Ky} (_ : decide (k.d < 0) = false) (h2 : decide (8 < k.d) = true) : false = sndB k := by
  have := of_decide_eq_true h2
  unfold sndB
  rw [decide_eq_false (show ¬ k.d ≤ 8 by omega), Bool.false_and, Bool.and_false]
theorem snd_end3 {k : Ky} (_ : decide (k.d < 0) = false) (_ : decide (8 < k.d) = false) (h3 : valB k.p = false) : false = sndB k := by
  unfold sndB
  rw [h3, Bool.false_and, Bool.and_false, Bool.and_false]
theorem snd_mid {k : Ky} (h1 : decide (k.d < 0) = false) (h2 : decide (8 < k.d) = false) (h3 : valB k.p = true) : sndB k = (decide (k.s = 0) || (decide (pubE k.s = 0) && decide (pubV k.s = k.p))) := by
  have := of_decide_eq_false h1
  have := of_decide_eq_false h2
  unfold sndB
  rw [decide_eq_true (show 0 ≤ k.d by omega), decide_eq_true (show k.d ≤ 8 by omega), h3]; rfl
theorem snd_ok4 {k : Ky} (h1 : decide (k.d < 0) = false) (h2 : decide (8 < k.d) = false) (h3 : valB k.p = true) (h4 : decide (k.s = 0) = true) : true = sndB k := by
  rw [snd_mid h1 h2 h3, h4]; rfl
theorem snd_ok5 {k : Ky} (h1 : decide (k.d < 0) = false) (h2 : decide (8 < k.d) = false) (h3 : valB k.p = true) (h4 : decide (k.s = 0) = false) (h5 : (pubE k.s == 0) = true) : decide (pubV k.s = k.p) = sndB k := by
  have h : pubE k.s = 0 := by simpa using h5
  rw [snd_mid h1 h2 h3, h4, decide_eq_true h]; rfl
theorem snd_end5 {k : Ky} (h1 : decide (k.d < 0) = false) (h2 : decide (8 < k.d) = false) (h3 : valB k.p = true) (h4 : decide (k.s = 0) = false) (h5 : (pubE k.s == 0) = false) : false = sndB k := by
  have h : ¬ pubE k.s = 0 := by simpa using h5
  rw [snd_mid h1 h2 h3, h4, decide_eq_false h]; rfl
/-! ### prints -/
theorem hiN_small {D j : Nat} (h : j < 4) : hiN D j < 16777216 :=
  Nat.lt_of_lt_of_le (hiN_lt D j) (by rw [show (16777216 : Nat) = 256 ^ 3 from rfl]; exact Nat.pow_le_pow_right (by decide) (by omega))
theorem or_hi {D j : Nat} (h : j < 4) : bits .or .u32 ((hiN D j * 256 : Nat) : Int) ((bN D j : Nat) : Int) = ((hiN D (j + 1) : Nat) : Int) := by
  have h1 := hiN_small (D := D) h
  have h2 := bN_lt D j
  exact or_gen (x := hiN D j) (y := bN D j) (k := 8) h2 (by show _ * 256 < _; omega) (by omega)
theorem run_hi8 {P : Program} {t : TypeId} {D j : Nat} (h : j < 4) (w : World) : (binOp .shl t (.int .u32 ((hiN D j : Nat) : Int)) (.int .u64 8)).run P w = .ok (.int .u32 ((hiN D j * 256 : Nat) : Int)) w :=
  run_shlU (k := .u32) (yk := .u64) (x := hiN D j) (c := 8) rfl (by have := hiN_small (D := D) h; show hiN D j * 256 < 4294967296; omega) (fun _ => by decide) w
theorem u32_bN (D j : Nat) : IntKind.u32.wrap ((bN D j : Nat) : Int) = ((bN D j : Nat) : Int) := u32N (Nat.lt_trans (bN_lt D j) (by decide))
theorem run_bN {P : Program} {t : TypeId} {D j c : Nat} (hc : c ≤ 24) (w : World) : (binOp .shl t (.int .u32 ((bN D j : Nat) : Int)) (.int .u64 ((c : Nat) : Int))).run P w = .ok (.int .u32 ((bN D j * 2 ^ c : Nat) : Int)) w :=
  run_shlU (k := .u32) (yk := .u64) (x := bN D j) (c := c) rfl (by
    have h1 := bN_lt D j
    have h2 : 2 ^ c ≤ 2 ^ 24 := Nat.pow_le_pow_right (by decide) hc
    have h3 : bN D j * 2 ^ c ≤ 255 * 2 ^ 24 := Nat.mul_le_mul (by omega) h2
    show bN D j * 2 ^ c < 4294967296
    omega) (fun _ => by show c ≤ 32; omega) w
theorem or_p1 (D : Nat) : bits .or .u32 ((bN D 0 * 2 ^ 24 : Nat) : Int) ((bN D 1 * 2 ^ 16 : Nat) : Int) = (((bN D 0 * 256 + bN D 1) * 65536 : Nat) : Int) := or_w1 (bN_lt D 0) (bN_lt D 1)
theorem or_p2 (D : Nat) : bits .or .u32 (((bN D 0 * 256 + bN D 1) * 65536 : Nat) : Int) ((bN D 2 * 2 ^ 8 : Nat) : Int) = ((((bN D 0 * 256 + bN D 1) * 256 + bN D 2) * 256 : Nat) : Int) := or_w2 (bN_lt D 0) (bN_lt D 1) (bN_lt D 2)
theorem or_p3 (D : Nat) : bits .or .u32 ((((bN D 0 * 256 + bN D 1) * 256 + bN D 2) * 256 : Nat) : Int) ((bN D 3 : Nat) : Int) = ((hiN D 4 : Nat) : Int) := by
  have h0 := bN_lt D 0; have h1 := bN_lt D 1; have h2 := bN_lt D 2; have h3 := bN_lt D 3
  refine (or_gen (x := (bN D 0 * 256 + bN D 1) * 256 + bN D 2) (y := bN D 3) (k := 8) h3 (by show _ * 256 < _; omega) (by omega)).trans ?_
  simp [hiN]
end Go.Proofs.YtjdhjkceahaegaaGreatDoor

/-! Keys of trees: which are sound, what is left without the secret: the walks. -/
namespace Go.Proofs.YtjdhjkceahaegaaGreatDoor
open Go Go.RowKit

theorem ksound_any (k : Ky) (hk : k.Ok) (w0 : World) : Calls Tryz.prog 26 #[(.agg (kC k.s k.p k.c k.d ((k.i : Nat) : Int) ((k.n : Nat) : Int)))] w0 (fun ε w' => ε = .returned (.bool (sndB k)) ∧ Below w0.heap.size w0 w') := by
  refine Calls.of_ok (n := 37) (F := (fun _ => True)) Tryz.func26 rfl rfl rfl (by simp) (persTrue (fun _ => trivial)) ?_
  refine sS Tryz.f26 2 [1, 2] [] (fun ρ => [(pt (nb ρ 0)), (.bool false)]) (fun ρ => [(0, { news := [(nb ρ 0, (.cells (kC k.s k.p k.c k.d ((k.i : Nat) : Int) ((k.n : Nat) : Int)) 33 (0, 0)))] })]) (cR [[], []] <| cN) (fun ρ1 => ?_)
  refine ok_seq ?_
  rcases Bool.eq_false_or_eq_true (decide (k.d < 0)) with hb1 | hb1
  ·
    refine sS Tryz.f26 14 [1, 2, 18] [] (fun _ => [(.pointer (some ⟨nb ρ1 0, 40, none⟩)), (.int .i64 k.d), (.bool true), (.bool true), undef, undef, undef, (.bool true), (.bool true), undef, undef, undef, undef, (.bool true)]) (fun _ => []) (cR [[], [0]] <| cA (fun _ => (.bool true)) (fun _ => congrArg Value.bool hb1) <| cR [[], [], [], [], [], [], [], [], [], [], []] <| cN) (fun _ => ?_)
    refine oY ?_
    refine sS Tryz.f26 1 [1, 2] [] (fun _ => [(.bool false)]) (fun _ => []) (cR [[]] <| cN) (fun _ => ?_)
    refine ok_ret ?_
    refine mt_then_r ?_
    exact mR (v := (.bool false)) (fun _ hS => ⟨congrArg (fun x => Ending.returned (.bool x)) (snd_end1 hb1), hS.bel⟩)
  ·
    rcases Bool.eq_false_or_eq_true (decide (8 < k.d)) with hb2 | hb2
    ·
      refine sS Tryz.f26 14 [1, 2, 18] [] (fun _ => [(.pointer (some ⟨nb ρ1 0, 40, none⟩)), (.int .i64 k.d), (.bool false), (.bool false), (.pointer (some ⟨nb ρ1 0, 40, none⟩)), (.int .i64 k.d), (.bool true), (.bool true), (.bool true), undef, undef, undef, undef, (.bool true)]) (fun _ => []) (cR [[], [0]] <| cA (fun _ => (.bool false)) (fun _ => congrArg Value.bool hb1) <| cR [[], [], [0]] <| cA (fun _ => (.bool true)) (fun _ => congrArg Value.bool hb2) <| cR [[], [], [], [], [], [], []] <| cN) (fun _ => ?_)
      refine oY ?_
      refine sS Tryz.f26 1 [1, 2] [] (fun _ => [(.bool false)]) (fun _ => []) (cR [[]] <| cN) (fun _ => ?_)
      refine ok_ret ?_
      refine mt_then_r ?_
      exact mR (v := (.bool false)) (fun _ hS => ⟨congrArg (fun x => Ending.returned (.bool x)) (snd_end2 hb1 hb2), hS.bel⟩)
    ·
      refine sS Tryz.f26 14 [1, 2, 18] [] (fun _ => [(.pointer (some ⟨nb ρ1 0, 40, none⟩)), (.int .i64 k.d), (.bool false), (.bool false), (.pointer (some ⟨nb ρ1 0, 40, none⟩)), (.int .i64 k.d), (.bool false), (.bool false), (.bool false), (.pointer (some ⟨nb ρ1 0, 4, none⟩)), (U k.p), (.bool (valB k.p)), (.bool (!(valB k.p))), (.bool (!(valB k.p)))]) (fun _ => []) (cR [[], [0]] <| cA (fun _ => (.bool false)) (fun _ => congrArg Value.bool hb1) <| cR [[], [], [0]] <| cA (fun _ => (.bool false)) (fun _ => congrArg Value.bool hb2) <| cR [[], [], [], [0]] <| cC (fun _ w => valid_any k.p hk.p w) <| cR [[], []] <| cN) (fun _ => ?_)
      refine oC (!(valB k.p)) (fun hb3 => ?_) (fun hb3 => ?_)
      ·
        rw [hb3]
        refine sS Tryz.f26 1 [1, 2] [] (fun _ => [(.bool false)]) (fun _ => []) (cR [[]] <| cN) (fun _ => ?_)
        refine ok_ret ?_
        refine mt_then_r ?_
        exact mR (v := (.bool false)) (fun _ hS => ⟨congrArg (fun x => Ending.returned (.bool x)) (snd_end3 hb1 hb2 (not_t hb3)), hS.bel⟩)
      ·
        rw [hb3]
        refine ok_skip ?_
        refine mt_then ?_
        refine ok_seq ?_
        refine sS Tryz.f26 4 [1, 2, 22] [] (fun _ => [(pt (nb ρ1 0)), (U k.s), (U 0), (.bool (decide (k.s = 0)))]) (fun _ => []) (cR [[], [0], []] <| cB (a := fun ρ => (U k.s)) (b := fun ρ => (U 0)) (v := fun ρ => (.bool (decide (k.s = 0)))) .eql 29 (fun _ _ => eqlU k.s 0 hk.s (by decide +kernel) _) <| cN) (fun _ => ?_)
        refine oC (decide (k.s = 0)) (fun hb4 => ?_) (fun hb4 => ?_)
        ·
          rw [hb4]
          refine sS Tryz.f26 1 [1, 2] [] (fun _ => [(.bool true)]) (fun _ => []) (cR [[]] <| cN) (fun _ => ?_)
          refine ok_ret ?_
          refine mt_then_r ?_
          exact mR (v := (.bool true)) (fun _ hS => ⟨congrArg (fun x => Ending.returned (.bool x)) (snd_ok4 hb1 hb2 (not_f hb3) hb4), hS.bel⟩)
        ·
          rw [hb4]
          refine ok_skip ?_
          refine mt_then ?_
          refine sS Tryz.f26 9 [1, 2, 3, 4] [] (fun ρ => [(pt (nb ρ1 0)), (U k.s), (.tuple #[(U (pubV k.s)), (.int .i64 (pubE k.s))]), (.tuple #[(U (pubV k.s)), (.int .i64 (pubE k.s))]), (U (pubV k.s)), (.int .i64 (pubE k.s)), (pt (nb ρ 6)), undef, (.int .i64 (pubE k.s))]) (fun ρ => [(6, { news := [(nb ρ 6, (.cells (cU 0) 29 (0, 0)))] }), (7, { puts := [(49, nb ρ 6, (.cells (cU (pubV k.s)) 29 (0, 0)))] })]) (cR [[], [0]] <| cC (fun _ w => public_any k.s hk.s w) <| cR [[], [], [], [], [49], []] <| cN) (fun _ => ?_)
          rcases Bool.eq_false_or_eq_true ((pubE k.s) == 0) with hb5 | hb5
          ·
            refine sS Tryz.f26 9 [2] [0, 0] (fun _ => [(.int .i64 (pubE k.s)), (.bool true), (.bool true), (U (pubV k.s)), (.pointer (some ⟨nb ρ1 0, 4, none⟩)), (U k.p), (.bool (decide (pubV k.s = k.p))), (.bool (decide (pubV k.s = k.p))), (.bool (decide (pubV k.s = k.p)))]) (fun _ => []) (cR [[]] <| cA (fun _ => (.bool true)) (fun _ => congrArg Value.bool hb5) <| cR [[], [1], [], [0]] <| cB (a := fun ρ => (U (pubV k.s))) (b := fun ρ => (U k.p)) (v := fun ρ => (.bool (decide (pubV k.s = k.p)))) .eql 29 (fun _ _ => eqlU (pubV k.s) k.p (pubV_lt _) hk.p _) <| cR [[], []] <| cN) (fun _ => ?_)
            refine ok_ret ?_
            exact mR (v := (.bool (decide (pubV k.s = k.p)))) (fun _ hS => ⟨congrArg (fun x => Ending.returned (.bool x)) (snd_ok5 hb1 hb2 (not_f hb3) hb4 hb5), hS.bel⟩)
          ·
            refine sS Tryz.f26 9 [2] [0, 0] (fun _ => [(.int .i64 (pubE k.s)), (.bool false), (.bool false), undef, undef, undef, undef, (.bool false), (.bool false)]) (fun _ => []) (cR [[]] <| cA (fun _ => (.bool false)) (fun _ => congrArg Value.bool hb5) <| cR [[], [], [], [], [], [], []] <| cN) (fun _ => ?_)
            refine ok_ret ?_
            exact mR (v := (.bool false)) (fun _ hS => ⟨congrArg (fun x => Ending.returned (.bool x)) (snd_end5 hb1 hb2 (not_f hb3) hb4 hb5), hS.bel⟩)

theorem kneuter_any (k : Ky) (_hk : k.Ok) (w0 : World) : Calls Tryz.prog 21 #[(.agg (kC k.s k.p k.c k.d ((k.i : Nat) : Int) ((k.n : Nat) : Int)))] w0 (fun ε w' => ε = .returned (.agg (kC 0 k.p k.c k.d ((k.i : Nat) : Int) ((k.n : Nat) : Int))) ∧ Below w0.heap.size w0 w') := by
  refine Calls.of_ok (n := 6) (F := (fun _ => True)) Tryz.func21 rfl rfl rfl (by simp) (persTrue (fun _ => trivial)) ?_
  refine sS Tryz.f21 2 [1, 2] [] (fun ρ => [(pt (nb ρ 0)), (pt (nb ρ 1))]) (fun ρ => [(0, { news := [(nb ρ 0, (.cells (kC k.s k.p k.c k.d ((k.i : Nat) : Int) ((k.n : Nat) : Int)) 33 (0, 0)))] }), (1, { news := [(nb ρ 1, (.cells (kC 0 0 0 0 0 0) 33 (0, 0)))] })]) (cR [[], []] <| cN) (fun ρ1 => ?_)
  refine sS Tryz.f21 3 [1, 2] [] (fun _ => [(U 0), (pt (nb ρ1 0)), undef]) (fun _ => [(2, { puts := [(0, nb ρ1 0, (.cells (kC 0 k.p k.c k.d ((k.i : Nat) : Int) ((k.n : Nat) : Int)) 33 (0, 0)))] })]) (cR [[], [], [0]] <| cN) (fun _ => ?_)
  refine sS Tryz.f21 2 [2] [0, 1] (fun _ => [(.agg (kC 0 k.p k.c k.d ((k.i : Nat) : Int) ((k.n : Nat) : Int))), undef]) (fun _ => [(1, { puts := [(1, nb ρ1 1, (.cells (kC 0 k.p k.c k.d ((k.i : Nat) : Int) ((k.n : Nat) : Int)) 33 (0, 0)))] })]) (cR [[0], [1]] <| cN) (fun _ => ?_)
  refine ok_ret ?_
  exact mR (v := (.agg (kC 0 k.p k.c k.d ((k.i : Nat) : Int) ((k.n : Nat) : Int)))) (fun _ hS => ⟨rfl, hS.bel⟩)

theorem rksound_any (k : Ky) (hk : k.Ok) (w0 : World) : Calls Tryz.prog 33 #[(.agg (kC k.s k.p k.c k.d ((k.i : Nat) : Int) ((k.n : Nat) : Int)))] w0 (fun ε w' => ε = .returned (.bool (sndB k)) ∧ Below w0.heap.size w0 w') := by
  refine Calls.of_ok (n := 36) (F := (fun _ => True)) Tryz.func33 rfl rfl rfl (by simp) (persTrue (fun _ => trivial)) ?_
  refine sS Tryz.f33 2 [1, 2] [] (fun ρ => [(pt (nb ρ 0)), (.bool false)]) (fun ρ => [(0, { news := [(nb ρ 0, (.cells (kC k.s k.p k.c k.d ((k.i : Nat) : Int) ((k.n : Nat) : Int)) 33 (0, 0)))] })]) (cR [[], []] <| cN) (fun ρ1 => ?_)
  refine ok_seq ?_
  rcases Bool.eq_false_or_eq_true (decide (k.d < 0)) with hb1 | hb1
  ·
    refine sS Tryz.f33 14 [1, 2, 18] [] (fun _ => [(.pointer (some ⟨nb ρ1 0, 40, none⟩)), (.int .i64 k.d), (.bool true), (.bool true), undef, undef, undef, (.bool true), (.bool true), undef, undef, undef, undef, (.bool true)]) (fun _ => []) (cR [[], [0]] <| cA (fun _ => (.bool true)) (fun _ => congrArg Value.bool hb1) <| cR [[], [], [], [], [], [], [], [], [], [], []] <| cN) (fun _ => ?_)
    refine oY ?_
    refine sS Tryz.f33 1 [1, 2] [] (fun _ => [(.bool false)]) (fun _ => []) (cR [[]] <| cN) (fun _ => ?_)
    refine ok_ret ?_
    refine mt_then_r ?_
    exact mR (v := (.bool false)) (fun _ hS => ⟨congrArg (fun x => Ending.returned (.bool x)) (snd_end1 hb1), hS.bel⟩)
  ·
    rcases Bool.eq_false_or_eq_true (decide (8 < k.d)) with hb2 | hb2
    ·
      refine sS Tryz.f33 14 [1, 2, 18] [] (fun _ => [(.pointer (some ⟨nb ρ1 0, 40, none⟩)), (.int .i64 k.d), (.bool false), (.bool false), (.pointer (some ⟨nb ρ1 0, 40, none⟩)), (.int .i64 k.d), (.bool true), (.bool true), (.bool true), undef, undef, undef, undef, (.bool true)]) (fun _ => []) (cR [[], [0]] <| cA (fun _ => (.bool false)) (fun _ => congrArg Value.bool hb1) <| cR [[], [], [0]] <| cA (fun _ => (.bool true)) (fun _ => congrArg Value.bool hb2) <| cR [[], [], [], [], [], [], []] <| cN) (fun _ => ?_)
      refine oY ?_
      refine sS Tryz.f33 1 [1, 2] [] (fun _ => [(.bool false)]) (fun _ => []) (cR [[]] <| cN) (fun _ => ?_)
      refine ok_ret ?_
      refine mt_then_r ?_
      exact mR (v := (.bool false)) (fun _ hS => ⟨congrArg (fun x => Ending.returned (.bool x)) (snd_end2 hb1 hb2), hS.bel⟩)
    ·
      refine sS Tryz.f33 14 [1, 2, 18] [] (fun _ => [(.pointer (some ⟨nb ρ1 0, 40, none⟩)), (.int .i64 k.d), (.bool false), (.bool false), (.pointer (some ⟨nb ρ1 0, 40, none⟩)), (.int .i64 k.d), (.bool false), (.bool false), (.bool false), (.pointer (some ⟨nb ρ1 0, 4, none⟩)), (U k.p), (.bool (valB k.p)), (.bool (!(valB k.p))), (.bool (!(valB k.p)))]) (fun _ => []) (cR [[], [0]] <| cA (fun _ => (.bool false)) (fun _ => congrArg Value.bool hb1) <| cR [[], [], [0]] <| cA (fun _ => (.bool false)) (fun _ => congrArg Value.bool hb2) <| cR [[], [], [], [0]] <| cC (fun _ w => rvalid_any k.p hk.p w) <| cR [[], []] <| cN) (fun _ => ?_)
      refine oC (!(valB k.p)) (fun hb3 => ?_) (fun hb3 => ?_)
      ·
        rw [hb3]
        refine sS Tryz.f33 1 [1, 2] [] (fun _ => [(.bool false)]) (fun _ => []) (cR [[]] <| cN) (fun _ => ?_)
        refine ok_ret ?_
        refine mt_then_r ?_
        exact mR (v := (.bool false)) (fun _ hS => ⟨congrArg (fun x => Ending.returned (.bool x)) (snd_end3 hb1 hb2 (not_t hb3)), hS.bel⟩)
      ·
        rw [hb3]
        refine ok_skip ?_
        refine mt_then ?_
        refine ok_seq ?_
        refine sS Tryz.f33 3 [1, 2, 21] [] (fun _ => [(pt (nb ρ1 0)), (U k.s), (.bool (decide (k.s = 0)))]) (fun _ => []) (cR [[], [0]] <| cC (fun _ w => rzero_any k.s w hk.s) <| cN) (fun _ => ?_)
        refine oC (decide (k.s = 0)) (fun hb4 => ?_) (fun hb4 => ?_)
        ·
          rw [hb4]
          refine sS Tryz.f33 1 [1, 2] [] (fun _ => [(.bool true)]) (fun _ => []) (cR [[]] <| cN) (fun _ => ?_)
          refine ok_ret ?_
          refine mt_then_r ?_
          exact mR (v := (.bool true)) (fun _ hS => ⟨congrArg (fun x => Ending.returned (.bool x)) (snd_ok4 hb1 hb2 (not_f hb3) hb4), hS.bel⟩)
        ·
          rw [hb4]
          refine ok_skip ?_
          refine mt_then ?_
          refine sS Tryz.f33 9 [1, 2, 3, 4] [] (fun ρ => [(pt (nb ρ1 0)), (U k.s), (.tuple #[(U (pubV k.s)), (.int .i64 (pubE k.s))]), (.tuple #[(U (pubV k.s)), (.int .i64 (pubE k.s))]), (U (pubV k.s)), (.int .i64 (pubE k.s)), (pt (nb ρ 6)), undef, (.int .i64 (pubE k.s))]) (fun ρ => [(6, { news := [(nb ρ 6, (.cells (cU 0) 29 (0, 0)))] }), (7, { puts := [(49, nb ρ 6, (.cells (cU (pubV k.s)) 29 (0, 0)))] })]) (cR [[], [0]] <| cC (fun _ w => rpublic_any k.s hk.s w) <| cR [[], [], [], [], [49], []] <| cN) (fun _ => ?_)
          rcases Bool.eq_false_or_eq_true ((pubE k.s) == 0) with hb5 | hb5
          ·
            refine sS Tryz.f33 9 [2] [0, 0] (fun _ => [(.int .i64 (pubE k.s)), (.bool true), (.bool true), (U (pubV k.s)), (.pointer (some ⟨nb ρ1 0, 4, none⟩)), (U k.p), (.bool (decide (pubV k.s = k.p))), (.bool (decide (pubV k.s = k.p))), (.bool (decide (pubV k.s = k.p)))]) (fun _ => []) (cR [[]] <| cA (fun _ => (.bool true)) (fun _ => congrArg Value.bool hb5) <| cR [[], [1], [], [0]] <| cB (a := fun ρ => (U (pubV k.s))) (b := fun ρ => (U k.p)) (v := fun ρ => (.bool (decide (pubV k.s = k.p)))) .eql 29 (fun _ _ => eqlU (pubV k.s) k.p (pubV_lt _) hk.p _) <| cR [[], []] <| cN) (fun _ => ?_)
            refine ok_ret ?_
            exact mR (v := (.bool (decide (pubV k.s = k.p)))) (fun _ hS => ⟨congrArg (fun x => Ending.returned (.bool x)) (snd_ok5 hb1 hb2 (not_f hb3) hb4 hb5), hS.bel⟩)
          ·
            refine sS Tryz.f33 9 [2] [0, 0] (fun _ => [(.int .i64 (pubE k.s)), (.bool false), (.bool false), undef, undef, undef, undef, (.bool false), (.bool false)]) (fun _ => []) (cR [[]] <| cA (fun _ => (.bool false)) (fun _ => congrArg Value.bool hb5) <| cR [[], [], [], [], [], [], []] <| cN) (fun _ => ?_)
            refine ok_ret ?_
            exact mR (v := (.bool false)) (fun _ hS => ⟨congrArg (fun x => Ending.returned (.bool x)) (snd_end5 hb1 hb2 (not_f hb3) hb4 hb5), hS.bel⟩)
end Go.Proofs.YtjdhjkceahaegaaGreatDoor

/-! Numbers that are taken from a list one after the other, in plain words. -/
namespace Go.Proofs.YtjdhjkceahaegaaGreatDoor
open Go

/-- The remainder, from 0 on. -/
def dm (v : Int) (n : Nat) : Nat := (v % (n : Int)).toNat
theorem dm_lt (v : Int) {n : Nat} (hn : 0 < n) : dm v n < n := by
  unfold dm
  have := Int.emod_nonneg v (b := (n : Int)) (by omega)
  have := Int.emod_lt_of_pos v (b := (n : Int)) (by omega)
  omega
/-- The place behind j numbers; the number at a place. -/
def pN (zs : List Int) (j : Nat) : Nat := min j zs.length
def dN (zs : List Int) (j n : Nat) : Nat := if j < zs.length then dm (gI zs j) n else 0
theorem dN_lt (zs : List Int) (j : Nat) {n : Nat} (hn : 0 < n) : dN zs j n < n := by
  unfold dN
  split
  · exact dm_lt _ hn
  · exact hn
theorem pN_le (zs : List Int) (j : Nat) : pN zs j ≤ zs.length := Nat.min_le_right _ _
theorem pN_zero (zs : List Int) : pN zs 0 = 0 := Nat.zero_min _
theorem pN_lt {zs : List Int} {j : Nat} (h : pN zs j < zs.length) : j < zs.length ∧ pN zs j = j := by unfold pN at *; omega
theorem pN_ge {zs : List Int} {j : Nat} (h : ¬ pN zs j < zs.length) : ¬ j < zs.length ∧ pN zs (j + 1) = pN zs j := by unfold pN at *; omega
theorem pN_succ {zs : List Int} {j : Nat} (h : pN zs j < zs.length) : pN zs (j + 1) = pN zs j + 1 := by unfold pN at *; omega
theorem dN_yes {zs : List Int} {j n : Nat} (h : pN zs j < zs.length) : dm (gI zs (pN zs j)) n = dN zs j n := by
  obtain ⟨h1, h2⟩ := pN_lt h
  unfold dN
  rw [if_pos h1, h2]
theorem dN_no {zs : List Int} {j n : Nat} (h : ¬ pN zs j < zs.length) : 0 = dN zs j n := by
  unfold dN
  rw [if_neg (pN_ge h).1]
theorem mod_pos {v : Int} {n : Nat} (h : ¬ Int.tmod v n < 0) : Int.tmod v n = ((dm v n : Nat) : Int) := by
  unfold dm
  rcases Nat.eq_zero_or_pos n with h0 | h0
  · subst h0
    simp at h ⊢
    omega
  · have e := Int.emod_nonneg v (b := (n : Int)) (by omega)
    have e2 := Int.emod_lt_of_pos v (b := (n : Int)) (by omega)
    have h2 := Int.tmod_eq_emod (a := v) (b := (n : Int))
    rw [Int.natAbs_natCast] at h2
    split at h2 <;> omega
theorem mod_neg {v : Int} {n : Nat} (hn : 0 < n) (h : Int.tmod v n < 0) : Int.tmod v n + n = ((dm v n : Nat) : Int) := by
  unfold dm
  have e := Int.emod_nonneg v (b := (n : Int)) (by omega)
  have e2 := Int.emod_lt_of_pos v (b := (n : Int)) (by omega)
  have h2 := Int.tmod_eq_emod (a := v) (b := (n : Int))
  rw [Int.natAbs_natCast] at h2
  split at h2 <;> omega
/-- A digest with a first and a last byte. -/
def hs2 (a b : Nat) : Nat := a * 256 ^ 31 + b
theorem hs2_lt {a b : Nat} (ha : a < 256) (hb : b < 256) : hs2 a b < M := by
  unfold hs2
  rw [M_eq]
  have : a * 256 ^ 31 ≤ 255 * 256 ^ 31 := Nat.mul_le_mul_right _ (by omega)
  omega
theorem hs2_byt {a b : Nat} (ha : a < 256) (hb : b < 256) (i : Nat) (hi : i < 32) : bN (hs2 a b) i = if i = 0 then a else if i = 31 then b else 0 := by
  unfold bN hs2
  by_cases h0 : i = 0
  · subst h0
    rw [if_pos rfl]
    omega
  · rw [if_neg h0]
    by_cases h1 : i = 31
    · subst h1
      rw [if_pos rfl]
      omega
    · rw [if_neg h1]
      obtain ⟨j, hj⟩ : ∃ j, 31 - i = j + 1 := ⟨30 - i, by omega⟩
      have e1 : 256 ^ 31 = 256 ^ (31 - i) * 256 ^ i := by rw [← Nat.pow_add]; congr 1; omega
      have e2 : b / 256 ^ (31 - i) = 0 := Nat.div_eq_of_lt (Nat.lt_of_lt_of_le hb (by rw [hj]; exact Nat.le_self_pow (by omega) 256))
      rw [e1, Nat.mul_comm a, Nat.mul_assoc, Nat.mul_add_div (Nat.pow_pos (by decide)), e2, Nat.add_zero, Nat.mul_comm]
      obtain ⟨q, hq⟩ : ∃ q, i = q + 1 := ⟨i - 1, by omega⟩
      rw [hq, Nat.pow_succ, ← Nat.mul_assoc]
      exact Nat.mul_mod_left _ _
theorem hs2_agg {a b : Nat} (ha : a < 256) (hb : b < 256) : Value.agg #[.int .u8 ((a : Nat) : Int), .int .u8 0, .int .u8 0, .int .u8 0, .int .u8 0, .int .u8 0, .int .u8 0, .int .u8 0, .int .u8 0, .int .u8 0, .int .u8 0, .int .u8 0, .int .u8 0, .int .u8 0, .int .u8 0, .int .u8 0, .int .u8 0, .int .u8 0, .int .u8 0, .int .u8 0, .int .u8 0, .int .u8 0, .int .u8 0, .int .u8 0, .int .u8 0, .int .u8 0, .int .u8 0, .int .u8 0, .int .u8 0, .int .u8 0, .int .u8 0, .int .u8 ((b : Nat) : Int)] = .agg (hB (hs2 a b)) := by
  congr 1
  apply hB_ext rfl
  intro j hj
  rw [byt_bN, hs2_byt ha hb j hj]
  match j, hj with
  | 0, _ => rfl
  | 1, _ => rfl
  | 2, _ => rfl
  | 3, _ => rfl
  | 4, _ => rfl
  | 5, _ => rfl
  | 6, _ => rfl
  | 7, _ => rfl
  | 8, _ => rfl
  | 9, _ => rfl
  | 10, _ => rfl
  | 11, _ => rfl
  | 12, _ => rfl
  | 13, _ => rfl
  | 14, _ => rfl
  | 15, _ => rfl
  | 16, _ => rfl
  | 17, _ => rfl
  | 18, _ => rfl
  | 19, _ => rfl
  | 20, _ => rfl
  | 21, _ => rfl
  | 22, _ => rfl
  | 23, _ => rfl
  | 24, _ => rfl
  | 25, _ => rfl
  | 26, _ => rfl
  | 27, _ => rfl
  | 28, _ => rfl
  | 29, _ => rfl
  | 30, _ => rfl
  | 31, _ => rfl
  | j + 32, h => exact absurd h (by omega)
/-! ### keys that are made -/
def mkX (zs : List Int) (j : Nat) : Nat := 1 + dN zs j 4
def mkK (zs : List Int) (j : Nat) (b : Bool) : Ky := { s := if b = true then mkX zs j else 0, p := pubV (mkX zs j), c := hs2 (dN zs (j + 1) 5) (dN zs (j + 2) 7), d := ((dN zs (j + 3) 3 : Nat) : Int), i := dN zs (j + 4) 5, n := dN zs (j + 5) 5 }
theorem mkX_pos (zs : List Int) (j : Nat) : 1 ≤ mkX zs j ∧ mkX zs j < 5 := by
  have := dN_lt zs j (n := 4) (by decide)
  unfold mkX
  omega
theorem small_lt {x : Nat} (h : x < 256) : x < M := by rw [M_eq]; exact Nat.lt_trans h (by decide)
theorem mkX_lt (zs : List Int) (j : Nat) : mkX zs j < M := small_lt (by have := mkX_pos zs j; omega)
theorem mkX_sec (zs : List Int) (j : Nat) : secB (mkX zs j) = true := by
  have := mkX_pos zs j
  unfold secB
  apply decide_eq_true
  exact ⟨by omega, Nat.lt_trans (show mkX zs j < 5 by omega) (by unfold qP; decide)⟩
theorem mkK_ok (zs : List Int) (j : Nat) (b : Bool) : (mkK zs j b).Ok := by
  have h1 := dN_lt zs (j + 1) (n := 5) (by decide)
  have h2 := dN_lt zs (j + 2) (n := 7) (by decide)
  have h4 := dN_lt zs (j + 4) (n := 5) (by decide)
  have h5 := dN_lt zs (j + 5) (n := 5) (by decide)
  exact ⟨ifM (mkX_lt _ _) zeroM, pubV_lt _, hs2_lt (by omega) (by omega), by show dN zs (j + 4) 5 < _; omega, by show dN zs (j + 5) 5 < _; omega⟩
theorem mkK_snd (zs : List Int) (j : Nat) (b : Bool) : sndB (mkK zs j b) = true := by
  have h3 := dN_lt zs (j + 3) (n := 3) (by decide)
  have hs := mkX_sec zs j
  refine snd_mk (by show 0 ≤ ((dN zs (j + 3) 3 : Nat) : Int); omega) (by show ((dN zs (j + 3) 3 : Nat) : Int) ≤ 8; omega) ?_ ?_
  · show valB (pubV (mkX zs j)) = true
    rw [(pub_yes hs).1]; exact val_pub hs
  · show (if b = true then mkX zs j else 0) = 0 ∨ (secB (if b = true then mkX zs j else 0) = true ∧ pubV (if b = true then mkX zs j else 0) = pubV (mkX zs j))
    cases b
    · exact Or.inl rfl
    · exact Or.inr ⟨hs, rfl⟩
end Go.Proofs.YtjdhjkceahaegaaGreatDoor

/-! Numbers that are taken from a list: the walks' last equations. -/
namespace Go.Proofs.YtjdhjkceahaegaaGreatDoor
open Go Go.RowKit

theorem run_remI {P : Program} {t : TypeId} {v : Int} {n : Nat} (hn : 0 < n) (w : World) : (binOp .rem t (.int .i64 v) (.int .i64 (n : Int))).run P w = .ok (.int .i64 (Int.tmod v (n : Int))) w := by
  simp only [binOp, Op.intDiv, ne_eq, not_true_eq_false, if_false, if_neg (by omega : ¬ (n : Int) = 0)]
  rfl
theorem mod_wrap {v : Int} {n : Nat} (hn : 0 < n ∧ n ≤ 1099511627776) (h : Int.tmod v n < 0) : IntKind.i64.wrap (Int.tmod v (n : Int) + (n : Int)) = ((dm v n : Nat) : Int) := by
  have h1 := mod_neg hn.1 h
  have h2 := dm_lt v hn.1
  rw [h1]
  exact i64N (by omega)
/-- Integers of 64 bits. -/
def Z64 (zs : List Int) : Prop := ∀ z ∈ zs, -9223372036854775808 ≤ z ∧ z < 9223372036854775808
theorem Z64.get {zs : List Int} (h : Z64 zs) (i : Nat) : -9223372036854775808 ≤ gI zs i ∧ gI zs i < 9223372036854775808 := by
  unfold gI
  by_cases hi : i < zs.length
  · rw [List.getD_eq_getElem?_getD, List.getElem?_eq_getElem hi]
    exact h _ (List.getElem_mem hi)
  · rw [List.getD_eq_getElem?_getD, List.getElem?_eq_none (by omega)]
    decide
theorem pN_wrap {zs : List Int} {j : Nat} (hl : zs.length ≤ 140737488351232) (h : ((pN zs j : Nat) : Int) < ((zs.length : Nat) : Int)) : IntKind.i64.wrap (((pN zs j : Nat) : Int) + 1) = ((pN zs (j + 1) : Nat) : Int) := by
  have h1 := pN_succ (zs := zs) (j := j) (by omega)
  rw [h1, i64N (by omega)]
  omega
theorem pN_back {zs : List Int} {j : Nat} (hl : zs.length ≤ 140737488351232) (h : ((pN zs j : Nat) : Int) < ((zs.length : Nat) : Int)) : IntKind.i64.wrap (((pN zs (j + 1) : Nat) : Int) - 1) = ((pN zs j : Nat) : Int) := by
  have h1 := pN_succ (zs := zs) (j := j) (by omega)
  rw [h1, i64N (by omega)]
  omega
theorem snd4 : sndB (Ky.mk 0 4 0 0 0 0) = true := by
  refine snd_mk (by decide) (by decide) ?_ (Or.inl rfl)
  show valB 4 = true
  rw [← sane_pub, (pub_yes sane_sec).1]; exact val_pub sane_sec
end Go.Proofs.YtjdhjkceahaegaaGreatDoor

/-! Numbers that are taken from a list, and what is made of them: the walks. -/
namespace Go.Proofs.YtjdhjkceahaegaaGreatDoor
open Go Go.RowKit

theorem mod_any (v : Int) (n : Nat) (hn : 0 < n ∧ n ≤ 1099511627776) (__hv : -9223372036854775808 ≤ v ∧ v < 9223372036854775808) (w0 : World) : Calls Tryz.prog 17 #[(.int .i64 v), (.int .i64 ((n : Nat) : Int))] w0 (fun ε w' => ε = .returned (.int .i64 ((dm v n : Nat) : Int)) ∧ Below w0.heap.size w0 w') := by
  refine Calls.of_ok (n := 15) (F := (fun _ => True)) Tryz.func17 rfl rfl rfl (by simp) (persTrue (fun _ => trivial)) ?_
  refine sS Tryz.f17 1 [0, 1, 4] [] (fun _ => [(.int .i64 0)]) (fun _ => []) (cR [[]] <| cN) (fun _ => ?_)
  refine sS Tryz.f17 4 [1, 4, 5] [] (fun _ => [(.int .i64 v), (.int .i64 ((n : Nat) : Int)), (.int .i64 (Int.tmod v ((n : Nat) : Int))), (.int .i64 (Int.tmod v ((n : Nat) : Int)))]) (fun _ => []) (cR [[], []] <| cB (a := fun ρ => (.int .i64 v)) (b := fun ρ => (.int .i64 ((n : Nat) : Int))) (v := fun ρ => (.int .i64 (Int.tmod v ((n : Nat) : Int)))) .rem 3 (fun _ w => run_remI hn.1 w) <| cR [[]] <| cN) (fun _ => ?_)
  refine ok_seq ?_
  refine sS Tryz.f17 2 [1, 4, 5, 10] [] (fun _ => [(.int .i64 (Int.tmod v ((n : Nat) : Int))), (.bool (decide ((Int.tmod v ((n : Nat) : Int)) < 0)))]) (fun _ => []) (cR [[], []] <| cN) (fun _ => ?_)
  refine oC (decide ((Int.tmod v ((n : Nat) : Int)) < 0)) (fun hb1 => ?_) (fun hb1 => ?_)
  ·
    rw [hb1]
    refine rS Tryz.f17 4 [4, 5] [] (fun _ => [(.int .i64 (Int.tmod v ((n : Nat) : Int))), (.int .i64 ((n : Nat) : Int)), (.int .i64 ((dm v n : Nat) : Int)), (.int .i64 ((dm v n : Nat) : Int))]) (fun _ => []) (cR [[], []] <| cA (fun _ => (.int .i64 ((dm v n : Nat) : Int))) (fun _ => congrArg (Value.int .i64) (mod_wrap hn (of_decide_eq_true hb1))) <| cR [[]] <| cN) (fun _ => ?_)
    refine mt_then ?_
    refine sS Tryz.f17 2 [4] [] (fun _ => [(.int .i64 ((dm v n : Nat) : Int)), (.int .i64 ((dm v n : Nat) : Int))]) (fun _ => []) (cR [[], []] <| cN) (fun _ => ?_)
    refine ok_ret ?_
    exact mR (v := (.int .i64 ((dm v n : Nat) : Int))) (fun _ hS => ⟨rfl, hS.bel⟩)
  ·
    rw [hb1]
    refine ok_skip ?_
    refine mt_then ?_
    refine sS Tryz.f17 2 [4] [] (fun _ => [(.int .i64 (Int.tmod v ((n : Nat) : Int))), (.int .i64 (Int.tmod v ((n : Nat) : Int)))]) (fun _ => []) (cR [[], []] <| cN) (fun _ => ?_)
    refine ok_ret ?_
    exact mR (v := (.int .i64 (Int.tmod v ((n : Nat) : Int)))) (fun _ hS => ⟨congrArg (fun x => Ending.returned (.int .i64 x)) (mod_pos (of_decide_eq_false hb1)), hS.bel⟩)

theorem left_any (g : Nat) (a : Option Addr) (c : Nat) (zs : List Int) (j : Nat) (w0 : World) (hf0 : Kb w0 g #[(.slice a (zs).length c), (.int .i64 ((pN zs j : Nat) : Int))]) : Calls Tryz.prog 25 #[(pt g)] w0 (fun ε w' => ε = .returned (.bool (decide (((pN zs j : Nat) : Int) < (((zs).length : Nat) : Int)))) ∧ Below w0.heap.size w0 w') := by
  refine Calls.of_ok (n := 13) (F := (fun w => Kb w g #[(.slice a (zs).length c), (.int .i64 ((pN zs j : Nat) : Int))] ∧ True)) Tryz.func25 rfl rfl rfl (by simp) (hf0.pers0.and persT) ?_
  refine sS Tryz.f25 1 [0, 2] [] (fun _ => [(.bool false)]) (fun _ => []) (cR [[]] <| cN) (fun _ => ?_)
  refine sD Tryz.f25 [0, 1, 3, 7, 0, 16, 48, 112, 240, 511, 1023] 11 [2] [] (fun _ => [(pt g), (pt g), (.pointer (some ⟨g, 1, none⟩)), (.int .i64 ((pN zs j : Nat) : Int)), (pt g), (pt g), (pt g), (.slice a (zs).length c), (.int .i64 (((zs).length : Nat) : Int)), (.bool (decide (((pN zs j : Nat) : Int) < (((zs).length : Nat) : Int)))), (.bool (decide (((pN zs j : Nat) : Int) < (((zs).length : Nat) : Int))))]) (fun _ => []) (cR [[], [], []] <| cX (o_semF _ (fun _ => do pure (Next.value (← Instr.loadAt 3 (.pointer (some ⟨g, 1, none⟩))))) (fun _ => (.int .i64 ((pN zs j : Nat) : Int))) (fun _ => (by kernel_rfl)) (fun _ => (by kernel_rfl)) (fun _ _ _ hG => ld_blk Tryz.isAgg3 (hG.facts0.now.1) (rfl)) (fun _ _ _ _ => persT)) <| cR [[], [], []] <| cX (o_semF _ (fun _ => do pure (Next.value (← Instr.loadAt 22 (pt g)))) (fun _ => (.slice a (zs).length c)) (fun _ => (by kernel_rfl)) (fun _ => (by kernel_rfl)) (fun _ _ _ hG => ld_blk Tryz.isAgg22 (hG.facts0.now.1) (rfl)) (fun _ _ _ _ => persT)) <| cR [[], [], []] <| cN) (fun _ => ?_)
  refine ok_ret ?_
  exact mR (v := (.bool (decide (((pN zs j : Nat) : Int) < (((zs).length : Nat) : Int))))) (fun _ hS => ⟨rfl, hS.bel⟩)

theorem next_any (g : Nat) (a : Option Addr) (c : Nat) (zs : List Int) (j : Nat) (n : Nat) (hn : 0 < n ∧ n ≤ 1099511627776) (hz : Z64 zs) (w0 : World) (hK : Knows [(g, (.cells #[(.slice a (zs).length c), (.int .i64 ((pN zs j : Nat) : Int))] 53 (0, 0)))] w0) (hP : Pers (fun b => b ∈ ([(g, (.cells #[(.slice a (zs).length c), (.int .i64 ((pN zs j : Nat) : Int))] 53 (0, 0)))] : List (Nat × Obj)).map (·.1)) (fun w => Is w .i64 a c zs ∧ True) w0) : Calls Tryz.prog 9 #[(pt g), (.int .i64 ((n : Nat) : Int))] w0 (fun ε w' => ε = .returned (.int .i64 ((dN zs j n : Nat) : Int)) ∧ Upd (fun b => b ∈ ([(g, (.cells #[(.slice a (zs).length c), (.int .i64 ((pN zs j : Nat) : Int))] 53 (0, 0)))] : List (Nat × Obj)).map (·.1)) w0 w' ∧ Knows [(g, (.cells #[(.slice a (zs).length c), (.int .i64 ((pN zs (j + 1) : Nat) : Int))] 53 (0, 0)))] w') := by
  refine Calls.of_okW (n := 28) (F := (fun w => Is w .i64 a c zs ∧ True)) [(g, (.cells #[(.slice a (zs).length c), (.int .i64 ((pN zs j : Nat) : Int))] 53 (0, 0)))] Tryz.func9 rfl rfl rfl (by simp) hK (by simp) hP ?_
  have hlen : zs.length ≤ 140737488351232 := hP.now.1.max
  refine sS Tryz.f9 1 [0, 1, 4] [] (fun _ => [(.int .i64 0)]) (fun _ => []) (cR [[]] <| cN) (fun _ => ?_)
  refine ok_seq ?_
  refine sS Tryz.f9 3 [0, 1, 4, 7] [] (fun _ => [(pt g), (.bool (decide (((pN zs j : Nat) : Int) < (((zs).length : Nat) : Int)))), (.bool (!(decide (((pN zs j : Nat) : Int) < (((zs).length : Nat) : Int)))))]) (fun _ => []) (cR [[]] <| cX (o_callP _ 25 (fun _ => #[(pt g)]) (fun _ => (.bool (decide (((pN zs j : Nat) : Int) < (((zs).length : Nat) : Int))))) (fun _ _ => (by kernel_rfl)) (fun _ => (by kernel_rfl)) (fun _ _ => (by kernel_rfl)) (fun _ _ => trivial) (fun _ _ w hG => left_any g a c zs j w (Kb.of_block (hG.known (g := g) (o := (.cells #[(.slice a (zs).length c), (.int .i64 ((pN zs j : Nat) : Int))] 53 (0, 0))) 0 (by kernel_rfl) (by kernel_rfl))))) <| cR [[]] <| cN) (fun _ => ?_)
  refine oC (!(decide (((pN zs j : Nat) : Int) < (((zs).length : Nat) : Int)))) (fun hb1 => ?_) (fun hb1 => ?_)
  ·
    rw [hb1]
    refine sS Tryz.f9 1 [0, 1, 4] [] (fun _ => [(.int .i64 0)]) (fun _ => []) (cR [[]] <| cN) (fun _ => ?_)
    refine ok_ret ?_
    refine mt_then_r ?_
    exact mR (v := (.int .i64 0)) (fun _ hS => ⟨congrArg (fun x => Ending.returned (.int .i64 x)) (congrArg (fun z : Nat => (z : Int)) (dN_no (fun h => absurd (Int.ofNat_lt.2 h) (of_decide_eq_false (not_t hb1))))), hS.below, (by rw [(pN_ge (fun h => absurd (Int.ofNat_lt.2 h) (of_decide_eq_false (not_t hb1)))).2]; exact hS.knows [1])⟩)
  ·
    rw [hb1]
    refine ok_skip ?_
    refine mt_then ?_
    refine sS Tryz.f9 8 [0, 1, 4] [] (fun _ => [(pt g), (pt g), (.pointer (some ⟨g, 1, none⟩)), (.int .i64 ((pN zs j : Nat) : Int)), (.int .i64 ((pN zs (j + 1) : Nat) : Int)), (pt g), (.pointer (some ⟨g, 1, none⟩)), undef]) (fun _ => [(7, { puts := [(0, g, (.cells #[(.slice a (zs).length c), (.int .i64 ((pN zs (j + 1) : Nat) : Int))] 53 (0, 0)))] })]) (cR [[], [], [], [0]] <| cA (fun _ => (.int .i64 ((pN zs (j + 1) : Nat) : Int))) (fun _ => congrArg (Value.int .i64) (pN_wrap hlen (of_decide_eq_true (not_f hb1)))) <| cR [[], [], [0]] <| cN) (fun _ => ?_)
    refine sD Tryz.f9 [0, 1, 3, 7, 0, 16, 48, 112, 240, 511, 1023, 0, 4095, 8191] 14 [4] [] (fun _ => [(pt g), (pt g), (pt g), (.slice a (zs).length c), (pt g), (pt g), (.pointer (some ⟨g, 1, none⟩)), (.int .i64 ((pN zs (j + 1) : Nat) : Int)), (.int .i64 ((pN zs j : Nat) : Int)), (.pointer (adr a (pN zs j))), (.int .i64 (gI zs (pN zs j))), (.int .i64 ((n : Nat) : Int)), (.int .i64 ((dm (gI zs (pN zs j)) n : Nat) : Int)), (.int .i64 ((dm (gI zs (pN zs j)) n : Nat) : Int))]) (fun _ => []) (cR [[], [], [], [0], [], [], [], [0]] <| cA (fun _ => (.int .i64 ((pN zs j : Nat) : Int))) (fun _ => congrArg (Value.int .i64) (pN_back hlen (of_decide_eq_true (not_f hb1)))) <| cX (o_semF _ (fun _ => do pure (Next.value (← Instr.indexAt 22 (.slice a (zs).length c) (.int .i64 ((pN zs j : Nat) : Int))))) (fun _ => (.pointer (adr a (pN zs j)))) (fun _ => (by kernel_rfl)) (fun _ => (by kernel_rfl)) (fun _ _ _ hG => idx_ints Tryz.underlying22 Tryz.sizeOf3 hG.facts0.now.1 rfl ((show ((pN zs j : Nat) : Int) = ((pN zs j : Nat) : Int) ∧ pN zs j < (zs).length from ⟨rfl, (Int.ofNat_lt.1 (of_decide_eq_true (not_f hb1)))⟩)).1 ((show ((pN zs j : Nat) : Int) = ((pN zs j : Nat) : Int) ∧ pN zs j < (zs).length from ⟨rfl, (Int.ofNat_lt.1 (of_decide_eq_true (not_f hb1)))⟩)).2) (fun _ _ _ _ => persT)) <| cX (o_semF _ (fun _ => do pure (Next.value (← Instr.loadAt 3 (.pointer (adr a (pN zs j)))))) (fun _ => (.int .i64 (gI zs (pN zs j)))) (fun _ => (by kernel_rfl)) (fun _ => (by kernel_rfl)) (fun _ _ _ hG => (ld_ints Tryz.isAgg3 hG.facts0.now.1 ((show ((pN zs j : Nat) : Int) = ((pN zs j : Nat) : Int) ∧ pN zs j < (zs).length from ⟨rfl, (Int.ofNat_lt.1 (of_decide_eq_true (not_f hb1)))⟩)).2)) (fun _ _ _ _ => persT)) <| cR [[]] <| cC (f := 17) (args := fun ρ => #[(.int .i64 (gI zs (pN zs j))), (.int .i64 ((n : Nat) : Int))]) (v := fun ρ => (.int .i64 ((dm (gI zs (pN zs j)) n : Nat) : Int))) (fun _ w => (fun w => mod_any (gI zs (pN zs j)) n hn (hz.get _) w) w) <| cR [[]] <| cN) (fun _ => ?_)
    refine ok_ret ?_
    exact mR (v := (.int .i64 ((dm (gI zs (pN zs j)) n : Nat) : Int))) (fun _ hS => ⟨congrArg (fun x => Ending.returned (.int .i64 x)) (congrArg (fun z : Nat => (z : Int)) (dN_yes (Int.ofNat_lt.1 (of_decide_eq_true (not_f hb1))))), hS.below, hS.knows [1]⟩)

theorem range_any (g : Nat) (a : Option Addr) (c : Nat) (zs : List Int) (j : Nat) (lo : Nat) (hi : Nat) (hlh : lo ≤ hi ∧ hi ≤ 1000000) (hz : Z64 zs) (w0 : World) (hK : Knows [(g, (.cells #[(.slice a (zs).length c), (.int .i64 ((pN zs j : Nat) : Int))] 53 (0, 0)))] w0) (hP : Pers (fun b => b ∈ ([(g, (.cells #[(.slice a (zs).length c), (.int .i64 ((pN zs j : Nat) : Int))] 53 (0, 0)))] : List (Nat × Obj)).map (·.1)) (fun w => Is w .i64 a c zs ∧ True) w0) : Calls Tryz.prog 51 #[(pt g), (.int .i64 ((lo : Nat) : Int)), (.int .i64 ((hi : Nat) : Int))] w0 (fun ε w' => ε = .returned (.int .i64 ((lo + dN zs j (hi - lo + 1) : Nat) : Int)) ∧ Upd (fun b => b ∈ ([(g, (.cells #[(.slice a (zs).length c), (.int .i64 ((pN zs j : Nat) : Int))] 53 (0, 0)))] : List (Nat × Obj)).map (·.1)) w0 w' ∧ Knows [(g, (.cells #[(.slice a (zs).length c), (.int .i64 ((pN zs (j + 1) : Nat) : Int))] 53 (0, 0)))] w') := by
  refine Calls.of_okW (n := 15) (F := (fun w => Is w .i64 a c zs ∧ True)) [(g, (.cells #[(.slice a (zs).length c), (.int .i64 ((pN zs j : Nat) : Int))] 53 (0, 0)))] Tryz.func51 rfl rfl rfl (by simp) hK (by simp) hP ?_
  refine sS Tryz.f51 1 [0, 1, 2, 6] [] (fun _ => [(.int .i64 0)]) (fun _ => []) (cR [[]] <| cN) (fun _ => ?_)
  refine sS Tryz.f51 9 [6] [] (fun _ => [(.int .i64 ((lo : Nat) : Int)), (pt g), (.int .i64 ((hi : Nat) : Int)), (.int .i64 ((lo : Nat) : Int)), (.int .i64 ((hi - lo : Nat) : Int)), (.int .i64 ((hi - lo + 1 : Nat) : Int)), (.int .i64 ((dN zs j (hi - lo + 1) : Nat) : Int)), (.int .i64 ((lo + dN zs j (hi - lo + 1) : Nat) : Int)), (.int .i64 ((lo + dN zs j (hi - lo + 1) : Nat) : Int))]) (fun _ => [(6, { puts := [(0, g, (.cells #[(.slice a (zs).length c), (.int .i64 ((pN zs (j + 1) : Nat) : Int))] 53 (0, 0)))] })]) (cR [[], [], [], []] <| cA (v := fun ρ => (.int .i64 (IntKind.i64.wrap (((hi : Nat) : Int) - ((lo : Nat) : Int))))) (fun _ => (.int .i64 ((hi - lo : Nat) : Int))) (fun _ => congrArg (Value.int .i64) ((i64N (by have := hlh; omega)).trans (by have := hlh; omega))) <| cA (v := fun ρ => (.int .i64 (IntKind.i64.wrap (((hi - lo : Nat) : Int) + 1)))) (fun _ => (.int .i64 ((hi - lo + 1 : Nat) : Int))) (fun _ => congrArg (Value.int .i64) ((i64N (by have := hlh; omega)).trans (by omega))) <| cX (o_callW _ [0] 9 (fun _ => #[(pt g), (.int .i64 ((hi - lo + 1 : Nat) : Int))]) (fun _ => (.int .i64 ((dN zs j (hi - lo + 1) : Nat) : Int))) (fun _ => [(g, (.cells #[(.slice a (zs).length c), (.int .i64 ((pN zs j : Nat) : Int))] 53 (0, 0)))]) (fun _ => [(g, (.cells #[(.slice a (zs).length c), (.int .i64 ((pN zs (j + 1) : Nat) : Int))] 53 (0, 0)))]) (fun _ _ w hG hK => next_any g a c zs j (hi - lo + 1) (by have := hlh; omega) hz w hK (hG.persK [0] (by kernel_rfl) (by kernel_rfl) (fun _ hF => ⟨hF.1, trivial⟩)) )) <| cA (v := fun ρ => (.int .i64 (IntKind.i64.wrap (((lo : Nat) : Int) + ((dN zs j (hi - lo + 1) : Nat) : Int))))) (fun _ => (.int .i64 ((lo + dN zs j (hi - lo + 1) : Nat) : Int))) (fun _ => congrArg (Value.int .i64) ((i64N (by have := hlh; have := dN_lt zs j (n := hi - lo + 1) (by omega); omega)).trans (by omega))) <| cR [[]] <| cN) (fun _ => ?_)
  refine ok_ret ?_
  exact mR (v := (.int .i64 ((lo + dN zs j (hi - lo + 1) : Nat) : Int))) (fun _ hS => ⟨rfl, hS.below, hS.knows [1]⟩)

theorem msecret_any (g : Nat) (a : Option Addr) (c : Nat) (zs : List Int) (j : Nat) (hz : Z64 zs) (w0 : World) (hK : Knows [(g, (.cells #[(.slice a (zs).length c), (.int .i64 ((pN zs j : Nat) : Int))] 53 (0, 0)))] w0) (hP : Pers (fun b => b ∈ ([(g, (.cells #[(.slice a (zs).length c), (.int .i64 ((pN zs j : Nat) : Int))] 53 (0, 0)))] : List (Nat × Obj)).map (·.1)) (fun w => Is w .i64 a c zs ∧ True) w0) : Calls Tryz.prog 22 #[(pt g)] w0 (fun ε w' => ε = .returned (U (mkX zs j)) ∧ Upd (fun b => b ∈ ([(g, (.cells #[(.slice a (zs).length c), (.int .i64 ((pN zs j : Nat) : Int))] 53 (0, 0)))] : List (Nat × Obj)).map (·.1)) w0 w' ∧ Knows [(g, (.cells #[(.slice a (zs).length c), (.int .i64 ((pN zs (j + 1) : Nat) : Int))] 53 (0, 0)))] w') := by
  refine Calls.of_okW (n := 7) (F := (fun w => Is w .i64 a c zs ∧ True)) [(g, (.cells #[(.slice a (zs).length c), (.int .i64 ((pN zs j : Nat) : Int))] 53 (0, 0)))] Tryz.func22 rfl rfl rfl (by simp) hK (by simp) hP ?_
  refine sS Tryz.f22 1 [0, 2] [] (fun ρ => [(pt (nb ρ 0))]) (fun ρ => [(0, { news := [(nb ρ 0, (.cells (cU 0) 29 (0, 0)))] })]) (cR [[]] <| cN) (fun ρ1 => ?_)
  refine sS Tryz.f22 5 [2] [] (fun _ => [(pt g), (.int .i64 ((1 + dN zs j 4 : Nat) : Int)), (.int .u64 ((1 + dN zs j 4 : Nat) : Int)), (U (1 + dN zs j 4)), undef]) (fun _ => [(1, { puts := [(0, g, (.cells #[(.slice a (zs).length c), (.int .i64 ((pN zs (j + 1) : Nat) : Int))] 53 (0, 0)))] }), (4, { puts := [(1, nb ρ1 0, (.cells (cU (1 + dN zs j 4)) 29 (0, 0)))] })]) (cR [[]] <| cX (o_callW _ [0] 51 (fun _ => #[(pt g), (.int .i64 1), (.int .i64 4)]) (fun _ => (.int .i64 ((1 + dN zs j 4 : Nat) : Int))) (fun _ => [(g, (.cells #[(.slice a (zs).length c), (.int .i64 ((pN zs j : Nat) : Int))] 53 (0, 0)))]) (fun _ => [(g, (.cells #[(.slice a (zs).length c), (.int .i64 ((pN zs (j + 1) : Nat) : Int))] 53 (0, 0)))]) (fun _ _ w hG hK => range_any g a c zs j 1 4 (by decide) hz w hK (hG.persK [0] (by kernel_rfl) (by kernel_rfl) (fun _ hF => ⟨hF.1, trivial⟩)) )) <| cA (v := fun ρ => (.int .u64 (IntKind.u64.wrap (((1 + dN zs j 4 : Nat) : Int))))) (fun _ => (.int .u64 ((1 + dN zs j 4 : Nat) : Int))) (fun _ => congrArg (Value.int .u64) (u64N (by have h := mkX_pos zs j; unfold mkX at h; omega))) <| cC (fun _ w => rfromuint_lit (1 + dN zs j 4) w (by have h := mkX_pos zs j; unfold mkX at h; omega)) <| cR [[1]] <| cN) (fun _ => ?_)
  refine ok_ret ?_
  exact mR (v := (U (1 + dN zs j 4))) (ps := [1,1,1,1]) (fun _ hS => ⟨rfl, hS.below, hS.knows [1, 0]⟩)

theorem mpublic_any (x : Nat) (hx : x < M) (w0 : World) : Calls Tryz.prog 23 #[(U x)] w0 (fun ε w' => ε = .returned (U (pubV x)) ∧ Below w0.heap.size w0 w') := by
  refine Calls.of_ok (n := 11) (F := (fun _ => True)) Tryz.func23 rfl rfl rfl (by simp) (persTrue (fun _ => trivial)) ?_
  refine sS Tryz.f23 2 [1, 2] [] (fun ρ => [(pt (nb ρ 0)), (pt (nb ρ 1))]) (fun ρ => [(0, { news := [(nb ρ 0, (.cells (cU x) 29 (0, 0)))] }), (1, { news := [(nb ρ 1, (.cells (cU 0) 29 (0, 0)))] })]) (cR [[], []] <| cN) (fun ρ1 => ?_)
  refine sS Tryz.f23 8 [2, 3] [0, 1, 1] (fun ρ => [(U x), (.tuple #[(U (pubV x)), (.int .i64 (pubE x))]), (.tuple #[(U (pubV x)), (.int .i64 (pubE x))]), (U (pubV x)), (.int .i64 (pubE x)), (pt (nb ρ 5)), undef, (.int .i64 (pubE x))]) (fun ρ => [(5, { news := [(nb ρ 5, (.cells (cU 0) 29 (0, 0)))] }), (6, { puts := [(42, nb ρ 5, (.cells (cU (pubV x)) 29 (0, 0)))] })]) (cR [[0]] <| cC (fun _ w => rpublic_any x hx w) <| cR [[], [], [], [], [42], []] <| cN) (fun _ => ?_)
  refine sS Tryz.f23 2 [2] [1, 0] (fun _ => [(U (pubV x)), undef]) (fun _ => [(1, { puts := [(0, nb ρ1 1, (.cells (cU (pubV x)) 29 (0, 0)))] })]) (cR [[1], [0]] <| cN) (fun _ => ?_)
  refine ok_ret ?_
  exact mR (v := (U (pubV x))) (fun _ hS => ⟨rfl, hS.bel⟩)

theorem mhash_any (g : Nat) (a : Option Addr) (c : Nat) (zs : List Int) (j : Nat) (hz : Z64 zs) (w0 : World) (hK : Knows [(g, (.cells #[(.slice a (zs).length c), (.int .i64 ((pN zs j : Nat) : Int))] 53 (0, 0)))] w0) (hP : Pers (fun b => b ∈ ([(g, (.cells #[(.slice a (zs).length c), (.int .i64 ((pN zs j : Nat) : Int))] 53 (0, 0)))] : List (Nat × Obj)).map (·.1)) (fun w => Is w .i64 a c zs ∧ True) w0) : Calls Tryz.prog 24 #[(pt g)] w0 (fun ε w' => ε = .returned (.agg (hB (hs2 (dN zs j 5) (dN zs (j + 1) 7)))) ∧ Upd (fun b => b ∈ ([(g, (.cells #[(.slice a (zs).length c), (.int .i64 ((pN zs j : Nat) : Int))] 53 (0, 0)))] : List (Nat × Obj)).map (·.1)) w0 w' ∧ Knows [(g, (.cells #[(.slice a (zs).length c), (.int .i64 ((pN zs (j + 2) : Nat) : Int))] 53 (0, 0)))] w') := by
  refine Calls.of_okW (n := 10) (F := (fun w => Is w .i64 a c zs ∧ True)) [(g, (.cells #[(.slice a (zs).length c), (.int .i64 ((pN zs j : Nat) : Int))] 53 (0, 0)))] Tryz.func24 rfl rfl rfl (by simp) hK (by simp) hP ?_
  refine sS Tryz.f24 1 [0, 2] [] (fun ρ => [(pt (nb ρ 0))]) (fun ρ => [(0, { news := [(nb ρ 0, (.cells (hB 0) 31 (0, 0)))] })]) (cR [[]] <| cN) (fun ρ1 => ?_)
  refine sS Tryz.f24 8 [2] [] (fun _ => [(pt g), (.int .i64 ((dN zs j 5 : Nat) : Int)), (.int .u8 ((dN zs j 5 : Nat) : Int)), (pt g), (.int .i64 ((dN zs (j + 1) 7 : Nat) : Int)), (.int .u8 ((dN zs (j + 1) 7 : Nat) : Int)), (.agg (hB (hs2 (dN zs j 5) (dN zs (j + 1) 7)))), undef]) (fun _ => [(1, { puts := [(0, g, (.cells #[(.slice a (zs).length c), (.int .i64 ((pN zs (j + 1) : Nat) : Int))] 53 (0, 0)))] }), (4, { puts := [(0, g, (.cells #[(.slice a (zs).length c), (.int .i64 ((pN zs (j + 2) : Nat) : Int))] 53 (0, 0)))] }), (7, { puts := [(1, nb ρ1 0, (.cells (hB (hs2 (dN zs j 5) (dN zs (j + 1) 7))) 31 (0, 0)))] })]) (cR [[]] <| cX (o_callW _ [0] 9 (fun _ => #[(pt g), (.int .i64 5)]) (fun _ => (.int .i64 ((dN zs j 5 : Nat) : Int))) (fun _ => [(g, (.cells #[(.slice a (zs).length c), (.int .i64 ((pN zs j : Nat) : Int))] 53 (0, 0)))]) (fun _ => [(g, (.cells #[(.slice a (zs).length c), (.int .i64 ((pN zs (j + 1) : Nat) : Int))] 53 (0, 0)))]) (fun _ _ w hG hK => next_any g a c zs j 5 (by decide) hz w hK (hG.persK [0] (by kernel_rfl) (by kernel_rfl) (fun _ hF => ⟨hF.1, trivial⟩)) )) <| cA (v := fun ρ => (.int .u8 (IntKind.u8.wrap (((dN zs j 5 : Nat) : Int))))) (fun _ => (.int .u8 ((dN zs j 5 : Nat) : Int))) (fun _ => congrArg (Value.int .u8) (u8N (Nat.lt_of_lt_of_le (dN_lt zs j (by decide)) (by decide)))) <| cR [[]] <| cX (o_callW _ [0] 9 (fun _ => #[(pt g), (.int .i64 7)]) (fun _ => (.int .i64 ((dN zs (j + 1) 7 : Nat) : Int))) (fun _ => [(g, (.cells #[(.slice a (zs).length c), (.int .i64 ((pN zs (j + 1) : Nat) : Int))] 53 (0, 0)))]) (fun _ => [(g, (.cells #[(.slice a (zs).length c), (.int .i64 ((pN zs (j + 2) : Nat) : Int))] 53 (0, 0)))]) (fun _ _ w hG hK => next_any g a c zs (j + 1) 7 (by decide) hz w hK (hG.persK [0] (by kernel_rfl) (by kernel_rfl) (fun _ hF => ⟨hF.1, trivial⟩)) )) <| cA (v := fun ρ => (.int .u8 (IntKind.u8.wrap (((dN zs (j + 1) 7 : Nat) : Int))))) (fun _ => (.int .u8 ((dN zs (j + 1) 7 : Nat) : Int))) (fun _ => congrArg (Value.int .u8) (u8N (Nat.lt_of_lt_of_le (dN_lt zs (j + 1) (by decide)) (by decide)))) <| cA (v := fun ρ => (.agg #[(.int .u8 ((dN zs j 5 : Nat) : Int)), (.int .u8 0), (.int .u8 0), (.int .u8 0), (.int .u8 0), (.int .u8 0), (.int .u8 0), (.int .u8 0), (.int .u8 0), (.int .u8 0), (.int .u8 0), (.int .u8 0), (.int .u8 0), (.int .u8 0), (.int .u8 0), (.int .u8 0), (.int .u8 0), (.int .u8 0), (.int .u8 0), (.int .u8 0), (.int .u8 0), (.int .u8 0), (.int .u8 0), (.int .u8 0), (.int .u8 0), (.int .u8 0), (.int .u8 0), (.int .u8 0), (.int .u8 0), (.int .u8 0), (.int .u8 0), (.int .u8 ((dN zs (j + 1) 7 : Nat) : Int))])) (fun _ => (.agg (hB (hs2 (dN zs j 5) (dN zs (j + 1) 7))))) (fun _ => hs2_agg (Nat.lt_of_lt_of_le (dN_lt zs j (by decide)) (by decide)) (Nat.lt_of_lt_of_le (dN_lt zs (j + 1) (by decide)) (by decide))) <| cR [[1]] <| cN) (fun _ => ?_)
  refine ok_ret ?_
  exact mR (v := (.agg (hB (hs2 (dN zs j 5) (dN zs (j + 1) 7))))) (ps := [1,1,1,1,1,1,1,1,1,1,1,1,1,1,1,1,1,1,1,1,1,1,1,1,1,1,1,1,1,1,1,1]) (fun _ hS => ⟨rfl, hS.below, hS.knows [1, 0]⟩)

theorem mkey_any (g : Nat) (a : Option Addr) (c : Nat) (zs : List Int) (j : Nat) (pv : Bool) (hz : Z64 zs) (w0 : World) (hK : Knows [(g, (.cells #[(.slice a (zs).length c), (.int .i64 ((pN zs j : Nat) : Int))] 53 (0, 0)))] w0) (hP : Pers (fun b => b ∈ ([(g, (.cells #[(.slice a (zs).length c), (.int .i64 ((pN zs j : Nat) : Int))] 53 (0, 0)))] : List (Nat × Obj)).map (·.1)) (fun w => Is w .i64 a c zs ∧ True) w0) : Calls Tryz.prog 8 #[(pt g), (.bool pv)] w0 (fun ε w' => ε = .returned (.agg (kC ((mkK zs j pv).s) ((mkK zs j pv).p) ((mkK zs j pv).c) ((mkK zs j pv).d) (((mkK zs j pv).i : Nat) : Int) (((mkK zs j pv).n : Nat) : Int))) ∧ Upd (fun b => b ∈ ([(g, (.cells #[(.slice a (zs).length c), (.int .i64 ((pN zs j : Nat) : Int))] 53 (0, 0)))] : List (Nat × Obj)).map (·.1)) w0 w' ∧ Knows [(g, (.cells #[(.slice a (zs).length c), (.int .i64 ((pN zs (j + 6) : Nat) : Int))] 53 (0, 0)))] w') := by
  refine Calls.of_okW (n := 26) (F := (fun w => Is w .i64 a c zs ∧ True)) [(g, (.cells #[(.slice a (zs).length c), (.int .i64 ((pN zs j : Nat) : Int))] 53 (0, 0)))] Tryz.func8 rfl rfl rfl (by simp) hK (by simp) hP ?_
  refine sS Tryz.f8 1 [0, 1, 4] [] (fun ρ => [(pt (nb ρ 0))]) (fun ρ => [(0, { news := [(nb ρ 0, (.cells (kC 0 0 0 0 0 0) 33 (0, 0)))] })]) (cR [[]] <| cN) (fun ρ1 => ?_)
  refine sS Tryz.f8 4 [0, 1, 4, 5] [] (fun ρ => [(pt g), (U (mkX zs j)), (pt (nb ρ 2)), undef]) (fun ρ => [(1, { puts := [(0, g, (.cells #[(.slice a (zs).length c), (.int .i64 ((pN zs (j + 1) : Nat) : Int))] 53 (0, 0)))] }), (2, { news := [(nb ρ 2, (.cells (cU 0) 29 (0, 0)))] }), (3, { puts := [(18, nb ρ 2, (.cells (cU (mkX zs j)) 29 (0, 0)))] })]) (cR [[]] <| cX (o_callW _ [0] 22 (fun _ => #[(pt g)]) (fun _ => (U (mkX zs j))) (fun _ => [(g, (.cells #[(.slice a (zs).length c), (.int .i64 ((pN zs j : Nat) : Int))] 53 (0, 0)))]) (fun _ => [(g, (.cells #[(.slice a (zs).length c), (.int .i64 ((pN zs (j + 1) : Nat) : Int))] 53 (0, 0)))]) (fun _ _ w hG hK => msecret_any g a c zs j  hz w hK (hG.persK [0] (by kernel_rfl) (by kernel_rfl) (fun _ hF => ⟨hF.1, trivial⟩)) )) <| cR [[], [18]] <| cN) (fun _ => ?_)
  refine sS Tryz.f8 15 [1, 4, 5, 6] [] (fun ρ => [(U (mkX zs j)), (U (pubV (mkX zs j))), (pt g), (.agg (hB (hs2 (dN zs (j + 1) 5) (dN zs (j + 2) 7)))), (pt g), (.int .i64 ((dN zs (j + 3) 3 : Nat) : Int)), (pt g), (.int .i64 ((dN zs (j + 4) 5 : Nat) : Int)), (.int .u32 ((dN zs (j + 4) 5 : Nat) : Int)), (pt g), (.int .i64 ((dN zs (j + 5) 5 : Nat) : Int)), (.int .u32 ((dN zs (j + 5) 5 : Nat) : Int)), (.agg (kC 0 (pubV (mkX zs j)) (hs2 (dN zs (j + 1) 5) (dN zs (j + 2) 7)) ((dN zs (j + 3) 3 : Nat) : Int) ((dN zs (j + 4) 5 : Nat) : Int) ((dN zs (j + 5) 5 : Nat) : Int))), (pt (nb ρ 13)), undef]) (fun ρ => [(3, { puts := [(0, g, (.cells #[(.slice a (zs).length c), (.int .i64 ((pN zs (j + 3) : Nat) : Int))] 53 (0, 0)))] }), (5, { puts := [(0, g, (.cells #[(.slice a (zs).length c), (.int .i64 ((pN zs (j + 4) : Nat) : Int))] 53 (0, 0)))] }), (7, { puts := [(0, g, (.cells #[(.slice a (zs).length c), (.int .i64 ((pN zs (j + 5) : Nat) : Int))] 53 (0, 0)))] }), (10, { puts := [(0, g, (.cells #[(.slice a (zs).length c), (.int .i64 ((pN zs (j + 6) : Nat) : Int))] 53 (0, 0)))] }), (13, { news := [(nb ρ 13, (.cells (kC 0 0 0 0 0 0) 33 (0, 0)))] }), (14, { puts := [(107, nb ρ 13, (.cells (kC 0 (pubV (mkX zs j)) (hs2 (dN zs (j + 1) 5) (dN zs (j + 2) 7)) ((dN zs (j + 3) 3 : Nat) : Int) ((dN zs (j + 4) 5 : Nat) : Int) ((dN zs (j + 5) 5 : Nat) : Int)) 33 (0, 0)))] })]) (cR [[2]] <| cC (f := 23) (args := fun ρ => #[(U (mkX zs j))]) (v := fun ρ => (U (pubV (mkX zs j)))) (fun _ w => (fun w => mpublic_any (mkX zs j) (mkX_lt _ _) w) w) <| cR [[]] <| cX (o_callW _ [0] 24 (fun _ => #[(pt g)]) (fun _ => (.agg (hB (hs2 (dN zs (j + 1) 5) (dN zs (j + 2) 7))))) (fun _ => [(g, (.cells #[(.slice a (zs).length c), (.int .i64 ((pN zs (j + 1) : Nat) : Int))] 53 (0, 0)))]) (fun _ => [(g, (.cells #[(.slice a (zs).length c), (.int .i64 ((pN zs (j + 3) : Nat) : Int))] 53 (0, 0)))]) (fun _ _ w hG hK => mhash_any g a c zs (j + 1)  hz w hK (hG.persK [0] (by kernel_rfl) (by kernel_rfl) (fun _ hF => ⟨hF.1, trivial⟩)) )) <| cR [[]] <| cX (o_callW _ [0] 9 (fun _ => #[(pt g), (.int .i64 3)]) (fun _ => (.int .i64 ((dN zs (j + 3) 3 : Nat) : Int))) (fun _ => [(g, (.cells #[(.slice a (zs).length c), (.int .i64 ((pN zs (j + 3) : Nat) : Int))] 53 (0, 0)))]) (fun _ => [(g, (.cells #[(.slice a (zs).length c), (.int .i64 ((pN zs (j + 4) : Nat) : Int))] 53 (0, 0)))]) (fun _ _ w hG hK => next_any g a c zs (j + 3) 3 (by decide) hz w hK (hG.persK [0] (by kernel_rfl) (by kernel_rfl) (fun _ hF => ⟨hF.1, trivial⟩)) )) <| cR [[]] <| cX (o_callW _ [0] 9 (fun _ => #[(pt g), (.int .i64 5)]) (fun _ => (.int .i64 ((dN zs (j + 4) 5 : Nat) : Int))) (fun _ => [(g, (.cells #[(.slice a (zs).length c), (.int .i64 ((pN zs (j + 4) : Nat) : Int))] 53 (0, 0)))]) (fun _ => [(g, (.cells #[(.slice a (zs).length c), (.int .i64 ((pN zs (j + 5) : Nat) : Int))] 53 (0, 0)))]) (fun _ _ w hG hK => next_any g a c zs (j + 4) 5 (by decide) hz w hK (hG.persK [0] (by kernel_rfl) (by kernel_rfl) (fun _ hF => ⟨hF.1, trivial⟩)) )) <| cA (v := fun ρ => (.int .u32 (IntKind.u32.wrap (((dN zs (j + 4) 5 : Nat) : Int))))) (fun _ => (.int .u32 ((dN zs (j + 4) 5 : Nat) : Int))) (fun _ => congrArg (Value.int .u32) (u32N (Nat.lt_of_lt_of_le (dN_lt zs (j + 4) (by decide)) (by decide)))) <| cR [[]] <| cX (o_callW _ [0] 9 (fun _ => #[(pt g), (.int .i64 5)]) (fun _ => (.int .i64 ((dN zs (j + 5) 5 : Nat) : Int))) (fun _ => [(g, (.cells #[(.slice a (zs).length c), (.int .i64 ((pN zs (j + 5) : Nat) : Int))] 53 (0, 0)))]) (fun _ => [(g, (.cells #[(.slice a (zs).length c), (.int .i64 ((pN zs (j + 6) : Nat) : Int))] 53 (0, 0)))]) (fun _ _ w hG hK => next_any g a c zs (j + 5) 5 (by decide) hz w hK (hG.persK [0] (by kernel_rfl) (by kernel_rfl) (fun _ hF => ⟨hF.1, trivial⟩)) )) <| cA (v := fun ρ => (.int .u32 (IntKind.u32.wrap (((dN zs (j + 5) 5 : Nat) : Int))))) (fun _ => (.int .u32 ((dN zs (j + 5) 5 : Nat) : Int))) (fun _ => congrArg (Value.int .u32) (u32N (Nat.lt_of_lt_of_le (dN_lt zs (j + 5) (by decide)) (by decide)))) <| cR [[], [], [107]] <| cN) (fun ρ3 => ?_)
  refine ok_seq ?_
  refine sS Tryz.f8 1 [4, 5, 6, 22] [] (fun _ => [(.bool pv)]) (fun _ => []) (cR [[]] <| cN) (fun _ => ?_)
  refine oC (pv) (fun hb1 => ?_) (fun hb1 => ?_)
  ·
    rw [hb1]
    refine rS Tryz.f8 3 [4, 6] [1, 1, 0, 1] (fun _ => [(U (mkX zs j)), (pt (nb ρ3 13)), undef]) (fun _ => [(2, { puts := [(3, nb ρ3 13, (.cells (kC (mkX zs j) (pubV (mkX zs j)) (hs2 (dN zs (j + 1) 5) (dN zs (j + 2) 7)) ((dN zs (j + 3) 3 : Nat) : Int) ((dN zs (j + 4) 5 : Nat) : Int) ((dN zs (j + 5) 5 : Nat) : Int)) 33 (0, 0)))] })]) (cR [[2], [], [3]] <| cN) (fun _ => ?_)
    refine mt_then ?_
    refine sS Tryz.f8 2 [4] [1, 1, 0] (fun _ => [(.agg (kC (mkX zs j) (pubV (mkX zs j)) (hs2 (dN zs (j + 1) 5) (dN zs (j + 2) 7)) ((dN zs (j + 3) 3 : Nat) : Int) ((dN zs (j + 4) 5 : Nat) : Int) ((dN zs (j + 5) 5 : Nat) : Int))), undef]) (fun _ => [(1, { puts := [(1, nb ρ1 0, (.cells (kC (mkX zs j) (pubV (mkX zs j)) (hs2 (dN zs (j + 1) 5) (dN zs (j + 2) 7)) ((dN zs (j + 3) 3 : Nat) : Int) ((dN zs (j + 4) 5 : Nat) : Int) ((dN zs (j + 5) 5 : Nat) : Int)) 33 (0, 0)))] })]) (cR [[2], [1]] <| cN) (fun _ => ?_)
    refine ok_ret ?_
    exact mR (v := (.agg (kC (mkX zs j) (pubV (mkX zs j)) (hs2 (dN zs (j + 1) 5) (dN zs (j + 2) 7)) ((dN zs (j + 3) 3 : Nat) : Int) ((dN zs (j + 4) 5 : Nat) : Int) ((dN zs (j + 5) 5 : Nat) : Int)))) (ps := [1,1,1,1,1,1,1,1,1,1,1,1,1,1,1,1,1,1,1,1,1,1,1,1,1,1,1,1,1,1,1,1,1,1,1,1,1,1,1,1,1,1,1]) (fun _ hS => ⟨rfl, hS.below, hS.knows [1, 0]⟩)
  ·
    rw [hb1]
    refine ok_skip ?_
    refine mt_then ?_
    refine sS Tryz.f8 2 [4] [1, 1, 0, 0] (fun _ => [(.agg (kC 0 (pubV (mkX zs j)) (hs2 (dN zs (j + 1) 5) (dN zs (j + 2) 7)) ((dN zs (j + 3) 3 : Nat) : Int) ((dN zs (j + 4) 5 : Nat) : Int) ((dN zs (j + 5) 5 : Nat) : Int))), undef]) (fun _ => [(1, { puts := [(1, nb ρ1 0, (.cells (kC 0 (pubV (mkX zs j)) (hs2 (dN zs (j + 1) 5) (dN zs (j + 2) 7)) ((dN zs (j + 3) 3 : Nat) : Int) ((dN zs (j + 4) 5 : Nat) : Int) ((dN zs (j + 5) 5 : Nat) : Int)) 33 (0, 0)))] })]) (cR [[3], [1]] <| cN) (fun _ => ?_)
    refine ok_ret ?_
    exact mR (v := (.agg (kC 0 (pubV (mkX zs j)) (hs2 (dN zs (j + 1) 5) (dN zs (j + 2) 7)) ((dN zs (j + 3) 3 : Nat) : Int) ((dN zs (j + 4) 5 : Nat) : Int) ((dN zs (j + 5) 5 : Nat) : Int)))) (ps := [1,1,1,1,1,1,1,1,1,1,1,1,1,1,1,1,1,1,1,1,1,1,1,1,1,1,1,1,1,1,1,1,1,1,1,1,1,1,1,1,1,1,1]) (fun _ hS => ⟨rfl, hS.below, hS.knows [1, 0]⟩)

theorem mnew_any (a : Option Addr) (c : Nat) (zs : List Int) (w0 : World) (hf0 : Is w0 .i64 a c zs) : Calls Tryz.prog 7 #[(.slice a (zs).length c)] w0 (fun ε w' => ∃ g, ε = .returned (pt g) ∧ Below w0.heap.size w0 w' ∧ w0.heap.size ≤ g ∧ w'.heap[g]? = some (.cells #[(.slice a (zs).length c), (.int .i64 ((pN zs 0 : Nat) : Int))] 53 (0, 0))) := by
  refine Calls.of_ok (n := 6) (F := (fun w => Is w .i64 a c zs ∧ True)) Tryz.func7 rfl rfl rfl (by simp) (hf0.pers0.and persT) ?_
  refine sS Tryz.f7 1 [0, 2] [] (fun _ => [(.pointer none)]) (fun _ => []) (cR [[]] <| cN) (fun _ => ?_)
  refine sS Tryz.f7 4 [2] [] (fun ρ => [(.slice a (zs).length c), (.agg #[(.slice a (zs).length c), (.int .i64 0)]), (pt (nb ρ 2)), (pt (nb ρ 2))]) (fun ρ => [(2, { news := [(nb ρ 2, (.cells #[(.slice a (zs).length c), (.int .i64 0)] 53 (0, 0)))] })]) (cR [[], [], [], []] <| cN) (fun ρ2 => ?_)
  refine ok_ret ?_
  refine mD [(2, (pt (nb ρ2 2)))] [(nb ρ2 2, (.cells #[(.slice a (zs).length c), (.int .i64 0)] 53 (0, 0)))] ?_
  exact mR (v := (pt (nb ρ2 2))) (fun _ hS => ⟨nb ρ2 2, rfl, hS.bel, (hS.newb (.head _)).1, (hS.newb (.head _)).2.trans (by rw [pN_zero]; rfl)⟩)
end Go.Proofs.YtjdhjkceahaegaaGreatDoor

/-! Keys of trees: their prints: the walks. -/
namespace Go.Proofs.YtjdhjkceahaegaaGreatDoor
open Go Go.RowKit

theorem kprint_any (k : Ky) (_hk : k.Ok) (w0 : World) (hf0 : Kb w0 1 (rowK .u32 64 kN)) (hf1 : Kb w0 0 #[(.int .u32 1779033703), (.int .u32 3144134277), (.int .u32 1013904242), (.int .u32 2773480762), (.int .u32 1359893119), (.int .u32 2600822924), (.int .u32 528734635), (.int .u32 1541459225)]) : Calls Tryz.prog 29 #[(.agg (kC k.s k.p k.c k.d ((k.i : Nat) : Int) ((k.n : Nat) : Int)))] w0 (fun ε w' => ε = .returned (.int .u32 ((prN k.p : Nat) : Int)) ∧ Below w0.heap.size w0 w') := by
  refine Calls.of_ok (n := 26) (F := (fun w => Kb w 1 (rowK .u32 64 kN) ∧ Kb w 0 #[(.int .u32 1779033703), (.int .u32 3144134277), (.int .u32 1013904242), (.int .u32 2773480762), (.int .u32 1359893119), (.int .u32 2600822924), (.int .u32 528734635), (.int .u32 1541459225)] ∧ True)) Tryz.func29 rfl rfl rfl (by simp) (hf0.pers0.and (hf1.pers0.and persT)) ?_
  refine sS Tryz.f29 2 [1, 2] [] (fun ρ => [(pt (nb ρ 0)), (.int .u32 0)]) (fun ρ => [(0, { news := [(nb ρ 0, (.cells (kC k.s k.p k.c k.d ((k.i : Nat) : Int) ((k.n : Nat) : Int)) 33 (0, 0)))] })]) (cR [[], []] <| cN) (fun ρ1 => ?_)
  refine sS Tryz.f29 5 [2, 3] [0, 1] (fun ρ => [(.pointer (some ⟨nb ρ1 0, 4, none⟩)), (U k.p), (.agg (hB k.p)), (pt (nb ρ 3)), undef]) (fun ρ => [(3, { news := [(nb ρ 3, (.cells (hB 0) 31 (0, 0)))] }), (4, { puts := [(25, nb ρ 3, (.cells (hB k.p) 31 (0, 0)))] })]) (cR [[], [0]] <| cC (fun _ w => bytes_any k.p w) <| cR [[], [25]] <| cN) (fun ρ2 => ?_)
  refine sS Tryz.f29 1 [2, 3, 4] [] (fun _ => [(.int .u32 0)]) (fun _ => []) (cR [[]] <| cN) (fun _ => ?_)
  refine sS Tryz.f29 4 [2, 4, 5] [0, 1] (fun ρ => [(.slice (some ⟨nb ρ2 3, 0, none⟩) (hL k.p).length 32), (.agg (hB (shaN (hL k.p)))), (pt (nb ρ 2)), undef]) (fun ρ => [(2, { news := [(nb ρ 2, (.cells (hB 0) 31 (0, 0)))] }), (3, { puts := [(17, nb ρ 2, (.cells (hB (shaN (hL k.p))) 31 (0, 0)))] })]) (cR [[]] <| cX (o_callP _ 54 (fun _ => #[(.slice (some ⟨nb ρ2 3, 0, none⟩) (hL k.p).length 32)]) (fun _ => (.agg (hB (shaN (hL k.p))))) (fun _ _ => (by kernel_rfl)) (fun _ => (by kernel_rfl)) (fun _ _ => (by kernel_rfl)) (fun _ _ => trivial) (fun _ _ w hG => sum_any (some ⟨nb ρ2 3, 0, none⟩) 32 (hL k.p) (by rw [hL_length]; decide) (by rw [hL_length]; decide) w (Bs.of_hd (c := 32) (hG.known (g := nb ρ2 3) (o := (.cells (hB k.p) 31 (0, 0))) 0 (by kernel_rfl) (by kernel_rfl)) (hd_hB _) (Nat.le_refl _) (Nat.le_of_ble_eq_true rfl)) hG.facts0.now.1 hG.facts0.now.2.1)) <| cR [[], [17]] <| cN) (fun ρ4 => ?_)
  refine ok_seq ?_
  refine sS Tryz.f29 3 [2, 4, 13, 14, 15] [] (fun _ => [(.slice (some ⟨nb ρ4 2, 0, none⟩) 4 32), (.int .i64 4), (.int .i64 0)]) (fun _ => []) (cR [[], [], []] <| cN) (fun _ => ?_)
  refine dRs [(2, (.int .u32 0)), (4, (.int .u32 0)), (13, (.slice (some ⟨nb ρ4 2, 0, none⟩) 4 32)), (14, (.int .i64 4)), (15, (.int .i64 0))] [(nb ρ4 2, (.cells (hB (shaN (hL k.p))) 31 (0, 0)))] ?_
  refine ok_block ?_
  refine ok_rounds 5 ?_
  refine okr_succ ?_
  refine sS Tryz.f29 1 [2, 4, 13, 14, 15, 16] [] (fun _ => [(.bool true)]) (fun _ => []) (cR [[]] <| cN) (fun _ => ?_)
  refine ok_seq ?_
  refine oY ?_
  refine ok_skip ?_
  refine mt_then ?_
  refine ok_seq ?_
  refine ok_block ?_
  refine sS Tryz.f29 3 [2, 4, 7, 13, 14, 15, 16, 17, 18] [] (fun _ => [(pt (nb ρ4 2)), (.int .u8 (byt (shaN (hL k.p)) 0)), (.int .u8 (byt (shaN (hL k.p)) 0))]) (fun _ => []) (cR [[], [0], []] <| cN) (fun _ => ?_)
  refine rS Tryz.f29 6 [2, 4, 7, 13, 14, 15, 16, 17, 18, 19, 20, 21, 22, 23] [] (fun _ => [(.int .u32 0), (.int .u32 0), (.int .u8 (byt (shaN (hL k.p)) 0)), (.int .u32 ((bN (shaN (hL k.p)) 0 : Nat) : Int)), (.int .u32 ((hiN (shaN (hL k.p)) 1 : Nat) : Int)), (.int .u32 ((hiN (shaN (hL k.p)) 1 : Nat) : Int))]) (fun _ => []) (cR [[], [], []] <| cA (fun _ => (.int .u32 ((bN (shaN (hL k.p)) 0 : Nat) : Int))) (fun _ => congrArg (Value.int .u32) (u32_bN (shaN (hL k.p)) 0)) <| cA (v := fun ρ => (.int .u32 (bits .or .u32 0 ((bN (shaN (hL k.p)) 0 : Nat) : Int)))) (fun _ => (.int .u32 ((hiN (shaN (hL k.p)) 1 : Nat) : Int))) (fun _ => congrArg (Value.int .u32) (or_hi (D := (shaN (hL k.p))) (j := 0) (by decide))) <| cR [[]] <| cN) (fun _ => ?_)
  refine mt_block_n ?_
  refine mt_then ?_
  refine rS Tryz.f29 2 [2, 4, 7, 13, 14, 15, 16, 17, 18, 19, 20, 21, 22, 23, 24] [] (fun _ => [(.int .i64 1), (.int .i64 1)]) (fun _ => []) (cR [[], []] <| cN) (fun _ => ?_)
  refine mt_rounds ?_
  refine okr_succ ?_
  refine sS Tryz.f29 1 [2, 4, 7, 13, 14, 15, 16, 17, 18, 19, 20, 21, 22, 23, 24] [] (fun _ => [(.bool true)]) (fun _ => []) (cR [[]] <| cN) (fun _ => ?_)
  refine dRs [(2, (.int .u32 0)), (4, (.int .u32 ((hiN (shaN (hL k.p)) 1 : Nat) : Int))), (7, (.int .u8 (byt (shaN (hL k.p)) 0))), (13, (.slice (some ⟨nb ρ4 2, 0, none⟩) 4 32)), (14, (.int .i64 4)), (15, (.int .i64 1)), (16, (.bool true)), (17, (pt (nb ρ4 2))), (18, (.int .u8 (byt (shaN (hL k.p)) 0))), (19, (.int .u32 0)), (20, (.int .u32 0)), (21, (.int .u8 (byt (shaN (hL k.p)) 0))), (22, (.int .u32 ((bN (shaN (hL k.p)) 0 : Nat) : Int))), (23, (.int .u32 ((hiN (shaN (hL k.p)) 1 : Nat) : Int))), (24, (.int .i64 1))] [(nb ρ4 2, (.cells (hB (shaN (hL k.p))) 31 (0, 0)))] ?_
  refine ok_seq ?_
  refine oY ?_
  refine ok_skip ?_
  refine mt_then ?_
  refine ok_seq ?_
  refine ok_block ?_
  refine sS Tryz.f29 3 [2, 4, 7, 13, 14, 15, 16, 17, 18, 19, 20, 21, 22, 23, 24] [] (fun _ => [(.pointer (some ⟨nb ρ4 2, 1, none⟩)), (.int .u8 (byt (shaN (hL k.p)) 1)), (.int .u8 (byt (shaN (hL k.p)) 1))]) (fun _ => []) (cR [[], [0], []] <| cN) (fun _ => ?_)
  refine rS Tryz.f29 6 [2, 4, 7, 13, 14, 15, 16, 17, 18, 19, 20, 21, 22, 23, 24] [] (fun _ => [(.int .u32 ((hiN (shaN (hL k.p)) 1 : Nat) : Int)), (.int .u32 ((hiN (shaN (hL k.p)) 1 * 256 : Nat) : Int)), (.int .u8 (byt (shaN (hL k.p)) 1)), (.int .u32 ((bN (shaN (hL k.p)) 1 : Nat) : Int)), (.int .u32 ((hiN (shaN (hL k.p)) 2 : Nat) : Int)), (.int .u32 ((hiN (shaN (hL k.p)) 2 : Nat) : Int))]) (fun _ => []) (cR [[]] <| cB (a := fun ρ => (.int .u32 ((hiN (shaN (hL k.p)) 1 : Nat) : Int))) (b := fun ρ => (.int .u64 8)) (v := fun ρ => (.int .u32 ((hiN (shaN (hL k.p)) 1 * 256 : Nat) : Int))) .shl 23 (fun _ w => run_hi8 (D := (shaN (hL k.p))) (j := 1) (by decide) w) <| cR [[]] <| cA (fun _ => (.int .u32 ((bN (shaN (hL k.p)) 1 : Nat) : Int))) (fun _ => congrArg (Value.int .u32) (u32_bN (shaN (hL k.p)) 1)) <| cA (v := fun ρ => (.int .u32 (bits .or .u32 ((hiN (shaN (hL k.p)) 1 * 256 : Nat) : Int) ((bN (shaN (hL k.p)) 1 : Nat) : Int)))) (fun _ => (.int .u32 ((hiN (shaN (hL k.p)) 2 : Nat) : Int))) (fun _ => congrArg (Value.int .u32) (or_hi (D := (shaN (hL k.p))) (j := 1) (by decide))) <| cR [[]] <| cN) (fun _ => ?_)
  refine mt_block_n ?_
  refine mt_then ?_
  refine rS Tryz.f29 2 [2, 4, 7, 13, 14, 15, 16, 17, 18, 19, 20, 21, 22, 23, 24] [] (fun _ => [(.int .i64 2), (.int .i64 2)]) (fun _ => []) (cR [[], []] <| cN) (fun _ => ?_)
  refine mt_rounds ?_
  refine okr_succ ?_
  refine sS Tryz.f29 1 [2, 4, 7, 13, 14, 15, 16, 17, 18, 19, 20, 21, 22, 23, 24] [] (fun _ => [(.bool true)]) (fun _ => []) (cR [[]] <| cN) (fun _ => ?_)
  refine ok_seq ?_
  refine oY ?_
  refine ok_skip ?_
  refine mt_then ?_
  refine ok_seq ?_
  refine ok_block ?_
  refine sS Tryz.f29 3 [2, 4, 7, 13, 14, 15, 16, 17, 18, 19, 20, 21, 22, 23, 24] [] (fun _ => [(.pointer (some ⟨nb ρ4 2, 2, none⟩)), (.int .u8 (byt (shaN (hL k.p)) 2)), (.int .u8 (byt (shaN (hL k.p)) 2))]) (fun _ => []) (cR [[], [0], []] <| cN) (fun _ => ?_)
  refine dRs [(2, (.int .u32 0)), (4, (.int .u32 ((hiN (shaN (hL k.p)) 2 : Nat) : Int))), (7, (.int .u8 (byt (shaN (hL k.p)) 2))), (13, (.slice (some ⟨nb ρ4 2, 0, none⟩) 4 32)), (14, (.int .i64 4)), (15, (.int .i64 2)), (16, (.bool true)), (17, (.pointer (some ⟨nb ρ4 2, 2, none⟩))), (18, (.int .u8 (byt (shaN (hL k.p)) 2))), (19, (.int .u32 ((hiN (shaN (hL k.p)) 1 : Nat) : Int))), (20, (.int .u32 ((hiN (shaN (hL k.p)) 1 * 256 : Nat) : Int))), (21, (.int .u8 (byt (shaN (hL k.p)) 1))), (22, (.int .u32 ((bN (shaN (hL k.p)) 1 : Nat) : Int))), (23, (.int .u32 ((hiN (shaN (hL k.p)) 2 : Nat) : Int))), (24, (.int .i64 2))] [(nb ρ4 2, (.cells (hB (shaN (hL k.p))) 31 (0, 0)))] ?_
  refine rS Tryz.f29 6 [2, 4, 7, 13, 14, 15, 16, 17, 18, 19, 20, 21, 22, 23, 24] [] (fun _ => [(.int .u32 ((hiN (shaN (hL k.p)) 2 : Nat) : Int)), (.int .u32 ((hiN (shaN (hL k.p)) 2 * 256 : Nat) : Int)), (.int .u8 (byt (shaN (hL k.p)) 2)), (.int .u32 ((bN (shaN (hL k.p)) 2 : Nat) : Int)), (.int .u32 ((hiN (shaN (hL k.p)) 3 : Nat) : Int)), (.int .u32 ((hiN (shaN (hL k.p)) 3 : Nat) : Int))]) (fun _ => []) (cR [[]] <| cB (a := fun ρ => (.int .u32 ((hiN (shaN (hL k.p)) 2 : Nat) : Int))) (b := fun ρ => (.int .u64 8)) (v := fun ρ => (.int .u32 ((hiN (shaN (hL k.p)) 2 * 256 : Nat) : Int))) .shl 23 (fun _ w => run_hi8 (D := (shaN (hL k.p))) (j := 2) (by decide) w) <| cR [[]] <| cA (fun _ => (.int .u32 ((bN (shaN (hL k.p)) 2 : Nat) : Int))) (fun _ => congrArg (Value.int .u32) (u32_bN (shaN (hL k.p)) 2)) <| cA (v := fun ρ => (.int .u32 (bits .or .u32 ((hiN (shaN (hL k.p)) 2 * 256 : Nat) : Int) ((bN (shaN (hL k.p)) 2 : Nat) : Int)))) (fun _ => (.int .u32 ((hiN (shaN (hL k.p)) 3 : Nat) : Int))) (fun _ => congrArg (Value.int .u32) (or_hi (D := (shaN (hL k.p))) (j := 2) (by decide))) <| cR [[]] <| cN) (fun _ => ?_)
  refine mt_block_n ?_
  refine mt_then ?_
  refine rS Tryz.f29 2 [2, 4, 7, 13, 14, 15, 16, 17, 18, 19, 20, 21, 22, 23, 24] [] (fun _ => [(.int .i64 3), (.int .i64 3)]) (fun _ => []) (cR [[], []] <| cN) (fun _ => ?_)
  refine mt_rounds ?_
  refine okr_succ ?_
  refine sS Tryz.f29 1 [2, 4, 7, 13, 14, 15, 16, 17, 18, 19, 20, 21, 22, 23, 24] [] (fun _ => [(.bool true)]) (fun _ => []) (cR [[]] <| cN) (fun _ => ?_)
  refine ok_seq ?_
  refine oY ?_
  refine ok_skip ?_
  refine mt_then ?_
  refine ok_seq ?_
  refine ok_block ?_
  refine sS Tryz.f29 3 [2, 4, 7, 13, 14, 15, 16, 17, 18, 19, 20, 21, 22, 23, 24] [] (fun _ => [(.pointer (some ⟨nb ρ4 2, 3, none⟩)), (.int .u8 (byt (shaN (hL k.p)) 3)), (.int .u8 (byt (shaN (hL k.p)) 3))]) (fun _ => []) (cR [[], [0], []] <| cN) (fun _ => ?_)
  refine rS Tryz.f29 6 [2, 4, 7, 13, 14, 15, 16, 17, 18, 19, 20, 21, 22, 23, 24] [] (fun _ => [(.int .u32 ((hiN (shaN (hL k.p)) 3 : Nat) : Int)), (.int .u32 ((hiN (shaN (hL k.p)) 3 * 256 : Nat) : Int)), (.int .u8 (byt (shaN (hL k.p)) 3)), (.int .u32 ((bN (shaN (hL k.p)) 3 : Nat) : Int)), (.int .u32 ((hiN (shaN (hL k.p)) 4 : Nat) : Int)), (.int .u32 ((hiN (shaN (hL k.p)) 4 : Nat) : Int))]) (fun _ => []) (cR [[]] <| cB (a := fun ρ => (.int .u32 ((hiN (shaN (hL k.p)) 3 : Nat) : Int))) (b := fun ρ => (.int .u64 8)) (v := fun ρ => (.int .u32 ((hiN (shaN (hL k.p)) 3 * 256 : Nat) : Int))) .shl 23 (fun _ w => run_hi8 (D := (shaN (hL k.p))) (j := 3) (by decide) w) <| cR [[]] <| cA (fun _ => (.int .u32 ((bN (shaN (hL k.p)) 3 : Nat) : Int))) (fun _ => congrArg (Value.int .u32) (u32_bN (shaN (hL k.p)) 3)) <| cA (v := fun ρ => (.int .u32 (bits .or .u32 ((hiN (shaN (hL k.p)) 3 * 256 : Nat) : Int) ((bN (shaN (hL k.p)) 3 : Nat) : Int)))) (fun _ => (.int .u32 ((hiN (shaN (hL k.p)) 4 : Nat) : Int))) (fun _ => congrArg (Value.int .u32) (or_hi (D := (shaN (hL k.p))) (j := 3) (by decide))) <| cR [[]] <| cN) (fun _ => ?_)
  refine mt_block_n ?_
  refine mt_then ?_
  refine rS Tryz.f29 2 [2, 4, 7, 13, 14, 15, 16, 17, 18, 19, 20, 21, 22, 23, 24] [] (fun _ => [(.int .i64 4), (.int .i64 4)]) (fun _ => []) (cR [[], []] <| cN) (fun _ => ?_)
  refine mt_rounds ?_
  refine okr_succ ?_
  refine sS Tryz.f29 1 [2, 4, 7, 13, 14, 15, 16, 17, 18, 19, 20, 21, 22, 23, 24] [] (fun _ => [(.bool false)]) (fun _ => []) (cR [[]] <| cN) (fun _ => ?_)
  refine dRs [(2, (.int .u32 0)), (4, (.int .u32 ((hiN (shaN (hL k.p)) 4 : Nat) : Int))), (7, (.int .u8 (byt (shaN (hL k.p)) 3))), (13, (.slice (some ⟨nb ρ4 2, 0, none⟩) 4 32)), (14, (.int .i64 4)), (15, (.int .i64 4)), (16, (.bool false)), (17, (.pointer (some ⟨nb ρ4 2, 3, none⟩))), (18, (.int .u8 (byt (shaN (hL k.p)) 3))), (19, (.int .u32 ((hiN (shaN (hL k.p)) 3 : Nat) : Int))), (20, (.int .u32 ((hiN (shaN (hL k.p)) 3 * 256 : Nat) : Int))), (21, (.int .u8 (byt (shaN (hL k.p)) 3))), (22, (.int .u32 ((bN (shaN (hL k.p)) 3 : Nat) : Int))), (23, (.int .u32 ((hiN (shaN (hL k.p)) 4 : Nat) : Int))), (24, (.int .i64 4))] [(nb ρ4 2, (.cells (hB (shaN (hL k.p))) 31 (0, 0)))] ?_
  refine ok_seq ?_
  refine oN ?_
  refine ok_exit ?_
  refine mt_then_e ?_
  refine mt_then_e ?_
  refine mt_block_h ?_
  refine mt_then ?_
  refine sS Tryz.f29 2 [2] [0] (fun _ => [(.int .u32 ((hiN (shaN (hL k.p)) 4 : Nat) : Int)), (.int .u32 ((hiN (shaN (hL k.p)) 4 : Nat) : Int))]) (fun _ => []) (cR [[], []] <| cN) (fun _ => ?_)
  refine ok_ret ?_
  exact mR (v := (.int .u32 ((hiN (shaN (hL k.p)) 4 : Nat) : Int))) (fun _ hS => ⟨rfl, hS.bel⟩)

theorem r25number_any (a : Nat) (_ha : a < M) (w0 : World) : Calls Tryz.prog 38 #[(U a)] w0 (fun ε w' => ∃ α κ, ε = .returned (.slice α (hL a).length κ) ∧ Below w0.heap.size w0 w' ∧ Fs w0 w' α κ (hL a)) := by
  refine Calls.of_ok (n := 9) (F := (fun _ => True)) Tryz.func38 rfl rfl rfl (by simp) (persTrue (fun _ => trivial)) ?_
  refine sS Tryz.f38 2 [1, 2] [] (fun ρ => [(pt (nb ρ 0)), (.slice none 0 0)]) (fun ρ => [(0, { news := [(nb ρ 0, (.cells (cU a) 29 (0, 0)))] })]) (cR [[], []] <| cN) (fun _ => ?_)
  refine sS Tryz.f38 4 [2, 3] [0, 1] (fun ρ => [(U a), (.agg (hB a)), (pt (nb ρ 2)), undef]) (fun ρ => [(2, { news := [(nb ρ 2, (.cells (hB 0) 31 (0, 0)))] }), (3, { puts := [(17, nb ρ 2, (.cells (hB a) 31 (0, 0)))] })]) (cR [[0]] <| cC (fun _ w => rbytes_any a w) <| cR [[], [17]] <| cN) (fun ρ2 => ?_)
  refine sSf Tryz.f38 4 [2] [0, 1] (fun ρ => [(.slice (some ⟨nb ρ 0, 0, none⟩) (([] : List UInt8)).length 0), (.slice (some ⟨nb ρ2 2, 0, none⟩) (hL a).length 32), (.slice (some ⟨nb ρ 2, 0, none⟩) (([] : List UInt8) ++ (hL a)).length (nb2 ρ 2)), (.slice (some ⟨nb ρ 2, 0, none⟩) (([] : List UInt8) ++ (hL a)).length (nb2 ρ 2))]) (fun ρ => [(0, { news := [(nb ρ 0, (.cells #[] 5 (0, 0)))] }), (2, { puts := [(1, nb ρ 2, (.cells (oc ρ 2) 5 (0, 0)))] })]) (fun ρ => [(2, fun w => Ap (oc ρ 2) (([] : List UInt8) ++ (hL a)) (nb2 ρ 2))]) (fun _ => (fun _ => True)) (fun ρ => Ap (oc ρ 2) (([] : List UInt8) ++ (hL a)) (nb2 ρ 2)) (fun _ _ hF hf => ⟨hF, hf 2⟩) (cR [[], []] <| cX (o_move1 _ 1 (fun ρ => do pure (Next.value (← Builtin.append_ #[43, 43] 43 #[(.slice (some ⟨nb ρ 0, 0, none⟩) (([] : List UInt8)).length 0), (.slice (some ⟨nb ρ2 2, 0, none⟩) (hL a).length 32)]))) (fun ρ => nb ρ 0) (fun _ => (.cells #[] 5 (0, 0))) (fun _ r => (.cells (orcC r) 5 (0, 0))) (fun _ r => (.slice (some ⟨r.n.headD 0, 0, none⟩) (([] : List UInt8) ++ (hL a)).length (r.n.tail.headD 0))) (fun _ r => Ap (orcC r) (([] : List UInt8) ++ (hL a)) (r.n.tail.headD 0)) (fun _ _ => (by kernel_rfl)) (fun _ => (by kernel_rfl)) (fun _ => (by kernel_rfl)) (fun _ => (by kernel_rfl)) (fun _ _ => (by kernel_rfl)) (fun _ _ _ hG hg => app_any Tryz.underlying43 u8i (Ap.mk' (rfl : Hd #[] ([] : List UInt8)) (Nat.le_refl 0) (Nat.le_of_ble_eq_true rfl) rfl) (Bs.src (tx := 43) Tryz.underlying43 (Bs.of_hd (c := 32) (hG.known (g := nb ρ2 2) (o := (.cells (hB a) 31 (0, 0))) 0 (by kernel_rfl) (by kernel_rfl)) (hd_hB _) (Nat.le_refl _) (Nat.le_of_ble_eq_true rfl))) ((by rw [hL_length]; decide)) hg)) <| cR [[]] <| cN) (fun ρ3 ap3_2 => ?_)
  refine ok_ret ?_
  refine mD [(2, (.slice (some ⟨nb ρ3 2, 0, none⟩) (([] : List UInt8) ++ (hL a)).length (nb2 ρ3 2)))] [(nb ρ3 2, (.cells (oc ρ3 2) 5 (0, 0)))] ?_
  exact mR (v := (.slice (some ⟨nb ρ3 2, 0, none⟩) (([] : List UInt8) ++ (hL a)).length (nb2 ρ3 2))) (fun _ hS => ⟨(some ⟨nb ρ3 2, 0, none⟩), nb2 ρ3 2, congrArg Ending.returned (by rw [List.nil_append]), hS.bel, fs_eq (List.nil_append _) (hS.fresh (.head _) ap3_2.hd ap3_2.le ap3_2.max)⟩)

theorem rkprint_any (k : Ky) (hk : k.Ok) (w0 : World) : Calls Tryz.prog 64 #[(.agg (kC k.s k.p k.c k.d ((k.i : Nat) : Int) ((k.n : Nat) : Int)))] w0 (fun ε w' => ε = .returned (.int .u32 ((prN k.p : Nat) : Int)) ∧ Below w0.heap.size w0 w') := by
  refine Calls.of_ok (n := 26) (F := (fun _ => True)) Tryz.func64 rfl rfl rfl (by simp) (persTrue (fun _ => trivial)) ?_
  refine sS Tryz.f64 2 [1, 2] [] (fun ρ => [(pt (nb ρ 0)), (.int .u32 0)]) (fun ρ => [(0, { news := [(nb ρ 0, (.cells (kC k.s k.p k.c k.d ((k.i : Nat) : Int) ((k.n : Nat) : Int)) 33 (0, 0)))] })]) (cR [[], []] <| cN) (fun ρ1 => ?_)
  refine sSf Tryz.f64 6 [2, 3] [0, 1] (fun ρ => [(.pointer (some ⟨nb ρ1 0, 4, none⟩)), (U k.p), (.slice (oa ρ 2) (hL k.p).length (nb ρ 2)), (.agg (hB (shaN (hL k.p)))), (pt (nb ρ 4)), undef]) (fun ρ => [(4, { news := [(nb ρ 4, (.cells (hB 0) 31 (0, 0)))] }), (5, { puts := [(33, nb ρ 4, (.cells (hB (shaN (hL k.p))) 31 (0, 0)))] })]) (fun ρ => [(2, fun w => Fs w0 w (oa ρ 2) (nb ρ 2) (hL k.p))]) (fun ρ => (fun w => Fs w0 w (oa ρ 2) (nb ρ 2) (hL k.p) ∧ True)) (fun _ => True) (fun _ _ _ hf => ⟨⟨hf 2, trivial⟩, trivial⟩) (cR [[], [0]] <| cX (o_callB _ 38 (fun _ => #[(U k.p)]) (fun _ α κ => (.slice α (hL k.p).length κ)) (fun _ => hL k.p) (fun _ _ => (by kernel_rfl)) (fun _ _ => (by kernel_rfl)) (fun _ _ => (by kernel_rfl)) (fun _ _ => (by kernel_rfl)) (fun _ _ w _ => r25number_any k.p hk.p w )) <| cX (o_callP _ 88 (fun ρ => #[(.slice (oa ρ 2) (hL k.p).length (nb ρ 2))]) (fun _ => (.agg (hB (shaN (hL k.p))))) (fun _ _ => (by kernel_rfl)) (fun _ => (by kernel_rfl)) (fun _ _ => (by kernel_rfl)) (fun _ _ => trivial) (fun ρ _ w hG => rsum_any (oa ρ 2) (nb ρ 2) (hL k.p) (by rw [hL_length]; decide) (by rw [hL_length]; decide) w ((show Fs w0 w (oa ρ 2) (nb ρ 2) (hL k.p) from (hG.facts 2 rfl).now).1))) <| cR [[], [33]] <| cN) (fun ρ2 _ => ?_)
  refine sS Tryz.f64 19 [2] [0] (fun _ => [(pt (nb ρ2 4)), (.int .u8 (byt (shaN (hL k.p)) 0)), (.int .u32 ((bN (shaN (hL k.p)) 0 : Nat) : Int)), (.int .u32 ((bN (shaN (hL k.p)) 0 * 2 ^ 24 : Nat) : Int)), (.pointer (some ⟨nb ρ2 4, 1, none⟩)), (.int .u8 (byt (shaN (hL k.p)) 1)), (.int .u32 ((bN (shaN (hL k.p)) 1 : Nat) : Int)), (.int .u32 ((bN (shaN (hL k.p)) 1 * 2 ^ 16 : Nat) : Int)), (.int .u32 (((bN (shaN (hL k.p)) 0 * 256 + bN (shaN (hL k.p)) 1) * 65536 : Nat) : Int)), (.pointer (some ⟨nb ρ2 4, 2, none⟩)), (.int .u8 (byt (shaN (hL k.p)) 2)), (.int .u32 ((bN (shaN (hL k.p)) 2 : Nat) : Int)), (.int .u32 ((bN (shaN (hL k.p)) 2 * 2 ^ 8 : Nat) : Int)), (.int .u32 ((((bN (shaN (hL k.p)) 0 * 256 + bN (shaN (hL k.p)) 1) * 256 + bN (shaN (hL k.p)) 2) * 256 : Nat) : Int)), (.pointer (some ⟨nb ρ2 4, 3, none⟩)), (.int .u8 (byt (shaN (hL k.p)) 3)), (.int .u32 ((bN (shaN (hL k.p)) 3 : Nat) : Int)), (.int .u32 ((hiN (shaN (hL k.p)) 4 : Nat) : Int)), (.int .u32 ((hiN (shaN (hL k.p)) 4 : Nat) : Int))]) (fun _ => []) (cR [[], [0]] <| cA (fun _ => (.int .u32 ((bN (shaN (hL k.p)) 0 : Nat) : Int))) (fun _ => congrArg (Value.int .u32) (u32_bN (shaN (hL k.p)) 0)) <| cB (a := fun ρ => (.int .u32 ((bN (shaN (hL k.p)) 0 : Nat) : Int))) (b := fun ρ => (.int .u64 24)) (v := fun ρ => (.int .u32 ((bN (shaN (hL k.p)) 0 * 2 ^ 24 : Nat) : Int))) .shl 23 (fun _ w => run_bN (D := (shaN (hL k.p))) (j := 0) (c := 24) (by decide) w) <| cR [[], [0]] <| cA (fun _ => (.int .u32 ((bN (shaN (hL k.p)) 1 : Nat) : Int))) (fun _ => congrArg (Value.int .u32) (u32_bN (shaN (hL k.p)) 1)) <| cB (a := fun ρ => (.int .u32 ((bN (shaN (hL k.p)) 1 : Nat) : Int))) (b := fun ρ => (.int .u64 16)) (v := fun ρ => (.int .u32 ((bN (shaN (hL k.p)) 1 * 2 ^ 16 : Nat) : Int))) .shl 23 (fun _ w => run_bN (D := (shaN (hL k.p))) (j := 1) (c := 16) (by decide) w) <| cA (fun _ => (.int .u32 (((bN (shaN (hL k.p)) 0 * 256 + bN (shaN (hL k.p)) 1) * 65536 : Nat) : Int))) (fun _ => congrArg (Value.int .u32) (or_p1 (shaN (hL k.p)))) <| cR [[], [0]] <| cA (fun _ => (.int .u32 ((bN (shaN (hL k.p)) 2 : Nat) : Int))) (fun _ => congrArg (Value.int .u32) (u32_bN (shaN (hL k.p)) 2)) <| cB (a := fun ρ => (.int .u32 ((bN (shaN (hL k.p)) 2 : Nat) : Int))) (b := fun ρ => (.int .u64 8)) (v := fun ρ => (.int .u32 ((bN (shaN (hL k.p)) 2 * 2 ^ 8 : Nat) : Int))) .shl 23 (fun _ w => run_bN (D := (shaN (hL k.p))) (j := 2) (c := 8) (by decide) w) <| cA (fun _ => (.int .u32 ((((bN (shaN (hL k.p)) 0 * 256 + bN (shaN (hL k.p)) 1) * 256 + bN (shaN (hL k.p)) 2) * 256 : Nat) : Int))) (fun _ => congrArg (Value.int .u32) (or_p2 (shaN (hL k.p)))) <| cR [[], [0]] <| cA (fun _ => (.int .u32 ((bN (shaN (hL k.p)) 3 : Nat) : Int))) (fun _ => congrArg (Value.int .u32) (u32_bN (shaN (hL k.p)) 3)) <| cA (fun _ => (.int .u32 ((hiN (shaN (hL k.p)) 4 : Nat) : Int))) (fun _ => congrArg (Value.int .u32) (or_p3 (shaN (hL k.p)))) <| cR [[]] <| cN) (fun _ => ?_)
  refine ok_ret ?_
  exact mR (v := (.int .u32 ((hiN (shaN (hL k.p)) 4 : Nat) : Int))) (fun _ hS => ⟨rfl, hS.bel⟩)
end Go.Proofs.YtjdhjkceahaegaaGreatDoor

/-! The sanity check of the trees of keys: the walk. -/
namespace Go.Proofs.YtjdhjkceahaegaaGreatDoor
open Go Go.RowKit

theorem child4_any  (w0 : World) : Calls Tryz.prog 10 #[(.agg (kC 0 4 0 0 0 0)), (.int .u32 2147483648)] w0 (fun ε w' => ε = .returned (.tuple #[(.agg (kC 0 0 0 0 0 0)), (.int .i64 250)]) ∧ Below w0.heap.size w0 w') := by
  refine Calls.of_ok (n := 77) (F := (fun _ => True)) Tryz.func10 rfl rfl rfl (by simp) (persTrue (fun _ => trivial)) ?_
  refine sS Tryz.f10 3 [1, 2, 4, 5] [] (fun ρ => [(pt (nb ρ 0)), (pt (nb ρ 1)), (.int .i64 0)]) (fun ρ => [(0, { news := [(nb ρ 0, (.cells (kC 0 4 0 0 0 0) 33 (0, 0)))] }), (1, { news := [(nb ρ 1, (.cells (kC 0 0 0 0 0 0) 33 (0, 0)))] })]) (cR [[], [], []] <| cN) (fun ρ1 => ?_)
  refine sS Tryz.f10 5 [1, 2, 4, 5, 6] [] (fun _ => [(pt (nb ρ1 0)), (U 0), (U 0), (.bool false), (.bool false)]) (fun _ => []) (cR [[], [0], []] <| cB (a := fun ρ => (U 0)) (b := fun ρ => (U 0)) (v := fun ρ => (.bool false)) .neq 29 (fun _ _ => neqU_same 0 (by decide +kernel) _) <| cR [[]] <| cN) (fun _ => ?_)
  refine ok_seq ?_
  refine ok_block ?_
  refine sS Tryz.f10 4 [1, 2, 4, 5, 6, 14] [] (fun _ => [(.agg (kC 0 4 0 0 0 0)), (.bool true), (.bool false), (.bool false)]) (fun _ => []) (cR [[0]] <| cC (f := 26) (args := fun ρ => #[(.agg (kC 0 4 0 0 0 0))]) (v := fun ρ => (.bool true)) (fun _ w => by as_aux_lemma => (have hcall := (fun w => ksound_any (Ky.mk 0 4 0 0 0 0) (Ky.Ok.mk (by decide +kernel) (by decide +kernel) (by decide +kernel) (by decide) (by decide)) w) w; rw [snd4] at hcall; exact hcall)) <| cR [[], []] <| cN) (fun _ => ?_)
  refine oN ?_
  refine sS Tryz.f10 4 [1, 2, 4, 5, 6, 19] [] (fun _ => [(.pointer (some ⟨nb ρ1 0, 40, none⟩)), (.int .i64 0), (.bool false), (.bool false)]) (fun _ => []) (cR [[], [0], [], []] <| cN) (fun _ => ?_)
  refine oN ?_
  refine sS Tryz.f10 7 [1, 2, 4, 5, 6, 24] [] (fun _ => [(.int .u32 2147483648), (.bool true), (.bool true), (.bool false), (.bool true), (.bool true), (.bool true)]) (fun _ => []) (cR [[], [], [], [], [], [], []] <| cN) (fun _ => ?_)
  refine dRs [(1, (.int .u32 2147483648)), (2, (pt (nb ρ1 0))), (4, (pt (nb ρ1 1))), (5, (.int .i64 0)), (6, (.bool false)), (24, (.bool true))] [(nb ρ1 0, (.cells (kC 0 4 0 0 0 0) 33 (0, 0))), (nb ρ1 1, (.cells (kC 0 0 0 0 0 0) 33 (0, 0)))] ?_
  refine oY ?_
  refine sS Tryz.f10 3 [1, 2, 4, 5, 6] [] (fun _ => [(.agg (kC 0 0 0 0 0 0)), undef, (.int .i64 250)]) (fun _ => [(1, { puts := [(1, nb ρ1 1, (.cells (kC 0 0 0 0 0 0) 33 (0, 0)))] })]) (cR [[], [1], []] <| cN) (fun _ => ?_)
  refine ok_ret ?_
  refine mt_block_r ?_
  refine mt_then_r ?_
  exact mR (v := (.tuple #[(.agg (kC 0 0 0 0 0 0)), (.int .i64 250)])) (ps := [1,1,1,1,1,1,1,1,1,1,1,1,1,1,1,1,1,1,1,1,1,1,1,1,1,1,1,1,1,1,1,1,1,1,1,1,1,1,1,1,1,1,1]) (fun _ hS => ⟨rfl, hS.bel⟩)

theorem ksane_any  (w0 : World) : Calls Tryz.prog 6 #[] w0 (fun ε w' => ε = .returned (.bool true) ∧ Below w0.heap.size w0 w') := by
  refine Calls.of_ok (n := 21) (F := (fun _ => True)) Tryz.func6 rfl rfl rfl (by simp) (persTrue (fun _ => trivial)) ?_
  refine sS Tryz.f6 1 [0] [] (fun _ => [(.bool false)]) (fun _ => []) (cR [[]] <| cN) (fun _ => ?_)
  refine sS Tryz.f6 4 [0, 1] [] (fun ρ => [(U 4), (.agg (kC 0 4 0 0 0 0)), (pt (nb ρ 2)), undef]) (fun ρ => [(2, { news := [(nb ρ 2, (.cells (kC 0 0 0 0 0 0) 33 (0, 0)))] }), (3, { puts := [(16, nb ρ 2, (.cells (kC 0 4 0 0 0 0) 33 (0, 0)))] })]) (cC (fun _ w => rfromuint_lit 4 w (by decide)) <| cR [[], [], [16]] <| cN) (fun _ => ?_)
  refine sS Tryz.f6 8 [0, 1, 3] [1, 0] (fun ρ => [(.agg (kC 0 4 0 0 0 0)), (.tuple #[(.agg (kC 0 0 0 0 0 0)), (.int .i64 250)]), (.tuple #[(.agg (kC 0 0 0 0 0 0)), (.int .i64 250)]), (.agg (kC 0 0 0 0 0 0)), (.int .i64 250), (pt (nb ρ 5)), undef, (.int .i64 250)]) (fun ρ => [(5, { news := [(nb ρ 5, (.cells (kC 0 0 0 0 0 0) 33 (0, 0)))] }), (6, { puts := [(41, nb ρ 5, (.cells (kC 0 0 0 0 0 0) 33 (0, 0)))] })]) (cR [[0]] <| cC (fun _ w => child4_any w) <| cR [[], [], [], [], [41], []] <| cN) (fun _ => ?_)
  refine sD Tryz.f6 [0, 1, 3, 7, 0, 31, 63, 127, 255, 511, 1023] 11 [0] [0] (fun _ => [(U 1), (U 4), (.agg (kC 1 4 0 0 0 0)), (.agg (kC 0 4 0 0 0 0)), (.agg (kC 0 4 0 0 0 0)), (.bool true), (.bool true), (.int .i64 250), (.bool true), (.bool true), (.bool true)]) (fun _ => []) (cC (fun _ w => rfromuint_lit 1 w (by decide)) <| cC (fun _ w => rfromuint_lit 4 w (by decide)) <| cR [[]] <| cC (fun _ w => kneuter_any (Ky.mk 1 4 0 0 0 0) (Ky.Ok.mk (by decide +kernel) (by decide +kernel) (by decide +kernel) (by decide) (by decide)) w) <| cR [[0]] <| cB (a := fun ρ => (.agg (kC 0 4 0 0 0 0))) (b := fun ρ => (.agg (kC 0 4 0 0 0 0))) (v := fun ρ => (.bool true)) .eql 33 (fun _ w => eql_same w) <| cR [[], [], [], [], []] <| cN) (fun _ => ?_)
  refine ok_ret ?_
  exact mR (v := (.bool true)) (fun _ hS => ⟨rfl, hS.bel⟩)
end Go.Proofs.YtjdhjkceahaegaaGreatDoor

/-! How arguments of a law are opened: numbers of 256 bits, digests. -/
namespace Go.Proofs.YtjdhjkceahaegaaGreatDoor
open Go Go.ChangeShapes Go.WideShapes Go.RowKit

theorem okWide_array {P : Program} {w : World} {r : Reach} {base : Nat} {t : TypeId} {v : Value} {n : Nat} {e : TypeId} (ht : P.underlying t = some (.array n e)) (h : Value.okWide P w r base t v) : ∃ cs, v = .agg cs ∧ cs.size = P.cellsOf t := by
  simp only [Value.okWide, ht] at h
  obtain ⟨cs, h1, h2, _⟩ := h
  exact ⟨cs, h1, h2⟩
theorem bounds_of_u64 {n : Int} (h : (Lit.int .u64 n).wf = true) : Word n := by
  simp [Lit.wf, IntKind.min, IntKind.max, IntKind.signed, IntKind.bits] at h
  unfold Word; omega
theorem bounds_of_u8 {n : Int} (h : (Lit.int .u8 n).wf = true) : 0 ≤ n ∧ n < 256 := by
  simp [Lit.wf, IntKind.min, IntKind.max, IntKind.signed, IntKind.bits] at h
  omega
/-- The cells of a row of integers that was read. -/
theorem row_ints {H : Type} {enc : TypeId × Value → H} {P : Program} {w : World} {base : Nat} {spare : Nat → Bool} {held : Bool} {fuel : Nat} {t e : TypeId} {n : Nat} {k : IntKind} {cs : List Value} {x : DataW H × List MemPlace}
    (ht : P.underlying t = some (.array n e)) (he : P.underlying e = some (.int k)) (hce : P.cellsOf e = 1) (h : DataW.trod enc P w base spare held fuel t cs = some x) :
    ∀ i, i < n → ∃ z, cs[i]? = some (.int k z) ∧ (Lit.int k z).wf = true := by
  obtain ⟨xs, m, _, _, _, hl, hg⟩ := DataW.trod_array ht h
  intro i hi
  have h1 := hg i hi
  rw [hce, Nat.mul_one, List.getElem?_eq_getElem (by omega)] at h1
  obtain ⟨z, h2, _, h3⟩ := DataW.trod_int he h1
  refine ⟨z, ?_, h3⟩
  have h4 := congrArg (fun l => l[0]?) h2
  simp at h4
  exact h4
theorem open_U {H : Type} {enc : TypeId × Value → H} {w : World} {r : Reach} {base base' : Nat} {spare : Nat → Bool} {held : Bool} {v : Value} {d : DataW H} {p : List MemPlace}
    (hok : Value.okWide Tryz.prog w r base 29 v) (h : DataW.Trod enc Tryz.prog w base' spare held 29 v d p) : ∃ A, A < M ∧ v = U A := by
  obtain ⟨cs, rfl, hs⟩ := okWide_array Tryz.underlying29 hok
  have hs4 : cs.size = 4 := hs.trans (by kernel_rfl)
  obtain ⟨fuel, hf⟩ := h
  have g := row_ints Tryz.underlying29 Tryz.underlying27 (by kernel_rfl) hf
  obtain ⟨a, ga, wa⟩ := g 0 (by omega)
  obtain ⟨b, gb, wb⟩ := g 1 (by omega)
  obtain ⟨c, gc, wc⟩ := g 2 (by omega)
  obtain ⟨e, gd, wd'⟩ := g 3 (by omega)
  have Wa := bounds_of_u64 wa; have Wb := bounds_of_u64 wb; have Wc := bounds_of_u64 wc; have Wd := bounds_of_u64 wd'
  refine ⟨ofW a b c e, ofW_lt Wa Wb Wc Wd, ?_⟩
  have hcs : cs = #[.int .u64 a, .int .u64 b, .int .u64 c, .int .u64 e] := by
    simp only [Value.cells, Array.getElem?_toList] at ga gb gc gd
    apply Array.ext_getElem?
    intro i
    rcases (by omega : i = 0 ∨ i = 1 ∨ i = 2 ∨ i = 3 ∨ 4 ≤ i) with rfl | rfl | rfl | rfl | hi
    · rw [ga]; rfl
    · rw [gb]; rfl
    · rw [gc]; rfl
    · rw [gd]; rfl
    · rw [Array.getElem?_eq_none (by omega), Array.getElem?_eq_none (by simpa using hi)]
  rw [hcs]
  exact U_of_sum _ Wa Wb Wc Wd (ofW_sum Wa Wb Wc Wd)
/-- The number of a list of bytes, the highest first. -/
def ofBytes (f : Nat → Nat) : Nat → Nat
  | 0 => 0
  | n + 1 => ofBytes f n * 256 + f n
theorem ofBytes_lt (f : Nat → Nat) (hf : ∀ i, f i < 256) : ∀ n, ofBytes f n < 256 ^ n
  | 0 => by simp [ofBytes]
  | n + 1 => by
    have h := ofBytes_lt f hf n
    have := hf n
    rw [ofBytes, Nat.pow_succ]
    omega
theorem ofBytes_get (f : Nat → Nat) (hf : ∀ i, f i < 256) : ∀ n i, i < n → ofBytes f n / 256 ^ (n - 1 - i) % 256 = f i
  | 0, i, h => by omega
  | n + 1, i, h => by
    have hn := hf n
    by_cases e : i = n
    · subst e
      rw [ofBytes]; simp; omega
    · have ih := ofBytes_get f hf n i (by omega)
      have e1 : n + 1 - 1 - i = (n - 1 - i) + 1 := by omega
      rw [ofBytes, e1, Nat.pow_succ, Nat.mul_comm (256 ^ (n - 1 - i)) 256, ← Nat.div_div_eq_div_mul, show (ofBytes f n * 256 + f n) / 256 = ofBytes f n by omega]
      exact ih
theorem open_H {H : Type} {enc : TypeId × Value → H} {w : World} {r : Reach} {base base' : Nat} {spare : Nat → Bool} {held : Bool} {v : Value} {d : DataW H} {p : List MemPlace}
    (hok : Value.okWide Tryz.prog w r base 31 v) (h : DataW.Trod enc Tryz.prog w base' spare held 31 v d p) : ∃ A, A < M ∧ v = .agg (hB A) := by
  obtain ⟨cs, rfl, hs⟩ := okWide_array Tryz.underlying31 hok
  have hs4 : cs.size = 32 := hs.trans (by kernel_rfl)
  obtain ⟨fuel, hf⟩ := h
  have g := row_ints Tryz.underlying31 Tryz.underlying5 (by kernel_rfl) hf
  have g' : ∀ i, ∃ z : Nat, z < 256 ∧ (i < 32 → cs[i]? = some (.int .u8 z)) := by
    intro i
    by_cases hi : i < 32
    · obtain ⟨z, h1, h2⟩ := g i hi
      obtain ⟨b0, b1⟩ := bounds_of_u8 h2
      obtain ⟨z, rfl⟩ := Int.eq_ofNat_of_zero_le b0
      exact ⟨z, by omega, fun _ => by simpa [Value.cells] using h1⟩
    · exact ⟨0, by omega, fun h => absurd h hi⟩
  have hf1 := fun i => (Classical.choose_spec (g' i)).1
  have hf2 := fun i => (Classical.choose_spec (g' i)).2
  generalize (fun i => Classical.choose (g' i)) = f at *
  refine ⟨ofBytes (fun i => Classical.choose (g' i)) 32, ?_, ?_⟩
  · have := ofBytes_lt _ hf1 32
    rw [M_eq]; exact this
  · congr 1
    apply hB_ext hs4
    intro j hj
    rw [hf2 j hj]
    congr 2
    unfold byt
    rw [ofBytes_get _ hf1 32 j hj]
theorem laidOut : laidOutB Tryz.prog = true := by kernel_rfl
theorem own : ownKnob Tryz.prog.godebug = none := by kernel_rfl
end Go.Proofs.YtjdhjkceahaegaaGreatDoor

/-! How arguments of a law are opened: rows of bytes, strings, integers as naturals. -/
namespace Go.Proofs.YtjdhjkceahaegaaGreatDoor
open Go Go.ChangeShapes Go.WideShapes Go.RowKit

theorem nat_of_kind {k : IntKind} (hk : k.signed = false) {x : Int} (h : (Lit.int k x).wf = true) : ∃ n : Nat, x = (n : Int) ∧ n < 2 ^ k.bits := by
  have h0 : k.min ≤ x ∧ x ≤ k.max := by simpa [Lit.wf] using h
  have h1 : k.min = 0 := by cases k <;> first | rfl | exact absurd hk (by decide)
  have h2 : k.max = ((2 ^ k.bits : Nat) : Int) - 1 := by cases k <;> first | rfl | exact absurd hk (by decide)
  exact ⟨x.toNat, by omega, by omega⟩
theorem i64_of {x : Int} (h : (Lit.int .i64 x).wf = true) : -9223372036854775808 ≤ x ∧ x < 9223372036854775808 := by
  simp [Lit.wf, IntKind.min, IntKind.max, IntKind.signed, IntKind.bits] at h
  omega
/-- A slice of bytes that was read. -/
theorem open_bytes {H : Type} {enc : TypeId × Value → H} {w : World} {r : Reach} {base base' : Nat} {held : Bool} {v : Value} {d : DataW H} {p : List MemPlace}
    (hok : Value.okWide Tryz.prog w r base 43 v) (h : DataW.Trod enc Tryz.prog w base' (fun _ => true) held 43 v d p) (hs : ∀ elems spare, d = .slice elems spare → elems.length + spare.length ≤ 140737488351232) :
    ∃ a c xs, v = .slice a (List.length xs) c ∧ Bs w a c xs := by
  obtain ⟨a0, len, cap, rfl⟩ := okWide_slice Tryz.underlying43 hok
  obtain ⟨fuel, hf⟩ := h
  rcases open_ints Tryz.underlying43 Tryz.underlying5 (by kernel_rfl) hf with ⟨hcs, _⟩ | ⟨a, len', cap', zs, hcs, _, hle, _, hlen, hx, hcell, hwf⟩
  · simp [Value.cells] at hcs
    obtain ⟨rfl, rfl, rfl⟩ := hcs
    exact ⟨none, 0, [], rfl, Bs.nil⟩
  · simp [Value.cells] at hcs
    obtain ⟨rfl, rfl, rfl⟩ := hcs
    simp only [if_true] at hlen
    have hd := congrArg Prod.fst hx
    have hsz := hs _ _ hd
    have hsz' : zs.length ≤ 140737488351232 := by simpa [lits, hlen, hle] using hsz
    refine ⟨some a, cap, (zs.take len).map ob, ?_, ?_, ?_, ?_⟩
    · rw [List.length_map, List.length_take, Nat.min_eq_left (by omega)]
    · rw [List.length_map, List.length_take]; omega
    · rw [List.length_map, List.length_take]; omega
    · refine Or.inr ⟨a, rfl, ?_⟩
      intro i u hu
      obtain ⟨x, hx1, rfl⟩ := bs_get hu
      rw [List.getElem?_map] at hx1
      obtain ⟨z, hz, rfl⟩ := Option.map_eq_some_iff.1 hx1
      have hi : i < zs.length := by
        have := (List.getElem?_eq_some_iff.1 hz).1
        rw [List.length_take] at this
        omega
      have hzi : zs.getD i 0 = z := by
        rw [List.getElem?_take] at hz
        split at hz
        · simp [List.getD, hz]
        · exact absurd hz (by simp)
      rw [hcell i hi, hzi]
      have hm : z ∈ zs := by
        have := List.mem_of_getElem? hz
        exact List.mem_of_mem_take this
      have hw := hwf z hm
      simp [Lit.wf, IntKind.min, IntKind.max, IntKind.signed, IntKind.bits] at hw
      rw [bv_ob (by omega)]
theorem open_str {H : Type} {enc : TypeId × Value → H} {w : World} {r : Reach} {base base' : Nat} {sp : Nat → Bool} {held : Bool} {v : Value} {d : DataW H} {p : List MemPlace}
    (hok : Value.okWide Tryz.prog w r base 9 v) (h : DataW.Trod enc Tryz.prog w base' sp held 9 v d p) (hs : ∀ l, d = .lit (.string l) → l.length ≤ 140737488351232) :
    ∃ S, v = .string (strB S) ∧ S.length ≤ 140737488351232 := by
  obtain ⟨s, rfl, rfl, _, _⟩ := Go.ChangeMaps.open_string Tryz.underlying9 hok h
  exact ⟨s.data.toList, by rw [strB_self], hs _ rfl⟩
end Go.Proofs.YtjdhjkceahaegaaGreatDoor

/-! How arguments of a law are opened: structs of numbers and digests. -/
namespace Go.Proofs.YtjdhjkceahaegaaGreatDoor
open Go Go.ChangeShapes Go.WideShapes Go.RowKit

section
variable {H : Type} {enc : TypeId × Value → H} {w : World} {base : Nat} {spare : Nat → Bool} {held : Bool} {fuel : Nat} {cs : List Value} {x : DataW H × List MemPlace}
theorem cells_U (h : DataW.trod enc Tryz.prog w base spare held fuel 29 cs = some x) : ∃ A, A < M ∧ cs = (cU A).toList := by
  have g := row_ints Tryz.underlying29 Tryz.underlying27 (by kernel_rfl) h
  obtain ⟨_, _, _, _, hl, _, _⟩ := DataW.trod_array Tryz.underlying29 h
  have hl4 : cs.length = 4 := hl.trans (by kernel_rfl)
  obtain ⟨a, ga, wa⟩ := g 0 (by omega)
  obtain ⟨b, gb, wb⟩ := g 1 (by omega)
  obtain ⟨c, gc, wc⟩ := g 2 (by omega)
  obtain ⟨e, gd, wd'⟩ := g 3 (by omega)
  have Wa := bounds_of_u64 wa; have Wb := bounds_of_u64 wb; have Wc := bounds_of_u64 wc; have Wd := bounds_of_u64 wd'
  refine ⟨ofW a b c e, ofW_lt Wa Wb Wc Wd, ?_⟩
  have hcs : cs = [.int .u64 a, .int .u64 b, .int .u64 c, .int .u64 e] := by
    match cs, hl4 with
    | [c0, c1, c2, c3], _ =>
      simp only [List.getElem?_cons_zero, List.getElem?_cons_succ, Option.some.injEq] at ga gb gc gd
      rw [ga, gb, gc, gd]
  rw [hcs]
  have hU := U_of_sum _ Wa Wb Wc Wd (ofW_sum Wa Wb Wc Wd)
  have h2 := congrArg (fun v : Value => v.cells.toList) hU
  exact h2
theorem cells_H (h : DataW.trod enc Tryz.prog w base spare held fuel 31 cs = some x) : ∃ A, A < M ∧ cs = (hB A).toList := by
  have g := row_ints Tryz.underlying31 Tryz.underlying5 (by kernel_rfl) h
  obtain ⟨_, _, _, _, hl, _, _⟩ := DataW.trod_array Tryz.underlying31 h
  have hl4 : cs.length = 32 := hl.trans (by kernel_rfl)
  have g' : ∀ i, ∃ z : Nat, z < 256 ∧ (i < 32 → cs[i]? = some (.int .u8 z)) := by
    intro i
    by_cases hi : i < 32
    · obtain ⟨z, h1, h2⟩ := g i hi
      obtain ⟨b0, b1⟩ := bounds_of_u8 h2
      obtain ⟨z, rfl⟩ := Int.eq_ofNat_of_zero_le b0
      exact ⟨z, by omega, fun _ => h1⟩
    · exact ⟨0, by omega, fun h => absurd h hi⟩
  have hf1 := fun i => (Classical.choose_spec (g' i)).1
  have hf2 := fun i => (Classical.choose_spec (g' i)).2
  refine ⟨ofBytes (fun i => Classical.choose (g' i)) 32, ?_, ?_⟩
  · have := ofBytes_lt _ hf1 32
    rw [M_eq]; exact this
  · have e : cs.toArray = hB (ofBytes (fun i => Classical.choose (g' i)) 32) := by
      apply hB_ext (by simpa using hl4)
      intro j hj
      rw [List.getElem?_toArray, hf2 j hj]
      congr 2
      unfold byt
      rw [ofBytes_get _ hf1 32 j hj]
    rw [← e]
theorem cells_int {t : TypeId} {k : IntKind} (ht : Tryz.prog.underlying t = some (.int k)) (h : DataW.trod enc Tryz.prog w base spare held fuel t cs = some x) : ∃ z, cs = [.int k z] ∧ (Lit.int k z).wf = true := by
  obtain ⟨z, h2, _, h3⟩ := DataW.trod_int ht h
  exact ⟨z, h2, h3⟩
theorem field_some {n i : Nat} {f : Field} {fs : Array Field} {xs : List (DataW H × List MemPlace)} (hl : xs.length = fs.size) (hf : fs[i]? = some f) (h : DataW.trod enc Tryz.prog w base spare held n f.type ((cs.drop f.offset).take (Tryz.prog.cellsOf f.type)) = xs[i]?) :
    ∃ y, DataW.trod enc Tryz.prog w base spare held n f.type ((cs.drop f.offset).take (Tryz.prog.cellsOf f.type)) = some y := by
  have hi : i < xs.length := by rw [hl]; exact (Array.getElem?_eq_some_iff.1 hf).1
  exact ⟨xs[i], by rw [h, List.getElem?_eq_getElem hi]⟩
end
theorem take_drop_all {α : Type} (l : List α) (a b : Nat) (h : l.length = a + b) : l = (l.drop 0).take a ++ (l.drop a).take b := by
  rw [List.drop_zero, List.take_of_length_le (i := b) (by rw [List.length_drop]; omega), List.take_append_drop]
theorem parts6 {α : Type} (l : List α) (h : l.length = 43) : l = (((((l.drop 0).take 4 ++ (l.drop 4).take 4) ++ (l.drop 8).take 32) ++ (l.drop 40).take 1) ++ (l.drop 41).take 1) ++ (l.drop 42).take 1 := by
  have e1 : ∀ a b : Nat, l.take a ++ (l.drop a).take b = l.take (a + b) := fun a b => by rw [← List.take_add]
  rw [List.drop_zero, e1, e1, e1, e1, e1]
  exact (List.take_of_length_le (by omega)).symm
theorem open_key {H : Type} {enc : TypeId × Value → H} {w : World} {r : Reach} {base base' : Nat} {spare : Nat → Bool} {held : Bool} {v : Value} {d : DataW H} {p : List MemPlace}
    (hok : Value.okWide Tryz.prog w r base 33 v) (h : DataW.Trod enc Tryz.prog w base' spare held 33 v d p) : ∃ k : Ky, k.Ok ∧ (-9223372036854775808 ≤ k.d ∧ k.d < 9223372036854775808) ∧ v = .agg (kC k.s k.p k.c k.d k.i k.n) := by
  obtain ⟨fs, hu⟩ : ∃ fs, Tryz.prog.underlying 33 = some (.struct fs) := ⟨_, Tryz.underlying33⟩
  obtain ⟨cs, rfl, hs⟩ := okWide_struct hu hok
  obtain ⟨fuel, hf⟩ := h
  obtain ⟨xs, n, _, _, hl, hxl, hg⟩ := DataW.trod_struct Tryz.underlying33 hf
  obtain ⟨y0, h0⟩ := field_some hxl rfl (hg 0 _ rfl)
  obtain ⟨y1, h1⟩ := field_some hxl rfl (hg 1 _ rfl)
  obtain ⟨y2, h2⟩ := field_some hxl rfl (hg 2 _ rfl)
  obtain ⟨y3, h3⟩ := field_some hxl rfl (hg 3 _ rfl)
  obtain ⟨y4, h4⟩ := field_some hxl rfl (hg 4 _ rfl)
  obtain ⟨y5, h5⟩ := field_some hxl rfl (hg 5 _ rfl)
  obtain ⟨S, hS, e0⟩ := cells_U h0
  obtain ⟨Q, hQ, e1⟩ := cells_U h1
  obtain ⟨C, hC, e2⟩ := cells_H h2
  obtain ⟨z3, e3, w3⟩ := cells_int Tryz.underlying3 h3
  obtain ⟨z4, e4, w4⟩ := cells_int Tryz.underlying23 h4
  obtain ⟨z5, e5, w5⟩ := cells_int Tryz.underlying23 h5
  obtain ⟨i4, rfl, b4⟩ := nat_of_kind rfl w4
  obtain ⟨i5, rfl, b5⟩ := nat_of_kind rfl w5
  have q : 2 ^ IntKind.u32.bits = 4294967296 := by decide
  rw [q] at b4 b5
  refine ⟨⟨S, Q, C, z3, i4, i5⟩, ⟨hS, hQ, hC, b4, b5⟩, i64_of w3, ?_⟩
  refine congrArg Value.agg (Array.ext' ?_)
  have hlen : (Value.agg cs).cells.toList.length = 43 := hl.trans (by kernel_rfl)
  have e := parts6 _ hlen
  have c0 : Tryz.prog.cellsOf 29 = 4 := by kernel_rfl
  have c1 : Tryz.prog.cellsOf 31 = 32 := by kernel_rfl
  have c2 : Tryz.prog.cellsOf 3 = 1 := by kernel_rfl
  have c3 : Tryz.prog.cellsOf 23 = 1 := by kernel_rfl
  have f0 : List.take (Tryz.prog.cellsOf 29) (List.drop 0 (Value.agg cs).cells.toList) = (cU S).toList := e0
  have f1 : List.take (Tryz.prog.cellsOf 29) (List.drop 4 (Value.agg cs).cells.toList) = (cU Q).toList := e1
  have f2 : List.take (Tryz.prog.cellsOf 31) (List.drop 8 (Value.agg cs).cells.toList) = (hB C).toList := e2
  have f3 : List.take (Tryz.prog.cellsOf 3) (List.drop 40 (Value.agg cs).cells.toList) = [.int .i64 z3] := e3
  have f4 : List.take (Tryz.prog.cellsOf 23) (List.drop 41 (Value.agg cs).cells.toList) = [.int .u32 i4] := e4
  have f5 : List.take (Tryz.prog.cellsOf 23) (List.drop 42 (Value.agg cs).cells.toList) = [.int .u32 i5] := e5
  rw [c0] at f0 f1
  rw [c1] at f2
  rw [c2] at f3
  rw [c3] at f4 f5
  rw [f0, f1, f2, f3, f4, f5] at e
  refine Eq.trans (show cs.toList = _ from e) ?_
  simp only [kC, Array.toList_append, List.append_assoc, List.cons_append, List.nil_append]
/-- A slice of integers that was read. -/
theorem open_ilist {H : Type} {enc : TypeId × Value → H} {w : World} {r : Reach} {base base' : Nat} {held : Bool} {v : Value} {d : DataW H} {p : List MemPlace} {t e : TypeId} {k : IntKind} (ht : Tryz.prog.underlying t = some (.slice e)) (he : Tryz.prog.underlying e = some (.int k)) (hce : Tryz.prog.cellsOf e = 1)
    (hok : Value.okWide Tryz.prog w r base t v) (h : DataW.Trod enc Tryz.prog w base' (fun _ => true) held t v d p) (hs : ∀ elems spare, d = .slice elems spare → elems.length + spare.length ≤ 140737488351232) :
    ∃ a c zs, v = .slice a (List.length zs) c ∧ Is w k a c zs ∧ ∀ z ∈ zs, (Lit.int k z).wf = true := by
  obtain ⟨a0, len, cap, rfl⟩ := okWide_slice ht hok
  obtain ⟨fuel, hf⟩ := h
  rcases open_ints ht he hce hf with ⟨hcs, _⟩ | ⟨a, len', cap', zs, hcs, _, hle, _, hlen, hx, hcell, hwf⟩
  · simp [Value.cells] at hcs
    obtain ⟨rfl, rfl, rfl⟩ := hcs
    exact ⟨none, 0, [], rfl, Is.nil, by simp⟩
  · simp [Value.cells] at hcs
    obtain ⟨rfl, rfl, rfl⟩ := hcs
    simp only [if_true] at hlen
    have hd := congrArg Prod.fst hx
    have hsz := hs _ _ hd
    have hsz' : zs.length ≤ 140737488351232 := by simpa [lits, hlen, hle] using hsz
    refine ⟨some a, cap, zs.take len, ?_, ⟨?_, ?_, ?_⟩, fun z hz => hwf z (List.mem_of_mem_take hz)⟩
    · rw [List.length_take, Nat.min_eq_left (by omega)]
    · rw [List.length_take]; omega
    · rw [List.length_take]; omega
    · refine Or.inr ⟨a, rfl, ?_⟩
      intro i u hu
      unfold iv at hu
      rw [List.getElem?_map] at hu
      obtain ⟨z, hz, rfl⟩ := Option.map_eq_some_iff.1 hu
      have hi : i < zs.length := by
        have := (List.getElem?_eq_some_iff.1 hz).1
        rw [List.length_take] at this
        omega
      have hzi : zs.getD i 0 = z := by
        rw [List.getElem?_take] at hz
        split at hz
        · simp [List.getD, hz]
        · exact absurd hz (by simp)
      rw [hcell i hi, hzi]
end Go.Proofs.YtjdhjkceahaegaaGreatDoor

/-! What the listed package variables give a walk. -/
namespace Go.Proofs.YtjdhjkceahaegaaGreatDoor
open Go Go.ChangeShapes Go.WideShapes Go.RowKit

def shaLaid : List (String × DataW Unit) := [("lightclient/sha.k", Rows.laid_lightclient_sha_k), ("lightclient/sha.initial", Rows.laid_lightclient_sha_initial)]
def zsK : List Int := kL.map fun (x : Nat) => (x : Int)
def zsI : List Int := [1779033703, 3144134277, 1013904242, 2773480762, 1359893119, 2600822924, 528734635, 1541459225]
theorem kb_tab {W : World} {g : Nat} {zs : List Int} {C : Array Value} (hc : ∀ i, i < zs.length → W.cell? ⟨g, i, none⟩ = some (.int .u32 (zs.getD i 0))) (hC : C = (zs.map (Value.int .u32)).toArray) : Kb W g C := by
  intro i v hv
  rw [hC, List.getElem?_toArray, List.getElem?_map] at hv
  obtain ⟨z, hz, rfl⟩ := Option.map_eq_some_iff.1 hv
  have hi := (List.getElem?_eq_some_iff.1 hz).1
  rw [hc i hi]
  simp [List.getD, hz]
theorem laid_two {W : World} (h : laidMetH Tryz.prog shaLaid W) : Kb W 1 (rowK .u32 64 kN) ∧ Kb W 0 #[.int .u32 1779033703, .int .u32 3144134277, .int .u32 1013904242, .int .u32 2773480762, .int .u32 1359893119, .int .u32 2600822924, .int .u32 528734635, .int .u32 1541459225] := by
  rw [MakeChecks.laidMetH_plain _ _ _ (by kernel_rfl)] at h
  obtain ⟨ps, ⟨g0, t0, cs0, f0, p0, q0, hg0, ht0, hv0, hd0, ⟨g1, t1, cs1, f1, p1, q1, hg1, ht1, hv1, hd1, _, _⟩, _⟩, _, _⟩ := h
  have n0 : Tryz.prog.globalNamed "lightclient/sha.k" = some 1 := by kernel_rfl
  have n1 : Tryz.prog.globalNamed "lightclient/sha.initial" = some 0 := by kernel_rfl
  obtain rfl := Option.some.inj (n0.symm.trans hg0)
  obtain rfl := Option.some.inj (n1.symm.trans hg1)
  obtain rfl := Option.some.inj ((show (Tryz.prog.globals[1]?).map (·.type) = some 94 by kernel_rfl).symm.trans ht0)
  obtain rfl := Option.some.inj ((show (Tryz.prog.globals[0]?).map (·.type) = some 89 by kernel_rfl).symm.trans ht1)
  have d0 : (Rows.laid_lightclient_sha_k : DataW Unit) = Lib.tabData .u32 zsK := by kernel_rfl
  have d1 : (Rows.laid_lightclient_sha_initial : DataW Unit) = Lib.tabData .u32 zsI := by kernel_rfl
  rw [d0] at hd0
  rw [d1] at hd1
  have c0 := Lib.cells_of_tab Tryz.underlying94 Tryz.underlying23 (by kernel_rfl) (by kernel_rfl) hd0
  have c1 := Lib.cells_of_tab Tryz.underlying89 Tryz.underlying23 (by kernel_rfl) (by kernel_rfl) hd1
  have i0 : Lib.TabIs Tryz.prog W "lightclient/sha.k" .u32 zsK := by unfold Lib.TabIs; rw [hv0, ← c0]
  have i1 : Lib.TabIs Tryz.prog W "lightclient/sha.initial" .u32 zsI := by unfold Lib.TabIs; rw [hv1, ← c1]
  exact ⟨kb_tab (fun i hi => i0.cell n0 i hi) (by kernel_rfl), kb_tab (fun i hi => i1.cell n1 i hi) (by kernel_rfl)⟩
theorem door_met (os : Os) (args : Array Value) : laidMetH Tryz.prog shaLaid ((World.doorLaid Tryz.prog 400 os).forCall (fun _ _ => 0) ⟨#[], args, []⟩).memory :=
  laidMetH_of_parts3 (fuel := 8) (laidMet_of_run' 8 (by kernel_rfl) (by kernel_rfl)) (by kernel_rfl) (by kernel_rfl)
end Go.Proofs.YtjdhjkceahaegaaGreatDoor

/-! The codec's types, and what the walks ask of numbers. -/
namespace Go.Proofs.YtjdhjkceahaegaaGreatDoor
open Go Go.RowKit

theorem low_byte (n i : Nat) : IntKind.u8.wrap ((n / 2 ^ (8 * i) : Nat) : Int) = ((n / 256 ^ i % 256 : Nat) : Int) := by
  rw [wrapU rfl, show (256 : Nat) ^ i = 2 ^ (8 * i) by rw [show (256 : Nat) = 2 ^ 8 from rfl, ← Nat.pow_mul]]
  rfl
theorem fill_end {n m i : Nat} (h : i = m) : leB n i ++ List.replicate (m - i) 0 = leB n m := by
  subst h; simp
theorem fill_len {n m i : Nat} (h : i ≤ m) : (leB n i ++ List.replicate (m - i) 0).length = m := by
  rw [List.length_append, leB_length, List.length_replicate]; omega
theorem gB_in {k : IntKind} (hk : k.signed = false) (h8 : 8 ≤ k.bits) (xs : List UInt8) (i : Nat) : k.wrap ((gB xs i : Nat) : Int) = ((gB xs i : Nat) : Int) :=
  wrapU_in hk (Nat.lt_of_lt_of_le (gB_lt xs i) (Nat.pow_le_pow_right (n := 2) (by decide) h8))
theorem pow256 (i : Nat) : (256 : Nat) ^ i = 2 ^ (8 * i) := by rw [show (256 : Nat) = 2 ^ 8 from rfl, ← Nat.pow_mul]
theorem shl_in {k : IntKind} {x i : Nat} (hx : x < 256) (hi : 8 * (i + 1) ≤ k.bits) : x * 2 ^ (8 * i) < 2 ^ k.bits := by
  have h1 : x * 2 ^ (8 * i) < 256 * 2 ^ (8 * i) := Nat.mul_lt_mul_of_pos_right hx (Nat.pow_pos (by decide))
  have h2 : 256 * 2 ^ (8 * i) ≤ 2 ^ k.bits := by
    rw [show (256 : Nat) = 2 ^ 8 from rfl, ← Nat.pow_add]
    exact Nat.pow_le_pow_right (by decide) (by omega)
  omega
theorem run_shl8 {P : Program} {t : TypeId} {k yk : IntKind} (hk : k.signed = false) (xs : List UInt8) (j i : Nat) (hi : 8 * (i + 1) ≤ k.bits) (w : World) : (binOp .shl t (.int k ((gB xs j : Nat) : Int)) (.int yk ((8 * i : Nat) : Int))).run P w = .ok (.int k ((gB xs j * 256 ^ i : Nat) : Int)) w := by
  rw [pow256]
  exact run_shlU hk (shl_in (gB_lt xs j) hi) (fun _ => by omega) w
theorem or_leN {k : IntKind} (hk : k.signed = false) (xs : List UInt8) (a i : Nat) (hi : 8 * (i + 1) ≤ k.bits) : bits .or k ((leN xs a i : Nat) : Int) ((gB xs (a + i) * 256 ^ i : Nat) : Int) = ((leN xs a (i + 1) : Nat) : Int) := by
  have h1 := leN_lt xs a i
  rw [pow256] at h1
  have h2 := shl_in (k := k) (gB_lt xs (a + i)) hi
  rw [bits_orU hk (Nat.lt_of_lt_of_le h1 (Nat.pow_le_pow_right (by decide) (by omega))) (by rw [pow256]; exact h2), leN_or]
end Go.Proofs.YtjdhjkceahaegaaGreatDoor

/-! What the walks of the codec ask of numbers and of lists of bytes. -/
namespace Go.Proofs.YtjdhjkceahaegaaGreatDoor
open Go Go.RowKit

theorem szB_len (n : Nat) : (szB n).length ≤ 9 := by
  unfold szB
  split
  · simp
  · split
    · simp [leB_length]
    · split <;> simp [leB_length]
theorem szB1 {B : List UInt8} {n : Nat} (h : n < 253) : B ++ [ob (n : Int)] = B ++ szB n := by rw [szB, if_pos h]
theorem szB2 {B : List UInt8} {n : Nat} (h : ¬ n < 253) (h2 : n < 65536) : (B ++ [253]) ++ leB n 2 = B ++ szB n := by rw [szB, if_neg h, if_pos h2, List.append_assoc]; rfl
theorem szB4 {B : List UInt8} {n : Nat} (h : ¬ n < 253) (h2 : ¬ n < 65536) (h3 : n < 4294967296) : (B ++ [254]) ++ leB n 4 = B ++ szB n := by rw [szB, if_neg h, if_neg h2, if_pos h3, List.append_assoc]; rfl
theorem szB8 {B : List UInt8} {n : Nat} (h : ¬ n < 253) (h2 : ¬ n < 65536) (h3 : ¬ n < 4294967296) : (B ++ [255]) ++ leB n 8 = B ++ szB n := by rw [szB, if_neg h, if_neg h2, if_neg h3, List.append_assoc]; rfl
theorem leB1 {n : Nat} (h : n < 253) : leB n 1 = [ob (n : Int)] := by
  rw [leB, leB, Nat.pow_zero, Nat.div_one, Nat.mod_eq_of_lt (by omega)]; rfl
theorem szR1 {B : List UInt8} {n : Nat} (h : n < 253) : B ++ leB n 1 = B ++ szB n := by rw [leB1 h]; exact szB1 h
theorem szR2 {B : List UInt8} {n : Nat} (h : ¬ n < 253) (h2 : n < 65536) : B ++ ([253] ++ leB n 2) = B ++ szB n := by rw [← szB2 h h2, List.append_assoc]
theorem szR4 {B : List UInt8} {n : Nat} (h : ¬ n < 253) (h2 : ¬ n < 65536) (h3 : n < 4294967296) : B ++ ([254] ++ leB n 4) = B ++ szB n := by rw [← szB4 h h2 h3, List.append_assoc]
theorem szR8 {B : List UInt8} {n : Nat} (h : ¬ n < 253) (h2 : ¬ n < 65536) (h3 : ¬ n < 4294967296) : B ++ ([255] ++ leB n 8) = B ++ szB n := by rw [← szB8 h h2 h3, List.append_assoc]
/-! ### reads -/
def rdT (k : IntKind) (xs : List UInt8) (z : Int) (m : Nat) : Value := .tuple #[.int k ((rdV xs z m : Nat) : Int), .int .i64 (rdN xs.length z m), .int .i64 (rdE xs.length z m)]
theorem rdT_err {k : IntKind} {xs : List UInt8} {z e : Int} {m : Nat} (h : rdE xs.length z m = e) (he : e ≠ 0) : (.tuple #[.int k 0, .int .i64 0, .int .i64 e] : Value) = rdT k xs z m := by
  have h0 : rdE xs.length z m ≠ 0 := by rw [h]; exact he
  unfold rdT rdV rdN
  rw [if_neg h0, if_neg h0, h]; rfl
theorem rdT_ok {k : IntKind} {xs : List UInt8} {z : Int} {m i : Nat} (h : rdE xs.length z m = 0) (hi : i = m) : (.tuple #[.int k ((leN xs z.toNat i : Nat) : Int), .int .i64 (z + (m : Int)), .int .i64 0] : Value) = rdT k xs z m := by
  subst hi
  unfold rdT rdV rdN
  rw [if_pos h, if_pos h, h]
theorem rdN_rng {n : Nat} (hn : n ≤ 140737488351232) (z : Int) (m : Nat) : 0 ≤ rdN n z m ∧ rdN n z m ≤ n := by
  unfold rdN
  split
  · rename_i h
    have := (rdE_ok (n := n) (a := z) (w := m) (by rw [h]; rfl)).2
    omega
  · omega
theorem rdE_in {n : Nat} {z : Int} {m : Nat} (h : rdE n z m = 0) : 0 ≤ z ∧ z + m ≤ n := (rdE_ok (by rw [h]; rfl)).2
theorem leN_shl (xs : List UInt8) (a : Nat) {k : Nat} (h : k < 8) : leN xs a k * 256 < 18446744073709551616 := by
  have h1 := leN_lt xs a k
  have h2 : 256 ^ k * 256 ≤ 256 ^ 8 := by
    rw [← Nat.pow_succ]; exact Nat.pow_le_pow_right (by decide) h
  have h3 : (256 : Nat) ^ 8 = 18446744073709551616 := by decide
  omega
theorem or_num (xs : List UInt8) (a : Nat) {m k : Nat} (h : k < m) (hm : m ≤ 8) : bits .or .u64 ((leN xs (a + (m - k)) k * 256 : Nat) : Int) ((gB xs (a + (m - 1 - k)) : Nat) : Int) = ((leN xs (a + (m - (k + 1))) (k + 1) : Nat) : Int) := by
  have h1 := leN_shl xs (a + (m - k)) (k := k) (by omega)
  have h2 := gB_lt xs (a + (m - 1 - k))
  rw [bits_orU rfl h1 (Nat.lt_of_lt_of_le h2 (by decide)), or_first _ _ h2, leN_first, show a + (m - (k + 1)) + 1 = a + (m - k) by omega, show a + (m - (k + 1)) = a + (m - 1 - k) by omega, Nat.mul_comm]
theorem run_num8 {P : Program} {t : TypeId} (xs : List UInt8) (a : Nat) {k : Nat} (h : k < 8) (w : World) : (binOp .shl t (.int .u64 ((leN xs a k : Nat) : Int)) (.int .u64 8)).run P w = .ok (.int .u64 ((leN xs a k * 256 : Nat) : Int)) w :=
  run_shlU (k := .u64) (yk := .u64) (x := leN xs a k) (c := 8) rfl (leN_shl xs a h) (fun _ => by decide) w
theorem num_end {xs : List UInt8} {a m k : Nat} (h : k = m) : leN xs (a + (m - k)) k = leN xs a m := by subst h; simp
/-! ### sizes that are read -/
theorem sz_err1 {B : List UInt8} {z : Int} {q : Nat} {e : Int} (h : rdE B.length z 1 = e) (he : e ≠ 0) : szR B z q = (0, 0, e) := by
  subst h
  rw [szR, if_pos he]
theorem sz_lim1 {B : List UInt8} {z : Int} {q : Nat} (h : rdE B.length z 1 = 0) (hm : rdV B z 1 < 253) (hq : q < rdV B z 1) : szR B z q = (0, 0, 4) := by
  rw [szR, if_neg (by simp [h]), if_pos hm, if_pos hq]
theorem sz_ok1 {B : List UInt8} {z : Int} {q : Nat} (h : rdE B.length z 1 = 0) (hm : rdV B z 1 < 253) (hq : ¬ q < rdV B z 1) : szR B z q = (rdV B z 1, rdN B.length z 1, 0) := by
  rw [szR, if_neg (by simp [h]), if_pos hm, if_neg hq]
section
variable {B : List UInt8} {z : Int} {q m w l : Nat} {e : Int} (h : rdE B.length z 1 = 0) (hm : rdV B z 1 = m) (h3 : 253 ≤ m) (hw : 2 ^ (m - 252) = w) (hl : szLeast m = l)
include h hm h3 hw
theorem sz_err2 (he : rdE B.length (rdN B.length z 1) w = e) (h0 : e ≠ 0) : szR B z q = (0, 0, e) := by
  subst he
  rw [szR, if_neg (by simp [h]), hm, if_neg (by omega), hw, if_pos h0]
include hl
theorem sz_can2 (he : rdE B.length (rdN B.length z 1) w = 0) (h4 : rdV B (rdN B.length z 1) w < l) : szR B z q = (0, 0, 3) := by
  rw [szR, if_neg (by simp [h]), hm, if_neg (by omega), hw, hl, if_neg (by simp [he]), if_pos h4]
theorem sz_lim2 (he : rdE B.length (rdN B.length z 1) w = 0) (h4 : ¬ rdV B (rdN B.length z 1) w < l) (hq : q < rdV B (rdN B.length z 1) w) : szR B z q = (0, 0, 4) := by
  rw [szR, if_neg (by simp [h]), hm, if_neg (by omega), hw, hl, if_neg (by simp [he]), if_neg h4, if_pos hq]
theorem sz_ok2 (he : rdE B.length (rdN B.length z 1) w = 0) (h4 : ¬ rdV B (rdN B.length z 1) w < l) (hq : ¬ q < rdV B (rdN B.length z 1) w) : szR B z q = (rdV B (rdN B.length z 1) w, rdN B.length (rdN B.length z 1) w, 0) := by
  rw [szR, if_neg (by simp [h]), hm, if_neg (by omega), hw, hl, if_neg (by simp [he]), if_neg h4, if_neg hq]
end
theorem small_mark {x : Nat} (h3 : ((x : Int) == ((253 : Nat) : Int)) = false) (h4 : ((x : Int) == ((254 : Nat) : Int)) = false) (h5 : ((x : Int) == ((255 : Nat) : Int)) = false) (h : x < 256) : x < 253 := by
  have := neN h3; have := neN h4; have := neN h5; omega
theorem mark_255 {x : Nat} (h : x < 256) (h0 : decide (253 ≤ (x : Int)) = true) (h3 : ((x : Int) == ((253 : Nat) : Int)) = false) (h4 : ((x : Int) == ((254 : Nat) : Int)) = false) : ((x : Int) == ((255 : Nat) : Int)) = true := by
  have := neN h3; have := neN h4; have := of_decide_eq_true h0
  obtain rfl : x = 255 := by omega
  rfl
theorem beq_other {x k j : Nat} (h : x = k) (hj : k ≠ j) : ((x : Int) == (j : Int)) = false := by
  subst h
  have : ¬ ((x : Int) = (j : Int)) := by omega
  simpa using this
theorem szLeast_253 {x : Nat} (h : x = 253) : szLeast x = 253 := by subst h; rfl
theorem szLeast_254 {x : Nat} (h : x = 254) : szLeast x = 65536 := by subst h; rfl
theorem szLeast_255 {x : Nat} (h : x = 255) : szLeast x = 4294967296 := by subst h; rfl
theorem szLeast_0 {x : Nat} (h3 : x ≠ 253) (h4 : x ≠ 254) : szLeast x = 4294967296 := by rw [szLeast, if_neg h3, if_neg h4]
theorem u64_sub253 {x : Nat} (h : x < 256) (h3 : 253 ≤ x) : IntKind.u64.wrap ((x : Int) - 253) = ((x - 253 : Nat) : Int) := by
  rw [show (x : Int) - 253 = ((x - 253 : Nat) : Int) by omega]
  exact u64N (by omega)
theorem szw_le {m : Nat} (h : m < 256) : 2 ^ (m - 252) ≤ 8 := by
  have : m - 252 ≤ 3 := by omega
  exact Nat.pow_le_pow_right (n := 2) (by decide) this
theorem run_shl_sz {P : Program} {t : TypeId} {m : Nat} (h : m < 256) (h3 : 253 ≤ m) (w : World) : (binOp .shl t (.int .i64 2) (.int .u64 ((m - 253 : Nat) : Int))).run P w = .ok (.int .i64 ((2 ^ (m - 252) : Nat) : Int)) w := by
  rcases (by omega : m = 253 ∨ m = 254 ∨ m = 255) with rfl | rfl | rfl <;> rfl
theorem szN_rng {B : List UInt8} (hB : B.length ≤ 140737488351232) (z : Int) (q : Nat) : 0 ≤ szN B z q ∧ szN B z q ≤ B.length := by
  have key := rdN_rng hB
  have h0 : (0 : Int) ≤ 0 ∧ (0 : Int) ≤ B.length := by omega
  unfold szN szR
  split
  · exact h0
  · split
    · split
      · exact h0
      · exact key _ _
    · split
      · exact h0
      · split
        · exact h0
        · split
          · exact h0
          · exact key _ _
theorem szN_zero {B : List UInt8} {z : Int} {q : Nat} (h : szE B z q ≠ 0) : szN B z q = 0 ∧ szV B z q = 0 := by
  unfold szE at h
  unfold szN szV
  unfold szR at h ⊢
  split at h <;> rename_i h1
  · rw [if_pos h1]; exact ⟨rfl, rfl⟩
  · rw [if_neg h1]
    split at h <;> rename_i h2
    · rw [if_pos h2]
      split at h <;> rename_i h3
      · rw [if_pos h3]; exact ⟨rfl, rfl⟩
      · exact absurd rfl h
    · rw [if_neg h2]
      split at h <;> rename_i h3
      · rw [if_pos h3]; exact ⟨rfl, rfl⟩
      · rw [if_neg h3]
        split at h <;> rename_i h4
        · rw [if_pos h4]; exact ⟨rfl, rfl⟩
        · rw [if_neg h4]
          split at h <;> rename_i h5
          · rw [if_pos h5]; exact ⟨rfl, rfl⟩
          · exact absurd rfl h
/-! ### byte strings that are read -/
def byR (B : List UInt8) (z y : Int) : List UInt8 × Int × Int :=
  if y < 0 then ([], 0, 5) else
  if szE B z y.toNat ≠ 0 then ([], 0, szE B z y.toNat) else
  if B.length - (szN B z y.toNat).toNat < szV B z y.toNat then ([], 0, 1) else
  (mid B (szN B z y.toNat).toNat ((szN B z y.toNat).toNat + szV B z y.toNat), szN B z y.toNat + szV B z y.toNat, 0)
def byX (B : List UInt8) (z y : Int) : List UInt8 := (byR B z y).1
def byN (B : List UInt8) (z y : Int) : Int := (byR B z y).2.1
def byE (B : List UInt8) (z y : Int) : Int := (byR B z y).2.2
theorem by_x {B : List UInt8} {z y : Int} {xs : List UInt8} {n e : Int} (h : byR B z y = (xs, n, e)) : xs = byX B z y := by unfold byX; rw [h]
theorem by_v {B : List UInt8} {z y : Int} {xs : List UInt8} {n e : Int} {a : Option Addr} {c : Nat} (h : byR B z y = (xs, n, e)) : (.tuple #[.slice a xs.length c, .int .i64 n, .int .i64 e] : Value) = .tuple #[.slice a (byX B z y).length c, .int .i64 (byN B z y), .int .i64 (byE B z y)] := by
  unfold byX byN byE; rw [h]
theorem by5 {B : List UInt8} {z y : Int} (h : y < 0) : byR B z y = ([], 0, 5) := if_pos h
theorem byS {B : List UInt8} {z y : Int} (h : ¬ y < 0) (h1 : szE B z y.toNat ≠ 0) : byR B z y = ([], 0, szE B z y.toNat) := by rw [byR, if_neg h, if_pos h1]
theorem by1 {B : List UInt8} {z y : Int} (h : ¬ y < 0) (h1 : szE B z y.toNat = 0) (h2 : B.length - (szN B z y.toNat).toNat < szV B z y.toNat) : byR B z y = ([], 0, 1) := by rw [byR, if_neg h, if_neg (by simp [h1]), if_pos h2]
theorem by0 {B : List UInt8} {z y : Int} (h : ¬ y < 0) (h1 : szE B z y.toNat = 0) (h2 : ¬ B.length - (szN B z y.toNat).toNat < szV B z y.toNat) : byR B z y = (mid B (szN B z y.toNat).toNat ((szN B z y.toNat).toNat + szV B z y.toNat), szN B z y.toNat + szV B z y.toNat, 0) := by rw [byR, if_neg h, if_neg (by simp [h1]), if_neg h2]
def hsV (B : List UInt8) (z : Int) : Nat := if rdE B.length z 32 = 0 then nB ((mid B z.toNat B.length).take 32) else 0
theorem hs_err {B : List UInt8} {z e : Int} (h : rdE B.length z 32 = e) (he : e ≠ 0) : (.tuple #[.agg (hB 0), .int .i64 0, .int .i64 e] : Value) = .tuple #[.agg (hB (hsV B z)), .int .i64 (rdN B.length z 32), .int .i64 (rdE B.length z 32)] := by
  have h0 : rdE B.length z 32 ≠ 0 := by rw [h]; exact he
  unfold hsV rdN
  rw [if_neg h0, if_neg h0, h]
theorem hs_ok {B : List UInt8} {z : Int} (h : rdE B.length z 32 = 0) : (.tuple #[.agg (hB (nB ((mid B z.toNat B.length).take 32))), .int .i64 (z + 32), .int .i64 0] : Value) = .tuple #[.agg (hB (hsV B z)), .int .i64 (rdN B.length z 32), .int .i64 (rdE B.length z 32)] := by
  unfold hsV rdN
  rw [if_pos h, if_pos h, h]; rfl
theorem hsV_lt {B : List UInt8} {z : Int} : hsV B z < M := by
  unfold hsV
  split
  · rename_i h
    have := rdE_in h
    refine nB_M ?_
    rw [List.length_take, mid_length _ _ _ (Nat.le_refl _)]
    omega
  · rw [M_eq]; decide
/-! ### the end -/
def enE (n : Nat) (z : Int) : Int := if z < 0 ∨ (n : Int) < z then 5 else if z < (n : Int) then 2 else 0
theorem en5 {n : Nat} {z : Int} (h : z < 0 ∨ (n : Int) < z) : enE n z = 5 := if_pos h
theorem en2 {n : Nat} {z : Int} (h : ¬ (z < 0 ∨ (n : Int) < z)) (h1 : z < (n : Int)) : enE n z = 2 := by rw [enE, if_neg h, if_pos h1]
theorem en0 {n : Nat} {z : Int} (h : ¬ (z < 0 ∨ (n : Int) < z)) (h1 : ¬ z < (n : Int)) : enE n z = 0 := by rw [enE, if_neg h, if_neg h1]
end Go.Proofs.YtjdhjkceahaegaaGreatDoor

/-! The codec appends: the walks that trees of keys need. -/
namespace Go.Proofs.YtjdhjkceahaegaaGreatDoor
open Go Go.RowKit

theorem extend_any (a : Option Addr) (c : Nat) (B : List UInt8) (a2 : Option Addr) (c2 : Nat) (S : List UInt8) (hl : B.length + S.length ≤ 140737488351232) (w0 : World) (hf0 : Bs w0 a c B) (hf1 : Bs w0 a2 c2 S) : Calls Tryz.prog 70 #[(.slice a (B).length c), (.slice a2 (S).length c2)] w0 (fun ε w' => ∃ α κ, ε = .returned (.slice α (B ++ S).length κ) ∧ Below w0.heap.size w0 w' ∧ Fs w0 w' α κ (B ++ S)) := by
  refine Calls.of_ok (n := 18) (F := (fun w => Bs w a c B ∧ Bs w a2 c2 S ∧ True)) Tryz.func70 rfl rfl rfl (by simp) (hf0.pers0.and (hf1.pers0.and persT)) ?_
  refine sS Tryz.f70 1 [0, 1, 4] [] (fun _ => [(.slice none 0 0)]) (fun _ => []) (cR [[]] <| cN) (fun _ => ?_)
  refine sS Tryz.f70 7 [0, 1, 4, 5] [] (fun ρ => [(.slice a (B).length c), (.int .i64 (((B).length : Nat) : Int)), (.slice a2 (S).length c2), (.int .i64 (((S).length : Nat) : Int)), (.int .i64 ((((B).length) + ((S).length) : Nat) : Int)), (.slice (some ⟨nb ρ 5, 0, none⟩) (([] : List UInt8)).length (((B).length) + ((S).length))), (.slice (some ⟨nb ρ 5, 0, none⟩) (([] : List UInt8)).length (((B).length) + ((S).length)))]) (fun ρ => [(5, { news := [(nb ρ 5, (.cells (zB (((B).length) + ((S).length))) 5 (0, 0)))] })]) (cR [[], [], [], []] <| cA (v := fun ρ => (.int .i64 (IntKind.i64.wrap ((((B).length : Nat) : Int) + (((S).length : Nat) : Int))))) (fun _ => (.int .i64 ((((B).length) + ((S).length) : Nat) : Int))) (fun _ => congrArg (Value.int .i64) (wrap_addN ((B).length) ((S).length) (by have := hl; omega))) <| cX (o_new1 _ (fun _ => do pure (Next.value (← Instr.makeSlice 43 (.int .i64 0) (.int .i64 ((((B).length) + ((S).length) : Nat) : Int))))) (fun _ z => (.slice (some ⟨z.headD 0, 0, none⟩) (([] : List UInt8)).length (((B).length) + ((S).length)))) (fun _ _ => (.cells (zB (((B).length) + ((S).length))) 5 (0, 0))) (fun _ _ => (by kernel_rfl)) (fun _ => (by kernel_rfl)) (fun _ _ => trivial) (fun _ _ w _ => make_rowL Tryz.underlying43 u8i (([] : List UInt8)) (rfl) (rfl) (Nat.zero_le _) hl w)) <| cR [[]] <| cN) (fun ρ2 => ?_)
  refine sS Tryz.f70 4 [1, 4, 5] [] (fun _ => [(.slice (some ⟨nb ρ2 5, 0, none⟩) (([] : List UInt8)).length (((B).length) + ((S).length))), (.slice a (B).length c), (.slice (some ⟨nb ρ2 5, 0, none⟩) (([] : List UInt8) ++ B).length (((B).length) + ((S).length))), (.slice (some ⟨nb ρ2 5, 0, none⟩) (([] : List UInt8) ++ B).length (((B).length) + ((S).length)))]) (fun _ => [(2, { puts := [(0, nb ρ2 5, (.cells (inpl (zB (((B).length) + ((S).length))) (([] : List UInt8)).length (bs B)) 5 (0, 0)))] })]) (cR [[], []] <| cX (o_put1 _ 0 (fun _ => do pure (Next.value (← Builtin.append_ #[43, 43] 43 #[(.slice (some ⟨nb ρ2 5, 0, none⟩) (([] : List UInt8)).length (((B).length) + ((S).length))), (.slice a (B).length c)]))) (fun _ => nb ρ2 5) (fun _ => (.cells (zB (((B).length) + ((S).length))) 5 (0, 0))) (fun _ => (.cells (inpl (zB (((B).length) + ((S).length))) (([] : List UInt8)).length (bs B)) 5 (0, 0))) (fun _ => (.slice (some ⟨nb ρ2 5, 0, none⟩) (([] : List UInt8) ++ B).length (((B).length) + ((S).length)))) (fun _ => (by kernel_rfl)) (fun _ => (by kernel_rfl)) (fun _ => (by kernel_rfl)) (fun _ => (by kernel_rfl)) (fun _ _ => trivial) (fun _ _ _ hG hg => app_roomL Tryz.underlying43 u8i hg (Bs.src (tx := 43) Tryz.underlying43 hG.facts0.now.1) (zB_size _) ((by simp only [List.length_nil]; omega)))) <| cR [[]] <| cN) (fun _ => ?_)
  refine sS Tryz.f70 4 [4] [] (fun _ => [(.slice (some ⟨nb ρ2 5, 0, none⟩) (([] : List UInt8) ++ B).length (((B).length) + ((S).length))), (.slice a2 (S).length c2), (.slice (some ⟨nb ρ2 5, 0, none⟩) ((([] : List UInt8) ++ B) ++ S).length (((B).length) + ((S).length))), (.slice (some ⟨nb ρ2 5, 0, none⟩) ((([] : List UInt8) ++ B) ++ S).length (((B).length) + ((S).length)))]) (fun _ => [(2, { puts := [(0, nb ρ2 5, (.cells (inpl (inpl (zB (((B).length) + ((S).length))) (([] : List UInt8)).length (bs B)) (([] : List UInt8) ++ B).length (bs S)) 5 (0, 0)))] })]) (cR [[], []] <| cX (o_put1 _ 0 (fun _ => do pure (Next.value (← Builtin.append_ #[43, 43] 43 #[(.slice (some ⟨nb ρ2 5, 0, none⟩) (([] : List UInt8) ++ B).length (((B).length) + ((S).length))), (.slice a2 (S).length c2)]))) (fun _ => nb ρ2 5) (fun _ => (.cells (inpl (zB (((B).length) + ((S).length))) (([] : List UInt8)).length (bs B)) 5 (0, 0))) (fun _ => (.cells (inpl (inpl (zB (((B).length) + ((S).length))) (([] : List UInt8)).length (bs B)) (([] : List UInt8) ++ B).length (bs S)) 5 (0, 0))) (fun _ => (.slice (some ⟨nb ρ2 5, 0, none⟩) ((([] : List UInt8) ++ B) ++ S).length (((B).length) + ((S).length)))) (fun _ => (by kernel_rfl)) (fun _ => (by kernel_rfl)) (fun _ => (by kernel_rfl)) (fun _ => (by kernel_rfl)) (fun _ _ => trivial) (fun _ _ _ hG hg => app_roomL Tryz.underlying43 u8i hg (Bs.src (tx := 43) Tryz.underlying43 hG.facts0.now.2.1) ((inpl_size _ _ _ (room_le (zB_size _) ((by simp only [List.length_nil]; omega)))).trans (zB_size _)) ((Nat.le_refl _)))) <| cR [[]] <| cN) (fun _ => ?_)
  refine ok_ret ?_
  refine mD [(4, (.slice (some ⟨nb ρ2 5, 0, none⟩) ((([] : List UInt8) ++ B) ++ S).length (((B).length) + ((S).length))))] [(nb ρ2 5, (.cells (inpl (inpl (zB (((B).length) + ((S).length))) (([] : List UInt8)).length (bs B)) (([] : List UInt8) ++ B).length (bs S)) 5 (0, 0)))] ?_
  exact mR (v := (.slice (some ⟨nb ρ2 5, 0, none⟩) ((([] : List UInt8) ++ B) ++ S).length (((B).length) + ((S).length)))) (fun _ hS => ⟨(some ⟨nb ρ2 5, 0, none⟩), ((B).length) + ((S).length), congrArg Ending.returned (rfl), hS.bel, fs_eq (rfl) (hS.fresh (.head _) (Hd.inpl (Hd.inpl (Hd.nil _) rfl) rfl) (len_app ((Nat.le_refl _))) (len_app (hl)))⟩)

theorem lowest_any (n : Nat) (m : Nat) (hn : n < 18446744073709551616) (hm : m ≤ 8) (w0 : World) : Calls Tryz.prog 71 #[(.int .u64 ((n : Nat) : Int)), (.int .i64 ((m : Nat) : Int))] w0 (fun ε w' => ∃ α κ, ε = .returned (.slice α (leB n m).length κ) ∧ Below w0.heap.size w0 w' ∧ Fs w0 w' α κ (leB n m)) := by
  refine Calls.of_ok (n := 23) (F := (fun _ => True)) Tryz.func71 rfl rfl rfl (by simp) (persTrue (fun _ => trivial)) ?_
  refine sS Tryz.f71 1 [0, 1, 4] [] (fun _ => [(.slice none 0 0)]) (fun _ => []) (cR [[]] <| cN) (fun _ => ?_)
  refine sS Tryz.f71 3 [0, 1, 4, 5] [] (fun ρ => [(.int .i64 ((m : Nat) : Int)), (.slice (some ⟨nb ρ 1, 0, none⟩) (List.replicate m (0 : UInt8)).length m), (.slice (some ⟨nb ρ 1, 0, none⟩) (List.replicate m (0 : UInt8)).length m)]) (fun ρ => [(1, { news := [(nb ρ 1, (.cells (zB m) 5 (0, 0)))] })]) (cR [[]] <| cX (o_new1 _ (fun _ => do pure (Next.value (← Instr.makeSlice 43 (.int .i64 ((m : Nat) : Int)) (.int .i64 ((m : Nat) : Int))))) (fun _ z => (.slice (some ⟨z.headD 0, 0, none⟩) (List.replicate m (0 : UInt8)).length m)) (fun _ _ => (.cells (zB m) 5 (0, 0))) (fun _ _ => (by kernel_rfl)) (fun _ => (by kernel_rfl)) (fun _ _ => trivial) (fun _ _ w _ => make_rowL Tryz.underlying43 u8i (List.replicate m (0 : UInt8)) ((rfl).trans (by rw [List.length_replicate])) (rfl) (by rw [List.length_replicate]; exact Nat.le_refl _) (by have := hm; omega) w)) <| cR [[]] <| cN) (fun ρ2 => ?_)
  refine ok_seq ?_
  refine sS Tryz.f71 2 [0, 4, 5, 9, 10] [] (fun _ => [(.int .i64 ((m : Nat) : Int)), (.int .i64 0)]) (fun _ => []) (cR [[], []] <| cN) (fun _ => ?_)
  refine ok_block ?_
  refine oL (σ := Nat) (fun i => [(0, (.int .u64 ((n : Nat) : Int))), (4, (.slice none 0 0)), (5, (.slice (some ⟨nb ρ2 1, 0, none⟩) (List.replicate m (0 : UInt8)).length m)), (9, (.int .i64 ((m : Nat) : Int))), (10, (.int .i64 ((i : Nat) : Int)))]) (fun i => [(nb ρ2 1, (.cells (fillC n m i) 5 (0, 0)))]) (fun i => m - i)
    (fun i => (i ≤ m)) 0 (Nat.zero_le m) [] ?_
  rintro i hi
  change Ok Tryz.prog _ _ 23 [(0, (.int .u64 ((n : Nat) : Int))), (4, (.slice none 0 0)), (5, (.slice (some ⟨nb ρ2 1, 0, none⟩) (List.replicate m (0 : UInt8)).length m)), (9, (.int .i64 ((m : Nat) : Int))), (10, (.int .i64 ((i : Nat) : Int)))] _ [(nb ρ2 1, (.cells (fillC n m i) 5 (0, 0)))] (fun _ => True)
  refine sS Tryz.f71 1 [0, 4, 5, 9, 10, 11] [] (fun _ => [(.bool (decide (((i : Nat) : Int) < ((m : Nat) : Int))))]) (fun _ => []) (cR [[]] <| cN) (fun _ => ?_)
  refine ok_seq ?_
  refine oC (decide (((i : Nat) : Int) < ((m : Nat) : Int))) (fun hb1 => ?_) (fun hb1 => ?_)
  ·
    rw [hb1]
    refine ok_skip ?_
    refine mt_then ?_
    refine ok_seq ?_
    refine ok_block ?_
    refine sS Tryz.f71 2 [0, 4, 5, 6, 9, 10] [] (fun _ => [(.int .i64 ((i : Nat) : Int)), (.int .i64 ((i : Nat) : Int))]) (fun _ => []) (cR [[], []] <| cN) (fun _ => ?_)
    refine rS Tryz.f71 9 [0, 4, 5, 9, 10] [] (fun _ => [(.slice (some ⟨nb ρ2 1, 0, none⟩) (List.replicate m (0 : UInt8)).length m), (.int .i64 ((i : Nat) : Int)), (.int .u64 ((n : Nat) : Int)), (.int .i64 ((i : Nat) : Int)), (.int .i64 ((8 * i : Nat) : Int)), (.int .u64 ((n / 2 ^ (8 * i) : Nat) : Int)), (.int .u8 ((n / 256 ^ i % 256 : Nat) : Int)), (.pointer (some ⟨nb ρ2 1, i, none⟩)), undef]) (fun _ => [(8, { puts := [(0, nb ρ2 1, (.cells (fillC n m (i + 1)) 5 (0, 0)))] })]) (cR [[], [], [], []] <| cA (v := fun ρ => (.int .i64 (IntKind.i64.wrap (8 * ((i : Nat) : Int))))) (fun _ => (.int .i64 ((8 * i : Nat) : Int))) (fun _ => congrArg (Value.int .i64) (wrap_mulN 8 i (by have := of_decide_eq_true hb1; have := hm; have := List.length_replicate (n := m) (a := (0 : UInt8)); have := hi; omega))) <| cB (a := fun ρ => (.int .u64 ((n : Nat) : Int))) (b := fun ρ => (.int .i64 ((8 * i : Nat) : Int))) (v := fun ρ => (.int .u64 ((n / 2 ^ (8 * i) : Nat) : Int))) .shr 27 (fun _ w => run_shrU (k := .u64) hn w) <| cA (fun _ => (.int .u8 ((n / 256 ^ i % 256 : Nat) : Int))) (fun _ => congrArg (Value.int .u8) (low_byte n i)) <| cX (o_sem _ (fun _ => do pure (Next.value (← Instr.indexAt 43 (.slice (some ⟨nb ρ2 1, 0, none⟩) (List.replicate m (0 : UInt8)).length m) (.int .i64 ((i : Nat) : Int))))) (fun _ => (.pointer (some ⟨nb ρ2 1, i, none⟩))) (fun _ => (by kernel_rfl)) (fun _ => (by kernel_rfl)) (fun _ w => idx_row Tryz.underlying43 u8i ((show ((i : Nat) : Int) = ((i : Nat) : Int) ∧ i < (List.replicate m (0 : UInt8)).length from ⟨rfl, (by rw [List.length_replicate]; have := of_decide_eq_true hb1; have := hm; have := List.length_replicate (n := m) (a := (0 : UInt8)); have := hi; omega)⟩)).1 ((show ((i : Nat) : Int) = ((i : Nat) : Int) ∧ i < (List.replicate m (0 : UInt8)).length from ⟨rfl, (by rw [List.length_replicate]; have := of_decide_eq_true hb1; have := hm; have := List.length_replicate (n := m) (a := (0 : UInt8)); have := hi; omega)⟩)).2 w)) <| cX (o_st _ 0 5 (fun _ => nb ρ2 1) (fun _ => i) (fun _ => (fillC n m i)) (fun _ => (fillC n m (i + 1))) 5 (fun _ => (.int .u8 ((n / 256 ^ i % 256 : Nat) : Int))) (fun _ => by kernel_rfl) Tryz.sizeOf5 (fun _ => rfl) (fun _ => (by rw [fill_size hi]; have := of_decide_eq_true hb1; have := hm; have := List.length_replicate (n := m) (a := (0 : UInt8)); have := hi; omega)) (fun _ => (fill_set (by have := of_decide_eq_true hb1; have := hm; have := List.length_replicate (n := m) (a := (0 : UInt8)); have := hi; omega)))) <| cN) (fun _ => ?_)
    refine mt_block_n ?_
    refine mt_then ?_
    refine rS Tryz.f71 2 [0, 4, 5, 9, 10] [] (fun _ => [(.int .i64 ((i + 1 : Nat) : Int)), (.int .i64 ((i + 1 : Nat) : Int))]) (fun _ => []) (cA (v := fun ρ => (.int .i64 (IntKind.i64.wrap (((i : Nat) : Int) + 1)))) (fun _ => (.int .i64 ((i + 1 : Nat) : Int))) (fun _ => congrArg (Value.int .i64) (wrap_addN i 1 (by have := of_decide_eq_true hb1; have := hm; have := List.length_replicate (n := m) (a := (0 : UInt8)); have := hi; omega))) <| cR [[]] <| cN) (fun _ => ?_)
    exact mN (i + 1) (by show m - (i + 1) < m - i; have := of_decide_eq_true hb1; have := hm; have := List.length_replicate (n := m) (a := (0 : UInt8)); have := hi; omega) (by show i + 1 ≤ m; have := of_decide_eq_true hb1; have := hm; have := List.length_replicate (n := m) (a := (0 : UInt8)); have := hi; omega) []
  ·
    rw [hb1]
    refine ok_exit ?_
    refine mt_then_e ?_
    refine mt_then_e ?_
    refine mt_block_h ?_
    refine mt_then ?_
    refine sS Tryz.f71 2 [4] [] (fun _ => [(.slice (some ⟨nb ρ2 1, 0, none⟩) (List.replicate m (0 : UInt8)).length m), (.slice (some ⟨nb ρ2 1, 0, none⟩) (List.replicate m (0 : UInt8)).length m)]) (fun _ => []) (cR [[], []] <| cN) (fun _ => ?_)
    refine ok_ret ?_
    refine mD [(4, (.slice (some ⟨nb ρ2 1, 0, none⟩) (List.replicate m (0 : UInt8)).length m))] [(nb ρ2 1, (.cells (fillC n m i) 5 (0, 0)))] ?_
    exact mR (v := (.slice (some ⟨nb ρ2 1, 0, none⟩) (List.replicate m (0 : UInt8)).length m)) (fun _ hS => ⟨(some ⟨nb ρ2 1, 0, none⟩), m, congrArg Ending.returned (by rw [List.length_replicate, leB_length]), hS.bel, fs_eq (fill_end (by have := of_decide_eq_false hb1; have := hm; have := List.length_replicate (n := m) (a := (0 : UInt8)); have := hi; omega)) (hS.fresh (.head _) (Hd.all _) (Nat.le_of_eq (fill_len hi)) (by rw [fill_len hi]; have := hm; omega))⟩)

theorem little_any (n : Nat) (m : Nat) (hn : n < 18446744073709551616) (hm : m ≤ 8) (w0 : World) : Calls Tryz.prog 68 #[(.int .u64 ((n : Nat) : Int)), (.int .i64 ((m : Nat) : Int))] w0 (fun ε w' => ∃ α κ, ε = .returned (.slice α (leB n m).length κ) ∧ Below w0.heap.size w0 w' ∧ Fs w0 w' α κ (leB n m)) := by
  refine Calls.of_ok (n := 24) (F := (fun _ => True)) Tryz.func68 rfl rfl rfl (by simp) (persTrue (fun _ => trivial)) ?_
  refine sS Tryz.f68 1 [0, 1, 4] [] (fun _ => [(.slice none 0 0)]) (fun _ => []) (cR [[]] <| cN) (fun _ => ?_)
  refine sS Tryz.f68 3 [0, 4, 5] [] (fun ρ => [(.int .i64 ((m : Nat) : Int)), (.slice (some ⟨nb ρ 1, 0, none⟩) (List.replicate m (0 : UInt8)).length m), (.slice (some ⟨nb ρ 1, 0, none⟩) (List.replicate m (0 : UInt8)).length m)]) (fun ρ => [(1, { news := [(nb ρ 1, (.cells (zB m) 5 (0, 0)))] })]) (cR [[]] <| cX (o_new1 _ (fun _ => do pure (Next.value (← Instr.makeSlice 43 (.int .i64 ((m : Nat) : Int)) (.int .i64 ((m : Nat) : Int))))) (fun _ z => (.slice (some ⟨z.headD 0, 0, none⟩) (List.replicate m (0 : UInt8)).length m)) (fun _ _ => (.cells (zB m) 5 (0, 0))) (fun _ _ => (by kernel_rfl)) (fun _ => (by kernel_rfl)) (fun _ _ => trivial) (fun _ _ w _ => make_rowL Tryz.underlying43 u8i (List.replicate m (0 : UInt8)) ((rfl).trans (by rw [List.length_replicate])) (rfl) (by rw [List.length_replicate]; exact Nat.le_refl _) (by have := hm; omega) w)) <| cR [[]] <| cN) (fun ρ2 => ?_)
  refine ok_seq ?_
  refine sS Tryz.f68 3 [0, 4, 5, 10, 11] [] (fun _ => [(.slice (some ⟨nb ρ2 1, 0, none⟩) (List.replicate m (0 : UInt8)).length m), (.int .i64 (((List.replicate m (0 : UInt8)).length : Nat) : Int)), (.int .i64 0)]) (fun _ => []) (cR [[], [], []] <| cN) (fun _ => ?_)
  refine ok_block ?_
  refine oL (σ := Nat) (fun i => [(0, (.int .u64 ((n : Nat) : Int))), (4, (.slice none 0 0)), (5, (.slice (some ⟨nb ρ2 1, 0, none⟩) (List.replicate m (0 : UInt8)).length m)), (10, (.int .i64 (((List.replicate m (0 : UInt8)).length : Nat) : Int))), (11, (.int .i64 ((i : Nat) : Int)))]) (fun i => [(nb ρ2 1, (.cells (fillC n m i) 5 (0, 0)))]) (fun i => m - i)
    (fun i => (i ≤ m)) 0 (Nat.zero_le m) [] ?_
  rintro i hi
  change Ok Tryz.prog _ _ 24 [(0, (.int .u64 ((n : Nat) : Int))), (4, (.slice none 0 0)), (5, (.slice (some ⟨nb ρ2 1, 0, none⟩) (List.replicate m (0 : UInt8)).length m)), (10, (.int .i64 (((List.replicate m (0 : UInt8)).length : Nat) : Int))), (11, (.int .i64 ((i : Nat) : Int)))] _ [(nb ρ2 1, (.cells (fillC n m i) 5 (0, 0)))] (fun _ => True)
  refine sS Tryz.f68 1 [0, 4, 5, 10, 11, 12] [] (fun _ => [(.bool (decide (((i : Nat) : Int) < (((List.replicate m (0 : UInt8)).length : Nat) : Int))))]) (fun _ => []) (cR [[]] <| cN) (fun _ => ?_)
  refine ok_seq ?_
  refine oC (decide (((i : Nat) : Int) < (((List.replicate m (0 : UInt8)).length : Nat) : Int))) (fun hb1 => ?_) (fun hb1 => ?_)
  ·
    rw [hb1]
    refine ok_skip ?_
    refine mt_then ?_
    refine ok_seq ?_
    refine ok_block ?_
    refine sS Tryz.f68 2 [0, 4, 5, 6, 10, 11] [] (fun _ => [(.int .i64 ((i : Nat) : Int)), (.int .i64 ((i : Nat) : Int))]) (fun _ => []) (cR [[], []] <| cN) (fun _ => ?_)
    refine rS Tryz.f68 9 [0, 4, 5, 10, 11] [] (fun _ => [(.slice (some ⟨nb ρ2 1, 0, none⟩) (List.replicate m (0 : UInt8)).length m), (.int .i64 ((i : Nat) : Int)), (.int .u64 ((n : Nat) : Int)), (.int .i64 ((i : Nat) : Int)), (.int .i64 ((8 * i : Nat) : Int)), (.int .u64 ((n / 2 ^ (8 * i) : Nat) : Int)), (.int .u8 ((n / 256 ^ i % 256 : Nat) : Int)), (.pointer (some ⟨nb ρ2 1, i, none⟩)), undef]) (fun _ => [(8, { puts := [(0, nb ρ2 1, (.cells (fillC n m (i + 1)) 5 (0, 0)))] })]) (cR [[], [], [], []] <| cA (v := fun ρ => (.int .i64 (IntKind.i64.wrap (8 * ((i : Nat) : Int))))) (fun _ => (.int .i64 ((8 * i : Nat) : Int))) (fun _ => congrArg (Value.int .i64) (wrap_mulN 8 i (by have := of_decide_eq_true hb1; have := hm; have := List.length_replicate (n := m) (a := (0 : UInt8)); have := hi; omega))) <| cB (a := fun ρ => (.int .u64 ((n : Nat) : Int))) (b := fun ρ => (.int .i64 ((8 * i : Nat) : Int))) (v := fun ρ => (.int .u64 ((n / 2 ^ (8 * i) : Nat) : Int))) .shr 27 (fun _ w => run_shrU (k := .u64) hn w) <| cA (fun _ => (.int .u8 ((n / 256 ^ i % 256 : Nat) : Int))) (fun _ => congrArg (Value.int .u8) (low_byte n i)) <| cX (o_sem _ (fun _ => do pure (Next.value (← Instr.indexAt 43 (.slice (some ⟨nb ρ2 1, 0, none⟩) (List.replicate m (0 : UInt8)).length m) (.int .i64 ((i : Nat) : Int))))) (fun _ => (.pointer (some ⟨nb ρ2 1, i, none⟩))) (fun _ => (by kernel_rfl)) (fun _ => (by kernel_rfl)) (fun _ w => idx_row Tryz.underlying43 u8i ((show ((i : Nat) : Int) = ((i : Nat) : Int) ∧ i < (List.replicate m (0 : UInt8)).length from ⟨rfl, (by rw [List.length_replicate]; have := of_decide_eq_true hb1; have := hm; have := List.length_replicate (n := m) (a := (0 : UInt8)); have := hi; omega)⟩)).1 ((show ((i : Nat) : Int) = ((i : Nat) : Int) ∧ i < (List.replicate m (0 : UInt8)).length from ⟨rfl, (by rw [List.length_replicate]; have := of_decide_eq_true hb1; have := hm; have := List.length_replicate (n := m) (a := (0 : UInt8)); have := hi; omega)⟩)).2 w)) <| cX (o_st _ 0 5 (fun _ => nb ρ2 1) (fun _ => i) (fun _ => (fillC n m i)) (fun _ => (fillC n m (i + 1))) 5 (fun _ => (.int .u8 ((n / 256 ^ i % 256 : Nat) : Int))) (fun _ => by kernel_rfl) Tryz.sizeOf5 (fun _ => rfl) (fun _ => (by rw [fill_size hi]; have := of_decide_eq_true hb1; have := hm; have := List.length_replicate (n := m) (a := (0 : UInt8)); have := hi; omega)) (fun _ => (fill_set (by have := of_decide_eq_true hb1; have := hm; have := List.length_replicate (n := m) (a := (0 : UInt8)); have := hi; omega)))) <| cN) (fun _ => ?_)
    refine mt_block_n ?_
    refine mt_then ?_
    refine rS Tryz.f68 2 [0, 4, 5, 10, 11] [] (fun _ => [(.int .i64 ((i + 1 : Nat) : Int)), (.int .i64 ((i + 1 : Nat) : Int))]) (fun _ => []) (cA (v := fun ρ => (.int .i64 (IntKind.i64.wrap (((i : Nat) : Int) + 1)))) (fun _ => (.int .i64 ((i + 1 : Nat) : Int))) (fun _ => congrArg (Value.int .i64) (wrap_addN i 1 (by have := of_decide_eq_true hb1; have := hm; have := List.length_replicate (n := m) (a := (0 : UInt8)); have := hi; omega))) <| cR [[]] <| cN) (fun _ => ?_)
    exact mN (i + 1) (by show m - (i + 1) < m - i; have := of_decide_eq_true hb1; have := hm; have := List.length_replicate (n := m) (a := (0 : UInt8)); have := hi; omega) (by show i + 1 ≤ m; have := of_decide_eq_true hb1; have := hm; have := List.length_replicate (n := m) (a := (0 : UInt8)); have := hi; omega) []
  ·
    rw [hb1]
    refine ok_exit ?_
    refine mt_then_e ?_
    refine mt_then_e ?_
    refine mt_block_h ?_
    refine mt_then ?_
    refine sS Tryz.f68 2 [4] [] (fun _ => [(.slice (some ⟨nb ρ2 1, 0, none⟩) (List.replicate m (0 : UInt8)).length m), (.slice (some ⟨nb ρ2 1, 0, none⟩) (List.replicate m (0 : UInt8)).length m)]) (fun _ => []) (cR [[], []] <| cN) (fun _ => ?_)
    refine ok_ret ?_
    refine mD [(4, (.slice (some ⟨nb ρ2 1, 0, none⟩) (List.replicate m (0 : UInt8)).length m))] [(nb ρ2 1, (.cells (fillC n m i) 5 (0, 0)))] ?_
    exact mR (v := (.slice (some ⟨nb ρ2 1, 0, none⟩) (List.replicate m (0 : UInt8)).length m)) (fun _ hS => ⟨(some ⟨nb ρ2 1, 0, none⟩), m, congrArg Ending.returned (by rw [List.length_replicate, leB_length]), hS.bel, fs_eq (fill_end (by have := of_decide_eq_false hb1; have := hm; have := List.length_replicate (n := m) (a := (0 : UInt8)); have := hi; omega)) (hS.fresh (.head _) (Hd.all _) (Nat.le_of_eq (fill_len hi)) (by rw [fill_len hi]; have := hm; omega))⟩)

theorem append32_any (a : Option Addr) (c : Nat) (B : List UInt8) (n : Nat) (hn : n < 4294967296) (hl : B.length + 8 ≤ 140737488351232) (w0 : World) (hf0 : Bs w0 a c B) : Calls Tryz.prog 39 #[(.slice a (B).length c), (.int .u32 ((n : Nat) : Int))] w0 (fun ε w' => ∃ α κ, ε = .returned (.slice α (B ++ leB n 4).length κ) ∧ Below w0.heap.size w0 w' ∧ Fs w0 w' α κ (B ++ leB n 4)) := by
  refine Calls.of_ok (n := 10) (F := (fun w => Bs w a c B ∧ True)) Tryz.func39 rfl rfl rfl (by simp) (hf0.pers0.and persT) ?_
  refine sS Tryz.f39 1 [0, 1, 4] [] (fun _ => [(.slice none 0 0)]) (fun _ => []) (cR [[]] <| cN) (fun _ => ?_)
  refine sSf Tryz.f39 6 [4] [] (fun ρ => [(.slice a (B).length c), (.int .u32 ((n : Nat) : Int)), (.int .u64 ((n : Nat) : Int)), (.slice (oa ρ 3) (leB n 4).length (nb ρ 3)), (.slice (oa ρ 4) (B ++ (leB n 4)).length (nb ρ 4)), (.slice (oa ρ 4) (B ++ (leB n 4)).length (nb ρ 4))]) (fun _ => []) (fun ρ => [(3, fun w => Fs w0 w (oa ρ 3) (nb ρ 3) (leB n 4)), (4, fun w => Fs w0 w (oa ρ 4) (nb ρ 4) (B ++ (leB n 4)))]) (fun ρ => (fun w => Bs w a c B ∧ Fs w0 w (oa ρ 3) (nb ρ 3) (leB n 4) ∧ Fs w0 w (oa ρ 4) (nb ρ 4) (B ++ (leB n 4)) ∧ True)) (fun _ => True) (fun _ _ hF hf => ⟨⟨hF.1, hf 3, hf 4, trivial⟩, trivial⟩) (cR [[], []] <| cA (v := fun ρ => (.int .u64 (IntKind.u64.wrap (((n : Nat) : Int))))) (fun _ => (.int .u64 ((n : Nat) : Int))) (fun _ => congrArg (Value.int .u64) (u64N (by have := hn; have := hl; omega))) <| cX (o_callB _ 71 (fun _ => #[(.int .u64 ((n : Nat) : Int)), (.int .i64 4)]) (fun _ α κ => (.slice α (leB n 4).length κ)) (fun _ => leB n 4) (fun _ _ => (by kernel_rfl)) (fun _ _ => (by kernel_rfl)) (fun _ _ => (by kernel_rfl)) (fun _ _ => (by kernel_rfl)) (fun _ _ w _ => lowest_any n 4 (by have := hn; have := hl; omega) (by have := hn; have := hl; omega) w )) <| cX (o_callB _ 70 (fun ρ => #[(.slice a (B).length c), (.slice (oa ρ 3) (leB n 4).length (nb ρ 3))]) (fun _ α κ => (.slice α (B ++ (leB n 4)).length κ)) (fun _ => B ++ (leB n 4)) (fun _ _ => (by kernel_rfl)) (fun _ _ => (by kernel_rfl)) (fun _ _ => (by kernel_rfl)) (fun _ _ => (by kernel_rfl)) (fun ρ _ w hG => extend_any a c B (oa ρ 3) (nb ρ 3) (leB n 4) (by simp only [leB_length]; have := hn; have := hl; omega) w hG.facts0.now.1 ((show Fs w0 w (oa ρ 3) (nb ρ 3) (leB n 4) from (hG.facts 3 rfl).now).1))) <| cR [[]] <| cN) (fun ρ2 _ => ?_)
  refine ok_ret ?_
  refine mD [(4, (.slice (oa ρ2 4) (B ++ (leB n 4)).length (nb ρ2 4)))] [] ?_
  exact mR (v := (.slice (oa ρ2 4) (B ++ (leB n 4)).length (nb ρ2 4))) (fun _ hS => ⟨oa ρ2 4, nb ρ2 4, congrArg Ending.returned (rfl), hS.bel, fs_eq (rfl) hS.facts.now.2.2.1⟩)

theorem rappend32_any (a : Option Addr) (c : Nat) (B : List UInt8) (n : Nat) (hn : n < 4294967296) (hl : B.length + 8 ≤ 140737488351232) (w0 : World) (hf0 : Bs w0 a c B) : Calls Tryz.prog 37 #[(.slice a (B).length c), (.int .u32 ((n : Nat) : Int))] w0 (fun ε w' => ∃ α κ, ε = .returned (.slice α (B ++ leB n 4).length κ) ∧ Below w0.heap.size w0 w' ∧ Fs w0 w' α κ (B ++ leB n 4)) := by
  refine Calls.of_ok (n := 10) (F := (fun w => Bs w a c B ∧ True)) Tryz.func37 rfl rfl rfl (by simp) (hf0.pers0.and persT) ?_
  refine sS Tryz.f37 1 [0, 1, 4] [] (fun _ => [(.slice none 0 0)]) (fun _ => []) (cR [[]] <| cN) (fun _ => ?_)
  refine sSf Tryz.f37 6 [4] [] (fun ρ => [(.slice a (B).length c), (.int .u32 ((n : Nat) : Int)), (.int .u64 ((n : Nat) : Int)), (.slice (oa ρ 3) (leB n 4).length (nb ρ 3)), (.slice (oa ρ 4) (B ++ (leB n 4)).length (nb ρ 4)), (.slice (oa ρ 4) (B ++ (leB n 4)).length (nb ρ 4))]) (fun _ => []) (fun ρ => [(3, fun w => Fs w0 w (oa ρ 3) (nb ρ 3) (leB n 4)), (4, fun w => Fs w0 w (oa ρ 4) (nb ρ 4) (B ++ (leB n 4)))]) (fun ρ => (fun w => Bs w a c B ∧ Fs w0 w (oa ρ 3) (nb ρ 3) (leB n 4) ∧ Fs w0 w (oa ρ 4) (nb ρ 4) (B ++ (leB n 4)) ∧ True)) (fun _ => True) (fun _ _ hF hf => ⟨⟨hF.1, hf 3, hf 4, trivial⟩, trivial⟩) (cR [[], []] <| cA (v := fun ρ => (.int .u64 (IntKind.u64.wrap (((n : Nat) : Int))))) (fun _ => (.int .u64 ((n : Nat) : Int))) (fun _ => congrArg (Value.int .u64) (u64N (by have := hn; have := hl; omega))) <| cX (o_callB _ 68 (fun _ => #[(.int .u64 ((n : Nat) : Int)), (.int .i64 4)]) (fun _ α κ => (.slice α (leB n 4).length κ)) (fun _ => leB n 4) (fun _ _ => (by kernel_rfl)) (fun _ _ => (by kernel_rfl)) (fun _ _ => (by kernel_rfl)) (fun _ _ => (by kernel_rfl)) (fun _ _ w _ => little_any n 4 (by have := hn; have := hl; omega) (by have := hn; have := hl; omega) w )) <| cX (o_callB _ 67 (fun ρ => #[(.slice a (B).length c), (.slice (oa ρ 3) (leB n 4).length (nb ρ 3))]) (fun _ α κ => (.slice α (B ++ (leB n 4)).length κ)) (fun _ => B ++ (leB n 4)) (fun _ _ => (by kernel_rfl)) (fun _ _ => (by kernel_rfl)) (fun _ _ => (by kernel_rfl)) (fun _ _ => (by kernel_rfl)) (fun ρ _ w hG => joined_any a c B (oa ρ 3) (nb ρ 3) (leB n 4) (by simp only [leB_length]; have := hn; have := hl; omega) w hG.facts0.now.1 ((show Fs w0 w (oa ρ 3) (nb ρ 3) (leB n 4) from (hG.facts 3 rfl).now).1))) <| cR [[]] <| cN) (fun ρ2 _ => ?_)
  refine ok_ret ?_
  refine mD [(4, (.slice (oa ρ2 4) (B ++ (leB n 4)).length (nb ρ2 4)))] [] ?_
  exact mR (v := (.slice (oa ρ2 4) (B ++ (leB n 4)).length (nb ρ2 4))) (fun _ hS => ⟨oa ρ2 4, nb ρ2 4, congrArg Ending.returned (rfl), hS.bel, fs_eq (rfl) hS.facts.now.2.2.1⟩)

theorem apphash_any (a : Option Addr) (c : Nat) (B : List UInt8) (h : Nat) (_hh : h < M) (hl : B.length + 32 ≤ 140737488351232) (w0 : World) (hf0 : Bs w0 a c B) : Calls Tryz.prog 40 #[(.slice a (B).length c), (.agg (hB h))] w0 (fun ε w' => ∃ α κ, ε = .returned (.slice α (B ++ hL h).length κ) ∧ Below w0.heap.size w0 w' ∧ Fs w0 w' α κ (B ++ hL h)) := by
  refine Calls.of_ok (n := 8) (F := (fun w => Bs w a c B ∧ True)) Tryz.func40 rfl rfl rfl (by simp) (hf0.pers0.and persT) ?_
  refine sS Tryz.f40 2 [0, 3, 4] [] (fun ρ => [(pt (nb ρ 0)), (.slice none 0 0)]) (fun ρ => [(0, { news := [(nb ρ 0, (.cells (hB h) 31 (0, 0)))] })]) (cR [[], []] <| cN) (fun ρ1 => ?_)
  refine sSf Tryz.f40 4 [4] [0] (fun ρ => [(.slice a (B).length c), (.slice (some ⟨nb ρ1 0, 0, none⟩) (hL h).length 32), (.slice (oa ρ 2) (B ++ (hL h)).length (nb ρ 2)), (.slice (oa ρ 2) (B ++ (hL h)).length (nb ρ 2))]) (fun _ => []) (fun ρ => [(2, fun w => Fs w0 w (oa ρ 2) (nb ρ 2) (B ++ (hL h)))]) (fun ρ => (fun w => Bs w a c B ∧ Fs w0 w (oa ρ 2) (nb ρ 2) (B ++ (hL h)) ∧ True)) (fun _ => True) (fun _ _ hF hf => ⟨⟨hF.1, hf 2, trivial⟩, trivial⟩) (cR [[], []] <| cX (o_callB _ 70 (fun _ => #[(.slice a (B).length c), (.slice (some ⟨nb ρ1 0, 0, none⟩) (hL h).length 32)]) (fun _ α κ => (.slice α (B ++ (hL h)).length κ)) (fun _ => B ++ (hL h)) (fun _ _ => (by kernel_rfl)) (fun _ _ => (by kernel_rfl)) (fun _ _ => (by kernel_rfl)) (fun _ _ => (by kernel_rfl)) (fun _ _ w hG => extend_any a c B (some ⟨nb ρ1 0, 0, none⟩) 32 (hL h) (by simp only [hL_length]; have := hl; omega) w hG.facts0.now.1 (Bs.of_hd (c := 32) (hG.known (g := nb ρ1 0) (o := (.cells (hB h) 31 (0, 0))) 0 (by kernel_rfl) (by kernel_rfl)) (hd_hB _) (Nat.le_refl _) (Nat.le_of_ble_eq_true rfl)))) <| cR [[]] <| cN) (fun ρ2 _ => ?_)
  refine ok_ret ?_
  refine mD [(4, (.slice (oa ρ2 2) (B ++ (hL h)).length (nb ρ2 2)))] [] ?_
  exact mR (v := (.slice (oa ρ2 2) (B ++ (hL h)).length (nb ρ2 2))) (fun _ hS => ⟨oa ρ2 2, nb ρ2 2, congrArg Ending.returned (rfl), hS.bel, fs_eq (rfl) hS.facts.now.2.1⟩)
end Go.Proofs.YtjdhjkceahaegaaGreatDoor

/-! The codec reads: the walks that trees of keys need. -/
namespace Go.Proofs.YtjdhjkceahaegaaGreatDoor
open Go Go.RowKit

theorem room_any (a : Option Addr) (c : Nat) (B : List UInt8) (z : Int) (m : Nat) (hz : -9223372036854775808 ≤ z ∧ z < 9223372036854775808) (hBl : B.length ≤ 140737488351232) (hm : m ≤ 32) (w0 : World) : Calls Tryz.prog 73 #[(.slice a (B).length c), (.int .i64 z), (.int .i64 ((m : Nat) : Int))] w0 (fun ε w' => ε = .returned (.int .i64 (rdE (B).length z m)) ∧ Below w0.heap.size w0 w') := by
  refine Calls.of_ok (n := 21) (F := (fun _ => True)) Tryz.func73 rfl rfl rfl (by simp) (persTrue (fun _ => trivial)) ?_
  refine sS Tryz.f73 1 [0, 1, 2, 6] [] (fun _ => [(.int .i64 0)]) (fun _ => []) (cR [[]] <| cN) (fun _ => ?_)
  refine ok_seq ?_
  rcases Bool.eq_false_or_eq_true (decide (z < 0)) with hb1 | hb1
  ·
    refine sS Tryz.f73 8 [0, 1, 2, 6, 14] [] (fun _ => [(.int .i64 z), (.bool true), (.bool true), undef, undef, undef, undef, (.bool true)]) (fun _ => []) (cR [[]] <| cA (fun _ => (.bool true)) (fun _ => congrArg Value.bool hb1) <| cR [[], [], [], [], [], []] <| cN) (fun _ => ?_)
    refine oY ?_
    refine sS Tryz.f73 1 [0, 1, 2, 6] [] (fun _ => [(.int .i64 5)]) (fun _ => []) (cR [[]] <| cN) (fun _ => ?_)
    refine ok_ret ?_
    refine mt_then_r ?_
    exact mR (v := (.int .i64 5)) (fun _ hS => ⟨congrArg (fun x => Ending.returned (.int .i64 x)) ((rdE5 (by have := of_decide_eq_true hb1; have := hz; have := hBl; have := hm; omega)).symm), hS.bel⟩)
  ·
    refine sS Tryz.f73 8 [0, 1, 2, 6, 14] [] (fun _ => [(.int .i64 z), (.bool false), (.bool false), (.int .i64 z), (.slice a (B).length c), (.int .i64 (((B).length : Nat) : Int)), (.bool (decide ((((B).length : Nat) : Int) < z))), (.bool (decide ((((B).length : Nat) : Int) < z)))]) (fun _ => []) (cR [[]] <| cA (fun _ => (.bool false)) (fun _ => congrArg Value.bool hb1) <| cR [[], [], [], [], [], []] <| cN) (fun _ => ?_)
    refine oC (decide ((((B).length : Nat) : Int) < z)) (fun hb2 => ?_) (fun hb2 => ?_)
    ·
      rw [hb2]
      refine sS Tryz.f73 1 [0, 1, 2, 6] [] (fun _ => [(.int .i64 5)]) (fun _ => []) (cR [[]] <| cN) (fun _ => ?_)
      refine ok_ret ?_
      refine mt_then_r ?_
      exact mR (v := (.int .i64 5)) (fun _ hS => ⟨congrArg (fun x => Ending.returned (.int .i64 x)) ((rdE5 (by have := of_decide_eq_false hb1; have := of_decide_eq_true hb2; have := hz; have := hBl; have := hm; omega)).symm), hS.bel⟩)
    ·
      rw [hb2]
      refine ok_skip ?_
      refine mt_then ?_
      refine ok_seq ?_
      refine sS Tryz.f73 6 [6, 20] [] (fun _ => [(.slice a (B).length c), (.int .i64 (((B).length : Nat) : Int)), (.int .i64 z), (.int .i64 ((((B).length : Nat) : Int) - z)), (.int .i64 ((m : Nat) : Int)), (.bool (decide (((((B).length : Nat) : Int) - z) < ((m : Nat) : Int))))]) (fun _ => []) (cR [[], [], []] <| cA (v := fun ρ => (.int .i64 (IntKind.i64.wrap ((((B).length : Nat) : Int) - z)))) (fun _ => (.int .i64 ((((B).length : Nat) : Int) - z))) (fun _ => congrArg (Value.int .i64) (i64N (by have := of_decide_eq_false hb1; have := of_decide_eq_false hb2; have := hz; have := hBl; have := hm; omega))) <| cR [[], []] <| cN) (fun _ => ?_)
      refine oC (decide (((((B).length : Nat) : Int) - z) < ((m : Nat) : Int))) (fun hb3 => ?_) (fun hb3 => ?_)
      ·
        rw [hb3]
        refine sS Tryz.f73 1 [6] [] (fun _ => [(.int .i64 1)]) (fun _ => []) (cR [[]] <| cN) (fun _ => ?_)
        refine ok_ret ?_
        refine mt_then_r ?_
        exact mR (v := (.int .i64 1)) (fun _ hS => ⟨congrArg (fun x => Ending.returned (.int .i64 x)) ((rdE1 (by have := of_decide_eq_false hb1; have := of_decide_eq_false hb2; have := of_decide_eq_true hb3; have := hz; have := hBl; have := hm; omega) (by have := of_decide_eq_false hb1; have := of_decide_eq_false hb2; have := of_decide_eq_true hb3; have := hz; have := hBl; have := hm; omega)).symm), hS.bel⟩)
      ·
        rw [hb3]
        refine ok_skip ?_
        refine mt_then ?_
        refine sS Tryz.f73 1 [6] [] (fun _ => [(.int .i64 0)]) (fun _ => []) (cR [[]] <| cN) (fun _ => ?_)
        refine ok_ret ?_
        exact mR (v := (.int .i64 0)) (fun _ hS => ⟨congrArg (fun x => Ending.returned (.int .i64 x)) ((rdE0 (by have := of_decide_eq_false hb1; have := of_decide_eq_false hb2; have := of_decide_eq_false hb3; have := hz; have := hBl; have := hm; omega) (by have := of_decide_eq_false hb1; have := of_decide_eq_false hb2; have := of_decide_eq_false hb3; have := hz; have := hBl; have := hm; omega)).symm), hS.bel⟩)

theorem read32_any (a : Option Addr) (c : Nat) (B : List UInt8) (z : Int) (m : Nat) (hz : -9223372036854775808 ≤ z ∧ z < 9223372036854775808) (hBl : B.length ≤ 140737488351232) (hm : 8 * m ≤ 32) (w0 : World) (hf0 : Bs w0 a c B) : Calls Tryz.prog 72 #[(.slice a (B).length c), (.int .i64 z), (.int .i64 ((m : Nat) : Int))] w0 (fun ε w' => ε = .returned (.tuple #[(.int .u32 ((rdV B z m : Nat) : Int)), (.int .i64 (rdN B.length z m)), (.int .i64 (rdE B.length z m))]) ∧ Below w0.heap.size w0 w') := by
  refine Calls.of_ok (n := 40) (F := (fun w => Bs w a c B ∧ True)) Tryz.func72 rfl rfl rfl (by simp) (hf0.pers0.and persT) ?_
  refine sS Tryz.f72 3 [0, 1, 2, 6, 7, 8] [] (fun _ => [(.int .u32 0), (.int .i64 0), (.int .i64 0)]) (fun _ => []) (cR [[], [], []] <| cN) (fun _ => ?_)
  refine ok_seq ?_
  refine sS Tryz.f72 5 [0, 1, 2, 6, 7, 8, 9] [] (fun _ => [(.slice a (B).length c), (.int .i64 z), (.int .i64 ((m : Nat) : Int)), (.int .i64 (rdE B.length z m)), (.int .i64 (rdE B.length z m))]) (fun _ => []) (cR [[], [], []] <| cC (fun _ w => room_any a c B z m (by have := hz; have := hBl; have := hm; omega) hBl (by have := hz; have := hBl; have := hm; omega) w) <| cR [[]] <| cN) (fun _ => ?_)
  refine sS Tryz.f72 2 [0, 1, 2, 6, 7, 8, 9, 17] [] (fun _ => [(.int .i64 (rdE B.length z m)), (.bool ((rdE B.length z m) != 0))]) (fun _ => []) (cR [[], []] <| cN) (fun _ => ?_)
  refine oC ((rdE B.length z m) != 0) (fun hb1 => ?_) (fun hb1 => ?_)
  ·
    rw [hb1]
    refine sS Tryz.f72 4 [0, 1, 2, 6, 7, 8] [] (fun _ => [(.int .i64 (rdE B.length z m)), (.int .u32 0), (.int .i64 0), (.int .i64 (rdE B.length z m))]) (fun _ => []) (cR [[], [], [], []] <| cN) (fun _ => ?_)
    refine ok_ret ?_
    refine mt_then_r ?_
    exact mR (v := (.tuple #[(.int .u32 0), (.int .i64 0), (.int .i64 (rdE B.length z m))])) (fun _ hS => ⟨congrArg Ending.returned (rdT_err rfl (bne0 hb1)), hS.bel⟩)
  ·
    rw [hb1]
    refine ok_skip ?_
    refine mt_then ?_
    refine sS Tryz.f72 1 [0, 1, 2, 6, 7, 8, 10] [] (fun _ => [(.int .u32 0)]) (fun _ => []) (cR [[]] <| cN) (fun _ => ?_)
    refine ok_seq ?_
    refine sS Tryz.f72 2 [0, 1, 2, 6, 7, 8, 10, 19, 20] [] (fun _ => [(.int .i64 ((m : Nat) : Int)), (.int .i64 0)]) (fun _ => []) (cR [[], []] <| cN) (fun _ => ?_)
    refine dRs [(0, (.slice a (B).length c)), (1, (.int .i64 z)), (2, (.int .i64 ((m : Nat) : Int))), (6, (.int .u32 0)), (7, (.int .i64 0)), (8, (.int .i64 0)), (10, (.int .u32 0)), (19, (.int .i64 ((m : Nat) : Int))), (20, (.int .i64 0))] [] ?_
    refine ok_block ?_
    refine oL (σ := Nat) (fun i => [(0, (.slice a (B).length c)), (1, (.int .i64 z)), (2, (.int .i64 ((m : Nat) : Int))), (6, (.int .u32 0)), (7, (.int .i64 0)), (8, (.int .i64 0)), (10, (.int .u32 ((leN B z.toNat i : Nat) : Int))), (19, (.int .i64 ((m : Nat) : Int))), (20, (.int .i64 ((i : Nat) : Int)))]) (fun _ => []) (fun i => m - i)
      (fun i => (i ≤ m)) 0 (Nat.zero_le m) [] ?_
    rintro i hi
    change Ok Tryz.prog _ _ 40 [(0, (.slice a (B).length c)), (1, (.int .i64 z)), (2, (.int .i64 ((m : Nat) : Int))), (6, (.int .u32 0)), (7, (.int .i64 0)), (8, (.int .i64 0)), (10, (.int .u32 ((leN B z.toNat i : Nat) : Int))), (19, (.int .i64 ((m : Nat) : Int))), (20, (.int .i64 ((i : Nat) : Int)))] _ [] (fun w => Bs w a c B ∧ True)
    refine sS Tryz.f72 1 [0, 1, 2, 6, 7, 8, 10, 19, 20, 21] [] (fun _ => [(.bool (decide (((i : Nat) : Int) < ((m : Nat) : Int))))]) (fun _ => []) (cR [[]] <| cN) (fun _ => ?_)
    refine ok_seq ?_
    refine oC (decide (((i : Nat) : Int) < ((m : Nat) : Int))) (fun hb2 => ?_) (fun hb2 => ?_)
    ·
      rw [hb2]
      refine ok_skip ?_
      refine mt_then ?_
      refine ok_seq ?_
      refine ok_block ?_
      refine sS Tryz.f72 2 [0, 1, 2, 6, 7, 8, 10, 11, 19, 20] [] (fun _ => [(.int .i64 ((i : Nat) : Int)), (.int .i64 ((i : Nat) : Int))]) (fun _ => []) (cR [[], []] <| cN) (fun _ => ?_)
      refine rS Tryz.f72 13 [0, 1, 2, 6, 7, 8, 10, 19, 20] [] (fun _ => [(.int .u32 ((leN B z.toNat i : Nat) : Int)), (.slice a (B).length c), (.int .i64 z), (.int .i64 ((i : Nat) : Int)), (.int .i64 (z + ((i : Nat) : Int))), (.pointer (adr a (z.toNat + i))), (.int .u8 ((gB B (z.toNat + i) : Nat) : Int)), (.int .u32 ((gB B (z.toNat + i) : Nat) : Int)), (.int .i64 ((i : Nat) : Int)), (.int .i64 ((8 * i : Nat) : Int)), (.int .u32 ((gB B (z.toNat + i) * 256 ^ i : Nat) : Int)), (.int .u32 ((leN B z.toNat (i + 1) : Nat) : Int)), (.int .u32 ((leN B z.toNat (i + 1) : Nat) : Int))]) (fun _ => []) (cR [[], [], [], []] <| cA (v := fun ρ => (.int .i64 (IntKind.i64.wrap (z + ((i : Nat) : Int))))) (fun _ => (.int .i64 (z + ((i : Nat) : Int)))) (fun _ => congrArg (Value.int .i64) (i64N (by have := bne0' hb1; have := rdE_in (bne0' hb1); have := of_decide_eq_true hb2; have := hz; have := hBl; have := hm; have := hi; omega))) <| cX (o_semF _ (fun _ => do pure (Next.value (← Instr.indexAt 43 (.slice a (B).length c) (.int .i64 (z + ((i : Nat) : Int)))))) (fun _ => (.pointer (adr a (z.toNat + i)))) (fun _ => (by kernel_rfl)) (fun _ => (by kernel_rfl)) (fun _ _ _ hG => idx_bytes Tryz.underlying43 u8i hG.facts0.now.1 rfl ((show z + ((i : Nat) : Int) = ((z.toNat + i : Nat) : Int) ∧ z.toNat + i < (B).length from ⟨(by have := bne0' hb1; have := rdE_in (bne0' hb1); have := of_decide_eq_true hb2; have := hz; have := hBl; have := hm; have := hi; omega), (by have := bne0' hb1; have := rdE_in (bne0' hb1); have := of_decide_eq_true hb2; have := hz; have := hBl; have := hm; have := hi; omega)⟩)).1 ((show z + ((i : Nat) : Int) = ((z.toNat + i : Nat) : Int) ∧ z.toNat + i < (B).length from ⟨(by have := bne0' hb1; have := rdE_in (bne0' hb1); have := of_decide_eq_true hb2; have := hz; have := hBl; have := hm; have := hi; omega), (by have := bne0' hb1; have := rdE_in (bne0' hb1); have := of_decide_eq_true hb2; have := hz; have := hBl; have := hm; have := hi; omega)⟩)).2) (fun _ _ _ _ => persT)) <| cX (o_semF _ (fun _ => do pure (Next.value (← Instr.loadAt 5 (.pointer (adr a (z.toNat + i)))))) (fun _ => (.int .u8 ((gB B (z.toNat + i) : Nat) : Int))) (fun _ => (by kernel_rfl)) (fun _ => (by kernel_rfl)) (fun _ _ _ hG => ld_bytes Tryz.isAgg5 hG.facts0.now.1 ((show z + ((i : Nat) : Int) = ((z.toNat + i : Nat) : Int) ∧ z.toNat + i < (B).length from ⟨(by have := bne0' hb1; have := rdE_in (bne0' hb1); have := of_decide_eq_true hb2; have := hz; have := hBl; have := hm; have := hi; omega), (by have := bne0' hb1; have := rdE_in (bne0' hb1); have := of_decide_eq_true hb2; have := hz; have := hBl; have := hm; have := hi; omega)⟩)).2) (fun _ _ _ _ => persT)) <| cA (v := fun ρ => (.int .u32 (IntKind.u32.wrap (((gB B (z.toNat + i) : Nat) : Int))))) (fun _ => (.int .u32 ((gB B (z.toNat + i) : Nat) : Int))) (fun _ => congrArg (Value.int .u32) (gB_in (k := .u32) rfl (by decide) B (z.toNat + i))) <| cR [[]] <| cA (v := fun ρ => (.int .i64 (IntKind.i64.wrap (8 * ((i : Nat) : Int))))) (fun _ => (.int .i64 ((8 * i : Nat) : Int))) (fun _ => congrArg (Value.int .i64) (wrap_mulN 8 i (by have := bne0' hb1; have := rdE_in (bne0' hb1); have := of_decide_eq_true hb2; have := hz; have := hBl; have := hm; have := hi; omega))) <| cB (a := fun ρ => (.int .u32 ((gB B (z.toNat + i) : Nat) : Int))) (b := fun ρ => (.int .i64 ((8 * i : Nat) : Int))) (v := fun ρ => (.int .u32 ((gB B (z.toNat + i) * 256 ^ i : Nat) : Int))) .shl 23 (fun _ w => run_shl8 (k := .u32) rfl B (z.toNat + i) i (by show 8 * (i + 1) ≤ 32; have := bne0' hb1; have := rdE_in (bne0' hb1); have := of_decide_eq_true hb2; have := hz; have := hBl; have := hm; have := hi; omega) w) <| cA (v := fun ρ => (.int .u32 (bits .or .u32 ((leN B z.toNat i : Nat) : Int) ((gB B (z.toNat + i) * 256 ^ i : Nat) : Int)))) (fun _ => (.int .u32 ((leN B z.toNat (i + 1) : Nat) : Int))) (fun _ => congrArg (Value.int .u32) (or_leN (k := .u32) rfl B z.toNat i (by show 8 * (i + 1) ≤ 32; have := bne0' hb1; have := rdE_in (bne0' hb1); have := of_decide_eq_true hb2; have := hz; have := hBl; have := hm; have := hi; omega))) <| cR [[]] <| cN) (fun _ => ?_)
      refine mt_block_n ?_
      refine mt_then ?_
      refine rS Tryz.f72 2 [0, 1, 2, 6, 7, 8, 10, 19, 20] [] (fun _ => [(.int .i64 ((i + 1 : Nat) : Int)), (.int .i64 ((i + 1 : Nat) : Int))]) (fun _ => []) (cA (v := fun ρ => (.int .i64 (IntKind.i64.wrap (((i : Nat) : Int) + 1)))) (fun _ => (.int .i64 ((i + 1 : Nat) : Int))) (fun _ => congrArg (Value.int .i64) (wrap_addN i 1 (by have := bne0' hb1; have := rdE_in (bne0' hb1); have := of_decide_eq_true hb2; have := hz; have := hBl; have := hm; have := hi; omega))) <| cR [[]] <| cN) (fun _ => ?_)
      exact mN (i + 1) (by show m - (i + 1) < m - i; have := bne0' hb1; have := rdE_in (bne0' hb1); have := of_decide_eq_true hb2; have := hz; have := hBl; have := hm; have := hi; omega) (by show i + 1 ≤ m; have := bne0' hb1; have := rdE_in (bne0' hb1); have := of_decide_eq_true hb2; have := hz; have := hBl; have := hm; have := hi; omega) []
    ·
      rw [hb2]
      refine ok_exit ?_
      refine mt_then_e ?_
      refine mt_then_e ?_
      refine mt_block_h ?_
      refine mt_then ?_
      refine sS Tryz.f72 7 [6, 7, 8] [] (fun _ => [(.int .u32 ((leN B z.toNat i : Nat) : Int)), (.int .i64 z), (.int .i64 ((m : Nat) : Int)), (.int .i64 (z + ((m : Nat) : Int))), (.int .u32 ((leN B z.toNat i : Nat) : Int)), (.int .i64 (z + ((m : Nat) : Int))), (.int .i64 0)]) (fun _ => []) (cR [[], [], []] <| cA (v := fun ρ => (.int .i64 (IntKind.i64.wrap (z + ((m : Nat) : Int))))) (fun _ => (.int .i64 (z + ((m : Nat) : Int)))) (fun _ => congrArg (Value.int .i64) (i64N (by have := bne0' hb1; have := rdE_in (bne0' hb1); have := of_decide_eq_false hb2; have := hz; have := hBl; have := hm; have := hi; omega))) <| cR [[], [], []] <| cN) (fun _ => ?_)
      refine ok_ret ?_
      exact mR (v := (.tuple #[(.int .u32 ((leN B z.toNat i : Nat) : Int)), (.int .i64 (z + ((m : Nat) : Int))), (.int .i64 0)])) (fun _ hS => ⟨congrArg Ending.returned (rdT_ok (bne0' hb1) (by have := bne0' hb1; have := rdE_in (bne0' hb1); have := of_decide_eq_false hb2; have := hz; have := hBl; have := hm; have := hi; omega)), hS.bel⟩)

theorem u32_any (a : Option Addr) (c : Nat) (B : List UInt8) (z : Int) (hz : -9223372036854775808 ≤ z ∧ z < 9223372036854775808) (hBl : B.length ≤ 140737488351232) (w0 : World) (hf0 : Bs w0 a c B) : Calls Tryz.prog 42 #[(.slice a (B).length c), (.int .i64 z)] w0 (fun ε w' => ε = .returned (.tuple #[(.int .u32 ((rdV B z 4 : Nat) : Int)), (.int .i64 (rdN B.length z 4)), (.int .i64 (rdE B.length z 4))]) ∧ Below w0.heap.size w0 w') := by
  refine Calls.of_ok (n := 13) (F := (fun w => Bs w a c B ∧ True)) Tryz.func42 rfl rfl rfl (by simp) (hf0.pers0.and persT) ?_
  refine sS Tryz.f42 3 [0, 1, 4, 5, 6] [] (fun _ => [(.int .u32 0), (.int .i64 0), (.int .i64 0)]) (fun _ => []) (cR [[], [], []] <| cN) (fun _ => ?_)
  refine sS Tryz.f42 9 [4, 5, 6] [] (fun _ => [(.slice a (B).length c), (.int .i64 z), (.tuple #[(.int .u32 ((rdV B z 4 : Nat) : Int)), (.int .i64 (rdN B.length z 4)), (.int .i64 (rdE B.length z 4))]), (.int .u32 ((rdV B z 4 : Nat) : Int)), (.int .i64 (rdN B.length z 4)), (.int .i64 (rdE B.length z 4)), (.int .u32 ((rdV B z 4 : Nat) : Int)), (.int .i64 (rdN B.length z 4)), (.int .i64 (rdE B.length z 4))]) (fun _ => []) (cR [[], []] <| cX (o_callP _ 72 (fun _ => #[(.slice a (B).length c), (.int .i64 z), (.int .i64 4)]) (fun _ => (.tuple #[(.int .u32 ((rdV B z 4 : Nat) : Int)), (.int .i64 (rdN B.length z 4)), (.int .i64 (rdE B.length z 4))])) (fun _ _ => (by kernel_rfl)) (fun _ => (by kernel_rfl)) (fun _ _ => (by kernel_rfl)) (fun _ _ => trivial) (fun _ _ w hG => read32_any a c B z 4 (by have := hz; have := hBl; omega) hBl (by decide) w hG.facts0.now.1)) <| cR [[], [], [], [], [], []] <| cN) (fun _ => ?_)
  refine ok_ret ?_
  exact mR (v := (.tuple #[(.int .u32 ((rdV B z 4 : Nat) : Int)), (.int .i64 (rdN B.length z 4)), (.int .i64 (rdE B.length z 4))])) (fun _ hS => ⟨rfl, hS.bel⟩)

theorem number_any (a : Option Addr) (c : Nat) (B : List UInt8) (z : Int) (m : Nat) (hz : -9223372036854775808 ≤ z ∧ z < 9223372036854775808) (hBl : B.length ≤ 140737488351232) (hm : m ≤ 8) (w0 : World) (hf0 : Bs w0 a c B) : Calls Tryz.prog 75 #[(.slice a (B).length c), (.int .i64 z), (.int .i64 ((m : Nat) : Int))] w0 (fun ε w' => ε = .returned (.tuple #[(.int .u64 ((rdV B z m : Nat) : Int)), (.int .i64 (rdN B.length z m)), (.int .i64 (rdE B.length z m))]) ∧ Below w0.heap.size w0 w') := by
  refine Calls.of_ok (n := 45) (F := (fun w => Bs w a c B ∧ True)) Tryz.func75 rfl rfl rfl (by simp) (hf0.pers0.and persT) ?_
  refine sS Tryz.f75 3 [0, 1, 2, 6, 7, 8] [] (fun _ => [(.int .u64 0), (.int .i64 0), (.int .i64 0)]) (fun _ => []) (cR [[], [], []] <| cN) (fun _ => ?_)
  refine ok_seq ?_
  rcases Bool.eq_false_or_eq_true (decide (z < 0)) with hb1 | hb1
  ·
    refine sS Tryz.f75 8 [0, 1, 2, 6, 7, 8, 18] [] (fun _ => [(.int .i64 z), (.bool true), (.bool true), undef, undef, undef, undef, (.bool true)]) (fun _ => []) (cR [[]] <| cA (fun _ => (.bool true)) (fun _ => congrArg Value.bool hb1) <| cR [[], [], [], [], [], []] <| cN) (fun _ => ?_)
    refine oY ?_
    refine sS Tryz.f75 3 [0, 1, 2, 6, 7, 8] [] (fun _ => [(.int .u64 0), (.int .i64 0), (.int .i64 5)]) (fun _ => []) (cR [[], [], []] <| cN) (fun _ => ?_)
    refine ok_ret ?_
    refine mt_then_r ?_
    exact mR (v := (.tuple #[(.int .u64 0), (.int .i64 0), (.int .i64 5)])) (fun _ hS => ⟨congrArg Ending.returned (rdT_err (rdE5 (by have := of_decide_eq_true hb1; have := hz; have := hBl; have := hm; omega)) (by decide)), hS.bel⟩)
  ·
    refine sS Tryz.f75 8 [0, 1, 2, 6, 7, 8, 18] [] (fun _ => [(.int .i64 z), (.bool false), (.bool false), (.int .i64 z), (.slice a (B).length c), (.int .i64 (((B).length : Nat) : Int)), (.bool (decide ((((B).length : Nat) : Int) < z))), (.bool (decide ((((B).length : Nat) : Int) < z)))]) (fun _ => []) (cR [[]] <| cA (fun _ => (.bool false)) (fun _ => congrArg Value.bool hb1) <| cR [[], [], [], [], [], []] <| cN) (fun _ => ?_)
    refine oC (decide ((((B).length : Nat) : Int) < z)) (fun hb2 => ?_) (fun hb2 => ?_)
    ·
      rw [hb2]
      refine sS Tryz.f75 3 [0, 1, 2, 6, 7, 8] [] (fun _ => [(.int .u64 0), (.int .i64 0), (.int .i64 5)]) (fun _ => []) (cR [[], [], []] <| cN) (fun _ => ?_)
      refine ok_ret ?_
      refine mt_then_r ?_
      exact mR (v := (.tuple #[(.int .u64 0), (.int .i64 0), (.int .i64 5)])) (fun _ hS => ⟨congrArg Ending.returned (rdT_err (rdE5 (by have := of_decide_eq_false hb1; have := of_decide_eq_true hb2; have := hz; have := hBl; have := hm; omega)) (by decide)), hS.bel⟩)
    ·
      rw [hb2]
      refine ok_skip ?_
      refine mt_then ?_
      refine ok_seq ?_
      refine sS Tryz.f75 6 [0, 1, 2, 6, 7, 8, 24] [] (fun _ => [(.slice a (B).length c), (.int .i64 (((B).length : Nat) : Int)), (.int .i64 z), (.int .i64 ((((B).length : Nat) : Int) - z)), (.int .i64 ((m : Nat) : Int)), (.bool (decide (((((B).length : Nat) : Int) - z) < ((m : Nat) : Int))))]) (fun _ => []) (cR [[], [], []] <| cA (v := fun ρ => (.int .i64 (IntKind.i64.wrap ((((B).length : Nat) : Int) - z)))) (fun _ => (.int .i64 ((((B).length : Nat) : Int) - z))) (fun _ => congrArg (Value.int .i64) (i64N (by have := of_decide_eq_false hb1; have := of_decide_eq_false hb2; have := hz; have := hBl; have := hm; omega))) <| cR [[], []] <| cN) (fun _ => ?_)
      refine oC (decide (((((B).length : Nat) : Int) - z) < ((m : Nat) : Int))) (fun hb3 => ?_) (fun hb3 => ?_)
      ·
        rw [hb3]
        refine sS Tryz.f75 3 [0, 1, 2, 6, 7, 8] [] (fun _ => [(.int .u64 0), (.int .i64 0), (.int .i64 1)]) (fun _ => []) (cR [[], [], []] <| cN) (fun _ => ?_)
        refine ok_ret ?_
        refine mt_then_r ?_
        exact mR (v := (.tuple #[(.int .u64 0), (.int .i64 0), (.int .i64 1)])) (fun _ hS => ⟨congrArg Ending.returned (rdT_err (rdE1 (by have := of_decide_eq_false hb1; have := of_decide_eq_false hb2; have := of_decide_eq_true hb3; have := hz; have := hBl; have := hm; omega) (by have := of_decide_eq_false hb1; have := of_decide_eq_false hb2; have := of_decide_eq_true hb3; have := hz; have := hBl; have := hm; omega)) (by decide)), hS.bel⟩)
      ·
        rw [hb3]
        refine ok_skip ?_
        refine mt_then ?_
        refine sS Tryz.f75 1 [0, 1, 2, 6, 7, 8, 9] [] (fun _ => [(.int .u64 0)]) (fun _ => []) (cR [[]] <| cN) (fun _ => ?_)
        refine ok_seq ?_
        refine sS Tryz.f75 3 [0, 1, 2, 6, 7, 8, 9, 10] [] (fun _ => [(.int .i64 ((m : Nat) : Int)), (.int .i64 (((m : Nat) : Int) - 1 - ((0 : Nat) : Int))), (.int .i64 (((m : Nat) : Int) - 1 - ((0 : Nat) : Int)))]) (fun _ => []) (cR [[]] <| cA (v := fun ρ => (.int .i64 (IntKind.i64.wrap (((m : Nat) : Int) - 1)))) (fun _ => (.int .i64 (((m : Nat) : Int) - 1 - ((0 : Nat) : Int)))) (fun _ => congrArg (Value.int .i64) ((i64N (by have := of_decide_eq_false hb1; have := of_decide_eq_false hb2; have := of_decide_eq_false hb3; have := hz; have := hBl; have := hm; omega)).trans (by omega))) <| cR [[]] <| cN) (fun _ => ?_)
        refine dRs [(0, (.slice a (B).length c)), (1, (.int .i64 z)), (2, (.int .i64 ((m : Nat) : Int))), (6, (.int .u64 0)), (7, (.int .i64 0)), (8, (.int .i64 0)), (9, (.int .u64 0)), (10, (.int .i64 (((m : Nat) : Int) - 1 - ((0 : Nat) : Int))))] [] ?_
        refine ok_block ?_
        refine oL (σ := Nat) (fun k => [(0, (.slice a (B).length c)), (1, (.int .i64 z)), (2, (.int .i64 ((m : Nat) : Int))), (6, (.int .u64 0)), (7, (.int .i64 0)), (8, (.int .i64 0)), (9, (.int .u64 ((leN B (z.toNat + (m - k)) k : Nat) : Int))), (10, (.int .i64 (((m : Nat) : Int) - 1 - ((k : Nat) : Int))))]) (fun _ => []) (fun k => m - k)
          (fun k => (k ≤ m)) 0 (Nat.zero_le m) [] ?_
        rintro k hk
        change Ok Tryz.prog _ _ 45 [(0, (.slice a (B).length c)), (1, (.int .i64 z)), (2, (.int .i64 ((m : Nat) : Int))), (6, (.int .u64 0)), (7, (.int .i64 0)), (8, (.int .i64 0)), (9, (.int .u64 ((leN B (z.toNat + (m - k)) k : Nat) : Int))), (10, (.int .i64 (((m : Nat) : Int) - 1 - ((k : Nat) : Int))))] _ [] (fun w => Bs w a c B ∧ True)
        refine ok_seq ?_
        refine sS Tryz.f75 2 [0, 1, 2, 6, 7, 8, 9, 10, 28] [] (fun _ => [(.int .i64 (((m : Nat) : Int) - 1 - ((k : Nat) : Int))), (.bool (decide (0 ≤ (((m : Nat) : Int) - 1 - ((k : Nat) : Int)))))]) (fun _ => []) (cR [[], []] <| cN) (fun _ => ?_)
        refine oC (decide (0 ≤ (((m : Nat) : Int) - 1 - ((k : Nat) : Int)))) (fun hb4 => ?_) (fun hb4 => ?_)
        ·
          rw [hb4]
          refine ok_skip ?_
          refine mt_then ?_
          refine ok_seq ?_
          refine ok_block ?_
          refine rS Tryz.f75 11 [0, 1, 2, 6, 7, 8, 9, 10] [] (fun _ => [(.int .u64 ((leN B (z.toNat + (m - k)) k : Nat) : Int)), (.int .u64 ((leN B (z.toNat + (m - k)) k * 256 : Nat) : Int)), (.slice a (B).length c), (.int .i64 z), (.int .i64 (((m : Nat) : Int) - 1 - ((k : Nat) : Int))), (.int .i64 (z + (((m : Nat) : Int) - 1 - ((k : Nat) : Int)))), (.pointer (adr a (z.toNat + (m - 1 - k)))), (.int .u8 ((gB B (z.toNat + (m - 1 - k)) : Nat) : Int)), (.int .u64 ((gB B (z.toNat + (m - 1 - k)) : Nat) : Int)), (.int .u64 ((leN B (z.toNat + (m - (k + 1))) (k + 1) : Nat) : Int)), (.int .u64 ((leN B (z.toNat + (m - (k + 1))) (k + 1) : Nat) : Int))]) (fun _ => []) (cR [[]] <| cB (a := fun ρ => (.int .u64 ((leN B (z.toNat + (m - k)) k : Nat) : Int))) (b := fun ρ => (.int .u64 8)) (v := fun ρ => (.int .u64 ((leN B (z.toNat + (m - k)) k * 256 : Nat) : Int))) .shl 27 (fun _ w => run_num8 B (z.toNat + (m - k)) (by have := of_decide_eq_false hb1; have := of_decide_eq_false hb2; have := of_decide_eq_false hb3; have := of_decide_eq_true hb4; have := hz; have := hBl; have := hm; have := hk; omega) w) <| cR [[], [], []] <| cA (v := fun ρ => (.int .i64 (IntKind.i64.wrap (z + (((m : Nat) : Int) - 1 - ((k : Nat) : Int)))))) (fun _ => (.int .i64 (z + (((m : Nat) : Int) - 1 - ((k : Nat) : Int))))) (fun _ => congrArg (Value.int .i64) (i64N (by have := of_decide_eq_false hb1; have := of_decide_eq_false hb2; have := of_decide_eq_false hb3; have := of_decide_eq_true hb4; have := hz; have := hBl; have := hm; have := hk; omega))) <| cX (o_semF _ (fun _ => do pure (Next.value (← Instr.indexAt 43 (.slice a (B).length c) (.int .i64 (z + (((m : Nat) : Int) - 1 - ((k : Nat) : Int))))))) (fun _ => (.pointer (adr a (z.toNat + (m - 1 - k))))) (fun _ => (by kernel_rfl)) (fun _ => (by kernel_rfl)) (fun _ _ _ hG => idx_bytes Tryz.underlying43 u8i hG.facts0.now.1 rfl ((show z + (((m : Nat) : Int) - 1 - ((k : Nat) : Int)) = ((z.toNat + (m - 1 - k) : Nat) : Int) ∧ z.toNat + (m - 1 - k) < (B).length from ⟨(by have := of_decide_eq_false hb1; have := of_decide_eq_false hb2; have := of_decide_eq_false hb3; have := of_decide_eq_true hb4; have := hz; have := hBl; have := hm; have := hk; omega), (by have := of_decide_eq_false hb1; have := of_decide_eq_false hb2; have := of_decide_eq_false hb3; have := of_decide_eq_true hb4; have := hz; have := hBl; have := hm; have := hk; omega)⟩)).1 ((show z + (((m : Nat) : Int) - 1 - ((k : Nat) : Int)) = ((z.toNat + (m - 1 - k) : Nat) : Int) ∧ z.toNat + (m - 1 - k) < (B).length from ⟨(by have := of_decide_eq_false hb1; have := of_decide_eq_false hb2; have := of_decide_eq_false hb3; have := of_decide_eq_true hb4; have := hz; have := hBl; have := hm; have := hk; omega), (by have := of_decide_eq_false hb1; have := of_decide_eq_false hb2; have := of_decide_eq_false hb3; have := of_decide_eq_true hb4; have := hz; have := hBl; have := hm; have := hk; omega)⟩)).2) (fun _ _ _ _ => persT)) <| cX (o_semF _ (fun _ => do pure (Next.value (← Instr.loadAt 5 (.pointer (adr a (z.toNat + (m - 1 - k))))))) (fun _ => (.int .u8 ((gB B (z.toNat + (m - 1 - k)) : Nat) : Int))) (fun _ => (by kernel_rfl)) (fun _ => (by kernel_rfl)) (fun _ _ _ hG => ld_bytes Tryz.isAgg5 hG.facts0.now.1 ((show z + (((m : Nat) : Int) - 1 - ((k : Nat) : Int)) = ((z.toNat + (m - 1 - k) : Nat) : Int) ∧ z.toNat + (m - 1 - k) < (B).length from ⟨(by have := of_decide_eq_false hb1; have := of_decide_eq_false hb2; have := of_decide_eq_false hb3; have := of_decide_eq_true hb4; have := hz; have := hBl; have := hm; have := hk; omega), (by have := of_decide_eq_false hb1; have := of_decide_eq_false hb2; have := of_decide_eq_false hb3; have := of_decide_eq_true hb4; have := hz; have := hBl; have := hm; have := hk; omega)⟩)).2) (fun _ _ _ _ => persT)) <| cA (v := fun ρ => (.int .u64 (IntKind.u64.wrap (((gB B (z.toNat + (m - 1 - k)) : Nat) : Int))))) (fun _ => (.int .u64 ((gB B (z.toNat + (m - 1 - k)) : Nat) : Int))) (fun _ => congrArg (Value.int .u64) (u64N (by have := of_decide_eq_false hb1; have := of_decide_eq_false hb2; have := of_decide_eq_false hb3; have := of_decide_eq_true hb4; have := hz; have := hBl; have := hm; have := hk; have := gB_lt B (z.toNat + (m - 1 - k)); omega))) <| cA (v := fun ρ => (.int .u64 (bits .or .u64 ((leN B (z.toNat + (m - k)) k * 256 : Nat) : Int) ((gB B (z.toNat + (m - 1 - k)) : Nat) : Int)))) (fun _ => (.int .u64 ((leN B (z.toNat + (m - (k + 1))) (k + 1) : Nat) : Int))) (fun _ => congrArg (Value.int .u64) (or_num B z.toNat (by have := of_decide_eq_false hb1; have := of_decide_eq_false hb2; have := of_decide_eq_false hb3; have := of_decide_eq_true hb4; have := hz; have := hBl; have := hm; have := hk; omega) hm)) <| cR [[]] <| cN) (fun _ => ?_)
          refine mt_block_n ?_
          refine mt_then ?_
          refine rS Tryz.f75 3 [0, 1, 2, 6, 7, 8, 9, 10] [] (fun _ => [(.int .i64 (((m : Nat) : Int) - 1 - ((k : Nat) : Int))), (.int .i64 (((m : Nat) : Int) - 1 - ((k + 1 : Nat) : Int))), (.int .i64 (((m : Nat) : Int) - 1 - ((k + 1 : Nat) : Int)))]) (fun _ => []) (cR [[]] <| cA (v := fun ρ => (.int .i64 (IntKind.i64.wrap ((((m : Nat) : Int) - 1 - ((k : Nat) : Int)) - 1)))) (fun _ => (.int .i64 (((m : Nat) : Int) - 1 - ((k + 1 : Nat) : Int)))) (fun _ => congrArg (Value.int .i64) ((i64N (by have := of_decide_eq_false hb1; have := of_decide_eq_false hb2; have := of_decide_eq_false hb3; have := of_decide_eq_true hb4; have := hz; have := hBl; have := hm; have := hk; omega)).trans (by omega))) <| cR [[]] <| cN) (fun _ => ?_)
          exact mN (k + 1) (by show m - (k + 1) < m - k; have := of_decide_eq_false hb1; have := of_decide_eq_false hb2; have := of_decide_eq_false hb3; have := of_decide_eq_true hb4; have := hz; have := hBl; have := hm; have := hk; omega) (by show k + 1 ≤ m; have := of_decide_eq_false hb1; have := of_decide_eq_false hb2; have := of_decide_eq_false hb3; have := of_decide_eq_true hb4; have := hz; have := hBl; have := hm; have := hk; omega) []
        ·
          rw [hb4]
          refine ok_exit ?_
          refine mt_then_e ?_
          refine mt_then_e ?_
          refine mt_block_h ?_
          refine mt_then ?_
          refine sS Tryz.f75 7 [6, 7, 8] [] (fun _ => [(.int .u64 ((leN B (z.toNat + (m - k)) k : Nat) : Int)), (.int .i64 z), (.int .i64 ((m : Nat) : Int)), (.int .i64 (z + ((m : Nat) : Int))), (.int .u64 ((leN B (z.toNat + (m - k)) k : Nat) : Int)), (.int .i64 (z + ((m : Nat) : Int))), (.int .i64 0)]) (fun _ => []) (cR [[], [], []] <| cA (v := fun ρ => (.int .i64 (IntKind.i64.wrap (z + ((m : Nat) : Int))))) (fun _ => (.int .i64 (z + ((m : Nat) : Int)))) (fun _ => congrArg (Value.int .i64) (i64N (by have := of_decide_eq_false hb1; have := of_decide_eq_false hb2; have := of_decide_eq_false hb3; have := of_decide_eq_false hb4; have := hz; have := hBl; have := hm; have := hk; omega))) <| cR [[], [], []] <| cN) (fun _ => ?_)
          refine ok_ret ?_
          exact mR (v := (.tuple #[(.int .u64 ((leN B (z.toNat + (m - k)) k : Nat) : Int)), (.int .i64 (z + ((m : Nat) : Int))), (.int .i64 0)])) (fun _ hS => ⟨congrArg Ending.returned ((by rw [num_end (show k = m by have := of_decide_eq_false hb1; have := of_decide_eq_false hb2; have := of_decide_eq_false hb3; have := of_decide_eq_false hb4; have := hz; have := hBl; have := hm; have := hk; omega)]; exact rdT_ok (rdE0 (by have := of_decide_eq_false hb1; have := of_decide_eq_false hb2; have := of_decide_eq_false hb3; have := of_decide_eq_false hb4; have := hz; have := hBl; have := hm; have := hk; omega) (by have := of_decide_eq_false hb1; have := of_decide_eq_false hb2; have := of_decide_eq_false hb3; have := of_decide_eq_false hb4; have := hz; have := hBl; have := hm; have := hk; omega)) rfl)), hS.bel⟩)

theorem ru32_any (a : Option Addr) (c : Nat) (B : List UInt8) (z : Int) (hz : -9223372036854775808 ≤ z ∧ z < 9223372036854775808) (hBl : B.length ≤ 140737488351232) (w0 : World) (hf0 : Bs w0 a c B) : Calls Tryz.prog 46 #[(.slice a (B).length c), (.int .i64 z)] w0 (fun ε w' => ε = .returned (.tuple #[(.int .u32 ((rdV B z 4 : Nat) : Int)), (.int .i64 (rdN B.length z 4)), (.int .i64 (rdE B.length z 4))]) ∧ Below w0.heap.size w0 w') := by
  refine Calls.of_ok (n := 21) (F := (fun w => Bs w a c B ∧ True)) Tryz.func46 rfl rfl rfl (by simp) (hf0.pers0.and persT) ?_
  refine sS Tryz.f46 3 [0, 1, 4, 5, 6] [] (fun _ => [(.int .u32 0), (.int .i64 0), (.int .i64 0)]) (fun _ => []) (cR [[], [], []] <| cN) (fun _ => ?_)
  refine sS Tryz.f46 10 [4, 5, 6, 7, 8, 9] [] (fun _ => [(.slice a (B).length c), (.int .i64 z), (.tuple #[(.int .u64 ((rdV B z 4 : Nat) : Int)), (.int .i64 (rdN B.length z 4)), (.int .i64 (rdE B.length z 4))]), (.tuple #[(.int .u64 ((rdV B z 4 : Nat) : Int)), (.int .i64 (rdN B.length z 4)), (.int .i64 (rdE B.length z 4))]), (.int .u64 ((rdV B z 4 : Nat) : Int)), (.int .i64 (rdN B.length z 4)), (.int .i64 (rdE B.length z 4)), (.int .u64 ((rdV B z 4 : Nat) : Int)), (.int .i64 (rdN B.length z 4)), (.int .i64 (rdE B.length z 4))]) (fun _ => []) (cR [[], []] <| cX (o_callP _ 75 (fun _ => #[(.slice a (B).length c), (.int .i64 z), (.int .i64 4)]) (fun _ => (.tuple #[(.int .u64 ((rdV B z 4 : Nat) : Int)), (.int .i64 (rdN B.length z 4)), (.int .i64 (rdE B.length z 4))])) (fun _ _ => (by kernel_rfl)) (fun _ => (by kernel_rfl)) (fun _ _ => (by kernel_rfl)) (fun _ _ => trivial) (fun _ _ w hG => number_any a c B z 4 (by have := hz; have := hBl; omega) hBl (by decide) w hG.facts0.now.1)) <| cR [[], [], [], [], [], [], []] <| cN) (fun _ => ?_)
  refine sS Tryz.f46 7 [4, 5, 6] [] (fun _ => [(.int .u64 ((rdV B z 4 : Nat) : Int)), (.int .u32 ((rdV B z 4 : Nat) : Int)), (.int .i64 (rdN B.length z 4)), (.int .i64 (rdE B.length z 4)), (.int .u32 ((rdV B z 4 : Nat) : Int)), (.int .i64 (rdN B.length z 4)), (.int .i64 (rdE B.length z 4))]) (fun _ => []) (cR [[]] <| cA (v := fun ρ => (.int .u32 (IntKind.u32.wrap (((rdV B z 4 : Nat) : Int))))) (fun _ => (.int .u32 ((rdV B z 4 : Nat) : Int))) (fun _ => congrArg (Value.int .u32) (u32N (by have := hz; have := hBl; have := rdV_lt B z 4; omega))) <| cR [[], [], [], [], []] <| cN) (fun _ => ?_)
  refine ok_ret ?_
  exact mR (v := (.tuple #[(.int .u32 ((rdV B z 4 : Nat) : Int)), (.int .i64 (rdN B.length z 4)), (.int .i64 (rdE B.length z 4))])) (fun _ hS => ⟨rfl, hS.bel⟩)

theorem hash_any (a : Option Addr) (c : Nat) (B : List UInt8) (z : Int) (hz : -9223372036854775808 ≤ z ∧ z < 9223372036854775808) (hBl : B.length ≤ 140737488351232) (w0 : World) (hf0 : Bs w0 a c B) : Calls Tryz.prog 43 #[(.slice a (B).length c), (.int .i64 z)] w0 (fun ε w' => ε = .returned (.tuple #[(.agg (hB (hsV B z))), (.int .i64 (rdN B.length z 32)), (.int .i64 (rdE B.length z 32))]) ∧ Below w0.heap.size w0 w') := by
  refine Calls.of_ok (n := 24) (F := (fun w => Bs w a c B ∧ True)) Tryz.func43 rfl rfl rfl (by simp) (hf0.pers0.and persT) ?_
  refine sS Tryz.f43 3 [0, 1, 4, 5, 6] [] (fun ρ => [(pt (nb ρ 0)), (.int .i64 0), (.int .i64 0)]) (fun ρ => [(0, { news := [(nb ρ 0, (.cells (hB 0) 31 (0, 0)))] })]) (cR [[], [], []] <| cN) (fun ρ1 => ?_)
  refine sS Tryz.f43 1 [0, 1, 4, 5, 6, 7] [] (fun ρ => [(pt (nb ρ 0))]) (fun ρ => [(0, { news := [(nb ρ 0, (.cells (hB 0) 31 (0, 0)))] })]) (cR [[]] <| cN) (fun ρ2 => ?_)
  refine ok_seq ?_
  refine sS Tryz.f43 4 [0, 1, 4, 5, 6, 7, 8] [] (fun _ => [(.slice a (B).length c), (.int .i64 z), (.int .i64 (rdE B.length z 32)), (.int .i64 (rdE B.length z 32))]) (fun _ => []) (cR [[], []] <| cC (fun _ w => room_any a c B z 32 (by have := hz; have := hBl; omega) hBl (by have := hz; have := hBl; omega) w) <| cR [[]] <| cN) (fun _ => ?_)
  refine sS Tryz.f43 2 [0, 1, 4, 5, 6, 7, 8, 13] [] (fun _ => [(.int .i64 (rdE B.length z 32)), (.bool ((rdE B.length z 32) != 0))]) (fun _ => []) (cR [[], []] <| cN) (fun _ => ?_)
  refine oC ((rdE B.length z 32) != 0) (fun hb1 => ?_) (fun hb1 => ?_)
  ·
    rw [hb1]
    refine sS Tryz.f43 5 [0, 1, 4, 5, 6, 7] [] (fun _ => [(.agg (hB 0)), (.int .i64 (rdE B.length z 32)), undef, (.int .i64 0), (.int .i64 (rdE B.length z 32))]) (fun _ => [(2, { puts := [(0, nb ρ1 0, (.cells (hB 0) 31 (0, 0)))] })]) (cR [[], [], [0], [], []] <| cN) (fun _ => ?_)
    refine ok_ret ?_
    refine mt_then_r ?_
    exact mR (v := (.tuple #[(.agg (hB 0)), (.int .i64 0), (.int .i64 (rdE B.length z 32))])) (fun _ hS => ⟨congrArg Ending.returned (hs_err rfl (bne0 hb1)), hS.bel⟩)
  ·
    rw [hb1]
    refine ok_skip ?_
    refine mt_then ?_
    refine sDf Tryz.f43 [0, 0, 0, 6, 15] 5 [1, 4, 5, 6, 7] [] (fun _ => [(.slice (some ⟨nb ρ2 0, 0, none⟩) (hL 0).length 32), (.slice a (B).length c), (.int .i64 z), (.slice (sadr a z.toNat c) (mid B z.toNat B.length).length (c - z.toNat)), (.int .i64 ((Nat.min (mid B z.toNat B.length).length 32 : Nat) : Int))]) (fun _ => [(4, { puts := [(1, nb ρ2 0, (.cells (hB (nB ((mid B z.toNat B.length).take 32))) 31 (0, 0)))] })]) (fun _ => [(3, fun w => Bs w (sadr a z.toNat c) (c - z.toNat) (mid B z.toNat B.length))]) (fun _ => (fun w => Bs w a c B ∧ Bs w (sadr a z.toNat c) (c - z.toNat) (mid B z.toNat B.length) ∧ True)) (fun _ => True) (fun _ _ hF hf => ⟨⟨hF.1, hf 3, trivial⟩, trivial⟩) (cR [[], [], []] <| cX (o_semF _ (fun _ => do pure (Next.value (← Instr.sliceAt 43 (.slice a (B).length c) (some (.int .i64 z)) none none))) (fun _ => (.slice (sadr a z.toNat c) (mid B z.toNat B.length).length (c - z.toNat))) (fun _ => (by kernel_rfl)) (fun _ => (by kernel_rfl)) (fun _ _ _ hG => slice_bytes (l := z.toNat) (k := B.length) Tryz.underlying43 u8i hG.facts0.now.1 rfl (Or.inr (congrArg (fun z => some (Value.int .i64 z)) ((by have := bne0' hb1; have := rdE_in (bne0' hb1); have := hz; have := hBl; omega)))) (Or.inl ⟨rfl, rfl⟩) ((by have := bne0' hb1; have := rdE_in (bne0' hb1); have := hz; have := hBl; omega)) ((Nat.le_refl _))) (fun _ _ w hG => (hG.facts0).mono (fun _ hF => (hF).1.mid ((by have := bne0' hb1; have := rdE_in (bne0' hb1); have := hz; have := hBl; omega)) ((Nat.le_refl _))))) <| cX (o_put1 _ 1 (fun _ => do pure (Next.value (← Builtin.copy_ #[43, 43] 3 #[(.slice (some ⟨nb ρ2 0, 0, none⟩) 32 32), (.slice (sadr a z.toNat c) (mid B z.toNat B.length).length (c - z.toNat))]))) (fun _ => nb ρ2 0) (fun _ => (.cells (hB 0) 31 (0, 0))) (fun _ => (.cells (hB (nB ((mid B z.toNat B.length).take 32))) 31 (0, 0))) (fun _ => (.int .i64 ((Nat.min (mid B z.toNat B.length).length 32 : Nat) : Int))) (fun _ => (by kernel_rfl)) (fun _ => (by kernel_rfl)) (fun _ => (by kernel_rfl)) (fun _ => (by kernel_rfl)) (fun _ _ => trivial) (fun _ _ w hG hg => (by as_aux_lemma => (rw [← copy_hash ((by rw [mid_length _ _ _ (Nat.le_refl _)]; have := bne0' hb1; have := rdE_in (bne0' hb1); have := hz; have := hBl; omega))]; exact copy_row Tryz.underlying43 u8i hg (show Bs w (sadr a z.toNat c) (c - z.toNat) (mid B z.toNat B.length) from (hG.facts 3 rfl).now) rfl (by rw [hB_size]; exact Nat.le_refl _))))) <| cN) (fun _ _ => ?_)
    refine dRs [(1, (.int .i64 z)), (4, (pt (nb ρ1 0))), (5, (.int .i64 0)), (6, (.int .i64 0)), (7, (pt (nb ρ2 0)))] [(nb ρ1 0, (.cells (hB 0) 31 (0, 0))), (nb ρ2 0, (.cells (hB (nB ((mid B z.toNat B.length).take 32))) 31 (0, 0)))] ?_
    refine sS Tryz.f43 6 [4, 5, 6] [1, 0] (fun _ => [(.agg (hB (nB ((mid B z.toNat B.length).take 32)))), (.int .i64 z), (.int .i64 (z + 32)), undef, (.int .i64 (z + 32)), (.int .i64 0)]) (fun _ => [(3, { puts := [(0, nb ρ1 0, (.cells (hB (nB ((mid B z.toNat B.length).take 32))) 31 (0, 0)))] })]) (cR [[1], []] <| cA (v := fun ρ => (.int .i64 (IntKind.i64.wrap (z + 32)))) (fun _ => (.int .i64 (z + 32))) (fun _ => congrArg (Value.int .i64) (i64N (by have := bne0' hb1; have := rdE_in (bne0' hb1); have := hz; have := hBl; omega))) <| cR [[0], [], []] <| cN) (fun _ => ?_)
    refine ok_ret ?_
    exact mR (v := (.tuple #[(.agg (hB (nB ((mid B z.toNat B.length).take 32)))), (.int .i64 (z + 32)), (.int .i64 0)])) (fun _ hS => ⟨congrArg Ending.returned (hs_ok (bne0' hb1)), hS.bel⟩)

theorem rhash_any (a : Option Addr) (c : Nat) (B : List UInt8) (z : Int) (hz : -9223372036854775808 ≤ z ∧ z < 9223372036854775808) (hBl : B.length ≤ 140737488351232) (w0 : World) (hf0 : Bs w0 a c B) : Calls Tryz.prog 47 #[(.slice a (B).length c), (.int .i64 z)] w0 (fun ε w' => ε = .returned (.tuple #[(.agg (hB (hsV B z))), (.int .i64 (rdN B.length z 32)), (.int .i64 (rdE B.length z 32))]) ∧ Below w0.heap.size w0 w') := by
  refine Calls.of_ok (n := 31) (F := (fun w => Bs w a c B ∧ True)) Tryz.func47 rfl rfl rfl (by simp) (hf0.pers0.and persT) ?_
  refine sS Tryz.f47 3 [0, 1, 4, 5, 6] [] (fun ρ => [(pt (nb ρ 0)), (.int .i64 0), (.int .i64 0)]) (fun ρ => [(0, { news := [(nb ρ 0, (.cells (hB 0) 31 (0, 0)))] })]) (cR [[], [], []] <| cN) (fun ρ1 => ?_)
  refine sS Tryz.f47 1 [0, 1, 4, 5, 6, 7] [] (fun ρ => [(pt (nb ρ 0))]) (fun ρ => [(0, { news := [(nb ρ 0, (.cells (hB 0) 31 (0, 0)))] })]) (cR [[]] <| cN) (fun ρ2 => ?_)
  refine ok_seq ?_
  rcases Bool.eq_false_or_eq_true (decide (z < 0)) with hb1 | hb1
  ·
    refine sS Tryz.f47 8 [0, 1, 4, 5, 6, 7, 15] [] (fun _ => [(.int .i64 z), (.bool true), (.bool true), undef, undef, undef, undef, (.bool true)]) (fun _ => []) (cR [[]] <| cA (fun _ => (.bool true)) (fun _ => congrArg Value.bool hb1) <| cR [[], [], [], [], [], []] <| cN) (fun _ => ?_)
    refine oY ?_
    refine sS Tryz.f47 4 [0, 1, 4, 5, 6, 7] [] (fun _ => [(.agg (hB 0)), undef, (.int .i64 0), (.int .i64 5)]) (fun _ => [(1, { puts := [(0, nb ρ1 0, (.cells (hB 0) 31 (0, 0)))] })]) (cR [[1], [0], [], []] <| cN) (fun _ => ?_)
    refine ok_ret ?_
    refine mt_then_r ?_
    exact mR (v := (.tuple #[(.agg (hB 0)), (.int .i64 0), (.int .i64 5)])) (fun _ hS => ⟨congrArg Ending.returned (hs_err (rdE5 (by have := of_decide_eq_true hb1; have := hz; have := hBl; omega)) (by decide)), hS.bel⟩)
  ·
    refine sS Tryz.f47 8 [0, 1, 4, 5, 6, 7, 15] [] (fun _ => [(.int .i64 z), (.bool false), (.bool false), (.int .i64 z), (.slice a (B).length c), (.int .i64 (((B).length : Nat) : Int)), (.bool (decide ((((B).length : Nat) : Int) < z))), (.bool (decide ((((B).length : Nat) : Int) < z)))]) (fun _ => []) (cR [[]] <| cA (fun _ => (.bool false)) (fun _ => congrArg Value.bool hb1) <| cR [[], [], [], [], [], []] <| cN) (fun _ => ?_)
    refine oC (decide ((((B).length : Nat) : Int) < z)) (fun hb2 => ?_) (fun hb2 => ?_)
    ·
      rw [hb2]
      refine sS Tryz.f47 4 [0, 1, 4, 5, 6, 7] [] (fun _ => [(.agg (hB 0)), undef, (.int .i64 0), (.int .i64 5)]) (fun _ => [(1, { puts := [(0, nb ρ1 0, (.cells (hB 0) 31 (0, 0)))] })]) (cR [[1], [0], [], []] <| cN) (fun _ => ?_)
      refine ok_ret ?_
      refine mt_then_r ?_
      exact mR (v := (.tuple #[(.agg (hB 0)), (.int .i64 0), (.int .i64 5)])) (fun _ hS => ⟨congrArg Ending.returned (hs_err (rdE5 (by have := of_decide_eq_false hb1; have := of_decide_eq_true hb2; have := hz; have := hBl; omega)) (by decide)), hS.bel⟩)
    ·
      rw [hb2]
      refine ok_skip ?_
      refine mt_then ?_
      refine ok_seq ?_
      refine sS Tryz.f47 5 [0, 1, 4, 5, 6, 7, 21] [] (fun _ => [(.slice a (B).length c), (.int .i64 (((B).length : Nat) : Int)), (.int .i64 z), (.int .i64 ((((B).length : Nat) : Int) - z)), (.bool (decide (((((B).length : Nat) : Int) - z) < 32)))]) (fun _ => []) (cR [[], [], []] <| cA (v := fun ρ => (.int .i64 (IntKind.i64.wrap ((((B).length : Nat) : Int) - z)))) (fun _ => (.int .i64 ((((B).length : Nat) : Int) - z))) (fun _ => congrArg (Value.int .i64) (i64N (by have := of_decide_eq_false hb1; have := of_decide_eq_false hb2; have := hz; have := hBl; omega))) <| cR [[]] <| cN) (fun _ => ?_)
      refine oC (decide (((((B).length : Nat) : Int) - z) < 32)) (fun hb3 => ?_) (fun hb3 => ?_)
      ·
        rw [hb3]
        refine sS Tryz.f47 4 [0, 1, 4, 5, 6, 7] [] (fun _ => [(.agg (hB 0)), undef, (.int .i64 0), (.int .i64 1)]) (fun _ => [(1, { puts := [(0, nb ρ1 0, (.cells (hB 0) 31 (0, 0)))] })]) (cR [[1], [0], [], []] <| cN) (fun _ => ?_)
        refine ok_ret ?_
        refine mt_then_r ?_
        exact mR (v := (.tuple #[(.agg (hB 0)), (.int .i64 0), (.int .i64 1)])) (fun _ hS => ⟨congrArg Ending.returned (hs_err (rdE1 (by have := of_decide_eq_false hb1; have := of_decide_eq_false hb2; have := of_decide_eq_true hb3; have := hz; have := hBl; omega) (by have := of_decide_eq_false hb1; have := of_decide_eq_false hb2; have := of_decide_eq_true hb3; have := hz; have := hBl; omega)) (by decide)), hS.bel⟩)
      ·
        rw [hb3]
        refine ok_skip ?_
        refine mt_then ?_
        refine sDf Tryz.f47 [0, 0, 0, 6, 15] 5 [1, 4, 5, 6, 7] [] (fun _ => [(.slice (some ⟨nb ρ2 0, 0, none⟩) (hL 0).length 32), (.slice a (B).length c), (.int .i64 z), (.slice (sadr a z.toNat c) (mid B z.toNat B.length).length (c - z.toNat)), (.int .i64 ((Nat.min (mid B z.toNat B.length).length 32 : Nat) : Int))]) (fun _ => [(4, { puts := [(1, nb ρ2 0, (.cells (hB (nB ((mid B z.toNat B.length).take 32))) 31 (0, 0)))] })]) (fun _ => [(3, fun w => Bs w (sadr a z.toNat c) (c - z.toNat) (mid B z.toNat B.length))]) (fun _ => (fun w => Bs w a c B ∧ Bs w (sadr a z.toNat c) (c - z.toNat) (mid B z.toNat B.length) ∧ True)) (fun _ => True) (fun _ _ hF hf => ⟨⟨hF.1, hf 3, trivial⟩, trivial⟩) (cR [[], [], []] <| cX (o_semF _ (fun _ => do pure (Next.value (← Instr.sliceAt 43 (.slice a (B).length c) (some (.int .i64 z)) none none))) (fun _ => (.slice (sadr a z.toNat c) (mid B z.toNat B.length).length (c - z.toNat))) (fun _ => (by kernel_rfl)) (fun _ => (by kernel_rfl)) (fun _ _ _ hG => slice_bytes (l := z.toNat) (k := B.length) Tryz.underlying43 u8i hG.facts0.now.1 rfl (Or.inr (congrArg (fun z => some (Value.int .i64 z)) ((by have := of_decide_eq_false hb1; have := of_decide_eq_false hb2; have := of_decide_eq_false hb3; have := hz; have := hBl; omega)))) (Or.inl ⟨rfl, rfl⟩) ((by have := of_decide_eq_false hb1; have := of_decide_eq_false hb2; have := of_decide_eq_false hb3; have := hz; have := hBl; omega)) ((Nat.le_refl _))) (fun _ _ w hG => (hG.facts0).mono (fun _ hF => (hF).1.mid ((by have := of_decide_eq_false hb1; have := of_decide_eq_false hb2; have := of_decide_eq_false hb3; have := hz; have := hBl; omega)) ((Nat.le_refl _))))) <| cX (o_put1 _ 1 (fun _ => do pure (Next.value (← Builtin.copy_ #[43, 43] 3 #[(.slice (some ⟨nb ρ2 0, 0, none⟩) 32 32), (.slice (sadr a z.toNat c) (mid B z.toNat B.length).length (c - z.toNat))]))) (fun _ => nb ρ2 0) (fun _ => (.cells (hB 0) 31 (0, 0))) (fun _ => (.cells (hB (nB ((mid B z.toNat B.length).take 32))) 31 (0, 0))) (fun _ => (.int .i64 ((Nat.min (mid B z.toNat B.length).length 32 : Nat) : Int))) (fun _ => (by kernel_rfl)) (fun _ => (by kernel_rfl)) (fun _ => (by kernel_rfl)) (fun _ => (by kernel_rfl)) (fun _ _ => trivial) (fun _ _ w hG hg => (by as_aux_lemma => (rw [← copy_hash ((by rw [mid_length _ _ _ (Nat.le_refl _)]; have := of_decide_eq_false hb1; have := of_decide_eq_false hb2; have := of_decide_eq_false hb3; have := hz; have := hBl; omega))]; exact copy_row Tryz.underlying43 u8i hg (show Bs w (sadr a z.toNat c) (c - z.toNat) (mid B z.toNat B.length) from (hG.facts 3 rfl).now) rfl (by rw [hB_size]; exact Nat.le_refl _))))) <| cN) (fun _ _ => ?_)
        refine dRs [(1, (.int .i64 z)), (4, (pt (nb ρ1 0))), (5, (.int .i64 0)), (6, (.int .i64 0)), (7, (pt (nb ρ2 0)))] [(nb ρ1 0, (.cells (hB 0) 31 (0, 0))), (nb ρ2 0, (.cells (hB (nB ((mid B z.toNat B.length).take 32))) 31 (0, 0)))] ?_
        refine sS Tryz.f47 6 [4, 5, 6] [1, 0] (fun _ => [(.agg (hB (nB ((mid B z.toNat B.length).take 32)))), (.int .i64 z), (.int .i64 (z + 32)), undef, (.int .i64 (z + 32)), (.int .i64 0)]) (fun _ => [(3, { puts := [(0, nb ρ1 0, (.cells (hB (nB ((mid B z.toNat B.length).take 32))) 31 (0, 0)))] })]) (cR [[1], []] <| cA (v := fun ρ => (.int .i64 (IntKind.i64.wrap (z + 32)))) (fun _ => (.int .i64 (z + 32))) (fun _ => congrArg (Value.int .i64) (i64N (by have := of_decide_eq_false hb1; have := of_decide_eq_false hb2; have := of_decide_eq_false hb3; have := hz; have := hBl; omega))) <| cR [[0], [], []] <| cN) (fun _ => ?_)
        refine ok_ret ?_
        exact mR (v := (.tuple #[(.agg (hB (nB ((mid B z.toNat B.length).take 32)))), (.int .i64 (z + 32)), (.int .i64 0)])) (fun _ hS => ⟨congrArg Ending.returned (hs_ok (rdE0 (by have := of_decide_eq_false hb1; have := of_decide_eq_false hb2; have := of_decide_eq_false hb3; have := hz; have := hBl; omega) (by have := of_decide_eq_false hb1; have := of_decide_eq_false hb2; have := of_decide_eq_false hb3; have := hz; have := hBl; omega))), hS.bel⟩)
end Go.Proofs.YtjdhjkceahaegaaGreatDoor

/-! Trees of keys: paths in pieces, paths without secrets. -/
namespace Go.Proofs.YtjdhjkceahaegaaGreatDoor
open Go

theorem dvE_app (k : Ky) (p q : List Nat) : dvE k (p ++ q) = if dvE k p = 0 then dvE (dvK k p) q else dvE k p := by
  induction p generalizing k with
  | nil => simp [dvE, dvK]
  | cons i r ih =>
    by_cases h : stE k i = 0
    · simp [List.cons_append, dvE, dvK, h, ih]
    · simp [List.cons_append, dvE, h]
theorem dvK_app (k : Ky) (p q : List Nat) : dvK k (p ++ q) = if dvE k p = 0 then dvK (dvK k p) q else Ky.z := by
  induction p generalizing k with
  | nil => simp [dvE, dvK]
  | cons i r ih =>
    by_cases h : stE k i = 0
    · simp [List.cons_append, dvE, dvK, h, ih]
    · simp [List.cons_append, dvE, dvK, h]
theorem dv_snd {k : Ky} {p : List Nat} (h : sndB k = true) (h0 : dvE k p = 0) : sndB (dvK k p) = true := by
  induction p generalizing k with
  | nil => exact h
  | cons i r ih =>
    simp only [dvE, dvK] at h0 ⊢
    by_cases e : stE k i = 0
    · rw [if_pos e] at h0 ⊢
      exact ih (st_snd h e) h0
    · rw [if_neg e] at h0; exact absurd h0 e
theorem dvK_ok {k : Ky} (hk : k.Ok) {p : List Nat} (hp : ∀ i ∈ p, i < 4294967296) : (dvK k p).Ok := by
  induction p generalizing k with
  | nil => exact hk
  | cons i r ih =>
    simp only [dvK]
    split
    · exact ih (stK_ok k i (hp i List.mem_cons_self)) (fun j hj => hp j (List.mem_cons_of_mem _ hj))
    · exact Ky.z_ok
theorem drK_ok {k : Ky} (hk : k.Ok) {p : List Nat} (hp : ∀ i ∈ p, i < 4294967296) : (drK k p).Ok := by
  unfold drK
  split
  · exact dvK_ok hk hp
  · exact Ky.z_ok
theorem dv_bad {k : Ky} {p : List Nat} (h : dvE k p ≠ 0) : dvK k p = Ky.z := by
  induction p generalizing k with
  | nil => exact absurd rfl h
  | cons i r ih =>
    simp only [dvE, dvK] at h ⊢
    by_cases e : stE k i = 0
    · rw [if_pos e] at h ⊢; exact ih h
    · rw [if_neg e]
theorem neu_snd {k : Ky} (h : sndB k = true) : sndB k.neu = true := by
  obtain ⟨g0, g8, gv, _⟩ := snd_get h
  exact snd_mk g0 g8 gv (Or.inl rfl)
theorem st_neu {k : Ky} {i : Nat} (h : sndB k = true) (hs : k.s ≠ 0) (hi : hdB i = false) : stE k.neu i = stE k i ∧ (stE k i = 0 → stK k.neu i = (stK k i).neu ∧ (stK k i).s ≠ 0) := by
  obtain ⟨g0, g8, gv, gs⟩ := snd_get h
  obtain ⟨hx, hp⟩ : secB k.s = true ∧ pubV k.s = k.p := gs.resolve_left hs
  have ht : twk k.neu i = twk k i := by unfold twk; simp only [hi, Ky.neu, Bool.false_eq_true, if_false]
  have hE : stE k.neu i = stE k i := by
    unfold stE
    rw [ht, show k.neu.d = k.d from rfl, show k.neu.s = 0 from rfl, show k.neu.p = k.p from rfl]
    by_cases hd : k.d = 8
    · simp only [hd, if_true]
    · simp only [hd, hi, hs, if_true, if_false, false_and, Bool.false_eq_true]
      by_cases ho : tsO k.s (twk k i) = 0
      · rw [← hp]; exact both0 hx ho
      · rw [← hp, (both hx ho).1, (ts_c hx ho).2]
  refine ⟨hE, fun h0 => ?_⟩
  have h1 : tsE k.s (twk k i) = 0 := by
    have h0' := h0
    unfold stE at h0'
    split at h0'
    · exact absurd h0' (by decide)
    · split at h0'
      · exact absurd h0' (by decide)
      · exact h0'
  have ho := tsE_ok (x := k.s) (t := twk k i) (by rw [h1]; rfl)
  have hb := both ho.1 ho.2
  constructor
  · unfold stK
    rw [hE, if_pos h0, if_pos h0, ht, show k.neu.d = k.d from rfl, show k.neu.s = 0 from rfl, show k.neu.p = k.p from rfl, show k.neu.c = k.c from rfl]
    simp only [hs, if_true, if_false, Ky.neu, ← hb.2.1, hp]
  · unfold stK
    rw [if_pos h0]
    show (if k.s = 0 then 0 else tsV k.s (twk k i)) ≠ 0
    rw [if_neg hs]
    exact (sec_lt hb.2.2.2).1
theorem dv_neu {k : Ky} {p : List Nat} (h : sndB k = true) (hs : k.s ≠ 0) (hp : ∀ i ∈ p, hdB i = false) : dvE k.neu p = dvE k p ∧ (dvE k p = 0 → dvK k.neu p = (dvK k p).neu ∧ (dvK k p).s ≠ 0) := by
  induction p generalizing k with
  | nil => exact ⟨rfl, fun _ => ⟨rfl, hs⟩⟩
  | cons i r ih =>
    have h1 := st_neu (i := i) h hs (hp i List.mem_cons_self)
    simp only [dvE, dvK]
    rw [h1.1]
    by_cases e : stE k i = 0
    · have h2 := h1.2 e
      rw [if_pos e, if_pos e, if_pos e, if_pos e, h2.1]
      exact ih (st_snd h e) h2.2 (fun j hj => hp j (List.mem_cons_of_mem _ hj))
    · rw [if_neg e, if_neg e, if_neg e, if_neg e]
      exact ⟨rfl, fun h => absurd h e⟩
theorem snd_pub {k : Ky} (h : sndB k = true) (hs : k.s ≠ 0) : pubV k.s = k.p := by
  obtain ⟨_, _, _, gs⟩ := snd_get h
  exact (gs.resolve_left hs).2
end Go.Proofs.YtjdhjkceahaegaaGreatDoor

/-! Bytes that were appended are read back. -/
namespace Go.Proofs.YtjdhjkceahaegaaGreatDoor
open Go

theorem gB_leB {n w i : Nat} (h : i < w) : gB (leB n w) i = n / 256 ^ i % 256 := by
  induction w with
  | zero => omega
  | succ w ih =>
    rw [leB]
    rcases (by omega : i < w ∨ i = w) with e | e
    · rw [gB_app_l _ (by rw [leB_length]; exact e)]; exact ih e
    · subst e
      have := gB_app_r (leB n i) [ob ((n / 256 ^ i % 256 : Nat) : Int)] 0
      rw [leB_length, Nat.add_zero] at this
      rw [this]
      exact ob_lt (by omega)
theorem leN_at (P Q : List UInt8) (n W : Nat) : ∀ k, k ≤ W → leN (P ++ leB n W ++ Q) P.length k = n % 256 ^ k
  | 0, _ => by simp [leN, Nat.mod_one]
  | k + 1, h => by
    rw [leN, leN_at P Q n W k (by omega), gB_app_l _ (by rw [List.length_append, leB_length]; omega), gB_app_r, gB_leB (by omega), Nat.mod_pow_succ, Nat.mul_comm]
theorem rd_at {A P Q : List UInt8} {n w z : Nat} (hA : A = P ++ leB n w ++ Q) (hz : z = P.length) (hn : n < 256 ^ w) : rdE A.length (z : Int) w = 0 ∧ rdN A.length (z : Int) w = ((z + w : Nat) : Int) ∧ rdV A (z : Int) w = n := by
  have hl : A.length = z + w + Q.length := by rw [hA, hz, List.length_append, List.length_append, leB_length]
  have h0 : rdE A.length (z : Int) w = 0 := rdE0 (by omega) (by omega)
  refine ⟨h0, ?_, ?_⟩
  · rw [rdN, if_pos h0]; omega
  · rw [rdV, if_pos h0, Int.toNat_natCast, hz, hA, leN_at P Q n w w (Nat.le_refl _), Nat.mod_eq_of_lt hn]
theorem hL_inj {A B : Nat} (hA : A < M) (hb : B < M) (h : hL A = hL B) : A = B := by
  refine (byt_inj hA hb).1 fun i hi => ?_
  have h1 := congrArg (fun l => l[i]?) h
  simp only [hL, List.getElem?_map, List.getElem?_range hi, Option.map_some, Option.some.injEq] at h1
  have g : ∀ C, 0 ≤ byt C i ∧ byt C i < 256 := fun C => by unfold byt; omega
  have h2 := congrArg (fun x : UInt8 => ((x.toNat : Nat) : Int)) h1
  simp only [ob_nat (g A), ob_nat (g B)] at h2
  exact h2
theorem nB_hL2 {A : Nat} (hA : A < M) : nB (hL A) = A := hL_inj (nB_M (hL_length A)) hA (hL_nB (hL_length A))
theorem hs_at {A P Q : List UInt8} {h z : Nat} (hA : A = P ++ hL h ++ Q) (hz : z = P.length) (hh : h < M) : hsV A (z : Int) = h ∧ rdN A.length (z : Int) 32 = ((z + 32 : Nat) : Int) ∧ rdE A.length (z : Int) 32 = 0 := by
  have hl : A.length = z + 32 + Q.length := by rw [hA, hz, List.length_append, List.length_append, hL_length]
  have h0 : rdE A.length (z : Int) 32 = 0 := rdE0 (by omega) (by omega)
  refine ⟨?_, ?_, h0⟩
  · rw [hsV, if_pos h0, Int.toNat_natCast]
    have e : (mid A z A.length).take 32 = hL h := by
      unfold mid
      rw [List.take_length, hA, hz, List.append_assoc, List.drop_left, List.take_append_of_le_length (by rw [hL_length]; omega), List.take_of_length_le (by rw [hL_length]; omega)]
    rw [e, nB_hL2 hh]
  · rw [rdN, if_pos h0]; omega
end Go.Proofs.YtjdhjkceahaegaaGreatDoor

/-! Trees of keys: the bytes of a key, there and back. -/
namespace Go.Proofs.YtjdhjkceahaegaaGreatDoor
open Go

/-- The depth's byte. -/
def dpI (d : Int) : Int := IntKind.u8.wrap d
theorem dpI_rng (d : Int) : 0 ≤ dpI d ∧ dpI d < 256 := by
  unfold dpI IntKind.wrap
  simp [IntKind.signed, IntKind.bits]
  omega
def flg (s : Nat) : Int := if s = 0 then 0 else 1
theorem flg_rng (s : Nat) : 0 ≤ flg s ∧ flg s < 256 := by unfold flg; split <;> decide
def lst (k : Ky) : Nat := if k.s = 0 then k.p else k.s
def enB (k : Ky) : List UInt8 := ((([ob (flg k.s), ob (dpI k.d)] ++ leB k.i 4) ++ leB k.n 4) ++ hL k.c) ++ hL (lst k)
theorem enB_len (k : Ky) : (enB k).length = 74 := by simp [enB, leB_length, hL_length]
theorem en_0 {k : Ky} (h : decide (k.s = 0) = true) : ((([ob 0, ob (dpI k.d)] ++ leB k.i 4) ++ leB k.n 4) ++ hL k.c) ++ hL k.p = enB k := by
  unfold enB flg lst; rw [if_pos (of_decide_eq_true h), if_pos (of_decide_eq_true h)]
theorem en_1 {k : Ky} (h : decide (k.s = 0) = false) : ((([ob 1, ob (dpI k.d)] ++ leB k.i 4) ++ leB k.n 4) ++ hL k.c) ++ hL k.s = enB k := by
  unfold enB flg lst; rw [if_neg (of_decide_eq_false h), if_neg (of_decide_eq_false h)]
/-- Why bytes are not those of a key. -/
def kdE (B : List UInt8) : Int :=
  if B.length ≠ 74 then 8 else if 1 < gB B 0 ∨ 8 < gB B 1 then 5 else if gB B 0 = 0 then (if valB (hsV B 42) = true then 0 else 60) else pubE (hsV B 42)
def kdK (B : List UInt8) : Ky :=
  if kdE B = 0 then ⟨if gB B 0 = 0 then 0 else hsV B 42, if gB B 0 = 0 then hsV B 42 else pubV (hsV B 42), hsV B 10, ((gB B 1 : Nat) : Int), rdV B 2 4, rdV B 6 4⟩ else Ky.z
theorem kdK_ok (B : List UInt8) : (kdK B).Ok := by
  unfold kdK
  split
  · exact ⟨ifM zeroM hsV_lt, ifM hsV_lt (pubV_lt _), hsV_lt, rdV_lt B 2 4, rdV_lt B 6 4⟩
  · exact Ky.z_ok
theorem dc_8 {B : List UInt8} (h : B.length ≠ 74) : kdE B = 8 ∧ kdK B = Ky.z := by
  have e : kdE B = 8 := by unfold kdE; rw [if_pos h]
  exact ⟨e, by unfold kdK; rw [e]; rfl⟩
theorem dc_5 {B : List UInt8} (h : B.length = 74) (h1 : 1 < gB B 0 ∨ 8 < gB B 1) : kdE B = 5 ∧ kdK B = Ky.z := by
  have e : kdE B = 5 := by unfold kdE; rw [if_neg (by omega), if_pos h1]
  exact ⟨e, by unfold kdK; rw [e]; rfl⟩
theorem dc_v0 {B : List UInt8} (h : B.length = 74) (h1 : ¬ (1 < gB B 0 ∨ 8 < gB B 1)) (h2 : gB B 0 = 0) (hv : valB (hsV B 42) = false) : kdE B = 60 ∧ kdK B = Ky.z := by
  have e : kdE B = 60 := by unfold kdE; rw [if_neg (by omega), if_neg h1, if_pos h2, hv]; rfl
  exact ⟨e, by unfold kdK; rw [e]; rfl⟩
theorem dc_v1 {B : List UInt8} (h : B.length = 74) (h1 : ¬ (1 < gB B 0 ∨ 8 < gB B 1)) (h2 : gB B 0 = 0) (hv : valB (hsV B 42) = true) : kdE B = 0 ∧ kdK B = ⟨0, hsV B 42, hsV B 10, ((gB B 1 : Nat) : Int), rdV B 2 4, rdV B 6 4⟩ := by
  have e : kdE B = 0 := by unfold kdE; rw [if_neg (by omega), if_neg h1, if_pos h2, hv]; rfl
  exact ⟨e, by unfold kdK; rw [if_pos e, if_pos h2, if_pos h2]⟩
theorem dc_s0 {B : List UInt8} (h : B.length = 74) (h1 : ¬ (1 < gB B 0 ∨ 8 < gB B 1)) (h2 : gB B 0 ≠ 0) (hv : pubE (hsV B 42) ≠ 0) : kdE B = pubE (hsV B 42) ∧ kdE B = 60 ∧ kdK B = Ky.z := by
  have e : kdE B = pubE (hsV B 42) := by unfold kdE; rw [if_neg (by omega), if_neg h1, if_neg h2]
  have h6 : pubE (hsV B 42) = 60 := by
    cases es : secB (hsV B 42)
    · exact (pub_no es).2
    · exact absurd (pub_yes es).2 hv
  exact ⟨e, e.trans h6, by unfold kdK; rw [if_neg (by rw [e]; exact hv)]⟩
theorem dc_s1 {B : List UInt8} (h : B.length = 74) (h1 : ¬ (1 < gB B 0 ∨ 8 < gB B 1)) (h2 : gB B 0 ≠ 0) (hv : pubE (hsV B 42) = 0) : kdE B = 0 ∧ kdK B = ⟨hsV B 42, pubV (hsV B 42), hsV B 10, ((gB B 1 : Nat) : Int), rdV B 2 4, rdV B 6 4⟩ := by
  have e : kdE B = 0 := by unfold kdE; rw [if_neg (by omega), if_neg h1, if_neg h2, hv]
  exact ⟨e, by unfold kdK; rw [if_pos e, if_neg h2, if_neg h2]⟩
/-- A sound key without its secret is read back. -/
theorem en_back {k : Ky} (hk : k.Ok) (h : sndB k = true) (hs : k.s = 0) : kdE (enB k) = 0 ∧ kdK (enB k) = k := by
  obtain ⟨g0, g8, gv, _⟩ := snd_get h
  have hl : lst k = k.p := by unfold lst; rw [if_pos hs]
  have hf : flg k.s = 0 := by unfold flg; rw [if_pos hs]
  have hd : dpI k.d = k.d := by
    unfold dpI IntKind.wrap
    simp [IntKind.signed, IntKind.bits]
    omega
  have hB0 : gB (enB k) 0 = 0 := by show (ob (flg k.s)).toNat = 0; rw [hf]; rfl
  have hB1 : ((gB (enB k) 1 : Nat) : Int) = k.d := by
    show (((ob (dpI k.d)).toNat : Nat) : Int) = k.d
    rw [hd]; exact ob_nat ⟨g0, by omega⟩
  have hi := (rd_at (A := enB k) (P := [ob (flg k.s), ob (dpI k.d)]) (Q := leB k.n 4 ++ (hL k.c ++ hL (lst k))) (n := k.i) (w := 4) (z := 2) (by unfold enB; simp only [List.append_assoc]) rfl hk.i).2.2
  have hn := (rd_at (A := enB k) (P := [ob (flg k.s), ob (dpI k.d)] ++ leB k.i 4) (Q := hL k.c ++ hL (lst k)) (n := k.n) (w := 4) (z := 6) (by unfold enB; simp only [List.append_assoc]) (by simp [leB_length]) hk.n).2.2
  have hc := (hs_at (A := enB k) (P := ([ob (flg k.s), ob (dpI k.d)] ++ leB k.i 4) ++ leB k.n 4) (Q := hL (lst k)) (h := k.c) (z := 10) rfl (by simp [leB_length]) hk.c).1
  have hp := (hs_at (A := enB k) (P := (([ob (flg k.s), ob (dpI k.d)] ++ leB k.i 4) ++ leB k.n 4) ++ hL k.c) (Q := []) (h := k.p) (z := 42) (by unfold enB; rw [hl, List.append_nil]) (by simp [leB_length, hL_length]) hk.p).1
  have hi : rdV (enB k) 2 4 = k.i := hi
  have hn : rdV (enB k) 6 4 = k.n := hn
  have hc : hsV (enB k) 10 = k.c := hc
  have hp : hsV (enB k) 42 = k.p := hp
  have h1 : ¬ (1 < gB (enB k) 0 ∨ 8 < gB (enB k) 1) := by omega
  have hh := dc_v1 (enB_len k) h1 hB0 (by rw [hp]; exact gv)
  refine ⟨hh.1, hh.2.trans ?_⟩
  rw [hi, hn, hc, hp, hB1, ← hs]
end Go.Proofs.YtjdhjkceahaegaaGreatDoor

/-! Trees of keys: the last equations of steps. -/
namespace Go.Proofs.YtjdhjkceahaegaaGreatDoor
open Go

theorem hd_t {i : Nat} (h : decide (2147483648 ≤ ((i : Nat) : Int)) = true) : hdB i = true := decide_eq_true (by have := of_decide_eq_true h; omega)
theorem hd_f {i : Nat} (h : decide (2147483648 ≤ ((i : Nat) : Int)) = false) : hdB i = false := decide_eq_false (by have := of_decide_eq_false h; omega)
theorem twk_1 {k : Ky} {i : Nat} (h : decide (2147483648 ≤ ((i : Nat) : Int)) = true) : tagN tgH ((hL k.c ++ hL k.s) ++ leB i 4) = twk k i := by unfold twk; rw [if_pos (hd_t h)]
theorem twk_0 {k : Ky} {i : Nat} (h : decide (2147483648 ≤ ((i : Nat) : Int)) = false) : tagN tgS ((hL k.c ++ hL k.p) ++ leB i 4) = twk k i := by unfold twk; rw [hd_f h]; rfl
theorem eqI {x y : Int} (h : (x == y) = true) : x = y := by simpa using h
theorem neI {x y : Int} (h : (x == y) = false) : x ≠ y := by simpa using h
theorem bnI {x : Int} (h : (x == 0) = true) : (x != 0) = false := by rw [eqI h]; rfl
theorem d8_t {k : Ky} (hs : sndB k = true) (h : decide (8 ≤ k.d) = true) : k.d = 8 := by have := snd_get hs; have := of_decide_eq_true h; omega
theorem d8_f {k : Ky} (h : decide (8 ≤ k.d) = false) : k.d ≠ 8 := by have := of_decide_eq_false h; omega
theorem bn_n {x : Int} {b : Bool} (h : (x == 0) = b) : (x != 0) = !b := by unfold bne; rw [h]
theorem pub_ts {x t : Nat} (h : (tsE x t != 0) = false) : (pubE (tsV x t) != 0) = false := by
  have ho := tsE_ok h
  rw [(both ho.1 ho.2).2.2.1]; rfl
theorem pub_ts2 {x t : Nat} (h : (tsE x t != 0) = false) : (pubE (tsV x t) == 0) = true := by
  have ho := tsE_ok h
  rw [(both ho.1 ho.2).2.2.1]; rfl
theorem st_4 {k : Ky} {i : Nat} (h : k.d = 8) : stE k i = 4 ∧ stK k i = Ky.z := by
  have e : stE k i = 4 := if_pos h
  exact ⟨e, by unfold stK; rw [if_neg (by rw [e]; decide)]⟩
theorem st_250 {k : Ky} {i : Nat} (h : k.d ≠ 8) (hh : hdB i = true) (hs : k.s = 0) : stE k i = 250 ∧ stK k i = Ky.z := by
  have e : stE k i = 250 := by unfold stE; rw [if_neg h, if_pos ⟨hh, hs⟩]
  exact ⟨e, by unfold stK; rw [if_neg (by rw [e]; decide)]⟩
theorem st_E {k : Ky} {i : Nat} (h : k.d ≠ 8) (hn : hdB i = false ∨ k.s ≠ 0) : stE k i = if k.s = 0 then twE k.p (twk k i) else tsE k.s (twk k i) := by
  unfold stE
  rw [if_neg h, if_neg (fun q => hn.elim (fun a => by rw [q.1] at a; exact absurd a (by decide)) (fun a => a q.2))]
theorem st_s1 {k : Ky} {i : Nat} (h : k.d ≠ 8) (hn : hdB i = false ∨ k.s ≠ 0) (hs : k.s ≠ 0) (he : tsE k.s (twk k i) ≠ 0) : stE k i = tsE k.s (twk k i) ∧ stK k i = Ky.z := by
  have e : stE k i = tsE k.s (twk k i) := by rw [st_E h hn, if_neg hs]
  exact ⟨e, by unfold stK; rw [if_neg (by rw [e]; exact he)]⟩
theorem st_p1 {k : Ky} {i : Nat} (h : k.d ≠ 8) (hn : hdB i = false ∨ k.s ≠ 0) (hs : k.s = 0) (he : twE k.p (twk k i) ≠ 0) : stE k i = twE k.p (twk k i) ∧ stK k i = Ky.z := by
  have e : stE k i = twE k.p (twk k i) := by rw [st_E h hn, if_pos hs]
  exact ⟨e, by unfold stK; rw [if_neg (by rw [e]; exact he)]⟩
theorem st_s0 {k : Ky} {i : Nat} (h : k.d ≠ 8) (hn : hdB i = false ∨ k.s ≠ 0) (hs : k.s ≠ 0) (he : tsE k.s (twk k i) = 0) : stE k i = 0 ∧ stK k i = ⟨tsV k.s (twk k i), pubV (tsV k.s (twk k i)), hmN k.c (hL (twk k i)), k.d + 1, i, prN k.p⟩ := by
  have e : stE k i = 0 := by rw [st_E h hn, if_neg hs, he]
  exact ⟨e, by unfold stK; rw [if_pos e, if_neg hs, if_neg hs]⟩
theorem st_p0 {k : Ky} {i : Nat} (h : k.d ≠ 8) (hn : hdB i = false ∨ k.s ≠ 0) (hs : k.s = 0) (he : twE k.p (twk k i) = 0) : stE k i = 0 ∧ stK k i = ⟨0, twV k.p (twk k i), hmN k.c (hL (twk k i)), k.d + 1, i, prN k.p⟩ := by
  have e : stE k i = 0 := by rw [st_E h hn, if_pos hs, he]
  exact ⟨e, by unfold stK; rw [if_pos e, if_pos hs, if_pos hs]⟩
theorem ch_yes {k : Ky} {i : Nat} (h : sndB k = true) : chE k i = stE k i ∧ chK k i = stK k i := by unfold chE chK; rw [if_pos h, if_pos h]; exact ⟨rfl, rfl⟩
theorem ch_6 {k : Ky} {i : Nat} (h : sndB k = false) : chE k i = 6 ∧ chK k i = Ky.z := by unfold chE chK; rw [h]; exact ⟨rfl, rfl⟩
theorem ch_4 {k : Ky} {i : Nat} (s : sndB k = true) (h : k.d = 8) : chE k i = 4 ∧ chK k i = Ky.z := by rw [(ch_yes s).1, (ch_yes s).2]; exact st_4 h
theorem ch_250 {k : Ky} {i : Nat} (s : sndB k = true) (h : k.d ≠ 8) (hh : hdB i = true) (hs : k.s = 0) : chE k i = 250 ∧ chK k i = Ky.z := by rw [(ch_yes s).1, (ch_yes s).2]; exact st_250 h hh hs
theorem ch_s1 {k : Ky} {i : Nat} (s : sndB k = true) (h : k.d ≠ 8) (hn : hdB i = false ∨ k.s ≠ 0) (hs : k.s ≠ 0) (he : tsE k.s (twk k i) ≠ 0) : chE k i = tsE k.s (twk k i) ∧ chK k i = Ky.z := by rw [(ch_yes s).1, (ch_yes s).2]; exact st_s1 h hn hs he
theorem ch_p1 {k : Ky} {i : Nat} (s : sndB k = true) (h : k.d ≠ 8) (hn : hdB i = false ∨ k.s ≠ 0) (hs : k.s = 0) (he : twE k.p (twk k i) ≠ 0) : chE k i = twE k.p (twk k i) ∧ chK k i = Ky.z := by rw [(ch_yes s).1, (ch_yes s).2]; exact st_p1 h hn hs he
theorem ch_s0 {k : Ky} {i : Nat} (s : sndB k = true) (h : k.d ≠ 8) (hn : hdB i = false ∨ k.s ≠ 0) (hs : k.s ≠ 0) (he : tsE k.s (twk k i) = 0) : chE k i = 0 ∧ chK k i = ⟨tsV k.s (twk k i), pubV (tsV k.s (twk k i)), hmN k.c (hL (twk k i)), k.d + 1, i, prN k.p⟩ := by rw [(ch_yes s).1, (ch_yes s).2]; exact st_s0 h hn hs he
theorem ch_p0 {k : Ky} {i : Nat} (s : sndB k = true) (h : k.d ≠ 8) (hn : hdB i = false ∨ k.s ≠ 0) (hs : k.s = 0) (he : twE k.p (twk k i) = 0) : chE k i = 0 ∧ chK k i = ⟨0, twV k.p (twk k i), hmN k.c (hL (twk k i)), k.d + 1, i, prN k.p⟩ := by rw [(ch_yes s).1, (ch_yes s).2]; exact st_p0 h hn hs he
/-! ### paths, step by step -/
def nI (ps : List Nat) : List Int := ps.map fun n => ((n : Nat) : Int)
theorem nI_len (ps : List Nat) : (nI ps).length = ps.length := List.length_map _
theorem nI_get (ps : List Nat) (j : Nat) : gI (nI ps) j = ((ps.getD j 0 : Nat) : Int) := by
  unfold gI nI
  rw [List.getD_eq_getElem?_getD, List.getD_eq_getElem?_getD, List.getElem?_map]
  cases ps[j]? <;> rfl
theorem nI_mid (ps : List Nat) (l h : Nat) : midI (nI ps) l h = nI ((ps.take h).drop l) := by
  unfold midI nI
  rw [List.map_drop, List.map_take]
theorem get_all {p : Nat → Prop} {ps : List Nat} (h : ∀ i ∈ ps, p i) (h0 : p 0) (j : Nat) : p (ps.getD j 0) := by
  rw [List.getD_eq_getElem?_getD]
  cases e : ps[j]? with
  | none => exact h0
  | some x => exact h x (List.mem_of_getElem? e)
theorem drop_get {ps : List Nat} {j : Nat} (h : j < ps.length) : ps.drop j = ps.getD j 0 :: ps.drop (j + 1) := by
  rw [List.drop_eq_getElem_cons h, List.getD_eq_getElem?_getD, List.getElem?_eq_getElem h]; rfl
theorem dv_fail {k x : Ky} {ps : List Nat} {j : Nat} (hs : sndB k = true) (hx : sndB x = true) (hj : j < ps.length) (hE : dvE x (ps.drop j) = dvE k ps) (hK : dvK x (ps.drop j) = dvK k ps) (h : (chE x (ps.getD j 0) != 0) = true) : drE k ps = chE x (ps.getD j 0) ∧ drK k ps = Ky.z := by
  have hne : stE x (ps.getD j 0) ≠ 0 := by rw [← (ch_yes hx).1]; simpa using h
  rw [drop_get hj] at hE hK
  simp only [dvE, dvK] at hE hK
  rw [if_neg hne] at hE hK
  unfold drE drK
  rw [if_pos hs, if_pos hs, ← hE, ← hK, (ch_yes hx).1]
  exact ⟨rfl, rfl⟩
theorem dv_next {k x : Ky} {ps : List Nat} {j : Nat} (hx : sndB x = true) (hj : j < ps.length) (hE : dvE x (ps.drop j) = dvE k ps) (hK : dvK x (ps.drop j) = dvK k ps) (h : (chE x (ps.getD j 0) != 0) = false) : sndB (chK x (ps.getD j 0)) = true ∧ dvE (chK x (ps.getD j 0)) (ps.drop (j + 1)) = dvE k ps ∧ dvK (chK x (ps.getD j 0)) (ps.drop (j + 1)) = dvK k ps := by
  have h0 : stE x (ps.getD j 0) = 0 := by rw [← (ch_yes hx).1]; simpa using h
  rw [drop_get hj] at hE hK
  simp only [dvE, dvK] at hE hK
  rw [if_pos h0] at hE hK
  rw [(ch_yes hx).2]
  exact ⟨st_snd hx h0, hE, hK⟩
theorem dv_done {k x : Ky} {ps : List Nat} {j : Nat} (hs : sndB k = true) (hj : ps.length ≤ j) (hE : dvE x (ps.drop j) = dvE k ps) (hK : dvK x (ps.drop j) = dvK k ps) : drE k ps = 0 ∧ drK k ps = x := by
  rw [List.drop_eq_nil_of_le hj] at hE hK
  unfold drE drK
  rw [if_pos hs, if_pos hs, ← hE, ← hK]
  exact ⟨rfl, rfl⟩
theorem dr_6 {k : Ky} {ps : List Nat} (hs : sndB k = false) : drE k ps = 6 ∧ drK k ps = Ky.z := by unfold drE drK; rw [hs]; exact ⟨rfl, rfl⟩
theorem nI_of {zs : List Int} (h : ∀ z ∈ zs, (Lit.int .u32 z).wf = true) : ∃ ps : List Nat, zs = nI ps ∧ ∀ i ∈ ps, i < 4294967296 := by
  have key : ∀ z ∈ zs, 0 ≤ z ∧ z < 4294967296 := by
    intro z hz
    have hw := h z hz
    simp [Lit.wf, IntKind.min, IntKind.max, IntKind.signed, IntKind.bits] at hw
    omega
  refine ⟨zs.map Int.toNat, ?_, ?_⟩
  · unfold nI
    rw [List.map_map]
    conv => lhs; rw [← List.map_id zs]
    apply List.map_congr_left
    intro z hz
    have := key z hz
    show z = ((z.toNat : Nat) : Int)
    omega
  · intro i hi
    obtain ⟨z, hz, rfl⟩ := List.mem_map.1 hi
    have := key z hz
    omega
end Go.Proofs.YtjdhjkceahaegaaGreatDoor

/-! Rows of elements of any size: append, and what it leaves. -/
namespace Go.Proofs.YtjdhjkceahaegaaGreatDoor
open Go Go.RowKit

/-- A type whose values fill sz cells. -/
def elike (P : Program) (e : TypeId) (sz b : Nat) (z : Value) : Prop := ∃ i, P.info? e = some i ∧ i.size = sz ∧ i.bytes = b ∧ i.zero = some z ∧ z.cells.size = sz
theorem elike_of {P : Program} {e : TypeId} {sz b : Nat} {z : Value} (h : (P.info? e).map (fun i => (i.size, i.bytes, i.zero)) = some (sz, b, some z)) (hz : z.cells.size = sz) : elike P e sz b z := by
  rw [Option.map_eq_some_iff] at h
  obtain ⟨i, h1, h2⟩ := h
  simp only [Prod.mk.injEq] at h2
  exact ⟨i, h1, h2.1, h2.2.1, h2.2.2, hz⟩
/-- A row that begins with the cells xs of n elements, with room for c. -/
structure Av (C : Array Value) (sz n : Nat) (xs : List Value) (c : Nat) : Prop where
  hd : C.toList.take xs.length = xs
  len : xs.length = n * sz
  le : n ≤ c
  size : C.size = c * sz
theorem zeroCells_size (z : Array Value) (k : Nat) : (Builtin.zeroCells z k).size = k * z.size := by simp [Builtin.zeroCells]
section
variable {P : Program} {t e : TypeId} {sz b : Nat} {z : Value}
theorem appV_room {w : World} {ty tx : TypeId} (ht : P.underlying t = some (.slice e)) (hi : elike P e sz b z) {g n m c : Nat} {C : Array Value} {x : Value} {xs ys : List Value} (hA : Av C sz n xs c) (hg : w.heap[g]? = some (.cells C e (0, 0)))
    (hs : Src P sz tx x m ys w) (hr : n + m ≤ c) :
    ∃ w', (do pure (Next.value (← Builtin.append_ #[t, tx] ty #[.slice (some ⟨g, 0, none⟩) n c, x])) : Sem Next).run P w = .ok (.value (.slice (some ⟨g, 0, none⟩) (n + m) c)) w' ∧ Wrote w w' g (.cells (inpl C (n * sz) ys) e (0, 0)) := by
  obtain ⟨i, h1, h2, h3, h4, h5⟩ := hi
  refine ⟨_, ?_, wrote_row hg⟩
  have hfit : n * sz + ys.length ≤ C.size := by rw [hs.newsLen, hA.size, ← Nat.add_mul]; exact Nat.mul_le_mul_right _ hr
  have hst := run_storeCells_at P g (n * sz) e ys 0 C w hg (by omega) hs.one
  simp only [Nat.add_zero] at hst
  have hrun : (Builtin.append_ #[t, tx] ty #[.slice (some ⟨g, 0, none⟩) n c, x]).run P w = .ok (.slice (some ⟨g, 0, none⟩) (n + m) c) (w.setRow g (inpl C (n * sz) ys)) := by
    unfold inpl
    rcases hs.kind with ⟨e', hk⟩ | hk <;> simp [Builtin.append_, run_underlying ht, run_underlying hk, sizeOf, typeInfo, h1, h2, hs.len, hr, hs.cells, Addr.add_lit, hst]
  rw [Sem.run_bind, hrun]
  rfl
theorem appV_grow {w : World} {ty tx : TypeId} (ht : P.underlying t = some (.slice e)) (hi : elike P e sz b z) {a : Option Addr} {n m c : Nat} {olds : List Value} {x : Value} {ys : List Value}
    (ho : (Builtin.firstCells sz n (.slice a n c)).run P w.drew = .ok olds.toArray w.drew) (hs : Src P sz tx x m ys w) (hr : c < n + m) (hm : n + m ≤ 140737488351232) (hmb : (n + m) * b ≤ 140737488351232) :
    ∃ k w', (do pure (Next.value (← Builtin.append_ #[t, tx] ty #[.slice a n c, x])) : Sem Next).run P w = .ok (.value (.slice (some ⟨w.heap.size, 0, none⟩) (n + m) (n + m + k))) w' ∧ Grew w w' (.cells ((olds ++ ys).toArray ++ Builtin.zeroCells z.cells k) e (0, 0)) := by
  obtain ⟨i, h1, h2, h3, h4, h5⟩ := hi
  have hge := grownCap_ge w (n + m) c e
  have hs2 : Src P i.size tx x m ys w := by rw [h2]; exact hs
  have hrun := run_append_grow_src (P := P) w t tx ty e i z ht h1 h4 a n c olds (by rw [h2]; exact ho) x m ys hs2 hr (by omega) (growslice_fits hr (by rw [h3]; omega))
  refine ⟨grownCap w (n + m) c e - (n + m), w.drew.alloc (.cells ((olds ++ ys).toArray ++ Builtin.zeroCells z.cells (grownCap w (n + m) c e - (n + m))) e), ?_, ⟨rfl, rfl, rfl, rfl⟩⟩
  rw [Sem.run_bind, hrun]
  rw [show (n + m + (grownCap w (n + m) c e - (n + m))) = grownCap w (n + m) c e by omega]
  rfl
theorem firstV_row {w : World} {g n c : Nat} {C : Array Value} {T : TypeId} {fr : Nat × Nat} {xs : List Value} (hg : w.heap[g]? = some (.cells C T fr)) (hA : Av C sz n xs c) : (Builtin.firstCells sz n (.slice (some ⟨g, 0, none⟩) n c)).run P w = .ok xs.toArray w := by
  refine run_firstCells_some w sz n ⟨g, 0, none⟩ n c xs hA.len (fun j v hv => ?_)
  rw [Addr.add_lit]
  unfold World.cell?
  simp only [hg]
  rw [← hA.hd, List.getElem?_take] at hv
  split at hv
  · simpa using hv
  · exact absurd hv (by simp)
theorem inpl_head {C : Array Value} {xs ys : List Value} {o : Nat} (h : C.toList.take xs.length = xs) (ho : o = xs.length) : (inpl C o ys).toList.take (xs ++ ys).length = xs ++ ys := by
  subst ho
  unfold inpl
  rw [h]
  show (xs ++ ys ++ C.toList.drop _).take _ = _
  rw [List.take_left]
/-- append, whether there is room or not. -/
theorem appV_any {w : World} {ty tx : TypeId} (ht : P.underlying t = some (.slice e)) (hi : elike P e sz b z) {g n m c : Nat} {C : Array Value} {x : Value} {xs ys : List Value} (hA : Av C sz n xs c) (hs : Src P sz tx x m ys w) (hm : n + m ≤ 140737488351232) (hmb : (n + m) * b ≤ 140737488351232) (hg : w.heap[g]? = some (.cells C e (0, 0))) :
    ∃ r w', (do pure (Next.value (← Builtin.append_ #[t, tx] ty #[.slice (some ⟨g, 0, none⟩) n c, x])) : Sem Next).run P w = .ok (.value (.slice (some ⟨r.n.headD 0, 0, none⟩) (n + m) (r.n.tail.headD 0))) w' ∧ Av (orcC r) sz (n + m) (xs ++ ys) (r.n.tail.headD 0) ∧ Moved w w' g (r.n.headD 0) (.cells (orcC r) e (0, 0)) := by
  have hlen : (xs ++ ys).length = (n + m) * sz := by rw [List.length_append, hA.len, hs.newsLen, Nat.add_mul]
  by_cases hr : n + m ≤ c
  · obtain ⟨w', h1, h2⟩ := appV_room (w := w) (ty := ty) ht hi hA hg hs hr
    have hfit : n * sz + ys.length ≤ C.size := by rw [hs.newsLen, hA.size, ← Nat.add_mul]; exact Nat.mul_le_mul_right _ hr
    refine ⟨{ n := [g, c], o := [.cells (inpl C (n * sz) ys) 0 (0, 0)] }, w', h1, ⟨inpl_head hA.hd hA.len.symm, hlen, hr, ?_⟩, .stay rfl h2⟩
    exact (inpl_size _ _ _ hfit).trans hA.size
  · obtain ⟨k, w', h1, h2⟩ := appV_grow (w := w) (ty := ty) ht hi (a := some ⟨g, 0, none⟩) (n := n) (c := c) (olds := xs) (firstV_row (w := w.drew) (show w.drew.heap[g]? = _ from hg) hA) hs (by omega) hm hmb
    obtain ⟨i, q1, q2, q3, q4, q5⟩ := hi
    refine ⟨{ n := [w.heap.size, n + m + k], o := [.cells ((xs ++ ys).toArray ++ Builtin.zeroCells z.cells k) 0 (0, 0)] }, w', h1, ⟨?_, hlen, Nat.le_add_right _ _, ?_⟩, .grow rfl h2⟩
    · show ((xs ++ ys).toArray ++ Builtin.zeroCells z.cells k).toList.take _ = _
      rw [Array.toList_append, List.take_left]
    · show ((xs ++ ys).toArray ++ Builtin.zeroCells z.cells k).size = _
      rw [Array.size_append, zeroCells_size, List.size_toArray, hlen, q5, ← Nat.add_mul]
      rfl
/-- append to nil. -/
theorem appV_nil {w : World} {ty tx : TypeId} (ht : P.underlying t = some (.slice e)) (hi : elike P e sz b z) {m : Nat} {x : Value} {ys : List Value} (hs : Src P sz tx x m ys w) (h0 : 0 < m) (hm : m ≤ 140737488351232) (hmb : m * b ≤ 140737488351232) :
    ∃ k w', (do pure (Next.value (← Builtin.append_ #[t, tx] ty #[.slice none 0 0, x])) : Sem Next).run P w = .ok (.value (.slice (some ⟨([w.heap.size, k] : List Nat).headD 0, 0, none⟩) m (m + ([w.heap.size, k] : List Nat).tail.headD 0))) w' ∧ Grew w w' (.cells (ys.toArray ++ Builtin.zeroCells z.cells (([w.heap.size, k] : List Nat).tail.headD 0)) e (0, 0)) := by
  obtain ⟨k, w', h1, h2⟩ := appV_grow (w := w) (ty := ty) ht hi (a := none) (n := 0) (c := 0) (olds := []) (run_firstCells_none w.drew sz 0 0 0) hs (by omega) (by omega) (by rw [Nat.zero_add]; exact hmb)
  refine ⟨k, w', ?_, ?_⟩
  · simpa using h1
  · simpa using h2
theorem Av.fresh (hz : z.cells.size = sz) {ys : List Value} {m : Nat} (hl : ys.length = m * sz) (k : Nat) : Av (ys.toArray ++ Builtin.zeroCells z.cells k) sz m ys (m + k) := by
  refine ⟨?_, hl, Nat.le_add_right _ _, ?_⟩
  · rw [Array.toList_append, List.take_left]
  · rw [Array.size_append, zeroCells_size, List.size_toArray, hl, hz, ← Nat.add_mul]
end
theorem Rs.of_av {w : World} {g sz n c : Nat} {C : Array Value} {T : TypeId} {fr : Nat × Nat} {xs : List Value} (hb : w.heap[g]? = some (.cells C T fr)) (hA : Av C sz n xs c) : Rs w (some ⟨g, 0, none⟩) xs := by
  refine Or.inr ⟨_, rfl, fun i v hv => ?_⟩
  have h1 : C[i]? = some v := by
    rw [← hA.hd, List.getElem?_take] at hv
    split at hv
    · simpa using hv
    · exact absurd hv (by simp)
  rw [Addr.add_lit]
  unfold World.cell?
  simp only [hb]
  simpa using h1
theorem Is.of_av {w : World} {k : IntKind} {g c : Nat} {C : Array Value} {T : TypeId} {fr : Nat × Nat} {zs : List Int} (hb : w.heap[g]? = some (.cells C T fr)) (hA : Av C 1 zs.length (iv k zs) c) (hm : zs.length ≤ 140737488351232) : Is w k (some ⟨g, 0, none⟩) c zs :=
  ⟨hA.le, hm, Rs.of_av hb hA⟩
/-- Integers in memory that is newer than w0. -/
def Fi (w0 w : World) (k : IntKind) (a : Option Addr) (c : Nat) (zs : List Int) : Prop := Is w k a c zs ∧ ∀ p, a = some p → 0 < zs.length → w0.heap.size ≤ p.block
theorem Fi.nil {w0 w : World} {k : IntKind} {a : Option Addr} {c : Nat} : Fi w0 w k a c [] := ⟨Is.nil, fun _ _ h => absurd h (by simp)⟩
theorem Fi.of_av {w0 w : World} {k : IntKind} {g c : Nat} {C : Array Value} {T : TypeId} {fr : Nat × Nat} {zs : List Int} (hb : w0.heap.size ≤ g ∧ w.heap[g]? = some (.cells C T fr)) (hA : Av C 1 zs.length (iv k zs) c) (hm : zs.length ≤ 140737488351232) : Fi w0 w k (some ⟨g, 0, none⟩) c zs :=
  ⟨Is.of_av hb.2 hA hm, fun p hp _ => by obtain rfl : (⟨g, 0, none⟩ : Addr) = p := by simpa using hp
                                         exact hb.1⟩
theorem Fi.pers {T : Nat → Prop} {w0 w : World} {k : IntKind} {a : Option Addr} {c : Nat} {zs : List Int} (h : Fi w0 w k a c zs) (hT : ∀ b, T b → b < w0.heap.size) : Pers T (fun w => Is w k a c zs) w :=
  h.1.pers (fun p hp hn hx => absurd (h.2 p hp hn) (by have := hT _ hx; omega))
theorem St.new1 {B : Base} {w : World} {h r : List (Nat × Obj)} {F : World → Prop} (hS : St B h F w) {g0 : Nat} {o0 : Obj} (hB : B.ws = [g0]) (hh : h = (g0, o0) :: r) {x : Nat} {o : Obj} (hx : (x, o) ∈ r) : B.w.heap.size ≤ x ∧ w.heap[x]? = some o := by
  have hm : (x, o) ∈ h := by rw [hh]; exact List.mem_cons_of_mem _ hx
  refine hS.newb hm ?_
  rw [hB]
  intro h1
  obtain rfl : x = g0 := by simpa using h1
  have hn := hS.nodup
  rw [hh, List.map_cons, List.nodup_cons] at hn
  exact hn.1 (List.mem_map.2 ⟨_, hx, rfl⟩)
theorem src_blk {P : Program} {w : World} {g m c : Nat} {vs : List Value} {T tx e' : TypeId} {fr : Nat × Nat} {sz : Nat} (hk : P.underlying tx = some (.slice e')) (hb : w.heap[g]? = some (.cells vs.toArray T fr)) (hl : vs.length = m * sz) (h1 : vs.all Value.oneCell' = true) : Src P sz tx (.slice (some ⟨g, 0, none⟩) m c) m vs w := by
  refine Src.ofSlice w hk ⟨g, 0, none⟩ m c vs hl (fun j u hu => ?_) (fun u hu => List.all_eq_true.1 h1 u hu)
  rw [Addr.add_lit]
  unfold World.cell?
  simp only [hb]
  simpa using hu
section
variable {P : Program} {ops : Array Oper} {D : List Nat} {l : List (Nat × Value)} {w0 : Base} {h : List (Nat × Obj)} {F0 : World → Prop}
variable {vals : (Nat → Orc) → Nat → Value} {effs : (Nat → Orc) → Nat → Eff} {fact : (Nat → Orc) → Nat → World → Prop}
/-- A call that writes blocks that are known, and hands back new integers. -/
theorem o_callWI (i : Nat) (ns : List Nat) (f : FuncId) (args : (Nat → Orc) → Array Value) (v : (Nat → Orc) → Option Addr → Nat → Value) (ik : IntKind) (zs : (Nat → Orc) → List Int) (K K' : (Nat → Orc) → List (Nat × Obj))
    (hf : ∀ ρ T w, Given ops D w0 h F0 effs fact i ρ T w → Knows (K ρ) w → Calls P f (args ρ) w (fun e w' => ∃ a c, e = .returned (v ρ a c) ∧ Upd (fun b => b ∈ (K ρ).map (·.1)) w w' ∧ Knows (K' ρ) w' ∧ Fi w w' ik a c (zs ρ)))
    (hc : ∀ ρ z, callChkF P ops D l (vals ρ) i z = some (.enter f (args ρ), [], []) := by intros; kernel_rfl)
    (hv : ∀ ρ r, vals (upd ρ i r) i = v ρ r.a (r.n.headD 0) := by intros; kernel_rfl) (he : ∀ ρ r, effs (upd ρ i r) i = { puts := ns.zip (K' ρ) } := by intros; kernel_rfl)
    (hn : ∀ ρ, namesOk ops D h (effs ρ) i ns = true := by intros; kernel_rfl) (hk : ∀ ρ, known ops D h (effs ρ) i ns = K ρ := by intros; kernel_rfl) (hl : ∀ ρ, (K' ρ).map (·.1) = (K ρ).map (·.1) := by intros; kernel_rfl)
    (ht : ∀ ρ r, fact (upd ρ i r) i = (fun w => Is w ik r.a (r.n.headD 0) (zs ρ)) := by intros; kernel_rfl) : Obl P ops D l w0 h F0 vals effs fact i := by
  refine o_callGW i ns f args K (fun ρ _ => K' ρ) hc he hn hk (fun ρ _ => hl ρ) (fun ρ T w hG hK => (hf ρ T w hG hK).mono (fun e w' hew => ?_))
  obtain ⟨a, c, h1, h2, h3, h4⟩ := hew
  refine ⟨h2, { n := [c], a := a }, ?_, h3, ?_⟩
  · rw [hv]; exact h1
  · rw [ht]; exact h4.pers (fun b hb => hb)
end
end Go.Proofs.YtjdhjkceahaegaaGreatDoor

/-! Trees of keys: roots, made paths, and the last equations of codes. -/
namespace Go.Proofs.YtjdhjkceahaegaaGreatDoor
open Go

theorem len74 {B : List UInt8} (h : ((((B).length : Nat) : Int) != 74) = false) : B.length = 74 := by
  have : ((B.length : Nat) : Int) = 74 := by simpa using h
  omega
theorem len74n {B : List UInt8} (h : ((((B).length : Nat) : Int) != 74) = true) : B.length ≠ 74 := by
  intro e
  rw [e] at h
  exact absurd h (by decide)
theorem b01 {x : Nat} (h : (((x : Nat) : Int) == 0) = true) : x = 0 := by
  have : ((x : Nat) : Int) = 0 := by simpa using h
  omega
theorem b00 {x : Nat} (h : (((x : Nat) : Int) == 0) = false) : x ≠ 0 := by
  intro e; subst e; exact absurd h (by decide)
/-! ### roots -/
def msX (S : List UInt8) : Nat := addmN (tagN tgM S) 0 qP
def msE (S : List UInt8) : Int := if S.length < 16 ∨ 64 < S.length then 5 else pubE (msX S)
def msK (S : List UInt8) : Ky := if msE S = 0 then ⟨msX S, pubV (msX S), tagN tgI S, 0, 0, 0⟩ else Ky.z
theorem msK_ok (S : List UInt8) : (msK S).Ok := by
  unfold msK
  split
  · exact ⟨addmN_lt _ _ qP_lt, pubV_lt _, tagN_lt _ _, by show (0 : Nat) < 4294967296; decide, by show (0 : Nat) < 4294967296; decide⟩
  · exact Ky.z_ok
theorem ms_5 {S : List UInt8} (h : S.length < 16 ∨ 64 < S.length) : msE S = 5 ∧ msK S = Ky.z := by
  have e : msE S = 5 := if_pos h
  exact ⟨e, by unfold msK; rw [e]; rfl⟩
theorem ms_E {S : List UInt8} (h : ¬ (S.length < 16 ∨ 64 < S.length)) : msE S = pubE (msX S) := if_neg h
theorem ms_0 {S : List UInt8} (h : ¬ (S.length < 16 ∨ 64 < S.length)) (hx : addmN (tagN tgM S) 0 qP = 0) : msE S = 60 ∧ msK S = Ky.z := by
  have hs : secB (msX S) = false := by
    unfold secB
    rw [decide_eq_false (fun q => q.1 hx)]
  have e : msE S = 60 := (ms_E h).trans (pub_no hs).2
  exact ⟨e, by unfold msK; rw [e]; rfl⟩
theorem ms_e {S : List UInt8} (h : ¬ (S.length < 16 ∨ 64 < S.length)) (hx : pubE (addmN (tagN tgM S) 0 qP) ≠ 0) : msE S = pubE (addmN (tagN tgM S) 0 qP) ∧ msK S = Ky.z := by
  have e : msE S = pubE (msX S) := ms_E h
  exact ⟨e, by unfold msK; rw [if_neg (by rw [e]; exact hx)]⟩
theorem ms_k {S : List UInt8} (h : ¬ (S.length < 16 ∨ 64 < S.length)) (hx : pubE (addmN (tagN tgM S) 0 qP) = 0) : msE S = 0 ∧ msK S = ⟨addmN (tagN tgM S) 0 qP, pubV (addmN (tagN tgM S) 0 qP), tagN tgI S, 0, 0, 0⟩ := by
  have e : msE S = 0 := (ms_E h).trans hx
  exact ⟨e, by unfold msK; rw [if_pos e]; rfl⟩
section
variable {S : List UInt8} {t y x : Nat} (et : tagN tgM S = t) (ey : tagN tgI S = y) (ex : addmN t 0 qP = x) (h : ¬ (S.length < 16 ∨ 64 < S.length))
include et ex h
theorem msn_0 (hx : x = 0) : msE S = 60 ∧ msK S = Ky.z := by subst et ex; exact ms_0 h hx
theorem msn_e (hx : pubE x ≠ 0) : msE S = pubE x ∧ msK S = Ky.z := by subst et ex; exact ms_e h hx
include ey
theorem msn_k (hx : pubE x = 0) : msE S = 0 ∧ msK S = ⟨x, pubV x, y, 0, 0, 0⟩ := by subst et ey ex; exact ms_k h hx
end
/-! ### a path that is made -/
def dvn (zs : List Int) (j : Nat) : Nat := dN zs (j + 6) 3
def dvP (zs : List Int) (j : Nat) : List Nat := (List.range (dvn zs j)).map fun m => dN zs (j + 7 + m) 5
theorem dvP_soft (zs : List Int) (j : Nat) : ∀ i ∈ dvP zs j, i < 5 := by
  intro i hi
  obtain ⟨m, _, rfl⟩ := List.mem_map.1 hi
  exact dN_lt _ _ (by decide)
theorem dvP_hd (zs : List Int) (j : Nat) : ∀ i ∈ dvP zs j, hdB i = false := fun i hi => decide_eq_false (by have := dvP_soft zs j i hi; omega)
theorem dvP_32 (zs : List Int) (j : Nat) : ∀ i ∈ dvP zs j, i < 4294967296 := fun i hi => by have := dvP_soft zs j i hi; omega
theorem dvP_len (zs : List Int) (j : Nat) : (dvP zs j).length < 3 := by
  unfold dvP
  rw [List.length_map, List.length_range]
  exact dN_lt _ _ (by decide)
theorem dvn_0 {zs : List Int} {j : Nat} (h : decide (0 < ((dN zs (j + 6) 3 : Nat) : Int)) = false) : dvn zs j = 0 := by have := of_decide_eq_false h; unfold dvn; omega
theorem dvn_1 {zs : List Int} {j : Nat} (h : decide (0 < ((dN zs (j + 6) 3 : Nat) : Int)) = true) (h2 : decide (0 < ((dN zs (j + 6) 3 - 1 : Nat) : Int)) = false) : dvn zs j = 1 := by
  have := of_decide_eq_true h; have := of_decide_eq_false h2; unfold dvn; omega
theorem dvn_2 {zs : List Int} {j : Nat} (h2 : decide (0 < ((dN zs (j + 6) 3 - 1 : Nat) : Int)) = true) : dvn zs j = 2 := by
  have := of_decide_eq_true h2; have := dN_lt zs (j + 6) (n := 3) (by decide); unfold dvn; omega
theorem dvP_0 {zs : List Int} {j : Nat} (h : dvn zs j = 0) : nI (dvP zs j) = [] := by unfold dvP; rw [h]; rfl
theorem dvP_1 {zs : List Int} {j : Nat} (h : dvn zs j = 1) : nI (dvP zs j) = [((dN zs (j + 7) 5 : Nat) : Int)] := by unfold dvP; rw [h]; rfl
theorem dvP_2 {zs : List Int} {j : Nat} (h : dvn zs j = 2) : nI (dvP zs j) = [((dN zs (j + 7) 5 : Nat) : Int), ((dN zs (j + 8) 5 : Nat) : Int)] := by unfold dvP; rw [h]; rfl
end Go.Proofs.YtjdhjkceahaegaaGreatDoor
