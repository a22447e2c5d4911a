import Derived.Test.YtlgjdejlnelndaaDiv
import Derived.Test.YtlgjdejlnelndaaRow
import Derived.Deep.LoopGhost
import Derived.WalkMore
namespace Go.Proofs.Ytlgjdejlnelndaa
open Go Go.RowKit

theorem bcell {W w1 : World} (hb : Below W.heap.size W w1) : (∀ b o, b < W.heap.size → w1.cell? ⟨b, o, none⟩ = W.cell? ⟨b, o, none⟩) ∧ (∀ b o, b < W.heap.size → w1.frozen? ⟨b, o, none⟩ = W.frozen? ⟨b, o, none⟩) :=
  ⟨fun b o h => hb.cell (p := ⟨b, o, none⟩) h, fun b o h => hb.frozen (p := ⟨b, o, none⟩) h⟩
theorem ret_UUb {a b c d : Value} {x y : Bool} (h : a = b) (h' : c = d) (h2 : x = y) : Ending.returned (.tuple #[a, c, .bool x]) = .returned (.tuple #[b, d, .bool y]) := by rw [h, h', h2]

theorem setbit_row (q g m : Nat) (hg : g < 4) (hm : m < 64) (h : q % 2 ^ (64 * g + m + 1) = 0) : (cU q).setIfInBounds g (.int .u64 (bits .or .u64 (wd q g) (2 ^ m))) = cU (q + 2 ^ (64 * g + m)) := by
  rw [setbit_at q g m hm h]
  have hh : ∀ j, g < j → wd (q + 2 ^ (64 * g + m)) j = wd q j := fun j hj => setbit_hi q _ j h (by omega)
  have hl : ∀ j, j < g → wd (q + 2 ^ (64 * g + m)) j = wd q j := fun j hj => setbit_lo q _ j (by omega)
  generalize q + 2 ^ (64 * g + m) = q' at *
  rcases (by omega : g = 0 ∨ g = 1 ∨ g = 2 ∨ g = 3) with rfl | rfl | rfl | rfl
  · show #[_, _, _, _] = _; rw [cU, hh 1 (by omega), hh 2 (by omega), hh 3 (by omega)]
  · show #[_, _, _, _] = _; rw [cU, hl 0 (by omega), hh 2 (by omega), hh 3 (by omega)]
  · show #[_, _, _, _] = _; rw [cU, hl 0 (by omega), hl 1 (by omega), hh 3 (by omega)]
  · show #[_, _, _, _] = _; rw [cU, hl 0 (by omega), hl 1 (by omega), hl 2 (by omega)]
theorem pow_in (m : Nat) (h : m < 64) : IntKind.u64.wrap (2 ^ m) = 2 ^ m := by
  have h1 : (2 : Nat) ^ m < 2 ^ 64 := Nat.pow_lt_pow_right (by decide) h
  have h2 : ((2 ^ m : Nat) : Int) < ((2 ^ 64 : Nat) : Int) := by omega
  have h3 : ((2 ^ m : Nat) : Int) = 2 ^ m := by simp
  rw [h3] at h2
  exact u64_in' (by rw [← h3]; exact Int.natCast_nonneg _) h2
theorem step_r2 {v b : Nat} (h : b ≤ v) (h2 : v - b < M) (hb : b < M) : (v % M + M - b) % M = v - b := by rw [M_eq] at *; omega
theorem cmp_ge {A B : Nat} (h : B ≤ A) : 0 ≤ cmpN A B := by unfold cmpN; split <;> (try split) <;> omega
theorem cmp_lt {A B : Nat} (h : A < B) : cmpN A B < 0 := by unfold cmpN; split <;> (try split) <;> omega
/-- A block of the call's own, its cells written out. -/
def Own (w : World) (g : Nat) (C : Array Value) : Prop := w.heap[g]? = some (.cells C 24 (0, 0))
theorem Own.cell {w : World} {g : Nat} {C : Array Value} (h : Own w g C) (j : Nat) : w.cell? ⟨g, j, none⟩ = C[j]? := cell_of_row w g j C _ _ h
theorem Own.free {w : World} {g : Nat} {C : Array Value} (h : Own w g C) (j : Nat) : w.frozen? ⟨g, j, none⟩ = false := frozen_of_row w g j C _ h
theorem Own.lt {w : World} {g : Nat} {C : Array Value} (h : Own w g C) : g < w.heap.size := by
  unfold Own at h
  by_cases hl : g < w.heap.size
  · exact hl
  · rw [Array.getElem?_eq_none (by omega)] at h; exact absurd h (by simp)
theorem Own.below {w w' : World} {g : Nat} {C : Array Value} (h : Own w g C) (hb : Below w.heap.size w w') : Own w' g C := (hb.block g h.lt).trans h
theorem Own.set4 {w : World} {g : Nat} {c0 c1 c2 c3 : Value} (h : Own w g #[c0, c1, c2, c3]) (d0 d1 d2 d3 : Value) : Own ((((w.setCell ⟨g, 0, none⟩ d0).setCell ⟨g, 1, none⟩ d1).setCell ⟨g, 2, none⟩ d2).setCell ⟨g, 3, none⟩ d3) g #[d0, d1, d2, d3] :=
  heap_setCell_same _ g 3 _ _ d3 (heap_setCell_same _ g 2 _ _ d2 (heap_setCell_same _ g 1 _ _ d1 (heap_setCell_same _ g 0 _ _ d0 h)))
theorem Own.set {w : World} {g i : Nat} {C : Array Value} (h : Own w g C) (d : Value) : Own (w.setCell ⟨g, i, none⟩ d) g (C.setIfInBounds i d) := heap_setCell_same _ g i _ _ d h
theorem Own.other {w : World} {g : Nat} {C : Array Value} (h : Own w g C) {g' i : Nat} (hg : g ≠ g') (d : Value) : Own (w.setCell ⟨g', i, none⟩ d) g C := (heap_setCell_other w ⟨g', i, none⟩ g d hg).trans h
theorem Own.other4 {w : World} {g : Nat} {C : Array Value} (h : Own w g C) {g' : Nat} (hg : g ≠ g') (d0 d1 d2 d3 : Value) : Own ((((w.setCell ⟨g', 0, none⟩ d0).setCell ⟨g', 1, none⟩ d1).setCell ⟨g', 2, none⟩ d2).setCell ⟨g', 3, none⟩ d3) g C :=
  (((h.other hg d0).other hg d1).other hg d2).other hg d3
theorem Own.drew {w : World} {g : Nat} {C : Array Value} (h : Own w g C) : Own w.drew g C := h
theorem Own.new {w : World} (C : Array Value) : Own (w.alloc (.cells C 24)) w.heap.size C := heap_alloc_at w _ _ rfl
theorem Own.past {w : World} {g : Nat} {C : Array Value} (h : Own w g C) (o : Obj) : Own (w.alloc o) g C := (heap_alloc_past w o g h.lt).trans h

theorem loadU {w : World} {g : Nat} {C : Array Value} (O : Own w g C) (hs : C.size = 4) : (loadVar 24 ⟨g, 0, none⟩).run Try.prog w = .ok (.agg C) w :=
  run_loadVar_row w g 24 24 C (0, 0) _ O Try.underlying24 rfl (by rw [hs]; kernel_rfl)
theorem res_c {fn : Func} {p1 : Tmp} (h : fn.results = #[.cell p1 24]) (tmps : Array Value) (w : World) (g1 : Nat) (C1 : Array Value)
    (hp1 : tmps.getD p1 undef = .pointer (some ⟨g1, 0, none⟩)) (O1 : Own w g1 C1) (s1 : C1.size = 4) :
    (results fn tmps).run Try.prog w = .ok (.agg C1) w := by
  have h1 : tmps[p1]?.getD undef = .pointer (some ⟨g1, 0, none⟩) := by simpa using hp1
  simp [results, h, h1, asAddr, loadU O1 s1]
theorem res_ct {fn : Func} {p1 b : Tmp} (h : fn.results = #[.cell p1 24, .tmp b]) (tmps : Array Value) (w : World) (g1 : Nat) (C1 : Array Value)
    (hp1 : tmps.getD p1 undef = .pointer (some ⟨g1, 0, none⟩)) (O1 : Own w g1 C1) (s1 : C1.size = 4) :
    (results fn tmps).run Try.prog w = .ok (.tuple #[.agg C1, tmps.getD b undef]) w := by
  have h1 : tmps[p1]?.getD undef = .pointer (some ⟨g1, 0, none⟩) := by simpa using hp1
  simp [results, h, h1, asAddr, loadU O1 s1]
theorem res_cc {fn : Func} {p1 p2 : Tmp} (h : fn.results = #[.cell p1 24, .cell p2 24]) (tmps : Array Value) (w : World) (g1 g2 : Nat) (C1 C2 : Array Value)
    (hp1 : tmps.getD p1 undef = .pointer (some ⟨g1, 0, none⟩)) (hp2 : tmps.getD p2 undef = .pointer (some ⟨g2, 0, none⟩)) (O1 : Own w g1 C1) (O2 : Own w g2 C2) (s1 : C1.size = 4) (s2 : C2.size = 4) :
    (results fn tmps).run Try.prog w = .ok (.tuple #[.agg C1, .agg C2]) w := by
  have h1 : tmps[p1]?.getD undef = .pointer (some ⟨g1, 0, none⟩) := by simpa using hp1
  have h2 : tmps[p2]?.getD undef = .pointer (some ⟨g2, 0, none⟩) := by simpa using hp2
  simp [results, h, h1, h2, asAddr, loadU O1 s1, loadU O2 s2]
theorem res_cct {fn : Func} {p1 p2 b : Tmp} (h : fn.results = #[.cell p1 24, .cell p2 24, .tmp b]) (tmps : Array Value) (w : World) (g1 g2 : Nat) (C1 C2 : Array Value)
    (hp1 : tmps.getD p1 undef = .pointer (some ⟨g1, 0, none⟩)) (hp2 : tmps.getD p2 undef = .pointer (some ⟨g2, 0, none⟩)) (O1 : Own w g1 C1) (O2 : Own w g2 C2) (s1 : C1.size = 4) (s2 : C2.size = 4) :
    (results fn tmps).run Try.prog w = .ok (.tuple #[.agg C1, .agg C2, tmps.getD b undef]) w := by
  have h1 : tmps[p1]?.getD undef = .pointer (some ⟨g1, 0, none⟩) := by simpa using hp1
  have h2 : tmps[p2]?.getD undef = .pointer (some ⟨g2, 0, none⟩) := by simpa using hp2
  simp [results, h, h1, h2, asAddr, loadU O1 s1, loadU O2 s2]

set_option maxHeartbeats 1000000 in
theorem div_no (hi lo b : Nat) (w : World) (h1 : hi < M) (h3 : b < M) (hle : b ≤ hi) :
    Calls Try.prog 18 #[U hi, U lo, U b] w fun e w' => e = .returned (.tuple #[U 0, U 0, .bool false]) ∧ Below w.heap.size w w' := by
  have hc : cmpN b hi ≤ 0 := by unfold cmpN; split <;> (try split) <;> omega
  go_enter Try.func18, Try.ntmps18
  go_wp2_with fail
  go_step3
  go_wp2_with fail
  refine (cmp_any b hi _ h3 h1).mono ?_; rintro e w1 ⟨rfl, hb⟩
  have O3 : Own w1 (w.heap.size + 1 + 1 + 1) #[.int .u64 0, .int .u64 0, .int .u64 0, .int .u64 0] := Own.below (hp_5_3 _ _ _ _ _ _) hb
  have O4 : Own w1 (w.heap.size + 1 + 1 + 1 + 1) #[.int .u64 0, .int .u64 0, .int .u64 0, .int .u64 0] := Own.below (hp_5_4 _ _ _ _ _ _) hb
  have hb' : Below w.heap.size w w1 := Below.trans (by (repeat' (first | (with_reducible exact Below.refl _ _) | (with_reducible assumption) | (with_reducible refine below_drewN ?_ _) | (with_reducible refine Below.drew ?_) | (with_reducible refine Below.setCell ?_ ?_ _) | (with_reducible refine Below.alloc ?_ ?_ _) | (with_reducible exact Nat.le_refl _) | omega | (simp; omega) | (simp; done)))) (hb.mono (by simp only [World.size_alloc]; omega))
  clear hb
  have c3 := O3.cell; have f3 := O3.free; have c4 := O4.cell; have f4 := O4.free
  go_wp2
  rw [Exit.noGoto_ret]
  go_big_open
  refine bodyPost_ret (res_cct rfl _ _ _ _ _ _ rfl rfl ((O3.set4 _ _ _ _).other4 (by omega) _ _ _ _) ((O4.other4 (by omega) _ _ _ _).set4 _ _ _ _) rfl rfl) rfl ?_
  refine ⟨ret_UUb U0_eq U0_eq rfl, ?_⟩
  (repeat' (first | (with_reducible exact Below.refl _ _) | (with_reducible assumption) | (with_reducible refine below_drewN ?_ _) | (with_reducible refine Below.drew ?_) | (with_reducible refine Below.setCell ?_ ?_ _) | (with_reducible refine Below.alloc ?_ ?_ _) | (with_reducible exact Nat.le_refl _) | omega | (simp; omega) | (simp; done)))

/-- What the memory holds at a round's head. -/
def DivW (w wr : World) (z hi lo b i : Nat) : Prop :=
  Below w.heap.size w wr ∧ w.heap.size + 5 ≤ z ∧ z < wr.heap.size ∧
  Own wr (w.heap.size + 1) (cU (dLo lo i)) ∧
  Own wr (w.heap.size + 1 + 1) (cU b) ∧
  Own wr (w.heap.size + 1 + 1 + 1) (cU (dQ (hi * M + lo) b i)) ∧
  Own wr (w.heap.size + 1 + 1 + 1 + 1) (cU (dR (hi * M + lo) b i)) ∧
  Own wr z #[.int .u64 0, .int .u64 0, .int .u64 0, .int .u64 0]

set_option maxHeartbeats 4000000 in
theorem div_yes (hi lo b : Nat) (w : World) (h1 : hi < M) (h2 : lo < M) (h3 : b < M) (hle : hi < b) :
    Calls Try.prog 18 #[U hi, U lo, U b] w fun e w' => e = .returned (.tuple #[U ((hi * M + lo) / b), U ((hi * M + lo) % b), .bool true]) ∧ Below w.heap.size w w' := by
  have hc : 0 < cmpN b hi := by rw [cmpN_gt hle]; omega
  go_enter Try.func18, Try.ntmps18
  go_wp2_with fail
  go_step3
  go_wp2_with fail
  refine (cmp_any b hi _ h3 h1).mono ?_; rintro e w1 ⟨rfl, hb⟩
  have O0 : Own w1 w.heap.size (cU hi) := Own.below (hp_5_0 _ _ _ _ _ _) hb
  have O1 : Own w1 (w.heap.size + 1) (cU lo) := Own.below (hp_5_1 _ _ _ _ _ _) hb
  have O2 : Own w1 (w.heap.size + 1 + 1) (cU b) := Own.below (hp_5_2 _ _ _ _ _ _) hb
  have O3 : Own w1 (w.heap.size + 1 + 1 + 1) #[.int .u64 0, .int .u64 0, .int .u64 0, .int .u64 0] := Own.below (hp_5_3 _ _ _ _ _ _) hb
  have O4 : Own w1 (w.heap.size + 1 + 1 + 1 + 1) #[.int .u64 0, .int .u64 0, .int .u64 0, .int .u64 0] := Own.below (hp_5_4 _ _ _ _ _ _) hb
  have hB : Below w.heap.size w w1 := Below.trans (by (repeat' (first | (with_reducible exact Below.refl _ _) | (with_reducible assumption) | (with_reducible refine below_drewN ?_ _) | (with_reducible refine Below.drew ?_) | (with_reducible refine Below.setCell ?_ ?_ _) | (with_reducible refine Below.alloc ?_ ?_ _) | (with_reducible exact Nat.le_refl _) | omega | (simp; omega) | (simp; done)))) (hb.mono (by simp only [World.size_alloc]; omega))
  clear hb
  have c0 := O0.cell; have l0 := O0.lt; have c4 := O4.cell; have f4 := O4.free; have l4 := O4.lt
  go_wp2
  go_step3
  go_wp2
  go_loopg [10] 4 (fun k p wr => k ≤ 4 ∧ p = .int .i64 (k - 1) ∧ DivW w wr w1.heap.size hi lo b (256 - 64 * k))
  case atStart =>
    obtain ⟨e1, e2⟩ := d_start h2 hle
    refine ⟨by omega, rfl, ?_, by omega, by simp, ?_, ?_, ?_, ?_, ?_⟩
    · (repeat' (first | (with_reducible exact Below.refl _ _) | (with_reducible assumption) | (with_reducible refine below_drewN ?_ _) | (with_reducible refine Below.drew ?_) | (with_reducible refine Below.setCell ?_ ?_ _) | (with_reducible refine Below.alloc ?_ ?_ _) | (with_reducible exact Nat.le_refl _) | omega | (simp; omega) | (simp; done)))
    · rw [show 256 - 64 * 4 = 0 by omega, dLo_zero h2]; exact (O1.other4 (by omega) _ _ _ _).past _
    · exact (O2.other4 (by omega) _ _ _ _).past _
    · rw [show 256 - 64 * 4 = 0 by omega, e2, cU, wd_zero, wd_zero, wd_zero, wd_zero]; exact (O3.other4 (by omega) _ _ _ _).past _
    · rw [show 256 - 64 * 4 = 0 by omega, e1]; exact (O4.set4 _ _ _ _).past _
    · exact heap_alloc_at _ _ _ (by simp)
  case round =>
    obtain ⟨hk, rfl, hW⟩ := hrel
    by_cases hk0 : gk = 0
    · subst hk0
      obtain ⟨B0, z1, z2, P1, P2, P3, P4, P5⟩ := hW
      obtain ⟨y1, y2⟩ := d_end (hi * M + lo) b
      rw [show 256 - 64 * 0 = 256 by omega, y1] at P4
      rw [show 256 - 64 * 0 = 256 by omega, y2] at P3
      clear y1 y2 P1
      obtain ⟨r, er⟩ : ∃ r, r = (hi * M + lo) % b := ⟨_, rfl⟩
      obtain ⟨q, eq⟩ : ∃ q, q = (hi * M + lo) / b := ⟨_, rfl⟩
      rw [← er] at P4; rw [← eq] at P3
      have ER := Lib.hid er; have EQ := Lib.hid eq
      clear er eq
      have c3 := P3.cell; have f3 := P3.free; have c4' := P4.cell; have f4' := P4.free
      go_wp2
      go_region
      go_wp2
      try rw [Exit.noGoto_ret]
      try go_big_open
      refine bodyPost_ret (res_cct rfl _ _ _ _ _ _ rfl rfl ((P3.set4 _ _ _ _).other4 (by omega) _ _ _ _).drew ((P4.other4 (by omega) _ _ _ _).set4 _ _ _ _).drew rfl rfl) rfl ?_
      rw [← ER.out, ← EQ.out]
      refine ⟨rfl, ?_⟩
      (repeat' (first | (with_reducible exact Below.refl _ _) | (with_reducible assumption) | (with_reducible refine below_drewN ?_ _) | (with_reducible refine Below.drew ?_) | (with_reducible refine Below.setCell ?_ ?_ _) | (with_reducible refine Below.alloc ?_ ?_ _) | (with_reducible exact Nat.le_refl _) | omega | (simp; omega) | (simp; done)))
    · obtain ⟨g, rfl⟩ : ∃ g, gk = g + 1 := ⟨gk - 1, by omega⟩
      have eg : ((g + 1 : Nat) : Int) - 1 = g := by omega
      rw [eg]
      have HW := Lib.hid hW
      clear hW eg
      obtain ⟨wo, rfl⟩ : ∃ wo : World, wo = wr := ⟨_, rfl⟩
      go_wp2
      go_loopg [11] 64 (fun k p wr => k ≤ 64 ∧ p = .int .i64 (k - 1) ∧ DivW w wr w1.heap.size hi lo b (256 - 64 * g - k))
      case atStart =>
        have := HW.out
        exact ⟨by omega, rfl, by rw [show 256 - 64 * g - 64 = 256 - 64 * (g + 1) by omega]; exact this⟩
      case round =>
        obtain ⟨hk2, rfl, hW⟩ := hrel
        by_cases hm0 : gk = 0
        · subst hm0
          have HW2 := Lib.hid hW
          clear hW
          go_wp2
          go_roundg g
          case rel => exact ⟨by omega, by go_num, HW2.out⟩
          case measure => omega
        · obtain ⟨m, rfl⟩ : ∃ m, gk = m + 1 := ⟨gk - 1, by omega⟩
          have eg : ((m + 1 : Nat) : Int) - 1 = m := by omega
          rw [eg]
          clear eg
          obtain ⟨i, hi2⟩ : ∃ i, i = 256 - 64 * g - (m + 1) := ⟨_, rfl⟩
          rw [← hi2] at hW
          have HI : Hid (i + (64 * g + m) = 255) := by show _ = _; omega
          clear hi2
          obtain ⟨B0, z1, z2, P1, P2, P3, P4, P5⟩ := hW
          obtain ⟨x, ex⟩ : ∃ x, x = dLo lo i := ⟨_, rfl⟩
          obtain ⟨r, er⟩ : ∃ r, r = dR (hi * M + lo) b i := ⟨_, rfl⟩
          obtain ⟨q, eq⟩ : ∃ q, q = dQ (hi * M + lo) b i := ⟨_, rfl⟩
          obtain ⟨x', ex'⟩ : ∃ x', x' = dLo lo (i + 1) := ⟨_, rfl⟩
          obtain ⟨c, ec⟩ : ∃ c : Nat, c = 2 * x / M := ⟨_, rfl⟩
          obtain ⟨r1, er1⟩ : ∃ r1, r1 = (2 * r + c) % M := ⟨_, rfl⟩
          obtain ⟨ov, eov⟩ : ∃ ov : Nat, ov = (2 * r + c) / M := ⟨_, rfl⟩
          obtain ⟨r2, er2⟩ : ∃ r2, r2 = (r1 + M - b) % M := ⟨_, rfl⟩
          have xlt : x < M := by rw [ex]; exact dLo_lt lo i
          have rlt : r < M := by rw [er]; exact Nat.lt_trans (dR_lt _ b i (by omega)) h3
          have r1lt : r1 < M := by rw [er1]; exact Nat.mod_lt _ M_pos
          have cbit : Bit (c : Int) := by have := dbit lo i; rw [← ex, ← ec] at this; unfold Bit; omega
          have D1 : Hid (∀ W, Calls Try.prog 52 #[U x, .int .u64 0] W fun e w' => e = .returned (.tuple #[U x', .int .u64 (c : Int)]) ∧ Below W.heap.size W w') := by
            intro W
            have h := double_any x 0 W xlt bit_zero
            rw [show 2 * x + (0 : Int).toNat = 2 * x by rfl, ← ec] at h
            rw [ex', ← dLo_step lo i, ← ex]; exact h
          have D2 : Hid (∀ W, Calls Try.prog 52 #[U r, .int .u64 (c : Int)] W fun e w' => e = .returned (.tuple #[U r1, .int .u64 (ov : Int)]) ∧ Below W.heap.size W w') := by
            intro W
            have h := double_any r (c : Int) W rlt cbit
            rw [Int.toNat_natCast, ← er1, ← eov] at h
            exact h
          have D3 : Hid (∀ W, Calls Try.prog 15 #[U r1, U b] W fun e w' => e = .returned (.tuple #[U r2, .bool (decide (r1 < b))]) ∧ Below W.heap.size W w') := by
            intro W
            have h := sub_any r1 b W r1lt h3
            rw [← er2] at h
            exact h
          have D4 : Hid (∀ W, Calls Try.prog 16 #[U r1, U b] W fun e w' => e = .returned (.int .i64 (cmpN r1 b)) ∧ Below W.heap.size W w') := fun W => cmp_any r1 b W r1lt h3
          have p255 : 255 - i = 64 * g + m := by have := HI.out; omega
          have YES : Hid (b ≤ 2 * r + c → dR (hi * M + lo) b (i + 1) = r2 ∧ dQ (hi * M + lo) b (i + 1) = q + 2 ^ (64 * g + m) ∧ q % 2 ^ (64 * g + m + 1) = 0) := by
            intro hge
            have hq := dQ_low (hi * M + lo) b i (by have := HI.out; omega)
            rw [er, ec, ex] at hge
            obtain ⟨y1, y2⟩ := d_yes hi lo b i (by omega) (by have := HI.out; omega) hge
            have hlt := dR_lt (hi * M + lo) b (i + 1) (by omega)
            rw [y1, ← er, ← ex, ← ec] at hlt
            rw [← er, ← ex, ← ec] at hge
            rw [y1, y2, ← er, ← ex, ← ec, ← eq, p255, er2, er1, step_r2 hge (by omega) h3]
            rw [← eq, p255] at hq
            exact ⟨rfl, rfl, hq⟩
          have NO : Hid (2 * r + c < b → dR (hi * M + lo) b (i + 1) = r1 ∧ dQ (hi * M + lo) b (i + 1) = q) := by
            intro hge
            rw [er, ec, ex] at hge
            obtain ⟨y1, y2⟩ := d_no hi lo b i (by omega) (by have := HI.out; omega) hge
            rw [← er, ← ex, ← ec] at hge
            rw [y1, y2, ← er, ← ex, ← ec, ← eq, er1, Nat.mod_eq_of_lt (by omega)]
            exact ⟨rfl, rfl⟩
          have LAST : Hid (r = 0 → x = 0 → (hi * M + lo) % b = r ∧ (hi * M + lo) / b = q) := by
            intro h0 h0'
            rw [er] at h0; rw [ex] at h0'
            obtain ⟨y1, y2⟩ := d_early (by have := HI.out; omega) h0 h0'
            exact ⟨by rw [← y1, er], by rw [← y2, eq]⟩
          have ei : 256 - 64 * g - m = i + 1 := by have := HI.out; omega
          have hv1 : ov ≠ 0 → b ≤ 2 * r + c := by
            intro h
            rw [eov] at h
            have : M ≤ 2 * r + c := by
              by_cases hh : 2 * r + c < M
              · rw [Nat.div_eq_of_lt hh] at h; exact absurd rfl h
              · omega
            omega
          have hv0 : ov = 0 → r1 = 2 * r + c := by
            intro h
            rw [eov] at h
            rw [er1]
            exact Nat.mod_eq_of_lt (Nat.lt_of_div_eq_zero M_pos h)
          rw [← ex] at P1; rw [← er] at P4; rw [← eq] at P3
          have EX' := Lib.hid ex'; have HV1 := Lib.hid hv1; have HV0 := Lib.hid hv0; have EI := Lib.hid ei
          clear ex er eq ex' ec er1 eov er2 cbit hv1 hv0 ei p255
          have E1 := fun W => eqlU0 r rlt W
          have E2 := fun W => eqlU0 x xlt W
          have c1 := P1.cell; have f1 := P1.free
          have c2 := P2.cell
          have c4' := P4.cell; have f4' := P4.free
          have c5 := P5.cell
          by_cases hend : r = 0 ∧ x = 0
          · obtain ⟨hr0, hx0⟩ := hend
            obtain ⟨L1, L2⟩ := LAST.out hr0 hx0
            have hd : decide (r = 0) = true := decide_eq_true hr0
            have hd2 : decide (x = 0) = true := decide_eq_true hx0
            have HL1 := Lib.hid L1; have HL2 := Lib.hid L2
            clear L1 L2 hr0 hx0
            have c3 := P3.cell; have f3 := P3.free
            go_wp2
            go_region
            go_wp2
            rw [Exit.noGoto_ret]
            go_big_open
            refine bodyPost_ret (res_cct rfl _ _ _ _ _ _ rfl rfl ((P3.set4 _ _ _ _).other4 (by omega) _ _ _ _).drew ((P4.other4 (by omega) _ _ _ _).set4 _ _ _ _).drew rfl rfl) rfl ?_
            rw [HL1.out, HL2.out]
            refine ⟨rfl, ?_⟩
            (repeat' (first | (with_reducible exact Below.refl _ _) | (with_reducible assumption) | (with_reducible refine below_drewN ?_ _) | (with_reducible refine Below.drew ?_) | (with_reducible refine Below.setCell ?_ ?_ _) | (with_reducible refine Below.alloc ?_ ?_ _) | (with_reducible exact Nat.le_refl _) | omega | (simp; omega) | (simp; done)))
          · have hT : (decide (r = 0) = false) ∨ (decide (r = 0) = true ∧ decide (x = 0) = false) := by
              by_cases h : r = 0
              · exact Or.inr ⟨decide_eq_true h, decide_eq_false (fun hx => hend ⟨h, hx⟩)⟩
              · exact Or.inl (decide_eq_false h)
            clear hend
            by_cases hov : ov = 0
            · have hob : ((ov : Int) != 0) = false := by rw [hov]; rfl
              have hr1 := HV0.out hov
              clear hov
              by_cases hge : b ≤ 2 * r + c
              · have hcm : 0 ≤ cmpN r1 b := cmp_ge (by omega)
                have HGE := Lib.hid hge
                clear hr1 hge
                rcases hT with hd | ⟨hd, hd2⟩
                all_goals
                  go_wp2_with fail
                  refine (D1.out _).mono ?_; rintro e w2 ⟨rfl, hb2⟩; have Q1 := P1.below hb2; have Q2 := P2.below hb2; have Q3 := P3.below hb2; have Q4 := P4.below hb2; have Q5 := P5.below hb2; have B2 : Below w.heap.size w w2 := B0.trans (hb2.mono B0.size); have hs2 := hb2.size; clear c1 f1 c2 c4' f4' c5 hb2; have c1 := Q1.cell; have f1 := Q1.free; have c4' := Q4.cell
                  go_wp2_with fail
                  refine (D2.out _).mono ?_; rintro e w4 ⟨rfl, hb4⟩; have R1 := (Q1.set4 _ _ _ _).below hb4; have R2 := (Q2.other4 (by omega) _ _ _ _).below hb4; have R3 := (Q3.other4 (by omega) _ _ _ _).below hb4; have R4 := (Q4.other4 (by omega) _ _ _ _).below hb4; have R5 := (Q5.other4 (by omega) _ _ _ _).below hb4; have B4 : Below w.heap.size w w4 := Below.trans (by (repeat' (first | (with_reducible exact Below.refl _ _) | (with_reducible assumption) | (with_reducible refine below_drewN ?_ _) | (with_reducible refine Below.drew ?_) | (with_reducible refine Below.setCell ?_ ?_ _) | (with_reducible refine Below.alloc ?_ ?_ _) | (with_reducible exact Nat.le_refl _) | omega | (simp; omega) | (simp; done)))) (hb4.mono (by simp; have := B2.size; omega)); have hs4 := hb4.size; simp at hs4; clear c1 f1 c4' hb4 Q1 Q2 Q3 Q4 Q5; have c4' := R4.cell; have f4' := R4.free; have c2 := R2.cell
                  go_wp2_with fail
                  refine (D4.out _).mono ?_; rintro e w5 ⟨rfl, hb5⟩; have T1 := (R1.other4 (by omega) _ _ _ _).below hb5; have T2 := (R2.other4 (by omega) _ _ _ _).below hb5; have T3 := (R3.other4 (by omega) _ _ _ _).below hb5; have T4 := (R4.set4 _ _ _ _).below hb5; have T5 := (R5.other4 (by omega) _ _ _ _).below hb5; have B5 : Below w.heap.size w w5 := Below.trans (by (repeat' (first | (with_reducible exact Below.refl _ _) | (with_reducible assumption) | (with_reducible refine below_drewN ?_ _) | (with_reducible refine Below.drew ?_) | (with_reducible refine Below.setCell ?_ ?_ _) | (with_reducible refine Below.alloc ?_ ?_ _) | (with_reducible exact Nat.le_refl _) | omega | (simp; omega) | (simp; done)))) (hb5.mono (by simp; have := B4.size; omega)); have hs5 := hb5.size; simp at hs5; clear c4' f4' c2 hb5 R1 R2 R3 R4 R5; have c4' := T4.cell; have f4' := T4.free; have c2 := T2.cell
                  go_wp2_with fail
                  refine (D3.out _).mono ?_; rintro e w6 ⟨rfl, hb6⟩; have S1 := T1.below hb6; have S2 := T2.below hb6; have S3 := T3.below hb6; have S4 := T4.below hb6; have S5 := T5.below hb6; have B6 : Below w.heap.size w w6 := B5.trans (hb6.mono B5.size); have hs6 := hb6.size; clear c4' f4' c2 hb6 T1 T2 T3 T4 T5; have c4' := S4.cell; have f4' := S4.free; have f3 := S3.free; have cg : w6.cell? ⟨w.heap.size + 1 + 1 + 1, g, none⟩ = some (.int .u64 (wd q g)) := by rw [S3.cell, cU_get q g (by omega)]
                  go_wp2
                  go_region
                  go_wp2
                  go_roundg m
                  case rel =>
                    obtain ⟨y1, y2, y3⟩ := YES.out HGE.out
                    rw [EI.out, pow_in m (by omega)]
                    refine ⟨by omega, rfl, ?_, by omega, by simp; omega, ?_, ?_, ?_, ?_, ?_⟩
                    · (repeat' (first | (with_reducible exact Below.refl _ _) | (with_reducible assumption) | (with_reducible refine below_drewN ?_ _) | (with_reducible refine Below.drew ?_) | (with_reducible refine Below.setCell ?_ ?_ _) | (with_reducible refine Below.alloc ?_ ?_ _) | (with_reducible exact Nat.le_refl _) | omega | (simp; omega) | (simp; done)))
                    · rw [← EX'.out]; exact ((S1.other4 (by omega) _ _ _ _).other (by omega) _).drew
                    · exact ((S2.other4 (by omega) _ _ _ _).other (by omega) _).drew
                    · rw [y2, ← setbit_row q g m (by omega) (by omega) y3]; exact ((S3.other4 (by omega) _ _ _ _).set _).drew
                    · rw [y1]; exact ((S4.set4 _ _ _ _).other (by omega) _).drew
                    · exact ((S5.other4 (by omega) _ _ _ _).other (by omega) _).drew
                  case measure => omega
              · have hcm : cmpN r1 b < 0 := cmp_lt (by omega)
                have HGE := Lib.hid hge
                clear hr1 hge
                rcases hT with hd | ⟨hd, hd2⟩
                all_goals
                  go_wp2_with fail
                  refine (D1.out _).mono ?_; rintro e w2 ⟨rfl, hb2⟩; have Q1 := P1.below hb2; have Q2 := P2.below hb2; have Q3 := P3.below hb2; have Q4 := P4.below hb2; have Q5 := P5.below hb2; have B2 : Below w.heap.size w w2 := B0.trans (hb2.mono B0.size); have hs2 := hb2.size; clear c1 f1 c2 c4' f4' c5 hb2; have c1 := Q1.cell; have f1 := Q1.free; have c4' := Q4.cell
                  go_wp2_with fail
                  refine (D2.out _).mono ?_; rintro e w4 ⟨rfl, hb4⟩; have R1 := (Q1.set4 _ _ _ _).below hb4; have R2 := (Q2.other4 (by omega) _ _ _ _).below hb4; have R3 := (Q3.other4 (by omega) _ _ _ _).below hb4; have R4 := (Q4.other4 (by omega) _ _ _ _).below hb4; have R5 := (Q5.other4 (by omega) _ _ _ _).below hb4; have B4 : Below w.heap.size w w4 := Below.trans (by (repeat' (first | (with_reducible exact Below.refl _ _) | (with_reducible assumption) | (with_reducible refine below_drewN ?_ _) | (with_reducible refine Below.drew ?_) | (with_reducible refine Below.setCell ?_ ?_ _) | (with_reducible refine Below.alloc ?_ ?_ _) | (with_reducible exact Nat.le_refl _) | omega | (simp; omega) | (simp; done)))) (hb4.mono (by simp; have := B2.size; omega)); have hs4 := hb4.size; simp at hs4; clear c1 f1 c4' hb4 Q1 Q2 Q3 Q4 Q5; have c4' := R4.cell; have f4' := R4.free; have c2 := R2.cell
                  go_wp2_with fail
                  refine (D4.out _).mono ?_; rintro e w5 ⟨rfl, hb5⟩; have T1 := (R1.other4 (by omega) _ _ _ _).below hb5; have T2 := (R2.other4 (by omega) _ _ _ _).below hb5; have T3 := (R3.other4 (by omega) _ _ _ _).below hb5; have T4 := (R4.set4 _ _ _ _).below hb5; have T5 := (R5.other4 (by omega) _ _ _ _).below hb5; have B5 : Below w.heap.size w w5 := Below.trans (by (repeat' (first | (with_reducible exact Below.refl _ _) | (with_reducible assumption) | (with_reducible refine below_drewN ?_ _) | (with_reducible refine Below.drew ?_) | (with_reducible refine Below.setCell ?_ ?_ _) | (with_reducible refine Below.alloc ?_ ?_ _) | (with_reducible exact Nat.le_refl _) | omega | (simp; omega) | (simp; done)))) (hb5.mono (by simp; have := B4.size; omega)); have hs5 := hb5.size; simp at hs5; clear c4' f4' c2 hb5 R1 R2 R3 R4 R5; have c4' := T4.cell; have f4' := T4.free; have c2 := T2.cell
                  go_wp2
                  go_roundg m
                  case rel =>
                    obtain ⟨y1, y2⟩ := NO.out (by have := HGE.out; omega)
                    rw [EI.out]
                    exact ⟨by omega, rfl, B5, by omega, by omega, by rw [← EX'.out]; exact T1, T2, by rw [y2]; exact T3, by rw [y1]; exact T4, T5⟩
                  case measure => omega
            · have hob : ((ov : Int) != 0) = true := by rw [bne_iff_ne]; omega
              have HGE := Lib.hid (HV1.out hov)
              clear hov
              rcases hT with hd | ⟨hd, hd2⟩
              all_goals
                go_wp2_with fail
                refine (D1.out _).mono ?_; rintro e w2 ⟨rfl, hb2⟩; have Q1 := P1.below hb2; have Q2 := P2.below hb2; have Q3 := P3.below hb2; have Q4 := P4.below hb2; have Q5 := P5.below hb2; have B2 : Below w.heap.size w w2 := B0.trans (hb2.mono B0.size); have hs2 := hb2.size; clear c1 f1 c2 c4' f4' c5 hb2; have c1 := Q1.cell; have f1 := Q1.free; have c4' := Q4.cell
                go_wp2_with fail
                refine (D2.out _).mono ?_; rintro e w4 ⟨rfl, hb4⟩; have R1 := (Q1.set4 _ _ _ _).below hb4; have R2 := (Q2.other4 (by omega) _ _ _ _).below hb4; have R3 := (Q3.other4 (by omega) _ _ _ _).below hb4; have R4 := (Q4.other4 (by omega) _ _ _ _).below hb4; have R5 := (Q5.other4 (by omega) _ _ _ _).below hb4; have B4 : Below w.heap.size w w4 := Below.trans (by (repeat' (first | (with_reducible exact Below.refl _ _) | (with_reducible assumption) | (with_reducible refine below_drewN ?_ _) | (with_reducible refine Below.drew ?_) | (with_reducible refine Below.setCell ?_ ?_ _) | (with_reducible refine Below.alloc ?_ ?_ _) | (with_reducible exact Nat.le_refl _) | omega | (simp; omega) | (simp; done)))) (hb4.mono (by simp; have := B2.size; omega)); have hs4 := hb4.size; simp at hs4; clear c1 f1 c4' hb4 Q1 Q2 Q3 Q4 Q5; have c4' := R4.cell; have f4' := R4.free; have c2 := R2.cell
                go_wp2_with fail
                refine (D3.out _).mono ?_; rintro e w6 ⟨rfl, hb6⟩; have S1 := (R1.other4 (by omega) _ _ _ _).below hb6; have S2 := (R2.other4 (by omega) _ _ _ _).below hb6; have S3 := (R3.other4 (by omega) _ _ _ _).below hb6; have S4 := (R4.set4 _ _ _ _).below hb6; have S5 := (R5.other4 (by omega) _ _ _ _).below hb6; have B6 : Below w.heap.size w w6 := Below.trans (by (repeat' (first | (with_reducible exact Below.refl _ _) | (with_reducible assumption) | (with_reducible refine below_drewN ?_ _) | (with_reducible refine Below.drew ?_) | (with_reducible refine Below.setCell ?_ ?_ _) | (with_reducible refine Below.alloc ?_ ?_ _) | (with_reducible exact Nat.le_refl _) | omega | (simp; omega) | (simp; done)))) (hb6.mono (by simp; have := B4.size; omega)); have hs6 := hb6.size; simp at hs6; clear c4' f4' c2 hb6 R1 R2 R3 R4 R5; have c4' := S4.cell; have f4' := S4.free; have f3 := S3.free; have cg : w6.cell? ⟨w.heap.size + 1 + 1 + 1, g, none⟩ = some (.int .u64 (wd q g)) := by rw [S3.cell, cU_get q g (by omega)]
                go_wp2
                go_region
                go_wp2
                go_roundg m
                case rel =>
                  obtain ⟨y1, y2, y3⟩ := YES.out HGE.out
                  rw [EI.out, pow_in m (by omega)]
                  refine ⟨by omega, rfl, ?_, by omega, by simp; omega, ?_, ?_, ?_, ?_, ?_⟩
                  · (repeat' (first | (with_reducible exact Below.refl _ _) | (with_reducible assumption) | (with_reducible refine below_drewN ?_ _) | (with_reducible refine Below.drew ?_) | (with_reducible refine Below.setCell ?_ ?_ _) | (with_reducible refine Below.alloc ?_ ?_ _) | (with_reducible exact Nat.le_refl _) | omega | (simp; omega) | (simp; done)))
                  · rw [← EX'.out]; exact ((S1.other4 (by omega) _ _ _ _).other (by omega) _).drew
                  · exact ((S2.other4 (by omega) _ _ _ _).other (by omega) _).drew
                  · rw [y2, ← setbit_row q g m (by omega) (by omega) y3]; exact ((S3.other4 (by omega) _ _ _ _).set _).drew
                  · rw [y1]; exact ((S4.set4 _ _ _ _).other (by omega) _).drew
                  · exact ((S5.other4 (by omega) _ _ _ _).other (by omega) _).drew
                case measure => omega
end Go.Proofs.Ytlgjdejlnelndaa
