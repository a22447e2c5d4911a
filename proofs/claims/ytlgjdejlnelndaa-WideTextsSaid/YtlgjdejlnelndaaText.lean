/-
  Decimal texts: the walk of Text.
-/
import Derived.Test.YtlgjdejlnelndaaDivW
import Derived.Test.YtlgjdejlnelndaaInv
import Derived.Test.YtlgjdejlnelndaaTextNum
import Derived.OwnWalk
import Derived.Laws.BytesArg
namespace Go.Proofs.Ytlgjdejlnelndaa
open Go Go.RowKit

/-- A variable that the region makes: where it lies, and what it holds once it is stored. -/
def VarI (wr w : World) (b s : Bool) (v : Value) (g : Nat) (C1 : Array Value) : Prop :=
  b = true → v = .pointer (some ⟨g, 0, none⟩) ∧ wr.heap.size ≤ g ∧ ∃ c0 c1 c2 c3, Own w g #[c0, c1, c2, c3] ∧ (s = true → #[c0, c1, c2, c3] = C1)
def ImpB (s b : Bool) : Prop := s = true → b = true
theorem ImpB.rfl' {s : Bool} : ImpB s true := fun _ => rfl
def NeB (x y : Bool) (g g' : Nat) : Prop := x = true → y = true → g ≠ g'
theorem NeB.mk {x y : Bool} {g g' : Nat} (h : x = true → y = true → g ≠ g') : NeB x y g g' := h
theorem VarI.below {wr w w' : World} {b s : Bool} {v : Value} {g : Nat} {C1 : Array Value} (h : VarI wr w b s v g C1) (hb : Below w.heap.size w w') : VarI wr w' b s v g C1 := by
  intro hh
  obtain ⟨h1, h2, c0, c1, c2, c3, O, h3⟩ := h hh
  exact ⟨h1, h2, c0, c1, c2, c3, O.below hb, h3⟩
theorem VarI.past {wr w : World} {b s : Bool} {v : Value} {g : Nat} {C1 : Array Value} (h : VarI wr w b s v g C1) (o : Obj) : VarI wr (w.alloc o) b s v g C1 := by
  intro hh
  obtain ⟨h1, h2, c0, c1, c2, c3, O, h3⟩ := h hh
  exact ⟨h1, h2, c0, c1, c2, c3, O.past o, h3⟩
theorem VarI.new {wr w : World} (s : Bool) (hs : s = false) (C1 : Array Value) (h : wr.heap.size ≤ w.heap.size) : VarI wr (w.alloc (.cells #[.int .u64 0, .int .u64 0, .int .u64 0, .int .u64 0] 24)) true s (.pointer (some ⟨w.heap.size, 0, none⟩)) w.heap.size C1 :=
  fun _ => ⟨rfl, h, _, _, _, _, Own.new _, fun x => by rw [hs] at x; exact absurd x (by simp)⟩
theorem VarI.store {wr w : World} {s : Bool} {v : Value} {g : Nat} {C1 : Array Value} (h : VarI wr w true s v g C1) (d0 d1 d2 d3 : Value) (e : #[d0, d1, d2, d3] = C1) :
    VarI wr ((((w.setCell ⟨g, 0, none⟩ d0).setCell ⟨g, 1, none⟩ d1).setCell ⟨g, 2, none⟩ d2).setCell ⟨g, 3, none⟩ d3) true true v g C1 := by
  obtain ⟨h1, h2, c0, c1, c2, c3, O, h3⟩ := h rfl
  exact fun _ => ⟨h1, h2, _, _, _, _, O.set4 d0 d1 d2 d3, fun _ => e⟩
theorem VarI.other {wr w : World} {b s : Bool} {v : Value} {g : Nat} {C1 : Array Value} (h : VarI wr w b s v g C1) {g' : Nat} (hg : b = true → g ≠ g') (d0 d1 d2 d3 : Value) :
    VarI wr ((((w.setCell ⟨g', 0, none⟩ d0).setCell ⟨g', 1, none⟩ d1).setCell ⟨g', 2, none⟩ d2).setCell ⟨g', 3, none⟩ d3) b s v g C1 := by
  intro hh
  obtain ⟨h1, h2, c0, c1, c2, c3, O, h3⟩ := h hh
  exact ⟨h1, h2, c0, c1, c2, c3, O.other4 (hg hh) d0 d1 d2 d3, h3⟩

theorem VarI.lt {wr w : World} {b s : Bool} {v : Value} {g : Nat} {C1 : Array Value} (h : VarI wr w b s v g C1) (hb : b = true) : g < w.heap.size := by
  obtain ⟨_, _, c0, c1, c2, c3, O, _⟩ := h hb
  exact O.lt
theorem VarI.store' {wr w : World} {b s : Bool} {v : Value} {g : Nat} {C1 : Array Value} (h : VarI wr w b s v g C1) (hb : b = true) (d0 d1 d2 d3 : Value) (e : #[d0, d1, d2, d3] = C1) :
    VarI wr ((((w.setCell ⟨g, 0, none⟩ d0).setCell ⟨g, 1, none⟩ d1).setCell ⟨g, 2, none⟩ d2).setCell ⟨g, 3, none⟩ d3) b true v g C1 := by
  subst hb; exact h.store d0 d1 d2 d3 e

/-- What holds inside the region 'q, r, _ := Div(U256{}, a, FromUint(10))'. -/
def TI (a0 : Act) (wr : World) (a : Nat) (L : Array Bool) (act : Act) (w : World) : Prop :=
  ∃ (b0 b1 b2 b3 b4 b5 b6 b7 b8 b9 b10 b11 b12 : Bool) (v4 v5 v6 v16 v17 v18 v19 v20 v21 v22 v23 : Value) (g8 g9 : Nat),
    L = #[b0, b1, b2, b3, b4, b5, b6, b7, b8, b9, b10, b11, b12] ∧
    act = (((((((((((a0.put (some 4) v4).put (some 5) v5).put (some 6) v6).put (some 16) v16).put (some 17) v17).put (some 18) v18).put (some 19) v19).put (some 20) v20).put (some 21) v21).put (some 22) v22).put (some 23) v23) ∧
    Below wr.heap.size wr w ∧
    (b0 = true → v17 = .agg #[.int .u64 0, .int .u64 0, .int .u64 0, .int .u64 0]) ∧
    (b1 = true → v18 = U a) ∧
    (b2 = true → v19 = U 10) ∧
    (b3 = true → v20 = .tuple #[U (a / 10), U (a % 10), .bool true]) ∧
    (b4 = true → v16 = .tuple #[U (a / 10), U (a % 10), .bool true]) ∧
    (b5 = true → v21 = U (a / 10)) ∧
    (b6 = true → v22 = U (a % 10)) ∧
    (b7 = true → v23 = .bool true) ∧
    (b12 = true → v6 = .bool true) ∧
    VarI wr w b8 b10 v4 g8 (cU (a / 10)) ∧
    ImpB b10 b8 ∧
    VarI wr w b9 b11 v5 g9 (cU (a % 10)) ∧
    ImpB b11 b9 ∧
    NeB b8 b9 g8 g9

theorem Own.grown {w w' : World} {g : Nat} {C : Array Value} {row : Option Nat} (h : Own w g C) (hg : w.grownBy w' row) (hne : row ≠ some g) : Own w' g C := (hg.block g h.lt (fun e => hne e.symm)).trans h
theorem ownsRow_below {w w' : World} {base : Nat} {e : TypeId} {size : Nat} {v : Value} {n : Nat} {xs : List Value} (h : w.ownsRow base e size v n xs) (hb : Below w.heap.size w w') : w'.ownsRow base e size v n xs := by
  obtain ⟨h1, h2⟩ := h
  refine ⟨h1, ?_⟩
  rcases h2 with h2 | ⟨g, cap, cur, hv, hg, hh, r⟩
  · exact Or.inl h2
  · have hlt : g < w.heap.size := by
      by_cases hl : g < w.heap.size
      · exact hl
      · rw [Array.getElem?_eq_none (by omega)] at hh; exact absurd hh (by simp)
    exact Or.inr ⟨g, cap, cur, hv, hg, (hb.block g hlt).trans hh, r⟩
/-- The block of an owned row lies from base on, and below the heap's size. -/
theorem ownsRow_block {w : World} {base : Nat} {e : TypeId} {size : Nat} {v : Value} {n : Nat} {xs : List Value} (h : w.ownsRow base e size v n xs) {k : Nat} (hk : v.ownBlock = some k) : base ≤ k ∧ k < w.heap.size := by
  obtain ⟨h1, h2⟩ := h
  rcases h2 with ⟨rfl, _⟩ | ⟨g, cap, cur, rfl, hg, hh, r⟩
  · simp [Value.ownBlock] at hk
  · have hlt : g < w.heap.size := by
      by_cases hl : g < w.heap.size
      · exact hl
      · rw [Array.getElem?_eq_none (by omega)] at hh; exact absurd hh (by simp)
    simp [Value.ownBlock] at hk
    omega
theorem info_byte : (Try.prog.info? 5).map (fun i => (i.zero, i.size, i.bytes)) = some (some (.int .u8 0), 1, 1) := by kernel_rfl

set_option maxHeartbeats 1000000 in
theorem text_pos (A : Nat) (w : World) (hA : A < M) (h0 : A ≠ 0) :
    Calls Try.prog 41 #[U A] w fun e w' => e = .returned (.string (decS A)) ∧ Below w.heap.size w w' := by
  have hd : decide (A = 0) = false := decide_eq_false h0
  have E1 := fun W => eqlU0 A hA W
  have w10 : Word 10 := by unfold Word; omega
  obtain ⟨i0, hi0, hz0, hz1, hz2⟩ := info_parts info_byte
  go_enter Try.func41, Try.ntmps41
  go_wp2
  have hnd := ndF_spec 78 A (lt_pow78 hA)
  have hle := ndF_le 78 A
  obtain ⟨n, en⟩ : ∃ n, n = ndF 78 A := ⟨_, rfl⟩
  rw [← en] at hnd hle
  have HND := Lib.hid hnd
  have EN := Lib.hid en
  clear hnd en
  go_loopg [3] n (fun k v wr => ∃ j a, a = A / 10 ^ j ∧ j + k = n ∧ Own wr w.heap.size (cU a) ∧ wr.ownsRow (w.heap.size + 1) 5 1 v j ((revD A j).map (Value.int .u8)) ∧ Below w.heap.size w wr)
  case atStart => exact ⟨0, A, by simp, by omega, Own.new _, ⟨rfl, Or.inl ⟨rfl, rfl⟩⟩, (Below.refl _ _).alloc (Nat.le_refl _) _⟩
  case round =>
    obtain ⟨j, a, ea, hk, O, hown, hB⟩ := hrel
    have alt : a < M := by rw [ea]; exact Nat.lt_of_le_of_lt (Nat.div_le_self _ _) hA
    have hzero : gk = 0 → a = 0 := by
      intro h
      rw [ea, show j = n by omega]; exact HND.out.2
    have hnot : gk ≠ 0 → a ≠ 0 := by
      intro h
      rw [ea]; exact HND.out.1 j (by omega)
    have EA := Lib.hid ea
    have HOWN := Lib.hid hown
    have HK := Lib.hid hk
    have HZ := Lib.hid hzero; have HN := Lib.hid hnot
    have jle : j ≤ 78 := by omega
    clear ea hown hk hzero hnot
    have E2 := fun W => neqU0 a alt W
    have c0 := O.cell; have f0 := O.free; have l0 := O.lt
    by_cases hend : gk = 0
    · have hne : decide (a = 0) = true := decide_eq_true (HZ.out hend)
      obtain ⟨wo, rfl⟩ : ∃ wo : World, wo = wr := ⟨_, rfl⟩
      obtain rfl : j = n := by have := HK.out; omega
      have jpos : 0 < j := by
        by_cases hh : j = 0
        · exfalso
          have := HND.out.2
          rw [hh] at this; simp at this; exact h0 this
        · omega
      obtain ⟨gv, cap, hu, gge, glt, hcell⟩ : ∃ gv cap, u3 = .slice (some ⟨gv, 0, none⟩) j cap ∧ w.heap.size + 1 ≤ gv ∧ gv < wo.heap.size ∧ ∀ i, i < j → wo.cell? ⟨gv, i, none⟩ = some (.int .u8 (dig A i)) := by
        have ho := HOWN.out
        rcases ho.2 with ⟨_, hz⟩ | ⟨g, cap, cur, hv, hg, hh, _⟩
        · omega
        · have hb := (ownsRow_block ho (k := g) (by rw [hv]; rfl))
          refine ⟨g, cap, hv, hb.1, hb.2, fun i hi => ?_⟩
          rw [hv] at ho
          rw [ho.cellAt i (by omega), List.getElem?_map, revD_get A j i hi]; rfl
      subst hu
      have HC := Lib.hid hcell
      clear hcell HZ HN HK E1 hd hend
      go_wp2_with (first | (at_make; refine wpList_make_full _ rfl _ _ 64 rfl (w.heap.size + 1) 5 i0 (.int .u8 0) 1 Try.underlying64 hi0 hz0 hz1 .i64 .i64 _ _ j rfl rfl rfl rfl (by rw [hz2]; omega) (by unfold maxLen; omega) (by omega) ?_; intro w5 hown5 hgrow5; (have HG := Lib.hid hgrow5); (have HO5 := Lib.hid hown5); clear hown5 hgrow5))
      have hgo : ∃ C : Array Value, w5.heap[wo.heap.size]? = some (.cells C 5 (0, 0)) ∧ C.size = j := by
        rcases HO5.out.2 with ⟨hz, _⟩ | ⟨g, cap2, cur, hv, _, hh, hc1, hc2, hsz, _⟩
        · exact absurd hz (by simp)
        · simp only [Value.slice.injEq, Option.some.injEq, Addr.mk.injEq, and_true, true_and] at hv
          obtain ⟨hv1, hv2⟩ := hv
          rw [← hv1] at hh
          exact ⟨cur, hh, by omega⟩
      have B5 : Below w.heap.size w w5 := Below.grown hB HG.out hB.size (fun k hk => by simp at hk)
      have C5 : ∀ i, i < j → w5.cell? ⟨gv, i, none⟩ = some (.int .u8 (dig A i)) := fun i hi => by
        rw [World.cell?_of_block (w := wo) (HG.out.block gv glt (by simp))]; exact HC.out i hi
      have HGO := Lib.hid hgo; have HC5 := Lib.hid C5
      have gle : gv ≠ wo.heap.size := Nat.ne_of_lt glt
      clear hgo C5
      go_loopw [37] (fun i wx => ∃ (k : Nat) (C : Array Value), k ≤ j ∧ i = .int .i64 k ∧ wx.heap[wo.heap.size]? = some (.cells C 5 (0, 0)) ∧ C.size = j ∧ (∀ x, x < k → C[j - 1 - x]? = some (.int .u8 (dig A x))) ∧ Below w.heap.size w wx ∧ (∀ x, x < j → wx.cell? ⟨gv, x, none⟩ = some (.int .u8 (dig A x)))) (fun i _ => j - (intOf i).toNat)
      case atStart =>
        obtain ⟨C, hC, hs⟩ := HGO.out
        exact ⟨0, C, by omega, rfl, hC, hs, fun x hx => by omega, B5, HC5.out⟩
      case round =>
        obtain ⟨k, C, hk, rfl, hC, hs, hx, hBx, hv⟩ := hrel
        have hfree := frozen_of_row _ wo.heap.size (j - 1 - k) C _ hC
        have HCC := Lib.hid hC; have HS := Lib.hid hs; have HX := Lib.hid hx; have HV := Lib.hid hv
        clear hC hs hx hv
        by_cases hlt : k < j
        · have hcv := HV.out k hlt
          obtain ⟨c, hc⟩ : ∃ c, wr.cell? ⟨wo.heap.size, j - 1 - k, none⟩ = some c := by
            rw [cell_of_row _ _ _ C _ _ HCC.out]
            exact ⟨_, Array.getElem?_eq_getElem (by have := HS.out; omega)⟩
          go_wp2
          go_roundw
          case rel =>
            refine ⟨k + 1, C.setIfInBounds (j - 1 - k) (.int .u8 (dig A k)), by omega, by go_num, heap_setCell_same _ _ _ _ _ _ HCC.out, by simpa using HS.out, ?_, ?_, ?_⟩
            · intro x hx
              by_cases e : x = k
              · subst e; rw [Array.getElem?_setIfInBounds_self_of_lt (by have := HS.out; omega)]
              · rw [Array.getElem?_setIfInBounds_ne (by omega)]; exact HX.out x (by omega)
            · exact hBx.setCell (show w.heap.size ≤ wo.heap.size from hB.size) _
            · intro x hx
              rw [World.cell?_of_block (w := wr) (heap_setCell_other _ _ _ _ (by simpa using gle))]
              exact HV.out x hx
          case measure => simp [intOf]; omega
        · obtain rfl : k = j := by omega
          have kc := run_convert_bytes_arg (P := Try.prog) wr 64 5 Try.underlying64 Try.underlying5 wo.heap.size 0 k k (revD A k).reverse (by simp [revD_length]) (fun i hi => by
            rw [Nat.zero_add, cell_of_row _ _ _ C _ _ HCC.out]
            have := HX.out (k - 1 - i) (by omega)
            rw [show k - 1 - (k - 1 - i) = i by omega] at this
            rw [this]
            have e : (revD A k).reverse.getD i 0 = dig A (k - 1 - i) := by
              rw [List.getD_eq_getElem?_getD, List.getElem?_reverse (by rw [revD_length]; exact hi), revD_length, revD_get A k _ (by omega)]; rfl
            rw [e]) 9 Try.underlying9
          go_wp2
          go_ret
          refine ⟨?_, hBx⟩
          show Ending.returned (.string _) = _
          unfold decS
          rw [if_neg h0, ← EN.out]
    · have hne : decide (a = 0) = false := decide_eq_false (HN.out hend)
      have DV : Hid (∀ W, Calls Try.prog 18 #[.agg #[.int .u64 0, .int .u64 0, .int .u64 0, .int .u64 0], U a, U 10] W fun e w' => e = .returned (.tuple #[U (a / 10), U (a % 10), .bool true]) ∧ Below W.heap.size W w') := by
        intro W
        have h := div_yes 0 a 10 W M_pos alt (by rw [M_eq]; omega) (by omega)
        rw [Nat.zero_mul, Nat.zero_add] at h
        rw [U0_eq]; exact h
      go_wp2
      clear hne E1 E2 hd c0 f0
      refine wp_region_inv' (by kernel_rfl) (fun a0 => TI a0 wr a) (by kernel_rfl) ?_ ?_ ?_
      · exact ⟨false, false, false, false, false, false, false, false, false, false, false, false, false, u4, u5, u6, u16, u17, u18, u19, u20, u21, u22, u23, 0, 0, by kernel_rfl, by kernel_rfl, Below.drew (Below.refl _ _), (by simp), (by simp), (by simp), (by simp), (by simp), (by simp), (by simp), (by simp), (by simp), (fun h => absurd h (by simp)), (by simp [ImpB]), (fun h => absurd h (by simp)), (by simp [ImpB]), (by simp [NeB])⟩
      · intro i hi L act w2
        rintro ⟨b0, b1, b2, b3, b4, b5, b6, b7, b8, b9, b10, b11, b12, v4, v5, v6, v16, v17, v18, v19, v20, v21, v22, v23, g8, g9, rfl, rfl, HBe, F0, F1, F2, F3, F4, F5, F6, F7, F12, V8, X8, V9, X9, N8_9⟩ hl hdeps
        rcases (by simp at hi; omega : i = 0 ∨ i = 1 ∨ i = 2 ∨ i = 3 ∨ i = 4 ∨ i = 5 ∨ i = 6 ∨ i = 7 ∨ i = 8 ∨ i = 9 ∨ i = 10 ∨ i = 11 ∨ i = 12) with rfl | rfl | rfl | rfl | rfl | rfl | rfl | rfl | rfl | rfl | rfl | rfl | rfl
        · clear hdeps
          refine wpOp_step (by rfl) rfl (fun K hK => ?_)
          simp only [Act.put, List.setIfInBounds_toArray, List.set_cons_zero, List.set_cons_succ]
          go_wp2
          exact ⟨true, b1, b2, b3, b4, b5, b6, b7, b8, b9, b10, b11, b12, v4, v5, v6, v16, _, v18, v19, v20, v21, v22, v23, g8, g9, by kernel_rfl, by kernel_rfl, HBe, (fun _ => rfl), F1, F2, F3, F4, F5, F6, F7, F12, V8, X8, V9, X9, N8_9⟩
        · clear hdeps
          have hc := (O.below HBe).cell
          refine wpOp_step (by rfl) rfl (fun K hK => ?_)
          simp only [Act.put, List.setIfInBounds_toArray, List.set_cons_zero, List.set_cons_succ]
          go_wp2
          exact ⟨b0, true, b2, b3, b4, b5, b6, b7, b8, b9, b10, b11, b12, v4, v5, v6, v16, v17, _, v19, v20, v21, v22, v23, g8, g9, by kernel_rfl, by kernel_rfl, HBe, F0, (fun _ => rfl), F2, F3, F4, F5, F6, F7, F12, V8, X8, V9, X9, N8_9⟩
        · clear hdeps
          refine wpOp_step (by rfl) rfl (fun K hK => ?_)
          simp only [Act.put, List.setIfInBounds_toArray, List.set_cons_zero, List.set_cons_succ]
          go_wp2_with fail
          refine (fromuint_any 10 _ w10).mono ?_; rintro e w3 ⟨rfl, hb3⟩
          go_wp2
          exact ⟨b0, b1, true, b3, b4, b5, b6, b7, b8, b9, b10, b11, b12, v4, v5, v6, v16, v17, v18, _, v20, v21, v22, v23, g8, g9, by kernel_rfl, by kernel_rfl, (HBe.trans (hb3.mono HBe.size)), F0, F1, (fun _ => rfl), F3, F4, F5, F6, F7, F12, (V8.below hb3), X8, (V9.below hb3), X9, N8_9⟩
        · rw [show depsOf _ 3 = [0, 1, 2, 2] from by kernel_rfl] at hdeps
          obtain rfl : b0 = true := hdeps 0 (by simp)
          obtain rfl : b1 = true := hdeps 1 (by simp)
          obtain rfl : b2 = true := hdeps 2 (by simp)
          clear hdeps
          obtain rfl := F0 rfl
          obtain rfl := F1 rfl
          obtain rfl := F2 rfl
          refine wpOp_step (by rfl) rfl (fun K hK => ?_)
          simp only [Act.put, List.setIfInBounds_toArray, List.set_cons_zero, List.set_cons_succ]
          go_wp2_with fail
          refine (DV.out _).mono ?_; rintro e w3 ⟨rfl, hb3⟩
          go_wp2
          exact ⟨true, true, true, true, b4, b5, b6, b7, b8, b9, b10, b11, b12, v4, v5, v6, v16, _, _, _, _, v21, v22, v23, g8, g9, by kernel_rfl, by kernel_rfl, (HBe.trans (hb3.mono HBe.size)), (fun _ => rfl), (fun _ => rfl), (fun _ => rfl), (fun _ => rfl), F4, F5, F6, F7, F12, (V8.below hb3), X8, (V9.below hb3), X9, N8_9⟩
        · rw [show depsOf _ 4 = [3] from by kernel_rfl] at hdeps
          obtain rfl : b3 = true := hdeps 3 (by simp)
          clear hdeps
          obtain rfl := F3 rfl
          refine wpOp_step (by rfl) rfl (fun K hK => ?_)
          simp only [Act.put, List.setIfInBounds_toArray, List.set_cons_zero, List.set_cons_succ]
          go_wp2
          exact ⟨b0, b1, b2, true, true, b5, b6, b7, b8, b9, b10, b11, b12, v4, v5, v6, _, v17, v18, v19, _, v21, v22, v23, g8, g9, by kernel_rfl, by kernel_rfl, HBe, F0, F1, F2, (fun _ => rfl), (fun _ => rfl), F5, F6, F7, F12, V8, X8, V9, X9, N8_9⟩
        · rw [show depsOf _ 5 = [4] from by kernel_rfl] at hdeps
          obtain rfl : b4 = true := hdeps 4 (by simp)
          clear hdeps
          obtain rfl := F4 rfl
          refine wpOp_step (by rfl) rfl (fun K hK => ?_)
          simp only [Act.put, List.setIfInBounds_toArray, List.set_cons_zero, List.set_cons_succ]
          go_wp2
          exact ⟨b0, b1, b2, b3, true, true, b6, b7, b8, b9, b10, b11, b12, v4, v5, v6, _, v17, v18, v19, v20, _, v22, v23, g8, g9, by kernel_rfl, by kernel_rfl, HBe, F0, F1, F2, F3, (fun _ => rfl), (fun _ => rfl), F6, F7, F12, V8, X8, V9, X9, N8_9⟩
        · rw [show depsOf _ 6 = [4] from by kernel_rfl] at hdeps
          obtain rfl : b4 = true := hdeps 4 (by simp)
          clear hdeps
          obtain rfl := F4 rfl
          refine wpOp_step (by rfl) rfl (fun K hK => ?_)
          simp only [Act.put, List.setIfInBounds_toArray, List.set_cons_zero, List.set_cons_succ]
          go_wp2
          exact ⟨b0, b1, b2, b3, true, b5, true, b7, b8, b9, b10, b11, b12, v4, v5, v6, _, v17, v18, v19, v20, v21, _, v23, g8, g9, by kernel_rfl, by kernel_rfl, HBe, F0, F1, F2, F3, (fun _ => rfl), F5, (fun _ => rfl), F7, F12, V8, X8, V9, X9, N8_9⟩
        · rw [show depsOf _ 7 = [4] from by kernel_rfl] at hdeps
          obtain rfl : b4 = true := hdeps 4 (by simp)
          clear hdeps
          obtain rfl := F4 rfl
          refine wpOp_step (by rfl) rfl (fun K hK => ?_)
          simp only [Act.put, List.setIfInBounds_toArray, List.set_cons_zero, List.set_cons_succ]
          go_wp2
          exact ⟨b0, b1, b2, b3, true, b5, b6, true, b8, b9, b10, b11, b12, v4, v5, v6, _, v17, v18, v19, v20, v21, v22, _, g8, g9, by kernel_rfl, by kernel_rfl, HBe, F0, F1, F2, F3, (fun _ => rfl), F5, F6, (fun _ => rfl), F12, V8, X8, V9, X9, N8_9⟩
        · clear hdeps
          refine wpOp_step (by rfl) rfl (fun K hK => ?_)
          simp only [Act.put, List.setIfInBounds_toArray, List.set_cons_zero, List.set_cons_succ]
          go_wp2
          exact ⟨b0, b1, b2, b3, b4, b5, b6, b7, true, b9, b10, b11, b12, _, v5, v6, v16, v17, v18, v19, v20, v21, v22, v23, _, g9, by kernel_rfl, by kernel_rfl, (HBe.alloc HBe.size _), F0, F1, F2, F3, F4, F5, F6, F7, F12, (VarI.new _ (by cases hx : b10 with | false => rfl | true => exact absurd (X8 hx) (by simpa using hl)) _ HBe.size), ImpB.rfl', (V9.past _), X9, (NeB.mk (fun _ h => Nat.ne_of_gt (V9.lt h)))⟩
        · clear hdeps
          refine wpOp_step (by rfl) rfl (fun K hK => ?_)
          simp only [Act.put, List.setIfInBounds_toArray, List.set_cons_zero, List.set_cons_succ]
          go_wp2
          exact ⟨b0, b1, b2, b3, b4, b5, b6, b7, b8, true, b10, b11, b12, v4, _, v6, v16, v17, v18, v19, v20, v21, v22, v23, g8, _, by kernel_rfl, by kernel_rfl, (HBe.alloc HBe.size _), F0, F1, F2, F3, F4, F5, F6, F7, F12, (V8.past _), X8, (VarI.new _ (by cases hx : b11 with | false => rfl | true => exact absurd (X9 hx) (by simpa using hl)) _ HBe.size), ImpB.rfl', (NeB.mk (fun h _ => Nat.ne_of_lt (V8.lt h)))⟩
        · rw [show depsOf _ 10 = [8, 5, 3, 0, 1, 2, 3, 4, 5, 8, 9] from by kernel_rfl] at hdeps
          obtain rfl : b0 = true := hdeps 0 (by simp)
          obtain rfl : b1 = true := hdeps 1 (by simp)
          obtain rfl : b2 = true := hdeps 2 (by simp)
          obtain rfl : b3 = true := hdeps 3 (by simp)
          obtain rfl : b4 = true := hdeps 4 (by simp)
          obtain rfl : b5 = true := hdeps 5 (by simp)
          obtain rfl : b8 = true := hdeps 8 (by simp)
          obtain rfl : b9 = true := hdeps 9 (by simp)
          clear hdeps
          obtain rfl := F0 rfl
          obtain rfl := F1 rfl
          obtain rfl := F2 rfl
          obtain rfl := F3 rfl
          obtain rfl := F4 rfl
          obtain rfl := F5 rfl
          obtain ⟨rfl, hg, c0, c1, c2, c3, O4, _⟩ := V8 rfl
          have hc := O4.cell; have hf := O4.free
          refine wpOp_step (by rfl) rfl (fun K hK => ?_)
          simp only [Act.put, List.setIfInBounds_toArray, List.set_cons_zero, List.set_cons_succ]
          go_wp2
          exact ⟨true, true, true, true, true, true, b6, b7, true, true, true, b11, b12, _, v5, v6, _, _, _, _, _, _, v22, v23, g8, g9, by kernel_rfl, by kernel_rfl, ((((HBe.setCell hg _).setCell hg _).setCell hg _).setCell hg _), (fun _ => rfl), (fun _ => rfl), (fun _ => rfl), (fun _ => rfl), (fun _ => rfl), (fun _ => rfl), F6, F7, F12, (V8.store' rfl _ _ _ _ rfl), ImpB.rfl', (V9.other (fun h => (N8_9 rfl h).symm) _ _ _ _), X9, N8_9⟩
        · rw [show depsOf _ 11 = [9, 6, 10, 0, 1, 2, 3, 4, 5, 6, 8, 9, 10] from by kernel_rfl] at hdeps
          obtain rfl : b0 = true := hdeps 0 (by simp)
          obtain rfl : b1 = true := hdeps 1 (by simp)
          obtain rfl : b2 = true := hdeps 2 (by simp)
          obtain rfl : b3 = true := hdeps 3 (by simp)
          obtain rfl : b4 = true := hdeps 4 (by simp)
          obtain rfl : b5 = true := hdeps 5 (by simp)
          obtain rfl : b6 = true := hdeps 6 (by simp)
          obtain rfl : b8 = true := hdeps 8 (by simp)
          obtain rfl : b9 = true := hdeps 9 (by simp)
          obtain rfl : b10 = true := hdeps 10 (by simp)
          clear hdeps
          obtain rfl := F0 rfl
          obtain rfl := F1 rfl
          obtain rfl := F2 rfl
          obtain rfl := F3 rfl
          obtain rfl := F4 rfl
          obtain rfl := F5 rfl
          obtain rfl := F6 rfl
          obtain ⟨rfl, hg, c0, c1, c2, c3, O4, _⟩ := V9 rfl
          have hc := O4.cell; have hf := O4.free
          refine wpOp_step (by rfl) rfl (fun K hK => ?_)
          simp only [Act.put, List.setIfInBounds_toArray, List.set_cons_zero, List.set_cons_succ]
          go_wp2
          exact ⟨true, true, true, true, true, true, true, b7, true, true, true, true, b12, v4, _, v6, _, _, _, _, _, _, _, v23, g8, g9, by kernel_rfl, by kernel_rfl, ((((HBe.setCell hg _).setCell hg _).setCell hg _).setCell hg _), (fun _ => rfl), (fun _ => rfl), (fun _ => rfl), (fun _ => rfl), (fun _ => rfl), (fun _ => rfl), (fun _ => rfl), F7, F12, (V8.other (fun h => N8_9 h rfl) _ _ _ _), X8, (V9.store' rfl _ _ _ _ rfl), ImpB.rfl', N8_9⟩
        · rw [show depsOf _ 12 = [7, 11, 0, 1, 2, 3, 4, 5, 6, 7, 8, 9, 10, 11] from by kernel_rfl] at hdeps
          obtain rfl : b0 = true := hdeps 0 (by simp)
          obtain rfl : b1 = true := hdeps 1 (by simp)
          obtain rfl : b2 = true := hdeps 2 (by simp)
          obtain rfl : b3 = true := hdeps 3 (by simp)
          obtain rfl : b4 = true := hdeps 4 (by simp)
          obtain rfl : b5 = true := hdeps 5 (by simp)
          obtain rfl : b6 = true := hdeps 6 (by simp)
          obtain rfl : b7 = true := hdeps 7 (by simp)
          obtain rfl : b8 = true := hdeps 8 (by simp)
          obtain rfl : b9 = true := hdeps 9 (by simp)
          obtain rfl : b10 = true := hdeps 10 (by simp)
          obtain rfl : b11 = true := hdeps 11 (by simp)
          clear hdeps
          obtain rfl := F0 rfl
          obtain rfl := F1 rfl
          obtain rfl := F2 rfl
          obtain rfl := F3 rfl
          obtain rfl := F4 rfl
          obtain rfl := F5 rfl
          obtain rfl := F6 rfl
          obtain rfl := F7 rfl
          refine wpOp_step (by rfl) rfl (fun K hK => ?_)
          simp only [Act.put, List.setIfInBounds_toArray, List.set_cons_zero, List.set_cons_succ]
          go_wp2
          exact ⟨true, true, true, true, true, true, true, true, true, true, true, true, true, v4, v5, _, _, _, _, _, _, _, _, _, g8, g9, by kernel_rfl, by kernel_rfl, HBe, (fun _ => rfl), (fun _ => rfl), (fun _ => rfl), (fun _ => rfl), (fun _ => rfl), (fun _ => rfl), (fun _ => rfl), (fun _ => rfl), (fun _ => rfl), V8, X8, V9, X9, N8_9⟩
      · rintro L act w2 ⟨b0, b1, b2, b3, b4, b5, b6, b7, b8, b9, b10, b11, b12, v4, v5, v6, v16, v17, v18, v19, v20, v21, v22, v23, g8, g9, rfl, rfl, HBe, F0, F1, F2, F3, F4, F5, F6, F7, F12, V8, X8, V9, X9, N8_9⟩ hall
        have d0 : b0 = true := hall 0 (by simp)
        have d1 : b1 = true := hall 1 (by simp)
        have d2 : b2 = true := hall 2 (by simp)
        have d3 : b3 = true := hall 3 (by simp)
        have d4 : b4 = true := hall 4 (by simp)
        have d5 : b5 = true := hall 5 (by simp)
        have d6 : b6 = true := hall 6 (by simp)
        have d7 : b7 = true := hall 7 (by simp)
        have d8 : b8 = true := hall 8 (by simp)
        have d9 : b9 = true := hall 9 (by simp)
        have d10 : b10 = true := hall 10 (by simp)
        have d11 : b11 = true := hall 11 (by simp)
        have d12 : b12 = true := hall 12 (by simp)
        clear hall
        obtain rfl := F0 d0
        obtain rfl := F1 d1
        obtain rfl := F2 d2
        obtain rfl := F3 d3
        obtain rfl := F4 d4
        obtain rfl := F5 d5
        obtain rfl := F6 d6
        obtain rfl := F7 d7
        obtain rfl := F12 d12
        obtain ⟨rfl, hg8, c8_0, c8_1, c8_2, c8_3, O8', hC8⟩ := V8 d8
        have OV8 : Own w2 g8 (cU (a / 10)) := by rw [← hC8 d10]; exact O8'
        obtain ⟨rfl, hg9, c9_0, c9_1, c9_2, c9_3, O9', hC9⟩ := V9 d9
        have OV9 : Own w2 g9 (cU (a % 10)) := by rw [← hC9 d11]; exact O9'
        clear d0 d1 d2 d3 d4 d5 d6 d7 d8 d9 d10 d11 d12 hC8 O8' hC9 O9' X8 X9
        simp only [Act.put, List.setIfInBounds_toArray, List.set_cons_zero, List.set_cons_succ]
        have R1 := ownsRow_below HOWN.out HBe
        have O1 := O.below HBe
        have B1 : Below w.heap.size w w2 := hB.trans (HBe.mono hB.size)
        have nb : ∀ k, u3.ownBlock = some k → w.heap.size + 1 ≤ k ∧ k < wr.heap.size := fun k hk => ownsRow_block HOWN.out hk
        have RH := Lib.hid R1; have NB := Lib.hid nb
        clear R1 nb
        have ne8 : u3.ownBlock ≠ some g8 := fun h => by have := NB.out g8 h; omega
        have ne9 : u3.ownBlock ≠ some w.heap.size := fun h => by have := NB.out _ h; omega
        have c9 := OV9.cell; have l9 := OV9.lt
        go_wp2_with (first | (at_builtin; refine wpList_append_own _ rfl _ _ 64 rfl (w.heap.size + 1) 5 i0 (.int .u8 0) 1 1 Try.underlying64 hi0 hz0 hz1 hz2 rfl (by decide) _ _ _ rfl (RH.out.alloc _) ⟨w2.heap.size, 0, none⟩ 1 1 [.int .u8 ((48 + wd (a % 10) 0) % 256)] rfl rfl (cell_one_new _ _ _) (by simp [Value.oneCell']) (by unfold maxLen; omega) (by omega) (by simp; have := B1.size; omega) ?_; intro v' w3 hown3 hgrow _; have Q8 := (OV8.past _).grown hgrow ne8; have Q1 := (O1.past _).grown hgrow ne9; have B3 : Below w.heap.size w w3 := Below.grown (B1.alloc B1.size _) hgrow (by simp; have := B1.size; omega) (fun k hk => by have := NB.out k hk; omega); rw [dig_of A j a EA.out] at hown3; have H3 := Lib.hid hown3; clear hown3; have c8 := Q8.cell; have c1 := Q1.cell; have f1 := Q1.free))
        go_roundg (gk - 1)
        case rel =>
          refine ⟨j + 1, a / 10, ?_, ?_, Q1.set4 _ _ _ _, ?_, ?_⟩
          · rw [EA.out, Nat.div_div_eq_div_mul, Nat.pow_succ]
          · have := HK.out; omega
          · rw [revD_succ, List.map_append]
            exact ownsRow_setCell_below (ownsRow_setCell_below (ownsRow_setCell_below (ownsRow_setCell_below H3.out (by simp) _) (by simp) _) (by simp) _) (by simp) _
          · (repeat' (first | (with_reducible exact Below.refl _ _) | (with_reducible assumption) | (with_reducible refine below_drewN ?_ _) | (with_reducible refine Below.drew ?_) | (with_reducible refine Below.setCell ?_ ?_ _) | (with_reducible refine Below.alloc ?_ ?_ _) | (with_reducible exact Nat.le_refl _) | omega | (simp; omega) | (simp; done)))
        case measure => omega

set_option maxHeartbeats 1000000 in
theorem text_zero (w : World) : Calls Try.prog 41 #[U 0] w fun e w' => e = .returned (.string (decS 0)) ∧ Below w.heap.size w w' := by
  have E1 := fun W => eqlU0 0 M_pos W
  have hd : decide ((0 : Nat) = 0) = true := rfl
  go_enter Try.func41, Try.ntmps41
  go_wp2
  go_ret
  refine ⟨rfl, ?_⟩
  (repeat' (first | (with_reducible exact Below.refl _ _) | (with_reducible assumption) | (with_reducible refine below_drewN ?_ _) | (with_reducible refine Below.drew ?_) | (with_reducible refine Below.setCell ?_ ?_ _) | (with_reducible refine Below.alloc ?_ ?_ _) | (with_reducible exact Nat.le_refl _) | omega | (simp; omega) | (simp; done)))
/-- The decimal text of a number. -/
theorem text_any (A : Nat) (w : World) (hA : A < M) : Calls Try.prog 41 #[U A] w fun e w' => e = .returned (.string (decS A)) ∧ Below w.heap.size w w' := by
  by_cases h : A = 0
  · subst h; exact text_zero w
  · exact text_pos A w hA h
end Go.Proofs.Ytlgjdejlnelndaa
