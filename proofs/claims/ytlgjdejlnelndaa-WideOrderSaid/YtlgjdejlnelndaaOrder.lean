/-
  The law WideOrder: the walk.
-/
import Derived.Test.YtlgjdejlnelndaaVarH
import Derived.Test.YtlgjdejlnelndaaSane
namespace Go.Proofs.Ytlgjdejlnelndaa
open Go Go.RowKit

/-- The first byte that differs decides. -/
theorem byt_first {A B k : Nat} (hA : A < M) (hB' : B < M) (hk : k < 32) (h : ∀ j, j < k → byt A j = byt B j) :
    (byt A k < byt B k → A < B) ∧ (byt B k < byt A k → B < A) := by
  have key : ∀ k, k ≤ 32 → (∀ j, j < k → byt A j = byt B j) → A / 256 ^ (32 - k) = B / 256 ^ (32 - k) := by
    intro k
    induction k with
    | zero =>
      intro _ _
      have e : (256 : Nat) ^ 32 = M := by rw [M_eq]
      rw [Nat.sub_zero, e, Nat.div_eq_of_lt hA, Nat.div_eq_of_lt hB']
    | succ k ih =>
      intro hk hj
      have h1 := ih (by omega) (fun j h => hj j (by omega))
      have h2 := hj k (by omega)
      unfold byt at h2
      have e1 : 32 - k = (31 - k) + 1 := by omega
      rw [e1, Nat.pow_succ, ← Nat.div_div_eq_div_mul, ← Nat.div_div_eq_div_mul] at h1
      rw [show 32 - (k + 1) = 31 - k by omega]
      omega
  have h1 := key k (by omega) h
  have e1 : 32 - k = (31 - k) + 1 := by omega
  rw [e1, Nat.pow_succ, ← Nat.div_div_eq_div_mul, ← Nat.div_div_eq_div_mul] at h1
  unfold byt
  refine ⟨fun hh => ?_, fun hh => ?_⟩
  · refine Nat.lt_of_not_le (fun hle => ?_)
    have := Nat.div_le_div_right (c := 256 ^ (31 - k)) hle
    omega
  · refine Nat.lt_of_not_le (fun hle => ?_)
    have := Nat.div_le_div_right (c := 256 ^ (31 - k)) hle
    omega

def OI (a0 : Act) (wr : World) (A B : Nat) (L : Array Bool) (act : Act) (w : World) : Prop :=
  ∃ (b0 b1 b2 b3 b4 b5 b6 b7 : Bool) (v5 v6 v11 v12 v13 v14 : Value) (g4 g5 : Nat),
    L = #[b0, b1, b2, b3, b4, b5, b6, b7] ∧
    act = ((((((a0.put (some 5) v5).put (some 6) v6).put (some 11) v11).put (some 12) v12).put (some 13) v13).put (some 14) v14) ∧
    Below wr.heap.size wr w ∧
    (b0 = true → v11 = U A) ∧
    (b1 = true → v12 = .agg (hB A)) ∧
    (b2 = true → v13 = U B) ∧
    (b3 = true → v14 = .agg (hB B)) ∧
    VarH wr w b4 b6 v5 g4 (hB A) ∧
    ImpB b6 b4 ∧
    VarH wr w b5 b7 v6 g5 (hB B) ∧
    ImpB b7 b5 ∧
    NeB b4 b5 g4 g5

set_option maxHeartbeats 2000000 in
theorem order_walk (A B : Nat) (w : World) (hA : A < M) (hB' : B < M) :
    Calls Try.prog 3 #[U A, U B] w fun e w' => e = .returned (.bool true) ∧ Below w.heap.size w w' := by
  obtain ⟨c, d, u, q, hcase, C1, C2, SB, E⟩ : ∃ (c d : Int) (u q : Bool), ((c = -1 ∧ d = 1 ∧ u = true ∧ q = false ∧ A < B) ∨ (c = 0 ∧ d = 0 ∧ u = false ∧ q = true ∧ A = B) ∨ (c = 1 ∧ d = -1 ∧ u = false ∧ q = false ∧ B < A)) ∧
      Hid (∀ W, Calls Try.prog 16 #[U A, U B] W fun e w' => e = .returned (.int .i64 c) ∧ Below W.heap.size W w') ∧
      Hid (∀ W, Calls Try.prog 16 #[U B, U A] W fun e w' => e = .returned (.int .i64 d) ∧ Below W.heap.size W w') ∧
      Hid (∀ W, Calls Try.prog 15 #[U A, U B] W fun e w' => e = .returned (.tuple #[U ((A + M - B) % M), .bool u]) ∧ Below W.heap.size W w') ∧
      (∀ W, (binOp .eql 24 (U A) (U B)).run Try.prog W = .ok (.bool q) W) := by
    refine ⟨cmpN A B, cmpN B A, decide (A < B), decide (A = B), ?_, fun W => cmp_any A B W hA hB', fun W => cmp_any B A W hB' hA, fun W => sub_any A B W hA hB', fun W => eqlU A B hA hB' W⟩
    rcases Nat.lt_trichotomy A B with h | h | h
    · exact Or.inl ⟨cmpN_lt h, cmpN_gt h, decide_eq_true h, decide_eq_false (by omega), h⟩
    · subst h; exact Or.inr (Or.inl ⟨cmpN_eq A, cmpN_eq A, decide_eq_false (by omega), decide_eq_true rfl, rfl⟩)
    · exact Or.inr (Or.inr ⟨cmpN_gt h, cmpN_lt h, decide_eq_false (by omega), decide_eq_false (by omega), h⟩)
  obtain ⟨df, edf⟩ : ∃ df, df = (A + M - B) % M := ⟨_, rfl⟩
  rw [← edf] at SB
  clear edf
  go_enter Try.func3, Try.ntmps3
  go_wp2
  generalize hwr : (w.alloc (.cells #[.int .u64 (wd A 0), .int .u64 (wd A 1), .int .u64 (wd A 2), .int .u64 (wd A 3)] 24)).alloc (.cells #[.int .u64 (wd B 0), .int .u64 (wd B 1), .int .u64 (wd B 2), .int .u64 (wd B 3)] 24) = wr
  have OA : Own wr w.heap.size (cU A) := by rw [← hwr]; exact hp_2_0 _ _ _
  have OB : Own wr (w.heap.size + 1) (cU B) := by rw [← hwr]; exact hp_2_1 _ _ _
  have BW : Below w.heap.size w wr := by rw [← hwr]; (repeat' (first | (with_reducible exact Below.refl _ _) | (with_reducible assumption) | (with_reducible refine below_drewN ?_ _) | (with_reducible refine Below.drew ?_) | (with_reducible refine Below.setCell ?_ ?_ _) | (with_reducible refine Below.alloc ?_ ?_ _) | (with_reducible exact Nat.le_refl _) | omega | (simp; omega) | (simp; done)))
  clear hwr
  refine wp_region_inv' (by kernel_rfl) (fun a0 => OI a0 wr A B) (by kernel_rfl) ?_ ?_ ?_
  · exact ⟨false, false, false, false, false, false, false, false, undef, undef, undef, undef, undef, undef, 0, 0, by kernel_rfl, by kernel_rfl, Below.drew (Below.refl _ _), (by simp), (by simp), (by simp), (by simp), (fun h => absurd h (by simp)), (by simp [ImpB]), (fun h => absurd h (by simp)), (by simp [ImpB]), (by simp [NeB])⟩
  · intro i hi L act w2
    rintro ⟨b0, b1, b2, b3, b4, b5, b6, b7, v5, v6, v11, v12, v13, v14, g4, g5, rfl, rfl, HBe, F0, F1, F2, F3, V4, X4, V5, X5, N4_5⟩ hl hdeps
    rcases (by simp at hi; omega : i = 0 ∨ i = 1 ∨ i = 2 ∨ i = 3 ∨ i = 4 ∨ i = 5 ∨ i = 6 ∨ i = 7) with rfl | rfl | rfl | rfl | rfl | rfl | rfl | rfl
    · clear hdeps
      have hc := (OA.below HBe).cell
      refine wpOp_step (by rfl) rfl (fun K hK => ?_)
      simp only [Act.put, List.setIfInBounds_toArray, List.set_cons_zero, List.set_cons_succ]
      go_wp2
      exact ⟨true, b1, b2, b3, b4, b5, b6, b7, v5, v6, _, v12, v13, v14, g4, g5, by kernel_rfl, by kernel_rfl, HBe, (fun _ => rfl), F1, F2, F3, V4, X4, V5, X5, N4_5⟩
    · rw [show depsOf _ 1 = [0] from by kernel_rfl] at hdeps
      obtain rfl : b0 = true := hdeps 0 (by simp)
      clear hdeps
      obtain rfl := F0 rfl
      refine wpOp_step (by rfl) rfl (fun K hK => ?_)
      simp only [Act.put, List.setIfInBounds_toArray, List.set_cons_zero, List.set_cons_succ]
      go_wp2_with fail
      refine (bytes_any A _).mono ?_; rintro e w3 ⟨rfl, hb3⟩
      go_wp2
      exact ⟨true, true, b2, b3, b4, b5, b6, b7, v5, v6, _, _, v13, v14, g4, g5, by kernel_rfl, by kernel_rfl, (HBe.trans (hb3.mono HBe.size)), (fun _ => rfl), (fun _ => rfl), F2, F3, (V4.below hb3), X4, (V5.below hb3), X5, N4_5⟩
    · clear hdeps
      have hc := (OB.below HBe).cell
      refine wpOp_step (by rfl) rfl (fun K hK => ?_)
      simp only [Act.put, List.setIfInBounds_toArray, List.set_cons_zero, List.set_cons_succ]
      go_wp2
      exact ⟨b0, b1, true, b3, b4, b5, b6, b7, v5, v6, v11, v12, _, v14, g4, g5, by kernel_rfl, by kernel_rfl, HBe, F0, F1, (fun _ => rfl), F3, V4, X4, V5, X5, N4_5⟩
    · rw [show depsOf _ 3 = [2, 1] from by kernel_rfl] at hdeps
      obtain rfl : b1 = true := hdeps 1 (by simp)
      obtain rfl : b2 = true := hdeps 2 (by simp)
      clear hdeps
      obtain rfl := F1 rfl
      obtain rfl := F2 rfl
      refine wpOp_step (by rfl) rfl (fun K hK => ?_)
      simp only [Act.put, List.setIfInBounds_toArray, List.set_cons_zero, List.set_cons_succ]
      go_wp2_with fail
      refine (bytes_any B _).mono ?_; rintro e w3 ⟨rfl, hb3⟩
      go_wp2
      exact ⟨b0, true, true, true, b4, b5, b6, b7, v5, v6, v11, _, _, _, g4, g5, by kernel_rfl, by kernel_rfl, (HBe.trans (hb3.mono HBe.size)), F0, (fun _ => rfl), (fun _ => rfl), (fun _ => rfl), (V4.below hb3), X4, (V5.below hb3), X5, N4_5⟩
    · clear hdeps
      refine wpOp_step (by rfl) rfl (fun K hK => ?_)
      simp only [Act.put, List.setIfInBounds_toArray, List.set_cons_zero, List.set_cons_succ]
      go_wp2
      exact ⟨b0, b1, b2, b3, true, b5, b6, b7, _, v6, v11, v12, v13, v14, _, g5, by kernel_rfl, by kernel_rfl, (HBe.alloc HBe.size _), F0, F1, F2, F3, (VarH.new _ (by cases hx : b6 with | false => rfl | true => exact absurd (X4 hx) (by simpa using hl)) _ HBe.size), ImpB.rfl', (V5.past _), X5, (NeB.mk (fun _ h => Nat.ne_of_gt (V5.lt h)))⟩
    · clear hdeps
      refine wpOp_step (by rfl) rfl (fun K hK => ?_)
      simp only [Act.put, List.setIfInBounds_toArray, List.set_cons_zero, List.set_cons_succ]
      go_wp2
      exact ⟨b0, b1, b2, b3, b4, true, b6, b7, v5, _, v11, v12, v13, v14, g4, _, by kernel_rfl, by kernel_rfl, (HBe.alloc HBe.size _), F0, F1, F2, F3, (V4.past _), X4, (VarH.new _ (by cases hx : b7 with | false => rfl | true => exact absurd (X5 hx) (by simpa using hl)) _ HBe.size), ImpB.rfl', (NeB.mk (fun h _ => Nat.ne_of_lt (V4.lt h)))⟩
    · rw [show depsOf _ 6 = [4, 1, 3, 0, 1, 4, 5] from by kernel_rfl] at hdeps
      obtain rfl : b0 = true := hdeps 0 (by simp)
      obtain rfl : b1 = true := hdeps 1 (by simp)
      obtain rfl : b3 = true := hdeps 3 (by simp)
      obtain rfl : b4 = true := hdeps 4 (by simp)
      obtain rfl : b5 = true := hdeps 5 (by simp)
      clear hdeps
      obtain rfl := F0 rfl
      obtain rfl := F1 rfl
      obtain rfl := F3 rfl
      obtain ⟨rfl, hg, C0, hs0, O4, _⟩ := V4 rfl
      refine wpOp_step (by rfl) rfl (fun K hK => ?_)
      simp only [Act.put, List.setIfInBounds_toArray, List.set_cons_zero, List.set_cons_succ]
      refine wp_store_row 26 _ _ rfl _ (hB A) rfl rfl 26 C0 O4 (size_hash (hB_size _)) (hs0.trans (hB_size _).symm) (hB_one _) (hK _ _ ?_)
      exact ⟨true, true, b2, true, true, true, true, b7, _, v6, _, _, v13, _, g4, g5, by kernel_rfl, by kernel_rfl, (below_setRow HBe hg _), (fun _ => rfl), (fun _ => rfl), F2, (fun _ => rfl), (V4.store rfl), ImpB.rfl', (V5.other (fun h => (N4_5 rfl h).symm) _), X5, N4_5⟩
    · rw [show depsOf _ 7 = [5, 3, 6, 0, 1, 2, 3, 4, 5, 6] from by kernel_rfl] at hdeps
      obtain rfl : b0 = true := hdeps 0 (by simp)
      obtain rfl : b1 = true := hdeps 1 (by simp)
      obtain rfl : b2 = true := hdeps 2 (by simp)
      obtain rfl : b3 = true := hdeps 3 (by simp)
      obtain rfl : b4 = true := hdeps 4 (by simp)
      obtain rfl : b5 = true := hdeps 5 (by simp)
      obtain rfl : b6 = true := hdeps 6 (by simp)
      clear hdeps
      obtain rfl := F0 rfl
      obtain rfl := F1 rfl
      obtain rfl := F2 rfl
      obtain rfl := F3 rfl
      obtain ⟨rfl, hg, C0, hs0, O4, _⟩ := V5 rfl
      refine wpOp_step (by rfl) rfl (fun K hK => ?_)
      simp only [Act.put, List.setIfInBounds_toArray, List.set_cons_zero, List.set_cons_succ]
      refine wp_store_row 26 _ _ rfl _ (hB B) rfl rfl 26 C0 O4 (size_hash (hB_size _)) (hs0.trans (hB_size _).symm) (hB_one _) (hK _ _ ?_)
      exact ⟨true, true, true, true, true, true, true, true, v5, _, _, _, _, _, g4, g5, by kernel_rfl, by kernel_rfl, (below_setRow HBe hg _), (fun _ => rfl), (fun _ => rfl), (fun _ => rfl), (fun _ => rfl), (V4.other (fun h => N4_5 h rfl) _), X4, (V5.store rfl), ImpB.rfl', N4_5⟩
  · rintro L act w2 ⟨b0, b1, b2, b3, b4, b5, b6, b7, v5, v6, v11, v12, v13, v14, g4, g5, rfl, rfl, HBe, F0, F1, F2, F3, V4, X4, V5, X5, N4_5⟩ hall
    have d0 : b0 = true := hall 0 (by simp)
    have d1 : b1 = true := hall 1 (by simp)
    have d2 : b2 = true := hall 2 (by simp)
    have d3 : b3 = true := hall 3 (by simp)
    have d4 : b4 = true := hall 4 (by simp)
    have d5 : b5 = true := hall 5 (by simp)
    have d6 : b6 = true := hall 6 (by simp)
    have d7 : b7 = true := hall 7 (by simp)
    clear hall
    obtain rfl := F0 d0
    obtain rfl := F1 d1
    obtain rfl := F2 d2
    obtain rfl := F3 d3
    obtain ⟨rfl, hg4, C4_0, _, O4', hC4⟩ := V4 d4
    have OV4 : OwnH w2 g4 (hB A) := by rw [← hC4 d6]; exact O4'
    obtain ⟨rfl, hg5, C5_0, _, O5', hC5⟩ := V5 d5
    have OV5 : OwnH w2 g5 (hB B) := by rw [← hC5 d7]; exact O5'
    clear d0 d1 d2 d3 d4 d5 d6 d7 hC4 O4' hC5 O5' X4 X5
    simp only [Act.put, List.setIfInBounds_toArray, List.set_cons_zero, List.set_cons_succ]
    have QA := OA.below HBe; have QB := OB.below HBe
    have B2 : Below w.heap.size w w2 := BW.trans (HBe.mono BW.size)
    have hs2 := HBe.size
    have c0 := QA.cell; have c1 := QB.cell
    clear HBe N4_5
    rcases hcase with ⟨rfl, rfl, rfl, rfl, hlt⟩ | ⟨rfl, rfl, rfl, rfl, hlt⟩ | ⟨rfl, rfl, rfl, rfl, hlt⟩
    all_goals
      have HLT := Lib.hid hlt
      clear hlt
      go_wp2_with fail
      refine (SB.out _).mono ?_; rintro e w3 ⟨rfl, hb3⟩
      have QA3 := QA.below hb3; have QB3 := QB.below hb3; have OV4b := OV4.below hb3; have OV5b := OV5.below hb3
      have B3 := B2.trans (hb3.mono B2.size)
      clear c0 c1 hb3
      have c0 := QA3.cell; have c1 := QB3.cell; have l0 := QA3.lt; have l1 := QB3.lt
      go_wp2_with fail
      refine (C1.out _).mono ?_; rintro e w4 ⟨rfl, hb4⟩
      have QA4 := (QA3.past _).below hb4; have QB4 := (QB3.past _).below hb4; have OV4c := (OV4b.past _).below hb4; have OV5c := (OV5b.past _).below hb4
      have B4 : Below w.heap.size w w4 := (B3.alloc B3.size _).trans (hb4.mono (by simp; have := B3.size; omega))
      clear c0 c1 hb4 l0 l1 QA3 QB3 OV4b OV5b
      have c0 := QA4.cell; have c1 := QB4.cell
      go_wp2_with fail
      refine (sane_any _).mono ?_; rintro e w5 ⟨rfl, hb5⟩
      have QA5 := QA4.below hb5; have QB5 := QB4.below hb5; have OV4d := OV4c.below hb5; have OV5d := OV5c.below hb5
      have B5 := B4.trans (hb5.mono B4.size)
      clear c0 c1 hb5 QA4 QB4 OV4c OV5c
      have c0 := QA5.cell; have c1 := QB5.cell
      go_wp2_with fail
      refine (C2.out _).mono ?_; rintro e w6 ⟨rfl, hb6⟩
      have QA6 := QA5.below hb6; have QB6 := QB5.below hb6; have OV4e := OV4d.below hb6; have OV5e := OV5d.below hb6
      have B6 := B5.trans (hb6.mono B5.size)
      clear c0 c1 hb6 QA5 QB5 OV4d OV5d
      have c0 := QA6.cell; have c1 := QB6.cell
      go_wp2
      go_loopw [48] (fun i wx => ∃ k n : Nat, k ≤ 32 ∧ i = .int .i64 k ∧ (∀ j, j < k → byt A j = byt B j) ∧ wx = w6.drewN n) (fun i _ => 32 - (intOf i).toNat)
      case atStart => exact ⟨0, 0, by omega, rfl, fun j hj => by omega, rfl⟩
      case round =>
        obtain ⟨k, n, hk, rfl, hj, rfl⟩ := hrel
        have HJ := Lib.hid hj
        clear hj c0 c1
        by_cases hk32 : k < 32
        · have ca := (OV4e.cell k).trans (hB_get A k hk32)
          have cb := (OV5e.cell k).trans (hB_get B k hk32)
          have hk0 : (0 : Int) ≤ (k : Int) := by omega
          have hk1 : (k : Int) < 32 := by omega
          obtain ⟨f1, f2⟩ := byt_first hA hB' hk32 HJ.out
          have hh := HLT.out
          by_cases he : byt A k = byt B k
          · have hne : (byt A k != byt B k) = false := by rw [he]; simp
            have HE := Lib.hid he
            clear he f1 f2 hh
            go_wp2
            go_quiet (fail)
            go_wp2
            go_roundw
            case rel =>
              refine ⟨k + 1, _, by omega, by go_num, fun j h => ?_, rfl⟩
              by_cases e : j = k
              · rw [e]; exact HE.out
              · exact HJ.out j (by omega)
            case measure => simp [intOf]; omega
          · have hne : (byt A k != byt B k) = true := by simpa using he
            rcases (by omega : byt A k < byt B k ∨ byt B k < byt A k) with hb | hb
            · have hd : decide (byt A k < byt B k) = true := decide_eq_true hb
              have hab := f1 hb
              first
                | (exfalso; omega)
                | (clear he f1 f2 hh hab
                   go_wp2
                   go_quiet (fail)
                   go_wp2
                   go_quiet (fail)
                   go_wp2
                   go_ret
                   refine ⟨rfl, ?_⟩
                   (repeat' (first | (with_reducible exact Below.refl _ _) | (with_reducible assumption) | (with_reducible refine below_drewN ?_ _) | (with_reducible refine Below.drew ?_) | (with_reducible refine Below.setCell ?_ ?_ _) | (with_reducible refine Below.alloc ?_ ?_ _) | (with_reducible exact Nat.le_refl _) | omega | (simp; omega) | (simp; done))))
            · have hd : decide (byt A k < byt B k) = false := decide_eq_false (by omega)
              have hab := f2 hb
              first
                | (exfalso; omega)
                | (clear he f1 f2 hh hab
                   go_wp2
                   go_quiet (fail)
                   go_wp2
                   go_quiet (fail)
                   go_wp2
                   go_ret
                   refine ⟨rfl, ?_⟩
                   (repeat' (first | (with_reducible exact Below.refl _ _) | (with_reducible assumption) | (with_reducible refine below_drewN ?_ _) | (with_reducible refine Below.drew ?_) | (with_reducible refine Below.setCell ?_ ?_ _) | (with_reducible refine Below.alloc ?_ ?_ _) | (with_reducible exact Nat.le_refl _) | omega | (simp; omega) | (simp; done))))
        · obtain rfl : k = 32 := by omega
          have heq : A = B := (byt_inj hA hB').1 HJ.out
          first
            | (exfalso; have := HLT.out; omega)
            | (clear heq; go_wp2; go_ret; exact ⟨rfl, below_drewN B6 _⟩)
end Go.Proofs.Ytlgjdejlnelndaa
