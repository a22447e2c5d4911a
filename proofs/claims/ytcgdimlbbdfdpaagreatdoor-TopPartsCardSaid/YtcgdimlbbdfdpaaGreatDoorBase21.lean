/-
  What this statement needs, part 21: the texts of it, one behind the other.
-/
import Derived.Test.YtcgdimlbbdfdpaaGreatDoorBase20
set_option maxRecDepth 100000
set_option linter.all false
namespace Go.Proofs.YtcgdimlbbdfdpaaGreatDoor
open Go Go.RowKit
structure Cns (x : Nat → CV) (y : Nat → HO) (n : Nat) : Prop where
  len : gK (x 10) = n
  le : n ≤ (lT (y 66)).length
  lo : 1 ≤ n
  hi : n ≤ 1000000
theorem at1_eq {x : Nat → CV} {a : Nat} (h : at_ x = (a : Int)) (ha : a ≤ 1000000) : at1 x = ((a + 1 : Nat) : Int) := by
  unfold at1 eX
  rw [h]
  have e : (a : Int) + 1 = Int.ofNat (a + 1) := rfl
  rw [e, bZ, iW (by omega)]
  rfl
theorem le2_ok {l : List aJ} {n : Nat} (h1 : n ≤ l.length) (h2 : n ≤ 1048576) : le2 l n = true := by
  unfold le2
  rw [decide_eq_true (by omega), decide_eq_true h2]; rfl
theorem cd_ok {b : Bool} {x : Nat → CV} {y : Nat → HO} {n a : Nat} (hc : Cns x y n) (h : at_ x = (a : Int)) (ha : a < n) : ∃ t, cd_ b x y t = ds_ b t ∧ m_ x y t + b.toNat + 1 = n + b.toNat ∧ (nw_ b x y t).length = m_ x y t + b.toNat + 1 := by
  obtain ⟨h1, h2, h3, h4⟩ := hc
  have e1 := at1_eq h (by omega)
  have en : n_ x = n := h1
  have ecs : (cs_ y).length = (lT (y 66)).length := rfl
  have tn : (at_ x).toNat = a := by rw [h]; rfl
  have tn1 : (at1 x).toNat = a + 1 := by rw [e1]; rfl
  have ltl : (tl_ x y).length = n - (a + 1) := by
    unfold tl_
    rw [tn1, en, List.length_take, List.length_drop]; omega
  have lhd : (hd_ x y).length = a := by
    unfold hd_
    rw [tn, List.length_take, List.length_drop]; omega
  have c5 : xsB (n_ x) none (some (at_ x)) (some (at_ x)) = true := by
    unfold xsB
    simp only [Option.getD_some, Option.getD_none, Bool.and_eq_true, decide_eq_true_eq]
    rw [en, h]; omega
  have c6 : xsB (n_ x) (some (at1 x)) none none = true := by rw [en, e1]; exact xsB_lo (by omega) (by omega)
  have c7 : (decide (0 + (at1 x).toNat + (n_ x - (at1 x).toNat) ≤ (cs_ y).length) && decide ((tl_ x y).length ≤ 1048576)) = true := by
    rw [decide_eq_true (by omega), decide_eq_true (by omega)]; rfl
  have c8 : le2 (cs_ y) (at_ x).toNat = true := le2_ok (by omega) (by omega)
  have hm : ∀ t, t = decide (0 < (tl_ x y).length) → m_ x y t = n - 1 ∧ n - 1 ≤ (rw_ x y t).length := fun t ht => by
    cases t with
    | true =>
      have := of_decide_eq_true ht.symm
      unfold m_ rw_
      simp only [List.length_append]
      omega
    | false =>
      have := of_decide_eq_false ht.symm
      unfold m_ rw_
      simp only
      omega
  refine ⟨decide (0 < (tl_ x y).length), ?_, ?_, ?_⟩
  · obtain ⟨k1, k2⟩ := hm _ rfl
    generalize ht : decide (0 < (tl_ x y).length) = t at k1 k2
    have c9 : le2 (rw_ x y t) (m_ x y t) = true := le2_ok (by omega) (by omega)
    have c10 : le2 ((rw_ x y t).take (m_ x y t) ++ [cn_ b y 0]) (m_ x y t + 1) = true := le2_ok (by rw [List.length_append, List.length_take, List.length_singleton]; omega) (by omega)
    unfold cd_ ds_
    rw [c5, c6, c7, c8, ht]
    cases t <;> cases b <;> simp [c9, c10]
  · have := (hm _ rfl).1
    omega
  · obtain ⟨k1, k2⟩ := hm _ rfl
    generalize decide (0 < (tl_ x y).length) = t at k1 k2 ⊢
    unfold nw_
    cases b
    · simp only [List.length_append, List.length_take, List.length_singleton, Bool.toNat_false]; omega
    · simp only [List.length_append, List.length_take, List.length_singleton, Bool.toNat_true]; omega
def Way {β : Type} (r : R (Ex × aP)) (ds cs : List Bool) (e : Ex) (T : SjT) (f : aP → β) (v : β) : Prop := R.okp ds r = true ∧ R.cds ds r = cs ∧ (R.lfp (.nrm, dW) ds r).1 = e ∧ iR [] T (R.lfp (.nrm, dW) ds r).2 = true ∧ f (R.lfp (.nrm, dW) ds r).2 = v
theorem Way.ok {β : Type} {CT : bQ} {N : Nat} {c : Code} {s : aP} {ds cs : List Bool} {e : Ex} {T : SjT} {f : aP → β} {v : β} (h : Way (iJ CT N c s) ds cs e T f v) (hc : (dB Tryz.prog N c).isSome = true) (hd : cs = ds) : ∃ s', iC CT N aH c s e s' ∧ iR [] T s' = true ∧ f s' = v := by
  obtain ⟨h1, h2, h3, h4, h5⟩ := h
  exact ⟨_, .run hc (R.val_pe _ h1 (h2.trans hd) h3), h4, h5⟩
section
variable (s : List Bool) (x : Nat → CV) (y : Nat → HO)
noncomputable def r9 : R (Ex × aP) := iJ wJ 113 (kA trB) (y5 (trI s) x y)
noncomputable def r10 : R (Ex × aP) := iJ wJ 113 (kC (kC trB)) (y5 (trI s) x y)
noncomputable def r11 : R (Ex × aP) := iJ wJ 113 (kA trF) (y5 (trI s) x y)
noncomputable def r5 : R (Ex × aP) := iJ wJ 113 (kA trO) (y5 (trT s) x y)
noncomputable def r6 : R (Ex × aP) := iJ wJ 113 (kC (kC trO)) (y5 (trT s) x y)
end
def atZ (x : Nat → CV) : Int := qE .i64 (eX .i64 (eX .i64 (dP .i64 (gQuo .u8 (aS (x 2)) 4)) (dP .i64 (aS (x 11)))) (aS (x 13))) (aS (x 12))
theorem w9 : ∀ (s : List Bool), s.length ≤ 2 → ∀ (x : Nat → CV) (y : Nat → HO), Way (r9 s x y) [true] [decide (aS (x 13) < aS (x 12))] .nrm (trI s) (fun s' => trK [] s') (trV x y) ∧ Way (r9 s x y) [false] [decide (aS (x 13) < aS (x 12))] (.exit 2) (trT s) (fun s' => ((gK (fU s' 10), lT (fC [] s' 66)), aS (fU s' 11))) (((gK (x 10), lT (y 66)), aS (x 11)))
  | [], _, x, y => ⟨⟨by kernel_rfl, by kernel_rfl, by kernel_rfl, by kernel_rfl, by kernel_rfl⟩, ⟨by kernel_rfl, by kernel_rfl, by kernel_rfl, by kernel_rfl, by kernel_rfl⟩⟩
  | [true], _, x, y => ⟨⟨by kernel_rfl, by kernel_rfl, by kernel_rfl, by kernel_rfl, by kernel_rfl⟩, ⟨by kernel_rfl, by kernel_rfl, by kernel_rfl, by kernel_rfl, by kernel_rfl⟩⟩
  | [false], _, x, y => ⟨⟨by kernel_rfl, by kernel_rfl, by kernel_rfl, by kernel_rfl, by kernel_rfl⟩, ⟨by kernel_rfl, by kernel_rfl, by kernel_rfl, by kernel_rfl, by kernel_rfl⟩⟩
  | [true, true], _, x, y => ⟨⟨by kernel_rfl, by kernel_rfl, by kernel_rfl, by kernel_rfl, by kernel_rfl⟩, ⟨by kernel_rfl, by kernel_rfl, by kernel_rfl, by kernel_rfl, by kernel_rfl⟩⟩
  | [true, false], _, x, y => ⟨⟨by kernel_rfl, by kernel_rfl, by kernel_rfl, by kernel_rfl, by kernel_rfl⟩, ⟨by kernel_rfl, by kernel_rfl, by kernel_rfl, by kernel_rfl, by kernel_rfl⟩⟩
  | [false, true], _, x, y => ⟨⟨by kernel_rfl, by kernel_rfl, by kernel_rfl, by kernel_rfl, by kernel_rfl⟩, ⟨by kernel_rfl, by kernel_rfl, by kernel_rfl, by kernel_rfl, by kernel_rfl⟩⟩
  | [false, false], _, x, y => ⟨⟨by kernel_rfl, by kernel_rfl, by kernel_rfl, by kernel_rfl, by kernel_rfl⟩, ⟨by kernel_rfl, by kernel_rfl, by kernel_rfl, by kernel_rfl, by kernel_rfl⟩⟩
  | _ :: _ :: _ :: _, h, _, _ => absurd h (by simp)
theorem w10 : ∀ (s : List Bool), s.length ≤ 2 → ∀ (x : Nat → CV) (y : Nat → HO), Way (r10 s x y) [] [] .nrm (trI s) (fun s' => trK [] s') (((gK (x 10), lT (y 66)), aS (x 11), aS (x 12), eX .i64 (aS (x 13)) 1))
  | [], _, x, y => ⟨by kernel_rfl, by kernel_rfl, by kernel_rfl, by kernel_rfl, by kernel_rfl⟩
  | [true], _, x, y => ⟨by kernel_rfl, by kernel_rfl, by kernel_rfl, by kernel_rfl, by kernel_rfl⟩
  | [false], _, x, y => ⟨by kernel_rfl, by kernel_rfl, by kernel_rfl, by kernel_rfl, by kernel_rfl⟩
  | [true, true], _, x, y => ⟨by kernel_rfl, by kernel_rfl, by kernel_rfl, by kernel_rfl, by kernel_rfl⟩
  | [true, false], _, x, y => ⟨by kernel_rfl, by kernel_rfl, by kernel_rfl, by kernel_rfl, by kernel_rfl⟩
  | [false, true], _, x, y => ⟨by kernel_rfl, by kernel_rfl, by kernel_rfl, by kernel_rfl, by kernel_rfl⟩
  | [false, false], _, x, y => ⟨by kernel_rfl, by kernel_rfl, by kernel_rfl, by kernel_rfl, by kernel_rfl⟩
  | _ :: _ :: _ :: _, h, _, _ => absurd h (by simp)
theorem w11 : ∀ (s : List Bool), s.length ≤ 2 → ∀ (x : Nat → CV) (y : Nat → HO), Way (r11 s x y) [true] [decide (aS (x 12) ≠ 0)] .nrm (trA s) (fun s' => (trK [] s', aS (fU s' 14))) ((trV x y, atZ x))
  | [], _, x, y => ⟨by kernel_rfl, by kernel_rfl, by kernel_rfl, by kernel_rfl, by kernel_rfl⟩
  | [true], _, x, y => ⟨by kernel_rfl, by kernel_rfl, by kernel_rfl, by kernel_rfl, by kernel_rfl⟩
  | [false], _, x, y => ⟨by kernel_rfl, by kernel_rfl, by kernel_rfl, by kernel_rfl, by kernel_rfl⟩
  | [true, true], _, x, y => ⟨by kernel_rfl, by kernel_rfl, by kernel_rfl, by kernel_rfl, by kernel_rfl⟩
  | [true, false], _, x, y => ⟨by kernel_rfl, by kernel_rfl, by kernel_rfl, by kernel_rfl, by kernel_rfl⟩
  | [false, true], _, x, y => ⟨by kernel_rfl, by kernel_rfl, by kernel_rfl, by kernel_rfl, by kernel_rfl⟩
  | [false, false], _, x, y => ⟨by kernel_rfl, by kernel_rfl, by kernel_rfl, by kernel_rfl, by kernel_rfl⟩
  | _ :: _ :: _ :: _, h, _, _ => absurd h (by simp)
theorem w5 : ∀ (s : List Bool), s.length ≤ 3 → ∀ (x : Nat → CV) (y : Nat → HO), Way (r5 s x y) [true] [decide (aS (x 11) < qE .u8 (aS (x 2)) 4)] .nrm (trT s) (fun s' => ((gK (fU s' 10), lT (fC [] s' 66)), aS (fU s' 11))) (((gK (x 10), lT (y 66)), aS (x 11))) ∧ Way (r5 s x y) [false] [decide (aS (x 11) < qE .u8 (aS (x 2)) 4)] (.exit 0) (trT s) (fun _ => ()) ()
  | [], _, x, y => ⟨⟨by kernel_rfl, by kernel_rfl, by kernel_rfl, by kernel_rfl, by kernel_rfl⟩, ⟨by kernel_rfl, by kernel_rfl, by kernel_rfl, by kernel_rfl, rfl⟩⟩
  | [true], _, x, y => ⟨⟨by kernel_rfl, by kernel_rfl, by kernel_rfl, by kernel_rfl, by kernel_rfl⟩, ⟨by kernel_rfl, by kernel_rfl, by kernel_rfl, by kernel_rfl, rfl⟩⟩
  | [false], _, x, y => ⟨⟨by kernel_rfl, by kernel_rfl, by kernel_rfl, by kernel_rfl, by kernel_rfl⟩, ⟨by kernel_rfl, by kernel_rfl, by kernel_rfl, by kernel_rfl, rfl⟩⟩
  | [true, true], _, x, y => ⟨⟨by kernel_rfl, by kernel_rfl, by kernel_rfl, by kernel_rfl, by kernel_rfl⟩, ⟨by kernel_rfl, by kernel_rfl, by kernel_rfl, by kernel_rfl, rfl⟩⟩
  | [true, false], _, x, y => ⟨⟨by kernel_rfl, by kernel_rfl, by kernel_rfl, by kernel_rfl, by kernel_rfl⟩, ⟨by kernel_rfl, by kernel_rfl, by kernel_rfl, by kernel_rfl, rfl⟩⟩
  | [false, true], _, x, y => ⟨⟨by kernel_rfl, by kernel_rfl, by kernel_rfl, by kernel_rfl, by kernel_rfl⟩, ⟨by kernel_rfl, by kernel_rfl, by kernel_rfl, by kernel_rfl, rfl⟩⟩
  | [false, false], _, x, y => ⟨⟨by kernel_rfl, by kernel_rfl, by kernel_rfl, by kernel_rfl, by kernel_rfl⟩, ⟨by kernel_rfl, by kernel_rfl, by kernel_rfl, by kernel_rfl, rfl⟩⟩
  | [true, true, true], _, x, y => ⟨⟨by kernel_rfl, by kernel_rfl, by kernel_rfl, by kernel_rfl, by kernel_rfl⟩, ⟨by kernel_rfl, by kernel_rfl, by kernel_rfl, by kernel_rfl, rfl⟩⟩
  | [true, true, false], _, x, y => ⟨⟨by kernel_rfl, by kernel_rfl, by kernel_rfl, by kernel_rfl, by kernel_rfl⟩, ⟨by kernel_rfl, by kernel_rfl, by kernel_rfl, by kernel_rfl, rfl⟩⟩
  | [true, false, true], _, x, y => ⟨⟨by kernel_rfl, by kernel_rfl, by kernel_rfl, by kernel_rfl, by kernel_rfl⟩, ⟨by kernel_rfl, by kernel_rfl, by kernel_rfl, by kernel_rfl, rfl⟩⟩
  | [true, false, false], _, x, y => ⟨⟨by kernel_rfl, by kernel_rfl, by kernel_rfl, by kernel_rfl, by kernel_rfl⟩, ⟨by kernel_rfl, by kernel_rfl, by kernel_rfl, by kernel_rfl, rfl⟩⟩
  | [false, true, true], _, x, y => ⟨⟨by kernel_rfl, by kernel_rfl, by kernel_rfl, by kernel_rfl, by kernel_rfl⟩, ⟨by kernel_rfl, by kernel_rfl, by kernel_rfl, by kernel_rfl, rfl⟩⟩
  | [false, true, false], _, x, y => ⟨⟨by kernel_rfl, by kernel_rfl, by kernel_rfl, by kernel_rfl, by kernel_rfl⟩, ⟨by kernel_rfl, by kernel_rfl, by kernel_rfl, by kernel_rfl, rfl⟩⟩
  | [false, false, true], _, x, y => ⟨⟨by kernel_rfl, by kernel_rfl, by kernel_rfl, by kernel_rfl, by kernel_rfl⟩, ⟨by kernel_rfl, by kernel_rfl, by kernel_rfl, by kernel_rfl, rfl⟩⟩
  | [false, false, false], _, x, y => ⟨⟨by kernel_rfl, by kernel_rfl, by kernel_rfl, by kernel_rfl, by kernel_rfl⟩, ⟨by kernel_rfl, by kernel_rfl, by kernel_rfl, by kernel_rfl, rfl⟩⟩
  | _ :: _ :: _ :: _ :: _, h, _, _ => absurd h (by simp)
theorem w6 : ∀ (s : List Bool), s.length ≤ 3 → ∀ (x : Nat → CV) (y : Nat → HO), Way (r6 s x y) [] [] .nrm (trT s) (fun s' => ((gK (fU s' 10), lT (fC [] s' 66)), aS (fU s' 11))) (((gK (x 10), lT (y 66)), eX .u8 (aS (x 11)) 1))
  | [], _, x, y => ⟨by kernel_rfl, by kernel_rfl, by kernel_rfl, by kernel_rfl, by kernel_rfl⟩
  | [true], _, x, y => ⟨by kernel_rfl, by kernel_rfl, by kernel_rfl, by kernel_rfl, by kernel_rfl⟩
  | [false], _, x, y => ⟨by kernel_rfl, by kernel_rfl, by kernel_rfl, by kernel_rfl, by kernel_rfl⟩
  | [true, true], _, x, y => ⟨by kernel_rfl, by kernel_rfl, by kernel_rfl, by kernel_rfl, by kernel_rfl⟩
  | [true, false], _, x, y => ⟨by kernel_rfl, by kernel_rfl, by kernel_rfl, by kernel_rfl, by kernel_rfl⟩
  | [false, true], _, x, y => ⟨by kernel_rfl, by kernel_rfl, by kernel_rfl, by kernel_rfl, by kernel_rfl⟩
  | [false, false], _, x, y => ⟨by kernel_rfl, by kernel_rfl, by kernel_rfl, by kernel_rfl, by kernel_rfl⟩
  | [true, true, true], _, x, y => ⟨by kernel_rfl, by kernel_rfl, by kernel_rfl, by kernel_rfl, by kernel_rfl⟩
  | [true, true, false], _, x, y => ⟨by kernel_rfl, by kernel_rfl, by kernel_rfl, by kernel_rfl, by kernel_rfl⟩
  | [true, false, true], _, x, y => ⟨by kernel_rfl, by kernel_rfl, by kernel_rfl, by kernel_rfl, by kernel_rfl⟩
  | [true, false, false], _, x, y => ⟨by kernel_rfl, by kernel_rfl, by kernel_rfl, by kernel_rfl, by kernel_rfl⟩
  | [false, true, true], _, x, y => ⟨by kernel_rfl, by kernel_rfl, by kernel_rfl, by kernel_rfl, by kernel_rfl⟩
  | [false, true, false], _, x, y => ⟨by kernel_rfl, by kernel_rfl, by kernel_rfl, by kernel_rfl, by kernel_rfl⟩
  | [false, false, true], _, x, y => ⟨by kernel_rfl, by kernel_rfl, by kernel_rfl, by kernel_rfl, by kernel_rfl⟩
  | [false, false, false], _, x, y => ⟨by kernel_rfl, by kernel_rfl, by kernel_rfl, by kernel_rfl, by kernel_rfl⟩
  | _ :: _ :: _ :: _ :: _, h, _, _ => absurd h (by simp)
theorem w7 : ∀ (s : List Bool), s.length ≤ 2 → ∀ (x : Nat → CV) (y : Nat → HO), Way (iJ wJ 113 (.seq (kA trM) (kA (kC trM))) (y5 (trT s) x y)) [] [] .nrm (trI s) (fun s' => trK [] s') (((gK (x 10), lT (y 66)), aS (x 11), ((gK (x 10) : Nat) : Int), 0))
  | [], _, x, y => ⟨by kernel_rfl, by kernel_rfl, by kernel_rfl, by kernel_rfl, by kernel_rfl⟩
  | [true], _, x, y => ⟨by kernel_rfl, by kernel_rfl, by kernel_rfl, by kernel_rfl, by kernel_rfl⟩
  | [false], _, x, y => ⟨by kernel_rfl, by kernel_rfl, by kernel_rfl, by kernel_rfl, by kernel_rfl⟩
  | [true, true], _, x, y => ⟨by kernel_rfl, by kernel_rfl, by kernel_rfl, by kernel_rfl, by kernel_rfl⟩
  | [true, false], _, x, y => ⟨by kernel_rfl, by kernel_rfl, by kernel_rfl, by kernel_rfl, by kernel_rfl⟩
  | [false, true], _, x, y => ⟨by kernel_rfl, by kernel_rfl, by kernel_rfl, by kernel_rfl, by kernel_rfl⟩
  | [false, false], _, x, y => ⟨by kernel_rfl, by kernel_rfl, by kernel_rfl, by kernel_rfl, by kernel_rfl⟩
  | _ :: _ :: _ :: _, h, _, _ => absurd h (by simp)
theorem rn_seq2 {CT : bQ} {N : Nat} {a b : Code} {s s' : aP} {e : Ex} (hc : (dB Tryz.prog N (.seq a b)).isSome = true) (h : (iJ CT N (.seq a b) s).val = some (e, s')) : (e ≠ .nrm ∧ iC CT N aH a s e s') ∨ ∃ s1, iC CT N aH a s .nrm s1 ∧ iC CT N aH b s1 e s' := by
  cases hx : dB Tryz.prog N a with
  | none => rw [dB, hx] at hc; simp at hc
  | some x =>
    cases hy : dB Tryz.prog N b with
    | none => rw [dB, hx, hy] at hc; simp at hc
    | some y =>
      have e : dB Tryz.prog N (.seq a b) = some (.seq x y) := by rw [dB, hx, hy]
      unfold iJ at h
      rw [e] at h
      have h' : (seqR (kQ CT (kD Tryz.prog CT 20000 60) 20000 64 [] x) (kQ CT (kD Tryz.prog CT 20000 60) 20000 64 [] y) s).val = some (_, s') := h
      unfold seqR at h'
      obtain ⟨⟨e1, s1⟩, h1, h2⟩ := R.bind_some h'
      have go : iC CT N aH a s e1 s1 := .run (by rw [hx]; rfl) (by unfold iJ; rw [hx]; exact h1)
      cases e1 with
      | nrm => exact Or.inr ⟨s1, go, .run (by rw [hy]; rfl) (by unfold iJ; rw [hy]; exact h2)⟩
      | exit i =>
        simp only [R.val, Option.some.injEq, Prod.mk.injEq] at h2
        obtain ⟨rfl, rfl⟩ := h2
        exact Or.inl ⟨by simp, go⟩
      | ret =>
        simp only [R.val, Option.some.injEq, Prod.mk.injEq] at h2
        obtain ⟨rfl, rfl⟩ := h2
        exact Or.inl ⟨by simp, go⟩
theorem iC.assoc {CT : bQ} {N : Nat} {a b c : Code} {s s' s2 : aP} {e : Ex} (hc : (dB Tryz.prog N (.seq a b)).isSome = true) (h : (iJ CT N (.seq a b) s).val = some (.nrm, s')) (k : iC CT N aH c s' e s2) : iC CT N aH (.seq a (.seq b c)) s e s2 := by
  rcases rn_seq2 hc h with ⟨h1, _⟩ | ⟨s1, h1, h2⟩
  · exact absurd rfl h1
  · exact .seq h1 (.seq h2 k)
theorem iC.assocX {CT : bQ} {N : Nat} {a b c : Code} {s s' : aP} {e : Ex} (hc : (dB Tryz.prog N (.seq a b)).isSome = true) (h : (iJ CT N (.seq a b) s).val = some (e, s')) (he : e ≠ .nrm) : iC CT N aH (.seq a (.seq b c)) s e s' := by
  rcases rn_seq2 hc h with ⟨h1, h2⟩ | ⟨s1, h1, h2⟩
  · exact .stop h2 he
  · exact .seq h1 (.stop h2 he)
theorem trBCode : trB = .seq (kA trB) (.seq (.block 3 (.seq (kA trF) (kC trF))) (kC (kC trB))) := by kernel_rfl
theorem trFCode : kC trF = .seq (kA (kC trF)) (.seq (kA (kC (kC trF))) (.seq (kA (kC (kC (kC trF)))) (.seq (kA (kC (kC (kC (kC trF))))) (kC (kC (kC (kC (kC trF)))))))) := by kernel_rfl
theorem trMCode : trM = .seq (kA trM) (.seq (kA (kC trM)) (.block 2 (.loop trB))) := by kernel_rfl
theorem trOCode : trO = .seq (kA trO) (.seq (.block 1 trM) (kC (kC trO))) := by kernel_rfl
theorem mO {a b : Nat} (h : a + b ≤ 140737488355328) : eX .i64 (a : Int) (b : Int) = ((a + b : Nat) : Int) := by
  unfold eX
  have e : (a : Int) + (b : Int) = Int.ofNat (a + b) := rfl
  rw [e, bZ, iW h]
  rfl
theorem u8_nat (z : Int) : ∃ q : Nat, dP .u8 z = (q : Int) ∧ q < 256 := by
  rw [bZ]
  have h := (lS .u8 (IntKind.u8.wrap z)).1 (pW .u8 z)
  simp [IntKind.signed, IntKind.bits] at h
  exact ⟨(IntKind.u8.wrap z).toNat, by omega, by omega⟩
theorem at_lt {x : Nat → CV} {n i k : Nat} (hn : 1 ≤ n) (hn2 : n ≤ 1000000) (h12 : aS (x 12) = (n : Int)) (h13 : aS (x 13) = (i : Int)) (hi : i < n) (h11 : aS (x 11) = (k : Int)) (hk : k ≤ 3) : ∃ a : Nat, atZ x = (a : Int) ∧ a < n := by
  unfold atZ
  rw [h12, h13, h11]
  obtain ⟨q, hq, hq2⟩ := u8_nat ((aS (x 2)).tdiv 4)
  have e1 : gQuo .u8 (aS (x 2)) 4 = (q : Int) := hq
  have e2 : dP .i64 (q : Int) = (q : Int) := by rw [bZ]; exact iW (by omega)
  have e3 : dP .i64 (k : Int) = (k : Int) := by rw [bZ]; exact iW (by omega)
  rw [e1, e2, e3, mO (by omega), mO (by omega)]
  refine ⟨(q + k + i) % n, ?_, Nat.mod_lt _ (by omega)⟩
  show ((q + k + i : Nat) : Int).tmod (n : Int) = _
  rw [Int.tmod_eq_emod_of_nonneg (by omega)]
  rfl
def InQ (s : List Bool) (n k : Nat) (s' : aP) : Prop := ∃ s2 ren n', (s2 = s ∨ ∃ b, s2 = s ++ [b]) ∧ n' ≤ n + (s2.length - s.length) ∧ iR ren (trT s2) s' = true ∧ Cns (fU s') (fC ren s') n' ∧ aS (fU s' 11) = (k : Int)
theorem Cns.of {x x' : Nat → CV} {y y' : Nat → HO} {n : Nat} (h : Cns x y n) (e : (gK (x' 10), lT (y' 66)) = (gK (x 10), lT (y 66))) : Cns x' y' n := by
  simp only [Prod.mk.injEq] at e
  exact ⟨e.1.trans h.len, by rw [e.2]; exact h.le, h.lo, h.hi⟩
theorem in_loop {s : List Bool} (hs : s.length ≤ 2) {n k : Nat} (hn2 : n ≤ 900000) (hk : k ≤ 3) : ∀ (j : Nat) (x : Nat → CV) (y : Nat → HO) (i : Nat), Cns x y n → aS (x 11) = (k : Int) → aS (x 12) = (n : Int) → aS (x 13) = (i : Int) → i + j = n → ∃ s', iC wJ 113 aH (.loop trB) (y5 (trI s) x y) (.exit 2) s' ∧ InQ s n k s'
  | 0, x, y, i, hc, h11, h12, h13, hj => by
    obtain ⟨s', p1, p2, p3⟩ := (w9 s hs x y).2.ok (by kernel_rfl) (by rw [decide_eq_false (by omega)])
    simp only [Prod.mk.injEq] at p3
    refine ⟨s', ?_, s, [], n, Or.inl rfl, by omega, p2, hc.of (by rw [p3.1.1, p3.1.2]), p3.2.trans h11⟩
    rw [trBCode]
    exact .out (.stop p1 (by simp)) (by simp)
  | j + 1, x, y, i, hc, h11, h12, h13, hj => by
    obtain ⟨s1, p1, f1, k1⟩ := (w9 s hs x y).1.ok (by kernel_rfl) (by rw [decide_eq_true (by omega)])
    simp only [trK, trV, Prod.mk.injEq] at k1
    obtain ⟨⟨k10, k66⟩, k11, k12, k13⟩ := k1
    obtain ⟨s2, p2, f2, k2⟩ := (w11 s hs (fU s1) (fC [] s1)).ok (by kernel_rfl) (by rw [k12, decide_eq_true (by have := hc.lo; omega)])
    simp only [trK, trV, Prod.mk.injEq] at k2
    obtain ⟨⟨⟨q10, q66⟩, q11, q12, q13⟩, q14⟩ := k2
    obtain ⟨a, ha, han⟩ := at_lt (x := fU s1) hc.lo (by omega) (k12.trans h12) (k13.trans h13) (by omega) (k11.trans h11) hk
    have hc2 : Cns (fU s2) (fC [] s2) n := hc.of (by rw [q10, k10, q66, k66])
    have hat : at_ (fU s2) = (a : Int) := q14.trans ha
    obtain ⟨w1, w2, w3, w4⟩ := tr1 s hs (fU s2) (fC [] s2)
    obtain ⟨⟨e, s3⟩, v1, v2⟩ := R.all_of w1 w2 (by
      rw [w3, hat, hc2.len]
      have := hc2.le
      simp only [List.mem_cons, List.not_mem_nil, or_false, forall_eq_or_imp, forall_eq, Bool.and_eq_true, decide_eq_true_eq]
      omega)
    have v3 := R.mq_eq w4 v1
    simp only [trK, trV, Prod.mk.injEq] at v3
    obtain ⟨⟨⟨u10, u66⟩, u11, u12, u13⟩, u14⟩ := v3
    cases e with
    | ret => simp [tr1F] at v2
    | exit i' =>
      -- passed over
      have hi' : i' = 3 ∧ iR [] (trI s) s3 = true := by
        unfold tr1F at v2
        split at v2
        · rename_i he
          have he : Ex.exit i' = Ex.exit 3 := he
          exact ⟨by injection he, v2⟩
        · rename_i he
          have he : Ex.exit i' = Ex.nrm := he
          simp at he
        · simp at v2
      obtain ⟨rfl, f3⟩ := hi'
      obtain ⟨s4, p4, f4, k4⟩ := (w10 s hs (fU s3) (fC [] s3)).ok (by kernel_rfl) rfl
      simp only [trK, Prod.mk.injEq] at k4
      obtain ⟨⟨z10, z66⟩, z11, z12, z13⟩ := k4
      have h13' : aS (fU s4 13) = ((i + 1 : Nat) : Int) := by
        rw [z13, u13, q13, k13, h13]
        exact mO (a := i) (b := 1) (by omega)
      obtain ⟨s5, p5, q5⟩ := in_loop hs hn2 hk j (fU s4) (fC [] s4) (i + 1) (hc2.of (by rw [z10, u10, z66, u66])) (by rw [z11, u11, q11, k11, h11]) (by rw [z12, u12, q12, k12, h12]) h13' (by omega)
      refine ⟨s5, ?_, q5⟩
      refine .again ?_ (.fit f4 p5)
      rw [trBCode]
      have c1 : iC wJ 113 aH (kC trF) (y5 (trA s) (fU s2) (fC [] s2)) (.exit 3) s3 := by
        rw [trFCode]
        exact .assocX (by kernel_rfl) v1 (by simp)
      exact .seq p1 (.fit f1 (.seq (.blk (id := 3) (.seq p2 (.fit f2 c1))) (.fit f3 p4)))
    | nrm =>
      have f3 : iR [] (trQ s) s3 = true := v2
      obtain ⟨m1, m2⟩ := tr2 s hs (fU s3) (fC [] s3)
      obtain ⟨⟨e, s4⟩, v4, v5⟩ := mF m1
      have v6 := R.mq_eq m2 v4
      simp only [trK, trV, Prod.mk.injEq] at v6
      obtain ⟨⟨⟨z10, z66⟩, z11, z12, z13⟩, z14⟩ := v6
      cases e with
      | ret => simp [tr2F] at v5
      | exit i' => simp [tr2F] at v5
      | nrm =>
        have hb : ∃ b, iR (tr2N s4) (trP (s ++ [b]) b) s4 = true := by
          have v5' : (match iR (tr2N s4) (trP (s ++ [true]) true) s4 with
            | true => true
            | false => iR (tr2N s4) (trP (s ++ [false]) false) s4) = true := v5
          split at v5'
          · rename_i q; exact ⟨true, q⟩
          · exact ⟨false, v5'⟩
        obtain ⟨b, f4⟩ := hb
        have hc4 : Cns (fU s4) (fC (tr2N s4) s4) n := hc2.of (by rw [z10, u10, z66, u66])
        obtain ⟨t, g1, g2, g3⟩ := cd_ok (b := b) hc4 (z14.trans (u14.trans hat)) han
        obtain ⟨o1, o2, o3, o4, o5⟩ := tr3 s b t hs (fU s4) (fC (tr2N s4) s4)
        have hv : (tr3R (s ++ [b]) b (fU s4) (fC (tr2N s4) s4)).val = some (.exit 2, (tr3E (s ++ [b]) b t (fU s4) (fC (tr2N s4) s4)).2) := R.val_pe (e := Ex.exit 2) (Ex.nrm, dW) o1 (o2.trans g1) o3
        simp only [trK, Prod.mk.injEq] at o5
        obtain ⟨⟨l10, l66⟩, l11, l12, l13⟩ := o5
        have hl2 : (s ++ [b]).length = s.length + 1 := by simp
        have hbn : b.toNat ≤ 1 := by cases b <;> simp
        refine ⟨_, ?_, s ++ [b], _, n + b.toNat, Or.inr ⟨b, rfl⟩, by omega, o4, ⟨l10.trans g2, by rw [l66, g3]; omega, by have := hc.lo; omega, by omega⟩, ?_⟩
        · rw [trBCode]
          have c1 : iC wJ 113 aH (kC trF) (y5 (trA s) (fU s2) (fC [] s2)) (.exit 2) (tr3E (s ++ [b]) b t (fU s4) (fC (tr2N s4) s4)).2 := by
            rw [trFCode]
            exact .assoc (by kernel_rfl) v1 (.fit f3 (.assoc (by kernel_rfl) v4 (.fit f4 (.run (by kernel_rfl) hv))))
          exact .out (.seq p1 (.fit f1 (.stop (.blk (id := 3) (.seq p2 (.fit f2 c1))) (by simp [exB])))) (by simp)
        · rw [l11, z11, u11, q11, k11, h11]
theorem trCode : trC = .seq (kA trC) (.seq (kA (kC trC)) (.seq (kA (kC (kC trC))) (.seq (kA (kC (kC (kC trC)))) (.seq (.seq (kA trL) (.block 0 (.loop trO))) (kC (kC (kC (kC (kC trC))))))))) := by kernel_rfl
theorem u8_ad {k : Nat} (h : k ≤ 3) : eX .u8 (k : Int) 1 = ((k + 1 : Nat) : Int) := by
  unfold eX
  have e : (k : Int) + 1 = Int.ofNat (k + 1) := rfl
  rw [e, bZ]
  have : IntKind.u8.wrap (Int.ofNat (k + 1)) = Int.ofNat (k + 1) := by rw [lS]; simp [IntKind.signed, IntKind.bits]; omega
  rw [this]; rfl
theorem rem4 (z : Int) : qE .u8 z 4 ≤ 3 := by
  unfold qE
  have := Int.tmod_lt_of_pos z (show (0 : Int) < 4 by omega)
  omega
theorem out_loop : ∀ (j : Nat) (s : List Bool) (x : Nat → CV) (y : Nat → HO) (n k : Nat), s.length ≤ k → k + j = 3 → Cns x y n → n ≤ 100000 + s.length → aS (x 11) = (k : Int) → ∃ s' s2, s2.length ≤ 3 ∧ iC wJ 113 aH (.loop trO) (y5 (trT s) x y) (.exit 0) s' ∧ iR [] (trT s2) s' = true
  | 0, s, x, y, n, k, hs, hk, hc, hn, h11 => by
    obtain ⟨s', p1, f1, _⟩ := (w5 s (by omega) x y).2.ok (by kernel_rfl) (by rw [h11, decide_eq_false (by have := rem4 (aS (x 2)); omega)])
    refine ⟨s', s, by omega, .out ?_ (by simp), f1⟩
    rw [trOCode]
    exact .stop p1 (by simp)
  | j + 1, s, x, y, n, k, hs, hk, hc, hn, h11 => by
    cases hd : decide (aS (x 11) < qE .u8 (aS (x 2)) 4) with
    | false =>
      obtain ⟨s', p1, f1, _⟩ := (w5 s (by omega) x y).2.ok (by kernel_rfl) (by rw [hd])
      refine ⟨s', s, by omega, .out ?_ (by simp), f1⟩
      rw [trOCode]
      exact .stop p1 (by simp)
    | true =>
      obtain ⟨s1, p1, f1, k1⟩ := (w5 s (by omega) x y).1.ok (by kernel_rfl) (by rw [hd])
      simp only [Prod.mk.injEq] at k1
      have hc1 : Cns (fU s1) (fC [] s1) n := hc.of (by rw [k1.1.1, k1.1.2])
      obtain ⟨hw1, hw2, hw3, f2, k2⟩ := w7 s (by omega) (fU s1) (fC [] s1)
      have hv := R.val_pe (e := Ex.nrm) (Ex.nrm, dW) hw1 hw2 hw3
      simp only [trK, Prod.mk.injEq] at k2
      obtain ⟨⟨q10, q66⟩, q11, q12, q13⟩ := k2
      obtain ⟨s3, p3, s2, ren, n', h2, hn', f3, hc3, h11'⟩ := in_loop (s := s) (by omega) (n := n) (k := k) (by omega) (by omega) n _ _ 0 (hc1.of (by rw [q10, q66])) (q11.trans (k1.2.trans h11)) (q12.trans (by rw [hc1.len])) q13 (by omega)
      have hl2 : s2.length ≤ s.length + 1 ∧ s.length ≤ s2.length := by
        rcases h2 with rfl | ⟨b, rfl⟩
        · omega
        · simp
      obtain ⟨s4, p4, f4, k4⟩ := (w6 s2 (by omega) (fU s3) (fC ren s3)).ok (by kernel_rfl) rfl
      simp only [Prod.mk.injEq] at k4
      obtain ⟨s5, s6, q1, q2, q3⟩ := out_loop j s2 (fU s4) (fC [] s4) n' (k + 1) (by omega) (by omega) (hc3.of (by rw [k4.1.1, k4.1.2])) (by omega) (by rw [k4.2, h11']; exact u8_ad (by omega))
      refine ⟨s5, s6, q1, .again ?_ (.fit f4 q2), q3⟩
      rw [trOCode]
      have c1 : iC wJ 113 aH trM (y5 (trT s) (fU s1) (fC [] s1)) .nrm s3 := by
        rw [trMCode]
        exact .assoc (by kernel_rfl) hv (.fit f2 (.blk (id := 2) p3))
      exact .seq p1 (.fit f1 (.seq (.blk (id := 1) c1) (.fit f3 p4)))
def trN : SjT := ⟨[(2, .i .u8), (3, .p 64 0), (4, .p 65 0), (8, .x .nils), (9, .i .i64), (10, .x .nils), (11, .i .u8)], [(64, .c yQ.li 34 false), (65, .c ledL 76 false)], 66⟩
theorem wNil (x : Nat → CV) (y : Nat → HO) : Way (iJ wJ 113 trO (y5 trN x y)) [true] [decide (aS (x 11) < qE .u8 (aS (x 2)) 4)] .nrm trN (fun s' => aS (fU s' 11)) (eX .u8 (aS (x 11)) 1) ∧ Way (iJ wJ 113 trO (y5 trN x y)) [false] [decide (aS (x 11) < qE .u8 (aS (x 2)) 4)] (.exit 0) trN (fun _ => ()) () := ⟨⟨by kernel_rfl, by kernel_rfl, by kernel_rfl, by kernel_rfl, by kernel_rfl⟩, ⟨by kernel_rfl, by kernel_rfl, by kernel_rfl, by kernel_rfl, rfl⟩⟩
theorem nil_loop : ∀ (j : Nat) (x : Nat → CV) (y : Nat → HO) (k : Nat), k + j = 3 → aS (x 11) = (k : Int) → ∃ s', iC wJ 113 aH (.loop trO) (y5 trN x y) (.exit 0) s' ∧ iR [] trN s' = true
  | j, x, y, k, hk, h11 => by
    cases hd : decide (aS (x 11) < qE .u8 (aS (x 2)) 4) with
    | false =>
      obtain ⟨s', p1, f1, _⟩ := (wNil x y).2.ok (by kernel_rfl) (by rw [hd])
      exact ⟨s', .out p1 (by simp), f1⟩
    | true =>
      cases j with
      | zero =>
        have := of_decide_eq_true hd
        have := rem4 (aS (x 2))
        omega
      | succ j =>
        obtain ⟨s1, p1, f1, k1⟩ := (wNil x y).1.ok (by kernel_rfl) (by rw [hd])
        obtain ⟨s2, q1, q2⟩ := nil_loop j (fU s1) (fC [] s1) (k + 1) (by omega) (by rw [k1, h11]; exact u8_ad (by omega))
        exact ⟨s2, .again p1 (.fit f1 q1), q2⟩
def skR (s : List Bool) : Sj := .tup [match s with
  | [] => .x .nils
  | _ => .fz (outL s) 0 s.length, .i .i64]
noncomputable def trRS : List RS := [.t (way 6), .t (way 7)]
theorem trEnd : ∀ (s : List Bool), s.length ≤ 3 → ∀ (x : Nat → CV) (y : Nat → HO), allB (qJ (skR s) trRS) (iJ wJ 113 (kC (kC (kC (kC (kC trC))))) (y5 (trT s) x y)) = true
  | [], _, x, y => by kernel_rfl
  | [true], _, x, y => by kernel_rfl
  | [false], _, x, y => by kernel_rfl
  | [true, true], _, x, y => by kernel_rfl
  | [true, false], _, x, y => by kernel_rfl
  | [false, true], _, x, y => by kernel_rfl
  | [false, false], _, x, y => by kernel_rfl
  | [true, true, true], _, x, y => by kernel_rfl
  | [true, true, false], _, x, y => by kernel_rfl
  | [true, false, true], _, x, y => by kernel_rfl
  | [true, false, false], _, x, y => by kernel_rfl
  | [false, true, true], _, x, y => by kernel_rfl
  | [false, true, false], _, x, y => by kernel_rfl
  | [false, false, true], _, x, y => by kernel_rfl
  | [false, false, false], _, x, y => by kernel_rfl
  | _ :: _ :: _ :: _ :: _, h, _, _ => absurd h (by simp)
theorem trEndN (x : Nat → CV) (y : Nat → HO) : allB (qJ (skR []) trRS) (iJ wJ 113 (kC (kC (kC (kC (kC trC))))) (y5 trN x y)) = true := by kernel_rfl
def trA0 : List Sj := [yQ, .agg ledL, .i .u8]
noncomputable def trPR (root : CV) : R (Ex × aP) := iJ wJ 113 (.seq (kA trC) (.seq (kA (kC trC)) (.seq (kA (kC (kC trC))) (.seq (kA (kC (kC (kC trC)))) (kA trL))))) (st0 (dO trA0 root 0))
def ld_ (root : CV) : CV := aT 33 (aT 1 root)
def nc_ (root : CV) : List aJ := ((rowX (ld_ root)).drop (offX (ld_ root))).take (gK (ld_ root))
theorem trPre (root : CV) : Way (trPR root) [true, true] [true && decide ((nc_ root).length ≤ 1048576), decide (0 < (nc_ root).length)] .nrm (trT []) (fun s' => ((gK (fU s' 10), lT (fC [] s' 66)), aS (fU s' 11))) (((nc_ root).length, nc_ root), 0) ∧ Way (trPR root) [true, false] [true && decide ((nc_ root).length ≤ 1048576), decide (0 < (nc_ root).length)] .nrm trN (fun s' => aS (fU s' 11)) 0 := ⟨⟨by kernel_rfl, by kernel_rfl, by kernel_rfl, by kernel_rfl, by kernel_rfl⟩, ⟨by kernel_rfl, by kernel_rfl, by kernel_rfl, by kernel_rfl, by kernel_rfl⟩⟩
def all15 : List (List Bool) := [[], [true], [false], [true, true], [true, false], [false, true], [false, false], [true, true, true], [true, true, false], [true, false, true], [true, false, false], [false, true, true], [false, true, false], [false, false, true], [false, false, false]]
theorem all15_ok : ∀ (s : List Bool), s.length ≤ 3 → ∃ i : Nat, i < 15 ∧ all15.getD i [] = s
  | [], _ => ⟨0, by omega, rfl⟩
  | [true], _ => ⟨1, by omega, rfl⟩
  | [false], _ => ⟨2, by omega, rfl⟩
  | [true, true], _ => ⟨3, by omega, rfl⟩
  | [true, false], _ => ⟨4, by omega, rfl⟩
  | [false, true], _ => ⟨5, by omega, rfl⟩
  | [false, false], _ => ⟨6, by omega, rfl⟩
  | [true, true, true], _ => ⟨7, by omega, rfl⟩
  | [true, true, false], _ => ⟨8, by omega, rfl⟩
  | [true, false, true], _ => ⟨9, by omega, rfl⟩
  | [true, false, false], _ => ⟨10, by omega, rfl⟩
  | [false, true, true], _ => ⟨11, by omega, rfl⟩
  | [false, true, false], _ => ⟨12, by omega, rfl⟩
  | [false, false, true], _ => ⟨13, by omega, rfl⟩
  | [false, false, false], _ => ⟨14, by omega, rfl⟩
  | _ :: _ :: _ :: _ :: _, h => absurd h (by simp)
def trF0 (v : CV) : CV := rX (skR (all15.getD (aS (aT 0 v)).toNat [])) (aT 1 v)
noncomputable def trOut (v : CV) : R CV := pickR 15 0 (aS (aT 0 v)) (fun i => .ok (rX (skR (all15.getD i [])) (aT 1 v)))
def trCnd (l : List CV) : Cn := some (decide (gK (aT 33 (l.getD 1 .nils)) ≤ 100000))
def trG (v : CV) : Prop := ∃ i : Nat, i < 15 ∧ aS (aT 0 v) = (i : Int)
theorem tr_ends {root : CV} (h : gK (ld_ root) ≤ 100000) : ∃ v0, trG v0 ∧ Ends wJ 113 trC (st0 (dO trA0 root 0)) trRS (trF0 v0) := by
  have hl : (nc_ root).length ≤ 100000 := by
    unfold nc_
    rw [List.length_take]; omega
  have c1 : (true && decide ((nc_ root).length ≤ 1048576)) = true := by rw [decide_eq_true (by omega)]; rfl
  have all : ∀ (T : SjT) (s : List Bool) (s1 : aP), s.length ≤ 3 → (∀ x y, allB (qJ (skR s) trRS) (iJ wJ 113 (kC (kC (kC (kC (kC trC))))) (y5 T x y)) = true) → (iJ wJ 113 (.seq (kA trC) (.seq (kA (kC trC)) (.seq (kA (kC (kC trC))) (.seq (kA (kC (kC (kC trC)))) (kA trL))))) (st0 (dO trA0 root 0))).val = some (.nrm, s1) → (∃ s2, iC wJ 113 aH (.loop trO) s1 (.exit 0) s2 ∧ iR [] T s2 = true) → ∃ v0, trG v0 ∧ Ends wJ 113 trC (st0 (dO trA0 root 0)) trRS (trF0 v0) := fun T s s1 hs hend hv ⟨s2, p2, f2⟩ => by
    obtain ⟨e, s3, q1, q2⟩ := iC.all (by kernel_rfl) (hend (fU s2) (fC [] s2))
    obtain ⟨a1, h1, c1, hv⟩ := kM (by kernel_rfl) hv
    obtain ⟨a2, h2, c2, hv⟩ := kM c1 hv
    obtain ⟨a3, h3, c3, hv⟩ := kM c2 hv
    obtain ⟨a4, h4, c4, hv⟩ := kM c3 hv
    have hL : iC wJ 113 aH trC (st0 (dO trA0 root 0)) e s3 := by
      rw [trCode]
      exact .seq h1 (.seq h2 (.seq h3 (.seq h4 (.seq (.seq (.run c4 hv) (.blk (id := 0) p2)) (.fit f2 q1)))))
    obtain ⟨v1, hv1⟩ := Ends.ret hL q2
    obtain ⟨i, hi, hi2⟩ := all15_ok s hs
    refine ⟨.tup [.int false .u8 (i : Int), v1], ⟨i, hi, rfl⟩, ?_⟩
    unfold trF0
    show Ends _ _ _ _ _ (rX (skR (all15.getD i [])) v1)
    rw [hi2]
    exact hv1
  cases hd : decide (0 < (nc_ root).length) with
  | true =>
    obtain ⟨h1, h2, h3, f1, k1⟩ := (trPre root).1
    have hv := R.val_pe (e := Ex.nrm) (Ex.nrm, dW) h1 (by rw [h2, c1, hd]) h3
    simp only [Prod.mk.injEq] at k1
    have := of_decide_eq_true hd
    obtain ⟨s2, s3, q1, q2, q3⟩ := out_loop 3 [] _ _ (nc_ root).length 0 (by simp) (by omega) ⟨k1.1.1, by rw [k1.1.2]; exact Nat.le_refl _, by omega, by omega⟩ (by simp; omega) k1.2
    exact all (trT s3) s3 _ q1 (trEnd s3 q1) hv ⟨s2, .fit f1 q2, q3⟩
  | false =>
    obtain ⟨h1, h2, h3, f1, k1⟩ := (trPre root).2
    have hv := R.val_pe (e := Ex.nrm) (Ex.nrm, dW) h1 (by rw [h2, c1, hd]) h3
    obtain ⟨s2, q1, q2⟩ := nil_loop 3 _ _ 0 (by omega) k1
    exact all trN [] _ (by simp) trEndN hv ⟨s2, .fit f1 q1, q2⟩
noncomputable def trS : List CV → Acc → R CV := tgS wJ 113 trC trRS [(trA0, .b)] trCnd trF0 (fun _ v => trG v) (fun _ v => trOut v)
theorem tr_pur : bM Tryz.prog 76 trS := tg_pur cTk_ok Tryz.func76 (by kernel_rfl) (by kernel_rfl) (by kernel_rfl) (fun k hk root => by
  simp only [List.mem_cons, List.not_mem_nil, or_false] at hk
  subst hk
  refine ⟨by kernel_rfl, by show 3 ≤ 113; omega, fun hc => ?_⟩
  obtain ⟨v0, hv⟩ := tr_ends (root := root) (of_decide_eq_true (show decide (gK (ld_ root) ≤ 100000) = true from hc))
  exact ⟨v0, hv⟩) (fun k hk l v0 v _ hv => by
  obtain ⟨j, h1, h2⟩ := qK hv
  obtain rfl := Option.some.inj h2
  unfold trF0
  rw [h1]
  exact l7.rfl_ _)
noncomputable def cTl : bQ := bT wJ 76 trS
theorem cTl_ok : gV Tryz.prog cTl := aG cTk_ok tr_pur
theorem tr_z {root : CV} (h : gK (ld_ root) ≤ 100000) : trG (endG wJ 113 trC trRS trF0 (dO trA0 root 0) trG) := (Classical.epsilon_spec (tr_ends h)).1
def bkA (h : Nat) : List Sj := [yQ, .agg ledL, ctxK h, .i .u8]
noncomputable def bkC : Code := lL Tryz.f37
noncomputable def bkRS : List RS := [.c (way 8) true 69]
noncomputable def bkR (h : Nat) (root : CV) : R (Ex × aP) := iJ cTl 47 bkC (st0 (dO (bkA h) root 0))
def blkK : Sj := .agg (xH ++ [.wr])
noncomputable def rtW (c : CV) : List Int := (List.range 32).map fun j => aS (vJ j (resZ (pr cTc 80) [c]))
noncomputable def bkD (i : Nat) : List Bool := true :: List.replicate i false ++ [true, true, true]
noncomputable def bkZ (root : CV) : Int := aS (aT 0 (endG wJ 113 trC trRS trF0 (dO trA0 (.agg [aT 0 root, aT 1 root, aT 3 root]) 0) trG))
noncomputable def bkCd (i : Nat) (root : CV) : List Bool := decide (gK (aT 33 (aT 1 root)) ≤ 100000) :: (List.range (i + 1)).map (fun (j : Nat) => decide (bkZ root = (j : Int))) ++ [pG (aS (aT 78 (aT 0 root))) (eX .i64 (aS (aT 0 (aT 1 root))) 1), x9 root]
noncomputable def bkE (h i : Nat) (root : CV) : Ex × aP := R.lfp (.nrm, dW) (bkD i) (bkR h root)
def Bk (h i : Nat) (root : CV) : Prop := R.okp (bkD i) (bkR h root) = true ∧ R.cds (bkD i) (bkR h root) = bkCd i root ∧ (bkE h i root).1 = .ret ∧ endB blkK bkRS (bkE h i root).2 = true ∧ ckTs [aT 68 (resV bkRS (bkE h i root).2)] = true ∧ rtC (resV bkRS (bkE h i root).2) = rtW (aT 68 (resV bkRS (bkE h i root).2))
end Go.Proofs.YtcgdimlbbdfdpaaGreatDoor
