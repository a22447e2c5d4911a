/-
  What this statement needs, part 25: the texts of it, one behind the other.
-/
import Derived.Test.YtcgdimlbbdfdpaaGreatDoorBase21
set_option maxRecDepth 100000
set_option linter.all false
namespace Go.Proofs.YtcgdimlbbdfdpaaGreatDoor
open Go Go.RowKit
theorem bk_6 (root : CV) : ∀ i : Nat, i < 15 → Bk 6 i root
  | 0, _ => ⟨by kernel_rfl, by kernel_rfl, by kernel_rfl, by kernel_rfl, by kernel_rfl, by kernel_rfl⟩
  | 1, _ => ⟨by kernel_rfl, by kernel_rfl, by kernel_rfl, by kernel_rfl, by kernel_rfl, by kernel_rfl⟩
  | 2, _ => ⟨by kernel_rfl, by kernel_rfl, by kernel_rfl, by kernel_rfl, by kernel_rfl, by kernel_rfl⟩
  | 3, _ => ⟨by kernel_rfl, by kernel_rfl, by kernel_rfl, by kernel_rfl, by kernel_rfl, by kernel_rfl⟩
  | 4, _ => ⟨by kernel_rfl, by kernel_rfl, by kernel_rfl, by kernel_rfl, by kernel_rfl, by kernel_rfl⟩
  | 5, _ => ⟨by kernel_rfl, by kernel_rfl, by kernel_rfl, by kernel_rfl, by kernel_rfl, by kernel_rfl⟩
  | 6, _ => ⟨by kernel_rfl, by kernel_rfl, by kernel_rfl, by kernel_rfl, by kernel_rfl, by kernel_rfl⟩
  | 7, _ => ⟨by kernel_rfl, by kernel_rfl, by kernel_rfl, by kernel_rfl, by kernel_rfl, by kernel_rfl⟩
  | 8, _ => ⟨by kernel_rfl, by kernel_rfl, by kernel_rfl, by kernel_rfl, by kernel_rfl, by kernel_rfl⟩
  | 9, _ => ⟨by kernel_rfl, by kernel_rfl, by kernel_rfl, by kernel_rfl, by kernel_rfl, by kernel_rfl⟩
  | 10, _ => ⟨by kernel_rfl, by kernel_rfl, by kernel_rfl, by kernel_rfl, by kernel_rfl, by kernel_rfl⟩
  | 11, _ => ⟨by kernel_rfl, by kernel_rfl, by kernel_rfl, by kernel_rfl, by kernel_rfl, by kernel_rfl⟩
  | 12, _ => ⟨by kernel_rfl, by kernel_rfl, by kernel_rfl, by kernel_rfl, by kernel_rfl, by kernel_rfl⟩
  | 13, _ => ⟨by kernel_rfl, by kernel_rfl, by kernel_rfl, by kernel_rfl, by kernel_rfl, by kernel_rfl⟩
  | 14, _ => ⟨by kernel_rfl, by kernel_rfl, by kernel_rfl, by kernel_rfl, by kernel_rfl, by kernel_rfl⟩
  | n + 15, h => absurd h (by omega)
def yO (c : CV) : Prop := ∃ p : iD × List iD, lF p.1 p.2 = true ∧ c = nJ (p.1 :: p.2)
noncomputable def madeB (c : CV) : Bool := @decide (yO c) (Classical.propDecidable _)
theorem madeB_ok {c : CV} (h : madeB c = true) : yO c := by
  unfold madeB at h
  exact @of_decide_eq_true _ (Classical.propDecidable _) h
theorem madeB_of {c : CV} (h : yO c) : madeB c = true := by
  unfold madeB
  exact @decide_eq_true _ (Classical.propDecidable _) h
noncomputable def tsW (c : CV) : iD × List iD := @Classical.epsilon _ ⟨(.cb 0 0 0, [])⟩ fun p => lF p.1 p.2 = true ∧ c = nJ (p.1 :: p.2)
theorem tsW_ok {c : CV} (h : yO c) : lF (tsW c).1 (tsW c).2 = true ∧ c = nJ ((tsW c).1 :: (tsW c).2) := Classical.epsilon_spec h
def blkW (l : List CV) : Option (List Int × CV) := match osK .u32 (l.take 1), osK .u8 ((l.drop 1).take 64), osK .u32 (((l.drop 1).drop 64).take 3), ((l.drop 1).drop 64).drop 3 with
  | some [a], some zs, some [b, c, d], [.wr x] => match Nat.beq zs.length 64 with
    | true => some (a :: (zs ++ [b, c, d]), x)
    | false => none
  | _, _, _, _ => none
theorem blkW_ok {β : Names} {l : List CV} {hd : List Int} {x : CV} {ts : List iD} {us : List Value} (h : blkW l = some (hd, x)) (hx : x = nJ ts) (hu : bJ β l us) : bJ β (hdrV hd ++ [nJ ts]) us := by
  unfold blkW at h
  split at h
  · rename_i a zs b c d x' h1 h2 h3 h4
    split at h
    · rename_i hb
      simp only [Option.some.injEq, Prod.mk.injEq] at h
      obtain ⟨rfl, rfl⟩ := h
      have hl := Nat.eq_of_beq_eq_true hb
      have r1 := osK_rv (m := 1) h1 rfl (hu.take 1)
      have r2 := osK_rv (m := 64) h2 hl ((hu.drop 1).take 64)
      have r3 := osK_rv (m := 3) h3 rfl (((hu.drop 1).drop 64).take 3)
      have r4 := ((hu.drop 1).drop 64).drop 3
      rw [h4] at r4
      obtain ⟨u, r, e, ⟨_, _, q⟩, q2⟩ := r4
      have r5 : bJ β [nJ ts] (((us.drop 1).drop 64).drop 3) := ⟨u, r, e, by rw [← hx]; exact q, q2⟩
      rw [hdrV_eq hl, List.append_assoc, List.append_assoc]
      rw [← List.take_append_drop 1 us, ← List.take_append_drop 64 (us.drop 1), ← List.take_append_drop 3 ((us.drop 1).drop 64)]
      exact r1.append (r2.append (r3.append r5))
    · simp at h
  · simp at h
def cwB (h1 : Int) (v : CV) : Bool := match conG v with
  | some (m, h') => decide (m ≤ 100000) && decide (h' = h1)
  | none => false
noncomputable def cwT (h1 : Int) (v : CV) : R CV := .br (cwB h1 v) (.ok (okC h1 v)) (.ok (erC v))
noncomputable def cwV (tm W H M h : Int) (tip : List Int) (cs : List aJ) (o n : Nat) (hd : List Int) (c : CV) : CV := cnV tm W H M h tip cs o n hd (tsW c).1 (tsW c).2
noncomputable def conW (l : List CV) (V : Acc) : R CV := match l with
  | [.agg pl, .agg ll, .agg bl] => match parT pl, ledOf ll, blkW bl with
    | some (tm, W, H, M), some (h, tip, cs, o, n), some (hd, c) => match pJ V with
      | true => .br (madeB c && (pG H (eX .i64 h 1) && decide (n ≤ 100000))) (cwT (eX .i64 h 1) (cwV tm W H M h tip cs o n hd c)) .no
      | false => .no
    | _, _, _ => .no
  | _ => .no
theorem cw_val {tm W H M h : Int} {tip : List Int} {cs : List aJ} {o n : Nat} {hd : List Int} {c : CV} (hm : yO c) (h1 : pG H (eX .i64 h 1) = true) (h2 : n ≤ 100000) : (pr cTc 38 [.agg (parC tm W H M), ledV h tip cs o n, blkV hd ((tsW c).1 :: (tsW c).2)] aV).val = some (cwV tm W H M h tip cs o n hd c) ∧ ((∃ e, sN zsV (cwV tm W H M h tip cs o n hd c) = some e ∧ e ≠ 0) ∨ ∃ m, conG (cwV tm W H M h tip cs o n hd c) = some (m, eX .i64 h 1) ∧ m ≤ 100000) := by
  have hs := (tsW_ok hm).1
  have h3 : (tsW c).2.length ≤ 3 := by
    have := hs
    unfold lF at this
    split at this
    · rw [Bool.and_eq_true] at this
      exact dK this.2
    · simp at this
  obtain ⟨x, k1, k2⟩ := con_val (con_all hs) tm W H M h tip cs o n hd h1 h2 h3
  have ex : cwV tm W H M h tip cs o n hd c = x := by unfold cwV cnV; rw [k1]; rfl
  rw [ex]
  exact ⟨k1, k2⟩
theorem cw_err {tm W H M h : Int} {tip : List Int} {cs : List aJ} {o n : Nat} {hd : List Int} {c : CV} (hm : yO c) (h1 : pG H (eX .i64 h 1) = true) (h2 : n ≤ 100000) (he : cwB (eX .i64 h 1) (cwV tm W H M h tip cs o n hd c) = false) : (sN zsV (cwV tm W H M h tip cs o n hd c)).getD 1 ≠ 0 := by
  rcases (cw_val (tm := tm) (W := W) (M := M) (tip := tip) (cs := cs) (o := o) (hd := hd) hm h1 h2).2 with ⟨e, k1, k2⟩ | ⟨m, k1, k2⟩
  · rw [k1]; exact k2
  · unfold cwB at he
    rw [k1] at he
    simp at he
    omega
theorem conW_pur : bM Tryz.prog 38 conW := pt_pur cTc_ok (by kernel_rfl) (fun l V v hh => by
  unfold conW at hh
  split at hh
  · split at hh
    · rename_i pl ll bl _ _ _ tm W H M h0 tip cs o n hd c hp hl hb
      obtain rfl := yU hp
      split at hh
      · rename_i ht
        refine ⟨ht, fun β us hu => ?_⟩
        have hc : (madeB c && (pG H (eX .i64 h0 1) && decide (n ≤ 100000))) = true := by
          cases hc : (madeB c && (pG H (eX .i64 h0 1) && decide (n ≤ 100000))) with
          | true => rfl
          | false => rw [hc] at hh; simp [R.val] at hh
        rw [hc] at hh
        have h' : (cwT (eX .i64 h0 1) (cwV tm W H M h0 tip cs o n hd c)).val = some v := hh
        simp only [Bool.and_eq_true, decide_eq_true_eq] at hc
        have hm := madeB_ok hc.1
        obtain ⟨k1, k2⟩ := cw_val (tm := tm) (W := W) (M := M) (tip := tip) (cs := cs) (o := o) (hd := hd) hm hc.2.1 hc.2.2
        refine ⟨[.agg (parC tm W H M), ledV h0 tip cs o n, blkV hd ((tsW c).1 :: (tsW c).2)], _, ?_, k1, ?_⟩
        · obtain ⟨u1, r1, rfl, q1, u2, r2, rfl, q2, u3, r3, rfl, q3, e4⟩ := hu
          obtain ⟨us2, rfl, q2⟩ := q2
          obtain ⟨us3, rfl, q3⟩ := q3
          exact ⟨u1, _, rfl, q1, _, _, rfl, ⟨us2, rfl, (ledOf_ok hl q2).1⟩, _, _, rfl, ⟨us3, rfl, blkW_ok hb (tsW_ok hm).2 q3⟩, e4⟩
        · unfold cwT at h'
          cases hE : cwB (eX .i64 h0 1) (cwV tm W H M h0 tip cs o n hd c) with
          | true =>
            rw [hE] at h'
            obtain rfl := Option.some.inj h'
            unfold cwB at hE
            split at hE
            · rename_i m h1 hg
              simp only [Bool.and_eq_true, decide_eq_true_eq] at hE
              obtain ⟨hE, rfl⟩ := hE
              exact okC_le hg hE
            · simp at hE
          | false =>
            rw [hE] at h'
            obtain rfl := Option.some.inj h'
            rcases k2 with ⟨e, he, _⟩ | ⟨m, hm, hm2⟩
            · exact erC_le he
            · unfold cwB at hE
              rw [hm] at hE
              simp at hE
              omega
      · simp [R.val] at hh
    · simp [R.val] at hh
  · simp [R.val] at hh)
end Go.Proofs.YtcgdimlbbdfdpaaGreatDoor
