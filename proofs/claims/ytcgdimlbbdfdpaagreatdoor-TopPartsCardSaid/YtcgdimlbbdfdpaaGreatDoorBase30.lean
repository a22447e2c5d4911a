/-
  What this statement needs, part 30: the texts of it, one behind the other.
-/
import Derived.Test.YtcgdimlbbdfdpaaGreatDoorBase12
import Derived.Test.YtcgdimlbbdfdpaaGreatDoorBase19
import Derived.Test.YtcgdimlbbdfdpaaGreatDoorBase20
set_option maxRecDepth 100000
set_option linter.all false
namespace Go.Proofs.YtcgdimlbbdfdpaaGreatDoor
open Go Go.RowKit
theorem R.mq_id {α : Type} : ∀ (r : R α), R.mq (fun v => v) r = r
  | .no => rfl
  | .ok _ => rfl
  | .br b t f => by
    show R.br b (R.mq (fun v => v) t) (R.mq (fun v => v) f) = _
    rw [R.mq_id t, R.mq_id f]
def FullEq (l : List CV) : Prop := R.mq (fun v : CV => v) (pr cTe 8 l aV) = R.mp (fun v => v) (pr cT0 136 l aV)
theorem full_eq {l : List CV} (h : wP l = true) : pr cTe 8 l aV = pr cT0 136 l aV := by
  have k : FullEq l := wI (Q := FullEq) h (fun q v x => by unfold FullEq; kernel_rfl) (fun o q w v x => by unfold FullEq; kernel_rfl) (fun o q w v x v' x' => by unfold FullEq; kernel_rfl)
  unfold FullEq at k
  rw [R.mq_id] at k
  exact k.trans (R.mq_id _)
noncomputable def fuS (l : List CV) (V : Acc) : R CV := match wP l, pJ V with
  | true, true => .ok (mkS hsK (resZ (pr cT0 136) l))
  | _, _ => .no
theorem fu_pur : bM Tryz.prog 8 fuS := by
  intro l V v h β args w nx hG hR hV
  unfold fuS at h
  split at h
  · rename_i hck htab
    obtain rfl := Option.some.inj h
    have hm : meet hsK (jn (pr cT0 136 l aV)) = true := wI (Q := fun l => meet hsK (jn (pr cT0 136 l aV)) = true) hck (fun q v x => by kernel_rfl) (fun o q w v x => by kernel_rfl) (fun o q w v x v' x' => by kernel_rfl)
    cases hj : jn (pr cT0 136 l aV) with
    | none => rw [hj] at hm; simp [meet] at hm
    | some p =>
      obtain ⟨c, z⟩ := p
      rw [hj] at hm
      unfold meet at hm
      split at hm
      · rename_i z' heq
        simp only [Option.some.injEq, Prod.mk.injEq] at heq
        obtain ⟨rfl, rfl⟩ := heq
        obtain ⟨x, k1, k2⟩ := jn_ok hj rfl
        rw [← full_eq hck] at k1
        refine fB (nY cTe_ok (by kernel_rfl) _ V x (by show (purR Tryz.prog cTe 20000 60 8 l V).val = _; rw [purR_V htab]; exact k1) β args w nx hG hR hV) (fun u w' ⟨β', q1, q2, q3⟩ => ⟨β', q1, ?_, q3⟩)
        have e : resZ (pr cT0 136) l = z := by unfold resZ; rw [hj]
        rw [e]
        exact mkS_rv hm (k2 β' u q2)
      · simp at hm
  · simp [R.val] at h
set_option maxRecDepth 20000
theorem okB_ok {r : R Out} (h : okB r = true) : ∃ out, r = .ok out ∧ out.v = .bool false true ∧ Nat.ble 64 out.nx = true ∧ out.puts = [] := by
  unfold okB at h
  split at h
  · exact ⟨_, rfl, rfl, h, rfl⟩
  · simp at h
noncomputable def awS (l : List CV) (V : Acc) : R CV := match l, pJ V with
  | [], true => .ok (.bool false true)
  | _, _ => .no
theorem aw_pur : bM Tryz.prog 4 awS := by
  intro l V v h β args w nx hG hR hV
  unfold awS at h
  split at h
  · rename_i htab
    obtain rfl := Option.some.inj h
    obtain ⟨out, ho, hv, hle, hp⟩ := okB_ok awake_run
    refine purR_ok aCT_ok mixed noNG (L := 100000) (d := 60) (f := 4) rfl [] V _ ?_ β args w nx hG hR hV
    have e : hpT V = aH := by unfold hpT; rw [htab]
    show ((kD Tryz.prog aCT 100000 60 4 [] (hpT V) 64 []).bind frzO).val = _
    rw [e, ho]
    show (frzO out).val = _
    unfold frzO
    rw [hp, hle, hv]
    rfl
  · simp [R.val] at h
end Go.Proofs.YtcgdimlbbdfdpaaGreatDoor
