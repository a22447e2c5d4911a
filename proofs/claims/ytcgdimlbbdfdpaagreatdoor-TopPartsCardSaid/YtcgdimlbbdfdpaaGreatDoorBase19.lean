/-
  What this statement needs, part 19: the texts of it, one behind the other.
-/
import Derived.Test.YtcgdimlbbdfdpaaGreatDoorBase15
import Derived.Test.YtcgdimlbbdfdpaaGreatDoorBase16
import Derived.Test.YtcgdimlbbdfdpaaGreatDoorBase17
import Derived.Test.YtcgdimlbbdfdpaaGreatDoorBase18
set_option maxRecDepth 100000
set_option linter.all false
namespace Go.Proofs.YtcgdimlbbdfdpaaGreatDoor
open Go Go.RowKit
def lF (t : iD) (ts : List iD) : Bool := match t with
  | .cb _ _ _ => ts.all iD.isSp && Nat.ble ts.length 3
  | _ => false
theorem con_all : ∀ {t : iD} {ts : List iD}, lF t ts = true → mP t ts
  | .cb q v x, [], _ => con_c q v x 
  | .cb q v x, [.sp1 o0 q0 w0 v0 x0], _ => con_c1 q v x o0 q0 w0 v0 x0
  | .cb q v x, [.sp2 o0 q0 w0 v0 x0 y0 z0], _ => con_c2 q v x o0 q0 w0 v0 x0 y0 z0
  | .cb q v x, [.sp1 o0 q0 w0 v0 x0, .sp1 o1 q1 w1 v1 x1], _ => con_c11 q v x o0 q0 w0 v0 x0 o1 q1 w1 v1 x1
  | .cb q v x, [.sp1 o0 q0 w0 v0 x0, .sp2 o1 q1 w1 v1 x1 y1 z1], _ => con_c12 q v x o0 q0 w0 v0 x0 o1 q1 w1 v1 x1 y1 z1
  | .cb q v x, [.sp2 o0 q0 w0 v0 x0 y0 z0, .sp1 o1 q1 w1 v1 x1], _ => con_c21 q v x o0 q0 w0 v0 x0 y0 z0 o1 q1 w1 v1 x1
  | .cb q v x, [.sp2 o0 q0 w0 v0 x0 y0 z0, .sp2 o1 q1 w1 v1 x1 y1 z1], _ => con_c22 q v x o0 q0 w0 v0 x0 y0 z0 o1 q1 w1 v1 x1 y1 z1
  | .cb q v x, [.sp1 o0 q0 w0 v0 x0, .sp1 o1 q1 w1 v1 x1, .sp1 o2 q2 w2 v2 x2], _ => con_c111 q v x o0 q0 w0 v0 x0 o1 q1 w1 v1 x1 o2 q2 w2 v2 x2
  | .cb q v x, [.sp1 o0 q0 w0 v0 x0, .sp1 o1 q1 w1 v1 x1, .sp2 o2 q2 w2 v2 x2 y2 z2], _ => con_c112 q v x o0 q0 w0 v0 x0 o1 q1 w1 v1 x1 o2 q2 w2 v2 x2 y2 z2
  | .cb q v x, [.sp1 o0 q0 w0 v0 x0, .sp2 o1 q1 w1 v1 x1 y1 z1, .sp1 o2 q2 w2 v2 x2], _ => con_c121 q v x o0 q0 w0 v0 x0 o1 q1 w1 v1 x1 y1 z1 o2 q2 w2 v2 x2
  | .cb q v x, [.sp1 o0 q0 w0 v0 x0, .sp2 o1 q1 w1 v1 x1 y1 z1, .sp2 o2 q2 w2 v2 x2 y2 z2], _ => con_c122 q v x o0 q0 w0 v0 x0 o1 q1 w1 v1 x1 y1 z1 o2 q2 w2 v2 x2 y2 z2
  | .cb q v x, [.sp2 o0 q0 w0 v0 x0 y0 z0, .sp1 o1 q1 w1 v1 x1, .sp1 o2 q2 w2 v2 x2], _ => con_c211 q v x o0 q0 w0 v0 x0 y0 z0 o1 q1 w1 v1 x1 o2 q2 w2 v2 x2
  | .cb q v x, [.sp2 o0 q0 w0 v0 x0 y0 z0, .sp1 o1 q1 w1 v1 x1, .sp2 o2 q2 w2 v2 x2 y2 z2], _ => con_c212 q v x o0 q0 w0 v0 x0 y0 z0 o1 q1 w1 v1 x1 o2 q2 w2 v2 x2 y2 z2
  | .cb q v x, [.sp2 o0 q0 w0 v0 x0 y0 z0, .sp2 o1 q1 w1 v1 x1 y1 z1, .sp1 o2 q2 w2 v2 x2], _ => con_c221 q v x o0 q0 w0 v0 x0 y0 z0 o1 q1 w1 v1 x1 y1 z1 o2 q2 w2 v2 x2
  | .cb q v x, [.sp2 o0 q0 w0 v0 x0 y0 z0, .sp2 o1 q1 w1 v1 x1 y1 z1, .sp2 o2 q2 w2 v2 x2 y2 z2], _ => con_c222 q v x o0 q0 w0 v0 x0 y0 z0 o1 q1 w1 v1 x1 y1 z1 o2 q2 w2 v2 x2 y2 z2
  | .sp1 _ _ _ _ _, _, h => by simp [lF] at h
  | .sp2 _ _ _ _ _ _ _, _, h => by simp [lF] at h
  | .cb _ _ _, .cb _ _ _ :: _, h => by simp [lF, iD.isSp] at h
  | .cb _ _ _, _ :: .cb _ _ _ :: _, h => by simp [lF, iD.isSp] at h
  | .cb _ _ _, _ :: _ :: .cb _ _ _ :: _, h => by simp [lF, iD.isSp] at h
  | .cb _ _ _, _ :: _ :: _ :: _ :: r, h => by
    unfold lF at h
    rw [Bool.and_eq_true] at h
    have := dK h.2
    simp only [List.length_cons] at this
    omega
noncomputable def cnV (tm W H M h : Int) (tip : List Int) (cs : List aJ) (o n : Nat) (hd : List Int) (t : iD) (ts : List iD) : CV := ((pr cTc 38 [.agg (parC tm W H M), ledV h tip cs o n, blkV hd (t :: ts)] aV).val).getD .nils
noncomputable def cnT (h1 : Int) (v : CV) : R CV := .br (sN zsV v).isSome (.ok (erC v)) (.ok (okC h1 v))
noncomputable def conS (l : List CV) (V : Acc) : R CV := match l with
  | [.agg pl, .agg ll, .agg bl] => match parT pl, ledOf ll, blkOf bl with
    | some (tm, W, H, M), some (h, tip, cs, o, n), some (hd, t :: ts) => match pJ V && lF t ts with
      | true => .br (pG H (eX .i64 h 1) && decide (n ≤ 100000)) (cnT (eX .i64 h 1) (cnV tm W H M h tip cs o n hd t ts)) .no
      | false => .no
    | _, _, _ => .no
  | _ => .no
theorem con_pur : bM Tryz.prog 38 conS := pt_pur cTc_ok (by kernel_rfl) (fun l V v h => by
  unfold conS at h
  split at h
  · split at h
    · rename_i pl ll bl _ _ _ tm W H M h0 tip cs o n hd t ts hp hl hb
      obtain rfl := yU hp
      split at h
      · rename_i hts
        rw [Bool.and_eq_true] at hts
        refine ⟨hts.1, fun β us hu => ?_⟩
        have hc : (pG H (eX .i64 h0 1) && decide (n ≤ 100000)) = true := by
          cases hc : (pG H (eX .i64 h0 1) && decide (n ≤ 100000)) with
          | true => rfl
          | false => rw [hc] at h; simp [R.val] at h
        rw [hc] at h
        have h' : (cnT (eX .i64 h0 1) (cnV tm W H M h0 tip cs o n hd t ts)).val = some v := h
        rw [Bool.and_eq_true, decide_eq_true_eq] at hc
        have h3 : ts.length ≤ 3 := by
          have := hts.2
          unfold lF at this
          split at this
          · rw [Bool.and_eq_true] at this
            exact dK this.2
          · simp at this
        obtain ⟨x, k1, k2⟩ := con_val (con_all hts.2) tm W H M h0 tip cs o n hd hc.1 hc.2 h3
        have ex : cnV tm W H M h0 tip cs o n hd t ts = x := by unfold cnV; rw [k1]; rfl
        rw [ex] at h'
        refine ⟨[.agg (parC tm W H M), ledV h0 tip cs o n, blkV hd (t :: ts)], x, ?_, k1, ?_⟩
        · obtain ⟨u1, r1, rfl, q1, u2, r2, rfl, q2, u3, r3, rfl, q3, e4⟩ := hu
          obtain ⟨us2, rfl, q2⟩ := q2
          obtain ⟨us3, rfl, q3⟩ := q3
          exact ⟨u1, _, rfl, q1, _, _, rfl, ⟨us2, rfl, (ledOf_ok hl q2).1⟩, _, _, rfl, ⟨us3, rfl, blkOf_ok hb q3⟩, e4⟩
        · unfold cnT at h'
          cases hE : sN zsV x with
          | some e =>
            rw [hE] at h'
            obtain rfl := Option.some.inj h'
            exact erC_le hE
          | none =>
            rw [hE] at h'
            obtain rfl := Option.some.inj h'
            rcases k2 with ⟨e, he, _⟩ | ⟨m, hm, hm2⟩
            · rw [hE] at he; simp at he
            · exact okC_le hm hm2
      · simp [R.val] at h
    · simp [R.val] at h
  · simp [R.val] at h)
def kP (ts : List iD) : Prop := meet hsK (jn (pr cTc 80 [nJ ts] aV)) = true
theorem root_all : ∀ {t : iD} {ts : List iD}, lF t ts = true → kP (t :: ts)
  | .cb q v x, [], _ => by unfold kP; kernel_rfl
  | .cb q v x, [.sp1 o0 q0 w0 v0 x0], _ => by unfold kP; kernel_rfl
  | .cb q v x, [.sp2 o0 q0 w0 v0 x0 y0 z0], _ => by unfold kP; kernel_rfl
  | .cb q v x, [.sp1 o0 q0 w0 v0 x0, .sp1 o1 q1 w1 v1 x1], _ => by unfold kP; kernel_rfl
  | .cb q v x, [.sp1 o0 q0 w0 v0 x0, .sp2 o1 q1 w1 v1 x1 y1 z1], _ => by unfold kP; kernel_rfl
  | .cb q v x, [.sp2 o0 q0 w0 v0 x0 y0 z0, .sp1 o1 q1 w1 v1 x1], _ => by unfold kP; kernel_rfl
  | .cb q v x, [.sp2 o0 q0 w0 v0 x0 y0 z0, .sp2 o1 q1 w1 v1 x1 y1 z1], _ => by unfold kP; kernel_rfl
  | .cb q v x, [.sp1 o0 q0 w0 v0 x0, .sp1 o1 q1 w1 v1 x1, .sp1 o2 q2 w2 v2 x2], _ => by unfold kP; kernel_rfl
  | .cb q v x, [.sp1 o0 q0 w0 v0 x0, .sp1 o1 q1 w1 v1 x1, .sp2 o2 q2 w2 v2 x2 y2 z2], _ => by unfold kP; kernel_rfl
  | .cb q v x, [.sp1 o0 q0 w0 v0 x0, .sp2 o1 q1 w1 v1 x1 y1 z1, .sp1 o2 q2 w2 v2 x2], _ => by unfold kP; kernel_rfl
  | .cb q v x, [.sp1 o0 q0 w0 v0 x0, .sp2 o1 q1 w1 v1 x1 y1 z1, .sp2 o2 q2 w2 v2 x2 y2 z2], _ => by unfold kP; kernel_rfl
  | .cb q v x, [.sp2 o0 q0 w0 v0 x0 y0 z0, .sp1 o1 q1 w1 v1 x1, .sp1 o2 q2 w2 v2 x2], _ => by unfold kP; kernel_rfl
  | .cb q v x, [.sp2 o0 q0 w0 v0 x0 y0 z0, .sp1 o1 q1 w1 v1 x1, .sp2 o2 q2 w2 v2 x2 y2 z2], _ => by unfold kP; kernel_rfl
  | .cb q v x, [.sp2 o0 q0 w0 v0 x0 y0 z0, .sp2 o1 q1 w1 v1 x1 y1 z1, .sp1 o2 q2 w2 v2 x2], _ => by unfold kP; kernel_rfl
  | .cb q v x, [.sp2 o0 q0 w0 v0 x0 y0 z0, .sp2 o1 q1 w1 v1 x1 y1 z1, .sp2 o2 q2 w2 v2 x2 y2 z2], _ => by unfold kP; kernel_rfl
  | .sp1 _ _ _ _ _, _, h => by simp [lF] at h
  | .sp2 _ _ _ _ _ _ _, _, h => by simp [lF] at h
  | .cb _ _ _, .cb _ _ _ :: _, h => by simp [lF, iD.isSp] at h
  | .cb _ _ _, _ :: .cb _ _ _ :: _, h => by simp [lF, iD.isSp] at h
  | .cb _ _ _, _ :: _ :: .cb _ _ _ :: _, h => by simp [lF, iD.isSp] at h
  | .cb _ _ _, _ :: _ :: _ :: _ :: r, h => by
    unfold lF at h
    rw [Bool.and_eq_true] at h
    have := dK h.2
    simp only [List.length_cons] at this
    omega
def ckTs (l : List CV) : Bool := match l with
  | [.fz x 0 k] => match txsT x with
    | some (t :: ts) => lF t ts && Nat.beq k (t :: ts).length
    | _ => false
  | _ => false
theorem ckTs_ok {l : List CV} (h : ckTs l = true) : ∃ t ts, lF t ts = true ∧ l = [nJ (t :: ts)] := by
  unfold ckTs at h
  split at h
  · rename_i x k
    split at h
    · rename_i t ts hx
      rw [Bool.and_eq_true] at h
      have hk := Nat.eq_of_beq_eq_true h.2
      subst hk
      exact ⟨t, ts, h.1, by rw [txsT_ok hx]; rfl⟩
    · simp at h
  · simp at h
theorem rt_pur : bM Tryz.prog 80 (nmS (pr cTc 80) ckTs hsK) := pI (nY cTc_ok (by kernel_rfl)) (fun l h => by
  obtain ⟨t, ts, h1, rfl⟩ := ckTs_ok h
  exact root_all h1)
noncomputable def cTd : bQ := bT (bT cTc 38 conS) 80 (nmS (pr cTc 80) ckTs hsK)
theorem cTd_ok : gV Tryz.prog cTd := aG (aG cTc_ok con_pur) rt_pur
set_option maxRecDepth 20000
def lenuC (V : Acc) : CV → CV
  | .sl g o n c lo => match V g with
    | some (.cells l _ _) => match Nat.ble n c && Nat.ble 64 g with
      | true => .fz l o n
      | false => .sl g o n c lo
    | _ => .sl g o n c lo
  | c => c
def lenuL (V : Acc) : List CV → List CV
  | [] => []
  | c :: l => lenuC V c :: lenuL V l
def lenuN (V : Acc) (β : Names) (w : World) : Names := ⟨β.ad, β.sz, fun a us => β.sx a us ∨ ∃ g, (V g ≠ none ∧ 64 ≤ g) ∧ β.ad g = some a ∧ ∃ e lo hi, w.heap[a]? = some (.cells us.toArray e (lo, hi)) ∧ (lo = hi ∨ us.length ≤ lo), fun a => β.fp a ∨ ∃ g, (V g ≠ none ∧ 64 ≤ g) ∧ β.ad g = some a⟩
theorem sF {V : Acc} {β : Names} {w : World} : Sub β (lenuN V β w) := ⟨fun _ _ h => ⟨h, rfl⟩, fun _ _ h => Or.inl h⟩
def tabV (V : Acc) : Acc := fun g => match Nat.blt g 64 with
  | true => V g
  | false => none
theorem tabV_ok {V : Acc} {g : Nat} (h : tabV V g ≠ none) : g < 64 ∧ tabV V g = V g := by
  unfold tabV at *
  split at h
  · rename_i hb
    exact ⟨ofLt hb, rfl⟩
  · simp at h
theorem lenu_hv {V : Acc} {β : Names} {w : World} (h : HV V β w) : HV (tabV V) (lenuN V β w) w := by
  have tv : ∀ {n : Nat}, tabV V n ≠ none → V n ≠ none ∧ n < 64 := fun hn => by
    obtain ⟨a, b⟩ := tabV_ok hn
    rw [b] at hn
    exact ⟨hn, a⟩
  refine ⟨fun n o ho => ?_, fun n m a hn hm h1 h2 => h.inj n m a (tv hn).1 (tv hm).1 h1 h2, fun a ha => ⟨?_, fun n hn hna => ?_⟩, fun a us hs w' hw => ?_⟩
  · have q := (tabV_ok (V := V) (g := n) (by rw [ho]; simp)).2
    rw [ho] at q
    obtain ⟨a, ob, k1, k2, k3, k4⟩ := h.at_ n o q.symm
    exact ⟨a, ob, k1, k2, k3.mono sF, k4⟩
  · rcases ha with q | ⟨g, q1, q2⟩
    · exact (h.fpa a q).1
    · exact h.lt q1.1 q2
  · rcases ha with q | ⟨g, q1, q2⟩
    · exact (h.fpa a q).2 n (tv hn).1 hna
    · have := h.inj n g a (tv hn).1 q1.1 hna q2
      have := (tv hn).2
      omega
  · rcases hs with q | ⟨g, q1, q2, e, lo, hi, k1, k2⟩
    · exact h.sxf a us q w' (fun a ha => hw a (Or.inl ha))
    · exact .of (e := e) (fr := (lo, hi)) (by rw [hw a (Or.inr ⟨g, q1, q2⟩)]; exact k1)
theorem lenuC_ok {V : Acc} {β : Names} {w : World} (h : HV V β w) {c : CV} {v : Value} (hc : RV β c v) : RV (lenuN V β w) (lenuC V c) v := by
  unfold lenuC
  split
  · rename_i g o n c lo
    split
    · rename_i l e room hl
      split
      · rename_i hb
        rw [Bool.and_eq_true] at hb
        have hg := dK hb.2
        have hb := dK hb.1
        obtain ⟨a, c', h1, h2, h3, _, _⟩ := hc
        obtain ⟨a', ob, k1, k2, ⟨cs, lo', hi', rfl, k3, k4, k5, k6⟩, _⟩ := h.at_ g _ hl
        rw [h1] at k1
        obtain rfl := Option.some.inj k1
        refine ⟨a, o, c', cs.toList, h2, by omega, Or.inr rfl, Or.inr ⟨g, ⟨by rw [hl]; simp, hg⟩, h1, e, lo', hi', k2, ?_⟩, bJ.of_get ?_ (fun i x hx => ?_)⟩
        · simpa using k5
        · have e1 : cs.toList.length = cs.size := Array.length_toList
          rw [List.length_take]; omega
        · obtain ⟨u, q1, q2⟩ := k6 i x hx
          refine ⟨u, ?_, q2.mono sF⟩
          have := (List.getElem?_eq_some_iff.1 hx).1
          rw [List.getElem?_take, if_pos this, Array.getElem?_toList]
          exact q1
      · exact hc.mono sF
    · exact hc.mono sF
  · exact hc.mono sF
theorem lenuL_ok {V : Acc} {β : Names} {w : World} (h : HV V β w) : ∀ {l : List CV} {us : List Value}, bJ β l us → bJ (lenuN V β w) (lenuL V l) us
  | [], _, hu => hu
  | _ :: _, _, ⟨u, r, e, h1, h2⟩ => ⟨u, r, e, lenuC_ok h h1, lenuL_ok h h2⟩
noncomputable def lenuS (s : List CV → Acc → R CV) (l : List CV) (V : Acc) : R CV := (s (lenuL V l) (tabV V)).bind bareR
theorem lenuS_ok {P : Program} {f : FuncId} {s : List CV → Acc → R CV} (hs : bM P f s) : bM P f (lenuS s) := by
  intro l V v h β args w nx hG hR hV
  unfold lenuS at h
  obtain ⟨x, h1, h2⟩ := R.bind_some h
  unfold bareR at h2
  split at h2
  · rename_i hb
    obtain rfl := Option.some.inj h2
    refine fB (hs _ _ _ h1 (lenuN V β w) args w nx hG (lenuL_ok hV hR) (lenu_hv hV)) (fun u w' ⟨β', q1, q2, q3⟩ => ?_)
    have tr : pK β β nx nx [] w w' := ⟨fun _ _ => ⟨rfl, rfl⟩, fun _ _ h => h, fun _ h => h, fun _ h => Or.inl h, Nat.le_refl _, q1.upd.mono (fun _ ⟨_, hp, _⟩ => absurd hp List.not_mem_nil), fun m a h1 h2 => by omega⟩
    have up : ∀ a, a < w.heap.size → w'.heap[a]? = w.heap[a]? := fun a ha => tr.upd.block a ha (fun ⟨p, hp, _⟩ => by simp at hp)
    refine ⟨β, tr, bareC_ok hb q2, fun n o ho => ?_, hV.inj, fun a ha => ⟨Nat.lt_of_lt_of_le (hV.fpa a ha).1 tr.upd.size, (hV.fpa a ha).2⟩, fun a us ha w2 hw => hV.sxf a us ha w2 (fun b hb => (hw b hb).trans (up b (hV.fpa b hb).1))⟩
    obtain ⟨a, ob, k1, k2, k3, k4⟩ := hV.at_ n o ho
    exact ⟨a, ob, k1, by rw [up a (Array.getElem?_eq_some_iff.1 k2).1]; exact k2, k3, k4⟩
  · simp [R.val] at h2
noncomputable def cTe : bQ := bT (bT (bT (bT cTd 80 (lenuS (nmS (pr cTc 80) ckTs hsK))) 77 (jpx cTd 77)) 7 (jpx cTd 7)) 81 (jpx cTd 81)
theorem cTe_ok : gV Tryz.prog cTe := aG (aG (aG (aG cTd_ok (lenuS_ok rt_pur)) (nM cTd_ok (by kernel_rfl))) (nM cTd_ok (by kernel_rfl))) (nM cTd_ok (by kernel_rfl))
end Go.Proofs.YtcgdimlbbdfdpaaGreatDoor
