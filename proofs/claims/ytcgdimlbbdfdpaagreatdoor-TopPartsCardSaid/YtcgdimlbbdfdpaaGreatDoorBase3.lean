/-
  What this statement needs, part 3: the texts of it, one behind the other.
-/
import Derived.Test.YtcgdimlbbdfdpaaGreatDoorBase2
set_option maxRecDepth 100000
set_option linter.all false
namespace Go.Proofs.YtcgdimlbbdfdpaaGreatDoor
open Go Go.RowKit
section
variable {P : Program} {CT : bQ} {call : mY}
def iP (P : Program) (CT : bQ) (call : mY) : Prop :=
  ∀ (ban : List (Nat × Nat)) (H : Tr HO) (nx : Nat) (f : FuncId) (l : List CV) (out : Out), (callK CT call ban H nx f l).val = some out → nx ≤ out.nx → (∀ x ∈ ban, x.2 ≤ nx) → (∀ n, acc ban H n ≠ none → n < nx) →
    nR (acc ban H) H nx out ∧ ∀ (β : Names) (args : Array Value), Gl β → bJ β l args.toList → OpS P (callFunc f args) (acc ban H) β nx out.v out.H out.nx out.puts
theorem evL_ok {β : Names} {fr : dV} {A : Act} (hG : Gl β) (hF : RF β fr A) : ∀ {xs : List Operand} {as : List yZ} {l : List CV}, cmpL xs = some as → evL fr as = some l → bJ β l (xs.map A.eval)
  | [], as, l, h, e => by
    simp only [cmpL, Option.some.injEq] at h
    subst h
    simp only [evL, Option.some.injEq] at e
    subst e
    rfl
  | x :: xs, as, l, h, e => by
    unfold cmpL at h
    split at h
    · rename_i a r ha hr
      simp only [Option.some.injEq] at h
      subst h
      unfold evL at e
      split at e
      · rename_i c hc
        split at e
        · rename_i l' hl
          simp only [Option.some.injEq] at e
          subst e
          exact ⟨_, _, rfl, aW ha hG hF hc, evL_ok hG hF hr hl⟩
        · simp at e
      · simp at e
    · simp at h
structure OpK (P : Program) (o : Oper) (ban : List (Nat × Nat)) (fr : dV) (H : Tr HO) (nx : Nat) (out : Out) (tch : Option (List Nat)) : Prop where
  frc : nR (acc ban H) H nx out
  real : ∀ (β : Names) (A : Act), Gl β → RF β fr A → OpS P (execOp A.eval o) (acc ban H) β nx out.v out.H out.nx out.puts
  near : ∀ l, tch = some l → out.puts = [] ∧ ∀ (β : Names) (A : Act) (V : Acc), Gl β → RF β fr A → (∀ g, g ∈ l → V g = acc ban H g) → OpS P (execOp A.eval o) V β nx out.v out.H out.nx out.puts
theorem opC_ok {op : Op} {kd : Kd} (hk : cmpK P op = some kd) {o : Oper} (ho : o.op = op) (hC : iP P CT call) {ban : List (Nat × Nat)} {fr : dV} {H : Tr HO} {nx : Nat} (hbn : ∀ x ∈ ban, x.2 ≤ nx) (hdm : ∀ n, acc ban H n ≠ none → n < nx) {α : Type} {kk : CV → Tr HO → Nat → List Nat → Option (List Nat) → R α} {r : α} (h : (opC CT call ban fr H nx kd kk).val = some r) :
    ∃ out tch, (kk out.v out.H out.nx out.puts tch).val = some r ∧ OpK P o ban fr H nx out tch := by
  have plain : ∀ f, cmpP P op = some f → kd = .p f → ∃ out tch, (kk out.v out.H out.nx out.puts tch).val = some r ∧ OpK P o ban fr H nx out tch := by
    rintro f hf rfl
    unfold opC at h
    simp only at h
    split at h
    · rename_i c hc
      have main : ∀ (β : Names) (A : Act) (V : Acc), Gl β → RF β fr A → OpS P (execOp A.eval o) V β nx c H nx [] := fun β A V hG hF => by
        have k := cmpP_ok (nx := nx) hf ho hG hF
        rw [hc] at k
        exact opS_v k
      exact ⟨⟨c, H, nx, []⟩, some [], h, dS, fun β A hG hF => main β A _ hG hF, fun l _ => ⟨rfl, fun β A V hG hF _ => main β A V hG hF⟩⟩
    · rename_i b c hc
      cases b with
      | false => simp [R.val] at h
      | true =>
        have main : ∀ (β : Names) (A : Act) (V : Acc), Gl β → RF β fr A → OpS P (execOp A.eval o) V β nx c H nx [] := fun β A V hG hF => by
          have k := cmpP_ok (nx := nx) hf ho hG hF
          rw [hc] at k
          exact opS_v (k rfl)
        exact ⟨⟨c, H, nx, []⟩, some [], h, dS, fun β A hG hF => main β A _ hG hF, fun l _ => ⟨rfl, fun β A V hG hF _ => main β A V hG hF⟩⟩
    · rename_i c ob hc
      have main : ∀ (β : Names) (A : Act) (V : Acc), Gl β → RF β fr A → OpS P (execOp A.eval o) V β nx c (H.set nx ob) (nx + 1) [] := fun β A V hG hF => by
        have k := cmpP_ok (nx := nx) hf ho hG hF
        rw [hc] at k
        exact opS_w k
      exact ⟨⟨c, H.set nx ob, nx + 1, []⟩, some [], h, uJ, fun β A hG hF => main β A _ hG hF, fun l _ => ⟨rfl, fun β A V hG hF _ => main β A V hG hF⟩⟩
    · simp [R.val] at h
  unfold cmpK at hk
  split at hk
  · rename_i t a
    split at hk
    · rename_i ag n x hag hz hx
      obtain rfl := Option.some.inj hk
      unfold opC at h
      simp only at h
      split at h
      · rename_i g off hp
        split at h
        · rename_i ob hob
          split at h
          · rename_i v hv
            have main : ∀ (β : Names) (A : Act) (V : Acc), Gl β → RF β fr A → V g = acc ban H g → OpS P (execOp A.eval o) V β nx v H nx [] := fun β A V hG hF hV => load_ok hag hz hx ho hG hF hp (hV.trans hob) hv
            exact ⟨⟨v, H, nx, []⟩, some [g], h, dS, fun β A hG hF => main β A _ hG hF rfl, fun l hl => ⟨rfl, fun β A V hG hF hV => main β A V hG hF (hV g (by rw [← Option.some.inj hl]; simp))⟩⟩
          · simp [R.val] at h
        · simp [R.val] at h
      · rename_i g i j hp
        split at h
        · rename_i cs hob
          split at h
          · rename_i v hv
            cases hd : decide (i < cs.length) with
            | false => rw [hd] at h; simp [R.val] at h
            | true =>
              rw [hd] at h
              have hi := of_decide_eq_true hd
              have main : ∀ (β : Names) (A : Act) (V : Acc), Gl β → RF β fr A → V g = acc ban H g → OpS P (execOp A.eval o) V β nx v H nx [] := fun β A V hG hF hV => loadp_ok hag hz hx ho hG hF hp (hV.trans hob) hi hv
              exact ⟨⟨v, H, nx, []⟩, some [g], h, dS, fun β A hG hF => main β A _ hG hF rfl, fun l hl => ⟨rfl, fun β A V hG hF hV => main β A V hG hF (hV g (by rw [← Option.some.inj hl]; simp))⟩⟩
          · simp [R.val] at h
        · simp [R.val] at h
      · rename_i l off hp
        split at h
        · rename_i v hv
          have main : ∀ (β : Names) (A : Act) (V : Acc), Gl β → RF β fr A → OpS P (execOp A.eval o) V β nx v H nx [] := fun β A V hG hF => loadfp_ok hag hz hx ho hG hF hp hv
          exact ⟨⟨v, H, nx, []⟩, some [], h, dS, fun β A hG hF => main β A _ hG hF, fun l _ => ⟨rfl, fun β A V hG hF _ => main β A V hG hF⟩⟩
        · simp [R.val] at h
      · rename_i r i j hp
        split at h
        · rename_i v hv
          have main : ∀ (β : Names) (A : Act) (V : Acc), Gl β → RF β fr A → OpS P (execOp A.eval o) V β nx v H nx [] := fun β A V hG hF => loadfq_ok hag hz hx ho hG hF hp hv
          exact ⟨⟨v, H, nx, []⟩, some [], h, dS, fun β A hG hF => main β A _ hG hF, fun l _ => ⟨rfl, fun β A V hG hF _ => main β A V hG hF⟩⟩
        · simp [R.val] at h
      · rename_i l off m s z j hp
        obtain ⟨i, hi, k⟩ := qK h
        subst hi
        replace h := k
        clear k
        split at h
        · rename_i v hv
          have main : ∀ (β : Names) (A : Act) (V : Acc), Gl β → RF β fr A → OpS P (execOp A.eval o) V β nx v H nx [] := fun β A V hG hF => loadfx_ok hag hz hx ho hG hF hp hv
          exact ⟨⟨v, H, nx, []⟩, some [], h, dS, fun β A hG hF => main β A _ hG hF, fun l _ => ⟨rfl, fun β A V hG hF _ => main β A V hG hF⟩⟩
        · simp [R.val] at h
      · simp [R.val] at h
    · simp at hk
  · rename_i fv as ts
    split at hk
    · rename_i fo l hf hl
      obtain rfl := Option.some.inj hk
      unfold opC at h
      simp only at h
      split at h
      · rename_i f cap cs h1 h2
        obtain ⟨out, k1, k2⟩ := R.bind_some h
        split at k2
        · rename_i hb
          have hc := hC ban H nx f (cs ++ cap) out k1 (dK hb) hbn hdm
          refine ⟨out, none, k2, hc.1, fun β A hG hF => ?_, fun l hl => by simp at hl⟩
          obtain ⟨us, e1, e2⟩ := aW hf hG hF h1
          have ra := evL_ok hG hF hl h2
          have e0 : execOp A.eval o = callFunc f ((#[] ++ Array.map A.eval ⟨as⟩) ++ us) := by
            unfold execOp
            rw [ho]
            simp only [resolve, e1, Deferred.ofValue]
            rfl
          rw [e0]
          refine hc.2 β _ hG ?_
          have := ra.append e2
          simpa using this
        · simp [R.val] at k2
      · simp [R.val] at h
    · simp at hk
  · split at hk
    · rename_i f hf
      exact plain f hf (Option.some.inj hk).symm
    · split at hk
      · rename_i f hf
        obtain rfl := Option.some.inj hk
        unfold opC at h
        simp only at h
        split at h
        · rename_i x hx
          split at h
          · rename_i hb
            exact ⟨x, none, h, cmpM_fr hf hx, fun β A hG hF => (cmpM_ok hf ho hG hF hdm hx).1, fun l hl => by simp at hl⟩
          · simp [R.val] at h
        · obtain ⟨x, k1, k2⟩ := R.bind_some h
          split at k2
          · rename_i hb
            exact ⟨x, none, k2, qAp_fr k1, fun β A hG hF => (qAp_ok k1 ho hG hF hdm).1, fun l hl => by simp at hl⟩
          · simp [R.val] at k2
      · simp at hk
end
section
variable {P : Program} {CT : bQ} {call : mY}
theorem opC_mono {ban : List (Nat × Nat)} {fr : dV} {H : Tr HO} {nx : Nat} {kd : Kd} {α : Type} {kk : CV → Tr HO → Nat → List Nat → Option (List Nat) → R α} {r : α} (h : (opC CT call ban fr H nx kd kk).val = some r) : ∃ v H' nx' puts tch, nx ≤ nx' ∧ (kk v H' nx' puts tch).val = some r := by
  unfold opC at h
  split at h
  · split at h
    · exact ⟨_, _, _, _, _, Nat.le_refl _, h⟩
    · rename_i b c _
      cases b with
      | false => simp [R.val] at h
      | true => exact ⟨_, _, _, _, _, Nat.le_refl _, h⟩
    · exact ⟨_, _, _, _, _, Nat.le_succ _, h⟩
    · simp [R.val] at h
  · split at h
    · split at h
      · split at h
        · exact ⟨_, _, _, _, _, Nat.le_refl _, h⟩
        · simp [R.val] at h
      · simp [R.val] at h
    · rename_i g i j _
      split at h
      · rename_i cs _
        split at h
        · cases hd : decide (i < cs.length) with
          | false => rw [hd] at h; simp [R.val] at h
          | true => rw [hd] at h; exact ⟨_, _, _, _, _, Nat.le_refl _, h⟩
        · simp [R.val] at h
      · simp [R.val] at h
    · split at h
      · exact ⟨_, _, _, _, _, Nat.le_refl _, h⟩
      · simp [R.val] at h
    · split at h
      · exact ⟨_, _, _, _, _, Nat.le_refl _, h⟩
      · simp [R.val] at h
    · obtain ⟨_, _, k⟩ := qK h
      replace h := k
      clear k
      split at h
      · exact ⟨_, _, _, _, _, Nat.le_refl _, h⟩
      · simp [R.val] at h
    · simp [R.val] at h
  · split at h
    · split at h
      · rename_i hb
        exact ⟨_, _, _, _, _, dK hb, h⟩
      · simp [R.val] at h
    · obtain ⟨x, _, h⟩ := R.bind_some h
      split at h
      · rename_i hb
        exact ⟨_, _, _, _, _, dK hb, h⟩
      · simp [R.val] at h
  · split at h
    · obtain ⟨x, _, h⟩ := R.bind_some h
      split at h
      · rename_i hb
        exact ⟨_, _, _, _, _, dK hb, h⟩
      · simp [R.val] at h
    · simp [R.val] at h
theorem guardC_or {α : Type} {g : Option (List Bool × Bool)} {fr : dV} {go pass : dV → R α} {r : α} (h : (guardC g fr go pass).val = some r) : ∃ fr', (go fr').val = some r ∨ (pass fr').val = some r := by
  unfold guardC at h
  split at h
  · exact ⟨_, Or.inl h⟩
  · split at h
    · split at h
      · exact ⟨_, Or.inl h⟩
      · exact ⟨_, Or.inr h⟩
    · rename_i c _
      split at h <;> cases c
      · exact ⟨_, Or.inr h⟩
      · exact ⟨_, Or.inl h⟩
      · exact ⟨_, Or.inl h⟩
      · exact ⟨_, Or.inr h⟩
    · exact ⟨_, Or.inr h⟩
    · simp [R.val] at h
theorem seqC_cons (base : Nat) (ban : List (Nat × Nat)) (o : Ins) (l : List Ins) (s : aP) : seqC CT call base ban (o :: l) s = stepS CT call base ban o (seqC CT call base ban l) s := rfl
theorem uF {base : Nat} {ban : List (Nat × Nat)} : ∀ {l : List Ins} {s s' : aP}, (seqC CT call base ban l s).val = some s' → s.nx ≤ s'.nx
  | [], s, s', h => by
    have e := Option.some.inj h
    rw [← e]
    exact Nat.le_refl _
  | o :: l, s, s', h => by
    rw [seqC_cons] at h
    unfold stepS at h
    obtain ⟨fr, k | k⟩ := guardC_or h
    · obtain ⟨v, H, nx, puts, tch, h1, h2⟩ := opC_mono k
      exact Nat.le_trans h1 (uF h2)
    · exact uF (s := ⟨setD fr o.d (.tup []), s.H, s.nx, s.wr⟩) k
theorem RF.refine {β : Names} {fr : dV} {A : Act} (h : RF β fr A) {t : Nat} {c' : CV} {u : Value} (ht : A.tmps[t]? = some u) (hc : RV β c' u) : RF β (fr.put (some c') (way t)) A := by
  intro x c hx
  have e : (fr.put (some c') (way t)).get x = (Tr.set fr t c').get x := rfl
  rw [e, Tr.get_set] at hx
  by_cases hk : t = x
  · rw [if_pos hk] at hx
    obtain rfl := Option.some.inj hx
    subst hk
    exact ⟨u, ht, hc⟩
  · rw [if_neg hk] at hx
    exact h x c hx
theorem guardC_ok {ops : Array Oper} {o : Oper} {g : Option (List Bool × Bool)} (hg : cmpG ops.toList o.guard = some g) {β : Names} {fr : dV} {A : Act} (hF : RF β fr A) {α : Type} {go pass : dV → R α} {r : α} (h : (guardC g fr go pass).val = some r) : ∃ fr', RF β fr' A ∧ ((Region.wanted o (yielded ops A.tmps) = true ∧ (go fr').val = some r) ∨ (Region.wanted o (yielded ops A.tmps) = false ∧ (pass fr').val = some r)) := by
  unfold cmpG at hg
  cases hgd : o.guard with
  | none =>
    rw [hgd] at hg
    simp only [Option.some.injEq] at hg
    subst hg
    exact ⟨fr, hF, Or.inl ⟨by unfold Region.wanted; rw [hgd], h⟩⟩
  | some p =>
    obtain ⟨i, want⟩ := p
    rw [hgd] at hg
    simp only at hg
    split at hg
    · rename_i t ht
      obtain rfl := Option.some.inj hg
      have hy : ∀ c, A.tmps[t]? = some (.bool c) → Region.wanted o (yielded ops A.tmps) = (c == want) := by
        intro c hc
        unfold Region.wanted
        rw [hgd]
        unfold slotOf at ht
        rw [Array.getElem?_toList] at ht
        simp only [yielded, ht, Option.bind_some, hc]
        rfl
      have hn : ∀ u, A.tmps[t]? = some u → RV β (.tup []) u → Region.wanted o (yielded ops A.tmps) = false := by
        intro u hu h2
        obtain ⟨us, rfl, _⟩ := h2
        unfold Region.wanted
        rw [hgd]
        unfold slotOf at ht
        rw [Array.getElem?_toList] at ht
        simp only [yielded, ht, Option.bind_some, hu]
        rfl
      unfold guardC at h
      simp only at h
      split at h
      · rename_i c hc
        obtain ⟨u, h1, h2⟩ := hF t _ hc
        simp only [RV] at h2
        subst h2
        have e := hy c h1
        split at h
        · rename_i hq; exact ⟨fr, hF, Or.inl ⟨e.trans hq, h⟩⟩
        · rename_i hq; exact ⟨fr, hF, Or.inr ⟨e.trans (by simpa using hq), h⟩⟩
      · rename_i c hc
        obtain ⟨u, h1, h2⟩ := hF t _ hc
        simp only [RV] at h2
        subst h2
        have e := hy c h1
        have k : ∀ c', c = c' → RF β (fr.put (some (.bool false c')) (way t)) A := fun c' hh => hF.refine h1 (by simp only [RV]; rw [hh])
        split at h <;> cases c
        · exact ⟨_, k false rfl, Or.inr ⟨e, h⟩⟩
        · exact ⟨_, k true rfl, Or.inl ⟨e, h⟩⟩
        · exact ⟨_, k false rfl, Or.inl ⟨e, h⟩⟩
        · exact ⟨_, k true rfl, Or.inr ⟨e, h⟩⟩
      · rename_i hc
        obtain ⟨u, h1, h2⟩ := hF t _ hc
        exact ⟨fr, hF, Or.inr ⟨hn u h1 h2, h⟩⟩
      · simp [R.val] at h
    · simp at hg
theorem Inv.frame {β0 : Names} {n0 N : Nat} {w0 : World} {ban : List (Nat × Nat)} {s : aP} {β : Names} {A A' : Act} {w : World} (h : Inv β0 n0 N w0 ban s β A w) {fr : dV} (hf : RF β fr A') (hs : A'.tmps.size = N) (hd : A'.defers = []) : Inv β0 n0 N w0 ban ⟨fr, s.H, s.nx, s.wr⟩ β A' w :=
  ⟨h.gl, hf, hs, h.hv, h.tr, hd⟩
theorem okD_ok {N : Nat} {d : Option Nat} (h : okD N d = true) : ∀ t, d = some t → t < N := by
  rintro t rfl
  exact Nat.blt_eq ▸ h
theorem seqC_ok (hC : iP P CT call) {ops : Array Oper} {Q : Exit → Act → World → Prop} {β0 : Names} {n0 N : Nat} {w0 : World} {ban : List (Nat × Nat)} {H0 : Tr HO} {s' : aP} (ht : mW β0 n0 s'.nx) (hq : ∀ β A w, Inv β0 n0 N w0 ban s' β A w → Pu n0 ban H0 s' → Q .normal A w) : ∀ {r : List Oper} {j : Nat} {l : List Ins}, ops.toList.drop j = r → cmpI P N ops.toList j r = some l → ∀ {s : aP} {β : Names} {A : Act} {w : World}, (seqC CT call n0 ban l s).val = some s' → Inv β0 n0 N w0 ban s β A w → Pu n0 ban H0 s → wpOps P ops Q (List.range' j r.length) A w
  | [], j, l, hr, hc, s, β, A, w, h, hI, pu => by
    simp only [cmpI, Option.some.injEq] at hc
    subst hc
    obtain rfl := Option.some.inj h
    exact hq β A w hI pu
  | o :: r, j, l, hr, hc, s, β, A, w, h, hI, pu => by
    unfold cmpI at hc
    split at hc
    · rename_i k g l' h1 h2 h3 h4
      obtain rfl := Option.some.inj hc
      have ho : ops[j]? = some o := by
        rw [← Array.getElem?_toList, ← List.head?_drop, hr]; rfl
      have hr' : ops.toList.drop (j + 1) = r := by
        rw [← List.tail_drop, hr]; rfl
      have hd := okD_ok h3
      rw [seqC_cons] at h
      unfold stepS at h
      obtain ⟨fr, hF, ⟨hw, k1⟩ | ⟨hw, k1⟩⟩ := guardC_ok h2 hI.fr h
      · simp only [List.length_cons, List.range'_succ, wpOps, ho, hw, if_true]
        left
        obtain ⟨out, tch, q1, q2⟩ := opC_ok h1 rfl hC pu.bans pu.dom k1
        have hI' := hI.frame hF hI.size hI.dfr
        have pu' : Pu n0 ban H0 ⟨fr, s.H, s.nx, s.wr⟩ := ⟨pu.le, pu.bnd, pu.dom, pu.kp, pu.kq, pu.lg⟩
        refine opw_wp (hI'.step pu' ht hd (uF q1) q2.frc (q2.real β A hI.gl hF)) (fun u w' ⟨β', hn⟩ => ?_)
        exact seqC_ok hC ht hq hr' h4 q1 hn (pu.after q2.frc _)
      · simp only [List.length_cons, List.range'_succ, wpOps, ho, hw, Bool.false_eq_true, if_false]
        have hI' := hI.frame (A' := A.put o.dst undef) (hF.put (Sub.refl _) (fun t ht => by rw [hI.size]; exact hd t ht) (c := .tup []) (u := undef) ⟨#[], rfl, rfl⟩) (by rw [put_size]; exact hI.size) (by rw [put_defs]; exact hI.dfr)
        exact seqC_ok hC ht hq hr' h4 k1 hI' ⟨pu.le, pu.bnd, pu.dom, pu.kp, pu.kq, pu.lg⟩
    · simp at hc
theorem reg_ok (hC : iP P CT call) {id : Nat} {ops : Array Oper} {Q : Exit → Act → World → Prop} {β0 : Names} {n0 N : Nat} {w0 : World} {ban : List (Nat × Nat)} {H0 : Tr HO} {s' : aP} (ht : mW β0 n0 s'.nx) (hq : ∀ β A w, Inv β0 n0 N w0 ban s' β A w → Pu n0 ban H0 s' → Q .normal A w) {l : List Ins} (hc : cmpI P N ops.toList 0 ops.toList = some l) {s : aP} {β : Names} {A : Act} {w : World} (h : (seqC CT call n0 ban l s).val = some s') (hI : Inv β0 n0 N w0 ban s β A w) (pu : Pu n0 ban H0 s) : (Code.region id ops false).wp P Q A w := by
  refine wp_region ?_
  have k := seqC_ok hC ht hq (j := 0) (r := ops.toList) rfl hc h hI pu
  rw [List.range_eq_range', ← Array.length_toList]
  exact k
end
section
variable {P : Program}
theorem HV.frame {C V : Acc} {H : Tr HO} {β β' : Names} {lo hi : Nat} {puts : List Nat} {w w' : World} (hC : HV C β w) (hVC : ∀ n o, V n = some o → C n = some o) (hp : ∀ p ∈ puts, V p ≠ none) (ht : pK β β' lo hi puts w w') (hf : mW β lo hi) (hn : ∀ n, lo ≤ n → n < hi → C n = none) (h : HV (nS V H lo hi puts) β' w') : HV (nS C H lo hi puts) β' w' := by
  have pC : ∀ p ∈ puts, C p ≠ none := fun p hq => by
    obtain ⟨o, ho⟩ := Option.ne_none_iff_exists'.1 (hp p hq)
    rw [hVC p o ho]; simp
  have hs := ht.sub hf
  -- an old name: its block is as it was
  have old : ∀ n o, ¬ ((lo ≤ n ∧ n < hi) ∨ n ∈ puts) → C n = some o → ∃ a ob, β.ad n = some a ∧ β'.ad n = some a ∧ w.heap[a]? = some ob ∧ w'.heap[a]? = some ob ∧ RO β o ob ∧ β'.sz n = iQ ob ∧ ¬ Im β puts a := by
    intro n o hn' ho
    obtain ⟨a, ob, h1, h2, h3, h4⟩ := hC.at_ n o ho
    have hni : ¬ Im β puts a := by
      rintro ⟨p, hq, hpa⟩
      have := hC.inj n p a (by rw [ho]; simp) (pC p hq) h1 hpa
      exact hn' (Or.inr (this ▸ hq))
    have hlt := (Array.getElem?_eq_some_iff.1 h2).1
    exact ⟨a, ob, h1, (hs.nm n a h1).1, h2, by rw [ht.upd.block a hlt hni]; exact h2, h3, by rw [(hs.nm n a h1).2]; exact h4, hni⟩
  have new : ∀ n, ((lo ≤ n ∧ n < hi) ∨ n ∈ puts) → nS C H lo hi puts n = nS V H lo hi puts n := by
    intro n hn'
    unfold nS
    rw [if_pos hn', if_pos hn']
  have oldv : ∀ n, ¬ ((lo ≤ n ∧ n < hi) ∨ n ∈ puts) → nS C H lo hi puts n = C n := by
    intro n hn'
    unfold nS
    rw [if_neg hn']
  -- a new name's block is no old name's
  have apart : ∀ n m a, ((lo ≤ n ∧ n < hi) ∨ n ∈ puts) → ¬ ((lo ≤ m ∧ m < hi) ∨ m ∈ puts) → C m ≠ none → β'.ad n = some a → β'.ad m = some a → False := by
    intro n m a hn' hm' hCm hna hma
    obtain ⟨o, ho⟩ := Option.ne_none_iff_exists'.1 hCm
    obtain ⟨b, ob, k1, k2, k3, _, _, _, k4⟩ := old m o hm' ho
    rw [hma] at k2
    obtain rfl := Option.some.inj k2
    by_cases hb : lo ≤ n ∧ n < hi
    · rcases ht.born n a hb.1 hb.2 hna with q | q
      · have := (Array.getElem?_eq_some_iff.1 k3).1
        omega
      · exact k4 q
    · have hpn := hn'.resolve_left hb
      rw [(ht.ext n (by omega)).1] at hna
      exact k4 ⟨n, hpn, hna⟩
  have fpb : ∀ b, β.fp b → w'.heap[b]? = w.heap[b]? := fun b hb => ht.upd.block b (hC.fpa b hb).1 (by
    rintro ⟨p, hq, hpa⟩
    exact (hC.fpa b hb).2 p (pC p hq) hpa)
  have fpq : ∀ b, β'.fp b → ∀ m, nS C H lo hi puts m ≠ none → β'.ad m ≠ some b := by
    intro b hb m hm hma
    by_cases hk : (lo ≤ m ∧ m < hi) ∨ m ∈ puts
    · rw [new m hk] at hm
      exact (h.fpa b hb).2 m hm hma
    · rw [oldv m hk] at hm
      obtain ⟨o, ho⟩ := Option.ne_none_iff_exists'.1 hm
      obtain ⟨a, ob, k1, k2, k3, _⟩ := old m o hk ho
      rw [hma] at k2
      obtain rfl := Option.some.inj k2
      rcases ht.fpn b hb with q | q
      · exact (hC.fpa b q).2 m hm k1
      · have := (Array.getElem?_eq_some_iff.1 k3).1
        omega
  refine ⟨fun n o ho => ?_, fun n m a hn' hm' hna hma => ?_, fun b hb => ⟨(h.fpa b hb).1, fpq b hb⟩, h.sxf⟩
  · by_cases hk : (lo ≤ n ∧ n < hi) ∨ n ∈ puts
    · rw [new n hk] at ho
      exact h.at_ n o ho
    · rw [oldv n hk] at ho
      obtain ⟨a, ob, k1, k2, k3, k4, k5, k6, _⟩ := old n o hk ho
      exact ⟨a, ob, k2, k4, k5.mono hs, k6⟩
  · by_cases hk : (lo ≤ n ∧ n < hi) ∨ n ∈ puts <;> by_cases hl : (lo ≤ m ∧ m < hi) ∨ m ∈ puts
    · rw [new n hk] at hn'
      rw [new m hl] at hm'
      exact h.inj n m a hn' hm' hna hma
    · rw [oldv m hl] at hm'
      exact (apart n m a hk hl hm' hna hma).elim
    · rw [oldv n hk] at hn'
      exact (apart m n a hl hk hn' hma hna).elim
    · rw [oldv n hk] at hn'
      rw [oldv m hl] at hm'
      obtain ⟨o, ho⟩ := Option.ne_none_iff_exists'.1 hn'
      obtain ⟨o', ho'⟩ := Option.ne_none_iff_exists'.1 hm'
      obtain ⟨b, _, k1, k2, _⟩ := old n o hk ho
      obtain ⟨c, _, q1, q2, _⟩ := old m o' hl ho'
      rw [hna] at k2
      rw [hma] at q2
      obtain rfl := Option.some.inj k2
      obtain rfl := Option.some.inj q2
      exact hC.inj n m a hn' hm' k1 q1
structure Ev where
  j : Nat
  dep : Nat
  V : Acc
  H : Tr HO
  lo : Nat
  hi : Nat
  puts : List Nat
  tch : Option (List Nat)
  t : Option Nat
  v : CV
  fr : dV
def Ev.at_ (e : Ev) (n : Nat) : Prop := (e.lo ≤ n ∧ n < e.hi) ∨ n ∈ e.puts
noncomputable def cont (D : Nat → Bool) (V0 : Acc) : List Ev → Acc
  | [] => V0
  | e :: es => match D e.j with
    | true => nS (cont D V0 es) e.H e.lo e.hi e.puts
    | false => cont D V0 es
theorem aft_at {V : Acc} {e : Ev} {n : Nat} (h : e.at_ n) : nS V e.H e.lo e.hi e.puts n = e.H.get n := by unfold nS; exact if_pos h
theorem aft_not {V : Acc} {e : Ev} {n : Nat} (h : ¬ e.at_ n) : nS V e.H e.lo e.hi e.puts n = V n := by unfold nS; exact if_neg h
theorem vG {D D' : Nat → Bool} {V0 : Acc} {n : Nat} : ∀ {es : List Ev}, (∀ e ∈ es, D e.j = D' e.j ∨ ¬ e.at_ n) → cont D V0 es n = cont D' V0 es n
  | [], _ => rfl
  | e :: es, h => by
    have ih := vG (V0 := V0) (es := es) (fun x hx => h x (by simp [hx]))
    by_cases hn : e.at_ n
    · have hd := (h e (by simp)).resolve_right (fun k => k hn)
      simp only [cont, hd]
      cases D' e.j with
      | true => simp only []; rw [aft_at hn, aft_at hn]
      | false => exact ih
    · simp only [cont]
      cases D e.j <;> cases D' e.j <;> simp only [] <;> (try rw [aft_not hn]) <;> (try rw [aft_not hn]) <;> exact ih
theorem uO {D : Nat → Bool} {V0 : Acc} {n : Nat} {es : List Ev} : ∀ {later : List Ev}, (∀ e ∈ later, D e.j = false ∨ ¬ e.at_ n) → cont D V0 (later ++ es) n = cont D V0 es n
  | [], _ => rfl
  | e :: later, h => by
    have ih := uO (V0 := V0) (es := es) (later := later) (fun x hx => h x (by simp [hx]))
    rw [List.cons_append]
    simp only [cont]
    rcases h e (by simp) with k | k
    · rw [k]; exact ih
    · cases D e.j with
      | true => simp only []; rw [aft_not k]; exact ih
      | false => exact ih
theorem cont_add {D D' : Nat → Bool} {V0 : Acc} {n : Nat} {later es : List Ev} {x : Ev} (hj : D' x.j = true) (hs : ∀ e ∈ later ++ x :: es, e.at_ n → x.at_ n ∨ D' e.j = D e.j) (hl : ∀ e ∈ later, D' e.j = false ∨ ¬ (e.at_ n ∧ x.at_ n)) : cont D' V0 (later ++ x :: es) n = nS (cont D V0 (later ++ x :: es)) x.H x.lo x.hi x.puts n := by
  by_cases hx : x.at_ n
  · rw [aft_at hx, uO (fun e he => (hl e he).imp id (fun k q => k ⟨q, hx⟩))]
    simp only [cont, hj]
    exact aft_at hx
  · rw [aft_not hx]
    refine vG (fun e he => ?_)
    by_cases hn : e.at_ n
    · exact Or.inl ((hs e he hn).resolve_left hx)
    · exact Or.inr hn
end
section
variable {P : Program}
def l7 (a b : CV) : Prop := ∀ (β : Names) (u : Value), RV β a u → RV β b u
def RealE (P : Program) (ops : Array Oper) (e : Ev) (o : Oper) : Prop := ∀ (β : Names) (A : Act), Gl β → RF β e.fr A →
  (Region.wanted o (yielded ops A.tmps) = false ∧ e.v = .tup [] ∧ e.lo = e.hi ∧ e.puts = []) ∨
  (Region.wanted o (yielded ops A.tmps) = true ∧ OpS P (execOp A.eval o) e.V β e.lo e.v e.H e.hi e.puts ∧ ∀ l, e.tch = some l → e.puts = [] ∧ ∀ V : Acc, (∀ g, g ∈ l → V g = e.V g) → OpS P (execOp A.eval o) V β e.lo e.v e.H e.hi e.puts)
structure Drw (P : Program) (ops : Array Oper) (fr0 : dV) (V0 : Acc) (n0 nx0 top N : Nat) (wrE : List Nat) (es : List Ev) : Prop where
  full : ∀ i, i < ops.size → ∃ e ∈ es, e.j = i
  op : ∀ e ∈ es, ∃ o, ops[e.j]? = some o ∧ o.dst = e.t ∧ (∀ t, e.t = some t → t < N) ∧ RealE P ops e o
  rng : ∀ e ∈ es, nx0 ≤ e.lo ∧ e.lo ≤ e.hi ∧ e.hi ≤ top
  base : n0 ≤ nx0
  dom0 : ∀ n, V0 n ≠ none → n < nx0
  dom : ∀ e ∈ es, ∀ n, e.V n ≠ none → n < e.lo
  pts : ∀ e ∈ es, ∀ p ∈ e.puts, e.V p ≠ none
  wr : ∀ e ∈ es, ∀ p ∈ e.puts, p < n0 → p ∈ wrE
  ids : ∀ later x rest, es = later ++ x :: rest → ∀ e ∈ later ++ rest, e.j ≠ x.j
  pair : ∀ later x rest, es = later ++ x :: rest → ∀ e ∈ later, x.hi ≤ e.lo ∧ (e.dep.testBit x.j = false → (∀ n, x.at_ n → e.V n = none) ∧ (e.puts = [] ∨ ∃ l, x.tch = some l ∧ ∀ p ∈ e.puts, p ∉ l))
  back : ∀ later x rest, es = later ++ x :: rest → ∀ e ∈ rest, e.hi ≤ x.lo ∧ (x.dep.testBit e.j = false → ∀ n, e.at_ n → x.V n = none)
  view : ∀ later x rest, es = later ++ x :: rest → ∀ n o, x.V n = some o → cont (fun _ => true) V0 rest n = some o
  slots : ∀ e ∈ es, ∀ t c, e.fr.get t = some c → (∃ e' ∈ es, e.dep.testBit e'.j = true ∧ e'.t = some t ∧ l7 e'.v c) ∨ ((∃ c0, fr0.get t = some c0 ∧ l7 c0 c) ∧ ∀ e' ∈ es, e'.t = some t → e'.dep.testBit e.j = true)
  uniq : ∀ later x rest, es = later ++ x :: rest → ∀ e ∈ later ++ rest, ∀ t, e.t = some t → x.t ≠ some t
structure DI (fr0 : dV) (V0 : Acc) (n0 top N : Nat) (wrE : List Nat) (es : List Ev) (β0 : Names) (w0 : World) (D : Nat → Bool) (β : Names) (A : Act) (w : World) : Prop where
  gl : Gl β
  hv : HV (cont D V0 es) β w
  size : A.tmps.size = N
  dfr : A.defers = []
  tr : pK β0 β n0 top wrE w0 w
  free : ∀ e ∈ es, D e.j = false → mW β e.lo e.hi
  s1 : ∀ e ∈ es, D e.j = true → ∀ t, e.t = some t → ∃ u, A.tmps[t]? = some u ∧ RV β e.v u
  s2 : ∀ t c, fr0.get t = some c → (∀ e ∈ es, D e.j = true → e.t ≠ some t) → ∃ u, A.tmps[t]? = some u ∧ RV β c u
theorem pK.within {β0 β β' : Names} {n0 top lo hi : Nat} {wr puts : List Nat} {w0 w w' : World} (h : pK β0 β n0 top wr w0 w) (ht : pK β β' lo hi puts w w') (h1 : n0 ≤ lo) (h2 : hi ≤ top) (hp : ∀ p ∈ puts, p < lo ∧ (p < n0 → p ∈ wr)) : pK β0 β' n0 top wr w0 w' := by
  have l1 := h.le
  have l2 := ht.le
  have up : ∀ a, Im β puts a → w0.heap.size ≤ a ∨ Im β0 wr a := by
    rintro a ⟨p, hpp, ha⟩
    by_cases hl : p < n0
    · exact Or.inr ⟨p, (hp p hpp).2 hl, by rw [← (h.ext p (Or.inl hl)).1]; exact ha⟩
    · have := (hp p hpp).1
      exact h.born p a (by omega) (by omega) ha
  refine ⟨fun n hn => ?_, fun s x hq => ht.sxm s x (h.sxm s x hq), fun a ha => ht.fpm a (h.fpm a ha), fun a ha => (ht.fpn a ha).elim (fun q => h.fpn a q) (fun q => Or.inr (Nat.le_trans h.upd.size q)), l1, ?_, fun n a hn hm ha => ?_⟩
  · have e := ht.ext n (by omega)
    have k := h.ext n (by omega)
    exact ⟨e.1.trans k.1, e.2.trans k.2⟩
  · refine ⟨ht.upd.os.trans h.upd.os, ht.upd.tape.trans h.upd.tape, ht.upd.output.trans h.upd.output, Nat.le_trans h.upd.size ht.upd.size, fun k hk hn => ?_⟩
    rw [ht.upd.block k (Nat.lt_of_lt_of_le hk h.upd.size) (fun hs => ?_)]
    · exact h.upd.block k hk hn
    · rcases up k hs with q | q
      · omega
      · exact hn q
  · by_cases hb : lo ≤ n ∧ n < hi
    · rcases ht.born n a hb.1 hb.2 ha with k | k
      · exact Or.inl (Nat.le_trans h.upd.size k)
      · exact up a k
    · have e := ht.ext n (by omega)
      rw [e.1] at ha
      exact h.born n a hn hm ha
theorem DI.step {ops : Array Oper} {fr0 : dV} {V0 : Acc} {n0 nx0 top N : Nat} {wrE : List Nat} {es : List Ev} (hD : Drw P ops fr0 V0 n0 nx0 top N wrE es) {β0 : Names} {w0 : World} {D D' : Nat → Bool} {β : Names} {A : Act} {w : World} (h : DI fr0 V0 n0 top N wrE es β0 w0 D β A w) {x : Ev} (hx : x ∈ es) (hxD : D x.j = false) (hdep : ∀ k, x.dep.testBit k = true → D k = true) (hcl : ∀ e ∈ es, D e.j = true → ∀ k, e.dep.testBit k = true → D k = true) (hD' : ∀ k, D' k = true ↔ (D k = true ∨ k = x.j)) {Q : Exit → Act → World → Prop} {K : Act → World → Prop} (hK : ∀ β' A' w', DI fr0 V0 n0 top N wrE es β0 w0 D' β' A' w' → K A' w') : wpOp P ops Q x.j K A w := by
  obtain ⟨o, ho, hdst, hN, hreal⟩ := hD.op x hx
  obtain ⟨later, rest, hes⟩ := List.append_of_mem hx
  have hmem : ∀ e, e ∈ es → e ∈ later ∨ e = x ∨ e ∈ rest := by
    intro e he
    rw [hes] at he
    simpa using he
  have hle : ∀ e ∈ later, e ∈ es := fun e he => by rw [hes]; simp [he]
  have hre : ∀ e ∈ rest, e ∈ es := fun e he => by rw [hes]; simp [he]
  have hpair := hD.pair later x rest hes
  have hback := hD.back later x rest hes
  have hids := hD.ids later x rest hes
  have hxr := hD.rng x hx
  have lun : ∀ e ∈ later, D e.j = true → e.dep.testBit x.j = false := fun e he hd => by
    cases hb : e.dep.testBit x.j with
    | false => rfl
    | true => have := hcl e (hle e he) hd _ hb; rw [hxD] at this; simp at this
  have run : ∀ e ∈ rest, D e.j = false → x.dep.testBit e.j = false := fun e he hd => by
    cases hb : x.dep.testBit e.j with
    | false => rfl
    | true => have := hdep _ hb; rw [hd] at this; simp at this
  have xput : ∀ p ∈ x.puts, p < x.lo := fun p hp => hD.dom x hx p (hD.pts x hx p hp)
  have eput : ∀ e ∈ es, ∀ p ∈ e.puts, p < e.lo := fun e he p hp => hD.dom e he p (hD.pts e he p hp)
  -- the later ones that are done and this one touch nothing in common
  have apart : ∀ e ∈ later, D e.j = true → ∀ n, ¬ (e.at_ n ∧ x.at_ n) := by
    rintro e he hd n ⟨h1, h2⟩
    have hp := hpair e he
    have hq := (hp.2 (lun e he hd)).1 n h2
    rcases h1 with h1 | h1
    · rcases h2 with h2 | h2
      · omega
      · have := xput n h2; omega
    · exact hD.pts e (hle e he) n h1 hq
  -- this one's slots
  have hF : RF β x.fr A := by
    intro t c hc
    rcases hD.slots x hx t c hc with ⟨e, he, h1, h2, h3⟩ | ⟨⟨c0, h1, h3⟩, h2⟩
    · obtain ⟨u, q1, q2⟩ := h.s1 e he (hdep _ h1) t h2
      exact ⟨u, q1, h3 _ _ q2⟩
    · obtain ⟨u, q1, q2⟩ := h.s2 t c0 h1 (fun e he hd ht => by
        have := hcl e he hd _ (h2 e he ht)
        rw [hxD] at this; simp at this)
      exact ⟨u, q1, h3 _ _ q2⟩
  have nxt : ∀ (β' : Names) (u : Value) (w' : World), pK β β' x.lo x.hi x.puts w w' → RV β' x.v u → HV (nS (cont D V0 es) x.H x.lo x.hi x.puts) β' w' → DI fr0 V0 n0 top N wrE es β0 w0 D' β' (A.put o.dst u) w' := by
    intro β' u w' h1 h2 h3
    have hs := h1.sub (h.free x hx hxD)
    refine ⟨h.gl.mono hs, ?_, by rw [put_size]; exact h.size, by rw [put_defs]; exact h.dfr, ?_, fun e he hd => ?_, fun e he hd t ht => ?_, fun t c hc hnd => ?_⟩
    · have e : cont D' V0 es = nS (cont D V0 es) x.H x.lo x.hi x.puts := by
        funext n
        rw [hes]
        refine cont_add ((hD' x.j).2 (Or.inr rfl)) (fun e he hn => ?_) (fun e he => ?_)
        · by_cases hj : e.j = x.j
          · left
            simp only [List.mem_append, List.mem_cons] at he
            rcases he with he | rfl | he
            · exact absurd hj (hids e (by simp [he]))
            · exact hn
            · exact absurd hj (hids e (by simp [he]))
          · right
            have := hD' e.j
            cases hd : D e.j with
            | true => exact this.2 (Or.inl hd)
            | false =>
              cases hd' : D' e.j with
              | false => rfl
              | true => rcases this.1 hd' with q | q
                        · rw [hd] at q; simp at q
                        · exact absurd q hj
        · cases hd' : D' e.j with
          | false => exact Or.inl rfl
          | true =>
            right
            rcases (hD' e.j).1 hd' with q | q
            · exact apart e he q n
            · exact absurd q (hids e (by simp [he]))
      rw [e]; exact h3
    · exact h.tr.within h1 (by have := hD.base; omega) hxr.2.2 (fun p hp => ⟨xput p hp, hD.wr x hx p hp⟩)
    · have hd0 : D e.j = false := by
        cases q : D e.j with
        | false => rfl
        | true => rw [(hD' e.j).2 (Or.inl q)] at hd; simp at hd
      have hne : e ≠ x := by rintro rfl; rw [(hD' e.j).2 (Or.inr rfl)] at hd; simp at hd
      intro n hn hm
      have hout : n < x.lo ∨ x.hi ≤ n := by
        rcases hmem e he with q | q | q
        · have := (hpair e q).1; omega
        · exact absurd q hne
        · have := (hback e q).1; omega
      rw [(h1.ext n hout).1]
      exact h.free e he hd0 n hn hm
    · by_cases hex : e = x
      · subst hex
        rw [hdst, ht]
        exact ⟨u, by simp [Act.put, h.size, hN t ht], h2⟩
      · have hj : e.j ≠ x.j := by
          rcases hmem e he with q | q | q
          · exact hids e (by simp [q])
          · exact absurd q hex
          · exact hids e (by simp [q])
        obtain ⟨u', k1, k2⟩ := h.s1 e he (((hD' e.j).1 hd).resolve_right hj) t ht
        have hxt : x.t ≠ some t := hD.uniq later x rest hes e (by rcases hmem e he with q | q | q <;> simp_all) t ht
        refine ⟨u', ?_, k2.mono hs⟩
        rw [hdst]
        cases hxt' : x.t with
        | none => exact k1
        | some d =>
          have hne : d ≠ t := fun q => hxt (by rw [hxt', q])
          simp [Act.put, Array.getElem?_setIfInBounds_ne hne, k1]
    · have hxt : x.t ≠ some t := hnd x hx ((hD' x.j).2 (Or.inr rfl))
      obtain ⟨u', k1, k2⟩ := h.s2 t c hc (fun e he hd => hnd e he ((hD' e.j).2 (Or.inl hd)))
      refine ⟨u', ?_, k2.mono hs⟩
      rw [hdst]
      cases hxt' : x.t with
      | none => exact k1
      | some d =>
        have hne : d ≠ t := fun q => hxt (by rw [hxt', q])
        simp [Act.put, Array.getElem?_setIfInBounds_ne hne, k1]
  unfold wpOp
  rw [ho]
  simp only
  rcases hreal β A h.gl hF with ⟨q1, q2, q3, q4⟩ | ⟨q1, q2, q3⟩
  · rw [if_neg (by rw [q1]; simp)]
    refine hK β _ _ (nxt β undef w ?_ (by rw [q2]; exact ⟨#[], rfl, rfl⟩) ?_)
    · rw [q3, q4]; exact pK.refl β x.hi w
    · rw [q3, q4, mJ]; exact h.hv
  · rw [if_pos q1]
    left
    -- what it may see
    let V : Acc := fun n => if ∃ e ∈ later, D e.j = true ∧ n ∈ e.puts then none else x.V n
    have Vs : ∀ n o, V n = some o → x.V n = some o ∧ ¬ ∃ e ∈ later, D e.j = true ∧ n ∈ e.puts := by
      intro n o hn
      by_cases hc : ∃ e ∈ later, D e.j = true ∧ n ∈ e.puts
      · simp only [V] at hn; rw [if_pos hc] at hn; simp at hn
      · simp only [V] at hn; rw [if_neg hc] at hn; exact ⟨hn, hc⟩
    have hop : OpS P (execOp A.eval o) V β x.lo x.v x.H x.hi x.puts := by
      cases htc : x.tch with
      | some l =>
        refine (q3 l htc).2 V (fun g hg => ?_)
        simp only [V]
        refine if_neg ?_
        rintro ⟨e, he, hd, hp⟩
        rcases ((hpair e he).2 (lun e he hd)).2 with k | ⟨l', k1, k2⟩
        · rw [k] at hp; simp at hp
        · rw [htc] at k1
          obtain rfl := Option.some.inj k1
          exact k2 g hp hg
      | none =>
        have e : V = x.V := by
          funext n
          simp only [V]
          refine if_neg ?_
          rintro ⟨e, he, hd, hp⟩
          rcases ((hpair e he).2 (lun e he hd)).2 with k | ⟨l', k1, k2⟩
          · rw [k] at hp; simp at hp
          · rw [htc] at k1; simp at k1
        rw [e]; exact q2
    have VC : ∀ n o, V n = some o → cont D V0 es n = some o := by
      intro n ob hn
      obtain ⟨hv, hno⟩ := Vs n ob hn
      have hlt := hD.dom x hx n (by rw [hv]; simp)
      have e1 : cont D V0 es n = cont D V0 (x :: rest) n := by
        rw [hes]
        refine uO (fun e he => ?_)
        cases hd : D e.j with
        | false => exact Or.inl rfl
        | true =>
          right
          rintro (k | k)
          · have := (hpair e he).1; omega
          · exact hno ⟨e, he, hd, k⟩
      have e2 : cont D V0 (x :: rest) n = cont D V0 rest n := by simp only [cont, hxD]
      rw [e1, e2]
      have e3 : cont D V0 rest n = cont (fun _ => true) V0 rest n := vG (fun e he => by
        cases hd : D e.j with
        | true => exact Or.inl rfl
        | false =>
          right
          intro k
          have := (hback e he).2 (run e he hd) n k
          rw [hv] at this; simp at this)
      rw [e3]
      exact hD.view later x rest hes n ob hv
    have pV : ∀ p ∈ x.puts, V p ≠ none := by
      intro p hp
      have k := hD.pts x hx p hp
      simp only [V]
      rw [if_neg]
      · exact k
      · rintro ⟨e, he, hd, hq⟩
        exact apart e he hd p ⟨Or.inr hq, Or.inr hp⟩
    have hV : HV V β w := ⟨fun n ob hn => h.hv.at_ n ob (VC n ob hn), fun n m a hn hm => by
      obtain ⟨o1, k1⟩ := Option.ne_none_iff_exists'.1 hn
      obtain ⟨o2, k2⟩ := Option.ne_none_iff_exists'.1 hm
      exact h.hv.inj n m a (by rw [VC n o1 k1]; simp) (by rw [VC m o2 k2]; simp), fun a ha => ⟨(h.hv.fpa a ha).1, fun n hn => (h.hv.fpa a ha).2 n (by
        obtain ⟨o1, k1⟩ := Option.ne_none_iff_exists'.1 hn
        rw [VC n o1 k1]; simp)⟩, h.hv.sxf⟩
    have hfr := h.free x hx hxD
    have hn : ∀ n, x.lo ≤ n → n < x.hi → cont D V0 es n = none := by
      intro n h1 h2
      cases hob : cont D V0 es n with
      | none => rfl
      | some ob =>
        obtain ⟨a, _, ha, _⟩ := h.hv.at_ n ob hob
        rw [hfr n h1 h2] at ha
        simp at ha
    refine opw_wp (fB (hop w hV hfr) (fun u w' hh => hh)) (fun u w' ⟨β', k1, k2, k3⟩ => ?_)
    exact hK β' _ _ (nxt β' u w' k1 k2 (h.hv.frame VC pV k1 hfr hn k3))
end
section
variable {P : Program}
def xX (f : Nat → Bool) : Nat → Nat
  | 0 => 0
  | n + 1 => match f n with
    | true => xX f n
    | false => xX f n + 1
theorem lefN_zero {f : Nat → Bool} : ∀ {n : Nat}, xX f n = 0 → ∀ i, i < n → f i = true
  | 0, _, i, hi => by omega
  | n + 1, h, i, hi => by
    unfold xX at h
    split at h
    · rename_i hf
      by_cases hin : i = n
      · subst hin; exact hf
      · exact lefN_zero h i (by omega)
    · omega
theorem left_congr {f g : Nat → Bool} : ∀ {n : Nat}, (∀ i, i < n → f i = g i) → xX f n = xX g n
  | 0, _ => rfl
  | n + 1, h => by
    simp only [xX, h n (by omega), left_congr (n := n) (fun i hi => h i (by omega))]
theorem left_set {f g : Nat → Bool} {x : Nat} (hx : f x = false) (hg : g x = true) (hs : ∀ i, i ≠ x → g i = f i) : ∀ {n : Nat}, x < n → xX g n + 1 = xX f n
  | 0, h => by omega
  | n + 1, h => by
    by_cases hn : x = n
    · subst hn
      simp only [xX, hx, hg]
      rw [left_congr (f := g) (g := f) (fun i hi => hs i (by omega))]
    · have ih := left_set hx hg hs (n := n) (by omega)
      simp only [xX, hs n (fun e => hn e.symm)]
      cases f n <;> simp only [] <;> omega
theorem backL_ok : ∀ {l : List Oper} {j : Nat}, backL j l = true → ∀ k o, l[k]? = some o → backI (j + k) o = true
  | [], _, _, k, o, h => by simp at h
  | x :: l, j, hb, k, o, h => by
    unfold backL at hb
    simp only [Bool.and_eq_true] at hb
    cases k with
    | zero => simp at h; subst h; exact hb.1
    | succ k =>
      have := backL_ok hb.2 k o (by simpa using h)
      rw [show j + (k + 1) = j + 1 + k by omega]; exact this
theorem rdy_mem {ops : Array Oper} {listed : Array Bool} {i : Nat} : i ∈ Region.ready .any ops listed ↔ i < ops.size ∧ listed.getD i true = false ∧ ∃ o, ops[i]? = some o ∧ ∀ e ∈ o.after, Region.binds .any e = true → listed.getD e.on false = true := by
  unfold Region.ready
  simp only [List.mem_filter, List.mem_range, Bool.and_eq_true, Bool.not_eq_true']
  constructor
  · rintro ⟨h1, h2, h3⟩
    refine ⟨h1, h2, ops[i], Array.getElem?_eq_getElem h1, fun e he hb => ?_⟩
    rw [Array.getElem?_eq_getElem h1] at h3
    simp only [Option.map_some, Option.getD_some, Array.all_eq_true_iff_forall_mem] at h3
    have := h3 e he
    rw [hb] at this
    simpa using this
  · rintro ⟨h1, h2, o, h3, h4⟩
    refine ⟨h1, h2, ?_⟩
    rw [h3]
    simp only [Option.map_some, Option.getD_some, Array.all_eq_true_iff_forall_mem]
    intro e he
    cases hb : Region.binds .any e with
    | false => rfl
    | true => simpa using h4 e he hb
theorem ready_nil {ops : Array Oper} {listed : Array Bool} (hs : listed.size = ops.size) (hb : backL 0 ops.toList = true) (h : Region.ready .any ops listed = []) : ∀ i, i < ops.size → listed.getD i false = true := by
  intro i
  induction i using Nat.strongRecOn with
  | _ i ih =>
    intro hi
    cases hc : listed.getD i false with
    | true => rfl
    | false =>
      have hm : i ∈ Region.ready .any ops listed := by
        refine rdy_mem.2 ⟨hi, ?_, ops[i], Array.getElem?_eq_getElem hi, fun e he hbi => ?_⟩
        · have hl : i < listed.size := by omega
          simp only [Array.getD, hl, dif_pos] at hc ⊢
          exact hc
        · have k := backL_ok hb i ops[i] (by rw [Array.getElem?_toList, Array.getElem?_eq_getElem hi])
          unfold backI at k
          have k2 := List.all_eq_true.1 k e (by simpa using he)
          rw [hbi] at k2
          have k3 : e.on < 0 + i := Nat.blt_eq ▸ (by simpa using k2 : Nat.blt e.on (0 + i) = true)
          exact ih e.on (by omega) (by omega)
      rw [h] at hm
      simp at hm
theorem any_ok {ops : Array Oper} {fr0 : dV} {V0 : Acc} {n0 nx0 top N : Nat} {wrE : List Nat} {es : List Ev} (hD : Drw P ops fr0 V0 n0 nx0 top N wrE es) (hb : backL 0 ops.toList = true) (hdep : ∀ (D : Nat → Bool) (x : Ev), x ∈ es → (∀ e ∈ es, D e.j = true → ∀ k, e.dep.testBit k = true → D k = true) → (∀ o, ops[x.j]? = some o → ∀ e ∈ o.after, Region.binds .any e = true → D e.on = true) → ∀ k, x.dep.testBit k = true → D k = true) {β0 : Names} {w0 : World} {Q : Exit → Act → World → Prop} (hQ : ∀ D β A w, (∀ e ∈ es, D e.j = true) → DI fr0 V0 n0 top N wrE es β0 w0 D β A w → Q .normal A w) : ∀ (fuel : Nat) (listed : Array Bool) (β : Names) (A : Act) (w : World), listed.size = ops.size → xX (fun k => listed.getD k false) ops.size = fuel → (∀ e ∈ es, e.j < ops.size) → (∀ e ∈ es, listed.getD e.j false = true → ∀ k, e.dep.testBit k = true → listed.getD k false = true) → DI fr0 V0 n0 top N wrE es β0 w0 (fun k => listed.getD k false) β A w → wpAny P .any ops Q fuel listed A w
  | 0, listed, β, A, w, hs, hl, hj, hc, h => by
    have all := lefN_zero hl
    refine ⟨?_, hQ _ β A w (fun e he => all e.j (hj e he)) h⟩
    cases hr : Region.ready .any ops listed with
    | nil => rfl
    | cons i r =>
      have hm : i ∈ Region.ready .any ops listed := by rw [hr]; simp
      obtain ⟨h1, h2, _⟩ := rdy_mem.1 hm
      have h3 := all i h1
      have hlt : i < listed.size := by omega
      simp only [Array.getD, hlt, dif_pos] at h2 h3
      rw [h2] at h3
      simp at h3
  | fuel + 1, listed, β, A, w, hs, hl, hj, hc, h => by
    refine ⟨fun hr => hQ _ β A w (fun e he => ready_nil hs hb hr e.j (hj e he)) h, fun i hi => ?_⟩
    obtain ⟨h1, h2, o, h3, h4⟩ := rdy_mem.1 hi
    obtain ⟨x, hx, rfl⟩ := hD.full i h1
    have hlt : x.j < listed.size := by omega
    have hx0 : listed.getD x.j false = false := by
      simp only [Array.getD, hlt, dif_pos] at h2 ⊢
      exact h2
    have hxd := hdep (fun k => listed.getD k false) x hx hc (fun o' ho' => by
      rw [h3] at ho'
      obtain rfl := Option.some.inj ho'
      exact h4)
    have hset : ∀ k, (listed.setIfInBounds x.j true).getD k false = true ↔ (listed.getD k false = true ∨ k = x.j) := by
      intro k
      simp only [Array.getD_eq_getD_getElem?, Array.getElem?_setIfInBounds]
      by_cases hk : x.j = k
      · subst hk; simp [hlt]
      · rw [if_neg hk]
        exact ⟨Or.inl, fun q => q.resolve_right (fun e => hk e.symm)⟩
    refine h.step hD hx hx0 hxd hc hset (fun β' A' w' h' => ?_)
    refine any_ok hD hb hdep hQ fuel _ β' A' w' (by simpa using hs) ?_ hj (fun e he hd k hk => ?_) h'
    · have := left_set (f := fun k => listed.getD k false) (g := fun k => (listed.setIfInBounds x.j true).getD k false) (x := x.j) hx0 ((hset x.j).2 (Or.inr rfl)) (fun i hne => by
        have q := hset i
        cases h5 : listed.getD i false with
        | true => exact q.2 (Or.inl h5)
        | false =>
          cases h6 : (listed.setIfInBounds x.j true).getD i false with
          | false => rfl
          | true => rcases q.1 h6 with r | r
                    · rw [h5] at r; simp at r
                    · exact absurd r hne) h1
      omega
    · rcases (hset e.j).1 hd with q | q
      · exact (hset k).2 (Or.inl (hc e he q k hk))
      · have hex : e = x := by
          obtain ⟨later, rest, hes⟩ := List.append_of_mem hx
          have hids := hD.ids later x rest hes
          rw [hes] at he
          simp only [List.mem_append, List.mem_cons] at he
          rcases he with r | r | r
          · exact absurd q (hids e (by simp [r]))
          · exact r
          · exact absurd q (hids e (by simp [r]))
        subst hex
        exact (hset k).2 (Or.inl (hxd k hk))
end
section
variable {P : Program}
theorem wrtr_some {t : Nat} : ∀ {l : List Oper} {i j : Nat}, wrtr t l i = some j → i ≤ j ∧ ∃ o, l[j - i]? = some o ∧ o.dst = some t
  | [], i, j, h => by simp [wrtr] at h
  | o :: l, i, j, h => by
    unfold wrtr at h
    have next : wrtr t l (i + 1) = some j → i ≤ j ∧ ∃ o', (o :: l)[j - i]? = some o' ∧ o'.dst = some t := fun k => by
      obtain ⟨h1, o', h2, h3⟩ := wrtr_some k
      refine ⟨by omega, o', ?_, h3⟩
      rw [show j - i = (j - (i + 1)) + 1 by omega]
      simpa using h2
    split at h
    · rename_i d hd
      split at h
      · rename_i hb
        obtain rfl := Option.some.inj h
        exact ⟨Nat.le_refl _, o, by simp, by rw [hd, Nat.eq_of_beq_eq_true hb]⟩
      · exact next h
    · exact next h
theorem wrtr_none {t : Nat} : ∀ {l : List Oper} {i : Nat}, wrtr t l i = none → ∀ (k : Nat) (o : Oper), l[k]? = some o → o.dst ≠ some t
  | [], i, h, k, o, ho => by simp at ho
  | x :: l, i, h, k, o, ho => by
    unfold wrtr at h
    have next : wrtr t l (i + 1) = none → x.dst ≠ some t → o.dst ≠ some t := fun q hx => by
      cases k with
      | zero => simp at ho; rw [← ho]; exact hx
      | succ k => exact wrtr_none q k o (by simpa using ho)
    split at h
    · rename_i d hd
      split at h
      · simp at h
      · rename_i hb
        refine next h (fun e => ?_)
        rw [hd] at e
        obtain rfl := Option.some.inj e
        rw [Nat.beq_refl] at hb
        simp at hb
    · rename_i hd
      exact next h (by rw [hd]; simp)
theorem once_ok : ∀ {l : List Oper}, once l = true → ∀ (i k : Nat) (o o' : Oper) (t : Nat), l[i]? = some o → l[k]? = some o' → o.dst = some t → o'.dst = some t → i = k
  | [], _, i, k, o, o', t, hi, _, _, _ => by simp at hi
  | x :: l, h, i, k, o, o', t, hi, hk, ho, ho' => by
    have rest : once l = true := by
      unfold once at h
      split at h
      · split at h
        · exact h
        · simp at h
      · exact h
    have hd : ∀ (k : Nat) (y : Oper), x.dst = some t → l[k]? = some y → y.dst ≠ some t := fun k y hx hy => by
      unfold once at h
      rw [hx] at h
      simp only at h
      split at h
      · rename_i hw
        exact wrtr_none hw k y hy
      · simp at h
    cases i with
    | zero =>
      simp at hi
      subst hi
      cases k with
      | zero => rfl
      | succ k => exact absurd ho' (hd k o' ho (by simpa using hk))
    | succ i =>
      cases k with
      | zero =>
        simp at hk
        subst hk
        exact absurd ho (hd i o ho' (by simpa using hi))
      | succ k => rw [once_ok rest i k o o' t (by simpa using hi) (by simpa using hk) ho ho']
structure StatI (P : Program) (N : Nat) (ops : List Oper) (deps : List Nat) (x : Ins) (o : Oper) : Prop where
  op : ops[x.j]? = some o
  k : cmpK P o.op = some x.k
  g : cmpG ops o.guard = some x.g
  d : x.d = o.dst.map way
  ok : okD N o.dst = true
  dep : x.dep = deps.getD x.j 0
  src : ∀ w s, (w, s) ∈ x.src → ∃ t, w = way t ∧ ((∃ j, s = some j ∧ x.dep.testBit j = true ∧ ∃ oj, ops[j]? = some oj ∧ oj.dst = some t) ∨ (s = none ∧ ∀ k ok, ops[k]? = some ok → ok.dst = some t → (deps.getD k 0).testBit x.j = true))
theorem srcI_ok {ops : List Oper} {deps : List Nat} {i dep : Nat} (h1 : once ops = true) : ∀ {ts : List Nat} {l : List (List Bool × Option Nat)}, srcI ops deps i dep ts = some l → ∀ w s, (w, s) ∈ l → ∃ t, w = way t ∧ ((∃ j, s = some j ∧ dep.testBit j = true ∧ ∃ oj, ops[j]? = some oj ∧ oj.dst = some t) ∨ (s = none ∧ ∀ k ok, ops[k]? = some ok → ok.dst = some t → (deps.getD k 0).testBit i = true))
  | [], l, h, w, s, hm => by
    simp only [srcI, Option.some.injEq] at h
    subst h
    simp at hm
  | t :: ts, l, h, w, s, hm => by
    unfold srcI at h
    split at h
    · simp at h
    · rename_i l' hl
      have ih := srcI_ok h1 hl w s
      split at h
      · rename_i hw
        obtain rfl := Option.some.inj h
        rcases List.mem_cons.1 hm with e | e
        · simp only [Prod.mk.injEq] at e
          refine ⟨t, e.1, Or.inr ⟨e.2, fun k ok hk hd => absurd hd (wrtr_none hw k ok hk)⟩⟩
        · exact ih e
      · rename_i j hw
        obtain ⟨_, oj, k1, k2⟩ := wrtr_some hw
        rw [Nat.sub_zero] at k1
        split at h
        · rename_i hb
          obtain rfl := Option.some.inj h
          rcases List.mem_cons.1 hm with e | e
          · simp only [Prod.mk.injEq] at e
            exact ⟨t, e.1, Or.inl ⟨j, e.2, hb, oj, k1, k2⟩⟩
          · exact ih e
        · split at h
          · rename_i hb
            obtain rfl := Option.some.inj h
            rcases List.mem_cons.1 hm with e | e
            · simp only [Prod.mk.injEq] at e
              refine ⟨t, e.1, Or.inr ⟨e.2, fun k ok hk hd => ?_⟩⟩
              rw [once_ok h1 k j ok oj t hk k1 hd k2]
              exact hb
            · exact ih e
          · simp at h
theorem cmpD_ok {N : Nat} {ops : List Oper} {deps : List Nat} (h1 : once ops = true) : ∀ {r : List Oper} {j : Nat} {l : List Ins}, ops.drop j = r → cmpD P N ops deps j r = some l → (∀ x ∈ l, ∃ o, StatI P N ops deps x o) ∧ l.map (·.j) = List.range' j r.length
  | [], j, l, hr, h => by
    simp only [cmpD, Option.some.injEq] at h
    subst h
    simp
  | o :: r, j, l, hr, h => by
    unfold cmpD at h
    split at h
    · rename_i k g src l' a1 a2 a3 a4 a5
      obtain rfl := Option.some.inj h
      have ho : ops[j]? = some o := by rw [← List.head?_drop, hr]; rfl
      have hr' : ops.drop (j + 1) = r := by rw [← List.tail_drop, hr]; rfl
      obtain ⟨i1, i2⟩ := cmpD_ok h1 hr' a5
      refine ⟨fun x hx => ?_, by simp only [List.map_cons, i2, List.length_cons, List.range'_succ]⟩
      rcases List.mem_cons.1 hx with rfl | hx
      · exact ⟨o, ho, a1, a2, rfl, a3, rfl, srcI_ok h1 a4⟩
      · exact i1 x hx
    · simp at h
theorem pick_perm {c : Bool} {d : Nat} : ∀ {l : List Ins} {x : Ins} {r : List Ins}, pick c d l = some (x, r) → l.Perm (x :: r)
  | [], x, r, h => by simp [pick] at h
  | y :: l, x, r, h => by
    unfold pick at h
    split at h
    · simp only [Option.some.injEq, Prod.mk.injEq] at h
      obtain ⟨rfl, rfl⟩ := h
      exact List.Perm.refl _
    · split at h
      · rename_i z hz
        simp only [Option.some.injEq, Prod.mk.injEq] at h
        obtain ⟨rfl, rfl⟩ := h
        have ih := pick_perm (x := z.1) (r := z.2) hz
        exact (ih.cons y).trans (List.Perm.swap _ _ _)
      · simp at h
theorem uK : ∀ {n d : Nat} {l : List Ins}, l.Perm (sortI n d l)
  | 0, d, l => List.Perm.refl _
  | n + 1, d, l => by
    unfold sortI
    split
    · rename_i x hx
      exact (pick_perm (x := x.1) (r := x.2) hx).trans (List.Perm.cons _ uK)
    · split
      · rename_i x hx
        exact (pick_perm (x := x.1) (r := x.2) hx).trans (List.Perm.cons _ uK)
      · exact List.Perm.refl _
end
section
def befG (acc : Array Nat) (o : Oper) : Nat := o.after.foldl (fun s e => if Region.binds .any e then s ||| 2 ^ e.on ||| acc.getD e.on 0 else s) 0
theorem befG_bit {acc : Array Nat} {k : Nat} : ∀ {l : List Edge} {s : Nat}, (l.foldl (fun s e => if Region.binds .any e then s ||| 2 ^ e.on ||| acc.getD e.on 0 else s) s).testBit k = true → s.testBit k = true ∨ ∃ e ∈ l, Region.binds .any e = true ∧ (k = e.on ∨ (acc.getD e.on 0).testBit k = true)
  | [], s, h => Or.inl h
  | e :: l, s, h => by
    rw [List.foldl_cons] at h
    rcases befG_bit h with q | ⟨e', h1, h2⟩
    · split at q
      · rename_i hb
        simp only [Nat.testBit_or, Bool.or_eq_true, Nat.testBit_two_pow, decide_eq_true_eq] at q
        rcases q with (q | q) | q
        · exact Or.inl q
        · exact Or.inr ⟨e, by simp, hb, Or.inl q.symm⟩
        · exact Or.inr ⟨e, by simp, hb, Or.inr q⟩
      · exact Or.inl q
    · exact Or.inr ⟨e', by simp [h1], h2⟩
theorem bef_fold : ∀ (l : List Oper) (acc : Array Nat), (l.foldl (fun acc o => acc.push (befG acc o)) acc).size = acc.size + l.length ∧ (∀ i, i < acc.size → (l.foldl (fun acc o => acc.push (befG acc o)) acc)[i]? = acc[i]?) ∧ ∀ k o, l[k]? = some o → ∃ acc' : Array Nat, acc'.size = acc.size + k ∧ (∀ i, i < acc.size + k → acc'[i]? = (l.foldl (fun acc o => acc.push (befG acc o)) acc)[i]?) ∧ (l.foldl (fun acc o => acc.push (befG acc o)) acc)[acc.size + k]? = some (befG acc' o)
  | [], acc => ⟨rfl, fun _ _ => rfl, fun k o h => by simp at h⟩
  | o :: l, acc => by
    obtain ⟨h1, h2, h3⟩ := bef_fold l (acc.push (befG acc o))
    rw [List.foldl_cons]
    rw [Array.size_push] at h1 h2 h3
    have low : ∀ i, i < acc.size → (l.foldl (fun acc o => acc.push (befG acc o)) (acc.push (befG acc o)))[i]? = acc[i]? := fun i hi => by
      rw [h2 i (by omega), Array.getElem?_push, if_neg (by omega)]
    refine ⟨by rw [h1, List.length_cons]; omega, low, fun k o' hk => ?_⟩
    cases k with
    | zero =>
      simp at hk
      subst hk
      refine ⟨acc, rfl, fun i hi => (low i hi).symm, ?_⟩
      rw [Nat.add_zero, h2 _ (by omega)]
      simp
    | succ k =>
      obtain ⟨acc', k1, k2, k3⟩ := h3 k o' (by simpa using hk)
      refine ⟨acc', by omega, fun i hi => k2 i (by omega), ?_⟩
      rw [show acc.size + (k + 1) = acc.size + 1 + k by omega]; exact k3
theorem before_eq (ops : Array Oper) : Region.before ops = ops.toList.foldl (fun acc o => acc.push (befG acc o)) #[] := by
  unfold Region.before
  rw [← Array.foldl_toList]
  rfl
theorem before_bit {ops : Array Oper} {i k : Nat} (h : ((Region.before ops).toList.getD i 0).testBit k = true) : ∃ o, ops[i]? = some o ∧ ∃ e ∈ o.after, Region.binds .any e = true ∧ (k = e.on ∨ ((Region.before ops).toList.getD e.on 0).testBit k = true) := by
  obtain ⟨h1, _, h3⟩ := bef_fold ops.toList #[]
  rw [← before_eq] at h1 h3
  simp only [Array.length_toList, List.size_toArray, List.length_nil, Nat.zero_add] at h1 h3
  have hi : i < ops.size := by
    by_cases hi : i < ops.size
    · exact hi
    · rw [List.getD_eq_getElem?_getD, List.getElem?_eq_none (by rw [Array.length_toList, h1]; omega)] at h
      simp at h
  obtain ⟨acc', k1, k2, k3⟩ := h3 i ops[i] (by rw [Array.getElem?_toList, Array.getElem?_eq_getElem hi])
  have e : (Region.before ops).toList.getD i 0 = befG acc' ops[i] := by
    rw [List.getD_eq_getElem?_getD, Array.getElem?_toList, k3]; rfl
  rw [e] at h
  unfold befG at h
  rw [← Array.foldl_toList] at h
  rcases befG_bit h with q | ⟨ed, q1, q2, q3⟩
  · simp at q
  · refine ⟨ops[i], Array.getElem?_eq_getElem hi, ed, by simpa using q1, q2, q3.imp id (fun q => ?_)⟩
    have hlt : ed.on < i := by
      by_cases hl : ed.on < i
      · exact hl
      · rw [Array.getD_eq_getD_getElem?, Array.getElem?_eq_none (by omega)] at q
        simp at q
    rw [List.getD_eq_getElem?_getD, Array.getElem?_toList, ← k2 _ hlt, ← Array.getD_eq_getD_getElem?]
    exact q
end
section
variable {P : Program} {CT : bQ} {call : mY}
theorem eqLB_ok : ∀ {a b : List Bool}, eqLB a b = true → a = b
  | [], [], _ => rfl
  | true :: a, true :: b, h => by rw [eqLB_ok (a := a) (b := b) h]
  | false :: a, false :: b, h => by rw [eqLB_ok (a := a) (b := b) h]
  | [], _ :: _, h => by simp [eqLB] at h
  | true :: _, [], h => by simp [eqLB] at h
  | false :: _, [], h => by simp [eqLB] at h
  | true :: _, false :: _, h => by simp [eqLB] at h
  | false :: _, true :: _, h => by simp [eqLB] at h
theorem eqLB_refl : ∀ l : List Bool, eqLB l l = true
  | [] => rfl
  | true :: l => eqLB_refl l
  | false :: l => eqLB_refl l
def wR (fr : dV) (rs : List Rc) (kn : Kn) : Prop := ∀ k b, knF kn k = some b → ∀ s c, vK fr rs k = some (.bool s c) → c = b
theorem keyE_v {fr : dV} {rs : List Rc} {k k' : Ksr} (h : keyE k k' = true) : vK fr rs k = vK fr rs k' := by
  obtain ⟨w, s⟩ := k
  obtain ⟨w', s'⟩ := k'
  cases s <;> cases s' <;> simp only [keyE] at h
  · rw [eqLB_ok h]
  · simp at h
  · simp at h
  · rw [Nat.eq_of_beq_eq_true h]; rfl
theorem wR.add {fr : dV} {rs : List Rc} {kn : Kn} (h : wR fr rs kn) {src : List Ksr} {w : List Bool} {b : Bool} (hb : ∀ k, keyOf w src = some k → ∀ s c, vK fr rs k = some (.bool s c) → c = b) : wR fr rs (knAdd kn src w b) := by
  unfold knAdd
  split
  · rename_i k0 hk
    intro k b' hf s c hc
    unfold knF at hf
    split at hf
    · rename_i he
      rw [← Option.some.inj hf]
      exact hb k0 hk s c (by rw [keyE_v he]; exact hc)
    · exact h k b' hf s c hc
  · exact h
theorem xQ {j : Nat} : ∀ {kn : Kn} {k : Ksr} {b : Bool}, knF (rV j kn) k = some b → knF kn k = some b ∧ k.2 ≠ some j
  | [], k, b, h => by simp [rV, knF] at h
  | ((w, none), b') :: r, (w', s), b, h => by
    simp only [rV, knF] at h
    unfold knF
    split at h
    · rename_i he
      refine ⟨h, fun e => ?_⟩
      simp only at e
      subst e
      simp [keyE] at he
    · rename_i he
      exact xQ h
  | ((w, some j'), b') :: r, (w', s), b, h => by
    simp only [rV] at h
    unfold knF
    split at h
    · rename_i hj
      obtain rfl := Nat.eq_of_beq_eq_true hj
      obtain ⟨k1, k2⟩ := xQ h
      cases he : keyE (w, some j) (w', s) with
      | true =>
        exfalso
        cases s with
        | none => simp [keyE] at he
        | some j2 =>
          simp only [keyE] at he
          exact k2 (by rw [Nat.eq_of_beq_eq_true he])
      | false => exact ⟨k1, k2⟩
    · rename_i hj
      unfold knF at h
      split at h
      · rename_i he
        refine ⟨h, fun e => ?_⟩
        simp only at e
        subst e
        simp only [keyE] at he
        rw [Nat.eq_of_beq_eq_true he, Nat.beq_refl] at hj
        simp at hj
      · rename_i he
        exact xQ h
theorem wR.next {fr : dV} {rs : List Rc} {kn : Kn} (h : wR fr rs kn) (r : Rc) : wR fr (r :: rs) (rV r.j kn) := by
  intro k b hf s c hc
  obtain ⟨k1, k2⟩ := xQ hf
  refine h k b k1 s c ?_
  obtain ⟨w, s'⟩ := k
  cases s' with
  | none => exact hc
  | some j =>
    simp only [vK, look] at hc ⊢
    split at hc
    · rename_i hj
      exact absurd (by rw [Nat.eq_of_beq_eq_true hj]) k2
    · exact hc
theorem frS_key {fr0 : dV} {rs : List Rc} {kn : Kn} {w : List Bool} {b : Bool} : ∀ {src : List Ksr}, (frS fr0 rs kn src).at_ w = some (.bool true b) → ∀ k, keyOf w src = some k → ∀ s c, vK fr0 rs k = some (.bool s c) → c = b
  | [], _, k, hk, _, _, _ => by simp [keyOf] at hk
  | k0 :: src, h, k, hk, s, c, hc => by
    unfold keyOf at hk
    split at hk
    · rename_i he
      have he := eqLB_ok he
      obtain rfl := Option.some.inj hk
      simp only [frS, hc] at h
      rw [he, Tr.at_put, if_pos rfl] at h
      have h := Option.some.inj h
      unfold stlK at h
      split at h
      · simp only [CV.bool.injEq] at h; exact h.2
      · split at h
        · rename_i heq
          split at h
          · simp at h
          · simp at h
          · simp only [CV.bool.injEq] at h; exact h.2
        · simp only [CV.bool.injEq] at h; exact h.2
    · rename_i he
      refine frS_key (kn := kn) (src := src) ?_ k hk s c hc
      simp only [frS] at h
      split at h
      · rw [Tr.at_put, if_neg (fun e => by rw [e, eqLB_refl] at he; simp at he)] at h
        exact h
      · exact h
theorem guardD_ok {ops : Array Oper} {o : Oper} {g : Option (List Bool × Bool)} (hg : cmpG ops.toList o.guard = some g) {fr0 : dV} {rs : List Rc} {kn : Kn} {src : List Ksr} (hkn : wR fr0 rs kn) {α : Type} {go pass : Kn → R α} {r : α} (h : (guardD g (frS fr0 rs kn src) kn src go pass).val = some r) : ∃ kn', wR fr0 rs kn' ∧ (((∀ (β : Names) (A : Act), RF β (frS fr0 rs kn src) A → Region.wanted o (yielded ops A.tmps) = true) ∧ (go kn').val = some r) ∨ ((∀ (β : Names) (A : Act), RF β (frS fr0 rs kn src) A → Region.wanted o (yielded ops A.tmps) = false) ∧ (pass kn').val = some r)) := by
  unfold cmpG at hg
  cases hgd : o.guard with
  | none =>
    rw [hgd] at hg
    simp only [Option.some.injEq] at hg
    subst hg
    exact ⟨kn, hkn, Or.inl ⟨fun β A _ => by unfold Region.wanted; rw [hgd], h⟩⟩
  | some p =>
    obtain ⟨i, want⟩ := p
    rw [hgd] at hg
    simp only at hg
    split at hg
    · rename_i t ht
      obtain rfl := Option.some.inj hg
      have hy : ∀ (s c : Bool), (frS fr0 rs kn src).get t = some (.bool s c) → ∀ (β : Names) (A : Act), RF β (frS fr0 rs kn src) A → Region.wanted o (yielded ops A.tmps) = (c == want) := by
        intro s c hc β A hF
        obtain ⟨u, h1, h2⟩ := hF t _ hc
        simp only [RV] at h2
        subst h2
        unfold Region.wanted
        rw [hgd]
        unfold slotOf at ht
        rw [Array.getElem?_toList] at ht
        simp only [yielded, ht, Option.bind_some, h1]
        rfl
      unfold guardD at h
      simp only at h
      split at h
      · rename_i c hc
        have e := hy false c hc
        split at h
        · rename_i hq; exact ⟨kn, hkn, Or.inl ⟨fun β A hF => (e β A hF).trans hq, h⟩⟩
        · rename_i hq; exact ⟨kn, hkn, Or.inr ⟨fun β A hF => (e β A hF).trans (by simpa using hq), h⟩⟩
      · rename_i c hc
        have e := hy true c hc
        have ka := hkn.add (frS_key hc)
        split at h <;> cases c
        · exact ⟨_, ka, Or.inr ⟨e, h⟩⟩
        · exact ⟨_, ka, Or.inl ⟨e, h⟩⟩
        · exact ⟨_, ka, Or.inl ⟨e, h⟩⟩
        · exact ⟨_, ka, Or.inr ⟨e, h⟩⟩
      · rename_i hc
        refine ⟨kn, hkn, Or.inr ⟨fun β A hF => ?_, h⟩⟩
        obtain ⟨u, h1, h2⟩ := hF t _ hc
        obtain ⟨us, rfl, _⟩ := h2
        unfold Region.wanted
        rw [hgd]
        unfold slotOf at ht
        rw [Array.getElem?_toList] at ht
        simp only [yielded, ht, Option.bind_some, h1]
        rfl
      · simp [R.val] at h
    · simp at hg
theorem drwC_cons (base : Nat) (ban : List (Nat × Nat)) (o : Ins) (l : List Ins) (rs : List Rc) (kn : Kn) (s : aP) : drwC CT call base ban (o :: l) rs kn s = stepD CT call base ban o (drwC CT call base ban l) rs kn s := rfl
noncomputable def kJ (e : Ev) : Rc := ⟨e.j, e.puts, e.lo, e.hi, e.tch, e.t.map way, e.v⟩
theorem banned_app {a b : List (Nat × Nat)} {g : Nat} : banned (a ++ b) g = (banned a g || banned b g) := by
  induction a with
  | nil => simp [banned]
  | cons x a ih => obtain ⟨p, q⟩ := x; simp only [List.cons_append, banned, ih, Bool.or_assoc]
theorem banned_mem {ban : List (Nat × Nat)} {g a b : Nat} (h : (a, b) ∈ ban) (h1 : a ≤ g) (h2 : g < b) : banned ban g = true := by
  induction ban with
  | nil => simp at h
  | cons x ban ih =>
    obtain ⟨p, q⟩ := x
    simp only [banned, Bool.or_eq_true, Bool.and_eq_true]
    rcases List.mem_cons.1 h with e | e
    · simp only [Prod.mk.injEq] at e
      obtain ⟨rfl, rfl⟩ := e
      exact Or.inl ⟨Eq.mpr Nat.ble_eq h1, Eq.mpr Nat.blt_eq h2⟩
    · exact Or.inr (ih e)
theorem bansOf_mem {D : Nat} {r : Rc} : ∀ {rs : List Rc}, r ∈ rs → D.testBit r.j = false → (∀ p ∈ r.puts, (p, p + 1) ∈ kZ D rs) ∧ (r.lo < r.hi → (r.lo, r.hi) ∈ kZ D rs)
  | [], h, _ => by simp at h
  | x :: rs, h, hd => by
    unfold kZ
    rcases List.mem_cons.1 h with rfl | h
    · rw [hd]
      simp only
      split
      · exact ⟨fun p hp => by simp only [List.mem_cons, List.mem_append, List.mem_map]; exact Or.inl (Or.inr ⟨p, hp, rfl⟩), fun _ => by simp⟩
      · rename_i hb
        exact ⟨fun p hp => by simp only [List.mem_append, List.mem_map]; exact Or.inl ⟨p, hp, rfl⟩, fun hl => by rw [Eq.mpr Nat.blt_eq hl] at hb; simp at hb⟩
    · obtain ⟨k1, k2⟩ := bansOf_mem h hd
      split
      · exact ⟨k1, k2⟩
      · split
        · exact ⟨fun p hp => by simp only [List.mem_append, List.mem_cons]; exact Or.inr (k1 p hp), fun hl => by simp only [List.mem_append, List.mem_cons]; exact Or.inr (k2 hl)⟩
        · exact ⟨fun p hp => by simp only [List.mem_append]; exact Or.inr (k1 p hp), fun hl => by simp only [List.mem_append]; exact Or.inr (k2 hl)⟩
theorem bansOf_lt {D b : Nat} : ∀ {rs : List Rc}, (∀ r ∈ rs, r.hi ≤ b ∧ ∀ p ∈ r.puts, p < b) → ∀ x ∈ kZ D rs, x.2 ≤ b
  | [], _, x, hx => by simp [kZ] at hx
  | r :: rs, h, x, hx => by
    have h0 := h r (by simp)
    have ih := bansOf_lt (D := D) (b := b) (rs := rs) (fun q hq => h q (by simp [hq]))
    have pm : x ∈ r.puts.map (fun p => (p, p + 1)) → x.2 ≤ b := fun k => by
      obtain ⟨p, hp, rfl⟩ := List.mem_map.1 k
      have := h0.2 p hp
      simp only; omega
    unfold kZ at hx
    split at hx
    · exact ih x hx
    · split at hx
      · simp only [List.mem_append, List.mem_cons] at hx
        rcases hx with (rfl | k) | k
        · exact h0.1
        · exact pm k
        · exact ih x k
      · simp only [List.mem_append] at hx
        rcases hx with k | k
        · exact pm k
        · exact ih x k
theorem noClash_ok {D : Nat} {puts : List Nat} {rs : List Rc} (h : noClash D puts rs = true) {r : Rc} (hr : r ∈ rs) (hd : D.testBit r.j = false) : puts = [] ∨ ∃ l, r.tch = some l ∧ ∀ p ∈ puts, p ∉ l := by
  unfold noClash at h
  split at h
  · exact Or.inl rfl
  · right
    have k := List.all_eq_true.1 h r hr
    rw [hd, Bool.false_or] at k
    unfold apart at k
    split at k
    · rename_i l hl
      refine ⟨l, hl, fun p hp hq => ?_⟩
      have := List.all_eq_true.1 k p hp
      simp at this
      exact this hq
    · simp at k
theorem look_ok {j : Nat} {c : CV} : ∀ {es : List Ev}, look j (es.map kJ) = some c → ∃ e ∈ es, e.j = j ∧ e.v = c
  | [], h => by simp [look] at h
  | e :: es, h => by
    rw [List.map_cons] at h
    unfold look at h
    split at h
    · rename_i hb
      exact ⟨e, by simp, Nat.eq_of_beq_eq_true hb, Option.some.inj h⟩
    · obtain ⟨e', h1, h2⟩ := look_ok h
      exact ⟨e', by simp [h1], h2⟩
theorem stlK_le {fr : dV} {rs : List Rc} {kn : Kn} (h : wR fr rs kn) {k : Ksr} {c : CV} (hc : vK fr rs k = some c) : l7 c (stlK kn k c) := by
  intro β u hu
  unfold stlK
  split
  · exact hu
  · split
    · rename_i b
      split
      · rename_i hf
        obtain rfl := h k true hf _ _ hc
        exact hu
      · rename_i hf
        obtain rfl := h k false hf _ _ hc
        exact hu
      · exact hu
    · exact hu
theorem frS_ok {fr0 : dV} {rs : List Rc} {kn : Kn} (hk : wR fr0 rs kn) {t : Nat} {c : CV} : ∀ {src : List Ksr}, (∀ w s, (w, s) ∈ src → ∃ t, w = way t) → (frS fr0 rs kn src).get t = some c → ((way t, none) ∈ src ∧ ∃ c0, fr0.get t = some c0 ∧ l7 c0 c) ∨ ∃ j c0, (way t, some j) ∈ src ∧ look j rs = some c0 ∧ l7 c0 c
  | [], _, h => by simp [frS, Tr.get_e] at h
  | (w, s) :: src, hw, h => by
    have ih : (frS fr0 rs kn src).get t = some c → ((way t, none) ∈ (w, s) :: src ∧ ∃ c0, fr0.get t = some c0 ∧ l7 c0 c) ∨ ∃ j c0, (way t, some j) ∈ (w, s) :: src ∧ look j rs = some c0 ∧ l7 c0 c := fun k => by
      rcases frS_ok hk (fun w s hm => hw w s (by simp [hm])) k with ⟨q1, q2⟩ | ⟨j, c0, q1, q2⟩
      · exact Or.inl ⟨by simp [q1], q2⟩
      · exact Or.inr ⟨j, c0, by simp [q1], q2⟩
    obtain ⟨t', rfl⟩ := hw w s (by simp)
    simp only [frS] at h
    split at h
    · rename_i c' hc'
      have put : ((frS fr0 rs kn src).put (some (stlK kn (way t', s) c')) (way t')).get t = if t' = t then some (stlK kn (way t', s) c') else (frS fr0 rs kn src).get t := Tr.get_set _ _ _ _
      rw [put] at h
      by_cases e : t' = t
      · rw [if_pos e] at h
        subst e
        have hl := stlK_le hk hc'
        rw [Option.some.inj h] at hl
        cases s with
        | none => exact Or.inl ⟨by simp, c', hc', hl⟩
        | some j => exact Or.inr ⟨j, c', by simp, hc', hl⟩
      · rw [if_neg e] at h; exact ih h
    · exact ih h
end
section
variable {P : Program} {CT : bQ} {call : mY}
structure One (P : Program) (N : Nat) (ops : Array Oper) (fr0 : dV) (nx0 : Nat) (es : List Ev) (e : Ev) (o : Oper) : Prop where
  op : ops[e.j]? = some o
  dst : o.dst = e.t
  ok : okD N o.dst = true
  dep : e.dep = (Region.before ops).toList.getD e.j 0
  real : RealE P ops e o
  lo : nx0 ≤ e.lo
  le : e.lo ≤ e.hi
  dom : ∀ n, e.V n ≠ none → n < e.lo
  pts : ∀ p ∈ e.puts, e.V p ≠ none
  src : ∀ t c, e.fr.get t = some c → (∃ e' ∈ es, e.dep.testBit e'.j = true ∧ e'.t = some t ∧ l7 e'.v c) ∨ ((∃ c0, fr0.get t = some c0 ∧ l7 c0 c) ∧ ∀ k ok, ops.toList[k]? = some ok → ok.dst = some t → ((Region.before ops).toList.getD k 0).testBit e.j = true)
structure PG (P : Program) (N : Nat) (ops : Array Oper) (fr0 : dV) (V0 : Acc) (n0 nx0 : Nat) (ban : List (Nat × Nat)) (H0 : Tr HO) (es : List Ev) (s : aP) : Prop where
  one : ∀ e ∈ es, ∃ o, One P N ops fr0 nx0 es e o
  top : ∀ e ∈ es, e.hi ≤ s.nx
  nx : nx0 ≤ s.nx
  wr : ∀ e ∈ es, ∀ p ∈ e.puts, p < n0 → p ∈ s.wr
  pair : es.Pairwise (fun b a => a.hi ≤ b.lo ∧ (b.dep.testBit a.j = false → (∀ n, a.at_ n → b.V n = none) ∧ (b.puts = [] ∨ ∃ l, a.tch = some l ∧ ∀ p ∈ b.puts, p ∉ l)))
  view : ∀ later x rest, es = later ++ x :: rest → ∀ n o, x.V n = some o → cont (fun _ => true) V0 rest n = some o
  cont : cont (fun _ => true) V0 es = acc ban s.H
  pu : Pu n0 ban H0 s
  fr : s.fr = fr0
theorem nR.less {V V' : Acc} {H : Tr HO} {nx : Nat} {out : Out} (h : nR V H nx out) (k : ∀ n, V n ≠ none → V' n ≠ none) : nR V' H nx out := ⟨h.le, h.keep, fun p hp => k p (h.puts p hp)⟩
theorem PG.cons {N : Nat} {ops : Array Oper} {fr0 : dV} {V0 : Acc} {n0 nx0 : Nat} {ban : List (Nat × Nat)} {H0 : Tr HO} {es : List Ev} {s : aP} (h : PG P N ops fr0 V0 n0 nx0 ban H0 es s) {e : Ev} {o : Oper} {out : Out} (h1 : One P N ops fr0 nx0 es e o) (hl : e.lo = s.nx) (hH : e.H = out.H) (hh : e.hi = out.nx) (hp : e.puts = out.puts) (hf : nR (acc ban s.H) s.H s.nx out) (hV : ∀ n x, e.V n = some x → acc ban s.H n = some x) (hpair : ∀ a ∈ es, e.dep.testBit a.j = false → (∀ n, a.at_ n → e.V n = none) ∧ (e.puts = [] ∨ ∃ l, a.tch = some l ∧ ∀ p ∈ e.puts, p ∉ l)) : PG P N ops fr0 V0 n0 nx0 ban H0 (e :: es) ⟨s.fr, out.H, out.nx, vX n0 out.puts s.wr⟩ := by
  have up : ∀ {x : Ev} {o : Oper}, One P N ops fr0 nx0 es x o → One P N ops fr0 nx0 (e :: es) x o := fun k => ⟨k.op, k.dst, k.ok, k.dep, k.real, k.lo, k.le, k.dom, k.pts, fun t c hc => (k.src t c hc).imp (fun ⟨e', q1, q2⟩ => ⟨e', by simp [q1], q2⟩) id⟩
  refine ⟨fun x hx => ?_, fun x hx => ?_, Nat.le_trans h.nx hf.le, fun x hx p hpx hn => ?_, ?_, fun later x rest hes n ob hn => ?_, ?_, h.pu.after hf _, h.fr⟩
  · rcases List.mem_cons.1 hx with rfl | hx
    · exact ⟨o, up h1⟩
    · obtain ⟨o', k⟩ := h.one x hx
      exact ⟨o', up k⟩
  · rcases List.mem_cons.1 hx with rfl | hx
    · exact Nat.le_of_eq hh
    · exact Nat.le_trans (h.top x hx) hf.le
  · rcases List.mem_cons.1 hx with rfl | hx
    · exact jA.2 (Or.inl ⟨by rw [← hp]; exact hpx, hn⟩)
    · exact jA.2 (Or.inr (h.wr x hx p hpx hn))
  · refine List.Pairwise.cons (fun a ha => ⟨?_, hpair a ha⟩) h.pair
    rw [hl]; exact h.top a ha
  · cases later with
    | nil =>
      simp only [List.nil_append, List.cons.injEq] at hes
      obtain ⟨rfl, rfl⟩ := hes
      rw [h.cont]
      exact hV n ob hn
    | cons y later =>
      simp only [List.cons_append, List.cons.injEq] at hes
      exact h.view later x rest hes.2 n ob hn
  · show nS (Go.Proofs.YtcgdimlbbdfdpaaGreatDoor.cont (fun _ => true) V0 es) e.H e.lo e.hi e.puts = acc ban out.H
    rw [h.cont, hH, hl, hh, hp]
    exact aft_acc h.pu.bans hf
theorem PG.step (hC : iP P CT call) {N : Nat} {ops : Array Oper} {fr0 : dV} {V0 : Acc} {n0 nx0 : Nat} {ban : List (Nat × Nat)} {H0 : Tr HO} {es : List Ev} {s : aP} (h : PG P N ops fr0 V0 n0 nx0 ban H0 es s) {x : Ins} {o : Oper} (hx : StatI P N ops.toList (Region.before ops).toList x o) {ih : List Rc → Kn → aP → R aP} {r : aP} {kn : Kn} (hkn : wR s.fr (es.map kJ) kn) (hr : (stepD CT call n0 ban x ih (es.map kJ) kn s).val = some r) : ∃ e s' kn', e.j = x.j ∧ (∀ p ∈ s.wr, p ∈ s'.wr) ∧ PG P N ops fr0 V0 n0 nx0 ban H0 (e :: es) s' ∧ wR s'.fr ((e :: es).map kJ) kn' ∧ (ih ((e :: es).map kJ) kn' s').val = some r := by
  have hop : ops[x.j]? = some o := by rw [← Array.getElem?_toList]; exact hx.op
  have puts_lt : ∀ e ∈ es, ∀ p ∈ e.puts, p < s.nx := fun e he p hp => by
    obtain ⟨o', k⟩ := h.one e he
    have := k.dom p (k.pts p hp)
    have := k.le
    have := h.top e he
    omega
  have src : ∀ t c, (frS s.fr (es.map kJ) kn x.src).get t = some c → (∃ e' ∈ es, x.dep.testBit e'.j = true ∧ e'.t = some t ∧ l7 e'.v c) ∨ ((∃ c0, fr0.get t = some c0 ∧ l7 c0 c) ∧ ∀ k ok, ops.toList[k]? = some ok → ok.dst = some t → ((Region.before ops).toList.getD k 0).testBit x.j = true) := by
    intro t c hc
    rcases frS_ok hkn (fun w s hm => by obtain ⟨t, q, _⟩ := hx.src w s hm; exact ⟨t, q⟩) hc with ⟨q1, c0, q2, q3⟩ | ⟨j, c0, q1, q2, q3⟩
    · right
      rw [h.fr] at q2
      obtain ⟨t', e1, ⟨j, e2, _⟩ | ⟨_, k⟩⟩ := hx.src _ _ q1
      · simp at e2
      · obtain rfl := Tr.way_inj e1
        exact ⟨⟨c0, q2, q3⟩, k⟩
    · left
      obtain ⟨t', e1, ⟨j', e2, k1, oj, k2, k3⟩ | ⟨e2, _⟩⟩ := hx.src _ _ q1
      · obtain rfl := Tr.way_inj e1
        obtain rfl := Option.some.inj e2
        obtain ⟨e', m1, m2, m3⟩ := look_ok q2
        obtain ⟨o', k⟩ := h.one e' m1
        have e3 := k.op
        rw [m2, ← Array.getElem?_toList, k2] at e3
        obtain rfl := Option.some.inj e3
        exact ⟨e', m1, by rw [m2]; exact k1, by rw [← k.dst]; exact k3, by rw [m3]; exact q3⟩
      · simp at e2
  have bl : ∀ y ∈ kZ x.dep (es.map kJ) ++ ban, y.2 ≤ s.nx := fun y hy => by
    rcases List.mem_append.1 hy with q | q
    · refine bansOf_lt (fun r hr => ?_) y q
      obtain ⟨e, he, rfl⟩ := List.mem_map.1 hr
      exact ⟨h.top e he, fun p hp => puts_lt e he p hp⟩
    · exact h.pu.bans y q
  have sub : ∀ n z, acc (kZ x.dep (es.map kJ) ++ ban) s.H n = some z → acc ban s.H n = some z := fun n z hz => by
    rw [sO] at hz ⊢
    split at hz
    · simp at hz
    · rename_i hb
      rw [banned_app] at hb
      simp only [Bool.or_eq_true, not_or] at hb
      rw [if_neg hb.2]; exact hz
  have dm : ∀ n, acc (kZ x.dep (es.map kJ) ++ ban) s.H n ≠ none → n < s.nx := fun n hn => by
    obtain ⟨z, hz⟩ := Option.ne_none_iff_exists'.1 hn
    exact h.pu.dom n (by rw [sub n z hz]; simp)
  unfold stepD at hr
  obtain ⟨kn', hkn', hgd⟩ := guardD_ok hx.g hkn hr
  rcases hgd with ⟨hw, k⟩ | ⟨hw, k⟩
  · obtain ⟨out, tch, q1, q2⟩ := opC_ok hx.k rfl hC bl dm k
    split at q1
    · rename_i hcl
      have hf : nR (acc ban s.H) s.H s.nx out := q2.frc.less (fun n hn => by
        obtain ⟨z, hz⟩ := Option.ne_none_iff_exists'.1 hn
        rw [sub n z hz]; simp)
      refine ⟨⟨x.j, x.dep, acc (kZ x.dep (es.map kJ) ++ ban) s.H, out.H, s.nx, out.nx, out.puts, tch, o.dst, out.v, frS s.fr (es.map kJ) kn x.src⟩, ⟨s.fr, out.H, out.nx, vX n0 out.puts s.wr⟩, rV x.j kn', rfl, fun p hp => jA.2 (Or.inr hp), ?_, wR.next hkn' (kJ ⟨x.j, x.dep, acc (kZ x.dep (es.map kJ) ++ ban) s.H, out.H, s.nx, out.nx, out.puts, tch, o.dst, out.v, frS s.fr (es.map kJ) kn x.src⟩), ?_⟩
      · refine h.cons (o := o) ⟨hop, rfl, hx.ok, hx.dep, fun β A hG hF => Or.inr ⟨hw β A hF, q2.real β A hG hF, fun l hl => ⟨(q2.near l hl).1, fun V hV => (q2.near l hl).2 β A V hG hF hV⟩⟩, h.nx, hf.le, dm, q2.frc.puts, src⟩ rfl rfl rfl rfl hf sub (fun a ha hd => ⟨fun n hn => ?_, ?_⟩)
        · have m : kJ a ∈ es.map kJ := List.mem_map.2 ⟨a, ha, rfl⟩
          obtain ⟨b1, b2⟩ := bansOf_mem m hd
          show acc _ s.H n = none
          rw [sO, if_pos]
          rw [banned_app, Bool.or_eq_true]
          left
          rcases hn with hn | hn
          · exact banned_mem (b2 (show a.lo < a.hi by omega)) hn.1 hn.2
          · exact banned_mem (b1 n hn) (Nat.le_refl _) (Nat.lt_succ_self _)
        · have m : kJ a ∈ es.map kJ := List.mem_map.2 ⟨a, ha, rfl⟩
          exact noClash_ok hcl m hd
      · rw [hx.d] at q1; exact q1
    · simp [R.val] at q1
  · refine ⟨⟨x.j, x.dep, fun _ => none, s.H, s.nx, s.nx, [], some [], o.dst, .tup [], frS s.fr (es.map kJ) kn x.src⟩, ⟨s.fr, s.H, s.nx, s.wr⟩, rV x.j kn', rfl, fun p hp => hp, ?_, wR.next hkn' (kJ ⟨x.j, x.dep, fun _ => none, s.H, s.nx, s.nx, [], some [], o.dst, .tup [], frS s.fr (es.map kJ) kn x.src⟩), ?_⟩
    · exact h.cons (o := o) (out := ⟨.tup [], s.H, s.nx, []⟩) ⟨hop, rfl, hx.ok, hx.dep, fun β A hG hF => Or.inl ⟨hw β A hF, rfl, rfl, rfl⟩, h.nx, Nat.le_refl _, fun n hn => absurd rfl hn, fun p hp => by simp at hp, src⟩ rfl rfl rfl rfl dS (fun n z hz => by simp at hz) (fun a ha hd => ⟨fun n hn => rfl, Or.inl rfl⟩)
    · rw [hx.d] at k; exact k
end
section
variable {P : Program} {CT : bQ} {call : mY}
theorem drw_run (hC : iP P CT call) {N : Nat} {ops : Array Oper} {fr0 : dV} {V0 : Acc} {n0 nx0 : Nat} {ban : List (Nat × Nat)} {H0 : Tr HO} {s' : aP} : ∀ {l : List Ins} {es : List Ev} {kn : Kn} {s : aP}, (∀ x ∈ l, ∃ o, StatI P N ops.toList (Region.before ops).toList x o) → PG P N ops fr0 V0 n0 nx0 ban H0 es s → wR s.fr (es.map kJ) kn → (drwC CT call n0 ban l (es.map kJ) kn s).val = some s' → ∃ es' s1, PG P N ops fr0 V0 n0 nx0 ban H0 es' s1 ∧ es'.map (·.j) = (l.map (·.j)).reverse ++ es.map (·.j) ∧ (∀ p ∈ s.wr, p ∈ s1.wr) ∧ s' = ⟨frE s1.fr (es'.map kJ), s1.H, s1.nx, s1.wr⟩
  | [], es, kn, s, _, h, _, hr => ⟨es, s, h, by simp, fun _ hp => hp, (Option.some.inj hr).symm⟩
  | x :: l, es, kn, s, hx, h, hkn, hr => by
    rw [drwC_cons] at hr
    obtain ⟨o, ho⟩ := hx x (by simp)
    obtain ⟨e, s2, kn', h1, h2, h3, hkn', h4⟩ := h.step hC ho hkn hr
    obtain ⟨es', s1, k1, k2, k3, k4⟩ := drw_run hC (fun y hy => hx y (by simp [hy])) h3 hkn' h4
    exact ⟨es', s1, k1, by rw [k2]; simp [h1], fun p hp => k3 p (h2 p hp), k4⟩
theorem PG.drw {N : Nat} {ops : Array Oper} {fr0 : dV} {V0 : Acc} {n0 nx0 : Nat} {ban : List (Nat × Nat)} {H0 : Tr HO} {es : List Ev} {s : aP} (h : PG P N ops fr0 V0 n0 nx0 ban H0 es s) (h0 : n0 ≤ nx0) (hV : ∀ n, V0 n ≠ none → n < nx0) (hn : (es.map (·.j)).Nodup) (hf : ∀ i, i < ops.size → i ∈ es.map (·.j)) (ho : once ops.toList = true) : Drw P ops fr0 V0 n0 nx0 s.nx N s.wr es := by
  have ids : ∀ later x rest, es = later ++ x :: rest → ∀ e ∈ later ++ rest, e.j ≠ x.j := by
    intro later x rest hes e he hj
    rw [hes, List.map_append, List.map_cons, List.nodup_append] at hn
    obtain ⟨n1, n2, n3⟩ := hn
    rcases List.mem_append.1 he with q | q
    · exact n3 e.j (List.mem_map.2 ⟨e, q, rfl⟩) x.j (by simp) hj
    · exact (List.nodup_cons.1 n2).1 (List.mem_map.2 ⟨e, q, hj⟩)
  refine ⟨fun i hi => ?_, fun e he => ?_, fun e he => ?_, h0, hV, fun e he => ?_, fun e he => ?_, h.wr, ids, fun later x rest hes e he => ?_, fun later x rest hes e he => ?_, h.view, fun e he t c hc => ?_, fun later x rest hes e he t ht hx => ?_⟩
  · obtain ⟨e, q1, q2⟩ := List.mem_map.1 (hf i hi)
    exact ⟨e, q1, q2⟩
  · obtain ⟨o, k⟩ := h.one e he
    exact ⟨o, k.op, k.dst, fun t ht => okD_ok k.ok t (by rw [k.dst]; exact ht), k.real⟩
  · obtain ⟨o, k⟩ := h.one e he
    exact ⟨k.lo, k.le, h.top e he⟩
  · obtain ⟨o, k⟩ := h.one e he; exact k.dom
  · obtain ⟨o, k⟩ := h.one e he; exact k.pts
  · have p := h.pair
    rw [hes, List.pairwise_append] at p
    exact p.2.2 e he x (by simp)
  · have p := h.pair
    rw [hes, List.pairwise_append] at p
    have q := (List.pairwise_cons.1 p.2.1).1 e he
    exact ⟨q.1, fun hd => (q.2 hd).1⟩
  · obtain ⟨o, k⟩ := h.one e he
    rcases k.src t c hc with q | ⟨q1, q2⟩
    · exact Or.inl q
    · refine Or.inr ⟨q1, fun e' he' ht => ?_⟩
      obtain ⟨o', k'⟩ := h.one e' he'
      rw [k'.dep]
      exact q2 e'.j o' (by rw [Array.getElem?_toList]; exact k'.op) (by rw [k'.dst]; exact ht)
  · have he' : e ∈ es := by rw [hes]; simp only [List.mem_append, List.mem_cons] at he ⊢; exact he.imp id Or.inr
    have hx' : x ∈ es := by rw [hes]; simp
    obtain ⟨o, k⟩ := h.one e he'
    obtain ⟨o', k'⟩ := h.one x hx'
    exact ids later x rest hes e he (once_ok ho e.j x.j o o' t (by rw [Array.getElem?_toList]; exact k.op) (by rw [Array.getElem?_toList]; exact k'.op) (by rw [k.dst]; exact ht) (by rw [k'.dst]; exact hx))
theorem frE_ok {fr0 : dV} {t : Nat} {c : CV} : ∀ {es : List Ev}, (frE fr0 (es.map kJ)).get t = some c → (∃ e ∈ es, e.t = some t ∧ e.v = c) ∨ (fr0.get t = some c ∧ ∀ e ∈ es, e.t ≠ some t)
  | [], h => Or.inr ⟨h, fun e he => by simp at he⟩
  | e :: es, h => by
    have ih : (frE fr0 (es.map kJ)).get t = some c → e.t ≠ some t → (∃ e' ∈ e :: es, e'.t = some t ∧ e'.v = c) ∨ (fr0.get t = some c ∧ ∀ e' ∈ e :: es, e'.t ≠ some t) := fun k hne => by
      rcases frE_ok k with ⟨e', q1, q2⟩ | ⟨q1, q2⟩
      · exact Or.inl ⟨e', by simp [q1], q2⟩
      · refine Or.inr ⟨q1, fun e' he' => ?_⟩
        rcases List.mem_cons.1 he' with rfl | he'
        · exact hne
        · exact q2 e' he'
    cases het : e.t with
    | none =>
      have e0 : frE fr0 ((e :: es).map kJ) = frE fr0 (es.map kJ) := by
        simp only [List.map_cons, frE, kJ, het, Option.map_none, setD]
      rw [e0] at h
      exact ih h (by rw [het]; simp)
    | some d =>
      have e0 : (frE fr0 ((e :: es).map kJ)).get t = if d = t then some e.v else (frE fr0 (es.map kJ)).get t := by
        simp only [List.map_cons, frE, kJ, het, Option.map_some, setD]
        exact Tr.get_set _ _ _ _
      rw [e0] at h
      by_cases hd : d = t
      · rw [if_pos hd] at h
        exact Or.inl ⟨e, by simp, by rw [het, hd], Option.some.inj h⟩
      · rw [if_neg hd] at h
        exact ih h (by rw [het]; simp [hd])
theorem drw_ok (hC : iP P CT call) (hm : P.follows .mixedOrders = true) {id : Nat} {ops : Array Oper} {Q : Exit → Act → World → Prop} {β0 : Names} {n0 N : Nat} {w0 : World} {ban : List (Nat × Nat)} {H0 : Tr HO} {s' : aP} (ht : mW β0 n0 s'.nx) (hq : ∀ β A w, Inv β0 n0 N w0 ban s' β A w → Pu n0 ban H0 s' → Q .normal A w) {l0 l : List Ins} (hc : cmpD P N ops.toList (Region.before ops).toList 0 ops.toList = some l0) (hp : l0.Perm l) (ho : once ops.toList = true) (hb : backL 0 ops.toList = true) {s : aP} {β : Names} {A : Act} {w : World} (h : (drwC CT call n0 ban l [] [] s).val = some s') (hI : Inv β0 n0 N w0 ban s β A w) (pu : Pu n0 ban H0 s) : (Code.region id ops true).wp P Q A w := by
  obtain ⟨c1, c2⟩ := cmpD_ok ho (j := 0) (r := ops.toList) rfl hc
  have st : ∀ x ∈ l, ∃ o, StatI P N ops.toList (Region.before ops).toList x o := fun x hx => c1 x (hp.mem_iff.2 hx)
  have g0 : PG P N ops s.fr (acc ban s.H) n0 s.nx ban H0 [] s := ⟨fun e he => by simp at he, fun e he => by simp at he, Nat.le_refl _, fun e he => by simp at he, List.Pairwise.nil, fun later x rest hes => by simp at hes, rfl, pu, rfl⟩
  obtain ⟨es, s1, g1, g2, g3, g4⟩ := drw_run hC st g0 (kn := []) (fun k b hf => by simp [knF] at hf) h
  have perm : (es.map (·.j)).Perm (List.range' 0 ops.toList.length) := by
    rw [g2, List.map_nil, List.append_nil, ← c2]
    exact (List.reverse_perm _).trans (hp.map _).symm
  have hD := g1.drw pu.le pu.dom (perm.nodup_iff.2 (List.nodup_range')) (fun i hi => perm.mem_iff.2 (by rw [List.mem_range'_1]; simp; omega)) ho
  have hnx : s'.nx = s1.nx := by rw [g4]
  have hfr : mW β0 n0 s1.nx := by rw [← hnx]; exact ht
  refine wp_region_any hm ?_
  refine any_ok (β0 := β0) (w0 := w0) hD hb (fun D x hx hcl hrd k hk => ?_) (fun D β' A' w' hd hDI => ?_) ops.size _ β A _ (by simp) ?_ (fun e he => ?_) (fun e he hd => ?_) ?_
  · obtain ⟨o, ko⟩ := g1.one x hx
    rw [ko.dep] at hk
    obtain ⟨o', q1, ed, q2, q3, q4⟩ := before_bit hk
    have hon := hrd o' q1 ed q2 q3
    rcases q4 with rfl | q4
    · exact hon
    · obtain ⟨oe, r1, _⟩ := before_bit q4
      obtain ⟨e', m1, m2⟩ := hD.full ed.on (Array.getElem?_eq_some_iff.1 r1).1
      obtain ⟨o2, k2⟩ := g1.one e' m1
      exact hcl e' m1 (by rw [m2]; exact hon) k (by rw [k2.dep, m2]; exact q4)
  · have e1 : cont D (acc ban s.H) es = acc ban s1.H := by
      rw [← g1.cont]
      funext n
      exact vG (fun e he => Or.inl (hd e he))
    have hi : Inv β0 n0 N w0 ban s' β' A' w' := by
      rw [g4]
      refine ⟨hDI.gl, fun t c hc => ?_, hDI.size, by rw [← e1]; exact hDI.hv, hDI.tr, hDI.dfr⟩
      have hc' : (frE s1.fr (es.map kJ)).get t = some c := hc
      rw [g1.fr] at hc'
      rcases frE_ok hc' with ⟨e, q1, q2, rfl⟩ | ⟨q1, q2⟩
      · exact hDI.s1 e q1 (hd e q1) t q2
      · exact hDI.s2 t c q1 (fun e he _ => q2 e he)
    refine hq β' A' w' hi ?_
    rw [g4]
    exact ⟨g1.pu.le, g1.pu.bnd, g1.pu.dom, g1.pu.kp, g1.pu.kq, g1.pu.lg⟩
  · have : ∀ n, xX (fun k => (Array.replicate ops.size false).getD k false) n = n := by
      intro n
      induction n with
      | zero => rfl
      | succ n ih =>
        unfold xX
        have e : (Array.replicate ops.size false).getD n false = false := by
          rw [Array.getD_eq_getD_getElem?, Array.getElem?_replicate]; split <;> rfl
        rw [ih, e]
    exact this ops.size
  · obtain ⟨o, k⟩ := g1.one e he
    exact (Array.getElem?_eq_some_iff.1 k.op).1
  · have e0 : (Array.replicate ops.size false).getD e.j false = false := by
      rw [Array.getD_eq_getD_getElem?, Array.getElem?_replicate]; split <;> rfl
    rw [e0] at hd
    simp at hd
  · have e0 : ∀ k, (Array.replicate ops.size false).getD k false = false := fun k => by
      rw [Array.getD_eq_getD_getElem?, Array.getElem?_replicate]; split <;> rfl
    have ec : cont (fun k => (Array.replicate ops.size false).getD k false) (acc ban s.H) es = acc ban s.H := by
      funext n
      have := uO (D := fun k => (Array.replicate ops.size false).getD k false) (V0 := acc ban s.H) (n := n) (es := []) (later := es) (fun e he => Or.inl (e0 e.j))
      rw [List.append_nil] at this
      exact this
    have le1 := hI.tr.le
    refine ⟨hI.gl, by rw [ec]; exact hI.hv.same (fun _ _ _ _ => rfl) (fun _ _ => rfl), hI.size, hI.dfr, ⟨fun n hn => hI.tr.ext n (by have := g1.nx; omega), hI.tr.sxm, hI.tr.fpm, hI.tr.fpn, by have := g1.nx; omega, ⟨hI.tr.upd.os, hI.tr.upd.tape, hI.tr.upd.output, hI.tr.upd.size, fun k hk hn => hI.tr.upd.block k hk (fun ⟨p, q1, q2⟩ => hn ⟨p, g3 p q1, q2⟩)⟩, fun n a h1 h2 ha => ?_⟩, fun e he _ n h1 h2 => ?_, fun e he hd => ?_, fun t c hc _ => hI.fr t c hc⟩
    · by_cases hl : n < s.nx
      · exact (hI.tr.born n a h1 hl ha).imp (fun q => q) (fun ⟨p, q1, q2⟩ => ⟨p, g3 p q1, q2⟩)
      · rw [(hI.tr.ext n (Or.inr (by omega))).1, hfr n h1 h2] at ha
        simp at ha
    · have r := hD.rng e he
      rw [(hI.tr.ext n (Or.inr (by omega))).1]
      exact hfr n (by have := pu.le; omega) (by omega)
    · simp only [e0] at hd
      simp at hd
end
section
variable {P : Program} {CT : bQ} {call : mY}
def exR : Ex → Exit
  | .nrm => .normal
  | .exit i => .exit i
  | .ret => .ret
theorem guardD_or {α : Type} {g : Option (List Bool × Bool)} {fr : dV} {kn : Kn} {src : List Ksr} {go pass : Kn → R α} {r : α} (h : (guardD g fr kn src go pass).val = some r) : ∃ kn', (go kn').val = some r ∨ (pass kn').val = some r := by
  unfold guardD at h
  split at h
  · exact ⟨_, Or.inl h⟩
  · split at h
    · split at h
      · exact ⟨_, Or.inl h⟩
      · exact ⟨_, Or.inr h⟩
    · rename_i c _
      split at h <;> cases c
      · exact ⟨_, Or.inr h⟩
      · exact ⟨_, Or.inl h⟩
      · exact ⟨_, Or.inl h⟩
      · exact ⟨_, Or.inr h⟩
    · exact ⟨_, Or.inr h⟩
    · simp [R.val] at h
theorem drwC_mono {base : Nat} {ban : List (Nat × Nat)} : ∀ {l : List Ins} {rs : List Rc} {kn : Kn} {s s' : aP}, (drwC CT call base ban l rs kn s).val = some s' → s.nx ≤ s'.nx
  | [], rs, kn, s, s', h => by
    have e := Option.some.inj h
    rw [← e]
    exact Nat.le_refl _
  | o :: l, rs, kn, s, s', h => by
    rw [drwC_cons] at h
    unfold stepD at h
    obtain ⟨kn', k | k⟩ := guardD_or h
    · obtain ⟨v, H, nx, puts, tch, h1, h2⟩ := opC_mono k
      split at h2
      · exact Nat.le_trans h1 (drwC_mono h2)
      · simp [R.val] at h2
    · exact drwC_mono k
theorem okR_ok {r : R aP} {e : Ex} {s : aP} (h : (okR r).val = some (e, s)) : r.val = some s ∧ e = .nrm := by
  unfold okR at h
  obtain ⟨a, h1, h2⟩ := R.bind_some h
  simp only [R.val, Option.some.injEq, Prod.mk.injEq] at h2
  rw [h1, h2.2]
  exact ⟨rfl, h2.1.symm⟩
theorem wM {f : aP → R (Ex × aP)} (hf : ∀ s e s', (f s).val = some (e, s') → s.nx ≤ s'.nx) : ∀ {n : Nat} {s : aP} {e : Ex} {s' : aP}, (o7 n f s).val = some (e, s') → s.nx ≤ s'.nx
  | 0, s, e, s', h => by simp [o7, R.val] at h
  | n + 1, s, e, s', h => by
    have h' : (iterS f (o7 n f) s).val = some (e, s') := h
    unfold iterS at h'
    obtain ⟨⟨e1, s1⟩, h1, h2⟩ := R.bind_some h'
    have m := hf s e1 s1 h1
    cases e1 with
    | nrm => exact Nat.le_trans m (wM hf h2)
    | _ =>
      simp only [R.val, Option.some.injEq, Prod.mk.injEq] at h2
      rw [← h2.2]; exact m
theorem condR_or {a : yZ} {w : Option (List Bool)} {x y : aP → R (Ex × aP)} {s : aP} {r : Ex × aP} (h : (condR a w x y s).val = some r) : ∃ fr, (x ⟨fr, s.H, s.nx, s.wr⟩).val = some r ∨ (y ⟨fr, s.H, s.nx, s.wr⟩).val = some r := by
  unfold condR at h
  split at h
  · split at h
    · exact ⟨s.fr, Or.inl h⟩
    · exact ⟨s.fr, Or.inr h⟩
  · rename_i t _
    split at h
    · cases t
      · exact ⟨_, Or.inr h⟩
      · exact ⟨_, Or.inl h⟩
    · simp [R.val] at h
  · simp [R.val] at h
theorem runC_mono {L base : Nat} {ban : List (Nat × Nat)} : ∀ {c : CC} {s : aP} {e : Ex} {s' : aP}, (kQ CT call L base ban c s).val = some (e, s') → s.nx ≤ s'.nx := by
  intro c
  induction c with
  | nop => intro s e s' h; have q := Option.some.inj h; simp only [Prod.mk.injEq] at q; rw [← q.2]; exact Nat.le_refl _
  | exit id => intro s e s' h; have q := Option.some.inj h; simp only [Prod.mk.injEq] at q; rw [← q.2]; exact Nat.le_refl _
  | ret => intro s e s' h; have q := Option.some.inj h; simp only [Prod.mk.injEq] at q; rw [← q.2]; exact Nat.le_refl _
  | seq a b iha ihb =>
    intro s e s' h
    have h' : (seqR (kQ CT call L base ban a) (kQ CT call L base ban b) s).val = some (e, s') := h
    unfold seqR at h'
    obtain ⟨⟨e1, s1⟩, h1, h2⟩ := R.bind_some h'
    have m := iha h1
    cases e1 with
    | nrm => exact Nat.le_trans m (ihb h2)
    | _ =>
      simp only [R.val, Option.some.injEq, Prod.mk.injEq] at h2
      rw [← h2.2]; exact m
  | reg l => intro s e s' h; exact uF (okR_ok h).1
  | drw l => intro s e s' h; exact drwC_mono (okR_ok h).1
  | cond a w x y ihx ihy =>
    intro s e s' h
    obtain ⟨fr, k | k⟩ := condR_or (show (condR a w (kQ CT call L base ban x) (kQ CT call L base ban y) s).val = some (e, s') from h)
    · exact ihx (s := ⟨fr, s.H, s.nx, s.wr⟩) k
    · exact ihy (s := ⟨fr, s.H, s.nx, s.wr⟩) k
  | block id x ih =>
    intro s e s' h
    have h' : (wU id (kQ CT call L base ban x) s).val = some (e, s') := h
    unfold wU at h'
    obtain ⟨⟨e1, s1⟩, h1, h2⟩ := R.bind_some h'
    have m := ih h1
    cases e1 with
    | exit i =>
      simp only at h2
      split at h2 <;> (simp only [R.val, Option.some.injEq, Prod.mk.injEq] at h2; rw [← h2.2]; exact m)
    | _ =>
      simp only [R.val, Option.some.injEq, Prod.mk.injEq] at h2
      rw [← h2.2]; exact m
  | loop x ih => intro s e s' h; exact wM (fun _ _ _ k => ih k) (show (o7 L (kQ CT call L base ban x) s).val = some (e, s') from h)
theorem mW.less {β : Names} {a b c : Nat} (h : mW β a c) (hb : b ≤ c) : mW β a b := fun n h1 h2 => h n h1 (by omega)
end
section
variable {P : Program} {CT : bQ} {call : mY}
theorem pu_fr {n0 : Nat} {ban : List (Nat × Nat)} {H0 : Tr HO} {s : aP} (h : Pu n0 ban H0 s) (fr : dV) : Pu n0 ban H0 ⟨fr, s.H, s.nx, s.wr⟩ := ⟨h.le, h.bnd, h.dom, h.kp, h.kq, h.lg⟩
theorem cond_ok {c : Operand} {f : yZ} (hf : aX c = some f) {β0 : Names} {n0 N : Nat} {w0 : World} {ban : List (Nat × Nat)} {s : aP} {β : Names} {A : Act} {w : World} (hI : Inv β0 n0 N w0 ban s β A w) {x y : aP → R (Ex × aP)} {r : Ex × aP} {wo : Option (List Bool)} (hwo : ∀ w, wo = some w → ∃ d, c = .tmp d ∧ w = way d) (h : (condR f wo x y s).val = some r) : ∃ fr t, A.eval c = .bool t ∧ Inv β0 n0 N w0 ban ⟨fr, s.H, s.nx, s.wr⟩ β A w ∧ (t = true → (x ⟨fr, s.H, s.nx, s.wr⟩).val = some r) ∧ (t = false → (y ⟨fr, s.H, s.nx, s.wr⟩).val = some r) := by
  unfold condR at h
  split at h
  · rename_i t hc
    have e := aW hf hI.gl hI.fr hc
    simp only [RV] at e
    refine ⟨s.fr, t, e, hI, fun ht => ?_, fun ht => ?_⟩
    · subst ht; exact h
    · subst ht; exact h
  · rename_i t hc
    have e := aW hf hI.gl hI.fr hc
    simp only [RV] at e
    split at h
    · rename_i ww
      obtain ⟨d, rfl, rfl⟩ := hwo ww rfl
      simp only [aX, Option.some.injEq] at hf
      subst hf
      obtain ⟨u, k1, k2⟩ := hI.fr d _ hc
      simp only [RV] at k2
      subst k2
      have fin : ∀ b, t = b → Inv β0 n0 N w0 ban ⟨s.fr.put (some (.bool false b)) (way d), s.H, s.nx, s.wr⟩ β A w := fun b hb => hI.frame (hI.fr.refine k1 (by simp only [RV]; rw [hb])) hI.size hI.dfr
      cases t with
      | true => exact ⟨_, true, e, fin true rfl, fun _ => h, fun q => by simp at q⟩
      | false => exact ⟨_, false, e, fin false rfl, fun q => by simp at q, fun _ => h⟩
    · simp [R.val] at h
  · simp [R.val] at h
def CodeOk (P : Program) (CT : bQ) (call : mY) (N L : Nat) (c : Code) : Prop :=
  ∀ (cc : CC), dB P N c = some cc → ∀ (β0 : Names) (n0 : Nat) (w0 : World) (ban : List (Nat × Nat)) (H0 : Tr HO) (s : aP) (e : Ex) (s' : aP) (β : Names) (A : Act) (w : World) (Q : Exit → Act → World → Prop), (kQ CT call L n0 ban cc s).val = some (e, s') → mW β0 n0 s'.nx → Inv β0 n0 N w0 ban s β A w → Pu n0 ban H0 s → (∀ β A w, Inv β0 n0 N w0 ban s' β A w → Pu n0 ban H0 s' → Q (exR e) A w) → c.wp P Q A w
theorem rounds_ok {N L : Nat} {c : Code} (ih : CodeOk P CT call N L c) {cc : CC} (hc : dB P N c = some cc) {β0 : Names} {n0 : Nat} {w0 : World} {ban : List (Nat × Nat)} {H0 : Tr HO} {s' : aP} {e : Ex} (ht : mW β0 n0 s'.nx) {Q : Exit → Act → World → Prop} (hq : ∀ β A w, Inv β0 n0 N w0 ban s' β A w → Pu n0 ban H0 s' → Q (exR e) A w) : ∀ {n : Nat} {s : aP} {β : Names} {A : Act} {w : World}, (o7 n (kQ CT call L n0 ban cc) s).val = some (e, s') → Inv β0 n0 N w0 ban s β A w → Pu n0 ban H0 s → Code.rounds P c Q n A w
  | 0, s, β, A, w, h, _, _ => by simp [o7, R.val] at h
  | n + 1, s, β, A, w, h, hI, pu => by
    have h' : (iterS (kQ CT call L n0 ban cc) (o7 n (kQ CT call L n0 ban cc)) s).val = some (e, s') := h
    unfold iterS at h'
    obtain ⟨⟨e1, s1⟩, h1, h2⟩ := R.bind_some h'
    rw [rounds_succ]
    cases e1 with
    | nrm =>
      refine ih cc hc β0 n0 w0 ban H0 s .nrm s1 β A w _ h1 (ht.less (wM (fun _ _ _ k => runC_mono k) h2)) hI pu (fun β A w hI pu => ?_)
      exact rounds_ok ih hc ht hq h2 hI pu
    | exit i =>
      simp only [R.val, Option.some.injEq, Prod.mk.injEq] at h2
      obtain ⟨rfl, rfl⟩ := h2
      exact ih cc hc β0 n0 w0 ban H0 s _ s1 β A w _ h1 ht hI pu (fun β A w hI pu => hq β A w hI pu)
    | ret =>
      simp only [R.val, Option.some.injEq, Prod.mk.injEq] at h2
      obtain ⟨rfl, rfl⟩ := h2
      exact ih cc hc β0 n0 w0 ban H0 s _ s1 β A w _ h1 ht hI pu (fun β A w hI pu => hq β A w hI pu)
theorem yV (hC : iP P CT call) (hm : P.follows .mixedOrders = true) {N L : Nat} (c : Code) : CodeOk P CT call N L c := by
  induction c with
  | skip =>
    intro cc hc β0 n0 w0 ban H0 s e s' β A w Q h ht hI pu hq
    simp only [dB, Option.some.injEq] at hc
    subst hc
    have q := Option.some.inj h
    simp only [Prod.mk.injEq] at q
    obtain ⟨rfl, rfl⟩ := q
    exact wp_skip (hq β A w hI pu)
  | label l =>
    intro cc hc β0 n0 w0 ban H0 s e s' β A w Q h ht hI pu hq
    simp only [dB, Option.some.injEq] at hc
    subst hc
    have q := Option.some.inj h
    simp only [Prod.mk.injEq] at q
    obtain ⟨rfl, rfl⟩ := q
    exact wp_label (hq β A w hI pu)
  | exit id =>
    intro cc hc β0 n0 w0 ban H0 s e s' β A w Q h ht hI pu hq
    simp only [dB, Option.some.injEq] at hc
    subst hc
    have q := Option.some.inj h
    simp only [Prod.mk.injEq] at q
    obtain ⟨rfl, rfl⟩ := q
    exact wp_exit (hq β A w hI pu)
  | ret =>
    intro cc hc β0 n0 w0 ban H0 s e s' β A w Q h ht hI pu hq
    simp only [dB, Option.some.injEq] at hc
    subst hc
    have q := Option.some.inj h
    simp only [Prod.mk.injEq] at q
    obtain ⟨rfl, rfl⟩ := q
    exact wp_ret (hq β A w hI pu)
  | seq a b iha ihb =>
    intro cc hc β0 n0 w0 ban H0 s e s' β A w Q h ht hI pu hq
    unfold dB at hc
    split at hc
    · rename_i x y hx hy
      obtain rfl := Option.some.inj hc
      have h' : (seqR (kQ CT call L n0 ban x) (kQ CT call L n0 ban y) s).val = some (e, s') := h
      unfold seqR at h'
      obtain ⟨⟨e1, s1⟩, h1, h2⟩ := R.bind_some h'
      refine wp_seq ?_
      cases e1 with
      | nrm =>
        refine iha x hx β0 n0 w0 ban H0 s .nrm s1 β A w _ h1 (ht.less (runC_mono h2)) hI pu (fun β A w hI pu => ?_)
        exact ihb y hy β0 n0 w0 ban H0 s1 e s' β A w Q h2 ht hI pu hq
      | exit i =>
        simp only [R.val, Option.some.injEq, Prod.mk.injEq] at h2
        obtain ⟨rfl, rfl⟩ := h2
        exact iha x hx β0 n0 w0 ban H0 s _ s1 β A w _ h1 ht hI pu (fun β A w hI pu => hq β A w hI pu)
      | ret =>
        simp only [R.val, Option.some.injEq, Prod.mk.injEq] at h2
        obtain ⟨rfl, rfl⟩ := h2
        exact iha x hx β0 n0 w0 ban H0 s _ s1 β A w _ h1 ht hI pu (fun β A w hI pu => hq β A w hI pu)
    · simp at hc
  | region id ops draw =>
    intro cc hc β0 n0 w0 ban H0 s e s' β A w Q h ht hI pu hq
    unfold dB at hc
    split at hc
    · split at hc
      · rename_i l hl
        obtain rfl := Option.some.inj hc
        obtain ⟨k, rfl⟩ := okR_ok h
        exact reg_ok hC ht hq hl k hI pu
      · simp at hc
    · split at hc
      · rename_i l hl hb
        obtain rfl := Option.some.inj hc
        obtain ⟨k, rfl⟩ := okR_ok h
        simp only [Bool.and_eq_true] at hb
        exact drw_ok hC hm ht hq hl uK hb.1 hb.2 k hI pu
      · simp at hc
  | cond c a b iha ihb =>
    intro cc hc β0 n0 w0 ban H0 s e s' β A w Q h ht hI pu hq
    unfold dB at hc
    split at hc
    · rename_i f x y hf hx hy
      obtain rfl := Option.some.inj hc
      obtain ⟨fr, t, k1, k2, k3, k4⟩ := cond_ok hf hI (fun w hw => by cases c <;> simp at hw; exact ⟨_, rfl, hw.symm⟩) (show (condR f _ (kQ CT call L n0 ban x) (kQ CT call L n0 ban y) s).val = some (e, s') from h)
      refine wp_cond_split k1 (fun htt => ?_) (fun htt => ?_)
      · exact iha x hx β0 n0 w0 ban H0 _ e s' β A w Q (k3 htt) ht k2 (pu_fr pu fr) hq
      · exact ihb y hy β0 n0 w0 ban H0 _ e s' β A w Q (k4 htt) ht k2 (pu_fr pu fr) hq
    · simp at hc
  | block id a ih =>
    intro cc hc β0 n0 w0 ban H0 s e s' β A w Q h ht hI pu hq
    unfold dB at hc
    split at hc
    · rename_i x hx
      obtain rfl := Option.some.inj hc
      have h' : (wU id (kQ CT call L n0 ban x) s).val = some (e, s') := h
      unfold wU at h'
      obtain ⟨⟨e1, s1⟩, h1, h2⟩ := R.bind_some h'
      refine wp_block ?_
      cases e1 with
      | exit i =>
        simp only at h2
        split at h2
        · rename_i hb
          simp only [R.val, Option.some.injEq, Prod.mk.injEq] at h2
          obtain ⟨rfl, rfl⟩ := h2
          obtain rfl := Nat.eq_of_beq_eq_true hb
          exact ih x hx β0 n0 w0 ban H0 s _ s1 β A w _ h1 ht hI pu (fun β A w hI pu => by simp only [exR, Exit.inBlock, if_true]; exact hq β A w hI pu)
        · rename_i hb
          simp only [R.val, Option.some.injEq, Prod.mk.injEq] at h2
          obtain ⟨rfl, rfl⟩ := h2
          have hne : i ≠ id := fun e => by subst e; rw [Nat.beq_refl] at hb; simp at hb
          exact ih x hx β0 n0 w0 ban H0 s _ s1 β A w _ h1 ht hI pu (fun β A w hI pu => by simp only [exR, Exit.inBlock, if_neg hne]; exact hq β A w hI pu)
      | nrm =>
        simp only [R.val, Option.some.injEq, Prod.mk.injEq] at h2
        obtain ⟨rfl, rfl⟩ := h2
        exact ih x hx β0 n0 w0 ban H0 s _ s1 β A w _ h1 ht hI pu (fun β A w hI pu => hq β A w hI pu)
      | ret =>
        simp only [R.val, Option.some.injEq, Prod.mk.injEq] at h2
        obtain ⟨rfl, rfl⟩ := h2
        exact ih x hx β0 n0 w0 ban H0 s _ s1 β A w _ h1 ht hI pu (fun β A w hI pu => hq β A w hI pu)
    · simp at hc
  | loop a ih =>
    intro cc hc β0 n0 w0 ban H0 s e s' β A w Q h ht hI pu hq
    unfold dB at hc
    split at hc
    · rename_i x hx
      obtain rfl := Option.some.inj hc
      exact wp_loop_rounds L (rounds_ok ih hx ht hq (show (o7 L (kQ CT call L n0 ban x) s).val = some (e, s') from h) hI pu)
    · simp at hc
  | scope a ih =>
    intro cc hc β0 n0 w0 ban H0 s e s' β A w Q h ht hI pu hq
    unfold dB at hc
    refine wp_scope_straight (ih cc hc β0 n0 w0 ban H0 s e s' β A w _ h ht hI pu (fun β A w hI pu => ?_))
    cases e <;> exact hq β A w hI pu
  | _ =>
    intro cc hc
    simp [dB] at hc
end
section
variable {P : Program} {CT : bQ} {call : mY}
theorem seqC_pu (hC : iP P CT call) {ops : Array Oper} {n0 N : Nat} {ban : List (Nat × Nat)} {H0 : Tr HO} {s' : aP} : ∀ {r : List Oper} {j : Nat} {l : List Ins}, cmpI P N ops.toList j r = some l → ∀ {s : aP}, (seqC CT call n0 ban l s).val = some s' → Pu n0 ban H0 s → Pu n0 ban H0 s'
  | [], j, l, hc, s, h, pu => by
    simp only [cmpI, Option.some.injEq] at hc
    subst hc
    obtain rfl := Option.some.inj h
    exact pu
  | o :: r, j, l, hc, s, h, pu => by
    unfold cmpI at hc
    split at hc
    · rename_i k g l' h1 h2 h3 h4
      obtain rfl := Option.some.inj hc
      rw [seqC_cons] at h
      unfold stepS at h
      obtain ⟨fr, k1 | k1⟩ := guardC_or h
      · obtain ⟨out, tch, q1, q2⟩ := opC_ok h1 rfl hC pu.bans pu.dom k1
        exact seqC_pu hC h4 q1 (pu.after q2.frc _)
      · exact seqC_pu hC h4 k1 (pu_fr pu _)
    · simp at hc
theorem drwC_pu (hC : iP P CT call) {ops : Array Oper} {n0 N : Nat} {ban : List (Nat × Nat)} {H0 : Tr HO} {s' : aP} {l0 l : List Ins} (hc : cmpD P N ops.toList (Region.before ops).toList 0 ops.toList = some l0) (hp : l0.Perm l) (ho : once ops.toList = true) {s : aP} (h : (drwC CT call n0 ban l [] [] s).val = some s') (pu : Pu n0 ban H0 s) : Pu n0 ban H0 s' := by
  obtain ⟨c1, c2⟩ := cmpD_ok ho (j := 0) (r := ops.toList) rfl hc
  have st : ∀ x ∈ l, ∃ o, StatI P N ops.toList (Region.before ops).toList x o := fun x hx => c1 x (hp.mem_iff.2 hx)
  have g0 : PG P N ops s.fr (acc ban s.H) n0 s.nx ban H0 [] s := ⟨fun e he => by simp at he, fun e he => by simp at he, Nat.le_refl _, fun e he => by simp at he, List.Pairwise.nil, fun later x rest hes => by simp at hes, rfl, pu, rfl⟩
  obtain ⟨es, s1, g1, _, _, g4⟩ := drw_run hC st g0 (kn := []) (fun k b hf => by simp [knF] at hf) h
  rw [g4]
  exact pu_fr g1.pu _
def PuOk (P : Program) (CT : bQ) (call : mY) (N L : Nat) (c : Code) : Prop :=
  ∀ (cc : CC), dB P N c = some cc → ∀ (n0 : Nat) (ban : List (Nat × Nat)) (H0 : Tr HO) (s : aP) (e : Ex) (s' : aP), (kQ CT call L n0 ban cc s).val = some (e, s') → Pu n0 ban H0 s → Pu n0 ban H0 s'
theorem iterC_pu {f : aP → R (Ex × aP)} {n0 : Nat} {ban : List (Nat × Nat)} {H0 : Tr HO} (hf : ∀ s e s', (f s).val = some (e, s') → Pu n0 ban H0 s → Pu n0 ban H0 s') : ∀ {n : Nat} {s : aP} {e : Ex} {s' : aP}, (o7 n f s).val = some (e, s') → Pu n0 ban H0 s → Pu n0 ban H0 s'
  | 0, s, e, s', h, _ => by simp [o7, R.val] at h
  | n + 1, s, e, s', h, pu => by
    have h' : (iterS f (o7 n f) s).val = some (e, s') := h
    unfold iterS at h'
    obtain ⟨⟨e1, s1⟩, h1, h2⟩ := R.bind_some h'
    have m := hf s e1 s1 h1 pu
    cases e1 with
    | nrm => exact iterC_pu hf h2 m
    | _ =>
      simp only [R.val, Option.some.injEq, Prod.mk.injEq] at h2
      rw [← h2.2]; exact m
theorem runC_pu (hC : iP P CT call) {N L : Nat} (c : Code) : PuOk P CT call N L c := by
  induction c with
  | seq a b iha ihb =>
    intro cc hc n0 ban H0 s e s' h pu
    unfold dB at hc
    split at hc
    · rename_i x y hx hy
      obtain rfl := Option.some.inj hc
      have h' : (seqR (kQ CT call L n0 ban x) (kQ CT call L n0 ban y) s).val = some (e, s') := h
      unfold seqR at h'
      obtain ⟨⟨e1, s1⟩, h1, h2⟩ := R.bind_some h'
      have m := iha x hx n0 ban H0 s e1 s1 h1 pu
      cases e1 with
      | nrm => exact ihb y hy n0 ban H0 s1 e s' h2 m
      | _ =>
        simp only [R.val, Option.some.injEq, Prod.mk.injEq] at h2
        rw [← h2.2]; exact m
    · simp at hc
  | region id ops draw =>
    intro cc hc n0 ban H0 s e s' h pu
    unfold dB at hc
    split at hc
    · split at hc
      · rename_i l hl
        obtain rfl := Option.some.inj hc
        exact seqC_pu hC hl (okR_ok h).1 pu
      · simp at hc
    · split at hc
      · rename_i l hl hb
        obtain rfl := Option.some.inj hc
        simp only [Bool.and_eq_true] at hb
        exact drwC_pu hC hl uK hb.1 (okR_ok h).1 pu
      · simp at hc
  | cond c a b iha ihb =>
    intro cc hc n0 ban H0 s e s' h pu
    unfold dB at hc
    split at hc
    · rename_i f x y hf hx hy
      obtain rfl := Option.some.inj hc
      obtain ⟨fr, k | k⟩ := condR_or (show (condR f _ (kQ CT call L n0 ban x) (kQ CT call L n0 ban y) s).val = some (e, s') from h)
      · exact iha x hx n0 ban H0 _ e s' k (pu_fr pu fr)
      · exact ihb y hy n0 ban H0 _ e s' k (pu_fr pu fr)
    · simp at hc
  | block id a ih =>
    intro cc hc n0 ban H0 s e s' h pu
    unfold dB at hc
    split at hc
    · rename_i x hx
      obtain rfl := Option.some.inj hc
      have h' : (wU id (kQ CT call L n0 ban x) s).val = some (e, s') := h
      unfold wU at h'
      obtain ⟨⟨e1, s1⟩, h1, h2⟩ := R.bind_some h'
      have m := ih x hx n0 ban H0 s e1 s1 h1 pu
      cases e1 with
      | exit i =>
        simp only at h2
        split at h2 <;> (simp only [R.val, Option.some.injEq, Prod.mk.injEq] at h2; rw [← h2.2]; exact m)
      | _ =>
        simp only [R.val, Option.some.injEq, Prod.mk.injEq] at h2
        rw [← h2.2]; exact m
    · simp at hc
  | loop a ih =>
    intro cc hc n0 ban H0 s e s' h pu
    unfold dB at hc
    split at hc
    · rename_i x hx
      obtain rfl := Option.some.inj hc
      exact iterC_pu (fun s e s' k pu => ih x hx n0 ban H0 s e s' k pu) (show (o7 L (kQ CT call L n0 ban x) s).val = some (e, s') from h) pu
    · simp at hc
  | scope a ih =>
    intro cc hc
    unfold dB at hc
    exact ih cc hc
  | rangeFunc f p a b _ _ => intro cc hc; simp [dB] at hc
  | goto l => intro cc hc; simp [dB] at hc
  | refuse w => intro cc hc; simp [dB] at hc
  | _ =>
    intro cc hc n0 ban H0 s e s' h pu
    simp only [dB, Option.some.injEq] at hc
    subst hc
    have q := Option.some.inj h
    simp only [Prod.mk.injEq] at q
    rw [← q.2]; exact pu
end
section
variable {P : Program} {CT : bQ} {call : mY}
def gV (P : Program) (CT : bQ) : Prop :=
  ∀ f s, CT f = some s → ∀ (ban : List (Nat × Nat)) (H : Tr HO) (nx : Nat) (l : List CV) (out : Out), (s l (acc ban H) H nx).val = some out → nx ≤ out.nx → (∀ x ∈ ban, x.2 ≤ nx) → (∀ n, acc ban H n ≠ none → n < nx) →
    nR (acc ban H) H nx out ∧ ∀ (β : Names) (args : Array Value), Gl β → bJ β l args.toList → OpS P (callFunc f args) (acc ban H) β nx out.v out.H out.nx out.puts
def oneOf : List CV → CV
  | [v] => v
  | lr => .tup lr
theorem oneOf_ok {β : Names} : ∀ {lr : List CV} {us : List Value}, bJ β lr us → RV β (oneOf lr) (if h : us.toArray.size = 1 then us.toArray[0] else .tuple us.toArray)
  | [], us, q => by rw [show us = [] from q]; exact ⟨_, rfl, rfl⟩
  | [v], us, ⟨u, r, e1, e2, e3⟩ => by
    rw [show r = [] from e3] at e1
    subst e1
    exact e2
  | a :: b :: lr, us, q => by
    have hl := q.len
    have hne : ¬ (us.toArray.size = 1) := by simp at hl ⊢; omega
    rw [dif_neg hne]
    exact ⟨_, rfl, q⟩
def wH (tmps : Array Value) : ResultVar → Sem Value
  | .tmp t => pure (tmps.getD t undef)
  | .cell a t => do loadVar t (← asAddr (tmps.getD a undef))
theorem res_ok {ban : List (Nat × Nat)} {s : aP} {β : Names} {A : Act} {w : World} (hF : RF β s.fr A) (hV : HV (acc ban s.H) β w) : ∀ {rv : List ResultVar} {rs : List RS} {l : List CV}, cmpR P rv = some rs → xP ban s rs = some l → ∃ us, (rv.mapM (wH A.tmps)).run P w = .ok us w ∧ bJ β l us
  | [], rs, l, hc, h => by
    simp only [cmpR, Option.some.injEq] at hc
    subst hc
    simp only [xP, Option.some.injEq] at h
    subst h
    exact ⟨[], rfl, rfl⟩
  | .tmp t :: rv, rs, l, hc, h => by
    unfold cmpR at hc
    split at hc
    · rename_i rs' hr
      obtain rfl := Option.some.inj hc
      unfold xP at h
      split at h
      · rename_i v l' hv hl
        obtain rfl := Option.some.inj h
        obtain ⟨us, k1, k2⟩ := res_ok hF hV hr hl
        obtain ⟨u, q1, q2⟩ := hF t v hv
        have e : A.tmps.getD t undef = u := by rw [Array.getD_eq_getD_getElem?, q1]; rfl
        exact ⟨u :: us, by rw [List.mapM_cons]; simp only [wH, Sem.run_bind, Sem.run_pure, Result.andThen_ok, k1, e], u, us, rfl, q2, k2⟩
      · simp at h
    · simp at hc
  | .cell a t :: rv, rs, l, hc, h => by
    unfold cmpR at hc
    split at hc
    · rename_i ag n rs' hag hz hr
      obtain rfl := Option.some.inj hc
      unfold xP at h
      split at h
      · rename_i g o l' hp hl
        split at h
        · rename_i ob hob
          split at h
          · rename_i v hv
            obtain rfl := Option.some.inj h
            obtain ⟨us, k1, k2⟩ := res_ok hF hV hr hl
            obtain ⟨u, q1, b, q2, rfl⟩ := hF a _ hp
            obtain ⟨b', rob, m1, m2, m3, _⟩ := hV.at_ g ob hob
            rw [q2] at m1
            obtain rfl := Option.some.inj m1
            obtain ⟨x, r1, r2⟩ := loadF_ok hag hz m3 m2 hv
            have e : A.tmps.getD a undef = .pointer (some ⟨b, o, none⟩) := by rw [Array.getD_eq_getD_getElem?, q1]; rfl
            exact ⟨x :: us, by rw [List.mapM_cons]; simp only [wH, e, asAddr, Sem.run_bind, Sem.run_pure, Result.andThen_ok, r1, k1], x, us, rfl, r2, k2⟩
          · simp at h
        · simp at h
      · simp at h
    · simp at hc
theorem frameC_ok {t : Nat} {c : CV} : ∀ {l : List CV} {i : Nat} {fr : dV}, (frameC i l fr).get t = some c → (i ≤ t ∧ l[t - i]? = some c) ∨ fr.get t = some c
  | [], i, fr, h => Or.inr h
  | x :: l, i, fr, h => by
    unfold frameC at h
    rcases frameC_ok h with ⟨q1, q2⟩ | q
    · left
      refine ⟨by omega, ?_⟩
      rw [show t - i = (t - (i + 1)) + 1 by omega]
      simpa using q2
    · rw [Tr.get_set] at q
      by_cases e : i = t
      · rw [if_pos e] at q
        subst e
        exact Or.inl ⟨Nat.le_refl _, by simpa using q⟩
      · rw [if_neg e] at q
        exact Or.inr q
theorem callS_ok (hT : gV P CT) (hC : iP P CT call) (hm : P.follows .mixedOrders = true) (hN : ∀ (f : FuncId) (fn : Func), P.funcs[f]? = some fn → fn.body ≠ none → (fn.name == "runtime.NumGoroutine") = false) {L : Nat} : iP P CT (callS P CT L call) := by
  intro ban H nx f l out h hle hb hd
  unfold callK at h
  split at h
  · rename_i s hs
    exact hT f s hs ban H nx l _ h hle hb hd
  · unfold callS at h
    split at h
    · simp [R.val] at h
    · rename_i fnc hfn
      split at h
      · simp [R.val] at h
      · rename_i hlen
        have hlen := dK hlen
        obtain ⟨⟨e, s'⟩, h1, h2⟩ := R.bind_some h
        unfold cmpF at hfn
        rw [nthL_eq] at hfn
        split at hfn
        · simp at hfn
        · rename_i fn hf
          split at hfn
          · simp at hfn
          · rename_i c hbody
            split at hfn
            · rename_i x rs hx hrs
              obtain rfl := Option.some.inj hfn
              simp only at h1 h2 hlen
              have pu : Pu nx ban H ⟨frameC 0 l .e, H, nx, []⟩ := ⟨Nat.le_refl _, hb, hd, fun _ _ _ => rfl, fun _ _ => rfl, fun p hp => by simp at hp⟩
              -- how it ends
              have ends : (e = .nrm ∨ e = .ret) ∧ ∃ lr, xP ban s' rs = some lr ∧ out = ⟨(oneOf lr), s'.H, s'.nx, s'.wr⟩ := by
                unfold endC at h2
                cases e with
                | exit i => simp [R.val] at h2
                | nrm =>
                  refine ⟨Or.inl rfl, ?_⟩
                  simp only at h2
                  split at h2
                  · rename_i v hv; exact ⟨[v], hv, (Option.some.inj h2).symm⟩
                  · rename_i lr hlr hv
                    refine ⟨lr, hv, ?_⟩
                    rw [← Option.some.inj h2]
                    match lr, hlr with
                    | [], _ => rfl
                    | [v], hlr => exact absurd rfl (hlr v)
                    | _ :: _ :: _, _ => rfl
                  · simp [R.val] at h2
                | ret =>
                  refine ⟨Or.inr rfl, ?_⟩
                  simp only at h2
                  split at h2
                  · rename_i v hv; exact ⟨[v], hv, (Option.some.inj h2).symm⟩
                  · rename_i lr hlr hv
                    refine ⟨lr, hv, ?_⟩
                    rw [← Option.some.inj h2]
                    match lr, hlr with
                    | [], _ => rfl
                    | [v], hlr => exact absurd rfl (hlr v)
                    | _ :: _ :: _, _ => rfl
                  · simp [R.val] at h2
              obtain ⟨he, lr, hlr, rfl⟩ := ends
              have pu' := runC_pu hC (L := L) c x hx nx ban H _ e s' h1 pu
              have frc : nR (acc ban H) H nx ⟨(oneOf lr), s'.H, s'.nx, s'.wr⟩ := by
                refine ⟨pu'.le, fun n hn hp => ?_, fun p hp => (pu'.lg p hp).2⟩
                by_cases hl : n < nx
                · exact pu'.kp n hl hp
                · exact pu'.kq n (by have hn' : ¬ (nx ≤ n ∧ n < s'.nx) := hn; omega)
              refine ⟨frc, fun β args hG hR w hV hfr => ?_⟩
              have hf' : P.funcs[f]? = some fn := by rw [← Array.getElem?_toList]; exact hf
              have hsz : args.size = l.length := by rw [← Array.length_toList, hR.len]
              have hrun : (callFunc f args).run P w = .ok (.enter f args) w := by
                unfold callFunc
                simp only [Sem.run_bind, run_program, Result.andThen_ok, hf', hN f fn hf' (by rw [hbody]; simp), hbody, Option.isNone_some, Bool.false_eq_true, if_false, Sem.run_pure]
              unfold opw
              rw [hrun]
              refine calls_of_wp hf' hbody ?_
              have hI : Inv β nx fn.ntmps w ban ⟨frameC 0 l .e, H, nx, []⟩ β ⟨args ++ Array.replicate (fn.ntmps - args.size) undef, []⟩ w := by
                refine ⟨hG, fun t cv hc => ?_, by simp; omega, hV, pK.refl β nx w, rfl⟩
                rcases frameC_ok hc with ⟨_, q⟩ | q
                · rw [Nat.sub_zero] at q
                  obtain ⟨u, k1, k2⟩ := hR.get q
                  rw [Array.getElem?_toList] at k1
                  exact ⟨u, by rw [Array.getElem?_append_left (Array.getElem?_eq_some_iff.1 k1).1]; exact k1, k2⟩
                · rw [Tr.get_e] at q; simp at q
              refine yV hC hm (N := fn.ntmps) (L := L) c x hx β nx w ban H _ e s' β _ w _ h1 hfr hI pu (fun β' A' w' hI' _ => ?_)
              obtain ⟨us, q1, q2⟩ := res_ok hI'.fr hI'.hv hrs hlr
              have hres : ∃ v, (results fn A'.tmps).run P w' = .ok v w' ∧ RV β' (oneOf lr) v := by
                have e0 : results fn A'.tmps = (do let vs ← fn.results.mapM (wH A'.tmps); pure (if h : vs.size = 1 then vs[0] else .tuple vs)) := by
                  unfold results
                  congr
                rw [e0]
                simp only [Sem.run_bind, mapM_arr fn.results (wH A'.tmps) us w' q1, Result.andThen_ok, Sem.run_pure]
                exact ⟨_, rfl, oneOf_ok q2⟩
              obtain ⟨v, r1, r2⟩ := hres
              have fin : ∃ β', pK β β' nx s'.nx s'.wr w w' ∧ RV β' (oneOf lr) v ∧ HV (nS (acc ban H) s'.H nx s'.nx s'.wr) β' w' := by
                refine ⟨β', hI'.tr, r2, ?_⟩
                have := aft_acc hb frc
                simp only at this
                rw [this]
                exact hI'.hv
              rcases he with rfl | rfl
              · exact ⟨hI'.dfr, v, r1, fin⟩
              · exact ⟨hI'.dfr, v, r1, fin⟩
            · simp at hfn
end
def plC (s : List CV → Acc → Option CV) (l : List CV) (V : Acc) (H : Tr HO) (nx : Nat) : R Out := match s l V with
  | some v => .ok ⟨v, H, nx, []⟩
  | none => .no
theorem rC {P : Program} {s : List CV → Acc → Option CV} {f : FuncId} (hs : ∀ (l : List CV) (V : Acc) (v : CV), s l V = some v → ∀ (β : Names) (args : Array Value) (w : World), Gl β → bJ β l args.toList → HV V β w → opw P (callFunc f args) w (fun u w' => UpN (fun _ => False) w w' ∧ RV β v u))
    {ban : List (Nat × Nat)} {H : Tr HO} {nx : Nat} {l : List CV} {out : Out} (h : (plC s l (acc ban H) H nx).val = some out) :
    nR (acc ban H) H nx out ∧ ∀ (β : Names) (args : Array Value), Gl β → bJ β l args.toList → OpS P (callFunc f args) (acc ban H) β nx out.v out.H out.nx out.puts := by
  unfold plC at h
  split at h
  · rename_i v hv
    obtain rfl := Option.some.inj h
    refine ⟨dS, fun β args hG hR w hV hf => ?_⟩
    refine fB (hs l _ v hv β args w hG hR hV) (fun u w' ⟨k1, k2⟩ => ⟨β, ⟨fun _ _ => ⟨rfl, rfl⟩, fun _ _ h => h, fun _ h => h, fun _ h => Or.inl h, Nat.le_refl _, k1.mono (fun _ q => q.elim), fun m a h1 h2 => absurd (show m < nx from h2) (by omega)⟩, k2, ?_⟩)
    rw [mJ]
    refine hV.same (fun n a hn ha => k1.block a (hV.lt hn ha) (fun q => q)) (fun a ha => k1.block a (hV.fpa a ha).1 (fun q => q))
  · simp [R.val] at h
theorem mZ {P : Program} {CT : bQ} (hT : gV P CT) (hm : P.follows .mixedOrders = true) (hN : ∀ (f : FuncId) (fn : Func), P.funcs[f]? = some fn → fn.body ≠ none → (fn.name == "runtime.NumGoroutine") = false) {L : Nat} : ∀ d, iP P CT (kD P CT L d)
  | 0 => by
    intro ban H nx f l out h hle hb hd
    unfold callK at h
    split at h
    · rename_i s hs
      exact hT f s hs ban H nx l _ h hle hb hd
    · have h' : (R.no : R Out).val = some out := h
      simp [R.val] at h'
  | d + 1 => callS_ok hT (mZ hT hm hN d) hm hN
structure Rel (m : Nat) (ρ : Nat → Nat) (β β2 : Names) : Prop where
  ad : ∀ n, n < m → β2.ad n = β.ad (ρ n) ∧ β2.sz n = β.sz (ρ n)
  sx : ∀ v x, β.sx v x → β2.sx v x
def pU (m : Nat) (ρ : Nat → Nat) (c' c : CV) : Prop := ∀ β β2 u, Rel m ρ β β2 → RV β c' u → RV β2 c u
def LeO (m : Nat) (ρ : Nat → Nat) (o' o : HO) : Prop := ∀ β β2 ob, Rel m ρ β β2 → RO β o' ob → RO β2 o ob
structure Wk (n0 : Nat) (ban : List (Nat × Nat)) (ρ : Nat → Nat) (s s2 : aP) : Prop where
  slots : ∀ t c, s2.fr.get t = some c → ∃ c', s.fr.get t = some c' ∧ pU s2.nx ρ c' c
  heap : ∀ n o, acc ban s2.H n = some o → n < s2.nx ∧ ∃ o', acc ban s.H (ρ n) = some o' ∧ LeO s2.nx ρ o' o
  low : ∀ n, n < n0 → ρ n = n
  hi : ∀ n, n0 ≤ n → n < s2.nx → n0 ≤ ρ n ∧ ρ n < s.nx
  inj : ∀ n m, acc ban s2.H n ≠ none → acc ban s2.H m ≠ none → ρ n = ρ m → n = m
  wr : ∀ p, p ∈ s.wr → p ∈ s2.wr
  le : n0 ≤ s2.nx
theorem Inv.weak {β0 : Names} {n0 N : Nat} {w0 : World} {ban : List (Nat × Nat)} {s s2 : aP} {β : Names} {A : Act} {w : World} {ρ : Nat → Nat} (h : Inv β0 n0 N w0 ban s β A w) (hw : Wk n0 ban ρ s s2) (hfr : ∀ n, n0 ≤ n → β0.ad n = none) (h64 : 64 ≤ n0) : ∃ β2, Inv β0 n0 N w0 ban s2 β2 A w := by
  have hrel : Rel s2.nx ρ β ⟨fun n => if n < s2.nx then β.ad (ρ n) else none, fun n => if n < s2.nx then β.sz (ρ n) else β0.sz n, β.sx, β.fp⟩ :=
    ⟨fun n hn => by constructor <;> simp [hn], fun _ _ q => q⟩
  have hle := hw.le
  refine ⟨⟨fun n => if n < s2.nx then β.ad (ρ n) else none, fun n => if n < s2.nx then β.sz (ρ n) else β0.sz n, β.sx, β.fp⟩, fun g hg => ?_, fun t c hc => ?_, h.size, ⟨fun n o ho => ?_, fun n m a hn hm hna hma => ?_, fun a ha => ⟨(h.hv.fpa a ha).1, fun n hn hna => ?_⟩, h.hv.sxf⟩, ⟨fun n hn => ?_, h.tr.sxm, h.tr.fpm, h.tr.fpn, hle, ⟨h.tr.upd.os, h.tr.upd.tape, h.tr.upd.output, h.tr.upd.size, fun k hk hn => h.tr.upd.block k hk (fun ⟨p, q1, q2⟩ => hn ⟨p, hw.wr p q1, q2⟩)⟩, fun n a h1 h2 ha => ?_⟩, h.dfr⟩
  · show (if g < s2.nx then β.ad (ρ g) else none) = some g
    rw [if_pos (by omega), hw.low g (by omega)]
    exact h.gl g hg
  · obtain ⟨c', k1, k2⟩ := hw.slots t c hc
    obtain ⟨u, q1, q2⟩ := h.fr t c' k1
    exact ⟨u, q1, k2 _ _ u hrel q2⟩
  · obtain ⟨hn, o', k1, k2⟩ := hw.heap n o ho
    obtain ⟨a, ob, q1, q2, q3, q4⟩ := h.hv.at_ (ρ n) o' k1
    exact ⟨a, ob, by simp [hn, q1], q2, k2 _ _ ob hrel q3, by simp [hn, q4]⟩
  · obtain ⟨o1, e1⟩ := Option.ne_none_iff_exists'.1 hn
    obtain ⟨o2, e2⟩ := Option.ne_none_iff_exists'.1 hm
    obtain ⟨l1, o1', k1, _⟩ := hw.heap n o1 e1
    obtain ⟨l2, o2', k2, _⟩ := hw.heap m o2 e2
    simp only [l1, l2, if_true] at hna hma
    exact hw.inj n m hn hm (h.hv.inj (ρ n) (ρ m) a (by rw [k1]; simp) (by rw [k2]; simp) hna hma)
  · obtain ⟨o1, e1⟩ := Option.ne_none_iff_exists'.1 hn
    obtain ⟨l1, o1', k1, _⟩ := hw.heap n o1 e1
    simp only [l1, if_true] at hna
    exact (h.hv.fpa a ha).2 (ρ n) (by rw [k1]; simp) hna
  · by_cases hl : n < n0
    · have h1 : n < s2.nx := by omega
      simp only [h1, if_true, hw.low n hl]
      exact h.tr.ext n (Or.inl hl)
    · have h1 : ¬ n < s2.nx := by omega
      simp only [h1, if_false]
      exact ⟨(hfr n (by omega)).symm, trivial⟩
  · simp only [h2, if_true] at ha
    obtain ⟨q1, q2⟩ := hw.hi n h1 h2
    exact (h.tr.born (ρ n) a q1 q2 ha).imp (fun q => q) (fun ⟨p, q1, q2⟩ => ⟨p, hw.wr p q1, q2⟩)
section
variable {P : Program} {CT : bQ} {call : mY}
theorem loop_ok (hC : iP P CT call) (hm : P.follows .mixedOrders = true) {N L n0 : Nat} {ban : List (Nat × Nat)} {c : Code} {cc : CC} (hc : dB P N c = some cc) {ι : Type} (J : ι → aP) (μ : ι → Nat) {K : Ex → aP → Prop}
    (step : ∀ x, ∃ e s', (kQ CT call L n0 ban cc (J x)).val = some (e, s') ∧ ((e = .nrm ∧ ∃ y ρ, μ y < μ x ∧ Wk n0 ban ρ s' (J y)) ∨ (e ≠ .nrm ∧ K e s')))
    {β0 : Names} {w0 : World} {H0 : Tr HO} (hfr : ∀ n, n0 ≤ n → β0.ad n = none) (h64 : 64 ≤ n0) (hp : ∀ x, Pu n0 ban H0 (J x))
    {Q : Exit → Act → World → Prop} (hq : ∀ e s' β A w, K e s' → Inv β0 n0 N w0 ban s' β A w → Pu n0 ban H0 s' → Q (exR e) A w) :
    ∀ (k : Nat) (x : ι) (β : Names) (A : Act) (w : World), μ x < k → Inv β0 n0 N w0 ban (J x) β A w → Code.rounds P c Q k A w
  | 0, x, _, _, _, hk, _ => by omega
  | k + 1, x, β, A, w, hk, hI => by
    obtain ⟨e, s', h1, h2⟩ := step x
    rw [rounds_succ]
    refine yV hC hm c cc hc β0 n0 w0 ban H0 (J x) e s' β A w _ h1 (fun n hn _ => hfr n hn) hI (hp x) (fun β A w hI' pu' => ?_)
    rcases h2 with ⟨rfl, y, ρ, h3, h4⟩ | ⟨h3, h4⟩
    · obtain ⟨β2, hI2⟩ := hI'.weak h4 hfr h64
      exact loop_ok hC hm hc J μ step hfr h64 hp hq k y β2 A w (by omega) hI2
    · have := hq e s' β A w h4 hI' pu'
      cases e with
      | nrm => exact absurd rfl h3
      | exit i => exact this
      | ret => exact this
end
def EndK (P : Program) (rs : List RS) (β0 : Names) (n0 N : Nat) (w0 : World) (K : CV → aP → Prop) (e : Exit) (A : Act) (w : World) : Prop :=
  (e = .normal ∨ e = .ret) ∧ ∃ s' β' lr, Inv β0 n0 N w0 [] s' β' A w ∧ xP [] s' rs = some lr ∧ K (oneOf lr) s'
theorem start_inv {β : Names} {l : List CV} {args : Array Value} {w : World} {H : Tr HO} {nx N : Nat} (hG : Gl β) (hR : bJ β l args.toList) (hV : HV H.get β w) (hN : l.length ≤ N) : Inv β nx N w [] ⟨frameC 0 l .e, H, nx, []⟩ β ⟨args ++ Array.replicate (N - args.size) undef, []⟩ w := by
  have hsz : args.size = l.length := by rw [← Array.length_toList, hR.len]
  refine ⟨hG, fun t cv hc => ?_, by simp; omega, hV, pK.refl β nx w, rfl⟩
  rcases frameC_ok hc with ⟨_, q⟩ | q
  · rw [Nat.sub_zero] at q
    obtain ⟨u, k1, k2⟩ := hR.get q
    rw [Array.getElem?_toList] at k1
    exact ⟨u, by rw [Array.getElem?_append_left (Array.getElem?_eq_some_iff.1 k1).1]; exact k1, k2⟩
  · rw [Tr.get_e] at q; simp at q
theorem walk_ok {P : Program} {f : FuncId} {fn : Func} {c : Code} {rs : List RS} {β : Names} {l : List CV} {args : Array Value} {w : World} {H : Tr HO} {nx : Nat} {K : CV → aP → Prop} (hf : P.funcs[f]? = some fn) (hb : fn.body = some c) (hn : (fn.name == "runtime.NumGoroutine") = false) (hrs : cmpR P fn.results.toList = some rs)
    (hG : Gl β) (hR : bJ β l args.toList) (hV : HV H.get β w) (hN : l.length ≤ fn.ntmps)
    (hwp : ∀ A, Inv β nx fn.ntmps w [] ⟨frameC 0 l .e, H, nx, []⟩ β A w → c.wp P (EndK P rs β nx fn.ntmps w K) A w) :
    opw P (callFunc f args) w (fun u w' => ∃ v s' β', K v s' ∧ pK β β' nx s'.nx s'.wr w w' ∧ RV β' v u ∧ HV s'.H.get β' w') := by
  have hrun : (callFunc f args).run P w = .ok (.enter f args) w := by
    unfold callFunc
    simp only [Sem.run_bind, run_program, Result.andThen_ok, hf, hn, hb, Option.isNone_some, Bool.false_eq_true, if_false, Sem.run_pure]
  unfold opw
  rw [hrun]
  refine calls_of_wp hf hb ?_
  refine wp_mono (hwp _ (start_inv hG hR hV hN)) (fun e A' w' ⟨he, s', β', lr, hI', hlr, hK⟩ => ?_)
  obtain ⟨us, q1, q2⟩ := res_ok hI'.fr hI'.hv hrs hlr
  have hres : ∃ v, (results fn A'.tmps).run P w' = .ok v w' ∧ RV β' (oneOf lr) v := by
    have e0 : results fn A'.tmps = (do let vs ← fn.results.mapM (wH A'.tmps); pure (if h : vs.size = 1 then vs[0] else .tuple vs)) := by
      unfold results
      congr
    rw [e0]
    simp only [Sem.run_bind, mapM_arr fn.results (wH A'.tmps) us w' q1, Result.andThen_ok, Sem.run_pure]
    exact ⟨_, rfl, oneOf_ok q2⟩
  obtain ⟨v, r1, r2⟩ := hres
  have fin : ∃ v s' β'', K v s' ∧ pK β β'' nx s'.nx s'.wr w w' ∧ RV β'' v _ ∧ HV s'.H.get β'' w' := ⟨oneOf lr, s', β', hK, hI'.tr, r2, hI'.hv⟩
  rcases he with rfl | rfl
  · exact ⟨hI'.dfr, v, r1, fin⟩
  · exact ⟨hI'.dfr, v, r1, fin⟩
theorem sV {f : CV → Bool} : ∀ {l : List CV}, allC f l = true → ∀ x ∈ l, f x = true
  | [], _, x, hx => by simp at hx
  | y :: l, h, x, hx => by
    have h' : (match f y with
      | true => allC f l
      | false => false) = true := h
    split at h'
    · rename_i hy
      rcases List.mem_cons.1 hx with rfl | hx
      · exact hy
      · exact sV h' x hx
    · simp at h'
def SxS (β β' : Names) : Prop := ∀ a us, β.sx a us → β'.sx a us
theorem wO.sxs {β β' : Names} (hs : SxS β β') {s : Value} {x : Int} : wO β s x → wO β' s x := fun ⟨a, off, c, us, h1, h2, h3, h4, h5⟩ => ⟨a, off, c, us, h1, h2, h3, hs _ _ h4, h5⟩
theorem RowZ.sxs {β β' : Names} (hs : SxS β β') : ∀ {r : Row} {us : List Value}, RowZ β r us → RowZ β' r us
  | .c _, _, h => ⟨h.1, fun i c hc => by
    obtain ⟨k1, s, k2, k3⟩ := h.2 i c hc
    exact ⟨k1, s, k2.sxs hs, k3⟩⟩
  | .i _ _, _, h => h
  | .j _ _ _, _, h => h
theorem bJ.sxs {β β' : Names} {f : CV → Bool} (ih : ∀ c v, f c = true → RV β c v → RV β' c v) : ∀ {l : List CV} {us : List Value}, allC f l = true → bJ β l us → bJ β' l us
  | [], _, _, h => h
  | x :: l, _, hc, ⟨u, r, e, h, k⟩ => ⟨u, r, e, ih x u (sV hc x (by simp)) h, bJ.sxs ih (by
      have h' : (match f x with
        | true => allC f l
        | false => false) = true := hc
      rw [sV hc x (by simp)] at h'
      exact h') k⟩
theorem clo_l {k : Nat} {l : List CV} {c : CV} (h : clo k c = true) (e : ∀ k, clo (k + 1) c = allC (clo k) l) : allC (clo (k - 1)) l = true := by
  cases k with
  | zero => simp [clo] at h
  | succ k => rw [e] at h; exact h
theorem allC_hd {f : CV → Bool} {x : CV} {l : List CV} (h : allC f (x :: l) = true) : f x = true ∧ allC f l = true := by
  have h1 := sV h x (by simp)
  have h' : (match f x with
    | true => allC f l
    | false => false) = true := h
  rw [h1] at h'
  exact ⟨h1, h'⟩
mutual
theorem RV.sxc {β β' : Names} (hs : SxS β β') : ∀ (c : CV) (k : Nat) (v : Value), clo k c = true → RV β c v → RV β' c v
  | .fz l _ _, _, _, hc, ⟨a, off, c', us, h1, h2, h3, h4, h5⟩ => ⟨a, off, c', us, h1, h2, h3, hs _ _ h4, bJ.sxc hs l _ _ (clo_l hc (fun _ => rfl)) h5⟩
  | .fp l _, _, _, hc, ⟨a, us, h1, h2, h3⟩ => ⟨a, us, h1, hs _ _ h2, bJ.sxc hs l _ _ (clo_l hc (fun _ => rfl)) h3⟩
  | .fy _ _ _ _, _, _, _, ⟨h1, h2, h3⟩ => ⟨h1, h2, h3.imp (fun h => h) (fun ⟨a, off, c', us, k1, k2, k3, k4, k5⟩ => ⟨a, off, c', us, k1, k2, k3, hs _ _ k4, k5.sxs hs⟩)⟩
  | .fq _ _ _, _, _, _, ⟨h0, a, us, h1, h2, h3⟩ => ⟨h0, a, us, h1, hs _ _ h2, h3.sxs hs⟩
  | .fn _ cap, _, _, hc, ⟨us, e, h⟩ => ⟨us, e, bJ.sxc hs cap _ _ (clo_l hc (fun _ => rfl)) h⟩
  | .agg l, _, _, hc, ⟨us, e, h⟩ => ⟨us, e, bJ.sxc hs l _ _ (clo_l hc (fun _ => rfl)) h⟩
  | .tup l, _, _, hc, ⟨us, e, h⟩ => ⟨us, e, bJ.sxc hs l _ _ (clo_l hc (fun _ => rfl)) h⟩
  | .wr c, _, v, _, ⟨h0, h1, h⟩ => ⟨h0, h1, RV.sxc hs c 9 v h0 h⟩
  | .fx l _ _ _ _ _, _, _, hc, ⟨k1, k2, a, us, h1, h2, h3⟩ => ⟨k1, k2, a, us, h1, hs _ _ h2, bJ.sxc hs l _ _ (clo_l hc (fun _ => rfl)) h3⟩
  | .st _, _, _, _, h => h
  | .es, _, _, _, h => h
  | .bool _ _, _, _, _, h => h
  | .int _ _ _, _, _, _, h => h
  | .str _, _, _, _, h => h
  | .nilp, _, _, _, h => h
  | .nils, _, _, _, h => h
  | .nilf, _, _, _, h => h
  | .nilm, _, _, _, h => h
  | .xs _ _ _ _ _, k, _, hc, _ => by cases k <;> simp [clo] at hc
  | .px _ _ _, k, _, hc, _ => by cases k <;> simp [clo] at hc
  | .ptr _ _, k, _, hc, _ => by cases k <;> simp [clo] at hc
  | .sl _ _ _ _ _, k, _, hc, _ => by cases k <;> simp [clo] at hc
  | .mp _, k, _, hc, _ => by cases k <;> simp [clo] at hc
theorem bJ.sxc {β β' : Names} (hs : SxS β β') : ∀ (l : List CV) (k : Nat) (us : List Value), allC (clo k) l = true → bJ β l us → bJ β' l us
  | [], _, _, _, h => h
  | x :: l, k, _, hc, ⟨u, r, e, h, q⟩ => ⟨u, r, e, RV.sxc hs x k u (allC_hd hc).1 h, bJ.sxc hs l k r (allC_hd hc).2 q⟩
end
theorem RV.sxs {β β' : Names} (hs : SxS β β') (k : Nat) (c : CV) (v : Value) (hc : clo k c = true) (h : RV β c v) : RV β' c v := RV.sxc hs c k v hc h
abbrev Cn := Option Bool
def Cn.ok (c : Cn) : Prop := c.getD true = true
def cnj : Cn → Cn → Cn
  | none, d => d
  | some a, none => some a
  | some a, some b => some (a && b)
theorem cnj_ok {c d : Cn} (h : (cnj c d).ok) : c.ok ∧ d.ok := by
  unfold Cn.ok at *
  cases c with
  | none => exact ⟨rfl, h⟩
  | some a =>
    cases d with
    | none => exact ⟨h, rfl⟩
    | some b =>
      have h' : (a && b) = true := h
      rw [Bool.and_eq_true] at h'
      exact h'
noncomputable def frzL (f : CV → Option (Cn × CV)) (l : List CV) : Option (Cn × List CV) := List.rec (some (none, [])) (fun x _ ih => match f x with
  | some (b, c) => match ih with
    | some (b', r) => some (cnj b b', c :: r)
    | none => none
  | none => none) l
theorem frzL_cons {f : CV → Option (Cn × CV)} {x : CV} {l : List CV} {z : List CV} {b : Cn} (h : frzL f (x :: l) = some (b, z)) (hb : b.ok) : ∃ c r b1 b2, z = c :: r ∧ f x = some (b1, c) ∧ b1.ok ∧ frzL f l = some (b2, r) ∧ b2.ok := by
  have h' : (match f x with
    | some (b, c) => match frzL f l with
      | some (b', r) => some (cnj b b', c :: r)
      | none => none
    | none => none) = some (b, z) := h
  split at h'
  · rename_i b1 c hx
    split at h'
    · rename_i b2 r hr
      simp only [Option.some.injEq, Prod.mk.injEq] at h'
      obtain ⟨rfl, rfl⟩ := h'
      exact ⟨c, r, b1, b2, rfl, hx, (cnj_ok hb).1, hr, (cnj_ok hb).2⟩
    · simp at h'
  · simp at h'
theorem frzL_len {f : CV → Option (Cn × CV)} : ∀ {l l' : List CV} {b : Cn}, frzL f l = some (b, l') → l'.length = l.length
  | [], l', b, h => by
    have h' : some ((none : Cn), ([] : List CV)) = some (b, l') := h
    simp only [Option.some.injEq, Prod.mk.injEq] at h'
    rw [← h'.2]
  | x :: l, l', b, h => by
    have h' : (match f x with
      | some (b, c) => match frzL f l with
        | some (b', r) => some (cnj b b', c :: r)
        | none => none
      | none => none) = some (b, l') := h
    split at h'
    · split at h'
      · rename_i b2 r hr
        simp only [Option.some.injEq, Prod.mk.injEq] at h'
        rw [← h'.2, List.length_cons, List.length_cons, frzL_len hr]
      · simp at h'
    · simp at h'
noncomputable def frz (H : Tr HO) (k : Nat) : CV → Option (Cn × CV) := Nat.rec (fun _ => none) (fun _ ih c => match c with
  | .sl g o n c _ => match H.get g with
    | some (.cells cs _ _) => match Nat.ble 64 g && Nat.ble n c, frzL ih cs with
      | true, some (b, cs') => some (b, .fz cs' o n)
      | _, _ => none
    | _ => none
  | .xs g o n _ _ => match H.get g with
    | some (.rw cs) => match Nat.ble 64 g with
      | true => some (some (decide (o + n ≤ cs.length)), .fy (.c cs) o n true)
      | false => none
    | _ => none
  | .agg l => match frzL ih l with
    | some (b, l') => some (b, .agg l')
    | none => none
  | .tup l => match frzL ih l with
    | some (b, l') => some (b, .tup l')
    | none => none
  | c => match clo 9 c with
    | true => some (none, c)
    | false => none) k
def frzN (β β' : Names) (H : Tr HO) (w : World) : Names := ⟨β.ad, β.sz, fun a us => β'.sx a us ∨ (FzOk w a us ∧ ∃ g, 64 ≤ g ∧ H.get g ≠ none ∧ β'.ad g = some a), fun a => β'.fp a ∨ ∃ g, 64 ≤ g ∧ H.get g ≠ none ∧ β'.ad g = some a⟩
theorem frzL_ok {β β'' : Names} {f : CV → Option (Cn × CV)} (ih : ∀ b c c' u, f c = some (b, c') → b.ok → RV β c u → RV β'' c' u) : ∀ {l l' : List CV} {us : List Value} {b : Cn}, frzL f l = some (b, l') → b.ok → bJ β l us → bJ β'' l' us
  | [], l', us, b, h, hb, hu => by
    have h' : some ((none : Cn), ([] : List CV)) = some (b, l') := h
    simp only [Option.some.injEq, Prod.mk.injEq] at h'
    obtain ⟨_, rfl⟩ := h'
    exact hu
  | x :: l, l', us, b, h, hb, ⟨u, r, e, h1, h2⟩ => by
    obtain ⟨c, z, b1, b2, rfl, k1, o1, k2, o2⟩ := frzL_cons h hb
    exact ⟨u, r, e, ih b1 x c u k1 o1 h1, frzL_ok ih k2 o2 h2⟩
theorem frz_ok {β β' : Names} {H : Tr HO} {V : Acc} {w : World} (hV : HV V β' w) (hq : ∀ g, 64 ≤ g → V g = H.get g) : ∀ (k : Nat) (b : Cn) (c c' : CV) (u : Value), frz H k c = some (b, c') → b.ok → RV β' c u → RV (frzN β β' H w) c' u
  | 0, _, c, c', u, h, _, _ => by simp [frz] at h
  | k + 1, bb, c, c', u, h, hbb, hu => by
    have ih := frz_ok (β := β) hV hq k
    have cl : (match clo 9 c with
        | true => some ((none : Cn), c)
        | false => none) = some (bb, c') → RV (frzN β β' H w) c' u := by
      intro h
      split at h
      · rename_i hc
        simp only [Option.some.injEq, Prod.mk.injEq] at h
        obtain ⟨_, rfl⟩ := h
        exact RV.sxs (fun a us q => Or.inl q) 9 c u hc hu
      · simp at h
    cases c with
    | sl g o n c lo =>
      have h' : (match H.get g with
        | some (.cells cs _ _) => match Nat.ble 64 g && Nat.ble n c, frzL (frz H k) cs with
          | true, some (b, cs') => some (b, CV.fz cs' o n)
          | _, _ => none
        | _ => none) = some (bb, c') := h
      split at h'
      · rename_i cs e r hg
        split at h'
        · rename_i b cs' hb hl
          simp only [Option.some.injEq, Prod.mk.injEq] at h'
          obtain ⟨rfl, rfl⟩ := h'
          rw [Bool.and_eq_true] at hb
          have g64 := dK hb.1
          have hnc := dK hb.2
          obtain ⟨a, cc, ha, rfl, q1, q2, q3⟩ := hu
          obtain ⟨a', ob, p1, p2, p3, p4⟩ := hV.at_ g _ ((hq g g64).trans hg)
          rw [ha] at p1
          obtain rfl := Option.some.inj p1
          obtain ⟨us, lo', hi', rfl, f1, f2, f3, f4⟩ := p3
          have hlen : cs'.length = cs.length := frzL_len hl
          refine ⟨a, o, cc, us.toList, rfl, by omega, Or.inr rfl, Or.inr ⟨.of (e := e) (fr := (lo', hi')) (by rw [Array.toArray_toList]; exact p2), g, g64, by rw [hg]; simp, ha⟩, frzL_ok ih hl hbb ?_⟩
          rw [hlen]
          have hsz : cs.length ≤ us.toList.length := f1
          refine bJ.of_get (by rw [List.length_take]; exact Nat.min_eq_left hsz) (fun i x hx => ?_)
          obtain ⟨v, k1, k2⟩ := f4 i x hx
          have hi : i < cs.length := (List.getElem?_eq_some_iff.1 hx).1
          exact ⟨v, by rw [List.getElem?_take_of_lt (by omega), Array.getElem?_toList]; exact k1, k2⟩
        · simp at h'
      · simp at h'
    | xs g o n c ex =>
      have h' : (match H.get g with
        | some (.rw cs) => match Nat.ble 64 g with
          | true => some (some (decide (o + n ≤ cs.length)), CV.fy (.c cs) o n true)
          | false => none
        | _ => none) = some (bb, c') := h
      split at h'
      · rename_i cs hg
        split at h'
        · rename_i hb
          have g64 := dK hb
          simp only [Option.some.injEq, Prod.mk.injEq] at h'
          obtain ⟨rfl, rfl⟩ := h'
          have hle := of_decide_eq_true hbb
          obtain ⟨a, cc, off, ha, rfl, q1, q2, q3, q4, q5⟩ := hu
          obtain ⟨a', ob, p1, p2, p3, p4⟩ := hV.at_ g _ ((hq g g64).trans hg)
          rw [ha] at p1
          obtain rfl := Option.some.inj p1
          obtain ⟨us, e, lo', hi', rfl, f1, f2, f3⟩ := p3
          refine ⟨hle, Nat.le_trans q2 (by decide), Or.inr ⟨a, off, cc, us.toList, rfl, q1, q5, Or.inr ⟨.of (e := e) (fr := (lo', hi')) (by rw [Array.toArray_toList]; exact p2), g, g64, by rw [hg]; simp, ha⟩, by rw [Array.length_toList]; exact f1, fun i c hc => ?_⟩⟩
          obtain ⟨k1, s, k2, k3⟩ := f3 i c hc
          exact ⟨k1, s, k2.sxs (fun a us q => Or.inl q), fun k u hk => by rw [Array.getElem?_toList]; exact k3 k u hk⟩
        · simp at h'
      · simp at h'
    | agg l =>
      have h' : (match frzL (frz H k) l with
        | some (b, l') => some (b, CV.agg l')
        | none => none) = some (bb, c') := h
      split at h'
      · rename_i b l' hl
        simp only [Option.some.injEq, Prod.mk.injEq] at h'
        obtain ⟨rfl, rfl⟩ := h'
        obtain ⟨us, e, h1⟩ := hu
        exact ⟨us, e, frzL_ok ih hl hbb h1⟩
      · simp at h'
    | tup l =>
      have h' : (match frzL (frz H k) l with
        | some (b, l') => some (b, CV.tup l')
        | none => none) = some (bb, c') := h
      split at h'
      · rename_i b l' hl
        simp only [Option.some.injEq, Prod.mk.injEq] at h'
        obtain ⟨rfl, rfl⟩ := h'
        obtain ⟨us, e, h1⟩ := hu
        exact ⟨us, e, frzL_ok ih hl hbb h1⟩
      · simp at h'
    | _ => exact cl h
def base0 (β : Names) : Names := ⟨fun g => if g < 64 then β.ad g else none, β.sz, β.sx, β.fp⟩
theorem after0 {β β' : Names} {V : Acc} {H : Tr HO} {n1 : Nat} {w w' : World} {H0 : Tr HO} (h64 : ∀ g, g < 64 ∨ n1 ≤ g → H.get g ≠ none → H0.get g ≠ none ∧ g < 64) (hV : HV V β w) (ht : pK (base0 β) β' 64 n1 [] w w') (hV' : HV (nS H0.get H 64 n1 []) β' w') {nx : Nat} {k : Nat} {b : Cn} {c c' : CV} {u : Value} (hc : frz H k c = some (b, c')) (hb : b.ok) (hu : RV β' c u) :
    pK β (frzN β β' H w') nx nx [] w w' ∧ RV (frzN β β' H w') c' u ∧ HV V (frzN β β' H w') w' := by
  have hup : ∀ a, a < w.heap.size → w'.heap[a]? = w.heap[a]? := fun a ha => ht.upd.block a ha (fun ⟨p, hp, _⟩ => by simp at hp)
  have hav : ∀ g, 64 ≤ g → H.get g ≠ none → nS H0.get H 64 n1 [] g = H.get g := fun g hg hn => by
    unfold nS
    rw [if_pos]
    left
    refine ⟨hg, ?_⟩
    by_cases hl : n1 ≤ g
    · have := (h64 g (Or.inr hl) hn).2; omega
    · omega
  have new : ∀ a, (∃ g, 64 ≤ g ∧ H.get g ≠ none ∧ β'.ad g = some a) → w.heap.size ≤ a ∧ a < w'.heap.size := by
    rintro a ⟨g, g64, hn, ha⟩
    have hg1 : g < n1 := by
      by_cases hl : n1 ≤ g
      · have := (h64 g (Or.inr hl) hn).2; omega
      · omega
    refine ⟨(ht.born g a g64 hg1 ha).elim (fun q => q) (fun ⟨p, hp, _⟩ => by simp at hp), hV'.lt (n := g) (by rw [hav g g64 hn]; exact hn) ha⟩
  have sxs : SxS β (frzN β β' H w') := fun a us q => Or.inl (ht.sxm a us q)
  refine ⟨⟨fun _ _ => ⟨rfl, rfl⟩, sxs, fun a ha => Or.inl (ht.fpm a ha), fun a ha => ?_, Nat.le_refl _, ht.upd.mono (fun _ ⟨_, hp, _⟩ => absurd hp List.not_mem_nil), fun n a h1 h2 => by omega⟩, ?_, ?_⟩
  · rcases ha with ha | ha
    · exact ht.fpn a ha
    · exact Or.inr (new a ha).1
  · have := frz_ok (β := β) (V := fun g => if 64 ≤ g then H.get g else none) ⟨fun n o ho => by
        by_cases hn : 64 ≤ n
        · rw [if_pos hn] at ho
          exact hV'.at_ n o (by rw [hav n hn (by rw [ho]; simp)]; exact ho)
        · rw [if_neg hn] at ho; simp at ho, fun n m a hn hm => hV'.inj n m a (by
          by_cases h : 64 ≤ n
          · rw [if_pos h] at hn; rw [hav n h hn]; exact hn
          · rw [if_neg h] at hn; simp at hn) (by
          by_cases h : 64 ≤ m
          · rw [if_pos h] at hm; rw [hav m h hm]; exact hm
          · rw [if_neg h] at hm; simp at hm), fun a ha => ⟨(hV'.fpa a ha).1, fun n hn => (hV'.fpa a ha).2 n (by
          by_cases h : 64 ≤ n
          · rw [if_pos h] at hn; rw [hav n h hn]; exact hn
          · rw [if_neg h] at hn; simp at hn)⟩, hV'.sxf⟩ (fun g hg => by simp [hg]) k b c c' u hc hb hu
    exact this
  · refine ⟨fun n o ho => ?_, fun n m a => hV.inj n m a, fun a ha => ⟨?_, fun n hn hna => ?_⟩, fun a us hs w'' hw'' => ?_⟩
    · obtain ⟨a, ob, k1, k2, k3, k4⟩ := hV.at_ n o ho
      have hlt := (Array.getElem?_eq_some_iff.1 k2).1
      exact ⟨a, ob, k1, by rw [hup a hlt]; exact k2, k3.mono (show Sub β (frzN β β' H w') from ⟨fun _ _ h => ⟨h, rfl⟩, sxs⟩), k4⟩
    · rcases ha with ha | ha
      · exact (hV'.fpa a ha).1
      · exact (new a ha).2
    · have hlt := hV.lt hn hna
      rcases ha with ha | ha
      · rcases ht.fpn a ha with q | q
        · exact (hV.fpa a q).2 n hn hna
        · omega
      · have := (new a ha).1; omega
    · rcases hs with hs | ⟨hf, hg⟩
      · exact hV'.sxf a us hs w'' (fun b hb => hw'' b (Or.inl hb))
      · exact hf.same (hw'' a (Or.inr hg))
end Go.Proofs.YtcgdimlbbdfdpaaGreatDoor
