/-
  What this statement needs, part 20: the texts of it, one behind the other.
-/
import Derived.Test.YtcgdimlbbdfdpaaGreatDoorBase18
import Derived.Test.YtcgdimlbbdfdpaaGreatDoorBase19
set_option maxRecDepth 100000
set_option linter.all false
namespace Go.Proofs.YtcgdimlbbdfdpaaGreatDoor
open Go Go.RowKit
set_option maxRecDepth 20000
noncomputable def allB {α : Type} (p : α → Bool) (r : R α) : Bool := match R.isNo r with
  | true => false
  | false => match R.allS p r, nilB (R.ckL r) with
    | true, true => true
    | _, _ => false
theorem mF {α : Type} {p : α → Bool} {r : R α} (h : allB p r = true) : ∃ a, r.val = some a ∧ p a = true := by
  unfold allB at h
  split at h
  · simp at h
  · rename_i h1
    split at h
    · rename_i h2 h3
      refine R.all_of h1 h2 (fun c hc => ?_)
      cases hq : R.ckL r with
      | nil => rw [hq] at hc; simp at hc
      | cons a b => rw [hq] at h3; simp [nilB] at h3
    · simp at h
theorem iC.all {CT : bQ} {N : Nat} {c : Code} {s : aP} {p : Ex × aP → Bool} (hc : (dB Tryz.prog N c).isSome = true) (h : allB p (iJ CT N c s) = true) : ∃ e s', iC CT N aH c s e s' ∧ p (e, s') = true := by
  obtain ⟨⟨e, s'⟩, h1, h2⟩ := mF h
  exact ⟨e, s', .run hc h1, h2⟩
noncomputable def chB (CT : bQ) (N : Nat) (q : aP → Bool) : List Code → aP → Bool
  | [], s => q s
  | c :: r, s => allB (fun a => match a.1 with
    | .nrm => chB CT N q r a.2
    | _ => false) (iJ CT N c s)
theorem chB_ok {CT : bQ} {N : Nat} {q : aP → Bool} : ∀ {l : List Code} {s : aP}, (l.all fun c => (dB Tryz.prog N c).isSome) = true → chB CT N q l s = true → ∃ s', q s' = true ∧ ∀ {rest : Code} {e : Ex} {s2 : aP}, iC CT N aH rest s' e s2 → iC CT N aH (nH l rest) s e s2
  | [], s, _, h => ⟨s, h, fun k => k⟩
  | c :: r, s, hc, h => by
    rw [List.all_cons, Bool.and_eq_true] at hc
    obtain ⟨e, s1, h1, h2⟩ := iC.all hc.1 h
    cases e with
    | nrm =>
      obtain ⟨s', k1, k2⟩ := chB_ok hc.2 h2
      exact ⟨s', k1, fun k => .seq h1 (k2 k)⟩
    | exit i => simp at h2
    | ret => simp at h2
theorem ch1_ok {CT : bQ} {N : Nat} {q : aP → Bool} {c : Code} {s : aP} (hc : (dB Tryz.prog N c).isSome = true) (h : chB CT N q [c] s = true) : ∃ s', q s' = true ∧ iC CT N aH c s .nrm s' := by
  obtain ⟨e, s1, h1, h2⟩ := iC.all hc h
  cases e with
  | nrm => exact ⟨s1, h2, h1⟩
  | exit i => simp at h2
  | ret => simp at h2
noncomputable def endB (sk : Sj) (rs : List RS) (s : aP) : Bool := match xP [] s rs, nilB s.wr with
  | some lr, true => match frz s.H 9 (oneOf lr) with
    | some (none, v) => lI [] 0 sk v
    | _ => false
  | _, _ => false
theorem pU.vle {ρ : Nat → Nat} {a b : CV} (h : pU 0 ρ a b) : l7 a b := fun β u hu => h β β u ⟨fun n hn => by omega, fun _ _ q => q⟩ hu
noncomputable def resV (rs : List RS) (s : aP) : CV := match xP [] s rs with
  | some lr => match frz s.H 9 (oneOf lr) with
    | some (_, v) => v
    | none => .nils
  | none => .nils
theorem sU {sk : Sj} {rs : List RS} {s : aP} (h : endB sk rs s = true) : s.wr = [] ∧ Fin rs (rX sk (resV rs s)) s := by
  unfold endB at h
  split at h
  · rename_i lr hr hw
    split at h
    · rename_i v hz
      have e : resV rs s = v := by unfold resV; rw [hr]; simp only; rw [hz]
      rw [e]
      refine ⟨?_, lr, none, v, hr, hz, rfl, (uH [] 0 h).vle⟩
      cases hq : s.wr with
      | nil => rfl
      | cons a r => rw [hq] at hw; simp [nilB] at hw
    · simp at h
  · simp at h
theorem endB_ok {sk : Sj} {rs : List RS} {s : aP} (h : endB sk rs s = true) : s.wr = [] ∧ ∃ v0, Fin rs (rX sk v0) s := by
  unfold endB at h
  split at h
  · rename_i lr hr hw
    split at h
    · rename_i v hz
      refine ⟨?_, v, lr, none, v, hr, hz, rfl, (uH [] 0 h).vle⟩
      cases hq : s.wr with
      | nil => rfl
      | cons a r => rw [hq] at hw; simp [nilB] at hw
    · simp at h
  · simp at h
def Ends (CT : bQ) (N : Nat) (c : Code) (s0 : aP) (rs : List RS) (v : CV) : Prop := ∃ e s', iC CT N aH c s0 e s' ∧ (e = .nrm ∨ e = .ret) ∧ s'.wr = [] ∧ Fin rs v s'
noncomputable def st0 (l : List CV) : aP := ⟨frameC 0 l .e, aH, 64, []⟩
noncomputable def qJ (sk : Sj) (rs : List RS) (a : Ex × aP) : Bool := match a.1 with
  | .ret => endB sk rs a.2
  | _ => false
theorem Ends.ret {CT : bQ} {N : Nat} {c : Code} {s0 : aP} {rs : List RS} {sk : Sj} {e : Ex} {s' : aP} (h : iC CT N aH c s0 e s') (hb : qJ sk rs (e, s') = true) : ∃ v0, Ends CT N c s0 rs (rX sk v0) := by
  unfold qJ at hb
  cases e with
  | ret =>
    obtain ⟨h1, v0, h2⟩ := endB_ok hb
    exact ⟨v0, .ret, s', h, Or.inr rfl, h1, h2⟩
  | nrm => simp at hb
  | exit i => simp at hb
noncomputable def pickK (l : List CV) : List (List Sj × Sj) → Option (List Sj × Sj)
  | [] => none
  | k :: r => match lM [] 0 k.1 l with
    | true => some k
    | false => pickK l r
theorem pickK_ok {l : List CV} {k : List Sj × Sj} : ∀ {o : List (List Sj × Sj)}, pickK l o = some k → k ∈ o ∧ lM [] 0 k.1 l = true
  | [], h => by simp [pickK] at h
  | k' :: r, h => by
    unfold pickK at h
    split at h
    · rename_i hf
      obtain rfl := Option.some.inj h
      exact ⟨List.mem_cons_self, hf⟩
    · obtain ⟨h1, h2⟩ := pickK_ok h
      exact ⟨List.mem_cons_of_mem _ h1, h2⟩
noncomputable def endV (CT : bQ) (N : Nat) (c : Code) (rs : List RS) (sk : Sj) (l : List CV) : CV := Classical.epsilon fun v0 => Ends CT N c (st0 l) rs (rX sk v0)
noncomputable def tmS (CT : bQ) (N : Nat) (c : Code) (rs : List RS) (o : List (List Sj × Sj)) (cnd : List CV → Cn) (l : List CV) (V : Acc) : R CV := match pickK l o, pJ V with
  | some k, true => brO (cnd (dO k.1 (.agg l) 0)) (.ok (rX k.2 (endV CT N c rs k.2 (dO k.1 (.agg l) 0))))
  | _, _ => .no
theorem args_ok {k : List Sj} {l : List CV} {β : Names} {us : List Value} (h : lM [] 0 k l = true) (hu : bJ β l us) : bJ β (dO k (.agg l) 0) us := sJ [] 0 (root := .agg l) (i := 0) (fun j => by show l.getD j .nils = l.getD (0 + j) .nils; rw [Nat.zero_add]) h β β us ⟨fun n hn => by omega, fun _ _ q => q⟩ hu
theorem tm_pur {CT : bQ} (hT : gV Tryz.prog CT) {f : FuncId} {fn : Func} {c : Code} {rs : List RS} (hf : Tryz.prog.funcs[f]? = some fn) (hb : fn.body = some c) (hn : (fn.name == "runtime.NumGoroutine") = false) (hrs : cmpR Tryz.prog fn.results.toList = some rs) {o : List (List Sj × Sj)} {cnd : List CV → Cn}
    (hs : ∀ k ∈ o, ∀ root : CV, allC (clo 9) (dO k.1 root 0) = true ∧ k.1.length ≤ fn.ntmps ∧ ((cnd (dO k.1 root 0)).ok → ∃ v0, Ends CT fn.ntmps c (st0 (dO k.1 root 0)) rs (rX k.2 v0))) : bM Tryz.prog f (tmS CT fn.ntmps c rs o cnd) :=
  lds_pur hT hf hb hn hrs (fun l V v h => by
    unfold tmS at h
    split at h
    · rename_i k hk ht
      obtain ⟨hc, h⟩ := yJ h
      obtain rfl := Option.some.inj h
      obtain ⟨h1, h2⟩ := pickK_ok hk
      obtain ⟨q1, q2, q3⟩ := hs k h1 (.agg l)
      refine ⟨ht, fun β us hu => ?_⟩
      obtain ⟨e, s', k1, k2, k3, k4⟩ := Classical.epsilon_spec (q3 hc)
      exact ⟨dO k.1 (.agg l) 0, e, s', args_ok h2 hu, q1, by rw [rY]; exact q2, k1, k2, k3, k4⟩
    · simp [R.val] at h)
theorem iC.allC {CT : bQ} {N : Nat} {c : Code} {s : aP} {p : Ex × aP → Bool} {cs : List Bool} (hc : (dB Tryz.prog N c).isSome = true) (h1 : R.isNo (iJ CT N c s) = false) (h2 : R.allS p (iJ CT N c s) = true) (h3 : R.ckL (iJ CT N c s) = cs) (h4 : ∀ b ∈ cs, b = true) : ∃ e s', iC CT N aH c s e s' ∧ p (e, s') = true := by
  obtain ⟨⟨e, s'⟩, k1, k2⟩ := R.all_of h1 h2 (by rw [h3]; exact h4)
  exact ⟨e, s', .run hc k1, k2⟩
noncomputable def reG {α : Type} (g : Bool) (r : R α) : R α := R.rec .no (fun a => .ok a) (fun b t f t' f' => match R.isNo t with
  | true => .no
  | false => match R.isNo f with
    | true => .br g t' .no
    | false => .br b t' f') r
theorem reG_br {α : Type} {g b : Bool} {t f : R α} (h : R.br b t f = reG g (R.br b t f)) : R.isNo t = false ∧ ((R.isNo f = true ∧ b = g ∧ t = reG g t) ∨ (R.isNo f = false ∧ t = reG g t ∧ f = reG g f)) := by
  have h' : R.br b t f = (match R.isNo t with
    | true => .no
    | false => match R.isNo f with
      | true => .br g (reG g t) .no
      | false => .br b (reG g t) (reG g f)) := h
  cases ht : R.isNo t with
  | true => rw [ht] at h'; simp at h'
  | false =>
    rw [ht] at h'
    refine ⟨rfl, ?_⟩
    cases hf : R.isNo f with
    | true =>
      rw [hf] at h'
      simp only [R.br.injEq] at h'
      exact Or.inl ⟨rfl, h'.1, h'.2.1⟩
    | false =>
      rw [hf] at h'
      simp only [R.br.injEq] at h'
      exact Or.inr ⟨rfl, h'.2.1, h'.2.2⟩
theorem reG_ok {α : Type} {p : α → Bool} : ∀ {r : R α}, r = reG true r → R.isNo r = false → R.allS p r = true → ∃ a, r.val = some a ∧ p a = true
  | .no, _, h, _ => by have h' : true = false := h; simp at h'
  | .ok a, _, _, h => ⟨a, rfl, h⟩
  | .br b t f, h, _, ha => by
    have ha' : (match R.isNo t with
      | true => match R.isNo f with
        | true => false
        | false => R.allS p f
      | false => match R.allS p t with
        | true => R.allS p f
        | false => false) = true := ha
    obtain ⟨ht, h⟩ := reG_br h
    rw [ht] at ha'
    simp only at ha'
    split at ha'
    · rename_i q
      rcases h with ⟨h1, rfl, h3⟩ | ⟨h1, h2, h3⟩
      · exact reG_ok (r := t) h3 ht q
      · cases b with
        | true => exact reG_ok (r := t) h2 ht q
        | false => exact reG_ok (r := f) h3 h1 ha'
    · simp at ha'
theorem iC.allG {CT : bQ} {N : Nat} {c : Code} {s : aP} {p : Ex × aP → Bool} {g : Bool} (hc : (dB Tryz.prog N c).isSome = true) (h1 : R.isNo (iJ CT N c s) = false) (h2 : R.allS p (iJ CT N c s) = true) (h3 : iJ CT N c s = reG g (iJ CT N c s)) (h4 : g = true) : ∃ e s', iC CT N aH c s e s' ∧ p (e, s') = true := by
  subst h4
  obtain ⟨⟨e, s'⟩, k1, k2⟩ := reG_ok h3 h1 h2
  exact ⟨e, s', .run hc k1, k2⟩
theorem kM {CT : bQ} {N : Nat} {a b : Code} {s s' : aP} (hc : (dB Tryz.prog N (.seq a b)).isSome = true) (h : (iJ CT N (.seq a b) s).val = some (.nrm, s')) : ∃ s1, iC CT N aH a s .nrm s1 ∧ (dB Tryz.prog N b).isSome = true ∧ (iJ CT N b s1).val = some (.nrm, s') := by
  cases hx : dB Tryz.prog N a with
  | none => rw [dB, hx] at hc; simp at hc
  | some x =>
    cases hy : dB Tryz.prog N b with
    | none => rw [dB, hx, hy] at hc; simp at hc
    | some y =>
      have e : dB Tryz.prog N (.seq a b) = some (.seq x y) := by rw [dB, hx, hy]
      unfold iJ at h
      rw [e] at h
      have h' : (seqR (kQ CT (kD Tryz.prog CT 20000 60) 20000 64 [] x) (kQ CT (kD Tryz.prog CT 20000 60) 20000 64 [] y) s).val = some (.nrm, s') := h
      unfold seqR at h'
      obtain ⟨⟨e1, s1⟩, h1, h2⟩ := R.bind_some h'
      cases e1 with
      | nrm => exact ⟨s1, .run (by rw [hx]; rfl) (by unfold iJ; rw [hx]; exact h1), by simp, by unfold iJ; rw [hy]; exact h2⟩
      | exit i => simp [R.val] at h2
      | ret => simp [R.val] at h2
noncomputable def R.mp {α β : Type} (f : α → β) (r : R α) : R β := R.rec .no (fun a => .ok (f a)) (fun b _ _ x y => .br b x y) r
noncomputable def R.mq {α β : Type} (f : α → β) (r : R α) : R β := R.rec .no (fun a => .ok (f a)) (fun b _ _ x y => .br b x y) r
theorem R.mp_val {α β : Type} {f : α → β} {a : α} : ∀ {r : R α}, r.val = some a → (R.mp f r).val = some (f a)
  | .no, h => by simp [R.val] at h
  | .ok b, h => by
    obtain rfl := Option.some.inj h
    rfl
  | .br true t f, h => R.mp_val (r := t) h
  | .br false t f, h => R.mp_val (r := f) h
theorem R.mq_eq {α β : Type} {f g : α → β} {r : R α} (h : R.mq f r = R.mp g r) {a : α} (ha : r.val = some a) : f a = g a := by
  have h1 := R.mp_val (f := f) ha
  have h2 := R.mp_val (f := g) ha
  rw [show R.mp f r = R.mq f r from rfl, h, h2] at h1
  exact (Option.some.inj h1).symm
noncomputable def endG (CT : bQ) (N : Nat) (c : Code) (rs : List RS) (F : CV → CV) (l : List CV) (G : CV → Prop) : CV := Classical.epsilon fun v0 => G v0 ∧ Ends CT N c (st0 l) rs (F v0)
noncomputable def tgS (CT : bQ) (N : Nat) (c : Code) (rs : List RS) (o : List (List Sj × Sj)) (cnd : List CV → Cn) (F : CV → CV) (G : List CV → CV → Prop) (out : List CV → CV → R CV) (l : List CV) (V : Acc) : R CV := match pickK l o, pJ V with
  | some k, true => brO (cnd (dO k.1 (.agg l) 0)) (out (dO k.1 (.agg l) 0) (endG CT N c rs F (dO k.1 (.agg l) 0) (G (dO k.1 (.agg l) 0))))
  | _, _ => .no
theorem tg_pur {CT : bQ} (hT : gV Tryz.prog CT) {f : FuncId} {fn : Func} {c : Code} {rs : List RS} (hf : Tryz.prog.funcs[f]? = some fn) (hb : fn.body = some c) (hn : (fn.name == "runtime.NumGoroutine") = false) (hrs : cmpR Tryz.prog fn.results.toList = some rs) {o : List (List Sj × Sj)} {cnd : List CV → Cn} {F : CV → CV} {G : List CV → CV → Prop} {out : List CV → CV → R CV}
    (hs : ∀ k ∈ o, ∀ root : CV, allC (clo 9) (dO k.1 root 0) = true ∧ k.1.length ≤ fn.ntmps ∧ ((cnd (dO k.1 root 0)).ok → ∃ v0, G (dO k.1 root 0) v0 ∧ Ends CT fn.ntmps c (st0 (dO k.1 root 0)) rs (F v0)))
    (hout : ∀ k ∈ o, ∀ (l : List CV) (v0 v : CV), G l v0 → (out l v0).val = some v → l7 (F v0) v) : bM Tryz.prog f (tgS CT fn.ntmps c rs o cnd F G out) :=
  lds_pur hT hf hb hn hrs (fun l V v h => by
    unfold tgS at h
    split at h
    · rename_i k hk ht
      obtain ⟨hc, h⟩ := yJ h
      obtain ⟨h1, h2⟩ := pickK_ok hk
      obtain ⟨q1, q2, q3⟩ := hs k h1 (.agg l)
      refine ⟨ht, fun β us hu => ?_⟩
      obtain ⟨g, e, s', k1, k2, k3, lr, b, v', k4, k5, k6, k7⟩ := Classical.epsilon_spec (q3 hc)
      have hv := hout k h1 _ _ _ g h
      exact ⟨dO k.1 (.agg l) 0, e, s', args_ok h2 hu, q1, by rw [rY]; exact q2, k1, k2, k3, lr, b, v', k4, k5, k6, fun β u hu => hv β u (k7 β u hu)⟩
    · simp [R.val] at h)
def qZ (W H M : Int) : Bool := ((decide (3 ≤ W) && decide (W ≤ 7)) && (decide (4 ≤ H) && decide (H ≤ 6))) && (decide (0 ≤ M) && decide (M ≤ 2))
theorem parB_ok {W H M : Int} (h : qZ W H M = true) : (3 ≤ W ∧ W ≤ 7) ∧ (4 ≤ H ∧ H ≤ 6) ∧ 0 ≤ M ∧ M ≤ 2 := by
  unfold qZ at h
  simp only [Bool.and_eq_true, decide_eq_true_eq] at h
  omega
noncomputable def vaR (tm W H M : Int) : R CV := pr cT9 97 [.agg (parC tm W H M)] aV
theorem va1 (tm W H M : Int) : R.okp [false, false, false, false, false, false] (vaR tm W H M) = true ∧ R.cds [false, false, false, false, false, false] (vaR tm W H M) = [decide (W < 1), decide (W > 4096), decide (H < 1), decide (H > 16777216), decide (M < 0), decide (M > 16777216)] ∧ R.lfp .nils [false, false, false, false, false, false] (vaR tm W H M) = .bool false true := ⟨by kernel_rfl, by kernel_rfl, by kernel_rfl⟩
noncomputable def vaS (l : List CV) (V : Acc) : R CV := match l with
  | [.agg pl] => match parT pl, pJ V with
    | some (_, W, H, M), true => .br (qZ W H M) (.ok (.bool false true)) .no
    | _, _ => .no
  | _ => .no
theorem va_pur : bM Tryz.prog 97 vaS := pt_pur cT9_ok (by kernel_rfl) (fun l V v h => by
  unfold vaS at h
  split at h
  · rename_i pl
    split at h
    · rename_i tm W H M hp ht
      obtain rfl := yU hp
      refine ⟨ht, fun β us hu => ?_⟩
      have hb : qZ W H M = true := by
        cases hc : qZ W H M with
        | true => rfl
        | false => rw [hc] at h; simp [R.val] at h
      rw [hb] at h
      obtain rfl := Option.some.inj h
      have k := parB_ok hb
      refine ⟨_, .bool false true, hu, (show (vaR tm W H M).val = some _ from R.val_pv .nils (va1 tm W H M).1 (by
        rw [(va1 tm W H M).2.1, decide_eq_false (by omega : ¬ W < 1), decide_eq_false (by omega : ¬ W > 4096), decide_eq_false (by omega : ¬ H < 1), decide_eq_false (by omega : ¬ H > 16777216), decide_eq_false (by omega : ¬ M < 0), decide_eq_false (by omega : ¬ M > 16777216)]) (va1 tm W H M).2.2), fun _ _ hu => hu⟩
    · simp [R.val] at h
  · simp [R.val] at h)
noncomputable def mdC : Code := lL Tryz.f93
noncomputable def mdB : Code := cIn (cIn (kC (kA (kC (kC mdC)))))
noncomputable def mdP : Code := kC (kC (kC mdC))
theorem mdCode : mdC = .seq (kA mdC) (.seq (kA (kC mdC)) (.seq (.seq (kA (kA (kC (kC mdC)))) (.block 0 (.loop mdB))) mdP)) := by kernel_rfl
def tmK (n : Nat) : Sj := .fz (List.replicate n (.i .u32)) 0 n
def mdT (n k : Nat) : SjT := ⟨[(3, match k with
  | 0 => .x .nils
  | k + 1 => .s 64 0 (k + 1) (k + 1) 1), (7, tmK n), (8, .x (.int false .i64 (.ofNat n))), (9, .x (.int false .i64 (.ofNat k)))], match k with
  | 0 => []
  | k + 1 => [(64, .c (List.replicate (k + 1) (.i .u32)) 24 true)], 64 + min k 1⟩
noncomputable def mdR (n k : Nat) (x : Nat → CV) (y : Nat → HO) : R (Ex × aP) := iJ cTc 48 mdB (y5 (mdT n k) x y)
noncomputable def mdF (n k : Nat) (a : Ex × aP) : Bool := match a.1 with
  | .nrm => iR [(64, a.2.nx - 1)] (mdT n k) a.2
  | _ => false
noncomputable def mdE (a : Ex × aP) : Bool := match a.1 with
  | .exit 0 => allB (qJ (.i .u32) [.t (way 2)]) (iJ cTc 48 mdP a.2)
  | _ => false
noncomputable def mdK (n : Nat) (x : Nat → CV) (y : Nat → HO) (k : Nat) : Bool := match Nat.blt k n with
  | true => allB (mdF n (k + 1)) (mdR n k x y)
  | false => allB mdE (mdR n k x y)
noncomputable def mdA (n : Nat) (x : Nat → CV) (y : Nat → HO) : Nat → Bool
  | 0 => mdK n x y 0
  | k + 1 => match mdA n x y k with
    | true => mdK n x y (k + 1)
    | false => false
theorem md_all : ∀ (n : Nat), 1 ≤ n → n ≤ 8 → ∀ (x : Nat → CV) (y : Nat → HO), mdA n x y n = true
  | 1, _, _, x, y => by kernel_rfl
  | 2, _, _, x, y => by kernel_rfl
  | 3, _, _, x, y => by kernel_rfl
  | 4, _, _, x, y => by kernel_rfl
  | 5, _, _, x, y => by kernel_rfl
  | 6, _, _, x, y => by kernel_rfl
  | 7, _, _, x, y => by kernel_rfl
  | 8, _, _, x, y => by kernel_rfl
  | 0, h, _, _, _ => absurd h (by omega)
  | n + 9, _, h, _, _ => absurd h (by omega)
theorem mdA_k {n : Nat} {x : Nat → CV} {y : Nat → HO} : ∀ {m : Nat}, mdA n x y m = true → ∀ k, k ≤ m → mdK n x y k = true
  | 0, h, k, hk => by
    obtain rfl : k = 0 := by omega
    exact h
  | m + 1, h, k, hk => by
    unfold mdA at h
    split at h
    · rename_i h1
      by_cases e : k = m + 1
      · rw [e]; exact h
      · exact mdA_k h1 k (by omega)
    · simp at h
theorem md_loop {n : Nat} (h1 : 1 ≤ n) (h8 : n ≤ 8) : ∀ (j k : Nat), k + j = n → ∀ (x : Nat → CV) (y : Nat → HO), ∃ s', iC cTc 48 aH (.loop mdB) (y5 (mdT n k) x y) (.exit 0) s' ∧ allB (qJ (.i .u32) [.t (way 2)]) (iJ cTc 48 mdP s') = true
  | 0, k, hk, x, y => by
    have h := mdA_k (md_all n h1 h8 x y) k (by omega)
    unfold mdK at h
    split at h
    · rename_i hb
      have := ofLt hb
      omega
    · obtain ⟨e, s', q1, q2⟩ := iC.all (by kernel_rfl) h
      unfold mdE at q2
      split at q2
      · rename_i he
        have he : e = .exit 0 := he
        subst he
        exact ⟨s', .out q1 (by simp), q2⟩
      · simp at q2
  | j + 1, k, hk, x, y => by
    have h := mdA_k (md_all n h1 h8 x y) k (by omega)
    unfold mdK at h
    split at h
    · obtain ⟨e, s', q1, q2⟩ := iC.all (by kernel_rfl) h
      unfold mdF at q2
      split at q2
      · rename_i he
        have he : e = .nrm := he
        subst he
        obtain ⟨s2, k1, k2⟩ := md_loop h1 h8 j (k + 1) (by omega) _ _
        exact ⟨s2, .again q1 (.fit q2 k1), k2⟩
      · simp at q2
    · rename_i hb
      have : ¬ k < n := fun hl => by rw [Eq.mpr Nat.blt_eq hl] at hb; simp at hb
      omega
def mdO : List (List Sj × Sj) := [1, 2, 3, 4, 5, 6, 7, 8].map fun n => ([tmK n], .i .u32)
noncomputable def mdS0 (n : Nat) (root : CV) : aP := st0 (dO [tmK n] root 0)
theorem md_pre : ∀ (n : Nat), 1 ≤ n → n ≤ 8 → ∀ (root : CV), chB cTc 48 (chB cTc 48 (iR [] (mdT n 0)) [kA (kA (kC (kC mdC)))]) [kA mdC, kA (kC mdC)] (mdS0 n root) = true
  | 1, _, _, _ => by kernel_rfl
  | 2, _, _, _ => by kernel_rfl
  | 3, _, _, _ => by kernel_rfl
  | 4, _, _, _ => by kernel_rfl
  | 5, _, _, _ => by kernel_rfl
  | 6, _, _, _ => by kernel_rfl
  | 7, _, _, _ => by kernel_rfl
  | 8, _, _, _ => by kernel_rfl
  | 0, h, _, _ => absurd h (by omega)
  | n + 9, _, h, _ => absurd h (by omega)
theorem md_pur : bM Tryz.prog 93 (tmS cTc 48 mdC [.t (way 2)] mdO (fun _ => none)) := tm_pur cTc_ok Tryz.func93 (by kernel_rfl) (by kernel_rfl) (by kernel_rfl) (fun k hk root => by
  have key : ∀ n, 1 ≤ n → n ≤ 8 → ∃ v0, Ends cTc 48 mdC (mdS0 n root) [.t (way 2)] (rX (.i .u32) v0) := fun n h1 h8 => by
    obtain ⟨s0, q0, p0⟩ := chB_ok (by kernel_rfl) (md_pre n h1 h8 root)
    obtain ⟨s1, q1, p1⟩ := ch1_ok (by kernel_rfl) q0
    obtain ⟨s2, k1, k2⟩ := md_loop h1 h8 n 0 (by omega) (fU s1) (fC [] s1)
    obtain ⟨e3, s3, k3, k4⟩ := iC.all (by kernel_rfl) k2
    refine Ends.ret (s' := s3) (e := e3) ?_ k4
    rw [mdCode]
    exact p0 (.seq (.seq p1 (.blk (.fit q1 k1))) k3)
  simp only [mdO, List.map_cons, List.map_nil, List.mem_cons, List.not_mem_nil, or_false] at hk
  rcases hk with rfl | rfl | rfl | rfl | rfl | rfl | rfl | rfl
  · exact ⟨by kernel_rfl, by show 1 ≤ 48; omega, fun _ => key 1 (by omega) (by omega)⟩
  · exact ⟨by kernel_rfl, by show 1 ≤ 48; omega, fun _ => key 2 (by omega) (by omega)⟩
  · exact ⟨by kernel_rfl, by show 1 ≤ 48; omega, fun _ => key 3 (by omega) (by omega)⟩
  · exact ⟨by kernel_rfl, by show 1 ≤ 48; omega, fun _ => key 4 (by omega) (by omega)⟩
  · exact ⟨by kernel_rfl, by show 1 ≤ 48; omega, fun _ => key 5 (by omega) (by omega)⟩
  · exact ⟨by kernel_rfl, by show 1 ≤ 48; omega, fun _ => key 6 (by omega) (by omega)⟩
  · exact ⟨by kernel_rfl, by show 1 ≤ 48; omega, fun _ => key 7 (by omega) (by omega)⟩
  · exact ⟨by kernel_rfl, by show 1 ≤ 48; omega, fun _ => key 8 (by omega) (by omega)⟩)
def yQ : Sj := .agg (.x (.int false .u32 1) :: List.replicate 64 (.x (.int false .u8 0)) ++ [.i .u32, .x (.int false .u32 545259519), .x (.int false .u32 0), .x (.int false .u64 18446744073709551615), .x (.int false .u64 18446744073709551615), .x (.int false .u64 18446744073709551615), .x (.int false .u64 9223372036854775807), .i .i64, .x (.int false .u32 5), .x (.int false .u32 600), .x (.int false .u32 1), .x .nils, .x (.int false .i64 1000), .i .i64, .i .i64])
def hshL : List Sj := List.replicate 32 (.i .u8)
def ctxK (h : Nat) : Sj := .agg (.x (.int false .i64 (.ofNat h)) :: hshL ++ [.i .u32, .i .u32, tmK (h + 1)])
def xH : List Sj := .i .u32 :: hshL ++ hshL ++ [.i .u32, .i .u32, .i .u32]
def cndP (l : List CV) : Cn := some (qZ (aS (aT 72 (l.getD 0 .nils))) (aS (aT 78 (l.getD 0 .nils))) (aS (aT 79 (l.getD 0 .nils))))
def x9 (root : CV) : Bool := qZ (aS (aT 72 (aT 0 root))) (aS (aT 78 (aT 0 root))) (aS (aT 79 (aT 0 root)))
theorem cndP_ok {k : List Sj} {root : CV} (h : (cndP (dO (yQ :: k) root 0)).ok) : x9 root = true := h
theorem W_ne {root : CV} (h : x9 root = true) : decide (aS (aT 72 (aT 0 root)) ≠ 0) = true := decide_eq_true (by have := (parB_ok h).1; omega)
noncomputable def ajC : Code := lL Tryz.f148
def ajO : List (List Sj × Sj) := [([yQ, .i .u32, .i .u32, .i .u32], .tup [.i .u32, .i .i64])]
theorem aj1 (root : CV) : allB (qJ (.tup [.i .u32, .i .i64]) [.t (way 8), .t (way 9)]) (iJ cTe 83 ajC (st0 (dO [yQ, .i .u32, .i .u32, .i .u32] root 0))) = true := by kernel_rfl
theorem aj_pur : bM Tryz.prog 148 (tmS cTe 83 ajC [.t (way 8), .t (way 9)] ajO (fun _ => none)) := tm_pur cTe_ok Tryz.func148 (by kernel_rfl) (by kernel_rfl) (by kernel_rfl) (fun k hk root => by
  simp only [ajO, List.mem_cons, List.not_mem_nil, or_false] at hk
  subst hk
  refine ⟨by kernel_rfl, by show 4 ≤ 83; omega, fun _ => ?_⟩
  obtain ⟨e, s', h1, h2⟩ := iC.all (by kernel_rfl) (aj1 root)
  exact Ends.ret h1 h2)
noncomputable def cTf : bQ := bT (bT (bT cTe 97 vaS) 93 (tmS cTc 48 mdC [.t (way 2)] mdO (fun _ => none))) 148 (tmS cTe 83 ajC [.t (way 8), .t (way 9)] ajO (fun _ => none))
theorem cTf_ok : gV Tryz.prog cTf := aG (aG (aG cTe_ok va_pur) md_pur) aj_pur
noncomputable def nxC : Code := lL Tryz.f91
def nxK : Sj := .tup [.i .u32, .i .i64]
def nxO : List (List Sj × Sj) := (List.range 8).map fun h => ([yQ, ctxK h], nxK)
noncomputable def nxR (h : Nat) (root : CV) : R (Ex × aP) := iJ cTf 56 nxC (st0 (dO [yQ, ctxK h] root 0))
theorem nx1 : ∀ (h : Nat), h < 8 → ∀ (root : CV), R.isNo (nxR h root) = false ∧ R.allS (qJ nxK [.t (way 4), .t (way 5)]) (nxR h root) = true ∧ R.ckL (nxR h root) = [x9 root, decide (aS (aT 72 (aT 0 root)) ≠ 0)]
  | 0, _, root => ⟨by kernel_rfl, by kernel_rfl, by kernel_rfl⟩
  | 1, _, root => ⟨by kernel_rfl, by kernel_rfl, by kernel_rfl⟩
  | 2, _, root => ⟨by kernel_rfl, by kernel_rfl, by kernel_rfl⟩
  | 3, _, root => ⟨by kernel_rfl, by kernel_rfl, by kernel_rfl⟩
  | 4, _, root => ⟨by kernel_rfl, by kernel_rfl, by kernel_rfl⟩
  | 5, _, root => ⟨by kernel_rfl, by kernel_rfl, by kernel_rfl⟩
  | 6, _, root => ⟨by kernel_rfl, by kernel_rfl, by kernel_rfl⟩
  | 7, _, root => ⟨by kernel_rfl, by kernel_rfl, by kernel_rfl⟩
  | n + 8, h, _ => absurd h (by omega)
theorem nx_pur : bM Tryz.prog 91 (tmS cTf 56 nxC [.t (way 4), .t (way 5)] nxO cndP) := tm_pur cTf_ok Tryz.func91 (by kernel_rfl) (by kernel_rfl) (by kernel_rfl) (fun k hk root => by
  obtain ⟨h, hh, rfl⟩ := List.mem_map.1 hk
  have hh := List.mem_range.1 hh
  refine ⟨by rcases h with _ | _ | _ | _ | _ | _ | _ | _ | h <;> first | omega | kernel_rfl, by show 2 ≤ 56; omega, fun hc => ?_⟩
  have hc := cndP_ok hc
  obtain ⟨e, s', h1, h2⟩ := iC.allC (by kernel_rfl) (nx1 h hh root).1 (nx1 h hh root).2.1 (nx1 h hh root).2.2 (by simp only [List.mem_cons, List.not_mem_nil, or_false, forall_eq_or_imp, forall_eq]; exact ⟨hc, W_ne hc⟩)
  exact Ends.ret h1 h2)
noncomputable def cTg : bQ := bT cTf 91 (tmS cTf 56 nxC [.t (way 4), .t (way 5)] nxO cndP)
theorem cTg_ok : gV Tryz.prog cTg := aG cTf_ok nx_pur
noncomputable def adC' : Code := lL Tryz.f40
def adK' (h : Nat) : Sj := .tup [ctxK (h + 1), .x (.int false .i64 0)]
def adO : List (List Sj × Sj) := (List.range 7).map fun h => ([yQ, ctxK h, .agg xH], adK' h)
noncomputable def adR' (h : Nat) (root : CV) : R (Ex × aP) := iJ cTg 54 adC' (st0 (dO [yQ, ctxK h, .agg xH] root 0))
theorem ad1 : ∀ (h : Nat), h < 7 → ∀ (root : CV), R.isNo (adR' h root) = false ∧ R.allS (qJ (adK' h) [.c (way 6) true 36, .t (way 7)]) (adR' h root) = true ∧ R.ckL (adR' h root) = [x9 root, decide (aS (aT 72 (aT 0 root)) ≠ 0)]
  | 0, _, root => ⟨by kernel_rfl, by kernel_rfl, by kernel_rfl⟩
  | 1, _, root => ⟨by kernel_rfl, by kernel_rfl, by kernel_rfl⟩
  | 2, _, root => ⟨by kernel_rfl, by kernel_rfl, by kernel_rfl⟩
  | 3, _, root => ⟨by kernel_rfl, by kernel_rfl, by kernel_rfl⟩
  | 4, _, root => ⟨by kernel_rfl, by kernel_rfl, by kernel_rfl⟩
  | 5, _, root => ⟨by kernel_rfl, by kernel_rfl, by kernel_rfl⟩
  | 6, _, root => ⟨by kernel_rfl, by kernel_rfl, by kernel_rfl⟩
  | n + 7, h, _ => absurd h (by omega)
theorem ad_pur : bM Tryz.prog 40 (tmS cTg 54 adC' [.c (way 6) true 36, .t (way 7)] adO cndP) := tm_pur cTg_ok Tryz.func40 (by kernel_rfl) (by kernel_rfl) (by kernel_rfl) (fun k hk root => by
  obtain ⟨h, hh, rfl⟩ := List.mem_map.1 hk
  have hh := List.mem_range.1 hh
  refine ⟨by rcases h with _ | _ | _ | _ | _ | _ | _ | h <;> first | omega | kernel_rfl, by show 3 ≤ 54; omega, fun hc => ?_⟩
  have hc := cndP_ok hc
  obtain ⟨e, s', h1, h2⟩ := iC.allC (by kernel_rfl) (ad1 h hh root).1 (ad1 h hh root).2.1 (ad1 h hh root).2.2 (by simp only [List.mem_cons, List.not_mem_nil, or_false, forall_eq_or_imp, forall_eq]; exact ⟨hc, W_ne hc⟩)
  exact Ends.ret h1 h2)
noncomputable def cTh : bQ := bT cTg 40 (tmS cTg 54 adC' [.c (way 6) true 36, .t (way 7)] adO cndP)
theorem cTh_ok : gV Tryz.prog cTh := aG cTg_ok ad_pur
noncomputable def hcC : Code := lL Tryz.f39
def hcA (h : Nat) : List Sj := [yQ, ctxK h, .agg xH, .x (.int false .u32 1073741824)]
def hcO : List (List Sj × Sj) := (List.range 7).map fun h => (hcA h, .i .i64)
noncomputable def hcR (h : Nat) (root : CV) : R (Ex × aP) := iJ cTh 93 hcC (st0 (dO (hcA h) root 0))
theorem hc1 : ∀ (h : Nat), h < 7 → ∀ (root : CV), R.isNo (hcR h root) = false ∧ R.allS (qJ (.i .i64) [.t (way 8)]) (hcR h root) = true ∧ hcR h root = reG (x9 root) (hcR h root)
  | 0, _, root => ⟨by kernel_rfl, by kernel_rfl, by kernel_rfl⟩
  | 1, _, root => ⟨by kernel_rfl, by kernel_rfl, by kernel_rfl⟩
  | 2, _, root => ⟨by kernel_rfl, by kernel_rfl, by kernel_rfl⟩
  | 3, _, root => ⟨by kernel_rfl, by kernel_rfl, by kernel_rfl⟩
  | 4, _, root => ⟨by kernel_rfl, by kernel_rfl, by kernel_rfl⟩
  | 5, _, root => ⟨by kernel_rfl, by kernel_rfl, by kernel_rfl⟩
  | 6, _, root => ⟨by kernel_rfl, by kernel_rfl, by kernel_rfl⟩
  | n + 7, h, _ => absurd h (by omega)
theorem hc_pur : bM Tryz.prog 39 (tmS cTh 93 hcC [.t (way 8)] hcO cndP) := tm_pur cTh_ok Tryz.func39 (by kernel_rfl) (by kernel_rfl) (by kernel_rfl) (fun k hk root => by
  obtain ⟨h, hh, rfl⟩ := List.mem_map.1 hk
  have hh := List.mem_range.1 hh
  refine ⟨by rcases h with _ | _ | _ | _ | _ | _ | _ | h <;> first | omega | kernel_rfl, by show 4 ≤ 93; omega, fun hc => ?_⟩
  have hc := cndP_ok hc
  obtain ⟨e, s', h1, h2⟩ := iC.allG (by kernel_rfl) (hc1 h hh root).1 (hc1 h hh root).2.1 (hc1 h hh root).2.2 hc
  exact Ends.ret h1 h2)
noncomputable def cTi : bQ := bT cTh 39 (tmS cTh 93 hcC [.t (way 8)] hcO cndP)
theorem cTi_ok : gV Tryz.prog cTi := aG cTh_ok hc_pur
noncomputable def miC : Code := lL Tryz.f79
noncomputable def miL : Code := kC (kC (kC miC))
noncomputable def miB : Code := cIn (cIn (kC (kA miL)))
noncomputable def miP : Code := kC miL
theorem miCode : miC = .seq (kA miC) (.seq (kA (kC miC)) (.seq (kA (kC (kC miC))) (.seq (.seq (kA (kA miL)) (.block 0 (.loop miB))) miP))) := by kernel_rfl
noncomputable def miRS : List RS := [.c (way 8) true 68]
def hdrK : Sj := .agg xH
def miT : SjT := ⟨[(8, .p 67 0), (9, .i .u32), (11, .p 68 0)], [(67, .c xH 28 false), (68, .c xH 28 false)], 69⟩
def rtC (v : CV) : List Int := (List.range 32).map fun j => aS (aT (33 + j) v)
def rtY (o : HO) : List Int := rtC (.agg (dU o))
def ncY (o : HO) : Int := aS (aT 67 (.agg (dU o)))
noncomputable def miR (x : Nat → CV) (y : Nat → HO) : R (Ex × aP) := iJ cTi 45 miB (y5 miT x y)
noncomputable def miF (a : Ex × aP) : Bool := match a.1 with
  | .nrm => iR [] miT a.2
  | .ret => endB hdrK miRS a.2
  | _ => false
noncomputable def miG (a : Ex × aP) : List Int := match a.1 with
  | .ret => rtC (resV miRS a.2)
  | _ => rtY (fC [] a.2 68)
noncomputable def miN (n : Int) (a : Ex × aP) : Int := match a.1 with
  | .ret => n
  | _ => ncY (fC [] a.2 68)
theorem mi1 (x : Nat → CV) (y : Nat → HO) : R.isSub [true] (miR x y) = true ∧ R.cds [true] (miR x y) = [decide (ncY (y 68) < 20000)] ∧ allB miF (R.sub [true] (miR x y)) = true ∧ R.mq miG (R.sub [true] (miR x y)) = R.mp (fun _ => rtY (y 68)) (R.sub [true] (miR x y)) ∧ R.mq (miN (dP .u32 (ncY (y 68) + 1))) (R.sub [true] (miR x y)) = R.mp (fun _ => dP .u32 (ncY (y 68) + 1)) (R.sub [true] (miR x y)) := ⟨by kernel_rfl, by kernel_rfl, by kernel_rfl, by kernel_rfl, by kernel_rfl⟩
noncomputable def miE (x : Nat → CV) (y : Nat → HO) : aP := (R.lfp (.nrm, dW) [false] (miR x y)).2
theorem mi2 (x : Nat → CV) (y : Nat → HO) : R.okp [false] (miR x y) = true ∧ R.cds [false] (miR x y) = [decide (ncY (y 68) < 20000)] ∧ (R.lfp (.nrm, dW) [false] (miR x y)).1 = .exit 0 ∧ allB (qJ hdrK miRS) (iJ cTi 45 miP (miE x y)) = true ∧ R.mq miG (iJ cTi 45 miP (miE x y)) = R.mp (fun _ => rtY (y 68)) (iJ cTi 45 miP (miE x y)) := ⟨by kernel_rfl, by kernel_rfl, by kernel_rfl, by kernel_rfl, by kernel_rfl⟩
def miQ (R0 : List Int) (s : aP) : Prop := endB hdrK miRS s = true ∧ rtC (resV miRS s) = R0
theorem mi_loop (R0 : List Int) : ∀ (j : Nat) (x : Nat → CV) (y : Nat → HO) (n : Nat), ncY (y 68) = (n : Int) → n + j = 20000 → rtY (y 68) = R0 → (∃ s', iC cTi 45 aH (.loop miB) (y5 miT x y) .ret s' ∧ miQ R0 s') ∨ (∃ s' s3, iC cTi 45 aH (.loop miB) (y5 miT x y) (.exit 0) s' ∧ iC cTi 45 aH miP s' .ret s3 ∧ miQ R0 s3)
  | 0, x, y, n, hn, hj, hr => by
    right
    obtain ⟨h1, h2, h3, h4, h5⟩ := mi2 x y
    have hv := R.val_pe (.nrm, dW) h1 (by rw [h2, decide_eq_false (by omega)]) h3
    obtain ⟨⟨e, s3⟩, k1, k2⟩ := mF h4
    have k3 := R.mq_eq h5 k1
    cases e with
    | ret => exact ⟨_, s3, .out (.run (by kernel_rfl) hv) (by simp), .run (by kernel_rfl) k1, k2, k3.trans hr⟩
    | nrm => simp [qJ] at k2
    | exit i => simp [qJ] at k2
  | j + 1, x, y, n, hn, hj, hr => by
    obtain ⟨h1, h2, h3, h4, h5⟩ := mi1 x y
    have hv := R.val_sub h1 (by rw [h2, decide_eq_true (by omega)])
    obtain ⟨⟨e, s1⟩, k1, k2⟩ := mF h3
    have k3 := R.mq_eq h4 k1
    have k4 := R.mq_eq h5 k1
    have hrun : iC cTi 45 aH miB (y5 miT x y) e s1 := .run (by kernel_rfl) (hv.trans k1)
    cases e with
    | ret => exact Or.inl ⟨s1, .out hrun (by simp), k2, k3.trans hr⟩
    | exit i => simp [miF] at k2
    | nrm =>
      have hw : dP .u32 (ncY (y 68) + 1) = ((n + 1 : Nat) : Int) := by
        rw [hn, bZ]
        have : IntKind.u32.wrap ((n : Int) + 1) = (n : Int) + 1 := by rw [lS]; simp [IntKind.signed, IntKind.bits]; omega
        rw [this]; rfl
      rcases mi_loop R0 j (fU s1) (fC [] s1) (n + 1) (k4.trans hw) (by omega) (k3.trans hr) with ⟨s', q1, q2⟩ | ⟨s', s3, q1, q2⟩
      · exact Or.inl ⟨s', .again hrun (.fit k2 q1), q2⟩
      · exact Or.inr ⟨s', s3, .again hrun (.fit k2 q1), q2⟩
def miA (h : Nat) : List Sj := [yQ, ctxK h, .agg hshL, .i .u32]
def miO : List (List Sj × Sj) := (List.range 7).map fun h => (miA h, hdrK)
def rtA (l : List CV) : List Int := (List.range 32).map fun j => aS (aT j (l.getD 2 .nils))
def hdM (R0 : List Int) (v : CV) : List CV := .int true .u32 (aS (aT 0 v)) :: (List.range 32).map (fun j => .int true .u8 (aS (aT (1 + j) v))) ++ R0.map (fun z => .int true .u8 z) ++ [.int true .u32 (aS (aT 65 v)), .int true .u32 (aS (aT 66 v)), .int true .u32 (aS (aT 67 v))]
theorem hdM_eq (v : CV) : hdM (rtC v) v = dO xH v 0 := by kernel_rfl
noncomputable def miPR (h : Nat) (root : CV) : R (Ex × aP) := iJ cTi 45 (.seq (kA miC) (.seq (kA (kC miC)) (.seq (kA (kC (kC miC))) (kA (kA miL))))) (st0 (dO (miA h) root 0))
noncomputable def miPF (a : Ex × aP) : Bool := match a.1 with
  | .nrm => iR [] miT a.2
  | _ => false
theorem mi3 : ∀ (h : Nat), h < 7 → ∀ (root : CV), R.isNo (miPR h root) = false ∧ R.allS miPF (miPR h root) = true ∧ R.ckL (miPR h root) = [x9 root] ∧ R.mq (fun a => (rtY (fC [] a.2 68), ncY (fC [] a.2 68))) (miPR h root) = R.mp (fun _ => (rtA (dO (miA h) root 0), 0)) (miPR h root)
  | 0, _, root => ⟨by kernel_rfl, by kernel_rfl, by kernel_rfl, by kernel_rfl⟩
  | 1, _, root => ⟨by kernel_rfl, by kernel_rfl, by kernel_rfl, by kernel_rfl⟩
  | 2, _, root => ⟨by kernel_rfl, by kernel_rfl, by kernel_rfl, by kernel_rfl⟩
  | 3, _, root => ⟨by kernel_rfl, by kernel_rfl, by kernel_rfl, by kernel_rfl⟩
  | 4, _, root => ⟨by kernel_rfl, by kernel_rfl, by kernel_rfl, by kernel_rfl⟩
  | 5, _, root => ⟨by kernel_rfl, by kernel_rfl, by kernel_rfl, by kernel_rfl⟩
  | 6, _, root => ⟨by kernel_rfl, by kernel_rfl, by kernel_rfl, by kernel_rfl⟩
  | n + 7, h, _ => absurd h (by omega)
theorem mi_pur : bM Tryz.prog 79 (tgS cTi 45 miC miRS miO cndP (rX hdrK) (fun l v => rtC v = rtA l) (fun l v => .ok (.agg (hdM (rtA l) v)))) := tg_pur cTi_ok Tryz.func79 (by kernel_rfl) (by kernel_rfl) (by kernel_rfl) (fun k hk root => by
  obtain ⟨h, hh, rfl⟩ := List.mem_map.1 hk
  have hh := List.mem_range.1 hh
  refine ⟨by rcases h with _ | _ | _ | _ | _ | _ | _ | h <;> first | omega | kernel_rfl, by show 4 ≤ 45; omega, fun hc => ?_⟩
  have hc := cndP_ok hc
  obtain ⟨h1, h2, h3, h4⟩ := mi3 h hh root
  obtain ⟨⟨e, s4⟩, k1, k2⟩ := R.all_of h1 h2 (by rw [h3]; simp only [List.mem_cons, List.not_mem_nil, or_false, forall_eq]; exact hc)
  have k3 := R.mq_eq h4 k1
  simp only [Prod.mk.injEq] at k3
  cases e with
  | exit i => simp [miPF] at k2
  | ret => simp [miPF] at k2
  | nrm =>
    obtain ⟨s1, p1, c1, k1⟩ := kM (by kernel_rfl) k1
    obtain ⟨s2, p2, c2, k1⟩ := kM c1 k1
    obtain ⟨s3, p3, c3, k1⟩ := kM c2 k1
    have fin : ∀ s', miQ (rtA (dO (miA h) root 0)) s' → iC cTi 45 aH miC (st0 (dO (miA h) root 0)) .ret s' → ∃ v0, rtC v0 = rtA (dO (miA h) root 0) ∧ Ends cTi 45 miC (st0 (dO (miA h) root 0)) miRS (rX hdrK v0) := fun s' hq hl => by
      obtain ⟨q1, q2⟩ := sU hq.1
      exact ⟨_, hq.2, .ret, s', hl, Or.inr rfl, q1, q2⟩
    rcases mi_loop (rtA (dO (miA h) root 0)) 20000 (fU s4) (fC [] s4) 0 k3.2 (by omega) k3.1 with ⟨s', q1, q2⟩ | ⟨s', s5, q1, q2, q3⟩
    · refine fin s' q2 ?_
      rw [miCode]
      exact .seq p1 (.seq p2 (.seq p3 (.stop (.seq (.run c3 k1) (.blk (.fit k2 q1))) (by simp [exB]))))
    · refine fin s5 q3 ?_
      rw [miCode]
      exact .seq p1 (.seq p2 (.seq p3 (.seq (.seq (.run c3 k1) (.blk (.fit k2 q1))) q2)))) (fun k hk l v0 v hg hv => by
  obtain ⟨h, hh, rfl⟩ := List.mem_map.1 hk
  obtain rfl := Option.some.inj hv
  show l7 (rX hdrK v0) (.agg (hdM (rtA l) v0))
  rw [← hg, hdM_eq]
  exact l7.rfl_ _)
noncomputable def cTj : bQ := bT cTi 79 (tgS cTi 45 miC miRS miO cndP (rX hdrK) (fun l v => rtC v = rtA l) (fun l v => .ok (.agg (hdM (rtA l) v))))
theorem cTj_ok : gV Tryz.prog cTj := aG cTi_ok mi_pur
noncomputable def wJ : bQ := bT cTj 133 (pr cTj 133)
theorem cTk_ok : gV Tryz.prog wJ := aG cTj_ok (nY cTj_ok (by kernel_rfl))
def Sj.li : Sj → List Sj
  | .agg l => l
  | _ => []
def ledL : List Sj := .i .i64 :: hshL ++ [.fy]
def scrK : Sj := .fz [.x (.int false .u8 1), .x (.int false .u8 1), .i .u8, .x (.int false .u8 5)] 0 4
def spK1 (b : Bool) : List Sj := [.x (.int false .u32 1), .fz (hshL ++ [.i .u32, .i .u32, .fz [.fz [.i .u8] 0 1] 0 1]) 0 1, (match b with
  | true => .fz [.i .i64, scrK, .i .i64, scrK] 0 2
  | false => .fz [.i .i64, scrK] 0 1), .x (.int false .u32 0)]
def outL : List Bool → List Sj
  | [] => []
  | b :: r => spK1 b ++ outL r
def trT (s : List Bool) : SjT := ⟨[(2, .i .u8), (3, .p 64 0), (4, .p 65 0), (8, match s with
  | [] => .x .nils
  | _ => .s 67 0 s.length s.length 4), (9, .i .i64), (10, .xs 66 0 false), (11, .i .u8)], (64, .c yQ.li 34 false) :: (65, .c ledL 76 false) :: (66, .w) :: (match s with
  | [] => []
  | _ => [(67, .c (outL s) 52 true)]), match s with
  | [] => 67
  | _ => 68⟩
def trI (s : List Bool) : SjT := ⟨(12, .i .i64) :: (13, .i .i64) :: (trT s).sl, (trT s).hp, (trT s).nx⟩
noncomputable def trC : Code := lL Tryz.f76
noncomputable def trL : Code := kA (kC (kC (kC (kC trC))))
noncomputable def trO : Code := cIn (cIn (kC trL))
noncomputable def trM : Code := cIn (kA (kC trO))
noncomputable def trB : Code := cIn (cIn (kC (kC trM)))
noncomputable def trF : Code := cIn (kA (kC trB))
def trA (s : List Bool) : SjT := ⟨(14, .i .i64) :: (trI s).sl, (trT s).hp, (trT s).nx⟩
def coinL : List Sj := hshL ++ [.i .u32, .i .i64, scrK, .i .i64, .b]
def outN (s : List Bool) : Nat := match s with
  | [] => 67
  | _ => 68
def trQ (s : List Bool) : SjT := ⟨(15, .p (outN s) 0) :: (trA s).sl, (outN s, .c coinL 163 false) :: (trT s).hp, outN s + 1⟩
def trP (s : List Bool) (b : Bool) : SjT := ⟨(16, .p 68 0) :: (trA s).sl, (68, .c (spK1 b) 52 false) :: (trT s).hp, 69⟩
def gx : CV → Nat
  | .xs g _ _ _ _ => g
  | .sl g _ _ _ _ => g
  | .ptr g _ => g
  | _ => 0
noncomputable def trK (ren : List (Nat × Nat)) (s : aP) : (Nat × List aJ) × Int × Int × Int := ((gK (fU s 10), lT (fC ren s 66)), aS (fU s 11), aS (fU s 12), aS (fU s 13))
noncomputable def trV (x : Nat → CV) (y : Nat → HO) : (Nat × List aJ) × Int × Int × Int := ((gK (x 10), lT (y 66)), aS (x 11), aS (x 12), aS (x 13))
noncomputable def tr1R (s : List Bool) (x : Nat → CV) (y : Nat → HO) : R (Ex × aP) := iJ wJ 113 (.seq (kA (kC trF)) (kA (kC (kC trF)))) (y5 (trA s) x y)
noncomputable def tr1F (s : List Bool) (a : Ex × aP) : Bool := match a.1 with
  | .exit 3 => iR [] (trI s) a.2
  | .nrm => iR [] (trQ s) a.2
  | _ => false
def at_ (x : Nat → CV) : Int := aS (x 14)
theorem tr1 : ∀ (s : List Bool), s.length ≤ 2 → ∀ (x : Nat → CV) (y : Nat → HO), R.isNo (tr1R s x y) = false ∧ R.allS (tr1F s) (tr1R s x y) = true ∧ R.ckL (tr1R s x y) = [decide (0 ≤ at_ x) && decide (at_ x < (gK (x 10) : Int)), decide (0 + (at_ x).toNat < (lT (y 66)).length)] ∧ R.mq (fun a => (trK [] a.2, aS (fU a.2 14))) (tr1R s x y) = R.mp (fun _ => (trV x y, at_ x)) (tr1R s x y)
  | [], _, x, y => ⟨by kernel_rfl, by kernel_rfl, by kernel_rfl, by kernel_rfl⟩
  | [true], _, x, y => ⟨by kernel_rfl, by kernel_rfl, by kernel_rfl, by kernel_rfl⟩
  | [false], _, x, y => ⟨by kernel_rfl, by kernel_rfl, by kernel_rfl, by kernel_rfl⟩
  | [true, true], _, x, y => ⟨by kernel_rfl, by kernel_rfl, by kernel_rfl, by kernel_rfl⟩
  | [true, false], _, x, y => ⟨by kernel_rfl, by kernel_rfl, by kernel_rfl, by kernel_rfl⟩
  | [false, true], _, x, y => ⟨by kernel_rfl, by kernel_rfl, by kernel_rfl, by kernel_rfl⟩
  | [false, false], _, x, y => ⟨by kernel_rfl, by kernel_rfl, by kernel_rfl, by kernel_rfl⟩
  | _ :: _ :: _ :: _, h, _, _ => absurd h (by simp)
noncomputable def tr2C : Code := .seq (kA (kC (kC (kC trF)))) (kA (kC (kC (kC (kC trF)))))
noncomputable def tr2R (s : List Bool) (x : Nat → CV) (y : Nat → HO) : R (Ex × aP) := iJ wJ 113 tr2C (y5 (trQ s) x y)
noncomputable def tr2N (s : aP) : List (Nat × Nat) := [(67, gx (fU s 8)), (68, gx (fU s 16))]
noncomputable def tr2F (s : List Bool) (a : Ex × aP) : Bool := match a.1 with
  | .nrm => match iR (tr2N a.2) (trP (s ++ [true]) true) a.2 with
    | true => true
    | false => iR (tr2N a.2) (trP (s ++ [false]) false) a.2
  | _ => false
theorem tr2 : ∀ (s : List Bool), s.length ≤ 2 → ∀ (x : Nat → CV) (y : Nat → HO), allB (tr2F s) (tr2R s x y) = true ∧ R.mq (fun a => (trK (tr2N a.2) a.2, aS (fU a.2 14))) (tr2R s x y) = R.mp (fun _ => (trV x y, at_ x)) (tr2R s x y)
  | [], _, x, y => ⟨by kernel_rfl, by kernel_rfl⟩
  | [true], _, x, y => ⟨by kernel_rfl, by kernel_rfl⟩
  | [false], _, x, y => ⟨by kernel_rfl, by kernel_rfl⟩
  | [true, true], _, x, y => ⟨by kernel_rfl, by kernel_rfl⟩
  | [true, false], _, x, y => ⟨by kernel_rfl, by kernel_rfl⟩
  | [false, true], _, x, y => ⟨by kernel_rfl, by kernel_rfl⟩
  | [false, false], _, x, y => ⟨by kernel_rfl, by kernel_rfl⟩
  | _ :: _ :: _ :: _, h, _, _ => absurd h (by simp)
noncomputable def tr3R (s : List Bool) (b : Bool) (x : Nat → CV) (y : Nat → HO) : R (Ex × aP) := iJ wJ 113 (kC (kC (kC (kC (kC trF))))) (y5 (trP s b) x y)
section
variable (b : Bool) (x : Nat → CV) (y : Nat → HO)
def n_ : Nat := gK (x 10)
def cs_ : List aJ := lT (y 66)
def at1 : Int := eX .i64 (at_ x) 1
def tl_ : List aJ := ((cs_ y).drop (0 + (at1 x).toNat)).take (n_ x - (at1 x).toNat)
def hd_ : List aJ := ((cs_ y).drop 0).take (at_ x).toNat
noncomputable def cn_ (i : Nat) : aJ := ⟨(List.range 32).map (fun q => aS (vJ q (resZ (pr cT0 134) [.agg (dO (spK1 b) (.agg (dU (y 68))) 0)]))) ++ [(i : Int)], aS (aT (2 * i) (aT 2 (.agg (dU (y 68))))), aS (aT 2 (aT (2 * i + 1) (aT 2 (.agg (dU (y 68)))))), eX .i64 (aS (aT 0 (.agg (dU (y 65))))) 1, false⟩
def rw_ (t : Bool) : List aJ := match t with
  | true => hd_ x y ++ tl_ x y
  | false => cs_ y
def m_ (t : Bool) : Nat := match t with
  | true => (at_ x).toNat + (tl_ x y).length
  | false => (at_ x).toNat
noncomputable def nw_ (t : Bool) : List aJ := match b with
  | false => (rw_ x y t).take (m_ x y t) ++ [cn_ b y 0]
  | true => ((rw_ x y t).take (m_ x y t) ++ [cn_ b y 0]).take (m_ x y t + 1) ++ [cn_ b y 1]
def le2 (l : List aJ) (n : Nat) : Bool := decide (0 + n ≤ l.length) && decide (n ≤ 1048576)
noncomputable def cd_ (t : Bool) : List Bool := [xsB (n_ x) none (some (at_ x)) (some (at_ x)), xsB (n_ x) (some (at1 x)) none none, decide (0 + (at1 x).toNat + (n_ x - (at1 x).toNat) ≤ (cs_ y).length) && decide ((tl_ x y).length ≤ 1048576), le2 (cs_ y) (at_ x).toNat, decide (0 < (tl_ x y).length)] ++ (match t with
  | true => [decide ((at_ x).toNat = (at_ x).toNat), le2 (rw_ x y t) (m_ x y t)]
  | false => [le2 (cs_ y) (at_ x).toNat, decide ((at_ x).toNat = (at_ x).toNat)]) ++ (match b with
  | true => [le2 ((rw_ x y t).take (m_ x y t) ++ [cn_ b y 0]) (m_ x y t + 1)]
  | false => [])
def ds_ (t : Bool) : List Bool := [true, true, true, true, t, true, true] ++ (match b with
  | true => [true]
  | false => [])
end
noncomputable def tr3N (s : aP) : List (Nat × Nat) := [(66, gx (fU s 10)), (67, gx (fU s 8))]
noncomputable def tr3E (s : List Bool) (b t : Bool) (x : Nat → CV) (y : Nat → HO) : Ex × aP := R.lfp (.nrm, dW) (ds_ b t) (tr3R s b x y)
def Tr3 (s : List Bool) (b t : Bool) (x : Nat → CV) (y : Nat → HO) : Prop := R.okp (ds_ b t) (tr3R s b x y) = true ∧ R.cds (ds_ b t) (tr3R s b x y) = cd_ b x y t ∧ (tr3E s b t x y).1 = .exit 2 ∧ iR (tr3N (tr3E s b t x y).2) (trT s) (tr3E s b t x y).2 = true ∧ trK (tr3N (tr3E s b t x y).2) (tr3E s b t x y).2 = ((m_ x y t + b.toNat + 1, nw_ b x y t), aS (x 11), aS (x 12), aS (x 13))
theorem tr3 : ∀ (s : List Bool) (b t : Bool), s.length ≤ 2 → ∀ (x : Nat → CV) (y : Nat → HO), Tr3 (s ++ [b]) b t x y
  | [], true, true, _, x, y => ⟨by kernel_rfl, by kernel_rfl, by kernel_rfl, by kernel_rfl, by kernel_rfl⟩
  | [], true, false, _, x, y => ⟨by kernel_rfl, by kernel_rfl, by kernel_rfl, by kernel_rfl, by kernel_rfl⟩
  | [], false, true, _, x, y => ⟨by kernel_rfl, by kernel_rfl, by kernel_rfl, by kernel_rfl, by kernel_rfl⟩
  | [], false, false, _, x, y => ⟨by kernel_rfl, by kernel_rfl, by kernel_rfl, by kernel_rfl, by kernel_rfl⟩
  | [true], true, true, _, x, y => ⟨by kernel_rfl, by kernel_rfl, by kernel_rfl, by kernel_rfl, by kernel_rfl⟩
  | [true], true, false, _, x, y => ⟨by kernel_rfl, by kernel_rfl, by kernel_rfl, by kernel_rfl, by kernel_rfl⟩
  | [true], false, true, _, x, y => ⟨by kernel_rfl, by kernel_rfl, by kernel_rfl, by kernel_rfl, by kernel_rfl⟩
  | [true], false, false, _, x, y => ⟨by kernel_rfl, by kernel_rfl, by kernel_rfl, by kernel_rfl, by kernel_rfl⟩
  | [false], true, true, _, x, y => ⟨by kernel_rfl, by kernel_rfl, by kernel_rfl, by kernel_rfl, by kernel_rfl⟩
  | [false], true, false, _, x, y => ⟨by kernel_rfl, by kernel_rfl, by kernel_rfl, by kernel_rfl, by kernel_rfl⟩
  | [false], false, true, _, x, y => ⟨by kernel_rfl, by kernel_rfl, by kernel_rfl, by kernel_rfl, by kernel_rfl⟩
  | [false], false, false, _, x, y => ⟨by kernel_rfl, by kernel_rfl, by kernel_rfl, by kernel_rfl, by kernel_rfl⟩
  | [true, true], true, true, _, x, y => ⟨by kernel_rfl, by kernel_rfl, by kernel_rfl, by kernel_rfl, by kernel_rfl⟩
  | [true, true], true, false, _, x, y => ⟨by kernel_rfl, by kernel_rfl, by kernel_rfl, by kernel_rfl, by kernel_rfl⟩
  | [true, true], false, true, _, x, y => ⟨by kernel_rfl, by kernel_rfl, by kernel_rfl, by kernel_rfl, by kernel_rfl⟩
  | [true, true], false, false, _, x, y => ⟨by kernel_rfl, by kernel_rfl, by kernel_rfl, by kernel_rfl, by kernel_rfl⟩
  | [true, false], true, true, _, x, y => ⟨by kernel_rfl, by kernel_rfl, by kernel_rfl, by kernel_rfl, by kernel_rfl⟩
  | [true, false], true, false, _, x, y => ⟨by kernel_rfl, by kernel_rfl, by kernel_rfl, by kernel_rfl, by kernel_rfl⟩
  | [true, false], false, true, _, x, y => ⟨by kernel_rfl, by kernel_rfl, by kernel_rfl, by kernel_rfl, by kernel_rfl⟩
  | [true, false], false, false, _, x, y => ⟨by kernel_rfl, by kernel_rfl, by kernel_rfl, by kernel_rfl, by kernel_rfl⟩
  | [false, true], true, true, _, x, y => ⟨by kernel_rfl, by kernel_rfl, by kernel_rfl, by kernel_rfl, by kernel_rfl⟩
  | [false, true], true, false, _, x, y => ⟨by kernel_rfl, by kernel_rfl, by kernel_rfl, by kernel_rfl, by kernel_rfl⟩
  | [false, true], false, true, _, x, y => ⟨by kernel_rfl, by kernel_rfl, by kernel_rfl, by kernel_rfl, by kernel_rfl⟩
  | [false, true], false, false, _, x, y => ⟨by kernel_rfl, by kernel_rfl, by kernel_rfl, by kernel_rfl, by kernel_rfl⟩
  | [false, false], true, true, _, x, y => ⟨by kernel_rfl, by kernel_rfl, by kernel_rfl, by kernel_rfl, by kernel_rfl⟩
  | [false, false], true, false, _, x, y => ⟨by kernel_rfl, by kernel_rfl, by kernel_rfl, by kernel_rfl, by kernel_rfl⟩
  | [false, false], false, true, _, x, y => ⟨by kernel_rfl, by kernel_rfl, by kernel_rfl, by kernel_rfl, by kernel_rfl⟩
  | [false, false], false, false, _, x, y => ⟨by kernel_rfl, by kernel_rfl, by kernel_rfl, by kernel_rfl, by kernel_rfl⟩
  | _ :: _ :: _ :: _, _, _, h, _, _ => absurd h (by simp)
end Go.Proofs.YtcgdimlbbdfdpaaGreatDoor
