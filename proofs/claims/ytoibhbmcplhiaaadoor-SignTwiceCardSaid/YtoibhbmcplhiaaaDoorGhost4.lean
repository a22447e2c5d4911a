/-
  Code over what is known of a frame and of the blocks of the call's own.
-/
import Derived.Test.YtoibhbmcplhiaaaDoorGhost3
namespace Go.Proofs.YtoibhbmcplhiaaaDoor
open Go Go.RowKit

def AllN : Nat → (Nat → Prop) → Prop
  | 0, _ => True
  | n + 1, p => AllN n p ∧ p n
theorem AllN.get {p : Nat → Prop} : ∀ {n : Nat}, AllN n p → ∀ i, i < n → p i
  | 0, _, i, hi => absurd hi (by omega)
  | n + 1, h, i, hi => by
    by_cases e : i = n
    · subst e; exact h.2
    · exact AllN.get h.1 i (by omega)
/-- What operation i may look at of what has been found. -/
def mask (D : List Nat) (i : Nat) (ρ : Nat → Orc) : Nat → Orc := fun j => if j == i || dep D i j then ρ j else {}
theorem mask_congr {D : List Nat} {i : Nat} {ρ ρ' : Nat → Orc} (h : ∀ j, j = i ∨ dep D i j = true → ρ j = ρ' j) : mask D i ρ = mask D i ρ' := by
  funext j
  unfold mask
  by_cases hj : (j == i || dep D i j) = true
  · rw [if_pos hj, if_pos hj]
    apply h
    simpa using hj
  · rw [if_neg hj, if_neg hj]
/-- The number of the block that operation i has made. -/
def nb (ρ : Nat → Orc) (i : Nat) : Nat := (ρ i).n.headD 0
def nb2 (ρ : Nat → Orc) (i : Nat) : Nat := (ρ i).n.tail.headD 0

/-- A run that reads alone. -/
def grd (P : Program) {α : Type} : Sem α → List Nat → List (Nat × Obj) → Option (α × List (Nat × Nat))
  | .pure a, _, _ => some (a, [])
  | .load _ a k, ps, K => match K[ps.headD 0]? with
    | some (g, o) => match cellIn o a with
      | some v => (grd P (k v) ps.tail K).map fun r => (r.1, (a.block, g) :: r.2)
      | none => none
    | none => none
  | .shape b k, ps, K => match K[ps.headD 0]? with
    | some (g, o) => match shapeIn o with
      | some s => (grd P (k (some s)) ps.tail K).map fun r => (r.1, (b, g) :: r.2)
      | none => none
    | none => none
  | .frozen a k, ps, K => match K[ps.headD 0]? with
    | some (g, o) => (grd P (k (frozenIn o a.off)) ps.tail K).map fun r => (r.1, (a.block, g) :: r.2)
    | none => none
  | .program k, ps, K => grd P (k P) ps K
  | .mark _ k, ps, K => grd P k ps K
  | _, _, _ => none
theorem grd_sound {α : Type} {P : Program} (s : Sem α) : ∀ (ps : List Nat) (K : List (Nat × Obj)) (w : World) (x : α) (es : List (Nat × Nat)), Knows K w → grd P s ps K = some (x, es) → Eqs es → s.run P w = .ok x w := by
  induction s with
  | pure a =>
    intro ps K w x es hK hg he
    simp only [grd, Option.some.injEq, Prod.mk.injEq] at hg
    obtain ⟨rfl, rfl⟩ := hg
    rfl
  | load m a k ih =>
    intro ps K w x es hK hg he
    simp only [grd] at hg
    split at hg
    · rename_i g o hq
      split at hg
      · rename_i v hc
        rw [Option.map_eq_some_iff] at hg
        obtain ⟨⟨x1, es1⟩, hg1, hg2⟩ := hg
        simp only [Prod.mk.injEq] at hg2
        obtain ⟨rfl, rfl⟩ := hg2
        obtain ⟨he1, he2⟩ := he
        simp only at he1
        have hcell : w.cell? a = some v := cell_in (by rw [he1]; exact hK _ (List.mem_of_getElem? hq)) hc
        simp only [Sem.run, hcell]
        exact ih v _ K w _ _ hK hg1 he2
      · exact absurd hg (by simp)
    · exact absurd hg (by simp)
  | shape b k ih =>
    intro ps K w x es hK hg he
    simp only [grd] at hg
    split at hg
    · rename_i g o hq
      split at hg
      · rename_i s hs
        rw [Option.map_eq_some_iff] at hg
        obtain ⟨⟨x1, es1⟩, hg1, hg2⟩ := hg
        simp only [Prod.mk.injEq] at hg2
        obtain ⟨rfl, rfl⟩ := hg2
        obtain ⟨he1, he2⟩ := he
        simp only at he1
        have hsh : w.shape? b = some s := shape_in (by rw [he1]; exact hK _ (List.mem_of_getElem? hq)) hs
        simp only [Sem.run, hsh]
        exact ih (some s) _ K w _ _ hK hg1 he2
      · exact absurd hg (by simp)
    · exact absurd hg (by simp)
  | frozen a k ih =>
    intro ps K w x es hK hg he
    simp only [grd] at hg
    split at hg
    · rename_i g o hq
      rw [Option.map_eq_some_iff] at hg
      obtain ⟨⟨x1, es1⟩, hg1, hg2⟩ := hg
      simp only [Prod.mk.injEq] at hg2
      obtain ⟨rfl, rfl⟩ := hg2
      obtain ⟨he1, he2⟩ := he
      simp only at he1
      have hfr : w.frozen? a = frozenIn o a.off := frozen_in (by rw [he1]; exact hK _ (List.mem_of_getElem? hq))
      simp only [Sem.run, hfr]
      exact ih _ _ K w _ _ hK hg1 he2
    · exact absurd hg (by simp)
  | program k ih => intro ps K w x es hK hg he; exact ih P ps K w x es hK hg he
  | mark m k ih => intro ps K w x es hK hg he; exact ih ps K w x es hK hg he
  | store m a v k ih => intro ps K w x es hK hg he; simp [grd] at hg
  | new o k ih => intro ps K w x es hK hg he; simp [grd] at hg
  | freeze a n k ih => intro ps K w x es hK hg he; simp [grd] at hg
  | getObj r k ih => intro ps K w x es hK hg he; simp [grd] at hg
  | setObj r o k ih => intro ps K w x es hK hg he; simp [grd] at hg
  | choose q k ih => intro ps K w x es hK hg he; simp [grd] at hg
  | sys c k ih => intro ps K w x es hK hg he; simp [grd] at hg
  | halt x => intro ps K w x es hK hg he; simp [grd] at hg
/-- What a region does. -/
def Reg (P : Program) (id : Nat) (ops : Array Oper) (draw : Bool) (n : Nat) (l : List (Nat × Value)) (w0 : World) (h : List (Nat × Obj)) (F : World → Prop) (l' : (Nat → Orc) → List (Nat × Value)) (h' : (Nat → Orc) → List (Nat × Obj)) : Prop :=
  ∀ Q A w, Fr n l A → St w0 h F w → (∀ ρ A' w', Fr n (l' ρ) A' → St w0 (h' ρ) F w' → Q .normal A' w') → (Code.region id ops draw).wp P Q A w

theorem St.weaken {w0 w : World} {h : List (Nat × Obj)} {F G : World → Prop} (hS : St w0 h F w) (hFG : ∀ w, F w → G w) : St w0 h G w := by
  refine ⟨hS.below, hS.at_, hS.nodup, ?_⟩
  obtain ⟨S, h1, h2⟩ := hS.facts
  exact ⟨S, h1, fun w' hw => hFG _ (h2 w' hw)⟩

def drawOk (ops : Array Oper) (D : List Nat) (n : Nat) (l : List (Nat × Value)) (keep : List Nat) : Bool :=
  Downward .any ops && DOk ops D && DstOk ops n && LooksOk ops D l && keepOk ops l keep
def seqOk (ops : Array Oper) (D : List Nat) (n : Nat) (l : List (Nat × Value)) (keep : List Nat) : Bool :=
  DSeq ops.size D && DstOk ops n && LooksOk ops D l && keepOk ops l keep

section
variable {P : Program} {id : Nat} {ops : Array Oper} {n : Nat} {l : List (Nat × Value)} {w0 : World} {h : List (Nat × Obj)} {F : World → Prop} {l' : (Nat → Orc) → List (Nat × Value)} {h' : (Nat → Orc) → List (Nat × Obj)}

theorem reg_drawn (D : List Nat) (keep : List Nat) (m : Nat) (vals : (Nat → Orc) → Nat → Value) (effs : (Nat → Orc) → Nat → Eff) (hm : P.follows .mixedOrders = true) (hsz : ops.size = m) (hchk : drawOk ops D n l keep = true)
    (hfin : ∀ ρ, finL ops l (fun i => vals (mask D i ρ) i) keep = l' ρ) (hfh : ∀ ρ, finH ops.size h (fun i => effs (mask D i ρ) i) = h' ρ)
    (hobl : AllN m (Obl P ops D l w0 h F (fun ρ i => vals (mask D i ρ) i) (fun ρ i => effs (mask D i ρ) i) (fun _ _ _ => True))) : Reg P id ops true n l w0 h F l' h' := by
  intro Q A w hfr hS hend
  unfold drawOk at hchk
  simp only [Bool.and_eq_true] at hchk
  obtain ⟨⟨⟨⟨c1, c2⟩, c3⟩, c4⟩, c5⟩ := hchk
  refine wp_region_ghost hm c1 c2 (by rw [hfr.size]; exact c3) c4 (vals := fun ρ i => vals (mask D i ρ) i) (effs := fun ρ i => effs (mask D i ρ) i) (fact := fun _ _ _ => True) ?_ ?_ keep c5 (by rw [hfr.size]; exact hfr) hS ?_
  · intro j _ ρ ρ' hh
    exact ⟨congrArg (fun z => vals z j) (mask_congr hh), congrArg (fun z => effs z j) (mask_congr hh), rfl⟩
  · intro i hi
    exact AllN.get hobl i (by omega)
  · intro ρ A' w' hA hS'
    rw [hfin, hfr.size] at hA
    have hS2 : St w0 (finH ops.size h (fun i => effs (mask D i ρ) i)) _ w' := hS'
    rw [hfh] at hS2
    exact hend ρ A' w' hA (hS2.weaken (fun _ h => h.1))
theorem reg_seq (D : List Nat) (keep : List Nat) (m : Nat) (vals : (Nat → Orc) → Nat → Value) (effs : (Nat → Orc) → Nat → Eff) (hsz : ops.size = m) (hchk : seqOk ops D n l keep = true)
    (hfin : ∀ ρ, finL ops l (fun i => vals (mask D i ρ) i) keep = l' ρ) (hfh : ∀ ρ, finH ops.size h (fun i => effs (mask D i ρ) i) = h' ρ)
    (hobl : AllN m (Obl P ops D l w0 h F (fun ρ i => vals (mask D i ρ) i) (fun ρ i => effs (mask D i ρ) i) (fun _ _ _ => True))) : Reg P id ops false n l w0 h F l' h' := by
  intro Q A w hfr hS hend
  unfold seqOk at hchk
  simp only [Bool.and_eq_true] at hchk
  obtain ⟨⟨⟨c1, c3⟩, c4⟩, c5⟩ := hchk
  refine wp_region_ghost' c1 (by rw [hfr.size]; exact c3) c4 (vals := fun ρ i => vals (mask D i ρ) i) (effs := fun ρ i => effs (mask D i ρ) i) (fact := fun _ _ _ => True) ?_ ?_ keep c5 (by rw [hfr.size]; exact hfr) hS ?_
  · intro j _ ρ ρ' hh
    exact ⟨congrArg (fun z => vals z j) (mask_congr hh), congrArg (fun z => effs z j) (mask_congr hh), rfl⟩
  · intro i hi
    exact AllN.get hobl i (by omega)
  · intro ρ A' w' hA hS'
    rw [hfin, hfr.size] at hA
    have hS2 : St w0 (finH ops.size h (fun i => effs (mask D i ρ) i)) _ w' := hS'
    rw [hfh] at hS2
    exact hend ρ A' w' hA (hS2.weaken (fun _ h => h.1))
end

/-- Code, from what is known. -/
def Ok (P : Program) (c : Code) (Q : Exit → Act → World → Prop) (n : Nat) (l : List (Nat × Value)) (w0 : World) (h : List (Nat × Obj)) (F : World → Prop) : Prop :=
  ∀ A w, Fr n l A → St w0 h F w → c.wp P Q A w
/-- What is known suffices for Q. -/
def Meets (Q : Act → World → Prop) (n : Nat) (l : List (Nat × Value)) (w0 : World) (h : List (Nat × Obj)) (F : World → Prop) : Prop := ∀ A w, Fr n l A → St w0 h F w → Q A w

section
variable {P : Program} {Q : Exit → Act → World → Prop} {n : Nat} {l : List (Nat × Value)} {w0 : World} {h : List (Nat × Obj)} {F : World → Prop}
theorem ok_seq {x y : Code} (hx : Ok P x (Exit.then (y.wp P Q) Q) n l w0 h F) : Ok P (.seq x y) Q n l w0 h F := fun A w hf hs => wp_seq (hx A w hf hs)
theorem ok_reg {id : Nat} {ops : Array Oper} {d : Bool} {l' : (Nat → Orc) → List (Nat × Value)} {h' : (Nat → Orc) → List (Nat × Obj)} (hr : Reg P id ops d n l w0 h F l' h') (hk : ∀ ρ, Meets (Q .normal) n (l' ρ) w0 (h' ρ) F) :
    Ok P (.region id ops d) Q n l w0 h F := fun A w hf hs => hr Q A w hf hs (fun ρ A' w' hf' hs' => hk ρ A' w' hf' hs')
theorem ok_seq_reg {id : Nat} {ops : Array Oper} {d : Bool} {y : Code} {l' : (Nat → Orc) → List (Nat × Value)} {h' : (Nat → Orc) → List (Nat × Obj)} (hr : Reg P id ops d n l w0 h F l' h') (hk : ∀ ρ, Ok P y Q n (l' ρ) w0 (h' ρ) F) :
    Ok P (.seq (.region id ops d) y) Q n l w0 h F := ok_seq (ok_reg hr hk)
theorem Fr.eval {A : Act} {t : Nat} {v : Value} (hf : Fr n l A) (hl : l.lookup t = some v) : A.eval (.tmp t) = v := by
  show A.tmps.getD t undef = v
  rw [Array.getD_eq_getD_getElem?, hf.slot t v hl]; rfl
theorem ok_cond {t : Nat} {b : Bool} {x y : Code} (hl : l.lookup t = some (.bool b)) (hx : b = true → Ok P x Q n l w0 h F) (hy : b = false → Ok P y Q n l w0 h F) : Ok P (.cond (.tmp t) x y) Q n l w0 h F :=
  fun A w hf hs => wp_cond_split (hf.eval hl) (fun e => hx e A w hf hs) (fun e => hy e A w hf hs)
theorem ok_yes {t : Nat} {x y : Code} (hl : l.lookup t = some (.bool true)) (hx : Ok P x Q n l w0 h F) : Ok P (.cond (.tmp t) x y) Q n l w0 h F :=
  fun A w hf hs => wp_cond_true (hf.eval hl) (hx A w hf hs)
theorem ok_no {t : Nat} {x y : Code} (hl : l.lookup t = some (.bool false)) (hy : Ok P y Q n l w0 h F) : Ok P (.cond (.tmp t) x y) Q n l w0 h F :=
  fun A w hf hs => wp_cond_false (hf.eval hl) (hy A w hf hs)
theorem ok_skip (hk : Meets (Q .normal) n l w0 h F) : Ok P .skip Q n l w0 h F := fun A w hf hs => wp_skip (hk A w hf hs)
theorem ok_label {i : Nat} (hk : Meets (Q .normal) n l w0 h F) : Ok P (.label i) Q n l w0 h F := fun A w hf hs => wp_label (hk A w hf hs)
theorem ok_exit {i : Nat} (hk : Meets (Q (.exit i)) n l w0 h F) : Ok P (.exit i) Q n l w0 h F := fun A w hf hs => wp_exit (hk A w hf hs)
theorem ok_ret (hk : Meets (Q .ret) n l w0 h F) : Ok P .ret Q n l w0 h F := fun A w hf hs => wp_ret (hk A w hf hs)
theorem ok_block {i : Nat} {c : Code} (hc : Ok P c (Exit.inBlock i Q) n l w0 h F) : Ok P (.block i c) Q n l w0 h F := fun A w hf hs => wp_block (hc A w hf hs)
theorem ok_scope {c : Code} (hc : Ok P c (Exit.noGoto Q) n l w0 h F) : Ok P (.scope c) Q n l w0 h F := fun A w hf hs => wp_scope_straight (hc A w hf hs)
theorem St.sub {w : World} {h' : List (Nat × Obj)} (hS : St w0 h F w) (hsub : List.Sublist h' h) : St w0 h' F w :=
  ⟨hS.below, fun x hx => hS.at_ x (hsub.subset hx), hS.nodup.sublist (hsub.map _), by
    obtain ⟨S, h1, h2⟩ := hS.facts
    exact ⟨S, fun b hb => ⟨(h1 b hb).1, fun hm => (h1 b hb).2 ((hsub.map _).subset hm)⟩, h2⟩⟩
theorem Fr.sub {A : Act} (hf : Fr n l A) (l' : List (Nat × Value)) (hl : ∀ x ∈ l', l.lookup x.1 = some x.2) : Fr n l' A :=
  ⟨hf.defers, hf.size, fun t v hv => hf.slot t v (hl (t, v) (mem_of_lookupV hv))⟩
theorem ok_forget {c : Code} (l' : List (Nat × Value)) (h' : List (Nat × Obj)) (hl : ∀ x ∈ l', l.lookup x.1 = some x.2) (hh : List.Sublist h' h) (hc : Ok P c Q n l' w0 h' F) : Ok P c Q n l w0 h F :=
  fun A w hf hs => hc A w (hf.sub l' hl) (hs.sub hh)

/-! ### the end -/
def resList (l : List (Nat × Value)) : List ResultVar → Sem (List Value)
  | [] => pure []
  | .tmp t :: r => do
    let vs ← resList l r
    pure ((l.lookup t).getD undef :: vs)
  | .cell a t :: r => do
    let v ← (do loadVar t (← asAddr ((l.lookup a).getD undef)))
    let vs ← resList l r
    pure (v :: vs)
def resL (rs : Array ResultVar) (l : List (Nat × Value)) : Sem Value := do
  let vs ← resList l rs.toList
  pure (match vs with | [v] => v | vs => .tuple vs.toArray)
def resSlots (rs : Array ResultVar) (l : List (Nat × Value)) : Bool := rs.toList.all fun | .tmp t => (l.lookup t).isSome | .cell a _ => (l.lookup a).isSome
theorem Fr.getD {A : Act} {t : Nat} (hf : Fr n l A) (hl : (l.lookup t).isSome = true) : A.tmps.getD t undef = (l.lookup t).getD undef := by
  obtain ⟨v, hv⟩ := Option.isSome_iff_exists.1 hl
  rw [Array.getD_eq_getD_getElem?, hf.slot t v hv, hv]
theorem resL_eq {fn : Func} {A : Act} (hf : Fr n l A) (hr : resSlots fn.results l = true) : results fn A.tmps = resL fn.results l := by
  unfold results resL
  unfold resSlots at hr
  rw [Array.mapM_eq_mapM_toList]
  generalize fn.results.toList = rs at *
  have key : ∀ rs : List ResultVar, (rs.all fun | .tmp t => (l.lookup t).isSome | .cell a _ => (l.lookup a).isSome) = true →
      (rs.mapM fun | .tmp t => (pure (A.tmps.getD t undef) : Sem Value) | .cell a t => do loadVar t (← asAddr (A.tmps.getD a undef))) = resList l rs := by
    intro rs
    induction rs with
    | nil => intro _; rfl
    | cons x rs ih =>
      intro hall
      rw [List.all_cons, Bool.and_eq_true] at hall
      rw [List.mapM_cons, ih hall.2]
      cases x with
      | tmp t => simp only [resList, hf.getD hall.1, pure_bind]
      | cell a t => simp only [resList, hf.getD hall.1]
  have k := key rs hr
  refine (congrArg (fun z : Sem (List Value) => Functor.map List.toArray z >>= fun vs : Array Value => (pure (if h : vs.size = 1 then vs[0] else .tuple vs) : Sem Value)) k).trans ?_
  rw [map_eq_pure_bind, bind_assoc]
  congr 1
  funext vs
  rw [pure_bind]
  rcases vs with _ | ⟨v, _ | ⟨u, vs⟩⟩
  · simp
  · simp
  · simp
theorem meets_ret {fn : Func} {R : Ending → World → Prop} {v : Value} (ps : List Nat) (es : List (Nat × Nat)) (hr : resSlots fn.results l = true) (hg : grd P (resL fn.results l) ps h = some (v, es)) (he : Eqs es)
    (hR : ∀ w, St w0 h F w → R (.returned v) w) : Meets (bodyPost P fn R .ret) n l w0 h F := by
  intro A w hf hs
  refine ⟨hf.defers, v, ?_, hR w hs⟩
  rw [resL_eq hf hr]
  exact grd_sound _ ps h w v es (fun x hx => (hs.at_ x hx).2) hg he
theorem Calls.of_ok {f : FuncId} {fn : Func} {c : Code} {args : Array Value} {w : World} {R : Ending → World → Prop} (hf : P.funcs[f]? = some fn) (hb : fn.body = some c) (hn : fn.ntmps = n) (hl : (args.toList.zipIdx.map fun x => (x.2, x.1)) = l) (ha : args.size ≤ n)
    (hF : Pers (fun _ => False) F w) (h : Ok P c (bodyPost P fn R) n l w [] F) : Calls P f args w R := by
  refine calls_of_wp hf hb (h _ w ?_ ?_)
  · refine ⟨rfl, by simp [hn]; omega, fun t v hv => ?_⟩
    have hm := mem_of_lookupV hv
    rw [← hl] at hm
    obtain ⟨⟨u, k⟩, hx, he⟩ := List.mem_map.1 hm
    simp only [Prod.mk.injEq] at he
    obtain ⟨rfl, rfl⟩ := he
    have h1 := List.mem_zipIdx_iff_getElem?.1 hx
    have h1' : args[k]? = some u := by simpa using h1
    have hlt : k < args.size := (Array.getElem?_eq_some_iff.1 h1').1
    show (args ++ Array.replicate (fn.ntmps - args.size) undef)[k]? = some u
    rw [Array.getElem?_append_left hlt, h1']
  · refine ⟨Below.refl _ _, by simp, by simp, ?_⟩
    obtain ⟨S, h1, h2⟩ := hF
    exact ⟨S, fun b hb => ⟨(h1 b hb).1, by simp⟩, h2⟩
end
end Go.Proofs.YtoibhbmcplhiaaaDoor
