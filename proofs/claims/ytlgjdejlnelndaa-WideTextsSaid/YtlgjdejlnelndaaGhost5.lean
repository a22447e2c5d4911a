/-
  Operations of a region, one lemma a kind, each with one equation for the kernel.
-/
import Derived.Test.YtlgjdejlnelndaaGhost4
import Derived.Deep.LoopGhost
namespace Go.Proofs.Ytlgjdejlnelndaa
open Go Go.RowKit

def findReg (id : Nat) : Code → Option (Array Oper)
  | .region i ops _ => if i == id then some ops else none
  | .seq a b => match findReg id a with
    | some o => some o
    | none => findReg id b
  | .cond _ a b => match findReg id a with
    | some o => some o
    | none => findReg id b
  | .block _ c => findReg id c
  | .loop c => findReg id c
  | .scope c => findReg id c
  | _ => none
def regOps (f : Func) (id : Nat) : Array Oper := ((f.body.bind (findReg id)).getD #[])
def opAt (ops : Array Oper) (i : Nat) : Oper := (ops[i]?).getD default
theorem opAt_some {ops : Array Oper} {i : Nat} (h : (ops[i]?).isSome = true) : ops[i]? = some (opAt ops i) := by
  unfold opAt
  obtain ⟨o, ho⟩ := Option.isSome_iff_exists.1 h
  rw [ho]; rfl
def dup (l : List Nat) : List (Nat × Nat) := l.map fun g => (g, g)
theorem eqs_dup : ∀ l, Eqs (dup l)
  | [] => trivial
  | _ :: l => ⟨rfl, eqs_dup l⟩

section
variable {P : Program} {ops : Array Oper} {D : List Nat} {l : List (Nat × Value)} {w0 : World} {h : List (Nat × Obj)} {F0 : World → Prop}
variable {vals : (Nat → Orc) → Nat → Value} {effs : (Nat → Orc) → Nat → Eff}

def runChk (P : Program) (ops : Array Oper) (D : List Nat) (l : List (Nat × Value)) (h : List (Nat × Obj)) (V : Nat → Value) (E : Nat → Eff) (E' : Eff) (i : Nat) (ns ps z : List Nat) : Option (Option Value × List (Nat × Obj) × List (Nat × Nat)) :=
  if (ops[i]?).isSome && wantV V (opAt ops i) && namesOk ops D h E i ns && putsIn ns E' then
    (grun P (execOp (evalAt ops D l V i) (opAt ops i)) ps (known ops D h E i ns) z).map fun r => (nextV r.1, r.2.1, r.2.2)
  else none
/-- An operation that the kernel carries out itself. -/
theorem o_run (i : Nat) (ns ps : List Nat) (gs : (Nat → Orc) → List Nat → List Nat)
    (hc : ∀ ρ z, runChk P ops D l h (vals ρ) (effs ρ) (effs (upd ρ i { n := z }) i) i ns ps z = some (some (vals (upd ρ i { n := z }) i), applyE ns (known ops D h (effs ρ) i ns) (effs (upd ρ i { n := z }) i), dup (gs ρ z))) :
    Obl P ops D l w0 h F0 vals effs (fun _ _ _ => True) i := by
  have key : ∀ ρ z, ((ops[i]?).isSome = true ∧ wantV (vals ρ) (opAt ops i) = true ∧ namesOk ops D h (effs ρ) i ns = true ∧ putsIn ns (effs (upd ρ i { n := z }) i) = true) ∧
      ∃ x, nextV x = some (vals (upd ρ i { n := z }) i) ∧ grun P (execOp (evalAt ops D l (vals ρ) i) (opAt ops i)) ps (known ops D h (effs ρ) i ns) z = some (x, applyE ns (known ops D h (effs ρ) i ns) (effs (upd ρ i { n := z }) i), dup (gs ρ z)) := by
    intro ρ z
    have h1 := hc ρ z
    unfold runChk at h1
    split at h1
    · rename_i hb
      simp only [Bool.and_eq_true] at hb
      refine ⟨⟨hb.1.1.1, hb.1.1.2, hb.1.2, hb.2⟩, ?_⟩
      rw [Option.map_eq_some_iff] at h1
      obtain ⟨⟨x, K, es⟩, h2, h3⟩ := h1
      simp only [Prod.mk.injEq] at h3
      obtain ⟨h3, rfl, rfl⟩ := h3
      exact ⟨x, h3, h2⟩
    · exact absurd h1 (by simp)
  have k0 := key (fun _ => {}) []
  refine obl_run (opAt_some k0.1.1) ns ps (fun ρ z => dup (gs ρ z)) (fun ρ z => (key ρ z).2.choose) (fun ρ => (key ρ []).1.2.1) (fun ρ => (key ρ []).1.2.2.1) (fun ρ z => (key ρ z).2.choose_spec.2) (fun ρ z => (key ρ z).2.choose_spec.1) (fun ρ z => (key ρ z).1.2.2.2) (fun ρ z => eqs_dup _) (fun _ _ _ => trivial)

def skipChk (ops : Array Oper) (V : Nat → Value) (v : Value) (E : Eff) (i : Nat) : Option (Value × Eff) :=
  if (ops[i]?).isSome && !wantV V (opAt ops i) then some (v, E) else none
/-- An operation that does not run. -/
theorem o_skip (i : Nat) (hc : ∀ ρ, skipChk ops (vals ρ) (vals (upd ρ i {}) i) (effs (upd ρ i {}) i) i = some (undef, {})) : Obl P ops D l w0 h F0 vals effs (fun _ _ _ => True) i := by
  have key : ∀ ρ, ((ops[i]?).isSome = true ∧ wantV (vals ρ) (opAt ops i) = false) ∧ vals (upd ρ i {}) i = undef ∧ effs (upd ρ i {}) i = {} := by
    intro ρ
    have h1 := hc ρ
    unfold skipChk at h1
    split at h1
    · rename_i hb
      simp only [Bool.and_eq_true, Bool.not_eq_true'] at hb
      simp only [Option.some.injEq, Prod.mk.injEq] at h1
      exact ⟨hb, h1⟩
    · exact absurd h1 (by simp)
  exact obl_skip (opAt_some (key (fun _ => {})).1.1) (fun ρ => (key ρ).1.2) (fun ρ => (key ρ).2.1) (fun ρ => (key ρ).2.2) (fun _ _ => trivial)

def callChk (P : Program) (ops : Array Oper) (D : List Nat) (l : List (Nat × Value)) (V : Nat → Value) (v : Value) (E' : Eff) (i : Nat) (z : List Nat) : Option (Next × List (Nat × Obj) × List (Nat × Nat) × Value × Eff) :=
  if (ops[i]?).isSome && wantV V (opAt ops i) then
    (grun P (execOp (evalAt ops D l V i) (opAt ops i)) [] [] z).map fun r => (r.1, r.2.1, r.2.2, v, E')
  else none
/-- A call by its contract. -/
theorem o_call (i : Nat) (f : FuncId) (args : (Nat → Orc) → Array Value) (v : (Nat → Orc) → Value)
    (hc : ∀ ρ z, callChk P ops D l (vals ρ) (vals (upd ρ i {}) i) (effs (upd ρ i {}) i) i z = some (.enter f (args ρ), [], [], v ρ, {}))
    (hf : ∀ ρ w, Calls P f (args ρ) w (fun e w' => e = .returned (v ρ) ∧ Below w.heap.size w w')) : Obl P ops D l w0 h F0 vals effs (fun _ _ _ => True) i := by
  have key : ∀ ρ z, ((ops[i]?).isSome = true ∧ wantV (vals ρ) (opAt ops i) = true) ∧ vals (upd ρ i {}) i = v ρ ∧ effs (upd ρ i {}) i = {} ∧ grun P (execOp (evalAt ops D l (vals ρ) i) (opAt ops i)) [] [] z = some (.enter f (args ρ), [], []) := by
    intro ρ z
    have h1 := hc ρ z
    unfold callChk at h1
    split at h1
    · rename_i hb
      simp only [Bool.and_eq_true] at hb
      rw [Option.map_eq_some_iff] at h1
      obtain ⟨⟨x, K, es⟩, h2, h3⟩ := h1
      simp only [Prod.mk.injEq] at h3
      obtain ⟨rfl, rfl, rfl, h4, h5⟩ := h3
      exact ⟨hb, h4, h5, h2⟩
    · exact absurd h1 (by simp)
  refine obl_call (opAt_some (key (fun _ => {}) []).1.1) f args (fun ρ => (key ρ []).1.2) (fun ρ z => (key ρ z).2.2.2) (fun ρ w => ?_) (fun ρ => (key ρ []).2.2.1) (fun _ _ => trivial)
  rw [(key ρ []).2.1]
  exact hf ρ w

def binChk (ops : Array Oper) (D : List Nat) (l : List (Nat × Value)) (V : Nat → Value) (v : Value) (E' : Eff) (i : Nat) : Option (BinOp × TypeId × Value × Value × Value × Eff) :=
  if (ops[i]?).isSome && wantV V (opAt ops i) then
    match (opAt ops i).op with
    | .binOp op t x y _ => some (op, t, evalAt ops D l V i x, evalAt ops D l V i y, v, E')
    | _ => none
  else none
/-- An operator whose run is known. -/
theorem o_bin (i : Nat) (op : BinOp) (t : TypeId) (a b v : (Nat → Orc) → Value)
    (hc : ∀ ρ, binChk ops D l (vals ρ) (vals (upd ρ i {}) i) (effs (upd ρ i {}) i) i = some (op, t, a ρ, b ρ, v ρ, {}))
    (hg : ∀ ρ x y w, (eqGuard op t x y (a ρ) (b ρ)).run P w = .ok () w)
    (hf : ∀ ρ w, (binOp op t (a ρ) (b ρ)).run P w = .ok (v ρ) w) : Obl P ops D l w0 h F0 vals effs (fun _ _ _ => True) i := by
  have key : ∀ ρ, ((ops[i]?).isSome = true ∧ wantV (vals ρ) (opAt ops i) = true) ∧ ∃ x y t', (opAt ops i).op = .binOp op t x y t' ∧ evalAt ops D l (vals ρ) i x = a ρ ∧ evalAt ops D l (vals ρ) i y = b ρ ∧ vals (upd ρ i {}) i = v ρ ∧ effs (upd ρ i {}) i = {} := by
    intro ρ
    have h1 := hc ρ
    unfold binChk at h1
    split at h1
    · rename_i hb
      simp only [Bool.and_eq_true] at hb
      split at h1
      · rename_i op' t' x y t'' ho
        simp only [Option.some.injEq, Prod.mk.injEq] at h1
        obtain ⟨rfl, rfl, h2, h3, h4, h5⟩ := h1
        exact ⟨hb, x, y, t'', ho, h2, h3, h4, h5⟩
      · exact absurd h1 (by simp)
    · exact absurd h1 (by simp)
  refine obl_pure (opAt_some (key (fun _ => {})).1.1) (fun ρ => (key ρ).1.2) (fun ρ w => ?_) (fun ρ => by obtain ⟨_, x, y, t', _, _, _, _, h5⟩ := key ρ; exact h5) (fun _ _ => trivial)
  obtain ⟨_, x, y, t', h1, h2, h3, h4, _⟩ := key ρ
  rw [h4]
  unfold execOp
  rw [h1]
  simp only [h2, h3]
  simp only [Sem.run_bind, hg ρ x y w, Result.andThen_ok, hf ρ w, Sem.run_pure]

/-- An operation that the kernel carries out, its value written otherwise. -/
theorem o_as (i : Nat) (v v' : (Nat → Orc) → Value)
    (hc : ∀ ρ z, callChk P ops D l (vals ρ) (vals (upd ρ i {}) i) (effs (upd ρ i {}) i) i z = some (.value (v ρ), [], [], v' ρ, {})) (he : ∀ ρ, v ρ = v' ρ) : Obl P ops D l w0 h F0 vals effs (fun _ _ _ => True) i := by
  have key : ∀ ρ z, ((ops[i]?).isSome = true ∧ wantV (vals ρ) (opAt ops i) = true) ∧ vals (upd ρ i {}) i = v' ρ ∧ effs (upd ρ i {}) i = {} ∧ grun P (execOp (evalAt ops D l (vals ρ) i) (opAt ops i)) [] [] z = some (.value (v ρ), [], []) := by
    intro ρ z
    have h1 := hc ρ z
    unfold callChk at h1
    split at h1
    · rename_i hb
      simp only [Bool.and_eq_true] at hb
      rw [Option.map_eq_some_iff] at h1
      obtain ⟨⟨x, K, es⟩, h2, h3⟩ := h1
      simp only [Prod.mk.injEq] at h3
      obtain ⟨rfl, rfl, rfl, h4, h5⟩ := h3
      exact ⟨hb, h4, h5, h2⟩
    · exact absurd h1 (by simp)
  refine obl_grow (opAt_some (key (fun _ => {}) []).1.1) (fun ρ => (key ρ []).1.2) (fun ρ w _ => ?_) (fun ρ => (key ρ []).2.2.1) (fun _ _ => trivial)
  obtain ⟨w', h1, _, _, h4, _, _⟩ := grun_sound (P := P) (execOp (evalAt ops D l (vals ρ) i) (opAt ops i)) [] [] w _ _ _ (by intro y hy; simp at hy) (by simp) ((key ρ _).2.2.2) trivial
  unfold opv
  rw [h1]
  exact ⟨by rw [(key ρ []).2.1]; exact he ρ, ⟨h4.os, h4.tape, h4.output, h4.size, fun k hk => h4.block k hk (by simp)⟩⟩
end

section
variable {P : Program} {Q : Exit → Act → World → Prop} {X : Act → World → Prop} {n : Nat} {l : List (Nat × Value)} {w0 : World} {h : List (Nat × Obj)} {F : World → Prop}
theorem ok_seq_r {id : Nat} {ops ops' : Array Oper} {d : Bool} {y : Code} {l' : (Nat → Orc) → List (Nat × Value)} {h' : (Nat → Orc) → List (Nat × Obj)} (e : ops = ops') (hr : Reg P id ops' d n l w0 h F l' h') (hk : ∀ ρ, Ok P y Q n (l' ρ) w0 (h' ρ) F) :
    Ok P (.seq (.region id ops d) y) Q n l w0 h F := by subst e; exact ok_seq_reg hr hk
theorem ok_r {id : Nat} {ops ops' : Array Oper} {d : Bool} {l' : (Nat → Orc) → List (Nat × Value)} {h' : (Nat → Orc) → List (Nat × Obj)} (e : ops = ops') (hr : Reg P id ops' d n l w0 h F l' h') (hk : ∀ ρ, Meets (Q .normal) n (l' ρ) w0 (h' ρ) F) :
    Ok P (.region id ops d) Q n l w0 h F := by subst e; exact ok_reg hr hk
theorem mt_then {y : Code} (hk : Ok P y Q n l w0 h F) : Meets (Exit.then (y.wp P Q) Q .normal) n l w0 h F := hk
theorem mt_then_r (hk : Meets (Q .ret) n l w0 h F) : Meets (Exit.then X Q .ret) n l w0 h F := hk
theorem mt_then_e {i : Nat} (hk : Meets (Q (.exit i)) n l w0 h F) : Meets (Exit.then X Q (.exit i)) n l w0 h F := hk
theorem mt_block_n {i : Nat} (hk : Meets (Q .normal) n l w0 h F) : Meets (Exit.inBlock i Q .normal) n l w0 h F := hk
theorem mt_block_r {i : Nat} (hk : Meets (Q .ret) n l w0 h F) : Meets (Exit.inBlock i Q .ret) n l w0 h F := hk
theorem mt_block_h {i : Nat} (hk : Meets (Q .normal) n l w0 h F) : Meets (Exit.inBlock i Q (.exit i)) n l w0 h F := by
  intro A w hf hs
  show (if i = i then _ else _)
  rw [if_pos rfl]; exact hk A w hf hs
theorem mt_block_p {i j : Nat} (hne : j ≠ i) (hk : Meets (Q (.exit j)) n l w0 h F) : Meets (Exit.inBlock i Q (.exit j)) n l w0 h F := by
  intro A w hf hs
  show (if j = i then _ else _)
  rw [if_neg hne]; exact hk A w hf hs
theorem mt_scope_n (hk : Meets (Q .normal) n l w0 h F) : Meets (Exit.noGoto Q .normal) n l w0 h F := hk
theorem mt_scope_r (hk : Meets (Q .ret) n l w0 h F) : Meets (Exit.noGoto Q .ret) n l w0 h F := hk
theorem mt_scope_e {i : Nat} (hk : Meets (Q (.exit i)) n l w0 h F) : Meets (Exit.noGoto Q (.exit i)) n l w0 h F := hk
theorem mt_end {fn : Func} {R : Ending → World → Prop} (hk : Meets (bodyPost P fn R .ret) n l w0 h F) : Meets (bodyPost P fn R .normal) n l w0 h F := hk
/-- The slots of l', as l has them. -/
def Subl (l' l : List (Nat × Value)) : Prop := l'.map (fun x => l.lookup x.1) = l'.map (fun x => some x.2)
theorem Subl.get {l' l : List (Nat × Value)} (hs : Subl l' l) : ∀ x ∈ l', l.lookup x.1 = some x.2 := by
  unfold Subl at hs
  intro x hx
  obtain ⟨k, hk⟩ := List.mem_iff_getElem?.1 hx
  have h1 := congrArg (fun z => z[k]?) hs
  simp only [List.getElem?_map, hk, Option.map_some, Option.some.injEq] at h1
  exact h1
theorem ok_drop {c : Code} (l' : List (Nat × Value)) (h' : List (Nat × Obj)) (hl : l'.map (fun x => l.lookup x.1) = l'.map (fun x => some x.2)) (hh : List.Sublist h' h) (hc : Ok P c Q n l' w0 h' F) : Ok P c Q n l w0 h F := ok_forget l' h' (Subl.get hl) hh hc
/-- A loop, round by round. -/
def OkR (P : Program) (c : Code) (Q : Exit → Act → World → Prop) (k n : Nat) (l : List (Nat × Value)) (w0 : World) (h : List (Nat × Obj)) (F : World → Prop) : Prop := ∀ A w, Fr n l A → St w0 h F w → Code.rounds P c Q k A w
theorem ok_rounds {c : Code} (k : Nat) (hc : OkR P c Q k n l w0 h F) : Ok P (.loop c) Q n l w0 h F := fun A w hf hs => wp_loop_rounds k (hc A w hf hs)
theorem okr_succ {c : Code} {k : Nat} (hc : Ok P c (Exit.then (Code.rounds P c Q k) Q) n l w0 h F) : OkR P c Q (k + 1) n l w0 h F := fun A w hf hs => hc A w hf hs
theorem mt_rounds {c : Code} {k : Nat} (hc : OkR P c Q k n l w0 h F) : Meets (Exit.then (Code.rounds P c Q k) Q .normal) n l w0 h F := hc
/-- What a round hands to the next. -/
def Next1 {σ : Type} (n : Nat) (w0 : World) (F : World → Prop) (L : σ → List (Nat × Value)) (H : σ → List (Nat × Obj)) (m : σ → Nat) (R : σ → Prop) (k : Nat) (A : Act) (w : World) : Prop := ∃ s, m s < k ∧ R s ∧ Fr n (L s) A ∧ St w0 (H s) F w
/-- A loop over a state s: the slots L s, the blocks H s; R holds at each round's head, m goes down. -/
theorem ok_loop {σ : Type} {c : Code} (L : σ → List (Nat × Value)) (H : σ → List (Nat × Obj)) (m : σ → Nat) (R : σ → Prop) (s0 : σ) (hR : R s0) (hl : (L s0).map (fun x => l.lookup x.1) = (L s0).map (fun x => some x.2)) (hh : List.Sublist (H s0) h)
    (round : ∀ s, R s → Ok P c (Exit.then (Next1 n w0 F L H m R (m s)) Q) n (L s) w0 (H s) F) : Ok P (.loop c) Q n l w0 h F := by
  intro A w hf hs
  refine wp_loop_ghost (fun k A w => ∃ s, m s = k ∧ R s ∧ Fr n (L s) A ∧ St w0 (H s) F w) (m s0) ⟨s0, rfl, hR, hf.sub _ (Subl.get hl), hs.sub hh⟩ ?_
  rintro k A w ⟨s, rfl, h1, h2, h3⟩
  refine Code.wp_mono ?_ (round s h1 A w h2 h3)
  intro e A' w' hq
  cases e with
  | normal =>
    obtain ⟨s', q1, q2, q3, q4⟩ := hq
    exact ⟨m s', q1, s', rfl, q2, q3, q4⟩
  | _ => exact hq
theorem mt_round {σ : Type} {L : σ → List (Nat × Value)} {H : σ → List (Nat × Obj)} {m : σ → Nat} {R : σ → Prop} {k : Nat} (s : σ) (hm : m s < k) (hR : R s) (hl : (L s).map (fun x => l.lookup x.1) = (L s).map (fun x => some x.2)) (hh : List.Sublist (H s) h) :
    Meets (Exit.then (Next1 n w0 F L H m R k) Q .normal) n l w0 h F := fun _ _ hf hs => ⟨s, hm, hR, hf.sub _ (Subl.get hl), hs.sub hh⟩
end
/-- The address of a block. -/
abbrev pt (g : Nat) : Value := .pointer (some ⟨g, 0, none⟩)
end Go.Proofs.Ytlgjdejlnelndaa
