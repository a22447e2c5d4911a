/-
  Operations at an index that is not settled: addresses, loads, stores; calls of functions outside the program's text.
-/
import Derived.Test.YtlgjdejlnelndaaGhost5
namespace Go.Proofs.Ytlgjdejlnelndaa
open Go Go.RowKit

section
variable {P : Program} {ops : Array Oper} {D : List Nat} {l : List (Nat × Value)} {w0 : World} {h : List (Nat × Obj)} {F0 : World → Prop}
variable {vals : (Nat → Orc) → Nat → Value} {effs : (Nat → Orc) → Nat → Eff}

def semChk (ops : Array Oper) (V : Nat → Value) (v : Value) (E' : Eff) (i : Nat) : Option (Value × Eff) :=
  if (ops[i]?).isSome && wantV V (opAt ops i) then some (v, E') else none
theorem semChk_get {v' : Value} {E : Eff} {i : Nat} {V : Nat → Value} {v : Value} {E' : Eff} (h1 : semChk ops V v E' i = some (v', E)) : ((ops[i]?).isSome = true ∧ wantV V (opAt ops i) = true) ∧ v = v' ∧ E' = E := by
  unfold semChk at h1
  split at h1
  · rename_i hb
    simp only [Bool.and_eq_true] at hb
    simp only [Option.some.injEq, Prod.mk.injEq] at h1
    exact ⟨hb, h1⟩
  · exact absurd h1 (by simp)
/-- An operation that is another run. -/
theorem o_sem (i : Nat) (s : (Nat → Orc) → Sem Next) (v : (Nat → Orc) → Value) (hc : ∀ ρ, semChk ops (vals ρ) (vals (upd ρ i {}) i) (effs (upd ρ i {}) i) i = some (v ρ, {}))
    (hx : ∀ ρ, execOp (evalAt ops D l (vals ρ) i) (opAt ops i) = s ρ) (hr : ∀ ρ w, (s ρ).run P w = .ok (.value (v ρ)) w) : Obl P ops D l w0 h F0 vals effs (fun _ _ _ => True) i := by
  refine obl_pure (opAt_some (semChk_get (hc (fun _ => {}))).1.1) (fun ρ => (semChk_get (hc ρ)).1.2) (fun ρ w => ?_) (fun ρ => (semChk_get (hc ρ)).2.2) (fun _ _ => trivial)
  rw [(semChk_get (hc ρ)).2.1, hx ρ]
  exact hr ρ w

theorem run_idx_arr {t elem : TypeId} {len s g off : Nat} {k : IntKind} {n : Int} (hu : P.underlying t = some (.array len elem)) (hs : ∀ w, (sizeOf elem).run P w = .ok s w) (h0 : 0 ≤ n) (h1 : n < len) (w : World) :
    (do pure (Next.value (← Instr.indexAt t (.pointer (some ⟨g, off, none⟩)) (.int k n))) : Sem Next).run P w = .ok (.value (.pointer (some ⟨g, off + n.toNat * s, none⟩))) w := by
  have hadd : (Addr.add ⟨g, off, none⟩ (n.toNat * s)) = ⟨g, off + n.toNat * s, none⟩ := by
    unfold Addr.add
    split
    · rename_i e; rw [e, Nat.add_zero]
    · rfl
  simp [Instr.indexAt, asIntOf, Instr.sureAddr, Sem.run_bind, run_underlying hu, h0, h1, hs, hadd]
theorem run_idx_slice {t elem : TypeId} {len cap s g off : Nat} {k : IntKind} {n : Int} (hu : P.underlying t = some (.slice elem)) (hs : ∀ w, (sizeOf elem).run P w = .ok s w) (h0 : 0 ≤ n) (h1 : n < len) (w : World) :
    (do pure (Next.value (← Instr.indexAt t (.slice (some ⟨g, off, none⟩) len cap) (.int k n))) : Sem Next).run P w = .ok (.value (.pointer (some ⟨g, off + n.toNat * s, none⟩))) w := by
  have hadd : (Addr.add ⟨g, off, none⟩ (n.toNat * s)) = ⟨g, off + n.toNat * s, none⟩ := by
    unfold Addr.add
    split
    · rename_i e; rw [e, Nat.add_zero]
    · rfl
  simp [Instr.indexAt, asIntOf, Sem.run_bind, run_underlying hu, h0, h1, hs, hadd]

theorem run_idx_nat {t elem : TypeId} {len g : Nat} {k : IntKind} {n : Int} {i : Nat} (hu : P.underlying t = some (.array len elem)) (hs : ∀ w, (sizeOf elem).run P w = .ok 1 w) (hi : n = (i : Int) ∧ i < len) (w : World) :
    (do pure (Next.value (← Instr.indexAt t (.pointer (some ⟨g, 0, none⟩)) (.int k n))) : Sem Next).run P w = .ok (.value (.pointer (some ⟨g, i, none⟩))) w := by
  obtain ⟨rfl, hi⟩ := hi
  rw [run_idx_arr hu hs (by omega) (by omega) w]
  simp

def ldChk (ops : Array Oper) (D : List Nat) (l : List (Nat × Value)) (h : List (Nat × Obj)) (V : Nat → Value) (E : Nat → Eff) (v : Value) (E' : Eff) (i n : Nat) : Option (TypeId × Value × List (Nat × Obj) × Value × Eff) :=
  if (ops[i]?).isSome && wantV V (opAt ops i) && namesOk ops D h E i [n] then
    match (opAt ops i).op with
    | .load t a => some (t, evalAt ops D l V i a, known ops D h E i [n], v, E')
    | _ => none
  else none
/-- A load of one cell. -/
theorem o_ld (i n : Nat) (t : TypeId) (g off : (Nat → Orc) → Nat) (C : (Nat → Orc) → Array Value) (T : TypeId) (fr : Nat × Nat) (v : (Nat → Orc) → Value)
    (hc : ∀ ρ, ldChk ops D l h (vals ρ) (effs ρ) (vals (upd ρ i {}) i) (effs (upd ρ i {}) i) i n = some (t, .pointer (some ⟨g ρ, off ρ, none⟩), [(g ρ, .cells (C ρ) T fr)], v ρ, {}))
    (ha : ∀ w, (isAgg t).run P w = .ok false w) (hg : ∀ ρ, (C ρ)[off ρ]? = some (v ρ)) : Obl P ops D l w0 h F0 vals effs (fun _ _ _ => True) i := by
  have key : ∀ ρ, ((ops[i]?).isSome = true ∧ wantV (vals ρ) (opAt ops i) = true ∧ namesOk ops D h (effs ρ) i [n] = true) ∧ ∃ a, (opAt ops i).op = .load t a ∧ evalAt ops D l (vals ρ) i a = .pointer (some ⟨g ρ, off ρ, none⟩) ∧ known ops D h (effs ρ) i [n] = [(g ρ, .cells (C ρ) T fr)] ∧ vals (upd ρ i {}) i = v ρ ∧ effs (upd ρ i {}) i = {} := by
    intro ρ
    have h1 := hc ρ
    unfold ldChk at h1
    split at h1
    · rename_i hb
      simp only [Bool.and_eq_true] at hb
      split at h1
      · rename_i t' a ho
        simp only [Option.some.injEq, Prod.mk.injEq] at h1
        obtain ⟨rfl, h2, h3, h4, h5⟩ := h1
        exact ⟨⟨hb.1.1, hb.1.2, hb.2⟩, a, ho, h2, h3, h4, h5⟩
      · exact absurd h1 (by simp)
    · exact absurd h1 (by simp)
  refine obl_grow (opAt_some (key (fun _ => {})).1.1) (fun ρ => (key ρ).1.2.1) (fun ρ w hG => ?_) (fun ρ => (key ρ).2.choose_spec.2.2.2.2) (fun _ _ => trivial)
  obtain ⟨T', hG⟩ := hG
  obtain ⟨⟨_, _, hn⟩, a, h1, h2, h3, h4, _⟩ := key ρ
  have hblk : w.heap[g ρ]? = some (.cells (C ρ) T fr) := by
    unfold namesOk at hn
    rw [Bool.and_eq_true, List.all_eq_true] at hn
    have hn1 := hn.1 n (by simp)
    rw [Bool.and_eq_true] at hn1
    obtain ⟨⟨b, q⟩, hb⟩ := Option.isSome_iff_exists.1 hn1.1
    have := (hG.block n b q hb hn1.2).1
    unfold known at h3
    simp only [List.map_cons, List.map_nil, hb, List.cons.injEq, Prod.mk.injEq, and_true] at h3
    rw [h3.2] at this
    rw [← h3.1]; exact this
  have hcell : w.cell? ⟨g ρ, off ρ, none⟩ = some (v ρ) := by
    unfold World.cell?
    simp only [hblk]
    exact hg ρ
  unfold opv execOp
  rw [h1]
  simp only [h2]
  simp only [Instr.loadAt, Instr.sureAddr, loadVar, Sem.run_bind, Sem.run_pure, Result.andThen_ok, ha, Bool.false_eq_true, if_false, load, Sem.run, hcell]
  rw [h4]
  exact ⟨rfl, Below.refl _ _⟩

def stChk (ops : Array Oper) (D : List Nat) (l : List (Nat × Value)) (h : List (Nat × Obj)) (V : Nat → Value) (E : Nat → Eff) (v : Value) (E' : Eff) (i n : Nat) : Option (TypeId × Value × Value × List (Nat × Obj) × Value × Eff) :=
  if (ops[i]?).isSome && wantV V (opAt ops i) && namesOk ops D h E i [n] then
    match (opAt ops i).op with
    | .store t a x => some (t, evalAt ops D l V i a, evalAt ops D l V i x, known ops D h E i [n], v, E')
    | _ => none
  else none
/-- A store of one cell. -/
theorem o_st (i n : Nat) (t : TypeId) (g off : (Nat → Orc) → Nat) (C C' : (Nat → Orc) → Array Value) (T : TypeId) (x : (Nat → Orc) → Value)
    (hc : ∀ ρ, stChk ops D l h (vals ρ) (effs ρ) (vals (upd ρ i {}) i) (effs (upd ρ i {}) i) i n = some (t, .pointer (some ⟨g ρ, off ρ, none⟩), x ρ, [(g ρ, .cells (C ρ) T (0, 0))], undef, { puts := [(n, .cells (C' ρ) T (0, 0))] }))
    (hs : ∀ w, (sizeOf t).run P w = .ok 1 w) (hp : ∀ ρ, plainV (x ρ) = true) (hlt : ∀ ρ, off ρ < (C ρ).size) (hC : ∀ ρ, (C ρ).setIfInBounds (off ρ) (x ρ) = C' ρ) : Obl P ops D l w0 h F0 vals effs (fun _ _ _ => True) i := by
  have key : ∀ ρ, ((ops[i]?).isSome = true ∧ wantV (vals ρ) (opAt ops i) = true ∧ namesOk ops D h (effs ρ) i [n] = true) ∧ ∃ a y, (opAt ops i).op = .store t a y ∧ evalAt ops D l (vals ρ) i a = .pointer (some ⟨g ρ, off ρ, none⟩) ∧ evalAt ops D l (vals ρ) i y = x ρ ∧ known ops D h (effs ρ) i [n] = [(g ρ, .cells (C ρ) T (0, 0))] ∧ vals (upd ρ i {}) i = undef ∧ effs (upd ρ i {}) i = { puts := [(n, .cells (C' ρ) T (0, 0))] } := by
    intro ρ
    have h1 := hc ρ
    unfold stChk at h1
    split at h1
    · rename_i hb
      simp only [Bool.and_eq_true] at hb
      split at h1
      · rename_i t' a y ho
        simp only [Option.some.injEq, Prod.mk.injEq] at h1
        obtain ⟨rfl, h2, h3, h4, h5, h6⟩ := h1
        exact ⟨⟨hb.1.1, hb.1.2, hb.2⟩, a, y, ho, h2, h3, h4, h5, h6⟩
      · exact absurd h1 (by simp)
    · exact absurd h1 (by simp)
  intro o ho ρ T' w hG
  obtain ⟨⟨hsome, hwant, hn⟩, a, y, h1, h2, h3, h4, h5, h6⟩ := key ρ
  have hoe := opAt_some hsome
  rw [ho] at hoe
  obtain rfl : o = opAt ops i := by simpa using hoe
  rw [if_pos hwant]
  unfold namesOk at hn
  rw [Bool.and_eq_true, List.all_eq_true] at hn
  have hn1 := hn.1 n (by simp)
  rw [Bool.and_eq_true] at hn1
  obtain ⟨⟨b, q⟩, hb⟩ := Option.isSome_iff_exists.1 hn1.1
  have hblk0 := (hG.block n b q hb hn1.2).1
  unfold known at h4
  simp only [List.map_cons, List.map_nil, hb, List.cons.injEq, Prod.mk.injEq, and_true] at h4
  rw [h4.2, h4.1] at hblk0
  have hbg : b = g ρ := h4.1
  have hcell : w.cell? ⟨g ρ, off ρ, none⟩ = some ((C ρ)[off ρ]'(hlt ρ)) := by
    unfold World.cell?
    simp only [hblk0]
    simp [hlt ρ]
  have hfr : w.frozen? ⟨g ρ, off ρ, none⟩ = false := by
    unfold World.frozen?
    simp only [hblk0]
    simp
  have hsz : (x ρ).cells.toList = [x ρ] := by
    have := hp ρ
    cases hx : x ρ <;> rw [hx] at this <;> first | rfl | (simp [plainV] at this; done)
  have hsz2 : (x ρ).cells.size = 1 := by rw [← Array.length_toList, hsz]; rfl
  have hrun : (execOp (evalAt ops D l (vals ρ) i) (opAt ops i)).run P w = .ok .skip (w.setCell ⟨g ρ, off ρ, none⟩ (x ρ)) := by
    unfold execOp
    rw [h1]
    simp only [h2, h3]
    have hpv := hp ρ
    simp only [Instr.storeAt, Instr.sureAddr, storeVar, Sem.run_bind, Sem.run_pure, Result.andThen_ok, hs, hsz, hsz2]
    rw [if_neg (by simp)]
    have hsu : (Sem.store .plain ⟨g ρ, off ρ, none⟩ (x ρ) (.pure ()) : Sem Unit).run P w = .ok () (w.setCell ⟨g ρ, off ρ, none⟩ (x ρ)) := by
      cases hx : x ρ <;> rw [hx] at hpv <;> first | (simp [plainV] at hpv; done) | (simp only [Sem.run, hcell, hfr, Bool.false_eq_true, if_false])
    have hsc : (storeCells ⟨g ρ, off ρ, none⟩ [x ρ]).run P w = .ok () (w.setCell ⟨g ρ, off ρ, none⟩ (x ρ)) := by
      unfold storeCells
      simp only [Sem.run_bind, storeCells, store, Addr.add, if_true, hsu, Result.andThen_ok, Sem.run_pure]
    rw [hsc]
    rfl
  unfold opv
  rw [hrun]
  refine ⟨{}, h5.symm, ?_, ?_, ?_, ?_, persTrue (fun _ => trivial)⟩
  · refine ⟨rfl, rfl, rfl, by simp [World.setCell], fun k hk hX => ?_⟩
    apply Below.heap_setCell
    rintro rfl
    exact hX ⟨n, _, q, by rw [h6]; exact List.mem_cons_self, by rw [hb, hbg]⟩
  · rw [h6]
    intro n' o' hm
    simp only [List.mem_singleton, Prod.mk.injEq] at hm
    obtain ⟨rfl, rfl⟩ := hm
    refine ⟨hn1.2, b, q, hb, ?_⟩
    have hp' := put_in (w := w) (a := ⟨g ρ, off ρ, none⟩) hblk0 (u := (C ρ)[off ρ]'(hlt ρ)) (by simp [cellIn, hlt ρ]) (x ρ)
    rw [hbg]
    simp only [putIn, hC ρ] at hp'
    simpa using hp'
  · rw [h6]; intro k b' q' hk; simp at hk
  · rw [h6]; simp
end
end Go.Proofs.Ytlgjdejlnelndaa
