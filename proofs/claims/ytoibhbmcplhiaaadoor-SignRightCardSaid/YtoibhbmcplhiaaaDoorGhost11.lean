/-
  Calls that hand back a new row, whole.
-/
import Derived.Test.YtoibhbmcplhiaaaDoorGhost9
namespace Go.Proofs.YtoibhbmcplhiaaaDoor
open Go Go.RowKit

section
variable {P : Program} {ops : Array Oper} {D : List Nat} {l : List (Nat × Value)} {w0 : World} {h : List (Nat × Obj)} {F0 : World → Prop}
variable {vals : (Nat → Orc) → Nat → Value} {effs : (Nat → Orc) → Nat → Eff} {fact : (Nat → Orc) → Nat → World → Prop}
/-- A call that makes one block, which is known from then on. -/
theorem o_callN (i : Nat) (f : FuncId) (args : (Nat → Orc) → Array Value) (v : (Nat → Orc) → Nat → Value) (ob : (Nat → Orc) → Obj)
    (hc : ∀ ρ z, callChkF P ops D l (vals ρ) i z = some (.enter f (args ρ), [], []))
    (hv : ∀ ρ g, vals (upd ρ i { n := [g] }) i = v ρ g) (he : ∀ ρ g, effs (upd ρ i { n := [g] }) i = { news := [(g, ob ρ)] }) (ht : ∀ ρ w, fact ρ i w)
    (hf : ∀ ρ T w, Given ops D w0 h F0 effs fact i ρ T w → Calls P f (args ρ) w (fun e w' => ∃ g, e = .returned (v ρ g) ∧ Below w.heap.size w w' ∧ w.heap.size ≤ g ∧ w'.heap[g]? = some (ob ρ))) : Obl P ops D l w0 h F0 vals effs fact i := by
  have key : ∀ ρ z, ((ops[i]?).isSome = true ∧ wantV (vals ρ) (opAt ops i) = true) ∧ grun P (execOp (evalAt ops D l (vals ρ) i) (opAt ops i)) [] [] z = some (.enter f (args ρ), [], []) := by
    intro ρ z
    have h1 := hc ρ z
    unfold callChkF at h1
    split at h1
    · rename_i hb
      simp only [Bool.and_eq_true] at hb
      exact ⟨hb, h1⟩
    · exact absurd h1 (by simp)
  intro o ho ρ T w hG
  have hoe := opAt_some (key ρ []).1.1
  rw [ho] at hoe
  obtain rfl : o = opAt ops i := by simpa using hoe
  rw [if_pos (key ρ []).1.2]
  obtain ⟨w1, h1, _, _, h4, _, _⟩ := grun_sound (P := P) (execOp (evalAt ops D l (vals ρ) i) (opAt ops i)) [] [] w _ _ _ (by intro y hy; simp at hy) (by simp) ((key ρ _).2) trivial
  have hb : Below w.heap.size w w1 := ⟨h4.os, h4.tape, h4.output, h4.size, fun k hk => h4.block k hk (by simp)⟩
  have hheap : ∀ b, b < w.heap.size → w1.heap[b]? = w.heap[b]? := fun b hb' => hb.block b hb'
  have hG1 : Given ops D w0 h F0 effs fact i ρ T w1 := by
    have tr : ∀ {F : World → Prop}, Pers T F w → Pers T F w1 := by
      rintro F ⟨S, s1, s2⟩
      refine ⟨S, fun b hb' => ⟨Nat.lt_of_lt_of_le (s1 b hb').1 hb.size, (s1 b hb').2⟩, fun w' hw => s2 w' (fun b hb' => ?_)⟩
      rw [hw b hb', hheap b (s1 b hb').1]
    refine ⟨fun b hb' => Nat.lt_of_lt_of_le (hG.lt b hb') hb.size, hG.below.trans (hb.mono hG.below.size), fun n b o hn hk => ?_, hG.ne, tr hG.facts0, fun j hj => tr (hG.facts j hj)⟩
    have := hG.block n b o hn hk
    refine ⟨?_, this.2⟩
    rw [hheap b (hG.lt b this.2.1)]
    exact this.1
  unfold opv
  rw [h1]
  refine (hf ρ T w1 hG1).mono (fun e w2 hew => ?_)
  obtain ⟨g, rfl, hb2, hg, hgo⟩ := hew
  show After ops D h vals effs fact i ρ T w _ w2
  have he' := he ρ g
  refine ⟨{ n := [g] }, (hv ρ g).symm, Upd.of_below (hb.trans (hb2.mono hb.size)), ?_, ?_, ?_, persTrue (ht _)⟩
  · rw [he']; intro n q hm; simp at hm
  · rw [he']
    intro j b q hj
    have : j = 0 := by
      have := (List.getElem?_eq_some_iff.1 hj).1
      simpa using this
    subst this
    simp only [List.getElem?_cons_zero, Option.some.injEq, Prod.mk.injEq] at hj
    obtain ⟨rfl, rfl⟩ := hj
    exact ⟨Nat.le_trans hb.size hg, hgo⟩
  · rw [he']; simp
end
theorem St.newb {w0 w : World} {h : List (Nat × Obj)} {F : World → Prop} (hS : St w0 h F w) {g : Nat} {o : Obj} (hg : (g, o) ∈ h) : w0.heap.size ≤ g ∧ w.heap[g]? = some o := hS.at_ _ hg
theorem Hd.eq {C : Array Value} {xs : List UInt8} (h : Hd C xs) (hs : C.size = xs.length) : C = (bs xs).toArray := by
  apply Array.ext'
  unfold Hd at h
  rw [← hs, ← Array.length_toList, List.take_length] at h
  rw [h]

/-- Fewer facts do. -/
theorem mt_facts {R : Act → World → Prop} {n : Nat} {l : List (Nat × Value)} {w0 : World} {h : List (Nat × Obj)} {F : World → Prop} (G : World → Prop) (hp : ∀ w, F w → G w) (hk : Meets R n l w0 h G) : Meets R n l w0 h F :=
  fun A w hf hs => hk A w hf (hs.weaken hp)
theorem blk_lt {w : World} {g : Nat} {o : Obj} (h : w.heap[g]? = some o) : g < w.heap.size := by
  by_cases hl : g < w.heap.size
  · exact hl
  · rw [Array.getElem?_eq_none (by omega)] at h; exact absurd h (by simp)
theorem cell_blk {w : World} {g : Nat} {C : Array Value} {T : TypeId} {fr : Nat × Nat} (h : w.heap[g]? = some (.cells C T fr)) (j : Nat) : w.cell? ⟨g, j, none⟩ = C[j]? := cell_of_row w g j C _ _ h
/-- The first cells of a block are known. -/
def Kb (w : World) (g : Nat) (C : Array Value) : Prop := ∀ i v, C[i]? = some v → w.cell? ⟨g, i, none⟩ = some v
theorem Kb.of_block {w : World} {g : Nat} {C : Array Value} {T : TypeId} {fr : Nat × Nat} (h : w.heap[g]? = some (.cells C T fr)) : Kb w g C := fun i _ hv => (cell_blk h i).trans hv
theorem cell_some_lt {w : World} {g i : Nat} {v : Value} (h : w.cell? ⟨g, i, none⟩ = some v) : g < w.heap.size := by
  by_cases hl : g < w.heap.size
  · exact hl
  · have hn : w.heap[g]? = none := Array.getElem?_eq_none (by omega)
    unfold World.cell? at h
    simp [hn] at h
theorem Kb.pers0 {w : World} {g : Nat} {C : Array Value} (h : Kb w g C) : Pers (fun _ => False) (fun w => Kb w g C) w := by
  by_cases hz : ∃ (i : Nat) (v : Value), C[i]? = some v
  · obtain ⟨i, v, hv⟩ := hz
    exact ⟨fun b => b = g, fun b hb => ⟨by rw [hb]; exact cell_some_lt (h i v hv), id⟩, fun w' hw i v hv => (cell_congr (a := ⟨g, i, none⟩) (hw g rfl)).trans (h i v hv)⟩
  · exact ⟨fun _ => False, fun b hb => hb.elim, fun w' _ i v hv => absurd ⟨i, v, hv⟩ hz⟩
section
variable {P : Program} {t e : TypeId}
/-- A cell of a known block. -/
theorem ld_blk {w : World} {g off : Nat} {C : Array Value} {v : Value} (ha : ∀ w, (isAgg e).run P w = .ok false w) (h : Kb w g C) (hv : C[off]? = some v) :
    (do pure (Next.value (← Instr.loadAt e (.pointer (some ⟨g, off, none⟩)))) : Sem Next).run P w = .ok (.value v) w := by
  have hp : w.cell? ⟨g, off, none⟩ = some v := h off v hv
  simp only [Instr.loadAt, Instr.sureAddr, loadVar, Sem.run_bind, Sem.run_pure, Result.andThen_ok, ha, Bool.false_eq_true, if_false, load, Sem.run, hp]
/-- A run of cells of a known block. -/
theorem ld_blkA {w : World} {g off n : Nat} {C : Array Value} {vs : List Value} (ha : ∀ w, (isAgg e).run P w = .ok true w) (hs : ∀ w, (sizeOf e).run P w = .ok n w) (h : Kb w g C) (hn : vs.length = n) (hv : ∀ j, j < n → C[off + j]? = vs[j]?) :
    (do pure (Next.value (← Instr.loadAt e (.pointer (some ⟨g, off, none⟩)))) : Sem Next).run P w = .ok (.value (.agg vs.toArray)) w := by
  have hl := run_loadCells_list (P := P) w ⟨g, off, none⟩ vs (fun j v hj => by
    rw [Addr.add_lit]
    have hj' : j < n := by rw [← hn]; exact (List.getElem?_eq_some_iff.1 hj).1
    exact h _ _ ((hv j hj').trans hj))
  rw [hn] at hl
  simp only [Instr.loadAt, Instr.sureAddr, loadVar, Sem.run_bind, Sem.run_pure, Result.andThen_ok, ha, if_true, hs, hl]
/-- A whole block. -/
theorem ld_whole {w : World} {g n : Nat} {C : Array Value} {T : TypeId} {fr : Nat × Nat} (ha : ∀ w, (isAgg e).run P w = .ok true w) (hs : ∀ w, (sizeOf e).run P w = .ok n w) (h : w.heap[g]? = some (.cells C T fr)) (hn : C.size = n) :
    (do pure (Next.value (← Instr.loadAt e (.pointer (some ⟨g, 0, none⟩)))) : Sem Next).run P w = .ok (.value (.agg C)) w := by
  have h1 := ld_blkA (vs := C.toList) ha hs (Kb.of_block h) (by rw [Array.length_toList]; exact hn) (fun j _ => by rw [Nat.zero_add]; simp)
  rw [Array.toArray_toList] at h1
  exact h1
/-- The first bytes of a slice, as an array. -/
theorem arr_bytes {n : Nat} {el : TypeId} (hu : P.underlying t = some (.array n el)) {w : World} {a : Option Addr} {c m : Nat} (hm : n ≤ m) :
    (do pure (Next.value (← Instr.arrayAt t (.slice a m c))) : Sem Next).run P w = .ok (.value (.pointer a)) w := by
  simp only [Instr.arrayAt, Sem.run_bind, run_underlying hu, Result.andThen_ok, if_neg (by omega : ¬ m < n), Sem.run_pure]
theorem ld_arr {n : Nat} (ha : ∀ w, (isAgg t).run P w = .ok true w) (hs : ∀ w, (sizeOf t).run P w = .ok n w) {w : World} {a : Option Addr} {c : Nat} {xs : List UInt8} (hb : Bs w a c xs) (hn : n ≤ xs.length) (h0 : 0 < n) :
    (do pure (Next.value (← Instr.loadAt t (.pointer a))) : Sem Next).run P w = .ok (.value (.agg (bs (xs.take n)).toArray)) w := by
  rcases hb.rows with h | ⟨p, rfl, hp⟩
  · have := congrArg List.length h
    rw [bs_length] at this
    have h1 : xs.length = 0 := this
    omega
  · have hl := run_loadCells_list (P := P) w p (bs (xs.take n)) (fun j v hj => by
      refine hp j v ?_
      unfold bs at hj ⊢
      rw [List.getElem?_map, List.getElem?_take] at hj
      rw [List.getElem?_map]
      split at hj
      · exact hj
      · exact absurd hj (by simp))
    rw [bs_length, List.length_take, Nat.min_eq_left hn] at hl
    simp only [Instr.loadAt, Instr.sureAddr, loadVar, Sem.run_bind, Sem.run_pure, Result.andThen_ok, ha, if_true, hs, hl]
end
section
variable {P : Program} {ops : Array Oper} {D : List Nat} {l : List (Nat × Value)} {w0 : World} {h : List (Nat × Obj)} {F0 : World → Prop}
variable {vals : (Nat → Orc) → Nat → Value} {effs : (Nat → Orc) → Nat → Eff} {fact : (Nat → Orc) → Nat → World → Prop}
/-- An operation that makes one block: new bytes. -/
theorem o_newF (i : Nat) (s : (Nat → Orc) → Sem Next) (v : (Nat → Orc) → Option Addr → Nat → Value) (xs : (Nat → Orc) → List UInt8)
    (hc : ∀ ρ r, newChk ops (vals ρ) (vals (upd ρ i r) i) (effs (upd ρ i r) i) i = some (v ρ r.a (r.n.headD 0), {}))
    (hx : ∀ ρ, execOp (evalAt ops D l (vals ρ) i) (opAt ops i) = s ρ) (ht : ∀ ρ r, fact (upd ρ i r) i = fun w => Fs w0 w r.a (r.n.headD 0) (xs ρ))
    (hr : ∀ ρ T w, Given ops D w0 h F0 effs fact i ρ T w → ∃ a c w' o, (s ρ).run P w = .ok (.value (v ρ a c)) w' ∧ Grew w w' o ∧ Fs w w' a c (xs ρ)) : Obl P ops D l w0 h F0 vals effs fact i := by
  have key : ∀ ρ r, ((ops[i]?).isSome = true ∧ wantV (vals ρ) (opAt ops i) = true) ∧ v ρ r.a (r.n.headD 0) = vals (upd ρ i r) i ∧ effs (upd ρ i r) i = {} := by
    intro ρ r
    have h1 := hc ρ r
    unfold newChk at h1
    split at h1
    · rename_i hb
      simp only [Bool.and_eq_true] at hb
      simp only [Option.some.injEq, Prod.mk.injEq] at h1
      exact ⟨hb, h1.1.symm, h1.2⟩
    · exact absurd h1 (by simp)
  intro o ho ρ T w hG
  have hoe := opAt_some (key ρ {}).1.1
  rw [ho] at hoe
  obtain rfl : o = opAt ops i := by simpa using hoe
  rw [if_pos (key ρ {}).1.2]
  obtain ⟨a, c, w', o', hrun, hgr, hF⟩ := hr ρ T w hG
  unfold opv
  rw [hx ρ, hrun]
  have hk := key ρ { n := [c], a := a }
  refine ⟨{ n := [c], a := a }, hk.2.1, ?_, ?_, ?_, ?_, ?_⟩
  · refine ⟨hgr.os, hgr.tape, hgr.output, by rw [hgr.heap]; simp, fun b hb _ => ?_⟩
    rw [hgr.heap, Array.getElem?_push, if_neg (by omega)]
  · rw [hk.2.2]; intro n q hm; simp at hm
  · rw [hk.2.2]; intro k b q hk'; simp at hk'
  · rw [hk.2.2]; simp
  · rw [ht]
    refine ((hF.pers (T := fun b => b < w.heap.size) (fun b hb => hb)).mono (fun _ hx' => hx'.older hG.below.size)).sub (fun b hbT => ?_)
    rw [hk.2.2] at hbT
    rcases hbT with hbT | hbT
    · exact hG.lt b hbT
    · simp at hbT
end
/-- '[]byte(s)'. -/
theorem bytes_str {P : Program} {ts td e : TypeId} (hs : P.underlying ts = some .string) (hd : P.underlying td = some (.slice e)) (he : P.underlying e = some (.int .u8)) (S : List UInt8) (hm : S.length ≤ 140737488351232) (w : World) :
    ∃ a c w' o, (do pure (Next.value (← convert ts td (.string (strB S)))) : Sem Next).run P w = .ok (.value (.slice a S.length c)) w' ∧ Grew w w' o ∧ Fs w w' a c S := by
  have hrun := run_bytes_of_string (P := P) w ts td e (strB S) hs hd he
  have hsz : (strB S).size = S.length := by simp [strB, ByteArray.size]
  have hge := grownCap_ge w S.length 0 e
  rw [hsz] at hrun
  refine ⟨some ⟨w.heap.size, 0, none⟩, grownCap w S.length 0 e, w.drew.alloc (.cells (bytesRow (strB S) (grownCap w S.length 0 e)) e ((bytesRow (strB S) (grownCap w S.length 0 e)).size, (bytesRow (strB S) (grownCap w S.length 0 e)).size + 1)), _, ?_, ⟨rfl, rfl, rfl, rfl⟩, ?_, ?_⟩
  · rw [Sem.run_bind, hrun]; rfl
  · refine Bs.of_block (g := w.heap.size) (C := bytesRow (strB S) (grownCap w S.length 0 e)) (T := e) (fr := ((bytesRow (strB S) (grownCap w S.length 0 e)).size, (bytesRow (strB S) (grownCap w S.length 0 e)).size + 1)) (show (w.heap.push _)[w.heap.size]? = _ by simp) ?_ hge hm
    simp [bytesRow, strB, bs, bv]
  · intro p hp _
    obtain rfl : (⟨w.heap.size, 0, none⟩ : Addr) = p := by simpa using hp
    exact Nat.le_refl _
end Go.Proofs.YtoibhbmcplhiaaaDoor
