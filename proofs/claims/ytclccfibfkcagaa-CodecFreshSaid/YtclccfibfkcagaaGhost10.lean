/-
  Calls that hand back a new row, whole.
-/
import Derived.Test.YtclccfibfkcagaaGhost9
namespace Go.Proofs.Ytclccfibfkcagaa
open Go Go.RowKit

section
variable {P : Program} {ops : Array Oper} {D : List Nat} {l : List (Nat × Value)} {w0 : World} {h : List (Nat × Obj)} {F0 : World → Prop}
variable {vals : (Nat → Orc) → Nat → Value} {effs : (Nat → Orc) → Nat → Eff} {fact : (Nat → Orc) → Nat → World → Prop}
/-- A call that makes one block, which is known from then on. -/
theorem o_callN (i : Nat) (f : FuncId) (args : (Nat → Orc) → Array Value) (v : (Nat → Orc) → Nat → Value) (ob : (Nat → Orc) → Obj)
    (hc : ∀ ρ z, callChkF P ops D l (vals ρ) i z = some (.enter f (args ρ), [], []))
    (hv : ∀ ρ g, vals (upd ρ i { n := [g] }) i = v ρ g) (he : ∀ ρ g, effs (upd ρ i { n := [g] }) i = { news := [(g, ob ρ)] }) (ht : ∀ ρ w, fact ρ i w)
    (hf : ∀ ρ T w, Given ops D w0 h F0 effs fact i ρ T w → Calls P f (args ρ) w (fun e w' => ∃ g, e = .returned (v ρ g) ∧ Below w.heap.size w w' ∧ w.heap.size ≤ g ∧ w'.heap[g]? = some (ob ρ))) : Obl P ops D l w0 h F0 vals effs fact i := by
  have key : ∀ ρ z, ((ops[i]?).isSome = true ∧ wantV (vals ρ) (opAt ops i) = true) ∧ grun P (execOp (evalAt ops D l (vals ρ) i) (opAt ops i)) [] [] z = some (.enter f (args ρ), [], []) := by
    intro ρ z
    have h1 := hc ρ z
    unfold callChkF at h1
    split at h1
    · rename_i hb
      simp only [Bool.and_eq_true] at hb
      exact ⟨hb, h1⟩
    · exact absurd h1 (by simp)
  intro o ho ρ T w hG
  have hoe := opAt_some (key ρ []).1.1
  rw [ho] at hoe
  obtain rfl : o = opAt ops i := by simpa using hoe
  rw [if_pos (key ρ []).1.2]
  obtain ⟨w1, h1, _, _, h4, _, _⟩ := grun_sound (P := P) (execOp (evalAt ops D l (vals ρ) i) (opAt ops i)) [] [] w _ _ _ (by intro y hy; simp at hy) (by simp) ((key ρ _).2) trivial
  have hb : Below w.heap.size w w1 := ⟨h4.os, h4.tape, h4.output, h4.size, fun k hk => h4.block k hk (by simp)⟩
  have hheap : ∀ b, b < w.heap.size → w1.heap[b]? = w.heap[b]? := fun b hb' => hb.block b hb'
  have hG1 : Given ops D w0 h F0 effs fact i ρ T w1 := by
    have tr : ∀ {F : World → Prop}, Pers T F w → Pers T F w1 := by
      rintro F ⟨S, s1, s2⟩
      refine ⟨S, fun b hb' => ⟨Nat.lt_of_lt_of_le (s1 b hb').1 hb.size, (s1 b hb').2⟩, fun w' hw => s2 w' (fun b hb' => ?_)⟩
      rw [hw b hb', hheap b (s1 b hb').1]
    refine ⟨fun b hb' => Nat.lt_of_lt_of_le (hG.lt b hb') hb.size, hG.below.trans (hb.mono hG.below.size), fun n b o hn hk => ?_, hG.ne, tr hG.facts0, fun j hj => tr (hG.facts j hj)⟩
    have := hG.block n b o hn hk
    refine ⟨?_, this.2⟩
    rw [hheap b (hG.lt b this.2.1)]
    exact this.1
  unfold opv
  rw [h1]
  refine (hf ρ T w1 hG1).mono (fun e w2 hew => ?_)
  obtain ⟨g, rfl, hb2, hg, hgo⟩ := hew
  show After ops D h vals effs fact i ρ T w _ w2
  have he' := he ρ g
  refine ⟨{ n := [g] }, (hv ρ g).symm, Upd.of_below (hb.trans (hb2.mono hb.size)), ?_, ?_, ?_, persTrue (ht _)⟩
  · rw [he']; intro n q hm; simp at hm
  · rw [he']
    intro j b q hj
    have : j = 0 := by
      have := (List.getElem?_eq_some_iff.1 hj).1
      simpa using this
    subst this
    simp only [List.getElem?_cons_zero, Option.some.injEq, Prod.mk.injEq] at hj
    obtain ⟨rfl, rfl⟩ := hj
    exact ⟨Nat.le_trans hb.size hg, hgo⟩
  · rw [he']; simp
end
theorem St.newb {w0 w : World} {h : List (Nat × Obj)} {F : World → Prop} (hS : St w0 h F w) {g : Nat} {o : Obj} (hg : (g, o) ∈ h) : w0.heap.size ≤ g ∧ w.heap[g]? = some o := hS.at_ _ hg
theorem Hd.eq {C : Array Value} {xs : List UInt8} (h : Hd C xs) (hs : C.size = xs.length) : C = (bs xs).toArray := by
  apply Array.ext'
  unfold Hd at h
  rw [← hs, ← Array.length_toList, List.take_length] at h
  rw [h]
end Go.Proofs.Ytclccfibfkcagaa
