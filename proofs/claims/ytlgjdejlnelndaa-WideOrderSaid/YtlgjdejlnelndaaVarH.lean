/-
  Variables of type [32]uint8 that a drawn region makes.
-/
import Derived.Test.YtlgjdejlnelndaaText
import Derived.Test.YtlgjdejlnelndaaBytes
namespace Go.Proofs.Ytlgjdejlnelndaa
open Go Go.RowKit

def OwnH (w : World) (g : Nat) (C : Array Value) : Prop := w.heap[g]? = some (.cells C 26 (0, 0))
theorem OwnH.cell {w : World} {g : Nat} {C : Array Value} (h : OwnH w g C) (j : Nat) : w.cell? ⟨g, j, none⟩ = C[j]? := cell_of_row w g j C _ _ h
theorem OwnH.free {w : World} {g : Nat} {C : Array Value} (h : OwnH w g C) (j : Nat) : w.frozen? ⟨g, j, none⟩ = false := frozen_of_row w g j C _ h
theorem heap_lt {w : World} {g : Nat} {o : Obj} (h : w.heap[g]? = some o) : g < w.heap.size := by
  by_cases hl : g < w.heap.size
  · exact hl
  · rw [Array.getElem?_eq_none (by omega)] at h; exact absurd h (by simp)
theorem OwnH.lt {w : World} {g : Nat} {C : Array Value} (h : OwnH w g C) : g < w.heap.size := heap_lt h
theorem OwnH.below {w w' : World} {g : Nat} {C : Array Value} (h : OwnH w g C) (hb : Below w.heap.size w w') : OwnH w' g C := (hb.block g h.lt).trans h
theorem OwnH.past {w : World} {g : Nat} {C : Array Value} (h : OwnH w g C) (o : Obj) : OwnH (w.alloc o) g C := (heap_alloc_past w o g h.lt).trans h
theorem OwnH.drewN {w : World} {g : Nat} {C : Array Value} (h : OwnH w g C) (n : Nat) : OwnH (w.drewN n) g C := h
theorem OwnH.drew {w : World} {g : Nat} {C : Array Value} (h : OwnH w g C) : OwnH w.drew g C := h
theorem setRow_other' (w : World) (g k : Nat) (cs : Array Value) (h : k ≠ g) : (w.setRow g cs).heap[k]? = w.heap[k]? := by
  simp only [World.setRow, Array.getElem?_modify]
  rw [if_neg (fun e => h e.symm)]
theorem below_setRow {B : Nat} {a w : World} (h : Below B a w) {g : Nat} (hg : B ≤ g) (cs : Array Value) : Below B a (w.setRow g cs) :=
  h.trans ⟨rfl, rfl, rfl, by simp, fun k hk => setRow_other' w g k cs (by omega)⟩
def VarH (wr w : World) (b s : Bool) (v : Value) (g : Nat) (C1 : Array Value) : Prop :=
  b = true → v = .pointer (some ⟨g, 0, none⟩) ∧ wr.heap.size ≤ g ∧ ∃ C, C.size = 32 ∧ OwnH w g C ∧ (s = true → C = C1)
theorem VarH.below {wr w w' : World} {b s : Bool} {v : Value} {g : Nat} {C1 : Array Value} (h : VarH wr w b s v g C1) (hb : Below w.heap.size w w') : VarH wr w' b s v g C1 := by
  intro hh
  obtain ⟨h1, h2, C, hs, O, h3⟩ := h hh
  exact ⟨h1, h2, C, hs, O.below hb, h3⟩
theorem VarH.past {wr w : World} {b s : Bool} {v : Value} {g : Nat} {C1 : Array Value} (h : VarH wr w b s v g C1) (o : Obj) : VarH wr (w.alloc o) b s v g C1 := by
  intro hh
  obtain ⟨h1, h2, C, hs, O, h3⟩ := h hh
  exact ⟨h1, h2, C, hs, O.past o, h3⟩
theorem VarH.new {wr w : World} (s : Bool) (hs : s = false) (C1 : Array Value) (h : wr.heap.size ≤ w.heap.size) {Z : Array Value} (hz : Z.size = 32 := by rfl) : VarH wr (w.alloc (.cells Z 26)) true s (.pointer (some ⟨w.heap.size, 0, none⟩)) w.heap.size C1 :=
  fun _ => ⟨rfl, h, Z, hz, heap_alloc_at _ _ _ rfl, fun x => by rw [hs] at x; exact absurd x (by simp)⟩
theorem VarH.store {wr w : World} {b s : Bool} {v : Value} {g : Nat} {A : Nat} (h : VarH wr w b s v g (hB A)) (hb : b = true) : VarH wr (w.setRow g (hB A)) b true v g (hB A) := by
  obtain ⟨h1, h2, C, hs, O, h3⟩ := h hb
  exact fun _ => ⟨h1, h2, hB A, hB_size A, setRow_heap w g C (hB A) _ _ O, fun _ => rfl⟩
theorem VarH.other {wr w : World} {b s : Bool} {v : Value} {g : Nat} {C1 : Array Value} (h : VarH wr w b s v g C1) {g' : Nat} (hg : b = true → g ≠ g') (cs : Array Value) : VarH wr (w.setRow g' cs) b s v g C1 := by
  intro hh
  obtain ⟨h1, h2, C, hs, O, h3⟩ := h hh
  exact ⟨h1, h2, C, hs, (setRow_other' w g' g cs (hg hh)).trans O, h3⟩
theorem VarH.lt {wr w : World} {b s : Bool} {v : Value} {g : Nat} {C1 : Array Value} (h : VarH wr w b s v g C1) (hb : b = true) : g < w.heap.size := by
  obtain ⟨_, _, C, _, O, _⟩ := h hb
  exact O.lt
end Go.Proofs.Ytlgjdejlnelndaa
