/-
  Whole arrays in a walk whose world is written out: loads, stores, results.
-/
import Derived.Test.YtlgjdejlnelndaaBits
import Derived.Deep.WholeRow
namespace Go.Proofs.Ytlgjdejlnelndaa
open Go Go.RowKit

theorem setRow_alloc_at (w : World) (c c' : Array Value) (t : TypeId) (n : Nat) (hn : n = w.heap.size) : (w.alloc (.cells c t)).setRow n c' = w.alloc (.cells c' t) := by
  subst hn; exact World.setRow_alloc_new w c c' t
theorem setRow_alloc_past (w : World) (o : Obj) (c' : Array Value) (n : Nat) (hn : n < w.heap.size) : (w.alloc o).setRow n c' = (w.setRow n c').alloc o := by
  simp only [World.setRow, World.alloc]
  congr 1
  apply Array.ext_getElem?
  intro i
  simp only [Array.getElem?_modify, Array.getElem?_push, Array.size_modify]
  by_cases h : n = i
  · subst h; rw [if_pos rfl, if_neg (by omega), if_neg (by omega), if_pos rfl]
  · rw [if_neg h]; split <;> first | rfl | (rw [if_neg h])
theorem setRow_drew (w : World) (c' : Array Value) (n : Nat) : w.drew.setRow n c' = (w.setRow n c').drew := rfl
theorem setRow_drewN (w : World) (c' : Array Value) (n k : Nat) : (w.drewN k).setRow n c' = (w.setRow n c').drewN k := rfl
theorem heap_past_aux (w : World) (o : Obj) (n : Nat) (hn : n < w.heap.size) : (w.alloc o).heap[n]? = w.heap[n]? := by
  show (w.heap.push o)[n]? = _
  rw [Array.getElem?_push, if_neg (Nat.ne_of_lt hn)]
theorem heap_alloc_at (w : World) (o : Obj) (n : Nat) (hn : n = w.heap.size) : (w.alloc o).heap[n]? = some o := by subst hn; exact heap_alloc_new w o
theorem heap_alloc_past (w : World) (o : Obj) (n : Nat) (hn : n < w.heap.size) : (w.alloc o).heap[n]? = w.heap[n]? := Go.Proofs.Ytlgjdejlnelndaa.heap_past_aux w o n hn

theorem wl_load {P : Program} {ops : Array Oper} {rest : List Oper} {dst : Option Tmp} {ty ty' : TypeId} {x : Operand} {pos : String} {after : Array Edge} {a : Act} {w : World} {Q : Exit → Act → World → Prop}
    (g : Nat) (t : TypeId) (cs : Array Value) (d : TypeDesc) (hx : a.eval x = .pointer (some ⟨g, 0, none⟩)) (hg : w.heap[g]? = some (.cells cs t (0, 0)))
    (hu : P.underlying ty = some d) (hd : (match d with | .struct _ | .array _ _ => true | _ => false) = true) (hi : (P.info? ty).map (·.size) = some cs.size)
    (h : wpList P ops Q rest (a.put dst (.agg cs)) w) : wpList P ops Q (⟨dst, .load ty x, ty', pos, after, none⟩ :: rest) a w :=
  wpList_load_row rfl ty x rfl g hx t cs (0, 0) d hg hu hd hi h
theorem wl_store {P : Program} {ops : Array Oper} {rest : List Oper} {ty ty' : TypeId} {x y : Operand} {pos : String} {after : Array Edge} {a : Act} {w : World} {Q : Exit → Act → World → Prop}
    (g : Nat) (t : TypeId) (old cs : Array Value) (hx : a.eval x = .pointer (some ⟨g, 0, none⟩)) (hy : a.eval y = .agg cs) (hg : w.heap[g]? = some (.cells old t (0, 0)))
    (hi : (P.info? ty).map (·.size) = some cs.size) (ho : old.size = cs.size) (h1 : cs.all (·.oneCell') = true)
    (h : wpList P ops Q rest a (w.setRow g cs)) : wpList P ops Q (⟨none, .store ty x y, ty', pos, after, none⟩ :: rest) a w :=
  wpList_store_row rfl ty x y rfl g cs hx hy t old hg hi ho h1 h

/-! ### blocks of a world that is written out, by their places -/
theorem hp_1_0 (w : World) (o0 : Obj) : (w.alloc o0).heap[w.heap.size]? = some o0 := heap_alloc_at _ _ _ (by simp)
theorem sr_1_0 (w : World) (c c' : Array Value) (t : TypeId) : (w.alloc (.cells c t)).setRow (w.heap.size) c' = (w.alloc (.cells c' t)) := by rw [setRow_alloc_at _ _ _ _ _ (by simp)]
theorem hp_2_0 (w : World) (o0 o1 : Obj) : ((w.alloc o0).alloc o1).heap[w.heap.size]? = some o0 := (heap_alloc_past _ _ _ (by simp; try omega)).trans (heap_alloc_at _ _ _ (by simp))
theorem sr_2_0 (w : World) (o1 : Obj) (c c' : Array Value) (t : TypeId) : ((w.alloc (.cells c t)).alloc o1).setRow (w.heap.size) c' = ((w.alloc (.cells c' t)).alloc o1) := by rw [setRow_alloc_past _ _ _ _ (by simp; try omega), setRow_alloc_at _ _ _ _ _ (by simp)]
theorem hp_2_1 (w : World) (o0 o1 : Obj) : ((w.alloc o0).alloc o1).heap[w.heap.size + 1]? = some o1 := heap_alloc_at _ _ _ (by simp)
theorem sr_2_1 (w : World) (o0 : Obj) (c c' : Array Value) (t : TypeId) : ((w.alloc o0).alloc (.cells c t)).setRow (w.heap.size + 1) c' = ((w.alloc o0).alloc (.cells c' t)) := by rw [setRow_alloc_at _ _ _ _ _ (by simp)]
theorem hp_3_0 (w : World) (o0 o1 o2 : Obj) : (((w.alloc o0).alloc o1).alloc o2).heap[w.heap.size]? = some o0 := (heap_alloc_past _ _ _ (by simp; try omega)).trans ((heap_alloc_past _ _ _ (by simp; try omega)).trans (heap_alloc_at _ _ _ (by simp)))
theorem sr_3_0 (w : World) (o1 o2 : Obj) (c c' : Array Value) (t : TypeId) : (((w.alloc (.cells c t)).alloc o1).alloc o2).setRow (w.heap.size) c' = (((w.alloc (.cells c' t)).alloc o1).alloc o2) := by rw [setRow_alloc_past _ _ _ _ (by simp; try omega), setRow_alloc_past _ _ _ _ (by simp; try omega), setRow_alloc_at _ _ _ _ _ (by simp)]
theorem hp_3_1 (w : World) (o0 o1 o2 : Obj) : (((w.alloc o0).alloc o1).alloc o2).heap[w.heap.size + 1]? = some o1 := (heap_alloc_past _ _ _ (by simp; try omega)).trans (heap_alloc_at _ _ _ (by simp))
theorem sr_3_1 (w : World) (o0 o2 : Obj) (c c' : Array Value) (t : TypeId) : (((w.alloc o0).alloc (.cells c t)).alloc o2).setRow (w.heap.size + 1) c' = (((w.alloc o0).alloc (.cells c' t)).alloc o2) := by rw [setRow_alloc_past _ _ _ _ (by simp; try omega), setRow_alloc_at _ _ _ _ _ (by simp)]
theorem hp_3_2 (w : World) (o0 o1 o2 : Obj) : (((w.alloc o0).alloc o1).alloc o2).heap[w.heap.size + 1 + 1]? = some o2 := heap_alloc_at _ _ _ (by simp)
theorem sr_3_2 (w : World) (o0 o1 : Obj) (c c' : Array Value) (t : TypeId) : (((w.alloc o0).alloc o1).alloc (.cells c t)).setRow (w.heap.size + 1 + 1) c' = (((w.alloc o0).alloc o1).alloc (.cells c' t)) := by rw [setRow_alloc_at _ _ _ _ _ (by simp)]
theorem hp_4_0 (w : World) (o0 o1 o2 o3 : Obj) : ((((w.alloc o0).alloc o1).alloc o2).alloc o3).heap[w.heap.size]? = some o0 := (heap_alloc_past _ _ _ (by simp; try omega)).trans ((heap_alloc_past _ _ _ (by simp; try omega)).trans ((heap_alloc_past _ _ _ (by simp; try omega)).trans (heap_alloc_at _ _ _ (by simp))))
theorem sr_4_0 (w : World) (o1 o2 o3 : Obj) (c c' : Array Value) (t : TypeId) : ((((w.alloc (.cells c t)).alloc o1).alloc o2).alloc o3).setRow (w.heap.size) c' = ((((w.alloc (.cells c' t)).alloc o1).alloc o2).alloc o3) := by rw [setRow_alloc_past _ _ _ _ (by simp; try omega), setRow_alloc_past _ _ _ _ (by simp; try omega), setRow_alloc_past _ _ _ _ (by simp; try omega), setRow_alloc_at _ _ _ _ _ (by simp)]
theorem hp_4_1 (w : World) (o0 o1 o2 o3 : Obj) : ((((w.alloc o0).alloc o1).alloc o2).alloc o3).heap[w.heap.size + 1]? = some o1 := (heap_alloc_past _ _ _ (by simp; try omega)).trans ((heap_alloc_past _ _ _ (by simp; try omega)).trans (heap_alloc_at _ _ _ (by simp)))
theorem sr_4_1 (w : World) (o0 o2 o3 : Obj) (c c' : Array Value) (t : TypeId) : ((((w.alloc o0).alloc (.cells c t)).alloc o2).alloc o3).setRow (w.heap.size + 1) c' = ((((w.alloc o0).alloc (.cells c' t)).alloc o2).alloc o3) := by rw [setRow_alloc_past _ _ _ _ (by simp; try omega), setRow_alloc_past _ _ _ _ (by simp; try omega), setRow_alloc_at _ _ _ _ _ (by simp)]
theorem hp_4_2 (w : World) (o0 o1 o2 o3 : Obj) : ((((w.alloc o0).alloc o1).alloc o2).alloc o3).heap[w.heap.size + 1 + 1]? = some o2 := (heap_alloc_past _ _ _ (by simp; try omega)).trans (heap_alloc_at _ _ _ (by simp))
theorem sr_4_2 (w : World) (o0 o1 o3 : Obj) (c c' : Array Value) (t : TypeId) : ((((w.alloc o0).alloc o1).alloc (.cells c t)).alloc o3).setRow (w.heap.size + 1 + 1) c' = ((((w.alloc o0).alloc o1).alloc (.cells c' t)).alloc o3) := by rw [setRow_alloc_past _ _ _ _ (by simp; try omega), setRow_alloc_at _ _ _ _ _ (by simp)]
theorem hp_4_3 (w : World) (o0 o1 o2 o3 : Obj) : ((((w.alloc o0).alloc o1).alloc o2).alloc o3).heap[w.heap.size + 1 + 1 + 1]? = some o3 := heap_alloc_at _ _ _ (by simp)
theorem sr_4_3 (w : World) (o0 o1 o2 : Obj) (c c' : Array Value) (t : TypeId) : ((((w.alloc o0).alloc o1).alloc o2).alloc (.cells c t)).setRow (w.heap.size + 1 + 1 + 1) c' = ((((w.alloc o0).alloc o1).alloc o2).alloc (.cells c' t)) := by rw [setRow_alloc_at _ _ _ _ _ (by simp)]
theorem hp_5_0 (w : World) (o0 o1 o2 o3 o4 : Obj) : (((((w.alloc o0).alloc o1).alloc o2).alloc o3).alloc o4).heap[w.heap.size]? = some o0 := (heap_alloc_past _ _ _ (by simp; try omega)).trans ((heap_alloc_past _ _ _ (by simp; try omega)).trans ((heap_alloc_past _ _ _ (by simp; try omega)).trans ((heap_alloc_past _ _ _ (by simp; try omega)).trans (heap_alloc_at _ _ _ (by simp)))))
theorem sr_5_0 (w : World) (o1 o2 o3 o4 : Obj) (c c' : Array Value) (t : TypeId) : (((((w.alloc (.cells c t)).alloc o1).alloc o2).alloc o3).alloc o4).setRow (w.heap.size) c' = (((((w.alloc (.cells c' t)).alloc o1).alloc o2).alloc o3).alloc o4) := by rw [setRow_alloc_past _ _ _ _ (by simp; try omega), setRow_alloc_past _ _ _ _ (by simp; try omega), setRow_alloc_past _ _ _ _ (by simp; try omega), setRow_alloc_past _ _ _ _ (by simp; try omega), setRow_alloc_at _ _ _ _ _ (by simp)]
theorem hp_5_1 (w : World) (o0 o1 o2 o3 o4 : Obj) : (((((w.alloc o0).alloc o1).alloc o2).alloc o3).alloc o4).heap[w.heap.size + 1]? = some o1 := (heap_alloc_past _ _ _ (by simp; try omega)).trans ((heap_alloc_past _ _ _ (by simp; try omega)).trans ((heap_alloc_past _ _ _ (by simp; try omega)).trans (heap_alloc_at _ _ _ (by simp))))
theorem sr_5_1 (w : World) (o0 o2 o3 o4 : Obj) (c c' : Array Value) (t : TypeId) : (((((w.alloc o0).alloc (.cells c t)).alloc o2).alloc o3).alloc o4).setRow (w.heap.size + 1) c' = (((((w.alloc o0).alloc (.cells c' t)).alloc o2).alloc o3).alloc o4) := by rw [setRow_alloc_past _ _ _ _ (by simp; try omega), setRow_alloc_past _ _ _ _ (by simp; try omega), setRow_alloc_past _ _ _ _ (by simp; try omega), setRow_alloc_at _ _ _ _ _ (by simp)]
theorem hp_5_2 (w : World) (o0 o1 o2 o3 o4 : Obj) : (((((w.alloc o0).alloc o1).alloc o2).alloc o3).alloc o4).heap[w.heap.size + 1 + 1]? = some o2 := (heap_alloc_past _ _ _ (by simp; try omega)).trans ((heap_alloc_past _ _ _ (by simp; try omega)).trans (heap_alloc_at _ _ _ (by simp)))
theorem sr_5_2 (w : World) (o0 o1 o3 o4 : Obj) (c c' : Array Value) (t : TypeId) : (((((w.alloc o0).alloc o1).alloc (.cells c t)).alloc o3).alloc o4).setRow (w.heap.size + 1 + 1) c' = (((((w.alloc o0).alloc o1).alloc (.cells c' t)).alloc o3).alloc o4) := by rw [setRow_alloc_past _ _ _ _ (by simp; try omega), setRow_alloc_past _ _ _ _ (by simp; try omega), setRow_alloc_at _ _ _ _ _ (by simp)]
theorem hp_5_3 (w : World) (o0 o1 o2 o3 o4 : Obj) : (((((w.alloc o0).alloc o1).alloc o2).alloc o3).alloc o4).heap[w.heap.size + 1 + 1 + 1]? = some o3 := (heap_alloc_past _ _ _ (by simp; try omega)).trans (heap_alloc_at _ _ _ (by simp))
theorem sr_5_3 (w : World) (o0 o1 o2 o4 : Obj) (c c' : Array Value) (t : TypeId) : (((((w.alloc o0).alloc o1).alloc o2).alloc (.cells c t)).alloc o4).setRow (w.heap.size + 1 + 1 + 1) c' = (((((w.alloc o0).alloc o1).alloc o2).alloc (.cells c' t)).alloc o4) := by rw [setRow_alloc_past _ _ _ _ (by simp; try omega), setRow_alloc_at _ _ _ _ _ (by simp)]
theorem hp_5_4 (w : World) (o0 o1 o2 o3 o4 : Obj) : (((((w.alloc o0).alloc o1).alloc o2).alloc o3).alloc o4).heap[w.heap.size + 1 + 1 + 1 + 1]? = some o4 := heap_alloc_at _ _ _ (by simp)
theorem sr_5_4 (w : World) (o0 o1 o2 o3 : Obj) (c c' : Array Value) (t : TypeId) : (((((w.alloc o0).alloc o1).alloc o2).alloc o3).alloc (.cells c t)).setRow (w.heap.size + 1 + 1 + 1 + 1) c' = (((((w.alloc o0).alloc o1).alloc o2).alloc o3).alloc (.cells c' t)) := by rw [setRow_alloc_at _ _ _ _ _ (by simp)]
end Go.Proofs.Ytlgjdejlnelndaa
