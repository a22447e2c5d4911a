/-
  Rows of slices, rows of digests, of any number.
-/
import Derived.Test.YtoibhbmcplhiaaaDoorShaBits
namespace Go.Proofs.YtoibhbmcplhiaaaDoor
open Go Go.RowKit

def rowS (n : Nat) (pa : Nat → Option Addr) (pc : Nat → Nat) (pB : Nat → List UInt8) : Array Value := ((List.range n).map fun k => Value.slice (pa k) (pB k).length (pc k)).toArray
theorem rowS_get {n : Nat} {pa : Nat → Option Addr} {pc : Nat → Nat} {pB : Nat → List UInt8} {k : Nat} (h : k < n) : (rowS n pa pc pB)[k]? = some (.slice (pa k) (pB k).length (pc k)) := by
  simp [rowS, h]
def AllB (w : World) (n : Nat) (pa : Nat → Option Addr) (pc : Nat → Nat) (pB : Nat → List UInt8) : Prop := ∀ k, k < n → Bs w (pa k) (pc k) (pB k)
theorem AllB.pers0 {w : World} {n : Nat} {pa : Nat → Option Addr} {pc : Nat → Nat} {pB : Nat → List UInt8} (h : AllB w n pa pc pB) : Pers (fun _ => False) (fun w => AllB w n pa pc pB) w := by
  refine ⟨fun b => b < w.heap.size, fun b hb => ⟨hb, id⟩, fun w' hw k hk => ?_⟩
  obtain ⟨S, s1, s2⟩ := (h k hk).pers0
  exact s2 w' (fun b hb => hw b (s1 b hb).1)
theorem allB2 {w : World} {a0 a1 : Option Addr} {c0 c1 : Nat} {B0 B1 : List UInt8} (h0 : Bs w a0 c0 B0) (h1 : Bs w a1 c1 B1) : AllB w 2 (fun k => [a0, a1].getD k none) (fun k => [c0, c1].getD k 0) (fun k => [B0, B1].getD k []) := by
  intro k hk
  rcases (by omega : k = 0 ∨ k = 1) with rfl | rfl
  · exact h0
  · exact h1
theorem allB3 {w : World} {a0 a1 a2 : Option Addr} {c0 c1 c2 : Nat} {B0 B1 B2 : List UInt8} (h0 : Bs w a0 c0 B0) (h1 : Bs w a1 c1 B1) (h2 : Bs w a2 c2 B2) : AllB w 3 (fun k => [a0, a1, a2].getD k none) (fun k => [c0, c1, c2].getD k 0) (fun k => [B0, B1, B2].getD k []) := by
  intro k hk
  rcases (by omega : k = 0 ∨ k = 1 ∨ k = 2) with rfl | rfl | rfl
  · exact h0
  · exact h1
  · exact h2
def catB (pB : Nat → List UInt8) : Nat → List UInt8
  | 0 => []
  | k + 1 => catB pB k ++ pB k
theorem catB_le (pB : Nat → List UInt8) {i n : Nat} (h : i ≤ n) : (catB pB i).length ≤ (catB pB n).length := by
  induction n with
  | zero => rw [show i = 0 by omega]; exact Nat.le_refl _
  | succ n ih =>
    rcases (by omega : i ≤ n ∨ i = n + 1) with e | e
    · rw [catB, List.length_append]; have := ih e; omega
    · rw [e]; exact Nat.le_refl _
theorem catB_next (pB : Nat → List UInt8) {i n : Nat} (h : i < n) : (catB pB i).length + (pB i).length ≤ (catB pB n).length := by
  have := catB_le pB (i := i + 1) (n := n) h
  rw [catB, List.length_append] at this
  exact this
def rowH (n : Nat) (pA : Nat → Nat) : Array Value := ((List.range n).flatMap fun k => (hB (pA k)).toList).toArray
theorem flat_get {f : Nat → List Value} (hf : ∀ k, (f k).length = 32) : ∀ n i j, i < n → j < 32 → ((List.range n).flatMap f)[i * 32 + j]? = (f i)[j]?
  | 0, i, j, h, _ => by omega
  | n + 1, i, j, h, hj => by
    have hl : ∀ m, ((List.range m).flatMap f).length = m * 32 := by
      intro m
      induction m with
      | zero => rfl
      | succ m ih => rw [List.range_succ, List.flatMap_append, List.length_append, ih]; simp [hf]; omega
    rw [List.range_succ, List.flatMap_append]
    rcases (by omega : i < n ∨ i = n) with e | e
    · rw [List.getElem?_append_left (by rw [hl]; omega)]
      exact flat_get hf n i j e hj
    · subst e
      rw [List.getElem?_append_right (by rw [hl]; omega), hl, Nat.add_sub_cancel_left]
      simp
theorem rowH_get {n : Nat} {pA : Nat → Nat} {i j : Nat} (h : i < n) (hj : j < 32) : (rowH n pA)[i * 32 + j]? = (hB (pA i))[j]? := by
  unfold rowH
  rw [List.getElem?_toArray, flat_get (fun k => by simp [hB_size]) n i j h hj]
  simp
theorem zero_M : 0 < M := by rw [M_eq]; decide
theorem allM2 {A B : Nat} (h0 : A < M) (h1 : B < M) : ∀ k, [A, B].getD k 0 < M
  | 0 => h0
  | 1 => h1
  | _ + 2 => zero_M
theorem allM3 {A B C : Nat} (h0 : A < M) (h1 : B < M) (h2 : C < M) : ∀ k, [A, B, C].getD k 0 < M
  | 0 => h0
  | 1 => h1
  | 2 => h2
  | _ + 3 => zero_M
theorem rowH2 (A B : Nat) : rowH 2 (fun k => [A, B].getD k 0) = hB A ++ hB B := by
  unfold rowH
  rw [show List.range 2 = [0, 1] from rfl]
  apply Array.ext'
  simp
theorem rowH3 (A B C : Nat) : rowH 3 (fun k => [A, B, C].getD k 0) = hB A ++ hB B ++ hB C := by
  unfold rowH
  rw [show List.range 3 = [0, 1, 2] from rfl]
  apply Array.ext'
  simp
section
variable {P : Program} {t e : TypeId}
theorem idx_rowS (ht : P.underlying t = some (.slice e)) (hs : ∀ w, (sizeOf e).run P w = .ok 1 w) {g m c : Nat} {k : IntKind} {z : Int} {j : Nat} (hz : z = (j : Int)) (hj : j < m) (w : World) :
    (do pure (Next.value (← Instr.indexAt t (.slice (some ⟨g, 0, none⟩) m c) (.int k z))) : Sem Next).run P w = .ok (.value (.pointer (some ⟨g, j, none⟩))) w := by
  subst hz
  have := run_idx_slice (P := P) (t := t) (elem := e) (len := m) (cap := c) (s := 1) (g := g) (off := 0) (k := k) (n := j) ht hs (by omega) (by omega) w
  simpa using this
theorem idx_rowN (ht : P.underlying t = some (.slice e)) {sz : Nat} (hs : ∀ w, (sizeOf e).run P w = .ok sz w) {g m c : Nat} {k : IntKind} {z : Int} {j : Nat} (hz : z = (j : Int)) (hj : j < m) (w : World) :
    (do pure (Next.value (← Instr.indexAt t (.slice (some ⟨g, 0, none⟩) m c) (.int k z))) : Sem Next).run P w = .ok (.value (.pointer (some ⟨g, j * sz, none⟩))) w := by
  subst hz
  have := run_idx_slice (P := P) (t := t) (elem := e) (len := m) (cap := c) (s := sz) (g := g) (off := 0) (k := k) (n := j) ht hs (by omega) (by omega) w
  simpa using this
end
end Go.Proofs.YtoibhbmcplhiaaaDoor
