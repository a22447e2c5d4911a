/-
  A region of operations, drawn or in the text's order; operations carried out on the blocks that are known.
-/
import Derived.Test.YtlgjdejlnelndaaGhost2
import Derived.Test.YtlgjdejlnelndaaInv
namespace Go.Proofs.Ytlgjdejlnelndaa
open Go Go.RowKit

theorem St.drew {w0 w : World} {h : List (Nat × Obj)} {F : World → Prop} (hS : St w0 h F w) : St w0 h F w.drew :=
  ⟨hS.below.drew, hS.at_, hS.nodup, by
    obtain ⟨S, h1, h2⟩ := hS.facts
    exact ⟨S, h1, h2⟩⟩

section
variable {P : Program} {ops : Array Oper} {D : List Nat} {l : List (Nat × Value)} {a : Act} {w0 : World} {h : List (Nat × Obj)} {F0 : World → Prop}
variable {vals : (Nat → Orc) → Nat → Value} {effs : (Nat → Orc) → Nat → Eff} {fact : (Nat → Orc) → Nat → World → Prop} {Q : Exit → Act → World → Prop}

/-- The law of a region that draws its order. -/
theorem wp_region_ghost {id : Nat} {w : World} (hm : P.follows .mixedOrders = true) (hdn : Downward .any ops = true) (hD : DOk ops D = true) (hok : DstOk ops a.tmps.size = true) (hlook : LooksOk ops D l = true)
    (hloc : ∀ j, j < ops.size → Loc D vals effs fact j) (hobl : ∀ i, i < ops.size → Obl P ops D l w0 h F0 vals effs fact i) (keep : List Nat) (hkeep : keepOk ops l keep = true) (hfr : Fr a.tmps.size l a) (hS : St w0 h F0 w)
    (hend : ∀ ρ A w', Fr a.tmps.size (finL ops l (vals ρ) keep) A → St w0 (finH ops.size h (effs ρ)) (fun w => F0 w ∧ ∀ i, i < ops.size → fact ρ i w) w' → Q .normal A w') : (Code.region id ops true).wp P Q a w := by
  have dj : ∀ i, i < ops.size → ∀ j, dep D i j = true → j < i ∧ ∃ e ∈ edgesOf ops i, e = j ∨ dep D e j = true := by
    intro i hi j hd
    unfold DOk at hD
    rw [List.all_eq_true] at hD
    have h1 := hD i (List.mem_range.2 hi)
    rw [Bool.and_eq_true, List.all_eq_true, decide_eq_true_eq] at h1
    have hji : j < i := by
      by_cases hh : j < i
      · exact hh
      · unfold dep at hd
        rw [Nat.testBit_lt_two_pow (Nat.lt_of_lt_of_le h1.1 (Nat.pow_le_pow_right (by omega) (by omega)))] at hd
        exact absurd hd (by simp)
    have h2 := h1.2 j (List.mem_range.2 hji)
    rw [hd] at h2
    simp only [Bool.not_true, Bool.false_or, List.any_eq_true, Bool.or_eq_true, beq_iff_eq] at h2
    exact ⟨hji, h2⟩
  refine wp_region_inv hm (fun L A w => ∃ ρ, L.size = ops.size ∧ RInv ops D w0 h F0 vals effs fact a (fun i => L.getD i false) A w ρ) hdn ?_ ?_ ?_
  · refine ⟨fun _ => {}, by simp, (inv_start hS.drew _).congrL (fun i => ?_)⟩
    rw [Array.getD_eq_getD_getElem?, Array.getElem?_replicate]; split <;> rfl
  · rintro L A w' i o ⟨ρ, hsz, hI⟩ ho hl hdeps
    have hi : i < ops.size := by
      by_cases hh : i < ops.size
      · exact hh
      · rw [Array.getElem?_eq_none (by omega)] at ho; exact absurd ho (by simp)
    have hlf : L.getD i false = false := by
      rw [Array.getD_eq_getD_getElem?] at hl ⊢
      cases hq : L[i]? with
      | none => rfl
      | some b => rw [hq] at hl; simpa using hl
    have hdL : ∀ j, dep D i j = true → L.getD j false = true := by
      intro j hj
      obtain ⟨_, e, he, hej⟩ := dj i hi j hj
      have hLe : L.getD e false = true := by
        unfold edgesOf at he
        rw [ho] at he
        simp only [Option.map_some, Option.getD_some, List.mem_map, List.mem_filter, Array.mem_toList_iff] at he
        obtain ⟨ed, ⟨h1, h2⟩, rfl⟩ := he
        exact hdeps ed h1 h2
      rcases hej with rfl | hej
      · exact hLe
      · exact hI.closed e j hLe hej
    refine wpOp_mono ?_ (step_inv hI hok hlf hi hdL (fun j hj => (dj i hi j hj).1) hlook hfr hloc (hobl i hi))
    rintro A' w2 ⟨ρ', hI'⟩
    refine ⟨ρ', by simpa using hsz, hI'.congrL (fun j => ?_)⟩
    unfold addL
    simp only [Array.getD_eq_getD_getElem?, Array.getElem?_setIfInBounds]
    by_cases hij : i = j
    · subst hij
      rw [if_pos rfl, if_pos (by omega)]; simp
    · rw [if_neg hij, decide_eq_false (fun e => hij e.symm), Bool.or_false]
  · rintro L A w' ⟨ρ, hsz, hI⟩ hall
    obtain ⟨h1, h2⟩ := inv_end hI (fun i hi => by
      have := hall i hi
      rw [Array.getD_eq_getD_getElem?] at this ⊢
      rw [Array.getElem?_eq_getElem (by omega)] at this ⊢
      simpa using this) hfr
    exact hend ρ A w' (h1 keep hkeep) h2

/-- The law of a region in the text's order. -/
theorem wp_region_ghost' {id : Nat} {w : World} (hD : DSeq ops.size D = true) (hok : DstOk ops a.tmps.size = true) (hlook : LooksOk ops D l = true)
    (hloc : ∀ j, j < ops.size → Loc D vals effs fact j) (hobl : ∀ i, i < ops.size → Obl P ops D l w0 h F0 vals effs fact i) (keep : List Nat) (hkeep : keepOk ops l keep = true) (hfr : Fr a.tmps.size l a) (hS : St w0 h F0 w)
    (hend : ∀ ρ A w', Fr a.tmps.size (finL ops l (vals ρ) keep) A → St w0 (finH ops.size h (effs ρ)) (fun w => F0 w ∧ ∀ i, i < ops.size → fact ρ i w) w' → Q .normal A w') : (Code.region id ops false).wp P Q a w := by
  have dj : ∀ i, i < ops.size → ∀ j, dep D i j = decide (j < i) := by
    intro i hi j
    unfold DSeq at hD
    rw [List.all_eq_true] at hD
    have h1 := hD i (List.mem_range.2 hi)
    unfold dep
    rw [show D.getD i 0 = 2 ^ i - 1 by simpa using h1, Nat.testBit_two_pow_sub_one]
  apply wp_region
  have key : ∀ m k A w, k + m = ops.size → (∃ ρ, RInv ops D w0 h F0 vals effs fact a (fun i => decide (i < k)) A w ρ) → wpOps P ops Q (List.range' k m) A w := by
    intro m
    induction m with
    | zero =>
      rintro k A w hk ⟨ρ, hI⟩
      obtain ⟨h1, h2⟩ := inv_end hI (fun i hi => by simp; omega) hfr
      exact hend ρ A w (h1 keep hkeep) h2
    | succ m ih =>
      rintro k A w hk ⟨ρ, hI⟩
      rw [List.range'_succ, wpOps_cons]
      refine wpOp_mono ?_ (step_inv (i := k) hI hok (by simp) (by omega) (fun j hj => ?_) (fun j hj => ?_) hlook hfr hloc (hobl k (by omega)))
      · rintro A' w2 ⟨ρ', hI'⟩
        refine ih (k + 1) A' w2 (by omega) ⟨ρ', hI'.congrL (fun j => ?_)⟩
        unfold addL
        by_cases h1 : j = k
        · subst h1; simp
        · rw [decide_eq_false h1, Bool.or_false, decide_eq_decide]; omega
      · rw [dj k (by omega)] at hj; exact hj
      · rw [dj k (by omega)] at hj; simpa using hj
  rw [List.range_eq_range']
  exact key ops.size 0 a w (by omega) ⟨fun _ => {}, (inv_start hS _).congrL (fun i => by simp)⟩
end

/-! ### An operation on known blocks -/
def cellIn : Obj → Addr → Option Value
  | .cells c _ _, a => if a.spot.isSome then none else c[a.off]?
  | _, _ => none
def frozenIn : Obj → Nat → Bool
  | .cells _ _ (lo, hi), o => lo ≤ o && o < hi
  | _, _ => false
def putIn : Obj → Nat → Value → Obj
  | .cells c e f, o, v => .cells (c.setIfInBounds o v) e f
  | o, _, _ => o
def shapeIn : Obj → Option (TypeId × Nat)
  | .cells c e _ => some (e, c.size)
  | _ => none
def plainV : Value → Bool
  | .agg _ => false
  | .tuple _ => false
  | _ => true
/-- The run, over the blocks K that are known; picks says which one is asked (the first where it says nothing); ns are the numbers of new blocks. What is left to be shown: the numbers that must be equal. -/
def grun (P : Program) {α : Type} : Sem α → List Nat → List (Nat × Obj) → List Nat → Option (α × List (Nat × Obj) × List (Nat × Nat))
  | .pure a, _, K, _ => some (a, K, [])
  | .load _ a k, ps, K, ns => match K[ps.headD 0]? with
    | some (g, o) => match cellIn o a with
      | some v => (grun P (k v) ps.tail K ns).map fun r => (r.1, r.2.1, (a.block, g) :: r.2.2)
      | none => none
    | none => none
  | .store _ a v k, ps, K, ns => match plainV v, K[ps.headD 0]? with
    | true, some (g, o) => match cellIn o a, frozenIn o a.off with
      | some _, false => (grun P k ps.tail (K.set (ps.headD 0) (g, putIn o a.off v)) ns).map fun r => (r.1, r.2.1, (a.block, g) :: r.2.2)
      | _, _ => none
    | _, _ => none
  | .new o k, ps, K, ns => grun P (k (ns.headD 0)) ps (K ++ [(ns.headD 0, o)]) ns.tail
  | .shape b k, ps, K, ns => match K[ps.headD 0]? with
    | some (g, o) => match shapeIn o with
      | some s => (grun P (k (some s)) ps.tail K ns).map fun r => (r.1, r.2.1, (b, g) :: r.2.2)
      | none => none
    | none => none
  | .frozen a k, ps, K, ns => match K[ps.headD 0]? with
    | some (g, o) => (grun P (k (frozenIn o a.off)) ps.tail K ns).map fun r => (r.1, r.2.1, (a.block, g) :: r.2.2)
    | none => none
  | .program k, ps, K, ns => grun P (k P) ps K ns
  | .mark _ k, ps, K, ns => grun P k ps K ns
  | _, _, _, _ => none
def Eqs : List (Nat × Nat) → Prop
  | [] => True
  | e :: l => e.1 = e.2 ∧ Eqs l

/-- The numbers of new blocks, as the run itself has them. -/
def newsOf (P : Program) {α : Type} : Sem α → World → List Nat
  | .pure _, _ => []
  | .load _ a k, w => match w.cell? a with
    | some v => newsOf P (k v) w
    | none => []
  | .store _ a v k, w => newsOf P k (w.setCell a v)
  | .new o k, w => w.heap.size :: newsOf P (k w.heap.size) { w with heap := w.heap.push o }
  | .shape r k, w => newsOf P (k (w.shape? r)) w
  | .frozen a k, w => newsOf P (k (w.frozen? a)) w
  | .program k, w => newsOf P (k P) w
  | .mark _ k, w => newsOf P k w
  | _, _ => []

def Knows (K : List (Nat × Obj)) (w : World) : Prop := ∀ x ∈ K, w.heap[x.1]? = some x.2
theorem cell_in {w : World} {o : Obj} {a : Addr} (h : w.heap[a.block]? = some o) {v : Value} (hc : cellIn o a = some v) : w.cell? a = some v := by
  unfold World.cell?
  rw [h]
  cases o <;> simp only [cellIn] at hc <;> first | exact hc | (simp at hc; done)
theorem frozen_in {w : World} {o : Obj} {a : Addr} (h : w.heap[a.block]? = some o) : w.frozen? a = frozenIn o a.off := by
  unfold World.frozen?
  rw [h]
  cases o <;> rfl
theorem shape_in {w : World} {o : Obj} {b : Nat} (h : w.heap[b]? = some o) {s : TypeId × Nat} (hs : shapeIn o = some s) : w.shape? b = some s := by
  unfold World.shape?
  rw [h]
  cases o <;> simp only [shapeIn] at hs <;> first | exact hs | (simp at hs; done)
theorem put_in {w : World} {o : Obj} {a : Addr} (h : w.heap[a.block]? = some o) {u : Value} (hc : cellIn o a = some u) (v : Value) : (w.setCell a v).heap[a.block]? = some (putIn o a.off v) := by
  simp only [World.setCell, Array.getElem?_modify, if_true, h, Option.map_some]
  cases o <;> simp only [cellIn] at hc <;> first | (simp at hc; done) | skip
  simp only [putIn]
  by_cases hs : a.spot.isSome = true
  · rw [if_pos hs] at hc; simp at hc
  · rw [if_neg hs]
theorem mem_set_cases {α : Type} {l : List α} {i : Nat} {x y : α} (h : y ∈ l.set i x) : y = x ∨ ∃ j, j ≠ i ∧ l[j]? = some y := by
  obtain ⟨j, hj⟩ := List.mem_iff_getElem?.1 h
  rw [List.getElem?_set] at hj
  by_cases hij : i = j
  · subst hij
    rw [if_pos rfl] at hj
    split at hj
    · left; simpa using hj.symm
    · simp at hj
  · rw [if_neg hij] at hj
    exact Or.inr ⟨j, fun e => hij e.symm, hj⟩
theorem nodup_get {l : List (Nat × Obj)} (h : (l.map (·.1)).Nodup) {i j : Nat} {g g' : Nat} {o o' : Obj} (hi : l[i]? = some (g, o)) (hj : l[j]? = some (g', o')) (hne : i ≠ j) : g ≠ g' := by
  rintro rfl
  have hpw := List.pairwise_iff_getElem.1 h
  have p1 : (l.map (·.1))[i]? = some g := by rw [List.getElem?_map, hi]; rfl
  have p2 : (l.map (·.1))[j]? = some g := by rw [List.getElem?_map, hj]; rfl
  obtain ⟨l1, p1'⟩ := List.getElem?_eq_some_iff.1 p1
  obtain ⟨l2, p2'⟩ := List.getElem?_eq_some_iff.1 p2
  rcases Nat.lt_trichotomy i j with hl | hl | hl
  · exact absurd (p1'.trans p2'.symm) (hpw _ _ l1 l2 hl)
  · exact hne hl
  · exact absurd (p2'.trans p1'.symm) (hpw _ _ l2 l1 hl)

/-- What a run over known blocks says of the run itself. -/
def GOk {α : Type} (P : Program) (s : Sem α) (w : World) (K : List (Nat × Obj)) (x : α) (K' : List (Nat × Obj)) (w' : World) : Prop :=
  s.run P w = .ok x w' ∧ Knows K' w' ∧ K'.map (·.1) = K.map (·.1) ++ newsOf P s w ∧ Upd (fun b => b ∈ K.map (·.1)) w w' ∧ (∀ b ∈ newsOf P s w, w.heap.size ≤ b) ∧ (newsOf P s w).Nodup
theorem grun_sound {α : Type} {P : Program} (s : Sem α) : ∀ (ps : List Nat) (K : List (Nat × Obj)) (w : World) (x : α) (K' : List (Nat × Obj)) (es : List (Nat × Nat)),
    Knows K w → (K.map (·.1)).Nodup → grun P s ps K (newsOf P s w) = some (x, K', es) → Eqs es → ∃ w', GOk P s w K x K' w' := by
  induction s with
  | pure a =>
    intro ps K w x K' es hK hN hg he
    simp only [grun, Option.some.injEq, Prod.mk.injEq] at hg
    obtain ⟨rfl, rfl, rfl⟩ := hg
    exact ⟨w, rfl, hK, by simp [newsOf], Upd.refl _ _, by simp [newsOf], by simp [newsOf]⟩
  | load m a k ih =>
    intro ps K w x K' es hK hN hg he
    simp only [grun] at hg
    split at hg
    · rename_i g o hq
      split at hg
      · rename_i v hc
        have hmem := List.mem_of_getElem? hq
        rw [Option.map_eq_some_iff] at hg
        obtain ⟨⟨x1, K1, es1⟩, hg1, hg2⟩ := hg
        simp only [Prod.mk.injEq] at hg2
        obtain ⟨rfl, rfl, rfl⟩ := hg2
        obtain ⟨he1, he2⟩ := he
        simp only at he1
        have hcell : w.cell? a = some v := cell_in (by rw [he1]; exact hK _ hmem) hc
        have hnews : newsOf P (.load m a k) w = newsOf P (k v) w := by simp only [newsOf, hcell]
        rw [hnews] at hg1
        obtain ⟨w', h1, h2, h3, h4, h5, h6⟩ := ih v _ K w _ _ _ hK hN hg1 he2
        exact ⟨w', by simp only [Sem.run, hcell]; exact h1, h2, by rw [hnews]; exact h3, h4, by rw [hnews]; exact h5, by rw [hnews]; exact h6⟩
      · exact absurd hg (by simp)
    · exact absurd hg (by simp)
  | store m a v k ih =>
    intro ps K w x K' es hK hN hg he
    simp only [grun] at hg
    split at hg
    · rename_i g o hpv hq
      split at hg
      · rename_i u hc hfz
        have hmem := List.mem_of_getElem? hq
        rw [Option.map_eq_some_iff] at hg
        obtain ⟨⟨x1, K1, es1⟩, hg1, hg2⟩ := hg
        simp only [Prod.mk.injEq] at hg2
        obtain ⟨rfl, rfl, rfl⟩ := hg2
        obtain ⟨he1, he2⟩ := he
        simp only at he1
        have hblk : w.heap[a.block]? = some o := by rw [he1]; exact hK _ hmem
        have hcell : w.cell? a = some u := cell_in hblk hc
        have hfr : w.frozen? a = false := by rw [frozen_in hblk]; exact hfz
        have hnews : newsOf P (.store m a v k) w = newsOf P k (w.setCell a v) := by simp only [newsOf]
        rw [hnews] at hg1
        have hset : (K.set (ps.headD 0) (g, putIn o a.off v)).map (·.1) = K.map (·.1) := by
          apply List.ext_getElem?
          intro j
          rw [List.getElem?_map, List.getElem?_map, List.getElem?_set]
          by_cases hj : ps.headD 0 = j
          · subst hj
            rw [if_pos rfl, if_pos (List.getElem?_eq_some_iff.1 hq).1, hq]; rfl
          · rw [if_neg hj]
        have hK1 : Knows (K.set (ps.headD 0) (g, putIn o a.off v)) (w.setCell a v) := by
          intro y hy
          rcases mem_set_cases hy with rfl | ⟨j, hj, hjy⟩
          · simp only
            rw [← he1]; exact put_in hblk hc v
          · obtain ⟨g', o'⟩ := y
            have hne := nodup_get hN hjy hq hj
            have := hK _ (List.mem_of_getElem? hjy)
            simp only at this ⊢
            rw [Below.heap_setCell _ _ _ _ (by rw [he1]; exact hne)]
            exact this
        obtain ⟨w', h1, h2, h3, h4, h5, h6⟩ := ih _ _ (w.setCell a v) _ _ _ hK1 (by rw [hset]; exact hN) hg1 he2
        have hsz : (w.setCell a v).heap.size = w.heap.size := by simp [World.setCell]
        refine ⟨w', ?_, h2, by rw [hnews, h3, hset], ?_, by rw [hnews, ← hsz]; exact h5, by rw [hnews]; exact h6⟩
        · cases v <;> simp only [plainV, Bool.false_eq_true] at hpv <;> (simp only [Sem.run, hcell, hfr, Bool.false_eq_true, if_false]; exact h1)
        · rw [hset] at h4
          refine Upd.trans (b := w.setCell a v) ⟨rfl, rfl, rfl, by omega, fun b hb hnb => ?_⟩ h4
          apply Below.heap_setCell
          rintro rfl
          apply hnb
          rw [he1]
          exact List.mem_map.2 ⟨(g, o), hmem, rfl⟩
      · exact absurd hg (by simp)
    · exact absurd hg (by simp)
  | new o k ih =>
    intro ps K w x K' es hK hN hg he
    simp only [grun, newsOf, List.headD_cons, List.tail_cons] at hg
    have hK1 : Knows (K ++ [(w.heap.size, o)]) { w with heap := w.heap.push o } := by
      intro y hy
      rcases List.mem_append.1 hy with hy | hy
      · have h1 := hK y hy
        have hlt : y.1 < w.heap.size := (Array.getElem?_eq_some_iff.1 h1).1
        show (w.heap.push o)[y.1]? = _
        rw [Array.getElem?_push, if_neg (by omega)]; exact h1
      · simp only [List.mem_singleton] at hy
        subst hy
        show (w.heap.push o)[w.heap.size]? = _
        simp
    have hlt : ∀ b ∈ K.map (·.1), b < w.heap.size := by
      intro b hb
      obtain ⟨y, hy, rfl⟩ := List.mem_map.1 hb
      exact (Array.getElem?_eq_some_iff.1 (hK y hy)).1
    have hN1 : ((K ++ [(w.heap.size, o)]).map (·.1)).Nodup := by
      rw [List.map_append]
      refine List.nodup_append.2 ⟨hN, by simp, ?_⟩
      intro b hb c hc
      simp only [List.map_cons, List.map_nil, List.mem_singleton] at hc
      have := hlt b hb
      omega
    obtain ⟨w', h1, h2, h3, h4, h5, h6⟩ := ih w.heap.size _ _ { w with heap := w.heap.push o } _ _ _ hK1 hN1 hg he
    have hsz : ({ w with heap := w.heap.push o } : World).heap.size = w.heap.size + 1 := by simp
    rw [hsz] at h5
    refine ⟨w', by simp only [Sem.run]; exact h1, h2, by rw [h3]; simp [newsOf], ?_, ?_, ?_⟩
    · refine ⟨h4.os, h4.tape, h4.output, by have := h4.size; rw [hsz] at this; omega, fun b hb hnb => ?_⟩
      rw [h4.block b (by rw [hsz]; omega) ?_]
      · show (w.heap.push o)[b]? = _
        rw [Array.getElem?_push, if_neg (by omega)]
      · rw [List.map_append]
        intro hm
        rcases List.mem_append.1 hm with hm | hm
        · exact hnb hm
        · simp only [List.map_cons, List.map_nil, List.mem_singleton] at hm; omega
    · intro b hb
      simp only [newsOf, List.mem_cons] at hb
      rcases hb with rfl | hb
      · omega
      · have := h5 b hb; omega
    · simp only [newsOf]
      refine List.nodup_cons.2 ⟨fun hm => ?_, h6⟩
      have := h5 _ hm; omega
  | shape b k ih =>
    intro ps K w x K' es hK hN hg he
    simp only [grun] at hg
    split at hg
    · rename_i g o hq
      split at hg
      · rename_i s hs
        have hmem := List.mem_of_getElem? hq
        rw [Option.map_eq_some_iff] at hg
        obtain ⟨⟨x1, K1, es1⟩, hg1, hg2⟩ := hg
        simp only [Prod.mk.injEq] at hg2
        obtain ⟨rfl, rfl, rfl⟩ := hg2
        obtain ⟨he1, he2⟩ := he
        simp only at he1
        have hsh : w.shape? b = some s := shape_in (by rw [he1]; exact hK _ hmem) hs
        have hnews : newsOf P (.shape b k) w = newsOf P (k (some s)) w := by simp only [newsOf, hsh]
        rw [hnews] at hg1
        obtain ⟨w', h1, h2, h3, h4, h5, h6⟩ := ih (some s) _ K w _ _ _ hK hN hg1 he2
        exact ⟨w', by simp only [Sem.run, hsh]; exact h1, h2, by rw [hnews]; exact h3, h4, by rw [hnews]; exact h5, by rw [hnews]; exact h6⟩
      · exact absurd hg (by simp)
    · exact absurd hg (by simp)
  | frozen a k ih =>
    intro ps K w x K' es hK hN hg he
    simp only [grun] at hg
    split at hg
    · rename_i g o hq
      have hmem := List.mem_of_getElem? hq
      rw [Option.map_eq_some_iff] at hg
      obtain ⟨⟨x1, K1, es1⟩, hg1, hg2⟩ := hg
      simp only [Prod.mk.injEq] at hg2
      obtain ⟨rfl, rfl, rfl⟩ := hg2
      obtain ⟨he1, he2⟩ := he
      simp only at he1
      have hfr : w.frozen? a = frozenIn o a.off := frozen_in (by rw [he1]; exact hK _ hmem)
      have hnews : newsOf P (.frozen a k) w = newsOf P (k (frozenIn o a.off)) w := by simp only [newsOf, hfr]
      rw [hnews] at hg1
      obtain ⟨w', h1, h2, h3, h4, h5, h6⟩ := ih _ _ K w _ _ _ hK hN hg1 he2
      exact ⟨w', by simp only [Sem.run, hfr]; exact h1, h2, by rw [hnews]; exact h3, h4, by rw [hnews]; exact h5, by rw [hnews]; exact h6⟩
    · exact absurd hg (by simp)
  | program k ih =>
    intro ps K w x K' es hK hN hg he
    obtain ⟨w', h⟩ := ih P ps K w x K' es hK hN hg he
    exact ⟨w', h⟩
  | mark m k ih =>
    intro ps K w x K' es hK hN hg he
    obtain ⟨w', h⟩ := ih ps K w x K' es hK hN hg he
    exact ⟨w', h⟩
  | freeze a n k ih => intro ps K w x K' es hK hN hg he; simp [grun] at hg
  | getObj r k ih => intro ps K w x K' es hK hN hg he; simp [grun] at hg
  | setObj r o k ih => intro ps K w x K' es hK hN hg he; simp [grun] at hg
  | choose q k ih => intro ps K w x K' es hK hN hg he; simp [grun] at hg
  | sys c k ih => intro ps K w x K' es hK hN hg he; simp [grun] at hg
  | halt x => intro ps K w x K' es hK hN hg he; simp [grun] at hg

section
variable {P : Program} {ops : Array Oper} {D : List Nat} {l : List (Nat × Value)} {a : Act} {w0 : World} {h : List (Nat × Obj)} {F0 : World → Prop}
variable {vals : (Nat → Orc) → Nat → Value} {effs : (Nat → Orc) → Nat → Eff} {fact : (Nat → Orc) → Nat → World → Prop}

/-- What an operation puts: its value. -/
def nextV : Next → Option Value
  | .value v => some v
  | .skip => some undef
  | _ => none
/-- The blocks that are known to operation i, by name. -/
def known (ops : Array Oper) (D : List Nat) (h : List (Nat × Obj)) (E : Nat → Eff) (i : Nat) (ns : List Nat) : List (Nat × Obj) :=
  ns.map fun n => match blk h E n with
    | some (b, o) => (b, cur E ops.size (dep D i) n o)
    | none => (0, default)
def namesOk (ops : Array Oper) (D : List Nat) (h : List (Nat × Obj)) (E : Nat → Eff) (i : Nat) (ns : List Nat) : Bool :=
  (ns.all fun n => (blk h E n).isSome && okN ops D h E i n) && decide ns.Nodup
def applyE (ns : List Nat) (K : List (Nat × Obj)) (E : Eff) : List (Nat × Obj) :=
  ((ns.zip K).map fun x => (x.2.1, (E.puts.lookup x.1).getD x.2.2)) ++ E.news
def putsIn (ns : List Nat) (E : Eff) : Bool := E.puts.all fun x => ns.contains x.1

theorem persTrue {T : Nat → Prop} {w : World} {F : World → Prop} (hF : ∀ w, F w) : Pers T F w := ⟨fun _ => False, fun _ h => h.elim, fun w' _ => hF w'⟩

theorem obl_run {i : Nat} {o : Oper} (ho : ops[i]? = some o) (ns ps : List Nat) (es : (Nat → Orc) → List Nat → List (Nat × Nat)) (x : (Nat → Orc) → List Nat → Next)
    (hw : ∀ ρ, wantV (vals ρ) o = true) (hn : ∀ ρ, namesOk ops D h (effs ρ) i ns = true)
    (hr : ∀ ρ z, grun P (execOp (evalAt ops D l (vals ρ) i) o) ps (known ops D h (effs ρ) i ns) z = some (x ρ z, applyE ns (known ops D h (effs ρ) i ns) (effs (upd ρ i { n := z }) i), es ρ z))
    (hx : ∀ ρ z, nextV (x ρ z) = some (vals (upd ρ i { n := z }) i)) (hp : ∀ ρ z, putsIn ns (effs (upd ρ i { n := z }) i) = true)
    (he : ∀ ρ z, Eqs (es ρ z)) (hf : ∀ ρ z w, fact (upd ρ i { n := z }) i w) : Obl P ops D l w0 h F0 vals effs fact i := by
  intro o' ho' ρ T w hG
  rw [ho] at ho'
  obtain rfl : o = o' := by simpa using ho'
  rw [if_pos (hw ρ)]
  have hno := hn ρ
  unfold namesOk at hno
  rw [Bool.and_eq_true, List.all_eq_true, decide_eq_true_eq] at hno
  obtain ⟨hno, hnd⟩ := hno
  have hbn : ∀ n ∈ ns, ∃ b q, blk h (effs ρ) n = some (b, q) ∧ okN ops D h (effs ρ) i n = true := by
    intro n hm
    have := hno n hm
    rw [Bool.and_eq_true] at this
    obtain ⟨⟨b, q⟩, hb⟩ := Option.isSome_iff_exists.1 this.1
    exact ⟨b, q, hb, this.2⟩
  have hK : Knows (known ops D h (effs ρ) i ns) w := by
    intro y hy
    unfold known at hy
    obtain ⟨n, hm, rfl⟩ := List.mem_map.1 hy
    obtain ⟨b, q, hb, hok⟩ := hbn n hm
    rw [hb]
    exact (hG.block n b q hb hok).1
  have hKN : ((known ops D h (effs ρ) i ns).map (·.1)).Nodup := by
    unfold known
    rw [List.map_map]
    refine List.pairwise_map.2 ?_
    refine List.Pairwise.imp_of_mem ?_ hnd
    intro n n' hm hm' hne
    obtain ⟨b, q, hb, hok⟩ := hbn n hm
    obtain ⟨b', q', hb', hok'⟩ := hbn n' hm'
    simp only [Function.comp, hb, hb']
    exact hG.ne n n' b b' q q' hne hb hb' hok hok'
  obtain ⟨w', h1, h2, h3, h4, h5, h6⟩ := grun_sound _ _ _ w _ _ _ hK hKN (hr ρ (newsOf P (execOp (evalAt ops D l (vals ρ) i) o) w)) (he ρ _)
  generalize newsOf P (execOp (evalAt ops D l (vals ρ) i) o) w = z at *
  have hxv := hx ρ z
  have hlen : (known ops D h (effs ρ) i ns).length = ns.length := by unfold known; simp
  have hnews : (effs (upd ρ i { n := z }) i).news.map (·.1) = z := by
    unfold applyE at h3
    rw [List.map_append, List.map_map] at h3
    have e : (ns.zip (known ops D h (effs ρ) i ns)).map ((·.1) ∘ fun x => (x.2.1, ((effs (upd ρ i { n := z }) i).puts.lookup x.1).getD x.2.2)) = (known ops D h (effs ρ) i ns).map (·.1) := by
      rw [show ((·.1) ∘ fun x : Nat × Nat × Obj => (x.2.1, ((effs (upd ρ i { n := z }) i).puts.lookup x.1).getD x.2.2)) = (·.1) ∘ Prod.snd from rfl, ← List.map_map, List.map_snd_zip (by omega)]
    rw [e] at h3
    exact List.append_cancel_left h3
  have hzip : ∀ n ∈ ns, ∀ b q, blk h (effs ρ) n = some (b, q) → w'.heap[b]? = some (((effs (upd ρ i { n := z }) i).puts.lookup n).getD (cur (effs ρ) ops.size (dep D i) n q)) := by
    intro n hm b q hb
    obtain ⟨k, hk⟩ := List.mem_iff_getElem?.1 hm
    have hkn : (known ops D h (effs ρ) i ns)[k]? = some (b, cur (effs ρ) ops.size (dep D i) n q) := by
      unfold known
      rw [List.getElem?_map, hk]
      simp only [Option.map_some, hb]
    have := h2 (b, ((effs (upd ρ i { n := z }) i).puts.lookup n).getD (cur (effs ρ) ops.size (dep D i) n q)) (by
      unfold applyE
      refine List.mem_append_left _ (List.mem_map.2 ⟨(n, (b, cur (effs ρ) ops.size (dep D i) n q)), ?_, rfl⟩)
      exact List.mem_iff_getElem?.2 ⟨k, by rw [List.getElem?_zip_eq_some]; exact ⟨hk, hkn⟩⟩)
    exact this
  have hputs : ∀ n q, (n, q) ∈ (effs (upd ρ i { n := z }) i).puts → n ∈ ns := by
    intro n q hm
    have := hp ρ z
    unfold putsIn at this
    rw [List.all_eq_true] at this
    have := this _ hm
    simpa using this
  have fin : After ops D h vals effs fact i ρ T w (vals (upd ρ i { n := z }) i) w' := by
    refine ⟨{ n := z }, rfl, ?_, ?_, ?_, ?_, persTrue (hf ρ z)⟩
    · refine ⟨h4.os, h4.tape, h4.output, h4.size, fun b hb hnX => ?_⟩
      by_cases hmem : b ∈ (known ops D h (effs ρ) i ns).map (·.1)
      · obtain ⟨y, hy, rfl⟩ := List.mem_map.1 hmem
        have hy0 := hK y hy
        unfold known at hy
        obtain ⟨n, hm, rfl⟩ := List.mem_map.1 hy
        obtain ⟨b, q, hbq, hok⟩ := hbn n hm
        rw [hbq] at hy0 hnX ⊢
        simp only at hy0 hnX ⊢
        rw [hzip n hm b q hbq, hy0]
        cases hl : (effs (upd ρ i { n := z }) i).puts.lookup n with
        | none => rfl
        | some z => exact absurd ⟨n, z, q, mem_of_lookup hl, hbq⟩ hnX
      · exact h4.block b hb hmem
    · intro n q hm
      have hmn := hputs n q hm
      obtain ⟨b, q', hb, hok⟩ := hbn n hmn
      refine ⟨hok, b, q', hb, ?_⟩
      rw [hzip n hmn b q' hb]
      cases hl : (effs (upd ρ i { n := z }) i).puts.lookup n with
      | none => exact absurd hm (lookup_none_of hl q)
      | some z => rfl
    · intro k b q hk
      have hmem := List.mem_of_getElem? hk
      refine ⟨?_, ?_⟩
      · apply h5
        rw [← hnews]
        exact List.mem_map.2 ⟨(b, q), hmem, rfl⟩
      · exact h2 (b, q) (by unfold applyE; exact List.mem_append_right _ hmem)
    · rw [hnews]; exact h6
  unfold opv
  rw [h1]
  cases hx' : x ρ z with
  | value v => rw [hx'] at hxv; simp only [nextV, Option.some.injEq] at hxv; simp only [hxv]; exact fin
  | skip => rw [hx'] at hxv; simp only [nextV, Option.some.injEq] at hxv; simp only [hxv]; exact fin
  | _ => rw [hx'] at hxv; simp [nextV] at hxv

/-- An operation that is not run. -/
theorem obl_skip {i : Nat} {o : Oper} (ho : ops[i]? = some o) (hw : ∀ ρ, wantV (vals ρ) o = false) (hv : ∀ ρ, vals (upd ρ i {}) i = undef) (he : ∀ ρ, effs (upd ρ i {}) i = {}) (hf : ∀ ρ w, fact (upd ρ i {}) i w) :
    Obl P ops D l w0 h F0 vals effs fact i := by
  intro o' ho' ρ T w hG
  rw [ho] at ho'
  obtain rfl : o = o' := by simpa using ho'
  rw [if_neg (by rw [hw ρ]; simp)]
  refine ⟨{}, (hv ρ).symm, ?_, ?_, ?_, ?_, persTrue (hf ρ)⟩
  · exact Upd.refl _ _
  · rw [he ρ]; intro n q hm; simp at hm
  · rw [he ρ]; intro k b q hk; simp at hk
  · rw [he ρ]; simp

/-- A call that makes memory at most, or an operation whose run is known: the world grows, the value is the one said. -/
theorem obl_grow {i : Nat} {o : Oper} (ho : ops[i]? = some o) (hw : ∀ ρ, wantV (vals ρ) o = true)
    (hr : ∀ ρ w, (∃ T, Given ops D w0 h F0 effs fact i ρ T w) → opv P (execOp (evalAt ops D l (vals ρ) i) o) w (fun v w' => v = vals (upd ρ i {}) i ∧ Below w.heap.size w w'))
    (he : ∀ ρ, effs (upd ρ i {}) i = {}) (hf : ∀ ρ w, fact (upd ρ i {}) i w) : Obl P ops D l w0 h F0 vals effs fact i := by
  intro o' ho' ρ T w hG
  rw [ho] at ho'
  obtain rfl : o = o' := by simpa using ho'
  rw [if_pos (hw ρ)]
  have key : ∀ v w', (v = vals (upd ρ i {}) i ∧ Below w.heap.size w w') → After ops D h vals effs fact i ρ T w v w' := by
    rintro v w' ⟨rfl, hb⟩
    refine ⟨{}, rfl, Upd.of_below hb, ?_, ?_, ?_, persTrue (hf ρ)⟩
    · rw [he ρ]; intro n q hm; simp at hm
    · rw [he ρ]; intro k b q hk; simp at hk
    · rw [he ρ]; simp
  have := hr ρ w ⟨T, hG⟩
  unfold opv at this ⊢
  split at this
  · exact key _ _ this
  · exact key _ _ this
  · refine this.mono (fun e w'' he => ?_)
    cases e with
    | returned v => exact key _ _ he
    | panicked c => exact he
    | outgrown => exact he
  · exact this.elim
theorem obl_call {i : Nat} {o : Oper} (ho : ops[i]? = some o) (f : FuncId) (args : (Nat → Orc) → Array Value) (hw : ∀ ρ, wantV (vals ρ) o = true)
    (hr : ∀ ρ z, grun P (execOp (evalAt ops D l (vals ρ) i) o) [] [] z = some (.enter f (args ρ), [], []))
    (hc : ∀ ρ w, Calls P f (args ρ) w (fun e w' => e = .returned (vals (upd ρ i {}) i) ∧ Below w.heap.size w w'))
    (he : ∀ ρ, effs (upd ρ i {}) i = {}) (hf : ∀ ρ w, fact (upd ρ i {}) i w) : Obl P ops D l w0 h F0 vals effs fact i := by
  refine obl_grow ho hw (fun ρ w _ => ?_) he hf
  obtain ⟨w', h1, _, _, h4, _, _⟩ := grun_sound (P := P) (execOp (evalAt ops D l (vals ρ) i) o) [] [] w _ _ _ (by intro y hy; simp at hy) (by simp) (hr ρ _) trivial
  have hb : Below w.heap.size w w' := ⟨h4.os, h4.tape, h4.output, h4.size, fun k hk => h4.block k hk (by simp)⟩
  unfold opv
  rw [h1]
  simp only []
  refine (hc ρ w').mono (fun e w'' he => ?_)
  obtain ⟨rfl, hb2⟩ := he
  exact ⟨rfl, hb.trans (hb2.mono hb.size)⟩
/-- An operation whose run is known. -/
theorem obl_pure {i : Nat} {o : Oper} (ho : ops[i]? = some o) (hw : ∀ ρ, wantV (vals ρ) o = true)
    (hr : ∀ ρ w, (execOp (evalAt ops D l (vals ρ) i) o).run P w = .ok (.value (vals (upd ρ i {}) i)) w)
    (he : ∀ ρ, effs (upd ρ i {}) i = {}) (hf : ∀ ρ w, fact (upd ρ i {}) i w) : Obl P ops D l w0 h F0 vals effs fact i := by
  refine obl_grow ho hw (fun ρ w _ => ?_) he hf
  unfold opv
  rw [hr ρ w]
  exact ⟨rfl, Below.refl _ _⟩
end
end Go.Proofs.Ytlgjdejlnelndaa
