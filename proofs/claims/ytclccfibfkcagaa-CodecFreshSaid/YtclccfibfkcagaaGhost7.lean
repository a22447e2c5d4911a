/-
  Facts on memory that lie outside the call's own blocks: rows of bytes, regions that bring facts, calls that ask for them.
-/
import Derived.Test.YtclccfibfkcagaaGhost6
import Derived.Deep.AppendSrc
import Derived.Laws.IdiomStrings
import Derived.Laws.MakeOwn
import Derived.DataElems
namespace Go.Proofs.Ytclccfibfkcagaa
open Go Go.RowKit

theorem Pers.mono {T : Nat → Prop} {F G : World → Prop} {w : World} (h : Pers T F w) (hFG : ∀ w, F w → G w) : Pers T G w := by
  obtain ⟨S, h1, h2⟩ := h
  exact ⟨S, h1, fun w' hw => hFG _ (h2 w' hw)⟩
theorem Pers.sub {T T' : Nat → Prop} {F : World → Prop} {w : World} (h : Pers T F w) (hT : ∀ b, T' b → T b) : Pers T' F w := by
  obtain ⟨S, h1, h2⟩ := h
  exact ⟨S, fun b hb => ⟨(h1 b hb).1, fun hx => (h1 b hb).2 (hT b hx)⟩, h2⟩
theorem Pers.and {T : Nat → Prop} {F G : World → Prop} {w : World} (h : Pers T F w) (k : Pers T G w) : Pers T (fun w => F w ∧ G w) w := by
  obtain ⟨S, h1, h2⟩ := h
  obtain ⟨S', k1, k2⟩ := k
  refine ⟨fun b => S b ∨ S' b, fun b hb => hb.elim (h1 b) (k1 b), fun w' hw => ⟨h2 w' (fun b hb => hw b (Or.inl hb)), k2 w' (fun b hb => hw b (Or.inr hb))⟩⟩
theorem persT {T : Nat → Prop} {w : World} : Pers T (fun _ => True) w := persTrue (fun _ => trivial)

/-! ### rows of cells, rows of bytes -/
def bv (x : UInt8) : Value := .int .u8 (x.toNat : Int)
def bs (xs : List UInt8) : List Value := xs.map bv
theorem bs_length (xs : List UInt8) : (bs xs).length = xs.length := List.length_map _
theorem bs_app (xs ys : List UInt8) : bs (xs ++ ys) = bs xs ++ bs ys := List.map_append
theorem bs_get {xs : List UInt8} {i : Nat} {v : Value} (h : (bs xs)[i]? = some v) : ∃ x, xs[i]? = some x ∧ v = bv x := by
  unfold bs at h
  rw [List.getElem?_map, Option.map_eq_some_iff] at h
  obtain ⟨x, h1, h2⟩ := h
  exact ⟨x, h1, h2.symm⟩
/-- The cells vs lie at a. -/
def Rs (w : World) (a : Option Addr) (vs : List Value) : Prop := vs = [] ∨ ∃ p, a = some p ∧ ∀ i v, vs[i]? = some v → w.cell? (p.add i) = some v
theorem addr_block (a : Addr) (i : Nat) : (a.add i).block = a.block := by unfold Addr.add; split <;> rfl
theorem cell_congr {w w' : World} {a : Addr} (h : w'.heap[a.block]? = w.heap[a.block]?) : w'.cell? a = w.cell? a := by
  unfold World.cell?
  rw [h]
/-- Where they lie is apart from T. -/
def Apart (T : Nat → Prop) (a : Option Addr) (n : Nat) : Prop := ∀ p, a = some p → 0 < n → ¬ T p.block
theorem Rs.pers {T : Nat → Prop} {w : World} {a : Option Addr} {vs : List Value} (h : Rs w a vs) (hT : Apart T a vs.length) : Pers T (fun w => Rs w a vs) w := by
  rcases h with h | ⟨p, rfl, h⟩
  · exact persTrue (fun _ => Or.inl h)
  · cases vs with
    | nil => exact persTrue (fun _ => Or.inl rfl)
    | cons v0 vs =>
      refine ⟨fun b => b = p.block, ?_, ?_⟩
      · rintro b rfl
        refine ⟨?_, hT p rfl (by simp)⟩
        have h0 := h 0 v0 rfl
        unfold World.cell? at h0
        by_cases hl : p.block < w.heap.size
        · exact hl
        · rw [addr_block, Array.getElem?_eq_none (by omega)] at h0; simp at h0
      · intro w' hw
        refine Or.inr ⟨p, rfl, fun i v hv => ?_⟩
        exact (cell_congr (by rw [addr_block]; exact hw _ rfl)).trans (h i v hv)
theorem Rs.drop {w : World} {a : Option Addr} {vs : List Value} (h : Rs w a vs) (k : Nat) : Rs w (a.map (·.add k)) (vs.drop k) := by
  rcases h with rfl | ⟨p, rfl, h⟩
  · exact Or.inl (by simp)
  · refine Or.inr ⟨p.add k, rfl, fun i v hv => ?_⟩
    rw [Addr.add_add]
    rw [List.getElem?_drop] at hv
    exact h _ v hv
theorem Rs.take {w : World} {a : Option Addr} {vs : List Value} (h : Rs w a vs) (k : Nat) : Rs w a (vs.take k) := by
  rcases h with rfl | ⟨p, rfl, h⟩
  · exact Or.inl (by simp)
  · refine Or.inr ⟨p, rfl, fun i v hv => ?_⟩
    rw [List.getElem?_take] at hv
    split at hv
    · exact h i v hv
    · exact absurd hv (by simp)
/-- The bytes xs lie at a; the slice has room c. -/
structure Bs (w : World) (a : Option Addr) (c : Nat) (xs : List UInt8) : Prop where
  le : xs.length ≤ c
  max : xs.length ≤ 140737488351232
  rows : Rs w a (bs xs)
theorem Bs.nil {w : World} {a : Option Addr} {c : Nat} : Bs w a c [] := ⟨by simp, by simp, Or.inl rfl⟩
theorem Bs.pers {T : Nat → Prop} {w : World} {a : Option Addr} {c : Nat} {xs : List UInt8} (h : Bs w a c xs) (hT : Apart T a xs.length) : Pers T (fun w => Bs w a c xs) w :=
  (h.rows.pers (by rw [bs_length]; exact hT)).mono (fun _ hr => ⟨h.le, h.max, hr⟩)
theorem Bs.pers0 {w : World} {a : Option Addr} {c : Nat} {xs : List UInt8} (h : Bs w a c xs) : Pers (fun _ => False) (fun w => Bs w a c xs) w := h.pers (fun _ _ _ => id)
/-- They lie in memory that is newer than w0. -/
def Fs (w0 w : World) (a : Option Addr) (c : Nat) (xs : List UInt8) : Prop := Bs w a c xs ∧ ∀ p, a = some p → 0 < xs.length → w0.heap.size ≤ p.block
theorem Fs.nil {w0 w : World} {a : Option Addr} {c : Nat} : Fs w0 w a c [] := ⟨Bs.nil, fun _ _ h => absurd h (by simp)⟩
theorem Fs.pers {T : Nat → Prop} {w0 w : World} {a : Option Addr} {c : Nat} {xs : List UInt8} (h : Fs w0 w a c xs) (hT : ∀ b, T b → b < w0.heap.size) : Pers T (fun w => Fs w0 w a c xs) w :=
  (h.1.pers (fun p hp hn hx => absurd (h.2 p hp hn) (by have := hT _ hx; omega))).mono (fun _ hr => ⟨hr, h.2⟩)
theorem Fs.older {w0 w1 w : World} {a : Option Addr} {c : Nat} {xs : List UInt8} (h : Fs w1 w a c xs) (hs : w0.heap.size ≤ w1.heap.size) : Fs w0 w a c xs :=
  ⟨h.1, fun p hp hn => Nat.le_trans hs (h.2 p hp hn)⟩
theorem Bs.of_block {w : World} {g : Nat} {C : Array Value} {T : TypeId} {fr : Nat × Nat} {c : Nat} {xs : List UInt8} (hb : w.heap[g]? = some (.cells C T fr)) (hx : C.toList.take xs.length = bs xs) (hc : xs.length ≤ c) (hm : xs.length ≤ 140737488351232) : Bs w (some ⟨g, 0, none⟩) c xs := by
  refine ⟨hc, hm, Or.inr ⟨_, rfl, fun i v hv => ?_⟩⟩
  have h1 : C[i]? = some v := by
    rw [← hx, List.getElem?_take] at hv
    split at hv
    · simpa using hv
    · exact absurd hv (by simp)
  rw [Addr.add_lit]
  unfold World.cell?
  simp only [hb]
  simpa using h1
/-- The byte at i. -/
def gB (xs : List UInt8) (i : Nat) : Nat := (xs.getD i 0).toNat
theorem gB_lt (xs : List UInt8) (i : Nat) : gB xs i < 256 := UInt8.toNat_lt _
theorem Bs.cell {w : World} {a : Option Addr} {c : Nat} {xs : List UInt8} (h : Bs w a c xs) {i : Nat} (hi : i < xs.length) : ∃ p, a = some p ∧ w.cell? (p.add i) = some (.int .u8 (gB xs i : Int)) := by
  rcases h.rows with h0 | ⟨p, rfl, hh⟩
  · have := congrArg List.length h0
    rw [bs_length] at this
    simp at this
    subst this
    simp at hi
  · refine ⟨p, rfl, hh i _ ?_⟩
    unfold bs
    rw [List.getElem?_map, List.getElem?_eq_getElem hi]
    simp [bv, gB, List.getD, List.getElem?_eq_getElem hi]
/-- Where the row goes on behind k elements. -/
def adr (a : Option Addr) (k : Nat) : Option Addr := a.map (·.add k)
def sadr (a : Option Addr) (l m : Nat) : Option Addr := if m = l then a else adr a l
def mid (xs : List UInt8) (l h : Nat) : List UInt8 := (xs.take h).drop l
theorem mid_length (xs : List UInt8) (l h : Nat) (hh : h ≤ xs.length) : (mid xs l h).length = h - l := by
  unfold mid
  rw [List.length_drop, List.length_take]
  omega
theorem Bs.mid {w : World} {a : Option Addr} {c : Nat} {xs : List UInt8} (h : Bs w a c xs) {l k : Nat} (hl : l ≤ k) (hk : k ≤ xs.length) : Bs w (sadr a l c) (c - l) (mid xs l k) := by
  have hle := h.le
  have hm := h.max
  have hlen := mid_length xs l k hk
  refine ⟨by omega, by omega, ?_⟩
  unfold sadr
  split
  · have : Ytclccfibfkcagaa.mid xs l k = [] := List.eq_nil_of_length_eq_zero (by omega)
    rw [this]
    exact Or.inl rfl
  · unfold adr Ytclccfibfkcagaa.mid bs
    rw [List.map_drop, List.map_take]
    exact (h.rows.take k).drop l

/-! ### regions that bring facts -/
def RegF (P : Program) (id : Nat) (ops : Array Oper) (draw : Bool) (n : Nat) (l : List (Nat × Value)) (w0 : World) (h : List (Nat × Obj)) (F : World → Prop) (l' : (Nat → Orc) → List (Nat × Value)) (h' : (Nat → Orc) → List (Nat × Obj)) (F' : (Nat → Orc) → World → Prop) : Prop :=
  ∀ Q A w, Fr n l A → St w0 h F w → (∀ ρ A' w', Fr n (l' ρ) A' → St w0 (h' ρ) (F' ρ) w' → Q .normal A' w') → (Code.region id ops draw).wp P Q A w
section
variable {P : Program} {id : Nat} {ops : Array Oper} {n : Nat} {l : List (Nat × Value)} {w0 : World} {h : List (Nat × Obj)} {F : World → Prop} {l' : (Nat → Orc) → List (Nat × Value)} {h' : (Nat → Orc) → List (Nat × Obj)} {F' : (Nat → Orc) → World → Prop}
theorem reg_drawn_f (D : List Nat) (keep : List Nat) (m : Nat) (vals : (Nat → Orc) → Nat → Value) (effs : (Nat → Orc) → Nat → Eff) (fact : (Nat → Orc) → Nat → World → Prop) (hm : P.follows .mixedOrders = true) (hsz : ops.size = m) (hchk : drawOk ops D n l keep = true)
    (hfin : ∀ ρ, finL ops l (fun i => vals (mask D i ρ) i) keep = l' ρ) (hfh : ∀ ρ, finH ops.size h (fun i => effs (mask D i ρ) i) = h' ρ)
    (hF : ∀ ρ w, F w → (∀ i, i < m → fact (mask D i ρ) i w) → F' ρ w)
    (hobl : AllN m (Obl P ops D l w0 h F (fun ρ i => vals (mask D i ρ) i) (fun ρ i => effs (mask D i ρ) i) (fun ρ i => fact (mask D i ρ) i))) : RegF P id ops true n l w0 h F l' h' F' := by
  intro Q A w hfr hS hend
  unfold drawOk at hchk
  simp only [Bool.and_eq_true] at hchk
  obtain ⟨⟨⟨⟨c1, c2⟩, c3⟩, c4⟩, c5⟩ := hchk
  refine wp_region_ghost hm c1 c2 (by rw [hfr.size]; exact c3) c4 (vals := fun ρ i => vals (mask D i ρ) i) (effs := fun ρ i => effs (mask D i ρ) i) (fact := fun ρ i => fact (mask D i ρ) i) ?_ ?_ keep c5 (by rw [hfr.size]; exact hfr) hS ?_
  · intro j _ ρ ρ' hh
    exact ⟨congrArg (fun z => vals z j) (mask_congr hh), congrArg (fun z => effs z j) (mask_congr hh), congrArg (fun z => fact z j) (mask_congr hh)⟩
  · intro i hi
    exact AllN.get hobl i (by omega)
  · intro ρ A' w' hA hS'
    rw [hfin, hfr.size] at hA
    have hS2 : St w0 (finH ops.size h (fun i => effs (mask D i ρ) i)) _ w' := hS'
    rw [hfh] at hS2
    exact hend ρ A' w' hA (hS2.weaken (fun w h => hF ρ w h.1 (fun i hi => h.2 i (by omega))))
theorem reg_seq_f (D : List Nat) (keep : List Nat) (m : Nat) (vals : (Nat → Orc) → Nat → Value) (effs : (Nat → Orc) → Nat → Eff) (fact : (Nat → Orc) → Nat → World → Prop) (hsz : ops.size = m) (hchk : seqOk ops D n l keep = true)
    (hfin : ∀ ρ, finL ops l (fun i => vals (mask D i ρ) i) keep = l' ρ) (hfh : ∀ ρ, finH ops.size h (fun i => effs (mask D i ρ) i) = h' ρ)
    (hF : ∀ ρ w, F w → (∀ i, i < m → fact (mask D i ρ) i w) → F' ρ w)
    (hobl : AllN m (Obl P ops D l w0 h F (fun ρ i => vals (mask D i ρ) i) (fun ρ i => effs (mask D i ρ) i) (fun ρ i => fact (mask D i ρ) i))) : RegF P id ops false n l w0 h F l' h' F' := by
  intro Q A w hfr hS hend
  unfold seqOk at hchk
  simp only [Bool.and_eq_true] at hchk
  obtain ⟨⟨⟨c1, c3⟩, c4⟩, c5⟩ := hchk
  refine wp_region_ghost' c1 (by rw [hfr.size]; exact c3) c4 (vals := fun ρ i => vals (mask D i ρ) i) (effs := fun ρ i => effs (mask D i ρ) i) (fact := fun ρ i => fact (mask D i ρ) i) ?_ ?_ keep c5 (by rw [hfr.size]; exact hfr) hS ?_
  · intro j _ ρ ρ' hh
    exact ⟨congrArg (fun z => vals z j) (mask_congr hh), congrArg (fun z => effs z j) (mask_congr hh), congrArg (fun z => fact z j) (mask_congr hh)⟩
  · intro i hi
    exact AllN.get hobl i (by omega)
  · intro ρ A' w' hA hS'
    rw [hfin, hfr.size] at hA
    have hS2 : St w0 (finH ops.size h (fun i => effs (mask D i ρ) i)) _ w' := hS'
    rw [hfh] at hS2
    exact hend ρ A' w' hA (hS2.weaken (fun w h => hF ρ w h.1 (fun i hi => h.2 i (by omega))))
end
section
variable {P : Program} {Q : Exit → Act → World → Prop} {n : Nat} {l : List (Nat × Value)} {w0 : World} {h : List (Nat × Obj)} {F : World → Prop}
theorem ok_rf {id : Nat} {ops ops' : Array Oper} {d : Bool} {l' : (Nat → Orc) → List (Nat × Value)} {h' : (Nat → Orc) → List (Nat × Obj)} {F' : (Nat → Orc) → World → Prop} (e : ops = ops') (hr : RegF P id ops' d n l w0 h F l' h' F') (hk : ∀ ρ, Meets (Q .normal) n (l' ρ) w0 (h' ρ) (F' ρ)) :
    Ok P (.region id ops d) Q n l w0 h F := by
  subst e
  exact fun A w hf hs => hr Q A w hf hs (fun ρ A' w' hf' hs' => hk ρ A' w' hf' hs')
theorem ok_seq_rf {id : Nat} {ops ops' : Array Oper} {d : Bool} {y : Code} {l' : (Nat → Orc) → List (Nat × Value)} {h' : (Nat → Orc) → List (Nat × Obj)} {F' : (Nat → Orc) → World → Prop} (e : ops = ops') (hr : RegF P id ops' d n l w0 h F l' h' F') (hk : ∀ ρ, Ok P y Q n (l' ρ) w0 (h' ρ) (F' ρ)) :
    Ok P (.seq (.region id ops d) y) Q n l w0 h F := ok_seq (ok_rf e hr hk)
/-- What the facts say of numbers. -/
theorem ok_pure {c : Code} (p : Prop) (hp : ∀ w, F w → p) (hk : p → Ok P c Q n l w0 h F) : Ok P c Q n l w0 h F :=
  fun A w hf hs => hk (hp w hs.facts.now) A w hf hs
theorem mt_pure {R : Act → World → Prop} (p : Prop) (hp : ∀ w, F w → p) (hk : p → Meets R n l w0 h F) : Meets R n l w0 h F :=
  fun A w hf hs => hk (hp w hs.facts.now) A w hf hs
theorem ok_facts {c : Code} (G : World → Prop) (hp : ∀ w, F w → G w) (hk : Ok P c Q n l w0 h G) : Ok P c Q n l w0 h F :=
  fun A w hf hs => hk A w hf (hs.weaken hp)
end

section
variable {P : Program} {ops : Array Oper} {D : List Nat} {l : List (Nat × Value)} {w0 : World} {h : List (Nat × Obj)} {F0 : World → Prop}
variable {vals : (Nat → Orc) → Nat → Value} {effs : (Nat → Orc) → Nat → Eff} {fact : (Nat → Orc) → Nat → World → Prop}
/-- An operation that brings no fact. -/
theorem Obl.brings {i : Nat} (hO : Obl P ops D l w0 h F0 vals effs (fun _ _ _ => True) i) (hf : ∀ ρ w, fact ρ i w) : Obl P ops D l w0 h F0 vals effs fact i := by
  intro o ho ρ T w hG
  have hG' : Given ops D w0 h F0 effs (fun _ _ _ => True) i ρ T w := ⟨hG.lt, hG.below, hG.block, hG.ne, hG.facts0, fun j _ => persT⟩
  have h1 := hO o ho ρ T w hG'
  have key : ∀ v w', After ops D h vals effs (fun _ _ _ => True) i ρ T w v w' → After ops D h vals effs fact i ρ T w v w' := by
    rintro v w' ⟨r, e1, e2, e3, e4, e5, _⟩
    exact ⟨r, e1, e2, e3, e4, e5, persTrue (hf _)⟩
  split at h1
  · rename_i hw
    rw [if_pos hw]
    unfold opv at h1 ⊢
    split at h1
    · exact key _ _ h1
    · exact key _ _ h1
    · refine h1.mono (fun e w'' he => ?_)
      cases e with
      | returned v => exact key _ _ he
      | panicked c => exact he
      | outgrown => exact he
    · exact h1.elim
  · rename_i hw
    rw [if_neg hw]
    exact key _ _ h1
theorem Given.known {i : Nat} {ρ : Nat → Orc} {T : Nat → Prop} {w : World} (hG : Given ops D w0 h F0 effs fact i ρ T w) (n : Nat) {g : Nat} {o : Obj} (hn : namesOk ops D h (effs ρ) i [n] = true) (hk : known ops D h (effs ρ) i [n] = [(g, o)]) : w.heap[g]? = some o := by
  unfold namesOk at hn
  rw [Bool.and_eq_true, List.all_eq_true] at hn
  have hn1 := hn.1 n (by simp)
  rw [Bool.and_eq_true] at hn1
  obtain ⟨⟨b, q⟩, hb⟩ := Option.isSome_iff_exists.1 hn1.1
  have := (hG.block n b q hb hn1.2).1
  unfold Ytclccfibfkcagaa.known at hk
  simp only [List.map_cons, List.map_nil, hb, List.cons.injEq, Prod.mk.injEq, and_true] at hk
  rw [hk.2] at this
  rw [← hk.1]; exact this
/-- An operation that changes nothing: its run is known where the facts hold; it may bring a fact. -/
theorem o_semF (i : Nat) (s : (Nat → Orc) → Sem Next) (v : (Nat → Orc) → Value) (hc : ∀ ρ, semChk ops (vals ρ) (vals (upd ρ i {}) i) (effs (upd ρ i {}) i) i = some (v ρ, {}))
    (hx : ∀ ρ, execOp (evalAt ops D l (vals ρ) i) (opAt ops i) = s ρ) (hr : ∀ ρ T w, Given ops D w0 h F0 effs fact i ρ T w → (s ρ).run P w = .ok (.value (v ρ)) w)
    (hf : ∀ ρ T w, Given ops D w0 h F0 effs fact i ρ T w → Pers T (fact (upd ρ i {}) i) w) : Obl P ops D l w0 h F0 vals effs fact i := by
  intro o ho ρ T w hG
  have hsm := semChk_get (hc ρ)
  have hoe := opAt_some hsm.1.1
  rw [ho] at hoe
  obtain rfl : o = opAt ops i := by simpa using hoe
  rw [if_pos hsm.1.2]
  unfold opv
  rw [hx ρ, hr ρ T w hG]
  refine ⟨{}, hsm.2.1.symm, Upd.refl _ _, ?_, ?_, ?_, ?_⟩
  · rw [hsm.2.2]; intro n q hm; simp at hm
  · rw [hsm.2.2]; intro k b q hk; simp at hk
  · rw [hsm.2.2]; simp
  · rw [hsm.2.2]; exact (hf ρ T w hG).sub (fun b hb => by simpa using hb)
def callChkF (P : Program) (ops : Array Oper) (D : List Nat) (l : List (Nat × Value)) (V : Nat → Value) (i : Nat) (z : List Nat) : Option (Next × List (Nat × Obj) × List (Nat × Nat)) :=
  if (ops[i]?).isSome && wantV V (opAt ops i) then grun P (execOp (evalAt ops D l V i) (opAt ops i)) [] [] z else none
/-- A call whose contract asks for facts, and brings new ones. -/
theorem o_callG (i : Nat) (f : FuncId) (args : (Nat → Orc) → Array Value)
    (hc : ∀ ρ z, callChkF P ops D l (vals ρ) i z = some (.enter f (args ρ), [], []))
    (he : ∀ ρ r, effs (upd ρ i r) i = {})
    (hf : ∀ ρ T w, Given ops D w0 h F0 effs fact i ρ T w → Calls P f (args ρ) w (fun e w' => Below w.heap.size w w' ∧ ∃ r, e = .returned (vals (upd ρ i r) i) ∧ Pers (fun b => b < w.heap.size) (fact (upd ρ i r) i) w')) : Obl P ops D l w0 h F0 vals effs fact i := by
  have key : ∀ ρ z, ((ops[i]?).isSome = true ∧ wantV (vals ρ) (opAt ops i) = true) ∧ grun P (execOp (evalAt ops D l (vals ρ) i) (opAt ops i)) [] [] z = some (.enter f (args ρ), [], []) := by
    intro ρ z
    have h1 := hc ρ z
    unfold callChkF at h1
    split at h1
    · rename_i hb
      simp only [Bool.and_eq_true] at hb
      exact ⟨hb, h1⟩
    · exact absurd h1 (by simp)
  intro o ho ρ T w hG
  have hoe := opAt_some (key ρ []).1.1
  rw [ho] at hoe
  obtain rfl : o = opAt ops i := by simpa using hoe
  rw [if_pos (key ρ []).1.2]
  obtain ⟨w1, h1, _, _, h4, _, _⟩ := grun_sound (P := P) (execOp (evalAt ops D l (vals ρ) i) (opAt ops i)) [] [] w _ _ _ (by intro y hy; simp at hy) (by simp) ((key ρ _).2) trivial
  have hb : Below w.heap.size w w1 := ⟨h4.os, h4.tape, h4.output, h4.size, fun k hk => h4.block k hk (by simp)⟩
  have hheap : ∀ b, b < w.heap.size → w1.heap[b]? = w.heap[b]? := fun b hb' => hb.block b hb'
  have hG1 : Given ops D w0 h F0 effs fact i ρ T w1 := by
    have tr : ∀ {F : World → Prop}, Pers T F w → Pers T F w1 := by
      rintro F ⟨S, s1, s2⟩
      refine ⟨S, fun b hb' => ⟨Nat.lt_of_lt_of_le (s1 b hb').1 hb.size, (s1 b hb').2⟩, fun w' hw => s2 w' (fun b hb' => ?_)⟩
      rw [hw b hb', hheap b (s1 b hb').1]
    refine ⟨fun b hb' => Nat.lt_of_lt_of_le (hG.lt b hb') hb.size, hG.below.trans (hb.mono hG.below.size), fun n b o hn hk => ?_, hG.ne, tr hG.facts0, fun j hj => tr (hG.facts j hj)⟩
    have := hG.block n b o hn hk
    refine ⟨?_, this.2⟩
    rw [hheap b (hG.lt b this.2.1)]
    exact this.1
  unfold opv
  rw [h1]
  refine (hf ρ T w1 hG1).mono (fun e w2 hew => ?_)
  obtain ⟨hb2, r, rfl, hp⟩ := hew
  show After ops D h vals effs fact i ρ T w _ w2
  refine ⟨r, rfl, Upd.of_below (hb.trans (hb2.mono hb.size)), ?_, ?_, ?_, ?_⟩
  · rw [he]; intro n q hm; simp at hm
  · rw [he]; intro k b q hk; simp at hk
  · rw [he]; simp
  · rw [he]
    refine hp.sub (fun b hbT => ?_)
    rcases hbT with hbT | hbT
    · exact Nat.lt_of_lt_of_le (hG.lt b hbT) hb.size
    · simp at hbT
/-- A call whose contract asks for facts; its value is settled. -/
theorem o_callP (i : Nat) (f : FuncId) (args : (Nat → Orc) → Array Value) (v : (Nat → Orc) → Value)
    (hc : ∀ ρ z, callChkF P ops D l (vals ρ) i z = some (.enter f (args ρ), [], []))
    (hv : ∀ ρ, vals (upd ρ i {}) i = v ρ) (he : ∀ ρ r, effs (upd ρ i r) i = {}) (ht : ∀ ρ w, fact ρ i w)
    (hf : ∀ ρ T w, Given ops D w0 h F0 effs fact i ρ T w → Calls P f (args ρ) w (fun e w' => e = .returned (v ρ) ∧ Below w.heap.size w w')) : Obl P ops D l w0 h F0 vals effs fact i := by
  refine o_callG i f args hc he (fun ρ T w hG => (hf ρ T w hG).mono (fun e w' hew => ⟨hew.2, {}, ?_, persTrue (ht _)⟩))
  rw [hv ρ]; exact hew.1
/-- A call that hands back new bytes. -/
theorem o_callB (i : Nat) (f : FuncId) (args : (Nat → Orc) → Array Value) (v : (Nat → Orc) → Option Addr → Nat → Value) (xs : (Nat → Orc) → List UInt8)
    (hc : ∀ ρ z, callChkF P ops D l (vals ρ) i z = some (.enter f (args ρ), [], []))
    (hv : ∀ ρ r, vals (upd ρ i r) i = v ρ r.a (r.n.headD 0)) (he : ∀ ρ r, effs (upd ρ i r) i = {}) (ht : ∀ ρ r, fact (upd ρ i r) i = fun w => Fs w0 w r.a (r.n.headD 0) (xs ρ))
    (hf : ∀ ρ T w, Given ops D w0 h F0 effs fact i ρ T w → Calls P f (args ρ) w (fun e w' => ∃ a c, e = .returned (v ρ a c) ∧ Below w.heap.size w w' ∧ Fs w w' a c (xs ρ))) : Obl P ops D l w0 h F0 vals effs fact i := by
  refine o_callG i f args hc he (fun ρ T w hG => (hf ρ T w hG).mono (fun e w' hew => ?_))
  obtain ⟨a, c, h1, h2, h3⟩ := hew
  refine ⟨h2, { n := [c], a := a }, ?_, ?_⟩
  · rw [hv]; exact h1
  · rw [ht]
    exact (h3.pers (T := fun b => b < w.heap.size) (fun b hb => hb)).mono (fun _ hx => hx.older hG.below.size)
end
end Go.Proofs.Ytclccfibfkcagaa
