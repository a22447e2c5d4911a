/-
  Facts on memory; rows of bytes; texts, digests as bytes.
-/
import Derived.Test.YtlgjdejlnelndaaGhost6
import Derived.Deep.AppendSrc
import Derived.Laws.IdiomStrings
import Derived.Laws.MakeOwn
import Derived.DataElems
import Derived.Test.YtlgjdejlnelndaaBytesNum
namespace Go.Proofs.Ytlgjdejlnelndaa
open Go Go.RowKit

theorem Pers.mono {T : Nat → Prop} {F G : World → Prop} {w : World} (h : Pers T F w) (hFG : ∀ w, F w → G w) : Pers T G w := by
  obtain ⟨S, h1, h2⟩ := h
  exact ⟨S, h1, fun w' hw => hFG _ (h2 w' hw)⟩
theorem Pers.sub {T T' : Nat → Prop} {F : World → Prop} {w : World} (h : Pers T F w) (hT : ∀ b, T' b → T b) : Pers T' F w := by
  obtain ⟨S, h1, h2⟩ := h
  exact ⟨S, fun b hb => ⟨(h1 b hb).1, fun hx => (h1 b hb).2 (hT b hx)⟩, h2⟩
theorem Pers.and {T : Nat → Prop} {F G : World → Prop} {w : World} (h : Pers T F w) (k : Pers T G w) : Pers T (fun w => F w ∧ G w) w := by
  obtain ⟨S, h1, h2⟩ := h
  obtain ⟨S', k1, k2⟩ := k
  refine ⟨fun b => S b ∨ S' b, fun b hb => hb.elim (h1 b) (k1 b), fun w' hw => ⟨h2 w' (fun b hb => hw b (Or.inl hb)), k2 w' (fun b hb => hw b (Or.inr hb))⟩⟩
theorem persT {T : Nat → Prop} {w : World} : Pers T (fun _ => True) w := persTrue (fun _ => trivial)

/-! ### rows of cells, rows of bytes -/
def bv (x : UInt8) : Value := .int .u8 (x.toNat : Int)
def bs (xs : List UInt8) : List Value := xs.map bv
theorem bs_length (xs : List UInt8) : (bs xs).length = xs.length := List.length_map _
theorem bs_app (xs ys : List UInt8) : bs (xs ++ ys) = bs xs ++ bs ys := List.map_append
theorem bs_get {xs : List UInt8} {i : Nat} {v : Value} (h : (bs xs)[i]? = some v) : ∃ x, xs[i]? = some x ∧ v = bv x := by
  unfold bs at h
  rw [List.getElem?_map, Option.map_eq_some_iff] at h
  obtain ⟨x, h1, h2⟩ := h
  exact ⟨x, h1, h2.symm⟩
/-- The cells vs lie at a. -/
def Rs (w : World) (a : Option Addr) (vs : List Value) : Prop := vs = [] ∨ ∃ p, a = some p ∧ ∀ i v, vs[i]? = some v → w.cell? (p.add i) = some v
theorem addr_block (a : Addr) (i : Nat) : (a.add i).block = a.block := by unfold Addr.add; split <;> rfl
theorem cell_congr {w w' : World} {a : Addr} (h : w'.heap[a.block]? = w.heap[a.block]?) : w'.cell? a = w.cell? a := by
  unfold World.cell?
  rw [h]
/-- Where they lie is apart from T. -/
def Apart (T : Nat → Prop) (a : Option Addr) (n : Nat) : Prop := ∀ p, a = some p → 0 < n → ¬ T p.block
theorem Rs.pers {T : Nat → Prop} {w : World} {a : Option Addr} {vs : List Value} (h : Rs w a vs) (hT : Apart T a vs.length) : Pers T (fun w => Rs w a vs) w := by
  rcases h with h | ⟨p, rfl, h⟩
  · exact persTrue (fun _ => Or.inl h)
  · cases vs with
    | nil => exact persTrue (fun _ => Or.inl rfl)
    | cons v0 vs =>
      refine ⟨fun b => b = p.block, ?_, ?_⟩
      · rintro b rfl
        refine ⟨?_, hT p rfl (by simp)⟩
        have h0 := h 0 v0 rfl
        unfold World.cell? at h0
        by_cases hl : p.block < w.heap.size
        · exact hl
        · rw [addr_block, Array.getElem?_eq_none (by omega)] at h0; simp at h0
      · intro w' hw
        refine Or.inr ⟨p, rfl, fun i v hv => ?_⟩
        exact (cell_congr (by rw [addr_block]; exact hw _ rfl)).trans (h i v hv)
theorem Rs.drop {w : World} {a : Option Addr} {vs : List Value} (h : Rs w a vs) (k : Nat) : Rs w (a.map (·.add k)) (vs.drop k) := by
  rcases h with rfl | ⟨p, rfl, h⟩
  · exact Or.inl (by simp)
  · refine Or.inr ⟨p.add k, rfl, fun i v hv => ?_⟩
    rw [Addr.add_add]
    rw [List.getElem?_drop] at hv
    exact h _ v hv
theorem Rs.take {w : World} {a : Option Addr} {vs : List Value} (h : Rs w a vs) (k : Nat) : Rs w a (vs.take k) := by
  rcases h with rfl | ⟨p, rfl, h⟩
  · exact Or.inl (by simp)
  · refine Or.inr ⟨p, rfl, fun i v hv => ?_⟩
    rw [List.getElem?_take] at hv
    split at hv
    · exact h i v hv
    · exact absurd hv (by simp)
/-- The bytes xs lie at a; the slice has room c. -/
structure Bs (w : World) (a : Option Addr) (c : Nat) (xs : List UInt8) : Prop where
  le : xs.length ≤ c
  max : xs.length ≤ 140737488351232
  rows : Rs w a (bs xs)
theorem Bs.nil {w : World} {a : Option Addr} {c : Nat} : Bs w a c [] := ⟨by simp, by simp, Or.inl rfl⟩
theorem Bs.pers {T : Nat → Prop} {w : World} {a : Option Addr} {c : Nat} {xs : List UInt8} (h : Bs w a c xs) (hT : Apart T a xs.length) : Pers T (fun w => Bs w a c xs) w :=
  (h.rows.pers (by rw [bs_length]; exact hT)).mono (fun _ hr => ⟨h.le, h.max, hr⟩)
theorem Bs.pers0 {w : World} {a : Option Addr} {c : Nat} {xs : List UInt8} (h : Bs w a c xs) : Pers (fun _ => False) (fun w => Bs w a c xs) w := h.pers (fun _ _ _ => id)
/-- They lie in memory that is newer than w0. -/
def Fs (w0 w : World) (a : Option Addr) (c : Nat) (xs : List UInt8) : Prop := Bs w a c xs ∧ ∀ p, a = some p → 0 < xs.length → w0.heap.size ≤ p.block
theorem Fs.nil {w0 w : World} {a : Option Addr} {c : Nat} : Fs w0 w a c [] := ⟨Bs.nil, fun _ _ h => absurd h (by simp)⟩
theorem Fs.pers {T : Nat → Prop} {w0 w : World} {a : Option Addr} {c : Nat} {xs : List UInt8} (h : Fs w0 w a c xs) (hT : ∀ b, T b → b < w0.heap.size) : Pers T (fun w => Fs w0 w a c xs) w :=
  (h.1.pers (fun p hp hn hx => absurd (h.2 p hp hn) (by have := hT _ hx; omega))).mono (fun _ hr => ⟨hr, h.2⟩)
theorem Fs.older {w0 w1 w : World} {a : Option Addr} {c : Nat} {xs : List UInt8} (h : Fs w1 w a c xs) (hs : w0.heap.size ≤ w1.heap.size) : Fs w0 w a c xs :=
  ⟨h.1, fun p hp hn => Nat.le_trans hs (h.2 p hp hn)⟩
theorem Bs.of_block {w : World} {g : Nat} {C : Array Value} {T : TypeId} {fr : Nat × Nat} {c : Nat} {xs : List UInt8} (hb : w.heap[g]? = some (.cells C T fr)) (hx : C.toList.take xs.length = bs xs) (hc : xs.length ≤ c) (hm : xs.length ≤ 140737488351232) : Bs w (some ⟨g, 0, none⟩) c xs := by
  refine ⟨hc, hm, Or.inr ⟨_, rfl, fun i v hv => ?_⟩⟩
  have h1 : C[i]? = some v := by
    rw [← hx, List.getElem?_take] at hv
    split at hv
    · simpa using hv
    · exact absurd hv (by simp)
  rw [Addr.add_lit]
  unfold World.cell?
  simp only [hb]
  simpa using h1
/-- The byte at i. -/
def gB (xs : List UInt8) (i : Nat) : Nat := (xs.getD i 0).toNat
theorem gB_lt (xs : List UInt8) (i : Nat) : gB xs i < 256 := UInt8.toNat_lt _
theorem Bs.cell {w : World} {a : Option Addr} {c : Nat} {xs : List UInt8} (h : Bs w a c xs) {i : Nat} (hi : i < xs.length) : ∃ p, a = some p ∧ w.cell? (p.add i) = some (.int .u8 (gB xs i : Int)) := by
  rcases h.rows with h0 | ⟨p, rfl, hh⟩
  · have := congrArg List.length h0
    rw [bs_length] at this
    simp at this
    subst this
    simp at hi
  · refine ⟨p, rfl, hh i _ ?_⟩
    unfold bs
    rw [List.getElem?_map, List.getElem?_eq_getElem hi]
    simp [bv, gB, List.getD, List.getElem?_eq_getElem hi]
/-- Where the row goes on behind k elements. -/
def adr (a : Option Addr) (k : Nat) : Option Addr := a.map (·.add k)
def sadr (a : Option Addr) (l m : Nat) : Option Addr := if m = l then a else adr a l
def mid (xs : List UInt8) (l h : Nat) : List UInt8 := (xs.take h).drop l
theorem mid_length (xs : List UInt8) (l h : Nat) (hh : h ≤ xs.length) : (mid xs l h).length = h - l := by
  unfold mid
  rw [List.length_drop, List.length_take]
  omega
theorem Bs.mid {w : World} {a : Option Addr} {c : Nat} {xs : List UInt8} (h : Bs w a c xs) {l k : Nat} (hl : l ≤ k) (hk : k ≤ xs.length) : Bs w (sadr a l c) (c - l) (mid xs l k) := by
  have hle := h.le
  have hm := h.max
  have hlen := mid_length xs l k hk
  refine ⟨by omega, by omega, ?_⟩
  unfold sadr
  split
  · have : Ytlgjdejlnelndaa.mid xs l k = [] := List.eq_nil_of_length_eq_zero (by omega)
    rw [this]
    exact Or.inl rfl
  · unfold adr Ytlgjdejlnelndaa.mid bs
    rw [List.map_drop, List.map_take]
    exact (h.rows.take k).drop l

/-! ### regions that bring facts -/
def RegF (P : Program) (id : Nat) (ops : Array Oper) (draw : Bool) (n : Nat) (l : List (Nat × Value)) (w0 : World) (h : List (Nat × Obj)) (F : World → Prop) (l' : (Nat → Orc) → List (Nat × Value)) (h' : (Nat → Orc) → List (Nat × Obj)) (F' : (Nat → Orc) → World → Prop) : Prop :=
  ∀ Q A w, Fr n l A → St w0 h F w → (∀ ρ A' w', Fr n (l' ρ) A' → St w0 (h' ρ) (F' ρ) w' → Q .normal A' w') → (Code.region id ops draw).wp P Q A w
section
variable {P : Program} {id : Nat} {ops : Array Oper} {n : Nat} {l : List (Nat × Value)} {w0 : World} {h : List (Nat × Obj)} {F : World → Prop} {l' : (Nat → Orc) → List (Nat × Value)} {h' : (Nat → Orc) → List (Nat × Obj)} {F' : (Nat → Orc) → World → Prop}
theorem reg_drawn_f (D : List Nat) (keep : List Nat) (m : Nat) (vals : (Nat → Orc) → Nat → Value) (effs : (Nat → Orc) → Nat → Eff) (fact : (Nat → Orc) → Nat → World → Prop) (hm : P.follows .mixedOrders = true) (hsz : ops.size = m) (hchk : drawOk ops D n l keep = true)
    (hfin : ∀ ρ, finL ops l (fun i => vals (mask D i ρ) i) keep = l' ρ) (hfh : ∀ ρ, finH ops.size h (fun i => effs (mask D i ρ) i) = h' ρ)
    (hF : ∀ ρ w, F w → (∀ i, i < m → fact (mask D i ρ) i w) → F' ρ w)
    (hobl : AllN m (Obl P ops D l w0 h F (fun ρ i => vals (mask D i ρ) i) (fun ρ i => effs (mask D i ρ) i) (fun ρ i => fact (mask D i ρ) i))) : RegF P id ops true n l w0 h F l' h' F' := by
  intro Q A w hfr hS hend
  unfold drawOk at hchk
  simp only [Bool.and_eq_true] at hchk
  obtain ⟨⟨⟨⟨c1, c2⟩, c3⟩, c4⟩, c5⟩ := hchk
  refine wp_region_ghost hm c1 c2 (by rw [hfr.size]; exact c3) c4 (vals := fun ρ i => vals (mask D i ρ) i) (effs := fun ρ i => effs (mask D i ρ) i) (fact := fun ρ i => fact (mask D i ρ) i) ?_ ?_ keep c5 (by rw [hfr.size]; exact hfr) hS ?_
  · intro j _ ρ ρ' hh
    exact ⟨congrArg (fun z => vals z j) (mask_congr hh), congrArg (fun z => effs z j) (mask_congr hh), congrArg (fun z => fact z j) (mask_congr hh)⟩
  · intro i hi
    exact AllN.get hobl i (by omega)
  · intro ρ A' w' hA hS'
    rw [hfin, hfr.size] at hA
    have hS2 : St w0 (finH ops.size h (fun i => effs (mask D i ρ) i)) _ w' := hS'
    rw [hfh] at hS2
    exact hend ρ A' w' hA (hS2.weaken (fun w h => hF ρ w h.1 (fun i hi => h.2 i (by omega))))
theorem reg_seq_f (D : List Nat) (keep : List Nat) (m : Nat) (vals : (Nat → Orc) → Nat → Value) (effs : (Nat → Orc) → Nat → Eff) (fact : (Nat → Orc) → Nat → World → Prop) (hsz : ops.size = m) (hchk : seqOk ops D n l keep = true)
    (hfin : ∀ ρ, finL ops l (fun i => vals (mask D i ρ) i) keep = l' ρ) (hfh : ∀ ρ, finH ops.size h (fun i => effs (mask D i ρ) i) = h' ρ)
    (hF : ∀ ρ w, F w → (∀ i, i < m → fact (mask D i ρ) i w) → F' ρ w)
    (hobl : AllN m (Obl P ops D l w0 h F (fun ρ i => vals (mask D i ρ) i) (fun ρ i => effs (mask D i ρ) i) (fun ρ i => fact (mask D i ρ) i))) : RegF P id ops false n l w0 h F l' h' F' := by
  intro Q A w hfr hS hend
  unfold seqOk at hchk
  simp only [Bool.and_eq_true] at hchk
  obtain ⟨⟨⟨c1, c3⟩, c4⟩, c5⟩ := hchk
  refine wp_region_ghost' c1 (by rw [hfr.size]; exact c3) c4 (vals := fun ρ i => vals (mask D i ρ) i) (effs := fun ρ i => effs (mask D i ρ) i) (fact := fun ρ i => fact (mask D i ρ) i) ?_ ?_ keep c5 (by rw [hfr.size]; exact hfr) hS ?_
  · intro j _ ρ ρ' hh
    exact ⟨congrArg (fun z => vals z j) (mask_congr hh), congrArg (fun z => effs z j) (mask_congr hh), congrArg (fun z => fact z j) (mask_congr hh)⟩
  · intro i hi
    exact AllN.get hobl i (by omega)
  · intro ρ A' w' hA hS'
    rw [hfin, hfr.size] at hA
    have hS2 : St w0 (finH ops.size h (fun i => effs (mask D i ρ) i)) _ w' := hS'
    rw [hfh] at hS2
    exact hend ρ A' w' hA (hS2.weaken (fun w h => hF ρ w h.1 (fun i hi => h.2 i (by omega))))
end
section
variable {P : Program} {Q : Exit → Act → World → Prop} {n : Nat} {l : List (Nat × Value)} {w0 : World} {h : List (Nat × Obj)} {F : World → Prop}
theorem ok_rf {id : Nat} {ops ops' : Array Oper} {d : Bool} {l' : (Nat → Orc) → List (Nat × Value)} {h' : (Nat → Orc) → List (Nat × Obj)} {F' : (Nat → Orc) → World → Prop} (e : ops = ops') (hr : RegF P id ops' d n l w0 h F l' h' F') (hk : ∀ ρ, Meets (Q .normal) n (l' ρ) w0 (h' ρ) (F' ρ)) :
    Ok P (.region id ops d) Q n l w0 h F := by
  subst e
  exact fun A w hf hs => hr Q A w hf hs (fun ρ A' w' hf' hs' => hk ρ A' w' hf' hs')
theorem ok_seq_rf {id : Nat} {ops ops' : Array Oper} {d : Bool} {y : Code} {l' : (Nat → Orc) → List (Nat × Value)} {h' : (Nat → Orc) → List (Nat × Obj)} {F' : (Nat → Orc) → World → Prop} (e : ops = ops') (hr : RegF P id ops' d n l w0 h F l' h' F') (hk : ∀ ρ, Ok P y Q n (l' ρ) w0 (h' ρ) (F' ρ)) :
    Ok P (.seq (.region id ops d) y) Q n l w0 h F := ok_seq (ok_rf e hr hk)
/-- What the facts say of numbers. -/
theorem ok_pure {c : Code} (p : Prop) (hp : ∀ w, F w → p) (hk : p → Ok P c Q n l w0 h F) : Ok P c Q n l w0 h F :=
  fun A w hf hs => hk (hp w hs.facts.now) A w hf hs
theorem mt_pure {R : Act → World → Prop} (p : Prop) (hp : ∀ w, F w → p) (hk : p → Meets R n l w0 h F) : Meets R n l w0 h F :=
  fun A w hf hs => hk (hp w hs.facts.now) A w hf hs
theorem ok_facts {c : Code} (G : World → Prop) (hp : ∀ w, F w → G w) (hk : Ok P c Q n l w0 h G) : Ok P c Q n l w0 h F :=
  fun A w hf hs => hk A w hf (hs.weaken hp)
end

section
variable {P : Program} {ops : Array Oper} {D : List Nat} {l : List (Nat × Value)} {w0 : World} {h : List (Nat × Obj)} {F0 : World → Prop}
variable {vals : (Nat → Orc) → Nat → Value} {effs : (Nat → Orc) → Nat → Eff} {fact : (Nat → Orc) → Nat → World → Prop}
/-- An operation that brings no fact. -/
theorem Obl.brings {i : Nat} (hO : Obl P ops D l w0 h F0 vals effs (fun _ _ _ => True) i) (hf : ∀ ρ w, fact ρ i w) : Obl P ops D l w0 h F0 vals effs fact i := by
  intro o ho ρ T w hG
  have hG' : Given ops D w0 h F0 effs (fun _ _ _ => True) i ρ T w := ⟨hG.lt, hG.below, hG.block, hG.ne, hG.facts0, fun j _ => persT⟩
  have h1 := hO o ho ρ T w hG'
  have key : ∀ v w', After ops D h vals effs (fun _ _ _ => True) i ρ T w v w' → After ops D h vals effs fact i ρ T w v w' := by
    rintro v w' ⟨r, e1, e2, e3, e4, e5, _⟩
    exact ⟨r, e1, e2, e3, e4, e5, persTrue (hf _)⟩
  split at h1
  · rename_i hw
    rw [if_pos hw]
    unfold opv at h1 ⊢
    split at h1
    · exact key _ _ h1
    · exact key _ _ h1
    · refine h1.mono (fun e w'' he => ?_)
      cases e with
      | returned v => exact key _ _ he
      | panicked c => exact he
      | outgrown => exact he
    · exact h1.elim
  · rename_i hw
    rw [if_neg hw]
    exact key _ _ h1
theorem Given.known {i : Nat} {ρ : Nat → Orc} {T : Nat → Prop} {w : World} (hG : Given ops D w0 h F0 effs fact i ρ T w) (n : Nat) {g : Nat} {o : Obj} (hn : namesOk ops D h (effs ρ) i [n] = true) (hk : known ops D h (effs ρ) i [n] = [(g, o)]) : w.heap[g]? = some o := by
  unfold namesOk at hn
  rw [Bool.and_eq_true, List.all_eq_true] at hn
  have hn1 := hn.1 n (by simp)
  rw [Bool.and_eq_true] at hn1
  obtain ⟨⟨b, q⟩, hb⟩ := Option.isSome_iff_exists.1 hn1.1
  have := (hG.block n b q hb hn1.2).1
  unfold Ytlgjdejlnelndaa.known at hk
  simp only [List.map_cons, List.map_nil, hb, List.cons.injEq, Prod.mk.injEq, and_true] at hk
  rw [hk.2] at this
  rw [← hk.1]; exact this
/-- An operation that changes nothing: its run is known where the facts hold; it may bring a fact. -/
theorem o_semF (i : Nat) (s : (Nat → Orc) → Sem Next) (v : (Nat → Orc) → Value) (hc : ∀ ρ, semChk ops (vals ρ) (vals (upd ρ i {}) i) (effs (upd ρ i {}) i) i = some (v ρ, {}))
    (hx : ∀ ρ, execOp (evalAt ops D l (vals ρ) i) (opAt ops i) = s ρ) (hr : ∀ ρ T w, Given ops D w0 h F0 effs fact i ρ T w → (s ρ).run P w = .ok (.value (v ρ)) w)
    (hf : ∀ ρ T w, Given ops D w0 h F0 effs fact i ρ T w → Pers T (fact (upd ρ i {}) i) w) : Obl P ops D l w0 h F0 vals effs fact i := by
  intro o ho ρ T w hG
  have hsm := semChk_get (hc ρ)
  have hoe := opAt_some hsm.1.1
  rw [ho] at hoe
  obtain rfl : o = opAt ops i := by simpa using hoe
  rw [if_pos hsm.1.2]
  unfold opv
  rw [hx ρ, hr ρ T w hG]
  refine ⟨{}, hsm.2.1.symm, Upd.refl _ _, ?_, ?_, ?_, ?_⟩
  · rw [hsm.2.2]; intro n q hm; simp at hm
  · rw [hsm.2.2]; intro k b q hk; simp at hk
  · rw [hsm.2.2]; simp
  · rw [hsm.2.2]; exact (hf ρ T w hG).sub (fun b hb => by simpa using hb)
def callChkF (P : Program) (ops : Array Oper) (D : List Nat) (l : List (Nat × Value)) (V : Nat → Value) (i : Nat) (z : List Nat) : Option (Next × List (Nat × Obj) × List (Nat × Nat)) :=
  if (ops[i]?).isSome && wantV V (opAt ops i) then grun P (execOp (evalAt ops D l V i) (opAt ops i)) [] [] z else none
/-- A call whose contract asks for facts, and brings new ones. -/
theorem o_callG (i : Nat) (f : FuncId) (args : (Nat → Orc) → Array Value)
    (hc : ∀ ρ z, callChkF P ops D l (vals ρ) i z = some (.enter f (args ρ), [], []))
    (he : ∀ ρ r, effs (upd ρ i r) i = {})
    (hf : ∀ ρ T w, Given ops D w0 h F0 effs fact i ρ T w → Calls P f (args ρ) w (fun e w' => Below w.heap.size w w' ∧ ∃ r, e = .returned (vals (upd ρ i r) i) ∧ Pers (fun b => b < w.heap.size) (fact (upd ρ i r) i) w')) : Obl P ops D l w0 h F0 vals effs fact i := by
  have key : ∀ ρ z, ((ops[i]?).isSome = true ∧ wantV (vals ρ) (opAt ops i) = true) ∧ grun P (execOp (evalAt ops D l (vals ρ) i) (opAt ops i)) [] [] z = some (.enter f (args ρ), [], []) := by
    intro ρ z
    have h1 := hc ρ z
    unfold callChkF at h1
    split at h1
    · rename_i hb
      simp only [Bool.and_eq_true] at hb
      exact ⟨hb, h1⟩
    · exact absurd h1 (by simp)
  intro o ho ρ T w hG
  have hoe := opAt_some (key ρ []).1.1
  rw [ho] at hoe
  obtain rfl : o = opAt ops i := by simpa using hoe
  rw [if_pos (key ρ []).1.2]
  obtain ⟨w1, h1, _, _, h4, _, _⟩ := grun_sound (P := P) (execOp (evalAt ops D l (vals ρ) i) (opAt ops i)) [] [] w _ _ _ (by intro y hy; simp at hy) (by simp) ((key ρ _).2) trivial
  have hb : Below w.heap.size w w1 := ⟨h4.os, h4.tape, h4.output, h4.size, fun k hk => h4.block k hk (by simp)⟩
  have hheap : ∀ b, b < w.heap.size → w1.heap[b]? = w.heap[b]? := fun b hb' => hb.block b hb'
  have hG1 : Given ops D w0 h F0 effs fact i ρ T w1 := by
    have tr : ∀ {F : World → Prop}, Pers T F w → Pers T F w1 := by
      rintro F ⟨S, s1, s2⟩
      refine ⟨S, fun b hb' => ⟨Nat.lt_of_lt_of_le (s1 b hb').1 hb.size, (s1 b hb').2⟩, fun w' hw => s2 w' (fun b hb' => ?_)⟩
      rw [hw b hb', hheap b (s1 b hb').1]
    refine ⟨fun b hb' => Nat.lt_of_lt_of_le (hG.lt b hb') hb.size, hG.below.trans (hb.mono hG.below.size), fun n b o hn hk => ?_, hG.ne, tr hG.facts0, fun j hj => tr (hG.facts j hj)⟩
    have := hG.block n b o hn hk
    refine ⟨?_, this.2⟩
    rw [hheap b (hG.lt b this.2.1)]
    exact this.1
  unfold opv
  rw [h1]
  refine (hf ρ T w1 hG1).mono (fun e w2 hew => ?_)
  obtain ⟨hb2, r, rfl, hp⟩ := hew
  show After ops D h vals effs fact i ρ T w _ w2
  refine ⟨r, rfl, Upd.of_below (hb.trans (hb2.mono hb.size)), ?_, ?_, ?_, ?_⟩
  · rw [he]; intro n q hm; simp at hm
  · rw [he]; intro k b q hk; simp at hk
  · rw [he]; simp
  · rw [he]
    refine hp.sub (fun b hbT => ?_)
    rcases hbT with hbT | hbT
    · exact Nat.lt_of_lt_of_le (hG.lt b hbT) hb.size
    · simp at hbT
/-- A call whose contract asks for facts; its value is settled. -/
theorem o_callP (i : Nat) (f : FuncId) (args : (Nat → Orc) → Array Value) (v : (Nat → Orc) → Value)
    (hc : ∀ ρ z, callChkF P ops D l (vals ρ) i z = some (.enter f (args ρ), [], []))
    (hv : ∀ ρ, vals (upd ρ i {}) i = v ρ) (he : ∀ ρ r, effs (upd ρ i r) i = {}) (ht : ∀ ρ w, fact ρ i w)
    (hf : ∀ ρ T w, Given ops D w0 h F0 effs fact i ρ T w → Calls P f (args ρ) w (fun e w' => e = .returned (v ρ) ∧ Below w.heap.size w w')) : Obl P ops D l w0 h F0 vals effs fact i := by
  refine o_callG i f args hc he (fun ρ T w hG => (hf ρ T w hG).mono (fun e w' hew => ⟨hew.2, {}, ?_, persTrue (ht _)⟩))
  rw [hv ρ]; exact hew.1
/-- A call that hands back new bytes. -/
theorem o_callB (i : Nat) (f : FuncId) (args : (Nat → Orc) → Array Value) (v : (Nat → Orc) → Option Addr → Nat → Value) (xs : (Nat → Orc) → List UInt8)
    (hc : ∀ ρ z, callChkF P ops D l (vals ρ) i z = some (.enter f (args ρ), [], []))
    (hv : ∀ ρ r, vals (upd ρ i r) i = v ρ r.a (r.n.headD 0)) (he : ∀ ρ r, effs (upd ρ i r) i = {}) (ht : ∀ ρ r, fact (upd ρ i r) i = fun w => Fs w0 w r.a (r.n.headD 0) (xs ρ))
    (hf : ∀ ρ T w, Given ops D w0 h F0 effs fact i ρ T w → Calls P f (args ρ) w (fun e w' => ∃ a c, e = .returned (v ρ a c) ∧ Below w.heap.size w w' ∧ Fs w w' a c (xs ρ))) : Obl P ops D l w0 h F0 vals effs fact i := by
  refine o_callG i f args hc he (fun ρ T w hG => (hf ρ T w hG).mono (fun e w' hew => ?_))
  obtain ⟨a, c, h1, h2, h3⟩ := hew
  refine ⟨h2, { n := [c], a := a }, ?_, ?_⟩
  · rw [hv]; exact h1
  · rw [ht]
    exact (h3.pers (T := fun b => b < w.heap.size) (fun b hb => hb)).mono (fun _ hx => hx.older hG.below.size)
end

section
variable {P : Program} {ops : Array Oper} {D : List Nat} {l : List (Nat × Value)} {w0 : World} {h : List (Nat × Obj)} {F0 : World → Prop}
variable {vals : (Nat → Orc) → Nat → Value} {effs : (Nat → Orc) → Nat → Eff} {fact : (Nat → Orc) → Nat → World → Prop}
/-- w' is w and one block more. -/
structure Grew (w w' : World) (o : Obj) : Prop where
  os : w'.os = w.os
  tape : w'.tape = w.tape
  output : w'.output = w.output
  heap : w'.heap = w.heap.push o
/-- w' is w but for block g. -/
structure Wrote (w w' : World) (g : Nat) (o : Obj) : Prop where
  os : w'.os = w.os
  tape : w'.tape = w.tape
  output : w'.output = w.output
  size : w'.heap.size = w.heap.size
  other : ∀ b, b ≠ g → w'.heap[b]? = w.heap[b]?
  at_ : w'.heap[g]? = some o
def newChk (ops : Array Oper) (V : Nat → Value) (v : Value) (E' : Eff) (i : Nat) : Option (Value × Eff) :=
  if (ops[i]?).isSome && wantV V (opAt ops i) then some (v, E') else none
/-- An operation that makes one block. -/
theorem o_new1 (i : Nat) (s : (Nat → Orc) → Sem Next) (v : (Nat → Orc) → List Nat → Value) (ob : (Nat → Orc) → List Nat → Obj)
    (hc : ∀ ρ z, newChk ops (vals ρ) (vals (upd ρ i { n := z }) i) (effs (upd ρ i { n := z }) i) i = some (v ρ z, { news := [(z.headD 0, ob ρ z)] }))
    (hx : ∀ ρ, execOp (evalAt ops D l (vals ρ) i) (opAt ops i) = s ρ) (ht : ∀ ρ w, fact ρ i w)
    (hr : ∀ ρ T w, Given ops D w0 h F0 effs fact i ρ T w → ∃ k w', (s ρ).run P w = .ok (.value (v ρ [w.heap.size, k])) w' ∧ Grew w w' (ob ρ [w.heap.size, k])) : Obl P ops D l w0 h F0 vals effs fact i := by
  have key : ∀ ρ z, ((ops[i]?).isSome = true ∧ wantV (vals ρ) (opAt ops i) = true) ∧ v ρ z = vals (upd ρ i { n := z }) i ∧ effs (upd ρ i { n := z }) i = { news := [(z.headD 0, ob ρ z)] } := by
    intro ρ z
    have h1 := hc ρ z
    unfold newChk at h1
    split at h1
    · rename_i hb
      simp only [Bool.and_eq_true] at hb
      simp only [Option.some.injEq, Prod.mk.injEq] at h1
      exact ⟨hb, h1.1.symm, h1.2⟩
    · exact absurd h1 (by simp)
  intro o ho ρ T w hG
  have hoe := opAt_some (key ρ []).1.1
  rw [ho] at hoe
  obtain rfl : o = opAt ops i := by simpa using hoe
  rw [if_pos (key ρ []).1.2]
  obtain ⟨k, w', hrun, hgr⟩ := hr ρ T w hG
  unfold opv
  rw [hx ρ, hrun]
  have he := (key ρ [w.heap.size, k]).2.2
  refine ⟨{ n := [w.heap.size, k] }, (key ρ _).2.1, ?_, ?_, ?_, ?_, persTrue (ht _)⟩
  · refine ⟨hgr.os, hgr.tape, hgr.output, by rw [hgr.heap]; simp, fun b hb _ => ?_⟩
    rw [hgr.heap, Array.getElem?_push, if_neg (by omega)]
  · rw [he]; intro n q hm; simp at hm
  · rw [he]
    intro j b q hj
    have : j = 0 := by
      have := (List.getElem?_eq_some_iff.1 hj).1
      simpa using this
    subst this
    simp only [List.headD_cons, List.getElem?_cons_zero, Option.some.injEq, Prod.mk.injEq] at hj
    obtain ⟨rfl, rfl⟩ := hj
    refine ⟨Nat.le_refl _, ?_⟩
    rw [hgr.heap]
    simp
  · rw [he]; simp
/-- An operation that writes one block of the call's own. -/
theorem o_put1 (i n : Nat) (s : (Nat → Orc) → Sem Next) (g : (Nat → Orc) → Nat) (ob ob' : (Nat → Orc) → Obj) (v : (Nat → Orc) → Value)
    (hc : ∀ ρ, newChk ops (vals ρ) (vals (upd ρ i {}) i) (effs (upd ρ i {}) i) i = some (v ρ, { puts := [(n, ob' ρ)] }))
    (hn : ∀ ρ, namesOk ops D h (effs ρ) i [n] = true) (hk : ∀ ρ, known ops D h (effs ρ) i [n] = [(g ρ, ob ρ)])
    (hx : ∀ ρ, execOp (evalAt ops D l (vals ρ) i) (opAt ops i) = s ρ) (ht : ∀ ρ w, fact ρ i w)
    (hr : ∀ ρ T w, Given ops D w0 h F0 effs fact i ρ T w → w.heap[g ρ]? = some (ob ρ) → ∃ w', (s ρ).run P w = .ok (.value (v ρ)) w' ∧ Wrote w w' (g ρ) (ob' ρ)) : Obl P ops D l w0 h F0 vals effs fact i := by
  have key : ∀ ρ, ((ops[i]?).isSome = true ∧ wantV (vals ρ) (opAt ops i) = true) ∧ v ρ = vals (upd ρ i {}) i ∧ effs (upd ρ i {}) i = { puts := [(n, ob' ρ)] } := by
    intro ρ
    have h1 := hc ρ
    unfold newChk at h1
    split at h1
    · rename_i hb
      simp only [Bool.and_eq_true] at hb
      simp only [Option.some.injEq, Prod.mk.injEq] at h1
      exact ⟨hb, h1.1.symm, h1.2⟩
    · exact absurd h1 (by simp)
  intro o ho ρ T w hG
  have hoe := opAt_some (key ρ).1.1
  rw [ho] at hoe
  obtain rfl : o = opAt ops i := by simpa using hoe
  rw [if_pos (key ρ).1.2]
  obtain ⟨w', hrun, hwr⟩ := hr ρ T w hG (hG.known n (hn ρ) (hk ρ))
  unfold opv
  rw [hx ρ, hrun]
  have he := (key ρ).2.2
  have hn0 := hn ρ
  unfold namesOk at hn0
  rw [Bool.and_eq_true, List.all_eq_true] at hn0
  have hn1 := hn0.1 n (by simp)
  rw [Bool.and_eq_true] at hn1
  obtain ⟨⟨b, q⟩, hb⟩ := Option.isSome_iff_exists.1 hn1.1
  have hbg : b = g ρ := by
    have := hk ρ
    unfold known at this
    simp only [List.map_cons, List.map_nil, hb, List.cons.injEq, Prod.mk.injEq, and_true] at this
    exact this.1
  refine ⟨{}, (key ρ).2.1, ?_, ?_, ?_, ?_, persTrue (ht _)⟩
  · refine ⟨hwr.os, hwr.tape, hwr.output, by rw [hwr.size]; exact Nat.le_refl _, fun k hk' hX => hwr.other k ?_⟩
    rintro rfl
    exact hX ⟨n, _, q, by rw [he]; exact List.mem_cons_self, by rw [hb, hbg]⟩
  · rw [he]
    intro n' o' hm
    simp only [List.mem_singleton, Prod.mk.injEq] at hm
    obtain ⟨rfl, rfl⟩ := hm
    refine ⟨hn1.2, b, q, hb, ?_⟩
    rw [hbg, hwr.at_]
    simp
  · rw [he]; intro k b' q' hk'; simp at hk'
  · rw [he]; simp
end

/-! ### runs over bytes -/
section
variable {P : Program} {t e : TypeId}
/-- The element's type is one byte. -/
def u8like (P : Program) (e : TypeId) : Prop := ∃ i, P.info? e = some i ∧ i.size = 1 ∧ i.bytes = 1 ∧ i.zero = some (.int .u8 0)
theorem u8like_of (h : (P.info? e).map (fun i => (i.size, i.bytes, i.zero)) = some (1, 1, some (.int .u8 0))) : u8like P e := by
  rw [Option.map_eq_some_iff] at h
  obtain ⟨i, h1, h2⟩ := h
  simp only [Prod.mk.injEq] at h2
  exact ⟨i, h1, h2⟩
def zB (n : Nat) : Array Value := (bs (List.replicate n 0)).toArray
def inpl (C : Array Value) (o : Nat) (vs : List Value) : Array Value := (C.toList.take o ++ vs ++ C.toList.drop (o + vs.length)).toArray
def grow (C : Array Value) (o : Nat) (vs : List Value) (k : Nat) : Array Value := (C.toList.take o ++ vs).toArray ++ zB k
theorem zB_size (n : Nat) : (zB n).size = n := by simp [zB, bs]
theorem sizeOf_u8 (hi : u8like P e) (w : World) : (sizeOf e).run P w = .ok 1 w := by
  obtain ⟨i, h1, h2, _⟩ := hi
  simp [sizeOf, typeInfo, h1, h2]
theorem made_zB (n : Nat) : madeCells #[.int .u8 0] n = zB n := by
  apply Array.ext
  · simp [madeCells, zB, bs]
  · intro i h1 h2
    simp [madeCells, zB, bs, bv, Nat.mod_one]
theorem zero_zB (n : Nat) : Builtin.zeroCells #[.int .u8 0] n = zB n := by
  apply Array.ext
  · simp [Builtin.zeroCells, zB, bs]
  · intro i h1 h2
    simp [Builtin.zeroCells, zB, bs, bv, Nat.mod_one]
theorem oneCell_bs (xs : List UInt8) : ∀ u ∈ bs xs, u.oneCell' = true := by
  intro u hu
  obtain ⟨x, _, rfl⟩ := List.mem_map.1 hu
  rfl
theorem Bs.src {w : World} {a : Option Addr} {c : Nat} {xs : List UInt8} {tx e' : TypeId} (hk : P.underlying tx = some (.slice e')) (h : Bs w a c xs) : Src P 1 tx (.slice a xs.length c) xs.length (bs xs) w := by
  cases a with
  | none =>
    have h0 : xs = [] := by
      rcases h.rows with h0 | ⟨p, hp, _⟩
      · exact List.map_eq_nil_iff.1 h0
      · exact absurd hp (by simp)
    subst h0
    exact Src.ofNil w hk c
  | some p =>
    refine Src.ofSlice w hk p xs.length c (bs xs) (by rw [bs_length, Nat.mul_one]) ?_ (oneCell_bs xs)
    intro j u hu
    rcases h.rows with h0 | ⟨p', hp, hh⟩
    · rw [h0] at hu; simp at hu
    · obtain rfl : p = p' := by simpa using hp
      exact hh j u hu
theorem wrote_row {w : World} {g : Nat} {C C' : Array Value} {T : TypeId} (hg : w.heap[g]? = some (.cells C T (0, 0))) : Wrote w (w.setRow g C') g (.cells C' T (0, 0)) :=
  ⟨rfl, rfl, rfl, size_setRow w g C', fun b hb => setRow_other w g b C' hb, setRow_heap w g C C' T _ hg⟩
/-- There is room. -/
theorem app_room {w : World} {ty tx : TypeId} (ht : P.underlying t = some (.slice e)) (hi : u8like P e) {g n c : Nat} {C : Array Value} {x : Value} {ys : List UInt8} (hg : w.heap[g]? = some (.cells C e (0, 0)))
    (hs : Src P 1 tx x ys.length (bs ys) w) (hr : n + ys.length ≤ c) (hf : n + ys.length ≤ C.size) :
    ∃ w', (do pure (Next.value (← Builtin.append_ #[t, tx] ty #[.slice (some ⟨g, 0, none⟩) n c, x])) : Sem Next).run P w = .ok (.value (.slice (some ⟨g, 0, none⟩) (n + ys.length) c)) w' ∧ Wrote w w' g (.cells (inpl C n (bs ys)) e (0, 0)) := by
  obtain ⟨i, h1, h2, h3, h4⟩ := hi
  refine ⟨_, ?_, wrote_row hg⟩
  have hst := run_storeCells_at P g n e (bs ys) 0 C w hg (by rw [bs_length]; omega) (oneCell_bs ys)
  simp only [Nat.add_zero] at hst
  have hs2 : Src P i.size tx x ys.length (bs ys) w := by rw [h2]; exact hs
  have hrun : (Builtin.append_ #[t, tx] ty #[.slice (some ⟨g, 0, none⟩) n c, x]).run P w = .ok (.slice (some ⟨g, 0, none⟩) (n + ys.length) c) (w.setRow g (inpl C n (bs ys))) := by
    unfold inpl
    rcases hs.kind with ⟨e', hk⟩ | hk <;> simp [Builtin.append_, run_underlying ht, run_underlying hk, sizeOf, typeInfo, h1, h2, hs.len, hr, hs.cells, Addr.add_lit, hst]
  rw [Sem.run_bind, hrun]
  rfl
/-- There is none: a new row. -/
theorem app_grow {w : World} {ty tx : TypeId} (ht : P.underlying t = some (.slice e)) (hi : u8like P e) {a : Option Addr} {n c : Nat} {olds : List Value} {x : Value} {ys : List UInt8}
    (ho : (Builtin.firstCells 1 n (.slice a n c)).run P w.drew = .ok olds.toArray w.drew) (hs : Src P 1 tx x ys.length (bs ys) w) (hr : c < n + ys.length) (hm : n + ys.length ≤ 140737488351232) :
    ∃ k w', (do pure (Next.value (← Builtin.append_ #[t, tx] ty #[.slice a n c, x])) : Sem Next).run P w = .ok (.value (.slice (some ⟨w.heap.size, 0, none⟩) (n + ys.length) (n + ys.length + k))) w' ∧ Grew w w' (.cells ((olds ++ bs ys).toArray ++ zB k) e (0, 0)) := by
  obtain ⟨i, h1, h2, h3, h4⟩ := hi
  have hge := grownCap_ge w (n + ys.length) c e
  have hs2 : Src P i.size tx x ys.length (bs ys) w := by rw [h2]; exact hs
  have hrun := run_append_grow_src (P := P) w t tx ty e i (.int .u8 0) ht h1 h4 a n c olds (by rw [h2]; exact ho) x ys.length (bs ys) hs2 hr (by omega) (growslice_fits hr (by rw [h3]; omega))
  refine ⟨grownCap w (n + ys.length) c e - (n + ys.length), w.drew.alloc (.cells ((olds ++ bs ys).toArray ++ zB (grownCap w (n + ys.length) c e - (n + ys.length))) e), ?_, ⟨rfl, rfl, rfl, rfl⟩⟩
  rw [Sem.run_bind, hrun]
  rw [show (n + ys.length + (grownCap w (n + ys.length) c e - (n + ys.length))) = grownCap w (n + ys.length) c e by omega, ← zero_zB]
  rfl
theorem first_nil {w : World} : (Builtin.firstCells 1 0 (.slice none 0 0)).run P w = .ok ([] : List Value).toArray w := run_firstCells_none w 1 0 0 0
theorem first_row {w : World} {g n c : Nat} {C : Array Value} {T : TypeId} {fr : Nat × Nat} (hg : w.heap[g]? = some (.cells C T fr)) (hn : n ≤ C.size) : (Builtin.firstCells 1 n (.slice (some ⟨g, 0, none⟩) n c)).run P w = .ok (C.toList.take n).toArray w := by
  refine run_firstCells_some w 1 n ⟨g, 0, none⟩ n c (C.toList.take n) (by simp; omega) (fun j v hv => ?_)
  rw [Addr.add_lit]
  unfold World.cell?
  simp only [hg]
  rw [List.getElem?_take] at hv
  split at hv
  · simpa using hv
  · exact absurd hv (by simp)
/-- copy into the head of a row. -/
theorem copy_row {w : World} {ty tx : TypeId} (ht : P.underlying t = some (.slice e)) (hi : u8like P e) {g n c : Nat} {C : Array Value} {T : TypeId} {a : Option Addr} {m d : Nat} {xs : List UInt8} (hg : w.heap[g]? = some (.cells C T (0, 0)))
    (hb : Bs w a d xs) (hm : m = xs.length) (hn : n ≤ C.size) :
    ∃ w', (do pure (Next.value (← Builtin.copy_ #[t, tx] ty #[.slice (some ⟨g, 0, none⟩) n c, .slice a m d])) : Sem Next).run P w = .ok (.value (goInt (Nat.min xs.length n))) w' ∧ Wrote w w' g (.cells (inpl C 0 (bs (xs.take n))) T (0, 0)) := by
  subst hm
  obtain ⟨i, h1, h2, h3, h4⟩ := hi
  refine ⟨_, ?_, wrote_row hg⟩
  have hlen : (bs (xs.take n)).length = Nat.min xs.length n := by rw [bs_length, List.length_take]; exact Nat.min_comm _ _
  have hst := run_storeCells_at P g 0 T (bs (xs.take n)) 0 C w hg (by rw [bs_length, List.length_take]; omega) (oneCell_bs _)
  simp only [Nat.add_zero] at hst
  have hfc : (Builtin.firstCells 1 (Nat.min xs.length n) (.slice a xs.length d)).run P w = .ok (bs (xs.take n)).toArray w := by
    cases a with
    | none =>
      have h0 : xs = [] := by
        rcases hb.rows with h0 | ⟨p, hp, _⟩
        · exact List.map_eq_nil_iff.1 h0
        · exact absurd hp (by simp)
      subst h0
      simp [Builtin.firstCells, bs]
    | some p =>
      refine run_firstCells_some w 1 _ p _ d (bs (xs.take n)) (by rw [hlen, Nat.mul_one]) (fun j v hv => ?_)
      rcases hb.rows with h0 | ⟨p', hp, hh⟩
      · have h0' : xs = [] := List.map_eq_nil_iff.1 h0
        subst h0'
        simp [bs] at hv
      · obtain rfl : p = p' := by simpa using hp
        apply hh j v
        unfold bs at hv ⊢
        rw [List.map_take, List.getElem?_take] at hv
        split at hv
        · exact hv
        · exact absurd hv (by simp)
  have hrun : (Builtin.copy_ #[t, tx] ty #[.slice (some ⟨g, 0, none⟩) n c, .slice a xs.length d]).run P w = .ok (goInt (Nat.min xs.length n)) (w.setRow g (inpl C 0 (bs (xs.take n)))) := by
    unfold inpl
    simp [Builtin.copy_, run_underlying ht, Builtin.lenOf, sizeOf, typeInfo, h1, h2, hfc, hst]
  rw [Sem.run_bind, hrun]
  rfl
theorem make_row (ht : P.underlying t = some (.slice e)) (hi : u8like P e) {kl kc : IntKind} {n c : Nat} (hn : n ≤ c) (hc : c ≤ 140737488351232) (w : World) :
    ∃ k w', (do pure (Next.value (← Instr.makeSlice t (.int kl (n : Int)) (.int kc (c : Int)))) : Sem Next).run P w = .ok (.value (.slice (some ⟨([w.heap.size, k] : List Nat).headD 0, 0, none⟩) n c)) w' ∧ Grew w w' (.cells (zB c) e (0, 0)) := by
  obtain ⟨i, h1, h2, h3, h4⟩ := hi
  have hr := run_make (P := P) w t e i _ ht h1 h4 kl kc n c (by omega) (by omega) (by rw [h3]; omega) (by omega)
  refine ⟨0, w.alloc (.cells (zB c) e), ?_, ⟨rfl, rfl, rfl, rfl⟩⟩
  rw [Sem.run_bind, hr]
  simp only [h2, Nat.mul_one, Int.toNat_natCast]
  rw [← made_zB]
  rfl
theorem idx_bytes (ht : P.underlying t = some (.slice e)) (hi : u8like P e) {w : World} {a : Option Addr} {c m : Nat} {xs : List UInt8} {k : IntKind} {z : Int} {j : Nat} (hb : Bs w a c xs) (hm : m = xs.length) (hz : z = (j : Int)) (hj : j < xs.length) :
    (do pure (Next.value (← Instr.indexAt t (.slice a m c) (.int k z))) : Sem Next).run P w = .ok (.value (.pointer (adr a j))) w := by
  subst hm hz
  obtain ⟨p, rfl, _⟩ := hb.cell hj
  have hs := sizeOf_u8 hi w
  simp [Instr.indexAt, asIntOf, Sem.run_bind, run_underlying ht, hj, hs, adr]
theorem ld_bytes {w : World} {a : Option Addr} {c : Nat} {xs : List UInt8} {j : Nat} (ha : ∀ w, (isAgg e).run P w = .ok false w) (hb : Bs w a c xs) (hj : j < xs.length) :
    (do pure (Next.value (← Instr.loadAt e (.pointer (adr a j)))) : Sem Next).run P w = .ok (.value (.int .u8 (gB xs j : Int))) w := by
  obtain ⟨p, rfl, hp⟩ := hb.cell hj
  simp only [adr, Option.map_some, Instr.loadAt, Instr.sureAddr, loadVar, Sem.run_bind, Sem.run_pure, Result.andThen_ok, ha, Bool.false_eq_true, if_false, load, Sem.run, hp]
def natO : Option Nat → Option Value := Option.map fun n => .int .i64 (n : Int)
theorem slice_bytes (ht : P.underlying t = some (.slice e)) (hi : u8like P e) {w : World} {a : Option Addr} {c m : Nat} {xs : List UInt8} {lo hi' : Option Value} {l k : Nat} (hb : Bs w a c xs) (hm : m = xs.length)
    (hlo : lo = none ∧ l = 0 ∨ lo = some (.int .i64 (l : Int))) (hhi : hi' = none ∧ k = xs.length ∨ hi' = some (.int .i64 (k : Int))) (hl : l ≤ k) (hk : k ≤ xs.length) :
    (do pure (Next.value (← Instr.sliceAt t (.slice a m c) lo hi' none)) : Sem Next).run P w = .ok (.value (.slice (sadr a l c) (mid xs l k).length (c - l))) w := by
  subst hm
  have hle := hb.le
  have hs := sizeOf_u8 hi w
  have h1 : l ≤ k := by omega
  have h2 : k ≤ c := by omega
  rw [mid_length xs l k hk]
  have hb1 : (Instr.sliceBounds true xs.length c lo hi' none).run P w = .ok (l, k, c) w := by
    rcases hlo with ⟨rfl, rfl⟩ | rfl
    · rcases hhi with ⟨rfl, rfl⟩ | rfl
      · simp [Instr.sliceBounds]
      · simp [Instr.sliceBounds, Instr.sliceBound, asIntOf, h2]
    · rcases hhi with ⟨rfl, rfl⟩ | rfl
      · simp [Instr.sliceBounds, Instr.sliceBound, asIntOf, h1]
      · simp [Instr.sliceBounds, Instr.sliceBound, asIntOf, h1, h2]
  simp [Instr.sliceAt, Instr.slice, run_underlying ht, hs, sadr, adr, hb1]
def strB (xs : List UInt8) : ByteArray := ⟨xs.toArray⟩
theorem str_bytes {ts : TypeId} (ht : P.underlying t = some (.slice e)) (he : P.underlying e = some (.int .u8)) (hd : P.underlying ts = some .string) {w : World} {a : Option Addr} {c m : Nat} {xs : List UInt8} (hb : Bs w a c xs) (hm : m = xs.length) :
    (do pure (Next.value (← convert t ts (.slice a m c))) : Sem Next).run P w = .ok (.value (.string (strB xs))) w := by
  subst hm
  cases a with
  | none =>
    have h0 : xs = [] := by
      rcases hb.rows with h0 | ⟨p, hp, _⟩
      · exact List.map_eq_nil_iff.1 h0
      · exact absurd hp (by simp)
    subst h0
    simp [run_convert_bytes_string w t ts e none _ c ht he hd, Conv.bytesToString, strB]
    rfl
  | some p =>
    rw [Sem.run_bind, run_convert_bytes_back w t ts e p c xs ht he hd]
    · rfl
    · intro j hj
      obtain ⟨p', hp, hc⟩ := hb.cell hj
      obtain rfl : p = p' := by simpa using hp
      rw [hc]
      simp [gB, List.getD, List.getElem?_eq_getElem hj]
/-- The head of a row holds the bytes xs. -/
def Hd (C : Array Value) (xs : List UInt8) : Prop := C.toList.take xs.length = bs xs
theorem Hd.size {C : Array Value} {xs : List UInt8} (h : Hd C xs) : xs.length ≤ C.size := by
  have := congrArg List.length h
  rw [bs_length, List.length_take] at this
  simp at this
  omega
theorem Hd.nil (C : Array Value) : Hd C [] := by simp [Hd, bs]
theorem Hd.all (xs : List UInt8) : Hd (bs xs).toArray xs := by
  unfold Hd
  rw [← bs_length]
  simp
theorem inpl_size (C : Array Value) (o : Nat) (vs : List Value) (h : o + vs.length ≤ C.size) : (inpl C o vs).size = C.size := by
  simp [inpl]
  omega
theorem Hd.inpl {C : Array Value} {xs ys : List UInt8} (h : Hd C xs) {n : Nat} (hn : n = xs.length) : Hd (inpl C n (bs ys)) (xs ++ ys) := by
  subst hn
  unfold Hd at h ⊢
  unfold Ytlgjdejlnelndaa.inpl
  rw [h, bs_app, List.length_append]
  have : xs.length + ys.length = (bs xs ++ bs ys).length := by rw [List.length_append, bs_length, bs_length]
  rw [this]
  simp only [List.append_assoc]
  rw [← List.append_assoc, List.take_left]
theorem Hd.grow {C : Array Value} {xs ys : List UInt8} (h : Hd C xs) {k n : Nat} (hn : n = xs.length) : Hd (grow C n (bs ys) k) (xs ++ ys) := by
  subst hn
  unfold Hd at h ⊢
  unfold Ytlgjdejlnelndaa.grow
  rw [h, bs_app, List.length_append]
  have : xs.length + ys.length = (bs xs ++ bs ys).length := by rw [List.length_append, bs_length, bs_length]
  rw [this]
  simp only [Array.toList_append, List.append_assoc]
  rw [← List.append_assoc, List.take_left]
theorem grow_size {C : Array Value} {n : Nat} {ys : List UInt8} {k : Nat} (h : n ≤ C.size) : (grow C n (bs ys) k).size = n + ys.length + k := by
  simp [grow, bs, zB]
  omega
theorem Bs.of_hd {w : World} {g : Nat} {C : Array Value} {T : TypeId} {fr : Nat × Nat} {c : Nat} {xs : List UInt8} (hb : w.heap[g]? = some (.cells C T fr)) (hx : Hd C xs) (hc : xs.length ≤ c) (hm : xs.length ≤ 140737488351232) : Bs w (some ⟨g, 0, none⟩) c xs :=
  Bs.of_block hb hx hc hm
/-- A row of the call's own, handed back. -/
theorem St.fresh {w0 w : World} {h : List (Nat × Obj)} {F : World → Prop} (hS : St w0 h F w) {g : Nat} {C : Array Value} {T : TypeId} {fr : Nat × Nat} {c : Nat} {xs : List UInt8} (hg : (g, .cells C T fr) ∈ h) (hx : Hd C xs) (hc : xs.length ≤ c) (hm : xs.length ≤ 140737488351232) : Fs w0 w (some ⟨g, 0, none⟩) c xs := by
  refine ⟨Bs.of_hd (hS.at_ _ hg).2 hx hc hm, fun p hp _ => ?_⟩
  obtain rfl : (⟨g, 0, none⟩ : Addr) = p := by simpa using hp
  exact (hS.at_ _ hg).1
end

def oa (ρ : Nat → Orc) (i : Nat) : Option Addr := (ρ i).a
def ob (x : Int) : UInt8 := UInt8.ofNat x.toNat
theorem ob_nat {x : Int} (h : 0 ≤ x ∧ x < 256) : ((ob x).toNat : Int) = x := by
  unfold ob
  rw [UInt8.toNat_ofNat']
  omega
theorem bv_ob {x : Int} (h : 0 ≤ x ∧ x < 256) : bv (ob x) = .int .u8 x := by
  unfold bv
  rw [ob_nat h]
theorem hd1 {x : Int} (h : 0 ≤ x ∧ x < 256) : Hd #[.int .u8 x] [ob x] := by
  simp [Hd, bs, bv_ob h]
theorem hd2 {x y : Int} (h : 0 ≤ x ∧ x < 256) (h' : 0 ≤ y ∧ y < 256) : Hd #[.int .u8 x, .int .u8 y] [ob x, ob y] := by
  simp [Hd, bs, bv_ob h, bv_ob h']
theorem hdz (n : Nat) : Hd (zB n) (List.replicate n 0) := Hd.all _
theorem Hd.take {C : Array Value} {xs : List UInt8} (h : Hd C xs) (k : Nat) : Hd C (xs.take k) := by
  unfold Hd at h ⊢
  unfold bs at h ⊢
  rw [List.map_take, ← h, List.take_take, List.length_take]
theorem Hd.mid0 {C : Array Value} {xs : List UInt8} (h : Hd C xs) (k : Nat) : Hd C (mid xs 0 k) := by
  unfold mid
  rw [List.drop_zero]
  exact h.take k

theorem fs_eq {w0 w : World} {a : Option Addr} {c : Nat} {xs ys : List UInt8} (e : xs = ys) (h : Fs w0 w a c xs) : Fs w0 w a c ys := e ▸ h
theorem len_app {xs ys : List UInt8} {n : Nat} (h : xs.length + ys.length ≤ n) : (xs ++ ys).length ≤ n := by rw [List.length_append]; exact h
theorem room_le {C : Array Value} {c n : Nat} {ys : List UInt8} (hc : C.size = c) (h : n + ys.length ≤ c) : n + (bs ys).length ≤ C.size := by rw [bs_length, hc]; exact h
theorem grow_sizeL {C : Array Value} {xs ys : List UInt8} {k : Nat} (h : Hd C xs) : (grow C xs.length (bs ys) k).size = (xs ++ ys).length + k := by
  rw [grow_size h.size, List.length_append]
theorem sadr_zero (a : Option Addr) (c : Nat) : sadr a 0 c = a := by
  unfold sadr adr
  split
  · rfl
  · cases a <;> simp [Addr.add]
section
variable {P : Program} {t e : TypeId}
theorem app_roomL {w : World} {ty tx : TypeId} (ht : P.underlying t = some (.slice e)) (hi : u8like P e) {g c : Nat} {C : Array Value} {x : Value} {xs ys : List UInt8} (hg : w.heap[g]? = some (.cells C e (0, 0)))
    (hs : Src P 1 tx x ys.length (bs ys) w) (hc : C.size = c) (hr : xs.length + ys.length ≤ c) :
    ∃ w', (do pure (Next.value (← Builtin.append_ #[t, tx] ty #[.slice (some ⟨g, 0, none⟩) xs.length c, x])) : Sem Next).run P w = .ok (.value (.slice (some ⟨g, 0, none⟩) (xs ++ ys).length c)) w' ∧ Wrote w w' g (.cells (inpl C xs.length (bs ys)) e (0, 0)) := by
  rw [List.length_append]
  exact app_room ht hi hg hs hr (by omega)
theorem app_growL {w : World} {ty tx : TypeId} (ht : P.underlying t = some (.slice e)) (hi : u8like P e) {g c : Nat} {C : Array Value} {x : Value} {xs ys : List UInt8} (hg : w.heap[g]? = some (.cells C e (0, 0)))
    (hs : Src P 1 tx x ys.length (bs ys) w) (hc : C.size = c) (hx : xs.length ≤ c) (hr : c < xs.length + ys.length) (hm : xs.length + ys.length ≤ 140737488351232) :
    ∃ k w', (do pure (Next.value (← Builtin.append_ #[t, tx] ty #[.slice (some ⟨g, 0, none⟩) xs.length c, x])) : Sem Next).run P w = .ok (.value (.slice (some ⟨w.heap.size, 0, none⟩) (xs ++ ys).length ((xs ++ ys).length + k))) w' ∧ Grew w w' (.cells (grow C xs.length (bs ys) k) e (0, 0)) := by
  rw [List.length_append]
  exact app_grow ht hi (first_row (w := w.drew) hg (by omega)) hs hr hm
theorem app_nilL {w : World} {ty tx : TypeId} (ht : P.underlying t = some (.slice e)) (hi : u8like P e) {x : Value} {ys : List UInt8}
    (hs : Src P 1 tx x ys.length (bs ys) w) (hr : 0 < ys.length) (hm : ys.length ≤ 140737488351232) :
    ∃ k w', (do pure (Next.value (← Builtin.append_ #[t, tx] ty #[.slice none 0 0, x])) : Sem Next).run P w = .ok (.value (.slice (some ⟨w.heap.size, 0, none⟩) ys.length (ys.length + k))) w' ∧ Grew w w' (.cells ((bs ys).toArray ++ zB k) e (0, 0)) := by
  have := app_grow (w := w) (ty := ty) ht hi (a := none) (n := 0) (c := 0) (olds := []) first_nil hs (by omega) (by omega)
  simpa using this
theorem Hd.fresh (ys : List UInt8) (k : Nat) : Hd ((bs ys).toArray ++ zB k) ys := by
  unfold Hd
  rw [Array.toList_append, ← bs_length]
  simp
theorem fresh_size (ys : List UInt8) (k : Nat) : ((bs ys).toArray ++ zB k).size = ys.length + k := by simp [bs, zB]
theorem make_rowL (ht : P.underlying t = some (.slice e)) (hi : u8like P e) {kl kc : IntKind} {n c : Int} {c' : Nat} (xs : List UInt8) (hx : n = (xs.length : Int)) (hc' : c = (c' : Int)) (hn : xs.length ≤ c') (hc : c' ≤ 140737488351232) (w : World) :
    ∃ k w', (do pure (Next.value (← Instr.makeSlice t (.int kl n) (.int kc c))) : Sem Next).run P w = .ok (.value (.slice (some ⟨([w.heap.size, k] : List Nat).headD 0, 0, none⟩) xs.length c')) w' ∧ Grew w w' (.cells (zB c') e (0, 0)) := by
  subst hx hc'
  exact make_row ht hi hn hc w
theorem idx_row (ht : P.underlying t = some (.slice e)) (hi : u8like P e) {g m c : Nat} {k : IntKind} {z : Int} {j : Nat} (hz : z = (j : Int)) (hj : j < m) (w : World) :
    (do pure (Next.value (← Instr.indexAt t (.slice (some ⟨g, 0, none⟩) m c) (.int k z))) : Sem Next).run P w = .ok (.value (.pointer (some ⟨g, j, none⟩))) w := by
  subst hz
  have := run_idx_slice (P := P) (t := t) (elem := e) (len := m) (cap := c) (s := 1) (g := g) (off := 0) (k := k) (n := j) ht (sizeOf_u8 hi) (by omega) (by omega) w
  simpa using this
theorem idx_str (hu : P.underlying t = some .string) {k : IntKind} {S : List UInt8} {z : Int} {j : Nat} (hz : z = (j : Int)) (hj : j < S.length) (w : World) :
    (do pure (Next.value (← Instr.index t (.string (strB S)) (.int k z))) : Sem Next).run P w = .ok (.value (.int .u8 (gB S j : Int))) w := by
  subst hz
  have hlt : j < (strB S).size := hj
  have hs : (strB S)[j]? = some (S.getD j 0) := by
    rw [getElem?_pos (strB S) j hlt]
    congr 1
    rw [List.getD, List.getElem?_eq_getElem hj]
    rfl
  simp [Instr.index, asIntOf, Sem.run_bind, run_underlying hu, hs, gB]
theorem eql_str (X Y : List UInt8) (w : World) : (binOp .eql t (.string (strB X)) (.string (strB Y))).run P w = .ok (.bool (decide (X = Y))) w := by
  have e : ((strB X).toList == (strB Y).toList) = decide (X = Y) := by
    rw [Bool.eq_iff_iff, beq_iff_eq, decide_eq_true_eq, ByteArray.toList_eq, ByteArray.toList_eq]
    simp [strB]
  simp only [binOp, Op.stringOp, e]
  rfl
theorem neq_str (X Y : List UInt8) (w : World) : (binOp .neq t (.string (strB X)) (.string (strB Y))).run P w = .ok (.bool (!decide (X = Y))) w := by
  have e : ((strB X).toList == (strB Y).toList) = decide (X = Y) := by
    rw [Bool.eq_iff_iff, beq_iff_eq, decide_eq_true_eq, ByteArray.toList_eq, ByteArray.toList_eq]
    simp [strB]
  simp only [binOp, Op.stringOp, e]
  rfl
theorem eql_str_same (X : List UInt8) (w : World) : (binOp .eql t (.string (strB X)) (.string (strB X))).run P w = .ok (.bool true) w := by
  rw [eql_str]; simp
theorem neq_str_same (X : List UInt8) (w : World) : (binOp .neq t (.string (strB X)) (.string (strB X))).run P w = .ok (.bool false) w := by
  rw [neq_str]; simp
end
theorem strB_self (s : ByteArray) : strB s.data.toList = s := by
  simp [strB]

/-! ### the bytes of a digest -/
def hL (A : Nat) : List UInt8 := (List.range 32).map fun i => ob (byt A i)
theorem hL_length (A : Nat) : (hL A).length = 32 := by simp [hL]
theorem hd_hB (A : Nat) : Hd (hB A) (hL A) := by
  unfold Hd hL hB bs
  rw [List.length_map, List.length_range, List.map_map]
  have e : (List.range 32).map (bv ∘ fun i => ob (byt A i)) = (List.range 32).map fun i => Value.int .u8 (byt A i) := by
    apply List.map_congr_left
    intro i _
    exact bv_ob ⟨byt_nonneg A i, byt_lt A i⟩
  rw [e]
  rfl
/-- The number of bytes, the highest first. -/
def nB (xs : List UInt8) : Nat := xs.foldl (fun a x => a * 256 + x.toNat) 0
theorem nB_snoc (xs : List UInt8) (x : UInt8) : nB (xs ++ [x]) = nB xs * 256 + x.toNat := by simp [nB, List.foldl_append]
theorem snoc_ind {p : List UInt8 → Prop} (h0 : p []) (h1 : ∀ xs x, p xs → p (xs ++ [x])) : ∀ xs, p xs := by
  have key : ∀ n xs, xs.length = n → p xs := by
    intro n
    induction n with
    | zero => intro xs hx; rw [List.eq_nil_of_length_eq_zero hx]; exact h0
    | succ n ih =>
      intro xs hx
      have hne : xs ≠ [] := by intro h; rw [h] at hx; simp at hx
      rw [← List.dropLast_concat_getLast hne]
      exact h1 _ _ (ih _ (by rw [List.length_dropLast]; omega))
  exact fun xs => key _ xs rfl
theorem nB_lt (xs : List UInt8) : nB xs < 256 ^ xs.length := by
  refine snoc_ind (p := fun xs => nB xs < 256 ^ xs.length) (by simp [nB]) ?_ xs
  intro xs x ih
  rw [nB_snoc, List.length_append, List.length_singleton, Nat.pow_succ]
  have := x.toNat_lt
  omega
theorem nB_byte (xs : List UInt8) : ∀ i, i < xs.length → nB xs / 256 ^ (xs.length - 1 - i) % 256 = gB xs i := by
  refine snoc_ind (p := fun xs => ∀ i, i < xs.length → nB xs / 256 ^ (xs.length - 1 - i) % 256 = gB xs i) (fun i h => absurd h (by simp)) ?_ xs
  intro xs x ih i hi
  rw [List.length_append, List.length_singleton] at hi ⊢
  rw [nB_snoc]
  have hx := x.toNat_lt
  by_cases h : i < xs.length
  · have e : xs.length + 1 - 1 - i = (xs.length - 1 - i) + 1 := by omega
    rw [e, Nat.pow_succ, Nat.mul_comm (256 ^ _) 256, ← Nat.div_div_eq_div_mul, show (nB xs * 256 + x.toNat) / 256 = nB xs by omega, ih i h]
    simp [gB, List.getD, List.getElem?_append_left h]
  · have e : i = xs.length := by omega
    subst e
    rw [show xs.length + 1 - 1 - xs.length = 0 by omega, Nat.pow_zero, Nat.div_one]
    simp [gB, List.getD]
/-- 32 bytes are those of their number. -/
theorem hB_nB {xs : List UInt8} (h : xs.length = 32) : (bs xs).toArray = hB (nB xs) := by
  apply hB_ext
  · simp [bs, h]
  · intro j hj
    have hb := nB_byte xs j (by omega)
    rw [h] at hb
    have hj' : j < xs.length := by omega
    unfold byt
    rw [show 31 - j = 32 - 1 - j by omega, hb]
    simp [bs, bv, gB, List.getD, List.getElem?_eq_getElem hj']
theorem nB_M {xs : List UInt8} (h : xs.length = 32) : nB xs < M := by
  have := nB_lt xs
  rw [h] at this
  exact this
theorem hL_nB {xs : List UInt8} (h : xs.length = 32) : hL (nB xs) = xs := by
  have h1 := hd_hB (nB xs)
  rw [← hB_nB h] at h1
  unfold Hd at h1
  rw [hL_length] at h1
  have h2 : bs xs = bs (hL (nB xs)) := by
    rw [← h1]
    rw [List.take_of_length_le (by simp [bs, h])]
  have inj : ∀ a b : UInt8, bv a = bv b → a = b := by
    intro a b hab
    unfold bv at hab
    simp at hab
    exact UInt8.toNat.inj (by omega)
  unfold bs at h2
  exact ((List.map_inj_right (fun a b => inj a b)).1 h2).symm
theorem copy_hash {xs : List UInt8} (h : 32 ≤ xs.length) : inpl (hB 0) 0 (bs (xs.take 32)) = hB (nB (xs.take 32)) := by
  have hl : (xs.take 32).length = 32 := by rw [List.length_take]; omega
  rw [← hB_nB hl]
  unfold inpl
  have : (0 + (bs (xs.take 32)).length) = 32 := by rw [bs_length, hl]
  rw [this]
  simp
  rw [hB_size]; exact Nat.le_refl _
end Go.Proofs.Ytlgjdejlnelndaa
