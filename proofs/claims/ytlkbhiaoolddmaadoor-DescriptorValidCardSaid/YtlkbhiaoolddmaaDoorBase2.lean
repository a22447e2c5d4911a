/-
  What the walks of this seat share, part 2: the texts of it, one behind the other.
-/
import Derived.Test.YtlkbhiaoolddmaaDoorBase1
import Derived.Test.YtlkbhiaoolddmaaDoorChecked
import Derived.WalkSpells
import Derived.ChangeKeysEq
import Derived.Laws.StructEq
import Derived.ProofKit
import Derived.OpenShut
import Derived.SizedLaws
import Derived.ChangeSlices
import Derived.ChangeMaps5
import Derived.WalkKit
import Derived.WalkLawsBesides
import Derived.Handy
import Derived.Shelf.Spec.BitsCarry
import Derived.Lib.Mul64
import Derived.Lib.BitFns
import Derived.Lib.Hide
import Derived.Deep.QuietTactic
import Derived.BigQuiet
import Derived.BigRegion
import Derived.Outline
import Derived.Deep.WholeRow
set_option maxRecDepth 100000

/-! Regions in short: values, effects and facts by lists; plain operations in one check. -/
namespace Go.Proofs.YtlkbhiaoolddmaaDoor
open Go Go.RowKit

/-- From i on. -/
def Chain (m : Nat) (p : Nat → Prop) (i : Nat) : Prop := ∀ j, i ≤ j → j < m → p j
theorem cN {m : Nat} {p : Nat → Prop} {i : Nat} (h : m ≤ i := by exact Nat.le_of_ble_eq_true rfl) : Chain m p i := fun _ h1 h2 => absurd h2 (by omega)
theorem cX {m : Nat} {p : Nat → Prop} {i : Nat} (h : p i) (t : Chain m p (i + 1)) : Chain m p i := fun j h1 h2 => by
  by_cases e : j = i
  · rw [e]; exact h
  · exact t j (by omega) h2
def mv (f : (Nat → Orc) → List Value) (ρ : Nat → Orc) (i : Nat) : Value := (f ρ).getD i undef
def me (f : (Nat → Orc) → List (Nat × Eff)) (ρ : Nat → Orc) (i : Nat) : Eff := ((f ρ).lookup i).getD {}
def mf (f : (Nat → Orc) → List (Nat × (World → Prop))) (ρ : Nat → Orc) (i : Nat) : World → Prop := ((f ρ).lookup i).getD (fun _ => True)
def vget : List Value → Nat → Value
  | [], _ => undef
  | v :: _, 0 => v
  | _ :: r, i + 1 => vget r i
theorem vget_eq : ∀ (l : List Value) (i : Nat), vget l i = l.getD i undef
  | [], _ => by simp [vget]
  | _ :: _, 0 => by simp [vget]
  | _ :: r, i + 1 => by simpa [vget] using vget_eq r i
def xget {α : Type} (d : α) : List (Nat × α) → Nat → α
  | [], _ => d
  | (k, v) :: r, i => match i == k with
    | true => v
    | false => xget d r i
theorem xget_eq {α : Type} (d : α) : ∀ (l : List (Nat × α)) (i : Nat), xget d l i = (l.lookup i).getD d
  | [], _ => rfl
  | (k, v) :: r, i => by
    unfold xget
    rw [List.lookup_cons]
    cases i == k
    · exact xget_eq d r i
    · rfl
def locL (f : (Nat → Orc) → List Value) (g : (Nat → Orc) → List (Nat × Eff)) (k : (Nat → Orc) → List (Nat × (World → Prop))) (ρ : Nat → Orc) : Nat → List (Value × Eff × (World → Prop))
  | 0 => []
  | i + 1 => (mv f ρ i, me g ρ i, mf k ρ i) :: locL f g k ρ i
def locR (D : List Nat) (f : (Nat → Orc) → List Value) (g : (Nat → Orc) → List (Nat × Eff)) (k : (Nat → Orc) → List (Nat × (World → Prop))) (ρ : Nat → Orc) : Nat → List (Value × Eff × (World → Prop))
  | 0 => []
  | i + 1 => (vget (f (mask D i ρ)) i, xget {} (g (mask D i ρ)) i, xget (fun _ => True) (k (mask D i ρ)) i) :: locR D f g k ρ i
theorem loc_get {D : List Nat} {f : (Nat → Orc) → List Value} {g : (Nat → Orc) → List (Nat × Eff)} {k : (Nat → Orc) → List (Nat × (World → Prop))} {ρ : Nat → Orc} : ∀ {m : Nat}, locL f g k ρ m = locR D f g k ρ m → ∀ i, i < m → mv f ρ i = mv f (mask D i ρ) i ∧ me g ρ i = me g (mask D i ρ) i ∧ mf k ρ i = mf k (mask D i ρ) i
  | 0, _, i, hi => by omega
  | m + 1, h, i, hi => by
    unfold locL locR at h
    obtain ⟨h1, h2⟩ := List.cons.inj h
    rcases (by omega : i = m ∨ i < m) with e | e
    · subst e
      simp only [Prod.mk.injEq, vget_eq, xget_eq] at h1
      exact h1
    · exact loc_get h2 i e
theorem loc_all {D : List Nat} {f : (Nat → Orc) → List Value} {g : (Nat → Orc) → List (Nat × Eff)} {k : (Nat → Orc) → List (Nat × (World → Prop))} {m : Nat} (h : ∀ ρ, locL f g k ρ m = locR D f g k ρ m) (i : Nat) (hi : i < m) : Loc D (mv f) (me g) (mf k) i := by
  intro ρ ρ' hh
  have e := mask_congr hh
  obtain ⟨a1, a2, a3⟩ := loc_get (h ρ) i hi
  obtain ⟨b1, b2, b3⟩ := loc_get (h ρ') i hi
  rw [a1, a2, a3, b1, b2, b3, e]
  exact ⟨rfl, rfl, rfl⟩
def dsq (m : Nat) : List Nat := (List.range m).map fun i => 2 ^ i - 1
def selB {α : Type} : List Nat → List α → List α
  | [], l => l
  | _, [] => []
  | 0 :: s, _ :: l => selB s l
  | _ :: s, x :: l => x :: selB s l
theorem selB_sub {α : Type} : ∀ (s : List Nat) (l : List α), List.Sublist (selB s l) l
  | [], l => List.Sublist.refl l
  | _ :: _, [] => by simp [selB]
  | 0 :: s, x :: l => (selB_sub s l).cons x
  | (_ + 1) :: s, x :: l => (selB_sub s l).cons_cons x

section
variable {P : Program} {ops : Array Oper} {D : List Nat} {l : List (Nat × Value)} {w0 : Base} {h : List (Nat × Obj)} {F0 : World → Prop}
variable {vals : (Nat → Orc) → Nat → Value} {effs : (Nat → Orc) → Nat → Eff} {fact : (Nat → Orc) → Nat → World → Prop}

def rcE (P : Program) (ops : Array Oper) (D : List Nat) (l : List (Nat × Value)) (h : List (Nat × Obj)) (V : Nat → Value) (E : Nat → Eff) (E' : Eff) (i : Nat) (ns z : List Nat) : Option (Value × List (Nat × Obj) × List (Nat × Nat) × Eff) :=
  if (ops[i]?).isSome && namesOk ops D h E i ns && putsIn ns E' then
    if wantV V (opAt ops i) then (grun P (execOp (evalAt ops D l V i) (opAt ops i)) [] (known ops D h E i ns) z).bind fun r => (nextV r.1).map fun v => (v, r.2.1, r.2.2, E')
    else some (undef, known ops D h E i ns, [], {})
  else none
def rcL (r : Option (Value × List (Nat × Obj) × List (Nat × Nat) × Eff)) : Option (Value × List (Nat × Obj) × List Nat × List Nat × Eff) := r.map fun r => (r.1, r.2.1, r.2.2.1.map (·.1), r.2.2.1.map (·.2), r.2.2.2)
def rcR (r : Option (Value × List (Nat × Obj) × List (Nat × Nat) × Eff)) (v : Value) (K : List (Nat × Obj)) (E' : Eff) : Option (Value × List (Nat × Obj) × List Nat × List Nat × Eff) := some (v, K, ((r.map (·.2.2.1)).getD []).map (·.1), ((r.map (·.2.2.1)).getD []).map (·.1), E')
theorem eqs_of : ∀ {es : List (Nat × Nat)}, es.map (·.2) = es.map (·.1) → Eqs es
  | [], _ => trivial
  | e :: es, h => by
    simp only [List.map_cons, List.cons.injEq] at h
    exact ⟨h.1.symm, eqs_of h.2⟩
theorem run_obl {i : Nat} (ns : List Nat)
    (hc : ∀ ρ z, rcL (rcE P ops D l h (vals ρ) (effs ρ) (effs (upd ρ i { n := z }) i) i ns z) = rcR (rcE P ops D l h (vals ρ) (effs ρ) (effs (upd ρ i { n := z }) i) i ns z) (vals (upd ρ i { n := z }) i) (applyE ns (known ops D h (effs ρ) i ns) (effs (upd ρ i { n := z }) i)) (effs (upd ρ i { n := z }) i))
    (hf : ∀ ρ w, fact ρ i w) : Obl P ops D l w0 h F0 vals effs fact i := by
  intro o ho ρ T w hG
  have key : ∀ z, ((ops[i]?).isSome = true ∧ namesOk ops D h (effs ρ) i ns = true ∧ putsIn ns (effs (upd ρ i { n := z }) i) = true) ∧
      ((wantV (vals ρ) (opAt ops i) = true ∧ ∃ x es, nextV x = some (vals (upd ρ i { n := z }) i) ∧ Eqs es ∧ grun P (execOp (evalAt ops D l (vals ρ) i) (opAt ops i)) [] (known ops D h (effs ρ) i ns) z = some (x, applyE ns (known ops D h (effs ρ) i ns) (effs (upd ρ i { n := z }) i), es)) ∨
       (wantV (vals ρ) (opAt ops i) = false ∧ vals (upd ρ i { n := z }) i = undef ∧ effs (upd ρ i { n := z }) i = {})) := by
    intro z
    have h1 := hc ρ z
    unfold rcL rcR at h1
    rw [Option.map_eq_some_iff] at h1
    obtain ⟨⟨v, K, es, E'⟩, h2, h3⟩ := h1
    rw [h2] at h3
    simp only [Option.map_some, Option.getD_some, Prod.mk.injEq] at h3
    obtain ⟨hv, hK, _, hes, hE⟩ := h3
    unfold rcE at h2
    split at h2
    · rename_i hb
      simp only [Bool.and_eq_true] at hb
      refine ⟨⟨hb.1.1, hb.1.2, hb.2⟩, ?_⟩
      split at h2
      · rename_i hw
        left
        refine ⟨hw, ?_⟩
        rw [Option.bind_eq_some_iff] at h2
        obtain ⟨⟨x, K1, es1⟩, g1, g2⟩ := h2
        rw [Option.map_eq_some_iff] at g2
        obtain ⟨v1, g2, g3⟩ := g2
        simp only [Prod.mk.injEq] at g3
        obtain ⟨rfl, rfl, rfl, _⟩ := g3
        rw [hv] at g2
        rw [hK] at g1
        exact ⟨x, es1, g2, eqs_of hes, g1⟩
      · rename_i hw
        right
        simp only [Option.some.injEq, Prod.mk.injEq] at h2
        refine ⟨by simpa using hw, ?_, ?_⟩
        · rw [← hv]; exact h2.1.symm
        · rw [← hE]; exact h2.2.2.2.symm
    · exact absurd h2 (by simp)
  have hoe := opAt_some (key []).1.1
  rw [ho] at hoe
  obtain rfl : o = opAt ops i := by simpa using hoe
  rcases (key []).2 with hk | hk
  · have hw := hk.1
    have kz : ∀ z, ∃ x es, nextV x = some (vals (upd ρ i { n := z }) i) ∧ Eqs es ∧ grun P (execOp (evalAt ops D l (vals ρ) i) (opAt ops i)) [] (known ops D h (effs ρ) i ns) z = some (x, applyE ns (known ops D h (effs ρ) i ns) (effs (upd ρ i { n := z }) i), es) := by
      intro z
      rcases (key z).2 with k | k
      · exact k.2
      · rw [hw] at k; exact absurd k.1 (by simp)
    exact obl_run_at ho ns [] ρ (fun z => (kz z).choose_spec.choose) (fun z => (kz z).choose) hw (key []).1.2.1 (fun z => (kz z).choose_spec.choose_spec.2.2) (fun z => (kz z).choose_spec.choose_spec.1) (fun z => (key z).1.2.2) (fun z => (kz z).choose_spec.choose_spec.2.1) (fun z w => hf _ w) T w hG
  · obtain ⟨hw, hv, he⟩ := hk
    rw [if_neg (by rw [hw]; simp)]
    refine ⟨{ n := [] }, hv.symm, ?_, ?_, ?_, ?_, persTrue (hf _)⟩
    · exact Upd.refl _ _
    · rw [he]; intro n q hm; simp at hm
    · rw [he]; intro k b q hk; simp at hk
    · rw [he]; simp
def chkL (P : Program) (ops : Array Oper) (D : List Nat) (l : List (Nat × Value)) (h : List (Nat × Obj)) (vals : (Nat → Orc) → Nat → Value) (effs : (Nat → Orc) → Nat → Eff) (ρ : Nat → Orc) (z : List Nat) : Nat → List (List Nat) → List (Option (Value × List (Nat × Obj) × List Nat × List Nat × Eff))
  | _, [] => []
  | i, ns :: r => rcL (rcE P ops D l h (vals ρ) (effs ρ) (effs (upd ρ i { n := z }) i) i ns z) :: chkL P ops D l h vals effs ρ z (i + 1) r
def chkR (P : Program) (ops : Array Oper) (D : List Nat) (l : List (Nat × Value)) (h : List (Nat × Obj)) (vals : (Nat → Orc) → Nat → Value) (effs : (Nat → Orc) → Nat → Eff) (ρ : Nat → Orc) (z : List Nat) : Nat → List (List Nat) → List (Option (Value × List (Nat × Obj) × List Nat × List Nat × Eff))
  | _, [] => []
  | i, ns :: r => rcR (rcE P ops D l h (vals ρ) (effs ρ) (effs (upd ρ i { n := z }) i) i ns z) (vals (upd ρ i { n := z }) i) (applyE ns (known ops D h (effs ρ) i ns) (effs (upd ρ i { n := z }) i)) (effs (upd ρ i { n := z }) i) :: chkR P ops D l h vals effs ρ z (i + 1) r
def factL (fact : (Nat → Orc) → Nat → World → Prop) (ρ : Nat → Orc) : Nat → Nat → List (World → Prop)
  | _, 0 => []
  | i, k + 1 => fact ρ i :: factL fact ρ (i + 1) k
def trueL : Nat → List (World → Prop)
  | 0 => []
  | k + 1 => (fun _ => True) :: trueL k
/-- Plain operations, one behind the other; the names of the blocks that each one asks for. -/
theorem cR {m i : Nat} (nss : List (List Nat)) (t : Chain m (Obl P ops D l w0 h F0 vals effs fact) (i + nss.length))
    (hc : ∀ ρ z, chkL P ops D l h vals effs ρ z i nss = chkR P ops D l h vals effs ρ z i nss := by intros; kernel_rfl)
    (hf : ∀ ρ, factL fact ρ i nss.length = trueL nss.length := by intros; kernel_rfl) : Chain m (Obl P ops D l w0 h F0 vals effs fact) i := by
  induction nss generalizing i with
  | nil => exact t
  | cons ns r ih =>
    have hc1 : ∀ ρ z, _ := fun ρ z => List.cons.inj (hc ρ z)
    have hf1 : ∀ ρ, _ := fun ρ => List.cons.inj (hf ρ)
    refine cX (run_obl ns (fun ρ z => (hc1 ρ z).1) (fun ρ w => by rw [(hf1 ρ).1]; trivial)) (ih ?_ (fun ρ z => (hc1 ρ z).2) (fun ρ => (hf1 ρ).2))
    rw [List.length_cons] at t
    rw [show i + 1 + r.length = i + (r.length + 1) by omega]
    exact t
theorem cY {m i : Nat} (hO : Obl P ops D l w0 h F0 vals effs (fun _ _ _ => True) i) (t : Chain m (Obl P ops D l w0 h F0 vals effs fact) (i + 1)) (hF : ∀ ρ, fact ρ i = fun _ => True := by intros; kernel_rfl) : Chain m (Obl P ops D l w0 h F0 vals effs fact) i :=
  cX (hO.brings (fun ρ w => by rw [hF ρ]; trivial)) t
/-- A call by its contract. -/
theorem cC {m i : Nat} {f : FuncId} {args : (Nat → Orc) → Array Value} {v : (Nat → Orc) → Value} (hf : ∀ ρ w, Calls P f (args ρ) w (fun e w' => e = .returned (v ρ) ∧ Below w.heap.size w w')) (t : Chain m (Obl P ops D l w0 h F0 vals effs fact) (i + 1))
    (hc : ∀ ρ z, callChk P ops D l (vals ρ) (vals (upd ρ i {}) i) (effs (upd ρ i {}) i) i z = some (.enter f (args ρ), [], [], v ρ, {}) := by intros; kernel_rfl) (hF : ∀ ρ, fact ρ i = fun _ => True := by intros; kernel_rfl) : Chain m (Obl P ops D l w0 h F0 vals effs fact) i := cY (o_call i f args v hc hf) t hF
/-- A value that is written otherwise. -/
theorem cA {m i : Nat} {v : (Nat → Orc) → Value} (v' : (Nat → Orc) → Value) (he : ∀ ρ, v ρ = v' ρ) (t : Chain m (Obl P ops D l w0 h F0 vals effs fact) (i + 1))
    (hc : ∀ ρ z, callChk P ops D l (vals ρ) (vals (upd ρ i {}) i) (effs (upd ρ i {}) i) i z = some (.value (v ρ), [], [], v' ρ, {}) := by intros; kernel_rfl) (hF : ∀ ρ, fact ρ i = fun _ => True := by intros; kernel_rfl) : Chain m (Obl P ops D l w0 h F0 vals effs fact) i := cY (o_as i v v' hc he) t hF
/-- An operator whose run is known. -/
theorem cB {m i : Nat} {a b v : (Nat → Orc) → Value} (op : BinOp) (ty : TypeId)
    (hf : ∀ ρ w, (binOp op ty (a ρ) (b ρ)).run P w = .ok (v ρ) w) (t : Chain m (Obl P ops D l w0 h F0 vals effs fact) (i + 1))
    (hc : ∀ ρ, binChk ops D l (vals ρ) (vals (upd ρ i {}) i) (effs (upd ρ i {}) i) i = some (op, ty, a ρ, b ρ, v ρ, {}) := by intros; kernel_rfl)
    (hg : ∀ ρ x y w, (eqGuard op ty x y (a ρ) (b ρ)).run P w = .ok () w := by intros; kernel_rfl) (hF : ∀ ρ, fact ρ i = fun _ => True := by intros; kernel_rfl) : Chain m (Obl P ops D l w0 h F0 vals effs fact) i := cY (o_bin i op ty a b v hc hg hf) t hF
end

section
variable {P : Program} {ops : Array Oper} {D : List Nat} {l : List (Nat × Value)} {w0 : Base} {h : List (Nat × Obj)} {F0 : World → Prop}
variable {vals : (Nat → Orc) → Nat → Value} {effs : (Nat → Orc) → Nat → Eff} {fact : (Nat → Orc) → Nat → World → Prop}
theorem Given.persK {i : Nat} {ρ : Nat → Orc} {T : Nat → Prop} {w : World} (hG : Given ops D w0 h F0 effs fact i ρ T w) (ns : List Nat) {K : List (Nat × Obj)} (hn : namesOk ops D h (effs ρ) i ns = true) (hk : YtlkbhiaoolddmaaDoor.known ops D h (effs ρ) i ns = K) {G : World → Prop} (hFG : ∀ w, F0 w → G w) : Pers (fun b => b ∈ K.map (·.1)) G w := by
  refine (hG.facts0.mono hFG).sub (fun b hb => ?_)
  rw [← hk] at hb
  unfold YtlkbhiaoolddmaaDoor.known at hb
  obtain ⟨y, hy, rfl⟩ := List.mem_map.1 hb
  obtain ⟨n, hm, rfl⟩ := List.mem_map.1 hy
  unfold namesOk at hn
  rw [Bool.and_eq_true, List.all_eq_true] at hn
  have hn1 := hn.1 n hm
  rw [Bool.and_eq_true] at hn1
  obtain ⟨q, hq⟩ := Option.isSome_iff_exists.1 hn1.1
  rw [hq]
  exact (hG.block n q hq hn1.2).2.1
theorem St.knows {w : World} {F : World → Prop} (hS : St w0 h F w) (ks : List Nat) {K : List (Nat × Obj)} (hK : selB ks h = K := by kernel_rfl) : Knows K w := by
  intro x hx
  rw [← hK] at hx
  exact (hS.at_ x ((selB_sub ks h).subset hx)).2
/-- A call that writes blocks that are known, and may bring facts. -/
theorem o_callGW (i : Nat) (ns : List Nat) (f : FuncId) (args : (Nat → Orc) → Array Value) (K : (Nat → Orc) → List (Nat × Obj)) (K' : (Nat → Orc) → Orc → List (Nat × Obj))
    (hc : ∀ ρ z, callChkF P ops D l (vals ρ) i z = some (.enter f (args ρ), [], []))
    (he : ∀ ρ r, effs (upd ρ i r) i = { puts := ns.zip (K' ρ r) })
    (hn : ∀ ρ, namesOk ops D h (effs ρ) i ns = true) (hk : ∀ ρ, known ops D h (effs ρ) i ns = K ρ) (hl : ∀ ρ r, (K' ρ r).map (·.1) = (K ρ).map (·.1))
    (hf : ∀ ρ T w, Given ops D w0 h F0 effs fact i ρ T w → Knows (K ρ) w → Calls P f (args ρ) w (fun e w' => Upd (fun b => b ∈ (K ρ).map (·.1)) w w' ∧ ∃ r, e = .returned (vals (upd ρ i r) i) ∧ Knows (K' ρ r) w' ∧ Pers (fun b => b < w.heap.size) (fact (upd ρ i r) i) w')) : Obl P ops D l w0 h F0 vals effs fact i := by
  have key : ∀ ρ z, ((ops[i]?).isSome = true ∧ wantV (vals ρ) (opAt ops i) = true) ∧ grun P (execOp (evalAt ops D l (vals ρ) i) (opAt ops i)) [] [] z = some (.enter f (args ρ), [], []) := by
    intro ρ z
    have h1 := hc ρ z
    unfold callChkF at h1
    split at h1
    · rename_i hb
      simp only [Bool.and_eq_true] at hb
      exact ⟨hb, h1⟩
    · exact absurd h1 (by simp)
  intro o ho ρ T w hG
  have hoe := opAt_some (key ρ []).1.1
  rw [ho] at hoe
  obtain rfl : o = opAt ops i := by simpa using hoe
  rw [if_pos (key ρ []).1.2]
  obtain ⟨w1, h1, _, _, h4, _, _⟩ := grun_sound (P := P) (execOp (evalAt ops D l (vals ρ) i) (opAt ops i)) [] [] w _ _ _ (by intro y hy; simp at hy) (by simp) ((key ρ _).2) trivial
  have hb : Below w.heap.size w w1 := ⟨h4.os, h4.tape, h4.output, h4.size, fun k hk => h4.block k hk (by simp)⟩
  have hheap : ∀ b, b < w.heap.size → w1.heap[b]? = w.heap[b]? := fun b hb' => hb.block b hb'
  have hG1 : Given ops D w0 h F0 effs fact i ρ T w1 := by
    have tr : ∀ {F : World → Prop}, Pers T F w → Pers T F w1 := by
      rintro F ⟨S, s1, s2⟩
      refine ⟨S, fun b hb' => ⟨Nat.lt_of_lt_of_le (s1 b hb').1 hb.size, (s1 b hb').2⟩, fun w' hw => s2 w' (fun b hb' => ?_)⟩
      rw [hw b hb', hheap b (s1 b hb').1]
    refine ⟨fun b hb' => Nat.lt_of_lt_of_le (hG.lt b hb') hb.size, hG.below.trans (Upd.of_below hb), fun n x hn hk => ?_, hG.ne, tr hG.facts0, fun j hj => tr (hG.facts j hj)⟩
    have := hG.block n x hn hk
    refine ⟨?_, this.2⟩
    rw [hheap _ (hG.lt _ this.2.1)]
    exact this.1
  have hno := hn ρ
  unfold namesOk at hno
  rw [Bool.and_eq_true, List.all_eq_true, decide_eq_true_eq] at hno
  obtain ⟨hno, hnd⟩ := hno
  have hbn : ∀ n ∈ ns, ∃ x, blk h (effs ρ) n = some x ∧ okN ops D h (effs ρ) i n = true := by
    intro n hm
    have := hno n hm
    rw [Bool.and_eq_true] at this
    obtain ⟨x, hb⟩ := Option.isSome_iff_exists.1 this.1
    exact ⟨x, hb, this.2⟩
  have hKk : ∀ (j n : Nat), ns[j]? = some n → ∃ x, blk h (effs ρ) n = some x ∧ okN ops D h (effs ρ) i n = true ∧ (K ρ)[j]? = some (cur (effs ρ) ops.size (dep D i) n x) := by
    intro j n hj
    obtain ⟨x, hx, hok⟩ := hbn n (List.mem_of_getElem? hj)
    refine ⟨x, hx, hok, ?_⟩
    rw [← hk ρ]
    unfold known
    rw [List.getElem?_map, hj]
    simp only [Option.map_some, hx]
  have hKn : Knows (K ρ) w1 := by
    intro y hy
    rw [← hk ρ] at hy
    unfold known at hy
    obtain ⟨n, hm, rfl⟩ := List.mem_map.1 hy
    obtain ⟨x, hx, hok⟩ := hbn n hm
    rw [hx]
    exact (hG1.block n x hx hok).1
  unfold opv
  rw [h1]
  refine (hf ρ T w1 hG1 hKn).mono (fun e w2 hew => ?_)
  obtain ⟨hU, r, rfl, hK', hp⟩ := hew
  show After ops D h vals effs fact i ρ T w _ w2
  have hlen : (K' ρ r).length = ns.length := by
    have q1 := congrArg List.length (hl ρ r)
    have q2 := congrArg List.length (hk ρ)
    unfold known at q2
    simp only [List.length_map] at q1 q2
    omega
  have hzip : ∀ (j n : Nat) (y : Nat × Obj), ns[j]? = some n → (K' ρ r)[j]? = some y → (ns.zip (K' ρ r)).lookup n = some y := by
    intro j n y hj hy
    have hm : (n, y) ∈ ns.zip (K' ρ r) := List.mem_iff_getElem?.2 ⟨j, by rw [List.getElem?_zip_eq_some]; exact ⟨hj, hy⟩⟩
    cases hq : (ns.zip (K' ρ r)).lookup n with
    | none => exact absurd hm (lookup_none_of hq y)
    | some y2 =>
      obtain ⟨j2, hj2⟩ := List.mem_iff_getElem?.1 (mem_of_lookup hq)
      rw [List.getElem?_zip_eq_some] at hj2
      have e : j2 = j := by
        obtain ⟨l1, g1⟩ := List.getElem?_eq_some_iff.1 hj
        obtain ⟨l2, g2⟩ := List.getElem?_eq_some_iff.1 hj2.1
        have hpw := List.pairwise_iff_getElem.1 hnd
        rcases Nat.lt_trichotomy j2 j with hlt | hlt | hlt
        · exact absurd (g2.trans g1.symm) (hpw _ _ l2 l1 hlt)
        · exact hlt
        · exact absurd (g1.trans g2.symm) (hpw _ _ l1 l2 hlt)
      rw [e, hy] at hj2
      exact hj2.2.symm
  refine ⟨r, rfl, ?_, ?_, ?_, ?_, ?_⟩
  · refine ⟨hU.os.trans hb.os, hU.tape.trans hb.tape, hU.output.trans hb.output, Nat.le_trans hb.size hU.size, fun k hk' hX => (hU.block k (Nat.lt_of_lt_of_le hk' hb.size) ?_).trans (hheap k hk')⟩
    intro hm
    obtain ⟨y, hy, rfl⟩ := List.mem_map.1 hm
    obtain ⟨j, hj⟩ := List.mem_iff_getElem?.1 hy
    have hjl : j < ns.length := by
      have q2 := congrArg List.length (hk ρ)
      unfold known at q2
      simp only [List.length_map] at q2
      rw [q2]; exact (List.getElem?_eq_some_iff.1 hj).1
    obtain ⟨x, hx, _, hKj⟩ := hKk j ns[j] (List.getElem?_eq_getElem hjl)
    obtain rfl : y = cur (effs ρ) ops.size (dep D i) ns[j] x := Option.some.inj (hj.symm.trans hKj)
    refine hX ⟨ns[j], (K' ρ r)[j]'(by omega), x, ?_, hx, rfl⟩
    rw [he]
    exact List.mem_iff_getElem?.2 ⟨j, by rw [List.getElem?_zip_eq_some]; exact ⟨List.getElem?_eq_getElem hjl, List.getElem?_eq_getElem (by omega)⟩⟩
  · rw [he]
    intro n y hm
    obtain ⟨j, hj⟩ := List.mem_iff_getElem?.1 hm
    rw [List.getElem?_zip_eq_some] at hj
    obtain ⟨x, hx, hok, hKj⟩ := hKk j n hj.1
    refine ⟨hok, x, hx, ?_, ?_⟩
    · rw [hzip j n y hj.1 hj.2]
      exact hK' y (List.mem_of_getElem? hj.2)
    · left
      rw [hzip j n y hj.1 hj.2]
      have q := congrArg (fun l : List Nat => l[j]?) (hl ρ r)
      simp only [List.getElem?_map, hj.2, hKj, Option.map_some, Option.some.injEq] at q
      exact q
  · rw [he]; intro k b q hk; simp at hk
  · rw [he]; simp
  · refine hp.sub (fun b hbT => ?_)
    rw [he] at hbT
    rcases hbT with hbT | hbT | hbT
    · exact Nat.lt_of_lt_of_le (hG.lt b hbT) hb.size
    · simp at hbT
    · obtain ⟨⟨n, y⟩, hm, rfl⟩ := List.mem_map.1 hbT
      obtain ⟨j, hj⟩ := List.mem_iff_getElem?.1 hm
      rw [List.getElem?_zip_eq_some] at hj
      obtain ⟨x, hx, hok, hKj⟩ := hKk j n hj.1
      have q := congrArg (fun l : List Nat => l[j]?) (hl ρ r)
      simp only [List.getElem?_map, hj.2, hKj, Option.map_some, Option.some.injEq] at q
      simp only [q]
      exact hG1.lt _ (hG1.block n x hx hok).2.1
/-- A call that writes blocks that are known; its value is settled. -/
theorem o_callW (i : Nat) (ns : List Nat) (f : FuncId) (args : (Nat → Orc) → Array Value) (v : (Nat → Orc) → Value) (K K' : (Nat → Orc) → List (Nat × Obj))
    (hf : ∀ ρ T w, Given ops D w0 h F0 effs fact i ρ T w → Knows (K ρ) w → Calls P f (args ρ) w (fun e w' => e = .returned (v ρ) ∧ Upd (fun b => b ∈ (K ρ).map (·.1)) w w' ∧ Knows (K' ρ) w'))
    (hc : ∀ ρ z, callChkF P ops D l (vals ρ) i z = some (.enter f (args ρ), [], []) := by intros; kernel_rfl)
    (hv : ∀ ρ, vals (upd ρ i {}) i = v ρ := by intros; kernel_rfl) (he : ∀ ρ r, effs (upd ρ i r) i = { puts := ns.zip (K' ρ) } := by intros; kernel_rfl)
    (hn : ∀ ρ, namesOk ops D h (effs ρ) i ns = true := by intros; kernel_rfl) (hk : ∀ ρ, known ops D h (effs ρ) i ns = K ρ := by intros; kernel_rfl) (hl : ∀ ρ, (K' ρ).map (·.1) = (K ρ).map (·.1) := by intros; kernel_rfl)
    (hF : ∀ ρ, fact ρ i = fun _ => True := by intros; kernel_rfl) : Obl P ops D l w0 h F0 vals effs fact i := by
  refine o_callGW i ns f args K (fun ρ _ => K' ρ) hc he hn hk (fun ρ _ => hl ρ) (fun ρ T w hG hK => (hf ρ T w hG hK).mono (fun e w' hew => ⟨hew.2.1, {}, ?_, hew.2.2, ?_⟩))
  · rw [hv ρ]; exact hew.1
  · rw [hF]; exact persT
end

section
variable {P : Program} {Q : Exit → Act → World → Prop} {n : Nat} {l : List (Nat × Value)} {w0 : Base} {h : List (Nat × Obj)} {F : World → Prop}
theorem seqOk_dsq (m : Nat) : DSeq m (dsq m) = true := by
  unfold DSeq dsq
  rw [List.all_eq_true]
  intro i hi
  have hi' := List.mem_range.1 hi
  simp [hi']
def sqOk (ops : Array Oper) (m n : Nat) (l : List (Nat × Value)) (keep : List Nat) : Bool := ops.size == m && DstOk ops n && LooksOk ops (dsq m) l && keepOk ops l keep
def drOk (ops : Array Oper) (D : List Nat) (m n : Nat) (l : List (Nat × Value)) (keep : List Nat) : Bool := ops.size == m && drawOk ops D n l keep
/-- A region in the text's order. -/
theorem reg_sq {id m : Nat} {ops : Array Oper} {keep hb : List Nat} {vals : (Nat → Orc) → List Value} {effs : (Nat → Orc) → List (Nat × Eff)} (hloc : ∀ ρ, locL vals effs (fun _ => []) ρ m = locR (dsq m) vals effs (fun _ => []) ρ m) (hchk : sqOk ops m n l keep = true)
    (c : Chain m (Obl P ops (dsq m) l w0 h F (mv vals) (me effs) (fun _ _ _ => True)) 0) :
    Reg P id ops false n l w0 h F (fun ρ => finL ops l (mv vals ρ) keep) (fun ρ => selB hb (finH m h (me effs ρ))) := by
  unfold sqOk at hchk
  simp only [Bool.and_eq_true, beq_iff_eq] at hchk
  obtain ⟨⟨⟨hsz, c3⟩, c4⟩, c5⟩ := hchk
  subst hsz
  intro Q A w hfr hS hend
  refine wp_region_ghost' (seqOk_dsq _) (by rw [hfr.size]; exact c3) c4 (vals := mv vals) (effs := me effs) (fact := fun _ _ _ => True) ?_ ?_ keep c5 (by rw [hfr.size]; exact hfr) hS ?_
  · intro j hj ρ ρ' hh
    exact ⟨(loc_all hloc j hj ρ ρ' hh).1, (loc_all hloc j hj ρ ρ' hh).2.1, rfl⟩
  · intro i hi
    exact c i (Nat.zero_le _) hi
  · intro ρ A' w' hA hS'
    rw [hfr.size] at hA
    exact hend ρ A' w' hA ((hS'.weaken (fun _ h => h.1)).sub (selB_sub _ _))
/-- A region that draws its order. -/
theorem reg_dr {id m : Nat} {ops : Array Oper} {D keep hb : List Nat} {vals : (Nat → Orc) → List Value} {effs : (Nat → Orc) → List (Nat × Eff)} (hloc : ∀ ρ, locL vals effs (fun _ => []) ρ m = locR D vals effs (fun _ => []) ρ m) (hm : P.follows .mixedOrders = true) (hchk : drOk ops D m n l keep = true)
    (c : Chain m (Obl P ops D l w0 h F (mv vals) (me effs) (fun _ _ _ => True)) 0) :
    Reg P id ops true n l w0 h F (fun ρ => finL ops l (mv vals ρ) keep) (fun ρ => selB hb (finH m h (me effs ρ))) := by
  unfold drOk drawOk at hchk
  simp only [Bool.and_eq_true, beq_iff_eq] at hchk
  obtain ⟨hsz, ⟨⟨⟨c1, c2⟩, c3⟩, c4⟩, c5⟩ := hchk
  subst hsz
  intro Q A w hfr hS hend
  refine wp_region_ghost hm c1 c2 (by rw [hfr.size]; exact c3) c4 (vals := mv vals) (effs := me effs) (fact := fun _ _ _ => True) ?_ ?_ keep c5 (by rw [hfr.size]; exact hfr) hS ?_
  · intro j hj ρ ρ' hh
    exact ⟨(loc_all hloc j hj ρ ρ' hh).1, (loc_all hloc j hj ρ ρ' hh).2.1, rfl⟩
  · intro i hi
    exact c i (Nat.zero_le _) hi
  · intro ρ A' w' hA hS'
    rw [hfr.size] at hA
    exact hend ρ A' w' hA ((hS'.weaken (fun _ h => h.1)).sub (selB_sub _ _))
theorem reg_sqF {id m : Nat} {ops : Array Oper} {keep hb : List Nat} {vals : (Nat → Orc) → List Value} {effs : (Nat → Orc) → List (Nat × Eff)} {fact : (Nat → Orc) → List (Nat × (World → Prop))} {F' : (Nat → Orc) → World → Prop} (hloc : ∀ ρ, locL vals effs fact ρ m = locR (dsq m) vals effs fact ρ m) (hchk : sqOk ops m n l keep = true)
    (hF : ∀ ρ w, F w → (∀ i, mf fact ρ i w) → F' ρ w)
    (c : Chain m (Obl P ops (dsq m) l w0 h F (mv vals) (me effs) (mf fact)) 0) (hfm : ∀ ρ, (fact ρ).all (fun x => decide (x.1 < m)) = true) :
    RegF P id ops false n l w0 h F (fun ρ => finL ops l (mv vals ρ) keep) (fun ρ => selB hb (finH m h (me effs ρ))) F' := by
  have hnone : ∀ ρ i, m ≤ i → mf fact ρ i = fun _ => True := by
    intro ρ i hi
    unfold mf
    have : (fact ρ).lookup i = none := by
      have := hfm ρ
      rw [List.all_eq_true] at this
      rw [List.lookup_eq_none_iff]
      intro p hp
      have h1 := this p hp
      simp at h1
      simp; omega
    rw [this]; rfl
  unfold sqOk at hchk
  simp only [Bool.and_eq_true, beq_iff_eq] at hchk
  obtain ⟨⟨⟨hsz, c3⟩, c4⟩, c5⟩ := hchk
  subst hsz
  intro Q A w hfr hS hend
  refine wp_region_ghost' (seqOk_dsq _) (by rw [hfr.size]; exact c3) c4 (vals := mv vals) (effs := me effs) (fact := mf fact) ?_ ?_ keep c5 (by rw [hfr.size]; exact hfr) hS ?_
  · intro j hj
    exact loc_all hloc j hj
  · intro i hi
    exact c i (Nat.zero_le _) hi
  · intro ρ A' w' hA hS'
    rw [hfr.size] at hA
    refine hend ρ A' w' hA ((hS'.weaken (fun w h => hF ρ w h.1 (fun i => ?_))).sub (selB_sub _ _))
    by_cases hi : i < ops.size
    · exact h.2 i hi
    · rw [hnone ρ i (by omega)]; trivial
theorem reg_drF {id m : Nat} {ops : Array Oper} {D keep hb : List Nat} {vals : (Nat → Orc) → List Value} {effs : (Nat → Orc) → List (Nat × Eff)} {fact : (Nat → Orc) → List (Nat × (World → Prop))} {F' : (Nat → Orc) → World → Prop} (hloc : ∀ ρ, locL vals effs fact ρ m = locR D vals effs fact ρ m) (hm : P.follows .mixedOrders = true) (hchk : drOk ops D m n l keep = true)
    (hF : ∀ ρ w, F w → (∀ i, mf fact ρ i w) → F' ρ w)
    (c : Chain m (Obl P ops D l w0 h F (mv vals) (me effs) (mf fact)) 0) (hfm : ∀ ρ, (fact ρ).all (fun x => decide (x.1 < m)) = true) :
    RegF P id ops true n l w0 h F (fun ρ => finL ops l (mv vals ρ) keep) (fun ρ => selB hb (finH m h (me effs ρ))) F' := by
  have hnone : ∀ ρ i, m ≤ i → mf fact ρ i = fun _ => True := by
    intro ρ i hi
    unfold mf
    have : (fact ρ).lookup i = none := by
      have := hfm ρ
      rw [List.all_eq_true] at this
      rw [List.lookup_eq_none_iff]
      intro p hp
      have h1 := this p hp
      simp at h1
      simp; omega
    rw [this]; rfl
  unfold drOk drawOk at hchk
  simp only [Bool.and_eq_true, beq_iff_eq] at hchk
  obtain ⟨hsz, ⟨⟨⟨c1, c2⟩, c3⟩, c4⟩, c5⟩ := hchk
  subst hsz
  intro Q A w hfr hS hend
  refine wp_region_ghost hm c1 c2 (by rw [hfr.size]; exact c3) c4 (vals := mv vals) (effs := me effs) (fact := mf fact) ?_ ?_ keep c5 (by rw [hfr.size]; exact hfr) hS ?_
  · intro j hj
    exact loc_all hloc j hj
  · intro i hi
    exact c i (Nat.zero_le _) hi
  · intro ρ A' w' hA hS'
    rw [hfr.size] at hA
    refine hend ρ A' w' hA ((hS'.weaken (fun w h => hF ρ w h.1 (fun i => ?_))).sub (selB_sub _ _))
    by_cases hi : i < ops.size
    · exact h.2 i hi
    · rw [hnone ρ i (by omega)]; trivial

theorem sS {id : Nat} {ops : Array Oper} {y : Code} (fn : Func) (m : Nat) (keep hb : List Nat) (vals : (Nat → Orc) → List Value) (effs : (Nat → Orc) → List (Nat × Eff))
    (c : Chain m (Obl P (regOps fn id) (dsq m) l w0 h F (mv vals) (me effs) (fun _ _ _ => True)) 0)
    (k : ∀ ρ, Ok P y Q n (finL (regOps fn id) l (mv vals ρ) keep) w0 (selB hb (finH m h (me effs ρ))) F)
    (hloc : ∀ ρ, locL vals effs (fun _ => []) ρ m = locR (dsq m) vals effs (fun _ => []) ρ m := by intros; kernel_rfl) (e : ops = regOps fn id := by kernel_rfl) (hchk : sqOk (regOps fn id) m n l keep = true := by kernel_rfl) : Ok P (.seq (.region id ops false) y) Q n l w0 h F := ok_seq_r e (reg_sq hloc hchk c) k
theorem rS {id : Nat} {ops : Array Oper} (fn : Func) (m : Nat) (keep hb : List Nat) (vals : (Nat → Orc) → List Value) (effs : (Nat → Orc) → List (Nat × Eff))
    (c : Chain m (Obl P (regOps fn id) (dsq m) l w0 h F (mv vals) (me effs) (fun _ _ _ => True)) 0)
    (k : ∀ ρ, Meets (Q .normal) n (finL (regOps fn id) l (mv vals ρ) keep) w0 (selB hb (finH m h (me effs ρ))) F)
    (hloc : ∀ ρ, locL vals effs (fun _ => []) ρ m = locR (dsq m) vals effs (fun _ => []) ρ m := by intros; kernel_rfl) (e : ops = regOps fn id := by kernel_rfl) (hchk : sqOk (regOps fn id) m n l keep = true := by kernel_rfl) : Ok P (.region id ops false) Q n l w0 h F := ok_r e (reg_sq hloc hchk c) k
theorem sD {id : Nat} {ops : Array Oper} {y : Code} (fn : Func) (D : List Nat) (m : Nat) (keep hb : List Nat) (vals : (Nat → Orc) → List Value) (effs : (Nat → Orc) → List (Nat × Eff))
    (c : Chain m (Obl P (regOps fn id) D l w0 h F (mv vals) (me effs) (fun _ _ _ => True)) 0)
    (k : ∀ ρ, Ok P y Q n (finL (regOps fn id) l (mv vals ρ) keep) w0 (selB hb (finH m h (me effs ρ))) F)
    (hloc : ∀ ρ, locL vals effs (fun _ => []) ρ m = locR D vals effs (fun _ => []) ρ m := by intros; kernel_rfl) (e : ops = regOps fn id := by kernel_rfl) (hchk : drOk (regOps fn id) D m n l keep = true := by kernel_rfl) (hm : P.follows .mixedOrders = true := by kernel_rfl) : Ok P (.seq (.region id ops true) y) Q n l w0 h F := ok_seq_r e (reg_dr hloc hm hchk c) k
theorem rD {id : Nat} {ops : Array Oper} (fn : Func) (D : List Nat) (m : Nat) (keep hb : List Nat) (vals : (Nat → Orc) → List Value) (effs : (Nat → Orc) → List (Nat × Eff))
    (c : Chain m (Obl P (regOps fn id) D l w0 h F (mv vals) (me effs) (fun _ _ _ => True)) 0)
    (k : ∀ ρ, Meets (Q .normal) n (finL (regOps fn id) l (mv vals ρ) keep) w0 (selB hb (finH m h (me effs ρ))) F)
    (hloc : ∀ ρ, locL vals effs (fun _ => []) ρ m = locR D vals effs (fun _ => []) ρ m := by intros; kernel_rfl) (e : ops = regOps fn id := by kernel_rfl) (hchk : drOk (regOps fn id) D m n l keep = true := by kernel_rfl) (hm : P.follows .mixedOrders = true := by kernel_rfl) : Ok P (.region id ops true) Q n l w0 h F := ok_r e (reg_dr hloc hm hchk c) k
theorem sSf {id : Nat} {ops : Array Oper} {y : Code} (fn : Func) (m : Nat) (keep hb : List Nat) (vals : (Nat → Orc) → List Value) (effs : (Nat → Orc) → List (Nat × Eff)) (fact : (Nat → Orc) → List (Nat × (World → Prop))) (F' : (Nat → Orc) → World → Prop) (p : (Nat → Orc) → Prop) (hF : ∀ ρ w, F w → (∀ i, mf fact ρ i w) → F' ρ w ∧ p ρ)
    (c : Chain m (Obl P (regOps fn id) (dsq m) l w0 h F (mv vals) (me effs) (mf fact)) 0)
    (k : ∀ ρ, p ρ → Ok P y Q n (finL (regOps fn id) l (mv vals ρ) keep) w0 (selB hb (finH m h (me effs ρ))) (F' ρ))
    (hloc : ∀ ρ, locL vals effs fact ρ m = locR (dsq m) vals effs fact ρ m := by intros; kernel_rfl) (e : ops = regOps fn id := by kernel_rfl) (hchk : sqOk (regOps fn id) m n l keep = true := by kernel_rfl) (hfm : ∀ ρ, (fact ρ).all (fun x => decide (x.1 < m)) = true := by intros; kernel_rfl) : Ok P (.seq (.region id ops false) y) Q n l w0 h F :=
  ok_seq_rf e (reg_sqF hloc hchk (F' := fun ρ w => F' ρ w ∧ p ρ) hF c hfm) (fun ρ => ok_pure (p ρ) (fun _ h => h.2) (fun hp => ok_facts (F' ρ) (fun _ h => h.1) (k ρ hp)))
theorem rSf {id : Nat} {ops : Array Oper} (fn : Func) (m : Nat) (keep hb : List Nat) (vals : (Nat → Orc) → List Value) (effs : (Nat → Orc) → List (Nat × Eff)) (fact : (Nat → Orc) → List (Nat × (World → Prop))) (F' : (Nat → Orc) → World → Prop) (p : (Nat → Orc) → Prop) (hF : ∀ ρ w, F w → (∀ i, mf fact ρ i w) → F' ρ w ∧ p ρ)
    (c : Chain m (Obl P (regOps fn id) (dsq m) l w0 h F (mv vals) (me effs) (mf fact)) 0)
    (k : ∀ ρ, p ρ → Meets (Q .normal) n (finL (regOps fn id) l (mv vals ρ) keep) w0 (selB hb (finH m h (me effs ρ))) (F' ρ))
    (hloc : ∀ ρ, locL vals effs fact ρ m = locR (dsq m) vals effs fact ρ m := by intros; kernel_rfl) (e : ops = regOps fn id := by kernel_rfl) (hchk : sqOk (regOps fn id) m n l keep = true := by kernel_rfl) (hfm : ∀ ρ, (fact ρ).all (fun x => decide (x.1 < m)) = true := by intros; kernel_rfl) : Ok P (.region id ops false) Q n l w0 h F :=
  ok_rf e (reg_sqF hloc hchk (F' := fun ρ w => F' ρ w ∧ p ρ) hF c hfm) (fun ρ => mt_pure (p ρ) (fun _ h => h.2) (fun hp => mt_facts (F' ρ) (fun _ h => h.1) (k ρ hp)))
theorem sDf {id : Nat} {ops : Array Oper} {y : Code} (fn : Func) (D : List Nat) (m : Nat) (keep hb : List Nat) (vals : (Nat → Orc) → List Value) (effs : (Nat → Orc) → List (Nat × Eff)) (fact : (Nat → Orc) → List (Nat × (World → Prop))) (F' : (Nat → Orc) → World → Prop) (p : (Nat → Orc) → Prop) (hF : ∀ ρ w, F w → (∀ i, mf fact ρ i w) → F' ρ w ∧ p ρ)
    (c : Chain m (Obl P (regOps fn id) D l w0 h F (mv vals) (me effs) (mf fact)) 0)
    (k : ∀ ρ, p ρ → Ok P y Q n (finL (regOps fn id) l (mv vals ρ) keep) w0 (selB hb (finH m h (me effs ρ))) (F' ρ))
    (hloc : ∀ ρ, locL vals effs fact ρ m = locR D vals effs fact ρ m := by intros; kernel_rfl) (e : ops = regOps fn id := by kernel_rfl) (hchk : drOk (regOps fn id) D m n l keep = true := by kernel_rfl) (hm : P.follows .mixedOrders = true := by kernel_rfl) (hfm : ∀ ρ, (fact ρ).all (fun x => decide (x.1 < m)) = true := by intros; kernel_rfl) : Ok P (.seq (.region id ops true) y) Q n l w0 h F :=
  ok_seq_rf e (reg_drF hloc hm hchk (F' := fun ρ w => F' ρ w ∧ p ρ) hF c hfm) (fun ρ => ok_pure (p ρ) (fun _ h => h.2) (fun hp => ok_facts (F' ρ) (fun _ h => h.1) (k ρ hp)))
theorem rDf {id : Nat} {ops : Array Oper} (fn : Func) (D : List Nat) (m : Nat) (keep hb : List Nat) (vals : (Nat → Orc) → List Value) (effs : (Nat → Orc) → List (Nat × Eff)) (fact : (Nat → Orc) → List (Nat × (World → Prop))) (F' : (Nat → Orc) → World → Prop) (p : (Nat → Orc) → Prop) (hF : ∀ ρ w, F w → (∀ i, mf fact ρ i w) → F' ρ w ∧ p ρ)
    (c : Chain m (Obl P (regOps fn id) D l w0 h F (mv vals) (me effs) (mf fact)) 0)
    (k : ∀ ρ, p ρ → Meets (Q .normal) n (finL (regOps fn id) l (mv vals ρ) keep) w0 (selB hb (finH m h (me effs ρ))) (F' ρ))
    (hloc : ∀ ρ, locL vals effs fact ρ m = locR D vals effs fact ρ m := by intros; kernel_rfl) (e : ops = regOps fn id := by kernel_rfl) (hchk : drOk (regOps fn id) D m n l keep = true := by kernel_rfl) (hm : P.follows .mixedOrders = true := by kernel_rfl) (hfm : ∀ ρ, (fact ρ).all (fun x => decide (x.1 < m)) = true := by intros; kernel_rfl) : Ok P (.region id ops true) Q n l w0 h F :=
  ok_rf e (reg_drF hloc hm hchk (F' := fun ρ w => F' ρ w ∧ p ρ) hF c hfm) (fun ρ => mt_pure (p ρ) (fun _ h => h.2) (fun hp => mt_facts (F' ρ) (fun _ h => h.1) (k ρ hp)))
/-- Slots and blocks in short. -/
theorem dRs {c : Code} (l' : List (Nat × Value)) (h' : List (Nat × Obj)) (hc : Ok P c Q n l' w0 h' F) (hl : l'.map (fun x => l.lookup x.1) = l'.map (fun x => some x.2) := by kernel_rfl) (hh : h = h' := by kernel_rfl) : Ok P c Q n l w0 h F := by
  subst hh; exact ok_drop l' h hl (List.Sublist.refl _) hc
theorem mD {R : Act → World → Prop} (l' : List (Nat × Value)) (h' : List (Nat × Obj)) (hc : Meets R n l' w0 h' F) (hl : l'.map (fun x => l.lookup x.1) = l'.map (fun x => some x.2) := by kernel_rfl) (hh : h = h' := by kernel_rfl) : Meets R n l w0 h F := by
  subst hh; exact fun A w hf hs => hc A w (hf.sub l' (Subl.get hl)) hs
theorem oY {t : Nat} {x y : Code} (hx : Ok P x Q n l w0 h F) (hl : l.lookup t = some (.bool true) := by kernel_rfl) : Ok P (.cond (.tmp t) x y) Q n l w0 h F := ok_yes hl hx
theorem oN {t : Nat} {x y : Code} (hy : Ok P y Q n l w0 h F) (hl : l.lookup t = some (.bool false) := by kernel_rfl) : Ok P (.cond (.tmp t) x y) Q n l w0 h F := ok_no hl hy
theorem oC {t : Nat} {x y : Code} (b : Bool) (hx : b = true → Ok P x Q n l w0 h F) (hy : b = false → Ok P y Q n l w0 h F) (hl : l.lookup t = some (.bool b) := by kernel_rfl) : Ok P (.cond (.tmp t) x y) Q n l w0 h F := ok_cond hl hx hy
theorem oL {σ : Type} {c : Code} (L : σ → List (Nat × Value)) (H : σ → List (Nat × Obj)) (m : σ → Nat) (R : σ → Prop) (s0 : σ) (hR : R s0) (ks : List Nat)
    (round : ∀ s, R s → Ok P c (Exit.then (Next1 n w0 F L H m R (m s)) Q) n (L s) w0 (H s) F)
    (hl : (L s0).map (fun x => l.lookup x.1) = (L s0).map (fun x => some x.2) := by kernel_rfl) (hh : selB ks h = H s0 := by kernel_rfl) : Ok P (.loop c) Q n l w0 h F :=
  ok_loop L H m R s0 hR hl (hh ▸ selB_sub ks h) round
theorem mN {σ : Type} {L : σ → List (Nat × Value)} {H : σ → List (Nat × Obj)} {m : σ → Nat} {R : σ → Prop} {k : Nat} (s : σ) (hm : m s < k) (hR : R s) (ks : List Nat) (hl : (L s).map (fun x => l.lookup x.1) = (L s).map (fun x => some x.2) := by kernel_rfl) (hh : selB ks h = H s := by kernel_rfl) :
    Meets (Exit.then (Next1 n w0 F L H m R k) Q .normal) n l w0 h F := mt_round s hm hR hl (hh ▸ selB_sub ks h)
def resE (P : Program) (rs : Array ResultVar) (l : List (Nat × Value)) (ps : List Nat) (h : List (Nat × Obj)) : Option (Value × List (Nat × Nat)) := if resSlots rs l then grd P (resL rs l) ps h else none
theorem mR {fn : Func} {R : Ending → World → Prop} {v : Value} (hR : ∀ w, St w0 h F w → R (.returned v) w) (ps : List Nat := [])
    (hg : (resE P fn.results l ps h).map (fun r => (r.1, r.2.map (·.2))) = some (v, ((resE P fn.results l ps h).map (fun r => r.2.map (·.1))).getD []) := by kernel_rfl) : Meets (bodyPost P fn R .ret) n l w0 h F := by
  rw [Option.map_eq_some_iff] at hg
  obtain ⟨⟨v', es⟩, h1, h2⟩ := hg
  rw [h1] at h2
  simp only [Option.map_some, Option.getD_some, Prod.mk.injEq] at h2
  obtain ⟨rfl, h3⟩ := h2
  unfold resE at h1
  split at h1
  · rename_i hr
    exact meets_ret ps es hr h1 (eqs_of h3) hR
  · exact absurd h1 (by simp)
end
end Go.Proofs.YtlkbhiaoolddmaaDoor

/-! '==' and '!=' on arrays of integers. -/
namespace Go.Proofs.YtlkbhiaoolddmaaDoor
open Go

/-- The part of a row of integers. -/
theorem run_part_int {P : Program} {e : TypeId} {k : IntKind} (he : P.underlying e = some (.int k)) (xs : Array Value) (i : Nat) (v : Value) (hx : xs[i]? = some v) (w : World) : (part e xs i).run P w = .ok v w := by
  have hagg : (isAgg e).run P w = .ok false w := by
    unfold isAgg
    rw [Sem.run_bind, run_underlying he w]; simp
  simp [part, Sem.run_bind, hagg, hx]
theorem run_equalIn_int {P : Program} {e : TypeId} {k : IntKind} (d : Nat) (he : P.underlying e = some (.int k)) (a b : Int) (w : World) : (Op.equalIn (d + 1) e (.int k a) (.int k b)).run P w = .ok (a == b) w := by
  simp [Op.equalIn, run_underlying he]
theorem run_equal_ints {P : Program} {t e : TypeId} {n : Nat} {k : IntKind} (ht : P.underlying t = some (.array n e)) (he : P.underlying e = some (.int k)) (hs : (P.info? e).map (·.size) = some 1)
    (f g : Nat → Int) (xs ys : Array Value) (hx : ∀ i, i < n → xs[i]? = some (.int k (f i))) (hy : ∀ i, i < n → ys[i]? = some (.int k (g i))) (d : Nat) (w : World) :
    (Op.equalIn (d + 2) t (.agg xs) (.agg ys)).run P w = .ok (decide (∀ i, i < n → f i = g i)) w := by
  have hsz : ∀ w, (sizeOf e).run P w = .ok 1 w := by
    intro w
    cases hq : P.info? e with
    | none => simp [hq] at hs
    | some i => simp [hq] at hs; simp [sizeOf, typeInfo, hq, hs]
  rw [Op.equalIn]
  simp only [Sem.run_bind, run_underlying ht, Result.andThen_ok, hsz, Nat.mul_one]
  have key : ∀ (m s : Nat), s + m = n → ∀ w (b : Bool), (b = true ↔ ∀ i, s ≤ i → i < n → f i = g i) → (forIn (m := Sem) (List.range' s m) ((none : Option Bool), ()) (fun i _ => do
      let a ← part e xs i
      let b ← part e ys i
      let r ← Op.equalIn (d + 1) e a b
      if (!r) = true then pure (ForInStep.done (some false, ())) else pure (ForInStep.yield (none, ())))).run P w =
        .ok (if b then (none, ()) else (some false, ())) w := by
    intro m
    induction m with
    | zero =>
      intro s hs w b hb
      rw [if_pos (hb.2 (fun i h1 h2 => by omega))]
      simp
    | succ m ih =>
      intro s hs w b hb
      rw [List.range'_succ, List.forIn_cons]
      simp only [Sem.run_bind, run_part_int he xs s _ (hx s (by omega)), run_part_int he ys s _ (hy s (by omega)), Result.andThen_ok, run_equalIn_int d he]
      by_cases h : f s = g s
      · rw [h]
        simp only [beq_self_eq_true, Bool.not_true, Bool.false_eq_true, if_false, Sem.run_pure, Result.andThen_ok]
        refine ih (s + 1) (by omega) w b (hb.trans ⟨fun q i h1 h2 => q i (by omega) h2, fun q i h1 h2 => ?_⟩)
        by_cases e : i = s
        · rw [e]; exact h
        · exact q i (by omega) h2
      · have hf : (f s == g s) = false := by simpa using h
        have hb' : b = false := by
          cases b with
          | false => rfl
          | true => exact absurd (hb.1 rfl s (by omega) (by omega)) h
        rw [hf, hb']
        simp
  simp only [Std.Legacy.Range.forIn_eq_forIn_range', Std.Legacy.Range.size]
  have h0 := key n 0 (by omega) w (decide (∀ i, i < n → f i = g i)) (by simp)
  simp only [Nat.sub_zero, Nat.add_one_sub_one, Nat.div_one]
  rw [h0]
  by_cases hall : ∀ i, i < n → f i = g i
  · rw [decide_eq_true hall]; simp
  · rw [decide_eq_false hall]; simp

theorem run_eql_ints {P : Program} {t e : TypeId} {n : Nat} {k : IntKind} (ht : P.underlying t = some (.array n e)) (he : P.underlying e = some (.int k)) (hs : (P.info? e).map (·.size) = some 1)
    (f g : Nat → Int) (xs ys : Array Value) (hx : ∀ i, i < n → xs[i]? = some (.int k (f i))) (hy : ∀ i, i < n → ys[i]? = some (.int k (g i))) (w : World) :
    (binOp .eql t (.agg xs) (.agg ys)).run P w = .ok (.bool (decide (∀ i, i < n → f i = g i))) w := by
  simp only [binOp]
  simp [Op.equal, Op.maxDepth, run_equal_ints ht he hs f g xs ys hx hy 9998 w]
theorem run_neq_ints {P : Program} {t e : TypeId} {n : Nat} {k : IntKind} (ht : P.underlying t = some (.array n e)) (he : P.underlying e = some (.int k)) (hs : (P.info? e).map (·.size) = some 1)
    (f g : Nat → Int) (xs ys : Array Value) (hx : ∀ i, i < n → xs[i]? = some (.int k (f i))) (hy : ∀ i, i < n → ys[i]? = some (.int k (g i))) (w : World) :
    (binOp .neq t (.agg xs) (.agg ys)).run P w = .ok (.bool (!decide (∀ i, i < n → f i = g i))) w := by
  simp only [binOp]
  simp [Op.equal, Op.maxDepth, run_equal_ints ht he hs f g xs ys hx hy 9998 w]

/-! ### numbers of 256 bits -/
theorem wd_zero (i : Nat) : wd 0 i = 0 := by unfold wd; simp
theorem wd_inj {A B : Nat} (hA : A < M) (hB : B < M) : (∀ i, i < 4 → wd A i = wd B i) ↔ A = B := by
  refine ⟨fun h => ?_, fun h => by subst h; intros; rfl⟩
  have ea := wd_sum A hA; have eb := wd_sum B hB
  rw [h 0 (by omega), h 1 (by omega), h 2 (by omega), h 3 (by omega)] at ea
  omega
abbrev cU (A : Nat) : Array Value := #[.int .u64 (wd A 0), .int .u64 (wd A 1), .int .u64 (wd A 2), .int .u64 (wd A 3)]
theorem cU_get (A i : Nat) (h : i < 4) : (cU A)[i]? = some (.int .u64 (wd A i)) := by
  rcases (by omega : i = 0 ∨ i = 1 ∨ i = 2 ∨ i = 3) with rfl | rfl | rfl | rfl <;> rfl
theorem z4_get (i : Nat) (h : i < 4) : (#[Value.int .u64 0, .int .u64 0, .int .u64 0, .int .u64 0] : Array Value)[i]? = some (.int .u64 0) := by
  rcases (by omega : i = 0 ∨ i = 1 ∨ i = 2 ∨ i = 3) with rfl | rfl | rfl | rfl <;> rfl
theorem eqlU (A B : Nat) (hA : A < M) (hB : B < M) (w : World) : (binOp .eql 43 (U A) (U B)).run Tryd.prog w = .ok (.bool (decide (A = B))) w := by
  rw [run_eql_ints (n := 4) (e := 41) Tryd.underlying43 Tryd.underlying41 (by kernel_rfl) (wd A) (wd B) _ _ (cU_get A) (cU_get B) w]
  rw [decide_eq_decide.2 (wd_inj hA hB)]
theorem neqU (A B : Nat) (hA : A < M) (hB : B < M) (w : World) : (binOp .neq 43 (U A) (U B)).run Tryd.prog w = .ok (.bool (!decide (A = B))) w := by
  rw [run_neq_ints (n := 4) (e := 41) Tryd.underlying43 Tryd.underlying41 (by kernel_rfl) (wd A) (wd B) _ _ (cU_get A) (cU_get B) w]
  rw [decide_eq_decide.2 (wd_inj hA hB)]
theorem U0_eq : Value.agg #[.int .u64 0, .int .u64 0, .int .u64 0, .int .u64 0] = U 0 := by
  show _ = Value.agg #[.int .u64 (wd 0 0), .int .u64 (wd 0 1), .int .u64 (wd 0 2), .int .u64 (wd 0 3)]
  rw [wd_zero, wd_zero, wd_zero, wd_zero]
theorem M_pos : 0 < M := by rw [M_eq]; decide
theorem eqlU0 (A : Nat) (hA : A < M) (w : World) : (binOp .eql 43 (U A) (.agg #[.int .u64 0, .int .u64 0, .int .u64 0, .int .u64 0])).run Tryd.prog w = .ok (.bool (decide (A = 0))) w := by
  rw [U0_eq]; exact eqlU A 0 hA M_pos w
theorem neqU0 (A : Nat) (hA : A < M) (w : World) : (binOp .neq 43 (U A) (.agg #[.int .u64 0, .int .u64 0, .int .u64 0, .int .u64 0])).run Tryd.prog w = .ok (.bool (!decide (A = 0))) w := by
  rw [U0_eq]; exact neqU A 0 hA M_pos w
/-! ### big-endian forms -/
theorem byt_inj {A B : Nat} (hA : A < M) (hB : B < M) : (∀ i, i < 32 → byt A i = byt B i) ↔ A = B := by
  refine ⟨fun h => ?_, fun h => by subst h; intros; rfl⟩
  have key : ∀ k, k ≤ 32 → A / 256 ^ (32 - k) = B / 256 ^ (32 - k) := by
    intro k
    induction k with
    | zero =>
      intro _
      have e : (256 : Nat) ^ 32 = M := by rw [M_eq]
      rw [Nat.sub_zero, e, Nat.div_eq_of_lt hA, Nat.div_eq_of_lt hB]
    | succ k ih =>
      intro hk
      have h1 := ih (by omega)
      have h2 := h k (by omega)
      unfold byt at h2
      have e1 : 32 - k = (31 - k) + 1 := by omega
      rw [e1, Nat.pow_succ, ← Nat.div_div_eq_div_mul, ← Nat.div_div_eq_div_mul] at h1
      rw [show 32 - (k + 1) = 31 - k by omega]
      omega
  have := key 32 (by omega)
  simpa using this
theorem eqlH (A B : Nat) (h1 : A < M) (h2 : B < M) (w : World) : (binOp .eql 36 (.agg (hB A)) (.agg (hB B))).run Tryd.prog w = .ok (.bool (decide (A = B))) w := by
  rw [run_eql_ints (n := 32) (e := 5) Tryd.underlying36 Tryd.underlying5 (by kernel_rfl) (byt A) (byt B) _ _ (hB_get A) (hB_get B) w]
  rw [decide_eq_decide.2 (byt_inj h1 h2)]
end Go.Proofs.YtlkbhiaoolddmaaDoor

/-! What the walks of SHA-256 ask of words and rows. -/
namespace Go.Proofs.YtlkbhiaoolddmaaDoor
open Go Go.RowKit

theorem bits_xorU {k : IntKind} (hk : k.signed = false) {a b : Nat} (ha : a < 2 ^ k.bits) (hb : b < 2 ^ k.bits) : bits .xor k (a : Int) (b : Int) = ((a ^^^ b : Nat) : Int) := by
  have e : ∀ n : Nat, n < 2 ^ k.bits → (BitVec.ofInt k.bits (n : Int)).toNat = n := by
    intro n hn
    rw [BitVec.toNat_ofInt]
    rw [show ((2 ^ k.bits : Nat) : Int) = ((2 ^ k.bits : Nat) : Int) from rfl, ← Int.natCast_emod, Int.toNat_natCast, Nat.mod_eq_of_lt hn]
  unfold bits
  simp only []
  rw [BitVec.toNat_xor, e a ha, e b hb, wrapU_in hk (Nat.xor_lt_two_pow ha hb)]
theorem xor32 {a b : Nat} (ha : a < 4294967296) (hb : b < 4294967296) : bits .xor .u32 (a : Int) (b : Int) = ((a ^^^ b : Nat) : Int) := bits_xorU rfl ha hb
theorem and32 {a b : Nat} (ha : a < 4294967296) (hb : b < 4294967296) : bits .and .u32 (a : Int) (b : Int) = ((a &&& b : Nat) : Int) := bits_andU rfl ha hb
theorem not_xor32 {a : Nat} (ha : a < 4294967296) : bits .xor .u32 4294967295 (a : Int) = ((not32 a : Nat) : Int) := by
  refine (bits_xorU (k := .u32) rfl (a := 4294967295) (b := a) (by decide) ha).trans ?_
  congr 1
  unfold not32
  have h : (4294967295 - BitVec.ofNat 32 a).toNat = (BitVec.ofNat 32 a ^^^ 4294967295).toNat := by
    have h2 : BitVec.ofNat 32 a ^^^ 4294967295 = ~~~ (BitVec.ofNat 32 a) := by
      rw [show (4294967295 : BitVec 32) = BitVec.allOnes 32 from rfl, BitVec.xor_allOnes]
    rw [h2, BitVec.toNat_not, BitVec.toNat_sub]
    have h3 : (BitVec.ofNat 32 a).toNat = a := by simp [Nat.mod_eq_of_lt ha]
    rw [h3]
    show (2 ^ 32 - a + 4294967295) % 2 ^ 32 = 2 ^ 32 - 1 - a
    omega
  have h3 : (BitVec.ofNat 32 a).toNat = a := by simp [Nat.mod_eq_of_lt ha]
  rw [BitVec.toNat_xor, BitVec.toNat_sub, h3] at h
  have h4 : (4294967295 : BitVec 32).toNat = 4294967295 := rfl
  rw [h4] at h
  rw [Nat.xor_comm, ← h]
  show (2 ^ 32 - a + 4294967295) % 2 ^ 32 = 4294967295 - a
  omega
theorem wrap_add32 (x y : Nat) : IntKind.u32.wrap ((x : Int) + (y : Int)) = ((add32 x y : Nat) : Int) := by
  rw [← Int.natCast_add]; exact u32M (x + y)
/-! ### rotations -/
theorem u64_neg {n : Nat} (h0 : 0 < n) (h : n < 32) : IntKind.u64.wrap (0 - (n : Int)) = ((18446744073709551616 - n : Nat) : Int) := by
  simp only [IntKind.wrap]
  show (0 - (n : Int)) % 18446744073709551616 = _
  omega
theorem and31 {n : Nat} (h0 : 0 < n) (h : n < 32) : bits .and .u64 ((18446744073709551616 - n : Nat) : Int) 31 = ((32 - n : Nat) : Int) := by
  refine (bits_andU (k := .u64) rfl (a := 18446744073709551616 - n) (b := 31) (by show _ < 18446744073709551616; omega) (by decide)).trans ?_
  congr 1
  rw [show (31 : Nat) = 2 ^ 5 - 1 from rfl, Nat.and_two_pow_sub_one_eq_mod]
  omega
theorem u64_32 {n : Nat} (h0 : 0 < n) (h : n < 32) : IntKind.u64.wrap (32 - ((32 - n : Nat) : Int)) = ((n : Nat) : Int) := by
  rw [show (32 : Int) - ((32 - n : Nat) : Int) = ((n : Nat) : Int) by omega]
  exact u64N (by omega)
theorem run_shlM {P : Program} {t : TypeId} {yk : IntKind} {x c : Nat} (hc : c ≤ 32) (w : World) : (binOp .shl t (.int .u32 (x : Int)) (.int yk (c : Int))).run P w = .ok (.int .u32 ((x * 2 ^ c % 4294967296 : Nat) : Int)) w := by
  have e : IntKind.u32.wrap ((x : Int) * 2 ^ (min (c : Int).toNat IntKind.u32.bits)) = ((x * 2 ^ c % 4294967296 : Nat) : Int) := by
    rw [Int.toNat_natCast, Nat.min_eq_left (show c ≤ IntKind.u32.bits from hc), show (x : Int) * 2 ^ c = ((x * 2 ^ c : Nat) : Int) by simp]
    exact u32M _
  simp only [binOp, Op.shift, if_neg (by omega : ¬ (c : Int) < 0), e]
  rfl
theorem or_rot {x n : Nat} (hx : x < 4294967296) : bits .or .u32 ((x * 2 ^ (32 - n) % 4294967296 : Nat) : Int) ((x / 2 ^ n : Nat) : Int) = ((rot32 x n : Nat) : Int) :=
  bits_orU (k := .u32) rfl (Nat.mod_lt _ (by decide)) (shr32_lt n hx)
/-! ### the schedule's rows -/
def pwb (X : List UInt8) (i : Nat) : Nat → Nat
  | 0 => 0
  | j + 1 => pwb X i j * 256 + gB X (4 * i + j)
theorem pwb_lt (X : List UInt8) (i : Nat) : ∀ j, pwb X i j < 256 ^ j
  | 0 => by simp [pwb]
  | j + 1 => by have := pwb_lt X i j; have := gB_lt X (4 * i + j); rw [pwb, Nat.pow_succ]; omega
theorem pwb_small {X : List UInt8} {i j : Nat} (h : j < 4) : pwb X i j < 16777216 :=
  Nat.lt_of_lt_of_le (pwb_lt X i j) (by rw [show (16777216 : Nat) = 256 ^ 3 from rfl]; exact Nat.pow_le_pow_right (by decide) (by omega))
theorem pwb_word (X : List UInt8) (i : Nat) : pwb X i 4 = word X i := by simp [pwb, word]
theorem run_pw8 {P : Program} {t : TypeId} {X : List UInt8} {i j : Nat} (h : j < 4) (w : World) : (binOp .shl t (.int .u32 ((pwb X i j : Nat) : Int)) (.int .u64 8)).run P w = .ok (.int .u32 ((pwb X i j * 256 : Nat) : Int)) w :=
  run_shlU (k := .u32) (yk := .u64) (x := pwb X i j) (c := 8) rfl (by have := pwb_small (X := X) (i := i) h; show pwb X i j * 256 < 4294967296; omega) (fun _ => by decide) w
theorem or_pw {X : List UInt8} {i j : Nat} (h : j < 4) : bits .or .u32 ((pwb X i j * 256 : Nat) : Int) ((gB X (4 * i + j) : Nat) : Int) = ((pwb X i (j + 1) : Nat) : Int) := by
  have h1 := pwb_small (X := X) (i := i) h
  have h2 := gB_lt X (4 * i + j)
  rw [bits_orU (k := .u32) rfl (by show _ < 4294967296; omega) (by show _ < 4294967296; omega)]
  congr 1
  rw [Nat.mul_comm, show (256 : Nat) = 2 ^ 8 from rfl, ← Nat.two_pow_add_eq_or_of_lt h2, pwb, Nat.mul_comm]
theorem or_gen {x y k : Nat} (h : y < 2 ^ k) (hx : x * 2 ^ k < 4294967296) (hy : y < 4294967296) : bits .or .u32 ((x * 2 ^ k : Nat) : Int) ((y : Nat) : Int) = ((x * 2 ^ k + y : Nat) : Int) := by
  rw [bits_orU (k := .u32) rfl hx hy]
  congr 1
  rw [Nat.mul_comm, ← Nat.two_pow_add_eq_or_of_lt h]
theorem or_w1 {a b : Nat} (ha : a < 256) (hb : b < 256) : bits .or .u32 ((a * 16777216 : Nat) : Int) ((b * 65536 : Nat) : Int) = (((a * 256 + b) * 65536 : Nat) : Int) :=
  (or_gen (x := a) (y := b * 65536) (k := 24) (by show _ < 16777216; omega) (by show a * 16777216 < _; omega) (by omega)).trans (congrArg Nat.cast (show a * 16777216 + b * 65536 = _ by omega))
theorem or_w2 {a b c : Nat} (ha : a < 256) (hb : b < 256) (hc : c < 256) : bits .or .u32 (((a * 256 + b) * 65536 : Nat) : Int) ((c * 256 : Nat) : Int) = ((((a * 256 + b) * 256 + c) * 256 : Nat) : Int) :=
  (or_gen (x := a * 256 + b) (y := c * 256) (k := 16) (by show _ < 65536; omega) (by show (a * 256 + b) * 65536 < _; omega) (by omega)).trans (congrArg Nat.cast (show (a * 256 + b) * 65536 + c * 256 = _ by omega))
theorem or_w3 {X : List UInt8} {i : Nat} : bits .or .u32 ((((gB X (4 * i) * 256 + gB X (4 * i + 1)) * 256 + gB X (4 * i + 2)) * 256 : Nat) : Int) ((gB X (4 * i + 3) : Nat) : Int) = ((word X i : Nat) : Int) := by
  have h0 := gB_lt X (4 * i); have h1 := gB_lt X (4 * i + 1); have h2 := gB_lt X (4 * i + 2); have h3 := gB_lt X (4 * i + 3)
  exact or_gen (x := (gB X (4 * i) * 256 + gB X (4 * i + 1)) * 256 + gB X (4 * i + 2)) (y := gB X (4 * i + 3)) (k := 8) h3 (by show _ * 256 < _; omega) (by omega)
def sc (X : List UInt8) (i j m : Nat) : Nat := if m < i then word X m else if m = i then pwb X i j else 0
def tc (X : List UInt8) (i m : Nat) : Nat := if m < i then wN X m else 0
theorem sc_zero (X : List UInt8) (m : Nat) : sc X 0 0 m = 0 := by unfold sc; rw [if_neg (by omega)]; split <;> rfl
theorem sc_at (X : List UInt8) (i j : Nat) : sc X i j i = pwb X i j := by unfold sc; rw [if_neg (by omega), if_pos rfl]
theorem sc_set {X : List UInt8} {i j : Nat} : (rowK .u32 64 (sc X i j)).setIfInBounds i (.int .u32 ((pwb X i (j + 1) : Nat) : Int)) = rowK .u32 64 (sc X i (j + 1)) := by
  rw [rowK_set]
  refine rowK_congr fun m _ => ?_
  by_cases e : m = i
  · rw [if_pos e, e, sc_at]
  · rw [if_neg e]; unfold sc; rw [if_neg e, if_neg e]
theorem sc_next (X : List UInt8) (i : Nat) : rowK .u32 64 (sc X i 4) = rowK .u32 64 (sc X (i + 1) 0) := by
  refine rowK_congr fun m _ => ?_
  unfold sc
  by_cases h1 : m < i
  · rw [if_pos h1, if_pos (by omega)]
  · rw [if_neg h1]
    by_cases h2 : m = i
    · rw [if_pos h2, if_pos (by omega), h2, pwb_word]
    · rw [if_neg h2, if_neg (by omega)]
      split <;> rfl
theorem sc_tc (X : List UInt8) : rowK .u32 64 (sc X 16 0) = rowK .u32 64 (tc X 16) := by
  refine rowK_congr fun m _ => ?_
  unfold sc tc
  by_cases h1 : m < 16
  · rw [if_pos h1, if_pos h1, wN_word h1]
  · rw [if_neg h1, if_neg h1]; split <;> rfl
theorem sc_word {X : List UInt8} {i : Nat} : (rowK .u32 64 (sc X i 0)).setIfInBounds i (.int .u32 ((word X i : Nat) : Int)) = rowK .u32 64 (sc X (i + 1) 0) := by
  rw [rowK_set]
  refine rowK_congr fun m _ => ?_
  unfold sc
  by_cases e : m = i
  · rw [if_pos e, if_pos (by omega), e]
  · rw [if_neg e, if_neg e]
    by_cases h1 : m < i
    · rw [if_pos h1, if_pos (by omega)]
    · rw [if_neg h1, if_neg (by omega)]; split <;> rfl
theorem tc_get {X : List UInt8} {i m : Nat} (h : m < i) (h64 : m < 64) : (rowK .u32 64 (tc X i))[m]? = some (.int .u32 ((wN X m : Nat) : Int)) := by
  rw [rowK_get h64, tc, if_pos h]
theorem tc_set {X : List UInt8} {i v : Nat} (hv : v = wN X i) : (rowK .u32 64 (tc X i)).setIfInBounds i (.int .u32 ((v : Nat) : Int)) = rowK .u32 64 (tc X (i + 1)) := by
  rw [rowK_set]
  refine rowK_congr fun m _ => ?_
  unfold tc
  by_cases e : m = i
  · rw [if_pos e, if_pos (by omega), e, hv]
  · rw [if_neg e]
    by_cases h1 : m < i
    · rw [if_pos h1, if_pos (by omega)]
    · rw [if_neg h1, if_neg (by omega)]
theorem tc_end {X : List UInt8} {i : Nat} (h : 64 ≤ i) : rowK .u32 64 (tc X i) = rowK .u32 64 (wN X) := by
  refine rowK_congr fun m hm => ?_
  rw [tc, if_pos (by omega)]
theorem kC_get {i : Nat} (h : i < 64) : (rowK .u32 64 kN)[i]? = some (.int .u32 ((kN i : Nat) : Int)) := rowK_get h
theorem cmp_end {X : List UInt8} {a b c d e f g h a' b' c' d' e' f' g' h' i : Nat} (hr : rnds X (a, b, c, d, e, f, g, h) i = (a', b', c', d', e', f', g', h')) (hi : i = 64) :
    cmpS (a, b, c, d, e, f, g, h) X = (add32 a a', add32 b b', add32 c c', add32 d d', add32 e e', add32 f f', add32 g g', add32 h h') := by
  subst hi
  rw [cmpS, hr]; rfl
theorem mid_take {m : List UInt8} {a : Nat} (n : Nat) (_h : a + n ≤ m.length) : (mid m a m.length).take n = mid m a (a + n) := by
  unfold mid
  rw [List.take_length, List.take_drop, Nat.add_comm]
/-! ### padding -/
theorem bne0N {x : Nat} (h : ((x : Int) != 0) = true) : x ≠ 0 := bneN (k := 0) h
theorem bne0N' {x : Nat} (h : ((x : Int) != 0) = false) : x = 0 := bneN' (k := 0) h
theorem zer_len {j : Nat} {X : List UInt8} (hX : X = 128 :: List.replicate j 0) : X.length = j + 1 := by rw [hX]; simp
theorem pad_hd0 (n : Nat) : Hd ((zB (9 + zeros n)).setIfInBounds 0 (.int .u8 128)) (128 :: List.replicate (zeros n) 0) := by
  unfold Hd zB
  simp only [Array.toList_setIfInBounds]
  rw [show 9 + zeros n = (zeros n + 8) + 1 by omega, List.replicate_succ]
  show (((bv 0 :: bs (List.replicate (zeros n + 8) 0)).set 0 (.int .u8 128)).take (List.replicate (zeros n) (0 : UInt8)).length.succ) = _
  rw [List.set_cons_zero, List.take_succ_cons, List.length_replicate]
  show _ = bv 128 :: bs (List.replicate (zeros n) 0)
  congr 1
  unfold bs
  rw [List.map_replicate, List.map_replicate, List.take_replicate, Nat.min_eq_left (by omega)]
theorem pad_next {n i : Nat} {X : List UInt8} (hX : X = 128 :: (List.replicate (zeros n) 0 ++ be8 (8 * n) i)) : X ++ [ob ((8 * n / 2 ^ (56 - 8 * i) % 256 : Nat) : Int)] = 128 :: (List.replicate (zeros n) 0 ++ be8 (8 * n) (i + 1)) := by
  rw [hX, be8_succ]; simp
theorem pad_end {n i : Nat} {X : List UInt8} (hX : X = 128 :: (List.replicate (zeros n) 0 ++ be8 (8 * n) i)) (hi : i = 8) : X = padN n := by
  subst hi; exact hX
theorem pad_len {n i : Nat} {X : List UInt8} (hX : X = 128 :: (List.replicate (zeros n) 0 ++ be8 (8 * n) i)) : X.length = 1 + zeros n + i := by
  rw [hX]; simp [be8_length]; omega
theorem zer_next {j : Nat} {X : List UInt8} (hX : X = 128 :: List.replicate j 0) : X ++ [0] = 128 :: List.replicate (j + 1) 0 := by
  rw [hX, List.replicate_succ']; rfl
theorem zer_more {n j : Nat} (hj : j ≤ zeros n) (h : (n + (j + 1) + 8) % 64 ≠ 0) : j < zeros n := by
  unfold zeros at *; omega
theorem zer_end {n j : Nat} (hj : j ≤ zeros n) (h : (n + (j + 1) + 8) % 64 = 0) : j = zeros n := by
  unfold zeros at *; omega
theorem zer_be {n j : Nat} {X : List UInt8} (hX : X = 128 :: List.replicate j 0) (hj : j = zeros n) : X = 128 :: (List.replicate (zeros n) 0 ++ be8 (8 * n) 0) := by
  rw [hX, hj]; simp [be8]
/-! ### the digest -/
def dgf (s : Oct8) (m j : Nat) : Nat := if j < m then sel8 s (j / 4) / 2 ^ (24 - j % 4 * 8) % 256 else 0
theorem hB0_row (s : Oct8) : hB 0 = rowK .u8 32 (dgf s 0) := by
  have h : rowK .u8 32 (dgf s 0) = rowK .u8 32 (fun _ => 0) := rowK_congr fun m _ => by unfold dgf; rw [if_neg (by omega)]
  exact (show hB 0 = rowK .u8 32 (fun _ => 0) by kernel_rfl).trans h.symm
theorem dgf_set {s : Oct8} {m v : Nat} (hv : v = sel8 s (m / 4) / 2 ^ (24 - m % 4 * 8) % 256) : (rowK .u8 32 (dgf s m)).setIfInBounds m (.int .u8 ((v : Nat) : Int)) = rowK .u8 32 (dgf s (m + 1)) := by
  rw [rowK_set]
  refine rowK_congr fun j _ => ?_
  unfold dgf
  by_cases e : j = m
  · rw [if_pos e, if_pos (by omega), e, hv]
  · rw [if_neg e]
    by_cases h1 : j < m
    · rw [if_pos h1, if_pos (by omega)]
    · rw [if_neg h1, if_neg (by omega)]
theorem dgf_end {s : Oct8} {m : Nat} (h : 32 ≤ m) : rowK .u8 32 (dgf s m) = hB (nB (digL s)) := by
  rw [← rowK_bytes]
  refine rowK_congr fun j hj => ?_
  rw [dgf, if_pos (by omega)]
theorem sha_next {m : List UInt8} {i : Nat} {s : Oct8} (hS : shaS m i = s) (h : 64 * i + 64 ≤ m.length) : shaS m (i + 1) = cmpS s ((mid m (64 * i) m.length).take 64) := by
  rw [shaS, hS, mid_take 64 h]
theorem sha_end {b : List UInt8} {i : Nat} {s : Oct8} (hS : shaS (b ++ padN b.length) i = s) (hi : i = (b ++ padN b.length).length / 64) : nB (digL s) = shaN b := by
  subst hi; rw [← hS]; rfl
theorem msg_len (b : List UInt8) : (b ++ padN b.length).length = b.length + zeros b.length + 9 := by rw [List.length_append, pad_length]; omega
/-! ### rows of digests, arrays -/
section
variable {P : Program} {e : TypeId}
theorem ld_hash {w : World} {g off A : Nat} {C : Array Value} (ha : ∀ w, (isAgg e).run P w = .ok true w) (hs : ∀ w, (sizeOf e).run P w = .ok 32 w) (h : Kb w g C) (hv : ∀ j, j < 32 → C[off + j]? = (hB A)[j]?) :
    (do pure (Next.value (← Instr.loadAt e (.pointer (some ⟨g, off, none⟩)))) : Sem Next).run P w = .ok (.value (.agg (hB A))) w := by
  have h1 := ld_blkA (vs := (hB A).toList) ha hs h (by simp [hB_size]) (fun j hj => by rw [hv j hj]; simp)
  rw [Array.toArray_toList] at h1
  exact h1
end
theorem hcat2_0 (A B : Nat) : ∀ j, j < 32 → (hB A ++ hB B)[0 + j]? = (hB A)[j]? := fun j hj => by rw [Nat.zero_add, Array.getElem?_append_left (by rw [hB_size]; exact hj)]
theorem hcat2_1 (A B : Nat) : ∀ j, j < 32 → (hB A ++ hB B)[32 + j]? = (hB B)[j]? := fun j hj => by rw [Array.getElem?_append_right (by rw [hB_size]; omega), hB_size, Nat.add_sub_cancel_left]
theorem hcat3_0 (A B C : Nat) : ∀ j, j < 32 → (hB A ++ hB B ++ hB C)[0 + j]? = (hB A)[j]? := fun j hj => by rw [Array.getElem?_append_left (by rw [Array.size_append, hB_size, hB_size]; omega)]; exact hcat2_0 A B j hj
theorem hcat3_1 (A B C : Nat) : ∀ j, j < 32 → (hB A ++ hB B ++ hB C)[32 + j]? = (hB B)[j]? := fun j hj => by rw [Array.getElem?_append_left (by rw [Array.size_append, hB_size, hB_size]; omega)]; exact hcat2_1 A B j hj
theorem hcat3_2 (A B C : Nat) : ∀ j, j < 32 → (hB A ++ hB B ++ hB C)[64 + j]? = (hB C)[j]? := fun j hj => by rw [Array.getElem?_append_right (by rw [Array.size_append, hB_size, hB_size]; omega), Array.size_append, hB_size, hB_size, Nat.add_sub_cancel_left]
theorem copy_arr {C : Array Value} {n : Nat} {xs : List UInt8} (hC : C.size = n) (h : n ≤ xs.length) : inpl C 0 (bs (xs.take n)) = (bs (xs.take n)).toArray := by
  unfold inpl
  have hl : (bs (xs.take n)).length = n := by rw [bs_length, List.length_take]; omega
  rw [List.take_zero, List.nil_append, hl, Nat.zero_add, List.drop_of_length_le (by rw [Array.length_toList]; omega), List.append_nil]
theorem idx_arr8 {P : Program} {t el : TypeId} (hu : P.underlying t = some (.array 8 el)) (he : P.underlying el = some (.int .u32)) (hs : ∀ w, (sizeOf el).run P w = .ok 1 w) {a b c d e f g h j : Nat} (hj : j < 8) (w : World) :
    (do pure (Next.value (← Instr.index t (.agg #[Value.int .u32 ((a : Nat) : Int), .int .u32 ((b : Nat) : Int), .int .u32 ((c : Nat) : Int), .int .u32 ((d : Nat) : Int), .int .u32 ((e : Nat) : Int), .int .u32 ((f : Nat) : Int), .int .u32 ((g : Nat) : Int), .int .u32 ((h : Nat) : Int)]) (.int .i64 ((j : Nat) : Int)))) : Sem Next).run P w = .ok (.value (.int .u32 ((sel8 (a, b, c, d, e, f, g, h) j : Nat) : Int))) w := by
  have hp := run_part_int (P := P) he _ j _ (sel_get (a := a) (b := b) (c := c) (d := d) (e := e) (f := f) (g := g) (h := h) hj) w
  have hc : (0 : Int) ≤ (j : Int) ∧ (j : Int) < ((8 : Nat) : Int) := by omega
  simp only [Instr.index, asIntOf, Sem.run_bind, Sem.run_pure, Result.andThen_ok, run_underlying hu, if_pos hc, hs, Int.toNat_natCast, Nat.mul_one, hp]
end Go.Proofs.YtlkbhiaoolddmaaDoor

/-! Rows of slices, rows of digests, of any number. -/
namespace Go.Proofs.YtlkbhiaoolddmaaDoor
open Go Go.RowKit

def rowS (n : Nat) (pa : Nat → Option Addr) (pc : Nat → Nat) (pB : Nat → List UInt8) : Array Value := ((List.range n).map fun k => Value.slice (pa k) (pB k).length (pc k)).toArray
theorem rowS_get {n : Nat} {pa : Nat → Option Addr} {pc : Nat → Nat} {pB : Nat → List UInt8} {k : Nat} (h : k < n) : (rowS n pa pc pB)[k]? = some (.slice (pa k) (pB k).length (pc k)) := by
  simp [rowS, h]
def AllB (w : World) (n : Nat) (pa : Nat → Option Addr) (pc : Nat → Nat) (pB : Nat → List UInt8) : Prop := ∀ k, k < n → Bs w (pa k) (pc k) (pB k)
theorem AllB.pers0 {w : World} {n : Nat} {pa : Nat → Option Addr} {pc : Nat → Nat} {pB : Nat → List UInt8} (h : AllB w n pa pc pB) : Pers (fun _ => False) (fun w => AllB w n pa pc pB) w := by
  refine ⟨fun b => b < w.heap.size, fun b hb => ⟨hb, id⟩, fun w' hw k hk => ?_⟩
  obtain ⟨S, s1, s2⟩ := (h k hk).pers0
  exact s2 w' (fun b hb => hw b (s1 b hb).1)
theorem allB2 {w : World} {a0 a1 : Option Addr} {c0 c1 : Nat} {B0 B1 : List UInt8} (h0 : Bs w a0 c0 B0) (h1 : Bs w a1 c1 B1) : AllB w 2 (fun k => [a0, a1].getD k none) (fun k => [c0, c1].getD k 0) (fun k => [B0, B1].getD k []) := by
  intro k hk
  rcases (by omega : k = 0 ∨ k = 1) with rfl | rfl
  · exact h0
  · exact h1
theorem allB3 {w : World} {a0 a1 a2 : Option Addr} {c0 c1 c2 : Nat} {B0 B1 B2 : List UInt8} (h0 : Bs w a0 c0 B0) (h1 : Bs w a1 c1 B1) (h2 : Bs w a2 c2 B2) : AllB w 3 (fun k => [a0, a1, a2].getD k none) (fun k => [c0, c1, c2].getD k 0) (fun k => [B0, B1, B2].getD k []) := by
  intro k hk
  rcases (by omega : k = 0 ∨ k = 1 ∨ k = 2) with rfl | rfl | rfl
  · exact h0
  · exact h1
  · exact h2
def catB (pB : Nat → List UInt8) : Nat → List UInt8
  | 0 => []
  | k + 1 => catB pB k ++ pB k
theorem catB_le (pB : Nat → List UInt8) {i n : Nat} (h : i ≤ n) : (catB pB i).length ≤ (catB pB n).length := by
  induction n with
  | zero => rw [show i = 0 by omega]; exact Nat.le_refl _
  | succ n ih =>
    rcases (by omega : i ≤ n ∨ i = n + 1) with e | e
    · rw [catB, List.length_append]; have := ih e; omega
    · rw [e]; exact Nat.le_refl _
theorem catB_next (pB : Nat → List UInt8) {i n : Nat} (h : i < n) : (catB pB i).length + (pB i).length ≤ (catB pB n).length := by
  have := catB_le pB (i := i + 1) (n := n) h
  rw [catB, List.length_append] at this
  exact this
def rowH (n : Nat) (pA : Nat → Nat) : Array Value := ((List.range n).flatMap fun k => (hB (pA k)).toList).toArray
theorem flat_get {f : Nat → List Value} (hf : ∀ k, (f k).length = 32) : ∀ n i j, i < n → j < 32 → ((List.range n).flatMap f)[i * 32 + j]? = (f i)[j]?
  | 0, i, j, h, _ => by omega
  | n + 1, i, j, h, hj => by
    have hl : ∀ m, ((List.range m).flatMap f).length = m * 32 := by
      intro m
      induction m with
      | zero => rfl
      | succ m ih => rw [List.range_succ, List.flatMap_append, List.length_append, ih]; simp [hf]; omega
    rw [List.range_succ, List.flatMap_append]
    rcases (by omega : i < n ∨ i = n) with e | e
    · rw [List.getElem?_append_left (by rw [hl]; omega)]
      exact flat_get hf n i j e hj
    · subst e
      rw [List.getElem?_append_right (by rw [hl]; omega), hl, Nat.add_sub_cancel_left]
      simp
theorem rowH_get {n : Nat} {pA : Nat → Nat} {i j : Nat} (h : i < n) (hj : j < 32) : (rowH n pA)[i * 32 + j]? = (hB (pA i))[j]? := by
  unfold rowH
  rw [List.getElem?_toArray, flat_get (fun k => by simp [hB_size]) n i j h hj]
  simp
theorem zero_M : 0 < M := by rw [M_eq]; decide
theorem allM2 {A B : Nat} (h0 : A < M) (h1 : B < M) : ∀ k, [A, B].getD k 0 < M
  | 0 => h0
  | 1 => h1
  | _ + 2 => zero_M
theorem allM3 {A B C : Nat} (h0 : A < M) (h1 : B < M) (h2 : C < M) : ∀ k, [A, B, C].getD k 0 < M
  | 0 => h0
  | 1 => h1
  | 2 => h2
  | _ + 3 => zero_M
theorem rowH2 (A B : Nat) : rowH 2 (fun k => [A, B].getD k 0) = hB A ++ hB B := by
  unfold rowH
  rw [show List.range 2 = [0, 1] from rfl]
  apply Array.ext'
  simp
theorem rowH3 (A B C : Nat) : rowH 3 (fun k => [A, B, C].getD k 0) = hB A ++ hB B ++ hB C := by
  unfold rowH
  rw [show List.range 3 = [0, 1, 2] from rfl]
  apply Array.ext'
  simp
section
variable {P : Program} {t e : TypeId}
theorem idx_rowS (ht : P.underlying t = some (.slice e)) (hs : ∀ w, (sizeOf e).run P w = .ok 1 w) {g m c : Nat} {k : IntKind} {z : Int} {j : Nat} (hz : z = (j : Int)) (hj : j < m) (w : World) :
    (do pure (Next.value (← Instr.indexAt t (.slice (some ⟨g, 0, none⟩) m c) (.int k z))) : Sem Next).run P w = .ok (.value (.pointer (some ⟨g, j, none⟩))) w := by
  subst hz
  have := run_idx_slice (P := P) (t := t) (elem := e) (len := m) (cap := c) (s := 1) (g := g) (off := 0) (k := k) (n := j) ht hs (by omega) (by omega) w
  simpa using this
theorem idx_rowN (ht : P.underlying t = some (.slice e)) {sz : Nat} (hs : ∀ w, (sizeOf e).run P w = .ok sz w) {g m c : Nat} {k : IntKind} {z : Int} {j : Nat} (hz : z = (j : Int)) (hj : j < m) (w : World) :
    (do pure (Next.value (← Instr.indexAt t (.slice (some ⟨g, 0, none⟩) m c) (.int k z))) : Sem Next).run P w = .ok (.value (.pointer (some ⟨g, j * sz, none⟩))) w := by
  subst hz
  have := run_idx_slice (P := P) (t := t) (elem := e) (len := m) (cap := c) (s := sz) (g := g) (off := 0) (k := k) (n := j) ht hs (by omega) (by omega) w
  simpa using this
end
end Go.Proofs.YtlkbhiaoolddmaaDoor

/-! SHA-256: padding, rows: the walks. -/
namespace Go.Proofs.YtlkbhiaoolddmaaDoor
open Go Go.RowKit

theorem pad_any (n : Nat) (hn : n ≤ 140737488351232) (w0 : World) : Calls Tryd.prog 44 #[(.int .u64 ((n : Nat) : Int))] w0 (fun ε w' => ∃ α κ, ε = .returned (.slice α (padN n).length κ) ∧ Below w0.heap.size w0 w' ∧ Fs w0 w' α κ (padN n)) := by
  refine Calls.of_ok (n := 33) (F := (fun _ => True)) Tryd.func44 rfl rfl rfl (by simp) (persTrue (fun _ => trivial)) ?_
  refine sS Tryd.f44 1 [0, 2] [] (fun _ => [(.slice none 0 0)]) (fun _ => []) (cR [[]] <| cN) (fun _ => ?_)
  refine sS Tryd.f44 6 [0, 2, 3] [] (fun _ => [(.int .u64 ((n : Nat) : Int)), (.int .u64 ((n + 9 : Nat) : Int)), (.int .u64 (((n + 9) % 64 : Nat) : Int)), (.int .u64 ((64 - ((n + 9) % 64) : Nat) : Int)), (.int .u64 ((zeros n : Nat) : Int)), (.int .u64 ((zeros n : Nat) : Int))]) (fun _ => []) (cR [[]] <| cA (v := fun ρ => (.int .u64 (IntKind.u64.wrap (((n : Nat) : Int) + 9)))) (fun _ => (.int .u64 ((n + 9 : Nat) : Int))) (fun _ => congrArg (Value.int .u64) (u64_addN n 9 (by have := hn; have := zeros_lt n; omega))) <| cB (a := fun ρ => (.int .u64 ((n + 9 : Nat) : Int))) (b := fun ρ => (.int .u64 64)) (v := fun ρ => (.int .u64 (((n + 9) % 64 : Nat) : Int))) .rem 41 (fun _ w => run_remU (k := .u64) (n := (n + 9)) (d := 64) (by decide) w) <| cA (v := fun ρ => (.int .u64 (IntKind.u64.wrap (64 - (((n + 9) % 64 : Nat) : Int))))) (fun _ => (.int .u64 ((64 - ((n + 9) % 64) : Nat) : Int))) (fun _ => congrArg (Value.int .u64) (u64_subN 64 ((n + 9) % 64) (by have := hn; have := zeros_lt n; omega) (by have := hn; have := zeros_lt n; omega))) <| cB (a := fun ρ => (.int .u64 ((64 - ((n + 9) % 64) : Nat) : Int))) (b := fun ρ => (.int .u64 64)) (v := fun ρ => (.int .u64 ((zeros n : Nat) : Int))) .rem 41 (fun _ w => run_remU (k := .u64) (n := 64 - (n + 9) % 64) (d := 64) (by decide) w) <| cR [[]] <| cN) (fun _ => ?_)
  refine sS Tryd.f44 6 [0, 2, 4] [] (fun ρ => [(.int .u64 ((zeros n : Nat) : Int)), (.int .u64 ((zeros n + 1 : Nat) : Int)), (.int .u64 ((zeros n : Nat) : Int)), (.int .u64 ((9 + (zeros n) : Nat) : Int)), (.slice (some ⟨nb ρ 4, 0, none⟩) (List.replicate (zeros n + 1) (0 : UInt8)).length (9 + (zeros n))), (.slice (some ⟨nb ρ 4, 0, none⟩) (List.replicate (zeros n + 1) (0 : UInt8)).length (9 + (zeros n)))]) (fun ρ => [(4, { news := [(nb ρ 4, (.cells (zB (9 + (zeros n))) 5 (0, 0)))] })]) (cR [[]] <| cA (v := fun ρ => (.int .u64 (IntKind.u64.wrap (1 + ((zeros n : Nat) : Int))))) (fun _ => (.int .u64 ((zeros n + 1 : Nat) : Int))) (fun _ => congrArg (Value.int .u64) ((u64_addN 1 (zeros n) (by have := hn; have := zeros_lt n; omega)).trans (by omega))) <| cR [[]] <| cA (v := fun ρ => (.int .u64 (IntKind.u64.wrap (9 + ((zeros n : Nat) : Int))))) (fun _ => (.int .u64 ((9 + (zeros n) : Nat) : Int))) (fun _ => congrArg (Value.int .u64) (u64_addN 9 (zeros n) (by have := hn; have := zeros_lt n; omega))) <| cX (o_new1 _ (fun _ => do pure (Next.value (← Instr.makeSlice 56 (.int .u64 ((zeros n + 1 : Nat) : Int)) (.int .u64 ((9 + (zeros n) : Nat) : Int))))) (fun _ z => (.slice (some ⟨z.headD 0, 0, none⟩) (List.replicate (zeros n + 1) (0 : UInt8)).length (9 + (zeros n)))) (fun _ _ => (.cells (zB (9 + (zeros n))) 5 (0, 0))) (fun _ _ => (by kernel_rfl)) (fun _ => (by kernel_rfl)) (fun _ _ => trivial) (fun _ _ w _ => make_rowL Tryd.underlying56 u8i (List.replicate (zeros n + 1) (0 : UInt8)) ((rfl).trans (by rw [List.length_replicate])) (rfl) (by have := hn; have := zeros_lt n; rw [List.length_replicate]; omega) (by have := hn; have := zeros_lt n; omega) w)) <| cR [[]] <| cN) (fun ρ3 => ?_)
  refine sS Tryd.f44 3 [0, 2, 4] [] (fun _ => [(.slice (some ⟨nb ρ3 4, 0, none⟩) (List.replicate (zeros n + 1) (0 : UInt8)).length (9 + (zeros n))), (.pointer (some ⟨nb ρ3 4, 0, none⟩)), undef]) (fun _ => [(2, { puts := [(0, nb ρ3 4, (.cells ((zB (9 + zeros n)).setIfInBounds 0 (.int .u8 128)) 5 (0, 0)))] })]) (cR [[]] <| cX (o_sem _ (fun _ => do pure (Next.value (← Instr.indexAt 56 (.slice (some ⟨nb ρ3 4, 0, none⟩) (List.replicate (zeros n + 1) (0 : UInt8)).length (9 + (zeros n))) (.int .i64 0)))) (fun _ => (.pointer (some ⟨nb ρ3 4, 0, none⟩))) (fun _ => (by kernel_rfl)) (fun _ => (by kernel_rfl)) (fun _ w => idx_row Tryd.underlying56 u8i ((show 0 = ((0 : Nat) : Int) ∧ 0 < (List.replicate (zeros n + 1) (0 : UInt8)).length from ⟨rfl, (by have := hn; have := zeros_lt n; rw [List.length_replicate]; omega)⟩)).1 ((show 0 = ((0 : Nat) : Int) ∧ 0 < (List.replicate (zeros n + 1) (0 : UInt8)).length from ⟨rfl, (by have := hn; have := zeros_lt n; rw [List.length_replicate]; omega)⟩)).2 w)) <| cX (o_st _ 0 5 (fun _ => nb ρ3 4) (fun _ => 0) (fun _ => (zB (9 + (zeros n)))) (fun _ => ((zB (9 + zeros n)).setIfInBounds 0 (.int .u8 128))) 5 (fun _ => (.int .u8 128)) (fun _ => by kernel_rfl) Tryd.sizeOf5 (fun _ => rfl) (fun _ => (by rw [zB_size]; omega)) (fun _ => rfl)) <| cN) (fun _ => ?_)
  refine ok_seq ?_
  refine sS Tryd.f44 1 [0, 2, 4, 18] [] (fun _ => [(.int .i64 0)]) (fun _ => []) (cR [[]] <| cN) (fun _ => ?_)
  refine dRs [(0, (.int .u64 ((n : Nat) : Int))), (2, (.slice none 0 0)), (4, (.slice (some ⟨nb ρ3 4, 0, none⟩) (List.replicate (zeros n + 1) (0 : UInt8)).length (9 + (zeros n)))), (18, (.int .i64 0))] [(nb ρ3 4, (.cells ((zB (9 + zeros n)).setIfInBounds 0 (.int .u8 128)) 5 (0, 0)))] ?_
  refine ok_block ?_
  refine oL (σ := Nat × (List UInt8) × (Array Value)) (fun ⟨i, X, _⟩ => [(0, (.int .u64 ((n : Nat) : Int))), (2, (.slice none 0 0)), (4, (.slice (some ⟨nb ρ3 4, 0, none⟩) (X).length (9 + zeros n))), (18, (.int .i64 ((i : Nat) : Int)))]) (fun ⟨_, _, C⟩ => [(nb ρ3 4, (.cells C 5 (0, 0)))]) (fun ⟨i, _, _⟩ => 8 - i)
    (fun ⟨i, X, C⟩ => (i ≤ 8) ∧ (X = 128 :: (List.replicate (zeros n) 0 ++ be8 (8 * n) i)) ∧ (Hd C X) ∧ (C.size = 9 + zeros n)) (0, 128 :: List.replicate (zeros n) (0 : UInt8), (zB (9 + zeros n)).setIfInBounds 0 (.int .u8 128)) (⟨by decide, by simp [be8], pad_hd0 n, by rw [Array.size_setIfInBounds, zB_size]⟩) [] ?_
  rintro ⟨i, X, C⟩ ⟨hi, hX, hC, hs⟩
  change Ok Tryd.prog _ _ 33 [(0, (.int .u64 ((n : Nat) : Int))), (2, (.slice none 0 0)), (4, (.slice (some ⟨nb ρ3 4, 0, none⟩) (X).length (9 + zeros n))), (18, (.int .i64 ((i : Nat) : Int)))] _ [(nb ρ3 4, (.cells C 5 (0, 0)))] (fun _ => True)
  refine sS Tryd.f44 1 [0, 2, 4, 18, 19] [] (fun _ => [(.bool (decide (((i : Nat) : Int) < 8)))]) (fun _ => []) (cR [[]] <| cN) (fun _ => ?_)
  refine ok_seq ?_
  refine oC (decide (((i : Nat) : Int) < 8)) (fun hb1 => ?_) (fun hb1 => ?_)
  ·
    rw [hb1]
    refine ok_skip ?_
    refine mt_then ?_
    refine ok_seq ?_
    refine ok_block ?_
    refine sS Tryd.f44 2 [0, 2, 4, 5, 18] [] (fun _ => [(.int .i64 ((i : Nat) : Int)), (.int .i64 ((i : Nat) : Int))]) (fun _ => []) (cR [[], []] <| cN) (fun _ => ?_)
    refine rS Tryd.f44 11 [0, 2, 4, 18] [1, 0] (fun ρ => [(.slice (some ⟨nb ρ3 4, 0, none⟩) (X).length (9 + zeros n)), (.int .u64 ((n : Nat) : Int)), (.int .u64 ((8 * n : Nat) : Int)), (.int .i64 ((i : Nat) : Int)), (.int .i64 ((8 * i : Nat) : Int)), (.int .i64 ((56 - 8 * i : Nat) : Int)), (.int .u64 ((8 * n / 2 ^ (56 - 8 * i) : Nat) : Int)), (.int .u8 ((8 * n / 2 ^ (56 - 8 * i) % 256 : Nat) : Int)), (.slice (some ⟨nb ρ 8, 0, none⟩) (([ob ((8 * n / 2 ^ (56 - 8 * i) % 256 : Nat) : Int)] : List UInt8)).length 1), (.slice (some ⟨nb ρ3 4, 0, none⟩) (X ++ ([ob ((8 * n / 2 ^ (56 - 8 * i) % 256 : Nat) : Int)] : List UInt8)).length (9 + zeros n)), (.slice (some ⟨nb ρ3 4, 0, none⟩) (X ++ ([ob ((8 * n / 2 ^ (56 - 8 * i) % 256 : Nat) : Int)] : List UInt8)).length (9 + zeros n))]) (fun ρ => [(8, { news := [(nb ρ 8, (.cells #[(.int .u8 ((8 * n / 2 ^ (56 - 8 * i) % 256 : Nat) : Int))] 5 (0, 0)))] }), (9, { puts := [(0, nb ρ3 4, (.cells (inpl C (X).length (bs ([ob ((8 * n / 2 ^ (56 - 8 * i) % 256 : Nat) : Int)] : List UInt8))) 5 (0, 0)))] })]) (cR [[], []] <| cA (v := fun ρ => (.int .u64 (IntKind.u64.wrap (8 * ((n : Nat) : Int))))) (fun _ => (.int .u64 ((8 * n : Nat) : Int))) (fun _ => congrArg (Value.int .u64) (u64_mulN 8 n (by have := of_decide_eq_true hb1; have := hn; have := zeros_lt n; have := hi; have := pad_len hX; omega))) <| cR [[]] <| cA (v := fun ρ => (.int .i64 (IntKind.i64.wrap (8 * ((i : Nat) : Int))))) (fun _ => (.int .i64 ((8 * i : Nat) : Int))) (fun _ => congrArg (Value.int .i64) (wrap_mulN 8 i (by have := of_decide_eq_true hb1; have := hn; have := zeros_lt n; have := hi; have := pad_len hX; omega))) <| cA (v := fun ρ => (.int .i64 (IntKind.i64.wrap (56 - ((8 * i : Nat) : Int))))) (fun _ => (.int .i64 ((56 - 8 * i : Nat) : Int))) (fun _ => congrArg (Value.int .i64) ((i64N (by have := of_decide_eq_true hb1; have := hn; have := zeros_lt n; have := hi; have := pad_len hX; omega)).trans (by have := of_decide_eq_true hb1; have := hn; have := zeros_lt n; have := hi; have := pad_len hX; omega))) <| cB (a := fun ρ => (.int .u64 ((8 * n : Nat) : Int))) (b := fun ρ => (.int .i64 ((56 - 8 * i : Nat) : Int))) (v := fun ρ => (.int .u64 ((8 * n / 2 ^ (56 - 8 * i) : Nat) : Int))) .shr 41 (fun _ w => run_shrU (k := .u64) (x := 8 * n) (c := 56 - 8 * i) (by have := of_decide_eq_true hb1; have := hn; have := zeros_lt n; have := hi; have := pad_len hX; show 8 * n < 18446744073709551616; omega) w) <| cA (fun _ => (.int .u8 ((8 * n / 2 ^ (56 - 8 * i) % 256 : Nat) : Int))) (fun _ => congrArg (Value.int .u8) (u8M (8 * n / 2 ^ (56 - 8 * i)))) <| cR [[]] <| cX (o_put1 _ 0 (fun ρ => do pure (Next.value (← Builtin.append_ #[56, 56] 56 #[(.slice (some ⟨nb ρ3 4, 0, none⟩) (X).length (9 + zeros n)), (.slice (some ⟨nb ρ 8, 0, none⟩) (([ob ((8 * n / 2 ^ (56 - 8 * i) % 256 : Nat) : Int)] : List UInt8)).length 1)]))) (fun _ => nb ρ3 4) (fun _ => (.cells C 5 (0, 0))) (fun _ => (.cells (inpl C (X).length (bs ([ob ((8 * n / 2 ^ (56 - 8 * i) % 256 : Nat) : Int)] : List UInt8))) 5 (0, 0))) (fun _ => (.slice (some ⟨nb ρ3 4, 0, none⟩) (X ++ ([ob ((8 * n / 2 ^ (56 - 8 * i) % 256 : Nat) : Int)] : List UInt8)).length (9 + zeros n))) (fun _ => (by kernel_rfl)) (fun _ => (by kernel_rfl)) (fun _ => (by kernel_rfl)) (fun _ => (by kernel_rfl)) (fun _ _ => trivial) (fun ρ _ _ hG hg => app_roomL Tryd.underlying56 u8i hg (Bs.src (tx := 56) Tryd.underlying56 (Bs.of_hd (hG.known (g := nb ρ 8) (o := (.cells #[(.int .u8 ((8 * n / 2 ^ (56 - 8 * i) % 256 : Nat) : Int))] 5 (0, 0))) 65 (by kernel_rfl) (by kernel_rfl)) (hd1 ((by omega))) (Nat.le_refl 1) (Nat.le_of_ble_eq_true rfl))) hs ((by have := of_decide_eq_true hb1; have := hn; have := zeros_lt n; have := hi; have := pad_len hX; simp only [List.length_cons, List.length_nil]; omega)))) <| cR [[]] <| cN) (fun _ => ?_)
    refine mt_block_n ?_
    refine mt_then ?_
    refine rS Tryd.f44 2 [0, 2, 4, 18] [] (fun _ => [(.int .i64 ((i + 1 : Nat) : Int)), (.int .i64 ((i + 1 : Nat) : Int))]) (fun _ => []) (cA (v := fun ρ => (.int .i64 (IntKind.i64.wrap (((i : Nat) : Int) + 1)))) (fun _ => (.int .i64 ((i + 1 : Nat) : Int))) (fun _ => congrArg (Value.int .i64) (wrap_addN i 1 (by have := of_decide_eq_true hb1; have := hn; have := zeros_lt n; have := hi; have := pad_len hX; omega))) <| cR [[]] <| cN) (fun _ => ?_)
    exact mN (i + 1, X ++ ([ob ((8 * n / 2 ^ (56 - 8 * i) % 256 : Nat) : Int)] : List UInt8), inpl C (X).length (bs ([ob ((8 * n / 2 ^ (56 - 8 * i) % 256 : Nat) : Int)] : List UInt8))) (by show 8 - (i + 1) < 8 - i; have := of_decide_eq_true hb1; have := hn; have := zeros_lt n; have := hi; have := pad_len hX; omega) (⟨(by have := of_decide_eq_true hb1; have := hn; have := zeros_lt n; have := hi; have := pad_len hX; omega), pad_next hX, (Hd.inpl hC rfl), ((inpl_size _ _ _ (room_le hs ((by have := of_decide_eq_true hb1; have := hn; have := zeros_lt n; have := hi; have := pad_len hX; simp only [List.length_cons, List.length_nil]; omega)))).trans hs)⟩) []
  ·
    rw [hb1]
    refine ok_exit ?_
    refine mt_then_e ?_
    refine mt_then_e ?_
    refine mt_block_h ?_
    refine mt_then ?_
    refine sS Tryd.f44 2 [2] [] (fun _ => [(.slice (some ⟨nb ρ3 4, 0, none⟩) (X).length (9 + zeros n)), (.slice (some ⟨nb ρ3 4, 0, none⟩) (X).length (9 + zeros n))]) (fun _ => []) (cR [[], []] <| cN) (fun _ => ?_)
    refine ok_ret ?_
    refine mD [(2, (.slice (some ⟨nb ρ3 4, 0, none⟩) (X).length (9 + zeros n)))] [(nb ρ3 4, (.cells C 5 (0, 0)))] ?_
    exact mR (v := (.slice (some ⟨nb ρ3 4, 0, none⟩) (X).length (9 + zeros n))) (fun _ hS => ⟨(some ⟨nb ρ3 4, 0, none⟩), 9 + zeros n, congrArg Ending.returned (by rw [(pad_end hX (by have := of_decide_eq_false hb1; have := hn; have := zeros_lt n; have := hi; have := pad_len hX; omega))]), hS.bel, fs_eq ((pad_end hX (by have := of_decide_eq_false hb1; have := hn; have := zeros_lt n; have := hi; have := pad_len hX; omega))) (hS.fresh (.head _) hC (by have := hn; have := zeros_lt n; have := hi; have := pad_len hX; omega) (by have := hn; have := zeros_lt n; have := hi; have := pad_len hX; omega))⟩)

theorem shrow_any (g : Nat) (n : Nat) (pa : Nat → Option Addr) (pc : Nat → Nat) (pB : Nat → List UInt8) (hn : n ≤ 16) (hl : (catB pB n).length ≤ 140737488351232) (h0 : 0 < (pB 0).length) (w0 : World) (hf0 : Kb w0 g (rowS n pa pc pB)) (hf1 : AllB w0 n pa pc pB) : Calls Tryd.prog 36 #[(.slice (some ⟨g, 0, none⟩) n n)] w0 (fun ε w' => ∃ α κ, ε = .returned (.slice α (catB pB n).length κ) ∧ Below w0.heap.size w0 w' ∧ Fs w0 w' α κ (catB pB n)) := by
  refine Calls.of_ok (n := 17) (F := (fun w => Kb w g (rowS n pa pc pB) ∧ AllB w n pa pc pB ∧ True)) Tryd.func36 rfl rfl rfl (by simp) (hf0.pers0.and (hf1.pers0.and persT)) ?_
  refine sS Tryd.f36 1 [0, 2] [] (fun _ => [(.slice none 0 0)]) (fun _ => []) (cR [[]] <| cN) (fun _ => ?_)
  refine sS Tryd.f36 1 [0, 2, 3] [] (fun _ => [(.slice none 0 0)]) (fun _ => []) (cR [[]] <| cN) (fun _ => ?_)
  refine ok_seq ?_
  refine sS Tryd.f36 3 [2, 3, 6, 7, 8] [] (fun _ => [(.slice (some ⟨g, 0, none⟩) n n), (.int .i64 ((n : Nat) : Int)), (.int .i64 0)]) (fun _ => []) (cR [[], [], []] <| cN) (fun _ => ?_)
  refine ok_block ?_
  refine oL (σ := (Nat) ⊕ (Nat × Nat × (List UInt8) × (Array Value) × Nat)) (fun s => match s with | Sum.inl i => [(2, (.slice none 0 0)), (3, (.slice none 0 0)), (6, (.slice (some ⟨g, 0, none⟩) n n)), (7, (.int .i64 ((n : Nat) : Int))), (8, (.int .i64 ((i : Nat) : Int)))] | Sum.inr ⟨i, q, X, _, κ⟩ => [(2, (.slice none 0 0)), (3, (.slice (some ⟨q, 0, none⟩) (X).length κ)), (6, (.slice (some ⟨g, 0, none⟩) n n)), (7, (.int .i64 ((n : Nat) : Int))), (8, (.int .i64 ((i : Nat) : Int)))]) (fun s => match s with | Sum.inl _ => [] | Sum.inr ⟨_, q, _, C, _⟩ => [(q, (.cells C 5 (0, 0)))]) (fun s => match s with | Sum.inl i => n - i | Sum.inr ⟨i, _, _, _, _⟩ => n - i)
    (fun s => match s with | Sum.inl i => (i ≤ n) ∧ (i = 0) | Sum.inr ⟨i, _, X, C, κ⟩ => (i ≤ n) ∧ (X = catB pB i) ∧ (Hd C X) ∧ (C.size = κ) ∧ (X.length ≤ κ)) (Sum.inl 0) (⟨Nat.zero_le _, rfl⟩) [] ?_
  rintro (i | ⟨i, q, X, C, κ⟩)
  ·
    rintro ⟨hi, h0i⟩
    change Ok Tryd.prog _ _ 17 [(2, (.slice none 0 0)), (3, (.slice none 0 0)), (6, (.slice (some ⟨g, 0, none⟩) n n)), (7, (.int .i64 ((n : Nat) : Int))), (8, (.int .i64 ((i : Nat) : Int)))] _ [] (fun w => Kb w g (rowS n pa pc pB) ∧ AllB w n pa pc pB ∧ True)
    refine sS Tryd.f36 1 [2, 3, 6, 7, 8, 9] [] (fun _ => [(.bool (decide (((i : Nat) : Int) < ((n : Nat) : Int))))]) (fun _ => []) (cR [[]] <| cN) (fun _ => ?_)
    refine ok_seq ?_
    refine oC (decide (((i : Nat) : Int) < ((n : Nat) : Int))) (fun hb1 => ?_) (fun hb1 => ?_)
    ·
      rw [hb1]
      refine ok_skip ?_
      refine mt_then ?_
      refine ok_seq ?_
      refine ok_block ?_
      refine sS Tryd.f36 3 [2, 3, 5, 6, 7, 8] [] (fun _ => [(.pointer (some ⟨g, i, none⟩)), (.slice (pa i) (pB i).length (pc i)), (.slice (pa i) (pB i).length (pc i))]) (fun _ => []) (cX (o_sem _ (fun _ => do pure (Next.value (← Instr.indexAt 76 (.slice (some ⟨g, 0, none⟩) n n) (.int .i64 ((i : Nat) : Int))))) (fun _ => (.pointer (some ⟨g, i, none⟩))) (fun _ => (by kernel_rfl)) (fun _ => (by kernel_rfl)) (fun _ w => idx_rowS Tryd.underlying76 Tryd.sizeOf56 ((show ((i : Nat) : Int) = ((i : Nat) : Int) ∧ i < n from ⟨rfl, (by have := of_decide_eq_true hb1; have := hl; have := hn; have := hi; have := h0i; omega)⟩)).1 ((show ((i : Nat) : Int) = ((i : Nat) : Int) ∧ i < n from ⟨rfl, (by have := of_decide_eq_true hb1; have := hl; have := hn; have := hi; have := h0i; omega)⟩)).2 w)) <| cX (o_semF _ (fun _ => do pure (Next.value (← Instr.loadAt 56 (.pointer (some ⟨g, i, none⟩))))) (fun _ => (.slice (pa i) (pB i).length (pc i))) (fun _ => (by kernel_rfl)) (fun _ => (by kernel_rfl)) (fun _ _ _ hG => ld_blk Tryd.isAgg56 (hG.facts0.now.1) (rowS_get (by have := of_decide_eq_true hb1; have := hl; have := hn; have := hi; have := h0i; omega))) (fun _ _ _ _ => persT)) <| cR [[]] <| cN) (fun _ => ?_)
      refine rS Tryd.f36 4 [2, 3, 6, 7, 8] [] (fun ρ => [(.slice none 0 0), (.slice (pa i) (pB i).length (pc i)), (.slice (some ⟨nb ρ 2, 0, none⟩) (pB i).length ((pB i).length + nb2 ρ 2)), (.slice (some ⟨nb ρ 2, 0, none⟩) (pB i).length ((pB i).length + nb2 ρ 2))]) (fun ρ => [(2, { news := [(nb ρ 2, (.cells ((bs (pB i)).toArray ++ zB (nb2 ρ 2)) 5 (0, 0)))] })]) (cR [[], []] <| cX (o_new1 _ (fun _ => do pure (Next.value (← Builtin.append_ #[56, 56] 56 #[(.slice none 0 0), (.slice (pa i) (pB i).length (pc i))]))) (fun _ z => (.slice (some ⟨z.headD 0, 0, none⟩) (pB i).length ((pB i).length + z.tail.headD 0))) (fun _ z => (.cells ((bs (pB i)).toArray ++ zB (z.tail.headD 0)) 5 (0, 0))) (fun _ _ => (by kernel_rfl)) (fun _ => (by kernel_rfl)) (fun _ _ => trivial) (fun _ _ _ hG => app_nilL Tryd.underlying56 u8i (Bs.src (tx := 56) Tryd.underlying56 (hG.facts0.now.2.1 i (by have := of_decide_eq_true hb1; have := hl; have := hn; have := hi; have := h0i; omega))) ((by rw [h0i]; exact h0)) ((by have h1 := (catB_next pB (show i < n by have := of_decide_eq_true hb1; have := hl; have := hn; have := hi; have := h0i; omega)); have := hl; omega)))) <| cR [[]] <| cN) (fun ρ6 => ?_)
      refine mt_block_n ?_
      refine mt_then ?_
      refine rS Tryd.f36 2 [2, 3, 6, 7, 8] [] (fun _ => [(.int .i64 ((i + 1 : Nat) : Int)), (.int .i64 ((i + 1 : Nat) : Int))]) (fun _ => []) (cA (v := fun ρ => (.int .i64 (IntKind.i64.wrap (((i : Nat) : Int) + 1)))) (fun _ => (.int .i64 ((i + 1 : Nat) : Int))) (fun _ => congrArg (Value.int .i64) (wrap_addN i 1 (by have := of_decide_eq_true hb1; have := hl; have := hn; have := hi; have := h0i; omega))) <| cR [[]] <| cN) (fun _ => ?_)
      exact mN (Sum.inr (i + 1, nb ρ6 2, pB i, (bs (pB i)).toArray ++ zB (nb2 ρ6 2), (pB i).length + nb2 ρ6 2)) (by show n - (i + 1) < n - i; have := of_decide_eq_true hb1; have := hl; have := hn; have := hi; have := h0i; omega) (⟨(by have := of_decide_eq_true hb1; have := hl; have := hn; have := hi; have := h0i; omega), (by rw [h0i]; rfl), (Hd.fresh _ _), (fresh_size _ _), (Nat.le_add_right _ _)⟩) []
    ·
      rw [hb1]
      refine ok_exit ?_
      refine mt_then_e ?_
      refine mt_then_e ?_
      refine mt_block_h ?_
      refine mt_then ?_
      refine sS Tryd.f36 2 [2] [] (fun _ => [(.slice none 0 0), (.slice none 0 0)]) (fun _ => []) (cR [[], []] <| cN) (fun _ => ?_)
      refine ok_ret ?_
      refine mD [(2, (.slice none 0 0))] [] ?_
      exact mR (v := (.slice none 0 0)) (fun _ hS => ⟨none, 0, congrArg Ending.returned (by rw [← (show ([] : List UInt8) = catB pB n by rw [show n = 0 by have := of_decide_eq_false hb1; have := hl; have := hn; have := hi; have := h0i; omega]; rfl)]; rfl), hS.bel, fs_eq ((show ([] : List UInt8) = catB pB n by rw [show n = 0 by have := of_decide_eq_false hb1; have := hl; have := hn; have := hi; have := h0i; omega]; rfl)) Fs.nil⟩)
  ·
    rintro ⟨hi, hX, hC, hs, hle⟩
    change Ok Tryd.prog _ _ 17 [(2, (.slice none 0 0)), (3, (.slice (some ⟨q, 0, none⟩) (X).length κ)), (6, (.slice (some ⟨g, 0, none⟩) n n)), (7, (.int .i64 ((n : Nat) : Int))), (8, (.int .i64 ((i : Nat) : Int)))] _ [(q, (.cells C 5 (0, 0)))] (fun w => Kb w g (rowS n pa pc pB) ∧ AllB w n pa pc pB ∧ True)
    refine sS Tryd.f36 1 [2, 3, 6, 7, 8, 9] [] (fun _ => [(.bool (decide (((i : Nat) : Int) < ((n : Nat) : Int))))]) (fun _ => []) (cR [[]] <| cN) (fun _ => ?_)
    refine ok_seq ?_
    refine oC (decide (((i : Nat) : Int) < ((n : Nat) : Int))) (fun hb2 => ?_) (fun hb2 => ?_)
    ·
      rw [hb2]
      refine ok_skip ?_
      refine mt_then ?_
      refine ok_seq ?_
      refine ok_block ?_
      refine sS Tryd.f36 3 [2, 3, 5, 6, 7, 8] [] (fun _ => [(.pointer (some ⟨g, i, none⟩)), (.slice (pa i) (pB i).length (pc i)), (.slice (pa i) (pB i).length (pc i))]) (fun _ => []) (cX (o_sem _ (fun _ => do pure (Next.value (← Instr.indexAt 76 (.slice (some ⟨g, 0, none⟩) n n) (.int .i64 ((i : Nat) : Int))))) (fun _ => (.pointer (some ⟨g, i, none⟩))) (fun _ => (by kernel_rfl)) (fun _ => (by kernel_rfl)) (fun _ w => idx_rowS Tryd.underlying76 Tryd.sizeOf56 ((show ((i : Nat) : Int) = ((i : Nat) : Int) ∧ i < n from ⟨rfl, (by have := of_decide_eq_true hb2; have := hl; have := hn; have := hi; omega)⟩)).1 ((show ((i : Nat) : Int) = ((i : Nat) : Int) ∧ i < n from ⟨rfl, (by have := of_decide_eq_true hb2; have := hl; have := hn; have := hi; omega)⟩)).2 w)) <| cX (o_semF _ (fun _ => do pure (Next.value (← Instr.loadAt 56 (.pointer (some ⟨g, i, none⟩))))) (fun _ => (.slice (pa i) (pB i).length (pc i))) (fun _ => (by kernel_rfl)) (fun _ => (by kernel_rfl)) (fun _ _ _ hG => ld_blk Tryd.isAgg56 (hG.facts0.now.1) (rowS_get (by have := of_decide_eq_true hb2; have := hl; have := hn; have := hi; omega))) (fun _ _ _ _ => persT)) <| cR [[]] <| cN) (fun _ => ?_)
      rcases Bool.eq_false_or_eq_true (decide ((X).length + (pB i).length ≤ κ)) with hb3 | hb3
      ·
        refine rS Tryd.f36 4 [2, 3, 6, 7, 8] [] (fun _ => [(.slice (some ⟨q, 0, none⟩) (X).length κ), (.slice (pa i) (pB i).length (pc i)), (.slice (some ⟨q, 0, none⟩) (X ++ (pB i)).length κ), (.slice (some ⟨q, 0, none⟩) (X ++ (pB i)).length κ)]) (fun _ => [(2, { puts := [(0, q, (.cells (inpl C (X).length (bs (pB i))) 5 (0, 0)))] })]) (cR [[], []] <| cX (o_put1 _ 0 (fun _ => do pure (Next.value (← Builtin.append_ #[56, 56] 56 #[(.slice (some ⟨q, 0, none⟩) (X).length κ), (.slice (pa i) (pB i).length (pc i))]))) (fun _ => q) (fun _ => (.cells C 5 (0, 0))) (fun _ => (.cells (inpl C (X).length (bs (pB i))) 5 (0, 0))) (fun _ => (.slice (some ⟨q, 0, none⟩) (X ++ (pB i)).length κ)) (fun _ => (by kernel_rfl)) (fun _ => (by kernel_rfl)) (fun _ => (by kernel_rfl)) (fun _ => (by kernel_rfl)) (fun _ _ => trivial) (fun _ _ _ hG hg => app_roomL Tryd.underlying56 u8i hg (Bs.src (tx := 56) Tryd.underlying56 (hG.facts0.now.2.1 i (by have := of_decide_eq_true hb2; have := of_decide_eq_true hb3; have := hl; have := hn; have := hi; omega))) hs (of_decide_eq_true hb3))) <| cR [[]] <| cN) (fun _ => ?_)
        refine mt_block_n ?_
        refine mt_then ?_
        refine rS Tryd.f36 2 [2, 3, 6, 7, 8] [] (fun _ => [(.int .i64 ((i + 1 : Nat) : Int)), (.int .i64 ((i + 1 : Nat) : Int))]) (fun _ => []) (cA (v := fun ρ => (.int .i64 (IntKind.i64.wrap (((i : Nat) : Int) + 1)))) (fun _ => (.int .i64 ((i + 1 : Nat) : Int))) (fun _ => congrArg (Value.int .i64) (wrap_addN i 1 (by have := of_decide_eq_true hb2; have := of_decide_eq_true hb3; have := hl; have := hn; have := hi; omega))) <| cR [[]] <| cN) (fun _ => ?_)
        exact mN (Sum.inr (i + 1, q, X ++ (pB i), inpl C (X).length (bs (pB i)), κ)) (by show n - (i + 1) < n - i; have := of_decide_eq_true hb2; have := of_decide_eq_true hb3; have := hl; have := hn; have := hi; omega) (⟨(by have := of_decide_eq_true hb2; have := of_decide_eq_true hb3; have := hl; have := hn; have := hi; omega), (by rw [hX]; rfl), (Hd.inpl hC rfl), ((inpl_size _ _ _ (room_le hs (of_decide_eq_true hb3))).trans hs), (len_app (of_decide_eq_true hb3))⟩) []
      ·
        refine rS Tryd.f36 4 [2, 3, 6, 7, 8] [0, 1] (fun ρ => [(.slice (some ⟨q, 0, none⟩) (X).length κ), (.slice (pa i) (pB i).length (pc i)), (.slice (some ⟨nb ρ 2, 0, none⟩) (X ++ (pB i)).length ((X ++ (pB i)).length + nb2 ρ 2)), (.slice (some ⟨nb ρ 2, 0, none⟩) (X ++ (pB i)).length ((X ++ (pB i)).length + nb2 ρ 2))]) (fun ρ => [(2, { news := [(nb ρ 2, (.cells (grow C (X).length (bs (pB i)) (nb2 ρ 2)) 5 (0, 0)))] })]) (cR [[], []] <| cX (o_new1 _ (fun _ => do pure (Next.value (← Builtin.append_ #[56, 56] 56 #[(.slice (some ⟨q, 0, none⟩) (X).length κ), (.slice (pa i) (pB i).length (pc i))]))) (fun _ z => (.slice (some ⟨z.headD 0, 0, none⟩) (X ++ (pB i)).length ((X ++ (pB i)).length + z.tail.headD 0))) (fun _ z => (.cells (grow C (X).length (bs (pB i)) (z.tail.headD 0)) 5 (0, 0))) (fun _ _ => (by kernel_rfl)) (fun _ => (by kernel_rfl)) (fun _ _ => trivial) (fun _ _ _ hG => app_growL Tryd.underlying56 u8i (hG.known (g := q) (o := (.cells C 5 (0, 0))) 0 (by kernel_rfl) (by kernel_rfl)) (Bs.src (tx := 56) Tryd.underlying56 (hG.facts0.now.2.1 i (by have := of_decide_eq_true hb2; have := of_decide_eq_false hb3; have := hl; have := hn; have := hi; omega))) hs hle (Nat.lt_of_not_le (of_decide_eq_false hb3)) ((by have h1 := (catB_next pB (show i < n by have := of_decide_eq_true hb2; have := of_decide_eq_false hb3; have := hl; have := hn; have := hi; omega)); rw [← hX] at h1; exact Nat.le_trans h1 hl)))) <| cR [[]] <| cN) (fun ρ13 => ?_)
        refine mt_block_n ?_
        refine mt_then ?_
        refine rS Tryd.f36 2 [2, 3, 6, 7, 8] [] (fun _ => [(.int .i64 ((i + 1 : Nat) : Int)), (.int .i64 ((i + 1 : Nat) : Int))]) (fun _ => []) (cA (v := fun ρ => (.int .i64 (IntKind.i64.wrap (((i : Nat) : Int) + 1)))) (fun _ => (.int .i64 ((i + 1 : Nat) : Int))) (fun _ => congrArg (Value.int .i64) (wrap_addN i 1 (by have := of_decide_eq_true hb2; have := of_decide_eq_false hb3; have := hl; have := hn; have := hi; omega))) <| cR [[]] <| cN) (fun _ => ?_)
        exact mN (Sum.inr (i + 1, nb ρ13 2, X ++ (pB i), grow C (X).length (bs (pB i)) (nb2 ρ13 2), (X ++ (pB i)).length + nb2 ρ13 2)) (by show n - (i + 1) < n - i; have := of_decide_eq_true hb2; have := of_decide_eq_false hb3; have := hl; have := hn; have := hi; omega) (⟨(by have := of_decide_eq_true hb2; have := of_decide_eq_false hb3; have := hl; have := hn; have := hi; omega), (by rw [hX]; rfl), (Hd.grow hC rfl), (grow_sizeL hC), (Nat.le_add_right _ _)⟩) []
    ·
      rw [hb2]
      refine ok_exit ?_
      refine mt_then_e ?_
      refine mt_then_e ?_
      refine mt_block_h ?_
      refine mt_then ?_
      refine sS Tryd.f36 2 [2] [] (fun _ => [(.slice (some ⟨q, 0, none⟩) (X).length κ), (.slice (some ⟨q, 0, none⟩) (X).length κ)]) (fun _ => []) (cR [[], []] <| cN) (fun _ => ?_)
      refine ok_ret ?_
      refine mD [(2, (.slice (some ⟨q, 0, none⟩) (X).length κ))] [(q, (.cells C 5 (0, 0)))] ?_
      exact mR (v := (.slice (some ⟨q, 0, none⟩) (X).length κ)) (fun _ hS => ⟨(some ⟨q, 0, none⟩), κ, congrArg Ending.returned (by rw [← (show X = catB pB n from hX.trans (by rw [show i = n by have := of_decide_eq_false hb2; have := hl; have := hn; have := hi; omega]))]), hS.bel, fs_eq ((show X = catB pB n from hX.trans (by rw [show i = n by have := of_decide_eq_false hb2; have := hl; have := hn; have := hi; omega]))) (hS.fresh (.head _) hC hle (by rw [hX]; exact Nat.le_trans (catB_le pB hi) hl))⟩)
theorem shrow2_any (g : Nat) (a0 : Option Addr) (c0 : Nat) (B0 : List UInt8) (a1 : Option Addr) (c1 : Nat) (B1 : List UInt8) (hl : B0.length + B1.length ≤ 140737488351232) (h0 : 0 < B0.length) (w0 : World) (hf0 : Kb w0 g #[.slice a0 B0.length c0, .slice a1 B1.length c1]) (hf1 : Bs w0 a0 c0 B0) (hf2 : Bs w0 a1 c1 B1) : Calls Tryd.prog 36 #[.slice (some ⟨g, 0, none⟩) 2 2] w0 (fun ε w' => ∃ α κ, ε = .returned (.slice α (B0 ++ B1).length κ) ∧ Below w0.heap.size w0 w' ∧ Fs w0 w' α κ (B0 ++ B1)) := shrow_any g 2 (fun k => [a0, a1].getD k none) (fun k => [c0, c1].getD k 0) (fun k => [B0, B1].getD k []) (by decide) (by show (([] ++ B0) ++ B1).length ≤ _; simp only [List.length_append, List.length_nil]; omega) h0 w0 hf0 (allB2 hf1 hf2)
theorem shrow3_any (g : Nat) (a0 : Option Addr) (c0 : Nat) (B0 : List UInt8) (a1 : Option Addr) (c1 : Nat) (B1 : List UInt8) (a2 : Option Addr) (c2 : Nat) (B2 : List UInt8) (hl : B0.length + B1.length + B2.length ≤ 140737488351232) (h0 : 0 < B0.length) (w0 : World) (hf0 : Kb w0 g #[.slice a0 B0.length c0, .slice a1 B1.length c1, .slice a2 B2.length c2]) (hf1 : Bs w0 a0 c0 B0) (hf2 : Bs w0 a1 c1 B1) (hf3 : Bs w0 a2 c2 B2) : Calls Tryd.prog 36 #[.slice (some ⟨g, 0, none⟩) 3 3] w0 (fun ε w' => ∃ α κ, ε = .returned (.slice α ((B0 ++ B1) ++ B2).length κ) ∧ Below w0.heap.size w0 w' ∧ Fs w0 w' α κ ((B0 ++ B1) ++ B2)) := shrow_any g 3 (fun k => [a0, a1, a2].getD k none) (fun k => [c0, c1, c2].getD k 0) (fun k => [B0, B1, B2].getD k []) (by decide) (by show ((([] ++ B0) ++ B1) ++ B2).length ≤ _; simp only [List.length_append, List.length_nil]; omega) h0 w0 hf0 (allB3 hf1 hf2 hf3)
end Go.Proofs.YtlkbhiaoolddmaaDoor

/-! SHA-256: rotations, the schedule: the walks. -/
namespace Go.Proofs.YtlkbhiaoolddmaaDoor
open Go Go.RowKit

theorem rotl_any (x : Nat) (n : Nat) (hx : x < 4294967296) (hn : 0 < n ∧ n < 32) (w0 : World) : Calls Tryd.prog 66 #[(.int .u32 ((x : Nat) : Int)), (.int .i64 (0 - ((n : Nat) : Int)))] w0 (fun ε w' => ε = .returned (.int .u32 ((rot32 x n : Nat) : Int)) ∧ Below w0.heap.size w0 w') := by
  refine Calls.of_ok (n := 17) (F := (fun _ => True)) Tryd.func66 rfl rfl rfl (by simp) (persTrue (fun _ => trivial)) ?_
  refine sS Tryd.f66 1 [0, 1, 4] [] (fun _ => [(.int .u32 0)]) (fun _ => []) (cR [[]] <| cN) (fun _ => ?_)
  refine sS Tryd.f66 4 [0, 4, 5] [] (fun _ => [(.int .i64 (0 - ((n : Nat) : Int))), (.int .u64 ((18446744073709551616 - n : Nat) : Int)), (.int .u64 ((32 - n : Nat) : Int)), (.int .u64 ((32 - n : Nat) : Int))]) (fun _ => []) (cR [[]] <| cA (fun _ => (.int .u64 ((18446744073709551616 - n : Nat) : Int))) (fun _ => congrArg (Value.int .u64) (u64_neg hn.1 hn.2)) <| cA (fun _ => (.int .u64 ((32 - n : Nat) : Int))) (fun _ => congrArg (Value.int .u64) (and31 hn.1 hn.2)) <| cR [[]] <| cN) (fun _ => ?_)
  refine sS Tryd.f66 9 [4] [] (fun _ => [(.int .u32 ((x : Nat) : Int)), (.int .u64 ((32 - n : Nat) : Int)), (.int .u32 ((x * 2 ^ (32 - n) % 4294967296 : Nat) : Int)), (.int .u32 ((x : Nat) : Int)), (.int .u64 ((32 - n : Nat) : Int)), (.int .u64 ((n : Nat) : Int)), (.int .u32 ((x / 2 ^ n : Nat) : Int)), (.int .u32 ((rot32 x n : Nat) : Int)), (.int .u32 ((rot32 x n : Nat) : Int))]) (fun _ => []) (cR [[], []] <| cB (a := fun ρ => (.int .u32 ((x : Nat) : Int))) (b := fun ρ => (.int .u64 ((32 - n : Nat) : Int))) (v := fun ρ => (.int .u32 ((x * 2 ^ (32 - n) % 4294967296 : Nat) : Int))) .shl 34 (fun _ w => run_shlM (by omega) w) <| cR [[], []] <| cA (fun _ => (.int .u64 ((n : Nat) : Int))) (fun _ => congrArg (Value.int .u64) (u64_32 hn.1 hn.2)) <| cB (a := fun ρ => (.int .u32 ((x : Nat) : Int))) (b := fun ρ => (.int .u64 ((n : Nat) : Int))) (v := fun ρ => (.int .u32 ((x / 2 ^ n : Nat) : Int))) .shr 34 (fun _ w => run_shrU (k := .u32) hx w) <| cA (fun _ => (.int .u32 ((rot32 x n : Nat) : Int))) (fun _ => congrArg (Value.int .u32) (or_rot hx)) <| cR [[]] <| cN) (fun _ => ?_)
  refine ok_ret ?_
  exact mR (v := (.int .u32 ((rot32 x n : Nat) : Int))) (fun _ hS => ⟨rfl, hS.bel⟩)

theorem rotr_any (x : Nat) (n : Nat) (hx : x < 4294967296) (hn : 0 < n ∧ n < 32) (w0 : World) : Calls Tryd.prog 55 #[(.int .u32 ((x : Nat) : Int)), (.int .i64 ((n : Nat) : Int))] w0 (fun ε w' => ε = .returned (.int .u32 ((rot32 x n : Nat) : Int)) ∧ Below w0.heap.size w0 w') := by
  refine Calls.of_ok (n := 9) (F := (fun _ => True)) Tryd.func55 rfl rfl rfl (by simp) (persTrue (fun _ => trivial)) ?_
  refine sS Tryd.f55 1 [0, 1, 4] [] (fun _ => [(.int .u32 0)]) (fun _ => []) (cR [[]] <| cN) (fun _ => ?_)
  refine sS Tryd.f55 5 [4] [] (fun _ => [(.int .u32 ((x : Nat) : Int)), (.int .i64 ((n : Nat) : Int)), (.int .i64 (0 - ((n : Nat) : Int))), (.int .u32 ((rot32 x n : Nat) : Int)), (.int .u32 ((rot32 x n : Nat) : Int))]) (fun _ => []) (cR [[], []] <| cA (v := fun ρ => (.int .i64 (IntKind.i64.wrap (0 - ((n : Nat) : Int))))) (fun _ => (.int .i64 (0 - ((n : Nat) : Int)))) (fun _ => congrArg (Value.int .i64) (i64N (by have := hn; omega))) <| cC (fun _ w => rotl_any x n hx hn w) <| cR [[]] <| cN) (fun _ => ?_)
  refine ok_ret ?_
  exact mR (v := (.int .u32 ((rot32 x n : Nat) : Int))) (fun _ hS => ⟨rfl, hS.bel⟩)
theorem zrow_sc (X : List UInt8) : rowK .u32 64 (fun _ => 0) = rowK .u32 64 (sc X 0 0) := rowK_congr fun m _ => (sc_zero X m).symm

theorem sched_any (X : List UInt8) (hX : X.length = 64) (w0 : World) : Calls Tryd.prog 54 #[(.agg ((bs X).toArray))] w0 (fun ε w' => ε = .returned (.agg (rowK .u32 64 (wN X))) ∧ Below w0.heap.size w0 w') := by
  refine Calls.of_ok (n := 85) (F := (fun _ => True)) Tryd.func54 rfl rfl rfl (by simp) (persTrue (fun _ => trivial)) ?_
  refine sS Tryd.f54 2 [1, 2] [] (fun ρ => [(pt (nb ρ 0)), (pt (nb ρ 1))]) (fun ρ => [(0, { news := [(nb ρ 0, (.cells ((bs X).toArray) 75 (0, 0)))] }), (1, { news := [(nb ρ 1, (.cells (rowK .u32 64 (fun _ => 0)) 78 (0, 0)))] })]) (cR [[], []] <| cN) (fun ρ1 => ?_)
  refine sS Tryd.f54 1 [1, 2, 3] [] (fun ρ => [(pt (nb ρ 0))]) (fun ρ => [(0, { news := [(nb ρ 0, (.cells (rowK .u32 64 (fun _ => 0)) 78 (0, 0)))] })]) (cR [[]] <| cN) (fun ρ2 => ?_)
  refine ok_seq ?_
  refine sS Tryd.f54 1 [1, 2, 3, 9] [] (fun _ => [(.int .i64 0)]) (fun _ => []) (cR [[]] <| cN) (fun _ => ?_)
  refine ok_block ?_
  refine oL (σ := Nat × (Array Value)) (fun ⟨i, _⟩ => [(1, (pt (nb ρ1 0))), (2, (pt (nb ρ1 1))), (3, (pt (nb ρ2 0))), (9, (.int .i64 ((i : Nat) : Int)))]) (fun ⟨_, C⟩ => [(nb ρ1 0, (.cells ((bs X).toArray) 75 (0, 0))), (nb ρ1 1, (.cells (rowK .u32 64 (fun _ => 0)) 78 (0, 0))), (nb ρ2 0, (.cells C 78 (0, 0)))]) (fun ⟨i, _⟩ => 16 - i)
    (fun ⟨i, C⟩ => (i ≤ 16) ∧ (C = rowK .u32 64 (sc X i 0))) (0, rowK .u32 64 (fun _ => 0)) (⟨by decide, zrow_sc X⟩) [] ?_
  rintro ⟨i, C⟩ ⟨hi, hC⟩
  change Ok Tryd.prog _ _ 85 [(1, (pt (nb ρ1 0))), (2, (pt (nb ρ1 1))), (3, (pt (nb ρ2 0))), (9, (.int .i64 ((i : Nat) : Int)))] _ [(nb ρ1 0, (.cells ((bs X).toArray) 75 (0, 0))), (nb ρ1 1, (.cells (rowK .u32 64 (fun _ => 0)) 78 (0, 0))), (nb ρ2 0, (.cells C 78 (0, 0)))] (fun _ => True)
  refine sS Tryd.f54 1 [1, 2, 3, 9, 10] [] (fun _ => [(.bool (decide (((i : Nat) : Int) < 16)))]) (fun _ => []) (cR [[]] <| cN) (fun _ => ?_)
  refine ok_seq ?_
  refine oC (decide (((i : Nat) : Int) < 16)) (fun hb1 => ?_) (fun hb1 => ?_)
  ·
    rw [hb1]
    refine ok_skip ?_
    refine mt_then ?_
    refine ok_seq ?_
    refine ok_block ?_
    refine sS Tryd.f54 2 [1, 2, 3, 4, 9] [] (fun _ => [(.int .i64 ((i : Nat) : Int)), (.int .i64 ((i : Nat) : Int))]) (fun _ => []) (cR [[], []] <| cN) (fun _ => ?_)
    refine sS Tryd.f54 1 [1, 2, 3, 4, 9, 12] [] (fun _ => [(.int .i64 0)]) (fun _ => []) (cR [[]] <| cN) (fun _ => ?_)
    refine ok_block ?_
    refine oL (σ := Nat × (Array Value)) (fun ⟨j, _⟩ => [(1, (pt (nb ρ1 0))), (2, (pt (nb ρ1 1))), (3, (pt (nb ρ2 0))), (4, (.int .i64 ((i : Nat) : Int))), (9, (.int .i64 ((i : Nat) : Int))), (12, (.int .i64 ((j : Nat) : Int)))]) (fun ⟨_, C2⟩ => [(nb ρ1 0, (.cells ((bs X).toArray) 75 (0, 0))), (nb ρ1 1, (.cells (rowK .u32 64 (fun _ => 0)) 78 (0, 0))), (nb ρ2 0, (.cells C2 78 (0, 0)))]) (fun ⟨j, _⟩ => 4 - j)
      (fun ⟨j, C2⟩ => (j ≤ 4) ∧ (C2 = rowK .u32 64 (sc X i j))) (0, C) (⟨by decide, hC⟩) [] ?_
    rintro ⟨j, C2⟩ ⟨hj, hC2⟩
    change Ok Tryd.prog _ _ 85 [(1, (pt (nb ρ1 0))), (2, (pt (nb ρ1 1))), (3, (pt (nb ρ2 0))), (4, (.int .i64 ((i : Nat) : Int))), (9, (.int .i64 ((i : Nat) : Int))), (12, (.int .i64 ((j : Nat) : Int)))] _ [(nb ρ1 0, (.cells ((bs X).toArray) 75 (0, 0))), (nb ρ1 1, (.cells (rowK .u32 64 (fun _ => 0)) 78 (0, 0))), (nb ρ2 0, (.cells C2 78 (0, 0)))] (fun _ => True)
    refine sS Tryd.f54 1 [1, 2, 3, 4, 9, 12, 13] [] (fun _ => [(.bool (decide (((j : Nat) : Int) < 4)))]) (fun _ => []) (cR [[]] <| cN) (fun _ => ?_)
    refine ok_seq ?_
    refine oC (decide (((j : Nat) : Int) < 4)) (fun hb2 => ?_) (fun hb2 => ?_)
    ·
      rw [hb2]
      refine ok_skip ?_
      refine mt_then ?_
      refine ok_seq ?_
      refine ok_block ?_
      refine sS Tryd.f54 2 [1, 2, 3, 4, 5, 9, 12] [] (fun _ => [(.int .i64 ((j : Nat) : Int)), (.int .i64 ((j : Nat) : Int))]) (fun _ => []) (cR [[], []] <| cN) (fun _ => ?_)
      refine rD Tryd.f54 [0, 0, 2, 6, 14, 0, 32, 0, 224, 480, 992, 2016, 4094, 8191, 16383] 15 [1, 2, 3, 4, 9, 12] [] (fun _ => [(.int .i64 ((i : Nat) : Int)), (.int .i64 ((i : Nat) : Int)), (.pointer (some ⟨nb ρ2 0, i, none⟩)), (.int .u32 ((pwb X i j : Nat) : Int)), (.int .u32 ((pwb X i j * 256 : Nat) : Int)), (.int .i64 ((i : Nat) : Int)), (.int .i64 ((4 * i : Nat) : Int)), (.int .i64 ((j : Nat) : Int)), (.int .i64 (((4 * i) + j : Nat) : Int)), (.pointer (some ⟨nb ρ1 0, (4 * i) + j, none⟩)), (.int .u8 ((gB X ((4 * i) + j) : Nat) : Int)), (.int .u32 ((gB X ((4 * i) + j) : Nat) : Int)), (.int .u32 ((pwb X i (j + 1) : Nat) : Int)), (.pointer (some ⟨nb ρ2 0, i, none⟩)), undef]) (fun _ => [(14, { puts := [(2, nb ρ2 0, (.cells (C2.setIfInBounds i (.int .u32 ((pwb X i (j + 1) : Nat) : Int))) 78 (0, 0)))] })]) (cR [[], []] <| cX (o_sem _ (fun _ => do pure (Next.value (← Instr.indexAt 78 (pt (nb ρ2 0)) (.int .i64 ((i : Nat) : Int))))) (fun _ => (.pointer (some ⟨nb ρ2 0, i, none⟩))) (fun _ => by kernel_rfl) (fun _ => by kernel_rfl) (fun _ w => run_idx_nat (n := ((i : Nat) : Int)) (i := i) Tryd.underlying78 Tryd.sizeOf34 ((by have := of_decide_eq_true hb1; have := of_decide_eq_true hb2; have := hX; have := hi; have := hj; omega)) w)) <| cX (o_ld _ 2 34 (fun _ => nb ρ2 0) (fun _ => i) (fun _ => C2) 78 (0, 0) (fun _ => (.int .u32 ((pwb X i j : Nat) : Int))) (fun _ => by kernel_rfl) Tryd.isAgg34 (fun _ => (by rw [hC2, rowK_get (by have := of_decide_eq_true hb1; have := of_decide_eq_true hb2; have := hX; have := hi; have := hj; omega), sc_at]))) <| cB (a := fun ρ => (.int .u32 ((pwb X i j : Nat) : Int))) (b := fun ρ => (.int .u64 8)) (v := fun ρ => (.int .u32 ((pwb X i j * 256 : Nat) : Int))) .shl 34 (fun _ w => run_pw8 (by have := of_decide_eq_true hb1; have := of_decide_eq_true hb2; have := hX; have := hi; have := hj; omega) w) <| cR [[]] <| cA (v := fun ρ => (.int .i64 (IntKind.i64.wrap (4 * ((i : Nat) : Int))))) (fun _ => (.int .i64 ((4 * i : Nat) : Int))) (fun _ => congrArg (Value.int .i64) (wrap_mulN 4 i (by have := of_decide_eq_true hb1; have := of_decide_eq_true hb2; have := hX; have := hi; have := hj; omega))) <| cR [[]] <| cA (v := fun ρ => (.int .i64 (IntKind.i64.wrap (((4 * i : Nat) : Int) + ((j : Nat) : Int))))) (fun _ => (.int .i64 (((4 * i) + j : Nat) : Int))) (fun _ => congrArg (Value.int .i64) (wrap_addN (4 * i) j (by have := of_decide_eq_true hb1; have := of_decide_eq_true hb2; have := hX; have := hi; have := hj; omega))) <| cX (o_sem _ (fun _ => do pure (Next.value (← Instr.indexAt 75 (pt (nb ρ1 0)) (.int .i64 (((4 * i) + j : Nat) : Int))))) (fun _ => (.pointer (some ⟨nb ρ1 0, (4 * i) + j, none⟩))) (fun _ => by kernel_rfl) (fun _ => by kernel_rfl) (fun _ w => run_idx_nat (n := (((4 * i) + j : Nat) : Int)) (i := (4 * i) + j) Tryd.underlying75 Tryd.sizeOf5 ((by have := of_decide_eq_true hb1; have := of_decide_eq_true hb2; have := hX; have := hi; have := hj; omega)) w)) <| cX (o_ld _ 0 5 (fun _ => nb ρ1 0) (fun _ => (4 * i) + j) (fun _ => ((bs X).toArray)) 75 (0, 0) (fun _ => (.int .u8 ((gB X ((4 * i) + j) : Nat) : Int))) (fun _ => by kernel_rfl) Tryd.isAgg5 (fun _ => (bsA_get (by rw [hX]; have := of_decide_eq_true hb1; have := of_decide_eq_true hb2; have := hX; have := hi; have := hj; omega)))) <| cA (v := fun ρ => (.int .u32 (IntKind.u32.wrap (((gB X ((4 * i) + j) : Nat) : Int))))) (fun _ => (.int .u32 ((gB X ((4 * i) + j) : Nat) : Int))) (fun _ => congrArg (Value.int .u32) (u32N (Nat.lt_of_lt_of_le (gB_lt _ _) (by decide)))) <| cA (v := fun ρ => (.int .u32 (bits .or .u32 ((pwb X i j * 256 : Nat) : Int) ((gB X ((4 * i) + j) : Nat) : Int)))) (fun _ => (.int .u32 ((pwb X i (j + 1) : Nat) : Int))) (fun _ => congrArg (Value.int .u32) (or_pw (by have := of_decide_eq_true hb1; have := of_decide_eq_true hb2; have := hX; have := hi; have := hj; omega))) <| cX (o_sem _ (fun _ => do pure (Next.value (← Instr.indexAt 78 (pt (nb ρ2 0)) (.int .i64 ((i : Nat) : Int))))) (fun _ => (.pointer (some ⟨nb ρ2 0, i, none⟩))) (fun _ => by kernel_rfl) (fun _ => by kernel_rfl) (fun _ w => run_idx_nat (n := ((i : Nat) : Int)) (i := i) Tryd.underlying78 Tryd.sizeOf34 ((by have := of_decide_eq_true hb1; have := of_decide_eq_true hb2; have := hX; have := hi; have := hj; omega)) w)) <| cX (o_st _ 2 34 (fun _ => nb ρ2 0) (fun _ => i) (fun _ => C2) (fun _ => (C2.setIfInBounds i (.int .u32 ((pwb X i (j + 1) : Nat) : Int)))) 78 (fun _ => (.int .u32 ((pwb X i (j + 1) : Nat) : Int))) (fun _ => by kernel_rfl) Tryd.sizeOf34 (fun _ => rfl) (fun _ => (by rw [hC2, rowK_size]; have := of_decide_eq_true hb1; have := of_decide_eq_true hb2; have := hX; have := hi; have := hj; omega)) (fun _ => rfl)) <| cN) (fun _ => ?_)
      refine mt_block_n ?_
      refine mt_then ?_
      refine rS Tryd.f54 2 [1, 2, 3, 4, 9, 12] [] (fun _ => [(.int .i64 ((j + 1 : Nat) : Int)), (.int .i64 ((j + 1 : Nat) : Int))]) (fun _ => []) (cA (v := fun ρ => (.int .i64 (IntKind.i64.wrap (((j : Nat) : Int) + 1)))) (fun _ => (.int .i64 ((j + 1 : Nat) : Int))) (fun _ => congrArg (Value.int .i64) (wrap_addN j 1 (by have := of_decide_eq_true hb1; have := of_decide_eq_true hb2; have := hX; have := hi; have := hj; omega))) <| cR [[]] <| cN) (fun _ => ?_)
      exact mN (j + 1, C2.setIfInBounds i (.int .u32 ((pwb X i (j + 1) : Nat) : Int))) (by show 4 - (j + 1) < 4 - j; have := of_decide_eq_true hb1; have := of_decide_eq_true hb2; have := hX; have := hi; have := hj; omega) (⟨(by have := of_decide_eq_true hb1; have := of_decide_eq_true hb2; have := hX; have := hi; have := hj; omega), by rw [hC2]; exact sc_set⟩) []
    ·
      rw [hb2]
      refine ok_exit ?_
      refine mt_then_e ?_
      refine mt_then_e ?_
      refine mt_block_h ?_
      refine mt_block_n ?_
      refine mt_then ?_
      refine rS Tryd.f54 2 [1, 2, 3, 9] [] (fun _ => [(.int .i64 ((i + 1 : Nat) : Int)), (.int .i64 ((i + 1 : Nat) : Int))]) (fun _ => []) (cA (v := fun ρ => (.int .i64 (IntKind.i64.wrap (((i : Nat) : Int) + 1)))) (fun _ => (.int .i64 ((i + 1 : Nat) : Int))) (fun _ => congrArg (Value.int .i64) (wrap_addN i 1 (by have := of_decide_eq_true hb1; have := of_decide_eq_false hb2; have := hX; have := hi; have := hj; omega))) <| cR [[]] <| cN) (fun _ => ?_)
      exact mN (i + 1, C2) (by show 16 - (i + 1) < 16 - i; have := of_decide_eq_true hb1; have := of_decide_eq_false hb2; have := hX; have := hi; have := hj; omega) (⟨(by have := of_decide_eq_true hb1; have := of_decide_eq_false hb2; have := hX; have := hi; have := hj; omega), hC2.trans (by rw [show j = 4 by have := of_decide_eq_true hb1; have := of_decide_eq_false hb2; have := hX; have := hi; have := hj; omega]; exact sc_next X i)⟩) []
  ·
    rw [hb1]
    refine ok_exit ?_
    refine mt_then_e ?_
    refine mt_then_e ?_
    refine mt_block_h ?_
    refine mt_then ?_
    refine ok_seq ?_
    refine sS Tryd.f54 1 [2, 3, 6] [0, 1, 1] (fun _ => [(.int .i64 16)]) (fun _ => []) (cR [[]] <| cN) (fun _ => ?_)
    refine ok_block ?_
    refine oL (σ := Nat × (Array Value)) (fun ⟨k, _⟩ => [(2, (pt (nb ρ1 1))), (3, (pt (nb ρ2 0))), (6, (.int .i64 ((k : Nat) : Int)))]) (fun ⟨_, C3⟩ => [(nb ρ1 1, (.cells (rowK .u32 64 (fun _ => 0)) 78 (0, 0))), (nb ρ2 0, (.cells C3 78 (0, 0)))]) (fun ⟨k, _⟩ => 64 - k)
      (fun ⟨k, C3⟩ => (16 ≤ k ∧ k ≤ 64) ∧ (C3 = rowK .u32 64 (tc X k))) (16, C) (⟨by decide, hC.trans (by rw [show i = 16 by have := of_decide_eq_false hb1; have := hX; have := hi; omega]; exact sc_tc X)⟩) [] ?_
    rintro ⟨k, C3⟩ ⟨hk, hC3⟩
    change Ok Tryd.prog _ _ 85 [(2, (pt (nb ρ1 1))), (3, (pt (nb ρ2 0))), (6, (.int .i64 ((k : Nat) : Int)))] _ [(nb ρ1 1, (.cells (rowK .u32 64 (fun _ => 0)) 78 (0, 0))), (nb ρ2 0, (.cells C3 78 (0, 0)))] (fun _ => True)
    refine ok_seq ?_
    refine sS Tryd.f54 2 [2, 3, 6, 32] [] (fun _ => [(.int .i64 ((k : Nat) : Int)), (.bool (decide (((k : Nat) : Int) < 64)))]) (fun _ => []) (cR [[], []] <| cN) (fun _ => ?_)
    refine oC (decide (((k : Nat) : Int) < 64)) (fun hb3 => ?_) (fun hb3 => ?_)
    ·
      rw [hb3]
      refine ok_skip ?_
      refine mt_then ?_
      refine ok_seq ?_
      refine ok_block ?_
      refine sD Tryd.f54 [0, 1, 3, 7, 15, 0, 32, 96, 224, 511, 1023, 0, 2048, 6144, 14336, 30720, 65535, 131071] 18 [2, 3, 6, 7] [] (fun _ => [(.int .i64 ((k : Nat) : Int)), (.int .i64 (((k : Nat) : Int) - 15)), (.pointer (some ⟨nb ρ2 0, k - 15, none⟩)), (.int .u32 ((wN X (k - 15) : Nat) : Int)), (.int .u32 ((rot32 (wN X (k - 15)) 7 : Nat) : Int)), (.int .i64 ((k : Nat) : Int)), (.int .i64 (((k : Nat) : Int) - 15)), (.pointer (some ⟨nb ρ2 0, k - 15, none⟩)), (.int .u32 ((wN X (k - 15) : Nat) : Int)), (.int .u32 ((rot32 (wN X (k - 15)) 18 : Nat) : Int)), (.int .u32 (((rot32 (wN X (k - 15)) 7) ^^^ (rot32 (wN X (k - 15)) 18) : Nat) : Int)), (.int .i64 ((k : Nat) : Int)), (.int .i64 (((k : Nat) : Int) - 15)), (.pointer (some ⟨nb ρ2 0, k - 15, none⟩)), (.int .u32 ((wN X (k - 15) : Nat) : Int)), (.int .u32 (((wN X (k - 15)) / 2 ^ 3 : Nat) : Int)), (.int .u32 ((((rot32 (wN X (k - 15)) 7) ^^^ (rot32 (wN X (k - 15)) 18)) ^^^ ((wN X (k - 15)) / 2 ^ 3) : Nat) : Int)), (.int .u32 ((((rot32 (wN X (k - 15)) 7) ^^^ (rot32 (wN X (k - 15)) 18)) ^^^ ((wN X (k - 15)) / 2 ^ 3) : Nat) : Int))]) (fun _ => []) (cR [[]] <| cA (v := fun ρ => (.int .i64 (IntKind.i64.wrap (((k : Nat) : Int) - 15)))) (fun _ => (.int .i64 (((k : Nat) : Int) - 15))) (fun _ => congrArg (Value.int .i64) (i64N (by have := of_decide_eq_false hb1; have := of_decide_eq_true hb3; have := hX; have := hi; have := hk; omega))) <| cX (o_sem _ (fun _ => do pure (Next.value (← Instr.indexAt 78 (pt (nb ρ2 0)) (.int .i64 (((k : Nat) : Int) - 15))))) (fun _ => (.pointer (some ⟨nb ρ2 0, k - 15, none⟩))) (fun _ => by kernel_rfl) (fun _ => by kernel_rfl) (fun _ w => run_idx_nat (n := ((k : Nat) : Int) - 15) (i := k - 15) Tryd.underlying78 Tryd.sizeOf34 ((by have := of_decide_eq_false hb1; have := of_decide_eq_true hb3; have := hX; have := hi; have := hk; omega)) w)) <| cX (o_ld _ 1 34 (fun _ => nb ρ2 0) (fun _ => k - 15) (fun _ => C3) 78 (0, 0) (fun _ => (.int .u32 ((wN X (k - 15) : Nat) : Int))) (fun _ => by kernel_rfl) Tryd.isAgg34 (fun _ => (by rw [hC3]; exact tc_get (by have := of_decide_eq_false hb1; have := of_decide_eq_true hb3; have := hX; have := hi; have := hk; omega) (by have := of_decide_eq_false hb1; have := of_decide_eq_true hb3; have := hX; have := hi; have := hk; omega)))) <| cC (f := 55) (args := fun ρ => #[(.int .u32 ((wN X (k - 15) : Nat) : Int)), (.int .i64 7)]) (v := fun ρ => (.int .u32 ((rot32 (wN X (k - 15)) 7 : Nat) : Int))) (fun _ w => (fun w => rotr_any (wN X (k - 15)) 7 (wN_lt _ _) (by decide) w) w) <| cR [[]] <| cA (v := fun ρ => (.int .i64 (IntKind.i64.wrap (((k : Nat) : Int) - 15)))) (fun _ => (.int .i64 (((k : Nat) : Int) - 15))) (fun _ => congrArg (Value.int .i64) (i64N (by have := of_decide_eq_false hb1; have := of_decide_eq_true hb3; have := hX; have := hi; have := hk; omega))) <| cX (o_sem _ (fun _ => do pure (Next.value (← Instr.indexAt 78 (pt (nb ρ2 0)) (.int .i64 (((k : Nat) : Int) - 15))))) (fun _ => (.pointer (some ⟨nb ρ2 0, k - 15, none⟩))) (fun _ => by kernel_rfl) (fun _ => by kernel_rfl) (fun _ w => run_idx_nat (n := ((k : Nat) : Int) - 15) (i := k - 15) Tryd.underlying78 Tryd.sizeOf34 ((by have := of_decide_eq_false hb1; have := of_decide_eq_true hb3; have := hX; have := hi; have := hk; omega)) w)) <| cX (o_ld _ 1 34 (fun _ => nb ρ2 0) (fun _ => k - 15) (fun _ => C3) 78 (0, 0) (fun _ => (.int .u32 ((wN X (k - 15) : Nat) : Int))) (fun _ => by kernel_rfl) Tryd.isAgg34 (fun _ => (by rw [hC3]; exact tc_get (by have := of_decide_eq_false hb1; have := of_decide_eq_true hb3; have := hX; have := hi; have := hk; omega) (by have := of_decide_eq_false hb1; have := of_decide_eq_true hb3; have := hX; have := hi; have := hk; omega)))) <| cC (f := 55) (args := fun ρ => #[(.int .u32 ((wN X (k - 15) : Nat) : Int)), (.int .i64 18)]) (v := fun ρ => (.int .u32 ((rot32 (wN X (k - 15)) 18 : Nat) : Int))) (fun _ w => (fun w => rotr_any (wN X (k - 15)) 18 (wN_lt _ _) (by decide) w) w) <| cA (v := fun ρ => (.int .u32 (bits .xor .u32 ((rot32 (wN X (k - 15)) 7 : Nat) : Int) ((rot32 (wN X (k - 15)) 18 : Nat) : Int)))) (fun _ => (.int .u32 (((rot32 (wN X (k - 15)) 7) ^^^ (rot32 (wN X (k - 15)) 18) : Nat) : Int))) (fun _ => congrArg (Value.int .u32) (xor32 (rot32_lt _ (wN_lt _ _)) (rot32_lt _ (wN_lt _ _)))) <| cR [[]] <| cA (v := fun ρ => (.int .i64 (IntKind.i64.wrap (((k : Nat) : Int) - 15)))) (fun _ => (.int .i64 (((k : Nat) : Int) - 15))) (fun _ => congrArg (Value.int .i64) (i64N (by have := of_decide_eq_false hb1; have := of_decide_eq_true hb3; have := hX; have := hi; have := hk; omega))) <| cX (o_sem _ (fun _ => do pure (Next.value (← Instr.indexAt 78 (pt (nb ρ2 0)) (.int .i64 (((k : Nat) : Int) - 15))))) (fun _ => (.pointer (some ⟨nb ρ2 0, k - 15, none⟩))) (fun _ => by kernel_rfl) (fun _ => by kernel_rfl) (fun _ w => run_idx_nat (n := ((k : Nat) : Int) - 15) (i := k - 15) Tryd.underlying78 Tryd.sizeOf34 ((by have := of_decide_eq_false hb1; have := of_decide_eq_true hb3; have := hX; have := hi; have := hk; omega)) w)) <| cX (o_ld _ 1 34 (fun _ => nb ρ2 0) (fun _ => k - 15) (fun _ => C3) 78 (0, 0) (fun _ => (.int .u32 ((wN X (k - 15) : Nat) : Int))) (fun _ => by kernel_rfl) Tryd.isAgg34 (fun _ => (by rw [hC3]; exact tc_get (by have := of_decide_eq_false hb1; have := of_decide_eq_true hb3; have := hX; have := hi; have := hk; omega) (by have := of_decide_eq_false hb1; have := of_decide_eq_true hb3; have := hX; have := hi; have := hk; omega)))) <| cB (a := fun ρ => (.int .u32 ((wN X (k - 15) : Nat) : Int))) (b := fun ρ => (.int .u64 3)) (v := fun ρ => (.int .u32 (((wN X (k - 15)) / 2 ^ 3 : Nat) : Int))) .shr 34 (fun _ w => run_shrU (k := .u32) (x := (wN X (k - 15))) (c := 3) (wN_lt _ _) w) <| cA (v := fun ρ => (.int .u32 (bits .xor .u32 (((rot32 (wN X (k - 15)) 7) ^^^ (rot32 (wN X (k - 15)) 18) : Nat) : Int) (((wN X (k - 15)) / 2 ^ 3 : Nat) : Int)))) (fun _ => (.int .u32 ((((rot32 (wN X (k - 15)) 7) ^^^ (rot32 (wN X (k - 15)) 18)) ^^^ ((wN X (k - 15)) / 2 ^ 3) : Nat) : Int))) (fun _ => congrArg (Value.int .u32) (xor32 (xor32_lt (rot32_lt _ (wN_lt _ _)) (rot32_lt _ (wN_lt _ _))) (shr32_lt _ (wN_lt _ _)))) <| cR [[]] <| cN) (fun _ => ?_)
      refine sD Tryd.f54 [0, 1, 3, 7, 15, 0, 32, 96, 224, 511, 1023, 0, 2048, 6144, 14336, 30720, 65535, 131071] 18 [2, 3, 6, 7, 8] [] (fun _ => [(.int .i64 ((k : Nat) : Int)), (.int .i64 (((k : Nat) : Int) - 2)), (.pointer (some ⟨nb ρ2 0, k - 2, none⟩)), (.int .u32 ((wN X (k - 2) : Nat) : Int)), (.int .u32 ((rot32 (wN X (k - 2)) 17 : Nat) : Int)), (.int .i64 ((k : Nat) : Int)), (.int .i64 (((k : Nat) : Int) - 2)), (.pointer (some ⟨nb ρ2 0, k - 2, none⟩)), (.int .u32 ((wN X (k - 2) : Nat) : Int)), (.int .u32 ((rot32 (wN X (k - 2)) 19 : Nat) : Int)), (.int .u32 (((rot32 (wN X (k - 2)) 17) ^^^ (rot32 (wN X (k - 2)) 19) : Nat) : Int)), (.int .i64 ((k : Nat) : Int)), (.int .i64 (((k : Nat) : Int) - 2)), (.pointer (some ⟨nb ρ2 0, k - 2, none⟩)), (.int .u32 ((wN X (k - 2) : Nat) : Int)), (.int .u32 (((wN X (k - 2)) / 2 ^ 10 : Nat) : Int)), (.int .u32 ((((rot32 (wN X (k - 2)) 17) ^^^ (rot32 (wN X (k - 2)) 19)) ^^^ ((wN X (k - 2)) / 2 ^ 10) : Nat) : Int)), (.int .u32 ((((rot32 (wN X (k - 2)) 17) ^^^ (rot32 (wN X (k - 2)) 19)) ^^^ ((wN X (k - 2)) / 2 ^ 10) : Nat) : Int))]) (fun _ => []) (cR [[]] <| cA (v := fun ρ => (.int .i64 (IntKind.i64.wrap (((k : Nat) : Int) - 2)))) (fun _ => (.int .i64 (((k : Nat) : Int) - 2))) (fun _ => congrArg (Value.int .i64) (i64N (by have := of_decide_eq_false hb1; have := of_decide_eq_true hb3; have := hX; have := hi; have := hk; omega))) <| cX (o_sem _ (fun _ => do pure (Next.value (← Instr.indexAt 78 (pt (nb ρ2 0)) (.int .i64 (((k : Nat) : Int) - 2))))) (fun _ => (.pointer (some ⟨nb ρ2 0, k - 2, none⟩))) (fun _ => by kernel_rfl) (fun _ => by kernel_rfl) (fun _ w => run_idx_nat (n := ((k : Nat) : Int) - 2) (i := k - 2) Tryd.underlying78 Tryd.sizeOf34 ((by have := of_decide_eq_false hb1; have := of_decide_eq_true hb3; have := hX; have := hi; have := hk; omega)) w)) <| cX (o_ld _ 1 34 (fun _ => nb ρ2 0) (fun _ => k - 2) (fun _ => C3) 78 (0, 0) (fun _ => (.int .u32 ((wN X (k - 2) : Nat) : Int))) (fun _ => by kernel_rfl) Tryd.isAgg34 (fun _ => (by rw [hC3]; exact tc_get (by have := of_decide_eq_false hb1; have := of_decide_eq_true hb3; have := hX; have := hi; have := hk; omega) (by have := of_decide_eq_false hb1; have := of_decide_eq_true hb3; have := hX; have := hi; have := hk; omega)))) <| cC (f := 55) (args := fun ρ => #[(.int .u32 ((wN X (k - 2) : Nat) : Int)), (.int .i64 17)]) (v := fun ρ => (.int .u32 ((rot32 (wN X (k - 2)) 17 : Nat) : Int))) (fun _ w => (fun w => rotr_any (wN X (k - 2)) 17 (wN_lt _ _) (by decide) w) w) <| cR [[]] <| cA (v := fun ρ => (.int .i64 (IntKind.i64.wrap (((k : Nat) : Int) - 2)))) (fun _ => (.int .i64 (((k : Nat) : Int) - 2))) (fun _ => congrArg (Value.int .i64) (i64N (by have := of_decide_eq_false hb1; have := of_decide_eq_true hb3; have := hX; have := hi; have := hk; omega))) <| cX (o_sem _ (fun _ => do pure (Next.value (← Instr.indexAt 78 (pt (nb ρ2 0)) (.int .i64 (((k : Nat) : Int) - 2))))) (fun _ => (.pointer (some ⟨nb ρ2 0, k - 2, none⟩))) (fun _ => by kernel_rfl) (fun _ => by kernel_rfl) (fun _ w => run_idx_nat (n := ((k : Nat) : Int) - 2) (i := k - 2) Tryd.underlying78 Tryd.sizeOf34 ((by have := of_decide_eq_false hb1; have := of_decide_eq_true hb3; have := hX; have := hi; have := hk; omega)) w)) <| cX (o_ld _ 1 34 (fun _ => nb ρ2 0) (fun _ => k - 2) (fun _ => C3) 78 (0, 0) (fun _ => (.int .u32 ((wN X (k - 2) : Nat) : Int))) (fun _ => by kernel_rfl) Tryd.isAgg34 (fun _ => (by rw [hC3]; exact tc_get (by have := of_decide_eq_false hb1; have := of_decide_eq_true hb3; have := hX; have := hi; have := hk; omega) (by have := of_decide_eq_false hb1; have := of_decide_eq_true hb3; have := hX; have := hi; have := hk; omega)))) <| cC (f := 55) (args := fun ρ => #[(.int .u32 ((wN X (k - 2) : Nat) : Int)), (.int .i64 19)]) (v := fun ρ => (.int .u32 ((rot32 (wN X (k - 2)) 19 : Nat) : Int))) (fun _ w => (fun w => rotr_any (wN X (k - 2)) 19 (wN_lt _ _) (by decide) w) w) <| cA (v := fun ρ => (.int .u32 (bits .xor .u32 ((rot32 (wN X (k - 2)) 17 : Nat) : Int) ((rot32 (wN X (k - 2)) 19 : Nat) : Int)))) (fun _ => (.int .u32 (((rot32 (wN X (k - 2)) 17) ^^^ (rot32 (wN X (k - 2)) 19) : Nat) : Int))) (fun _ => congrArg (Value.int .u32) (xor32 (rot32_lt _ (wN_lt _ _)) (rot32_lt _ (wN_lt _ _)))) <| cR [[]] <| cA (v := fun ρ => (.int .i64 (IntKind.i64.wrap (((k : Nat) : Int) - 2)))) (fun _ => (.int .i64 (((k : Nat) : Int) - 2))) (fun _ => congrArg (Value.int .i64) (i64N (by have := of_decide_eq_false hb1; have := of_decide_eq_true hb3; have := hX; have := hi; have := hk; omega))) <| cX (o_sem _ (fun _ => do pure (Next.value (← Instr.indexAt 78 (pt (nb ρ2 0)) (.int .i64 (((k : Nat) : Int) - 2))))) (fun _ => (.pointer (some ⟨nb ρ2 0, k - 2, none⟩))) (fun _ => by kernel_rfl) (fun _ => by kernel_rfl) (fun _ w => run_idx_nat (n := ((k : Nat) : Int) - 2) (i := k - 2) Tryd.underlying78 Tryd.sizeOf34 ((by have := of_decide_eq_false hb1; have := of_decide_eq_true hb3; have := hX; have := hi; have := hk; omega)) w)) <| cX (o_ld _ 1 34 (fun _ => nb ρ2 0) (fun _ => k - 2) (fun _ => C3) 78 (0, 0) (fun _ => (.int .u32 ((wN X (k - 2) : Nat) : Int))) (fun _ => by kernel_rfl) Tryd.isAgg34 (fun _ => (by rw [hC3]; exact tc_get (by have := of_decide_eq_false hb1; have := of_decide_eq_true hb3; have := hX; have := hi; have := hk; omega) (by have := of_decide_eq_false hb1; have := of_decide_eq_true hb3; have := hX; have := hi; have := hk; omega)))) <| cB (a := fun ρ => (.int .u32 ((wN X (k - 2) : Nat) : Int))) (b := fun ρ => (.int .u64 10)) (v := fun ρ => (.int .u32 (((wN X (k - 2)) / 2 ^ 10 : Nat) : Int))) .shr 34 (fun _ w => run_shrU (k := .u32) (x := (wN X (k - 2))) (c := 10) (wN_lt _ _) w) <| cA (v := fun ρ => (.int .u32 (bits .xor .u32 (((rot32 (wN X (k - 2)) 17) ^^^ (rot32 (wN X (k - 2)) 19) : Nat) : Int) (((wN X (k - 2)) / 2 ^ 10 : Nat) : Int)))) (fun _ => (.int .u32 ((((rot32 (wN X (k - 2)) 17) ^^^ (rot32 (wN X (k - 2)) 19)) ^^^ ((wN X (k - 2)) / 2 ^ 10) : Nat) : Int))) (fun _ => congrArg (Value.int .u32) (xor32 (xor32_lt (rot32_lt _ (wN_lt _ _)) (rot32_lt _ (wN_lt _ _))) (shr32_lt _ (wN_lt _ _)))) <| cR [[]] <| cN) (fun _ => ?_)
      refine rD Tryd.f54 [0, 0, 2, 6, 14, 0, 62, 0, 128, 384, 896, 2046, 0, 8190, 16383, 32767] 16 [2, 3, 6] [] (fun _ => [(.int .i64 ((k : Nat) : Int)), (.int .i64 ((k : Nat) : Int)), (.int .i64 (((k : Nat) : Int) - 16)), (.pointer (some ⟨nb ρ2 0, k - 16, none⟩)), (.int .u32 ((wN X (k - 16) : Nat) : Int)), (.int .u32 ((((rot32 (wN X (k - 15)) 7) ^^^ (rot32 (wN X (k - 15)) 18)) ^^^ ((wN X (k - 15)) / 2 ^ 3) : Nat) : Int)), (.int .u32 ((add32 (wN X (k - 16)) (((rot32 (wN X (k - 15)) 7) ^^^ (rot32 (wN X (k - 15)) 18)) ^^^ ((wN X (k - 15)) / 2 ^ 3)) : Nat) : Int)), (.int .i64 ((k : Nat) : Int)), (.int .i64 (((k : Nat) : Int) - 7)), (.pointer (some ⟨nb ρ2 0, k - 7, none⟩)), (.int .u32 ((wN X (k - 7) : Nat) : Int)), (.int .u32 ((add32 (add32 (wN X (k - 16)) (((rot32 (wN X (k - 15)) 7) ^^^ (rot32 (wN X (k - 15)) 18)) ^^^ ((wN X (k - 15)) / 2 ^ 3))) (wN X (k - 7)) : Nat) : Int)), (.int .u32 ((((rot32 (wN X (k - 2)) 17) ^^^ (rot32 (wN X (k - 2)) 19)) ^^^ ((wN X (k - 2)) / 2 ^ 10) : Nat) : Int)), (.int .u32 ((add32 (add32 (add32 (wN X (k - 16)) (((rot32 (wN X (k - 15)) 7) ^^^ (rot32 (wN X (k - 15)) 18)) ^^^ ((wN X (k - 15)) / 2 ^ 3))) (wN X (k - 7))) (((rot32 (wN X (k - 2)) 17) ^^^ (rot32 (wN X (k - 2)) 19)) ^^^ ((wN X (k - 2)) / 2 ^ 10)) : Nat) : Int)), (.pointer (some ⟨nb ρ2 0, k, none⟩)), undef]) (fun _ => [(15, { puts := [(1, nb ρ2 0, (.cells (C3.setIfInBounds k (.int .u32 ((add32 (add32 (add32 (wN X (k - 16)) (((rot32 (wN X (k - 15)) 7) ^^^ (rot32 (wN X (k - 15)) 18)) ^^^ ((wN X (k - 15)) / 2 ^ 3))) (wN X (k - 7))) (((rot32 (wN X (k - 2)) 17) ^^^ (rot32 (wN X (k - 2)) 19)) ^^^ ((wN X (k - 2)) / 2 ^ 10)) : Nat) : Int))) 78 (0, 0)))] })]) (cR [[], []] <| cA (v := fun ρ => (.int .i64 (IntKind.i64.wrap (((k : Nat) : Int) - 16)))) (fun _ => (.int .i64 (((k : Nat) : Int) - 16))) (fun _ => congrArg (Value.int .i64) (i64N (by have := of_decide_eq_false hb1; have := of_decide_eq_true hb3; have := hX; have := hi; have := hk; omega))) <| cX (o_sem _ (fun _ => do pure (Next.value (← Instr.indexAt 78 (pt (nb ρ2 0)) (.int .i64 (((k : Nat) : Int) - 16))))) (fun _ => (.pointer (some ⟨nb ρ2 0, k - 16, none⟩))) (fun _ => by kernel_rfl) (fun _ => by kernel_rfl) (fun _ w => run_idx_nat (n := ((k : Nat) : Int) - 16) (i := k - 16) Tryd.underlying78 Tryd.sizeOf34 ((by have := of_decide_eq_false hb1; have := of_decide_eq_true hb3; have := hX; have := hi; have := hk; omega)) w)) <| cX (o_ld _ 1 34 (fun _ => nb ρ2 0) (fun _ => k - 16) (fun _ => C3) 78 (0, 0) (fun _ => (.int .u32 ((wN X (k - 16) : Nat) : Int))) (fun _ => by kernel_rfl) Tryd.isAgg34 (fun _ => (by rw [hC3]; exact tc_get (by have := of_decide_eq_false hb1; have := of_decide_eq_true hb3; have := hX; have := hi; have := hk; omega) (by have := of_decide_eq_false hb1; have := of_decide_eq_true hb3; have := hX; have := hi; have := hk; omega)))) <| cR [[]] <| cA (fun _ => (.int .u32 ((add32 (wN X (k - 16)) (((rot32 (wN X (k - 15)) 7) ^^^ (rot32 (wN X (k - 15)) 18)) ^^^ ((wN X (k - 15)) / 2 ^ 3)) : Nat) : Int))) (fun _ => congrArg (Value.int .u32) (wrap_add32 (wN X (k - 16)) (((rot32 (wN X (k - 15)) 7) ^^^ (rot32 (wN X (k - 15)) 18)) ^^^ ((wN X (k - 15)) / 2 ^ 3)))) <| cR [[]] <| cA (v := fun ρ => (.int .i64 (IntKind.i64.wrap (((k : Nat) : Int) - 7)))) (fun _ => (.int .i64 (((k : Nat) : Int) - 7))) (fun _ => congrArg (Value.int .i64) (i64N (by have := of_decide_eq_false hb1; have := of_decide_eq_true hb3; have := hX; have := hi; have := hk; omega))) <| cX (o_sem _ (fun _ => do pure (Next.value (← Instr.indexAt 78 (pt (nb ρ2 0)) (.int .i64 (((k : Nat) : Int) - 7))))) (fun _ => (.pointer (some ⟨nb ρ2 0, k - 7, none⟩))) (fun _ => by kernel_rfl) (fun _ => by kernel_rfl) (fun _ w => run_idx_nat (n := ((k : Nat) : Int) - 7) (i := k - 7) Tryd.underlying78 Tryd.sizeOf34 ((by have := of_decide_eq_false hb1; have := of_decide_eq_true hb3; have := hX; have := hi; have := hk; omega)) w)) <| cX (o_ld _ 1 34 (fun _ => nb ρ2 0) (fun _ => k - 7) (fun _ => C3) 78 (0, 0) (fun _ => (.int .u32 ((wN X (k - 7) : Nat) : Int))) (fun _ => by kernel_rfl) Tryd.isAgg34 (fun _ => (by rw [hC3]; exact tc_get (by have := of_decide_eq_false hb1; have := of_decide_eq_true hb3; have := hX; have := hi; have := hk; omega) (by have := of_decide_eq_false hb1; have := of_decide_eq_true hb3; have := hX; have := hi; have := hk; omega)))) <| cA (fun _ => (.int .u32 ((add32 (add32 (wN X (k - 16)) (((rot32 (wN X (k - 15)) 7) ^^^ (rot32 (wN X (k - 15)) 18)) ^^^ ((wN X (k - 15)) / 2 ^ 3))) (wN X (k - 7)) : Nat) : Int))) (fun _ => congrArg (Value.int .u32) (wrap_add32 (add32 (wN X (k - 16)) (((rot32 (wN X (k - 15)) 7) ^^^ (rot32 (wN X (k - 15)) 18)) ^^^ ((wN X (k - 15)) / 2 ^ 3))) (wN X (k - 7)))) <| cR [[]] <| cA (fun _ => (.int .u32 ((add32 (add32 (add32 (wN X (k - 16)) (((rot32 (wN X (k - 15)) 7) ^^^ (rot32 (wN X (k - 15)) 18)) ^^^ ((wN X (k - 15)) / 2 ^ 3))) (wN X (k - 7))) (((rot32 (wN X (k - 2)) 17) ^^^ (rot32 (wN X (k - 2)) 19)) ^^^ ((wN X (k - 2)) / 2 ^ 10)) : Nat) : Int))) (fun _ => congrArg (Value.int .u32) (wrap_add32 (add32 (add32 (wN X (k - 16)) (((rot32 (wN X (k - 15)) 7) ^^^ (rot32 (wN X (k - 15)) 18)) ^^^ ((wN X (k - 15)) / 2 ^ 3))) (wN X (k - 7))) (((rot32 (wN X (k - 2)) 17) ^^^ (rot32 (wN X (k - 2)) 19)) ^^^ ((wN X (k - 2)) / 2 ^ 10)))) <| cX (o_sem _ (fun _ => do pure (Next.value (← Instr.indexAt 78 (pt (nb ρ2 0)) (.int .i64 ((k : Nat) : Int))))) (fun _ => (.pointer (some ⟨nb ρ2 0, k, none⟩))) (fun _ => by kernel_rfl) (fun _ => by kernel_rfl) (fun _ w => run_idx_nat (n := ((k : Nat) : Int)) (i := k) Tryd.underlying78 Tryd.sizeOf34 ((by have := of_decide_eq_false hb1; have := of_decide_eq_true hb3; have := hX; have := hi; have := hk; omega)) w)) <| cX (o_st _ 1 34 (fun _ => nb ρ2 0) (fun _ => k) (fun _ => C3) (fun _ => (C3.setIfInBounds k (.int .u32 ((add32 (add32 (add32 (wN X (k - 16)) (((rot32 (wN X (k - 15)) 7) ^^^ (rot32 (wN X (k - 15)) 18)) ^^^ ((wN X (k - 15)) / 2 ^ 3))) (wN X (k - 7))) (((rot32 (wN X (k - 2)) 17) ^^^ (rot32 (wN X (k - 2)) 19)) ^^^ ((wN X (k - 2)) / 2 ^ 10)) : Nat) : Int)))) 78 (fun _ => (.int .u32 ((add32 (add32 (add32 (wN X (k - 16)) (((rot32 (wN X (k - 15)) 7) ^^^ (rot32 (wN X (k - 15)) 18)) ^^^ ((wN X (k - 15)) / 2 ^ 3))) (wN X (k - 7))) (((rot32 (wN X (k - 2)) 17) ^^^ (rot32 (wN X (k - 2)) 19)) ^^^ ((wN X (k - 2)) / 2 ^ 10)) : Nat) : Int))) (fun _ => by kernel_rfl) Tryd.sizeOf34 (fun _ => rfl) (fun _ => (by rw [hC3, rowK_size]; have := of_decide_eq_false hb1; have := of_decide_eq_true hb3; have := hX; have := hi; have := hk; omega)) (fun _ => rfl)) <| cN) (fun _ => ?_)
      refine mt_block_n ?_
      refine mt_then ?_
      refine rS Tryd.f54 3 [2, 3, 6] [] (fun _ => [(.int .i64 ((k : Nat) : Int)), (.int .i64 ((k + 1 : Nat) : Int)), (.int .i64 ((k + 1 : Nat) : Int))]) (fun _ => []) (cR [[]] <| cA (v := fun ρ => (.int .i64 (IntKind.i64.wrap (((k : Nat) : Int) + 1)))) (fun _ => (.int .i64 ((k + 1 : Nat) : Int))) (fun _ => congrArg (Value.int .i64) (wrap_addN k 1 (by have := of_decide_eq_false hb1; have := of_decide_eq_true hb3; have := hX; have := hi; have := hk; omega))) <| cR [[]] <| cN) (fun _ => ?_)
      exact mN (k + 1, C3.setIfInBounds k (.int .u32 ((add32 (add32 (add32 (wN X (k - 16)) (((rot32 (wN X (k - 15)) 7) ^^^ (rot32 (wN X (k - 15)) 18)) ^^^ ((wN X (k - 15)) / 2 ^ 3))) (wN X (k - 7))) (((rot32 (wN X (k - 2)) 17) ^^^ (rot32 (wN X (k - 2)) 19)) ^^^ ((wN X (k - 2)) / 2 ^ 10)) : Nat) : Int))) (by show 64 - (k + 1) < 64 - k; have := of_decide_eq_false hb1; have := of_decide_eq_true hb3; have := hX; have := hi; have := hk; omega) (⟨(by have := of_decide_eq_false hb1; have := of_decide_eq_true hb3; have := hX; have := hi; have := hk; omega), by rw [hC3]; exact tc_set (wN_more hk.1).symm⟩) []
    ·
      rw [hb3]
      refine ok_exit ?_
      refine mt_then_e ?_
      refine mt_then_e ?_
      refine mt_block_h ?_
      rw [hC3]
      refine mt_then ?_
      refine sS Tryd.f54 2 [2] [1, 0] (fun _ => [(.agg (rowK .u32 64 (tc X k))), undef]) (fun _ => [(1, { puts := [(0, nb ρ1 1, (.cells (rowK .u32 64 (tc X k)) 78 (0, 0)))] })]) (cR [[1], [0]] <| cN) (fun _ => ?_)
      refine ok_ret ?_
      exact mR (v := (.agg (rowK .u32 64 (tc X k)))) (fun _ hS => ⟨congrArg Ending.returned (congrArg Value.agg (tc_end (by have := of_decide_eq_false hb1; have := of_decide_eq_false hb3; have := hX; have := hi; have := hk; omega))), hS.bel⟩)
end Go.Proofs.YtlkbhiaoolddmaaDoor

/-! SHA-256: the rounds: the walks. -/
namespace Go.Proofs.YtlkbhiaoolddmaaDoor
open Go Go.RowKit

theorem compress_any (s0 : Nat) (s1 : Nat) (s2 : Nat) (s3 : Nat) (s4 : Nat) (s5 : Nat) (s6 : Nat) (s7 : Nat) (X : List UInt8) (hs : ok8 (s0, s1, s2, s3, s4, s5, s6, s7)) (hX : X.length = 64) (w0 : World) (hf0 : Kb w0 1 (rowK .u32 64 kN)) : Calls Tryd.prog 45 #[(.agg #[(.int .u32 ((s0 : Nat) : Int)), (.int .u32 ((s1 : Nat) : Int)), (.int .u32 ((s2 : Nat) : Int)), (.int .u32 ((s3 : Nat) : Int)), (.int .u32 ((s4 : Nat) : Int)), (.int .u32 ((s5 : Nat) : Int)), (.int .u32 ((s6 : Nat) : Int)), (.int .u32 ((s7 : Nat) : Int))]), (.agg ((bs X).toArray))] w0 (fun ε w' => ε = .returned (.agg #[(.int .u32 (((cmpS (s0, s1, s2, s3, s4, s5, s6, s7) X).1 : Nat) : Int)), (.int .u32 (((cmpS (s0, s1, s2, s3, s4, s5, s6, s7) X).2.1 : Nat) : Int)), (.int .u32 (((cmpS (s0, s1, s2, s3, s4, s5, s6, s7) X).2.2.1 : Nat) : Int)), (.int .u32 (((cmpS (s0, s1, s2, s3, s4, s5, s6, s7) X).2.2.2.1 : Nat) : Int)), (.int .u32 (((cmpS (s0, s1, s2, s3, s4, s5, s6, s7) X).2.2.2.2.1 : Nat) : Int)), (.int .u32 (((cmpS (s0, s1, s2, s3, s4, s5, s6, s7) X).2.2.2.2.2.1 : Nat) : Int)), (.int .u32 (((cmpS (s0, s1, s2, s3, s4, s5, s6, s7) X).2.2.2.2.2.2.1 : Nat) : Int)), (.int .u32 (((cmpS (s0, s1, s2, s3, s4, s5, s6, s7) X).2.2.2.2.2.2.2 : Nat) : Int))]) ∧ Below w0.heap.size w0 w') := by
  refine Calls.of_ok (n := 131) (F := (fun w => Kb w 1 (rowK .u32 64 kN) ∧ True)) Tryd.func45 rfl rfl rfl (by simp) (hf0.pers0.and persT) ?_
  refine sS Tryd.f45 3 [2, 3, 4] [] (fun ρ => [(pt (nb ρ 0)), (pt (nb ρ 1)), (pt (nb ρ 2))]) (fun ρ => [(0, { news := [(nb ρ 0, (.cells #[(.int .u32 ((s0 : Nat) : Int)), (.int .u32 ((s1 : Nat) : Int)), (.int .u32 ((s2 : Nat) : Int)), (.int .u32 ((s3 : Nat) : Int)), (.int .u32 ((s4 : Nat) : Int)), (.int .u32 ((s5 : Nat) : Int)), (.int .u32 ((s6 : Nat) : Int)), (.int .u32 ((s7 : Nat) : Int))] 73 (0, 0)))] }), (1, { news := [(nb ρ 1, (.cells ((bs X).toArray) 75 (0, 0)))] }), (2, { news := [(nb ρ 2, (.cells #[(.int .u32 0), (.int .u32 0), (.int .u32 0), (.int .u32 0), (.int .u32 0), (.int .u32 0), (.int .u32 0), (.int .u32 0)] 73 (0, 0)))] })]) (cR [[], [], []] <| cN) (fun ρ1 => ?_)
  refine sS Tryd.f45 4 [2, 4, 5] [1, 0, 1, 1] (fun ρ => [(.agg ((bs X).toArray)), (.agg (rowK .u32 64 (wN X))), (pt (nb ρ 2)), undef]) (fun ρ => [(2, { news := [(nb ρ 2, (.cells (rowK .u32 64 (fun _ => 0)) 78 (0, 0)))] }), (3, { puts := [(19, nb ρ 2, (.cells (rowK .u32 64 (wN X)) 78 (0, 0)))] })]) (cX (o_semF _ (fun _ => do pure (Next.value (← Instr.loadAt 75 (pt (nb ρ1 1))))) (fun _ => (.agg ((bs X).toArray))) (fun _ => (by kernel_rfl)) (fun _ => (by kernel_rfl)) (fun _ _ _ hG => ld_whole Tryd.isAgg75 Tryd.sizeOf75 (hG.known (g := nb ρ1 1) (o := (.cells ((bs X).toArray) 75 (0, 0))) 1 (by kernel_rfl) (by kernel_rfl)) ((by simp [bs, hX]))) (fun _ _ _ _ => persT)) <| cC (fun _ w => sched_any X hX w) <| cR [[], [19]] <| cN) (fun ρ2 => ?_)
  refine sD Tryd.f45 [0, 1, 0, 4, 0, 16, 0, 64, 3, 271, 831, 2047] 12 [2, 4, 5, 6, 7, 8, 9] [] (fun _ => [(pt (nb ρ1 0)), (.int .u32 ((s0 : Nat) : Int)), (.pointer (some ⟨nb ρ1 0, 1, none⟩)), (.int .u32 ((s1 : Nat) : Int)), (.pointer (some ⟨nb ρ1 0, 2, none⟩)), (.int .u32 ((s2 : Nat) : Int)), (.pointer (some ⟨nb ρ1 0, 3, none⟩)), (.int .u32 ((s3 : Nat) : Int)), (.int .u32 ((s0 : Nat) : Int)), (.int .u32 ((s1 : Nat) : Int)), (.int .u32 ((s2 : Nat) : Int)), (.int .u32 ((s3 : Nat) : Int))]) (fun _ => []) (cR [[], [0], [], [0], [], [0], [], [0], [], [], [], []] <| cN) (fun _ => ?_)
  refine sD Tryd.f45 [0, 1, 0, 4, 0, 16, 0, 64, 3, 271, 831, 2047] 12 [2, 4, 5, 6, 7, 8, 9, 10, 11, 12, 13] [] (fun _ => [(.pointer (some ⟨nb ρ1 0, 4, none⟩)), (.int .u32 ((s4 : Nat) : Int)), (.pointer (some ⟨nb ρ1 0, 5, none⟩)), (.int .u32 ((s5 : Nat) : Int)), (.pointer (some ⟨nb ρ1 0, 6, none⟩)), (.int .u32 ((s6 : Nat) : Int)), (.pointer (some ⟨nb ρ1 0, 7, none⟩)), (.int .u32 ((s7 : Nat) : Int)), (.int .u32 ((s4 : Nat) : Int)), (.int .u32 ((s5 : Nat) : Int)), (.int .u32 ((s6 : Nat) : Int)), (.int .u32 ((s7 : Nat) : Int))]) (fun _ => []) (cR [[], [0], [], [0], [], [0], [], [0], [], [], [], []] <| cN) (fun _ => ?_)
  refine ok_seq ?_
  refine sS Tryd.f45 1 [2, 4, 5, 6, 7, 8, 9, 10, 11, 12, 13, 35] [] (fun _ => [(.int .i64 0)]) (fun _ => []) (cR [[]] <| cN) (fun _ => ?_)
  refine dRs [(2, (pt (nb ρ1 0))), (4, (pt (nb ρ1 2))), (5, (pt (nb ρ2 2))), (6, (.int .u32 ((s0 : Nat) : Int))), (7, (.int .u32 ((s1 : Nat) : Int))), (8, (.int .u32 ((s2 : Nat) : Int))), (9, (.int .u32 ((s3 : Nat) : Int))), (10, (.int .u32 ((s4 : Nat) : Int))), (11, (.int .u32 ((s5 : Nat) : Int))), (12, (.int .u32 ((s6 : Nat) : Int))), (13, (.int .u32 ((s7 : Nat) : Int))), (35, (.int .i64 0))] [(nb ρ1 0, (.cells #[(.int .u32 ((s0 : Nat) : Int)), (.int .u32 ((s1 : Nat) : Int)), (.int .u32 ((s2 : Nat) : Int)), (.int .u32 ((s3 : Nat) : Int)), (.int .u32 ((s4 : Nat) : Int)), (.int .u32 ((s5 : Nat) : Int)), (.int .u32 ((s6 : Nat) : Int)), (.int .u32 ((s7 : Nat) : Int))] 73 (0, 0))), (nb ρ1 2, (.cells #[(.int .u32 0), (.int .u32 0), (.int .u32 0), (.int .u32 0), (.int .u32 0), (.int .u32 0), (.int .u32 0), (.int .u32 0)] 73 (0, 0))), (nb ρ2 2, (.cells (rowK .u32 64 (wN X)) 78 (0, 0)))] ?_
  refine ok_block ?_
  refine oL (σ := Nat × Nat × Nat × Nat × Nat × Nat × Nat × Nat × Nat) (fun ⟨i, ra, rb, rc, rd, re, rf, rg, rh⟩ => [(2, (pt (nb ρ1 0))), (4, (pt (nb ρ1 2))), (5, (pt (nb ρ2 2))), (6, (.int .u32 ((ra : Nat) : Int))), (7, (.int .u32 ((rb : Nat) : Int))), (8, (.int .u32 ((rc : Nat) : Int))), (9, (.int .u32 ((rd : Nat) : Int))), (10, (.int .u32 ((re : Nat) : Int))), (11, (.int .u32 ((rf : Nat) : Int))), (12, (.int .u32 ((rg : Nat) : Int))), (13, (.int .u32 ((rh : Nat) : Int))), (35, (.int .i64 ((i : Nat) : Int)))]) (fun ⟨_, _, _, _, _, _, _, _, _⟩ => [(nb ρ1 0, (.cells #[(.int .u32 ((s0 : Nat) : Int)), (.int .u32 ((s1 : Nat) : Int)), (.int .u32 ((s2 : Nat) : Int)), (.int .u32 ((s3 : Nat) : Int)), (.int .u32 ((s4 : Nat) : Int)), (.int .u32 ((s5 : Nat) : Int)), (.int .u32 ((s6 : Nat) : Int)), (.int .u32 ((s7 : Nat) : Int))] 73 (0, 0))), (nb ρ1 2, (.cells #[(.int .u32 0), (.int .u32 0), (.int .u32 0), (.int .u32 0), (.int .u32 0), (.int .u32 0), (.int .u32 0), (.int .u32 0)] 73 (0, 0))), (nb ρ2 2, (.cells (rowK .u32 64 (wN X)) 78 (0, 0)))]) (fun ⟨i, _, _, _, _, _, _, _, _⟩ => 64 - i)
    (fun ⟨i, ra, rb, rc, rd, re, rf, rg, rh⟩ => (i ≤ 64) ∧ (rnds X (s0, s1, s2, s3, s4, s5, s6, s7) i = (ra, rb, rc, rd, re, rf, rg, rh))) (0, s0, s1, s2, s3, s4, s5, s6, s7) (⟨by decide, rfl⟩) [] ?_
  rintro ⟨i, ra, rb, rc, rd, re, rf, rg, rh⟩ ⟨hi, hr⟩
  change Ok Tryd.prog _ _ 131 [(2, (pt (nb ρ1 0))), (4, (pt (nb ρ1 2))), (5, (pt (nb ρ2 2))), (6, (.int .u32 ((ra : Nat) : Int))), (7, (.int .u32 ((rb : Nat) : Int))), (8, (.int .u32 ((rc : Nat) : Int))), (9, (.int .u32 ((rd : Nat) : Int))), (10, (.int .u32 ((re : Nat) : Int))), (11, (.int .u32 ((rf : Nat) : Int))), (12, (.int .u32 ((rg : Nat) : Int))), (13, (.int .u32 ((rh : Nat) : Int))), (35, (.int .i64 ((i : Nat) : Int)))] _ [(nb ρ1 0, (.cells #[(.int .u32 ((s0 : Nat) : Int)), (.int .u32 ((s1 : Nat) : Int)), (.int .u32 ((s2 : Nat) : Int)), (.int .u32 ((s3 : Nat) : Int)), (.int .u32 ((s4 : Nat) : Int)), (.int .u32 ((s5 : Nat) : Int)), (.int .u32 ((s6 : Nat) : Int)), (.int .u32 ((s7 : Nat) : Int))] 73 (0, 0))), (nb ρ1 2, (.cells #[(.int .u32 0), (.int .u32 0), (.int .u32 0), (.int .u32 0), (.int .u32 0), (.int .u32 0), (.int .u32 0), (.int .u32 0)] 73 (0, 0))), (nb ρ2 2, (.cells (rowK .u32 64 (wN X)) 78 (0, 0)))] (fun w => Kb w 1 (rowK .u32 64 kN) ∧ True)
  have ho : ok8 (ra, rb, rc, rd, re, rf, rg, rh) := hr ▸ rnds_ok hs i
  refine sS Tryd.f45 1 [2, 4, 5, 6, 7, 8, 9, 10, 11, 12, 13, 35, 36] [] (fun _ => [(.bool (decide (((i : Nat) : Int) < 64)))]) (fun _ => []) (cR [[]] <| cN) (fun _ => ?_)
  refine ok_seq ?_
  refine oC (decide (((i : Nat) : Int) < 64)) (fun hb1 => ?_) (fun hb1 => ?_)
  ·
    rw [hb1]
    refine ok_skip ?_
    refine mt_then ?_
    refine ok_seq ?_
    refine ok_block ?_
    refine sS Tryd.f45 2 [2, 4, 5, 6, 7, 8, 9, 10, 11, 12, 13, 14, 35] [] (fun _ => [(.int .i64 ((i : Nat) : Int)), (.int .i64 ((i : Nat) : Int))]) (fun _ => []) (cR [[], []] <| cN) (fun _ => ?_)
    refine sD Tryd.f45 [0, 0, 2, 0, 14, 30, 0, 94, 254, 511, 0, 0, 3072, 0, 8192, 0, 57344, 130048, 262143, 0, 524288, 1572864, 4194303, 0, 8388608, 25165824, 67108863, 134217727] 28 [2, 4, 5, 6, 7, 8, 9, 10, 11, 12, 13, 15, 35] [] (fun _ => [(.int .u32 ((rh : Nat) : Int)), (.int .u32 ((re : Nat) : Int)), (.int .u32 ((rot32 re 6 : Nat) : Int)), (.int .u32 ((re : Nat) : Int)), (.int .u32 ((rot32 re 11 : Nat) : Int)), (.int .u32 (((rot32 re 6) ^^^ (rot32 re 11) : Nat) : Int)), (.int .u32 ((re : Nat) : Int)), (.int .u32 ((rot32 re 25 : Nat) : Int)), (.int .u32 ((((rot32 re 6) ^^^ (rot32 re 11)) ^^^ (rot32 re 25) : Nat) : Int)), (.int .u32 ((add32 rh (((rot32 re 6) ^^^ (rot32 re 11)) ^^^ (rot32 re 25)) : Nat) : Int)), (.int .u32 ((re : Nat) : Int)), (.int .u32 ((rf : Nat) : Int)), (.int .u32 ((re &&& rf : Nat) : Int)), (.int .u32 ((re : Nat) : Int)), (.int .u32 ((not32 re : Nat) : Int)), (.int .u32 ((rg : Nat) : Int)), (.int .u32 (((not32 re) &&& rg : Nat) : Int)), (.int .u32 (((re &&& rf) ^^^ ((not32 re) &&& rg) : Nat) : Int)), (.int .u32 ((add32 (add32 rh (((rot32 re 6) ^^^ (rot32 re 11)) ^^^ (rot32 re 25))) ((re &&& rf) ^^^ ((not32 re) &&& rg)) : Nat) : Int)), (.int .i64 ((i : Nat) : Int)), (.pointer (some ⟨1, i, none⟩)), (.int .u32 ((kN i : Nat) : Int)), (.int .u32 ((add32 (add32 (add32 rh (((rot32 re 6) ^^^ (rot32 re 11)) ^^^ (rot32 re 25))) ((re &&& rf) ^^^ ((not32 re) &&& rg))) (kN i) : Nat) : Int)), (.int .i64 ((i : Nat) : Int)), (.pointer (some ⟨nb ρ2 2, i, none⟩)), (.int .u32 ((wN X i : Nat) : Int)), (.int .u32 ((add32 (add32 (add32 (add32 rh (((rot32 re 6) ^^^ (rot32 re 11)) ^^^ (rot32 re 25))) ((re &&& rf) ^^^ ((not32 re) &&& rg))) (kN i)) (wN X i) : Nat) : Int)), (.int .u32 ((add32 (add32 (add32 (add32 rh (((rot32 re 6) ^^^ (rot32 re 11)) ^^^ (rot32 re 25))) ((re &&& rf) ^^^ ((not32 re) &&& rg))) (kN i)) (wN X i) : Nat) : Int))]) (fun _ => []) (cR [[], []] <| cC (fun _ w => rotr_any re 6 (ho.2.2.2.2.1) (by decide) w) <| cR [[]] <| cC (fun _ w => rotr_any re 11 (ho.2.2.2.2.1) (by decide) w) <| cA (v := fun ρ => (.int .u32 (bits .xor .u32 ((rot32 re 6 : Nat) : Int) ((rot32 re 11 : Nat) : Int)))) (fun _ => (.int .u32 (((rot32 re 6) ^^^ (rot32 re 11) : Nat) : Int))) (fun _ => congrArg (Value.int .u32) (xor32 (rot32_lt _ (ho.2.2.2.2.1)) (rot32_lt _ (ho.2.2.2.2.1)))) <| cR [[]] <| cC (fun _ w => rotr_any re 25 (ho.2.2.2.2.1) (by decide) w) <| cA (v := fun ρ => (.int .u32 (bits .xor .u32 (((rot32 re 6) ^^^ (rot32 re 11) : Nat) : Int) ((rot32 re 25 : Nat) : Int)))) (fun _ => (.int .u32 ((((rot32 re 6) ^^^ (rot32 re 11)) ^^^ (rot32 re 25) : Nat) : Int))) (fun _ => congrArg (Value.int .u32) (xor32 (xor32_lt (rot32_lt _ (ho.2.2.2.2.1)) (rot32_lt _ (ho.2.2.2.2.1))) (rot32_lt _ (ho.2.2.2.2.1)))) <| cA (fun _ => (.int .u32 ((add32 rh (((rot32 re 6) ^^^ (rot32 re 11)) ^^^ (rot32 re 25)) : Nat) : Int))) (fun _ => congrArg (Value.int .u32) (wrap_add32 rh (((rot32 re 6) ^^^ (rot32 re 11)) ^^^ (rot32 re 25)))) <| cR [[], []] <| cA (fun _ => (.int .u32 ((re &&& rf : Nat) : Int))) (fun _ => congrArg (Value.int .u32) (and32 (ho.2.2.2.2.1) (ho.2.2.2.2.2.1))) <| cR [[]] <| cA (fun _ => (.int .u32 ((not32 re : Nat) : Int))) (fun _ => congrArg (Value.int .u32) (not_xor32 (ho.2.2.2.2.1))) <| cR [[]] <| cA (v := fun ρ => (.int .u32 (bits .and .u32 ((not32 re : Nat) : Int) ((rg : Nat) : Int)))) (fun _ => (.int .u32 (((not32 re) &&& rg : Nat) : Int))) (fun _ => congrArg (Value.int .u32) (and32 (not32_lt _) (ho.2.2.2.2.2.2.1))) <| cA (v := fun ρ => (.int .u32 (bits .xor .u32 ((re &&& rf : Nat) : Int) (((not32 re) &&& rg : Nat) : Int)))) (fun _ => (.int .u32 (((re &&& rf) ^^^ ((not32 re) &&& rg) : Nat) : Int))) (fun _ => congrArg (Value.int .u32) (xor32 (and32_lt _ (ho.2.2.2.2.1)) (and32_lt _ (not32_lt _)))) <| cA (fun _ => (.int .u32 ((add32 (add32 rh (((rot32 re 6) ^^^ (rot32 re 11)) ^^^ (rot32 re 25))) ((re &&& rf) ^^^ ((not32 re) &&& rg)) : Nat) : Int))) (fun _ => congrArg (Value.int .u32) (wrap_add32 (add32 rh (((rot32 re 6) ^^^ (rot32 re 11)) ^^^ (rot32 re 25))) ((re &&& rf) ^^^ ((not32 re) &&& rg)))) <| cR [[]] <| cX (o_sem _ (fun _ => do pure (Next.value (← Instr.indexAt 78 (pt 1) (.int .i64 ((i : Nat) : Int))))) (fun _ => (.pointer (some ⟨1, i, none⟩))) (fun _ => by kernel_rfl) (fun _ => by kernel_rfl) (fun _ w => run_idx_nat (n := ((i : Nat) : Int)) (i := i) Tryd.underlying78 Tryd.sizeOf34 ((by have := of_decide_eq_true hb1; have := hi; omega)) w)) <| cX (o_semF _ (fun _ => do pure (Next.value (← Instr.loadAt 34 (.pointer (some ⟨1, i, none⟩))))) (fun _ => (.int .u32 ((kN i : Nat) : Int))) (fun _ => (by kernel_rfl)) (fun _ => (by kernel_rfl)) (fun _ _ _ hG => ld_blk Tryd.isAgg34 (hG.facts0.now.1) ((kC_get (by have := of_decide_eq_true hb1; have := hi; omega)))) (fun _ _ _ _ => persT)) <| cA (fun _ => (.int .u32 ((add32 (add32 (add32 rh (((rot32 re 6) ^^^ (rot32 re 11)) ^^^ (rot32 re 25))) ((re &&& rf) ^^^ ((not32 re) &&& rg))) (kN i) : Nat) : Int))) (fun _ => congrArg (Value.int .u32) (wrap_add32 (add32 (add32 rh (((rot32 re 6) ^^^ (rot32 re 11)) ^^^ (rot32 re 25))) ((re &&& rf) ^^^ ((not32 re) &&& rg))) (kN i))) <| cR [[]] <| cX (o_sem _ (fun _ => do pure (Next.value (← Instr.indexAt 78 (pt (nb ρ2 2)) (.int .i64 ((i : Nat) : Int))))) (fun _ => (.pointer (some ⟨nb ρ2 2, i, none⟩))) (fun _ => by kernel_rfl) (fun _ => by kernel_rfl) (fun _ w => run_idx_nat (n := ((i : Nat) : Int)) (i := i) Tryd.underlying78 Tryd.sizeOf34 ((by have := of_decide_eq_true hb1; have := hi; omega)) w)) <| cX (o_ld _ 2 34 (fun _ => nb ρ2 2) (fun _ => i) (fun _ => (rowK .u32 64 (wN X))) 78 (0, 0) (fun _ => (.int .u32 ((wN X i : Nat) : Int))) (fun _ => by kernel_rfl) Tryd.isAgg34 (fun _ => (rowK_get (by have := of_decide_eq_true hb1; have := hi; omega)))) <| cA (fun _ => (.int .u32 ((add32 (add32 (add32 (add32 rh (((rot32 re 6) ^^^ (rot32 re 11)) ^^^ (rot32 re 25))) ((re &&& rf) ^^^ ((not32 re) &&& rg))) (kN i)) (wN X i) : Nat) : Int))) (fun _ => congrArg (Value.int .u32) (wrap_add32 (add32 (add32 (add32 rh (((rot32 re 6) ^^^ (rot32 re 11)) ^^^ (rot32 re 25))) ((re &&& rf) ^^^ ((not32 re) &&& rg))) (kN i)) (wN X i))) <| cR [[]] <| cN) (fun _ => ?_)
    refine sS Tryd.f45 21 [2, 4, 5, 6, 7, 8, 9, 10, 11, 12, 13, 15, 16, 35] [] (fun _ => [(.int .u32 ((ra : Nat) : Int)), (.int .u32 ((rot32 ra 2 : Nat) : Int)), (.int .u32 ((ra : Nat) : Int)), (.int .u32 ((rot32 ra 13 : Nat) : Int)), (.int .u32 (((rot32 ra 2) ^^^ (rot32 ra 13) : Nat) : Int)), (.int .u32 ((ra : Nat) : Int)), (.int .u32 ((rot32 ra 22 : Nat) : Int)), (.int .u32 ((((rot32 ra 2) ^^^ (rot32 ra 13)) ^^^ (rot32 ra 22) : Nat) : Int)), (.int .u32 ((ra : Nat) : Int)), (.int .u32 ((rb : Nat) : Int)), (.int .u32 ((ra &&& rb : Nat) : Int)), (.int .u32 ((ra : Nat) : Int)), (.int .u32 ((rc : Nat) : Int)), (.int .u32 ((ra &&& rc : Nat) : Int)), (.int .u32 (((ra &&& rb) ^^^ (ra &&& rc) : Nat) : Int)), (.int .u32 ((rb : Nat) : Int)), (.int .u32 ((rc : Nat) : Int)), (.int .u32 ((rb &&& rc : Nat) : Int)), (.int .u32 ((((ra &&& rb) ^^^ (ra &&& rc)) ^^^ (rb &&& rc) : Nat) : Int)), (.int .u32 ((add32 (((rot32 ra 2) ^^^ (rot32 ra 13)) ^^^ (rot32 ra 22)) (((ra &&& rb) ^^^ (ra &&& rc)) ^^^ (rb &&& rc)) : Nat) : Int)), (.int .u32 ((add32 (((rot32 ra 2) ^^^ (rot32 ra 13)) ^^^ (rot32 ra 22)) (((ra &&& rb) ^^^ (ra &&& rc)) ^^^ (rb &&& rc)) : Nat) : Int))]) (fun _ => []) (cR [[]] <| cC (fun _ w => rotr_any ra 2 (ho.1) (by decide) w) <| cR [[]] <| cC (fun _ w => rotr_any ra 13 (ho.1) (by decide) w) <| cA (v := fun ρ => (.int .u32 (bits .xor .u32 ((rot32 ra 2 : Nat) : Int) ((rot32 ra 13 : Nat) : Int)))) (fun _ => (.int .u32 (((rot32 ra 2) ^^^ (rot32 ra 13) : Nat) : Int))) (fun _ => congrArg (Value.int .u32) (xor32 (rot32_lt _ (ho.1)) (rot32_lt _ (ho.1)))) <| cR [[]] <| cC (fun _ w => rotr_any ra 22 (ho.1) (by decide) w) <| cA (v := fun ρ => (.int .u32 (bits .xor .u32 (((rot32 ra 2) ^^^ (rot32 ra 13) : Nat) : Int) ((rot32 ra 22 : Nat) : Int)))) (fun _ => (.int .u32 ((((rot32 ra 2) ^^^ (rot32 ra 13)) ^^^ (rot32 ra 22) : Nat) : Int))) (fun _ => congrArg (Value.int .u32) (xor32 (xor32_lt (rot32_lt _ (ho.1)) (rot32_lt _ (ho.1))) (rot32_lt _ (ho.1)))) <| cR [[], []] <| cA (fun _ => (.int .u32 ((ra &&& rb : Nat) : Int))) (fun _ => congrArg (Value.int .u32) (and32 (ho.1) (ho.2.1))) <| cR [[], []] <| cA (fun _ => (.int .u32 ((ra &&& rc : Nat) : Int))) (fun _ => congrArg (Value.int .u32) (and32 (ho.1) (ho.2.2.1))) <| cA (v := fun ρ => (.int .u32 (bits .xor .u32 ((ra &&& rb : Nat) : Int) ((ra &&& rc : Nat) : Int)))) (fun _ => (.int .u32 (((ra &&& rb) ^^^ (ra &&& rc) : Nat) : Int))) (fun _ => congrArg (Value.int .u32) (xor32 (and32_lt _ (ho.1)) (and32_lt _ (ho.1)))) <| cR [[], []] <| cA (fun _ => (.int .u32 ((rb &&& rc : Nat) : Int))) (fun _ => congrArg (Value.int .u32) (and32 (ho.2.1) (ho.2.2.1))) <| cA (v := fun ρ => (.int .u32 (bits .xor .u32 (((ra &&& rb) ^^^ (ra &&& rc) : Nat) : Int) ((rb &&& rc : Nat) : Int)))) (fun _ => (.int .u32 ((((ra &&& rb) ^^^ (ra &&& rc)) ^^^ (rb &&& rc) : Nat) : Int))) (fun _ => congrArg (Value.int .u32) (xor32 (xor32_lt (and32_lt _ (ho.1)) (and32_lt _ (ho.1))) (and32_lt _ (ho.2.1)))) <| cA (fun _ => (.int .u32 ((add32 (((rot32 ra 2) ^^^ (rot32 ra 13)) ^^^ (rot32 ra 22)) (((ra &&& rb) ^^^ (ra &&& rc)) ^^^ (rb &&& rc)) : Nat) : Int))) (fun _ => congrArg (Value.int .u32) (wrap_add32 (((rot32 ra 2) ^^^ (rot32 ra 13)) ^^^ (rot32 ra 22)) (((ra &&& rb) ^^^ (ra &&& rc)) ^^^ (rb &&& rc)))) <| cR [[]] <| cN) (fun _ => ?_)
    refine rS Tryd.f45 20 [2, 4, 5, 6, 7, 8, 9, 10, 11, 12, 13, 35] [] (fun _ => [(.int .u32 ((add32 (add32 (add32 (add32 rh (((rot32 re 6) ^^^ (rot32 re 11)) ^^^ (rot32 re 25))) ((re &&& rf) ^^^ ((not32 re) &&& rg))) (kN i)) (wN X i) : Nat) : Int)), (.int .u32 ((add32 (((rot32 ra 2) ^^^ (rot32 ra 13)) ^^^ (rot32 ra 22)) (((ra &&& rb) ^^^ (ra &&& rc)) ^^^ (rb &&& rc)) : Nat) : Int)), (.int .u32 ((add32 (add32 (add32 (add32 (add32 rh (((rot32 re 6) ^^^ (rot32 re 11)) ^^^ (rot32 re 25))) ((re &&& rf) ^^^ ((not32 re) &&& rg))) (kN i)) (wN X i)) (add32 (((rot32 ra 2) ^^^ (rot32 ra 13)) ^^^ (rot32 ra 22)) (((ra &&& rb) ^^^ (ra &&& rc)) ^^^ (rb &&& rc))) : Nat) : Int)), (.int .u32 ((ra : Nat) : Int)), (.int .u32 ((rb : Nat) : Int)), (.int .u32 ((rc : Nat) : Int)), (.int .u32 ((rd : Nat) : Int)), (.int .u32 ((add32 (add32 (add32 (add32 rh (((rot32 re 6) ^^^ (rot32 re 11)) ^^^ (rot32 re 25))) ((re &&& rf) ^^^ ((not32 re) &&& rg))) (kN i)) (wN X i) : Nat) : Int)), (.int .u32 ((add32 rd (add32 (add32 (add32 (add32 rh (((rot32 re 6) ^^^ (rot32 re 11)) ^^^ (rot32 re 25))) ((re &&& rf) ^^^ ((not32 re) &&& rg))) (kN i)) (wN X i)) : Nat) : Int)), (.int .u32 ((re : Nat) : Int)), (.int .u32 ((rf : Nat) : Int)), (.int .u32 ((rg : Nat) : Int)), (.int .u32 ((add32 (add32 (add32 (add32 (add32 rh (((rot32 re 6) ^^^ (rot32 re 11)) ^^^ (rot32 re 25))) ((re &&& rf) ^^^ ((not32 re) &&& rg))) (kN i)) (wN X i)) (add32 (((rot32 ra 2) ^^^ (rot32 ra 13)) ^^^ (rot32 ra 22)) (((ra &&& rb) ^^^ (ra &&& rc)) ^^^ (rb &&& rc))) : Nat) : Int)), (.int .u32 ((ra : Nat) : Int)), (.int .u32 ((rb : Nat) : Int)), (.int .u32 ((rc : Nat) : Int)), (.int .u32 ((add32 rd (add32 (add32 (add32 (add32 rh (((rot32 re 6) ^^^ (rot32 re 11)) ^^^ (rot32 re 25))) ((re &&& rf) ^^^ ((not32 re) &&& rg))) (kN i)) (wN X i)) : Nat) : Int)), (.int .u32 ((re : Nat) : Int)), (.int .u32 ((rf : Nat) : Int)), (.int .u32 ((rg : Nat) : Int))]) (fun _ => []) (cR [[], []] <| cA (fun _ => (.int .u32 ((add32 (add32 (add32 (add32 (add32 rh (((rot32 re 6) ^^^ (rot32 re 11)) ^^^ (rot32 re 25))) ((re &&& rf) ^^^ ((not32 re) &&& rg))) (kN i)) (wN X i)) (add32 (((rot32 ra 2) ^^^ (rot32 ra 13)) ^^^ (rot32 ra 22)) (((ra &&& rb) ^^^ (ra &&& rc)) ^^^ (rb &&& rc))) : Nat) : Int))) (fun _ => congrArg (Value.int .u32) (wrap_add32 (add32 (add32 (add32 (add32 rh (((rot32 re 6) ^^^ (rot32 re 11)) ^^^ (rot32 re 25))) ((re &&& rf) ^^^ ((not32 re) &&& rg))) (kN i)) (wN X i)) (add32 (((rot32 ra 2) ^^^ (rot32 ra 13)) ^^^ (rot32 ra 22)) (((ra &&& rb) ^^^ (ra &&& rc)) ^^^ (rb &&& rc))))) <| cR [[], [], [], [], []] <| cA (fun _ => (.int .u32 ((add32 rd (add32 (add32 (add32 (add32 rh (((rot32 re 6) ^^^ (rot32 re 11)) ^^^ (rot32 re 25))) ((re &&& rf) ^^^ ((not32 re) &&& rg))) (kN i)) (wN X i)) : Nat) : Int))) (fun _ => congrArg (Value.int .u32) (wrap_add32 rd (add32 (add32 (add32 (add32 rh (((rot32 re 6) ^^^ (rot32 re 11)) ^^^ (rot32 re 25))) ((re &&& rf) ^^^ ((not32 re) &&& rg))) (kN i)) (wN X i)))) <| cR [[], [], [], [], [], [], [], [], [], [], []] <| cN) (fun _ => ?_)
    refine mt_block_n ?_
    refine mt_then ?_
    refine rS Tryd.f45 2 [2, 4, 5, 6, 7, 8, 9, 10, 11, 12, 13, 35] [] (fun _ => [(.int .i64 ((i + 1 : Nat) : Int)), (.int .i64 ((i + 1 : Nat) : Int))]) (fun _ => []) (cA (v := fun ρ => (.int .i64 (IntKind.i64.wrap (((i : Nat) : Int) + 1)))) (fun _ => (.int .i64 ((i + 1 : Nat) : Int))) (fun _ => congrArg (Value.int .i64) (wrap_addN i 1 (by have := of_decide_eq_true hb1; have := hi; omega))) <| cR [[]] <| cN) (fun _ => ?_)
    exact mN (i + 1, add32 (add32 (add32 (add32 (add32 rh (((rot32 re 6) ^^^ (rot32 re 11)) ^^^ (rot32 re 25))) ((re &&& rf) ^^^ ((not32 re) &&& rg))) (kN i)) (wN X i)) (add32 (((rot32 ra 2) ^^^ (rot32 ra 13)) ^^^ (rot32 ra 22)) (((ra &&& rb) ^^^ (ra &&& rc)) ^^^ (rb &&& rc))), ra, rb, rc, add32 rd (add32 (add32 (add32 (add32 rh (((rot32 re 6) ^^^ (rot32 re 11)) ^^^ (rot32 re 25))) ((re &&& rf) ^^^ ((not32 re) &&& rg))) (kN i)) (wN X i)), re, rf, rg) (by show 64 - (i + 1) < 64 - i; have := of_decide_eq_true hb1; have := hi; omega) (⟨(by have := of_decide_eq_true hb1; have := hi; omega), rnds_next hr⟩) []
  ·
    rw [hb1]
    refine ok_exit ?_
    refine mt_then_e ?_
    refine mt_then_e ?_
    refine mt_block_h ?_
    refine mt_then ?_
    refine sS Tryd.f45 34 [4] [0, 1, 0] (fun _ => [(pt (nb ρ1 0)), (.int .u32 ((s0 : Nat) : Int)), (.int .u32 ((ra : Nat) : Int)), (.int .u32 ((add32 s0 ra : Nat) : Int)), (.pointer (some ⟨nb ρ1 0, 1, none⟩)), (.int .u32 ((s1 : Nat) : Int)), (.int .u32 ((rb : Nat) : Int)), (.int .u32 ((add32 s1 rb : Nat) : Int)), (.pointer (some ⟨nb ρ1 0, 2, none⟩)), (.int .u32 ((s2 : Nat) : Int)), (.int .u32 ((rc : Nat) : Int)), (.int .u32 ((add32 s2 rc : Nat) : Int)), (.pointer (some ⟨nb ρ1 0, 3, none⟩)), (.int .u32 ((s3 : Nat) : Int)), (.int .u32 ((rd : Nat) : Int)), (.int .u32 ((add32 s3 rd : Nat) : Int)), (.pointer (some ⟨nb ρ1 0, 4, none⟩)), (.int .u32 ((s4 : Nat) : Int)), (.int .u32 ((re : Nat) : Int)), (.int .u32 ((add32 s4 re : Nat) : Int)), (.pointer (some ⟨nb ρ1 0, 5, none⟩)), (.int .u32 ((s5 : Nat) : Int)), (.int .u32 ((rf : Nat) : Int)), (.int .u32 ((add32 s5 rf : Nat) : Int)), (.pointer (some ⟨nb ρ1 0, 6, none⟩)), (.int .u32 ((s6 : Nat) : Int)), (.int .u32 ((rg : Nat) : Int)), (.int .u32 ((add32 s6 rg : Nat) : Int)), (.pointer (some ⟨nb ρ1 0, 7, none⟩)), (.int .u32 ((s7 : Nat) : Int)), (.int .u32 ((rh : Nat) : Int)), (.int .u32 ((add32 s7 rh : Nat) : Int)), (.agg #[(.int .u32 ((add32 s0 ra : Nat) : Int)), (.int .u32 ((add32 s1 rb : Nat) : Int)), (.int .u32 ((add32 s2 rc : Nat) : Int)), (.int .u32 ((add32 s3 rd : Nat) : Int)), (.int .u32 ((add32 s4 re : Nat) : Int)), (.int .u32 ((add32 s5 rf : Nat) : Int)), (.int .u32 ((add32 s6 rg : Nat) : Int)), (.int .u32 ((add32 s7 rh : Nat) : Int))]), undef]) (fun _ => [(33, { puts := [(1, nb ρ1 2, (.cells #[(.int .u32 ((add32 s0 ra : Nat) : Int)), (.int .u32 ((add32 s1 rb : Nat) : Int)), (.int .u32 ((add32 s2 rc : Nat) : Int)), (.int .u32 ((add32 s3 rd : Nat) : Int)), (.int .u32 ((add32 s4 re : Nat) : Int)), (.int .u32 ((add32 s5 rf : Nat) : Int)), (.int .u32 ((add32 s6 rg : Nat) : Int)), (.int .u32 ((add32 s7 rh : Nat) : Int))] 73 (0, 0)))] })]) (cR [[], [0], []] <| cA (fun _ => (.int .u32 ((add32 s0 ra : Nat) : Int))) (fun _ => congrArg (Value.int .u32) (wrap_add32 s0 ra)) <| cR [[], [0], []] <| cA (fun _ => (.int .u32 ((add32 s1 rb : Nat) : Int))) (fun _ => congrArg (Value.int .u32) (wrap_add32 s1 rb)) <| cR [[], [0], []] <| cA (fun _ => (.int .u32 ((add32 s2 rc : Nat) : Int))) (fun _ => congrArg (Value.int .u32) (wrap_add32 s2 rc)) <| cR [[], [0], []] <| cA (fun _ => (.int .u32 ((add32 s3 rd : Nat) : Int))) (fun _ => congrArg (Value.int .u32) (wrap_add32 s3 rd)) <| cR [[], [0], []] <| cA (fun _ => (.int .u32 ((add32 s4 re : Nat) : Int))) (fun _ => congrArg (Value.int .u32) (wrap_add32 s4 re)) <| cR [[], [0], []] <| cA (fun _ => (.int .u32 ((add32 s5 rf : Nat) : Int))) (fun _ => congrArg (Value.int .u32) (wrap_add32 s5 rf)) <| cR [[], [0], []] <| cA (fun _ => (.int .u32 ((add32 s6 rg : Nat) : Int))) (fun _ => congrArg (Value.int .u32) (wrap_add32 s6 rg)) <| cR [[], [0], []] <| cA (fun _ => (.int .u32 ((add32 s7 rh : Nat) : Int))) (fun _ => congrArg (Value.int .u32) (wrap_add32 s7 rh)) <| cR [[], [1]] <| cN) (fun _ => ?_)
    refine ok_ret ?_
    exact mR (v := (.agg #[(.int .u32 ((add32 s0 ra : Nat) : Int)), (.int .u32 ((add32 s1 rb : Nat) : Int)), (.int .u32 ((add32 s2 rc : Nat) : Int)), (.int .u32 ((add32 s3 rd : Nat) : Int)), (.int .u32 ((add32 s4 re : Nat) : Int)), (.int .u32 ((add32 s5 rf : Nat) : Int)), (.int .u32 ((add32 s6 rg : Nat) : Int)), (.int .u32 ((add32 s7 rh : Nat) : Int))])) (fun _ hS => ⟨congrArg Ending.returned ((by rw [cmp_end hr (show i = 64 by have := of_decide_eq_false hb1; have := hi; omega)])), hS.bel⟩)
end Go.Proofs.YtlkbhiaoolddmaaDoor

/-! SHA-256: digests: the walks. -/
namespace Go.Proofs.YtlkbhiaoolddmaaDoor
open Go Go.RowKit

theorem sum_any (a : Option Addr) (c : Nat) (B : List UInt8) (h0 : 0 < B.length) (hl : B.length + 73 ≤ 140737488351232) (w0 : World) (hf0 : Bs w0 a c B) (hf1 : Kb w0 1 (rowK .u32 64 kN)) (hf2 : Kb w0 0 #[(.int .u32 1779033703), (.int .u32 3144134277), (.int .u32 1013904242), (.int .u32 2773480762), (.int .u32 1359893119), (.int .u32 2600822924), (.int .u32 528734635), (.int .u32 1541459225)]) : Calls Tryd.prog 35 #[(.slice a (B).length c)] w0 (fun ε w' => ε = .returned (.agg (hB (shaN B))) ∧ Below w0.heap.size w0 w') := by
  refine Calls.of_ok (n := 48) (F := (fun w => Bs w a c B ∧ Kb w 1 (rowK .u32 64 kN) ∧ Kb w 0 #[(.int .u32 1779033703), (.int .u32 3144134277), (.int .u32 1013904242), (.int .u32 2773480762), (.int .u32 1359893119), (.int .u32 2600822924), (.int .u32 528734635), (.int .u32 1541459225)] ∧ True)) Tryd.func35 rfl rfl rfl (by simp) (hf0.pers0.and (hf1.pers0.and (hf2.pers0.and persT))) ?_
  refine sS Tryd.f35 1 [0, 2] [] (fun ρ => [(pt (nb ρ 0))]) (fun ρ => [(0, { news := [(nb ρ 0, (.cells (hB 0) 36 (0, 0)))] })]) (cR [[]] <| cN) (fun ρ1 => ?_)
  refine sSf Tryd.f35 8 [2, 3] [1, 0] (fun ρ => [(.slice a (B).length c), (.slice a (B).length c), (.int .i64 (((B).length : Nat) : Int)), (.int .u64 (((B).length : Nat) : Int)), (.slice (oa ρ 4) (padN ((B).length)).length (nb ρ 4)), (.slice (some ⟨nb ρ 5, 0, none⟩) 2 2), (.slice (oa ρ 6) (B ++ (padN ((B).length))).length (nb ρ 6)), (.slice (oa ρ 6) (B ++ (padN ((B).length))).length (nb ρ 6))]) (fun ρ => [(5, { news := [(nb ρ 5, (.cells #[(.slice a (B).length c), (.slice (oa ρ 4) (padN ((B).length)).length (nb ρ 4))] 56 (0, 0)))] })]) (fun ρ => [(4, fun w => Fs w0 w (oa ρ 4) (nb ρ 4) (padN ((B).length))), (6, fun w => Fs w0 w (oa ρ 6) (nb ρ 6) (B ++ (padN ((B).length))))]) (fun ρ => (fun w => Bs w a c B ∧ Kb w 1 (rowK .u32 64 kN) ∧ Kb w 0 #[(.int .u32 1779033703), (.int .u32 3144134277), (.int .u32 1013904242), (.int .u32 2773480762), (.int .u32 1359893119), (.int .u32 2600822924), (.int .u32 528734635), (.int .u32 1541459225)] ∧ Fs w0 w (oa ρ 4) (nb ρ 4) (padN ((B).length)) ∧ Fs w0 w (oa ρ 6) (nb ρ 6) (B ++ (padN ((B).length))) ∧ True)) (fun _ => True) (fun _ _ hF hf => ⟨⟨hF.1, hF.2.1, hF.2.2.1, hf 4, hf 6, trivial⟩, trivial⟩) (cR [[], [], []] <| cA (v := fun ρ => (.int .u64 (IntKind.u64.wrap ((((B).length : Nat) : Int))))) (fun _ => (.int .u64 (((B).length : Nat) : Int))) (fun _ => congrArg (Value.int .u64) (u64N (by have := hl; have := msg_len B; have := zeros_lt B.length; omega))) <| cX (o_callB _ 44 (fun _ => #[(.int .u64 (((B).length : Nat) : Int))]) (fun _ α κ => (.slice α (padN ((B).length)).length κ)) (fun _ => padN ((B).length)) (fun _ _ => (by kernel_rfl)) (fun _ _ => (by kernel_rfl)) (fun _ _ => (by kernel_rfl)) (fun _ _ => (by kernel_rfl)) (fun _ _ w _ => pad_any ((B).length) (by have := hl; have := msg_len B; have := zeros_lt B.length; omega) w )) <| cR [[]] <| cX (o_callB _ 36 (fun ρ => #[(.slice (some ⟨nb ρ 5, 0, none⟩) 2 2)]) (fun _ α κ => (.slice α (B ++ (padN ((B).length))).length κ)) (fun _ => B ++ (padN ((B).length))) (fun _ _ => (by kernel_rfl)) (fun _ _ => (by kernel_rfl)) (fun _ _ => (by kernel_rfl)) (fun _ _ => (by kernel_rfl)) (fun ρ _ w hG => shrow2_any (nb ρ 5) a c B (oa ρ 4) (nb ρ 4) (padN ((B).length)) (by have := pad_length B.length; have := zeros_lt B.length; have := hl; omega) h0 w (Kb.of_block (hG.known (g := nb ρ 5) (o := (.cells #[(.slice a (B).length c), (.slice (oa ρ 4) (padN ((B).length)).length (nb ρ 4))] 56 (0, 0))) 41 (by kernel_rfl) (by kernel_rfl))) hG.facts0.now.1 ((show Fs w0 w (oa ρ 4) (nb ρ 4) (padN ((B).length)) from (hG.facts 4 rfl).now).1))) <| cR [[]] <| cN) (fun ρ2 _ => ?_)
  refine sS Tryd.f35 3 [2, 3, 4] [] (fun ρ => [(.agg #[(.int .u32 1779033703), (.int .u32 3144134277), (.int .u32 1013904242), (.int .u32 2773480762), (.int .u32 1359893119), (.int .u32 2600822924), (.int .u32 528734635), (.int .u32 1541459225)]), (pt (nb ρ 1)), undef]) (fun ρ => [(1, { news := [(nb ρ 1, (.cells #[(.int .u32 0), (.int .u32 0), (.int .u32 0), (.int .u32 0), (.int .u32 0), (.int .u32 0), (.int .u32 0), (.int .u32 0)] 73 (0, 0)))] }), (2, { puts := [(9, nb ρ 1, (.cells #[(.int .u32 1779033703), (.int .u32 3144134277), (.int .u32 1013904242), (.int .u32 2773480762), (.int .u32 1359893119), (.int .u32 2600822924), (.int .u32 528734635), (.int .u32 1541459225)] 73 (0, 0)))] })]) (cX (o_semF _ (fun _ => do pure (Next.value (← Instr.loadAt 73 (pt 0)))) (fun _ => (.agg #[(.int .u32 1779033703), (.int .u32 3144134277), (.int .u32 1013904242), (.int .u32 2773480762), (.int .u32 1359893119), (.int .u32 2600822924), (.int .u32 528734635), (.int .u32 1541459225)])) (fun _ => (by kernel_rfl)) (fun _ => (by kernel_rfl)) (fun _ _ _ hG => ld_blkA (vs := [(.int .u32 1779033703), (.int .u32 3144134277), (.int .u32 1013904242), (.int .u32 2773480762), (.int .u32 1359893119), (.int .u32 2600822924), (.int .u32 528734635), (.int .u32 1541459225)]) Tryd.isAgg73 Tryd.sizeOf73 (hG.facts0.now.2.2.1) rfl (fun _ _ => by rw [Nat.zero_add]; simp)) (fun _ _ _ _ => persT)) <| cR [[], [9]] <| cN) (fun ρ3 => ?_)
  refine ok_seq ?_
  refine sS Tryd.f35 4 [2, 3, 4, 18, 19] [] (fun _ => [(.slice (oa ρ2 6) (B ++ (padN ((B).length))).length (nb ρ2 6)), (.int .i64 (((B ++ (padN ((B).length))).length : Nat) : Int)), (.int .i64 ((((B ++ (padN ((B).length))).length) / 64 : Nat) : Int)), (.int .i64 0)]) (fun _ => []) (cR [[], []] <| cB (a := fun ρ => (.int .i64 (((B ++ (padN ((B).length))).length : Nat) : Int))) (b := fun ρ => (.int .i64 64)) (v := fun ρ => (.int .i64 ((((B ++ (padN ((B).length))).length) / 64 : Nat) : Int))) .quo 3 (fun _ w => run_quoI (n := ((B ++ (padN ((B).length))).length)) (d := 64) (by decide) (by have := hl; have := msg_len B; have := zeros_lt B.length; omega) w) <| cR [[]] <| cN) (fun _ => ?_)
  refine ok_block ?_
  refine oL (σ := Nat × Nat × Nat × Nat × Nat × Nat × Nat × Nat × Nat) (fun ⟨i, _, _, _, _, _, _, _, _⟩ => [(2, (pt (nb ρ1 0))), (3, (.slice (oa ρ2 6) (B ++ (padN ((B).length))).length (nb ρ2 6))), (4, (pt (nb ρ3 1))), (18, (.int .i64 ((((B ++ (padN ((B).length))).length) / 64 : Nat) : Int))), (19, (.int .i64 ((i : Nat) : Int)))]) (fun ⟨_, t0, t1, t2, t3, t4, t5, t6, t7⟩ => [(nb ρ1 0, (.cells (hB 0) 36 (0, 0))), (nb ρ3 1, (.cells #[(.int .u32 ((t0 : Nat) : Int)), (.int .u32 ((t1 : Nat) : Int)), (.int .u32 ((t2 : Nat) : Int)), (.int .u32 ((t3 : Nat) : Int)), (.int .u32 ((t4 : Nat) : Int)), (.int .u32 ((t5 : Nat) : Int)), (.int .u32 ((t6 : Nat) : Int)), (.int .u32 ((t7 : Nat) : Int))] 73 (0, 0)))]) (fun ⟨i, _, _, _, _, _, _, _, _⟩ => (B ++ (padN ((B).length))).length / 64 - i)
    (fun ⟨i, t0, t1, t2, t3, t4, t5, t6, t7⟩ => (i ≤ (B ++ (padN ((B).length))).length / 64) ∧ (shaS (B ++ (padN ((B).length))) i = (t0, t1, t2, t3, t4, t5, t6, t7))) (0, 1779033703, 3144134277, 1013904242, 2773480762, 1359893119, 2600822924, 528734635, 1541459225) (⟨Nat.zero_le _, rfl⟩) [] ?_
  rintro ⟨i, t0, t1, t2, t3, t4, t5, t6, t7⟩ ⟨hi, hQ⟩
  change Ok Tryd.prog _ _ 48 [(2, (pt (nb ρ1 0))), (3, (.slice (oa ρ2 6) (B ++ (padN ((B).length))).length (nb ρ2 6))), (4, (pt (nb ρ3 1))), (18, (.int .i64 ((((B ++ (padN ((B).length))).length) / 64 : Nat) : Int))), (19, (.int .i64 ((i : Nat) : Int)))] _ [(nb ρ1 0, (.cells (hB 0) 36 (0, 0))), (nb ρ3 1, (.cells #[(.int .u32 ((t0 : Nat) : Int)), (.int .u32 ((t1 : Nat) : Int)), (.int .u32 ((t2 : Nat) : Int)), (.int .u32 ((t3 : Nat) : Int)), (.int .u32 ((t4 : Nat) : Int)), (.int .u32 ((t5 : Nat) : Int)), (.int .u32 ((t6 : Nat) : Int)), (.int .u32 ((t7 : Nat) : Int))] 73 (0, 0)))] (fun w => Bs w a c B ∧ Kb w 1 (rowK .u32 64 kN) ∧ Kb w 0 #[(.int .u32 1779033703), (.int .u32 3144134277), (.int .u32 1013904242), (.int .u32 2773480762), (.int .u32 1359893119), (.int .u32 2600822924), (.int .u32 528734635), (.int .u32 1541459225)] ∧ Fs w0 w (oa ρ2 4) (nb ρ2 4) (padN ((B).length)) ∧ Fs w0 w (oa ρ2 6) (nb ρ2 6) (B ++ (padN ((B).length))) ∧ True)
  refine sS Tryd.f35 1 [2, 3, 4, 18, 19, 20] [] (fun _ => [(.bool (decide (((i : Nat) : Int) < ((((B ++ (padN ((B).length))).length) / 64 : Nat) : Int))))]) (fun _ => []) (cR [[]] <| cN) (fun _ => ?_)
  refine ok_seq ?_
  refine oC (decide (((i : Nat) : Int) < ((((B ++ (padN ((B).length))).length) / 64 : Nat) : Int))) (fun hb1 => ?_) (fun hb1 => ?_)
  ·
    rw [hb1]
    refine ok_skip ?_
    refine mt_then ?_
    refine ok_seq ?_
    refine ok_block ?_
    refine sS Tryd.f35 2 [2, 3, 4, 5, 18, 19] [] (fun _ => [(.int .i64 ((i : Nat) : Int)), (.int .i64 ((i : Nat) : Int))]) (fun _ => []) (cR [[], []] <| cN) (fun _ => ?_)
    refine rDf Tryd.f35 [0, 0, 0, 4, 14, 30, 62, 127, 255] 9 [2, 3, 4, 18, 19] [] (fun _ => [(.agg #[(.int .u32 ((t0 : Nat) : Int)), (.int .u32 ((t1 : Nat) : Int)), (.int .u32 ((t2 : Nat) : Int)), (.int .u32 ((t3 : Nat) : Int)), (.int .u32 ((t4 : Nat) : Int)), (.int .u32 ((t5 : Nat) : Int)), (.int .u32 ((t6 : Nat) : Int)), (.int .u32 ((t7 : Nat) : Int))]), (.slice (oa ρ2 6) (B ++ (padN ((B).length))).length (nb ρ2 6)), (.int .i64 ((i : Nat) : Int)), (.int .i64 ((64 * i : Nat) : Int)), (.slice (sadr (oa ρ2 6) (64 * i) (nb ρ2 6)) (mid (B ++ (padN ((B).length))) (64 * i) ((B ++ (padN ((B).length))).length)).length ((nb ρ2 6) - (64 * i))), (.pointer (sadr (oa ρ2 6) (64 * i) (nb ρ2 6))), (.agg ((bs ((mid (B ++ (padN ((B).length))) (64 * i) ((B ++ (padN ((B).length))).length)).take 64)).toArray)), (.agg #[(.int .u32 (((cmpS (t0, t1, t2, t3, t4, t5, t6, t7) ((mid (B ++ (padN ((B).length))) (64 * i) ((B ++ (padN ((B).length))).length)).take 64)).1 : Nat) : Int)), (.int .u32 (((cmpS (t0, t1, t2, t3, t4, t5, t6, t7) ((mid (B ++ (padN ((B).length))) (64 * i) ((B ++ (padN ((B).length))).length)).take 64)).2.1 : Nat) : Int)), (.int .u32 (((cmpS (t0, t1, t2, t3, t4, t5, t6, t7) ((mid (B ++ (padN ((B).length))) (64 * i) ((B ++ (padN ((B).length))).length)).take 64)).2.2.1 : Nat) : Int)), (.int .u32 (((cmpS (t0, t1, t2, t3, t4, t5, t6, t7) ((mid (B ++ (padN ((B).length))) (64 * i) ((B ++ (padN ((B).length))).length)).take 64)).2.2.2.1 : Nat) : Int)), (.int .u32 (((cmpS (t0, t1, t2, t3, t4, t5, t6, t7) ((mid (B ++ (padN ((B).length))) (64 * i) ((B ++ (padN ((B).length))).length)).take 64)).2.2.2.2.1 : Nat) : Int)), (.int .u32 (((cmpS (t0, t1, t2, t3, t4, t5, t6, t7) ((mid (B ++ (padN ((B).length))) (64 * i) ((B ++ (padN ((B).length))).length)).take 64)).2.2.2.2.2.1 : Nat) : Int)), (.int .u32 (((cmpS (t0, t1, t2, t3, t4, t5, t6, t7) ((mid (B ++ (padN ((B).length))) (64 * i) ((B ++ (padN ((B).length))).length)).take 64)).2.2.2.2.2.2.1 : Nat) : Int)), (.int .u32 (((cmpS (t0, t1, t2, t3, t4, t5, t6, t7) ((mid (B ++ (padN ((B).length))) (64 * i) ((B ++ (padN ((B).length))).length)).take 64)).2.2.2.2.2.2.2 : Nat) : Int))]), undef]) (fun _ => [(8, { puts := [(1, nb ρ3 1, (.cells #[(.int .u32 (((cmpS (t0, t1, t2, t3, t4, t5, t6, t7) ((mid (B ++ (padN ((B).length))) (64 * i) ((B ++ (padN ((B).length))).length)).take 64)).1 : Nat) : Int)), (.int .u32 (((cmpS (t0, t1, t2, t3, t4, t5, t6, t7) ((mid (B ++ (padN ((B).length))) (64 * i) ((B ++ (padN ((B).length))).length)).take 64)).2.1 : Nat) : Int)), (.int .u32 (((cmpS (t0, t1, t2, t3, t4, t5, t6, t7) ((mid (B ++ (padN ((B).length))) (64 * i) ((B ++ (padN ((B).length))).length)).take 64)).2.2.1 : Nat) : Int)), (.int .u32 (((cmpS (t0, t1, t2, t3, t4, t5, t6, t7) ((mid (B ++ (padN ((B).length))) (64 * i) ((B ++ (padN ((B).length))).length)).take 64)).2.2.2.1 : Nat) : Int)), (.int .u32 (((cmpS (t0, t1, t2, t3, t4, t5, t6, t7) ((mid (B ++ (padN ((B).length))) (64 * i) ((B ++ (padN ((B).length))).length)).take 64)).2.2.2.2.1 : Nat) : Int)), (.int .u32 (((cmpS (t0, t1, t2, t3, t4, t5, t6, t7) ((mid (B ++ (padN ((B).length))) (64 * i) ((B ++ (padN ((B).length))).length)).take 64)).2.2.2.2.2.1 : Nat) : Int)), (.int .u32 (((cmpS (t0, t1, t2, t3, t4, t5, t6, t7) ((mid (B ++ (padN ((B).length))) (64 * i) ((B ++ (padN ((B).length))).length)).take 64)).2.2.2.2.2.2.1 : Nat) : Int)), (.int .u32 (((cmpS (t0, t1, t2, t3, t4, t5, t6, t7) ((mid (B ++ (padN ((B).length))) (64 * i) ((B ++ (padN ((B).length))).length)).take 64)).2.2.2.2.2.2.2 : Nat) : Int))] 73 (0, 0)))] })]) (fun _ => [(4, fun w => Bs w (sadr (oa ρ2 6) (64 * i) (nb ρ2 6)) ((nb ρ2 6) - (64 * i)) (mid (B ++ (padN ((B).length))) (64 * i) ((B ++ (padN ((B).length))).length)))]) (fun _ => (fun w => Bs w a c B ∧ Kb w 1 (rowK .u32 64 kN) ∧ Kb w 0 #[(.int .u32 1779033703), (.int .u32 3144134277), (.int .u32 1013904242), (.int .u32 2773480762), (.int .u32 1359893119), (.int .u32 2600822924), (.int .u32 528734635), (.int .u32 1541459225)] ∧ Fs w0 w (oa ρ2 4) (nb ρ2 4) (padN ((B).length)) ∧ Fs w0 w (oa ρ2 6) (nb ρ2 6) (B ++ (padN ((B).length))) ∧ Bs w (sadr (oa ρ2 6) (64 * i) (nb ρ2 6)) ((nb ρ2 6) - (64 * i)) (mid (B ++ (padN ((B).length))) (64 * i) ((B ++ (padN ((B).length))).length)) ∧ True)) (fun _ => True) (fun _ _ hF hf => ⟨⟨hF.1, hF.2.1, hF.2.2.1, hF.2.2.2.1, hF.2.2.2.2.1, hf 4, trivial⟩, trivial⟩) (cR [[1], [], []] <| cA (v := fun ρ => (.int .i64 (IntKind.i64.wrap (64 * ((i : Nat) : Int))))) (fun _ => (.int .i64 ((64 * i : Nat) : Int))) (fun _ => congrArg (Value.int .i64) (wrap_mulN 64 i (by have := of_decide_eq_true hb1; have := hl; have := msg_len B; have := zeros_lt B.length; have := hi; omega))) <| cX (o_semF _ (fun _ => do pure (Next.value (← Instr.sliceAt 56 (.slice (oa ρ2 6) (B ++ (padN ((B).length))).length (nb ρ2 6)) (some (.int .i64 ((64 * i : Nat) : Int))) none none))) (fun _ => (.slice (sadr (oa ρ2 6) (64 * i) (nb ρ2 6)) (mid (B ++ (padN ((B).length))) (64 * i) ((B ++ (padN ((B).length))).length)).length ((nb ρ2 6) - (64 * i)))) (fun _ => (by kernel_rfl)) (fun _ => (by kernel_rfl)) (fun _ _ _ hG => slice_bytes (l := 64 * i) (k := (B ++ (padN ((B).length))).length) Tryd.underlying56 u8i hG.facts0.now.2.2.2.2.1.1 rfl (Or.inr (congrArg (fun z => some (Value.int .i64 z)) (rfl))) (Or.inl ⟨rfl, rfl⟩) ((by have := of_decide_eq_true hb1; have := hl; have := msg_len B; have := zeros_lt B.length; have := hi; omega)) ((Nat.le_refl _))) (fun _ _ w hG => (hG.facts0).mono (fun _ hF => (hF).2.2.2.2.1.1.mid ((by have := of_decide_eq_true hb1; have := hl; have := msg_len B; have := zeros_lt B.length; have := hi; omega)) ((Nat.le_refl _))))) <| cX (o_semF _ (fun _ => do pure (Next.value (← Instr.arrayAt 75 (.slice (sadr (oa ρ2 6) (64 * i) (nb ρ2 6)) (mid (B ++ (padN ((B).length))) (64 * i) ((B ++ (padN ((B).length))).length)).length ((nb ρ2 6) - (64 * i)))))) (fun _ => (.pointer (sadr (oa ρ2 6) (64 * i) (nb ρ2 6)))) (fun _ => (by kernel_rfl)) (fun _ => (by kernel_rfl)) (fun _ _ _ _ => arr_bytes Tryd.underlying75 ((by rw [mid_length _ _ _ (Nat.le_refl _)]; have := of_decide_eq_true hb1; have := hl; have := msg_len B; have := zeros_lt B.length; have := hi; omega))) (fun _ _ _ _ => persT)) <| cX (o_semF _ (fun _ => do pure (Next.value (← Instr.loadAt 75 (.pointer (sadr (oa ρ2 6) (64 * i) (nb ρ2 6)))))) (fun _ => (.agg ((bs ((mid (B ++ (padN ((B).length))) (64 * i) ((B ++ (padN ((B).length))).length)).take 64)).toArray))) (fun _ => (by kernel_rfl)) (fun _ => (by kernel_rfl)) (fun _ _ w hG => ld_arr Tryd.isAgg75 Tryd.sizeOf75 (show Bs w (sadr (oa ρ2 6) (64 * i) (nb ρ2 6)) ((nb ρ2 6) - (64 * i)) (mid (B ++ (padN ((B).length))) (64 * i) ((B ++ (padN ((B).length))).length)) from (hG.facts 4 rfl).now) ((by rw [mid_length _ _ _ (Nat.le_refl _)]; have := of_decide_eq_true hb1; have := hl; have := msg_len B; have := zeros_lt B.length; have := hi; omega)) (by decide)) (fun _ _ _ _ => persT)) <| cX (o_callP _ 45 (fun _ => #[(.agg #[(.int .u32 ((t0 : Nat) : Int)), (.int .u32 ((t1 : Nat) : Int)), (.int .u32 ((t2 : Nat) : Int)), (.int .u32 ((t3 : Nat) : Int)), (.int .u32 ((t4 : Nat) : Int)), (.int .u32 ((t5 : Nat) : Int)), (.int .u32 ((t6 : Nat) : Int)), (.int .u32 ((t7 : Nat) : Int))]), (.agg ((bs ((mid (B ++ (padN ((B).length))) (64 * i) ((B ++ (padN ((B).length))).length)).take 64)).toArray))]) (fun _ => (.agg #[(.int .u32 (((cmpS (t0, t1, t2, t3, t4, t5, t6, t7) ((mid (B ++ (padN ((B).length))) (64 * i) ((B ++ (padN ((B).length))).length)).take 64)).1 : Nat) : Int)), (.int .u32 (((cmpS (t0, t1, t2, t3, t4, t5, t6, t7) ((mid (B ++ (padN ((B).length))) (64 * i) ((B ++ (padN ((B).length))).length)).take 64)).2.1 : Nat) : Int)), (.int .u32 (((cmpS (t0, t1, t2, t3, t4, t5, t6, t7) ((mid (B ++ (padN ((B).length))) (64 * i) ((B ++ (padN ((B).length))).length)).take 64)).2.2.1 : Nat) : Int)), (.int .u32 (((cmpS (t0, t1, t2, t3, t4, t5, t6, t7) ((mid (B ++ (padN ((B).length))) (64 * i) ((B ++ (padN ((B).length))).length)).take 64)).2.2.2.1 : Nat) : Int)), (.int .u32 (((cmpS (t0, t1, t2, t3, t4, t5, t6, t7) ((mid (B ++ (padN ((B).length))) (64 * i) ((B ++ (padN ((B).length))).length)).take 64)).2.2.2.2.1 : Nat) : Int)), (.int .u32 (((cmpS (t0, t1, t2, t3, t4, t5, t6, t7) ((mid (B ++ (padN ((B).length))) (64 * i) ((B ++ (padN ((B).length))).length)).take 64)).2.2.2.2.2.1 : Nat) : Int)), (.int .u32 (((cmpS (t0, t1, t2, t3, t4, t5, t6, t7) ((mid (B ++ (padN ((B).length))) (64 * i) ((B ++ (padN ((B).length))).length)).take 64)).2.2.2.2.2.2.1 : Nat) : Int)), (.int .u32 (((cmpS (t0, t1, t2, t3, t4, t5, t6, t7) ((mid (B ++ (padN ((B).length))) (64 * i) ((B ++ (padN ((B).length))).length)).take 64)).2.2.2.2.2.2.2 : Nat) : Int))])) (fun _ _ => (by kernel_rfl)) (fun _ => (by kernel_rfl)) (fun _ _ => (by kernel_rfl)) (fun _ _ => trivial) (fun _ _ w hG => compress_any t0 t1 t2 t3 t4 t5 t6 t7 ((mid (B ++ (padN ((B).length))) (64 * i) ((B ++ (padN ((B).length))).length)).take 64) (hQ ▸ shaS_ok (B ++ (padN ((B).length))) i) (by rw [List.length_take, mid_length _ _ _ (Nat.le_refl _)]; have := of_decide_eq_true hb1; have := hl; have := msg_len B; have := zeros_lt B.length; have := hi; omega) w hG.facts0.now.2.1)) <| cR [[1]] <| cN) (fun _ _ => ?_)
    refine mt_block_n ?_
    refine mt_then ?_
    refine rS Tryd.f35 2 [2, 3, 4, 18, 19] [] (fun _ => [(.int .i64 ((i + 1 : Nat) : Int)), (.int .i64 ((i + 1 : Nat) : Int))]) (fun _ => []) (cA (v := fun ρ => (.int .i64 (IntKind.i64.wrap (((i : Nat) : Int) + 1)))) (fun _ => (.int .i64 ((i + 1 : Nat) : Int))) (fun _ => congrArg (Value.int .i64) (wrap_addN i 1 (by have := of_decide_eq_true hb1; have := hl; have := msg_len B; have := zeros_lt B.length; have := hi; omega))) <| cR [[]] <| cN) (fun _ => ?_)
    refine mt_facts (fun w => Bs w a c B ∧ Kb w 1 (rowK .u32 64 kN) ∧ Kb w 0 #[(.int .u32 1779033703), (.int .u32 3144134277), (.int .u32 1013904242), (.int .u32 2773480762), (.int .u32 1359893119), (.int .u32 2600822924), (.int .u32 528734635), (.int .u32 1541459225)] ∧ Fs w0 w (oa ρ2 4) (nb ρ2 4) (padN ((B).length)) ∧ Fs w0 w (oa ρ2 6) (nb ρ2 6) (B ++ (padN ((B).length))) ∧ True) (fun w hF => ⟨hF.1, hF.2.1, hF.2.2.1, hF.2.2.2.1, hF.2.2.2.2.1, trivial⟩) ?_
    exact mN (i + 1, (cmpS (t0, t1, t2, t3, t4, t5, t6, t7) ((mid (B ++ (padN ((B).length))) (64 * i) ((B ++ (padN ((B).length))).length)).take 64)).1, (cmpS (t0, t1, t2, t3, t4, t5, t6, t7) ((mid (B ++ (padN ((B).length))) (64 * i) ((B ++ (padN ((B).length))).length)).take 64)).2.1, (cmpS (t0, t1, t2, t3, t4, t5, t6, t7) ((mid (B ++ (padN ((B).length))) (64 * i) ((B ++ (padN ((B).length))).length)).take 64)).2.2.1, (cmpS (t0, t1, t2, t3, t4, t5, t6, t7) ((mid (B ++ (padN ((B).length))) (64 * i) ((B ++ (padN ((B).length))).length)).take 64)).2.2.2.1, (cmpS (t0, t1, t2, t3, t4, t5, t6, t7) ((mid (B ++ (padN ((B).length))) (64 * i) ((B ++ (padN ((B).length))).length)).take 64)).2.2.2.2.1, (cmpS (t0, t1, t2, t3, t4, t5, t6, t7) ((mid (B ++ (padN ((B).length))) (64 * i) ((B ++ (padN ((B).length))).length)).take 64)).2.2.2.2.2.1, (cmpS (t0, t1, t2, t3, t4, t5, t6, t7) ((mid (B ++ (padN ((B).length))) (64 * i) ((B ++ (padN ((B).length))).length)).take 64)).2.2.2.2.2.2.1, (cmpS (t0, t1, t2, t3, t4, t5, t6, t7) ((mid (B ++ (padN ((B).length))) (64 * i) ((B ++ (padN ((B).length))).length)).take 64)).2.2.2.2.2.2.2) (by show (B ++ (padN ((B).length))).length / 64 - (i + 1) < (B ++ (padN ((B).length))).length / 64 - i; have := of_decide_eq_true hb1; have := hl; have := msg_len B; have := zeros_lt B.length; have := hi; omega) (⟨(by have := of_decide_eq_true hb1; have := hl; have := msg_len B; have := zeros_lt B.length; have := hi; omega), sha_next hQ (by have := of_decide_eq_true hb1; have := hl; have := msg_len B; have := zeros_lt B.length; have := hi; omega)⟩) []
  ·
    rw [hb1]
    refine ok_exit ?_
    refine mt_then_e ?_
    refine mt_then_e ?_
    refine mt_block_h ?_
    refine mt_then ?_
    refine sS Tryd.f35 1 [2, 4, 6] [] (fun ρ => [(pt (nb ρ 0))]) (fun ρ => [(0, { news := [(nb ρ 0, (.cells (hB 0) 36 (0, 0)))] })]) (cR [[]] <| cN) (fun ρ9 => ?_)
    refine ok_seq ?_
    refine sS Tryd.f35 1 [2, 4, 6, 31] [] (fun _ => [(.int .i64 0)]) (fun _ => []) (cR [[]] <| cN) (fun _ => ?_)
    refine ok_block ?_
    refine oL (σ := Nat × (Array Value)) (fun ⟨m, _⟩ => [(2, (pt (nb ρ1 0))), (4, (pt (nb ρ3 1))), (6, (pt (nb ρ9 0))), (31, (.int .i64 ((m : Nat) : Int)))]) (fun ⟨_, C⟩ => [(nb ρ1 0, (.cells (hB 0) 36 (0, 0))), (nb ρ3 1, (.cells #[(.int .u32 ((t0 : Nat) : Int)), (.int .u32 ((t1 : Nat) : Int)), (.int .u32 ((t2 : Nat) : Int)), (.int .u32 ((t3 : Nat) : Int)), (.int .u32 ((t4 : Nat) : Int)), (.int .u32 ((t5 : Nat) : Int)), (.int .u32 ((t6 : Nat) : Int)), (.int .u32 ((t7 : Nat) : Int))] 73 (0, 0))), (nb ρ9 0, (.cells C 36 (0, 0)))]) (fun ⟨m, _⟩ => 32 - m)
      (fun ⟨m, C⟩ => (m ≤ 32) ∧ (C = rowK .u8 32 (dgf (t0, t1, t2, t3, t4, t5, t6, t7) (m)))) (0, hB 0) (⟨by decide, hB0_row (t0, t1, t2, t3, t4, t5, t6, t7)⟩) [] ?_
    rintro ⟨m, C⟩ ⟨hm, hC⟩
    change Ok Tryd.prog _ _ 48 [(2, (pt (nb ρ1 0))), (4, (pt (nb ρ3 1))), (6, (pt (nb ρ9 0))), (31, (.int .i64 ((m : Nat) : Int)))] _ [(nb ρ1 0, (.cells (hB 0) 36 (0, 0))), (nb ρ3 1, (.cells #[(.int .u32 ((t0 : Nat) : Int)), (.int .u32 ((t1 : Nat) : Int)), (.int .u32 ((t2 : Nat) : Int)), (.int .u32 ((t3 : Nat) : Int)), (.int .u32 ((t4 : Nat) : Int)), (.int .u32 ((t5 : Nat) : Int)), (.int .u32 ((t6 : Nat) : Int)), (.int .u32 ((t7 : Nat) : Int))] 73 (0, 0))), (nb ρ9 0, (.cells C 36 (0, 0)))] (fun w => Bs w a c B ∧ Kb w 1 (rowK .u32 64 kN) ∧ Kb w 0 #[(.int .u32 1779033703), (.int .u32 3144134277), (.int .u32 1013904242), (.int .u32 2773480762), (.int .u32 1359893119), (.int .u32 2600822924), (.int .u32 528734635), (.int .u32 1541459225)] ∧ Fs w0 w (oa ρ2 4) (nb ρ2 4) (padN ((B).length)) ∧ Fs w0 w (oa ρ2 6) (nb ρ2 6) (B ++ (padN ((B).length))) ∧ True)
    refine sS Tryd.f35 1 [2, 4, 6, 31, 32] [] (fun _ => [(.bool (decide (((m : Nat) : Int) < 32)))]) (fun _ => []) (cR [[]] <| cN) (fun _ => ?_)
    refine ok_seq ?_
    refine oC (decide (((m : Nat) : Int) < 32)) (fun hb2 => ?_) (fun hb2 => ?_)
    ·
      rw [hb2]
      refine ok_skip ?_
      refine mt_then ?_
      refine ok_seq ?_
      refine ok_block ?_
      refine sS Tryd.f35 2 [2, 4, 6, 7, 31] [] (fun _ => [(.int .i64 ((m : Nat) : Int)), (.int .i64 ((m : Nat) : Int))]) (fun _ => []) (cR [[], []] <| cN) (fun _ => ?_)
      refine rS Tryd.f35 13 [2, 4, 6, 31] [] (fun _ => [(.int .i64 ((m : Nat) : Int)), (.int .i64 ((m : Nat) : Int)), (.int .i64 ((m / 4 : Nat) : Int)), (.pointer (some ⟨nb ρ3 1, m / 4, none⟩)), (.int .u32 ((sel8 (t0, t1, t2, t3, t4, t5, t6, t7) (m / 4) : Nat) : Int)), (.int .i64 ((m : Nat) : Int)), (.int .i64 ((m % 4 : Nat) : Int)), (.int .i64 (((m % 4) * 8 : Nat) : Int)), (.int .i64 ((24 - m % 4 * 8 : Nat) : Int)), (.int .u32 ((sel8 (t0, t1, t2, t3, t4, t5, t6, t7) (m / 4) / 2 ^ (24 - m % 4 * 8) : Nat) : Int)), (.int .u8 ((sel8 (t0, t1, t2, t3, t4, t5, t6, t7) (m / 4) / 2 ^ (24 - m % 4 * 8) % 256 : Nat) : Int)), (.pointer (some ⟨nb ρ9 0, m, none⟩)), undef]) (fun _ => [(12, { puts := [(2, nb ρ9 0, (.cells (C.setIfInBounds m (.int .u8 ((sel8 (t0, t1, t2, t3, t4, t5, t6, t7) (m / 4) / 2 ^ (24 - m % 4 * 8) % 256 : Nat) : Int))) 36 (0, 0)))] })]) (cR [[], []] <| cB (a := fun ρ => (.int .i64 ((m : Nat) : Int))) (b := fun ρ => (.int .i64 4)) (v := fun ρ => (.int .i64 ((m / 4 : Nat) : Int))) .quo 3 (fun _ w => run_quoI (n := m) (d := 4) (by decide) (by have := of_decide_eq_false hb1; have := of_decide_eq_true hb2; have := hl; have := msg_len B; have := zeros_lt B.length; have := hi; have := hm; omega) w) <| cX (o_sem _ (fun _ => do pure (Next.value (← Instr.indexAt 73 (pt (nb ρ3 1)) (.int .i64 ((m / 4 : Nat) : Int))))) (fun _ => (.pointer (some ⟨nb ρ3 1, m / 4, none⟩))) (fun _ => by kernel_rfl) (fun _ => by kernel_rfl) (fun _ w => run_idx_nat (n := ((m / 4 : Nat) : Int)) (i := m / 4) Tryd.underlying73 Tryd.sizeOf34 ((by have := of_decide_eq_false hb1; have := of_decide_eq_true hb2; have := hl; have := msg_len B; have := zeros_lt B.length; have := hi; have := hm; omega)) w)) <| cX (o_ld _ 1 34 (fun _ => nb ρ3 1) (fun _ => m / 4) (fun _ => #[(.int .u32 ((t0 : Nat) : Int)), (.int .u32 ((t1 : Nat) : Int)), (.int .u32 ((t2 : Nat) : Int)), (.int .u32 ((t3 : Nat) : Int)), (.int .u32 ((t4 : Nat) : Int)), (.int .u32 ((t5 : Nat) : Int)), (.int .u32 ((t6 : Nat) : Int)), (.int .u32 ((t7 : Nat) : Int))]) 73 (0, 0) (fun _ => (.int .u32 ((sel8 (t0, t1, t2, t3, t4, t5, t6, t7) (m / 4) : Nat) : Int))) (fun _ => by kernel_rfl) Tryd.isAgg34 (fun _ => sel_get (by have := of_decide_eq_false hb1; have := of_decide_eq_true hb2; have := hl; have := msg_len B; have := zeros_lt B.length; have := hi; have := hm; omega))) <| cR [[]] <| cB (a := fun ρ => (.int .i64 ((m : Nat) : Int))) (b := fun ρ => (.int .i64 4)) (v := fun ρ => (.int .i64 ((m % 4 : Nat) : Int))) .rem 3 (fun _ w => run_remU (k := .i64) (n := m) (d := 4) (by decide) w) <| cA (v := fun ρ => (.int .i64 (IntKind.i64.wrap (((m % 4 : Nat) : Int) * 8)))) (fun _ => (.int .i64 (((m % 4) * 8 : Nat) : Int))) (fun _ => congrArg (Value.int .i64) (wrap_mulN (m % 4) 8 (by have := of_decide_eq_false hb1; have := of_decide_eq_true hb2; have := hl; have := msg_len B; have := zeros_lt B.length; have := hi; have := hm; omega))) <| cA (v := fun ρ => (.int .i64 (IntKind.i64.wrap (24 - (((m % 4) * 8 : Nat) : Int))))) (fun _ => (.int .i64 ((24 - m % 4 * 8 : Nat) : Int))) (fun _ => congrArg (Value.int .i64) ((i64N (by have := of_decide_eq_false hb1; have := of_decide_eq_true hb2; have := hl; have := msg_len B; have := zeros_lt B.length; have := hi; have := hm; omega)).trans (by omega))) <| cB (a := fun ρ => (.int .u32 ((sel8 (t0, t1, t2, t3, t4, t5, t6, t7) (m / 4) : Nat) : Int))) (b := fun ρ => (.int .i64 ((24 - m % 4 * 8 : Nat) : Int))) (v := fun ρ => (.int .u32 ((sel8 (t0, t1, t2, t3, t4, t5, t6, t7) (m / 4) / 2 ^ (24 - m % 4 * 8) : Nat) : Int))) .shr 34 (fun _ w => run_shrU (k := .u32) (x := sel8 (t0, t1, t2, t3, t4, t5, t6, t7) (m / 4)) (c := 24 - m % 4 * 8) (sel8_lt (hQ ▸ shaS_ok _ i) _) w) <| cA (fun _ => (.int .u8 ((sel8 (t0, t1, t2, t3, t4, t5, t6, t7) (m / 4) / 2 ^ (24 - m % 4 * 8) % 256 : Nat) : Int))) (fun _ => congrArg (Value.int .u8) (u8M (sel8 (t0, t1, t2, t3, t4, t5, t6, t7) (m / 4) / 2 ^ (24 - m % 4 * 8)))) <| cX (o_sem _ (fun _ => do pure (Next.value (← Instr.indexAt 36 (pt (nb ρ9 0)) (.int .i64 ((m : Nat) : Int))))) (fun _ => (.pointer (some ⟨nb ρ9 0, m, none⟩))) (fun _ => by kernel_rfl) (fun _ => by kernel_rfl) (fun _ w => run_idx_nat (n := ((m : Nat) : Int)) (i := m) Tryd.underlying36 Tryd.sizeOf5 ((by have := of_decide_eq_false hb1; have := of_decide_eq_true hb2; have := hl; have := msg_len B; have := zeros_lt B.length; have := hi; have := hm; omega)) w)) <| cX (o_st _ 2 5 (fun _ => nb ρ9 0) (fun _ => m) (fun _ => C) (fun _ => (C.setIfInBounds m (.int .u8 ((sel8 (t0, t1, t2, t3, t4, t5, t6, t7) (m / 4) / 2 ^ (24 - m % 4 * 8) % 256 : Nat) : Int)))) 36 (fun _ => (.int .u8 ((sel8 (t0, t1, t2, t3, t4, t5, t6, t7) (m / 4) / 2 ^ (24 - m % 4 * 8) % 256 : Nat) : Int))) (fun _ => by kernel_rfl) Tryd.sizeOf5 (fun _ => rfl) (fun _ => (by rw [hC, rowK_size]; have := of_decide_eq_false hb1; have := of_decide_eq_true hb2; have := hl; have := msg_len B; have := zeros_lt B.length; have := hi; have := hm; omega)) (fun _ => rfl)) <| cN) (fun _ => ?_)
      refine mt_block_n ?_
      refine mt_then ?_
      refine rS Tryd.f35 2 [2, 4, 6, 31] [] (fun _ => [(.int .i64 ((m + 1 : Nat) : Int)), (.int .i64 ((m + 1 : Nat) : Int))]) (fun _ => []) (cA (v := fun ρ => (.int .i64 (IntKind.i64.wrap (((m : Nat) : Int) + 1)))) (fun _ => (.int .i64 ((m + 1 : Nat) : Int))) (fun _ => congrArg (Value.int .i64) (wrap_addN m 1 (by have := of_decide_eq_false hb1; have := of_decide_eq_true hb2; have := hl; have := msg_len B; have := zeros_lt B.length; have := hi; have := hm; omega))) <| cR [[]] <| cN) (fun _ => ?_)
      exact mN (m + 1, C.setIfInBounds m (.int .u8 ((sel8 (t0, t1, t2, t3, t4, t5, t6, t7) (m / 4) / 2 ^ (24 - m % 4 * 8) % 256 : Nat) : Int))) (by show 32 - (m + 1) < 32 - m; have := of_decide_eq_false hb1; have := of_decide_eq_true hb2; have := hl; have := msg_len B; have := zeros_lt B.length; have := hi; have := hm; omega) (⟨(by have := of_decide_eq_false hb1; have := of_decide_eq_true hb2; have := hl; have := msg_len B; have := zeros_lt B.length; have := hi; have := hm; omega), by rw [hC]; exact dgf_set rfl⟩) []
    ·
      rw [hb2]
      refine ok_exit ?_
      refine mt_then_e ?_
      refine mt_then_e ?_
      refine mt_block_h ?_
      rw [hC]
      refine mt_then ?_
      refine sS Tryd.f35 2 [2] [1, 0, 0] (fun _ => [(.agg (rowK .u8 32 (dgf (t0, t1, t2, t3, t4, t5, t6, t7) (m)))), undef]) (fun _ => [(1, { puts := [(0, nb ρ1 0, (.cells (rowK .u8 32 (dgf (t0, t1, t2, t3, t4, t5, t6, t7) (m))) 36 (0, 0)))] })]) (cX (o_semF _ (fun _ => do pure (Next.value (← Instr.loadAt 36 (pt (nb ρ9 0))))) (fun _ => (.agg (rowK .u8 32 (dgf (t0, t1, t2, t3, t4, t5, t6, t7) (m))))) (fun _ => (by kernel_rfl)) (fun _ => (by kernel_rfl)) (fun _ _ _ hG => ld_whole Tryd.isAgg36 Tryd.sizeOf36 (hG.known (g := nb ρ9 0) (o := (.cells (rowK .u8 32 (dgf (t0, t1, t2, t3, t4, t5, t6, t7) (m))) 36 (0, 0))) 2 (by kernel_rfl) (by kernel_rfl)) ((rowK_size _ _ _))) (fun _ _ _ _ => persT)) <| cR [[0]] <| cN) (fun _ => ?_)
      refine ok_ret ?_
      exact mR (v := (.agg (rowK .u8 32 (dgf (t0, t1, t2, t3, t4, t5, t6, t7) (m))))) (fun _ hS => ⟨congrArg Ending.returned (congrArg Value.agg ((dgf_end (by have := of_decide_eq_false hb1; have := of_decide_eq_false hb2; have := hl; have := msg_len B; have := zeros_lt B.length; have := hi; have := hm; omega)).trans (congrArg hB (sha_end hQ (by have := of_decide_eq_false hb1; have := of_decide_eq_false hb2; have := hl; have := msg_len B; have := zeros_lt B.length; have := hi; have := hm; omega))))), hS.bel⟩)

theorem tagged_any (T : List UInt8) (a : Option Addr) (c : Nat) (B : List UInt8) (hT : 0 < T.length ∧ T.length ≤ 1000) (hl : B.length + 200 ≤ 140737488351232) (w0 : World) (hf0 : Bs w0 a c B) (hf1 : Kb w0 1 (rowK .u32 64 kN)) (hf2 : Kb w0 0 #[(.int .u32 1779033703), (.int .u32 3144134277), (.int .u32 1013904242), (.int .u32 2773480762), (.int .u32 1359893119), (.int .u32 2600822924), (.int .u32 528734635), (.int .u32 1541459225)]) : Calls Tryd.prog 26 #[(.string (strB T)), (.slice a (B).length c)] w0 (fun ε w' => ε = .returned (.agg (hB (tagN T B))) ∧ Below w0.heap.size w0 w') := by
  refine Calls.of_ok (n := 15) (F := (fun w => Bs w a c B ∧ Kb w 1 (rowK .u32 64 kN) ∧ Kb w 0 #[(.int .u32 1779033703), (.int .u32 3144134277), (.int .u32 1013904242), (.int .u32 2773480762), (.int .u32 1359893119), (.int .u32 2600822924), (.int .u32 528734635), (.int .u32 1541459225)] ∧ True)) Tryd.func26 rfl rfl rfl (by simp) (hf0.pers0.and (hf1.pers0.and (hf2.pers0.and persT))) ?_
  refine sS Tryd.f26 1 [0, 1, 4] [] (fun ρ => [(pt (nb ρ 0))]) (fun ρ => [(0, { news := [(nb ρ 0, (.cells (hB 0) 36 (0, 0)))] })]) (cR [[]] <| cN) (fun ρ1 => ?_)
  refine sSf Tryd.f26 5 [1, 4, 5] [] (fun ρ => [(.string (strB T)), (.slice (oa ρ 1) (T).length (nb ρ 1)), (.agg (hB (shaN T))), (pt (nb ρ 3)), undef]) (fun ρ => [(3, { news := [(nb ρ 3, (.cells (hB 0) 36 (0, 0)))] }), (4, { puts := [(25, nb ρ 3, (.cells (hB (shaN T)) 36 (0, 0)))] })]) (fun ρ => [(1, fun w => Fs w0 w (oa ρ 1) (nb ρ 1) T)]) (fun ρ => (fun w => Bs w a c B ∧ Kb w 1 (rowK .u32 64 kN) ∧ Kb w 0 #[(.int .u32 1779033703), (.int .u32 3144134277), (.int .u32 1013904242), (.int .u32 2773480762), (.int .u32 1359893119), (.int .u32 2600822924), (.int .u32 528734635), (.int .u32 1541459225)] ∧ Fs w0 w (oa ρ 1) (nb ρ 1) T ∧ True)) (fun _ => True) (fun _ _ hF hf => ⟨⟨hF.1, hF.2.1, hF.2.2.1, hf 1, trivial⟩, trivial⟩) (cR [[]] <| cX (o_newF _ (fun _ => do pure (Next.value (← convert 9 56 (.string (strB T))))) (fun _ α κ => (.slice α (T).length κ)) (fun _ => T) (fun _ _ => (by kernel_rfl)) (fun _ => (by kernel_rfl)) (fun _ _ => (by kernel_rfl)) (fun _ _ w _ => bytes_str Tryd.underlying9 Tryd.underlying56 Tryd.underlying5 T (by have := hT; omega) w)) <| cX (o_callP _ 35 (fun ρ => #[(.slice (oa ρ 1) (T).length (nb ρ 1))]) (fun _ => (.agg (hB (shaN T)))) (fun _ _ => (by kernel_rfl)) (fun _ => (by kernel_rfl)) (fun _ _ => (by kernel_rfl)) (fun _ _ => trivial) (fun ρ _ w hG => sum_any (oa ρ 1) (nb ρ 1) T hT.1 (by have := hT; omega) w ((show Fs w0 w (oa ρ 1) (nb ρ 1) T from (hG.facts 1 rfl).now).1) hG.facts0.now.2.1 hG.facts0.now.2.2.1)) <| cR [[], [25]] <| cN) (fun ρ2 _ => ?_)
  refine sDf Tryd.f26 [0, 0, 0, 7, 15, 31, 63] 7 [4] [1, 0, 0] (fun ρ => [(.slice (some ⟨nb ρ2 3, 0, none⟩) (hL (shaN T)).length 32), (.slice (some ⟨nb ρ2 3, 0, none⟩) (hL (shaN T)).length 32), (.slice a (B).length c), (.slice (some ⟨nb ρ 3, 0, none⟩) 3 3), (.slice (oa ρ 4) (((hL (shaN T)) ++ (hL (shaN T))) ++ B).length (nb ρ 4)), (.agg (hB (shaN (((hL (shaN T)) ++ (hL (shaN T))) ++ B)))), undef]) (fun ρ => [(3, { news := [(nb ρ 3, (.cells #[(.slice (some ⟨nb ρ2 3, 0, none⟩) (hL (shaN T)).length 32), (.slice (some ⟨nb ρ2 3, 0, none⟩) (hL (shaN T)).length 32), (.slice a (B).length c)] 56 (0, 0)))] }), (6, { puts := [(0, nb ρ1 0, (.cells (hB (shaN (((hL (shaN T)) ++ (hL (shaN T))) ++ B))) 36 (0, 0)))] })]) (fun ρ => [(4, fun w => Fs w0 w (oa ρ 4) (nb ρ 4) (((hL (shaN T)) ++ (hL (shaN T))) ++ B))]) (fun ρ => (fun w => Bs w a c B ∧ Kb w 1 (rowK .u32 64 kN) ∧ Kb w 0 #[(.int .u32 1779033703), (.int .u32 3144134277), (.int .u32 1013904242), (.int .u32 2773480762), (.int .u32 1359893119), (.int .u32 2600822924), (.int .u32 528734635), (.int .u32 1541459225)] ∧ Fs w0 w (oa ρ2 1) (nb ρ2 1) T ∧ Fs w0 w (oa ρ 4) (nb ρ 4) (((hL (shaN T)) ++ (hL (shaN T))) ++ B) ∧ True)) (fun _ => True) (fun _ _ hF hf => ⟨⟨hF.1, hF.2.1, hF.2.2.1, hF.2.2.2.1, hf 4, trivial⟩, trivial⟩) (cR [[], [], [], []] <| cX (o_callB _ 36 (fun ρ => #[(.slice (some ⟨nb ρ 3, 0, none⟩) 3 3)]) (fun _ α κ => (.slice α (((hL (shaN T)) ++ (hL (shaN T))) ++ B).length κ)) (fun _ => ((hL (shaN T)) ++ (hL (shaN T))) ++ B) (fun _ _ => (by kernel_rfl)) (fun _ _ => (by kernel_rfl)) (fun _ _ => (by kernel_rfl)) (fun _ _ => (by kernel_rfl)) (fun ρ _ w hG => shrow3_any (nb ρ 3) (some ⟨nb ρ2 3, 0, none⟩) 32 (hL (shaN T)) (some ⟨nb ρ2 3, 0, none⟩) 32 (hL (shaN T)) a c B (by simp only [hL_length]; have := hl; omega) (by rw [hL_length]; decide) w (Kb.of_block (hG.known (g := nb ρ 3) (o := (.cells #[(.slice (some ⟨nb ρ2 3, 0, none⟩) (hL (shaN T)).length 32), (.slice (some ⟨nb ρ2 3, 0, none⟩) (hL (shaN T)).length 32), (.slice a (B).length c)] 56 (0, 0))) 26 (by kernel_rfl) (by kernel_rfl))) (Bs.of_hd (c := 32) (hG.known (g := nb ρ2 3) (o := (.cells (hB (shaN T)) 36 (0, 0))) 1 (by kernel_rfl) (by kernel_rfl)) (hd_hB _) (Nat.le_refl _) (Nat.le_of_ble_eq_true rfl)) (Bs.of_hd (c := 32) (hG.known (g := nb ρ2 3) (o := (.cells (hB (shaN T)) 36 (0, 0))) 1 (by kernel_rfl) (by kernel_rfl)) (hd_hB _) (Nat.le_refl _) (Nat.le_of_ble_eq_true rfl)) hG.facts0.now.1)) <| cX (o_callP _ 35 (fun ρ => #[(.slice (oa ρ 4) (((hL (shaN T)) ++ (hL (shaN T))) ++ B).length (nb ρ 4))]) (fun _ => (.agg (hB (shaN (((hL (shaN T)) ++ (hL (shaN T))) ++ B))))) (fun _ _ => (by kernel_rfl)) (fun _ => (by kernel_rfl)) (fun _ _ => (by kernel_rfl)) (fun _ _ => trivial) (fun ρ _ w hG => sum_any (oa ρ 4) (nb ρ 4) (((hL (shaN T)) ++ (hL (shaN T))) ++ B) (by simp only [List.length_append, hL_length]; omega) (by simp only [List.length_append, hL_length]; have := hl; omega) w ((show Fs w0 w (oa ρ 4) (nb ρ 4) (((hL (shaN T)) ++ (hL (shaN T))) ++ B) from (hG.facts 4 rfl).now).1) hG.facts0.now.2.1 hG.facts0.now.2.2.1)) <| cR [[0]] <| cN) (fun _ _ => ?_)
  refine ok_ret ?_
  exact mR (v := (.agg (hB (shaN (((hL (shaN T)) ++ (hL (shaN T))) ++ B))))) (fun _ hS => ⟨congrArg Ending.returned (congrArg (fun z => Value.agg (hB z)) (by rw [tagN, hL_sha])), hS.bel⟩)
end Go.Proofs.YtlkbhiaoolddmaaDoor

/-! '==' and '!=' on structs and arrays of integers, to whatever depth. -/
namespace Go.Proofs.YtlkbhiaoolddmaaDoor
open Go Go.RowKit

def aggD : TypeDesc → Bool
  | .struct _ => true
  | .array _ _ => true
  | _ => false
def partP (P : Program) (t : TypeId) (cs : Array Value) (off : Nat) : Option Value :=
  match P.info? t, P.underlying t with
  | some i, some d => if aggD d then some (.agg (cs.extract off (off + i.size))) else cs[off]?
  | _, _ => none
def eqStep (f : Value → Value → Option (List (Int × Int))) (a b : Option Value) : Option (List (Int × Int)) :=
  match a, b with
  | some a, some b => f a b
  | _, _ => none
def eqF (P : Program) : Nat → TypeId → Value → Value → Option (List (Int × Int))
  | 0, _, _, _ => none
  | d + 1, t, x, y => match P.underlying t, x, y with
    | some (.int _), .int k a, .int k' b => if k = k' then some [(a, b)] else none
    | some (.array n e), .agg xs, .agg ys => if (P.info? e).isSome then ((List.range n).mapM fun i => eqStep (eqF P d e) (partP P e xs (i * P.cellsOf e)) (partP P e ys (i * P.cellsOf e))).map List.flatten else none
    | some (.struct fs), .agg xs, .agg ys => if P.stoodInHeld t then none else (fs.toList.mapM fun f => if f.name ≠ "_" then eqStep (eqF P d f.type) (partP P f.type xs f.offset) (partP P f.type ys f.offset) else none).map List.flatten
    | _, _, _ => none
def eqB (l : List (Int × Int)) : Bool := l.all fun p => p.1 == p.2
theorem eqB_app (a b : List (Int × Int)) : eqB (a ++ b) = (eqB a && eqB b) := by simp [eqB]
section
variable {P : Program}
theorem run_partP {t : TypeId} {cs : Array Value} {off : Nat} {v : Value} (h : partP P t cs off = some v) (w : World) : (part t cs off).run P w = .ok v w := by
  unfold partP at h
  cases hi : P.info? t with
  | none => rw [hi] at h; simp at h
  | some i =>
    cases hk : P.underlying t with
    | none => rw [hi, hk] at h; simp at h
    | some d =>
      rw [hi, hk] at h
      simp only at h
      have hag : (isAgg t).run P w = .ok (aggD d) w := by
        unfold isAgg
        rw [Sem.run_bind, run_underlying hk w]
        cases d <;> simp [aggD]
      have hsz : (sizeOf t).run P w = .ok i.size w := by simp [sizeOf, typeInfo, hi]
      unfold part
      rw [Sem.run_bind, hag]
      simp only [Result.andThen_ok]
      split at h
      · rename_i hb
        rw [hb]
        simp only [if_true, Sem.run_bind, hsz, Result.andThen_ok, Sem.run_pure]
        rw [Option.some.inj h]
      · rename_i hb
        simp only [hb, Bool.false_eq_true, if_false, h, Sem.run_pure]
theorem items_eq {d c : Nat} {e : TypeId} {xs ys : Array Value} (ih : ∀ x y l w, eqF P d e x y = some l → (Op.equalIn d e x y).run P w = .ok (eqB l) w) : ∀ (is : List Nat) (ls : List (List (Int × Int))) (w : World),
    is.mapM (fun i => eqStep (eqF P d e) (partP P e xs (i * c)) (partP P e ys (i * c))) = some ls → (Op.eqItems d e c xs ys is).run P w = .ok (eqB ls.flatten) w
  | [], ls, w, h => by
    simp at h
    subst h
    simp [Op.eqItems, eqB]
  | i :: is, ls, w, h => by
    rw [List.mapM_cons] at h
    simp only [bind, Option.bind_eq_some_iff, pure, Option.some.injEq] at h
    obtain ⟨l1, h1, ls', h2, rfl⟩ := h
    unfold eqStep at h1
    split at h1
    · rename_i a b ha hb
      have h3 := items_eq (c := c) (xs := xs) (ys := ys) ih is ls' w h2
      simp only [Op.eqItems, Sem.run_bind, run_partP ha, run_partP hb, Result.andThen_ok, ih a b l1 w h1]
      cases hq : eqB l1
      · simp [List.flatten_cons, eqB_app, hq]
      · simp [List.flatten_cons, eqB_app, hq, h3]
    · exact absurd h1 (by simp)
theorem fields_eq {d : Nat} {xs ys : Array Value} (ih : ∀ t x y l w, eqF P d t x y = some l → (Op.equalIn d t x y).run P w = .ok (eqB l) w) : ∀ (fs : List Field) (ls : List (List (Int × Int))) (w : World),
    fs.mapM (fun f => if f.name ≠ "_" then eqStep (eqF P d f.type) (partP P f.type xs f.offset) (partP P f.type ys f.offset) else none) = some ls → (Op.eqFields d xs ys fs).run P w = .ok (eqB ls.flatten) w
  | [], ls, w, h => by
    simp at h
    subst h
    simp [Op.eqFields, eqB]
  | f :: fs, ls, w, h => by
    rw [List.mapM_cons] at h
    simp only [bind, Option.bind_eq_some_iff, pure, Option.some.injEq] at h
    obtain ⟨l1, h1, ls', h2, rfl⟩ := h
    split at h1
    · rename_i hn
      unfold eqStep at h1
      split at h1
      · rename_i a b ha hb
        have h3 := fields_eq (xs := xs) (ys := ys) ih fs ls' w h2
        simp only [Op.eqFields, hn, ne_eq, not_false_eq_true, if_true, Sem.run_bind, run_partP ha, run_partP hb, Result.andThen_ok, ih f.type a b l1 w h1]
        cases hq : eqB l1
        · simp [List.flatten_cons, eqB_app, hq]
        · simp [List.flatten_cons, eqB_app, hq, h3]
      · exact absurd h1 (by simp)
    · exact absurd h1 (by simp)
theorem run_eqF : ∀ (d : Nat) (t : TypeId) (x y : Value) (l : List (Int × Int)) (w : World), eqF P d t x y = some l → (Op.equalIn d t x y).run P w = .ok (eqB l) w
  | 0, _, _, _, _, _, h => by simp [eqF] at h
  | d + 1, t, x, y, l, w, h => by
    unfold eqF at h
    split at h
    · rename_i hu
      split at h
      · rename_i hk
        subst hk
        simp only [Option.some.injEq] at h
        subst h
        simp [Op.equalIn, run_underlying hu, eqB]
      · exact absurd h (by simp)
    · rename_i n e xs ys hu
      split at h
      · rename_i hi
        obtain ⟨i, hi⟩ := Option.isSome_iff_exists.1 hi
        rw [Option.map_eq_some_iff] at h
        obtain ⟨ls, h1, rfl⟩ := h
        rw [run_equalIn_array w d xs ys hu hi]
        exact items_eq (fun x y l w => run_eqF d e x y l w) _ ls w h1
      · exact absurd h (by simp)
    · rename_i fs xs ys hu
      split at h
      · exact absurd h (by simp)
      · rename_i hp
        rw [Option.map_eq_some_iff] at h
        obtain ⟨ls, h1, rfl⟩ := h
        have hfs : P.fieldsOf t = fs := by unfold Program.fieldsOf; rw [hu]
        rw [run_equalIn_struct w d t xs ys (by rw [hfs]; exact hu) (by simpa using hp), hfs]
        exact fields_eq (fun t x y l w => run_eqF d t x y l w) _ ls w h1
    · exact absurd h (by simp)
def eqT (P : Program) (t : TypeId) (x y : Value) : Option (List (Int × Int)) := eqF P 10000 t x y
theorem eql_any {t : TypeId} {x y : Array Value} {l : List (Int × Int)} (h : eqT P t (.agg x) (.agg y) = some l) (w : World) : (binOp .eql t (.agg x) (.agg y)).run P w = .ok (.bool (eqB l)) w := by
  have h1 := run_eqF 10000 t (.agg x) (.agg y) l w h
  simp only [binOp]
  simp [Op.equal, Op.maxDepth, h1]
theorem neq_any {t : TypeId} {x y : Array Value} {l : List (Int × Int)} (h : eqT P t (.agg x) (.agg y) = some l) (w : World) : (binOp .neq t (.agg x) (.agg y)).run P w = .ok (.bool (!eqB l)) w := by
  have h1 := run_eqF 10000 t (.agg x) (.agg y) l w h
  simp only [binOp]
  simp [Op.equal, Op.maxDepth, h1]
theorem eqB_same : ∀ {l : List (Int × Int)}, l.map (·.1) = l.map (·.2) → eqB l = true
  | [], _ => rfl
  | p :: l, h => by
    simp only [List.map_cons, List.cons.injEq] at h
    have := eqB_same h.2
    unfold eqB at this ⊢
    simp only [List.all_cons, this, Bool.and_true, beq_iff_eq]
    exact h.1
theorem same_get {t : TypeId} {x y : Value} (h : (eqT P t x y).map (fun l => l.map (·.1)) = some (((eqT P t x y).map fun l => l.map (·.2)).getD [])) : ∃ l, eqT P t x y = some l ∧ eqB l = true := by
  rw [Option.map_eq_some_iff] at h
  obtain ⟨l, h1, h2⟩ := h
  rw [h1] at h2
  exact ⟨l, h1, eqB_same h2⟩
/-- Both sides are the same. -/
theorem eql_same {t : TypeId} {x y : Array Value} (w : World) (h : (eqT P t (.agg x) (.agg y)).map (fun l => l.map (·.1)) = some (((eqT P t (.agg x) (.agg y)).map fun l => l.map (·.2)).getD []) := by kernel_rfl) : (binOp .eql t (.agg x) (.agg y)).run P w = .ok (.bool true) w := by
  obtain ⟨l, h1, h2⟩ := same_get h
  rw [eql_any h1, h2]
theorem neq_same {t : TypeId} {x y : Array Value} (w : World) (h : (eqT P t (.agg x) (.agg y)).map (fun l => l.map (·.1)) = some (((eqT P t (.agg x) (.agg y)).map fun l => l.map (·.2)).getD []) := by kernel_rfl) : (binOp .neq t (.agg x) (.agg y)).run P w = .ok (.bool false) w := by
  obtain ⟨l, h1, h2⟩ := same_get h
  rw [neq_any h1, h2]; rfl
/-- Both sides are equal. -/
theorem eql_eq {t : TypeId} {x y : Array Value} (e : x = y) (w : World) (h : (eqT P t (.agg x) (.agg x)).map (fun l => l.map (·.1)) = some (((eqT P t (.agg x) (.agg x)).map fun l => l.map (·.2)).getD []) := by kernel_rfl) : (binOp .eql t (.agg x) (.agg y)).run P w = .ok (.bool true) w := by
  subst e; exact eql_same w h
theorem neq_eq {t : TypeId} {x y : Array Value} (e : x = y) (w : World) (h : (eqT P t (.agg x) (.agg x)).map (fun l => l.map (·.1)) = some (((eqT P t (.agg x) (.agg x)).map fun l => l.map (·.2)).getD []) := by kernel_rfl) : (binOp .neq t (.agg x) (.agg y)).run P w = .ok (.bool false) w := by
  subst e; exact neq_same w h
end
end Go.Proofs.YtlkbhiaoolddmaaDoor

/-! How arguments of a law are opened: numbers of 256 bits, digests. -/
namespace Go.Proofs.YtlkbhiaoolddmaaDoor
open Go Go.ChangeShapes Go.WideShapes Go.RowKit

theorem okWide_array {P : Program} {w : World} {r : Reach} {base : Nat} {t : TypeId} {v : Value} {n : Nat} {e : TypeId} (ht : P.underlying t = some (.array n e)) (h : Value.okWide P w r base t v) : ∃ cs, v = .agg cs ∧ cs.size = P.cellsOf t := by
  simp only [Value.okWide, ht] at h
  obtain ⟨cs, h1, h2, _⟩ := h
  exact ⟨cs, h1, h2⟩
theorem bounds_of_u64 {n : Int} (h : (Lit.int .u64 n).wf = true) : Word n := by
  simp [Lit.wf, IntKind.min, IntKind.max, IntKind.signed, IntKind.bits] at h
  unfold Word; omega
theorem bounds_of_u8 {n : Int} (h : (Lit.int .u8 n).wf = true) : 0 ≤ n ∧ n < 256 := by
  simp [Lit.wf, IntKind.min, IntKind.max, IntKind.signed, IntKind.bits] at h
  omega
/-- The cells of a row of integers that was read. -/
theorem row_ints {H : Type} {enc : TypeId × Value → H} {P : Program} {w : World} {base : Nat} {spare : Nat → Bool} {held : Bool} {fuel : Nat} {t e : TypeId} {n : Nat} {k : IntKind} {cs : List Value} {x : DataW H × List MemPlace}
    (ht : P.underlying t = some (.array n e)) (he : P.underlying e = some (.int k)) (hce : P.cellsOf e = 1) (h : DataW.trod enc P w base spare held fuel t cs = some x) :
    ∀ i, i < n → ∃ z, cs[i]? = some (.int k z) ∧ (Lit.int k z).wf = true := by
  obtain ⟨xs, m, _, _, _, hl, hg⟩ := DataW.trod_array ht h
  intro i hi
  have h1 := hg i hi
  rw [hce, Nat.mul_one, List.getElem?_eq_getElem (by omega)] at h1
  obtain ⟨z, h2, _, h3⟩ := DataW.trod_int he h1
  refine ⟨z, ?_, h3⟩
  have h4 := congrArg (fun l => l[0]?) h2
  simp at h4
  exact h4
theorem open_U {H : Type} {enc : TypeId × Value → H} {w : World} {r : Reach} {base base' : Nat} {spare : Nat → Bool} {held : Bool} {v : Value} {d : DataW H} {p : List MemPlace}
    (hok : Value.okWide Tryd.prog w r base 43 v) (h : DataW.Trod enc Tryd.prog w base' spare held 43 v d p) : ∃ A, A < M ∧ v = U A := by
  obtain ⟨cs, rfl, hs⟩ := okWide_array Tryd.underlying43 hok
  have hs4 : cs.size = 4 := hs.trans (by kernel_rfl)
  obtain ⟨fuel, hf⟩ := h
  have g := row_ints Tryd.underlying43 Tryd.underlying41 (by kernel_rfl) hf
  obtain ⟨a, ga, wa⟩ := g 0 (by omega)
  obtain ⟨b, gb, wb⟩ := g 1 (by omega)
  obtain ⟨c, gc, wc⟩ := g 2 (by omega)
  obtain ⟨e, gd, wd'⟩ := g 3 (by omega)
  have Wa := bounds_of_u64 wa; have Wb := bounds_of_u64 wb; have Wc := bounds_of_u64 wc; have Wd := bounds_of_u64 wd'
  refine ⟨ofW a b c e, ofW_lt Wa Wb Wc Wd, ?_⟩
  have hcs : cs = #[.int .u64 a, .int .u64 b, .int .u64 c, .int .u64 e] := by
    simp only [Value.cells, Array.getElem?_toList] at ga gb gc gd
    apply Array.ext_getElem?
    intro i
    rcases (by omega : i = 0 ∨ i = 1 ∨ i = 2 ∨ i = 3 ∨ 4 ≤ i) with rfl | rfl | rfl | rfl | hi
    · rw [ga]; rfl
    · rw [gb]; rfl
    · rw [gc]; rfl
    · rw [gd]; rfl
    · rw [Array.getElem?_eq_none (by omega), Array.getElem?_eq_none (by simpa using hi)]
  rw [hcs]
  exact U_of_sum _ Wa Wb Wc Wd (ofW_sum Wa Wb Wc Wd)
/-- The number of a list of bytes, the highest first. -/
def ofBytes (f : Nat → Nat) : Nat → Nat
  | 0 => 0
  | n + 1 => ofBytes f n * 256 + f n
theorem ofBytes_lt (f : Nat → Nat) (hf : ∀ i, f i < 256) : ∀ n, ofBytes f n < 256 ^ n
  | 0 => by simp [ofBytes]
  | n + 1 => by
    have h := ofBytes_lt f hf n
    have := hf n
    rw [ofBytes, Nat.pow_succ]
    omega
theorem ofBytes_get (f : Nat → Nat) (hf : ∀ i, f i < 256) : ∀ n i, i < n → ofBytes f n / 256 ^ (n - 1 - i) % 256 = f i
  | 0, i, h => by omega
  | n + 1, i, h => by
    have hn := hf n
    by_cases e : i = n
    · subst e
      rw [ofBytes]; simp; omega
    · have ih := ofBytes_get f hf n i (by omega)
      have e1 : n + 1 - 1 - i = (n - 1 - i) + 1 := by omega
      rw [ofBytes, e1, Nat.pow_succ, Nat.mul_comm (256 ^ (n - 1 - i)) 256, ← Nat.div_div_eq_div_mul, show (ofBytes f n * 256 + f n) / 256 = ofBytes f n by omega]
      exact ih
theorem open_H {H : Type} {enc : TypeId × Value → H} {w : World} {r : Reach} {base base' : Nat} {spare : Nat → Bool} {held : Bool} {v : Value} {d : DataW H} {p : List MemPlace}
    (hok : Value.okWide Tryd.prog w r base 36 v) (h : DataW.Trod enc Tryd.prog w base' spare held 36 v d p) : ∃ A, A < M ∧ v = .agg (hB A) := by
  obtain ⟨cs, rfl, hs⟩ := okWide_array Tryd.underlying36 hok
  have hs4 : cs.size = 32 := hs.trans (by kernel_rfl)
  obtain ⟨fuel, hf⟩ := h
  have g := row_ints Tryd.underlying36 Tryd.underlying5 (by kernel_rfl) hf
  have g' : ∀ i, ∃ z : Nat, z < 256 ∧ (i < 32 → cs[i]? = some (.int .u8 z)) := by
    intro i
    by_cases hi : i < 32
    · obtain ⟨z, h1, h2⟩ := g i hi
      obtain ⟨b0, b1⟩ := bounds_of_u8 h2
      obtain ⟨z, rfl⟩ := Int.eq_ofNat_of_zero_le b0
      exact ⟨z, by omega, fun _ => by simpa [Value.cells] using h1⟩
    · exact ⟨0, by omega, fun h => absurd h hi⟩
  have hf1 := fun i => (Classical.choose_spec (g' i)).1
  have hf2 := fun i => (Classical.choose_spec (g' i)).2
  generalize (fun i => Classical.choose (g' i)) = f at *
  refine ⟨ofBytes (fun i => Classical.choose (g' i)) 32, ?_, ?_⟩
  · have := ofBytes_lt _ hf1 32
    rw [M_eq]; exact this
  · congr 1
    apply hB_ext hs4
    intro j hj
    rw [hf2 j hj]
    congr 2
    unfold byt
    rw [ofBytes_get _ hf1 32 j hj]
theorem laidOut : laidOutB Tryd.prog = true := by kernel_rfl
theorem own : ownKnob Tryd.prog.godebug = none := by kernel_rfl
end Go.Proofs.YtlkbhiaoolddmaaDoor

/-! How arguments of a law are opened: rows of bytes, strings, integers as naturals. -/
namespace Go.Proofs.YtlkbhiaoolddmaaDoor
open Go Go.ChangeShapes Go.WideShapes Go.RowKit

theorem nat_of_kind {k : IntKind} (hk : k.signed = false) {x : Int} (h : (Lit.int k x).wf = true) : ∃ n : Nat, x = (n : Int) ∧ n < 2 ^ k.bits := by
  have h0 : k.min ≤ x ∧ x ≤ k.max := by simpa [Lit.wf] using h
  have h1 : k.min = 0 := by cases k <;> first | rfl | exact absurd hk (by decide)
  have h2 : k.max = ((2 ^ k.bits : Nat) : Int) - 1 := by cases k <;> first | rfl | exact absurd hk (by decide)
  exact ⟨x.toNat, by omega, by omega⟩
theorem i64_of {x : Int} (h : (Lit.int .i64 x).wf = true) : -9223372036854775808 ≤ x ∧ x < 9223372036854775808 := by
  simp [Lit.wf, IntKind.min, IntKind.max, IntKind.signed, IntKind.bits] at h
  omega
/-- A slice of bytes that was read. -/
theorem open_bytes {H : Type} {enc : TypeId × Value → H} {w : World} {r : Reach} {base base' : Nat} {held : Bool} {v : Value} {d : DataW H} {p : List MemPlace}
    (hok : Value.okWide Tryd.prog w r base 56 v) (h : DataW.Trod enc Tryd.prog w base' (fun _ => true) held 56 v d p) (hs : ∀ elems spare, d = .slice elems spare → elems.length + spare.length ≤ 140737488351232) :
    ∃ a c xs, v = .slice a (List.length xs) c ∧ Bs w a c xs := by
  obtain ⟨a0, len, cap, rfl⟩ := okWide_slice Tryd.underlying56 hok
  obtain ⟨fuel, hf⟩ := h
  rcases open_ints Tryd.underlying56 Tryd.underlying5 (by kernel_rfl) hf with ⟨hcs, _⟩ | ⟨a, len', cap', zs, hcs, _, hle, _, hlen, hx, hcell, hwf⟩
  · simp [Value.cells] at hcs
    obtain ⟨rfl, rfl, rfl⟩ := hcs
    exact ⟨none, 0, [], rfl, Bs.nil⟩
  · simp [Value.cells] at hcs
    obtain ⟨rfl, rfl, rfl⟩ := hcs
    simp only [if_true] at hlen
    have hd := congrArg Prod.fst hx
    have hsz := hs _ _ hd
    have hsz' : zs.length ≤ 140737488351232 := by simpa [lits, hlen, hle] using hsz
    refine ⟨some a, cap, (zs.take len).map ob, ?_, ?_, ?_, ?_⟩
    · rw [List.length_map, List.length_take, Nat.min_eq_left (by omega)]
    · rw [List.length_map, List.length_take]; omega
    · rw [List.length_map, List.length_take]; omega
    · refine Or.inr ⟨a, rfl, ?_⟩
      intro i u hu
      obtain ⟨x, hx1, rfl⟩ := bs_get hu
      rw [List.getElem?_map] at hx1
      obtain ⟨z, hz, rfl⟩ := Option.map_eq_some_iff.1 hx1
      have hi : i < zs.length := by
        have := (List.getElem?_eq_some_iff.1 hz).1
        rw [List.length_take] at this
        omega
      have hzi : zs.getD i 0 = z := by
        rw [List.getElem?_take] at hz
        split at hz
        · simp [List.getD, hz]
        · exact absurd hz (by simp)
      rw [hcell i hi, hzi]
      have hm : z ∈ zs := by
        have := List.mem_of_getElem? hz
        exact List.mem_of_mem_take this
      have hw := hwf z hm
      simp [Lit.wf, IntKind.min, IntKind.max, IntKind.signed, IntKind.bits] at hw
      rw [bv_ob (by omega)]
theorem open_str {H : Type} {enc : TypeId × Value → H} {w : World} {r : Reach} {base base' : Nat} {sp : Nat → Bool} {held : Bool} {v : Value} {d : DataW H} {p : List MemPlace}
    (hok : Value.okWide Tryd.prog w r base 9 v) (h : DataW.Trod enc Tryd.prog w base' sp held 9 v d p) (hs : ∀ l, d = .lit (.string l) → l.length ≤ 140737488351232) :
    ∃ S, v = .string (strB S) ∧ S.length ≤ 140737488351232 := by
  obtain ⟨s, rfl, rfl, _, _⟩ := Go.ChangeMaps.open_string Tryd.underlying9 hok h
  exact ⟨s.data.toList, by rw [strB_self], hs _ rfl⟩
end Go.Proofs.YtlkbhiaoolddmaaDoor

/-! math/bits at this dump: sums with carries, differences with borrows, products, lengths of words. -/
namespace Go.Proofs.YtlkbhiaoolddmaaDoor
open Go Go.RowKit

/-- What a carry is. -/
def Bit (c : Int) : Prop := 0 ≤ c ∧ c ≤ 1
theorem bit_zero : Bit 0 := by unfold Bit; omega
theorem bit_one : Bit 1 := by unfold Bit; omega
theorem word_zero : Word 0 := by unfold Word; omega

/-- The sum with a carry, its lower word and its carry. -/
def addLo (x y c : Int) : Int := (x + y + c) % 18446744073709551616
def addHi (x y c : Int) : Int := if x + y + c < 18446744073709551616 then 0 else 1
theorem word_addLo (x y c : Int) : Word (addLo x y c) := by unfold Word addLo; omega
theorem bit_addHi (x y c : Int) : Bit (addHi x y c) := by unfold Bit addHi; split <;> omega
theorem word_of_bit {c : Int} (h : Bit c) : Word c := by unfold Word Bit at *; omega
theorem add_eq {x y c : Int} (hx : Word x) (hy : Word y) (hc : Bit c) : addLo x y c + 18446744073709551616 * addHi x y c = x + y + c := by
  unfold Word Bit addLo addHi at *; split <;> omega

/-- The difference with a borrow. -/
def subLo (x y c : Int) : Int := (x - y - c) % 18446744073709551616
def subHi (x y c : Int) : Int := if x < y + c then 1 else 0
theorem word_subLo (x y c : Int) : Word (subLo x y c) := by unfold Word subLo; omega
theorem bit_subHi (x y c : Int) : Bit (subHi x y c) := by unfold Bit subHi; split <;> omega
theorem sub_eq {x y c : Int} (hx : Word x) (hy : Word y) (hc : Bit c) : subLo x y c - 18446744073709551616 * subHi x y c = x - y - c := by
  unfold Word Bit subLo subHi at *; split <;> omega

/-- The product of two words. -/
def mulLo (x y : Int) : Int := (x * y) % 18446744073709551616
def mulHi (x y : Int) : Int := (x * y) / 18446744073709551616
theorem word_mulLo (x y : Int) : Word (mulLo x y) := by unfold Word mulLo; omega
theorem mul_eq (x y : Int) : mulLo x y + 18446744073709551616 * mulHi x y = x * y := by unfold mulLo mulHi; omega

theorem add64 (x y c : Int) (hx : Word x) (hy : Word y) (hc : Bit c) (w : World) : (callFunc 85 #[.int .u64 x, .int .u64 y, .int .u64 c]).run Tryd.prog w = .ok (.value (.tuple #[.int .u64 (addLo x y c), .int .u64 (addHi x y c)])) w := by
  unfold Word Bit at *
  rw [run_callFunc_extern Tryd.func85 (by kernel_rfl) (by kernel_rfl) (by kernel_rfl) (e := add64Entry) (by kernel_rfl), run_add64 x y c (by omega) (by omega) (by omega) (by omega)]
  simp only [Result.andThen]
  have e1 : (x + y + c) / 18446744073709551616 = addHi x y c := by unfold addHi; split <;> omega
  rw [e1]; rfl
theorem sub64 (x y b : Int) (hx : Word x) (hy : Word y) (hb : Bit b) (w : World) : (callFunc 74 #[.int .u64 x, .int .u64 y, .int .u64 b]).run Tryd.prog w = .ok (.value (.tuple #[.int .u64 (subLo x y b), .int .u64 (subHi x y b)])) w := by
  unfold Word Bit at *
  obtain ⟨x, rfl⟩ := Int.eq_ofNat_of_zero_le hx.1
  obtain ⟨y, rfl⟩ := Int.eq_ofNat_of_zero_le hy.1
  obtain ⟨b, rfl⟩ := Int.eq_ofNat_of_zero_le hb.1
  have e1 : (((x + 18446744073709551616 - y - b) % 18446744073709551616 : Nat) : Int) = subLo x y b := by unfold subLo; omega
  have e2 : ((if x < y + b then 1 else 0 : Nat) : Int) = subHi x y b := by unfold subHi; split <;> split <;> omega
  rw [run_callFunc_extern Tryd.func74 (by kernel_rfl) (by kernel_rfl) (by kernel_rfl) (e := sub64Entry) (by kernel_rfl), run_sub64 x y b (by omega), e1, e2]
  rfl
end Go.Proofs.YtlkbhiaoolddmaaDoor

/-! Sums and differences of numbers of 256 bits, comparison, complements: the walks. -/
namespace Go.Proofs.YtlkbhiaoolddmaaDoor
open Go Go.RowKit

theorem ret_i64 {a b : Int} (h : a = b) : Ending.returned (.int .i64 a) = .returned (.int .i64 b) := by rw [h]
theorem ret_bool {a b : Bool} (h : a = b) : Ending.returned (.bool a) = .returned (.bool b) := by rw [h]
theorem ret_Ub {a b : Value} {c d : Bool} (h : a = b) (h' : c = d) : Ending.returned (.tuple #[a, .bool c]) = .returned (.tuple #[b, .bool d]) := by rw [h, h']
theorem ret_U {a b : Value} (h : a = b) : Ending.returned a = .returned b := by rw [h]

/-! ### comparison -/
set_option maxHeartbeats 1000000 in
theorem cmp_any (A B : Nat) (w : World) (hA : A < M) (hB : B < M) :
    Calls Tryd.prog 56 #[U A, U B] w fun e w' => e = .returned (.int .i64 (cmpN A B)) ∧ Below w.heap.size w w' := by
  go_enter Tryd.func56, Tryd.ntmps56
  go_wp2
  refine wp_loop_rounds 5 ?_
  repeat' (first | (rw [rounds_succ]; go_wp2) | (go_quiet (fail); go_wp2))
  all_goals (go_ret; have ea := wd_sum A hA; have eb := wd_sum B hB; have a0 := wd_word A 0; have a1 := wd_word A 1; have a2 := wd_word A 2; have a3 := wd_word A 3; have b0 := wd_word B 0; have b1 := wd_word B 1; have b2 := wd_word B 2; have b3 := wd_word B 3; unfold Word at a0 a1 a2 a3 b0 b1 b2 b3; refine ⟨ret_i64 (cmpN_of ?_ ?_ ?_), ?_⟩; all_goals (first | (intro hh; first | rfl | (exfalso; omega)) | (repeat' (first | (with_reducible exact Below.refl _ _) | (with_reducible assumption) | (with_reducible refine below_drewN ?_ _) | (with_reducible refine Below.drew ?_) | (with_reducible refine Below.setCell ?_ ?_ _) | (with_reducible refine Below.alloc ?_ ?_ _) | (with_reducible exact Nat.le_refl _) | omega | (simp; omega) | (simp; done)))))
set_option maxHeartbeats 1000000 in
theorem rcmp_any (A B : Nat) (w : World) (hA : A < M) (hB : B < M) :
    Calls Tryd.prog 61 #[U A, U B] w fun e w' => e = .returned (.int .i64 (cmpN A B)) ∧ Below w.heap.size w w' := by
  go_enter Tryd.func61, Tryd.ntmps61
  go_wp2
  refine wp_loop_rounds 5 ?_
  repeat' (first | (rw [rounds_succ]; go_wp2) | (go_quiet (fail); go_wp2))
  all_goals (go_ret; have ea := wd_sum A hA; have eb := wd_sum B hB; have a0 := wd_word A 0; have a1 := wd_word A 1; have a2 := wd_word A 2; have a3 := wd_word A 3; have b0 := wd_word B 0; have b1 := wd_word B 1; have b2 := wd_word B 2; have b3 := wd_word B 3; unfold Word at a0 a1 a2 a3 b0 b1 b2 b3; refine ⟨ret_i64 (cmpN_of ?_ ?_ ?_), ?_⟩; all_goals (first | (intro hh; first | rfl | (exfalso; omega)) | (repeat' (first | (with_reducible exact Below.refl _ _) | (with_reducible assumption) | (with_reducible refine below_drewN ?_ _) | (with_reducible refine Below.drew ?_) | (with_reducible refine Below.setCell ?_ ?_ _) | (with_reducible refine Below.alloc ?_ ?_ _) | (with_reducible exact Nat.le_refl _) | omega | (simp; omega) | (simp; done)))))

/-! ### sums -/
theorem add_words (A B : Nat) (hA : A < M) (hB : B < M) :
    Value.agg #[.int .u64 (addLo (wd A 0) (wd B 0) 0), .int .u64 (addLo (wd A 1) (wd B 1) (addHi (wd A 0) (wd B 0) 0)), .int .u64 (addLo (wd A 2) (wd B 2) (addHi (wd A 1) (wd B 1) (addHi (wd A 0) (wd B 0) 0))), .int .u64 (addLo (wd A 3) (wd B 3) (addHi (wd A 2) (wd B 2) (addHi (wd A 1) (wd B 1) (addHi (wd A 0) (wd B 0) 0))))] = U ((A + B) % M) ∧
    (((A + B : Nat) : Int) = ((A + B) % M : Nat) + (M : Int) * addHi (wd A 3) (wd B 3) (addHi (wd A 2) (wd B 2) (addHi (wd A 1) (wd B 1) (addHi (wd A 0) (wd B 0) 0)))) := by
  have ea := wd_sum A hA
  have eb := wd_sum B hB
  have p0 := add_eq (wd_word A 0) (wd_word B 0) bit_zero
  have q0 := bit_addHi (wd A 0) (wd B 0) 0
  have r0 := word_addLo (wd A 0) (wd B 0) 0
  generalize addHi (wd A 0) (wd B 0) 0 = k0 at *
  have p1 := add_eq (wd_word A 1) (wd_word B 1) q0
  have q1 := bit_addHi (wd A 1) (wd B 1) k0
  have r1 := word_addLo (wd A 1) (wd B 1) k0
  generalize addHi (wd A 1) (wd B 1) k0 = k1 at *
  have p2 := add_eq (wd_word A 2) (wd_word B 2) q1
  have q2 := bit_addHi (wd A 2) (wd B 2) k1
  have r2 := word_addLo (wd A 2) (wd B 2) k1
  generalize addHi (wd A 2) (wd B 2) k1 = k2 at *
  have p3 := add_eq (wd_word A 3) (wd_word B 3) q2
  have q3 := bit_addHi (wd A 3) (wd B 3) k2
  have r3 := word_addLo (wd A 3) (wd B 3) k2
  generalize addHi (wd A 3) (wd B 3) k2 = k3 at *
  generalize addLo (wd A 0) (wd B 0) 0 = s0 at *
  generalize addLo (wd A 1) (wd B 1) k0 = s1 at *
  generalize addLo (wd A 2) (wd B 2) k1 = s2 at *
  generalize addLo (wd A 3) (wd B 3) k2 = s3 at *
  have key : (((A + B) % M : Nat) : Int) = s0 + 18446744073709551616 * s1 + 340282366920938463463374607431768211456 * s2 + 6277101735386680763835789423207666416102355444464034512896 * s3 ∧ (((A + B : Nat) : Int) = ((A + B) % M : Nat) + (M : Int) * k3) := by
    have hs : ((A + B : Nat) : Int) = s0 + 18446744073709551616 * s1 + 340282366920938463463374607431768211456 * s2 + 6277101735386680763835789423207666416102355444464034512896 * s3 + M * k3 := by
      rw [M_eq]; omega
    unfold Word Bit at *
    rw [M_eq] at *
    omega
  exact ⟨U_of_sum _ r0 r1 r2 r3 key.1, key.2⟩
theorem bit_ne_zero {c : Int} (h : Bit c) {p : Prop} [Decidable p] (hp : c = 1 ↔ p) : (c != 0) = decide p := by
  unfold Bit at h
  by_cases hh : c = 1
  · rw [decide_eq_true (hp.1 hh), hh]; rfl
  · rw [decide_eq_false (fun x => hh (hp.2 x)), show c = 0 by omega]; rfl
theorem bit_eq_one {c : Int} (h : Bit c) {p : Prop} [Decidable p] (hp : c = 1 ↔ p) : (c == 1) = decide p := by
  unfold Bit at h
  by_cases hh : c = 1
  · rw [decide_eq_true (hp.1 hh), hh]; rfl
  · rw [decide_eq_false (fun x => hh (hp.2 x)), show c = 0 by omega]; rfl
theorem add_carry (A B : Nat) (hA : A < M) (hB : B < M) : addHi (wd A 3) (wd B 3) (addHi (wd A 2) (wd B 2) (addHi (wd A 1) (wd B 1) (addHi (wd A 0) (wd B 0) 0))) = 1 ↔ M ≤ A + B := by
  have h := (add_words A B hA hB).2
  have h2 := bit_addHi (wd A 3) (wd B 3) (addHi (wd A 2) (wd B 2) (addHi (wd A 1) (wd B 1) (addHi (wd A 0) (wd B 0) 0)))
  generalize addHi (wd A 3) (wd B 3) (addHi (wd A 2) (wd B 2) (addHi (wd A 1) (wd B 1) (addHi (wd A 0) (wd B 0) 0))) = k at *
  unfold Bit at h2; rw [M_eq] at *
  rcases (by omega : k = 0 ∨ k = 1) with rfl | rfl <;> omega

set_option maxHeartbeats 1000000 in
theorem radd_any (A B : Nat) (w : World) (hA : A < M) (hB : B < M) :
    Calls Tryd.prog 88 #[U A, U B] w fun e w' => e = .returned (.tuple #[U ((A + B) % M), .bool (decide (M ≤ A + B))]) ∧ Below w.heap.size w w' := by
  have h55 := add64; have h1 := wd_word; have h2 := word_addLo; have h3 := bit_addHi; have h4 := bit_zero
  go_enter Tryd.func88, Tryd.ntmps88
  go_wp2
  refine wp_loop_rounds 5 ?_
  repeat (rw [rounds_succ]; go_wp2; try (go_region; go_wp2))
  go_returns
  refine ⟨ret_Ub (add_words A B hA hB).1 (bit_eq_one (bit_addHi _ _ _) (add_carry A B hA hB)), ?_⟩
  (repeat' (first | (with_reducible exact Below.refl _ _) | (with_reducible assumption) | (with_reducible refine below_drewN ?_ _) | (with_reducible refine Below.drew ?_) | (with_reducible refine Below.setCell ?_ ?_ _) | (with_reducible refine Below.alloc ?_ ?_ _) | (with_reducible exact Nat.le_refl _) | omega | (simp; omega) | (simp; done)))

/-! ### differences -/
theorem sub_words (A B : Nat) (hA : A < M) (hB : B < M) :
    Value.agg #[.int .u64 (subLo (wd A 0) (wd B 0) 0), .int .u64 (subLo (wd A 1) (wd B 1) (subHi (wd A 0) (wd B 0) 0)), .int .u64 (subLo (wd A 2) (wd B 2) (subHi (wd A 1) (wd B 1) (subHi (wd A 0) (wd B 0) 0))), .int .u64 (subLo (wd A 3) (wd B 3) (subHi (wd A 2) (wd B 2) (subHi (wd A 1) (wd B 1) (subHi (wd A 0) (wd B 0) 0))))] = U ((A + M - B) % M) ∧
    (((A : Int) - B) = ((A + M - B) % M : Nat) - (M : Int) * subHi (wd A 3) (wd B 3) (subHi (wd A 2) (wd B 2) (subHi (wd A 1) (wd B 1) (subHi (wd A 0) (wd B 0) 0)))) := by
  have ea := wd_sum A hA
  have eb := wd_sum B hB
  have p0 := sub_eq (wd_word A 0) (wd_word B 0) bit_zero
  have q0 := bit_subHi (wd A 0) (wd B 0) 0
  have r0 := word_subLo (wd A 0) (wd B 0) 0
  generalize subHi (wd A 0) (wd B 0) 0 = k0 at *
  have p1 := sub_eq (wd_word A 1) (wd_word B 1) q0
  have q1 := bit_subHi (wd A 1) (wd B 1) k0
  have r1 := word_subLo (wd A 1) (wd B 1) k0
  generalize subHi (wd A 1) (wd B 1) k0 = k1 at *
  have p2 := sub_eq (wd_word A 2) (wd_word B 2) q1
  have q2 := bit_subHi (wd A 2) (wd B 2) k1
  have r2 := word_subLo (wd A 2) (wd B 2) k1
  generalize subHi (wd A 2) (wd B 2) k1 = k2 at *
  have p3 := sub_eq (wd_word A 3) (wd_word B 3) q2
  have q3 := bit_subHi (wd A 3) (wd B 3) k2
  have r3 := word_subLo (wd A 3) (wd B 3) k2
  generalize subHi (wd A 3) (wd B 3) k2 = k3 at *
  generalize subLo (wd A 0) (wd B 0) 0 = s0 at *
  generalize subLo (wd A 1) (wd B 1) k0 = s1 at *
  generalize subLo (wd A 2) (wd B 2) k1 = s2 at *
  generalize subLo (wd A 3) (wd B 3) k2 = s3 at *
  have key : (((A + M - B) % M : Nat) : Int) = s0 + 18446744073709551616 * s1 + 340282366920938463463374607431768211456 * s2 + 6277101735386680763835789423207666416102355444464034512896 * s3 ∧ (((A : Int) - B) = ((A + M - B) % M : Nat) - (M : Int) * k3) := by
    have hs : (A : Int) - B = s0 + 18446744073709551616 * s1 + 340282366920938463463374607431768211456 * s2 + 6277101735386680763835789423207666416102355444464034512896 * s3 - M * k3 := by
      rw [M_eq]; omega
    unfold Word Bit at *
    rw [M_eq] at *
    omega
  exact ⟨U_of_sum _ r0 r1 r2 r3 key.1, key.2⟩
theorem sub_borrow (A B : Nat) (hA : A < M) (hB : B < M) : subHi (wd A 3) (wd B 3) (subHi (wd A 2) (wd B 2) (subHi (wd A 1) (wd B 1) (subHi (wd A 0) (wd B 0) 0))) = 1 ↔ A < B := by
  have h := (sub_words A B hA hB).2
  have h2 := bit_subHi (wd A 3) (wd B 3) (subHi (wd A 2) (wd B 2) (subHi (wd A 1) (wd B 1) (subHi (wd A 0) (wd B 0) 0)))
  generalize subHi (wd A 3) (wd B 3) (subHi (wd A 2) (wd B 2) (subHi (wd A 1) (wd B 1) (subHi (wd A 0) (wd B 0) 0))) = k at *
  unfold Bit at h2; rw [M_eq] at *
  rcases (by omega : k = 0 ∨ k = 1) with rfl | rfl <;> omega
set_option maxHeartbeats 1000000 in
theorem sub_any (A B : Nat) (w : World) (hA : A < M) (hB : B < M) :
    Calls Tryd.prog 87 #[U A, U B] w fun e w' => e = .returned (.tuple #[U ((A + M - B) % M), .bool (decide (A < B))]) ∧ Below w.heap.size w w' := by
  have h55 := sub64; have h1 := wd_word; have h2 := word_subLo; have h3 := bit_subHi; have h4 := bit_zero
  go_enter Tryd.func87, Tryd.ntmps87
  go_wp2
  refine wp_loop_rounds 5 ?_
  repeat (rw [rounds_succ]; go_wp2; try (go_region; go_wp2))
  go_returns
  refine ⟨ret_Ub (sub_words A B hA hB).1 (bit_ne_zero (bit_subHi _ _ _) (sub_borrow A B hA hB)), ?_⟩
  (repeat' (first | (with_reducible exact Below.refl _ _) | (with_reducible assumption) | (with_reducible refine below_drewN ?_ _) | (with_reducible refine Below.drew ?_) | (with_reducible refine Below.setCell ?_ ?_ _) | (with_reducible refine Below.alloc ?_ ?_ _) | (with_reducible exact Nat.le_refl _) | omega | (simp; omega) | (simp; done)))
set_option maxHeartbeats 1000000 in
theorem rsub_any (A B : Nat) (w : World) (hA : A < M) (hB : B < M) :
    Calls Tryd.prog 69 #[U A, U B] w fun e w' => e = .returned (.tuple #[U ((A + M - B) % M), .bool (decide (A < B))]) ∧ Below w.heap.size w w' := by
  have h55 := sub64; have h1 := wd_word; have h2 := word_subLo; have h3 := bit_subHi; have h4 := bit_zero
  go_enter Tryd.func69, Tryd.ntmps69
  go_wp2
  refine wp_loop_rounds 5 ?_
  repeat (rw [rounds_succ]; go_wp2; try (go_region; go_wp2))
  go_returns
  refine ⟨ret_Ub (sub_words A B hA hB).1 (bit_eq_one (bit_subHi _ _ _) (sub_borrow A B hA hB)), ?_⟩
  (repeat' (first | (with_reducible exact Below.refl _ _) | (with_reducible assumption) | (with_reducible refine below_drewN ?_ _) | (with_reducible refine Below.drew ?_) | (with_reducible refine Below.setCell ?_ ?_ _) | (with_reducible refine Below.alloc ?_ ?_ _) | (with_reducible exact Nat.le_refl _) | omega | (simp; omega) | (simp; done)))
end Go.Proofs.YtlkbhiaoolddmaaDoor

/-! Long division by bits. No program in sight. -/
namespace Go.Proofs.YtlkbhiaoolddmaaDoor
open Go

theorem M_pow : M = 2 ^ 256 := by rw [M_eq]
theorem B64_pow : (18446744073709551616 : Nat) = 2 ^ 64 := rfl

theorem wd_nat (A i : Nat) : wd A i = ((A / 2 ^ (64 * i) % 2 ^ 64 : Nat) : Int) := by
  unfold wd; rw [B64_pow, ← Nat.pow_mul]

/-! ### one more bit of a number -/
theorem mul_two_pow_dvd {q p : Nat} (h : q % 2 ^ (p + 1) = 0) : ∃ a, q = a * 2 ^ (p + 1) :=
  ⟨q / 2 ^ (p + 1), by have := Nat.div_add_mod q (2 ^ (p + 1)); rw [h] at this; rw [Nat.mul_comm]; omega⟩

theorem setbit_hi (q p j : Nat) (h : q % 2 ^ (p + 1) = 0) (hj : p + 1 ≤ 64 * j) : wd (q + 2 ^ p) j = wd q j := by
  rw [wd_nat, wd_nat]
  congr 2
  obtain ⟨a, rfl⟩ := mul_two_pow_dvd h
  have e : 64 * j = (p + 1) + (64 * j - (p + 1)) := by omega
  have e2 : 2 ^ (64 * j) = 2 ^ (p + 1) * 2 ^ (64 * j - (p + 1)) := by rw [← Nat.pow_add, ← e]
  rw [e2, ← Nat.div_div_eq_div_mul, ← Nat.div_div_eq_div_mul]
  have hp : 0 < 2 ^ (p + 1) := Nat.pow_pos (by decide)
  have h1 : (a * 2 ^ (p + 1) + 2 ^ p) / 2 ^ (p + 1) = a := by
    rw [Nat.add_comm, Nat.add_mul_div_right _ _ hp, Nat.div_eq_of_lt (Nat.pow_lt_pow_right (by decide) (by omega))]; omega
  rw [h1, Nat.mul_div_cancel _ hp]

theorem setbit_lo (q p j : Nat) (hj : 64 * (j + 1) ≤ p) : wd (q + 2 ^ p) j = wd q j := by
  rw [wd_nat, wd_nat]
  congr 1
  have hp : 0 < 2 ^ (64 * j) := Nat.pow_pos (by decide)
  have e : 2 ^ p = 2 ^ (p - 64 * j - 64) * 2 ^ 64 * 2 ^ (64 * j) := by rw [← Nat.pow_add, ← Nat.pow_add]; congr 1; omega
  rw [e, Nat.add_mul_div_right _ _ hp, Nat.add_mul_mod_self_right]

theorem setbit_at (q j b : Nat) (hb : b < 64) (h : q % 2 ^ (64 * j + b + 1) = 0) : bits .or .u64 (wd q j) (2 ^ b) = wd (q + 2 ^ (64 * j + b)) j := by
  rw [wd_nat, wd_nat]
  obtain ⟨a, rfl⟩ := mul_two_pow_dvd h
  have hp : 0 < 2 ^ (64 * j) := Nat.pow_pos (by decide)
  have e1 : a * 2 ^ (64 * j + b + 1) = a * 2 ^ (b + 1) * 2 ^ (64 * j) := by rw [Nat.mul_assoc, ← Nat.pow_add]; congr 2; omega
  have e2 : 2 ^ (64 * j + b) = 2 ^ b * 2 ^ (64 * j) := by rw [← Nat.pow_add]; congr 1; omega
  rw [e2, Nat.add_mul_div_right _ _ hp, e1, Nat.mul_div_cancel _ hp]
  have e3 : 2 ^ 64 = 2 ^ (63 - b) * 2 ^ (b + 1) := by rw [← Nat.pow_add]; congr 1; omega
  have e4 : a * 2 ^ (b + 1) % 2 ^ 64 = a % 2 ^ (63 - b) * 2 ^ (b + 1) := by rw [e3, Nat.mul_mod_mul_right]
  have hl : a % 2 ^ (63 - b) < 2 ^ (63 - b) := Nat.mod_lt _ (Nat.pow_pos (by decide))
  have hb2 : 2 ^ (b + 1) = 2 * 2 ^ b := by rw [Nat.pow_succ]; omega
  have hpb : 0 < 2 ^ b := Nat.pow_pos (by decide)
  have hle : (a % 2 ^ (63 - b) + 1) * 2 ^ (b + 1) ≤ 2 ^ 64 := by rw [e3]; exact Nat.mul_le_mul_right _ hl
  have e5 : (a * 2 ^ (b + 1) + 2 ^ b) % 2 ^ 64 = a % 2 ^ (63 - b) * 2 ^ (b + 1) + 2 ^ b := by
    rw [Nat.add_mod, e4, Nat.mod_eq_of_lt (a := 2 ^ b) (Nat.pow_lt_pow_right (by decide) hb), Nat.mod_eq_of_lt]
    rw [Nat.add_mul] at hle; omega
  rw [e5, e4]
  rw [Nat.add_mul] at hle
  have hc : ((2 : Int) ^ b) = ((2 ^ b : Nat) : Int) := by simp
  have hlt1 : a % 2 ^ (63 - b) * 2 ^ (b + 1) < 18446744073709551616 := by rw [B64_pow]; omega
  have hlt2 : 2 ^ b < 18446744073709551616 := by rw [B64_pow]; omega
  rw [hc, bits_or_u64_nat _ _ hlt1 hlt2]
  congr 1
  exact or_add _ _ _ (Nat.pow_lt_pow_right (by decide) (by omega))

/-! ### the division -/
/-- What has been read of the dividend behind i bits. -/
def dT (N i : Nat) : Nat := N / 2 ^ (256 - i)
def dLo (lo i : Nat) : Nat := lo * 2 ^ i % M
def dR (N b i : Nat) : Nat := dT N i % b
def dQ (N b i : Nat) : Nat := dT N i / b * 2 ^ (256 - i)

theorem dLo_lt (lo i : Nat) : dLo lo i < M := Nat.mod_lt _ (by rw [M_eq]; decide)
theorem dLo_zero {lo : Nat} (h : lo < M) : dLo lo 0 = lo := by unfold dLo; rw [Nat.pow_zero, Nat.mul_one, Nat.mod_eq_of_lt h]
theorem dLo_step (lo i : Nat) : 2 * dLo lo i % M = dLo lo (i + 1) := by
  unfold dLo; rw [Nat.mul_mod_mod, Nat.pow_succ]; congr 1; rw [Nat.mul_comm 2, Nat.mul_assoc]
theorem dT_zero {hi lo : Nat} (h : lo < M) : dT (hi * M + lo) 0 = hi := by
  unfold dT; rw [Nat.sub_zero, ← M_pow, Nat.add_comm, Nat.add_mul_div_right _ _ (by rw [M_eq]; decide), Nat.div_eq_of_lt h]; omega
/-- The bit that comes next is the one that falls out of what is left. -/
theorem dT_step (hi lo i : Nat) (h : i < 256) : dT (hi * M + lo) (i + 1) = 2 * dT (hi * M + lo) i + 2 * dLo lo i / M := by
  unfold dT dLo
  rw [M_pow] at *
  have e0 : 256 - i = (256 - (i + 1)) + 1 := by omega
  generalize hk : 256 - (i + 1) = k at *
  rw [e0]
  have hi' : i = 255 - k := by omega
  -- lo = u * 2^(k+1) + v
  have hlo := Nat.div_add_mod lo (2 ^ (k + 1))
  have hv : lo % 2 ^ (k + 1) < 2 ^ (k + 1) := Nat.mod_lt _ (Nat.pow_pos (by decide))
  generalize lo / 2 ^ (k + 1) = u at *
  generalize lo % 2 ^ (k + 1) = v at *
  have pk : 2 ^ (k + 1) = 2 * 2 ^ k := by rw [Nat.pow_succ]; omega
  have p0 : 0 < 2 ^ k := Nat.pow_pos (by decide)
  have p256 : (2 : Nat) ^ 256 = 2 ^ (255 - k) * 2 ^ (k + 1) := by rw [← Nat.pow_add]; congr 1; omega
  have e1 : (hi * 2 ^ 256 + lo) / 2 ^ (k + 1) = hi * 2 ^ (255 - k) + u := by
    rw [p256, ← hlo, show hi * (2 ^ (255 - k) * 2 ^ (k + 1)) + (2 ^ (k + 1) * u + v) = v + (hi * 2 ^ (255 - k) + u) * 2 ^ (k + 1) by rw [Nat.add_mul, Nat.mul_assoc, Nat.mul_comm u]; omega,
      Nat.add_mul_div_right _ _ (Nat.pow_pos (by decide)), Nat.div_eq_of_lt hv]; omega
  have e2 : (hi * 2 ^ 256 + lo) / 2 ^ k = 2 * (hi * 2 ^ (255 - k) + u) + v / 2 ^ k := by
    rw [p256, ← hlo, show hi * (2 ^ (255 - k) * 2 ^ (k + 1)) + (2 ^ (k + 1) * u + v) = v + (2 * (hi * 2 ^ (255 - k) + u)) * 2 ^ k by
      rw [pk]
      have a1 : hi * (2 ^ (255 - k) * (2 * 2 ^ k)) = 2 * (hi * 2 ^ (255 - k)) * 2 ^ k := by
        rw [← Nat.mul_assoc, ← Nat.mul_assoc, Nat.mul_comm (hi * 2 ^ (255 - k)) 2]
      have a2 : 2 * 2 ^ k * u = 2 * u * 2 ^ k := by rw [Nat.mul_assoc, Nat.mul_comm (2 ^ k), ← Nat.mul_assoc]
      rw [a1, a2, Nat.mul_add, Nat.add_mul]; omega,
      Nat.add_mul_div_right _ _ p0]; omega
  have e3 : lo * 2 ^ i % 2 ^ 256 = v * 2 ^ (255 - k) := by
    rw [hi', ← hlo, Nat.add_mul, p256, show 2 ^ (k + 1) * u * 2 ^ (255 - k) = u * (2 ^ (255 - k) * 2 ^ (k + 1)) by rw [Nat.mul_comm (2 ^ (k + 1)), Nat.mul_assoc, Nat.mul_comm (2 ^ (k + 1))],
      Nat.add_comm, Nat.add_mul_mod_self_right, Nat.mod_eq_of_lt]
    rw [Nat.mul_comm (2 ^ (255 - k))]; exact Nat.mul_lt_mul_of_pos_right hv (Nat.pow_pos (by decide))
  have e4 : 2 * (v * 2 ^ (255 - k)) / 2 ^ 256 = v / 2 ^ k := by
    rw [p256, pk, show 2 * (v * 2 ^ (255 - k)) = v * (2 ^ (255 - k) * 2) by rw [← Nat.mul_assoc, ← Nat.mul_assoc, Nat.mul_comm 2 v, Nat.mul_assoc, Nat.mul_comm 2, ← Nat.mul_assoc],
      show 2 ^ (255 - k) * (2 * 2 ^ k) = 2 ^ k * (2 ^ (255 - k) * 2) by rw [← Nat.mul_assoc, Nat.mul_comm], Nat.mul_div_mul_right _ _ (by have : 0 < 2 ^ (255 - k) := Nat.pow_pos (by decide); omega)]
  rw [e1, e2, e3, e4]
theorem dbit (lo i : Nat) : 2 * dLo lo i / M ≤ 1 := by
  have := dLo_lt lo i
  have hM : 0 < M := by rw [M_eq]; decide
  rw [← Nat.lt_succ_iff, Nat.div_lt_iff_lt_mul hM]; omega

theorem dQ_low (N b i : Nat) (_h : i < 256) : dQ N b i % 2 ^ (255 - i + 1) = 0 := by
  unfold dQ; rw [show 255 - i + 1 = 256 - i by omega]; exact Nat.mul_mod_left _ _
/-- The step: the doubled remainder with the next bit, against the divisor. -/
theorem d_yes (hi lo b i : Nat) (hb : 0 < b) (h : i < 256) (hge : b ≤ 2 * dR (hi * M + lo) b i + 2 * dLo lo i / M) :
    dR (hi * M + lo) b (i + 1) = 2 * dR (hi * M + lo) b i + 2 * dLo lo i / M - b ∧ dQ (hi * M + lo) b (i + 1) = dQ (hi * M + lo) b i + 2 ^ (255 - i) := by
  have hT := dT_step hi lo i h
  have hbit := dbit lo i
  unfold dR dQ at *
  generalize dT (hi * M + lo) (i + 1) = T' at *
  generalize dT (hi * M + lo) i = T at *
  generalize 2 * dLo lo i / M = c at *
  have hd := Nat.div_add_mod T b
  have hr := Nat.mod_lt T hb
  generalize T / b = q at *
  generalize T % b = r at *
  have e : T' = (2 * r + c - b) + (2 * q + 1) * b := by rw [hT, ← hd, Nat.add_mul, Nat.mul_assoc, Nat.mul_comm q b]; omega
  have h1 : 2 * r + c - b < b := by omega
  rw [e, Nat.add_mul_mod_self_right, Nat.mod_eq_of_lt h1, Nat.add_mul_div_right _ _ hb, Nat.div_eq_of_lt h1]
  refine ⟨rfl, ?_⟩
  rw [show 256 - (i + 1) = 255 - i by omega, show 256 - i = 255 - i + 1 by omega, Nat.pow_succ, Nat.zero_add, Nat.add_mul, Nat.one_mul, Nat.mul_comm 2 q, Nat.mul_assoc, Nat.mul_comm 2]
theorem d_no (hi lo b i : Nat) (hb : 0 < b) (h : i < 256) (hge : 2 * dR (hi * M + lo) b i + 2 * dLo lo i / M < b) :
    dR (hi * M + lo) b (i + 1) = 2 * dR (hi * M + lo) b i + 2 * dLo lo i / M ∧ dQ (hi * M + lo) b (i + 1) = dQ (hi * M + lo) b i := by
  have hT := dT_step hi lo i h
  have hbit := dbit lo i
  unfold dR dQ at *
  generalize dT (hi * M + lo) (i + 1) = T' at *
  generalize dT (hi * M + lo) i = T at *
  generalize 2 * dLo lo i / M = c at *
  have hd := Nat.div_add_mod T b
  generalize T / b = q at *
  generalize T % b = r at *
  have e : T' = (2 * r + c) + (2 * q) * b := by rw [hT, ← hd, Nat.mul_assoc, Nat.mul_comm q b]; omega
  rw [e, Nat.add_mul_mod_self_right, Nat.mod_eq_of_lt hge, Nat.add_mul_div_right _ _ hb, Nat.div_eq_of_lt hge]
  refine ⟨rfl, ?_⟩
  rw [show 256 - (i + 1) = 255 - i by omega, show 256 - i = 255 - i + 1 by omega, Nat.pow_succ, Nat.zero_add, Nat.mul_comm 2 q, Nat.mul_assoc, Nat.mul_comm 2]
theorem dR_lt (N b i : Nat) (hb : 0 < b) : dR N b i < b := Nat.mod_lt _ hb
theorem d_start {hi lo b : Nat} (hl : lo < M) (hb : hi < b) : dR (hi * M + lo) b 0 = hi ∧ dQ (hi * M + lo) b 0 = 0 := by
  unfold dR dQ; rw [dT_zero hl, Nat.mod_eq_of_lt hb, Nat.div_eq_of_lt hb]; exact ⟨rfl, Nat.zero_mul _⟩
theorem d_end (N b : Nat) : dR N b 256 = N % b ∧ dQ N b 256 = N / b := by
  unfold dR dQ dT; simp
/-- Nothing is left: the rest of the quotient is 0. -/
theorem d_early {hi lo b i : Nat} (h : i ≤ 256) (hr : dR (hi * M + lo) b i = 0) (h0 : dLo lo i = 0) : dR (hi * M + lo) b i = (hi * M + lo) % b ∧ dQ (hi * M + lo) b i = (hi * M + lo) / b := by
  have key : ∀ k, i + k ≤ 256 → dT (hi * M + lo) (i + k) = dT (hi * M + lo) i * 2 ^ k ∧ dLo lo (i + k) = 0 := by
    intro k
    induction k with
    | zero => intro _; exact ⟨by simp, h0⟩
    | succ k ih =>
      intro hk
      obtain ⟨h1, h2⟩ := ih (by omega)
      have h3 := dT_step hi lo (i + k) (by omega)
      have h4 := dLo_step lo (i + k)
      rw [h2] at h3 h4
      refine ⟨?_, ?_⟩
      · rw [← Nat.add_assoc, h3, h1, Nat.mul_zero, Nat.zero_div, Nat.pow_succ, Nat.add_zero, Nat.mul_comm 2, Nat.mul_assoc]
      · rw [← Nat.add_assoc, ← h4]; simp
  have hN : hi * M + lo = dT (hi * M + lo) i * 2 ^ (256 - i) := by
    have := (key (256 - i) (by omega)).1
    rw [show i + (256 - i) = 256 by omega] at this
    rw [← this]; unfold dT; simp
  unfold dR dQ at *
  generalize dT (hi * M + lo) i = T at *
  rw [hN]
  by_cases hb : b = 0
  · subst hb; simp at *; simp [hr]
  · have hb' : 0 < b := by omega
    have hd := Nat.div_add_mod T b
    rw [hr] at hd
    rw [hr]
    generalize T / b = q at *
    have e : T * 2 ^ (256 - i) = q * 2 ^ (256 - i) * b := by rw [← hd, Nat.add_zero, Nat.mul_comm b q, Nat.mul_right_comm]
    rw [e, Nat.mul_mod_left, Nat.mul_div_cancel _ hb']
    exact ⟨rfl, rfl⟩
end Go.Proofs.YtlkbhiaoolddmaaDoor

/-! Small numbers, doubling, long division: the walks. -/
namespace Go.Proofs.YtlkbhiaoolddmaaDoor
open Go Go.RowKit

theorem U_small (n : Nat) (hn : n < 18446744073709551616) : Value.agg #[.int .u64 n, .int .u64 0, .int .u64 0, .int .u64 0] = U n :=
  U_of_sum n ⟨by omega, by omega⟩ word_zero word_zero word_zero (by omega)
set_option maxHeartbeats 1000000 in
theorem fromuint_any (n : Int) (w : World) (hn : Word n) :
    Calls Tryd.prog 47 #[.int .u64 n] w fun e w' => e = .returned (U n.toNat) ∧ Below w.heap.size w w' := by
  obtain ⟨n, rfl⟩ := Int.eq_ofNat_of_zero_le hn.1
  have h2 := hn.2
  go_enter Tryd.func47, Tryd.ntmps47
  go_wp2
  go_returns
  refine ⟨ret_U (U_small n (by omega)), ?_⟩
  (repeat' (first | (with_reducible exact Below.refl _ _) | (with_reducible assumption) | (with_reducible refine below_drewN ?_ _) | (with_reducible refine Below.drew ?_) | (with_reducible refine Below.setCell ?_ ?_ _) | (with_reducible refine Below.alloc ?_ ?_ _) | (with_reducible exact Nat.le_refl _) | omega | (simp; omega) | (simp; done)))

theorem dbl_word {x c : Int} (_hx : Word x) (hc : Bit c) : bits .or .u64 (IntKind.u64.wrap (x * 2)) c = (x * 2) % 18446744073709551616 + c := by
  unfold Word Bit at *
  rw [IntKind.wrap_u64]
  have e : x * 2 % 18446744073709551616 = (x % 9223372036854775808) * 2 ^ 1 := by omega
  have h := u64_or_add (x % 9223372036854775808) c 1 (by omega) hc.1 (by omega) (by omega)
  rw [← e] at h
  exact h
theorem dbl_bit {x : Int} (hx : Word x) : Bit (x / 9223372036854775808) := by unfold Word Bit at *; omega
theorem dbl_words (A : Nat) (c : Int) (hA : A < M) (hc : Bit c) :
    Value.agg #[.int .u64 (bits .or .u64 (IntKind.u64.wrap (wd A 0 * 2)) c), .int .u64 (bits .or .u64 (IntKind.u64.wrap (wd A 1 * 2)) (wd A 0 / 9223372036854775808)), .int .u64 (bits .or .u64 (IntKind.u64.wrap (wd A 2 * 2)) (wd A 1 / 9223372036854775808)), .int .u64 (bits .or .u64 (IntKind.u64.wrap (wd A 3 * 2)) (wd A 2 / 9223372036854775808))] = U ((2 * A + c.toNat) % M) ∧ wd A 3 / 9223372036854775808 = (((2 * A + c.toNat) / M : Nat) : Int) := by
  have w0 := wd_word A 0; have w1 := wd_word A 1; have w2 := wd_word A 2; have w3 := wd_word A 3
  have ea := wd_sum A hA
  rw [dbl_word w0 hc, dbl_word w1 (dbl_bit w0), dbl_word w2 (dbl_bit w1), dbl_word w3 (dbl_bit w2)]
  generalize wd A 0 = a0 at *; generalize wd A 1 = a1 at *; generalize wd A 2 = a2 at *; generalize wd A 3 = a3 at *
  unfold Word Bit at *
  refine ⟨U_of_sum _ ?_ ?_ ?_ ?_ ?_, ?_⟩
  · unfold Word; omega
  · unfold Word; omega
  · unfold Word; omega
  · unfold Word; omega
  · rw [M_eq] at *; omega
  · rw [M_eq] at *; omega
theorem ret_Ui {a b : Value} {c d : Int} (h : a = b) (h' : c = d) : Ending.returned (.tuple #[a, .int .u64 c]) = .returned (.tuple #[b, .int .u64 d]) := by rw [h, h']
set_option maxHeartbeats 1000000 in
theorem double_any (A : Nat) (c : Int) (w : World) (hA : A < M) (hc : Bit c) :
    Calls Tryd.prog 86 #[U A, .int .u64 c] w fun e w' => e = .returned (.tuple #[U ((2 * A + c.toNat) % M), .int .u64 (((2 * A + c.toNat) / M : Nat) : Int)]) ∧ Below w.heap.size w w' := by
  have H := Lib.hid hc
  clear hc
  go_enter Tryd.func86, Tryd.ntmps86
  go_wp2
  refine wp_loop_rounds 5 ?_
  repeat (rw [rounds_succ]; go_wp2; try (go_region; go_wp2))
  go_returns
  obtain ⟨g1, g2⟩ := dbl_words A c hA H.out
  refine ⟨ret_Ui g1 g2, ?_⟩
  (repeat' (first | (with_reducible exact Below.refl _ _) | (with_reducible assumption) | (with_reducible refine below_drewN ?_ _) | (with_reducible refine Below.drew ?_) | (with_reducible refine Below.setCell ?_ ?_ _) | (with_reducible refine Below.alloc ?_ ?_ _) | (with_reducible exact Nat.le_refl _) | omega | (simp; omega) | (simp; done)))
end Go.Proofs.YtlkbhiaoolddmaaDoor

/-! Whole arrays in a walk whose world is written out: loads, stores, results. -/
namespace Go.Proofs.YtlkbhiaoolddmaaDoor
open Go Go.RowKit

theorem setRow_alloc_at (w : World) (c c' : Array Value) (t : TypeId) (n : Nat) (hn : n = w.heap.size) : (w.alloc (.cells c t)).setRow n c' = w.alloc (.cells c' t) := by
  subst hn; exact World.setRow_alloc_new w c c' t
theorem setRow_alloc_past (w : World) (o : Obj) (c' : Array Value) (n : Nat) (hn : n < w.heap.size) : (w.alloc o).setRow n c' = (w.setRow n c').alloc o := by
  simp only [World.setRow, World.alloc]
  congr 1
  apply Array.ext_getElem?
  intro i
  simp only [Array.getElem?_modify, Array.getElem?_push, Array.size_modify]
  by_cases h : n = i
  · subst h; rw [if_pos rfl, if_neg (by omega), if_neg (by omega), if_pos rfl]
  · rw [if_neg h]; split <;> first | rfl | (rw [if_neg h])
theorem setRow_drew (w : World) (c' : Array Value) (n : Nat) : w.drew.setRow n c' = (w.setRow n c').drew := rfl
theorem setRow_drewN (w : World) (c' : Array Value) (n k : Nat) : (w.drewN k).setRow n c' = (w.setRow n c').drewN k := rfl
theorem heap_past_aux (w : World) (o : Obj) (n : Nat) (hn : n < w.heap.size) : (w.alloc o).heap[n]? = w.heap[n]? := by
  show (w.heap.push o)[n]? = _
  rw [Array.getElem?_push, if_neg (Nat.ne_of_lt hn)]
theorem heap_alloc_at (w : World) (o : Obj) (n : Nat) (hn : n = w.heap.size) : (w.alloc o).heap[n]? = some o := by subst hn; exact heap_alloc_new w o
theorem heap_alloc_past (w : World) (o : Obj) (n : Nat) (hn : n < w.heap.size) : (w.alloc o).heap[n]? = w.heap[n]? := Go.Proofs.YtlkbhiaoolddmaaDoor.heap_past_aux w o n hn

theorem wl_load {P : Program} {ops : Array Oper} {rest : List Oper} {dst : Option Tmp} {ty ty' : TypeId} {x : Operand} {pos : String} {after : Array Edge} {a : Act} {w : World} {Q : Exit → Act → World → Prop}
    (g : Nat) (t : TypeId) (cs : Array Value) (d : TypeDesc) (hx : a.eval x = .pointer (some ⟨g, 0, none⟩)) (hg : w.heap[g]? = some (.cells cs t (0, 0)))
    (hu : P.underlying ty = some d) (hd : (match d with | .struct _ | .array _ _ => true | _ => false) = true) (hi : (P.info? ty).map (·.size) = some cs.size)
    (h : wpList P ops Q rest (a.put dst (.agg cs)) w) : wpList P ops Q (⟨dst, .load ty x, ty', pos, after, none⟩ :: rest) a w :=
  wpList_load_row rfl ty x rfl g hx t cs (0, 0) d hg hu hd hi h
theorem wl_store {P : Program} {ops : Array Oper} {rest : List Oper} {ty ty' : TypeId} {x y : Operand} {pos : String} {after : Array Edge} {a : Act} {w : World} {Q : Exit → Act → World → Prop}
    (g : Nat) (t : TypeId) (old cs : Array Value) (hx : a.eval x = .pointer (some ⟨g, 0, none⟩)) (hy : a.eval y = .agg cs) (hg : w.heap[g]? = some (.cells old t (0, 0)))
    (hi : (P.info? ty).map (·.size) = some cs.size) (ho : old.size = cs.size) (h1 : cs.all (·.oneCell') = true)
    (h : wpList P ops Q rest a (w.setRow g cs)) : wpList P ops Q (⟨none, .store ty x y, ty', pos, after, none⟩ :: rest) a w :=
  wpList_store_row rfl ty x y rfl g cs hx hy t old hg hi ho h1 h

/-! ### blocks of a world that is written out, by their places -/
theorem hp_1_0 (w : World) (o0 : Obj) : (w.alloc o0).heap[w.heap.size]? = some o0 := heap_alloc_at _ _ _ (by simp)
theorem sr_1_0 (w : World) (c c' : Array Value) (t : TypeId) : (w.alloc (.cells c t)).setRow (w.heap.size) c' = (w.alloc (.cells c' t)) := by rw [setRow_alloc_at _ _ _ _ _ (by simp)]
theorem hp_2_0 (w : World) (o0 o1 : Obj) : ((w.alloc o0).alloc o1).heap[w.heap.size]? = some o0 := (heap_alloc_past _ _ _ (by simp; try omega)).trans (heap_alloc_at _ _ _ (by simp))
theorem sr_2_0 (w : World) (o1 : Obj) (c c' : Array Value) (t : TypeId) : ((w.alloc (.cells c t)).alloc o1).setRow (w.heap.size) c' = ((w.alloc (.cells c' t)).alloc o1) := by rw [setRow_alloc_past _ _ _ _ (by simp; try omega), setRow_alloc_at _ _ _ _ _ (by simp)]
theorem hp_2_1 (w : World) (o0 o1 : Obj) : ((w.alloc o0).alloc o1).heap[w.heap.size + 1]? = some o1 := heap_alloc_at _ _ _ (by simp)
theorem sr_2_1 (w : World) (o0 : Obj) (c c' : Array Value) (t : TypeId) : ((w.alloc o0).alloc (.cells c t)).setRow (w.heap.size + 1) c' = ((w.alloc o0).alloc (.cells c' t)) := by rw [setRow_alloc_at _ _ _ _ _ (by simp)]
theorem hp_3_0 (w : World) (o0 o1 o2 : Obj) : (((w.alloc o0).alloc o1).alloc o2).heap[w.heap.size]? = some o0 := (heap_alloc_past _ _ _ (by simp; try omega)).trans ((heap_alloc_past _ _ _ (by simp; try omega)).trans (heap_alloc_at _ _ _ (by simp)))
theorem sr_3_0 (w : World) (o1 o2 : Obj) (c c' : Array Value) (t : TypeId) : (((w.alloc (.cells c t)).alloc o1).alloc o2).setRow (w.heap.size) c' = (((w.alloc (.cells c' t)).alloc o1).alloc o2) := by rw [setRow_alloc_past _ _ _ _ (by simp; try omega), setRow_alloc_past _ _ _ _ (by simp; try omega), setRow_alloc_at _ _ _ _ _ (by simp)]
theorem hp_3_1 (w : World) (o0 o1 o2 : Obj) : (((w.alloc o0).alloc o1).alloc o2).heap[w.heap.size + 1]? = some o1 := (heap_alloc_past _ _ _ (by simp; try omega)).trans (heap_alloc_at _ _ _ (by simp))
theorem sr_3_1 (w : World) (o0 o2 : Obj) (c c' : Array Value) (t : TypeId) : (((w.alloc o0).alloc (.cells c t)).alloc o2).setRow (w.heap.size + 1) c' = (((w.alloc o0).alloc (.cells c' t)).alloc o2) := by rw [setRow_alloc_past _ _ _ _ (by simp; try omega), setRow_alloc_at _ _ _ _ _ (by simp)]
theorem hp_3_2 (w : World) (o0 o1 o2 : Obj) : (((w.alloc o0).alloc o1).alloc o2).heap[w.heap.size + 1 + 1]? = some o2 := heap_alloc_at _ _ _ (by simp)
theorem sr_3_2 (w : World) (o0 o1 : Obj) (c c' : Array Value) (t : TypeId) : (((w.alloc o0).alloc o1).alloc (.cells c t)).setRow (w.heap.size + 1 + 1) c' = (((w.alloc o0).alloc o1).alloc (.cells c' t)) := by rw [setRow_alloc_at _ _ _ _ _ (by simp)]
theorem hp_4_0 (w : World) (o0 o1 o2 o3 : Obj) : ((((w.alloc o0).alloc o1).alloc o2).alloc o3).heap[w.heap.size]? = some o0 := (heap_alloc_past _ _ _ (by simp; try omega)).trans ((heap_alloc_past _ _ _ (by simp; try omega)).trans ((heap_alloc_past _ _ _ (by simp; try omega)).trans (heap_alloc_at _ _ _ (by simp))))
theorem sr_4_0 (w : World) (o1 o2 o3 : Obj) (c c' : Array Value) (t : TypeId) : ((((w.alloc (.cells c t)).alloc o1).alloc o2).alloc o3).setRow (w.heap.size) c' = ((((w.alloc (.cells c' t)).alloc o1).alloc o2).alloc o3) := by rw [setRow_alloc_past _ _ _ _ (by simp; try omega), setRow_alloc_past _ _ _ _ (by simp; try omega), setRow_alloc_past _ _ _ _ (by simp; try omega), setRow_alloc_at _ _ _ _ _ (by simp)]
theorem hp_4_1 (w : World) (o0 o1 o2 o3 : Obj) : ((((w.alloc o0).alloc o1).alloc o2).alloc o3).heap[w.heap.size + 1]? = some o1 := (heap_alloc_past _ _ _ (by simp; try omega)).trans ((heap_alloc_past _ _ _ (by simp; try omega)).trans (heap_alloc_at _ _ _ (by simp)))
theorem sr_4_1 (w : World) (o0 o2 o3 : Obj) (c c' : Array Value) (t : TypeId) : ((((w.alloc o0).alloc (.cells c t)).alloc o2).alloc o3).setRow (w.heap.size + 1) c' = ((((w.alloc o0).alloc (.cells c' t)).alloc o2).alloc o3) := by rw [setRow_alloc_past _ _ _ _ (by simp; try omega), setRow_alloc_past _ _ _ _ (by simp; try omega), setRow_alloc_at _ _ _ _ _ (by simp)]
theorem hp_4_2 (w : World) (o0 o1 o2 o3 : Obj) : ((((w.alloc o0).alloc o1).alloc o2).alloc o3).heap[w.heap.size + 1 + 1]? = some o2 := (heap_alloc_past _ _ _ (by simp; try omega)).trans (heap_alloc_at _ _ _ (by simp))
theorem sr_4_2 (w : World) (o0 o1 o3 : Obj) (c c' : Array Value) (t : TypeId) : ((((w.alloc o0).alloc o1).alloc (.cells c t)).alloc o3).setRow (w.heap.size + 1 + 1) c' = ((((w.alloc o0).alloc o1).alloc (.cells c' t)).alloc o3) := by rw [setRow_alloc_past _ _ _ _ (by simp; try omega), setRow_alloc_at _ _ _ _ _ (by simp)]
theorem hp_4_3 (w : World) (o0 o1 o2 o3 : Obj) : ((((w.alloc o0).alloc o1).alloc o2).alloc o3).heap[w.heap.size + 1 + 1 + 1]? = some o3 := heap_alloc_at _ _ _ (by simp)
theorem sr_4_3 (w : World) (o0 o1 o2 : Obj) (c c' : Array Value) (t : TypeId) : ((((w.alloc o0).alloc o1).alloc o2).alloc (.cells c t)).setRow (w.heap.size + 1 + 1 + 1) c' = ((((w.alloc o0).alloc o1).alloc o2).alloc (.cells c' t)) := by rw [setRow_alloc_at _ _ _ _ _ (by simp)]
theorem hp_5_0 (w : World) (o0 o1 o2 o3 o4 : Obj) : (((((w.alloc o0).alloc o1).alloc o2).alloc o3).alloc o4).heap[w.heap.size]? = some o0 := (heap_alloc_past _ _ _ (by simp; try omega)).trans ((heap_alloc_past _ _ _ (by simp; try omega)).trans ((heap_alloc_past _ _ _ (by simp; try omega)).trans ((heap_alloc_past _ _ _ (by simp; try omega)).trans (heap_alloc_at _ _ _ (by simp)))))
theorem sr_5_0 (w : World) (o1 o2 o3 o4 : Obj) (c c' : Array Value) (t : TypeId) : (((((w.alloc (.cells c t)).alloc o1).alloc o2).alloc o3).alloc o4).setRow (w.heap.size) c' = (((((w.alloc (.cells c' t)).alloc o1).alloc o2).alloc o3).alloc o4) := by rw [setRow_alloc_past _ _ _ _ (by simp; try omega), setRow_alloc_past _ _ _ _ (by simp; try omega), setRow_alloc_past _ _ _ _ (by simp; try omega), setRow_alloc_past _ _ _ _ (by simp; try omega), setRow_alloc_at _ _ _ _ _ (by simp)]
theorem hp_5_1 (w : World) (o0 o1 o2 o3 o4 : Obj) : (((((w.alloc o0).alloc o1).alloc o2).alloc o3).alloc o4).heap[w.heap.size + 1]? = some o1 := (heap_alloc_past _ _ _ (by simp; try omega)).trans ((heap_alloc_past _ _ _ (by simp; try omega)).trans ((heap_alloc_past _ _ _ (by simp; try omega)).trans (heap_alloc_at _ _ _ (by simp))))
theorem sr_5_1 (w : World) (o0 o2 o3 o4 : Obj) (c c' : Array Value) (t : TypeId) : (((((w.alloc o0).alloc (.cells c t)).alloc o2).alloc o3).alloc o4).setRow (w.heap.size + 1) c' = (((((w.alloc o0).alloc (.cells c' t)).alloc o2).alloc o3).alloc o4) := by rw [setRow_alloc_past _ _ _ _ (by simp; try omega), setRow_alloc_past _ _ _ _ (by simp; try omega), setRow_alloc_past _ _ _ _ (by simp; try omega), setRow_alloc_at _ _ _ _ _ (by simp)]
theorem hp_5_2 (w : World) (o0 o1 o2 o3 o4 : Obj) : (((((w.alloc o0).alloc o1).alloc o2).alloc o3).alloc o4).heap[w.heap.size + 1 + 1]? = some o2 := (heap_alloc_past _ _ _ (by simp; try omega)).trans ((heap_alloc_past _ _ _ (by simp; try omega)).trans (heap_alloc_at _ _ _ (by simp)))
theorem sr_5_2 (w : World) (o0 o1 o3 o4 : Obj) (c c' : Array Value) (t : TypeId) : (((((w.alloc o0).alloc o1).alloc (.cells c t)).alloc o3).alloc o4).setRow (w.heap.size + 1 + 1) c' = (((((w.alloc o0).alloc o1).alloc (.cells c' t)).alloc o3).alloc o4) := by rw [setRow_alloc_past _ _ _ _ (by simp; try omega), setRow_alloc_past _ _ _ _ (by simp; try omega), setRow_alloc_at _ _ _ _ _ (by simp)]
theorem hp_5_3 (w : World) (o0 o1 o2 o3 o4 : Obj) : (((((w.alloc o0).alloc o1).alloc o2).alloc o3).alloc o4).heap[w.heap.size + 1 + 1 + 1]? = some o3 := (heap_alloc_past _ _ _ (by simp; try omega)).trans (heap_alloc_at _ _ _ (by simp))
theorem sr_5_3 (w : World) (o0 o1 o2 o4 : Obj) (c c' : Array Value) (t : TypeId) : (((((w.alloc o0).alloc o1).alloc o2).alloc (.cells c t)).alloc o4).setRow (w.heap.size + 1 + 1 + 1) c' = (((((w.alloc o0).alloc o1).alloc o2).alloc (.cells c' t)).alloc o4) := by rw [setRow_alloc_past _ _ _ _ (by simp; try omega), setRow_alloc_at _ _ _ _ _ (by simp)]
theorem hp_5_4 (w : World) (o0 o1 o2 o3 o4 : Obj) : (((((w.alloc o0).alloc o1).alloc o2).alloc o3).alloc o4).heap[w.heap.size + 1 + 1 + 1 + 1]? = some o4 := heap_alloc_at _ _ _ (by simp)
theorem sr_5_4 (w : World) (o0 o1 o2 o3 : Obj) (c c' : Array Value) (t : TypeId) : (((((w.alloc o0).alloc o1).alloc o2).alloc o3).alloc (.cells c t)).setRow (w.heap.size + 1 + 1 + 1 + 1) c' = (((((w.alloc o0).alloc o1).alloc o2).alloc o3).alloc (.cells c' t)) := by rw [setRow_alloc_at _ _ _ _ _ (by simp)]
end Go.Proofs.YtlkbhiaoolddmaaDoor
