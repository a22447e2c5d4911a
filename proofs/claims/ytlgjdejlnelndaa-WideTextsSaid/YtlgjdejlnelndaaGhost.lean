/-
  A region of operations, whatever the order that its edges allow: what each operation yields, makes and writes is said beforehand (vals, effs, fact), and shown operation by operation.
-/
import Derived.WalkKit
import Derived.Lib.Hide
namespace Go.Proofs.Ytlgjdejlnelndaa
open Go Go.RowKit

/-- What an operation finds: numbers and objects that are not settled beforehand (where a new block lies). -/
structure Orc where
  n : List Nat := []
  o : List Obj := []
  a : Option Addr := none
/-- What an operation does to memory: new blocks, and (by the block's name) what a block holds behind it. -/
structure Eff where
  news : List (Nat × Obj) := []
  puts : List (Nat × Obj) := []

/-- A fact on memory that hangs on blocks other than T's alone. -/
def Pers (T : Nat → Prop) (F : World → Prop) (w : World) : Prop :=
  ∃ S : Nat → Prop, (∀ b, S b → b < w.heap.size ∧ ¬ T b) ∧ ∀ w', (∀ b, S b → w'.heap[b]? = w.heap[b]?) → F w'
theorem Pers.now {T : Nat → Prop} {F : World → Prop} {w : World} (h : Pers T F w) : F w := by
  obtain ⟨S, _, h2⟩ := h; exact h2 w (fun _ _ => rfl)
/-- Outside X the world w' is as w was. -/
structure Upd (X : Nat → Prop) (w w' : World) : Prop where
  os : w'.os = w.os
  tape : w'.tape = w.tape
  output : w'.output = w.output
  size : w.heap.size ≤ w'.heap.size
  block : ∀ k, k < w.heap.size → ¬ X k → w'.heap[k]? = w.heap[k]?
theorem Upd.refl (X : Nat → Prop) (w : World) : Upd X w w := ⟨rfl, rfl, rfl, Nat.le_refl _, fun _ _ _ => rfl⟩
theorem Upd.of_below {X : Nat → Prop} {w w' : World} (h : Below w.heap.size w w') : Upd X w w' := ⟨h.os, h.tape, h.output, h.size, fun k hk _ => h.block k hk⟩
theorem Upd.trans {X : Nat → Prop} {a b c : World} (h : Upd X a b) (k : Upd X b c) : Upd X a c :=
  ⟨k.os.trans h.os, k.tape.trans h.tape, k.output.trans h.output, Nat.le_trans h.size k.size, fun i hi hx => (k.block i (Nat.lt_of_lt_of_le hi h.size) hx).trans (h.block i hi hx)⟩
theorem Pers.upd {T T' X : Nat → Prop} {F : World → Prop} {w w' : World} (h : Pers T F w) (hu : Upd X w w') (hX : ∀ b, X b → T b) (hT : ∀ b, T' b → T b ∨ w.heap.size ≤ b) : Pers T' F w' := by
  obtain ⟨S, h1, h2⟩ := h
  refine ⟨S, fun b hb => ⟨Nat.lt_of_lt_of_le (h1 b hb).1 hu.size, fun hT' => ?_⟩, fun w'' hw => h2 w'' (fun b hb => ?_)⟩
  · rcases hT b hT' with h3 | h3
    · exact (h1 b hb).2 h3
    · exact absurd (h1 b hb).1 (by omega)
  · rw [hw b hb]; exact hu.block b (h1 b hb).1 (fun hx => (h1 b hb).2 (hX b hx))

/-- What an operation does, its value handed to K. -/
def opv (P : Program) (s : Sem Next) (w : World) (K : Value → World → Prop) : Prop :=
  match s.run P w with
  | .ok (.value v) w' => K v w'
  | .ok .skip w' => K undef w'
  | .ok (.enter f args) w' => Calls P f args w' fun e w'' => match e with
    | .returned v => K v w''
    | _ => False
  | _ => False
theorem wp_of_opv {P : Program} {o : Oper} {a : Act} {w : World} {K : Value → World → Prop} {N : Act → World → Prop} {Q : Exit → Act → World → Prop}
    (h : opv P (execOp a.eval o) w K) (hK : ∀ v w', K v w' → N (a.put o.dst v) w') : o.wp P a w N Q := by
  unfold opv at h
  unfold Oper.wp
  generalize (execOp a.eval o).run P w = r at h
  cases r with
  | ok n w' =>
    cases n <;> simp only [Oper.upon] at h ⊢
    case value v => exact hK _ _ h
    case skip => exact hK _ _ h
    case enter f args =>
      refine Calls.mono h fun e w'' he => ?_
      cases e with
      | returned v => exact hK _ _ he
      | panicked c => exact he.elim
      | outgrown => exact he.elim
  | halt x w' => exact h.elim

/-! ### What comes before what -/
def dep (D : List Nat) (i j : Nat) : Bool := (D.getD i 0).testBit j
def edgesOf (ops : Array Oper) (i : Nat) : List Nat := ((ops[i]?).map fun o => ((o.after.toList.filter (Region.binds .any)).map (·.on))).getD []
/-- D holds what every operation waits for, and what these wait for. -/
def DOk (ops : Array Oper) (D : List Nat) : Bool :=
  (List.range ops.size).all fun i => decide (D.getD i 0 < 2 ^ i) && (List.range i).all fun j => !dep D i j || ((edgesOf ops i).any fun e => e == j || dep D e j)
/-- Under the order of the text everything before. -/
def DSeq (n : Nat) (D : List Nat) : Bool := (List.range n).all fun i => D.getD i 0 == 2 ^ i - 1
def dstOf (ops : Array Oper) (i : Nat) : Option Nat := (ops[i]?).bind (·.dst)
/-- No two operations write one slot; each slot is one of the frame's. -/
def DstOk (ops : Array Oper) (n : Nat) : Bool :=
  (List.range ops.size).all fun i => ((dstOf ops i).map fun t => decide (t < n)).getD true && (List.range i).all fun j => (dstOf ops i).isNone || dstOf ops i != dstOf ops j
/-- Who writes slot t. -/
def writer (ops : Array Oper) (t : Nat) : Option Nat := (List.range ops.size).find? fun i => dstOf ops i == some t

section
variable (P : Program) (ops : Array Oper) (D : List Nat) (l : List (Nat × Value)) (w0 : World) (h : List (Nat × Obj)) (F0 : World → Prop)
variable (vals : (Nat → Orc) → Nat → Value) (effs : (Nat → Orc) → Nat → Eff) (fact : (Nat → Orc) → Nat → World → Prop)

/-- What is known of a frame: its size, the values in some slots. -/
structure Fr (n : Nat) (l : List (Nat × Value)) (A : Act) : Prop where
  defers : A.defers = []
  size : A.tmps.size = n
  slot : ∀ t v, l.lookup t = some v → A.tmps[t]? = some v
/-- What slot t holds when operation i comes. -/
def lookAt (V : Nat → Value) (i t : Nat) : Value :=
  match writer ops t with
  | none => (l.lookup t).getD undef
  | some j => if dep D i j then V j else (l.lookup t).getD undef
def lookOk (i t : Nat) : Bool :=
  match writer ops t with
  | none => (l.lookup t).isSome
  | some j => dep D i j || ((decide (j = i) || dep D j i) && (l.lookup t).isSome)
def evalAt (V : Nat → Value) (i : Nat) : Operand → Value
  | .tmp t => lookAt ops D l V i t
  | .const v => v
  | .global g => .pointer (some ⟨g, 0, none⟩)
  | .func f => .func (.func f) #[] #[]
def opLooksOk (i : Nat) (o : Oper) : Bool :=
  (o.op.operands.all fun x => match x with | .tmp t => lookOk ops D l i t | _ => true) && (match o.op with | .select _ _ => false | _ => true) &&
  (match o.guard with | none => true | some (j, _) => dep D i j && (dstOf ops j).isSome)
def LooksOk : Bool := (List.range ops.size).all fun i => ((ops[i]?).map (opLooksOk ops D l i)).getD true
/-- Whether operation i runs. -/
def wantV (V : Nat → Value) (o : Oper) : Bool :=
  match o.guard with
  | none => true
  | some (j, b) => match V j with | .bool c => c == b | _ => false
/-- The block with a name: the region's own come behind h. -/
def blk (E : Nat → Eff) (n : Nat) : Option (Nat × Obj) := if n < h.length then h[n]? else (E ((n - h.length) / 8)).news[(n - h.length) % 8]?
/-- What it holds, the operations L done. -/
def cur (E : Nat → Eff) (m : Nat) (L : Nat → Bool) (n : Nat) (o : Obj) : Obj :=
  (List.range m).foldl (fun c j => if L j then ((E j).puts.lookup n).getD c else c) o
def born (L : Nat → Bool) (n : Nat) : Bool := decide (n < h.length) || L ((n - h.length) / 8)
/-- A name that operation i may ask for: it is there, and whoever writes it comes before or behind. -/
def okN (E : Nat → Eff) (i n : Nat) : Bool :=
  born h (dep D i) n && (List.range ops.size).all fun j => ((E j).puts.lookup n).isNone || dep D i j || dep D j i || decide (j = i)
def upd (ρ : Nat → Orc) (i : Nat) (r : Orc) : Nat → Orc := fun j => if j = i then r else ρ j

/-- What operation i owes behind it. -/
def After (i : Nat) (ρ : Nat → Orc) (T : Nat → Prop) (w : World) (v : Value) (w' : World) : Prop :=
  ∃ r : Orc, v = vals (upd ρ i r) i ∧
    Upd (fun b => ∃ n o o', (n, o) ∈ (effs (upd ρ i r) i).puts ∧ blk h (effs ρ) n = some (b, o')) w w' ∧
    (∀ n o, (n, o) ∈ (effs (upd ρ i r) i).puts → okN ops D h (effs ρ) i n = true ∧ ∃ b o', blk h (effs ρ) n = some (b, o') ∧ w'.heap[b]? = some (((effs (upd ρ i r) i).puts.lookup n).getD o)) ∧
    (∀ (k b : Nat) (o : Obj), (effs (upd ρ i r) i).news[k]? = some (b, o) → w.heap.size ≤ b ∧ w'.heap[b]? = some o) ∧
    ((effs (upd ρ i r) i).news.map (·.1)).Nodup ∧
    Pers (fun b => T b ∨ b ∈ (effs (upd ρ i r) i).news.map (·.1)) (fact (upd ρ i r) i) w'
/-- What operation i is given. -/
structure Given (i : Nat) (ρ : Nat → Orc) (T : Nat → Prop) (w : World) : Prop where
  lt : ∀ b, T b → b < w.heap.size
  below : Below w0.heap.size w0 w
  block : ∀ n b o, blk h (effs ρ) n = some (b, o) → okN ops D h (effs ρ) i n = true → w.heap[b]? = some (cur (effs ρ) ops.size (dep D i) n o) ∧ T b ∧ w0.heap.size ≤ b
  ne : ∀ n n' b b' o o', n ≠ n' → blk h (effs ρ) n = some (b, o) → blk h (effs ρ) n' = some (b', o') → okN ops D h (effs ρ) i n = true → okN ops D h (effs ρ) i n' = true → b ≠ b'
  facts0 : Pers T F0 w
  facts : ∀ j, dep D i j = true → Pers T (fact ρ j) w
def Obl (i : Nat) : Prop := ∀ o, ops[i]? = some o → ∀ ρ T w, Given ops D w0 h F0 effs fact i ρ T w →
  if wantV (vals ρ) o then opv P (execOp (evalAt ops D l (vals ρ) i) o) w (After ops D h vals effs fact i ρ T w) else After ops D h vals effs fact i ρ T w undef w
/-- What operation i yields and does hangs on what it waits for alone. -/
def Loc (i : Nat) : Prop := ∀ ρ ρ' : Nat → Orc, (∀ j, j = i ∨ dep D i j = true → ρ j = ρ' j) → vals ρ i = vals ρ' i ∧ effs ρ i = effs ρ' i ∧ fact ρ i = fact ρ' i

/-- What holds inside: L the operations done. -/
structure RInv (a : Act) (L : Nat → Bool) (A : Act) (w : World) (ρ : Nat → Orc) : Prop where
  defers : A.defers = a.defers
  len : A.tmps.size = a.tmps.size
  lsz : ∀ i, L i = true → i < ops.size
  done : ∀ i t, dstOf ops i = some t → L i = true → A.tmps[t]? = some (vals ρ i)
  kept : ∀ t, (∀ i, i < ops.size → dstOf ops i = some t → L i = false) → A.tmps[t]? = a.tmps[t]?
  closed : ∀ i j, L i = true → dep D i j = true → L j = true
  below : Below w0.heap.size w0 w
  live : ∀ n b o, blk h (effs ρ) n = some (b, o) → born h L n = true → w0.heap.size ≤ b ∧ w.heap[b]? = some (cur (effs ρ) ops.size L n o)
  inj : ∀ n n' b b' o o', n ≠ n' → blk h (effs ρ) n = some (b, o) → blk h (effs ρ) n' = some (b', o') → born h L n = true → born h L n' = true → b ≠ b'
  facts0 : Pers (fun b => ∃ n o, born h L n = true ∧ blk h (effs ρ) n = some (b, o)) F0 w
  facts : ∀ i, L i = true → Pers (fun b => ∃ n o, born h L n = true ∧ blk h (effs ρ) n = some (b, o)) (fact ρ i) w
  putsOk : ∀ i n o, L i = true → (n, o) ∈ (effs ρ i).puts → born h L n = true
end
end Go.Proofs.Ytlgjdejlnelndaa
