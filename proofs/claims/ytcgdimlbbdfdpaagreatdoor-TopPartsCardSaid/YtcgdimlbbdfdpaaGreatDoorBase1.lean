/-
  What this statement needs, part 1: the texts of it, one behind the other.
-/
import Derived.WalkKit
import Derived.ChangeKeysEq
import Derived.Laws.StructEq
set_option maxRecDepth 100000
set_option linter.all false
namespace Go.Proofs.YtcgdimlbbdfdpaaGreatDoor
open Go Go.RowKit
inductive Tr (α : Type) where
  | e
  | n (l : Tr α) (v : Option α) (r : Tr α)
noncomputable def wayF (f : Nat) : Nat → List Bool := @Nat.rec (fun _ => Nat → List Bool) (fun _ => []) (fun _ ih p => @Nat.rec (fun _ => List Bool) [] (fun q _ => Nat.beq (Nat.mod p 2) 1 :: ih (Nat.succ q)) (Nat.div p 2)) f
theorem wayF_succ (f p : Nat) : wayF (f + 1) p = match p / 2 with
    | 0 => []
    | q + 1 => Nat.beq (p % 2) 1 :: wayF f (q + 1) := by
  show @Nat.rec (fun _ => List Bool) [] (fun q _ => Nat.beq (Nat.mod p 2) 1 :: wayF f (Nat.succ q)) (p / 2) = _
  cases p / 2 <;> rfl
noncomputable def way (k : Nat) : List Bool := wayF (k + 1) (k + 1)
namespace Tr
variable {α : Type}
def lft : Tr α → Tr α
  | .e => .e
  | .n l _ _ => l
def rgt : Tr α → Tr α
  | .e => .e
  | .n _ _ r => r
def val : Tr α → Option α
  | .e => none
  | .n _ v _ => v
noncomputable def at_ (w : List Bool) : Tr α → Option α := List.rec (fun t => Tr.rec none (fun _ v _ _ _ => v) t) (fun b _ ih t => Tr.rec none (fun l _ r _ _ => Bool.rec (ih l) (ih r) b) t) w
noncomputable def put (a : Option α) (w : List Bool) : Tr α → Tr α := List.rec (fun t => Tr.rec (.n .e a .e) (fun l _ r _ _ => .n l a r) t) (fun b _ ih t => Tr.rec (Bool.rec (.n (ih .e) none .e) (.n .e none (ih .e)) b) (fun l v r _ _ => Bool.rec (.n (ih l) v r) (.n l v (ih r)) b) t) w
noncomputable def get (t : Tr α) (k : Nat) : Option α := at_ (way k) t
noncomputable def set (t : Tr α) (k : Nat) (a : α) : Tr α := put (some a) (way k) t
noncomputable def del (t : Tr α) (k : Nat) : Tr α := put none (way k) t
theorem at_cons (b : Bool) (w : List Bool) (t : Tr α) : at_ (b :: w) t = at_ w (if b then t.rgt else t.lft) := by
  have key : ∀ w : List Bool, at_ w (.e : Tr α) = none := fun w => by cases w <;> rfl
  cases t with
  | e => show none = _; cases b <;> exact (key w).symm
  | n l v r => cases b <;> rfl
theorem put_nil (a : Option α) (t : Tr α) : put a [] t = .n t.lft a t.rgt := by cases t <;> rfl
theorem put_cons (a : Option α) (b : Bool) (w : List Bool) (t : Tr α) : put a (b :: w) t = if b then .n t.lft t.val (put a w t.rgt) else .n (put a w t.lft) t.val t.rgt := by cases t <;> cases b <;> rfl
theorem at_nil (t : Tr α) : at_ [] t = t.val := by cases t <;> rfl
theorem at_put (a : Option α) : ∀ (w x : List Bool) (t : Tr α), at_ x (put a w t) = if w = x then a else at_ x t
  | [], [], t => by rw [if_pos rfl, at_nil, put_nil]; rfl
  | [], b :: x, t => by
    rw [if_neg (by simp), at_cons, at_cons, put_nil]
    cases b <;> rfl
  | b :: w, [], t => by
    rw [if_neg (by simp), at_nil, at_nil, put_cons]
    cases b <;> rfl
  | b :: w, c :: x, t => by
    rw [at_cons, at_cons, put_cons]
    cases b <;> cases c <;> simp only [lft, rgt, Bool.false_eq_true, if_false, if_true, List.cons.injEq, true_and, false_and, at_put a w x, reduceCtorEq]
theorem wayF_inj : ∀ (f g p q : Nat), 0 < p → 0 < q → p ≤ f → q ≤ g → wayF f p = wayF g q → p = q := by
  intro f
  induction f with
  | zero => intro g p q hp _ hf; omega
  | succ f ih =>
    intro g p q hp hq hf hg h
    obtain ⟨g, rfl⟩ : ∃ n, g = n + 1 := ⟨g - 1, by omega⟩
    rw [wayF_succ, wayF_succ] at h
    cases hp2 : p / 2 with
    | zero =>
      cases hq2 : q / 2 with
      | zero => omega
      | succ y => rw [hp2, hq2] at h; simp at h
    | succ x =>
      cases hq2 : q / 2 with
      | zero => rw [hp2, hq2] at h; simp at h
      | succ y =>
        rw [hp2, hq2] at h
        simp only [List.cons.injEq] at h
        have e := ih g (x + 1) (y + 1) (by omega) (by omega) (by omega) (by omega) h.2
        have h1 := h.1
        rcases Nat.mod_two_eq_zero_or_one p with e1 | e1 <;> rcases Nat.mod_two_eq_zero_or_one q with e2 | e2 <;> rw [e1, e2] at h1 <;> first | omega | (simp at h1; done)
theorem way_inj {k m : Nat} (h : way k = way m) : k = m := by
  have := wayF_inj (k + 1) (m + 1) (k + 1) (m + 1) (by omega) (by omega) (by omega) (by omega) h
  omega
theorem get_set (t : Tr α) (k m : Nat) (a : α) : (t.set k a).get m = if k = m then some a else t.get m := by
  unfold get set
  rw [at_put]
  by_cases h : k = m
  · rw [if_pos (by rw [h]), if_pos h]
  · rw [if_neg (fun e => h (way_inj e)), if_neg h]
theorem get_del (t : Tr α) (k m : Nat) : (t.del k).get m = if k = m then none else t.get m := by
  unfold get del
  rw [at_put]
  by_cases h : k = m
  · rw [if_pos (by rw [h]), if_pos h]
  · rw [if_neg (fun e => h (way_inj e)), if_neg h]
theorem get_e (k : Nat) : (Tr.e : Tr α).get k = none := by
  unfold get
  cases way k <;> rfl
end Tr
structure aJ where
  o : List Int
  v : Int
  x : Int
  h : Int
  c : Bool
inductive Row where
  | c (cs : List aJ)
  | i (k : IntKind) (l : List Int)
  | j (k : IntKind) (b : Nat) (l : List Int)
def Row.s : Row → Nat
  | .c _ => 37
  | _ => 1
def Row.len : Row → Nat
  | .c cs => cs.length
  | .i _ l => l.length
  | .j _ _ l => l.length
def Row.b : Row → Nat
  | .j _ b _ => b
  | _ => 0
inductive CV where
  | fz (l : List CV) (o n : Nat)
  | fp (l : List CV) (o : Nat)
  | fy (r : Row) (o n : Nat) (u : Bool)
  | fq (r : Row) (i k : Nat)
  | st (l : List Int)
  | es
  | xs (g o n c : Nat) (ex : Bool)
  | px (g i k : Nat)
  | bool (s b : Bool)
  | int (s : Bool) (k : IntKind) (n : Int)
  | str (s : ByteArray)
  | ptr (g o : Nat)
  | nilp
  | sl (g o n c lo : Nat)
  | nils
  | fn (f : FuncId) (cap : List CV)
  | nilf
  | mp (g : Nat)
  | nilm
  | agg (l : List CV)
  | tup (l : List CV)
  | wr (c : CV)
  | fx (l : List CV) (o n s : Nat) (z : Int) (k : Nat)
  deriving Inhabited
inductive HO where
  | cells (c : List CV) (e : TypeId) (room : Bool)
  | map (es : List (CV × CV × Nat)) (clock : Nat)
  | iter (m : Option Nat) (since : Nat) (seen : List Nat) (last : Nat)
  | ro (c : List CV)
  | rw (cs : List aJ)
structure Names where
  ad : Nat → Option Nat
  sz : Nat → Nat
  /-- Blocks that are never written, and what they hold. -/
  sx : Nat → List Value → Prop
  /-- Where they lie. -/
  fp : Nat → Prop
def iH (c : aJ) (s : Value) : List Value := (List.range 32).map (fun j => Value.int .u8 (c.o.getD j 0)) ++ [.int .u32 (c.o.getD 32 0), .int .i64 c.v, s, .int .i64 c.h, .bool c.c]
def CoinOk (c : aJ) : Prop := (∀ j, j < 32 → IntKind.u8.wrap (c.o.getD j 0) = c.o.getD j 0) ∧ IntKind.u32.wrap (c.o.getD 32 0) = c.o.getD 32 0 ∧ IntKind.i64.wrap c.v = c.v ∧ IntKind.i64.wrap c.h = c.h
def wO (β : Names) (s : Value) (x : Int) : Prop := ∃ a off c us, s = .slice (some ⟨a, off, none⟩) 4 c ∧ 4 ≤ c ∧ off = 0 ∧ β.sx a us ∧ IntKind.u8.wrap x = x ∧ us.take 4 = [.int .u8 1, .int .u8 1, .int .u8 x, .int .u8 5]
def RowZ (β : Names) : Row → List Value → Prop
  | .c cs, us => 37 * cs.length ≤ us.length ∧ ∀ (i : Nat) (c : aJ), cs[i]? = some c → CoinOk c ∧ ∃ s, wO β s c.x ∧ ∀ (k : Nat) (u : Value), (iH c s)[k]? = some u → us[37 * i + k]? = some u
  | .i k l, us => l.length ≤ us.length ∧ ∀ (i : Nat) (z : Int), l[i]? = some z → k.wrap z = z ∧ us[i]? = some (.int k z)
  | .j k b l, us => ∀ (i : Nat) (z : Int), l[i]? = some z → k.wrap z = z ∧ us[b + i]? = some (.int k z)
noncomputable def allC (f : CV → Bool) (l : List CV) : Bool := List.rec true (fun x _ ih => match f x with
  | true => ih
  | false => false) l
noncomputable def clo (k : Nat) : CV → Bool := Nat.rec (fun _ => false) (fun _ ih c => match c with
  | .fz l _ _ => allC ih l
  | .fp l _ => allC ih l
  | .fy _ _ _ _ => true
  | .fq _ _ _ => true
  | .st _ => true
  | .es => true
  | .bool _ _ => true
  | .int _ _ _ => true
  | .str _ => true
  | .nilp => true
  | .nils => true
  | .nilf => true
  | .nilm => true
  | .fn _ cap => allC ih cap
  | .agg l => allC ih l
  | .tup l => allC ih l
  | .wr _ => true
  | .fx l _ _ _ _ _ => allC ih l
  | _ => false) k
mutual
def RV (β : Names) : CV → Value → Prop
  | .fz l o n, v => ∃ a off c' us, v = .slice (some ⟨a, off, none⟩) n c' ∧ n ≤ c' ∧ (c' = 0 ∨ off = o) ∧ β.sx a us ∧ bJ β l (us.take l.length)
  | .fp l o, v => ∃ a us, v = .pointer (some ⟨a, o, none⟩) ∧ β.sx a us ∧ bJ β l (us.take l.length)
  | .fy r o n u, v => o + n ≤ r.len ∧ n ≤ 140737488355328 ∧ ((∃ b c, v = .slice b 0 c ∧ n = 0) ∨ ∃ a off c' us, v = .slice (some ⟨a, off, none⟩) n c' ∧ n ≤ c' ∧ (c' = 0 ∨ off = r.s * o + r.b) ∧ β.sx a us ∧ RowZ β r us)
  | .fq r i k, v => i < r.len ∧ ∃ a us, v = .pointer (some ⟨a, r.s * i + k + r.b, none⟩) ∧ β.sx a us ∧ RowZ β r us
  | .es, v => ∃ b c, v = .slice b 0 c
  | .st l, v => v = .string ⟨(l.map fun z => UInt8.ofNat z.toNat).toArray⟩ ∧ ∀ z ∈ l, 0 ≤ z ∧ z < 256
  | .xs g o n c ex, v => ∃ a c' off, β.ad g = some a ∧ v = .slice (some ⟨a, off, none⟩) n c' ∧ n ≤ c' ∧ n ≤ 1099511627776 ∧ (ex = true → c' = c) ∧ 37 * (o + c') ≤ β.sz g ∧ (c' = 0 ∨ off = 37 * o)
  | .px g i k, v => ∃ a, β.ad g = some a ∧ v = .pointer (some ⟨a, 37 * i + k, none⟩)
  | .bool _ b, v => v = .bool b
  | .int s k n, v => v = .int k n ∧ (s = true → k.wrap n = n)
  | .str s, v => v = .string s
  | .ptr g o, v => ∃ a, β.ad g = some a ∧ v = .pointer (some ⟨a, o, none⟩)
  | .nilp, v => v = .pointer none
  | .sl g o n c lo, v => ∃ a c', β.ad g = some a ∧ v = .slice (some ⟨a, o, none⟩) n c' ∧ c ≤ c' ∧ (lo = 0 → c' = c) ∧ (lo ≠ 0 → o + c' * lo ≤ β.sz g)
  | .nils, v => v = .slice none 0 0
  | .fn f cap, v => ∃ us, v = .func (.func f) #[] us ∧ bJ β cap us.toList
  | .nilf, v => v = .nilFunc
  | .mp g, v => ∃ a, β.ad g = some a ∧ v = .map (some a)
  | .nilm, v => v = .map none
  | .agg l, v => ∃ us, v = .agg us ∧ bJ β l us.toList
  | .tup l, v => ∃ us, v = .tuple us ∧ bJ β l us.toList
  | .wr c, v => clo 9 c = true ∧ (∃ b n m, v = .slice b n m) ∧ RV β c v
  | .fx l o n s z k, v => 0 ≤ z ∧ z < (n : Int) ∧ ∃ a us, v = .pointer (some ⟨a, o + z.toNat * s + k, none⟩) ∧ β.sx a us ∧ bJ β l (us.take l.length)
def bJ (β : Names) : List CV → List Value → Prop
  | [], us => us = []
  | c :: cs, us => ∃ u r, us = u :: r ∧ RV β c u ∧ bJ β cs r
end
structure Sub (β β' : Names) : Prop where
  nm : ∀ g a, β.ad g = some a → β'.ad g = some a ∧ β'.sz g = β.sz g
  sx : ∀ a us, β.sx a us → β'.sx a us
theorem Sub.refl (β : Names) : Sub β β := ⟨fun _ _ h => ⟨h, rfl⟩, fun _ _ h => h⟩
theorem wO.mono {β β' : Names} (hs : Sub β β') {s : Value} {x : Int} : wO β s x → wO β' s x := fun ⟨a, off, c, us, h1, h2, h3, h4, h5⟩ => ⟨a, off, c, us, h1, h2, h3, hs.sx _ _ h4, h5⟩
theorem RowZ.mono {β β' : Names} (hs : Sub β β') : ∀ {r : Row} {us : List Value}, RowZ β r us → RowZ β' r us
  | .c _, _, h => ⟨h.1, fun i c hc => by
    obtain ⟨k1, s, k2, k3⟩ := h.2 i c hc
    exact ⟨k1, s, k2.mono hs, k3⟩⟩
  | .i _ _, _, h => h
  | .j _ _ _, _, h => h
mutual
theorem RV.mono {β β' : Names} (hs : Sub β β') : ∀ {c : CV} {v : Value}, RV β c v → RV β' c v
  | .fz _ _ _, _, ⟨a, off, c', us, h1, h2, h3, h4, h5⟩ => ⟨a, off, c', us, h1, h2, h3, hs.sx _ _ h4, bJ.mono hs h5⟩
  | .fp _ _, _, ⟨a, us, h1, h2, h3⟩ => ⟨a, us, h1, hs.sx _ _ h2, bJ.mono hs h3⟩
  | .fy _ _ _ _, _, ⟨h1, h2, h3⟩ => ⟨h1, h2, h3.imp (fun h => h) (fun ⟨a, off, c', us, k1, k2, k3, k4, k5⟩ => ⟨a, off, c', us, k1, k2, k3, hs.sx _ _ k4, k5.mono hs⟩)⟩
  | .fq _ _ _, _, ⟨h0, a, us, h1, h2, h3⟩ => ⟨h0, a, us, h1, hs.sx _ _ h2, h3.mono hs⟩
  | .st _, _, h => h
  | .es, _, h => h
  | .xs _ _ _ _ _, _, ⟨a, c', off, h, e, e1, e2, e3, e4, e5⟩ => ⟨a, c', off, (hs.nm _ _ h).1, e, e1, e2, e3, by rw [(hs.nm _ _ h).2]; exact e4, e5⟩
  | .px _ _ _, _, ⟨a, h, e⟩ => ⟨a, (hs.nm _ _ h).1, e⟩
  | .bool _ _, _, h => h
  | .int _ _ _, _, h => h
  | .str _, _, h => h
  | .ptr _ _, _, ⟨a, h, e⟩ => ⟨a, (hs.nm _ _ h).1, e⟩
  | .nilp, _, h => h
  | .sl _ _ _ _ _, _, ⟨a, c', h, e, e1, e2, e3⟩ => ⟨a, c', (hs.nm _ _ h).1, e, e1, e2, fun hh => by rw [(hs.nm _ _ h).2]; exact e3 hh⟩
  | .nils, _, h => h
  | .fn _ _, _, ⟨us, e, h⟩ => ⟨us, e, bJ.mono hs h⟩
  | .nilf, _, h => h
  | .mp _, _, ⟨a, h, e⟩ => ⟨a, (hs.nm _ _ h).1, e⟩
  | .nilm, _, h => h
  | .agg _, _, ⟨us, e, h⟩ => ⟨us, e, bJ.mono hs h⟩
  | .tup _, _, ⟨us, e, h⟩ => ⟨us, e, bJ.mono hs h⟩
  | .wr _, _, ⟨h0, h1, h⟩ => ⟨h0, h1, RV.mono hs h⟩
  | .fx _ _ _ _ _ _, _, ⟨k1, k2, a, us, h1, h2, h3⟩ => ⟨k1, k2, a, us, h1, hs.sx _ _ h2, bJ.mono hs h3⟩
theorem bJ.mono {β β' : Names} (hs : Sub β β') : ∀ {cs : List CV} {us : List Value}, bJ β cs us → bJ β' cs us
  | [], _, h => h
  | _ :: _, _, ⟨u, r, e, h, k⟩ => ⟨u, r, e, RV.mono hs h, bJ.mono hs k⟩
end
section
variable {β : Names}
theorem bJ.len : ∀ {cs : List CV} {us : List Value}, bJ β cs us → us.length = cs.length
  | [], _, h => by rw [show _ = [] from h]; rfl
  | _ :: _, _, ⟨u, r, e, _, k⟩ => by rw [e]; simp [k.len]
theorem bJ.get : ∀ {cs : List CV} {us : List Value}, bJ β cs us → ∀ {i : Nat} {c : CV}, cs[i]? = some c → ∃ u, us[i]? = some u ∧ RV β c u
  | [], _, _, i, c, hc => by simp at hc
  | _ :: _, _, ⟨u, r, e, h, k⟩, 0, c, hc => by
    simp only [List.getElem?_cons_zero, Option.some.injEq] at hc
    subst hc; subst e
    exact ⟨u, rfl, h⟩
  | _ :: _, _, ⟨u, r, e, h, k⟩, i + 1, c, hc => by
    subst e
    simp only [List.getElem?_cons_succ] at hc ⊢
    exact k.get hc
theorem bJ.of_get : ∀ {cs : List CV} {us : List Value}, us.length = cs.length → (∀ (i : Nat) (c : CV), cs[i]? = some c → ∃ u, us[i]? = some u ∧ RV β c u) → bJ β cs us
  | [], us, hl, _ => List.eq_nil_of_length_eq_zero hl
  | c :: cs, [], hl, _ => by simp at hl
  | c :: cs, u :: us, hl, h => by
    refine ⟨u, us, rfl, ?_, bJ.of_get (by simpa using hl) (fun i c hc => ?_)⟩
    · obtain ⟨u', h1, h2⟩ := h 0 c rfl
      simp only [List.getElem?_cons_zero, Option.some.injEq] at h1
      rw [h1]; exact h2
    · obtain ⟨u', h1, h2⟩ := h (i + 1) c (by simpa using hc)
      exact ⟨u', by simpa using h1, h2⟩
theorem bJ.append {a b : List CV} {x y : List Value} (h : bJ β a x) (k : bJ β b y) : bJ β (a ++ b) (x ++ y) := by
  refine bJ.of_get (by simp [h.len, k.len]) (fun i c hc => ?_)
  have hl := h.len
  by_cases hi : i < a.length
  · rw [List.getElem?_append_left hi] at hc
    obtain ⟨u, h1, h2⟩ := h.get hc
    exact ⟨u, by rw [List.getElem?_append_left (by omega)]; exact h1, h2⟩
  · rw [List.getElem?_append_right (by omega)] at hc
    obtain ⟨u, h1, h2⟩ := k.get hc
    exact ⟨u, by rw [List.getElem?_append_right (by omega), hl]; exact h1, h2⟩
theorem bJ.take {a : List CV} {x : List Value} (h : bJ β a x) (n : Nat) : bJ β (a.take n) (x.take n) := by
  refine bJ.of_get (by simp [h.len]) (fun i c hc => ?_)
  rw [List.getElem?_take] at hc ⊢
  split at hc
  · rename_i hi
    rw [if_pos hi]; exact h.get hc
  · simp at hc
theorem bJ.drop {a : List CV} {x : List Value} (h : bJ β a x) (n : Nat) : bJ β (a.drop n) (x.drop n) := by
  refine bJ.of_get (by simp [h.len]) (fun i c hc => ?_)
  rw [List.getElem?_drop] at hc ⊢
  exact h.get hc
end
inductive R (α : Type) where
  | no
  | ok (a : α)
  | br (b : Bool) (t f : R α)
namespace R
variable {α γ : Type}
def bind (f : α → R γ) : R α → R γ
  | .no => .no
  | .ok a => f a
  | .br b t e => .br b (bind f t) (bind f e)
def val : R α → Option α
  | .no => none
  | .ok a => some a
  | .br b t e => match b with | true => t.val | false => e.val
theorem val_bind (f : α → R γ) : ∀ r : R α, (r.bind f).val = r.val.bind (fun a => (f a).val)
  | .no => rfl
  | .ok _ => rfl
  | .br b t e => by cases b <;> simp only [bind, val, val_bind f t, val_bind f e]
theorem bind_some {f : α → R γ} {r : R α} {c : γ} (h : (r.bind f).val = some c) : ∃ a, r.val = some a ∧ (f a).val = some c := by
  rw [val_bind, Option.bind_eq_some_iff] at h
  exact h
end R
abbrev dV := Tr CV
inductive PR where
  | no
  | v (c : CV)
  | ck (b : Bool) (c : CV)
  | w (c : CV) (o : HO)
abbrev yZ := dV → Option CV
abbrev PF := dV → Nat → PR
def oQ : IntKind → Nat
  | .i8 => 0 | .i16 => 1 | .i32 => 2 | .i64 => 3 | .u8 => 4 | .u16 => 5 | .u32 => 6 | .u64 => 7
def dP (k : IntKind) (n : Int) : Int := match n with
  | .ofNat m => match k with
    | .u8 => .ofNat (m % 256)
    | .u16 => .ofNat (m % 65536)
    | .u32 => .ofNat (m % 4294967296)
    | .u64 => .ofNat (m % 18446744073709551616)
    | .i64 => match Nat.blt m 9223372036854775808 with
      | true => .ofNat m
      | false => k.wrap (.ofNat m)
    | _ => k.wrap (.ofNat m)
  | .negSucc m => match k with
    | .i64 => match Nat.blt m 9223372036854775808 with
      | true => .negSucc m
      | false => k.wrap (.negSucc m)
    | .u64 => match Nat.blt m 18446744073709551616 with
      | true => .ofNat (18446744073709551615 - m)
      | false => k.wrap (.negSucc m)
    | _ => k.wrap (.negSucc m)
def mkI (s : Bool) (k : IntKind) (n : Int) : CV := match s with
  | true => .int true k n
  | false => match n with
    | .ofNat m => match m with
      | 0 => .int false k (.ofNat 0)
      | Nat.succ p => .int false k (.ofNat (Nat.succ p))
    | .negSucc m => match m with
      | 0 => .int false k (.negSucc 0)
      | Nat.succ p => .int false k (.negSucc (Nat.succ p))
def wX (s : Bool) (k : IntKind) (n : Int) : Bool := match s with
  | true => true
  | false => k.wrap n == n
def mkB (s b : Bool) : CV := match s with
  | true => .bool true b
  | false => match b with
    | true => .bool false true
    | false => .bool false false
section
variable (P : Program)
def wC : CV → List CV
  | .agg l => l
  | c => [c]
def nC : CV → Bool
  | .agg _ => false
  | .tup _ => false
  | _ => true
def ofV1 : Value → Option CV
  | .bool b => some (.bool false b)
  | .int k n => some (.int false k n)
  | .string s => some (.str s)
  | .pointer none => some .nilp
  | .slice none 0 0 => some .nils
  | .nilFunc => some .nilf
  | .map none => some .nilm
  | _ => none
def allV : List Value → Option (List CV)
  | [] => some []
  | v :: r => match ofV1 v with
    | some c => match allV r with
      | some l => some (c :: l)
      | none => none
    | none => none
def ofV : Value → Option CV
  | .agg cs => (allV cs.toList).map .agg
  | .tuple cs => (allV cs.toList).map .tup
  | v => ofV1 v
noncomputable def nthL {α : Type} (l : List α) : Nat → Option α := List.rec (fun _ => none) (fun x _ ih i => @Nat.rec (fun _ => Option α) (some x) (fun j _ => ih j) i) l
theorem nthL_eq {α : Type} : ∀ (l : List α) (i : Nat), nthL l i = l[i]?
  | [], _ => rfl
  | _ :: _, 0 => rfl
  | _ :: l, i + 1 => (nthL_eq l i).trans (by simp)
noncomputable def inf (t : TypeId) : Option TypeInfo := match nthL P.types.toList t with
  | some i => some i
  | none => P.info? t
theorem bW (t : TypeId) : inf P t = P.info? t := by
  unfold inf
  rw [nthL_eq, Array.getElem?_toList]
  cases h : P.types[t]? with
  | none => rfl
  | some i =>
    have hl : t < P.types.size := (Array.getElem?_eq_some_iff.1 h).1
    show some i = Tables.info? P.toTables t
    unfold Tables.info?
    rw [if_pos hl, h]
noncomputable def und (t : TypeId) : Option TypeDesc := match inf P t with
  | some i => match i.desc with
    | .named _ u => (inf P u).map (·.desc)
    | d => some d
  | none => none
theorem bD (t : TypeId) : und P t = P.underlying t := by
  unfold und Program.underlying
  simp only [bW]
  cases h : P.info? t with
  | none => rfl
  | some i => 
    obtain ⟨d, _, _, _, _⟩ := i
    cases d <;> rfl
noncomputable def qO (t : TypeId) : Option (List CV) := match inf P t with
  | some i => match i.zero with
    | some v => allV v.cells.toList
    | none => none
  | none => none
noncomputable def qV (t : TypeId) : Option Nat := (inf P t).map (·.size)
noncomputable def fQ (t : TypeId) : Option Bool := match und P t with
  | some (.struct _) => some true
  | some (.array _ _) => some true
  | some _ => some false
  | none => none
noncomputable def slotA (w : List Bool) : yZ := fun fr => fr.at_ w
def constA (c : CV) : yZ := fun _ => some c
noncomputable def aX : Operand → Option yZ
  | .tmp t => some (slotA (way t))
  | .const v => (ofV v).map constA
  | .global g => match Nat.blt g 64 with
    | true => some (constA (.ptr g 0))
    | false => none
  | .func f => some (constA (.fn f []))
noncomputable def cmpL : List Operand → Option (List yZ)
  | [] => some []
  | x :: r => match aX x, cmpL r with
    | some a, some l => some (a :: l)
    | _, _ => none
def evL (fr : dV) : List yZ → Option (List CV)
  | [] => some []
  | a :: r => match a fr with
    | some c => match evL fr r with
      | some l => some (c :: l)
      | none => none
    | none => none
def x1 (f : CV → PR) (a : yZ) : PF := fun fr _ => match a fr with
  | some c => f c
  | none => .no
def x2 (f : CV → CV → PR) (a b : yZ) : PF := fun fr _ => match a fr with
  | some c => match b fr with
    | some d => f c d
    | none => .no
  | none => .no
def fMv (c : CV) : PR := .v c
def fNc : CV → PR
  | .ptr g o => .v (.ptr g o)
  | .fn f l => .v (.fn f l)
  | _ => .no
def fInt (g : IntKind → Int → Int → Int) : CV → CV → PR
  | .int s k x, .int s' k' y => match Nat.beq (oQ k) (oQ k') with
    | true => .v (mkI (s || s') k (g k x y))
    | false => .no
  | _, _ => .no
def fCmp (g : Int → Int → Bool) : CV → CV → PR
  | .int s k x, .int s' k' y => match Nat.beq (oQ k) (oQ k') with
    | true => .v (mkB (s || s') (g x y))
    | false => .no
  | _, _ => .no
def fDiv (g : IntKind → Int → Int → Int) : CV → CV → PR
  | .int s k x, .int false k' y => match Nat.beq (oQ k) (oQ k') with
    | true => match y with
      | .ofNat 0 => .no
      | y => .v (mkI s k (g k x y))
    | false => .no
  | .int s k x, .int true k' y => match Nat.beq (oQ k) (oQ k') && wX s k x with
    | true => .ck (decide (y ≠ 0)) (.int true k (g k x y))
    | false => .no
  | _, _ => .no
def fSh (g : IntKind → Int → Nat → Int) : CV → CV → PR
  | .int s k x, .int false _ (.ofNat n) => .v (mkI s k (g k x n))
  | _, _ => .no
def eX (k : IntKind) (x y : Int) : Int := dP k (x + y)
def gSub (k : IntKind) (x y : Int) : Int := dP k (x - y)
def gMul (k : IntKind) (x y : Int) : Int := dP k (x * y)
def gQuo (k : IntKind) (x y : Int) : Int := dP k (x.tdiv y)
def qE (_ : IntKind) (x y : Int) : Int := x.tmod y
def gAnd (k : IntKind) (x y : Int) : Int := dP k ((BitVec.ofInt k.bits x &&& BitVec.ofInt k.bits y).toNat)
def gOr (k : IntKind) (x y : Int) : Int := dP k ((BitVec.ofInt k.bits x ||| BitVec.ofInt k.bits y).toNat)
def gXor (k : IntKind) (x y : Int) : Int := dP k ((BitVec.ofInt k.bits x ^^^ BitVec.ofInt k.bits y).toNat)
def gAndNot (k : IntKind) (x y : Int) : Int := dP k ((BitVec.ofInt k.bits x &&& ~~~BitVec.ofInt k.bits y).toNat)
def gShl (k : IntKind) (x : Int) (n : Nat) : Int := dP k (x * ((2 ^ (min n k.bits) : Nat) : Int))
def gShr (k : IntKind) (x : Int) (n : Nat) : Int := x.fdiv ((2 ^ (min n k.bits) : Nat) : Int)
def gLss (x y : Int) : Bool := x < y
def gLeq (x y : Int) : Bool := x ≤ y
def gGtr (x y : Int) : Bool := x > y
def gGeq (x y : Int) : Bool := x ≥ y
def eq1 (tag : Nat) (a b : CV) : Option (Bool × Bool) := match tag with
  | 2 => match a, b with
    | .int s k x, .int s' k' y => match Nat.beq (oQ k) (oQ k') with
      | true => some (s || s', x == y)
      | false => none
    | _, _ => none
  | 1 => match a, b with
    | .str x, .str y => some (false, x.toList == y.toList)
    | .st x, .st y => some (true, x == y)
    | _, _ => none
  | 0 => match a, b with
    | .bool s x, .bool s' y => some (s || s', x == y)
    | _, _ => none
  | _ => none
def eqL : List Nat → List CV → List CV → Option (Bool × Bool)
  | [], [], [] => some (false, true)
  | t :: ts, a :: x, b :: y => match eq1 t a b with
    | some (s, e) => match s with
      | false => match e with
        | true => eqL ts x y
        | false => some (false, false)
      | true => match eqL ts x y with
        | some (_, f) => some (true, e && f)
        | none => none
    | none => none
  | _, _, _ => none
abbrev EqF := CV → CV → Option (Bool × Bool)
def eqNo : EqF := fun _ _ => none
def eqAgg (tags : List Nat) : EqF := fun a b => match a, b with
  | .agg x, .agg y => match Nat.beq x.length tags.length && Nat.beq y.length tags.length with
    | true => eqL tags x y
    | false => none
  | _, _ => none
def eqNilS : EqF := fun a b => match a, b with
  | .nils, .nils => some (false, true)
  | .nils, .sl _ _ _ _ _ => some (false, false)
  | .sl _ _ _ _ _, .nils => some (false, false)
  | _, _ => none
def eqNilP : EqF := fun a b => match a, b with
  | .nilp, .nilp => some (false, true)
  | .nilp, .ptr _ _ => some (false, false)
  | .ptr _ _, .nilp => some (false, false)
  | _, _ => none
def fEq (q : EqF) (a b : CV) : PR := match q a b with
  | some r => .v (mkB r.1 r.2)
  | none => .no
def fNeq (q : EqF) (a b : CV) : PR := match q a b with
  | some r => .v (mkB r.1 (!r.2))
  | none => .no
def fNot : CV → PR
  | .bool s b => .v (mkB s (!b))
  | _ => .no
def fNeg : CV → PR
  | .int s k n => .v (mkI s k (dP k (0 - n)))
  | _ => .no
def fInv : CV → PR
  | .int s k n => .v (mkI s k (dP k ((BitVec.ofInt k.bits (if k.signed then -1 else k.max) ^^^ BitVec.ofInt k.bits n).toNat)))
  | _ => .no
def fCv (k : IntKind) : CV → PR
  | .int s _ n => .v (mkI s k (dP k n))
  | _ => .no
def fStr : CV → PR
  | .str b => .v (.str b)
  | _ => .no
def xPk (c a b : yZ) : PF := fun fr _ => match c fr with
  | some (.bool false t) => match t with
    | true => match a fr with
      | some x => .v x
      | none => .no
    | false => match b fr with
      | some x => .v x
      | none => .no
  | some (.bool true t) => match a fr, b fr with
    | some (.bool _ x), some (.bool _ y) => .v (.bool true (match t with | true => x | false => y))
    | _, _ => .no
  | _ => .no
def xAl (z : List CV) (e : TypeId) : PF := fun _ nx => .w (.ptr nx 0) (.cells z e false)
def xBx (e : TypeId) (a : yZ) : PF := fun fr nx => match a fr with
  | some c => .w (.ptr nx 0) (.cells (wC c) e false)
  | none => .no
def spl (l : List CV) (o : Nat) (x : List CV) : List CV := l.take o ++ x ++ l.drop (o + x.length)
def fillC (fr : dV) (cells : List CV) : List (Nat × Nat × yZ) → Option (List CV)
  | [] => some cells
  | (off, size, a) :: r => match a fr with
    | some c => match Nat.beq (wC c).length size && Nat.ble (off + size) cells.length with
      | true => fillC fr (spl cells off (wC c)) r
      | false => none
    | none => none
def xBl (z : List CV) (ps : List (Nat × Nat × yZ)) : PF := fun fr _ => match fillC fr z ps with
  | some l => .v (.agg l)
  | none => .no
def xBs (e : TypeId) (len : Nat) (z : List CV) (ps : List (Nat × Nat × yZ)) : PF := fun fr nx => match fillC fr z ps with
  | some l => .w (.sl nx 0 len len 0) (.cells l e false)
  | none => .no
def fSp (n : Nat) : CV → PR
  | .sl g o m _ _ => match Nat.ble n m with
    | true => .v (.ptr g o)
    | false => .no
  | _ => .no
def xMf (f : FuncId) (l : List yZ) : PF := fun fr _ => match evL fr l with
  | some l => .v (.fn f l)
  | none => .no
def repC : Nat → List CV → List CV
  | 0, _ => []
  | n + 1, z => z ++ repC n z
def natQ (a : yZ) (fr : dV) : Option Nat := match a fr with
  | some (.int false _ (.ofNat n)) => some n
  | _ => none
def xMk (e : TypeId) (z : List CV) (bytes : Nat) (l c : yZ) : PF := fun fr nx => match natQ l fr, natQ c fr with
  | some l, some c => match Nat.ble l c && Nat.blt c 1099511627776 && Nat.ble (bytes * c) 140737488355328 with
    | true => .w (.sl nx 0 l c 0) (.cells (repC c z) e false)
    | false => .no
  | _, _ => .no
def optN (fr : dV) : Option yZ → Option (Option Nat)
  | none => some none
  | some a => match natQ a fr with
    | some n => some (some n)
    | none => none
def rZ (n c : Nat) (lo hi mx : Option Nat) : Option (Nat × Nat × Nat) :=
  match Nat.ble (lo.getD 0) (hi.getD n) && Nat.ble (hi.getD n) (mx.getD c) && Nat.ble (mx.getD c) c with
  | true => some (lo.getD 0, hi.getD n, mx.getD c)
  | false => none
def pkO (m a o s : Nat) : Nat := match Nat.beq m a with
  | true => o
  | false => o + a * s
def fSi (s : Nat) (mxs : Bool) (lo hi mx : Option Nat) : CV → PR
  | .sl g o n c l => match rZ n c lo hi mx with
    | some (a, b, m) => match Nat.beq l 0 || mxs with
      | true => .v (.sl g (pkO m a o s) (b - a) (m - a) 0)
      | false => match Nat.beq b a with
        | true => .v .es
        | false => match Nat.beq m a || !Nat.beq l s with
          | true => .no
          | false => .v (.sl g (o + a * s) (b - a) (m - a) l)
    | none => .no
  | .nils => match rZ 0 0 lo hi mx with
    | some _ => .v .nils
    | none => .no
  | .es => match rZ 0 0 lo hi mx with
    | some _ => .v .es
    | none => .no
  | .fz l' o n => match rZ n n lo hi mx with
    | some (a, b, _) => .v (.fz l' (o + a * s) (b - a))
    | none => .no
  | _ => .no
def fSa (n s : Nat) (lo hi mx : Option Nat) : CV → PR
  | .ptr g o => match rZ n n lo hi mx with
    | some (a, b, m) => .v (.sl g (pkO m a o s) (b - a) (m - a) 0)
    | none => .no
  | _ => .no
def xSl (f : Option Nat → Option Nat → Option Nat → CV → PR) (x : yZ) (lo hi mx : Option yZ) : PF := fun fr _ => match x fr, optN fr lo, optN fr hi, optN fr mx with
  | some c, some lo, some hi, some mx => f lo hi mx c
  | _, _, _, _ => .no
def optI (fr : dV) : Option yZ → Option (Option Int)
  | none => some none
  | some a => match a fr with
    | some (.int _ _ z) => some (some z)
    | _ => none
def xsB (n : Nat) (lo hi mx : Option Int) : Bool := ((decide (0 ≤ lo.getD 0) && decide (lo.getD 0 ≤ hi.getD n)) && decide (hi.getD n ≤ mx.getD n)) && decide (mx.getD n ≤ n)
def lC (mx : Option Int) (c : Nat) : Nat := match mx with
  | some m => m.toNat
  | none => c
def fXs (lo hi mx : Option Int) (g o n c : Nat) (ex : Bool) : PR := .ck (xsB n lo hi mx) (.xs g (o + (lo.getD 0).toNat) ((hi.getD n).toNat - (lo.getD 0).toNat) (lC mx c - (lo.getD 0).toNat) (ex || mx.isSome))
def fYs (lo hi mx : Option Int) (r : Row) (o n : Nat) : PR := .ck (xsB n lo hi mx) (.fy r (o + (lo.getD 0).toNat) ((hi.getD n).toNat - (lo.getD 0).toNat) true)
def xSx (f : PF) (s : Nat) (x : yZ) (lo hi mx : Option yZ) : PF := fun fr nx => match x fr with
  | some (.xs g o n c ex) => match optI fr lo, optI fr hi, optI fr mx, Nat.beq s 37 with
    | some lo, some hi, some mx, true => fXs lo hi mx g o n c ex
    | _, _, _, _ => .no
  | some (.fy r o n _) => match optI fr lo, optI fr hi, optI fr mx, Nat.beq s r.s with
    | some lo, some hi, some mx, true => fYs lo hi mx r o n
    | _, _, _, _ => .no
  | _ => f fr nx
def fFa (off : Nat) : CV → PR
  | .ptr g o => .v (.ptr g (o + off))
  | .px g i k => .v (.px g i (k + off))
  | .fp l o => .v (.fp l (o + off))
  | .fq r i k => .v (.fq r i (k + off))
  | .fx l o n s z k => .v (.fx l o n s z (k + off))
  | _ => .no
def cut (l : List CV) (o n : Nat) : List CV := (l.drop o).take n
def cn0 : aJ := ⟨[], 0, 0, 0, false⟩
def scrC (x : Int) : List CV := [.int false .u8 1, .int false .u8 1, .int true .u8 x, .int false .u8 5]
def nO (c : aJ) : List CV := (List.range 32).map (fun j => .int true .u8 (c.o.getD j 0)) ++ [.int true .u32 (c.o.getD 32 0), .int true .i64 c.v, .fz (scrC c.x) 0 4, .int true .i64 c.h, .bool true c.c]
def loadP (ag : Bool) (n k : Nat) (c : aJ) : Option CV := match ag with
  | true => match Nat.ble (k + n) 37 with
    | true => some (.agg (cut (nO c) k n))
    | false => none
  | false => (nO c)[k]?
def Row.elV : Row → Nat → List CV
  | .c cs, q => nO (cs.getD q cn0)
  | .i k l, q => [.int true k (l.getD q 0)]
  | .j k _ l, q => [.int true k (l.getD q 0)]
def sK (ag : Bool) (n k : Nat) (l : List CV) : Option CV := match ag with
  | true => match Nat.ble (k + n) l.length with
    | true => some (.agg (cut l k n))
    | false => none
  | false => l[k]?
def partF (ag : Bool) (n off : Nat) (l : List CV) : PR := match ag with
  | true => match Nat.ble (off + n) l.length with
    | true => .v (.agg (cut l off n))
    | false => .no
  | false => match l[off]? with
    | some c => .v c
    | none => .no
def fFl (ag : Bool) (n off : Nat) : CV → PR
  | .agg l => partF ag n off l
  | _ => .no
def fIa (n s : Nat) : CV → CV → PR
  | .ptr g o, .int false _ (.ofNat i) => match Nat.blt i n with
    | true => .v (.ptr g (o + i * s))
    | false => .no
  | _, _ => .no
def ckN (f b : Bool) (c : CV) : PR := match f with
  | true => .ck b c
  | false => match b with
    | true => .v c
    | false => .no
def fIs (s : Nat) : CV → CV → PR
  | .sl g o n _ _, .int false _ (.ofNat i) => match Nat.blt i n with
    | true => .v (.ptr g (o + i * s))
    | false => .no
  | .xs g o n _ _, .int _ _ x => match Nat.beq s 37 with
    | true => .ck (decide (0 ≤ x) && decide (x < (n : Int))) (.px g (o + x.toNat) 0)
    | false => .no
  | .fz l o n, .int false _ (.ofNat i) => match Nat.blt i n with
    | true => .v (.fp l (o + i * s))
    | false => .no
  | .fz l o n, .int true _ x => .ck (decide (0 ≤ x) && decide (x < (n : Int))) (.fx l o n s x 0)
  | .fy r o n u, .int f _ x => match Nat.beq s r.s with
    | true => ckN (u || f) (decide (0 ≤ x) && decide (x < (n : Int))) (.fq r (o + x.toNat) 0)
    | false => .no
  | _, _ => .no
def fIv (ag : Bool) (n s : Nat) : CV → CV → PR
  | .agg l, .int false _ (.ofNat i) => match Nat.blt i n with
    | true => partF ag s (i * s) l
    | false => .no
  | _, _ => .no
def fEx (i : Nat) : CV → PR
  | .tup l => match l[i]? with
    | some c => .v c
    | none => .no
  | _ => .no
def fLn : CV → PR
  | .sl _ _ n _ _ => .v (mkI false .i64 (.ofNat n))
  | .nils => .v (.int false .i64 (.ofNat 0))
  | .xs _ _ n _ _ => .v (.int true .i64 (.ofNat n))
  | .fz _ _ n => .v (mkI false .i64 (.ofNat n))
  | .fy _ _ n u => .v (mkI u .i64 (.ofNat n))
  | .es => .v (.int false .i64 (.ofNat 0))
  | _ => .no
def fLs : CV → PR
  | .str s => .v (mkI false .i64 (.ofNat s.size))
  | _ => .no
def xLc (n : Nat) : PF := fun _ _ => .v (.int false .i64 (.ofNat n))
def fMin : CV → CV → PR
  | .int s k x, .int s' k' y => match ((wX s k x && wX s' k' y) && Nat.beq (oQ k) (oQ k')) || !(s || s') with
    | true => .v (mkI (s || s') k (if y < x then y else x))
    | false => .no
  | _, _ => .no
def fMax : CV → CV → PR
  | .int s k x, .int s' k' y => match ((wX s k x && wX s' k' y) && Nat.beq (oQ k) (oQ k')) || !(s || s') with
    | true => .v (mkI (s || s') k (if y > x then y else x))
    | false => .no
  | _, _ => .no
def c1 (f : CV → PR) : Option yZ → Option PF
  | some a => some (x1 f a)
  | none => none
def c2 (f : CV → CV → PR) : Option yZ → Option yZ → Option PF
  | some a, some b => some (x2 f a b)
  | _, _ => none
def cover (cw : TypeId → Option (List Nat)) : List Field → Nat → Option (List Nat)
  | [], _ => some []
  | f :: r, a => match f.name != "_" && Nat.beq f.offset a, cw f.type with
    | true, some l => match cover cw r (a + l.length) with
      | some m => some (l ++ m)
      | none => none
    | _, _ => none
def xY : Nat → List Nat → List Nat
  | 0, _ => []
  | n + 1, l => l ++ xY n l
noncomputable def sized (t : TypeId) (l : List Nat) : Option (List Nat) := match qV P t with
  | some n => match Nat.beq l.length n with
    | true => some l
    | false => none
  | none => none
noncomputable def cZ : Nat → TypeId → Option (List Nat)
  | 0, _ => none
  | d + 1, t => match und P t with
    | some .bool => sized P t [0]
    | some .string => sized P t [1]
    | some (.int _) => sized P t [2]
    | some (.struct fs) => match P.stoodInHeld t, cover (cZ d) fs.toList 0 with
      | false, some l => sized P t l
      | _, _ => none
    | some (.array n e) => match cZ d e with
      | some l => sized P t (xY n l)
      | none => none
    | _ => none
noncomputable def tC (t : TypeId) : EqF := match und P t with
  | some .bool => eq1 0
  | some .string => eq1 1
  | some (.int _) => eq1 2
  | some (.slice _) => eqNilS
  | some (.pointer _) => eqNilP
  | some (.struct _) => match cZ P 20 t, P.eqGuardType P.depth t with
    | some l, false => eqAgg l
    | _, _ => eqNo
  | some (.array _ _) => match cZ P 20 t, P.eqGuardType P.depth t with
    | some l, false => eqAgg l
    | _, _ => eqNo
  | _ => eqNo
noncomputable def cmpBin (op : BinOp) (t : TypeId) (a b : Option yZ) : Option PF := match op with
  | .add => c2 (fInt eX) a b
  | .sub => c2 (fInt gSub) a b
  | .mul => c2 (fInt gMul) a b
  | .quo => c2 (fDiv gQuo) a b
  | .rem => c2 (fDiv qE) a b
  | .and => c2 (fInt gAnd) a b
  | .or => c2 (fInt gOr) a b
  | .xor => c2 (fInt gXor) a b
  | .andNot => c2 (fInt gAndNot) a b
  | .shl => c2 (fSh gShl) a b
  | .shr => c2 (fSh gShr) a b
  | .lss => c2 (fCmp gLss) a b
  | .leq => c2 (fCmp gLeq) a b
  | .gtr => c2 (fCmp gGtr) a b
  | .geq => c2 (fCmp gGeq) a b
  | .eql => c2 (fEq (tC P t)) a b
  | .neq => c2 (fNeq (tC P t)) a b
noncomputable def plAll : List Field → Option (List (Nat × Nat))
  | [] => some []
  | f :: r => match qV P f.type, plAll r with
    | some n, some l => some ((f.offset, n) :: l)
    | _, _ => none
noncomputable def places (pl : List (Nat × Nat)) (parts : List (Nat × Operand)) : Option (List (Nat × Nat × yZ)) := match parts with
  | [] => some []
  | (i, x) :: r => match pl[i]?, aX x, places pl r with
    | some p, some a, some l => some ((p.1, p.2, a) :: l)
    | _, _, _ => none
noncomputable def uC (n : Nat) (parts : List (Nat × Operand)) : Option (List (Nat × Nat × yZ)) := match parts with
  | [] => some []
  | (i, x) :: r => match aX x, uC n r with
    | some a, some l => some ((i * n, n, a) :: l)
    | _, _ => none
noncomputable def cmpO : Option Operand → Option (Option yZ)
  | none => some none
  | some x => match aX x with
    | some a => some (some a)
    | none => none
noncomputable def cmpSl (t : TypeId) (x : Operand) (lo hi mx : Option Operand) : Option PF :=
  match aX x, cmpO lo, cmpO hi, cmpO mx with
  | some x, some lo, some hi, some mx => match Option.isSome mx && !Option.isSome hi with
    | true => none
    | false => match und P t with
      | some (.slice e) => (qV P e).map fun s => xSx (xSl (fSi s mx.isSome) x lo hi mx) s x lo hi mx
      | some (.array n e) => (qV P e).map fun s => xSl (fSa n s) x lo hi mx
      | some (.pointer arr) => match und P arr with
        | some (.array n e) => (qV P e).map fun s => xSl (fSa n s) x lo hi mx
        | _ => none
      | _ => none
  | _, _, _, _ => none
noncomputable def cmpIx (t : TypeId) (x i : Option yZ) : Option PF := match und P t with
  | some (.array n e) => match qV P e with
    | some s => c2 (fIa n s) x i
    | none => none
  | some (.slice e) => match qV P e with
    | some s => c2 (fIs s) x i
    | none => none
  | _ => none
noncomputable def cmpLen (t : TypeId) (x : Option yZ) : Option PF := match und P t with
  | some (.array n _) => some (xLc n)
  | some (.pointer arr) => match und P arr with
    | some (.array n _) => some (xLc n)
    | _ => none
  | some (.slice _) => c1 fLn x
  | some .string => c1 fLs x
  | _ => none
noncomputable def cmpCv (s d : TypeId) (x : Option yZ) : Option PF := match und P s, und P d with
  | some (.int _), some (.int k) => c1 (fCv k) x
  | some .string, some .string => c1 fStr x
  | _, _ => none
noncomputable def cmpFa (s : TypeId) (x : Option yZ) (f : Nat) : Option PF := match und P s with
  | some (.struct fs) => match fs.toList[f]? with
    | some fd => match qV P fd.type with
      | some (_ + 1) => c1 (fFa fd.offset) x
      | _ => none
    | none => none
  | _ => none
noncomputable def cmpFl (t : TypeId) (x : Option yZ) (f : Nat) : Option PF := match und P t with
  | some (.struct fs) => match fs.toList[f]? with
    | some fd => match fQ P fd.type, qV P fd.type with
      | some ag, some n => c1 (fFl ag n fd.offset) x
      | _, _ => none
    | none => none
  | _ => none
noncomputable def cmpIv (t : TypeId) (x i : Option yZ) : Option PF := match und P t with
  | some (.array n e) => match fQ P e, qV P e with
    | some ag, some s => c2 (fIv ag n s) x i
    | _, _ => none
  | _ => none
noncomputable def cmpBl (t : TypeId) (parts : List (Nat × Operand)) : Option PF := match qO P t, und P t with
  | some z, some (.struct fs) => match plAll P fs.toList with
    | some pl => (places pl parts).map (xBl z)
    | none => none
  | some z, some (.array _ e) => match qV P e with
    | some n => (uC n parts).map (xBl z)
    | none => none
  | _, _ => none
noncomputable def cmpBs (t : TypeId) (len : Nat) (parts : List (Nat × Operand)) : Option PF := match und P t with
  | some (.slice e) => match qV P e, qO P e with
    | some n, some z => match Nat.ble (len * n) 16777216 && Nat.beq z.length n && Nat.ble 1 n with
      | true => (uC n parts).map (xBs e len (repC len z))
      | false => none
    | _, _ => none
  | _ => none
noncomputable def cmpMk (t : TypeId) (l c : Option yZ) : Option PF := match und P t with
  | some (.slice e) => match inf P e, qO P e, l, c with
    | some i, some z, some l, some c => match Nat.beq z.length i.size && Nat.ble 1 i.size with
      | true => some (xMk e z i.bytes l c)
      | false => none
    | _, _, _, _ => none
  | _ => none
noncomputable def cmpP (op : Op) : Option PF := match op with
  | .move x => c1 fMv (aX x)
  | .assign x => c1 fMv (aX x)
  | .pick c a b => match aX c, aX a, aX b with
    | some c, some a, some b => some (xPk c a b)
    | _, _, _ => none
  | .alloc e => (qO P e).map fun z => xAl z e
  | .box e x => (aX x).map (xBx e)
  | .build t parts => cmpBl P t parts.toList
  | .buildSlice t len parts => cmpBs P t len parts.toList
  | .nilCheck x => c1 fNc (aX x)
  | .binOp op t x y _ => cmpBin P op t (aX x) (aX y)
  | .unOp .not _ x => c1 fNot (aX x)
  | .unOp .neg _ x => c1 fNeg (aX x)
  | .unOp .xor _ x => c1 fInv (aX x)
  | .convert s d x => cmpCv P s d (aX x)
  | .sliceToArrayPointer t x => match und P t with
    | some (.array n _) => c1 (fSp n) (aX x)
    | _ => none
  | .makeFunc (.func f) first cap => match first.toList with
    | [] => (cmpL cap.toList).map (xMf f)
    | _ => none
  | .makeSlice t l c => cmpMk P t (aX l) (aX c)
  | .slice t x lo hi mx => cmpSl P t x lo hi mx
  | .fieldAddr s x f => cmpFa P s (aX x) f
  | .field t x f => cmpFl P t (aX x) f
  | .indexAddr t x i => cmpIx P t (aX x) (aX i)
  | .index t x i => cmpIv P t (aX x) (aX i)
  | .extract x i => c1 (fEx i) (aX x)
  | .call ⟨.builtin .len, ⟨[x]⟩, ⟨[t]⟩⟩ => cmpLen P t (aX x)
  | .call ⟨.builtin .min, ⟨[x, y]⟩, _⟩ => c2 fMin (aX x) (aX y)
  | .call ⟨.builtin .max, ⟨[x, y]⟩, _⟩ => c2 fMax (aX x) (aX y)
  | _ => none
end
abbrev Acc := Nat → Option HO
structure Out where
  v : CV
  H : Tr HO
  nx : Nat
  puts : List Nat
abbrev MF := dV → Acc → Tr HO → Nat → Option Out
section
variable (P : Program)
def yE (ag : Bool) (n o : Nat) : HO → Option CV
  | .cells c _ _ => match ag with
    | true => match Nat.ble (o + n) c.length with
      | true => some (.agg (cut c o n))
      | false => none
    | false => c[o]?
  | _ => none
def storeF (n o : Nat) (v : List CV) : HO → Option HO
  | .cells c e r => match Nat.beq v.length n && Nat.ble (o + n) c.length && v.all nC with
    | true => some (.cells (spl c o v) e r)
    | false => none
  | _ => none
noncomputable def mSt (n : Nat) (a x : yZ) : MF := fun fr ac H nx => match a fr, x fr with
  | some (.ptr g o), some v => match ac g with
    | some ob => match storeF n o (wC v) ob with
      | some ob' => some ⟨.tup [], H.set g ob', nx, [g]⟩
      | none => none
    | none => none
  | _, _ => none
def kF (ac : Acc) (n : Nat) : CV → Option (List CV)
  | .nils => match n with
    | 0 => some []
    | _ => none
  | .sl g o _ _ _ => match ac g with
    | some (.cells c _ _) => match Nat.ble (o + n) c.length with
      | true => some (cut c o n)
      | false => none
    | _ => none
  | .es => match n with
    | 0 => some []
    | _ => none
  | .fz c o _ => match Nat.ble (o + n) c.length with
    | true => some (cut c o n)
    | false => none
  | _ => none
def rW : CV → Option Nat
  | .nils => some 0
  | .sl _ _ n _ _ => some n
  | .fz _ _ n => some n
  | .es => some 0
  | _ => none
def bytesC : List CV → Option (List UInt8)
  | [] => some []
  | .int false .u8 (.ofNat n) :: r => match bytesC r with
    | some l => some (UInt8.ofNat n :: l)
    | none => none
  | _ => none
def wF : List CV → Option (List Int)
  | [] => some []
  | .int s .u8 z :: r => match wF r, wX s .u8 z with
    | some l, true => some (z :: l)
    | _, _ => none
  | _ => none
noncomputable def yY (e : TypeId) (s bytes : Nat) (H : Tr HO) (nx n : Nat) (l : List CV) : Option Out :=
  match Nat.ble (n * bytes) 1099511627776 && Nat.ble n 1099511627776 with
  | true => some ⟨.sl nx 0 n n s, H.set nx (.cells l e true), nx + 1, []⟩
  | false => none
noncomputable def apAt (e : TypeId) (s bytes : Nat) (H : Tr HO) (nx g o m c lo : Nat) (cs : List CV) (e' : TypeId) (r : Bool) (n : Nat) (new : List CV) : Option Out :=
  match Nat.ble (m + n) c with
  | true => match n with
    | 0 => some ⟨.sl g o m c lo, H, nx, []⟩
    | _ => match Nat.ble (o + (m + n) * s) cs.length with
      | true => some ⟨.sl g o (m + n) c lo, H.set g (.cells (spl cs (o + m * s) new) e' r), nx, [g]⟩
      | false => none
  | false => match Nat.ble (o + m * s) cs.length && Nat.beq e' e with
    | true => match Nat.beq lo 0 with
      | true => yY e s bytes H nx (m + n) (cut cs o (m * s) ++ new)
      | false => match Nat.beq lo s && Nat.beq o 0 with
        | true => match yY e s bytes (H.del g) nx (m + n) (cs.take (m * s) ++ new) with
          | some x => some { x with puts := [g] }
          | none => none
        | false => none
    | false => none
def cnU (s : Nat) : List CV → Bool
  | .int true _ _ :: _ => Nat.beq s 37
  | _ => false
noncomputable def mAp (e : TypeId) (s bytes : Nat) (a x : yZ) : MF := fun fr ac H nx => match a fr, x fr with
  | some l, some x => match rW x with
    | some n => match kF ac (n * s) x with
      | some new => match new.all nC && !cnU s new with
        | true => match l with
          | .nils => match n with
            | 0 => some ⟨.nils, H, nx, []⟩
            | _ => yY e s bytes H nx n new
          | .sl g o m c lo => match ac g with
            | some (.cells cs e' r) => apAt e s bytes H nx g o m c lo cs e' r n new
            | _ => none
          | _ => none
        | false => none
      | none => none
    | none => none
  | _, _ => none
noncomputable def mCp (s : Nat) (a x : yZ) : MF := fun fr ac H nx => match a fr, x fr with
  | some d, some x => match rW d, rW x with
    | some n, some m => match kF ac (min m n * s) x with
      | some l => match d with
        | .nils => some ⟨.int false .i64 (.ofNat 0), H, nx, []⟩
        | .sl g o _ _ _ => match ac g with
          | some (.cells cs e r) => match Nat.ble (o + min m n * s) cs.length && l.all nC with
            | true => some ⟨mkI false .i64 (.ofNat (min m n)), H.set g (.cells (spl cs o l) e r), nx, [g]⟩
            | false => none
          | _ => none
        | _ => none
      | none => none
    | _, _ => none
  | _, _ => none
noncomputable def mB2s (a : yZ) : MF := fun fr ac H nx => match a fr with
  | some x => match rW x with
    | some n => match kF ac n x with
      | some l => match bytesC l with
        | some b => some ⟨.str ⟨b.toArray⟩, H, nx, []⟩
        | none => match wF l with
          | some b => some ⟨.st b, H, nx, []⟩
          | none => none
      | none => none
    | none => none
  | none => none
noncomputable def mS2b (e : TypeId) (a : yZ) : MF := fun fr _ H nx => match a fr with
  | some (.str b) => some ⟨.sl nx 0 b.size b.size 1, H.set nx (.cells (b.data.toList.map fun x => .int false .u8 (.ofNat x.toNat)) e true), nx + 1, []⟩
  | _ => none
def vP (q : EqF) : List (CV × CV × Nat) → CV → Nat → Option (Option (Nat × CV))
  | [], _, _ => some none
  | e :: es, k, i => match q k e.1 with
    | some (false, true) => some (some (i, e.2.1))
    | some (false, false) => vP q es k (i + 1)
    | _ => none
def mapF (ac : Acc) : CV → Option (List (CV × CV × Nat))
  | .mp g => match ac g with
    | some (.map es _) => some es
    | _ => none
  | .nilm => some []
  | _ => none
noncomputable def mMk : MF := fun _ _ H nx => some ⟨.mp nx, H.set nx (.map [] 0), nx + 1, []⟩
def keyC (kn : Option Nat) (k : CV) : Bool := match kn with
  | none => true
  | some n => match k with
    | .agg l => Nat.beq l.length n
    | _ => false
noncomputable def mLk (q : EqF) (kn : Option Nat) (z : CV) (ok : Bool) (m k : yZ) : MF := fun fr ac H nx => match m fr, k fr with
  | some m, some k => match mapF ac m, keyC kn k with
    | some es, true => match vP q es k 0 with
      | some r => match ok, r with
        | true, some x => some ⟨.tup [x.2, .bool false true], H, nx, []⟩
        | true, none => some ⟨.tup [z, .bool false false], H, nx, []⟩
        | false, some x => some ⟨x.2, H, nx, []⟩
        | false, none => some ⟨z, H, nx, []⟩
      | none => none
    | _, _ => none
  | _, _ => none
noncomputable def mUp (q : EqF) (kn : Option Nat) (m k x : yZ) : MF := fun fr ac H nx => match m fr, k fr, x fr with
  | some (.mp g), some k, some x => match ac g, keyC kn k with
    | some (.map es clock), true => match vP q es k 0 with
      | some none => some ⟨.tup [], H.set g (.map (es ++ [(k, x, clock)]) (clock + 1)), nx, [g]⟩
      | _ => none
    | _, _ => none
  | _, _, _ => none
noncomputable def mLn (m : yZ) : MF := fun fr ac H nx => match m fr with
  | some m => match mapF ac m with
    | some es => some ⟨.int false .i64 (.ofNat es.length), H, nx, []⟩
    | none => none
  | none => none
noncomputable def mRg (m : yZ) : MF := fun fr ac H nx => match m fr with
  | some (.mp g) => match ac g with
    | some (.map _ clock) => some ⟨.ptr nx 0, H.set nx (.iter (some g) clock [] clock), nx + 1, []⟩
    | _ => none
  | some .nilm => some ⟨.ptr nx 0, H.set nx (.iter none 0 [] 0), nx + 1, []⟩
  | _ => none
noncomputable def mNx (x : yZ) : MF := fun fr ac H nx => match x fr with
  | some (.ptr g 0) => match ac g with
    | some (.iter none _ _ _) => some ⟨.tup [.bool false false], H, nx, []⟩
    | some (.iter (some m) since seen last) => match ac m with
      | some (.map es clock) => match es.filter (fun e => !seen.contains e.2.2) with
        | [] => match seen.isEmpty || es.isEmpty || es.any (fun e => Nat.blt e.2.2 last) with
          | true => some ⟨.tup [.bool false false], H, nx, []⟩
          | false => none
        | [e] => match Nat.blt e.2.2 since && (seen.isEmpty || es.any (fun e => Nat.blt e.2.2 last)) with
          | true => some ⟨.tup [.bool false true, e.1, e.2.1], H.set g (.iter (some m) since (seen ++ [e.2.2]) clock), nx, [g]⟩
          | false => none
        | _ => none
      | _ => none
    | _ => none
  | _ => none
noncomputable def mEn (x : yZ) : MF := fun fr ac H nx => match x fr with
  | some (.ptr g 0) => match ac g with
    | some (.iter (some m) _ seen stepped) => match seen.getLast?, ac m with
      | some stamp, some (.map es clock) => match Nat.beq clock stepped, es.find? (fun e => Nat.beq e.2.2 stamp) with
        | true, some e => some ⟨.tup [e.1, e.2.1], H, nx, []⟩
        | _, _ => none
      | _, _ => none
    | _ => none
  | _ => none
def m1 (f : yZ → MF) : Option yZ → Option MF
  | some a => some (f a)
  | none => none
def m2 (f : yZ → yZ → MF) : Option yZ → Option yZ → Option MF
  | some a, some b => some (f a b)
  | _, _ => none
def m3 (f : yZ → yZ → yZ → MF) : Option yZ → Option yZ → Option yZ → Option MF
  | some a, some b, some c => some (f a b c)
  | _, _, _ => none
def osK (k : IntKind) : List CV → Option (List Int)
  | [] => some []
  | .int s kk z :: r => match Nat.beq (oQ kk) (oQ k) && wX s kk z, osK k r with
    | true, some l => some (z :: l)
    | _, _ => none
  | _ => none
def osOf (ks : List CV) : Option (List Int) := match osK .u8 (ks.take 32), osK .u32 (ks.drop 32) with
  | some a, some b => match Nat.beq a.length 32 && Nat.beq b.length 1 with
    | true => some (a ++ b)
    | false => none
  | _, _ => none
def scrX : List CV → Option Int
  | [.int false .u8 (.ofNat a), .int false .u8 (.ofNat b), .int s .u8 x, .int false .u8 (.ofNat c)] => match (Nat.beq a 1 && Nat.beq b 1) && (wX s .u8 x && Nat.beq c 5) with
    | true => some x
    | false => none
  | _ => none
def coinOf (cs : List CV) : Option aJ := match osOf (cs.take 33), cs.drop 33 with
  | some os, [.int s1 .i64 v, .fz l 0 4, .int s2 .i64 h, .bool _ b] => match wX s1 .i64 v && wX s2 .i64 h, scrX l with
    | true, some x => some ⟨os, v, x, h, b⟩
    | _, _ => none
  | _, _ => none
abbrev QF := dV → Acc → Tr HO → Nat → R Out
def qNo : QF := fun _ _ _ _ => .no
def brL {α : Type} (lit b : Bool) (t f : R α) : R α := match lit with
  | true => match b with
    | true => t
    | false => f
  | false => .br b t f
theorem uD {α : Type} (lit b : Bool) (t f : R α) : (brL lit b t f).val = (R.br b t f).val := by
  cases lit <;> cases b <;> rfl
def apSrc (ac : Acc) : CV → Option (Bool × Bool × List aJ)
  | .fy (.c cs) o n u => some (!u, true, (cs.drop o).take n)
  | .xs g o n _ _ => match ac g with
    | some (.rw cs) => some (false, decide (o + n ≤ cs.length), (cs.drop o).take n)
    | _ => none
  | .sl g o n _ _ => match Nat.beq o 0 && Nat.beq n 1 with
    | true => match ac g with
      | some (.cells cs _ _) => match Nat.ble 37 cs.length, coinOf (cs.take 37) with
        | true, some c => some (true, true, [c])
        | _, _ => none
      | _ => none
    | false => none
  | _ => none
noncomputable def qAp2 (ac : Acc) (H : Tr HO) (nx : Nat) (lit : Bool) (new : List aJ) : CV → R Out
  | .nils => brL lit (decide (0 < new.length)) (.ok ⟨.xs nx 0 new.length 0 false, H.set nx (.rw new), nx + 1, []⟩) (.ok ⟨.nils, H, nx, []⟩)
  | .xs g o n c ex => match ac g with
    | some (.rw cs) => .br (decide (o + n ≤ cs.length) && decide (n ≤ 1048576)) (brL lit (decide (0 < new.length)) (match ex with
        | true => .br (decide (c = n)) (.ok ⟨.xs nx 0 (n + new.length) 0 false, H.set nx (.rw ((cs.drop o).take n ++ new)), nx + 1, []⟩) .no
        | false => match Nat.beq o 0 with
          | true => .ok ⟨.xs nx 0 (n + new.length) 0 false, (H.del g).set nx (.rw (cs.take n ++ new)), nx + 1, [g]⟩
          | false => .no) (.ok ⟨.xs g o n c ex, H, nx, []⟩)) .no
    | _ => .no
  | _ => .no
noncomputable def qAp (a x : yZ) : QF := fun fr ac H nx => match a fr, x fr with
  | some l, some s => match apSrc ac s with
    | some (lit, b, new) => brL lit (b && decide (new.length ≤ 1048576)) (qAp2 ac H nx lit new l) .no
    | none => .no
  | _, _ => .no
noncomputable def cmpQf (op : Op) : QF := match op with
  | .call ⟨.builtin .append, ⟨[a, x]⟩, ⟨[t, t']⟩⟩ => match und P t, und P t', aX a, aX x with
    | some (.slice e), some (.slice _), some a, some x => match inf P e, qO P e with
      | some i, some z => match (Nat.beq i.size 37 && Nat.beq z.length 37) && Nat.ble i.bytes 400000 with
        | true => qAp a x
        | false => qNo
      | _, _ => qNo
    | _, _, _, _ => qNo
  | _ => qNo
noncomputable def cmpAp (t t' : TypeId) (a x : Option yZ) : Option MF := match und P t, und P t' with
  | some (.slice e), some (.slice _) => match inf P e, qO P e with
    | some i, some z => match Nat.ble 1 i.size && Nat.beq z.length i.size with
      | true => m2 (mAp e i.size i.bytes) a x
      | false => none
    | _, _ => none
  | _, _ => none
noncomputable def cmpCp (t : TypeId) (a x : Option yZ) : Option MF := match und P t with
  | some (.slice e) => match qV P e with
    | some s => m2 (mCp s) a x
    | none => none
  | _ => none
noncomputable def cmpCs (s d : TypeId) (x : Option yZ) : Option MF := match und P s, und P d with
  | some (.slice e), some .string => match und P e with
    | some (.int .u8) => m1 mB2s x
    | _ => none
  | some .string, some (.slice e) => match und P e with
    | some (.int .u8) => m1 (mS2b e) x
    | _ => none
  | _, _ => none
noncomputable def knOf (t : TypeId) (ts : List Nat) : Option Nat := match fQ P t with
  | some true => some ts.length
  | _ => none
noncomputable def zeroV (t : TypeId) : Option CV := match inf P t with
  | some i => match i.zero with
    | some v => ofV v
    | none => none
  | none => none
noncomputable def cmpLk (t : TypeId) (m k : Option yZ) (ok : Bool) : Option MF := match und P t with
  | some (.map kt et) => match zeroV P et, cZ P 20 kt with
    | some z, some ts => m2 (mLk (tC P kt) (knOf P kt ts) z ok) m k
    | _, _ => none
  | _ => none
noncomputable def cmpUp (t : TypeId) (m k x : Option yZ) : Option MF := match und P t with
  | some (.map kt _) => match cZ P 20 kt with
    | some ts => m3 (mUp (tC P kt) (knOf P kt ts)) m k x
    | none => none
  | _ => none
noncomputable def cmpM (op : Op) : Option MF := match op with
  | .store t a x => match qV P t with
    | some n => m2 (mSt n) (aX a) (aX x)
    | none => none
  | .convert s d x => cmpCs P s d (aX x)
  | .call ⟨.builtin .append, ⟨[a, x]⟩, ⟨[t, t']⟩⟩ => cmpAp P t t' (aX a) (aX x)
  | .call ⟨.builtin .copy, ⟨[a, x]⟩, ⟨t :: _⟩⟩ => cmpCp P t (aX a) (aX x)
  | .call ⟨.builtin .len, ⟨[x]⟩, ⟨[t]⟩⟩ => match und P t with
    | some (.map _ _) => m1 mLn (aX x)
    | _ => none
  | .makeMap _ none => some mMk
  | .lookup t m k ok => cmpLk P t (aX m) (aX k) ok
  | .mapUpdate t m k x => cmpUp P t (aX m) (aX k) (aX x)
  | .insert t m k x => cmpUp P t (aX m) (aX k) (aX x)
  | .range t x => match und P t with
    | some (.map _ _) => m1 mRg (aX x)
    | _ => none
  | .next x false => m1 mNx (aX x)
  | .entry x => m1 mEn (aX x)
  | _ => none
end
inductive Kd where
  | p (f : PF)
  | l (ag : Bool) (n : Nat) (a : yZ)
  | m (f : MF) (q : QF)
  | c (f : yZ) (as : List yZ)
structure Ins where
  k : Kd
  d : Option (List Bool)
  g : Option (List Bool × Bool)
  dep : Nat
  j : Nat
  src : List (List Bool × Option Nat)
inductive CC where
  | nop
  | seq (a b : CC)
  | reg (l : List Ins)
  | drw (l : List Ins)
  | cond (a : yZ) (w : Option (List Bool)) (x y : CC)
  | block (id : Nat) (c : CC)
  | loop (c : CC)
  | exit (id : Nat)
  | ret
inductive RS where
  | t (w : List Bool)
  | c (w : List Bool) (ag : Bool) (n : Nat)
structure FC where
  n : Nat
  body : CC
  res : List RS
section
variable (P : Program)
noncomputable def cmpK (op : Op) : Option Kd := match op with
  | .load t a => match fQ P t, qV P t, aX a with
    | some ag, some n, some a => some (.l ag n a)
    | _, _, _ => none
  | .call ⟨.value f, ⟨as⟩, _⟩ => match aX f, cmpL as with
    | some f, some l => some (.c f l)
    | _, _ => none
  | op => match cmpP P op with
    | some f => some (.p f)
    | none => match cmpM P op with
      | some f => some (.m f (cmpQf P op))
      | none => none
noncomputable def slotOf (ops : List Oper) (i : Nat) : Option Nat := (ops[i]?).bind (·.dst)
noncomputable def cmpG (ops : List Oper) : Option (Nat × Bool) → Option (Option (List Bool × Bool))
  | none => some none
  | some (i, b) => match slotOf ops i with
    | some t => some (some (way t, b))
    | none => none
def okD (N : Nat) : Option Nat → Bool
  | none => true
  | some t => Nat.blt t N
noncomputable def cmpI (N : Nat) (ops : List Oper) : Nat → List Oper → Option (List Ins)
  | _, [] => some []
  | j, o :: r => match cmpK P o.op, cmpG ops o.guard, okD N o.dst, cmpI N ops (j + 1) r with
    | some k, some g, true, some l => some (⟨k, o.dst.map way, g, 0, j, []⟩ :: l)
    | _, _, _, _ => none
def wrtr (t : Nat) : List Oper → Nat → Option Nat
  | [], _ => none
  | o :: r, j => match o.dst with
    | some d => match Nat.beq d t with
      | true => some j
      | false => wrtr t r (j + 1)
    | none => wrtr t r (j + 1)
def once : List Oper → Bool
  | [] => true
  | o :: r => match o.dst with
    | some d => match wrtr d r 0 with
      | none => once r
      | some _ => false
    | none => once r
def tmpsOf : List Operand → List Nat
  | [] => []
  | .tmp t :: r => t :: tmpsOf r
  | _ :: r => tmpsOf r
noncomputable def srcI (ops : List Oper) (deps : List Nat) (i dep : Nat) : List Nat → Option (List (List Bool × Option Nat))
  | [] => some []
  | t :: r => match srcI ops deps i dep r with
    | none => none
    | some l => match wrtr t ops 0 with
      | none => some ((way t, none) :: l)
      | some j => match dep.testBit j with
        | true => some ((way t, some j) :: l)
        | false => match (deps.getD j 0).testBit i with
          | true => some ((way t, none) :: l)
          | false => none
noncomputable def guardT (ops : List Oper) : Option (Nat × Bool) → List Nat
  | none => []
  | some (i, _) => match slotOf ops i with
    | some t => [t]
    | none => []
def backI (j : Nat) (o : Oper) : Bool := o.after.toList.all fun e => !Region.binds .any e || Nat.blt e.on j
def backL : Nat → List Oper → Bool
  | _, [] => true
  | j, o :: r => backI j o && backL (j + 1) r
noncomputable def cmpD (N : Nat) (ops : List Oper) (deps : List Nat) : Nat → List Oper → Option (List Ins)
  | _, [] => some []
  | j, o :: r => match cmpK P o.op, cmpG ops o.guard, okD N o.dst, srcI ops deps j (deps.getD j 0) (guardT ops o.guard ++ tmpsOf o.op.operands.toList), cmpD N ops deps (j + 1) r with
    | some k, some g, true, some src, some l => some (⟨k, o.dst.map way, g, deps.getD j 0, j, src⟩ :: l)
    | _, _, _, _, _ => none
def isCall : Kd → Bool
  | .c _ _ => true
  | _ => false
def pick (call : Bool) (done : Nat) : List Ins → Option (Ins × List Ins)
  | [] => none
  | x :: r => match (isCall x.k == call) && Nat.beq (Nat.land x.dep done) x.dep with
    | true => some (x, r)
    | false => match pick call done r with
      | some y => some (y.1, x :: y.2)
      | none => none
def sortI : Nat → Nat → List Ins → List Ins
  | 0, _, l => l
  | n + 1, done, l => match pick false done l with
    | some x => x.1 :: sortI n (Nat.lor done (2 ^ x.1.j)) x.2
    | none => match pick true done l with
      | some x => x.1 :: sortI n (Nat.lor done (2 ^ x.1.j)) x.2
      | none => l
noncomputable def dB (N : Nat) : Code → Option CC
  | .skip => some .nop
  | .label _ => some .nop
  | .seq a b => match dB N a, dB N b with
    | some x, some y => some (.seq x y)
    | _, _ => none
  | .region _ ops draw => match draw with
    | false => match cmpI P N ops.toList 0 ops.toList with
      | some l => some (.reg l)
      | none => none
    | true => match cmpD P N ops.toList (Region.before ops).toList 0 ops.toList, once ops.toList && backL 0 ops.toList with
      | some l, true => some (.drw (sortI l.length 0 l))
      | _, _ => none
  | .cond c a b => match aX c, dB N a, dB N b with
    | some f, some x, some y => some (.cond f (match c with | .tmp t => some (way t) | _ => none) x y)
    | _, _, _ => none
  | .block id c => match dB N c with
    | some x => some (.block id x)
    | none => none
  | .loop c => match dB N c with
    | some x => some (.loop x)
    | none => none
  | .scope c => dB N c
  | .exit id => some (.exit id)
  | .ret => some .ret
  | _ => none
noncomputable def cmpR : List ResultVar → Option (List RS)
  | [] => some []
  | .tmp t :: r => match cmpR r with
    | some l => some (.t (way t) :: l)
    | none => none
  | .cell a t :: r => match fQ P t, qV P t, cmpR r with
    | some ag, some n, some l => some (.c (way a) ag n :: l)
    | _, _, _ => none
noncomputable def cmpF (f : FuncId) : Option FC := match nthL P.funcs.toList f with
  | none => none
  | some fn => match fn.body with
    | none => none
    | some c => match dB P fn.ntmps c, cmpR P fn.results.toList with
      | some x, some l => some ⟨fn.ntmps, x, l⟩
      | _, _ => none
end
structure aP where
  fr : dV
  H : Tr HO
  nx : Nat
  wr : List Nat
inductive Ex where
  | nrm
  | exit (id : Nat)
  | ret
structure Rc where
  j : Nat
  puts : List Nat
  lo : Nat
  hi : Nat
  tch : Option (List Nat)
  d : Option (List Bool)
  v : CV
abbrev bQ := FuncId → Option (List CV → Acc → Tr HO → Nat → R Out)
abbrev mY := FuncId → List CV → Tr HO → Nat → List (Nat × Nat) → R Out
def banned (ban : List (Nat × Nat)) (g : Nat) : Bool := match ban with
  | [] => false
  | (a, b) :: r => (Nat.ble a g && Nat.blt g b) || banned r g
noncomputable def acc (ban : List (Nat × Nat)) (H : Tr HO) (g : Nat) : Option HO := match ban with
  | [] => H.get g
  | b :: r => match banned (b :: r) g with
    | false => H.get g
    | true => none
def vX (base : Nat) : List Nat → List Nat → List Nat
  | [], wr => wr
  | g :: r, wr => match Nat.blt g base with
    | true => g :: vX base r wr
    | false => vX base r wr
noncomputable def setD (fr : dV) (d : Option (List Bool)) (v : CV) : dV := match d with
  | some w => fr.put (some v) w
  | none => fr
section
variable (CT : bQ) (call : mY)
noncomputable def callK (ban : List (Nat × Nat)) (H : Tr HO) (nx : Nat) (f : FuncId) (l : List CV) : R Out := match CT f with
  | some s => s l (acc ban H) H nx
  | none => call f l H nx ban
noncomputable def pickR {α : Type} (m : Nat) : Nat → Int → (Nat → R α) → R α := Nat.rec (fun _ _ _ => .no) (fun _ ih i z f => .br (decide (z = (i : Int))) (f i) (ih (i + 1) z f)) m
theorem qK {α : Type} {a : α} : ∀ {m i : Nat} {z : Int} {f : Nat → R α}, (pickR m i z f).val = some a → ∃ j : Nat, z = (j : Int) ∧ (f j).val = some a
  | 0, i, z, f, h => by simp [pickR, R.val] at h
  | m + 1, i, z, f, h => by
    have h' : (R.br (decide (z = (i : Int))) (f i) (pickR m (i + 1) z f)).val = some a := h
    cases hd : decide (z = (i : Int)) with
    | true =>
      rw [hd] at h'
      exact ⟨i, of_decide_eq_true hd, h'⟩
    | false =>
      rw [hd] at h'
      exact qK h'
noncomputable def opC {α : Type} (ban : List (Nat × Nat)) (fr : dV) (H : Tr HO) (nx : Nat) (o : Kd) (k : CV → Tr HO → Nat → List Nat → Option (List Nat) → R α) : R α := match o with
  | .p f => match f fr nx with
    | .v c => k c H nx [] (some [])
    | .ck b c => .br b (k c H nx [] (some [])) .no
    | .w c o => k c (H.set nx o) (nx + 1) [] (some [])
    | .no => .no
  | .l ag n a => match a fr with
    | some (.ptr g off) => match acc ban H g with
      | some ob => match yE ag n off ob with
        | some v => k v H nx [] (some [g])
        | none => .no
      | none => .no
    | some (.px g i j) => match acc ban H g with
      | some (.rw cs) => match loadP ag n j (cs.getD i cn0) with
        | some v => .br (decide (i < cs.length)) (k v H nx [] (some [g])) .no
        | none => .no
      | _ => .no
    | some (.fp l off) => match sK ag n off l with
      | some v => k v H nx [] (some [])
      | none => .no
    | some (.fq r i j) => match sK ag n j (r.elV i) with
      | some v => k v H nx [] (some [])
      | none => .no
    | some (.fx l o m s z j) => pickR m 0 z fun i => match sK ag n (o + i * s + j) l with
      | some v => k v H nx [] (some [])
      | none => .no
    | _ => .no
  | .m f q => match f fr (acc ban H) H nx with
    | some x => match Nat.ble nx x.nx with
      | true => k x.v x.H x.nx x.puts none
      | false => .no
    | none => (q fr (acc ban H) H nx).bind fun x => match Nat.ble nx x.nx with
      | true => k x.v x.H x.nx x.puts none
      | false => .no
  | .c f as => match f fr, evL fr as with
    | some (.fn f cap), some l => (callK CT call ban H nx f (l ++ cap)).bind fun x => match Nat.ble nx x.nx with
      | true => k x.v x.H x.nx x.puts none
      | false => .no
    | _, _ => .no
def kZ (D : Nat) : List Rc → List (Nat × Nat)
  | [] => []
  | r :: rs => match D.testBit r.j with
    | true => kZ D rs
    | false => match Nat.blt r.lo r.hi with
      | true => (r.lo, r.hi) :: (r.puts.map fun p => (p, p + 1)) ++ kZ D rs
      | false => (r.puts.map fun p => (p, p + 1)) ++ kZ D rs
def apart (puts : List Nat) : Option (List Nat) → Bool
  | some l => puts.all fun p => !l.contains p
  | none => false
def noClash (D : Nat) (puts : List Nat) (rs : List Rc) : Bool := match puts with
  | [] => true
  | _ => rs.all fun r => D.testBit r.j || apart puts r.tch
noncomputable def guardC {α : Type} (g : Option (List Bool × Bool)) (fr : dV) (go pass : dV → R α) : R α := match g with
  | none => go fr
  | some (w, want) => match fr.at_ w with
    | some (.bool false c) => match c == want with
      | true => go fr
      | false => pass fr
    | some (.bool true c) => match want with
      | true => .br c (go (fr.put (some (.bool false true)) w)) (pass (fr.put (some (.bool false false)) w))
      | false => .br c (pass (fr.put (some (.bool false true)) w)) (go (fr.put (some (.bool false false)) w))
    | some (.tup []) => pass fr
    | _ => .no
noncomputable def stepS (base : Nat) (ban : List (Nat × Nat)) (o : Ins) (ih : aP → R aP) (s : aP) : R aP :=
  guardC o.g s.fr (fun fr => opC CT call ban fr s.H s.nx o.k fun v H nx puts _ => ih ⟨setD fr o.d v, H, nx, vX base puts s.wr⟩) (fun fr => ih ⟨setD fr o.d (.tup []), s.H, s.nx, s.wr⟩)
noncomputable def seqC (base : Nat) (ban : List (Nat × Nat)) (l : List Ins) : aP → R aP :=
  List.rec (fun s => .ok s) (fun o _ ih s => stepS CT call base ban o ih s) l
def look (j : Nat) : List Rc → Option CV
  | [] => none
  | r :: rs => match Nat.beq r.j j with
    | true => some r.v
    | false => look j rs
abbrev Ksr := List Bool × Option Nat
abbrev Kn := List (Ksr × Bool)
def eqLB : List Bool → List Bool → Bool
  | [], [] => true
  | true :: a, true :: b => eqLB a b
  | false :: a, false :: b => eqLB a b
  | _, _ => false
def keyE : Ksr → Ksr → Bool
  | (w, none), (w', none) => eqLB w w'
  | (_, some j), (_, some j') => Nat.beq j j'
  | _, _ => false
def knF : Kn → Ksr → Option Bool
  | [], _ => none
  | (k', b) :: r, k => match keyE k' k with
    | true => some b
    | false => knF r k
def stlK (kn : Kn) (k : Ksr) (c : CV) : CV := match kn with
  | [] => c
  | _ => match c with
    | .bool true _ => match knF kn k with
      | some true => .bool false true
      | some false => .bool false false
      | none => c
    | _ => c
def keyOf (w : List Bool) : List Ksr → Option Ksr
  | [] => none
  | k :: r => match eqLB k.1 w with
    | true => some k
    | false => keyOf w r
def knAdd (kn : Kn) (src : List Ksr) (w : List Bool) (b : Bool) : Kn := match keyOf w src with
  | some k => (k, b) :: kn
  | none => kn
def rV (j : Nat) : Kn → Kn
  | [] => []
  | ((w, some j'), b) :: r => match Nat.beq j j' with
    | true => rV j r
    | false => ((w, some j'), b) :: rV j r
  | x :: r => x :: rV j r
noncomputable def vK (fr : dV) (rs : List Rc) : Ksr → Option CV
  | (w, none) => fr.at_ w
  | (_, some j) => look j rs
noncomputable def frS (fr : dV) (rs : List Rc) (kn : Kn) : List Ksr → dV
  | [] => .e
  | k :: r => match vK fr rs k with
    | some c => (frS fr rs kn r).put (some (stlK kn k c)) k.1
    | none => frS fr rs kn r
noncomputable def frE (fr : dV) : List Rc → dV
  | [] => fr
  | r :: rs => setD (frE fr rs) r.d r.v
noncomputable def guardD {α : Type} (g : Option (List Bool × Bool)) (fr : dV) (kn : Kn) (src : List Ksr) (go pass : Kn → R α) : R α := match g with
  | none => go kn
  | some (w, want) => match fr.at_ w with
    | some (.bool false c) => match c == want with
      | true => go kn
      | false => pass kn
    | some (.bool true c) => match want with
      | true => .br c (go (knAdd kn src w true)) (pass (knAdd kn src w false))
      | false => .br c (pass (knAdd kn src w true)) (go (knAdd kn src w false))
    | some (.tup []) => pass kn
    | _ => .no
noncomputable def stepD (base : Nat) (ban : List (Nat × Nat)) (o : Ins) (ih : List Rc → Kn → aP → R aP) (rs : List Rc) (kn : Kn) (s : aP) : R aP :=
  guardD o.g (frS s.fr rs kn o.src) kn o.src (fun kn' => opC CT call (kZ o.dep rs ++ ban) (frS s.fr rs kn o.src) s.H s.nx o.k fun v H nx puts tch => match noClash o.dep puts rs with
    | true => ih (⟨o.j, puts, s.nx, nx, tch, o.d, v⟩ :: rs) (rV o.j kn') ⟨s.fr, H, nx, vX base puts s.wr⟩
    | false => .no) (fun kn' => ih (⟨o.j, [], s.nx, s.nx, some [], o.d, .tup []⟩ :: rs) (rV o.j kn') s)
noncomputable def drwC (base : Nat) (ban : List (Nat × Nat)) (l : List Ins) : List Rc → Kn → aP → R aP :=
  List.rec (fun rs _ s => .ok ⟨frE s.fr rs, s.H, s.nx, s.wr⟩) (fun o _ ih rs kn s => stepD CT call base ban o ih rs kn s) l
def iterS (f : aP → R (Ex × aP)) (ih : aP → R (Ex × aP)) (s : aP) : R (Ex × aP) := (f s).bind fun x => match x.1 with
  | .nrm => ih x.2
  | e => .ok (e, x.2)
noncomputable def o7 (n : Nat) (f : aP → R (Ex × aP)) : aP → R (Ex × aP) := Nat.rec (fun _ => .no) (fun _ ih s => iterS f ih s) n
def seqR (a b : aP → R (Ex × aP)) (s : aP) : R (Ex × aP) := (a s).bind fun x => match x.1 with
  | .nrm => b x.2
  | e => .ok (e, x.2)
noncomputable def condR (a : yZ) (w : Option (List Bool)) (x y : aP → R (Ex × aP)) (s : aP) : R (Ex × aP) := match a s.fr with
  | some (.bool false t) => match t with
    | true => x s
    | false => y s
  | some (.bool true t) => match w with
    | some w => .br t (x ⟨s.fr.put (some (.bool false true)) w, s.H, s.nx, s.wr⟩) (y ⟨s.fr.put (some (.bool false false)) w, s.H, s.nx, s.wr⟩)
    | none => .no
  | _ => .no
def wU (id : Nat) (a : aP → R (Ex × aP)) (s : aP) : R (Ex × aP) := (a s).bind fun x => match x.1 with
  | .exit i => match Nat.beq i id with
    | true => .ok (.nrm, x.2)
    | false => .ok (.exit i, x.2)
  | e => .ok (e, x.2)
def okR (r : R aP) : R (Ex × aP) := r.bind fun s => .ok (.nrm, s)
noncomputable def kQ (L base : Nat) (ban : List (Nat × Nat)) (c : CC) : aP → R (Ex × aP) :=
  CC.rec (fun s => .ok (.nrm, s)) (fun _ _ x y s => seqR x y s) (fun l s => okR (seqC CT call base ban l s)) (fun l s => okR (drwC CT call base ban l [] [] s))
    (fun a w _ _ x y s => condR a w x y s) (fun id _ x s => wU id x s) (fun _ x s => o7 L x s) (fun id s => .ok (.exit id, s)) (fun s => .ok (.ret, s)) c
end
noncomputable def xP (ban : List (Nat × Nat)) (s : aP) : List RS → Option (List CV)
  | [] => some []
  | .t w :: r => match s.fr.at_ w, xP ban s r with
    | some v, some l => some (v :: l)
    | _, _ => none
  | .c w ag n :: r => match s.fr.at_ w, xP ban s r with
    | some (.ptr g o), some l => match acc ban s.H g with
      | some ob => match yE ag n o ob with
        | some v => some (v :: l)
        | none => none
      | none => none
    | _, _ => none
noncomputable def frameC : Nat → List CV → dV → dV
  | _, [], fr => fr
  | i, c :: r, fr => frameC (i + 1) r (fr.set i c)
noncomputable def endC (ban : List (Nat × Nat)) (rs : List RS) (x : Ex × aP) : R Out := match x.1 with
  | .exit _ => .no
  | _ => match xP ban x.2 rs with
    | some [v] => .ok ⟨v, x.2.H, x.2.nx, x.2.wr⟩
    | some l => .ok ⟨.tup l, x.2.H, x.2.nx, x.2.wr⟩
    | none => .no
noncomputable def callS (P : Program) (CT : bQ) (L : Nat) (ih : mY) : mY := fun f args H nx ban => match cmpF P f with
  | none => .no
  | some fn => match Nat.ble args.length fn.n with
    | false => .no
    | true => (kQ CT ih L nx ban fn.body ⟨frameC 0 args .e, H, nx, []⟩).bind (endC ban fn.res)
noncomputable def kD (P : Program) (CT : bQ) (L d : Nat) : mY := Nat.rec (fun _ _ _ _ _ => .no) (fun _ ih => callS P CT L ih) d
def Gl (β : Names) : Prop := ∀ g, g < 64 → β.ad g = some g
theorem Gl.mono {β β' : Names} (h : Gl β) (hs : Sub β β') : Gl β' := fun g hg => (hs.nm _ _ (h g hg)).1
def RF (β : Names) (fr : dV) (A : Act) : Prop := ∀ t c, fr.get t = some c → ∃ u, A.tmps[t]? = some u ∧ RV β c u
def RE (β : Names) : List (CV × CV × Nat) → List MapEntry → Prop
  | [], r => r = []
  | e :: es, r => ∃ x rs, r = x :: rs ∧ RV β e.1 x.key ∧ RV β e.2.1 x.val ∧ x.born = e.2.2 ∧ RE β es rs
def RO (β : Names) : HO → Obj → Prop
  | .cells c e room, ob => ∃ cs lo hi, ob = .cells cs e (lo, hi) ∧ c.length ≤ cs.size ∧ (room = false → cs.size = c.length) ∧ (lo = hi ∨ cs.size ≤ lo) ∧ ∀ (i : Nat) (x : CV), c[i]? = some x → ∃ u, cs[i]? = some u ∧ RV β x u
  | .map es clock, ob => ∃ rs, ob = .map rs clock ∧ RE β es rs.toList
  | .iter m since seen last, ob => ∃ m', ob = .mapIter m' since seen.toArray last ∧ match m with
    | none => m' = none
    | some g => ∃ a, β.ad g = some a ∧ m' = some a
  | .rw cs, ob => ∃ us e lo hi, ob = .cells us e (lo, hi) ∧ 37 * cs.length ≤ us.size ∧ (lo = hi ∨ us.size ≤ lo) ∧ ∀ (i : Nat) (c : aJ), cs[i]? = some c → CoinOk c ∧ ∃ s, wO β s c.x ∧ ∀ (k : Nat) (u : Value), (iH c s)[k]? = some u → us[37 * i + k]? = some u
  | .ro c, ob => ∃ cs e fr, ob = .cells cs e fr ∧ ∀ (i : Nat) (x : CV), c[i]? = some x → ∃ u, cs[i]? = some u ∧ RV β x u
theorem RE.mono {β β' : Names} (hs : Sub β β') : ∀ {es : List (CV × CV × Nat)} {r : List MapEntry}, RE β es r → RE β' es r
  | [], _, h => h
  | _ :: _, _, ⟨x, rs, h1, h2, h3, h4, h5⟩ => ⟨x, rs, h1, h2.mono hs, h3.mono hs, h4, h5.mono hs⟩
theorem RO.mono {β β' : Names} (hs : Sub β β') : ∀ {o : HO} {ob : Obj}, RO β o ob → RO β' o ob
  | .cells _ _ _, _, ⟨cs, lo, hi, h1, h2, h3, h4, h5⟩ => ⟨cs, lo, hi, h1, h2, h3, h4, fun i x hx => by
    obtain ⟨u, k1, k2⟩ := h5 i x hx
    exact ⟨u, k1, k2.mono hs⟩⟩
  | .map _ _, _, ⟨rs, h1, h2⟩ => ⟨rs, h1, h2.mono hs⟩
  | .iter m _ _ _, _, ⟨m', h1, h2⟩ => ⟨m', h1, by
    cases m with
    | none => exact h2
    | some g => obtain ⟨a, k1, k2⟩ := h2; exact ⟨a, (hs.nm _ _ k1).1, k2⟩⟩
  | .rw _, _, ⟨us, e, lo, hi, h1, h2, h3, h4⟩ => ⟨us, e, lo, hi, h1, h2, h3, fun i c hc => by
    obtain ⟨k1, s, k2, k3⟩ := h4 i c hc
    exact ⟨k1, s, k2.mono hs, k3⟩⟩
  | .ro _, _, ⟨cs, e, fr, h1, h2⟩ => ⟨cs, e, fr, h1, fun i x hx => by
    obtain ⟨u, k1, k2⟩ := h2 i x hx
    exact ⟨u, k1, k2.mono hs⟩⟩
theorem wrap_u {k : IntKind} (h : k.signed = false) {p : Int} (hp : (2 ^ k.bits : Int) = p) (n : Int) : k.wrap n = n % p := by
  unfold IntKind.wrap
  rw [hp, h]
  rfl
theorem wrap_s {k : IntKind} (h : k.signed = true) {p q : Int} (hp : (2 ^ k.bits : Int) = p) (hq : (2 ^ (k.bits - 1) : Int) = q) (n : Int) : k.wrap n = if n % p ≥ q then n % p - p else n % p := by
  unfold IntKind.wrap
  rw [hp, hq, h]
  simp only [Bool.true_and, decide_eq_true_eq]
theorem wrap8 (n : Int) : IntKind.u8.wrap n = n % 256 := wrap_u rfl rfl n
theorem wrap16 (n : Int) : IntKind.u16.wrap n = n % 65536 := wrap_u rfl rfl n
theorem wrap32 (n : Int) : IntKind.u32.wrap n = n % 4294967296 := wrap_u rfl rfl n
theorem wrap64 (n : Int) : IntKind.u64.wrap n = n % 18446744073709551616 := wrap_u rfl rfl n
theorem wrapI (n : Int) : IntKind.i64.wrap n = if n % 18446744073709551616 ≥ 9223372036854775808 then n % 18446744073709551616 - 18446744073709551616 else n % 18446744073709551616 := wrap_s rfl rfl rfl n
theorem bZ (k : IntKind) (n : Int) : dP k n = k.wrap n := by
  unfold dP
  cases n with
  | ofNat m =>
    cases k <;> simp only []
    · cases h : Nat.blt m 9223372036854775808 with
      | false => rfl
      | true =>
        have h1 : m < 9223372036854775808 := Nat.blt_eq ▸ h
        simp only []
        rw [wrapI]
        have e : Int.ofNat m = (m : Int) := rfl
        rw [e]
        split <;> omega
    · rw [wrap8]; rfl
    · rw [wrap16]; rfl
    · rw [wrap32]; rfl
    · rw [wrap64]; rfl
  | negSucc m =>
    cases k <;> simp only []
    · cases h : Nat.blt m 9223372036854775808 with
      | false => rfl
      | true =>
        have h1 : m < 9223372036854775808 := Nat.blt_eq ▸ h
        simp only []
        rw [wrapI]
        have e : Int.negSucc m = -(m : Int) - 1 := by omega
        rw [e]
        split <;> omega
    · cases h : Nat.blt m 18446744073709551616 with
      | false => rfl
      | true =>
        have h1 : m < 18446744073709551616 := Nat.blt_eq ▸ h
        simp only []
        rw [wrap64]
        have e : Int.negSucc m = -(m : Int) - 1 := by omega
        rw [e]
        show ((18446744073709551615 - m : Nat) : Int) = _
        omega
theorem pW (k : IntKind) (n : Int) : k.wrap (k.wrap n) = k.wrap n := by
  cases k <;> simp only [IntKind.wrap, IntKind.bits, IntKind.signed] <;> simp <;> (try split) <;> (try split) <;> omega
theorem kR (k : IntKind) (n : Int) : k.wrap (dP k n) = dP k n := by rw [bZ, pW]
theorem lS (k : IntKind) (n : Int) : k.wrap n = n ↔ (if k.signed then -(2 ^ (k.bits - 1) : Int) else 0) ≤ n ∧ n < (if k.signed then (2 ^ (k.bits - 1) : Int) else 2 ^ k.bits) := by
  cases k <;> simp only [IntKind.wrap, IntKind.bits, IntKind.signed] <;> simp <;> (try split) <;> omega
theorem rg_le {k : IntKind} {a b : Int} (h : k.wrap a = a) (h0 : (0 ≤ b ∧ b ≤ a) ∨ (b ≤ 0 ∧ a ≤ b)) : k.wrap b = b := by
  rw [lS] at *
  cases k <;> simp only [IntKind.signed, IntKind.bits] at * <;> simp at * <;> omega
theorem tmod_nat (n : Nat) (b : Int) : 0 ≤ (n : Int).tmod b ∧ (n : Int).tmod b ≤ (n : Int) := by
  cases b with
  | ofNat m => exact ⟨Int.natCast_nonneg _, Int.ofNat_le.2 (Nat.mod_le _ _)⟩
  | negSucc m => exact ⟨Int.natCast_nonneg _, Int.ofNat_le.2 (Nat.mod_le _ _)⟩
theorem tmod_rg {k : IntKind} (a b : Int) (h : k.wrap a = a) : k.wrap (a.tmod b) = a.tmod b := by
  refine rg_le h ?_
  rcases Int.le_total 0 a with q | q
  · obtain ⟨n, rfl⟩ := Int.eq_ofNat_of_zero_le q
    exact Or.inl (tmod_nat n b)
  · obtain ⟨n, hn⟩ := Int.eq_ofNat_of_zero_le (show 0 ≤ -a by omega)
    have e : a = -(n : Int) := by omega
    have := tmod_nat n b
    rw [e, Int.neg_tmod]
    exact Or.inr ⟨by omega, by omega⟩
theorem ediv_np (a : Int) (n : Nat) (hn : 0 < n) (q : a ≤ 0) : a / (n : Int) ≤ 0 ∧ a ≤ a / (n : Int) := by
  have h1 : (n : Int) * (a / (n : Int)) + a % (n : Int) = a := Int.mul_ediv_add_emod a n
  have h2 := Int.emod_nonneg a (show (n : Int) ≠ 0 by omega)
  have h3 := Int.emod_lt_of_pos a (show (0 : Int) < (n : Int) by omega)
  have h4 : a / (n : Int) ≤ 0 := by
    rcases Int.le_total (a / (n : Int)) 0 with c | c
    · exact c
    · by_cases e : a / (n : Int) = 0
      · omega
      · have : (n : Int) * 1 ≤ (n : Int) * (a / (n : Int)) := Int.mul_le_mul_of_nonneg_left (by omega) (by omega)
        omega
  refine ⟨h4, ?_⟩
  by_cases e : a / (n : Int) = 0
  · omega
  · have h5 : ((n : Int) - 1) * (a / (n : Int)) ≤ ((n : Int) - 1) * (-1) := Int.mul_le_mul_of_nonneg_left (by omega) (by omega)
    rw [Int.sub_mul, Int.one_mul] at h5
    omega
theorem fdiv_rg {k : IntKind} (a : Int) (n : Nat) (hn : 0 < n) (h : k.wrap a = a) : k.wrap (a.fdiv (n : Int)) = a.fdiv (n : Int) := by
  refine rg_le h ?_
  rw [Int.fdiv_eq_ediv_of_nonneg _ (Int.natCast_nonneg _)]
  rcases Int.le_total 0 a with q | q
  · exact Or.inl ⟨Int.ediv_nonneg q (Int.natCast_nonneg _), Int.ediv_le_self _ q⟩
  · exact Or.inr (ediv_np a n hn q)
theorem lV (s : Bool) (k : IntKind) (n : Int) : mkI s k n = .int s k n := by
  unfold mkI
  cases s <;> simp only []
  cases n with
  | ofNat m => cases m <;> rfl
  | negSucc m => cases m <;> rfl
theorem mkB_eq (s b : Bool) : mkB s b = .bool s b := by cases s <;> cases b <;> rfl
theorem eQ {k k' : IntKind} (h : Nat.beq (oQ k) (oQ k') = true) : k = k' := by
  cases k <;> cases k' <;> first | rfl | (simp [oQ] at h; done)
section
variable {P : Program} {β : Names}
theorem aF {t : TypeId} {d : TypeDesc} (h : P.underlying t = some d) (w : World) : (underlying t).run P w = .ok d w := by simp [underlying, h]
theorem bP {t : TypeId} {n : Nat} (h : qV P t = some n) (w : World) : (sizeOf t).run P w = .ok n w := by
  unfold qV at h
  try simp only [bW, bD] at h
  rw [Option.map_eq_some_iff] at h
  obtain ⟨i, h1, rfl⟩ := h
  simp [sizeOf, typeInfo, h1]
theorem iF {t : TypeId} {b : Bool} (h : fQ P t = some b) (w : World) : (isAgg t).run P w = .ok b w := by
  unfold fQ at h
  try simp only [bW, bD] at h
  cases hu : P.underlying t with
  | none => rw [hu] at h; simp at h
  | some d =>
    rw [hu] at h
    unfold isAgg
    simp only [Sem.run_bind, aF hu, Result.andThen_ok]
    cases d <;> simp at h <;> subst h <;> rfl
theorem ofV1_ok {v : Value} {c : CV} (h : ofV1 v = some c) : RV β c v := by
  unfold ofV1 at h
  split at h <;> simp at h <;> subst h <;> simp [RV]
theorem xE : ∀ {l : List Value} {cs : List CV}, allV l = some cs → bJ β cs l
  | [], cs, h => by
    simp only [allV, Option.some.injEq] at h
    subst h; rfl
  | v :: r, cs, h => by
    unfold allV at h
    split at h
    · rename_i c hc
      split at h
      · rename_i l hl
        simp only [Option.some.injEq] at h
        subst h
        exact ⟨v, r, rfl, ofV1_ok hc, xE hl⟩
      · simp at h
    · simp at h
theorem ofV_ok {v : Value} {c : CV} (h : ofV v = some c) : RV β c v := by
  unfold ofV at h
  split at h
  · rename_i cs
    rw [Option.map_eq_some_iff] at h
    obtain ⟨l, h1, rfl⟩ := h
    exact ⟨cs, rfl, xE h1⟩
  · rename_i cs
    rw [Option.map_eq_some_iff] at h
    obtain ⟨l, h1, rfl⟩ := h
    exact ⟨cs, rfl, xE h1⟩
  · exact ofV1_ok h
theorem run_zr {t : TypeId} {z : List CV} (h : qO P t = some z) (w : World) : ∃ v, (zeroValue t).run P w = .ok v w ∧ bJ β z v.cells.toList := by
  unfold qO at h
  try simp only [bW, bD] at h
  split at h
  · rename_i i hi
    split at h
    · rename_i v hv
      refine ⟨v, ?_, xE h⟩
      simp [zeroValue, typeInfo, hi, hv]
    · simp at h
  · simp at h
theorem bJ.cells {c : CV} {u : Value} (h : RV β c u) : bJ β (wC c) u.cells.toList := by
  cases c <;> simp only [wC] <;> first
    | (obtain ⟨us, rfl, k⟩ := h; exact k)
    | skip
  all_goals (refine ⟨u, [], ?_, h, rfl⟩)
  all_goals (simp only [RV] at h)
  all_goals first
    | (obtain ⟨_, ⟨_, _, _, rfl⟩, _⟩ := h; rfl)
    | (subst h; rfl)
    | (obtain ⟨_, _, rfl⟩ := h; rfl)
    | (rcases h with ⟨_, _, ⟨_, _, rfl, _⟩ | ⟨_, _, _, _, rfl, _⟩⟩ <;> rfl)
    | (obtain ⟨_, _, _, _, rfl, _⟩ := h; rfl)
    | (obtain ⟨_, _, rfl, _⟩ := h; rfl)
    | (obtain ⟨_, _, _, rfl, _⟩ := h; rfl)
    | (obtain ⟨a, c', _, rfl, _⟩ := h; rfl)
    | (obtain ⟨a, c', _, _, rfl, _⟩ := h; rfl)
    | (obtain ⟨rfl, _⟩ := h; rfl)
    | (obtain ⟨a, _, rfl⟩ := h; rfl)
    | (obtain ⟨a, c', _, rfl, _⟩ := h; rfl)
    | (obtain ⟨a, rfl, _⟩ := h; rfl)
theorem aW {x : Operand} {a : yZ} (h : aX x = some a) {fr : dV} {A : Act} {c : CV} (hG : Gl β) (hF : RF β fr A) (hc : a fr = some c) : RV β c (A.eval x) := by
  cases x with
  | tmp t =>
    simp only [aX, Option.some.injEq] at h
    subst h
    obtain ⟨u, h1, h2⟩ := hF t c hc
    show RV β c (A.tmps.getD t undef)
    rw [Array.getD_eq_getD_getElem?, h1]
    exact h2
  | const v =>
    simp only [aX, Option.map_eq_some_iff] at h
    obtain ⟨d, h1, rfl⟩ := h
    simp only [constA, Option.some.injEq] at hc
    subst hc
    exact ofV_ok h1
  | global g =>
    simp only [aX] at h
    split at h
    · rename_i hb
      simp only [Option.some.injEq] at h
      subst h
      simp only [constA, Option.some.injEq] at hc
      subst hc
      exact ⟨g, hG g (Nat.blt_eq ▸ hb), rfl⟩
    · simp at h
  | func f =>
    simp only [aX, Option.some.injEq] at h
    subst h
    simp only [constA, Option.some.injEq] at hc
    subst hc
    exact ⟨#[], rfl, rfl⟩
theorem cmpL_ok : ∀ {xs : List Operand} {as : List yZ}, cmpL xs = some as → ∀ {fr : dV} {A : Act} {cs : List CV}, Gl β → RF β fr A → evL fr as = some cs → bJ β cs (xs.map A.eval)
  | [], as, h, fr, A, cs, _, _, hc => by
    simp only [cmpL, Option.some.injEq] at h
    subst h
    simp only [evL, Option.some.injEq] at hc
    subst hc; rfl
  | x :: r, as, h, fr, A, cs, hG, hF, hc => by
    unfold cmpL at h
    split at h
    · rename_i a l ha hl
      simp only [Option.some.injEq] at h
      subst h
      unfold evL at hc
      split at hc
      · rename_i c hc1
        split at hc
        · rename_i l' hl'
          simp only [Option.some.injEq] at hc
          subst hc
          exact ⟨_, _, rfl, aW ha hG hF hc1, cmpL_ok hl hG hF hl'⟩
        · simp at hc
      · simp at hc
    · simp at h
def fE (P : Program) (s : Sem Next) (β : Names) (nx : Nat) : PR → Prop
  | .no => True
  | .v c => ∀ w, ∃ u, s.run P w = .ok (.value u) w ∧ RV β c u
  | .ck b c => b = true → ∀ w, ∃ u, s.run P w = .ok (.value u) w ∧ RV β c u
  | .w c ob => ∀ w β', Sub β β' → β'.ad nx = some w.heap.size → ∃ u rob, s.run P w = .ok (.value u) { w with heap := w.heap.push rob } ∧ RV β' c u ∧ RO β' ob rob
theorem oV {f : CV → PR} {x : Operand} {g : PF} (h : c1 f (aX x) = some g) {fr : dV} {A : Act} {nx : Nat} {s : Sem Next} (hG : Gl β) (hF : RF β fr A)
    (hs : ∀ c, RV β c (A.eval x) → fE P s β nx (f c)) : fE P s β nx (g fr nx) := by
  cases ha : aX x with
  | none => rw [ha] at h; simp [c1] at h
  | some a =>
    rw [ha] at h
    simp only [c1, Option.some.injEq] at h
    subst h
    unfold x1
    cases hc : a fr with
    | none => trivial
    | some c => exact hs c (aW ha hG hF hc)
theorem c2_ok {f : CV → CV → PR} {x y : Operand} {g : PF} (h : c2 f (aX x) (aX y) = some g) {fr : dV} {A : Act} {nx : Nat} {s : Sem Next} (hG : Gl β) (hF : RF β fr A)
    (hs : ∀ c d, RV β c (A.eval x) → RV β d (A.eval y) → fE P s β nx (f c d)) : fE P s β nx (g fr nx) := by
  cases ha : aX x with
  | none => rw [ha] at h; simp [c2] at h
  | some a =>
    cases hb : aX y with
    | none => rw [ha, hb] at h; simp [c2] at h
    | some b =>
      rw [ha, hb] at h
      simp only [c2, Option.some.injEq] at h
      subst h
      unfold x2
      cases hc : a fr with
      | none => trivial
      | some c =>
        cases hd : b fr with
        | none => trivial
        | some d => exact hs c d (aW ha hG hF hc) (aW hb hG hF hd)
end
section
variable {P : Program} {β : Names} {nx : Nat}
def binS (op : BinOp) (t : TypeId) (x y : Operand) (u v : Value) : Sem Next := do pure (.value (← (do eqGuard op t x y u v; binOp op t u v)))
theorem nP {op : BinOp} {t : TypeId} {x y : Operand} {u v r : Value} {w : World} (hg : (eqGuard op t x y u v).run P w = .ok () w) (hb : (binOp op t u v).run P w = .ok r w) : (binS op t x y u v).run P w = .ok (.value r) w := by
  unfold binS
  simp [hg, hb]
theorem ofLt {a b : Nat} (h : Nat.blt a b = true) : a < b := Nat.blt_eq ▸ h
theorem dK {a b : Nat} (h : Nat.ble a b = true) : a ≤ b := Nat.le_of_ble_eq_true h
theorem rH {g : IntKind → Int → Int → Int} (hw : ∀ k a b, k.wrap (g k a b) = g k a b) {op : BinOp} {t : TypeId} {x y : Operand} (hg : ∀ u v w, (eqGuard op t x y u v).run P w = .ok () w) (hb : ∀ k a b w, (binOp op t (.int k a) (.int k b)).run P w = .ok (.int k (g k a b)) w) {c d : CV} {u v : Value} (hc : RV β c u) (hd : RV β d v) : fE P (binS op t x y u v) β nx (fInt g c d) := by
  unfold fInt
  split
  · rename_i s k a s' k' b
    split
    · rename_i hk
      obtain rfl := eQ hk
      simp only [RV] at hc hd
      have rhc := hc
      try replace hc := hc.1
      have rhd := hd
      try replace hd := hd.1
      subst hc hd
      intro w
      exact ⟨_, nP (hg _ _ w) (hb k a b w), by rw [lV]; exact ⟨rfl, fun _ => hw k a b⟩⟩
    · trivial
  · trivial
theorem gJ {s : Bool} {k : IntKind} {n : Int} (h : wX s k n = true) (hs : s = true → k.wrap n = n) : k.wrap n = n := by
  cases s with
  | true => exact hs rfl
  | false => exact eq_of_beq h
theorem fDiv_ok {g : IntKind → Int → Int → Int} (hw : ∀ k a b, k.wrap a = a → k.wrap (g k a b) = g k a b) {op : BinOp} {t : TypeId} {x y : Operand} (hg : ∀ u v w, (eqGuard op t x y u v).run P w = .ok () w) (hb : ∀ k a b w, b ≠ 0 → (binOp op t (.int k a) (.int k b)).run P w = .ok (.int k (g k a b)) w) {c d : CV} {u v : Value} (hc : RV β c u) (hd : RV β d v) : fE P (binS op t x y u v) β nx (fDiv g c d) := by
  unfold fDiv
  split
  · rename_i s k a k' b
    split
    · rename_i hk
      obtain rfl := eQ hk
      simp only [RV] at hc hd
      have rhc := hc
      try replace hc := hc.1
      have rhd := hd
      try replace hd := hd.1
      subst hc hd
      split
      · trivial
      · rename_i hn
        intro w
        exact ⟨_, nP (hg _ _ w) (hb k a b w (fun e => hn (by rw [e]; rfl))), by rw [lV]; exact ⟨rfl, fun q => hw k a b (rhc.2 q)⟩⟩
    · trivial
  · rename_i s k a k' b
    split
    · rename_i hk
      rw [Bool.and_eq_true] at hk
      obtain rfl := eQ hk.1
      intro hn
      obtain ⟨rfl, ha⟩ := hc
      obtain ⟨rfl, _⟩ := hd
      exact fun w => ⟨_, nP (hg _ _ w) (hb k a b w (of_decide_eq_true hn)), rfl, fun _ => hw k a b (gJ hk.2 ha)⟩
    · trivial
  · trivial
theorem fSh_ok {g : IntKind → Int → Nat → Int} (hw : ∀ k a n, k.wrap a = a → k.wrap (g k a n) = g k a n) {op : BinOp} {t : TypeId} {x y : Operand} (hg : ∀ u v w, (eqGuard op t x y u v).run P w = .ok () w) (hb : ∀ k k' a (b : Nat) w, (binOp op t (.int k a) (.int k' (.ofNat b))).run P w = .ok (.int k (g k a b)) w) {c d : CV} {u v : Value} (hc : RV β c u) (hd : RV β d v) : fE P (binS op t x y u v) β nx (fSh g c d) := by
  unfold fSh
  split
  · simp only [RV] at hc hd
    have rhc := hc
    try replace hc := hc.1
    have rhd := hd
    try replace hd := hd.1
    subst hc hd
    intro w
    exact ⟨_, nP (hg _ _ w) (hb _ _ _ _ w), by rw [lV]; exact ⟨rfl, fun q => hw _ _ _ (rhc.2 q)⟩⟩
  · trivial
theorem fCmp_ok {g : Int → Int → Bool} {op : BinOp} {t : TypeId} {x y : Operand} (hg : ∀ k k' a b w, (eqGuard op t x y (.int k a) (.int k' b)).run P w = .ok () w) (hb : ∀ k a b w, (binOp op t (.int k a) (.int k b)).run P w = .ok (.bool (g a b)) w) {c d : CV} {u v : Value} (hc : RV β c u) (hd : RV β d v) : fE P (binS op t x y u v) β nx (fCmp g c d) := by
  unfold fCmp
  split
  · rename_i s k a s' k' b
    split
    · rename_i hk
      obtain rfl := eQ hk
      simp only [RV] at hc hd
      have rhc := hc
      try replace hc := hc.1
      have rhd := hd
      try replace hd := hd.1
      subst hc hd
      intro w
      exact ⟨_, nP (hg _ _ _ _ w) (hb k a b w), by rw [mkB_eq]; rfl⟩
    · trivial
  · trivial
theorem iT {op : BinOp} (h : (match op with | .eql => true | .neq => true | _ => false) = false) (t : TypeId) (x y : Operand) (u v : Value) (w : World) : (eqGuard op t x y u v).run P w = .ok () w := by
  unfold eqGuard
  cases op <;> first | (simp at h; done) | rfl
theorem qA (op : BinOp) (t : TypeId) (x y : Operand) (k k' : IntKind) (a b : Int) (w : World) : (eqGuard op t x y (.int k a) (.int k' b)).run P w = .ok () w := by
  unfold eqGuard
  cases op <;> rfl
theorem bin_add (t : TypeId) (k : IntKind) (a b : Int) (w : World) : (binOp .add t (.int k a) (.int k b)).run P w = .ok (.int k (eX k a b)) w := by simp [binOp, Op.intArith, eX, bZ]
theorem bin_sub (t : TypeId) (k : IntKind) (a b : Int) (w : World) : (binOp .sub t (.int k a) (.int k b)).run P w = .ok (.int k (gSub k a b)) w := by simp [binOp, Op.intArith, gSub, bZ]
theorem bin_mul (t : TypeId) (k : IntKind) (a b : Int) (w : World) : (binOp .mul t (.int k a) (.int k b)).run P w = .ok (.int k (gMul k a b)) w := by simp [binOp, Op.intArith, gMul, bZ]
theorem bin_quo (t : TypeId) (k : IntKind) (a b : Int) (w : World) (hb : b ≠ 0) : (binOp .quo t (.int k a) (.int k b)).run P w = .ok (.int k (gQuo k a b)) w := by simp [binOp, Op.intDiv, gQuo, bZ, hb]
theorem bin_rem (t : TypeId) (k : IntKind) (a b : Int) (w : World) (hb : b ≠ 0) : (binOp .rem t (.int k a) (.int k b)).run P w = .ok (.int k (qE k a b)) w := by simp [binOp, Op.intDiv, qE, hb]
theorem bin_and (t : TypeId) (k : IntKind) (a b : Int) (w : World) : (binOp .and t (.int k a) (.int k b)).run P w = .ok (.int k (gAnd k a b)) w := by simp [binOp, Op.intBits, gAnd, bZ]
theorem bin_or (t : TypeId) (k : IntKind) (a b : Int) (w : World) : (binOp .or t (.int k a) (.int k b)).run P w = .ok (.int k (gOr k a b)) w := by simp [binOp, Op.intBits, gOr, bZ]
theorem bin_xor (t : TypeId) (k : IntKind) (a b : Int) (w : World) : (binOp .xor t (.int k a) (.int k b)).run P w = .ok (.int k (gXor k a b)) w := by simp [binOp, Op.intBits, gXor, bZ]
theorem bin_andNot (t : TypeId) (k : IntKind) (a b : Int) (w : World) : (binOp .andNot t (.int k a) (.int k b)).run P w = .ok (.int k (gAndNot k a b)) w := by simp [binOp, Op.intBits, gAndNot, bZ]
theorem bin_shl (t : TypeId) (k k' : IntKind) (a : Int) (b : Nat) (w : World) : (binOp .shl t (.int k a) (.int k' (.ofNat b))).run P w = .ok (.int k (gShl k a b)) w := by
  have h : ¬ ((b : Int) < 0) := by omega
  simp [binOp, Op.shift, gShl, bZ, h]
theorem bin_shr (t : TypeId) (k k' : IntKind) (a : Int) (b : Nat) (w : World) : (binOp .shr t (.int k a) (.int k' (.ofNat b))).run P w = .ok (.int k (gShr k a b)) w := by
  have h : ¬ ((b : Int) < 0) := by omega
  simp [binOp, Op.shift, gShr, h]
theorem bin_lss (t : TypeId) (k : IntKind) (a b : Int) (w : World) : (binOp .lss t (.int k a) (.int k b)).run P w = .ok (.bool (gLss a b)) w := by simp [binOp, Op.intCmp, gLss]
theorem bin_leq (t : TypeId) (k : IntKind) (a b : Int) (w : World) : (binOp .leq t (.int k a) (.int k b)).run P w = .ok (.bool (gLeq a b)) w := by simp [binOp, Op.intCmp, gLeq]
theorem bin_gtr (t : TypeId) (k : IntKind) (a b : Int) (w : World) : (binOp .gtr t (.int k a) (.int k b)).run P w = .ok (.bool (gGtr a b)) w := by simp [binOp, Op.intCmp, gGtr]
theorem bin_geq (t : TypeId) (k : IntKind) (a b : Int) (w : World) : (binOp .geq t (.int k a) (.int k b)).run P w = .ok (.bool (gGeq a b)) w := by simp [binOp, Op.intCmp, gGeq]
theorem bin_eql (t : TypeId) (k : IntKind) (a b : Int) (w : World) : (binOp .eql t (.int k a) (.int k b)).run P w = .ok (.bool (a == b)) w := by simp [binOp, Op.intCmp]
theorem bin_neq (t : TypeId) (k : IntKind) (a b : Int) (w : World) : (binOp .neq t (.int k a) (.int k b)).run P w = .ok (.bool (!(a == b))) w := by simp [binOp, Op.intCmp, bne]
end
section
variable {P : Program} {β : Names} {nx : Nat}
theorem iY {t : TypeId} {l m : List Nat} (h : sized P t l = some m) : m = l ∧ qV P t = some l.length := by
  unfold sized at h
  try simp only [bW, bD] at h
  split at h
  · rename_i n hn
    split at h
    · rename_i hb
      simp only [Option.some.injEq] at h
      exact ⟨h.symm, by rw [hn, Nat.eq_of_beq_eq_true hb]⟩
    · simp at h
  · simp at h
theorem eqL_app : ∀ {ts : List Nat} {x y : List CV} {ts' : List Nat} {x' y' : List CV} {s e : Bool}, x.length = ts.length → y.length = ts.length → eqL (ts ++ ts') (x ++ x') (y ++ y') = some (s, e) →
    ∃ s1 e1, eqL ts x y = some (s1, e1) ∧ (e1 = true → ∃ s2, eqL ts' x' y' = some (s2, e)) ∧ (e1 = false → e = false)
  | [], [], [], ts', x', y', s, e, _, _, h => ⟨false, true, rfl, fun _ => ⟨s, h⟩, fun h => by simp at h⟩
  | t :: ts, a :: x, b :: y, ts', x', y', s, e, hx, hy, h => by
    simp only [List.cons_append, eqL] at h ⊢
    cases h1 : eq1 t a b with
    | none => rw [h1] at h; simp at h
    | some r =>
      obtain ⟨s0, e0⟩ := r
      rw [h1] at h
      simp only at h ⊢
      cases s0 with
      | false =>
        cases e0 with
        | false =>
          simp only [Option.some.injEq, Prod.mk.injEq] at h
          exact ⟨false, false, rfl, fun h => by simp at h, fun _ => h.2.symm⟩
        | true => exact eqL_app (by simpa using hx) (by simpa using hy) h
      | true =>
        simp only at h
        cases h2 : eqL (ts ++ ts') (x ++ x') (y ++ y') with
        | none => rw [h2] at h; simp at h
        | some r =>
          obtain ⟨s2, f⟩ := r
          rw [h2] at h
          simp only [Option.some.injEq, Prod.mk.injEq] at h
          obtain ⟨s1, e1, k1, k2, k3⟩ := eqL_app (by simpa using hx) (by simpa using hy) h2
          rw [k1]
          refine ⟨true, e0 && e1, rfl, fun hh => ?_, fun hh => ?_⟩
          · simp only [Bool.and_eq_true] at hh
            obtain ⟨s3, k4⟩ := k2 hh.2
            exact ⟨s3, by rw [← h.2, hh.1, Bool.true_and]; exact k4⟩
          · rw [← h.2]
            cases he0 : e0 with
            | false => rfl
            | true =>
              rw [he0, Bool.true_and] at hh
              rw [k3 hh]; rfl
  | [], _ :: _, _, _, _, _, _, _, hx, _, _ => by simp at hx
  | [], [], _ :: _, _, _, _, _, _, _, hy, _ => by simp at hy
  | _ :: _, [], _, _, _, _, _, _, hx, _, _ => by simp at hx
  | _ :: _, _ :: _, [], _, _, _, _, _, _, hy, _ => by simp at hy
theorem eqL_one {t : Nat} {a b : CV} {s e : Bool} (h : eqL [t] [a] [b] = some (s, e)) : ∃ s', eq1 t a b = some (s', e) := by
  simp only [eqL] at h
  cases h1 : eq1 t a b with
  | none => rw [h1] at h; simp at h
  | some r =>
    obtain ⟨s0, e0⟩ := r
    rw [h1] at h
    cases s0 <;> cases e0 <;> simp at h <;> exact ⟨_, by rw [← h.2]⟩
theorem wV {l : List CV} {us : Array Value} (h : bJ β l us.toList) (o n : Nat) : bJ β (cut l o n) (us.extract o (o + n)).toList := by
  rw [Array.toList_extract, List.extract_eq_take_drop, Nat.add_sub_cancel_left]
  exact (h.drop o).take n
theorem jH {l : List CV} {o n : Nat} (h : o + n ≤ l.length) : (cut l o n).length = n := by
  unfold cut; simp; omega
theorem cut_cut {l : List CV} {o n a m : Nat} (h : a + m ≤ n) : cut (cut l o n) a m = cut l (o + a) m := by
  unfold cut
  rw [List.drop_take, List.drop_drop, List.take_take, Nat.min_eq_left (by omega)]
theorem uB {l : List CV} {o n m : Nat} : cut l o (n + m) = cut l o n ++ cut l (o + n) m := by
  unfold cut
  rw [List.take_add, List.drop_drop]
def Cw (P : Program) (t : TypeId) (ts : List Nat) (D : Nat) : Prop := ∀ (β : Names) (l m : List CV) (xs ys : Array Value) (o : Nat) (s e : Bool) (w : World), bJ β l xs.toList → bJ β m ys.toList → o + ts.length ≤ l.length → o + ts.length ≤ m.length →
  eqL ts (cut l o ts.length) (cut m o ts.length) = some (s, e) → ∃ a b, (part t xs o).run P w = .ok a w ∧ (part t ys o).run P w = .ok b w ∧ (Op.equalIn D t a b).run P w = .ok e w
theorem one_ok {t : TypeId} {g : Nat} (hag : fQ P t = some false) (hs : ∀ a b u v s e D w, RV β a u → RV β b v → eq1 g a b = some (s, e) → (Op.equalIn (D + 1) t u v).run P w = .ok e w) {D : Nat} {l m : List CV} {xs ys : Array Value} {o : Nat} {s e : Bool} {w : World}
    (hl : bJ β l xs.toList) (hm : bJ β m ys.toList) (h1 : o + 1 ≤ l.length) (h2 : o + 1 ≤ m.length) (he : eqL [g] (cut l o 1) (cut m o 1) = some (s, e)) : ∃ a b, (part t xs o).run P w = .ok a w ∧ (part t ys o).run P w = .ok b w ∧ (Op.equalIn (D + 1) t a b).run P w = .ok e w := by
  have c1 : cut l o 1 = [l[o]'(by omega)] := by
    unfold cut
    rw [List.drop_eq_getElem_cons (by omega)]; rfl
  have c2 : cut m o 1 = [m[o]'(by omega)] := by
    unfold cut
    rw [List.drop_eq_getElem_cons (by omega)]; rfl
  rw [c1, c2] at he
  obtain ⟨s', he'⟩ := eqL_one he
  obtain ⟨u, hu, ru⟩ := hl.get (List.getElem?_eq_getElem (show o < l.length by omega))
  obtain ⟨v, hv, rv⟩ := hm.get (List.getElem?_eq_getElem (show o < m.length by omega))
  refine ⟨u, v, ?_, ?_, hs _ _ _ _ _ _ _ _ ru rv he'⟩
  · simp only [part, Sem.run_bind, iF hag, Result.andThen_ok, Bool.false_eq_true, if_false]
    rw [show xs[o]? = some u by rw [← Array.getElem?_toList]; exact hu]; rfl
  · simp only [part, Sem.run_bind, iF hag, Result.andThen_ok, Bool.false_eq_true, if_false]
    rw [show ys[o]? = some v by rw [← Array.getElem?_toList]; exact hv]; rfl
theorem eq1_int {t : TypeId} {k : IntKind} (ht : P.underlying t = some (.int k)) {a b : CV} {u v : Value} {s e : Bool} {D : Nat} {w : World} (ha : RV β a u) (hb : RV β b v) (h : eq1 2 a b = some (s, e)) : (Op.equalIn (D + 1) t u v).run P w = .ok e w := by
  simp only [eq1] at h
  split at h
  · split at h
    · rename_i hk
      obtain rfl := eQ hk
      simp only [Option.some.injEq, Prod.mk.injEq] at h
      simp only [RV] at ha hb
      have rha := ha
      try replace ha := ha.1
      have rhb := hb
      try replace hb := hb.1
      subst ha hb
      rw [run_equalIn_int w D t _ _ _ _ ht, h.2]
    · simp at h
  · simp at h
theorem eq1_bool {t : TypeId} (ht : P.underlying t = some .bool) {a b : CV} {u v : Value} {s e : Bool} {D : Nat} {w : World} (ha : RV β a u) (hb : RV β b v) (h : eq1 0 a b = some (s, e)) : (Op.equalIn (D + 1) t u v).run P w = .ok e w := by
  simp only [eq1] at h
  split at h
  · simp only [Option.some.injEq, Prod.mk.injEq] at h
    simp only [RV] at ha hb
    have rha := ha
    try replace ha := ha.1
    have rhb := hb
    try replace hb := hb.1
    subst ha hb
    rw [run_equalIn_bool' w D t _ _ ht, h.2]
  · simp at h
theorem st_eq : ∀ {x y : List Int}, (∀ z ∈ x, 0 ≤ z ∧ z < 256) → (∀ z ∈ y, 0 ≤ z ∧ z < 256) → (x.map fun z => UInt8.ofNat z.toNat) = (y.map fun z => UInt8.ofNat z.toNat) → x = y
  | [], [], _, _, _ => rfl
  | [], _ :: _, _, _, h => by simp at h
  | _ :: _, [], _, _, h => by simp at h
  | a :: x, b :: y, hx, hy, h => by
    simp only [List.map_cons, List.cons.injEq] at h
    have h1 := hx a (by simp)
    have h2 := hy b (by simp)
    have e := congrArg UInt8.toNat h.1
    rw [UInt8.toNat_ofNat', UInt8.toNat_ofNat', Nat.mod_eq_of_lt (by omega), Nat.mod_eq_of_lt (by omega)] at e
    rw [show a = b by omega, st_eq (fun z hz => hx z (by simp [hz])) (fun z hz => hy z (by simp [hz])) h.2]
theorem st_beq {x y : List Int} (hx : ∀ z ∈ x, 0 ≤ z ∧ z < 256) (hy : ∀ z ∈ y, 0 ≤ z ∧ z < 256) : ((ByteArray.mk (x.map fun z => UInt8.ofNat z.toNat).toArray).toList == (ByteArray.mk (y.map fun z => UInt8.ofNat z.toNat).toArray).toList) = (x == y) := by
  by_cases h : x = y
  · subst h; simp
  · have : ¬ (ByteArray.mk (x.map fun z => UInt8.ofNat z.toNat).toArray).toList = (ByteArray.mk (y.map fun z => UInt8.ofNat z.toNat).toArray).toList := fun e => h (st_eq hx hy (by simpa [ByteArray.toList_eq] using e))
    rw [beq_eq_false_iff_ne.2 this, beq_eq_false_iff_ne.2 h]
theorem eq1_str {t : TypeId} (ht : P.underlying t = some .string) {a b : CV} {u v : Value} {s e : Bool} {D : Nat} {w : World} (ha : RV β a u) (hb : RV β b v) (h : eq1 1 a b = some (s, e)) : (Op.equalIn (D + 1) t u v).run P w = .ok e w := by
  simp only [eq1] at h
  split at h
  · simp only [Option.some.injEq, Prod.mk.injEq] at h
    simp only [RV] at ha hb
    have rha := ha
    try replace ha := ha.1
    have rhb := hb
    try replace hb := hb.1
    subst ha hb
    rw [run_equalIn_string w D t _ _ ht, h.2]
  · simp only [Option.some.injEq, Prod.mk.injEq] at h
    obtain ⟨rfl, ha⟩ := ha
    obtain ⟨rfl, hb⟩ := hb
    rw [run_equalIn_string w D t _ _ ht, ← h.2, st_beq ha hb]
  · simp at h
theorem fields_ok {d D : Nat} {cw : TypeId → Option (List Nat)} (ih : ∀ t ts, cw t = some ts → Cw P t ts D) : ∀ (fs : List Field) (acc : Nat) (ts : List Nat) (l m : List CV) (xs ys : Array Value) (s e : Bool) (w : World), cover cw fs acc = some ts →
    bJ β l xs.toList → bJ β m ys.toList → acc + ts.length = l.length → acc + ts.length = m.length → eqL ts (cut l acc ts.length) (cut m acc ts.length) = some (s, e) → (Op.eqFields D xs ys fs).run P w = .ok e w
  | [], acc, ts, l, m, xs, ys, s, e, w, hc, hl, hm, h1, h2, he => by
    simp only [cover, Option.some.injEq] at hc
    subst hc
    simp [cut, eqL] at he
    simp [Op.eqFields, he.2]
  | f :: fs, acc, ts, l, m, xs, ys, s, e, w, hc, hl, hm, h1, h2, he => by
    unfold cover at hc
    split at hc
    · rename_i tf hn hf
      split at hc
      · rename_i tr hr
        simp only [Option.some.injEq] at hc
        subst hc
        simp only [Bool.and_eq_true, bne_iff_ne, ne_eq] at hn
        have ho := Nat.eq_of_beq_eq_true hn.2
        simp only [List.length_append] at h1 h2 he
        rw [uB, uB] at he
        obtain ⟨s1, e1, k1, k2, k3⟩ := eqL_app (by rw [jH (by omega)]) (by rw [jH (by omega)]) he
        obtain ⟨a, b, r1, r2, r3⟩ := ih _ _ hf β l m xs ys acc s1 e1 w hl hm (by omega) (by omega) k1
        rw [← ho] at r1 r2
        simp only [Op.eqFields]
        rw [if_pos hn.1]
        simp only [Sem.run_bind, r1, r2, r3, Result.andThen_ok]
        cases e1 with
        | true =>
          simp only [Bool.not_true, Bool.false_eq_true, if_false]
          obtain ⟨s2, k4⟩ := k2 rfl
          exact fields_ok (d := d) ih fs (acc + tf.length) tr l m xs ys s2 e w hr hl hm (by omega) (by omega) k4
        | false =>
          simp only [Bool.not_false, if_true, k3 rfl, Sem.run_pure]
      · simp at hc
    · simp at hc
theorem pX (l : List Nat) : ∀ n, (xY n l).length = n * l.length
  | 0 => by simp [xY]
  | n + 1 => by simp [xY, pX l n, Nat.succ_mul, Nat.add_comm]
theorem items_ok {D : Nat} {t : TypeId} {ts : List Nat} (ih : Cw P t ts D) : ∀ (n i : Nat) (l m : List CV) (xs ys : Array Value) (s e : Bool) (w : World),
    bJ β l xs.toList → bJ β m ys.toList → (i + n) * ts.length ≤ l.length → (i + n) * ts.length ≤ m.length → eqL (xY n ts) (cut l (i * ts.length) (n * ts.length)) (cut m (i * ts.length) (n * ts.length)) = some (s, e) → (Op.eqItems D t ts.length xs ys (List.range' i n)).run P w = .ok e w
  | 0, i, l, m, xs, ys, s, e, w, hl, hm, h1, h2, he => by
    simp [cut, eqL, xY] at he
    simp [Op.eqItems, he.2]
  | n + 1, i, l, m, xs, ys, s, e, w, hl, hm, h1, h2, he => by
    have hx : (i + (n + 1)) * ts.length = i * ts.length + ts.length + n * ts.length := by rw [Nat.add_mul, Nat.succ_mul]; omega
    have hy : (i + 1) * ts.length = i * ts.length + ts.length := Nat.succ_mul _ _
    rw [hx] at h1 h2
    rw [show (n + 1) * ts.length = ts.length + n * ts.length by rw [Nat.succ_mul]; omega, uB, uB] at he
    simp only [xY] at he
    obtain ⟨s1, e1, k1, k2, k3⟩ := eqL_app (by rw [jH (by omega)]) (by rw [jH (by omega)]) he
    obtain ⟨a, b, r1, r2, r3⟩ := ih β l m xs ys _ s1 e1 w hl hm (by omega) (by omega) k1
    rw [List.range'_succ]
    simp only [Op.eqItems, Sem.run_bind, r1, r2, r3, Result.andThen_ok]
    cases e1 with
    | true =>
      simp only [Bool.not_true, Bool.false_eq_true, if_false]
      obtain ⟨s2, k4⟩ := k2 rfl
      rw [← hy] at k4
      exact items_ok ih n (i + 1) l m xs ys s2 e w hl hm (by rw [show i + 1 + n = i + (n + 1) by omega, hx]; omega) (by rw [show i + 1 + n = i + (n + 1) by omega, hx]; omega) k4
    | false =>
      simp only [Bool.not_false, if_true, k3 rfl, Sem.run_pure]
theorem oZ : ∀ {d : Nat} {t : TypeId} {ts : List Nat}, cZ P d t = some ts → qV P t = some ts.length
  | 0, t, ts, h => by simp [cZ] at h
  | d + 1, t, ts, h => by
    unfold cZ at h
    try simp only [bW, bD] at h
    split at h <;> (try split at h) <;> first | (obtain ⟨rfl, k⟩ := iY h; exact k) | (simp at h; done)
theorem tN : ∀ {d : Nat} {t : TypeId} {ts : List Nat}, cZ P d t = some ts → ∀ D : Nat, d ≤ D → Cw P t ts D
  | 0, t, ts, h => by simp [cZ] at h
  | d + 1, t, ts, h => by
    intro D hD
    obtain ⟨D, rfl⟩ : ∃ n, D = n + 1 := ⟨D - 1, by omega⟩
    unfold cZ at h
    try simp only [bW, bD] at h
    split at h
    · rename_i hu
      obtain ⟨rfl, hz⟩ := iY h
      intro β l m xs ys o s e w hl hm h1 h2 he
      exact one_ok (g := 0) (by unfold fQ; rw [bD, hu]) (fun a b u v s e D w ha hb hq => eq1_bool hu ha hb hq) hl hm h1 h2 he
    · rename_i hu
      obtain ⟨rfl, hz⟩ := iY h
      intro β l m xs ys o s e w hl hm h1 h2 he
      exact one_ok (g := 1) (by unfold fQ; rw [bD, hu]) (fun a b u v s e D w ha hb hq => eq1_str hu ha hb hq) hl hm h1 h2 he
    · rename_i k hu
      obtain ⟨rfl, hz⟩ := iY h
      intro β l m xs ys o s e w hl hm h1 h2 he
      exact one_ok (g := 2) (by unfold fQ; rw [bD, hu]) (fun a b u v s e D w ha hb hq => eq1_int hu ha hb hq) hl hm h1 h2 he
    · rename_i fs hu
      split at h
      · rename_i tc hp hc
        obtain ⟨rfl, hz⟩ := iY h
        intro β l m xs ys o s e w hl hm h1 h2 he
        have hag : fQ P t = some true := by unfold fQ; rw [bD, hu]
        have hft : P.fieldsOf t = fs := by unfold Program.fieldsOf; rw [hu]
        refine ⟨.agg (xs.extract o (o + ts.length)), .agg (ys.extract o (o + ts.length)), ?_, ?_, ?_⟩
        · simp only [part, Sem.run_bind, iF hag, Result.andThen_ok, if_true, bP hz, Sem.run_pure]
        · simp only [part, Sem.run_bind, iF hag, Result.andThen_ok, if_true, bP hz, Sem.run_pure]
        · rw [run_equalIn_struct w D t _ _ (by rw [hft]; exact hu) hp, hft]
          refine fields_ok (d := d) (fun t' ts' h' => tN h' _ (by omega)) fs.toList 0 ts (cut l o ts.length) (cut m o ts.length) _ _ s e w hc (wV hl _ _) (wV hm _ _) (by rw [jH h1]; omega) (by rw [jH h2]; omega) ?_
          rw [cut_cut (by omega), cut_cut (by omega)]
          exact he
      · simp at h
    · rename_i n el hu
      split at h
      · rename_i te hte
        obtain ⟨rfl, hz⟩ := iY h
        intro β l m xs ys o s e w hl hm h1 h2 he
        have hag : fQ P t = some true := by unfold fQ; rw [bD, hu]
        have hze := oZ hte
        have hi : ∃ i, P.info? el = some i ∧ P.cellsOf el = te.length := by
          unfold qV at hze
          try simp only [bW, bD] at hze
          rw [Option.map_eq_some_iff] at hze
          obtain ⟨i, hi, hs⟩ := hze
          exact ⟨i, hi, by unfold Program.cellsOf; rw [hi]; exact hs⟩
        obtain ⟨i, hi, hce⟩ := hi
        refine ⟨.agg (xs.extract o (o + (xY n te).length)), .agg (ys.extract o (o + (xY n te).length)), ?_, ?_, ?_⟩
        · simp only [part, Sem.run_bind, iF hag, Result.andThen_ok, if_true, bP hz, Sem.run_pure]
        · simp only [part, Sem.run_bind, iF hag, Result.andThen_ok, if_true, bP hz, Sem.run_pure]
        · rw [run_equalIn_array w D _ _ hu hi, hce, List.range_eq_range']
          refine items_ok (tN hte _ (by omega)) n 0 (cut l o (xY n te).length) (cut m o (xY n te).length) _ _ s e w (wV hl _ _) (wV hm _ _) (by rw [jH h1, pX, Nat.zero_add]; exact Nat.le_refl _) (by rw [jH h2, pX, Nat.zero_add]; exact Nat.le_refl _) ?_
          rw [pX, cut_cut (by omega), cut_cut (by omega), Nat.zero_mul, Nat.add_zero, ← pX]
          exact he
      · simp at h
    · simp at h
end
section
variable {P : Program} {β : Names} {nx : Nat}
structure EqOk (P : Program) (t : TypeId) (u v : Value) (e : Bool) : Prop where
  eql : ∀ w, (binOp .eql t u v).run P w = .ok (.bool e) w
  neq : ∀ w, (binOp .neq t u v).run P w = .ok (.bool (!e)) w
  grd : ∀ op x y w, (eqGuard op t x y u v).run P w = .ok () w
  equ : ∀ w, (Op.equal t u v).run P w = .ok e w
theorem o8 {t : TypeId} {u v : Value} {e : Bool} (h : ∀ w, (Op.equal t u v).run P w = .ok e w) (h1 : binOp .eql t u v = do pure (.bool (← Op.equal t u v))) (h2 : binOp .neq t u v = do pure (.bool (!(← Op.equal t u v)))) (hg : ∀ op x y w, (eqGuard op t x y u v).run P w = .ok () w) : EqOk P t u v e :=
  ⟨fun w => by rw [h1]; simp [h w], fun w => by rw [h2]; simp [h w], hg, h⟩
theorem agg_ok {t : TypeId} {ts : List Nat} (hag : fQ P t = some true) (hc : cZ P 20 t = some ts) (hg : P.eqGuardType P.depth t = false) {c d : CV} {u v : Value} {s e : Bool} (ha : RV β c u) (hb : RV β d v) (h : eqAgg ts c d = some (s, e)) : EqOk P t u v e := by
  unfold eqAgg at h
  split at h
  · rename_i x y
    split at h
    · rename_i hl
      rw [Bool.and_eq_true] at hl
      have l1 := Nat.eq_of_beq_eq_true hl.1
      have l2 := Nat.eq_of_beq_eq_true hl.2
      obtain ⟨xs, rfl, rx⟩ := ha
      obtain ⟨ys, rfl, ry⟩ := hb
      refine o8 (fun w => ?_) rfl rfl (fun op x y w => run_eqGuard_agg w op t x y xs ys hg)
      have e1 : cut x 0 ts.length = x := by unfold cut; rw [List.drop_zero, ← l1, List.take_length]
      have e2 : cut y 0 ts.length = y := by unfold cut; rw [List.drop_zero, ← l2, List.take_length]
      obtain ⟨a, b, r1, r2, r3⟩ := tN hc 10000 (by omega) β x y xs ys 0 s e w rx ry (by omega) (by omega) (by rw [e1, e2]; exact h)
      have hz := oZ hc
      simp only [part, Sem.run_bind, iF hag, Result.andThen_ok, if_true, bP hz, Sem.run_pure, Nat.zero_add] at r1 r2
      have s1 : xs.extract 0 ts.length = xs := by rw [← l1, ← rx.len, Array.length_toList, Array.extract_size]
      have s2 : ys.extract 0 ts.length = ys := by rw [← l2, ← ry.len, Array.length_toList, Array.extract_size]
      rw [s1] at r1
      rw [s2] at r2
      obtain rfl := (Result.ok.inj r1).1
      obtain rfl := (Result.ok.inj r2).1
      exact r3
    · simp at h
  · simp at h
theorem q_bool {t : TypeId} {c d : CV} {u v : Value} {s e : Bool} (hu : P.underlying t = some .bool) (ha : RV β c u) (hb : RV β d v) (h : eq1 0 c d = some (s, e)) : EqOk P t u v e := by
  have h0 := h
  simp only [eq1] at h
  split at h
  · refine o8 (fun w => eq1_bool hu ha hb h0) ?_ ?_ (fun op x y w => ?_) <;> (simp only [RV] at ha hb; subst ha hb) <;> first | rfl | (cases op <;> rfl)
  · simp at h
theorem q_str {t : TypeId} {c d : CV} {u v : Value} {s e : Bool} (hu : P.underlying t = some .string) (ha : RV β c u) (hb : RV β d v) (h : eq1 1 c d = some (s, e)) : EqOk P t u v e := by
  have h0 := h
  simp only [eq1] at h
  split at h
  · have k := fun w => eq1_str (D := 9999) (w := w) hu ha hb h0
    simp only [RV] at ha hb
    have rha := ha
    try replace ha := ha.1
    have rhb := hb
    try replace hb := hb.1
    subst ha hb
    simp only [Option.some.injEq, Prod.mk.injEq] at h
    refine ⟨fun w => ?_, fun w => ?_, fun op x y w => ?_, k⟩
    · simp [binOp, Op.stringOp, h.2]
    · simp [binOp, Op.stringOp, h.2]
    · cases op <;> rfl
  · have k := fun w => eq1_str (D := 9999) (w := w) hu ha hb h0
    simp only [Option.some.injEq, Prod.mk.injEq] at h
    obtain ⟨rfl, ha⟩ := ha
    obtain ⟨rfl, hb⟩ := hb
    have e := st_beq ha hb
    refine ⟨fun w => ?_, fun w => ?_, fun op x y w => ?_, k⟩
    · simp [binOp, Op.stringOp, ← h.2, ← e]
    · simp [binOp, Op.stringOp, ← h.2, ← e]
    · cases op <;> rfl
  · simp at h
theorem q_int {t : TypeId} {k : IntKind} {c d : CV} {u v : Value} {s e : Bool} (hu : P.underlying t = some (.int k)) (ha : RV β c u) (hb : RV β d v) (h : eq1 2 c d = some (s, e)) : EqOk P t u v e := by
  have h0 := h
  simp only [eq1] at h
  split at h
  · split at h
    · rename_i hk
      obtain rfl := eQ hk
      have k := fun w => eq1_int (D := 9999) (w := w) hu ha hb h0
      simp only [RV] at ha hb
      have rha := ha
      try replace ha := ha.1
      have rhb := hb
      try replace hb := hb.1
      subst ha hb
      simp only [Option.some.injEq, Prod.mk.injEq] at h
      refine ⟨fun w => ?_, fun w => ?_, fun op x y w => qA op t x y _ _ _ _ w, k⟩
      · rw [bin_eql, h.2]
      · rw [bin_neq, h.2]
    · simp at h
  · simp at h
theorem in_nils {t el : TypeId} (hu : P.underlying t = some (.slice el)) (D : Nat) (b : Option Addr) (n c : Nat) (w : World) : (Op.equalIn (D + 1) t (.slice none 0 0) (.slice b n c)).run P w = .ok b.isNone w := by
  cases b <;> simp [Op.equalIn, aF hu]
theorem in_nils' {t el : TypeId} (hu : P.underlying t = some (.slice el)) (D : Nat) (b : Addr) (n c : Nat) (w : World) : (Op.equalIn (D + 1) t (.slice (some b) n c) (.slice none 0 0)).run P w = .ok false w := by
  simp [Op.equalIn, aF hu]
theorem in_nilp {t el : TypeId} (hu : P.underlying t = some (.pointer el)) (D : Nat) (b : Option Addr) (w : World) : (Op.equalIn (D + 1) t (.pointer none) (.pointer b)).run P w = .ok b.isNone w := by
  cases b <;> simp [Op.equalIn, aF hu]
theorem in_nilp' {t el : TypeId} (hu : P.underlying t = some (.pointer el)) (D : Nat) (b : Addr) (w : World) : (Op.equalIn (D + 1) t (.pointer (some b)) (.pointer none)).run P w = .ok false w := by
  simp [Op.equalIn, aF hu]
theorem q_nils {t el : TypeId} {c d : CV} {u v : Value} {s e : Bool} (hu : P.underlying t = some (.slice el)) (ha : RV β c u) (hb : RV β d v) (h : eqNilS c d = some (s, e)) : EqOk P t u v e := by
  unfold eqNilS at h
  split at h <;> simp only [Option.some.injEq, Prod.mk.injEq, reduceCtorEq] at h <;> obtain ⟨_, rfl⟩ := h
  · simp only [RV] at ha hb
    have rha := ha
    try replace ha := ha.1
    have rhb := hb
    try replace hb := hb.1
    subst ha hb
    refine o8 (fun w => ?_) rfl rfl (fun op x y w => by cases op <;> rfl)
    exact in_nils hu 9999 none 0 0 w
  · simp only [RV] at ha
    obtain ⟨b, c', _, rfl, _⟩ := hb
    subst ha
    refine o8 (fun w => ?_) rfl rfl (fun op x y w => by cases op <;> rfl)
    exact in_nils hu 9999 _ _ _ w
  · simp only [RV] at hb
    obtain ⟨b, c', _, rfl, _⟩ := ha
    subst hb
    refine o8 (fun w => ?_) rfl rfl (fun op x y w => by cases op <;> rfl)
    exact in_nils' hu 9999 _ _ _ w
theorem q_nilp {t el : TypeId} {c d : CV} {u v : Value} {s e : Bool} (hu : P.underlying t = some (.pointer el)) (ha : RV β c u) (hb : RV β d v) (h : eqNilP c d = some (s, e)) : EqOk P t u v e := by
  unfold eqNilP at h
  split at h <;> simp only [Option.some.injEq, Prod.mk.injEq, reduceCtorEq] at h <;> obtain ⟨_, rfl⟩ := h
  · simp only [RV] at ha hb
    have rha := ha
    try replace ha := ha.1
    have rhb := hb
    try replace hb := hb.1
    subst ha hb
    refine o8 (fun w => ?_) rfl rfl (fun op x y w => by cases op <;> rfl)
    exact in_nilp hu 9999 none w
  · simp only [RV] at ha
    obtain ⟨b, _, rfl⟩ := hb
    subst ha
    refine o8 (fun w => ?_) rfl rfl (fun op x y w => by cases op <;> rfl)
    exact in_nilp hu 9999 _ w
  · simp only [RV] at hb
    obtain ⟨b, _, rfl⟩ := ha
    subst hb
    refine o8 (fun w => ?_) rfl rfl (fun op x y w => by cases op <;> rfl)
    exact in_nilp' hu 9999 _ w
theorem cmpQ_ok {t : TypeId} {c d : CV} {u v : Value} {s e : Bool} (ha : RV β c u) (hb : RV β d v) (h : tC P t c d = some (s, e)) : EqOk P t u v e := by
  unfold tC at h
  try simp only [bW, bD] at h
  cases hu : P.underlying t with
  | none => rw [hu] at h; simp [eqNo] at h
  | some ty =>
    rw [hu] at h
    cases ty with
    | bool => exact q_bool hu ha hb h
    | string => exact q_str hu ha hb h
    | int k => exact q_int hu ha hb h
    | slice el => exact q_nils hu ha hb h
    | pointer el => exact q_nilp hu ha hb h
    | struct fs =>
      simp only [] at h
      cases hc : cZ P 20 t with
      | none => rw [hc] at h; simp [eqNo] at h
      | some l =>
        cases hg : P.eqGuardType P.depth t with
        | true => rw [hc, hg] at h; simp [eqNo] at h
        | false => rw [hc, hg] at h; exact agg_ok (by unfold fQ; rw [bD, hu]) hc hg ha hb h
    | array n el =>
      simp only [] at h
      cases hc : cZ P 20 t with
      | none => rw [hc] at h; simp [eqNo] at h
      | some l =>
        cases hg : P.eqGuardType P.depth t with
        | true => rw [hc, hg] at h; simp [eqNo] at h
        | false => rw [hc, hg] at h; exact agg_ok (by unfold fQ; rw [bD, hu]) hc hg ha hb h
    | _ => simp [eqNo] at h
theorem fEq_ok {t : TypeId} {x y : Operand} {c d : CV} {u v : Value} (ha : RV β c u) (hb : RV β d v) : fE P (binS .eql t x y u v) β nx (fEq (tC P t) c d) := by
  unfold fEq
  cases h : tC P t c d with
  | none => trivial
  | some r =>
    have k := cmpQ_ok ha hb h
    intro w
    exact ⟨_, nP (k.grd _ x y w) (k.eql w), by rw [mkB_eq]; rfl⟩
theorem fNeq_ok {t : TypeId} {x y : Operand} {c d : CV} {u v : Value} (ha : RV β c u) (hb : RV β d v) : fE P (binS .neq t x y u v) β nx (fNeq (tC P t) c d) := by
  unfold fNeq
  cases h : tC P t c d with
  | none => trivial
  | some r =>
    have k := cmpQ_ok ha hb h
    intro w
    exact ⟨_, nP (k.grd _ x y w) (k.neq w), by rw [mkB_eq]; rfl⟩
theorem cmpBin_ok {op : BinOp} {t : TypeId} {x y : Operand} {g : PF} (h : cmpBin P op t (aX x) (aX y) = some g) {fr : dV} {A : Act} (hG : Gl β) (hF : RF β fr A) : fE P (binS op t x y (A.eval x) (A.eval y)) β nx (g fr nx) := by
  cases op <;> simp only [cmpBin] at h <;> refine c2_ok h hG hF (fun c d hc hd => ?_)
  · exact rH (fun k _ _ => kR k _) (iT rfl t x y) (bin_add t) hc hd
  · exact rH (fun k _ _ => kR k _) (iT rfl t x y) (bin_sub t) hc hd
  · exact rH (fun k _ _ => kR k _) (iT rfl t x y) (bin_mul t) hc hd
  · exact fDiv_ok (fun k _ _ _ => kR k _) (iT rfl t x y) (bin_quo t) hc hd
  · exact fDiv_ok (fun _ a b h => tmod_rg a b h) (iT rfl t x y) (bin_rem t) hc hd
  · exact rH (fun k _ _ => kR k _) (iT rfl t x y) (bin_and t) hc hd
  · exact rH (fun k _ _ => kR k _) (iT rfl t x y) (bin_or t) hc hd
  · exact rH (fun k _ _ => kR k _) (iT rfl t x y) (bin_xor t) hc hd
  · exact fSh_ok (fun k _ _ _ => kR k _) (iT rfl t x y) (bin_shl t) hc hd
  · exact fSh_ok (fun _ a _ h => fdiv_rg a _ (Nat.pow_pos (by decide)) h) (iT rfl t x y) (bin_shr t) hc hd
  · exact rH (fun k _ _ => kR k _) (iT rfl t x y) (bin_andNot t) hc hd
  · exact fEq_ok hc hd
  · exact fNeq_ok hc hd
  · exact fCmp_ok (fun k k' a b w => qA _ t x y k k' a b w) (bin_lss t) hc hd
  · exact fCmp_ok (fun k k' a b w => qA _ t x y k k' a b w) (bin_leq t) hc hd
  · exact fCmp_ok (fun k k' a b w => qA _ t x y k k' a b w) (bin_gtr t) hc hd
  · exact fCmp_ok (fun k k' a b w => qA _ t x y k k' a b w) (bin_geq t) hc hd
def vS (s : Sem Value) : Sem Next := do pure (.value (← s))
theorem dH {s : Sem Value} {u : Value} {w w' : World} (h : s.run P w = .ok u w') : (vS s).run P w = .ok (.value u) w' := by unfold vS; simp [h]
theorem gI {s : Sem Value} {c : CV} {u : Value} (h : ∀ w, s.run P w = .ok u w) (hc : RV β c u) : fE P (vS s) β nx (.v c) := fun w => ⟨u, dH (h w), hc⟩
theorem bY (g o n : Nat) : (⟨g, o, none⟩ : Addr).add n = ⟨g, o + n, none⟩ := by
  unfold Addr.add
  split
  · rename_i h; rw [h, Nat.add_zero]
  · rfl
theorem fFa_ok {s : TypeId} {fs : Array Field} {f : Nat} {fd : Field} {n : Nat} (hu : P.underlying s = some (.struct fs)) (hf : fs.toList[f]? = some fd) (hz : qV P fd.type = some (n + 1)) {c : CV} {u : Value} (hc : RV β c u) : fE P (vS (Instr.fieldAt s u f)) β nx (fFa fd.offset c) := by
  unfold fFa
  split
  · obtain ⟨a, ha, rfl⟩ := hc
    refine gI (fun w => ?_) ⟨a, ha, rfl⟩
    rw [Array.getElem?_toList] at hf
    simp [Instr.fieldAt, aF hu, hf, Instr.sureAddr, fieldPlace, bP hz, bY]
  · obtain ⟨a, ha, rfl⟩ := hc
    refine gI (fun w => ?_) ⟨a, ha, rfl⟩
    rw [Array.getElem?_toList] at hf
    simp [Instr.fieldAt, aF hu, hf, Instr.sureAddr, fieldPlace, bP hz, bY, Nat.add_assoc]
  · obtain ⟨a, us, rfl, h1, h2⟩ := hc
    refine gI (fun w => ?_) ⟨a, us, rfl, h1, h2⟩
    rw [Array.getElem?_toList] at hf
    simp [Instr.fieldAt, aF hu, hf, Instr.sureAddr, fieldPlace, bP hz, bY]
  · obtain ⟨h0, a, us, rfl, h1, h2⟩ := hc
    refine gI (fun w => ?_) ⟨h0, a, us, rfl, h1, h2⟩
    rw [Array.getElem?_toList] at hf
    simp [Instr.fieldAt, aF hu, hf, Instr.sureAddr, fieldPlace, bP hz, bY, Nat.add_right_comm]
  · obtain ⟨k1, k2, a, us, rfl, h1, h2⟩ := hc
    refine gI (fun w => ?_) ⟨k1, k2, a, us, rfl, h1, h2⟩
    rw [Array.getElem?_toList] at hf
    simp [Instr.fieldAt, aF hu, hf, Instr.sureAddr, fieldPlace, bP hz, bY, Nat.add_assoc]
  · trivial
theorem partF_ok {ag : Bool} {t : TypeId} {n off : Nat} {l : List CV} {us : Array Value} (hag : fQ P t = some ag) (hz : qV P t = some n) (hl : bJ β l us.toList) : fE P (vS (part t us off)) β nx (partF ag n off l) := by
  unfold partF
  cases ag with
  | true =>
    simp only []
    cases hb : Nat.ble (off + n) l.length with
    | false => trivial
    | true => exact gI (fun w => by simp [part, iF hag, bP hz]) ⟨_, rfl, wV hl off n⟩
  | false =>
    simp only []
    cases hc : l[off]? with
    | none => trivial
    | some c =>
      obtain ⟨u, h1, h2⟩ := hl.get hc
      rw [Array.getElem?_toList] at h1
      exact gI (fun w => by simp [part, iF hag, h1]) h2
theorem fFl_ok {t : TypeId} {fs : Array Field} {f : Nat} {fd : Field} {ag : Bool} {n : Nat} (hu : P.underlying t = some (.struct fs)) (hf : fs.toList[f]? = some fd) (hag : fQ P fd.type = some ag) (hz : qV P fd.type = some n) {c : CV} {u : Value} (hc : RV β c u) : fE P (vS (Instr.field t u f)) β nx (fFl ag n fd.offset c) := by
  unfold fFl
  split
  · obtain ⟨us, rfl, hl⟩ := hc
    have k := partF_ok (nx := nx) (off := fd.offset) hag hz hl
    rw [Array.getElem?_toList] at hf
    have e : ∀ w, (vS (Instr.field t (.agg us) f)).run P w = (vS (part fd.type us fd.offset)).run P w := fun w => by
      simp [vS, Instr.field, aF hu, hf, asAgg]
    revert k
    generalize partF ag n fd.offset _ = r
    intro k
    cases r with
    | no => trivial
    | v c => exact fun w => by rw [e w]; exact k w
    | ck b c => exact fun hb w => by rw [e w]; exact k hb w
    | w c o => exact fun w => by rw [e w]; exact k w
  · trivial
theorem fIa_ok {t e : TypeId} {n s : Nat} (hu : P.underlying t = some (.array n e)) (hz : qV P e = some s) {c d : CV} {u v : Value} (hc : RV β c u) (hd : RV β d v) : fE P (vS (Instr.indexAt t u v)) β nx (fIa n s c d) := by
  unfold fIa
  split
  · rename_i g o k i
    split
    · rename_i hb
      have hi := ofLt hb
      obtain ⟨a, ha, rfl⟩ := hc
      simp only [RV] at hd
      have rhd := hd
      try replace hd := hd.1
      subst hd
      refine gI (fun w => ?_) ⟨a, ha, rfl⟩
      have h1 : (0 : Int) ≤ (i : Int) ∧ (i : Int) < (n : Int) := by omega
      simp [Instr.indexAt, asIntOf, aF hu, Instr.sureAddr, h1, bP hz, bY]
      intro hh; omega
    · trivial
  · trivial
theorem ckN_ok {p : Sem Next} {f b : Bool} {c : CV} (h : fE P p β nx (.ck b c)) : fE P p β nx (ckN f b c) := by
  cases f
  · cases b
    · trivial
    · exact h rfl
  · exact h
theorem fIs_ok {t e : TypeId} {s : Nat} (hu : P.underlying t = some (.slice e)) (hz : qV P e = some s) {c d : CV} {u v : Value} (hc : RV β c u) (hd : RV β d v) : fE P (vS (Instr.indexAt t u v)) β nx (fIs s c d) := by
  unfold fIs
  split
  · rename_i g o n cp lo k i
    split
    · rename_i hb
      have hi := ofLt hb
      obtain ⟨a, c', ha, rfl, _⟩ := hc
      simp only [RV] at hd
      have rhd := hd
      try replace hd := hd.1
      subst hd
      refine gI (fun w => ?_) ⟨a, ha, rfl⟩
      have h1 : (0 : Int) ≤ (i : Int) ∧ (i : Int) < (n : Int) := by omega
      simp [Instr.indexAt, asIntOf, aF hu, h1, bP hz, bY]
      intro hh; omega
    · trivial
  · rename_i g o n cp ex _ k x
    split
    · rename_i hs
      obtain rfl := Nat.eq_of_beq_eq_true hs
      intro hb
      simp only [Bool.and_eq_true, decide_eq_true_eq] at hb
      obtain ⟨a, c', off, ha, rfl, hle, _, _, _, hoff⟩ := hc
      obtain ⟨rfl, _⟩ := hd
      obtain ⟨i, rfl⟩ := Int.eq_ofNat_of_zero_le hb.1
      have hoff : off = 37 * o := hoff.resolve_left (by omega)
      subst hoff
      refine gI (nx := nx) (fun w => ?_) ⟨a, ha, rfl⟩
      have h1 : (0 : Int) ≤ (i : Int) ∧ (i : Int) < (n : Int) := hb
      simp [Instr.indexAt, asIntOf, aF hu, h1, bP hz, bY]
      rw [if_pos (by omega), show 37 * o + i * 37 = 37 * (o + i) by omega]
    · trivial
  · rename_i l o n k i
    split
    · rename_i hb
      have hi := ofLt hb
      obtain ⟨a, off, c', us, rfl, h1, h2, h3, h4⟩ := hc
      simp only [RV] at hd
      have rhd := hd
      try replace hd := hd.1
      subst hd
      obtain rfl : off = o := h2.resolve_left (by omega)
      refine gI (fun w => ?_) ⟨a, us, rfl, h3, h4⟩
      have h1 : (0 : Int) ≤ (i : Int) ∧ (i : Int) < (n : Int) := by omega
      simp [Instr.indexAt, asIntOf, aF hu, h1, bP hz, bY]
      intro hh; omega
    · trivial
  · rename_i l o n k x
    intro hb
    simp only [Bool.and_eq_true, decide_eq_true_eq] at hb
    obtain ⟨a, off, c', us, rfl, h1, h2, h3, h4⟩ := hc
    obtain ⟨rfl, _⟩ := hd
    obtain ⟨i, rfl⟩ := Int.eq_ofNat_of_zero_le hb.1
    obtain rfl : off = o := h2.resolve_left (by omega)
    refine gI (nx := nx) (fun w => ?_) ⟨hb.1, hb.2, a, us, rfl, h3, h4⟩
    have h1 : (0 : Int) ≤ (i : Int) ∧ (i : Int) < (n : Int) := hb
    simp [Instr.indexAt, asIntOf, aF hu, h1, bP hz, bY]
    intro hh; omega
  · rename_i r o n uu _ k x
    split
    · rename_i hs
      obtain rfl := Nat.eq_of_beq_eq_true hs
      refine ckN_ok ?_
      intro hb
      simp only [Bool.and_eq_true, decide_eq_true_eq] at hb
      obtain ⟨rfl, _⟩ := hd
      obtain ⟨i, rfl⟩ := Int.eq_ofNat_of_zero_le hb.1
      obtain ⟨h0, _, ⟨_, _, _, rfl⟩ | ⟨a, off, c', us, rfl, h1, h2, h3, h4⟩⟩ := hc
      · omega
      have hoff : off = r.s * o + r.b := h2.resolve_left (by omega)
      subst hoff
      refine gI (nx := nx) (fun w => ?_) ⟨by show o + Int.toNat ↑i < _; omega, a, us, rfl, h3, h4⟩
      have h1 : (0 : Int) ≤ (i : Int) ∧ (i : Int) < (n : Int) := hb
      simp [Instr.indexAt, asIntOf, aF hu, h1, bP hz, bY]
      rw [if_pos (by omega), Nat.mul_add, Nat.mul_comm i, Nat.add_right_comm]
    · trivial
  · trivial
theorem fIv_ok {t e : TypeId} {n s : Nat} {ag : Bool} (hu : P.underlying t = some (.array n e)) (hag : fQ P e = some ag) (hz : qV P e = some s) {c d : CV} {u v : Value} (hc : RV β c u) (hd : RV β d v) : fE P (vS (Instr.index t u v)) β nx (fIv ag n s c d) := by
  unfold fIv
  split
  · rename_i l k i
    split
    · rename_i hb
      have hi := ofLt hb
      obtain ⟨us, rfl, hl⟩ := hc
      simp only [RV] at hd
      have rhd := hd
      try replace hd := hd.1
      subst hd
      have q := partF_ok (nx := nx) (off := i * s) hag hz hl
      have h1 : (0 : Int) ≤ (i : Int) ∧ (i : Int) < (n : Int) := by omega
      have e1 : ∀ w, (vS (Instr.index t (.agg us) (.int k (.ofNat i)))).run P w = (vS (part e us (i * s))).run P w := fun w => by
        simp [vS, Instr.index, asIntOf, aF hu, h1, bP hz]
        intro hh; omega
      revert q
      generalize partF ag s (i * s) l = r
      intro q
      cases r with
      | no => trivial
      | v c => exact fun w => by rw [e1 w]; exact q w
      | ck b c => exact fun hb w => by rw [e1 w]; exact q hb w
      | w c o => exact fun w => by rw [e1 w]; exact q w
    · trivial
  · trivial
theorem fEx_ok {i : Nat} {c : CV} {u : Value} (hc : RV β c u) : fE P (vS (Instr.extract u i)) β nx (fEx i c) := by
  unfold fEx
  split
  · rename_i l
    obtain ⟨us, rfl, hl⟩ := hc
    cases hq : l[i]? with
    | none => trivial
    | some x =>
      obtain ⟨v, h1, h2⟩ := hl.get hq
      rw [Array.getElem?_toList] at h1
      exact gI (fun w => by simp [Instr.extract, h1]) h2
  · trivial
theorem fNot_ok {c : CV} {u : Value} (hc : RV β c u) : fE P (vS (Op.unary .not u)) β nx (fNot c) := by
  unfold fNot
  split
  · simp only [RV] at hc
    have rhc := hc
    try replace hc := hc.1
    subst hc
    rw [mkB_eq]
    exact gI (fun w => rfl) rfl
  · trivial
theorem fNeg_ok {c : CV} {u : Value} (hc : RV β c u) : fE P (vS (Op.unary .neg u)) β nx (fNeg c) := by
  unfold fNeg
  split
  · simp only [RV] at hc
    have rhc := hc
    try replace hc := hc.1
    subst hc
    exact gI (fun w => by simp only [Op.unary, Op.intArith, Sem.run_pure]; rfl) (by rw [lV, bZ]; exact ⟨rfl, fun _ => pW _ _⟩)
  · trivial
theorem fInv_ok {c : CV} {u : Value} (hc : RV β c u) : fE P (vS (Op.unary .xor u)) β nx (fInv c) := by
  unfold fInv
  split
  · simp only [RV] at hc
    have rhc := hc
    try replace hc := hc.1
    subst hc
    exact gI (fun w => by simp only [Op.unary, Op.intBits, Sem.run_pure]; rfl) (by rw [lV, bZ]; exact ⟨rfl, fun _ => pW _ _⟩)
  · trivial
end
section
variable {P : Program} {β : Names} {nx : Nat}
theorem uA {α : Type} (l x : List α) (o i : Nat) (h : o + x.length ≤ l.length) : (l.take o ++ x ++ l.drop (o + x.length))[i]? = if i < o then l[i]? else if i < o + x.length then x[i - o]? else l[i]? := by
  have ht : (l.take o).length = o := by rw [List.length_take]; omega
  by_cases h1 : i < o
  · rw [if_pos h1, List.append_assoc, List.getElem?_append_left (by omega), List.getElem?_take_of_lt h1]
  · rw [if_neg h1]
    by_cases h2 : i < o + x.length
    · rw [if_pos h2, List.append_assoc, List.getElem?_append_right (by omega), ht, List.getElem?_append_left (by omega)]
    · rw [if_neg h2, List.getElem?_append_right (by rw [List.length_append, ht]; omega), List.length_append, ht, List.getElem?_drop]
      congr 1; omega
theorem lK {α : Type} (l x : List α) (o : Nat) (h : o + x.length ≤ l.length) : (l.take o ++ x ++ l.drop (o + x.length)).length = l.length := by
  simp only [List.length_append, List.length_take, List.length_drop]; omega
theorem spl_ok {l x : List CV} {us vs : List Value} {o : Nat} (hl : bJ β l us) (hx : bJ β x vs) (h : o + x.length ≤ l.length) : bJ β (spl l o x) (us.take o ++ vs ++ us.drop (o + vs.length)) := by
  unfold spl
  rw [hx.len]
  exact ((hl.take o).append hx).append (hl.drop _)
theorem fold_set (xs : List Value) : ∀ (k off : Nat) (cells : Array Value), off + k + xs.length ≤ cells.size →
    ((xs.zipIdx k).foldl (fun (cs : Array Value) (p : Value × Nat) => cs.setIfInBounds (off + p.2) p.1) cells).toList = cells.toList.take (off + k) ++ xs ++ cells.toList.drop (off + k + xs.length) := by
  induction xs with
  | nil => intro k off cells h; simp
  | cons v r ih =>
    intro k off cells h
    simp only [List.zipIdx_cons, List.foldl_cons, List.length_cons] at h ⊢
    rw [ih (k + 1) off _ (by rw [Array.size_setIfInBounds]; omega)]
    have hs : (cells.setIfInBounds (off + k) v).toList.length = cells.size := by rw [Array.length_toList, Array.size_setIfInBounds]
    apply List.ext_getElem?
    intro i
    rw [uA _ _ _ _ (by omega)]
    have e := uA cells.toList (v :: r) (off + k) i (by have : cells.toList.length = cells.size := Array.length_toList; simp only [List.length_cons]; omega)
    simp only [List.length_cons] at e
    rw [e, Array.toList_setIfInBounds, List.getElem?_set]
    have hsz : cells.toList.length = cells.size := Array.length_toList
    by_cases h1 : i < off + k
    · rw [if_pos (by omega), if_neg (by omega), if_pos h1]
    · rw [if_neg h1]
      by_cases h2 : i = off + k
      · subst h2
        rw [if_pos (by omega), if_pos rfl, if_pos (by omega), if_pos (by omega), Nat.sub_self]; rfl
      · rw [if_neg (by omega)]
        by_cases h3 : i < off + k + (r.length + 1)
        · rw [if_pos (by omega), if_pos h3]
          obtain ⟨j, rfl⟩ : ∃ j, i = off + k + j + 1 := ⟨i - (off + k) - 1, by omega⟩
          rw [show off + k + j + 1 - (off + (k + 1)) = j by omega, show off + k + j + 1 - (off + k) = j + 1 by omega]; rfl
        · rw [if_neg (by omega), if_neg (by omega), if_neg h3]
theorem fold_arr (xs : Array Value) (off : Nat) (cells : Array Value) (h : off + xs.size ≤ cells.size) :
    (xs.zipIdx.foldl (fun (cs : Array Value) (p : Value × Nat) => cs.setIfInBounds (off + p.2) p.1) cells).toList = cells.toList.take off ++ xs.toList ++ cells.toList.drop (off + xs.size) := by
  have e := fold_set xs.toList 0 off cells (by simpa using h)
  rw [← Array.foldl_toList, Array.toList_zipIdx, e]
  simp
theorem xG {place : Nat → Option (Nat × Nat)} {fr : dV} {A : Act} : ∀ {parts : List (Nat × Operand)} {ps : List (Nat × Nat × yZ)} {z l : List CV} {cells : Array Value},
    bJ β z cells.toList → fillC fr z ps = some l →
    (ps.length = parts.length ∧ ∀ (k : Nat) (i : Nat) (x : Operand), parts[k]? = some (i, x) → ∃ p a, place i = some p ∧ ps[k]? = some (p.1, p.2, a) ∧ ∀ c, a fr = some c → RV β c (A.eval x)) →
    ∃ cs, Instr.fill place cells (parts.map fun p => (p.1, A.eval p.2)) = some cs ∧ bJ β l cs.toList
  | [], ps, z, l, cells, hz, hf, hp => by
    have : ps = [] := List.eq_nil_of_length_eq_zero hp.1
    subst this
    simp only [fillC, Option.some.injEq] at hf
    subst hf
    exact ⟨cells, rfl, hz⟩
  | (i, x) :: r, ps, z, l, cells, hz, hf, hp => by
    obtain ⟨p, a, h1, h2, h3⟩ := hp.2 0 i x rfl
    obtain ⟨ps, rfl⟩ : ∃ q, ps = (p.1, p.2, a) :: q := by
      cases ps with
      | nil => simp at h2
      | cons q ps => simp at h2; exact ⟨ps, by rw [h2]⟩
    unfold fillC at hf
    split at hf
    · rename_i c hc
      split at hf
      · rename_i hb
        rw [Bool.and_eq_true] at hb
        have b1 := Nat.eq_of_beq_eq_true hb.1
        have b2 := dK hb.2
        have rc := bJ.cells (h3 c hc)
        have s1 : (A.eval x).cells.size = p.2 := by rw [← Array.length_toList, rc.len, b1]
        have s2 : cells.size = z.length := by rw [← Array.length_toList, hz.len]
        obtain ⟨cs, k1, k2⟩ := xG (parts := r) (ps := ps) (z := spl z p.1 (wC c)) (cells := (A.eval x).cells.zipIdx.foldl (fun (cs : Array Value) (q : Value × Nat) => cs.setIfInBounds (p.1 + q.2) q.1) cells) (by
            rw [fold_arr _ _ _ (by omega)]
            have := spl_ok (o := p.1) hz rc (by omega)
            rw [Array.length_toList] at this
            exact this) hf ⟨by simpa using hp.1, fun k i' x' hk => by
            obtain ⟨p', a', q1, q2, q3⟩ := hp.2 (k + 1) i' x' (by simpa using hk)
            exact ⟨p', a', q1, by simpa using q2, q3⟩⟩
        refine ⟨cs, ?_, k2⟩
        simp only [List.map_cons, Instr.fill, h1]
        rw [if_neg (by rw [s1, s2]; simp; omega)]
        exact k1
      · simp at hf
    · simp at hf
end
section
variable {P : Program} {β : Names} {nx : Nat}
theorem plAll_get : ∀ {fs : List Field} {pl : List (Nat × Nat)}, plAll P fs = some pl → ∀ (w : World), (fs.mapM fun f => do pure (f.offset, ← sizeOf f.type) : Sem (List (Nat × Nat))).run P w = .ok pl w
  | [], pl, h, w => by
    simp only [plAll, Option.some.injEq] at h
    subst h; rfl
  | f :: r, pl, h, w => by
    unfold plAll at h
    try simp only [bW, bD] at h
    split at h
    · rename_i n l hn hl
      simp only [Option.some.injEq] at h
      subst h
      rw [List.mapM_cons]
      simp only [Sem.run_bind, bP hn w, Result.andThen_ok, Sem.run_pure, plAll_get hl w]
    · simp at h
theorem places_ok {pl : List (Nat × Nat)} {fr : dV} {A : Act} (hG : Gl β) (hF : RF β fr A) : ∀ {parts : List (Nat × Operand)} {ps : List (Nat × Nat × yZ)}, places pl parts = some ps →
    (ps.length = parts.length ∧ ∀ (k : Nat) (i : Nat) (x : Operand), parts[k]? = some (i, x) → ∃ p a, pl[i]? = some p ∧ ps[k]? = some (p.1, p.2, a) ∧ ∀ c, a fr = some c → RV β c (A.eval x))
  | [], ps, h => by
    simp only [places, Option.some.injEq] at h
    subst h; exact ⟨rfl, fun k i x hk => by simp at hk⟩
  | (i, x) :: r, ps, h => by
    unfold places at h
    split at h
    · rename_i p a l hp ha hl
      simp only [Option.some.injEq] at h
      subst h
      obtain ⟨q1, q2⟩ := places_ok hG hF hl
      refine ⟨by simp [q1], fun k i' x' hk => ?_⟩
      cases k with
      | zero =>
        simp only [List.getElem?_cons_zero, Option.some.injEq, Prod.mk.injEq] at hk
        obtain ⟨rfl, rfl⟩ := hk
        exact ⟨p, a, hp, rfl, fun c hc => aW ha hG hF hc⟩
      | succ k =>
        obtain ⟨p', a', h1, h2, h3⟩ := q2 k i' x' (by simpa using hk)
        exact ⟨p', a', h1, by simpa using h2, h3⟩
    · simp at h
theorem qY {n : Nat} {fr : dV} {A : Act} (hG : Gl β) (hF : RF β fr A) : ∀ {parts : List (Nat × Operand)} {ps : List (Nat × Nat × yZ)}, uC n parts = some ps →
    (ps.length = parts.length ∧ ∀ (k : Nat) (i : Nat) (x : Operand), parts[k]? = some (i, x) → ∃ p a, (fun i => some (i * n, n)) i = some p ∧ ps[k]? = some (p.1, p.2, a) ∧ ∀ c, a fr = some c → RV β c (A.eval x))
  | [], ps, h => by
    simp only [uC, Option.some.injEq] at h
    subst h; exact ⟨rfl, fun k i x hk => by simp at hk⟩
  | (i, x) :: r, ps, h => by
    unfold uC at h
    split at h
    · rename_i a l ha hl
      simp only [Option.some.injEq] at h
      subst h
      obtain ⟨q1, q2⟩ := qY hG hF hl
      refine ⟨by simp [q1], fun k i' x' hk => ?_⟩
      cases k with
      | zero =>
        simp only [List.getElem?_cons_zero, Option.some.injEq, Prod.mk.injEq] at hk
        obtain ⟨rfl, rfl⟩ := hk
        exact ⟨(i * n, n), a, rfl, rfl, fun c hc => aW ha hG hF hc⟩
      | succ k =>
        obtain ⟨p', a', h1, h2, h3⟩ := q2 k i' x' (by simpa using hk)
        exact ⟨p', a', h1, by simpa using h2, h3⟩
    · simp at h
theorem arr_map (parts : Array (Nat × Operand)) (f : Operand → Value) : (parts.map fun (i, x) => (i, f x)).toList = parts.toList.map fun p => (p.1, f p.2) := by simp
theorem mapM_arr {α γ : Type} (fs : Array α) (f : α → Sem γ) (l : List γ) (w : World) (h : (fs.toList.mapM f).run P w = .ok l w) : (fs.mapM f).run P w = .ok l.toArray w := by
  rw [Array.mapM_eq_mapM_toList]
  simp [h]
theorem cmpBl_ok {t : TypeId} {parts : Array (Nat × Operand)} {g : PF} (h : cmpBl P t parts.toList = some g) {fr : dV} {A : Act} (hG : Gl β) (hF : RF β fr A) : fE P (vS (Instr.build t (parts.map fun (i, x) => (i, A.eval x)))) β nx (g fr nx) := by
  unfold cmpBl at h
  try simp only [bW, bD] at h
  split at h
  · rename_i z fs hz hu
    split at h
    · rename_i pl hpl
      rw [Option.map_eq_some_iff] at h
      obtain ⟨ps, hps, rfl⟩ := h
      unfold xBl
      split
      · rename_i l hl
        intro w
        obtain ⟨v, hv, rv⟩ := run_zr (β := β) hz w
        obtain ⟨cs, k1, k2⟩ := xG (place := fun i => pl[i]?) (cells := v.cells) rv hl (places_ok hG hF hps)
        refine ⟨.agg cs, dH ?_, ⟨cs, rfl, k2⟩⟩
        have k1' : Instr.fill (fun x => pl.toArray[x]?) v.cells (parts.map fun (i, x) => (i, A.eval x)).toList = some cs := by
          rw [arr_map]; simpa using k1
        simp only [Instr.build, Sem.run_bind, hv, Result.andThen_ok, aF hu, Sem.run_pure, mapM_arr fs _ pl w (plAll_get hpl w), k1']
      · trivial
    · simp at h
  · rename_i z n e hz hu
    split at h
    · rename_i s hs
      rw [Option.map_eq_some_iff] at h
      obtain ⟨ps, hps, rfl⟩ := h
      unfold xBl
      split
      · rename_i l hl
        intro w
        obtain ⟨v, hv, rv⟩ := run_zr (β := β) hz w
        obtain ⟨cs, k1, k2⟩ := xG (place := fun i => some (i * s, s)) (cells := v.cells) rv hl (qY hG hF hps)
        refine ⟨.agg cs, dH ?_, ⟨cs, rfl, k2⟩⟩
        have k1' : Instr.fill (fun i => some (i * s, s)) v.cells (parts.map fun (i, x) => (i, A.eval x)).toList = some cs := by rw [arr_map]; exact k1
        simp only [Instr.build, Sem.run_bind, hv, Result.andThen_ok, aF hu, bP hs, Sem.run_pure, k1']
      · trivial
    · simp at h
  · simp at h
theorem repC_len (z : List CV) : ∀ n, (repC n z).length = n * z.length
  | 0 => by simp [repC]
  | n + 1 => by simp [repC, repC_len z n, Nat.succ_mul, Nat.add_comm]
theorem repC_get (z : List CV) (hz : 0 < z.length) : ∀ n i, i < n * z.length → (repC n z)[i]? = z[i % z.length]?
  | 0, i, h => by simp at h
  | n + 1, i, h => by
    rw [repC]
    by_cases h1 : i < z.length
    · rw [List.getElem?_append_left h1, Nat.mod_eq_of_lt h1]
    · rw [List.getElem?_append_right (by omega), repC_get z hz n _ (by rw [Nat.succ_mul] at h; omega)]
      exact congrArg (fun k => z[k]?) (Nat.mod_eq_sub_mod (by omega)).symm
theorem rep_ok {z : List CV} {us : Array Value} (hz : bJ β z us.toList) (h1 : 0 < z.length) (n : Nat) : bJ β (repC n z) ((Array.range (n * z.length)).map (us[· % us.size]!)).toList := by
  have hs : us.size = z.length := by rw [← Array.length_toList, hz.len]
  refine bJ.of_get (by simp [repC_len]) (fun i c hc => ?_)
  have hi : i < n * z.length := by
    rw [← repC_len]
    exact (List.getElem?_eq_some_iff.1 hc).1
  rw [repC_get z h1 n i hi] at hc
  obtain ⟨u, k1, k2⟩ := hz.get hc
  refine ⟨u, ?_, k2⟩
  have hlt : i % us.size < us.size := Nat.mod_lt _ (by omega)
  rw [Array.getElem?_toList] at k1
  rw [hs] at hlt
  simp [hi, hs, k1, getElem!_def]
theorem ro_new {c : List CV} {e : TypeId} {us : Array Value} (h : bJ β c us.toList) : RO β (.cells c e false) (.cells us e (0, 0)) :=
  ⟨us, 0, 0, rfl, by rw [← Array.length_toList, h.len]; exact Nat.le_refl _, fun _ => by rw [← Array.length_toList, h.len], Or.inl rfl, fun i x hx => by
    obtain ⟨u, k1, k2⟩ := h.get hx
    exact ⟨u, by rw [← Array.getElem?_toList]; exact k1, k2⟩⟩
theorem pr_w {s : Sem Value} {c : CV} {o : HO} (h : ∀ w β', Sub β β' → β'.ad nx = some w.heap.size → ∃ u rob, s.run P w = .ok u { w with heap := w.heap.push rob } ∧ RV β' c u ∧ RO β' o rob) : fE P (vS s) β nx (.w c o) := fun w β' h1 h2 => by
  obtain ⟨u, rob, k1, k2⟩ := h w β' h1 h2
  exact ⟨u, rob, dH k1, k2⟩
theorem xAl_ok {z : List CV} {e : TypeId} (hz : qO P e = some z) {fr : dV} : fE P (vS (Instr.alloc e true (.tuple #[]))) β nx (xAl z e fr nx) := by
  refine pr_w (fun w β' hs hb => ?_)
  obtain ⟨v, hv, rv⟩ := run_zr (β := β') hz w
  exact ⟨.pointer (some ⟨w.heap.size, 0, none⟩), .cells v.cells e (0, 0), by simp [Instr.alloc, hv, newVar, newRow], ⟨_, hb, rfl⟩, ro_new rv⟩
theorem xBx_ok {e : TypeId} {x : Operand} {a : yZ} (ha : aX x = some a) {fr : dV} {A : Act} (hG : Gl β) (hF : RF β fr A) : fE P (vS (Instr.box e (A.eval x))) β nx (xBx e a fr nx) := by
  unfold xBx
  cases hc : a fr with
  | none => trivial
  | some c =>
    refine pr_w (fun w β' hs hb => ?_)
    exact ⟨.pointer (some ⟨w.heap.size, 0, none⟩), .cells (A.eval x).cells e (0, 0), by simp [Instr.box, newVar, newRow], ⟨_, hb, rfl⟩, ro_new (bJ.cells ((aW ha hG hF hc).mono hs))⟩
theorem cmpBs_ok {t : TypeId} {len : Nat} {parts : Array (Nat × Operand)} {g : PF} (h : cmpBs P t len parts.toList = some g) {fr : dV} {A : Act} (hG : Gl β) (hF : RF β fr A) : fE P (vS (Instr.buildSlice t len (parts.map fun (i, x) => (i, A.eval x)))) β nx (g fr nx) := by
  unfold cmpBs at h
  try simp only [bW, bD] at h
  split at h
  · rename_i e hu
    split at h
    · rename_i n z hn hz
      split at h
      · rename_i hb
        simp only [Bool.and_eq_true] at hb
        have b1 := dK hb.1.1
        have b2 := Nat.eq_of_beq_eq_true hb.1.2
        have b3 := dK hb.2
        rw [Option.map_eq_some_iff] at h
        obtain ⟨ps, hps, rfl⟩ := h
        unfold xBs
        split
        · rename_i l hl
          refine pr_w (fun w β' hs hx => ?_)
          obtain ⟨v, hv, rv⟩ := run_zr (β := β') hz w
          have hF' : RF β' fr A := fun t c hc => by
            obtain ⟨u, k1, k2⟩ := hF t c hc
            exact ⟨u, k1, k2.mono hs⟩
          have rz := rep_ok rv (by omega) len
          by_cases h0 : len = 0
          · subst h0
            obtain ⟨cs, k1, k2⟩ := xG (place := fun i => some (i * n, n)) (cells := (#[] : Array Value)) (by rw [repC]; rfl) hl (qY (hG.mono hs) hF' hps)
            have k1' : Instr.fill (fun i => some (i * n, n)) #[] (parts.map fun (i, x) => (i, A.eval x)).toList = some cs := by rw [arr_map]; exact k1
            refine ⟨.slice (some ⟨w.heap.size, 0, none⟩) 0 0, .cells cs e (0, 0), ?_, ⟨_, 0, hx, rfl, Nat.le_refl _, fun _ => rfl, fun e => absurd rfl e⟩, ro_new k2⟩
            have e0 : ∀ f : Nat → Value, (Array.range (0 * n)).map f = #[] := fun f => by simp
            have hle : ¬ (0 * n > 2 ^ 24) := by omega
            simp only [Instr.buildSlice, Sem.run_bind, aF hu, Result.andThen_ok, bP hn, if_neg hle, if_pos (Nat.zero_mul n), Sem.run_pure, e0, k1', newRow, run_newObj]
          · obtain ⟨cs, k1, k2⟩ := xG (place := fun i => some (i * n, n)) (cells := (Array.range (len * z.length)).map (v.cells[· % v.cells.size]!)) rz hl (qY (hG.mono hs) hF' hps)
            rw [b2] at k1
            have k1' : Instr.fill (fun i => some (i * n, n)) ((Array.range (len * n)).map (v.cells[· % v.cells.size]!)) (parts.map fun (i, x) => (i, A.eval x)).toList = some cs := by rw [arr_map]; exact k1
            refine ⟨.slice (some ⟨w.heap.size, 0, none⟩) len len, .cells cs e (0, 0), ?_, ⟨_, len, hx, rfl, Nat.le_refl _, fun _ => rfl, fun e => absurd rfl e⟩, ro_new k2⟩
            have hne : ¬ (len * n = 0) := by
              intro hh
              rcases Nat.mul_eq_zero.1 hh with h' | h' <;> omega
            have hle : ¬ (len * n > 2 ^ 24) := by omega
            simp only [Instr.buildSlice, Sem.run_bind, aF hu, Result.andThen_ok, bP hn, if_neg hle, if_neg hne, hv, Sem.run_pure, k1', newRow, run_newObj]
        · trivial
      · simp at h
    · simp at h
  · simp at h
end
section
variable {P : Program} {β : Names} {nx : Nat}
theorem fMv_ok {c : CV} {u : Value} (hc : RV β c u) : fE P (pure (.value u)) β nx (fMv c) := fun _ => ⟨u, rfl, hc⟩
theorem xPk_ok {c a b : Operand} {x y z : yZ} (hx : aX c = some x) (hy : aX a = some y) (hz : aX b = some z) {fr : dV} {A : Act} (hG : Gl β) (hF : RF β fr A) : fE P (do pure (.value (if ← asBool (A.eval c) then A.eval a else A.eval b))) β nx (xPk x y z fr nx) := by
  unfold xPk
  split
  · rename_i t hc
    have h1 := aW hx hG hF hc
    simp only [RV] at h1
    split
    · split
      · rename_i v hv
        exact fun w => ⟨_, by simp [h1, asBool], aW hy hG hF hv⟩
      · trivial
    · split
      · rename_i v hv
        exact fun w => ⟨_, by simp [h1, asBool], aW hz hG hF hv⟩
      · trivial
  · rename_i t hc
    have h1 := aW hx hG hF hc
    simp only [RV] at h1
    split
    · rename_i s v s' v' hv hv'
      have h2 := aW hy hG hF hv
      have h3 := aW hz hG hF hv'
      simp only [RV] at h2 h3
      cases t
      · exact fun w => ⟨.bool v', by simp [h1, h3, asBool], rfl⟩
      · exact fun w => ⟨.bool v, by simp [h1, h2, asBool], rfl⟩
    · trivial
  · trivial
theorem fNc_ok {x : Operand} {o : Oper} (ho : o.op = .nilCheck x) {A : Act} {c : CV} (hc : RV β c (A.eval x)) : fE P (execOp A.eval o) β nx (fNc c) := by
  unfold fNc
  split
  · obtain ⟨a, ha, h2⟩ := hc
    exact fun w => ⟨A.eval x, by unfold execOp; rw [ho]; simp only [h2, Sem.run_pure], by rw [h2]; exact ⟨a, ha, rfl⟩⟩
  · obtain ⟨us, h2, hl⟩ := hc
    exact fun w => ⟨A.eval x, by unfold execOp; rw [ho]; simp only [h2, Sem.run_pure], by rw [h2]; exact ⟨us, rfl, hl⟩⟩
  · trivial
theorem fCv_ok {s d : TypeId} {k0 k : IntKind} (hs : P.underlying s = some (.int k0)) (hd : P.underlying d = some (.int k)) {c : CV} {u : Value} (hc : RV β c u) : fE P (vS (convert s d u)) β nx (fCv k c) := by
  unfold fCv
  split
  · simp only [RV] at hc
    have rhc := hc
    try replace hc := hc.1
    subst hc
    exact gI (fun w => by simp only [convert, Sem.run_bind, aF hs, aF hd, Result.andThen_ok, Conv.intToInt, Sem.run_pure]; rfl) (by rw [lV, bZ]; exact ⟨rfl, fun _ => pW _ _⟩)
  · trivial
theorem fStr_ok {s d : TypeId} (hs : P.underlying s = some .string) (hd : P.underlying d = some .string) {c : CV} {u : Value} (hc : RV β c u) : fE P (vS (convert s d u)) β nx (fStr c) := by
  unfold fStr
  split
  · simp only [RV] at hc
    have rhc := hc
    try replace hc := hc.1
    subst hc
    exact gI (fun w => by simp only [convert, Sem.run_bind, aF hs, aF hd, Result.andThen_ok, Sem.run_pure]) rfl
  · trivial
theorem fSp_ok {t e : TypeId} {n : Nat} (hu : P.underlying t = some (.array n e)) {c : CV} {u : Value} (hc : RV β c u) : fE P (vS (Instr.arrayAt t u)) β nx (fSp n c) := by
  unfold fSp
  split
  · rename_i g o m cp lo
    split
    · rename_i hb
      have hn := dK hb
      obtain ⟨a, c', ha, rfl, _⟩ := hc
      refine gI (fun w => ?_) ⟨a, ha, rfl⟩
      have h1 : ¬ (m < n) := by omega
      simp [Instr.arrayAt, aF hu, h1]
    · trivial
  · trivial
theorem xMf_ok {f : FuncId} {first cap : Array Operand} {l : List yZ} (hf : first.toList = []) (hl : cmpL cap.toList = some l) {fr : dV} {A : Act} (hG : Gl β) (hF : RF β fr A) : fE P (vS (Instr.makeFunc (.func f) (first.map A.eval) (cap.map A.eval))) β nx (xMf f l fr nx) := by
  unfold xMf
  split
  · rename_i cs hcs
    have h := cmpL_ok hl hG hF hcs
    have e : first = #[] := by
      cases first; simp at hf; rw [hf]
    subst e
    exact gI (fun w => by simp [Instr.makeFunc]) ⟨cap.map A.eval, rfl, by simpa using h⟩
  · trivial
theorem natO_ok {x : Operand} {a : yZ} (ha : aX x = some a) {fr : dV} {A : Act} (hG : Gl β) (hF : RF β fr A) {n : Nat} (h : natQ a fr = some n) : ∃ k, A.eval x = .int k (n : Int) := by
  unfold natQ at h
  split at h
  · rename_i k m hm
    simp only [Option.some.injEq] at h
    subst h
    exact ⟨k, (aW ha hG hF hm).1⟩
  · simp at h
theorem i64_small {n : Nat} (h : n < 9223372036854775808) : IntKind.i64.wrap (n : Int) = n := by
  rw [wrapI]
  split <;> omega
theorem xMk_ok {t e : TypeId} {i : TypeInfo} {z : List CV} (hu : P.underlying t = some (.slice e)) (hi : P.info? e = some i) (hz : qO P e = some z) (h1 : z.length = i.size) (h2 : 1 ≤ i.size) {l c : Operand} {x y : yZ} (hx : aX l = some x) (hy : aX c = some y) {fr : dV} {A : Act} (hG : Gl β) (hF : RF β fr A) :
    fE P (vS (Instr.makeSlice t (A.eval l) (A.eval c))) β nx (xMk e z i.bytes x y fr nx) := by
  unfold xMk
  split
  · rename_i n m hn hm
    split
    · rename_i hb
      simp only [Bool.and_eq_true] at hb
      have b1 := dK hb.1.1
      have b2 := ofLt hb.1.2
      have b3 := dK hb.2
      obtain ⟨k, e1⟩ := natO_ok hx hG hF hn
      obtain ⟨k', e2⟩ := natO_ok hy hG hF hm
      rw [e1, e2]
      refine pr_w (fun w β' hs hb => ?_)
      obtain ⟨v, hv, rv⟩ := run_zr (β := β') hz w
      have q1 : IntKind.i64.wrap (n : Int) = n := i64_small (by omega)
      have q2 : IntKind.i64.wrap (m : Int) = m := i64_small (by omega)
      have hsz : qV P e = some i.size := by unfold qV; rw [bW, hi]; rfl
      have rz := rep_ok rv (by omega) m
      have q3 : (i.bytes : Int) * (m : Int) ≤ 140737488355328 := by rw [← Int.natCast_mul]; exact Int.ofNat_le.2 b3
      refine ⟨.slice (some ⟨w.heap.size, 0, none⟩) n m, .cells ((Array.range (m * z.length)).map (v.cells[· % v.cells.size]!)) e (0, 0), ?_, ⟨_, m, hb, rfl, Nat.le_refl _, fun _ => rfl, fun e => absurd rfl e⟩, ro_new rz⟩
      have d1 : decide ((m : Int) < 0) = false := decide_eq_false (by omega)
      have d2 : decide ((i.bytes : Int) * (m : Int) > 2 ^ 48) = false := decide_eq_false (by omega)
      have d3 : decide ((n : Int) < 0) = false := decide_eq_false (by omega)
      have d4 : decide ((n : Int) > (m : Int)) = false := decide_eq_false (by omega)
      have q5 : (decide ((m : Int) < 0) || decide ((i.bytes : Int) * (m : Int) > 2 ^ 48) || decide ((n : Int) < 0) || decide ((n : Int) > (m : Int))) = false := by rw [d1, d2, d3, d4]; rfl
      by_cases h0 : m = 0
      · subst h0
        have e0 : ∀ (k : Nat) (f : Nat → Value), (Array.range (0 * k)).map f = #[] := fun k f => by simp
        simp only [Instr.makeSlice, Sem.run_bind, aF hu, Result.andThen_ok, asInt, asIntOf, Sem.run_pure, typeInfo, run_program, hi, q1, q2, q5, Bool.false_eq_true, if_false, run_askRoom, Int.toNat_natCast, bP hsz, if_pos (Nat.zero_mul i.size), newRow, run_newObj, e0]
      · have hne : ¬ (m * i.size = 0) := by
          intro hh
          rcases Nat.mul_eq_zero.1 hh with h' | h' <;> omega
        simp only [Instr.makeSlice, Sem.run_bind, aF hu, Result.andThen_ok, asInt, asIntOf, Sem.run_pure, typeInfo, run_program, hi, q1, q2, q5, Bool.false_eq_true, if_false, run_askRoom, Int.toNat_natCast, bP hsz, if_neg hne, hv, newRow, run_newObj, h1]
    · trivial
  · trivial
theorem eG {n y : Nat} {k : IntKind} {code : BoundsCode} (h : n ≤ y) (w : World) : (Instr.sliceBound (.int k (n : Int)) y code).run P w = .ok n w := by
  have h1 : (0 : Int) ≤ (n : Int) ∧ (n : Int) ≤ (y : Int) := by omega
  simp [Instr.sliceBound, asIntOf, h1]
def NO (A : Act) (o : Option Operand) (n : Option Nat) : Prop := (o = none ∧ n = none) ∨ ∃ (x : Operand) (m : Nat) (k : IntKind), o = some x ∧ n = some m ∧ A.eval x = .int k (m : Int)
theorem optN_ok {o : Option Operand} {a : Option yZ} (ha : cmpO o = some a) {fr : dV} {A : Act} (hG : Gl β) (hF : RF β fr A) {n : Option Nat} (h : optN fr a = some n) : NO A o n := by
  cases o with
  | none =>
    simp only [cmpO, Option.some.injEq] at ha
    subst ha
    simp only [optN, Option.some.injEq] at h
    exact Or.inl ⟨rfl, h.symm⟩
  | some x =>
    unfold cmpO at ha
    simp only at ha
    split at ha
    · rename_i f hf
      simp only [Option.some.injEq] at ha
      subst ha
      unfold optN at h
      simp only at h
      split at h
      · rename_i m hm
        simp only [Option.some.injEq] at h
        obtain ⟨k, hk⟩ := natO_ok hf hG hF hm
        exact Or.inr ⟨x, m, k, rfl, h.symm, hk⟩
      · simp at h
    · simp at ha
theorem iL {isS : Bool} {n c : Nat} {lo hi mx : Option Operand} {l h m : Option Nat} {A : Act} (hl : NO A lo l) (hh : NO A hi h)
    (hm : NO A mx m) (hq : mx.isSome = true → hi.isSome = true) {a b d : Nat} (hb : rZ n c l h m = some (a, b, d)) (w : World) :
    (Instr.sliceBounds isS n c (lo.map A.eval) (hi.map A.eval) (mx.map A.eval)).run P w = .ok (a, b, d) w ∧ a ≤ b ∧ b ≤ d ∧ d ≤ c ∧ (m = none → d = c) := by
  unfold rZ at hb
  split at hb
  · rename_i hbb
    simp only [Bool.and_eq_true] at hbb
    have b1 := dK hbb.1.1
    have b2 := dK hbb.1.2
    have b3 := dK hbb.2
    simp only [Option.some.injEq, Prod.mk.injEq] at hb
    obtain ⟨rfl, rfl, rfl⟩ := hb
    refine ⟨?_, b1, b2, b3, fun e => by rw [e]; rfl⟩
    rcases hm with ⟨rfl, rfl⟩ | ⟨x3, v3, k3, rfl, rfl, e3⟩ <;> rcases hh with ⟨rfl, rfl⟩ | ⟨x2, v2, k2, rfl, rfl, e2⟩ <;> rcases hl with ⟨rfl, rfl⟩ | ⟨x1, v1, k1, rfl, rfl, e1⟩ <;> simp only [Option.getD_some, Option.getD_none] at b1 b2 b3 ⊢
    · simp [Instr.sliceBounds]
    · simp [Instr.sliceBounds, e1, eG b1]
    · simp [Instr.sliceBounds, e2, eG b2]
    · simp [Instr.sliceBounds, e1, e2, eG b1, eG b2]
    · exact absurd (hq rfl) (by simp)
    · exact absurd (hq rfl) (by simp)
    · simp [Instr.sliceBounds, e2, e3, eG b2, eG b3]
    · simp [Instr.sliceBounds, e1, e2, e3, eG b1, eG b2, eG b3]
  · simp at hb
theorem beq_pick (m a o s : Nat) : pkO m a o s = if m = a then o else o + a * s := by
  unfold pkO
  cases h : Nat.beq m a with
  | true => rw [if_pos (Nat.eq_of_beq_eq_true h)]
  | false => rw [if_neg (Nat.ne_of_beq_eq_false h)]
end
section
variable {P : Program} {β : Names} {nx : Nat}
theorem vC {o : Option Operand} {a : Option yZ} (ha : cmpO o = some a) {fr : dV} {A : Act} (hG : Gl β) (hF : RF β fr A) {z : Option Int} (h : optI fr a = some z) : (o = none ∧ z = none) ∨ ∃ (x : Operand) (y : Int) (k : IntKind), o = some x ∧ z = some y ∧ A.eval x = .int k y := by
  cases o with
  | none =>
    simp only [cmpO, Option.some.injEq] at ha
    subst ha
    simp only [optI, Option.some.injEq] at h
    exact Or.inl ⟨rfl, h.symm⟩
  | some x =>
    unfold cmpO at ha
    simp only at ha
    split at ha
    · rename_i f hf
      simp only [Option.some.injEq] at ha
      subst ha
      unfold optI at h
      simp only at h
      split at h
      · rename_i s k y hy
        obtain rfl := Option.some.inj h
        exact Or.inr ⟨x, y, k, rfl, rfl, (aW hf hG hF hy).1⟩
      · simp at h
    · simp at ha
theorem NO.of {A : Act} {o : Option Operand} {z : Option Int} (h : (o = none ∧ z = none) ∨ ∃ (x : Operand) (y : Int) (k : IntKind), o = some x ∧ z = some y ∧ A.eval x = .int k y) (hz : ∀ y, z = some y → 0 ≤ y) : NO A o (z.map Int.toNat) := by
  rcases h with ⟨rfl, rfl⟩ | ⟨x, y, k, rfl, rfl, h⟩
  · exact Or.inl ⟨rfl, rfl⟩
  · refine Or.inr ⟨x, y.toNat, k, rfl, rfl, ?_⟩
    rw [h, Int.toNat_of_nonneg (hz y rfl)]
theorem cmpSl_ok {t : TypeId} {x : Operand} {lo hi mx : Option Operand} {g : PF} (h : cmpSl P t x lo hi mx = some g) {fr : dV} {A : Act} (hG : Gl β) (hF : RF β fr A) : fE P (vS (Instr.sliceAt t (A.eval x) (lo.map A.eval) (hi.map A.eval) (mx.map A.eval))) β nx (g fr nx) := by
  unfold cmpSl at h
  try simp only [bW, bD] at h
  split at h
  · rename_i a la ha ma hxa hla hha hma
    split at h
    · simp at h
    · rename_i hq
      have hq' : mx.isSome = true → hi.isSome = true := by
        intro hm
        cases hi with
        | some _ => rfl
        | none =>
          simp only [cmpO, Option.some.injEq] at hha
          subst hha
          cases mx with
          | none => simp at hm
          | some m =>
            unfold cmpO at hma
            simp only at hma
            split at hma
            · simp only [Option.some.injEq] at hma
              subst hma
              simp at hq
            · simp at hma
      have hms : ma.isSome = mx.isSome := by
        cases mx with
        | none => simp only [cmpO, Option.some.injEq] at hma; subst hma; rfl
        | some m =>
          unfold cmpO at hma
          simp only at hma
          split at hma
          · simp only [Option.some.injEq] at hma
            subst hma; rfl
          · simp at hma
      have key : ∀ (f : Option Nat → Option Nat → Option Nat → CV → PR) (s : Sem Value), (∀ (c : CV) (l h m : Option Nat), RV β c (A.eval x) → NO A lo l → NO A hi h →
          NO A mx m → fE P (vS s) β nx (f l h m c)) → fE P (vS s) β nx (xSl f a la ha ma fr nx) := by
        intro f s hf
        unfold xSl
        split
        · rename_i c l h' m hc hl hh hm
          exact hf c l h' m (aW hxa hG hF hc) (optN_ok hla hG hF hl) (optN_ok hha hG hF hh) (optN_ok hma hG hF hm)
        · trivial
      have arr : ∀ (arr e : TypeId) (n s : Nat) (c : CV) (l h m : Option Nat) (S : Sem Value), qV P e = some s → RV β c (A.eval x) → NO A lo l → NO A hi h →
          NO A mx m →
          (∀ (b o : Nat) (p q r : Nat) (w : World), A.eval x = .pointer (some ⟨b, o, none⟩) → (Instr.sliceBounds false n n (lo.map A.eval) (hi.map A.eval) (mx.map A.eval)).run P w = .ok (p, q, r) w → S.run P w = .ok (.slice (some (if r = p then ⟨b, o, none⟩ else (⟨b, o, none⟩ : Addr).add (p * s))) (q - p) (r - p)) w) →
          fE P (vS S) β nx (fSa n s l h m c) := by
        intro arr e n s c l h m S hs hc hl hh hm hS
        unfold fSa
        split
        · rename_i gg o
          split
          · rename_i p q r hb
            obtain ⟨b, hb1, hb2⟩ := hc
            rw [beq_pick]
            refine gI (u := .slice (some ⟨b, if r = p then o else o + p * s, none⟩) (q - p) (r - p)) (fun w => ?_) ⟨b, r - p, hb1, rfl, Nat.le_refl _, fun _ => rfl, fun e => absurd rfl e⟩
            have k := iL (P := P) (isS := false) hl hh hm hq' hb w
            rw [hS b o p q r w hb2 k.1]
            by_cases e1 : r = p
            · rw [if_pos e1, if_pos e1]
            · rw [if_neg e1, if_neg e1, bY]
          · trivial
        · trivial
      split at h
      · rename_i e hu
        rw [Option.map_eq_some_iff] at h
        obtain ⟨s, hs, rfl⟩ := h
        unfold xSx
        split
        · rename_i gg o n cp ex hx0
          split
          · rename_i lo' hi' mx' h1 h2 h3 h37
            obtain rfl := Nat.eq_of_beq_eq_true h37
            intro hb
            obtain ⟨b, c', off, q1, q2, q3, q4, q5, q6, q7⟩ := aW hxa hG hF hx0
            have i1 := vC hla hG hF h1
            have i2 := vC hha hG hF h2
            have i3 := vC hma hG hF h3
            unfold xsB at hb
            simp only [Bool.and_eq_true, decide_eq_true_eq] at hb
            have n1 := NO.of i1 (fun z hz => by subst hz; simpa using hb.1.1.1)
            have n2 := NO.of i2 (fun z hz => by subst hz; simp only [Option.getD_some] at hb; omega)
            have n3 := NO.of i3 (fun z hz => by subst hz; simp only [Option.getD_some] at hb; omega)
            have hbn : rZ n c' (lo'.map Int.toNat) (hi'.map Int.toNat) (mx'.map Int.toNat) = some ((lo'.getD 0).toNat, (hi'.getD n).toNat, (lC mx' c')) := by
              unfold rZ
              have e1 : (lo'.map Int.toNat).getD 0 = (lo'.getD 0).toNat := by cases lo' <;> rfl
              have e2 : (hi'.map Int.toNat).getD n = (hi'.getD n).toNat := by cases hi' <;> simp
              have e3 : (mx'.map Int.toNat).getD c' = (lC mx' c') := by cases mx' <;> rfl
              rw [e1, e2, e3]
              have f1 : (lo'.getD 0).toNat ≤ (hi'.getD n).toNat := by omega
              have f23 : (hi'.getD n).toNat ≤ lC mx' c' ∧ lC mx' c' ≤ c' := by
                clear h3 i3 n3 e3
                cases mx' with
                | none => simp only [Option.getD_none, lC] at hb ⊢; omega
                | some m => simp only [Option.getD_some, lC] at hb ⊢; omega
              have f2 := f23.1
              have f3 := f23.2
              rw [show (Nat.ble (lo'.getD 0).toNat (hi'.getD n).toNat && Nat.ble (hi'.getD n).toNat (lC mx' c') && Nat.ble (lC mx' c') c') = true by
                simp only [Bool.and_eq_true]
                exact ⟨⟨Nat.ble_eq ▸ f1, Nat.ble_eq ▸ f2⟩, Nat.ble_eq ▸ f3⟩]
            have kb := fun w => iL (P := P) (isS := true) n1 n2 n3 hq' hbn w
            have kc := (kb default).2
            have main : ∀ w, (Instr.sliceAt t (A.eval x) (lo.map A.eval) (hi.map A.eval) (mx.map A.eval)).run P w = .ok (.slice (some ⟨b, if (lC mx' c') = (lo'.getD 0).toNat then off else off + (lo'.getD 0).toNat * 37, none⟩) ((hi'.getD n).toNat - (lo'.getD 0).toNat) ((lC mx' c') - (lo'.getD 0).toNat)) w := by
              intro w
              rw [q2]
              simp only [Instr.sliceAt, Sem.run_bind, aF hu, Result.andThen_ok, Instr.slice, (kb w).1, bP hs, Sem.run_pure, Option.map_some, bY]
              by_cases e1 : (lC mx' c') = (lo'.getD 0).toNat
              · rw [if_pos e1, if_pos e1]
              · rw [if_neg e1, if_neg e1]
            refine gI (nx := nx) main ⟨b, _, _, q1, rfl, by omega, by omega, fun hex => ?_, by omega, ?_⟩
            · clear kb kc main hbn n3 i3 h3 hb
              cases mx' with
              | some m => rfl
              | none => simp only [lC]; rw [q5 (by simpa using hex)]
            · by_cases e1 : (lC mx' c') = (lo'.getD 0).toNat
              · left; omega
              · right
                rw [if_neg e1, q7.resolve_left (by omega)]
                omega
          · trivial
        · rename_i r o n uu hx0
          split
          · rename_i lo' hi' mx' h1 h2 h3 h37
            obtain rfl := Nat.eq_of_beq_eq_true h37
            intro hb
            obtain ⟨w1, w2, hw⟩ := aW hxa hG hF hx0
            have i1 := vC hla hG hF h1
            have i2 := vC hha hG hF h2
            have i3 := vC hma hG hF h3
            unfold xsB at hb
            simp only [Bool.and_eq_true, decide_eq_true_eq] at hb
            have n1 := NO.of i1 (fun z hz => by subst hz; simpa using hb.1.1.1)
            have n2 := NO.of i2 (fun z hz => by subst hz; simp only [Option.getD_some] at hb; omega)
            have n3 := NO.of i3 (fun z hz => by subst hz; simp only [Option.getD_some] at hb; omega)
            have bnd : ∀ c', n ≤ c' → rZ n c' (lo'.map Int.toNat) (hi'.map Int.toNat) (mx'.map Int.toNat) = some ((lo'.getD 0).toNat, (hi'.getD n).toNat, (lC mx' c')) := by
              intro c' hc'
              unfold rZ
              have e1 : (lo'.map Int.toNat).getD 0 = (lo'.getD 0).toNat := by cases lo' <;> rfl
              have e2 : (hi'.map Int.toNat).getD n = (hi'.getD n).toNat := by cases hi' <;> simp
              have e3 : (mx'.map Int.toNat).getD c' = (lC mx' c') := by cases mx' <;> rfl
              rw [e1, e2, e3]
              have f1 : (lo'.getD 0).toNat ≤ (hi'.getD n).toNat := by omega
              have f23 : (hi'.getD n).toNat ≤ lC mx' c' ∧ lC mx' c' ≤ c' := by
                clear h3 i3 n3 e3
                cases mx' with
                | none => simp only [Option.getD_none, lC] at hb ⊢; omega
                | some m => simp only [Option.getD_some, lC] at hb ⊢; omega
              rw [show (Nat.ble (lo'.getD 0).toNat (hi'.getD n).toNat && Nat.ble (hi'.getD n).toNat (lC mx' c') && Nat.ble (lC mx' c') c') = true by
                simp only [Bool.and_eq_true]
                exact ⟨⟨Nat.ble_eq ▸ f1, Nat.ble_eq ▸ f23.1⟩, Nat.ble_eq ▸ f23.2⟩]
            rcases hw with ⟨b0, c0, q2, rfl⟩ | ⟨b, off, c', us, q2, q3, q4, q5, q6⟩
            · have kb := fun w => iL (P := P) (isS := true) n1 n2 n3 hq' (bnd c0 (Nat.zero_le _)) w
              have hh0 : (hi'.getD ((0 : Nat) : Int)).toNat = 0 := by
                clear kb n3 i3 h3
                cases mx' <;> cases hi' <;> simp only [Option.getD_some, Option.getD_none, lC] at hb ⊢ <;> omega
              have hl0 : (lo'.getD 0).toNat = 0 := by
                clear kb n3 i3 h3
                cases mx' <;> cases hi' <;> simp only [Option.getD_some, Option.getD_none, lC] at hb hh0 ⊢ <;> omega
              have main : ∃ bz cz, ∀ w, (Instr.sliceAt t (A.eval x) (lo.map A.eval) (hi.map A.eval) (mx.map A.eval)).run P w = .ok (.slice bz 0 cz) w := by
                refine ⟨if lC mx' c0 = 0 then b0 else b0.map (·.add (0 * r.s)), lC mx' c0 - 0, fun w => ?_⟩
                rw [q2]
                simp only [Instr.sliceAt, Sem.run_bind, aF hu, Result.andThen_ok, Instr.slice, (kb w).1, bP hs, Sem.run_pure, hh0, hl0, Nat.sub_self]
              obtain ⟨bz, cz, main⟩ := main
              refine gI (nx := nx) main ⟨?_, ?_, Or.inl ⟨bz, cz, ?_, ?_⟩⟩
              · omega
              · omega
              · rfl
              · omega
            · have kb := fun w => iL (P := P) (isS := true) n1 n2 n3 hq' (bnd c' q3) w
              have kc := (kb default).2
              have main : ∀ w, (Instr.sliceAt t (A.eval x) (lo.map A.eval) (hi.map A.eval) (mx.map A.eval)).run P w = .ok (.slice (some ⟨b, if (lC mx' c') = (lo'.getD 0).toNat then off else off + (lo'.getD 0).toNat * r.s, none⟩) ((hi'.getD n).toNat - (lo'.getD 0).toNat) ((lC mx' c') - (lo'.getD 0).toNat)) w := by
                intro w
                rw [q2]
                simp only [Instr.sliceAt, Sem.run_bind, aF hu, Result.andThen_ok, Instr.slice, (kb w).1, bP hs, Sem.run_pure, Option.map_some, bY]
                by_cases e1 : (lC mx' c') = (lo'.getD 0).toNat
                · rw [if_pos e1, if_pos e1]
                · rw [if_neg e1, if_neg e1]
              refine gI (nx := nx) main ⟨?_, by omega, Or.inr ⟨b, _, _, us, rfl, by omega, ?_, q5, q6⟩⟩
              · clear kb main n3 i3 h3 n2 i2 h2
                cases mx' <;> cases hi' <;> simp only [Option.getD_some, Option.getD_none, lC] at hb ⊢ <;> omega
              · by_cases e1 : (lC mx' c') = (lo'.getD 0).toNat
                · left; omega
                · right
                  rw [if_neg e1, q4.resolve_left (by omega), Nat.mul_add, Nat.mul_comm r.s (Int.toNat _)]; omega
          · trivial
        refine key (fSi s ma.isSome) _ (fun c l h' m hc hl hh hm => ?_)
        unfold fSi
        split
        · rename_i gg o n cp lo'
          split
          · rename_i p q r hb
            obtain ⟨b, c', hb1, hb2, hcc, hll, hsz⟩ := hc
            have main : ∀ w, (Instr.sliceAt t (A.eval x) (lo.map A.eval) (hi.map A.eval) (mx.map A.eval)).run P w = .ok (.slice (some ⟨b, if (if m = none then c' else r) = p then o else o + p * s, none⟩) (q - p) ((if m = none then c' else r) - p)) w := by
              intro w
              have k : ∃ r', rZ n c' l h' m = some (p, q, r') ∧ r' = (if m = none then c' else r) := by
                unfold rZ at hb ⊢
                split at hb
                · rename_i hbb
                  simp only [Bool.and_eq_true] at hbb
                  have b1 := dK hbb.1.1
                  have b2 := dK hbb.1.2
                  have b3 := dK hbb.2
                  simp only [Option.some.injEq, Prod.mk.injEq] at hb
                  obtain ⟨rfl, rfl, rfl⟩ := hb
                  cases m with
                  | none =>
                    simp only [Option.getD_none] at b2 b3 ⊢
                    refine ⟨c', ?_, rfl⟩
                    rw [show (Nat.ble (l.getD 0) (h'.getD n) && Nat.ble (h'.getD n) c' && Nat.ble c' c') = true by
                      simp only [Bool.and_eq_true]
                      exact ⟨⟨Nat.ble_eq ▸ b1, Nat.ble_eq ▸ (by omega : h'.getD n ≤ c')⟩, Nat.ble_eq ▸ Nat.le_refl c'⟩]
                  | some v =>
                    simp only [Option.getD_some] at b2 b3 ⊢
                    refine ⟨v, ?_, by simp⟩
                    rw [show (Nat.ble (l.getD 0) (h'.getD n) && Nat.ble (h'.getD n) v && Nat.ble v c') = true by
                      simp only [Bool.and_eq_true]
                      exact ⟨⟨Nat.ble_eq ▸ b1, Nat.ble_eq ▸ b2⟩, Nat.ble_eq ▸ (by omega : v ≤ c')⟩]
                · simp at hb
              obtain ⟨r', k1, k2⟩ := k
              have kb := iL (P := P) (isS := true) hl hh hm hq' k1 w
              rw [← k2]
              rw [hb2]
              simp only [Instr.sliceAt, Sem.run_bind, aF hu, Result.andThen_ok, Instr.slice, kb.1, bP hs, Sem.run_pure, Option.map_some, bY]
              by_cases e1 : r' = p
              · rw [if_pos e1, if_pos e1]
              · rw [if_neg e1, if_neg e1]
            have hmn : (m = none) = (ma.isSome = false) := by
              rw [hms]
              rcases hm with ⟨rfl, rfl⟩ | ⟨_, _, _, rfl, rfl, _⟩ <;> simp
            have kb := (iL (P := P) (isS := true) hl hh hm hq' hb default)
            split
            · rename_i hlo
              rw [beq_pick]
              cases hm0 : m with
              | some v =>
                have mm := main
                simp only [hm0, reduceCtorEq, if_false] at mm
                exact gI mm ⟨b, r - p, hb1, rfl, Nat.le_refl _, fun _ => rfl, fun e => absurd rfl e⟩
              | none =>
                have e2 : ma.isSome = false := by rw [← hmn]; exact hm0
                rw [e2, Bool.or_false] at hlo
                have e3 := hll (Nat.eq_of_beq_eq_true hlo)
                have e4 := kb.2.2.2.2 hm0
                have mm := main
                simp only [hm0, if_true, e3] at mm
                rw [e4]
                exact gI mm ⟨b, cp - p, hb1, rfl, Nat.le_refl _, fun _ => rfl, fun e => absurd rfl e⟩
            · rename_i hlo
              rw [Bool.or_eq_false_iff] at hlo
              have hm0 : m = none := by rw [hmn]; exact hlo.2
              have hl0 : lo' ≠ 0 := Nat.ne_of_beq_eq_false hlo.1
              split
              · rename_i hba
                obtain rfl := Nat.eq_of_beq_eq_true hba
                exact gI main ⟨_, _, by rw [Nat.sub_self]⟩
              split
              · trivial
              · rename_i hne
                rw [Bool.or_eq_false_iff, Bool.not_eq_false'] at hne
                have hne' := Nat.ne_of_beq_eq_false hne.1
                have hls := Nat.eq_of_beq_eq_true hne.2
                have e4 := kb.2.2.2.2 hm0
                have mm := main
                simp only [hm0, if_true] at mm
                have e5 : ¬ (c' = p) := by
                  have := kb.2.1; have := kb.2.2.1; omega
                simp only [if_neg e5] at mm
                refine gI mm ⟨b, c' - p, hb1, rfl, by omega, fun e => absurd e hl0, fun _ => ?_⟩
                have h1 := hsz hl0
                have h2 : p ≤ c' := by have := kb.2.1; have := kb.2.2.1; omega
                have h3 := Nat.sub_mul c' p lo'
                have h4 := Nat.mul_le_mul_right lo' h2
                rw [← hls]
                omega
          · trivial
        · split
          · rename_i r hb
            simp only [RV] at hc
            obtain ⟨p, q, d⟩ := r
            refine gI (u := .slice none 0 0) (fun w => ?_) rfl
            have kb := iL (P := P) (isS := true) hl hh hm hq' hb w
            have h0 : p = 0 ∧ q = 0 ∧ d = 0 := by omega
            obtain ⟨rfl, rfl, rfl⟩ := h0
            rw [hc]
            simp only [Instr.sliceAt, Sem.run_bind, aF hu, Result.andThen_ok, Instr.slice, kb.1, bP hs, Sem.run_pure, if_true]
          · trivial
        · split
          · rename_i r hb
            obtain ⟨bb, cc, hc⟩ := hc
            obtain ⟨p, q, d⟩ := r
            have k : ∃ r', rZ 0 cc l h' m = some (p, q, r') := by
              unfold rZ at hb ⊢
              split at hb
              · rename_i hbb
                simp only [Bool.and_eq_true] at hbb
                have b1 := dK hbb.1.1
                have b2 := dK hbb.1.2
                have b3 := dK hbb.2
                simp only [Option.some.injEq, Prod.mk.injEq] at hb
                obtain ⟨rfl, rfl, rfl⟩ := hb
                refine ⟨m.getD cc, ?_⟩
                have f2 : h'.getD 0 ≤ m.getD cc ∧ m.getD cc ≤ cc := by
                  cases m with
                  | none => simp only [Option.getD_none] at b2 b3 ⊢; omega
                  | some v => simp only [Option.getD_some] at b2 b3 ⊢; omega
                rw [show (Nat.ble (l.getD 0) (h'.getD 0) && Nat.ble (h'.getD 0) (m.getD cc) && Nat.ble (m.getD cc) cc) = true by
                  simp only [Bool.and_eq_true]
                  exact ⟨⟨Nat.ble_eq ▸ b1, Nat.ble_eq ▸ f2.1⟩, Nat.ble_eq ▸ f2.2⟩]
              · simp at hb
            obtain ⟨r', k1⟩ := k
            have kb := fun w => iL (P := P) (isS := true) hl hh hm hq' k1 w
            have kb0 := iL (P := P) (isS := true) hl hh hm hq' hb default
            have h0 : p = 0 ∧ q = 0 := by omega
            obtain ⟨rfl, rfl⟩ := h0
            cases bb with
            | none => exact gI (u := .slice none 0 r') (fun w => by
                rw [hc]
                simp only [Instr.sliceAt, Sem.run_bind, aF hu, Result.andThen_ok, Instr.slice, (kb w).1, bP hs, Sem.run_pure, Nat.sub_zero, Nat.zero_mul, Option.map_none, ite_self]) ⟨_, _, rfl⟩
            | some ad => exact gI (u := .slice (some (if r' = 0 then ad else ad.add 0)) 0 r') (fun w => by
                rw [hc]
                simp only [Instr.sliceAt, Sem.run_bind, aF hu, Result.andThen_ok, Instr.slice, (kb w).1, bP hs, Sem.run_pure, Nat.sub_zero, Nat.zero_mul, Option.map_some]
                split <;> rfl) ⟨_, _, rfl⟩
          · trivial
        · rename_i l' o n
          split
          · rename_i p q r hb
            obtain ⟨b, off, c', us, hb2, q3, q4, q5, q6⟩ := hc
            have k : ∃ r', rZ n c' l h' m = some (p, q, r') := by
              unfold rZ at hb ⊢
              split at hb
              · rename_i hbb
                simp only [Bool.and_eq_true] at hbb
                have b1 := dK hbb.1.1
                have b2 := dK hbb.1.2
                have b3 := dK hbb.2
                simp only [Option.some.injEq, Prod.mk.injEq] at hb
                obtain ⟨rfl, rfl, rfl⟩ := hb
                refine ⟨m.getD c', ?_⟩
                have f2 : h'.getD n ≤ m.getD c' ∧ m.getD c' ≤ c' := by
                  cases m with
                  | none => simp only [Option.getD_none] at b2 b3 ⊢; omega
                  | some v => simp only [Option.getD_some] at b2 b3 ⊢; omega
                rw [show (Nat.ble (l.getD 0) (h'.getD n) && Nat.ble (h'.getD n) (m.getD c') && Nat.ble (m.getD c') c') = true by
                  simp only [Bool.and_eq_true]
                  exact ⟨⟨Nat.ble_eq ▸ b1, Nat.ble_eq ▸ f2.1⟩, Nat.ble_eq ▸ f2.2⟩]
              · simp at hb
            obtain ⟨r', k1⟩ := k
            have kb := fun w => iL (P := P) (isS := true) hl hh hm hq' k1 w
            have kc := (kb default).2
            refine gI (nx := nx) (u := .slice (some ⟨b, if r' = p then off else off + p * s, none⟩) (q - p) (r' - p)) (fun w => ?_) ⟨b, _, _, us, rfl, by omega, ?_, q5, q6⟩
            · rw [hb2]
              simp only [Instr.sliceAt, Sem.run_bind, aF hu, Result.andThen_ok, Instr.slice, (kb w).1, bP hs, Sem.run_pure, Option.map_some, bY]
              by_cases e1 : r' = p
              · rw [if_pos e1, if_pos e1]
              · rw [if_neg e1, if_neg e1]
            · by_cases e1 : r' = p
              · left; omega
              · right
                rw [if_neg e1, q4.resolve_left (by omega)]
          · trivial
        · trivial
      · rename_i n e hu
        rw [Option.map_eq_some_iff] at h
        obtain ⟨s, hs, rfl⟩ := h
        refine key (fSa n s) _ (fun c l h' m hc hl hh hm => arr t e n s c l h' m _ hs hc hl hh hm (fun b o p q r w he hb => ?_))
        rw [he]
        simp only [Instr.sliceAt, Sem.run_bind, aF hu, Result.andThen_ok, Instr.sureAddr, Sem.run_pure, hb, bP hs]
      · rename_i ar hu
        split at h
        · rename_i n e hu2
          rw [Option.map_eq_some_iff] at h
          obtain ⟨s, hs, rfl⟩ := h
          refine key (fSa n s) _ (fun c l h' m hc hl hh hm => arr t e n s c l h' m _ hs hc hl hh hm (fun b o p q r w he hb => ?_))
          rw [he]
          simp only [Instr.sliceAt, Sem.run_bind, aF hu, Result.andThen_ok, Instr.slice, asAddr, Sem.run_pure, aF hu2, hb, bP hs]
        · simp at h
      · simp at h
  · simp at h
end
section
variable {P : Program} {β : Names} {nx : Nat}
theorem fLn_ok {t e : TypeId} {c : CV} {u : Value} (hu : P.underlying t = some (.slice e)) (hc : RV β c u) {ty : TypeId} : fE P (vS (Builtin.len_ #[t] ty #[u])) β nx (fLn c) := by
  unfold fLn
  split
  · obtain ⟨a, c', _, rfl, _⟩ := hc
    rw [lV]
    exact gI (fun w => by simp [Builtin.len_, aF hu, goInt]) ⟨rfl, nofun⟩
  · simp only [RV] at hc
    have rhc := hc
    try replace hc := hc.1
    subst hc
    exact gI (fun w => by simp [Builtin.len_, aF hu, goInt]) ⟨rfl, nofun⟩
  · obtain ⟨a, c', _, _, rfl, h1, h2, _⟩ := hc
    refine gI (fun w => by simp [Builtin.len_, aF hu, goInt]) ⟨rfl, fun _ => ?_⟩
    rw [lS]
    simp [IntKind.signed, IntKind.bits]
    omega
  · obtain ⟨_, _, _, _, rfl, _⟩ := hc
    rw [lV]
    exact gI (fun w => by simp [Builtin.len_, aF hu, goInt]) ⟨rfl, nofun⟩
  · rw [lV]
    rcases hc with ⟨_, h2, ⟨_, _, rfl, rfl⟩ | ⟨_, _, _, _, rfl, _⟩⟩
    · exact gI (fun w => by simp [Builtin.len_, aF hu, goInt]) ⟨rfl, fun _ => rfl⟩
    · refine gI (fun w => by simp [Builtin.len_, aF hu, goInt]) ⟨rfl, fun _ => ?_⟩
      rw [lS]
      simp [IntKind.signed, IntKind.bits]
      omega
  · obtain ⟨_, _, rfl⟩ := hc
    exact gI (fun w => by simp [Builtin.len_, aF hu, goInt]) ⟨rfl, nofun⟩
  · trivial
theorem fLs_ok {t : TypeId} {c : CV} {u : Value} (hu : P.underlying t = some .string) (hc : RV β c u) {ty : TypeId} : fE P (vS (Builtin.len_ #[t] ty #[u])) β nx (fLs c) := by
  unfold fLs
  split
  · simp only [RV] at hc
    have rhc := hc
    try replace hc := hc.1
    subst hc
    rw [lV]
    exact gI (fun w => by simp [Builtin.len_, aF hu, goInt]) ⟨rfl, nofun⟩
  · trivial
theorem mm_rg {s s' : Bool} {k k' : IntKind} {x y : Int} (h : (((wX s k x && wX s' k' y) && Nat.beq (oQ k) (oQ k')) || !(s || s')) = true) (hq : (s || s') = true) (hx : s = true → k.wrap x = x) (hy : s' = true → k'.wrap y = y) : k.wrap x = x ∧ k.wrap y = y := by
  rw [hq] at h
  simp only [Bool.not_true, Bool.or_false, Bool.and_eq_true] at h
  obtain rfl := eQ h.2
  exact ⟨gJ h.1.1 hx, gJ h.1.2 hy⟩
theorem fMin_ok {c d : CV} {u v : Value} {ts : Array TypeId} {ty : TypeId} (hc : RV β c u) (hd : RV β d v) : fE P (vS (Builtin.min_ ts ty #[u, v])) β nx (fMin c d) := by
  unfold fMin
  split
  · simp only [RV] at hc hd
    have rhc := hc
    try replace hc := hc.1
    have rhd := hd
    try replace hd := hd.1
    subst hc hd
    split
    · rename_i hq
      rw [lV]
      refine gI (fun w => by simp [Builtin.min_, Builtin.min2]) ⟨rfl, fun q => ?_⟩
      have hr := mm_rg hq q rhc.2 rhd.2
      split
      · exact hr.2
      · exact hr.1
    · trivial
  · trivial
theorem fMax_ok {c d : CV} {u v : Value} {ts : Array TypeId} {ty : TypeId} (hc : RV β c u) (hd : RV β d v) : fE P (vS (Builtin.max_ ts ty #[u, v])) β nx (fMax c d) := by
  unfold fMax
  split
  · simp only [RV] at hc hd
    have rhc := hc
    try replace hc := hc.1
    have rhd := hd
    try replace hd := hd.1
    subst hc hd
    split
    · rename_i hq
      rw [lV]
      refine gI (fun w => by simp [Builtin.max_, Builtin.max2]) ⟨rfl, fun q => ?_⟩
      have hr := mm_rg hq q rhc.2 rhd.2
      split
      · exact hr.2
      · exact hr.1
    · trivial
  · trivial
theorem rJ {A : Act} {o : Oper} {b : Builtin} {args : Array Operand} {ts : Array TypeId} (ho : o.op = .call ⟨.builtin b, args, ts⟩) : ∃ cs, execOp A.eval o = builtin b ts o.type cs (args.map A.eval) := by
  refine ⟨args.map fun | .const _ => true | _ => false, ?_⟩
  unfold execOp
  rw [ho]
  rfl
theorem arr1 (f : Operand → Value) (x : Operand) : Array.map f ⟨[x]⟩ = #[f x] := by simp
theorem arr2 (f : Operand → Value) (x y : Operand) : Array.map f ⟨[x, y]⟩ = #[f x, f y] := by simp
theorem cmpP_ok {op : Op} {f : PF} (h : cmpP P op = some f) {o : Oper} (ho : o.op = op) {fr : dV} {A : Act} (hG : Gl β) (hF : RF β fr A) : fE P (execOp A.eval o) β nx (f fr nx) := by
  unfold cmpP at h
  try simp only [bW, bD] at h
  split at h
  · rename_i x
    refine oV h hG hF (fun c hc => ?_)
    unfold execOp; rw [ho]; exact fMv_ok hc
  · rename_i x
    refine oV h hG hF (fun c hc => ?_)
    unfold execOp; rw [ho]; exact fMv_ok hc
  · rename_i c a b
    split at h
    · rename_i x y z hx hy hz
      simp only [Option.some.injEq] at h
      subst h
      unfold execOp; rw [ho]; exact xPk_ok hx hy hz hG hF
    · simp at h
  · rename_i e
    rw [Option.map_eq_some_iff] at h
    obtain ⟨z, hz, rfl⟩ := h
    unfold execOp; rw [ho]; exact xAl_ok hz
  · rename_i e x
    rw [Option.map_eq_some_iff] at h
    obtain ⟨a, ha, rfl⟩ := h
    unfold execOp; rw [ho]; exact xBx_ok ha hG hF
  · unfold execOp; rw [ho]; exact cmpBl_ok h hG hF
  · unfold execOp; rw [ho]; exact cmpBs_ok h hG hF
  · rename_i x
    exact oV h hG hF (fun c hc => fNc_ok ho hc)
  · unfold execOp; rw [ho]; exact cmpBin_ok h hG hF
  · refine oV h hG hF (fun c hc => ?_)
    unfold execOp; rw [ho]; exact fNot_ok hc
  · refine oV h hG hF (fun c hc => ?_)
    unfold execOp; rw [ho]; exact fNeg_ok hc
  · refine oV h hG hF (fun c hc => ?_)
    unfold execOp; rw [ho]; exact fInv_ok hc
  · unfold cmpCv at h
    try simp only [bW, bD] at h
    split at h
    · rename_i k0 k hs hd
      refine oV h hG hF (fun c hc => ?_)
      unfold execOp; rw [ho]; exact fCv_ok hs hd hc
    · rename_i hs hd
      refine oV h hG hF (fun c hc => ?_)
      unfold execOp; rw [ho]; exact fStr_ok hs hd hc
    · simp at h
  · split at h
    · rename_i n e hu
      refine oV h hG hF (fun c hc => ?_)
      unfold execOp; rw [ho]; exact fSp_ok hu hc
    · simp at h
  · split at h
    · rename_i hf
      rw [Option.map_eq_some_iff] at h
      obtain ⟨l, hl, rfl⟩ := h
      unfold execOp; rw [ho]; exact xMf_ok hf hl hG hF
    · simp at h
  · rename_i t l c
    unfold cmpMk at h
    try simp only [bW, bD] at h
    split at h
    · rename_i e hu
      split at h
      · rename_i i z x y hi hz hx hy
        split at h
        · rename_i hb
          rw [Bool.and_eq_true] at hb
          simp only [Option.some.injEq] at h
          subst h
          unfold execOp; rw [ho]; exact xMk_ok hu hi hz (Nat.eq_of_beq_eq_true hb.1) (dK hb.2) hx hy hG hF
        · simp at h
      · simp at h
    · simp at h
  · unfold execOp; rw [ho]; exact cmpSl_ok h hG hF
  · rename_i s x n
    unfold cmpFa at h
    try simp only [bW, bD] at h
    split at h
    · rename_i fs hu
      split at h
      · rename_i fd hf
        split at h
        · rename_i m hz
          refine oV h hG hF (fun c hc => ?_)
          unfold execOp; rw [ho]; exact fFa_ok hu hf hz hc
        · simp at h
      · simp at h
    · simp at h
  · rename_i t x n
    unfold cmpFl at h
    try simp only [bW, bD] at h
    split at h
    · rename_i fs hu
      split at h
      · rename_i fd hf
        split at h
        · rename_i ag m hag hz
          refine oV h hG hF (fun c hc => ?_)
          unfold execOp; rw [ho]; exact fFl_ok hu hf hag hz hc
        · simp at h
      · simp at h
    · simp at h
  · rename_i t x i
    unfold cmpIx at h
    try simp only [bW, bD] at h
    split at h
    · rename_i n e hu
      split at h
      · rename_i s hz
        refine c2_ok h hG hF (fun c d hc hd => ?_)
        unfold execOp; rw [ho]; exact fIa_ok hu hz hc hd
      · simp at h
    · rename_i e hu
      split at h
      · rename_i s hz
        refine c2_ok h hG hF (fun c d hc hd => ?_)
        unfold execOp; rw [ho]; exact fIs_ok hu hz hc hd
      · simp at h
    · simp at h
  · rename_i t x i
    unfold cmpIv at h
    try simp only [bW, bD] at h
    split at h
    · rename_i n e hu
      split at h
      · rename_i ag s hag hz
        refine c2_ok h hG hF (fun c d hc hd => ?_)
        unfold execOp; rw [ho]; exact fIv_ok hu hag hz hc hd
      · simp at h
    · simp at h
  · refine oV h hG hF (fun c hc => ?_)
    unfold execOp; rw [ho]; exact fEx_ok hc
  · rename_i x t
    obtain ⟨cs, e0⟩ := rJ (A := A) ho
    rw [e0, arr1]
    show fE P (vS (Builtin.len_ #[t] o.type #[A.eval x])) β nx (f fr nx)
    unfold cmpLen at h
    try simp only [bW, bD] at h
    split at h
    · rename_i n e hu
      simp only [Option.some.injEq] at h
      subst h
      exact gI (fun w => by simp [Builtin.len_, aF hu, goInt]) ⟨rfl, nofun⟩
    · rename_i ar hu
      split at h
      · rename_i n e hu2
        simp only [Option.some.injEq] at h
        subst h
        exact gI (fun w => by simp [Builtin.len_, aF hu, aF hu2, goInt]) ⟨rfl, nofun⟩
      · simp at h
    · rename_i e hu
      exact oV h hG hF (fun c hc => fLn_ok hu hc)
    · rename_i hu
      exact oV h hG hF (fun c hc => fLs_ok hu hc)
    · simp at h
  · rename_i x y ts
    refine c2_ok h hG hF (fun c d hc hd => ?_)
    obtain ⟨cs, e0⟩ := rJ (A := A) ho
    rw [e0, arr2]; exact fMin_ok hc hd
  · rename_i x y ts
    refine c2_ok h hG hF (fun c d hc hd => ?_)
    obtain ⟨cs, e0⟩ := rJ (A := A) ho
    rw [e0, arr2]; exact fMax_ok hc hd
  · simp at h
end
end Go.Proofs.YtcgdimlbbdfdpaaGreatDoor
