/-
  What this statement needs, part 1: the texts of it, one behind the other.
-/
import Derived.WalkKit
import Derived.Lib.Hide
import Derived.Deep.LoopGhost
import Derived.Laws.Bits64b
import Derived.Deep.AppendSrc
import Derived.Laws.IdiomStrings
import Derived.Laws.MakeOwn
import Derived.DataElems
import Derived.Test.YtahoheofpggopaaGreatDoorChecked
import Derived.WalkSpells
import Derived.Laws.BitsLemmas
import Derived.IntWalk
import Derived.WalkLawsBesides
import Derived.Handy
import Derived.Shelf.Spec.BitsCarry
import Derived.Lib.Mul64
import Derived.Lib.BitFns
import Derived.Deep.QuietTactic
import Derived.BigQuiet
import Derived.BigRegion
import Derived.Outline
import Derived.Deep.WholeRow
set_option maxRecDepth 100000
namespace Go.Proofs.YtahoheofpggopaaGreatDoor
open Go Go.RowKit Tryz
structure Ky where
 s:Nat
 p:Nat
 c:Nat
 d:Int
 i:Nat
 n:Nat
structure dO where
 k:Ky
 ps:List Nat
 wd:Bool
 pa:Option Addr
 pc:Nat
structure bW where
 kd:Int
 m:Int
 nu:Nat
 h:Nat
 ks:List dO
 ka:Option Addr
 kc:Nat
structure bU where
 a:Option Addr
 c:Nat
 b:List UInt8
instance instInhabitedScA:Inhabited bU:=⟨⟨none,0,[]⟩⟩
instance instInhabitedKpA:Inhabited dO:=⟨⟨⟨0,0,0,0,0,0⟩,[],false,none,0⟩⟩
instance instInhabitedTmA:Inhabited bW:=⟨⟨0,0,0,0,[],none,0⟩⟩
structure bH where
 n:List Nat:=[]
 o:List Obj:=[]
 a:Option Addr:=none
 t:List bW:=[]
 s:List bU:=[]
 b:Option Addr:=none
 d:Option Addr:=none
structure Eff where
 news:List (Nat × Obj):=[]
 puts:List (Nat × Nat × Obj):=[]
def dL (T:Nat→Prop) (F:World→Prop) (w:World):Prop :=
 ∃ S:Nat→Prop,(∀ b,S b→b<w.heap.size∧¬ T b)∧∀ w',(∀ b,S b→w'.heap[b]? = w.heap[b]?)→F w'
theorem dL.now {T:Nat→Prop} {F:World→Prop} {w:World} (h:dL T F w):F w:=by
 obtain ⟨S,_,h2⟩:=h;exact h2 w (fun _ _=>rfl)
structure nN (X:Nat→Prop) (w w':World):Prop where
 os:w'.os=w.os
 tape:w'.tape=w.tape
 output:w'.output=w.output
 size:w.heap.size≤w'.heap.size
 block:∀ k,k<w.heap.size→¬ X k→w'.heap[k]? = w.heap[k]?
theorem nN.refl (X:Nat→Prop) (w:World):nN X w w:=⟨rfl,rfl,rfl,Nat.le_refl _,fun _ _ _=>rfl⟩
theorem nN.of_below {X:Nat→Prop} {w w':World} (h:Below w.heap.size w w'):nN X w w':=⟨h.os,h.tape,h.output,h.size,fun k hk _=>h.block k hk⟩
theorem nN.trans {X:Nat→Prop} {a b c:World} (h:nN X a b) (k:nN X b c):nN X a c :=
 ⟨k.os.trans h.os,k.tape.trans h.tape,k.output.trans h.output,Nat.le_trans h.size k.size,fun i hi hx=>(k.block i (Nat.lt_of_lt_of_le hi h.size) hx).trans (h.block i hi hx)⟩
structure Base where
 w:World
 ws:List Nat
def Base.ok (B:Base) (b:Nat):Prop:=B.w.heap.size≤b∨b∈B.ws
abbrev Base.Since (B:Base) (w:World):Prop:=nN (fun b=>b∈B.ws) B.w w
theorem dL.upd {T T' X:Nat→Prop} {F:World→Prop} {w w':World} (h:dL T F w) (hu:nN X w w') (hX:∀ b,X b→T b) (hT:∀ b,T' b→T b∨w.heap.size≤b):dL T' F w':=by
 obtain ⟨S,h1,h2⟩:=h
 refine ⟨S,fun b hb=>⟨Nat.lt_of_lt_of_le (h1 b hb).1 hu.size,fun hT'=>?_⟩,fun w'' hw=>h2 w'' (fun b hb=>?_)⟩
 ·rcases hT b hT' with h3 | h3
  ·exact (h1 b hb).2 h3
  ·exact absurd (h1 b hb).1 (by omega)
 ·rw [hw b hb];exact hu.block b (h1 b hb).1 (fun hx=>(h1 b hb).2 (hX b hx))
def opv (P : Program) (s : Sem Next) (w : World) (K : Value → World → Prop) : Prop :=
 match s.run P w with
 | .ok (.value v) w'=>K v w'
 | .ok .skip w'=>K undef w'
 | .ok (.enter f args) w' => Calls P f args w' fun e w'' => match e with
   | .returned v=>K v w''
   | _=>False
 | _=>False
theorem wp_of_opv {P:Program} {o:Oper} {a:Act} {w:World} {K:Value→World→Prop} {N:Act→World→Prop} {Q:Exit→Act→World→Prop}
 (h:opv P (execOp a.eval o) w K) (hK:∀ v w',K v w'→N (a.put o.dst v) w'):o.wp P a w N Q:=by
 unfold opv at h
 unfold Oper.wp
 generalize (execOp a.eval o).run P w=r at h
 cases r with
 | ok n w' =>
   cases n<;>simp only [Oper.upon] at h ⊢
   case value v=>exact hK _ _ h
   case skip=>exact hK _ _ h
   case enter f args =>
    refine Calls.mono h fun e w'' he=>?_
    cases e with
    | returned v=>exact hK _ _ he
    | panicked c=>exact he.elim
    | outgrown=>exact he.elim
 | halt x w'=>exact h.elim
def mV (D:List Nat) (i j:Nat):Bool:=(D.getD i 0).testBit j
def edgesOf (ops:Array Oper) (i:Nat):List Nat:=((ops[i]?).map fun o=>((o.after.toList.filter (Region.binds .any)).map (·.on))).getD []
def DOk (ops:Array Oper) (D:List Nat):Bool :=
 (List.range ops.size).all fun i=>decide (D.getD i 0<2^i)&&(List.range i).all fun j=> !mV D i j||((edgesOf ops i).any fun e=>e==j||mV D e j)
def DSeq (n:Nat) (D:List Nat):Bool:=(List.range n).all fun i=>D.getD i 0==2^i-1
def lI (ops:Array Oper) (i:Nat):Option Nat:=(ops[i]?).bind (·.dst)
def vY (ops:Array Oper) (n:Nat):Bool :=
 (List.range ops.size).all fun i=>((lI ops i).map fun t=>decide (t<n)).getD true&&(List.range i).all fun j=>(lI ops i).isNone||lI ops i != lI ops j
def writer (ops:Array Oper) (t:Nat):Option Nat:=(List.range ops.size).find? fun i=>lI ops i==some t
section
variable (P : Program) (ops : Array Oper) (D : List Nat) (l : List (Nat × Value)) (w0 : Base) (h : List (Nat × Obj)) (F0 : World → Prop)
variable (vals : (Nat → bH) → Nat → Value) (effs : (Nat → bH) → Nat → Eff) (fact : (Nat → bH) → Nat → World → Prop)
structure Fr (n:Nat) (l:List (Nat × Value)) (A:Act):Prop where
 defers:A.defers=[]
 size:A.tmps.size=n
 slot:∀ t v,l.lookup t=some v→A.tmps[t]? = some v
def lookAt (V:Nat→Value) (i t:Nat):Value :=
 match writer ops t with
 | none=>(l.lookup t).getD undef
 | some j=>if mV D i j then V j else (l.lookup t).getD undef
def lookOk (i t:Nat):Bool :=
 match writer ops t with
 | none=>(l.lookup t).isSome
 | some j=>mV D i j||((decide (j=i)||mV D j i)&&(l.lookup t).isSome)
def dC (V:Nat→Value) (i:Nat):Operand→Value
 | .tmp t=>lookAt ops D l V i t
 | .const v=>v
 | .global g=>.pointer (some ⟨g,0,none⟩)
 | .func f=>.func (.func f) #[] #[]
def opLooksOk (i:Nat) (o:Oper):Bool :=
 (o.op.operands.all fun x=>match x with | .tmp t=>lookOk ops D l i t | _=>true)&&(match o.op with | .select _ _=>false | _=>true) &&
 (match o.guard with | none=>true | some (j,_)=>mV D i j&&(lI ops j).isSome)
def wW:Bool:=(List.range ops.size).all fun i=>((ops[i]?).map (opLooksOk ops D l i)).getD true
def fM (V:Nat→Value) (o:Oper):Bool :=
 match o.guard with
 | none=>true
 | some (j,b)=>match V j with | .bool c=>c==b | _=>false
def blk (E:Nat→Eff) (n:Nat):Option (Nat × Obj):=if n<h.length then h[n]? else (E ((n-h.length) / 8)).news[(n-h.length)%8]?
def cur (E:Nat→Eff) (m:Nat) (L:Nat→Bool) (n:Nat) (x:Nat × Obj):Nat × Obj :=
 (List.range m).foldl (fun c j=>if L j then ((E j).puts.lookup n).getD c else c) x
def born (L:Nat→Bool) (n:Nat):Bool:=decide (n<h.length)||L ((n-h.length) / 8)
def okN (E:Nat→Eff) (i n:Nat):Bool :=
 born h (mV D i) n&&(List.range ops.size).all fun j=>((E j).puts.lookup n).isNone||mV D i j||mV D j i||decide (j=i)
def Tof (E:Nat→Eff) (L:Nat→Bool):Nat→Prop:=fun b=>∃ n x,born h L n=true∧blk h E n=some x∧b=(cur E ops.size L n x).1
def upd (ρ:Nat→bH) (i:Nat) (r:bH):Nat→bH:=fun j=>if j=i then r else ρ j
def After (i : Nat) (ρ : Nat → bH) (T : Nat → Prop) (w : World) (v : Value) (w' : World) : Prop :=
 ∃ r : bH, v = vals (upd ρ i r) i ∧
   nN (fun b=>∃ n y x,(n,y)∈(effs (upd ρ i r) i).puts∧blk h (effs ρ) n=some x∧b=(cur (effs ρ) ops.size (mV D i) n x).1) w w' ∧
   (∀ n y,(n,y)∈(effs (upd ρ i r) i).puts→okN ops D h (effs ρ) i n=true∧∃ x,blk h (effs ρ) n=some x∧w'.heap[(((effs (upd ρ i r) i).puts.lookup n).getD y).1]? = some (((effs (upd ρ i r) i).puts.lookup n).getD y).2 ∧
    ((((effs (upd ρ i r) i).puts.lookup n).getD y).1=(cur (effs ρ) ops.size (mV D i) n x).1∨w.heap.size≤(((effs (upd ρ i r) i).puts.lookup n).getD y).1∧(∀ n' y',(n',y')∈(effs (upd ρ i r) i).puts→n'=n)∧(effs (upd ρ i r) i).news=[])) ∧
   (∀ (k b:Nat) (o:Obj),(effs (upd ρ i r) i).news[k]? = some (b,o)→w.heap.size≤b∧w'.heap[b]? = some o) ∧
   ((effs (upd ρ i r) i).news.map (·.1)).Nodup ∧
   dL (fun b=>T b∨b∈(effs (upd ρ i r) i).news.map (·.1)∨b∈(effs (upd ρ i r) i).puts.map (·.2.1)) (fact (upd ρ i r) i) w'
structure Given (i:Nat) (ρ:Nat→bH) (T:Nat→Prop) (w:World):Prop where
 lt:∀ b,T b→b<w.heap.size
 below:w0.Since w
 block:∀ n x,blk h (effs ρ) n=some x→okN ops D h (effs ρ) i n=true→w.heap[(cur (effs ρ) ops.size (mV D i) n x).1]? = some (cur (effs ρ) ops.size (mV D i) n x).2∧T (cur (effs ρ) ops.size (mV D i) n x).1∧w0.ok (cur (effs ρ) ops.size (mV D i) n x).1
 ne:∀ n n' x x',n≠n'→blk h (effs ρ) n=some x→blk h (effs ρ) n'=some x'→okN ops D h (effs ρ) i n=true→okN ops D h (effs ρ) i n'=true→(cur (effs ρ) ops.size (mV D i) n x).1≠(cur (effs ρ) ops.size (mV D i) n' x').1
 facts0:dL T F0 w
 facts:∀ j,mV D i j=true→dL T (fact ρ j) w
def jV (i:Nat):Prop:=∀ o,ops[i]? = some o→∀ ρ T w,Given ops D w0 h F0 effs fact i ρ T w →
 if fM (vals ρ) o then opv P (execOp (dC ops D l (vals ρ) i) o) w (After ops D h vals effs fact i ρ T w) else After ops D h vals effs fact i ρ T w undef w
def Loc (i:Nat):Prop:=∀ ρ ρ':Nat→bH,(∀ j,j=i∨mV D i j=true→ρ j=ρ' j)→vals ρ i=vals ρ' i∧effs ρ i=effs ρ' i∧fact ρ i=fact ρ' i
structure RInv (a:Act) (L:Nat→Bool) (A:Act) (w:World) (ρ:Nat→bH):Prop where
 defers:A.defers=a.defers
 len:A.tmps.size=a.tmps.size
 lsz:∀ i,L i=true→i<ops.size
 done:∀ i t,lI ops i=some t→L i=true→A.tmps[t]? = some (vals ρ i)
 kept:∀ t,(∀ i,i<ops.size→lI ops i=some t→L i=false)→A.tmps[t]? = a.tmps[t]?
 closed:∀ i j,L i=true→mV D i j=true→L j=true
 below:w0.Since w
 live:∀ n x,blk h (effs ρ) n=some x→born h L n=true→w0.ok (cur (effs ρ) ops.size L n x).1∧w.heap[(cur (effs ρ) ops.size L n x).1]? = some (cur (effs ρ) ops.size L n x).2
 inj:∀ n n' x x',n≠n'→blk h (effs ρ) n=some x→blk h (effs ρ) n'=some x'→born h L n=true→born h L n'=true→(cur (effs ρ) ops.size L n x).1≠(cur (effs ρ) ops.size L n' x').1
 facts0:dL (Tof ops h (effs ρ) L) F0 w
 facts:∀ i,L i=true→dL (Tof ops h (effs ρ) L) (fact ρ i) w
 putsOk:∀ i n y,L i=true→(n,y)∈(effs ρ i).puts→born h L n=true
end
theorem qA {α:Type} {l:List (Nat × α)} {n:Nat} (h:l.lookup n=none):∀ o,(n,o) ∉ l:=by
 intro o hm
 induction l with
 | nil=>simp at hm
 | cons x l ih =>
   obtain ⟨k,v⟩:=x
   rw [List.lookup_cons] at h
   by_cases hk:(n==k)=true
   ·rw [hk] at h;simp at h
   ·have hk' : (n == k) = false := by simpa using hk
    rw [hk'] at h
    rcases List.mem_cons.1 hm with h1 | h1
    ·simp only [Prod.mk.injEq] at h1;rw [h1.1] at hk';simp at hk'
    ·exact ih h h1
theorem fV {α:Type} {l:List (Nat × α)} {n:Nat} {o:α} (h:l.lookup n=some o):(n,o)∈l:=by
 induction l with
 | nil=>simp at h
 | cons x l ih =>
   obtain ⟨k,v⟩:=x
   rw [List.lookup_cons] at h
   by_cases hk:(n==k)=true
   ·rw [hk] at h
    have e:n=k:=by simpa using hk
    simp only [Option.some.injEq] at h
    rw [e,h];exact List.mem_cons_self
   ·have hk' : (n == k) = false := by simpa using hk
    rw [hk'] at h
    exact List.mem_cons_of_mem _ (ih h)
theorem nC {l:List (Nat × Value)} {n:Nat} {o:Value} (h:l.lookup n=some o):(n,o)∈l:=fV h
theorem fold_congr {α:Type} {l:List Nat} {f g:α→Nat→α} (h:∀ c j,j∈l→f c j=g c j):∀ c,l.foldl f c=l.foldl g c:=by
 induction l with
 | nil=>intro c;rfl
 | cons x l ih =>
   intro c
   simp only [List.foldl_cons]
   rw [h c x List.mem_cons_self]
   exact ih (fun c j hj=>h c j (List.mem_cons_of_mem _ hj)) _
theorem fold_id {α:Type} {l:List Nat} {f:α→Nat→α} (h:∀ c j,j∈l→f c j=c):∀ c,l.foldl f c=c:=by
 induction l with
 | nil=>intro c;rfl
 | cons x l ih =>
   intro c
   simp only [List.foldl_cons]
   rw [h c x List.mem_cons_self]
   exact ih (fun c j hj=>h c j (List.mem_cons_of_mem _ hj)) _
theorem cur_congr {E E':Nat→Eff} {m:Nat} {L L':Nat→Bool} {n:Nat} {o:Nat × Obj}
 (hh:∀ j,j<m→(if L j then ((E j).puts.lookup n) else none)=(if L' j then ((E' j).puts.lookup n) else none)):cur E m L n o=cur E' m L' n o:=by
 unfold cur
 apply fold_congr
 intro c j hj
 have:=hh j (List.mem_range.1 hj)
 by_cases h1:L j=true<;>by_cases h2:L' j=true<;>simp only [h1,h2,if_true,if_false,Bool.false_eq_true] at this ⊢
 ·rw [this]
 ·rw [this];rfl
 ·rw [← this];rfl
theorem cur_last {E:Nat→Eff} {m i:Nat} {L:Nat→Bool} {n:Nat} {o x:Nat × Obj} (him:i<m) (hi:L i=true) (hx:(E i).puts.lookup n=some x)
 (hl:∀ j,i<j→j<m→L j=true→(E j).puts.lookup n=none):cur E m L n o=x:=by
 unfold cur
 obtain ⟨k,rfl⟩:∃ k,m=(i+1)+k:=⟨m-(i+1),by omega⟩
 rw [List.range_add,List.foldl_append,List.range_succ,List.foldl_append]
 simp only [List.foldl_cons,List.foldl_nil,hi,hx,if_true,Option.getD_some]
 apply fold_id
 intro c j hj
 rw [List.mem_map] at hj
 obtain ⟨j',hj',rfl⟩:=hj
 have hj'':=List.mem_range.1 hj'
 by_cases hL:L (i+1+j')=true
 ·rw [if_pos hL,hl _ (by omega) (by omega) hL];rfl
 ·rw [if_neg hL]
theorem dstOf_lt {ops:Array Oper} {i t:Nat} (h:lI ops i=some t):i<ops.size:=by
 unfold lI at h
 by_cases hl:i<ops.size
 ·exact hl
 ·rw [Array.getElem?_eq_none (by omega)] at h;exact absurd h (by simp)
theorem dst_inj {ops:Array Oper} {n i j t:Nat} (h:vY ops n=true) (hi:lI ops i=some t) (hj:lI ops j=some t):i=j:=by
 have key:∀ i j,j<i→lI ops i=some t→lI ops j=some t→False:=by
  intro i j hlt hi hj
  unfold vY at h
  rw [List.all_eq_true] at h
  have h1:=h i (List.mem_range.2 (dstOf_lt hi))
  rw [Bool.and_eq_true,List.all_eq_true] at h1
  have h2:=h1.2 j (List.mem_range.2 hlt)
  rw [hi,hj] at h2
  simp at h2
 rcases Nat.lt_trichotomy i j with hlt | rfl | hlt
 ·exact (key j i hlt hj hi).elim
 ·rfl
 ·exact (key i j hlt hi hj).elim
theorem dst_in {ops:Array Oper} {n i t:Nat} (h:vY ops n=true) (hi:lI ops i=some t):t<n:=by
 unfold vY at h
 rw [List.all_eq_true] at h
 have h1:=h i (List.mem_range.2 (dstOf_lt hi))
 rw [Bool.and_eq_true] at h1
 have h2:=h1.1
 rw [hi] at h2
 simpa using h2
theorem put_get (A:Act) (dst:Option Nat) (v:Value) (t:Nat):(A.put dst v).tmps[t]? = if dst=some t∧t<A.tmps.size then some v else A.tmps[t]? := by
 cases dst with
 | none=>simp [Act.put]
 | some d =>
   simp only [Act.put,Array.getElem?_setIfInBounds,Option.some.injEq]
   by_cases h:d=t
   ·subst h
    by_cases hl:d<A.tmps.size
    ·simp [hl]
    ·simp [hl]
   ·simp [h]
theorem writer_some {ops:Array Oper} {t j:Nat} (h:writer ops t=some j):lI ops j=some t:=by
 unfold writer at h
 have:=List.find?_some h
 simpa using this
theorem writer_none {ops:Array Oper} {t:Nat} (h:writer ops t=none):∀ i,i<ops.size→lI ops i≠some t:=by
 unfold writer at h
 rw [List.find?_eq_none] at h
 intro i hi he
 exact h i (List.mem_range.2 hi) (by simp [he])
section
variable {P : Program} {ops : Array Oper} {D : List Nat} {l : List (Nat × Value)} {a : Act} {w0 : Base} {h : List (Nat × Obj)} {F0 : World → Prop}
variable {vals : (Nat → bH) → Nat → Value} {effs : (Nat → bH) → Nat → Eff} {fact : (Nat → bH) → Nat → World → Prop} {Q : Exit → Act → World → Prop}
theorem eval_eq {L : Nat → Bool} {A : Act} {w : World} {ρ : Nat → bH} (hI : RInv ops D w0 h F0 vals effs fact a L A w ρ) (hok : vY ops a.tmps.size = true) {i : Nat} (hi : L i = false)
 (hd:∀ j,mV D i j=true→L j=true) {x:Operand} (hx:(match x with | .tmp t=>lookOk ops D l i t | _=>true)=true) (hfr:Fr a.tmps.size l a):dC ops D l (vals ρ) i x=A.eval x:=by
 cases x with
 | tmp t =>
   simp only at hx
   unfold dC lookAt
   unfold lookOk at hx
   simp only [Act.eval]
   cases hw:writer ops t with
   | none =>
     rw [hw] at hx
     obtain ⟨v,hv⟩:=Option.isSome_iff_exists.1 hx
     rw [Array.getD_eq_getD_getElem?,hI.kept t (fun j hj hjt=>absurd hjt (writer_none hw j hj)),hv,hfr.slot t v hv]
   | some j =>
     rw [hw] at hx
     have hjt:=writer_some hw
     simp only [] at hx ⊢
     by_cases hdj:mV D i j=true
     ·rw [if_pos hdj,Array.getD_eq_getD_getElem?,hI.done j t hjt (hd j hdj)];rfl
     ·rw [if_neg hdj]
      have hdj':mV D i j=false:=by simpa using hdj
      rw [hdj',Bool.false_or,Bool.and_eq_true] at hx
      obtain ⟨hx,hv⟩:=hx
      obtain ⟨v,hv⟩:=Option.isSome_iff_exists.1 hv
      have hLj:L j=false:=by
       cases hb:L j with
       | false=>rfl
       | true =>
         simp at hx
         rcases hx with rfl | hx
         ·rw [hi] at hb;exact hb.symm
         ·rw [hI.closed j i hb hx] at hi;exact absurd hi (by simp)
      rw [Array.getD_eq_getD_getElem?,hI.kept t (fun k hk hkt=>by rw [dst_inj hok hkt hjt];exact hLj),hv,hfr.slot t v hv]
 | const v=>rfl
 | global g=>rfl
 | func f=>rfl
theorem want_eq {L:Nat→Bool} {A:Act} {w:World} {ρ:Nat→bH} (hI:RInv ops D w0 h F0 vals effs fact a L A w ρ) {i:Nat} {o:Oper}
 (hd:∀ j,mV D i j=true→L j=true) (hg:(match o.guard with | none=>true | some (j,_)=>mV D i j&&(lI ops j).isSome)=true):Region.wanted o (yielded ops A.tmps)=fM (vals ρ) o:=by
 unfold Region.wanted fM
 cases hgd:o.guard with
 | none=>rfl
 | some gb =>
   obtain ⟨g,b⟩:=gb
   rw [hgd] at hg
   simp only [Bool.and_eq_true] at hg
   obtain ⟨hg1,hg2⟩:=hg
   obtain ⟨t,ht⟩:=Option.isSome_iff_exists.1 hg2
   have h1:=hI.done g t ht (hd g hg1)
   simp only []
   unfold yielded
   rw [show ((ops[g]?).bind (·.dst))=some t from ht]
   simp only [Option.bind_some,h1]
   cases vals ρ g<;>first | rfl | (simp only [];rename_i c;cases c<;>cases b<;>rfl)
theorem pU {L L':Nat→Bool} {n:Nat} (hh:∀ j,L j=true→L' j=true) (hb:born h L n=true):born h L' n=true:=by
 unfold born at *
 rw [Bool.or_eq_true] at *
 exact hb.imp id (hh _)
theorem blk_congr {E E':Nat→Eff} {n:Nat} (hh: ¬ n<h.length→E ((n-h.length) / 8)=E' ((n-h.length) / 8)):blk h E n=blk h E' n:=by
 unfold blk
 by_cases hn:n<h.length
 ·rw [if_pos hn,if_pos hn]
 ·rw [if_neg hn,if_neg hn,hh hn]
theorem xK {L:Nat→Bool} {A:Act} {w:World} {ρ:Nat→bH} (hI:RInv ops D w0 h F0 vals effs fact a L A w ρ) {i:Nat} (hi:L i=false)
 (hd:∀ j,mV D i j=true→L j=true) {n:Nat} (hok:okN ops D h (effs ρ) i n=true) (x:Nat × Obj):cur (effs ρ) ops.size (mV D i) n x=cur (effs ρ) ops.size L n x:=by
 unfold okN at hok
 rw [Bool.and_eq_true,List.all_eq_true] at hok
 symm
 apply cur_congr
 intro j hj
 have h3:=hok.2 j (List.mem_range.2 hj)
 by_cases hdj:mV D i j=true
 ·rw [hd j hdj,hdj]
 ·have hdj' : mV D i j = false := by simpa using hdj
  rw [hdj'] at h3 ⊢
  simp only [Bool.or_false,Bool.or_eq_true,decide_eq_true_eq] at h3
  rw [if_neg (c:=(false=true)) (by simp)]
  by_cases hLj:L j=true
  ·rw [if_pos hLj]
   rcases h3 with (h3 | h3) | h3
   ·simpa using h3
   ·rw [hI.closed j i hLj h3] at hi;exact absurd hi (by simp)
   ·rw [h3,hi] at hLj;exact absurd hLj (by simp)
  ·rw [if_neg hLj]
theorem wJ {E:Nat→Eff} {i n:Nat} (hok:okN ops D h E i n=true):born h (mV D i) n=true:=by
 unfold okN at hok
 rw [Bool.and_eq_true] at hok
 exact hok.1
theorem given_of {L:Nat→Bool} {A:Act} {w:World} {ρ:Nat→bH} (hI:RInv ops D w0 h F0 vals effs fact a L A w ρ) {i:Nat} (hi:L i=false)
 (hd:∀ j,mV D i j=true→L j=true):Given ops D w0 h F0 effs fact i ρ (Tof ops h (effs ρ) L) w:=by
 refine ⟨?_,hI.below,?_,?_,hI.facts0,fun j hj=>hI.facts j (hd j hj)⟩
 ·rintro b ⟨n, x, hb, hn, rfl⟩
  have h1:=(hI.live n x hn hb).2
  by_cases hl:(cur (effs ρ) ops.size L n x).1<w.heap.size
  ·exact hl
  ·rw [Array.getElem?_eq_none (by omega)] at h1;exact absurd h1 (by simp)
 ·intro n x hn hok
  have hb:=pU hd (wJ hok)
  obtain ⟨h1,h2⟩:=hI.live n x hn hb
  rw [xK hI hi hd hok x]
  exact ⟨h2,⟨n,x,hb,hn,rfl⟩,h1⟩
 ·intro n n' x x' hne hn hn' hk hk'
  rw [xK hI hi hd hk x,xK hI hi hd hk' x']
  exact hI.inj n n' x x' hne hn hn' (pU hd (wJ hk)) (pU hd (wJ hk'))
def oP (L:Nat→Bool) (i:Nat):Nat→Bool:=fun j=>L j||decide (j=i)
theorem after_inv {L : Nat → Bool} {A : Act} {w w' : World} {ρ : Nat → bH} {v : Value} {i : Nat} (hI : RInv ops D w0 h F0 vals effs fact a L A w ρ) (hok : vY ops a.tmps.size = true) (hi : L i = false) (his : i < ops.size)
 (hd:∀ j,mV D i j=true→L j=true) (hlt:∀ j,mV D i j=true→j<i) (hloc:∀ j,j<ops.size→Loc D vals effs fact j)
 (hA:After ops D h vals effs fact i ρ (Tof ops h (effs ρ) L) w v w'):∃ ρ',RInv ops D w0 h F0 vals effs fact a (oP L i) (A.put (lI ops i) v) w' ρ':=by
 obtain ⟨r,rfl,hU,hP,hN,hND,hF⟩:=hA
 have hG:=given_of hI hi hd
 have hii:mV D i i=false:=by
  cases hb:mV D i i with
  | false=>rfl
  | true=>exact absurd (hlt i hb) (by omega)
 have same:∀ j,L j=true→vals (upd ρ i r) j=vals ρ j∧effs (upd ρ i r) j=effs ρ j∧fact (upd ρ i r) j=fact ρ j:=by
  intro j hj
  apply hloc j (hI.lsz j hj)
  intro k hk
  unfold upd
  rw [if_neg]
  rintro rfl
  rcases hk with rfl | hk
  ·rw [hj] at hi;exact absurd hi (by simp)
  ·rw [hI.closed j k hj hk] at hi;exact absurd hi (by simp)
 have bsame:∀ n,born h L n=true→blk h (effs (upd ρ i r)) n=blk h (effs ρ) n:=by
  intro n hb
  apply blk_congr
  intro hn
  unfold born at hb
  rw [decide_eq_false hn,Bool.false_or] at hb
  exact (same _ hb).2.1
 have hX:∀ b,(∃ n y x,(n,y)∈(effs (upd ρ i r) i).puts∧blk h (effs ρ) n=some x∧b=(cur (effs ρ) ops.size (mV D i) n x).1)→Tof ops h (effs ρ) L b:=by
  rintro b ⟨n,y,x,hm,hb,rfl⟩
  have h1:=(hP n y hm).1
  exact ⟨n,x,pU hd (wJ h1),hb,by rw [xK hI hi hd h1]⟩
 have bsplit:∀ n,born h (oP L i) n=true→born h L n=true∨(¬ n<h.length∧(n-h.length) / 8=i):=by
  intro n hb
  unfold born oP at *
  rw [Bool.or_eq_true] at hb
  rcases hb with hb | hb
  ·exact Or.inl (by rw [hb];rfl)
  ·rw [Bool.or_eq_true] at hb
   rcases hb with hb | hb
   ·exact Or.inl (by rw [hb];simp)
   ·by_cases hn : n < h.length
    ·exact Or.inl (by simp [hn])
    ·exact Or.inr ⟨hn,by simpa using hb⟩
 have hnotborn:∀ n,¬ n<h.length→(n-h.length) / 8=i→born h L n=false:=by
  intro n hn he
  unfold born
  rw [decide_eq_false hn,he,hi];rfl
 have hiput:∀ n y,(n,y)∈(effs (upd ρ i r) i).puts→born h L n=true:=fun n y hm=>pU hd (wJ (hP n y hm).1)
 have blt:∀ n x,born h L n=true→blk h (effs ρ) n=some x→(cur (effs ρ) ops.size L n x).1<w.heap.size:=fun n x hb hn=>hG.lt _ ⟨n,x,hb,hn,rfl⟩
 have cNone:∀ n x,(effs (upd ρ i r) i).puts.lookup n=none→cur (effs (upd ρ i r)) ops.size (oP L i) n x=cur (effs ρ) ops.size L n x:=by
  intro n x hl
  apply cur_congr
  intro j hj
  by_cases hji:j=i
  ·subst hji
   rw [hi];unfold oP;simp [hl]
  ·have e1 : oP L i j = L j := by unfold oP; simp [hji]
   rw [e1]
   by_cases hLj:L j=true
   ·rw [if_pos hLj,if_pos hLj,(same j hLj).2.1]
   ·rw [if_neg hLj,if_neg hLj]
 have cSome:∀ n x y,(effs (upd ρ i r) i).puts.lookup n=some y→cur (effs (upd ρ i r)) ops.size (oP L i) n x=y:=by
  intro n x y hl
  have hk1:=(hP n y (fV hl)).1
  apply cur_last his (by unfold oP;simp) hl
  intro j hij hj hLj
  have hji:j≠i:=by omega
  have hLj':L j=true:=by unfold oP at hLj;simpa [hji] using hLj
  rw [(same j hLj').2.1]
  unfold okN at hk1
  rw [Bool.and_eq_true,List.all_eq_true] at hk1
  have h3:=hk1.2 j (List.mem_range.2 hj)
  simp only [Bool.or_eq_true,decide_eq_true_eq] at h3
  rcases h3 with ((h3 | h3) | h3) | h3
  ·simpa using h3
  ·exact absurd (hlt j h3) (by omega)
  ·rw [hI.closed j i hLj' h3] at hi;exact absurd hi (by simp)
  ·exact absurd h3 hji
 have cNew : ∀ n x, ¬ n < h.length → (n - h.length) / 8 = i → cur (effs (upd ρ i r)) ops.size (oP L i) n x = x := by
  intro n x hn1 hn2
  unfold cur
  apply fold_id
  intro c j hj
  by_cases hLj:oP L i j=true
  ·rw [if_pos hLj]
   have hnone:(effs (upd ρ i r) j).puts.lookup n=none:=by
    cases hl:(effs (upd ρ i r) j).puts.lookup n with
    | none=>rfl
    | some x =>
      have hm:=fV hl
      have hbn:born h L n=true:=by
       by_cases hji:j=i
       ·subst hji;exact hiput n x hm
       ·have hLj' : L j = true := by unfold oP at hLj; simpa [hji] using hLj
        rw [(same j hLj').2.1] at hm
        exact hI.putsOk j n x hLj' hm
      rw [hnotborn n hn1 hn2] at hbn
      exact absurd hbn (by simp)
   rw [hnone];rfl
  ·rw [if_neg hLj]
 have pOf:∀ n x y,(effs (upd ρ i r) i).puts.lookup n=some y→blk h (effs ρ) n=some x→w'.heap[y.1]? = some y.2∧(y.1=(cur (effs ρ) ops.size L n x).1∨w.heap.size≤y.1∧(∀ n' y',(n',y')∈(effs (upd ρ i r) i).puts→n'=n)∧(effs (upd ρ i r) i).news=[]):=by
  intro n x y hl hn
  obtain ⟨hk1,x',hx',h1,h2⟩:=hP n y (fV hl)
  rw [hl] at h1 h2
  rw [hn] at hx'
  obtain rfl:x=x':=by simpa using hx'
  rw [xK hI hi hd hk1] at h2
  exact ⟨h1,h2⟩
 have newT:∀ b,Tof ops h (effs (upd ρ i r)) (oP L i) b→Tof ops h (effs ρ) L b∨(w.heap.size≤b∧(b∈(effs (upd ρ i r) i).news.map (·.1)∨b∈(effs (upd ρ i r) i).puts.map (·.2.1))):=by
  rintro b ⟨n,x,hb,hn,rfl⟩
  rcases bsplit n hb with hb | ⟨hn1,hn2⟩
  ·rw [bsame n hb] at hn
   cases hl:(effs (upd ρ i r) i).puts.lookup n with
   | none=>rw [cNone n x hl];exact Or.inl ⟨n,x,hb,hn,rfl⟩
   | some y =>
     rw [cSome n x y hl]
     rcases (pOf n x y hl hn).2 with h1 | h1
     ·rw [h1];exact Or.inl ⟨n,x,hb,hn,rfl⟩
     ·exact Or.inr ⟨h1.1,Or.inr (List.mem_map.2 ⟨(n,y),fV hl,rfl⟩)⟩
  ·right
   rw [cNew n x hn1 hn2]
   unfold blk at hn
   rw [if_neg hn1,hn2] at hn
   exact ⟨(hN _ x.1 x.2 hn).1,Or.inl (List.mem_map.2 ⟨x,List.mem_of_getElem? hn,rfl⟩)⟩
 refine ⟨upd ρ i r,?_,?_,?_,?_,?_,?_,?_,?_,?_,?_,?_,?_⟩
 ·have hd' := hI.defers
  unfold Act.put;split<;>exact hd'
 ·have hl' := hI.len
  unfold Act.put;split
  ·simpa using hl'
  ·exact hl'
 ·intro j hj
  unfold oP at hj
  rw [Bool.or_eq_true] at hj
  rcases hj with hj | hj
  ·exact hI.lsz j hj
  ·have : j = i := by simpa using hj
   omega
 ·intro j t hjt hjl
  rw [put_get]
  by_cases hij:j=i
  ·subst hij
   rw [if_pos ⟨hjt,by rw [hI.len];exact dst_in hok hjt⟩]
  ·have hj : L j = true := by
    unfold oP at hjl
    rw [Bool.or_eq_true] at hjl
    rcases hjl with hjl | hjl
    ·exact hjl
    ·exact absurd (by simpa using hjl) hij
   rw [if_neg (fun hc=>hij (dst_inj hok hjt hc.1)),hI.done j t hjt hj,(same j hj).1]
 ·intro t ht
  rw [put_get]
  by_cases hc:lI ops i=some t
  ·have := ht i his hc
   unfold oP at this
   simp at this
  ·rw [if_neg (fun h => hc h.1)]
   refine hI.kept t (fun j hj hjt=>?_)
   have:=ht j hj hjt
   unfold oP at this
   rw [Bool.or_eq_false_iff] at this
   exact this.1
 ·intro j k hj hk
  unfold oP at *
  rw [Bool.or_eq_true] at *
  left
  rcases hj with hj | hj
  ·exact hI.closed j k hj hk
  ·have e : j = i := by simpa using hj
   rw [e] at hk;exact hd k hk
 ·refine ⟨hU.os.trans hI.below.os, hU.tape.trans hI.below.tape, hU.output.trans hI.below.output, Nat.le_trans hI.below.size hU.size, fun k hk hkw => (hU.block k (Nat.lt_of_lt_of_le hk hI.below.size) ?_).trans (hI.below.block k hk hkw)⟩
  intro hx
  obtain ⟨n,x,hb,hn,e⟩:=hX k hx
  rcases (hI.live n x hn hb).1 with h1 | h1
  ·omega
  ·rw [← e] at h1;exact hkw h1
 · intro n x hn hb
   rcases bsplit n hb with hb | ⟨hn1,hn2⟩
   ·rw [bsame n hb] at hn
    obtain ⟨h1,h2⟩:=hI.live n x hn hb
    cases hl:(effs (upd ρ i r) i).puts.lookup n with
    | none =>
      rw [cNone n x hl]
      refine ⟨h1,(hU.block _ (blt n x hb hn) ?_).trans h2⟩
      rintro ⟨n2,y2,x2,hm,hb2,he⟩
      have hne:n2≠n:=by
       rintro rfl
       exact qA hl y2 hm
      rw [xK hI hi hd (hP n2 y2 hm).1] at he
      exact hI.inj n2 n x2 x hne hb2 hn (hiput n2 y2 hm) hb he.symm
    | some y =>
      rw [cSome n x y hl]
      obtain ⟨q1,q2⟩:=pOf n x y hl hn
      refine ⟨?_,q1⟩
      rcases q2 with q2 | q2
      ·rw [q2];exact h1
      ·exact Or.inl (Nat.le_trans hI.below.size q2.1)
   ·rw [cNew n x hn1 hn2]
    unfold blk at hn
    rw [if_neg hn1,hn2] at hn
    obtain ⟨h1,h2⟩:=hN _ x.1 x.2 hn
    exact ⟨Or.inl (Nat.le_trans hI.below.size h1),h2⟩
 · intro n n' x x' hne hn hn' hb hb'
   rcases bsplit n hb with hb | ⟨hn1,hn2⟩<;>rcases bsplit n' hb' with hb' | ⟨hn1',hn2'⟩
   ·rw [bsame n hb] at hn; rw [bsame n' hb'] at hn'
    have key:=hI.inj n n' x x' hne hn hn' hb hb'
    have l1:=blt n x hb hn
    have l2:=blt n' x' hb' hn'
    cases hl:(effs (upd ρ i r) i).puts.lookup n with
    | none =>
      rw [cNone n x hl]
      cases hl':(effs (upd ρ i r) i).puts.lookup n' with
      | none=>rw [cNone n' x' hl'];exact key
      | some y' =>
        rw [cSome n' x' y' hl']
        rcases (pOf n' x' y' hl' hn').2 with q | q
        ·rw [q];exact key
        ·have:=q.1;omega
    | some y =>
      rw [cSome n x y hl]
      cases hl':(effs (upd ρ i r) i).puts.lookup n' with
      | none =>
        rw [cNone n' x' hl']
        rcases (pOf n x y hl hn).2 with q | q
        ·rw [q];exact key
        ·have:=q.1;omega
      | some y' =>
        rw [cSome n' x' y' hl']
        rcases (pOf n x y hl hn).2 with q | q
        ·rcases (pOf n' x' y' hl' hn').2 with q' | q'
         ·rw [q,q'];exact key
         ·exact absurd (q'.2.1 n y (fV hl)) hne
        ·exact absurd (q.2.1 n' y' (fV hl')).symm hne
   ·rw [bsame n hb] at hn
    have l1:=blt n x hb hn
    rw [cNew n' x' hn1' hn2']
    unfold blk at hn'
    rw [if_neg hn1',hn2'] at hn'
    have h2:=(hN _ x'.1 x'.2 hn').1
    cases hl:(effs (upd ρ i r) i).puts.lookup n with
    | none=>rw [cNone n x hl];omega
    | some y =>
      rw [cSome n x y hl]
      rcases (pOf n x y hl hn).2 with q | q
      ·omega
      ·rw [q.2.2] at hn';simp at hn'
   ·rw [bsame n' hb'] at hn'
    have l1:=blt n' x' hb' hn'
    rw [cNew n x hn1 hn2]
    unfold blk at hn
    rw [if_neg hn1,hn2] at hn
    have h2:=(hN _ x.1 x.2 hn).1
    cases hl:(effs (upd ρ i r) i).puts.lookup n' with
    | none=>rw [cNone n' x' hl];omega
    | some y =>
      rw [cSome n' x' y hl]
      rcases (pOf n' x' y hl hn').2 with q | q
      ·omega
      ·rw [q.2.2] at hn;simp at hn
   ·rw [cNew n x hn1 hn2, cNew n' x' hn1' hn2']
    unfold blk at hn hn'
    rw [if_neg hn1,hn2] at hn
    rw [if_neg hn1',hn2'] at hn'
    intro hxx
    have e:(n-h.length)%8=(n'-h.length)%8:=by
     have q1:((effs (upd ρ i r) i).news.map (·.1))[(n-h.length)%8]? = some x.1:=by rw [List.getElem?_map,hn];rfl
     have q2:((effs (upd ρ i r) i).news.map (·.1))[(n'-h.length)%8]? = some x.1:=by rw [hxx,List.getElem?_map,hn'];rfl
     obtain ⟨l1,q1'⟩:=List.getElem?_eq_some_iff.1 q1
     obtain ⟨l2,q2'⟩:=List.getElem?_eq_some_iff.1 q2
     have hpw:=List.pairwise_iff_getElem.1 hND
     rcases Nat.lt_trichotomy ((n-h.length)%8) ((n'-h.length)%8) with hl | hl | hl
     ·exact absurd (q1'.trans q2'.symm) (hpw _ _ l1 l2 hl)
     ·exact hl
     ·exact absurd (q2'.trans q1'.symm) (hpw _ _ l2 l1 hl)
    omega
 ·refine hI.facts0.upd hU hX ?_
  intro b hb
  rcases newT b hb with h1 | h1
  ·exact Or.inl h1
  ·exact Or.inr h1.1
 ·intro j hj
  by_cases hji:j=i
  ·subst hji
   obtain ⟨S,hS1,hS2⟩:=hF
   exact ⟨S,fun b hb=>⟨(hS1 b hb).1,fun hT=>(hS1 b hb).2 ((newT b hT).imp id (·.2))⟩,hS2⟩
  ·have hLj : L j = true := by unfold oP at hj; simpa [hji] using hj
   rw [(same j hLj).2.2]
   refine (hI.facts j hLj).upd hU hX ?_
   intro b hb
   rcases newT b hb with h1 | h1
   ·exact Or.inl h1
   ·exact Or.inr h1.1
 ·intro j n o hj hm
  have up:∀ n,born h L n=true→born h (oP L i) n=true:=fun n hb=>pU (fun k hk=>by unfold oP;rw [hk];rfl) hb
  by_cases hji:j=i
  ·subst hji;exact up n (hiput n o hm)
  ·have hLj : L j = true := by unfold oP at hj; simpa [hji] using hj
   rw [(same j hLj).2.1] at hm
   exact up n (hI.putsOk j n o hLj hm)
theorem step_inv {L:Nat→Bool} {A:Act} {w:World} {ρ:Nat→bH} {i:Nat} (hI:RInv ops D w0 h F0 vals effs fact a L A w ρ) (hok:vY ops a.tmps.size=true) (hi:L i=false) (his:i<ops.size)
 (hd:∀ j,mV D i j=true→L j=true) (hlt:∀ j,mV D i j=true→j<i) (hlook:wW ops D l=true) (hfr:Fr a.tmps.size l a) (hloc:∀ j,j<ops.size→Loc D vals effs fact j)
 (hobl:jV P ops D l w0 h F0 vals effs fact i):wpOp P ops Q i (fun A' w'=>∃ ρ',RInv ops D w0 h F0 vals effs fact a (oP L i) A' w' ρ') A w:=by
 obtain ⟨o,ho⟩:∃ o,ops[i]? = some o:=⟨_,Array.getElem?_eq_getElem his⟩
 have hlk:opLooksOk ops D l i o=true:=by
  unfold wW at hlook
  rw [List.all_eq_true] at hlook
  have:=hlook i (List.mem_range.2 his)
  rw [ho] at this
  simpa using this
 unfold opLooksOk at hlk
 simp only [Bool.and_eq_true] at hlk
 obtain ⟨⟨k1,k2⟩,k3⟩:=hlk
 have hG:=given_of hI hi hd
 have hO:=hobl o ho ρ _ w hG
 have hw:=want_eq hI hd k3
 have hdst:o.dst=lI ops i:=by unfold lI;rw [ho];rfl
 have hex:execOp (dC ops D l (vals ρ) i) o=execOp A.eval o:=by
  apply execOp_congr
  ·intro cs b hs
   rw [hs] at k2;simp at k2
  ·intro x hx
   rw [Array.all_eq_true_iff_forall_mem] at k1
   exact eval_eq hI hok hi hd (k1 x hx) hfr
 unfold wpOp
 rw [ho]
 simp only []
 rw [hw]
 by_cases hwant:fM (vals ρ) o=true
 ·rw [if_pos hwant] at hO ⊢
  refine Or.inl (wp_of_opv (by rw [← hex];exact hO) (fun v w' hA=>?_))
  rw [hdst]
  exact after_inv hI hok hi his hd hlt hloc hA
 ·rw [if_neg hwant] at hO ⊢
  rw [hdst]
  exact after_inv hI hok hi his hd hlt hloc hO
def tV (ops:Array Oper) (l:List (Nat × Value)) (V:Nat→Value) (keep:List Nat):List (Nat × Value) :=
 keep.map fun t=>(t,match writer ops t with | some j=>V j | none=>(l.lookup t).getD undef)
def keepOk (ops:Array Oper) (l:List (Nat × Value)) (keep:List Nat):Bool:=keep.all fun t=>(writer ops t).isSome||(l.lookup t).isSome
def rJ (m:Nat) (h:List (Nat × Obj)) (E:Nat→Eff):List (Nat × Obj) :=
 (h.mapIdx fun n x=>cur E m (fun _=>true) n x)++(List.range m).flatMap fun j=>((E j).news.take 8).mapIdx fun k x=>cur E m (fun _=>true) (h.length+8*j+k) x
structure St (w0:Base) (h:List (Nat × Obj)) (F:World→Prop) (w:World):Prop where
 below:w0.Since w
 at_:∀ x∈h,w0.ok x.1∧w.heap[x.1]? = some x.2
 nodup:(h.map (·.1)).Nodup
 facts:dL (fun b=>b∈h.map (·.1)) F w
theorem inv_start {w:World} (hS:St w0 h F0 w) (ρ:Nat→bH):RInv ops D w0 h F0 vals effs fact a (fun _=>false) a w ρ:=by
 have hb:∀ n,born h (fun _=>false) n=true→n<h.length:=by
  intro n hh
  unfold born at hh
  simpa using hh
 have hblk:∀ n x,born h (fun _=>false) n=true→blk h (effs ρ) n=some x→h[n]? = some x:=by
  intro n x h1 h2
  unfold blk at h2
  rw [if_pos (hb n h1)] at h2
  exact h2
 have hcur:∀ n x,cur (effs ρ) ops.size (fun _=>false) n x=x:=by
  intro n x
  unfold cur
  exact fold_id (fun c j _=>by simp) x
 refine ⟨rfl,rfl,fun i hi=>by simp at hi,fun i t _ hi=>by simp at hi,fun _ _=>rfl,fun i j hi=>by simp at hi,hS.below,?_,?_,?_,fun i hi=>by simp at hi,fun i n o hi=>by simp at hi⟩
 ·intro n x hn hh
  have h1:=hblk n x hh hn
  rw [hcur]
  exact hS.at_ x (List.mem_of_getElem? h1)
 ·intro n n' x x' hne hn hn' h1 h2
  have q1:=hblk n x h1 hn
  have q2:=hblk n' x' h2 hn'
  rw [hcur,hcur]
  intro hxx
  have hpw:=List.pairwise_iff_getElem.1 hS.nodup
  have p1:(h.map (·.1))[n]? = some x.1:=by rw [List.getElem?_map,q1];rfl
  have p2:(h.map (·.1))[n']? = some x.1:=by rw [hxx,List.getElem?_map,q2];rfl
  obtain ⟨l1,p1'⟩:=List.getElem?_eq_some_iff.1 p1
  obtain ⟨l2,p2'⟩:=List.getElem?_eq_some_iff.1 p2
  rcases Nat.lt_trichotomy n n' with hl | hl | hl
  ·exact absurd (p1'.trans p2'.symm) (hpw _ _ l1 l2 hl)
  ·exact hne hl
  ·exact absurd (p2'.trans p1'.symm) (hpw _ _ l2 l1 hl)
 ·obtain ⟨S, hS1, hS2⟩ := hS.facts
  refine ⟨S,fun b hbS=>⟨(hS1 b hbS).1,?_⟩,hS2⟩
  rintro ⟨n,x,h1,h2,rfl⟩
  rw [hcur] at hbS
  exact (hS1 _ hbS).2 (List.mem_map.2 ⟨x,List.mem_of_getElem? (hblk n x h1 h2),rfl⟩)
theorem RInv.congrL {L L':Nat→Bool} {A:Act} {w:World} {ρ:Nat→bH} (hI:RInv ops D w0 h F0 vals effs fact a L A w ρ) (he:∀ i,L i=L' i):RInv ops D w0 h F0 vals effs fact a L' A w ρ:=by
 rw [← funext he];exact hI
theorem inv_end {L : Nat → Bool} {A : Act} {w : World} {ρ : Nat → bH} (hI : RInv ops D w0 h F0 vals effs fact a L A w ρ) (hL : ∀ i, i < ops.size → L i = true) (hfr : Fr a.tmps.size l a) :
 (∀ keep,keepOk ops l keep=true→Fr a.tmps.size (tV ops l (vals ρ) keep) A)∧St w0 (rJ ops.size h (effs ρ)) (fun w=>F0 w∧∀ i,i<ops.size→fact ρ i w) w:=by
 refine ⟨?_,?_⟩
 ·intro keep hkeep
  refine ⟨hI.defers.trans hfr.defers,hI.len,fun t v hv=>?_⟩
  have hm:=nC hv
  unfold tV at hm
  obtain ⟨t',ht',he⟩:=List.mem_map.1 hm
  simp only [Prod.mk.injEq] at he
  obtain ⟨rfl,rfl⟩:=he
  unfold keepOk at hkeep
  rw [List.all_eq_true] at hkeep
  have hk:=hkeep t' ht'
  cases hw:writer ops t' with
  | none =>
    rw [hw] at hk
    obtain ⟨v,hv⟩:=Option.isSome_iff_exists.1 (show (l.lookup t').isSome=true from by simpa using hk)
    rw [hI.kept t' (fun i hi hit=>absurd hit (writer_none hw i hi)),hv]
    exact hfr.slot t' v hv
  | some j =>
    have hjt:=writer_some hw
    rw [hI.done j t' hjt (hL j (dstOf_lt hjt))]
 ·have curL : ∀ n x, cur (effs ρ) ops.size (fun _ => true) n x = cur (effs ρ) ops.size L n x := by
   intro n x
   apply cur_congr
   intro j hj
   rw [hL j hj]
  have nb:∀ j k x,j<ops.size→k<8→(effs ρ j).news[k]? = some x→born h L (h.length+8*j+k)=true∧blk h (effs ρ) (h.length+8*j+k)=some x:=by
   intro j k x hj hk hq
   constructor
   ·unfold born
    rw [show (h.length+8*j+k-h.length) / 8=j by omega,hL j hj];simp
   ·unfold blk
    rw [if_neg (by omega),show (h.length+8*j+k-h.length) / 8=j by omega,show (h.length+8*j+k-h.length)%8=k by omega,hq]
  have ob:∀ n x,h[n]? = some x→born h L n=true∧blk h (effs ρ) n=some x:=by
   intro n x hq
   have hl:n<h.length:=(List.getElem?_eq_some_iff.1 hq).1
   exact ⟨by unfold born;simp [hl],by unfold blk;rw [if_pos hl,hq]⟩
  have g1:∀ n y,(h.mapIdx fun n x=>cur (effs ρ) ops.size (fun _=>true) n x)[n]? = some y→∃ x,born h L n=true∧blk h (effs ρ) n=some x∧y=cur (effs ρ) ops.size L n x:=by
   intro n y hn
   rw [List.getElem?_mapIdx] at hn
   cases hq:h[n]? with
   | none=>rw [hq] at hn;simp at hn
   | some x =>
     rw [hq] at hn
     simp only [Option.map_some,Option.some.injEq] at hn
     exact ⟨x,(ob n x hq).1,(ob n x hq).2,by rw [← hn,curL]⟩
  have g2:∀ j k y,j<ops.size→(((effs ρ j).news.take 8).mapIdx fun k x=>cur (effs ρ) ops.size (fun _=>true) (h.length+8*j+k) x)[k]? = some y→k<8∧∃ x,born h L (h.length+8*j+k)=true∧blk h (effs ρ) (h.length+8*j+k)=some x∧y=cur (effs ρ) ops.size L (h.length+8*j+k) x:=by
   intro j k y hj hk
   rw [List.getElem?_mapIdx] at hk
   have hk8:k<8:=by
    by_cases h':k<8
    ·exact h'
    ·rw [List.getElem?_take_eq_none (by omega)] at hk;simp at hk
   rw [List.getElem?_take_of_lt hk8] at hk
   cases hq:(effs ρ j).news[k]? with
   | none=>rw [hq] at hk;simp at hk
   | some x =>
     rw [hq] at hk
     simp only [Option.map_some,Option.some.injEq] at hk
     exact ⟨hk8,x,(nb j k x hj hk8 hq).1,(nb j k x hj hk8 hq).2,by rw [← hk,curL]⟩
  have memH:∀ y∈rJ ops.size h (effs ρ),∃ n x,born h L n=true∧blk h (effs ρ) n=some x∧y=cur (effs ρ) ops.size L n x:=by
   intro y hy
   unfold rJ at hy
   rcases List.mem_append.1 hy with hy | hy
   ·obtain ⟨n, hn⟩ := List.mem_iff_getElem?.1 hy
    obtain ⟨x,q⟩:=g1 n y hn
    exact ⟨n,x,q⟩
   ·obtain ⟨j, hj, hy⟩ := List.mem_flatMap.1 hy
    obtain ⟨k,hk⟩:=List.mem_iff_getElem?.1 hy
    obtain ⟨_,x,q⟩:=g2 j k y (List.mem_range.1 hj) hk
    exact ⟨_,x,q⟩
  refine ⟨hI.below,?_,?_,?_⟩
  ·intro y hy
   obtain ⟨n,x,hb,hn,rfl⟩:=memH y hy
   exact hI.live n x hn hb
  ·unfold rJ
   rw [List.nodup_iff_pairwise_ne,List.pairwise_map]
   refine List.pairwise_append.2 ⟨?_,?_,?_⟩
   ·refine List.pairwise_iff_getElem.2 (fun i j hi hj hij => ?_)
    obtain ⟨x,b1,k1,e1⟩:=g1 i _ (List.getElem?_eq_getElem hi)
    obtain ⟨x',b2,k2,e2⟩:=g1 j _ (List.getElem?_eq_getElem hj)
    rw [e1,e2]
    exact hI.inj i j x x' (by omega) k1 k2 b1 b2
   ·refine List.pairwise_flatMap.2 ⟨?_, ?_⟩
    ·intro j hj
     refine List.pairwise_iff_getElem.2 (fun i i' hi hi' hij=>?_)
     obtain ⟨_,x,b1,k1,e1⟩:=g2 j i _ (List.mem_range.1 hj) (List.getElem?_eq_getElem hi)
     obtain ⟨_,x',b2,k2,e2⟩:=g2 j i' _ (List.mem_range.1 hj) (List.getElem?_eq_getElem hi')
     rw [e1,e2]
     exact hI.inj _ _ x x' (by omega) k1 k2 b1 b2
    ·refine List.pairwise_iff_getElem.2 (fun i i' hi hi' hij => ?_)
     intro y hy y' hy'
     simp only [List.getElem_range] at hy hy'
     obtain ⟨k,hk⟩:=List.mem_iff_getElem?.1 hy
     obtain ⟨k',hk'⟩:=List.mem_iff_getElem?.1 hy'
     obtain ⟨l1,x,b1,k1,e1⟩:=g2 i k y (by simpa using hi) hk
     obtain ⟨l2,x',b2,k2,e2⟩:=g2 i' k' y' (by simpa using hi') hk'
     rw [e1,e2]
     exact hI.inj _ _ x x' (by omega) k1 k2 b1 b2
   ·intro y hy y' hy'
    obtain ⟨n,hn⟩:=List.mem_iff_getElem?.1 hy
    obtain ⟨j,hj,hy'⟩:=List.mem_flatMap.1 hy'
    obtain ⟨k,hk⟩:=List.mem_iff_getElem?.1 hy'
    obtain ⟨x,b1,k1,e1⟩:=g1 n y hn
    obtain ⟨l2,x',b2,k2,e2⟩:=g2 j k y' (List.mem_range.1 hj) hk
    have hl:n<h.length:=by
     have:=(List.getElem?_eq_some_iff.1 hn).1
     simpa using this
    rw [e1,e2]
    exact hI.inj _ _ x x' (by omega) k1 k2 b1 b2
  ·have join : ∀ l : List Nat, (∀ i ∈ l, i < ops.size) → dL (Tof ops h (effs ρ) L) (fun w => F0 w ∧ ∀ i ∈ l, fact ρ i w) w := by
    intro l
    induction l with
    | nil =>
      intro _
      obtain ⟨S,h1,h2⟩:=hI.facts0
      exact ⟨S,h1,fun w' hw=>⟨h2 w' hw,fun i hi=>by simp at hi⟩⟩
    | cons x l ih =>
      intro hl
      obtain ⟨S,h1,h2⟩:=ih (fun i hi=>hl i (List.mem_cons_of_mem _ hi))
      obtain ⟨S',h1',h2'⟩:=hI.facts x (hL x (hl x List.mem_cons_self))
      refine ⟨fun b=>S b∨S' b,fun b hb=>hb.elim (h1 b) (h1' b),fun w' hw=>?_⟩
      obtain ⟨q1,q2⟩:=h2 w' (fun b hb=>hw b (Or.inl hb))
      have q3:=h2' w' (fun b hb=>hw b (Or.inr hb))
      exact ⟨q1,fun i hi=>by
       rcases List.mem_cons.1 hi with rfl | hi
       ·exact q3
       ·exact q2 i hi⟩
   obtain ⟨S,h1,h2⟩:=join (List.range ops.size) (fun i hi=>List.mem_range.1 hi)
   refine ⟨S,fun b hb=>⟨(h1 b hb).1,fun hm=>(h1 b hb).2 ?_⟩,fun w' hw=>?_⟩
   ·obtain ⟨x, hx, rfl⟩ := List.mem_map.1 hm
    obtain ⟨n,y,q1,q2,q3⟩:=memH x hx
    exact ⟨n,y,q1,q2,by rw [q3]⟩
   ·obtain ⟨q1, q2⟩ := h2 w' hw
    exact ⟨q1,fun i hi=>q2 i (List.mem_range.2 hi)⟩
end
theorem ready_mem {md:Region.Mode} {ops:Array Oper} {L:Array Bool} {i:Nat} (h:i∈Region.ready md ops L) :
 ∃ o,ops[i]? = some o∧L.getD i true=false∧∀ e∈o.after,Region.binds md e=true→L.getD e.on false=true:=by
 unfold Region.ready at h
 rw [List.mem_filter] at h
 obtain ⟨h1,h2⟩:=h
 rw [Bool.and_eq_true] at h2
 obtain ⟨h2,h3⟩:=h2
 cases ho:ops[i]? with
 | none=>rw [ho] at h3;simp at h3
 | some o =>
   rw [ho] at h3
   simp only [Option.map_some,Option.getD_some,Array.all_eq_true_iff_forall_mem] at h3
   refine ⟨o,rfl,by simpa using h2,fun e he hb=>?_⟩
   have:=h3 e he
   rw [hb] at this
   simpa using this
def sQ (md:Region.Mode) (ops:Array Oper):Bool:=(List.range ops.size).all fun i=>((ops[i]?).map fun o=>o.after.all fun e=> !Region.binds md e||decide (e.on<i)).getD true
theorem all_listed {md : Region.Mode} {ops : Array Oper} {L : Array Bool} (hd : sQ md ops = true) (h : Region.ready md ops L = []) : ∀ i, i < ops.size → L.getD i true = true := by
 intro i
 induction i using Nat.strongRecOn with
 | ind i ih =>
   intro hi
   cases hl:L.getD i true with
   | true=>rfl
   | false =>
     exfalso
     have hmem:i∈Region.ready md ops L:=by
      unfold Region.ready
      rw [List.mem_filter]
      refine ⟨List.mem_range.2 hi,?_⟩
      rw [hl]
      simp only [Bool.not_false,Bool.true_and]
      have hdi:((ops[i]?).map fun o=>o.after.all fun e=> !Region.binds md e||decide (e.on<i)).getD true=true:=by
       unfold sQ at hd
       rw [List.all_eq_true] at hd
       exact hd i (List.mem_range.2 hi)
      cases ho:ops[i]? with
      | none=>rw [Array.getElem?_eq_none_iff] at ho;omega
      | some o =>
        rw [ho] at hdi
        simp only [Option.map_some,Option.getD_some,Array.all_eq_true_iff_forall_mem] at hdi ⊢
        intro e he
        have h1:=hdi e he
        cases hb:Region.binds md e with
        | false=>rfl
        | true =>
          rw [hb] at h1
          simp at h1
          have h2:=ih e.on h1 (by omega)
          simp only [Bool.not_true,Bool.false_or]
          have h3:L.getD e.on true=true:=h2
          rw [Array.getD_eq_getD_getElem?] at h3 ⊢
          cases hq:L[e.on]? with
          | none =>
            exfalso
            rw [Array.getElem?_eq_none_iff] at hq
            have:L.getD i true=true:=by rw [Array.getD_eq_getD_getElem?,Array.getElem?_eq_none (by omega)];rfl
            rw [this] at hl;exact absurd hl (by simp)
          | some b=>rw [hq] at h3;simpa using h3
     rw [h] at hmem
     exact absurd hmem (by simp)
def togo (L:Array Bool):Nat:=L.toList.countP (fun b=> !b)
theorem togo_set {L:Array Bool} {i:Nat} (h:L.getD i true=false):togo (L.setIfInBounds i true)+1=togo L:=by
 unfold togo
 have hi:i<L.size:=by
  by_cases hh:i<L.size
  ·exact hh
  ·rw [Array.getD_eq_getD_getElem?,Array.getElem?_eq_none (by omega)] at h;exact absurd h (by simp)
 have hv:L.toList[i]? = some false:=by
  rw [Array.getD_eq_getD_getElem?,Array.getElem?_eq_getElem hi] at h
  rw [Array.getElem?_toList,Array.getElem?_eq_getElem hi]
  simpa using h
 rw [Array.toList_setIfInBounds]
 revert hv
 generalize L.toList=l
 intro hv
 clear hi h
 induction l generalizing i with
 | nil=>simp at hv
 | cons b l ih =>
   cases i with
   | zero=>simp at hv;subst hv;simp
   | succ i=>simp at hv;simp only [List.set_cons_succ,List.countP_cons];have:=ih hv;omega
variable {P : Program} {ops : Array Oper} {Q : Exit → Act → World → Prop}
theorem wpAny_inv (I : Array Bool → Act → World → Prop) (hd : sQ .any ops = true)
 (hs:∀ L a w i o,I L a w→ops[i]? = some o→L.getD i true=false→(∀ e∈o.after,Region.binds .any e=true→L.getD e.on false=true)→wpOp P ops Q i (I (L.setIfInBounds i true)) a w)
 (he:∀ L a w,I L a w→(∀ i,i<ops.size→L.getD i true=true)→Q .normal a w) :
 ∀ fuel L a w,togo L≤fuel→I L a w→wpAny P .any ops Q fuel L a w:=by
 intro fuel
 induction fuel with
 | zero =>
   intro L a w ht hI
   have hn:Region.ready .any ops L=[]:=by
    cases hr:Region.ready .any ops L with
    | nil=>rfl
    | cons i l =>
      obtain ⟨o,_,h2,_⟩:=ready_mem (md:=.any) (ops:=ops) (L:=L) (i:=i) (by rw [hr];simp)
      have:=togo_set h2
      omega
   exact ⟨hn,he L a w hI (all_listed hd hn)⟩
 | succ fuel ih =>
   intro L a w ht hI
   refine ⟨fun hn=>he L a w hI (all_listed hd hn),fun i hi=>?_⟩
   obtain ⟨o,h1,h2,h3⟩:=ready_mem hi
   have hc:=togo_set h2
   exact wpOp_mono (fun a w h=>ih _ a w (by omega) h) (hs L a w i o hI h1 h2 h3)
theorem wp_region_inv {id:Nat} {a:Act} {w:World} (hm:P.follows .mixedOrders=true) (I:Array Bool→Act→World→Prop) (hd:sQ .any ops=true)
 (h0:I (Array.replicate ops.size false) a w.drew)
 (hs:∀ L a w i o,I L a w→ops[i]? = some o→L.getD i true=false→(∀ e∈o.after,Region.binds .any e=true→L.getD e.on false=true)→wpOp P ops Q i (I (L.setIfInBounds i true)) a w)
 (he:∀ L a w,I L a w→(∀ i,i<ops.size→L.getD i true=true)→Q .normal a w):(Code.region id ops true).wp P Q a w:=by
 refine wp_region_any hm (wpAny_inv I hd hs he ops.size _ a _ ?_ h0)
 unfold togo
 rw [Array.toList_replicate]
 exact Nat.le_trans (List.countP_le_length) (by simp)
theorem nN.drew {X:Nat→Prop} {w w':World} (h:nN X w w'):nN X w w'.drew:=⟨h.os,h.tape,h.output,h.size,h.block⟩
theorem St.drew {w0:Base} {w:World} {h:List (Nat × Obj)} {F:World→Prop} (hS:St w0 h F w):St w0 h F w.drew :=
 ⟨hS.below.drew,hS.at_,hS.nodup,by
  obtain ⟨S,h1,h2⟩:=hS.facts
  exact ⟨S,h1,h2⟩⟩
section
variable {P : Program} {ops : Array Oper} {D : List Nat} {l : List (Nat × Value)} {a : Act} {w0 : Base} {h : List (Nat × Obj)} {F0 : World → Prop}
variable {vals : (Nat → bH) → Nat → Value} {effs : (Nat → bH) → Nat → Eff} {fact : (Nat → bH) → Nat → World → Prop} {Q : Exit → Act → World → Prop}
theorem uS {id : Nat} {w : World} (hm : P.follows .mixedOrders = true) (hdn : sQ .any ops = true) (hD : DOk ops D = true) (hok : vY ops a.tmps.size = true) (hlook : wW ops D l = true)
 (hloc:∀ j,j<ops.size→Loc D vals effs fact j) (hobl:∀ i,i<ops.size→jV P ops D l w0 h F0 vals effs fact i) (keep:List Nat) (hkeep:keepOk ops l keep=true) (hfr:Fr a.tmps.size l a) (hS:St w0 h F0 w)
 (hend:∀ ρ A w',Fr a.tmps.size (tV ops l (vals ρ) keep) A→St w0 (rJ ops.size h (effs ρ)) (fun w=>F0 w∧∀ i,i<ops.size→fact ρ i w) w'→Q .normal A w'):(Code.region id ops true).wp P Q a w:=by
 have dj:∀ i,i<ops.size→∀ j,mV D i j=true→j<i∧∃ e∈edgesOf ops i,e=j∨mV D e j=true:=by
  intro i hi j hd
  unfold DOk at hD
  rw [List.all_eq_true] at hD
  have h1:=hD i (List.mem_range.2 hi)
  rw [Bool.and_eq_true,List.all_eq_true,decide_eq_true_eq] at h1
  have hji:j<i:=by
   by_cases hh:j<i
   ·exact hh
   ·unfold mV at hd
    rw [Nat.testBit_lt_two_pow (Nat.lt_of_lt_of_le h1.1 (Nat.pow_le_pow_right (by omega) (by omega)))] at hd
    exact absurd hd (by simp)
  have h2:=h1.2 j (List.mem_range.2 hji)
  rw [hd] at h2
  simp only [Bool.not_true,Bool.false_or,List.any_eq_true,Bool.or_eq_true,beq_iff_eq] at h2
  exact ⟨hji,h2⟩
 refine wp_region_inv hm (fun L A w=>∃ ρ,L.size=ops.size∧RInv ops D w0 h F0 vals effs fact a (fun i=>L.getD i false) A w ρ) hdn ?_ ?_ ?_
 ·refine ⟨fun _ => {}, by simp, (inv_start hS.drew _).congrL (fun i => ?_)⟩
  rw [Array.getD_eq_getD_getElem?,Array.getElem?_replicate];split<;>rfl
 ·rintro L A w' i o ⟨ρ, hsz, hI⟩ ho hl hdeps
  have hi:i<ops.size:=by
   by_cases hh:i<ops.size
   ·exact hh
   ·rw [Array.getElem?_eq_none (by omega)] at ho;exact absurd ho (by simp)
  have hlf:L.getD i false=false:=by
   rw [Array.getD_eq_getD_getElem?] at hl ⊢
   cases hq:L[i]? with
   | none=>rfl
   | some b=>rw [hq] at hl;simpa using hl
  have hdL:∀ j,mV D i j=true→L.getD j false=true:=by
   intro j hj
   obtain ⟨_,e,he,hej⟩:=dj i hi j hj
   have hLe:L.getD e false=true:=by
    unfold edgesOf at he
    rw [ho] at he
    simp only [Option.map_some,Option.getD_some,List.mem_map,List.mem_filter,Array.mem_toList_iff] at he
    obtain ⟨ed,⟨h1,h2⟩,rfl⟩:=he
    exact hdeps ed h1 h2
   rcases hej with rfl | hej
   ·exact hLe
   ·exact hI.closed e j hLe hej
  refine wpOp_mono ?_ (step_inv hI hok hlf hi hdL (fun j hj=>(dj i hi j hj).1) hlook hfr hloc (hobl i hi))
  rintro A' w2 ⟨ρ',hI'⟩
  refine ⟨ρ',by simpa using hsz,hI'.congrL (fun j=>?_)⟩
  unfold oP
  simp only [Array.getD_eq_getD_getElem?,Array.getElem?_setIfInBounds]
  by_cases hij:i=j
  ·subst hij
   rw [if_pos rfl,if_pos (by omega)];simp
  ·rw [if_neg hij,decide_eq_false (fun e=>hij e.symm),Bool.or_false]
 ·rintro L A w' ⟨ρ, hsz, hI⟩ hall
  obtain ⟨h1,h2⟩:=inv_end hI (fun i hi=>by
   have:=hall i hi
   rw [Array.getD_eq_getD_getElem?] at this ⊢
   rw [Array.getElem?_eq_getElem (by omega)] at this ⊢
   simpa using this) hfr
  exact hend ρ A w' (h1 keep hkeep) h2
theorem rY {id : Nat} {w : World} (hD : DSeq ops.size D = true) (hok : vY ops a.tmps.size = true) (hlook : wW ops D l = true)
 (hloc:∀ j,j<ops.size→Loc D vals effs fact j) (hobl:∀ i,i<ops.size→jV P ops D l w0 h F0 vals effs fact i) (keep:List Nat) (hkeep:keepOk ops l keep=true) (hfr:Fr a.tmps.size l a) (hS:St w0 h F0 w)
 (hend:∀ ρ A w',Fr a.tmps.size (tV ops l (vals ρ) keep) A→St w0 (rJ ops.size h (effs ρ)) (fun w=>F0 w∧∀ i,i<ops.size→fact ρ i w) w'→Q .normal A w'):(Code.region id ops false).wp P Q a w:=by
 have dj:∀ i,i<ops.size→∀ j,mV D i j=decide (j<i):=by
  intro i hi j
  unfold DSeq at hD
  rw [List.all_eq_true] at hD
  have h1:=hD i (List.mem_range.2 hi)
  unfold mV
  rw [show D.getD i 0=2^i-1 by simpa using h1,Nat.testBit_two_pow_sub_one]
 apply wp_region
 have key:∀ m k A w,k+m=ops.size→(∃ ρ,RInv ops D w0 h F0 vals effs fact a (fun i=>decide (i<k)) A w ρ)→wpOps P ops Q (List.range' k m) A w:=by
  intro m
  induction m with
  | zero =>
    rintro k A w hk ⟨ρ,hI⟩
    obtain ⟨h1,h2⟩:=inv_end hI (fun i hi=>by simp;omega) hfr
    exact hend ρ A w (h1 keep hkeep) h2
  | succ m ih =>
    rintro k A w hk ⟨ρ,hI⟩
    rw [List.range'_succ,wpOps_cons]
    refine wpOp_mono ?_ (step_inv (i:=k) hI hok (by simp) (by omega) (fun j hj=>?_) (fun j hj=>?_) hlook hfr hloc (hobl k (by omega)))
    ·rintro A' w2 ⟨ρ', hI'⟩
     refine ih (k+1) A' w2 (by omega) ⟨ρ',hI'.congrL (fun j=>?_)⟩
     unfold oP
     by_cases h1:j=k
     ·subst h1;simp
     ·rw [decide_eq_false h1,Bool.or_false,decide_eq_decide];omega
    ·rw [dj k (by omega)] at hj;exact hj
    ·rw [dj k (by omega)] at hj;simpa using hj
 rw [List.range_eq_range']
 exact key ops.size 0 a w (by omega) ⟨fun _=>{},(inv_start hS _).congrL (fun i=>by simp)⟩
end
def vN:Obj→Addr→Option Value
 | .cells c _ _,a=>if a.spot.isSome then none else c[a.off]?
 | _,_=>none
def frozenIn:Obj→Nat→Bool
 | .cells _ _ (lo,hi),o=>lo≤o&&o<hi
 | _,_=>false
def putIn:Obj→Nat→Value→Obj
 | .cells c e f,o,v=>.cells (c.setIfInBounds o v) e f
 | o,_,_=>o
def shapeIn:Obj→Option (TypeId × Nat)
 | .cells c e _=>some (e,c.size)
 | _=>none
def plainV:Value→Bool
 | .agg _=>false
 | .tuple _=>false
 | _=>true
def kH (P : Program) {α : Type} : Sem α → List Nat → List (Nat × Obj) → List Nat → Option (α × List (Nat × Obj) × List (Nat × Nat))
 | .pure a,_,K,_=>some (a,K,[])
 | .load _ a k, ps, K, ns => match K[ps.headD 0]? with
   | some (g, o) => match vN o a with
     | some v=>(kH P (k v) ps.tail K ns).map fun r=>(r.1,r.2.1,(a.block,g)::r.2.2)
     | none=>none
   | none=>none
 | .store _ a v k, ps, K, ns => match plainV v, K[ps.headD 0]? with
   | true, some (g, o) => match vN o a, frozenIn o a.off with
     | some _,false=>(kH P k ps.tail (K.set (ps.headD 0) (g,putIn o a.off v)) ns).map fun r=>(r.1,r.2.1,(a.block,g)::r.2.2)
     | _,_=>none
   | _,_=>none
 | .new o k,ps,K,ns=>kH P (k (ns.headD 0)) ps (K++[(ns.headD 0,o)]) ns.tail
 | .shape b k, ps, K, ns => match K[ps.headD 0]? with
   | some (g, o) => match shapeIn o with
     | some s=>(kH P (k (some s)) ps.tail K ns).map fun r=>(r.1,r.2.1,(b,g)::r.2.2)
     | none=>none
   | none=>none
 | .frozen a k, ps, K, ns => match K[ps.headD 0]? with
   | some (g,o)=>(kH P (k (frozenIn o a.off)) ps.tail K ns).map fun r=>(r.1,r.2.1,(a.block,g)::r.2.2)
   | none=>none
 | .program k,ps,K,ns=>kH P (k P) ps K ns
 | .mark _ k,ps,K,ns=>kH P k ps K ns
 | _,_,_,_=>none
def Eqs:List (Nat × Nat)→Prop
 | []=>True
 | e::l=>e.1=e.2∧Eqs l
def fB (P : Program) {α : Type} : Sem α → World → List Nat
 | .pure _,_=>[]
 | .load _ a k, w => match w.cell? a with
   | some v=>fB P (k v) w
   | none=>[]
 | .store _ a v k,w=>fB P k (w.setCell a v)
 | .new o k,w=>w.heap.size::fB P (k w.heap.size) { w with heap:=w.heap.push o}
 | .shape r k,w=>fB P (k (w.shape? r)) w
 | .frozen a k,w=>fB P (k (w.frozen? a)) w
 | .program k,w=>fB P (k P) w
 | .mark _ k,w=>fB P k w
 | _,_=>[]
def Knows (K:List (Nat × Obj)) (w:World):Prop:=∀ x∈K,w.heap[x.1]? = some x.2
theorem cell_in {w:World} {o:Obj} {a:Addr} (h:w.heap[a.block]? = some o) {v:Value} (hc:vN o a=some v):w.cell? a=some v:=by
 unfold World.cell?
 rw [h]
 cases o<;>simp only [vN] at hc<;>first | exact hc | (simp at hc;done)
theorem frozen_in {w:World} {o:Obj} {a:Addr} (h:w.heap[a.block]? = some o):w.frozen? a=frozenIn o a.off:=by
 unfold World.frozen?
 rw [h]
 cases o<;>rfl
theorem shape_in {w:World} {o:Obj} {b:Nat} (h:w.heap[b]? = some o) {s:TypeId × Nat} (hs:shapeIn o=some s):w.shape? b=some s:=by
 unfold World.shape?
 rw [h]
 cases o<;>simp only [shapeIn] at hs<;>first | exact hs | (simp at hs;done)
theorem put_in {w:World} {o:Obj} {a:Addr} (h:w.heap[a.block]? = some o) {u:Value} (hc:vN o a=some u) (v:Value):(w.setCell a v).heap[a.block]? = some (putIn o a.off v):=by
 simp only [World.setCell,Array.getElem?_modify,if_true,h,Option.map_some]
 cases o<;>simp only [vN] at hc<;>first | (simp at hc;done) | skip
 simp only [putIn]
 by_cases hs:a.spot.isSome=true
 ·rw [if_pos hs] at hc;simp at hc
 ·rw [if_neg hs]
theorem mem_set_cases {α:Type} {l:List α} {i:Nat} {x y:α} (h:y∈l.set i x):y=x∨∃ j,j≠i∧l[j]? = some y:=by
 obtain ⟨j,hj⟩:=List.mem_iff_getElem?.1 h
 rw [List.getElem?_set] at hj
 by_cases hij:i=j
 ·subst hij
  rw [if_pos rfl] at hj
  split at hj
  ·left;simpa using hj.symm
  ·simp at hj
 ·rw [if_neg hij] at hj
  exact Or.inr ⟨j,fun e=>hij e.symm,hj⟩
theorem nodup_get {l:List (Nat × Obj)} (h:(l.map (·.1)).Nodup) {i j:Nat} {g g':Nat} {o o':Obj} (hi:l[i]? = some (g,o)) (hj:l[j]? = some (g',o')) (hne:i≠j):g≠g':=by
 rintro rfl
 have hpw:=List.pairwise_iff_getElem.1 h
 have p1:(l.map (·.1))[i]? = some g:=by rw [List.getElem?_map,hi];rfl
 have p2:(l.map (·.1))[j]? = some g:=by rw [List.getElem?_map,hj];rfl
 obtain ⟨l1,p1'⟩:=List.getElem?_eq_some_iff.1 p1
 obtain ⟨l2,p2'⟩:=List.getElem?_eq_some_iff.1 p2
 rcases Nat.lt_trichotomy i j with hl | hl | hl
 ·exact absurd (p1'.trans p2'.symm) (hpw _ _ l1 l2 hl)
 ·exact hne hl
 ·exact absurd (p2'.trans p1'.symm) (hpw _ _ l2 l1 hl)
def GOk {α:Type} (P:Program) (s:Sem α) (w:World) (K:List (Nat × Obj)) (x:α) (K':List (Nat × Obj)) (w':World):Prop :=
 s.run P w=.ok x w'∧Knows K' w'∧K'.map (·.1)=K.map (·.1)++fB P s w∧nN (fun b=>b∈K.map (·.1)) w w'∧(∀ b∈fB P s w,w.heap.size≤b)∧(fB P s w).Nodup
theorem kF {α : Type} {P : Program} (s : Sem α) : ∀ (ps : List Nat) (K : List (Nat × Obj)) (w : World) (x : α) (K' : List (Nat × Obj)) (es : List (Nat × Nat)),
 Knows K w→(K.map (·.1)).Nodup→kH P s ps K (fB P s w)=some (x,K',es)→Eqs es→∃ w',GOk P s w K x K' w':=by
 induction s with
 | pure a =>
   intro ps K w x K' es hK hN hg he
   simp only [kH,Option.some.injEq,Prod.mk.injEq] at hg
   obtain ⟨rfl,rfl,rfl⟩:=hg
   exact ⟨w,rfl,hK,by simp [fB],nN.refl _ _,by simp [fB],by simp [fB]⟩
 | load m a k ih =>
   intro ps K w x K' es hK hN hg he
   simp only [kH] at hg
   split at hg
   ·rename_i g o hq
    split at hg
    ·rename_i v hc
     have hmem:=List.mem_of_getElem? hq
     rw [Option.map_eq_some_iff] at hg
     obtain ⟨⟨x1,K1,es1⟩,hg1,hg2⟩:=hg
     simp only [Prod.mk.injEq] at hg2
     obtain ⟨rfl,rfl,rfl⟩:=hg2
     obtain ⟨he1,he2⟩:=he
     simp only at he1
     have hcell:w.cell? a=some v:=cell_in (by rw [he1];exact hK _ hmem) hc
     have hnews:fB P (.load m a k) w=fB P (k v) w:=by simp only [fB,hcell]
     rw [hnews] at hg1
     obtain ⟨w',h1,h2,h3,h4,h5,h6⟩:=ih v _ K w _ _ _ hK hN hg1 he2
     exact ⟨w',by simp only [Sem.run,hcell];exact h1,h2,by rw [hnews];exact h3,h4,by rw [hnews];exact h5,by rw [hnews];exact h6⟩
    ·exact absurd hg (by simp)
   ·exact absurd hg (by simp)
 | store m a v k ih =>
   intro ps K w x K' es hK hN hg he
   simp only [kH] at hg
   split at hg
   ·rename_i g o hpv hq
    split at hg
    ·rename_i u hc hfz
     have hmem:=List.mem_of_getElem? hq
     rw [Option.map_eq_some_iff] at hg
     obtain ⟨⟨x1,K1,es1⟩,hg1,hg2⟩:=hg
     simp only [Prod.mk.injEq] at hg2
     obtain ⟨rfl,rfl,rfl⟩:=hg2
     obtain ⟨he1,he2⟩:=he
     simp only at he1
     have hblk:w.heap[a.block]? = some o:=by rw [he1];exact hK _ hmem
     have hcell:w.cell? a=some u:=cell_in hblk hc
     have hfr:w.frozen? a=false:=by rw [frozen_in hblk];exact hfz
     have hnews:fB P (.store m a v k) w=fB P k (w.setCell a v):=by simp only [fB]
     rw [hnews] at hg1
     have hset:(K.set (ps.headD 0) (g,putIn o a.off v)).map (·.1)=K.map (·.1):=by
      apply List.ext_getElem?
      intro j
      rw [List.getElem?_map,List.getElem?_map,List.getElem?_set]
      by_cases hj:ps.headD 0=j
      ·subst hj
       rw [if_pos rfl,if_pos (List.getElem?_eq_some_iff.1 hq).1,hq];rfl
      ·rw [if_neg hj]
     have hK1:Knows (K.set (ps.headD 0) (g,putIn o a.off v)) (w.setCell a v):=by
      intro y hy
      rcases mem_set_cases hy with rfl | ⟨j,hj,hjy⟩
      ·simp only
       rw [← he1];exact put_in hblk hc v
      ·obtain ⟨g', o'⟩ := y
       have hne:=nodup_get hN hjy hq hj
       have:=hK _ (List.mem_of_getElem? hjy)
       simp only at this ⊢
       rw [Below.heap_setCell _ _ _ _ (by rw [he1];exact hne)]
       exact this
     obtain ⟨w',h1,h2,h3,h4,h5,h6⟩:=ih _ _ (w.setCell a v) _ _ _ hK1 (by rw [hset];exact hN) hg1 he2
     have hsz:(w.setCell a v).heap.size=w.heap.size:=by simp [World.setCell]
     refine ⟨w',?_,h2,by rw [hnews,h3,hset],?_,by rw [hnews,← hsz];exact h5,by rw [hnews];exact h6⟩
     ·cases v<;>simp only [plainV,Bool.false_eq_true] at hpv<;>(simp only [Sem.run,hcell,hfr,Bool.false_eq_true,if_false];exact h1)
     ·rw [hset] at h4
      refine nN.trans (b:=w.setCell a v) ⟨rfl,rfl,rfl,by omega,fun b hb hnb=>?_⟩ h4
      apply Below.heap_setCell
      rintro rfl
      apply hnb
      rw [he1]
      exact List.mem_map.2 ⟨(g,o),hmem,rfl⟩
    ·exact absurd hg (by simp)
   ·exact absurd hg (by simp)
 | new o k ih =>
   intro ps K w x K' es hK hN hg he
   simp only [kH,fB,List.headD_cons,List.tail_cons] at hg
   have hK1:Knows (K++[(w.heap.size,o)]) { w with heap:=w.heap.push o}:=by
    intro y hy
    rcases List.mem_append.1 hy with hy | hy
    ·have h1 := hK y hy
     have hlt:y.1<w.heap.size:=(Array.getElem?_eq_some_iff.1 h1).1
     show (w.heap.push o)[y.1]? = _
     rw [Array.getElem?_push,if_neg (by omega)];exact h1
    ·simp only [List.mem_singleton] at hy
     subst hy
     show (w.heap.push o)[w.heap.size]? = _
     simp
   have hlt:∀ b∈K.map (·.1),b<w.heap.size:=by
    intro b hb
    obtain ⟨y,hy,rfl⟩:=List.mem_map.1 hb
    exact (Array.getElem?_eq_some_iff.1 (hK y hy)).1
   have hN1:((K++[(w.heap.size,o)]).map (·.1)).Nodup:=by
    rw [List.map_append]
    refine List.nodup_append.2 ⟨hN,by simp,?_⟩
    intro b hb c hc
    simp only [List.map_cons,List.map_nil,List.mem_singleton] at hc
    have:=hlt b hb
    omega
   obtain ⟨w',h1,h2,h3,h4,h5,h6⟩:=ih w.heap.size _ _ { w with heap:=w.heap.push o} _ _ _ hK1 hN1 hg he
   have hsz:({ w with heap:=w.heap.push o}:World).heap.size=w.heap.size+1:=by simp
   rw [hsz] at h5
   refine ⟨w',by simp only [Sem.run];exact h1,h2,by rw [h3];simp [fB],?_,?_,?_⟩
   ·refine ⟨h4.os, h4.tape, h4.output, by have := h4.size; rw [hsz] at this; omega, fun b hb hnb => ?_⟩
    rw [h4.block b (by rw [hsz];omega) ?_]
    ·show (w.heap.push o)[b]? = _
     rw [Array.getElem?_push,if_neg (by omega)]
    ·rw [List.map_append]
     intro hm
     rcases List.mem_append.1 hm with hm | hm
     ·exact hnb hm
     ·simp only [List.map_cons,List.map_nil,List.mem_singleton] at hm;omega
   ·intro b hb
    simp only [fB,List.mem_cons] at hb
    rcases hb with rfl | hb
    ·omega
    ·have:=h5 b hb;omega
   ·simp only [fB]
    refine List.nodup_cons.2 ⟨fun hm=>?_,h6⟩
    have:=h5 _ hm;omega
 | shape b k ih =>
   intro ps K w x K' es hK hN hg he
   simp only [kH] at hg
   split at hg
   ·rename_i g o hq
    split at hg
    ·rename_i s hs
     have hmem:=List.mem_of_getElem? hq
     rw [Option.map_eq_some_iff] at hg
     obtain ⟨⟨x1,K1,es1⟩,hg1,hg2⟩:=hg
     simp only [Prod.mk.injEq] at hg2
     obtain ⟨rfl,rfl,rfl⟩:=hg2
     obtain ⟨he1,he2⟩:=he
     simp only at he1
     have hsh:w.shape? b=some s:=shape_in (by rw [he1];exact hK _ hmem) hs
     have hnews:fB P (.shape b k) w=fB P (k (some s)) w:=by simp only [fB,hsh]
     rw [hnews] at hg1
     obtain ⟨w',h1,h2,h3,h4,h5,h6⟩:=ih (some s) _ K w _ _ _ hK hN hg1 he2
     exact ⟨w',by simp only [Sem.run,hsh];exact h1,h2,by rw [hnews];exact h3,h4,by rw [hnews];exact h5,by rw [hnews];exact h6⟩
    ·exact absurd hg (by simp)
   ·exact absurd hg (by simp)
 | frozen a k ih =>
   intro ps K w x K' es hK hN hg he
   simp only [kH] at hg
   split at hg
   ·rename_i g o hq
    have hmem:=List.mem_of_getElem? hq
    rw [Option.map_eq_some_iff] at hg
    obtain ⟨⟨x1,K1,es1⟩,hg1,hg2⟩:=hg
    simp only [Prod.mk.injEq] at hg2
    obtain ⟨rfl,rfl,rfl⟩:=hg2
    obtain ⟨he1,he2⟩:=he
    simp only at he1
    have hfr:w.frozen? a=frozenIn o a.off:=frozen_in (by rw [he1];exact hK _ hmem)
    have hnews:fB P (.frozen a k) w=fB P (k (frozenIn o a.off)) w:=by simp only [fB,hfr]
    rw [hnews] at hg1
    obtain ⟨w',h1,h2,h3,h4,h5,h6⟩:=ih _ _ K w _ _ _ hK hN hg1 he2
    exact ⟨w',by simp only [Sem.run,hfr];exact h1,h2,by rw [hnews];exact h3,h4,by rw [hnews];exact h5,by rw [hnews];exact h6⟩
   ·exact absurd hg (by simp)
 | program k ih =>
   intro ps K w x K' es hK hN hg he
   obtain ⟨w',h⟩:=ih P ps K w x K' es hK hN hg he
   exact ⟨w',h⟩
 | mark m k ih =>
   intro ps K w x K' es hK hN hg he
   obtain ⟨w',h⟩:=ih ps K w x K' es hK hN hg he
   exact ⟨w',h⟩
 | freeze a n k ih=>intro ps K w x K' es hK hN hg he;simp [kH] at hg
 | getObj r k ih=>intro ps K w x K' es hK hN hg he;simp [kH] at hg
 | setObj r o k ih=>intro ps K w x K' es hK hN hg he;simp [kH] at hg
 | choose q k ih=>intro ps K w x K' es hK hN hg he;simp [kH] at hg
 | sys c k ih=>intro ps K w x K' es hK hN hg he;simp [kH] at hg
 | halt x=>intro ps K w x K' es hK hN hg he;simp [kH] at hg
section
variable {P : Program} {ops : Array Oper} {D : List Nat} {l : List (Nat × Value)} {a : Act} {w0 : Base} {h : List (Nat × Obj)} {F0 : World → Prop}
variable {vals : (Nat → bH) → Nat → Value} {effs : (Nat → bH) → Nat → Eff} {fact : (Nat → bH) → Nat → World → Prop}
def xY:Next→Option Value
 | .value v=>some v
 | .skip=>some undef
 | _=>none
def known (ops : Array Oper) (D : List Nat) (h : List (Nat × Obj)) (E : Nat → Eff) (i : Nat) (ns : List Nat) : List (Nat × Obj) :=
 ns.map fun n=>match blk h E n with
  | some x=>cur E ops.size (mV D i) n x
  | none=>(0,default)
def dY (ops:Array Oper) (D:List Nat) (h:List (Nat × Obj)) (E:Nat→Eff) (i:Nat) (ns:List Nat):Bool :=
 (ns.all fun n=>(blk h E n).isSome&&okN ops D h E i n)&&decide ns.Nodup
def uM (ns:List Nat) (K:List (Nat × Obj)) (E:Eff):List (Nat × Obj) :=
 ((ns.zip K).map fun x=>(((E.puts.lookup x.1).getD x.2).1,((E.puts.lookup x.1).getD x.2).2))++E.news
theorem applyE_eq (ns:List Nat) (K:List (Nat × Obj)) (E:Eff):uM ns K E=((ns.zip K).map fun x=>(E.puts.lookup x.1).getD x.2)++E.news:=rfl
def yJ (ns:List Nat) (E:Eff):Bool:=E.puts.all fun x=>ns.contains x.1
theorem dB {T:Nat→Prop} {w:World} {F:World→Prop} (hF:∀ w,F w):dL T F w:=⟨fun _=>False,fun _ h=>h.elim,fun w' _=>hF w'⟩
theorem obl_run_at {i:Nat} {o:Oper} (_ho:ops[i]? = some o) (ns ps:List Nat) (ρ:Nat→bH) (es:List Nat→List (Nat × Nat)) (x:List Nat→Next)
 (hw:fM (vals ρ) o=true) (hn:dY ops D h (effs ρ) i ns=true)
 (hr:∀ z,kH P (execOp (dC ops D l (vals ρ) i) o) ps (known ops D h (effs ρ) i ns) z=some (x z,uM ns (known ops D h (effs ρ) i ns) (effs (upd ρ i { n:=z}) i),es z))
 (hx:∀ z,xY (x z)=some (vals (upd ρ i { n:=z}) i)) (hp:∀ z,yJ ns (effs (upd ρ i { n:=z}) i)=true)
 (he:∀ z,Eqs (es z)) (hf:∀ z w,fact (upd ρ i { n:=z}) i w) (T:Nat→Prop) (w:World) (hG:Given ops D w0 h F0 effs fact i ρ T w) :
 if fM (vals ρ) o then opv P (execOp (dC ops D l (vals ρ) i) o) w (After ops D h vals effs fact i ρ T w) else After ops D h vals effs fact i ρ T w undef w:=by
 rw [if_pos hw]
 have hno:=hn
 unfold dY at hno
 rw [Bool.and_eq_true,List.all_eq_true,decide_eq_true_eq] at hno
 obtain ⟨hno,hnd⟩:=hno
 have hbn:∀ n∈ns,∃ x,blk h (effs ρ) n=some x∧okN ops D h (effs ρ) i n=true:=by
  intro n hm
  have:=hno n hm
  rw [Bool.and_eq_true] at this
  obtain ⟨x,hb⟩:=Option.isSome_iff_exists.1 this.1
  exact ⟨x,hb,this.2⟩
 have hK:Knows (known ops D h (effs ρ) i ns) w:=by
  intro y hy
  unfold known at hy
  obtain ⟨n,hm,rfl⟩:=List.mem_map.1 hy
  obtain ⟨x,hb,hok⟩:=hbn n hm
  rw [hb]
  exact (hG.block n x hb hok).1
 have hKN:((known ops D h (effs ρ) i ns).map (·.1)).Nodup:=by
  unfold known
  rw [List.map_map]
  refine List.pairwise_map.2 ?_
  refine List.Pairwise.imp_of_mem ?_ hnd
  intro n n' hm hm' hne
  obtain ⟨x,hb,hok⟩:=hbn n hm
  obtain ⟨x',hb',hok'⟩:=hbn n' hm'
  simp only [Function.comp,hb,hb']
  exact hG.ne n n' x x' hne hb hb' hok hok'
 obtain ⟨w',h1,h2,h3,h4,h5,h6⟩:=kF _ _ _ w _ _ _ hK hKN (hr (fB P (execOp (dC ops D l (vals ρ) i) o) w)) (he _)
 generalize fB P (execOp (dC ops D l (vals ρ) i) o) w=z at *
 have hxv:=hx z
 have hlen:(known ops D h (effs ρ) i ns).length=ns.length:=by unfold known;simp
 have h3':((ns.zip (known ops D h (effs ρ) i ns)).map fun x=>(((effs (upd ρ i { n:=z}) i).puts.lookup x.1).getD x.2).1)=(known ops D h (effs ρ) i ns).map (·.1)∧(effs (upd ρ i { n:=z}) i).news.map (·.1)=z:=by
  rw [applyE_eq] at h3
  rw [List.map_append,List.map_map] at h3
  exact List.append_inj h3 (by simp [hlen])
 have hnews:=h3'.2
 have hkn:∀ (k n:Nat) (x:Nat × Obj),ns[k]? = some n→blk h (effs ρ) n=some x→(known ops D h (effs ρ) i ns)[k]? = some (cur (effs ρ) ops.size (mV D i) n x):=by
  intro k n x hk hb
  unfold known
  rw [List.getElem?_map,hk]
  simp only [Option.map_some,hb]
 have hloc:∀ n∈ns,∀ x,blk h (effs ρ) n=some x→(((effs (upd ρ i { n:=z}) i).puts.lookup n).getD (cur (effs ρ) ops.size (mV D i) n x)).1=(cur (effs ρ) ops.size (mV D i) n x).1:=by
  intro n hm x hb
  obtain ⟨k,hk⟩:=List.mem_iff_getElem?.1 hm
  have q:=congrArg (fun l:List Nat=>l[k]?) h3'.1
  simp only [List.getElem?_map,hkn k n x hk hb,Option.map_some] at q
  rw [(List.getElem?_zip_eq_some (z:=(n,cur (effs ρ) ops.size (mV D i) n x))).2 ⟨hk,hkn k n x hk hb⟩] at q
  simpa using q
 have hzip:∀ n∈ns,∀ x,blk h (effs ρ) n=some x→w'.heap[(((effs (upd ρ i { n:=z}) i).puts.lookup n).getD (cur (effs ρ) ops.size (mV D i) n x)).1]? = some (((effs (upd ρ i { n:=z}) i).puts.lookup n).getD (cur (effs ρ) ops.size (mV D i) n x)).2:=by
  intro n hm x hb
  obtain ⟨k,hk⟩:=List.mem_iff_getElem?.1 hm
  exact h2 (((effs (upd ρ i { n:=z}) i).puts.lookup n).getD (cur (effs ρ) ops.size (mV D i) n x)) (by
   rw [applyE_eq]
   refine List.mem_append_left _ (List.mem_map.2 ⟨(n,cur (effs ρ) ops.size (mV D i) n x),?_,rfl⟩)
   exact List.mem_iff_getElem?.2 ⟨k,by rw [List.getElem?_zip_eq_some];exact ⟨hk,hkn k n x hk hb⟩⟩)
 have hputs:∀ n q,(n,q)∈(effs (upd ρ i { n:=z}) i).puts→n∈ns:=by
  intro n q hm
  have:=hp z
  unfold yJ at this
  rw [List.all_eq_true] at this
  have:=this _ hm
  simpa using this
 have fin:After ops D h vals effs fact i ρ T w (vals (upd ρ i { n:=z}) i) w':=by
  refine ⟨{ n:=z},rfl,?_,?_,?_,?_,dB (hf z)⟩
  ·refine ⟨h4.os, h4.tape, h4.output, h4.size, fun b hb hnX => ?_⟩
   by_cases hmem:b∈(known ops D h (effs ρ) i ns).map (·.1)
   ·obtain ⟨y, hy, rfl⟩ := List.mem_map.1 hmem
    have hy0:=hK y hy
    unfold known at hy
    obtain ⟨n,hm,rfl⟩:=List.mem_map.1 hy
    obtain ⟨x,hbq,hok⟩:=hbn n hm
    rw [hbq] at hy0 hnX ⊢
    simp only at hy0 hnX ⊢
    have q1:=hzip n hm x hbq
    cases hl:(effs (upd ρ i { n:=z}) i).puts.lookup n with
    | none=>rw [hl] at q1;rw [hy0];exact q1
    | some y=>exact absurd ⟨n,y,x,fV hl,hbq,rfl⟩ hnX
   ·exact h4.block b hb hmem
  ·intro n y hm
   have hmn:=hputs n y hm
   obtain ⟨x,hb,hok⟩:=hbn n hmn
   have q1:=hzip n hmn x hb
   have q2:=hloc n hmn x hb
   cases hl:(effs (upd ρ i { n:=z}) i).puts.lookup n with
   | none=>exact absurd hm (qA hl y)
   | some y' =>
     rw [hl] at q1 q2
     exact ⟨hok,x,hb,q1,Or.inl q2⟩
  ·intro k b q hk
   have hmem:=List.mem_of_getElem? hk
   refine ⟨?_,?_⟩
   ·apply h5
    rw [← hnews]
    exact List.mem_map.2 ⟨(b,q),hmem,rfl⟩
   ·exact h2 (b,q) (by rw [applyE_eq];exact List.mem_append_right _ hmem)
  ·rw [hnews];exact h6
 unfold opv
 rw [h1]
 cases hx':x z with
 | value v=>rw [hx'] at hxv;simp only [xY,Option.some.injEq] at hxv;simp only [hxv];exact fin
 | skip=>rw [hx'] at hxv;simp only [xY,Option.some.injEq] at hxv;simp only [hxv];exact fin
 | _=>rw [hx'] at hxv;simp [xY] at hxv
theorem obl_run {i:Nat} {o:Oper} (ho:ops[i]? = some o) (ns ps:List Nat) (es:(Nat→bH)→List Nat→List (Nat × Nat)) (x:(Nat→bH)→List Nat→Next)
 (hw:∀ ρ,fM (vals ρ) o=true) (hn:∀ ρ,dY ops D h (effs ρ) i ns=true)
 (hr:∀ ρ z,kH P (execOp (dC ops D l (vals ρ) i) o) ps (known ops D h (effs ρ) i ns) z=some (x ρ z,uM ns (known ops D h (effs ρ) i ns) (effs (upd ρ i { n:=z}) i),es ρ z))
 (hx:∀ ρ z,xY (x ρ z)=some (vals (upd ρ i { n:=z}) i)) (hp:∀ ρ z,yJ ns (effs (upd ρ i { n:=z}) i)=true)
 (he:∀ ρ z,Eqs (es ρ z)) (hf:∀ ρ z w,fact (upd ρ i { n:=z}) i w):jV P ops D l w0 h F0 vals effs fact i:=by
 intro o' ho' ρ T w hG
 rw [ho] at ho'
 obtain rfl:o=o':=by simpa using ho'
 exact obl_run_at ho ns ps ρ (es ρ) (x ρ) (hw ρ) (hn ρ) (hr ρ) (hx ρ) (hp ρ) (he ρ) (hf ρ) T w hG
theorem zD {i:Nat} {o:Oper} (ho:ops[i]? = some o) (hw:∀ ρ,fM (vals ρ) o=true)
 (hr:∀ ρ w,(∃ T,Given ops D w0 h F0 effs fact i ρ T w)→opv P (execOp (dC ops D l (vals ρ) i) o) w (fun v w'=>v=vals (upd ρ i {}) i∧Below w.heap.size w w'))
 (he:∀ ρ,effs (upd ρ i {}) i={}) (hf:∀ ρ w,fact (upd ρ i {}) i w):jV P ops D l w0 h F0 vals effs fact i:=by
 intro o' ho' ρ T w hG
 rw [ho] at ho'
 obtain rfl:o=o':=by simpa using ho'
 rw [if_pos (hw ρ)]
 have key:∀ v w',(v=vals (upd ρ i {}) i∧Below w.heap.size w w')→After ops D h vals effs fact i ρ T w v w':=by
  rintro v w' ⟨rfl,hb⟩
  refine ⟨{},rfl,nN.of_below hb,?_,?_,?_,dB (hf ρ)⟩
  ·rw [he ρ];intro n q hm;simp at hm
  ·rw [he ρ];intro k b q hk;simp at hk
  ·rw [he ρ];simp
 have:=hr ρ w ⟨T,hG⟩
 unfold opv at this ⊢
 split at this
 ·exact key _ _ this
 ·exact key _ _ this
 ·refine this.mono (fun e w'' he => ?_)
  cases e with
  | returned v=>exact key _ _ he
  | panicked c=>exact he
  | outgrown=>exact he
 ·exact this.elim
theorem obl_call {i:Nat} {o:Oper} (ho:ops[i]? = some o) (f:FuncId) (args:(Nat→bH)→Array Value) (hw:∀ ρ,fM (vals ρ) o=true)
 (hr:∀ ρ z,kH P (execOp (dC ops D l (vals ρ) i) o) [] [] z=some (.enter f (args ρ),[],[]))
 (hc:∀ ρ w,Calls P f (args ρ) w (fun e w'=>e=.returned (vals (upd ρ i {}) i)∧Below w.heap.size w w'))
 (he:∀ ρ,effs (upd ρ i {}) i={}) (hf:∀ ρ w,fact (upd ρ i {}) i w):jV P ops D l w0 h F0 vals effs fact i:=by
 refine zD ho hw (fun ρ w _=>?_) he hf
 obtain ⟨w',h1,_,_,h4,_,_⟩:=kF (P:=P) (execOp (dC ops D l (vals ρ) i) o) [] [] w _ _ _ (by intro y hy;simp at hy) (by simp) (hr ρ _) trivial
 have hb:Below w.heap.size w w':=⟨h4.os,h4.tape,h4.output,h4.size,fun k hk=>h4.block k hk (by simp)⟩
 unfold opv
 rw [h1]
 simp only []
 refine (hc ρ w').mono (fun e w'' he=>?_)
 obtain ⟨rfl,hb2⟩:=he
 exact ⟨rfl,hb.trans (hb2.mono hb.size)⟩
theorem obl_pure {i:Nat} {o:Oper} (ho:ops[i]? = some o) (hw:∀ ρ,fM (vals ρ) o=true)
 (hr:∀ ρ w,(execOp (dC ops D l (vals ρ) i) o).run P w=.ok (.value (vals (upd ρ i {}) i)) w)
 (he:∀ ρ,effs (upd ρ i {}) i={}) (hf:∀ ρ w,fact (upd ρ i {}) i w):jV P ops D l w0 h F0 vals effs fact i:=by
 refine zD ho hw (fun ρ w _=>?_) he hf
 unfold opv
 rw [hr ρ w]
 exact ⟨rfl,Below.refl _ _⟩
end
def AllN:Nat→(Nat→Prop)→Prop
 | 0,_=>True
 | n+1,p=>AllN n p∧p n
theorem AllN.get {p:Nat→Prop}:∀ {n:Nat},AllN n p→∀ i,i<n→p i
 | 0,_,i,hi=>absurd hi (by omega)
 | n + 1, h, i, hi => by
   by_cases e:i=n
   ·subst e;exact h.2
   ·exact AllN.get h.1 i (by omega)
def mask (D:List Nat) (i:Nat) (ρ:Nat→bH):Nat→bH:=fun j=>if j==i||mV D i j then ρ j else {}
theorem mask_congr {D:List Nat} {i:Nat} {ρ ρ':Nat→bH} (h:∀ j,j=i∨mV D i j=true→ρ j=ρ' j):mask D i ρ=mask D i ρ':=by
 funext j
 unfold mask
 by_cases hj:(j==i||mV D i j)=true
 ·rw [if_pos hj, if_pos hj]
  apply h
  simpa using hj
 ·rw [if_neg hj,if_neg hj]
def nb (ρ:Nat→bH) (i:Nat):Nat:=(ρ i).n.headD 0
def aZ (ρ:Nat→bH) (i:Nat):Nat:=(ρ i).n.tail.headD 0
def grd (P : Program) {α : Type} : Sem α → List Nat → List (Nat × Obj) → Option (α × List (Nat × Nat))
 | .pure a,_,_=>some (a,[])
 | .load _ a k, ps, K => match K[ps.headD 0]? with
   | some (g, o) => match vN o a with
     | some v=>(grd P (k v) ps.tail K).map fun r=>(r.1,(a.block,g)::r.2)
     | none=>none
   | none=>none
 | .shape b k, ps, K => match K[ps.headD 0]? with
   | some (g, o) => match shapeIn o with
     | some s=>(grd P (k (some s)) ps.tail K).map fun r=>(r.1,(b,g)::r.2)
     | none=>none
   | none=>none
 | .frozen a k, ps, K => match K[ps.headD 0]? with
   | some (g,o)=>(grd P (k (frozenIn o a.off)) ps.tail K).map fun r=>(r.1,(a.block,g)::r.2)
   | none=>none
 | .program k,ps,K=>grd P (k P) ps K
 | .mark _ k,ps,K=>grd P k ps K
 | _,_,_=>none
theorem grd_sound {α : Type} {P : Program} (s : Sem α) : ∀ (ps : List Nat) (K : List (Nat × Obj)) (w : World) (x : α) (es : List (Nat × Nat)), Knows K w → grd P s ps K = some (x, es) → Eqs es → s.run P w = .ok x w := by
 induction s with
 | pure a =>
   intro ps K w x es hK hg he
   simp only [grd,Option.some.injEq,Prod.mk.injEq] at hg
   obtain ⟨rfl,rfl⟩:=hg
   rfl
 | load m a k ih =>
   intro ps K w x es hK hg he
   simp only [grd] at hg
   split at hg
   ·rename_i g o hq
    split at hg
    ·rename_i v hc
     rw [Option.map_eq_some_iff] at hg
     obtain ⟨⟨x1,es1⟩,hg1,hg2⟩:=hg
     simp only [Prod.mk.injEq] at hg2
     obtain ⟨rfl,rfl⟩:=hg2
     obtain ⟨he1,he2⟩:=he
     simp only at he1
     have hcell:w.cell? a=some v:=cell_in (by rw [he1];exact hK _ (List.mem_of_getElem? hq)) hc
     simp only [Sem.run,hcell]
     exact ih v _ K w _ _ hK hg1 he2
    ·exact absurd hg (by simp)
   ·exact absurd hg (by simp)
 | shape b k ih =>
   intro ps K w x es hK hg he
   simp only [grd] at hg
   split at hg
   ·rename_i g o hq
    split at hg
    ·rename_i s hs
     rw [Option.map_eq_some_iff] at hg
     obtain ⟨⟨x1,es1⟩,hg1,hg2⟩:=hg
     simp only [Prod.mk.injEq] at hg2
     obtain ⟨rfl,rfl⟩:=hg2
     obtain ⟨he1,he2⟩:=he
     simp only at he1
     have hsh:w.shape? b=some s:=shape_in (by rw [he1];exact hK _ (List.mem_of_getElem? hq)) hs
     simp only [Sem.run,hsh]
     exact ih (some s) _ K w _ _ hK hg1 he2
    ·exact absurd hg (by simp)
   ·exact absurd hg (by simp)
 | frozen a k ih =>
   intro ps K w x es hK hg he
   simp only [grd] at hg
   split at hg
   ·rename_i g o hq
    rw [Option.map_eq_some_iff] at hg
    obtain ⟨⟨x1,es1⟩,hg1,hg2⟩:=hg
    simp only [Prod.mk.injEq] at hg2
    obtain ⟨rfl,rfl⟩:=hg2
    obtain ⟨he1,he2⟩:=he
    simp only at he1
    have hfr:w.frozen? a=frozenIn o a.off:=frozen_in (by rw [he1];exact hK _ (List.mem_of_getElem? hq))
    simp only [Sem.run,hfr]
    exact ih _ _ K w _ _ hK hg1 he2
   ·exact absurd hg (by simp)
 | program k ih=>intro ps K w x es hK hg he;exact ih P ps K w x es hK hg he
 | mark m k ih=>intro ps K w x es hK hg he;exact ih ps K w x es hK hg he
 | store m a v k ih=>intro ps K w x es hK hg he;simp [grd] at hg
 | new o k ih=>intro ps K w x es hK hg he;simp [grd] at hg
 | freeze a n k ih=>intro ps K w x es hK hg he;simp [grd] at hg
 | getObj r k ih=>intro ps K w x es hK hg he;simp [grd] at hg
 | setObj r o k ih=>intro ps K w x es hK hg he;simp [grd] at hg
 | choose q k ih=>intro ps K w x es hK hg he;simp [grd] at hg
 | sys c k ih=>intro ps K w x es hK hg he;simp [grd] at hg
 | halt x=>intro ps K w x es hK hg he;simp [grd] at hg
def Reg (P:Program) (id:Nat) (ops:Array Oper) (draw:Bool) (n:Nat) (l:List (Nat × Value)) (w0:Base) (h:List (Nat × Obj)) (F:World→Prop) (l':(Nat→bH)→List (Nat × Value)) (h':(Nat→bH)→List (Nat × Obj)):Prop :=
 ∀ Q A w,Fr n l A→St w0 h F w→(∀ ρ A' w',Fr n (l' ρ) A'→St w0 (h' ρ) F w'→Q .normal A' w')→(Code.region id ops draw).wp P Q A w
theorem St.weaken {w0:Base} {w:World} {h:List (Nat × Obj)} {F G:World→Prop} (hS:St w0 h F w) (hFG:∀ w,F w→G w):St w0 h G w:=by
 refine ⟨hS.below,hS.at_,hS.nodup,?_⟩
 obtain ⟨S,h1,h2⟩:=hS.facts
 exact ⟨S,h1,fun w' hw=>hFG _ (h2 w' hw)⟩
def drawOk (ops:Array Oper) (D:List Nat) (n:Nat) (l:List (Nat × Value)) (keep:List Nat):Bool :=
 sQ .any ops&&DOk ops D&&vY ops n&&wW ops D l&&keepOk ops l keep
section
variable {P : Program} {id : Nat} {ops : Array Oper} {n : Nat} {l : List (Nat × Value)} {w0 : Base} {h : List (Nat × Obj)} {F : World → Prop} {l' : (Nat → bH) → List (Nat × Value)} {h' : (Nat → bH) → List (Nat × Obj)}
end
def Ok (P:Program) (c:Code) (Q:Exit→Act→World→Prop) (n:Nat) (l:List (Nat × Value)) (w0:Base) (h:List (Nat × Obj)) (F:World→Prop):Prop :=
 ∀ A w,Fr n l A→St w0 h F w→c.wp P Q A w
def gJ (Q:Act→World→Prop) (n:Nat) (l:List (Nat × Value)) (w0:Base) (h:List (Nat × Obj)) (F:World→Prop):Prop:=∀ A w,Fr n l A→St w0 h F w→Q A w
section
variable {P : Program} {Q : Exit → Act → World → Prop} {n : Nat} {l : List (Nat × Value)} {w0 : Base} {h : List (Nat × Obj)} {F : World → Prop}
theorem aB {x y:Code} (hx:Ok P x (Exit.then (y.wp P Q) Q) n l w0 h F):Ok P (.seq x y) Q n l w0 h F:=fun A w hf hs=>wp_seq (hx A w hf hs)
theorem ok_reg {id:Nat} {ops:Array Oper} {d:Bool} {l':(Nat→bH)→List (Nat × Value)} {h':(Nat→bH)→List (Nat × Obj)} (hr:Reg P id ops d n l w0 h F l' h') (hk:∀ ρ,gJ (Q .normal) n (l' ρ) w0 (h' ρ) F) :
 Ok P (.region id ops d) Q n l w0 h F:=fun A w hf hs=>hr Q A w hf hs (fun ρ A' w' hf' hs'=>hk ρ A' w' hf' hs')
theorem ok_seq_reg {id:Nat} {ops:Array Oper} {d:Bool} {y:Code} {l':(Nat→bH)→List (Nat × Value)} {h':(Nat→bH)→List (Nat × Obj)} (hr:Reg P id ops d n l w0 h F l' h') (hk:∀ ρ,Ok P y Q n (l' ρ) w0 (h' ρ) F) :
 Ok P (.seq (.region id ops d) y) Q n l w0 h F:=aB (ok_reg hr hk)
theorem Fr.eval {A:Act} {t:Nat} {v:Value} (hf:Fr n l A) (hl:l.lookup t=some v):A.eval (.tmp t)=v:=by
 show A.tmps.getD t undef=v
 rw [Array.getD_eq_getD_getElem?,hf.slot t v hl];rfl
theorem ok_cond {t:Nat} {b:Bool} {x y:Code} (hl:l.lookup t=some (.bool b)) (hx:b=true→Ok P x Q n l w0 h F) (hy:b=false→Ok P y Q n l w0 h F):Ok P (.cond (.tmp t) x y) Q n l w0 h F :=
 fun A w hf hs=>wp_cond_split (hf.eval hl) (fun e=>hx e A w hf hs) (fun e=>hy e A w hf hs)
theorem ok_yes {t:Nat} {x y:Code} (hl:l.lookup t=some (.bool true)) (hx:Ok P x Q n l w0 h F):Ok P (.cond (.tmp t) x y) Q n l w0 h F :=
 fun A w hf hs=>wp_cond_true (hf.eval hl) (hx A w hf hs)
theorem ok_no {t:Nat} {x y:Code} (hl:l.lookup t=some (.bool false)) (hy:Ok P y Q n l w0 h F):Ok P (.cond (.tmp t) x y) Q n l w0 h F :=
 fun A w hf hs=>wp_cond_false (hf.eval hl) (hy A w hf hs)
theorem aG (hk:gJ (Q .normal) n l w0 h F):Ok P .skip Q n l w0 h F:=fun A w hf hs=>wp_skip (hk A w hf hs)
theorem bF {i:Nat} (hk:gJ (Q (.exit i)) n l w0 h F):Ok P (.exit i) Q n l w0 h F:=fun A w hf hs=>wp_exit (hk A w hf hs)
theorem aF (hk:gJ (Q .ret) n l w0 h F):Ok P .ret Q n l w0 h F:=fun A w hf hs=>wp_ret (hk A w hf hs)
theorem aI {i:Nat} {c:Code} (hc:Ok P c (Exit.inBlock i Q) n l w0 h F):Ok P (.block i c) Q n l w0 h F:=fun A w hf hs=>wp_block (hc A w hf hs)
theorem St.sub {w:World} {h':List (Nat × Obj)} (hS:St w0 h F w) (hsub:List.Sublist h' h):St w0 h' F w :=
 ⟨hS.below,fun x hx=>hS.at_ x (hsub.subset hx),hS.nodup.sublist (hsub.map _),by
  obtain ⟨S,h1,h2⟩:=hS.facts
  exact ⟨S,fun b hb=>⟨(h1 b hb).1,fun hm=>(h1 b hb).2 ((hsub.map _).subset hm)⟩,h2⟩⟩
theorem Fr.sub {A:Act} (hf:Fr n l A) (l':List (Nat × Value)) (hl:∀ x∈l',l.lookup x.1=some x.2):Fr n l' A :=
 ⟨hf.defers,hf.size,fun t v hv=>hf.slot t v (hl (t,v) (nC hv))⟩
theorem ok_forget {c:Code} (l':List (Nat × Value)) (h':List (Nat × Obj)) (hl:∀ x∈l',l.lookup x.1=some x.2) (hh:List.Sublist h' h) (hc:Ok P c Q n l' w0 h' F):Ok P c Q n l w0 h F :=
 fun A w hf hs=>hc A w (hf.sub l' hl) (hs.sub hh)
def wP (l : List (Nat × Value)) : List ResultVar → Sem (List Value)
 | []=>pure []
 | .tmp t :: r => do
   let vs ← wP l r
   pure ((l.lookup t).getD undef::vs)
 | .cell a t :: r => do
   let v ← (do loadVar t (← asAddr ((l.lookup a).getD undef)))
   let vs ← wP l r
   pure (v::vs)
def resL (rs:Array ResultVar) (l:List (Nat × Value)):Sem Value:=do
 let vs ← wP l rs.toList
 pure (match vs with | [v]=>v | vs=>.tuple vs.toArray)
def zV (rs:Array ResultVar) (l:List (Nat × Value)):Bool:=rs.toList.all fun | .tmp t=>(l.lookup t).isSome | .cell a _=>(l.lookup a).isSome
theorem Fr.getD {A:Act} {t:Nat} (hf:Fr n l A) (hl:(l.lookup t).isSome=true):A.tmps.getD t undef=(l.lookup t).getD undef:=by
 obtain ⟨v,hv⟩:=Option.isSome_iff_exists.1 hl
 rw [Array.getD_eq_getD_getElem?,hf.slot t v hv,hv]
theorem resL_eq {fn:Func} {A:Act} (hf:Fr n l A) (hr:zV fn.results l=true):results fn A.tmps=resL fn.results l:=by
 unfold results resL
 unfold zV at hr
 rw [Array.mapM_eq_mapM_toList]
 generalize fn.results.toList=rs at *
 have key:∀ rs:List ResultVar,(rs.all fun | .tmp t=>(l.lookup t).isSome | .cell a _=>(l.lookup a).isSome)=true →
  (rs.mapM fun | .tmp t=>(pure (A.tmps.getD t undef):Sem Value) | .cell a t=>do loadVar t (← asAddr (A.tmps.getD a undef)))=wP l rs:=by
  intro rs
  induction rs with
  | nil=>intro _;rfl
  | cons x rs ih =>
    intro hall
    rw [List.all_cons,Bool.and_eq_true] at hall
    rw [List.mapM_cons,ih hall.2]
    cases x with
    | tmp t=>simp only [wP,hf.getD hall.1,pure_bind]
    | cell a t=>simp only [wP,hf.getD hall.1]
 have k:=key rs hr
 refine (congrArg (fun z:Sem (List Value)=>Functor.map List.toArray z >>= fun vs:Array Value=>(pure (if h:vs.size=1 then vs[0] else .tuple vs):Sem Value)) k).trans ?_
 rw [map_eq_pure_bind,bind_assoc]
 congr 1
 funext vs
 rw [pure_bind]
 rcases vs with _ | ⟨v,_ | ⟨u,vs⟩⟩
 ·simp
 ·simp
 ·simp
theorem meets_ret {fn:Func} {R:Ending→World→Prop} {v:Value} (ps:List Nat) (es:List (Nat × Nat)) (hr:zV fn.results l=true) (hg:grd P (resL fn.results l) ps h=some (v,es)) (he:Eqs es)
 (hR:∀ w,St w0 h F w→R (.returned v) w):gJ (bodyPost P fn R .ret) n l w0 h F:=by
 intro A w hf hs
 refine ⟨hf.defers,v,?_,hR w hs⟩
 rw [resL_eq hf hr]
 exact grd_sound _ ps h w v es (fun x hx=>(hs.at_ x hx).2) hg he
theorem Calls.of_ok {f:FuncId} {fn:Func} {c:Code} {args:Array Value} {w:World} {R:Ending→World→Prop} (hf:P.funcs[f]? = some fn) (hb:fn.body=some c) (hn:fn.ntmps=n) (hl:(args.toList.zipIdx.map fun x=>(x.2,x.1))=l) (ha:args.size≤n)
 (hF:dL (fun _=>False) F w) (h:Ok P c (bodyPost P fn R) n l ⟨w,[]⟩ [] F):Calls P f args w R:=by
 refine calls_of_wp hf hb (h _ w ?_ ?_)
 ·refine ⟨rfl, by simp [hn]; omega, fun t v hv => ?_⟩
  have hm:=nC hv
  rw [← hl] at hm
  obtain ⟨⟨u,k⟩,hx,he⟩:=List.mem_map.1 hm
  simp only [Prod.mk.injEq] at he
  obtain ⟨rfl,rfl⟩:=he
  have h1:=List.mem_zipIdx_iff_getElem?.1 hx
  have h1':args[k]? = some u:=by simpa using h1
  have hlt:k<args.size:=(Array.getElem?_eq_some_iff.1 h1').1
  show (args++Array.replicate (fn.ntmps-args.size) undef)[k]? = some u
  rw [Array.getElem?_append_left hlt,h1']
 ·refine ⟨nN.refl _ _, by simp, by simp, ?_⟩
  obtain ⟨S,h1,h2⟩:=hF
  exact ⟨S,fun b hb=>⟨(h1 b hb).1,by simp⟩,h2⟩
theorem Calls.of_okW {f:FuncId} {fn:Func} {c:Code} {args:Array Value} {w:World} {R:Ending→World→Prop} (h0:List (Nat × Obj)) (hf:P.funcs[f]? = some fn) (hb:fn.body=some c) (hn:fn.ntmps=n) (hl:(args.toList.zipIdx.map fun x=>(x.2,x.1))=l) (ha:args.size≤n)
 (hK:∀ x∈h0,w.heap[x.1]? = some x.2) (hN:(h0.map (·.1)).Nodup) (hF:dL (fun b=>b∈h0.map (·.1)) F w) (h:Ok P c (bodyPost P fn R) n l ⟨w,h0.map (·.1)⟩ h0 F):Calls P f args w R:=by
 refine calls_of_wp hf hb (h _ w ?_ ?_)
 ·refine ⟨rfl, by simp [hn]; omega, fun t v hv => ?_⟩
  have hm:=nC hv
  rw [← hl] at hm
  obtain ⟨⟨u,k⟩,hx,he⟩:=List.mem_map.1 hm
  simp only [Prod.mk.injEq] at he
  obtain ⟨rfl,rfl⟩:=he
  have h1:=List.mem_zipIdx_iff_getElem?.1 hx
  have h1':args[k]? = some u:=by simpa using h1
  have hlt:k<args.size:=(Array.getElem?_eq_some_iff.1 h1').1
  show (args++Array.replicate (fn.ntmps-args.size) undef)[k]? = some u
  rw [Array.getElem?_append_left hlt,h1']
 ·exact ⟨nN.refl _ _,fun x hx=>⟨Or.inr (List.mem_map.2 ⟨x,hx,rfl⟩),hK x hx⟩,hN,hF⟩
theorem nN.below {w w':World} (h:nN (fun b=>b∈([]:List Nat)) w w'):Below w.heap.size w w':=⟨h.os,h.tape,h.output,h.size,fun k hk=>h.block k hk (by simp)⟩
theorem St.bel {w w':World} (hS:St ⟨w,[]⟩ h F w'):Below w.heap.size w w':=hS.below.below
end
def qZ (id : Nat) : Code → Option (Array Oper)
 | .region i ops _=>if i==id then some ops else none
 | .seq a b => match qZ id a with
   | some o=>some o
   | none=>qZ id b
 | .cond _ a b => match qZ id a with
   | some o=>some o
   | none=>qZ id b
 | .block _ c=>qZ id c
 | .loop c=>qZ id c
 | .scope c=>qZ id c
 | _=>none
def dP (f:Func) (id:Nat):Array Oper:=((f.body.bind (qZ id)).getD #[])
def opAt (ops:Array Oper) (i:Nat):Oper:=(ops[i]?).getD default
theorem eY {ops:Array Oper} {i:Nat} (h:(ops[i]?).isSome=true):ops[i]? = some (opAt ops i):=by
 unfold opAt
 obtain ⟨o,ho⟩:=Option.isSome_iff_exists.1 h
 rw [ho];rfl
def dup (l:List Nat):List (Nat × Nat):=l.map fun g=>(g,g)
theorem eqs_dup:∀ l,Eqs (dup l)
 | []=>trivial
 | _::l=>⟨rfl,eqs_dup l⟩
section
variable {P : Program} {ops : Array Oper} {D : List Nat} {l : List (Nat × Value)} {w0 : Base} {h : List (Nat × Obj)} {F0 : World → Prop}
variable {vals : (Nat → bH) → Nat → Value} {effs : (Nat → bH) → Nat → Eff}
def runChk (P : Program) (ops : Array Oper) (D : List Nat) (l : List (Nat × Value)) (h : List (Nat × Obj)) (V : Nat → Value) (E : Nat → Eff) (E' : Eff) (i : Nat) (ns ps z : List Nat) : Option (Option Value × List (Nat × Obj) × List (Nat × Nat)) :=
 if (ops[i]?).isSome&&fM V (opAt ops i)&&dY ops D h E i ns&&yJ ns E' then
  (kH P (execOp (dC ops D l V i) (opAt ops i)) ps (known ops D h E i ns) z).map fun r=>(xY r.1,r.2.1,r.2.2)
 else none
theorem o_run (i:Nat) (ns ps:List Nat) (gs:(Nat→bH)→List Nat→List Nat)
 (hc:∀ ρ z,runChk P ops D l h (vals ρ) (effs ρ) (effs (upd ρ i { n:=z}) i) i ns ps z=some (some (vals (upd ρ i { n:=z}) i),uM ns (known ops D h (effs ρ) i ns) (effs (upd ρ i { n:=z}) i),dup (gs ρ z))) :
 jV P ops D l w0 h F0 vals effs (fun _ _ _=>True) i:=by
 have key:∀ ρ z,((ops[i]?).isSome=true∧fM (vals ρ) (opAt ops i)=true∧dY ops D h (effs ρ) i ns=true∧yJ ns (effs (upd ρ i { n:=z}) i)=true) ∧
  ∃ x,xY x=some (vals (upd ρ i { n:=z}) i)∧kH P (execOp (dC ops D l (vals ρ) i) (opAt ops i)) ps (known ops D h (effs ρ) i ns) z=some (x,uM ns (known ops D h (effs ρ) i ns) (effs (upd ρ i { n:=z}) i),dup (gs ρ z)):=by
  intro ρ z
  have h1:=hc ρ z
  unfold runChk at h1
  split at h1
  ·rename_i hb
   simp only [Bool.and_eq_true] at hb
   refine ⟨⟨hb.1.1.1,hb.1.1.2,hb.1.2,hb.2⟩,?_⟩
   rw [Option.map_eq_some_iff] at h1
   obtain ⟨⟨x,K,es⟩,h2,h3⟩:=h1
   simp only [Prod.mk.injEq] at h3
   obtain ⟨h3,rfl,rfl⟩:=h3
   exact ⟨x,h3,h2⟩
  ·exact absurd h1 (by simp)
 have k0:=key (fun _=>{}) []
 refine obl_run (eY k0.1.1) ns ps (fun ρ z=>dup (gs ρ z)) (fun ρ z=>(key ρ z).2.choose) (fun ρ=>(key ρ []).1.2.1) (fun ρ=>(key ρ []).1.2.2.1) (fun ρ z=>(key ρ z).2.choose_spec.2) (fun ρ z=>(key ρ z).2.choose_spec.1) (fun ρ z=>(key ρ z).1.2.2.2) (fun ρ z=>eqs_dup _) (fun _ _ _=>trivial)
def pM (P : Program) (ops : Array Oper) (D : List Nat) (l : List (Nat × Value)) (V : Nat → Value) (v : Value) (E' : Eff) (i : Nat) (z : List Nat) : Option (Next × List (Nat × Obj) × List (Nat × Nat) × Value × Eff) :=
 if (ops[i]?).isSome&&fM V (opAt ops i) then
  (kH P (execOp (dC ops D l V i) (opAt ops i)) [] [] z).map fun r=>(r.1,r.2.1,r.2.2,v,E')
 else none
theorem o_call (i:Nat) (f:FuncId) (args:(Nat→bH)→Array Value) (v:(Nat→bH)→Value)
 (hc:∀ ρ z,pM P ops D l (vals ρ) (vals (upd ρ i {}) i) (effs (upd ρ i {}) i) i z=some (.enter f (args ρ),[],[],v ρ,{}))
 (hf:∀ ρ w,Calls P f (args ρ) w (fun e w'=>e=.returned (v ρ)∧Below w.heap.size w w')):jV P ops D l w0 h F0 vals effs (fun _ _ _=>True) i:=by
 have key:∀ ρ z,((ops[i]?).isSome=true∧fM (vals ρ) (opAt ops i)=true)∧vals (upd ρ i {}) i=v ρ∧effs (upd ρ i {}) i={}∧kH P (execOp (dC ops D l (vals ρ) i) (opAt ops i)) [] [] z=some (.enter f (args ρ),[],[]):=by
  intro ρ z
  have h1:=hc ρ z
  unfold pM at h1
  split at h1
  ·rename_i hb
   simp only [Bool.and_eq_true] at hb
   rw [Option.map_eq_some_iff] at h1
   obtain ⟨⟨x,K,es⟩,h2,h3⟩:=h1
   simp only [Prod.mk.injEq] at h3
   obtain ⟨rfl,rfl,rfl,h4,h5⟩:=h3
   exact ⟨hb,h4,h5,h2⟩
  ·exact absurd h1 (by simp)
 refine obl_call (eY (key (fun _=>{}) []).1.1) f args (fun ρ=>(key ρ []).1.2) (fun ρ z=>(key ρ z).2.2.2) (fun ρ w=>?_) (fun ρ=>(key ρ []).2.2.1) (fun _ _=>trivial)
 rw [(key ρ []).2.1]
 exact hf ρ w
def binChk (ops : Array Oper) (D : List Nat) (l : List (Nat × Value)) (V : Nat → Value) (v : Value) (E' : Eff) (i : Nat) : Option (BinOp × TypeId × Value × Value × Value × Eff) :=
 if (ops[i]?).isSome&&fM V (opAt ops i) then
  match (opAt ops i).op with
  | .binOp op t x y _=>some (op,t,dC ops D l V i x,dC ops D l V i y,v,E')
  | _=>none
 else none
theorem o_bin (i : Nat) (op : BinOp) (t : TypeId) (a b v : (Nat → bH) → Value)
 (hc:∀ ρ,binChk ops D l (vals ρ) (vals (upd ρ i {}) i) (effs (upd ρ i {}) i) i=some (op,t,a ρ,b ρ,v ρ,{}))
 (hg:∀ ρ x y w,(eqGuard op t x y (a ρ) (b ρ)).run P w=.ok () w)
 (hf:∀ ρ w,(binOp op t (a ρ) (b ρ)).run P w=.ok (v ρ) w):jV P ops D l w0 h F0 vals effs (fun _ _ _=>True) i:=by
 have key:∀ ρ,((ops[i]?).isSome=true∧fM (vals ρ) (opAt ops i)=true)∧∃ x y t',(opAt ops i).op=.binOp op t x y t'∧dC ops D l (vals ρ) i x=a ρ∧dC ops D l (vals ρ) i y=b ρ∧vals (upd ρ i {}) i=v ρ∧effs (upd ρ i {}) i={}:=by
  intro ρ
  have h1:=hc ρ
  unfold binChk at h1
  split at h1
  ·rename_i hb
   simp only [Bool.and_eq_true] at hb
   split at h1
   ·rename_i op' t' x y t'' ho
    simp only [Option.some.injEq,Prod.mk.injEq] at h1
    obtain ⟨rfl,rfl,h2,h3,h4,h5⟩:=h1
    exact ⟨hb,x,y,t'',ho,h2,h3,h4,h5⟩
   ·exact absurd h1 (by simp)
  ·exact absurd h1 (by simp)
 refine obl_pure (eY (key (fun _=>{})).1.1) (fun ρ=>(key ρ).1.2) (fun ρ w=>?_) (fun ρ=>by obtain ⟨_,x,y,t',_,_,_,_,h5⟩:=key ρ;exact h5) (fun _ _=>trivial)
 obtain ⟨_,x,y,t',h1,h2,h3,h4,_⟩:=key ρ
 rw [h4]
 unfold execOp
 rw [h1]
 simp only [h2,h3]
 simp only [Sem.run_bind,hg ρ x y w,Result.andThen_ok,hf ρ w,Sem.run_pure]
theorem o_as (i:Nat) (v v':(Nat→bH)→Value)
 (hc:∀ ρ z,pM P ops D l (vals ρ) (vals (upd ρ i {}) i) (effs (upd ρ i {}) i) i z=some (.value (v ρ),[],[],v' ρ,{})) (he:∀ ρ,v ρ=v' ρ):jV P ops D l w0 h F0 vals effs (fun _ _ _=>True) i:=by
 have key:∀ ρ z,((ops[i]?).isSome=true∧fM (vals ρ) (opAt ops i)=true)∧vals (upd ρ i {}) i=v' ρ∧effs (upd ρ i {}) i={}∧kH P (execOp (dC ops D l (vals ρ) i) (opAt ops i)) [] [] z=some (.value (v ρ),[],[]):=by
  intro ρ z
  have h1:=hc ρ z
  unfold pM at h1
  split at h1
  ·rename_i hb
   simp only [Bool.and_eq_true] at hb
   rw [Option.map_eq_some_iff] at h1
   obtain ⟨⟨x,K,es⟩,h2,h3⟩:=h1
   simp only [Prod.mk.injEq] at h3
   obtain ⟨rfl,rfl,rfl,h4,h5⟩:=h3
   exact ⟨hb,h4,h5,h2⟩
  ·exact absurd h1 (by simp)
 refine zD (eY (key (fun _=>{}) []).1.1) (fun ρ=>(key ρ []).1.2) (fun ρ w _=>?_) (fun ρ=>(key ρ []).2.2.1) (fun _ _=>trivial)
 obtain ⟨w',h1,_,_,h4,_,_⟩:=kF (P:=P) (execOp (dC ops D l (vals ρ) i) (opAt ops i)) [] [] w _ _ _ (by intro y hy;simp at hy) (by simp) ((key ρ _).2.2.2) trivial
 unfold opv
 rw [h1]
 exact ⟨by rw [(key ρ []).2.1];exact he ρ,⟨h4.os,h4.tape,h4.output,h4.size,fun k hk=>h4.block k hk (by simp)⟩⟩
end
section
variable {P : Program} {Q : Exit → Act → World → Prop} {X : Act → World → Prop} {n : Nat} {l : List (Nat × Value)} {w0 : Base} {h : List (Nat × Obj)} {F : World → Prop}
theorem ok_seq_r {id:Nat} {ops ops':Array Oper} {d:Bool} {y:Code} {l':(Nat→bH)→List (Nat × Value)} {h':(Nat→bH)→List (Nat × Obj)} (e:ops=ops') (hr:Reg P id ops' d n l w0 h F l' h') (hk:∀ ρ,Ok P y Q n (l' ρ) w0 (h' ρ) F) :
 Ok P (.seq (.region id ops d) y) Q n l w0 h F:=by subst e;exact ok_seq_reg hr hk
theorem ok_r {id:Nat} {ops ops':Array Oper} {d:Bool} {l':(Nat→bH)→List (Nat × Value)} {h':(Nat→bH)→List (Nat × Obj)} (e:ops=ops') (hr:Reg P id ops' d n l w0 h F l' h') (hk:∀ ρ,gJ (Q .normal) n (l' ρ) w0 (h' ρ) F) :
 Ok P (.region id ops d) Q n l w0 h F:=by subst e;exact ok_reg hr hk
theorem aA {y:Code} (hk:Ok P y Q n l w0 h F):gJ (Exit.then (y.wp P Q) Q .normal) n l w0 h F:=hk
theorem aC (hk:gJ (Q .ret) n l w0 h F):gJ (Exit.then X Q .ret) n l w0 h F:=hk
theorem aN {i:Nat} (hk:gJ (Q (.exit i)) n l w0 h F):gJ (Exit.then X Q (.exit i)) n l w0 h F:=hk
theorem aJ {i:Nat} (hk:gJ (Q .normal) n l w0 h F):gJ (Exit.inBlock i Q .normal) n l w0 h F:=hk
theorem aP {i:Nat} (hk:gJ (Q .ret) n l w0 h F):gJ (Exit.inBlock i Q .ret) n l w0 h F:=hk
theorem aT {i:Nat} (hk:gJ (Q .normal) n l w0 h F):gJ (Exit.inBlock i Q (.exit i)) n l w0 h F:=by
 intro A w hf hs
 show (if i=i then _ else _)
 rw [if_pos rfl];exact hk A w hf hs
def Subl (l' l:List (Nat × Value)):Prop:=l'.map (fun x=>l.lookup x.1)=l'.map (fun x=>some x.2)
theorem Subl.get {l' l:List (Nat × Value)} (hs:Subl l' l):∀ x∈l',l.lookup x.1=some x.2:=by
 unfold Subl at hs
 intro x hx
 obtain ⟨k,hk⟩:=List.mem_iff_getElem?.1 hx
 have h1:=congrArg (fun z=>z[k]?) hs
 simp only [List.getElem?_map,hk,Option.map_some,Option.some.injEq] at h1
 exact h1
theorem ok_drop {c:Code} (l':List (Nat × Value)) (h':List (Nat × Obj)) (hl:l'.map (fun x=>l.lookup x.1)=l'.map (fun x=>some x.2)) (hh:List.Sublist h' h) (hc:Ok P c Q n l' w0 h' F):Ok P c Q n l w0 h F:=ok_forget l' h' (Subl.get hl) hh hc
def OkR (P:Program) (c:Code) (Q:Exit→Act→World→Prop) (k n:Nat) (l:List (Nat × Value)) (w0:Base) (h:List (Nat × Obj)) (F:World→Prop):Prop:=∀ A w,Fr n l A→St w0 h F w→Code.rounds P c Q k A w
theorem jY {c:Code} (k:Nat) (hc:OkR P c Q k n l w0 h F):Ok P (.loop c) Q n l w0 h F:=fun A w hf hs=>wp_loop_rounds k (hc A w hf hs)
theorem dI {c:Code} {k:Nat} (hc:Ok P c (Exit.then (Code.rounds P c Q k) Q) n l w0 h F):OkR P c Q (k+1) n l w0 h F:=fun A w hf hs=>hc A w hf hs
theorem dV {c:Code} {k:Nat} (hc:OkR P c Q k n l w0 h F):gJ (Exit.then (Code.rounds P c Q k) Q .normal) n l w0 h F:=hc
def Next1 {σ:Type} (n:Nat) (w0:Base) (F:World→Prop) (L:σ→List (Nat × Value)) (H:σ→List (Nat × Obj)) (m:σ→Nat) (R:σ→Prop) (k:Nat) (A:Act) (w:World):Prop:=∃ s,m s<k∧R s∧Fr n (L s) A∧St w0 (H s) F w
theorem ok_loop {σ:Type} {c:Code} (L:σ→List (Nat × Value)) (H:σ→List (Nat × Obj)) (m:σ→Nat) (R:σ→Prop) (s0:σ) (hR:R s0) (hl:(L s0).map (fun x=>l.lookup x.1)=(L s0).map (fun x=>some x.2)) (hh:List.Sublist (H s0) h)
 (round:∀ s,R s→Ok P c (Exit.then (Next1 n w0 F L H m R (m s)) Q) n (L s) w0 (H s) F):Ok P (.loop c) Q n l w0 h F:=by
 intro A w hf hs
 refine wp_loop_ghost (fun k A w=>∃ s,m s=k∧R s∧Fr n (L s) A∧St w0 (H s) F w) (m s0) ⟨s0,rfl,hR,hf.sub _ (Subl.get hl),hs.sub hh⟩ ?_
 rintro k A w ⟨s,rfl,h1,h2,h3⟩
 refine Code.wp_mono ?_ (round s h1 A w h2 h3)
 intro e A' w' hq
 cases e with
 | normal =>
   obtain ⟨s',q1,q2,q3,q4⟩:=hq
   exact ⟨m s',q1,s',rfl,q2,q3,q4⟩
 | _=>exact hq
theorem mt_round {σ:Type} {L:σ→List (Nat × Value)} {H:σ→List (Nat × Obj)} {m:σ→Nat} {R:σ→Prop} {k:Nat} (s:σ) (hm:m s<k) (hR:R s) (hl:(L s).map (fun x=>l.lookup x.1)=(L s).map (fun x=>some x.2)) (hh:List.Sublist (H s) h) :
 gJ (Exit.then (Next1 n w0 F L H m R k) Q .normal) n l w0 h F:=fun _ _ hf hs=>⟨s,hm,hR,hf.sub _ (Subl.get hl),hs.sub hh⟩
end
abbrev pt (g:Nat):Value:=.pointer (some ⟨g,0,none⟩)
section
variable {P : Program} {ops : Array Oper} {D : List Nat} {l : List (Nat × Value)} {w0 : Base} {h : List (Nat × Obj)} {F0 : World → Prop}
variable {vals : (Nat → bH) → Nat → Value} {effs : (Nat → bH) → Nat → Eff}
def wL (ops:Array Oper) (V:Nat→Value) (v:Value) (E':Eff) (i:Nat):Option (Value × Eff) :=
 if (ops[i]?).isSome&&fM V (opAt ops i) then some (v,E') else none
theorem qH {v':Value} {E:Eff} {i:Nat} {V:Nat→Value} {v:Value} {E':Eff} (h1:wL ops V v E' i=some (v',E)):((ops[i]?).isSome=true∧fM V (opAt ops i)=true)∧v=v'∧E'=E:=by
 unfold wL at h1
 split at h1
 ·rename_i hb
  simp only [Bool.and_eq_true] at hb
  simp only [Option.some.injEq,Prod.mk.injEq] at h1
  exact ⟨hb,h1⟩
 ·exact absurd h1 (by simp)
theorem o_sem (i:Nat) (s:(Nat→bH)→Sem Next) (v:(Nat→bH)→Value) (hc:∀ ρ,wL ops (vals ρ) (vals (upd ρ i {}) i) (effs (upd ρ i {}) i) i=some (v ρ,{}))
 (hx:∀ ρ,execOp (dC ops D l (vals ρ) i) (opAt ops i)=s ρ) (hr:∀ ρ w,(s ρ).run P w=.ok (.value (v ρ)) w):jV P ops D l w0 h F0 vals effs (fun _ _ _=>True) i:=by
 refine obl_pure (eY (qH (hc (fun _=>{}))).1.1) (fun ρ=>(qH (hc ρ)).1.2) (fun ρ w=>?_) (fun ρ=>(qH (hc ρ)).2.2) (fun _ _=>trivial)
 rw [(qH (hc ρ)).2.1,hx ρ]
 exact hr ρ w
theorem run_idx_arr {t elem:TypeId} {len s g off:Nat} {k:IntKind} {n:Int} (hu:P.underlying t=some (.array len elem)) (hs:∀ w,(sizeOf elem).run P w=.ok s w) (h0:0≤n) (h1:n<len) (w:World) :
 (do pure (Next.value (← Instr.indexAt t (.pointer (some ⟨g,off,none⟩)) (.int k n))):Sem Next).run P w=.ok (.value (.pointer (some ⟨g,off+n.toNat*s,none⟩))) w:=by
 have hadd:(Addr.add ⟨g,off,none⟩ (n.toNat*s))=⟨g,off+n.toNat*s,none⟩:=by
  unfold Addr.add
  split
  ·rename_i e;rw [e,Nat.add_zero]
  ·rfl
 simp [Instr.indexAt,asIntOf,Instr.sureAddr,Sem.run_bind,run_underlying hu,h0,h1,hs,hadd]
theorem xX {t elem:TypeId} {len cap s g off:Nat} {k:IntKind} {n:Int} (hu:P.underlying t=some (.slice elem)) (hs:∀ w,(sizeOf elem).run P w=.ok s w) (h0:0≤n) (h1:n<len) (w:World) :
 (do pure (Next.value (← Instr.indexAt t (.slice (some ⟨g,off,none⟩) len cap) (.int k n))):Sem Next).run P w=.ok (.value (.pointer (some ⟨g,off+n.toNat*s,none⟩))) w:=by
 have hadd:(Addr.add ⟨g,off,none⟩ (n.toNat*s))=⟨g,off+n.toNat*s,none⟩:=by
  unfold Addr.add
  split
  ·rename_i e;rw [e,Nat.add_zero]
  ·rfl
 simp [Instr.indexAt,asIntOf,Sem.run_bind,run_underlying hu,h0,h1,hs,hadd]
theorem aX {t elem:TypeId} {len g:Nat} {k:IntKind} {n:Int} {i:Nat} (hu:P.underlying t=some (.array len elem)) (hs:∀ w,(sizeOf elem).run P w=.ok 1 w) (hi:n=(i:Int)∧i<len) (w:World) :
 (do pure (Next.value (← Instr.indexAt t (.pointer (some ⟨g,0,none⟩)) (.int k n))):Sem Next).run P w=.ok (.value (.pointer (some ⟨g,i,none⟩))) w:=by
 obtain ⟨rfl,hi⟩:=hi
 rw [run_idx_arr hu hs (by omega) (by omega) w]
 simp
def ldChk (ops : Array Oper) (D : List Nat) (l : List (Nat × Value)) (h : List (Nat × Obj)) (V : Nat → Value) (E : Nat → Eff) (v : Value) (E' : Eff) (i n : Nat) : Option (TypeId × Value × List (Nat × Obj) × Value × Eff) :=
 if (ops[i]?).isSome&&fM V (opAt ops i)&&dY ops D h E i [n] then
  match (opAt ops i).op with
  | .load t a=>some (t,dC ops D l V i a,known ops D h E i [n],v,E')
  | _=>none
 else none
theorem kG (i n : Nat) (t : TypeId) (g off : (Nat → bH) → Nat) (C : (Nat → bH) → Array Value) (T : TypeId) (fr : Nat × Nat) (v : (Nat → bH) → Value)
 (hc:∀ ρ,ldChk ops D l h (vals ρ) (effs ρ) (vals (upd ρ i {}) i) (effs (upd ρ i {}) i) i n=some (t,.pointer (some ⟨g ρ,off ρ,none⟩),[(g ρ,.cells (C ρ) T fr)],v ρ,{}))
 (ha:∀ w,(isAgg t).run P w=.ok false w) (hg:∀ ρ,(C ρ)[off ρ]? = some (v ρ)):jV P ops D l w0 h F0 vals effs (fun _ _ _=>True) i:=by
 have key:∀ ρ,((ops[i]?).isSome=true∧fM (vals ρ) (opAt ops i)=true∧dY ops D h (effs ρ) i [n]=true)∧∃ a,(opAt ops i).op=.load t a∧dC ops D l (vals ρ) i a=.pointer (some ⟨g ρ,off ρ,none⟩)∧known ops D h (effs ρ) i [n]=[(g ρ,.cells (C ρ) T fr)]∧vals (upd ρ i {}) i=v ρ∧effs (upd ρ i {}) i={}:=by
  intro ρ
  have h1:=hc ρ
  unfold ldChk at h1
  split at h1
  ·rename_i hb
   simp only [Bool.and_eq_true] at hb
   split at h1
   ·rename_i t' a ho
    simp only [Option.some.injEq,Prod.mk.injEq] at h1
    obtain ⟨rfl,h2,h3,h4,h5⟩:=h1
    exact ⟨⟨hb.1.1,hb.1.2,hb.2⟩,a,ho,h2,h3,h4,h5⟩
   ·exact absurd h1 (by simp)
  ·exact absurd h1 (by simp)
 refine zD (eY (key (fun _=>{})).1.1) (fun ρ=>(key ρ).1.2.1) (fun ρ w hG=>?_) (fun ρ=>(key ρ).2.choose_spec.2.2.2.2) (fun _ _=>trivial)
 obtain ⟨T',hG⟩:=hG
 obtain ⟨⟨_,_,hn⟩,a,h1,h2,h3,h4,_⟩:=key ρ
 have hblk:w.heap[g ρ]? = some (.cells (C ρ) T fr):=by
  unfold dY at hn
  rw [Bool.and_eq_true,List.all_eq_true] at hn
  have hn1:=hn.1 n (by simp)
  rw [Bool.and_eq_true] at hn1
  obtain ⟨q,hb⟩:=Option.isSome_iff_exists.1 hn1.1
  have:=(hG.block n q hb hn1.2).1
  unfold known at h3
  simp only [List.map_cons,List.map_nil,hb,List.cons.injEq,and_true] at h3
  rw [h3] at this
  exact this
 have hcell:w.cell? ⟨g ρ,off ρ,none⟩=some (v ρ):=by
  unfold World.cell?
  simp only [hblk]
  exact hg ρ
 unfold opv execOp
 rw [h1]
 simp only [h2]
 simp only [Instr.loadAt,Instr.sureAddr,loadVar,Sem.run_bind,Sem.run_pure,Result.andThen_ok,ha,Bool.false_eq_true,if_false,load,Sem.run,hcell]
 rw [h4]
 exact ⟨rfl,Below.refl _ _⟩
def stChk (ops : Array Oper) (D : List Nat) (l : List (Nat × Value)) (h : List (Nat × Obj)) (V : Nat → Value) (E : Nat → Eff) (v : Value) (E' : Eff) (i n : Nat) : Option (TypeId × Value × Value × List (Nat × Obj) × Value × Eff) :=
 if (ops[i]?).isSome&&fM V (opAt ops i)&&dY ops D h E i [n] then
  match (opAt ops i).op with
  | .store t a x=>some (t,dC ops D l V i a,dC ops D l V i x,known ops D h E i [n],v,E')
  | _=>none
 else none
theorem qG (i n : Nat) (t : TypeId) (g off : (Nat → bH) → Nat) (C C' : (Nat → bH) → Array Value) (T : TypeId) (x : (Nat → bH) → Value)
 (hc:∀ ρ,stChk ops D l h (vals ρ) (effs ρ) (vals (upd ρ i {}) i) (effs (upd ρ i {}) i) i n=some (t,.pointer (some ⟨g ρ,off ρ,none⟩),x ρ,[(g ρ,.cells (C ρ) T (0,0))],undef,{ puts:=[(n,g ρ,.cells (C' ρ) T (0,0))]}))
 (hs:∀ w,(sizeOf t).run P w=.ok 1 w) (hp:∀ ρ,plainV (x ρ)=true) (hlt:∀ ρ,off ρ<(C ρ).size) (hC:∀ ρ,(C ρ).setIfInBounds (off ρ) (x ρ)=C' ρ):jV P ops D l w0 h F0 vals effs (fun _ _ _=>True) i:=by
 have key:∀ ρ,((ops[i]?).isSome=true∧fM (vals ρ) (opAt ops i)=true∧dY ops D h (effs ρ) i [n]=true)∧∃ a y,(opAt ops i).op=.store t a y∧dC ops D l (vals ρ) i a=.pointer (some ⟨g ρ,off ρ,none⟩)∧dC ops D l (vals ρ) i y=x ρ∧known ops D h (effs ρ) i [n]=[(g ρ,.cells (C ρ) T (0,0))]∧vals (upd ρ i {}) i=undef∧effs (upd ρ i {}) i={ puts:=[(n,g ρ,.cells (C' ρ) T (0,0))]}:=by
  intro ρ
  have h1:=hc ρ
  unfold stChk at h1
  split at h1
  ·rename_i hb
   simp only [Bool.and_eq_true] at hb
   split at h1
   ·rename_i t' a y ho
    simp only [Option.some.injEq,Prod.mk.injEq] at h1
    obtain ⟨rfl,h2,h3,h4,h5,h6⟩:=h1
    exact ⟨⟨hb.1.1,hb.1.2,hb.2⟩,a,y,ho,h2,h3,h4,h5,h6⟩
   ·exact absurd h1 (by simp)
  ·exact absurd h1 (by simp)
 intro o ho ρ T' w hG
 obtain ⟨⟨hsome,hwant,hn⟩,a,y,h1,h2,h3,h4,h5,h6⟩:=key ρ
 have hoe:=eY hsome
 rw [ho] at hoe
 obtain rfl:o=opAt ops i:=by simpa using hoe
 rw [if_pos hwant]
 unfold dY at hn
 rw [Bool.and_eq_true,List.all_eq_true] at hn
 have hn1:=hn.1 n (by simp)
 rw [Bool.and_eq_true] at hn1
 obtain ⟨q,hb⟩:=Option.isSome_iff_exists.1 hn1.1
 have hblk0:=(hG.block n q hb hn1.2).1
 unfold known at h4
 simp only [List.map_cons,List.map_nil,hb,List.cons.injEq,and_true] at h4
 rw [h4] at hblk0
 simp only at hblk0
 have hcell:w.cell? ⟨g ρ,off ρ,none⟩=some ((C ρ)[off ρ]'(hlt ρ)):=by
  unfold World.cell?
  simp only [hblk0]
  simp [hlt ρ]
 have hfr:w.frozen? ⟨g ρ,off ρ,none⟩=false:=by
  unfold World.frozen?
  simp only [hblk0]
  simp
 have hsz:(x ρ).cells.toList=[x ρ]:=by
  have:=hp ρ
  cases hx:x ρ<;>rw [hx] at this<;>first | rfl | (simp [plainV] at this;done)
 have hsz2:(x ρ).cells.size=1:=by rw [← Array.length_toList,hsz];rfl
 have hrun:(execOp (dC ops D l (vals ρ) i) (opAt ops i)).run P w=.ok .skip (w.setCell ⟨g ρ,off ρ,none⟩ (x ρ)):=by
  unfold execOp
  rw [h1]
  simp only [h2,h3]
  have hpv:=hp ρ
  simp only [Instr.storeAt,Instr.sureAddr,storeVar,Sem.run_bind,Sem.run_pure,Result.andThen_ok,hs,hsz,hsz2]
  rw [if_neg (by simp)]
  have hsu:(Sem.store .plain ⟨g ρ,off ρ,none⟩ (x ρ) (.pure ()):Sem Unit).run P w=.ok () (w.setCell ⟨g ρ,off ρ,none⟩ (x ρ)):=by
   cases hx:x ρ<;>rw [hx] at hpv<;>first | (simp [plainV] at hpv;done) | (simp only [Sem.run,hcell,hfr,Bool.false_eq_true,if_false])
  have hsc:(storeCells ⟨g ρ,off ρ,none⟩ [x ρ]).run P w=.ok () (w.setCell ⟨g ρ,off ρ,none⟩ (x ρ)):=by
   unfold storeCells
   simp only [Sem.run_bind,storeCells,store,Addr.add,if_true,hsu,Result.andThen_ok,Sem.run_pure]
  rw [hsc]
  rfl
 unfold opv
 rw [hrun]
 refine ⟨{},h5.symm,?_,?_,?_,?_,dB (fun _=>trivial)⟩
 ·refine ⟨rfl, rfl, rfl, by simp [World.setCell], fun k hk hX => ?_⟩
  apply Below.heap_setCell
  rintro rfl
  exact hX ⟨n,_,q,by rw [h6];exact List.mem_cons_self,hb,by rw [h4]⟩
 ·rw [h6]
  intro n' o' hm
  simp only [List.mem_singleton,Prod.mk.injEq] at hm
  obtain ⟨rfl,rfl⟩:=hm
  refine ⟨hn1.2,q,hb,?_,?_⟩
  ·have hp' := put_in (w := w) (a := ⟨g ρ, off ρ, none⟩) hblk0 (u := (C ρ)[off ρ]'(hlt ρ)) (by simp [vN, hlt ρ]) (x ρ)
   simp only [putIn,hC ρ] at hp'
   simpa using hp'
  ·left;rw [h4];simp
 ·rw [h6];intro k b' q' hk;simp at hk
 ·rw [h6];simp
end
def wd (A:Nat) (i:Nat):Int:=((A / 18446744073709551616^i%18446744073709551616:Nat):Int)
abbrev U (A:Nat):Value:=.agg #[.int .u64 (wd A 0),.int .u64 (wd A 1),.int .u64 (wd A 2),.int .u64 (wd A 3)]
theorem mO (A i:Nat):0≤wd A i:=by unfold wd;omega
theorem wd_lt (A i:Nat):wd A i<18446744073709551616:=by unfold wd;omega
def M:Nat:=115792089237316195423570985008687907853269984665640564039457584007913129639936
theorem mQ:M=115792089237316195423570985008687907853269984665640564039457584007913129639936:=rfl
theorem wd0 (A:Nat):wd A 0=((A%18446744073709551616:Nat):Int):=by unfold wd;simp
theorem wd1 (A:Nat):wd A 1=((A / 18446744073709551616%18446744073709551616:Nat):Int):=by unfold wd;simp
theorem wd2 (A:Nat):wd A 2=((A / 340282366920938463463374607431768211456%18446744073709551616:Nat):Int):=by unfold wd;simp
theorem wd3 (A:Nat):wd A 3=((A / 6277101735386680763835789423207666416102355444464034512896%18446744073709551616:Nat):Int):=by unfold wd;simp
theorem pO (A:Nat) (h:A<M):(A:Int)=wd A 0+18446744073709551616*wd A 1+340282366920938463463374607431768211456*wd A 2+6277101735386680763835789423207666416102355444464034512896*wd A 3:=by
 rw [wd0,wd1,wd2,wd3];rw [mQ] at h;omega
def ofW (a b c d:Int):Nat:=(a+18446744073709551616*b+340282366920938463463374607431768211456*c+6277101735386680763835789423207666416102355444464034512896*d).toNat
def Word (x:Int):Prop:=0≤x∧x<18446744073709551616
theorem bG (A i:Nat):Word (wd A i):=⟨mO A i,wd_lt A i⟩
theorem ofW_lt {a b c d:Int} (ha:Word a) (hb:Word b) (hc:Word c) (hd:Word d):ofW a b c d<M:=by
 unfold ofW Word M at *;omega
theorem ofW_sum {a b c d:Int} (ha:Word a) (hb:Word b) (hc:Word c) (hd:Word d):(ofW a b c d:Int)=a+18446744073709551616*b+340282366920938463463374607431768211456*c+6277101735386680763835789423207666416102355444464034512896*d:=by
 unfold ofW Word at *;omega
theorem wd_of_sum {a b c d:Int} (N:Nat) (ha:Word a) (hb:Word b) (hc:Word c) (hd:Word d) (h:(N:Int)=a+18446744073709551616*b+340282366920938463463374607431768211456*c+6277101735386680763835789423207666416102355444464034512896*d):a=wd N 0∧b=wd N 1∧c=wd N 2∧d=wd N 3:=by
 rw [wd0,wd1,wd2,wd3]
 unfold Word at *
 refine ⟨?_,?_,?_,?_⟩<;>omega
theorem sG {a b c d:Int} (N:Nat) (ha:Word a) (hb:Word b) (hc:Word c) (hd:Word d) (h:(N:Int)=a+18446744073709551616*b+340282366920938463463374607431768211456*c+6277101735386680763835789423207666416102355444464034512896*d):Value.agg #[.int .u64 a,.int .u64 b,.int .u64 c,.int .u64 d]=U N:=by
 obtain ⟨rfl,rfl,rfl,rfl⟩:=wd_of_sum N ha hb hc hd h;rfl
def fJ (A B:Nat):Int:=if A<B then -1 else if B<A then 1 else 0
theorem cmpN_gt {A B:Nat} (h:B<A):fJ A B=1:=by unfold fJ;rw [if_neg (by omega),if_pos h]
theorem cmpN_of {A B:Nat} {n:Int} (h1:A<B→n= -1) (h2:B<A→n=1) (h3:A=B→n=0):n=fJ A B:=by
 unfold fJ;split
 ·exact h1 ‹_›
 ·split
  ·exact h2 ‹_›
  ·exact h3 (by omega)
def nR (A i:Nat):Int:=((A / 256^(31-i)%256:Nat):Int)
def hB (A:Nat):Array Value:=((List.range 32).map fun i=>Value.int .u8 (nR A i)).toArray
theorem yV (A:Nat):(hB A).size=32:=by simp [hB]
theorem hB_get (A i:Nat) (h:i<32):(hB A)[i]? = some (.int .u8 (nR A i)):=by simp [hB,h]
theorem hB_ext {A:Nat} {C:Array Value} (hC:C.size=32) (h:∀ j,j<32→C[j]? = some (.int .u8 (nR A j))):C=hB A:=by
 apply Array.ext_getElem?
 intro i
 by_cases hi:i<32
 ·rw [h i hi,hB_get A i hi]
 ·rw [Array.getElem?_eq_none (by omega),Array.getElem?_eq_none (by rw [yV];omega)]
theorem qK (A i:Nat):0≤nR A i:=by unfold nR;omega
theorem byt_lt (A i:Nat):nR A i<256:=by unfold nR;omega
theorem hB_one (A:Nat):(hB A).all (·.oneCell')=true:=by
 simp [hB,Value.oneCell']
theorem wd_byte (A q s:Nat) (hs:s+8≤64):wd A q / 2^s%256=((A / 18446744073709551616^q / 2^s%256:Nat):Int):=by
 unfold wd
 generalize A / 18446744073709551616^q=x
 have h1:(18446744073709551616:Nat)=2^s*2^(64-s):=by rw [← Nat.pow_add,show s+(64-s)=64 by omega]
 have h2:x%18446744073709551616 / 2^s=x / 2^s%2^(64-s):=by rw [h1,Nat.mod_mul_right_div_self]
 have h3:x / 2^s%2^(64-s)%256=x / 2^s%256:=Nat.mod_mod_of_dvd _ (by
  refine ⟨2^(64-s-8),?_⟩
  rw [show (256:Nat)=2^8 from rfl,← Nat.pow_add,show 8+(64-s-8)=64-s by omega])
 have e:((x%18446744073709551616:Nat):Int) / 2^s%256=((x%18446744073709551616 / 2^s%256:Nat):Int):=by
  simp
 rw [e,h2,h3]
theorem pow_split (q r:Nat) (hr:r<8):256^(8*q+7-r)=18446744073709551616^q*2^(56-r*8):=by
 rw [show (18446744073709551616:Nat)=2^64 from rfl,show (256:Nat)=2^8 from rfl,← Nat.pow_mul,← Nat.pow_mul,← Nat.pow_add]
 congr 1;omega
theorem byt_wd (A q k:Nat) (hk:k<32) (hq:k / 8+q=3):wd A q / 2^(56-k%8*8)%256=nR A k:=by
 rw [wd_byte A q _ (by omega)]
 unfold nR
 have e:31-k=8*q+7-k%8:=by omega
 rw [e,pow_split q (k%8) (by omega),Nat.div_div_eq_div_mul]
theorem byt_wd' (A q k:Nat) (hk:k<32) (hq:k / 8+q=3):wd A q / 2^(8*((31-k)%8))%256=nR A k:=by
 rw [← byt_wd A q k hk hq];congr 3;omega
theorem or_add (a b s:Nat) (hb:b<2^s):a*2^s|||b=a*2^s+b:=by
 rw [Nat.mul_comm];exact (Nat.two_pow_add_eq_or_of_lt hb a).symm
theorem uJ (a b:Int) (s:Nat) (ha:0≤a) (hb:0≤b) (hb2:b<2^s) (hs:a*2^s+b<18446744073709551616):bits .or .u64 (a*2^s) b=a*2^s+b:=by
 obtain ⟨a,rfl⟩:=Int.eq_ofNat_of_zero_le ha
 obtain ⟨b,rfl⟩:=Int.eq_ofNat_of_zero_le hb
 have e:(a:Int)*2^s=((a*2^s:Nat):Int):=by simp
 rw [e] at hs ⊢
 have hb3:b<2^s:=by
  have:((b:Nat):Int)<((2^s:Nat):Int):=by simpa using hb2
  omega
 rw [bits_or_u64_nat _ _ (by omega) (by omega),or_add a b s hb3]
 simp
theorem xAB {a:Int} (h0:0≤a) (h1:a<18446744073709551616):IntKind.u64.wrap a=a:=IntWalk.u64_in a ⟨h0,by omega⟩
def left (q k:Nat):Nat:=64-8*min 8 (k-8*(3-q))
def pre (A q k:Nat):Int:=wd A q / 2^left q k
def top (A q k:Nat):Int:=wd A q / 2^left q k*2^left q k
theorem left_zero (q k:Nat) (h:k≤8*(3-q)):left q k=64:=by unfold left;omega
theorem left_full (q:Nat) (_h:q≤3):left q 32=0:=by unfold left;omega
theorem wd_div64 (A q:Nat):wd A q / 2^64=0:=by have:=mO A q;have:=wd_lt A q;omega
theorem xI (A q k:Nat) (h:k≤8*(3-q)):pre A q k=0:=by unfold pre;rw [left_zero q k h];exact wd_div64 A q
theorem xC (A q k:Nat) (h:k≤8*(3-q)):top A q k=0:=by unfold top;rw [left_zero q k h,wd_div64];rfl
theorem pre_end (A q:Nat) (h:q≤3):pre A q 32=wd A q:=by unfold pre;rw [left_full q h];simp
theorem top_end (A q:Nat) (h:q≤3):top A q 32=wd A q:=by unfold top;rw [left_full q h];simp
theorem left_other (q k:Nat) (hq:q≤3) (h:k / 8+q≠3):left q (k+1)=left q k:=by unfold left;omega
theorem iP (A q k:Nat) (hq:q≤3) (h:k / 8+q≠3):pre A q (k+1)=pre A q k:=by unfold pre;rw [left_other q k hq h]
theorem iO (A q k:Nat) (hq:q≤3) (h:k / 8+q≠3):top A q (k+1)=top A q k:=by unfold top;rw [left_other q k hq h]
theorem left_step (q k:Nat) (h:k / 8+q=3):left q k=64-k%8*8∧left q (k+1)=56-k%8*8:=by unfold left;omega
theorem pow_step (r:Nat) (hr:r<8):(2:Int)^(64-r*8)=2^(56-r*8)*256:=by
 rw [show (256:Int)=2^8 from rfl,← Int.pow_add];congr 1;omega
theorem pre_sum (A q k:Nat) (hk:k<32) (h:k / 8+q=3):pre A q (k+1)=pre A q k*256+nR A k:=by
 obtain ⟨e1,e2⟩:=left_step q k h
 unfold pre;rw [e1,e2,pow_step _ (by omega),← byt_wd A q k hk h,← Int.ediv_ediv_of_nonneg (by exact Int.le_of_lt (Int.pow_pos (by decide)))]
 omega
theorem pre_bound (A q k:Nat) (h:k / 8+q=3):0≤pre A q k∧pre A q k*256<18446744073709551616:=by
 obtain ⟨e1,_⟩:=left_step q k h
 unfold pre;rw [e1]
 have h0:=mO A q;have h1:=wd_lt A q
 have hp:(0:Int)<2^(64-k%8*8):=Int.pow_pos (by decide)
 have hd:wd A q / 2^(64-k%8*8)*2^(64-k%8*8)≤wd A q:=Int.ediv_mul_le _ (by omega)
 have h256:(256:Int)≤2^(64-k%8*8):=by rw [pow_step _ (by omega)];have:(0:Int)<2^(56-k%8*8):=Int.pow_pos (by decide);omega
 have hn:0≤wd A q / 2^(64-k%8*8):=Int.ediv_nonneg h0 (by omega)
 exact ⟨hn,by have:=Int.mul_le_mul_of_nonneg_left h256 hn;omega⟩
theorem yZ (A q k:Nat) (hk:k<32) (h:k / 8+q=3):bits .or .u64 (IntKind.u64.wrap (pre A q k*256)) (IntKind.u64.wrap (nR A k))=pre A q (k+1):=by
 obtain ⟨b0,b1⟩:=pre_bound A q k h
 have c0:=qK A k;have c1:=byt_lt A k
 rw [xAB (by omega) b1,xAB c0 (by omega),show (256:Int)=2^8 from rfl,uJ _ _ 8 b0 c0 c1 (by omega),pre_sum A q k hk h];rfl
theorem zF (A q k:Nat) (hk:k<32) (h:k / 8+q=3):bits .or .u64 (top A q k) (nR A k*2^(56-k%8*8))=top A q (k+1):=by
 obtain ⟨e1,e2⟩:=left_step q k h
 obtain ⟨b0,b1⟩:=pre_bound A q k h
 have c0:=qK A k;have c1:=byt_lt A k
 have hs:=pre_sum A q k hk h
 have hp:(0:Int)<2^(56-k%8*8):=Int.pow_pos (by decide)
 unfold top
 change bits .or .u64 (pre A q k*2^left q k) _=pre A q (k+1)*2^left q (k+1)
 rw [hs,e1,e2,pow_step _ (by omega)]
 have hd:pre A q (k+1)*2^(56-k%8*8)≤wd A q:=by
  unfold pre;rw [e2];exact Int.ediv_mul_le _ (by omega)
 have hw:=wd_lt A q
 rw [hs] at hd
 have e3:pre A q k*(2^(56-k%8*8)*256)=pre A q k*2^(8+(56-k%8*8)):=by rw [Int.pow_add];congr 1;rw [Int.mul_comm];rfl
 have e4:(pre A q k*256+nR A k)*2^(56-k%8*8)=pre A q k*(2^(56-k%8*8)*256)+nR A k*2^(56-k%8*8):=by
  rw [Int.add_mul,Int.mul_assoc,Int.mul_comm 256]
 have hb:nR A k*2^(56-k%8*8)<2^(8+(56-k%8*8)):=by
  rw [Int.pow_add];exact Int.mul_lt_mul_of_pos_right c1 hp
 rw [e4] at hd ⊢
 rw [e3] at hd ⊢
 exact uJ _ _ _ b0 (Int.mul_nonneg c0 (by omega)) hb (by omega)
theorem top_byte_in (A k:Nat):IntKind.u64.wrap (nR A k*2^(56-k%8*8))=nR A k*2^(56-k%8*8):=by
 have c0:=qK A k;have c1:=byt_lt A k
 have hp:(0:Int)<2^(56-k%8*8):=Int.pow_pos (by decide)
 have h1:nR A k*2^(56-k%8*8)<256*2^(56-k%8*8):=Int.mul_lt_mul_of_pos_right c1 hp
 have h2:(256:Int)*2^(56-k%8*8)≤18446744073709551616:=by
  have:(2:Int)^(56-k%8*8)≤2^56:=by
   have:=Nat.pow_le_pow_right (n:=2) (by decide) (show 56-k%8*8≤56 by omega)
   have:((2^(56-k%8*8):Nat):Int)≤((2^56:Nat):Int):=by exact_mod_cast this
   simpa using this
  omega
 exact xAB (Int.mul_nonneg c0 (by omega)) (by omega)
theorem dL.mono {T:Nat→Prop} {F G:World→Prop} {w:World} (h:dL T F w) (hFG:∀ w,F w→G w):dL T G w:=by
 obtain ⟨S,h1,h2⟩:=h
 exact ⟨S,h1,fun w' hw=>hFG _ (h2 w' hw)⟩
theorem dL.sub {T T':Nat→Prop} {F:World→Prop} {w:World} (h:dL T F w) (hT:∀ b,T' b→T b):dL T' F w:=by
 obtain ⟨S,h1,h2⟩:=h
 exact ⟨S,fun b hb=>⟨(h1 b hb).1,fun hx=>(h1 b hb).2 (hT b hx)⟩,h2⟩
theorem dL.and {T:Nat→Prop} {F G:World→Prop} {w:World} (h:dL T F w) (k:dL T G w):dL T (fun w=>F w∧G w) w:=by
 obtain ⟨S,h1,h2⟩:=h
 obtain ⟨S',k1,k2⟩:=k
 refine ⟨fun b=>S b∨S' b,fun b hb=>hb.elim (h1 b) (k1 b),fun w' hw=>⟨h2 w' (fun b hb=>hw b (Or.inl hb)),k2 w' (fun b hb=>hw b (Or.inr hb))⟩⟩
theorem cO {T:Nat→Prop} {w:World}:dL T (fun _=>True) w:=dB (fun _=>trivial)
def bv (x:UInt8):Value:=.int .u8 (x.toNat:Int)
def bs (xs:List UInt8):List Value:=xs.map bv
theorem dH (xs:List UInt8):(bs xs).length=xs.length:=List.length_map _
theorem bs_app (xs ys:List UInt8):bs (xs++ys)=bs xs++bs ys:=List.map_append
def Rs (w:World) (a:Option Addr) (vs:List Value):Prop:=vs=[]∨∃ p,a=some p∧∀ i v,vs[i]? = some v→w.cell? (p.add i)=some v
theorem xBD (a:Addr) (i:Nat):(a.add i).block=a.block:=by unfold Addr.add;split<;>rfl
theorem cell_congr {w w':World} {a:Addr} (h:w'.heap[a.block]? = w.heap[a.block]?):w'.cell? a=w.cell? a:=by
 unfold World.cell?
 rw [h]
def Apart (T:Nat→Prop) (a:Option Addr) (n:Nat):Prop:=∀ p,a=some p→0<n→¬ T p.block
theorem Rs.pers {T : Nat → Prop} {w : World} {a : Option Addr} {vs : List Value} (h : Rs w a vs) (hT : Apart T a vs.length) : dL T (fun w => Rs w a vs) w := by
 rcases h with h | ⟨p,rfl,h⟩
 ·exact dB (fun _=>Or.inl h)
 ·cases vs with
  | nil=>exact dB (fun _=>Or.inl rfl)
  | cons v0 vs =>
    refine ⟨fun b=>b=p.block,?_,?_⟩
    ·rintro b rfl
     refine ⟨?_,hT p rfl (by simp)⟩
     have h0:=h 0 v0 rfl
     unfold World.cell? at h0
     by_cases hl:p.block<w.heap.size
     ·exact hl
     ·rw [xBD,Array.getElem?_eq_none (by omega)] at h0;simp at h0
    ·intro w' hw
     refine Or.inr ⟨p,rfl,fun i v hv=>?_⟩
     exact (cell_congr (by rw [xBD];exact hw _ rfl)).trans (h i v hv)
theorem Rs.drop {w:World} {a:Option Addr} {vs:List Value} (h:Rs w a vs) (k:Nat):Rs w (a.map (·.add k)) (vs.drop k):=by
 rcases h with rfl | ⟨p,rfl,h⟩
 ·exact Or.inl (by simp)
 ·refine Or.inr ⟨p.add k, rfl, fun i v hv => ?_⟩
  rw [Addr.add_add]
  rw [List.getElem?_drop] at hv
  exact h _ v hv
theorem Rs.take {w:World} {a:Option Addr} {vs:List Value} (h:Rs w a vs) (k:Nat):Rs w a (vs.take k):=by
 rcases h with rfl | ⟨p,rfl,h⟩
 ·exact Or.inl (by simp)
 ·refine Or.inr ⟨p, rfl, fun i v hv => ?_⟩
  rw [List.getElem?_take] at hv
  split at hv
  ·exact h i v hv
  ·exact absurd hv (by simp)
structure Bs (w:World) (a:Option Addr) (c:Nat) (xs:List UInt8):Prop where
 le:xs.length≤c
 max:xs.length≤140737488351232
 rows:Rs w a (bs xs)
theorem Bs.nil {w:World} {a:Option Addr} {c:Nat}:Bs w a c []:=⟨by simp,by simp,Or.inl rfl⟩
theorem Bs.pers {T:Nat→Prop} {w:World} {a:Option Addr} {c:Nat} {xs:List UInt8} (h:Bs w a c xs) (hT:Apart T a xs.length):dL T (fun w=>Bs w a c xs) w :=
 (h.rows.pers (by rw [dH];exact hT)).mono (fun _ hr=>⟨h.le,h.max,hr⟩)
theorem Bs.pers0 {w:World} {a:Option Addr} {c:Nat} {xs:List UInt8} (h:Bs w a c xs):dL (fun _=>False) (fun w=>Bs w a c xs) w:=h.pers (fun _ _ _=>id)
def Fs (w0 w:World) (a:Option Addr) (c:Nat) (xs:List UInt8):Prop:=Bs w a c xs∧∀ p,a=some p→0<xs.length→w0.heap.size≤p.block
theorem Fs.nil {w0 w:World} {a:Option Addr} {c:Nat}:Fs w0 w a c []:=⟨Bs.nil,fun _ _ h=>absurd h (by simp)⟩
theorem Fs.pers {T:Nat→Prop} {w0 w:World} {a:Option Addr} {c:Nat} {xs:List UInt8} (h:Fs w0 w a c xs) (hT:∀ b,T b→b<w0.heap.size):dL T (fun w=>Fs w0 w a c xs) w :=
 (h.1.pers (fun p hp hn hx=>absurd (h.2 p hp hn) (by have:=hT _ hx;omega))).mono (fun _ hr=>⟨hr,h.2⟩)
theorem Fs.older {w0 w1 w:World} {a:Option Addr} {c:Nat} {xs:List UInt8} (h:Fs w1 w a c xs) (hs:w0.heap.size≤w1.heap.size):Fs w0 w a c xs :=
 ⟨h.1,fun p hp hn=>Nat.le_trans hs (h.2 p hp hn)⟩
theorem Bs.of_block {w:World} {g:Nat} {C:Array Value} {T:TypeId} {fr:Nat × Nat} {c:Nat} {xs:List UInt8} (hb:w.heap[g]? = some (.cells C T fr)) (hx:C.toList.take xs.length=bs xs) (hc:xs.length≤c) (hm:xs.length≤140737488351232):Bs w (some ⟨g,0,none⟩) c xs:=by
 refine ⟨hc,hm,Or.inr ⟨_,rfl,fun i v hv=>?_⟩⟩
 have h1:C[i]? = some v:=by
  rw [← hx,List.getElem?_take] at hv
  split at hv
  ·simpa using hv
  ·exact absurd hv (by simp)
 rw [Addr.add_lit]
 unfold World.cell?
 simp only [hb]
 simpa using h1
def gB (xs:List UInt8) (i:Nat):Nat:=(xs.getD i 0).toNat
theorem iD (xs:List UInt8) (i:Nat):gB xs i<256:=UInt8.toNat_lt _
theorem Bs.cell {w:World} {a:Option Addr} {c:Nat} {xs:List UInt8} (h:Bs w a c xs) {i:Nat} (hi:i<xs.length):∃ p,a=some p∧w.cell? (p.add i)=some (.int .u8 (gB xs i:Int)):=by
 rcases h.rows with h0 | ⟨p,rfl,hh⟩
 ·have := congrArg List.length h0
  rw [dH] at this
  simp at this
  subst this
  simp at hi
 ·refine ⟨p, rfl, hh i _ ?_⟩
  unfold bs
  rw [List.getElem?_map,List.getElem?_eq_getElem hi]
  simp [bv,gB,List.getD,List.getElem?_eq_getElem hi]
def fK (a:Option Addr) (k:Nat):Option Addr:=a.map (·.add k)
def uF (a:Option Addr) (l m:Nat):Option Addr:=if m=l then a else fK a l
def mid (xs:List UInt8) (l h:Nat):List UInt8:=(xs.take h).drop l
theorem kS (xs:List UInt8) (l h:Nat) (hh:h≤xs.length):(mid xs l h).length=h-l:=by
 unfold mid
 rw [List.length_drop,List.length_take]
 omega
theorem Bs.mid {w:World} {a:Option Addr} {c:Nat} {xs:List UInt8} (h:Bs w a c xs) {l k:Nat} (hl:l≤k) (hk:k≤xs.length):Bs w (uF a l c) (c-l) (mid xs l k):=by
 have hle:=h.le
 have hm:=h.max
 have hlen:=kS xs l k hk
 refine ⟨by omega,by omega,?_⟩
 unfold uF
 split
 ·have : YtahoheofpggopaaGreatDoor.mid xs l k = [] := List.eq_nil_of_length_eq_zero (by omega)
  rw [this]
  exact Or.inl rfl
 ·unfold fK YtahoheofpggopaaGreatDoor.mid bs
  rw [List.map_drop,List.map_take]
  exact (h.rows.take k).drop l
def RegF (P:Program) (id:Nat) (ops:Array Oper) (draw:Bool) (n:Nat) (l:List (Nat × Value)) (w0:Base) (h:List (Nat × Obj)) (F:World→Prop) (l':(Nat→bH)→List (Nat × Value)) (h':(Nat→bH)→List (Nat × Obj)) (F':(Nat→bH)→World→Prop):Prop :=
 ∀ Q A w,Fr n l A→St w0 h F w→(∀ ρ A' w',Fr n (l' ρ) A'→St w0 (h' ρ) (F' ρ) w'→Q .normal A' w')→(Code.region id ops draw).wp P Q A w
section
variable {P : Program} {id : Nat} {ops : Array Oper} {n : Nat} {l : List (Nat × Value)} {w0 : Base} {h : List (Nat × Obj)} {F : World → Prop} {l' : (Nat → bH) → List (Nat × Value)} {h' : (Nat → bH) → List (Nat × Obj)} {F' : (Nat → bH) → World → Prop}
end
section
variable {P : Program} {Q : Exit → Act → World → Prop} {n : Nat} {l : List (Nat × Value)} {w0 : Base} {h : List (Nat × Obj)} {F : World → Prop}
theorem ok_rf {id:Nat} {ops ops':Array Oper} {d:Bool} {l':(Nat→bH)→List (Nat × Value)} {h':(Nat→bH)→List (Nat × Obj)} {F':(Nat→bH)→World→Prop} (e:ops=ops') (hr:RegF P id ops' d n l w0 h F l' h' F') (hk:∀ ρ,gJ (Q .normal) n (l' ρ) w0 (h' ρ) (F' ρ)) :
 Ok P (.region id ops d) Q n l w0 h F:=by
 subst e
 exact fun A w hf hs=>hr Q A w hf hs (fun ρ A' w' hf' hs'=>hk ρ A' w' hf' hs')
theorem ok_seq_rf {id:Nat} {ops ops':Array Oper} {d:Bool} {y:Code} {l':(Nat→bH)→List (Nat × Value)} {h':(Nat→bH)→List (Nat × Obj)} {F':(Nat→bH)→World→Prop} (e:ops=ops') (hr:RegF P id ops' d n l w0 h F l' h' F') (hk:∀ ρ,Ok P y Q n (l' ρ) w0 (h' ρ) (F' ρ)) :
 Ok P (.seq (.region id ops d) y) Q n l w0 h F:=aB (ok_rf e hr hk)
theorem ok_pure {c:Code} (p:Prop) (hp:∀ w,F w→p) (hk:p→Ok P c Q n l w0 h F):Ok P c Q n l w0 h F :=
 fun A w hf hs=>hk (hp w hs.facts.now) A w hf hs
theorem mt_pure {R:Act→World→Prop} (p:Prop) (hp:∀ w,F w→p) (hk:p→gJ R n l w0 h F):gJ R n l w0 h F :=
 fun A w hf hs=>hk (hp w hs.facts.now) A w hf hs
theorem ok_facts {c:Code} (G:World→Prop) (hp:∀ w,F w→G w) (hk:Ok P c Q n l w0 h G):Ok P c Q n l w0 h F :=
 fun A w hf hs=>hk A w hf (hs.weaken hp)
end
section
variable {P : Program} {ops : Array Oper} {D : List Nat} {l : List (Nat × Value)} {w0 : Base} {h : List (Nat × Obj)} {F0 : World → Prop}
variable {vals : (Nat → bH) → Nat → Value} {effs : (Nat → bH) → Nat → Eff} {fact : (Nat → bH) → Nat → World → Prop}
theorem jV.brings {i:Nat} (hO:jV P ops D l w0 h F0 vals effs (fun _ _ _=>True) i) (hf:∀ ρ w,fact ρ i w):jV P ops D l w0 h F0 vals effs fact i:=by
 intro o ho ρ T w hG
 have hG':Given ops D w0 h F0 effs (fun _ _ _=>True) i ρ T w:=⟨hG.lt,hG.below,hG.block,hG.ne,hG.facts0,fun j _=>cO⟩
 have h1:=hO o ho ρ T w hG'
 have key:∀ v w',After ops D h vals effs (fun _ _ _=>True) i ρ T w v w'→After ops D h vals effs fact i ρ T w v w':=by
  rintro v w' ⟨r,e1,e2,e3,e4,e5,_⟩
  exact ⟨r,e1,e2,e3,e4,e5,dB (hf _)⟩
 split at h1
 ·rename_i hw
  rw [if_pos hw]
  unfold opv at h1 ⊢
  split at h1
  ·exact key _ _ h1
  ·exact key _ _ h1
  ·refine h1.mono (fun e w'' he => ?_)
   cases e with
   | returned v=>exact key _ _ he
   | panicked c=>exact he
   | outgrown=>exact he
  ·exact h1.elim
 ·rename_i hw
  rw [if_neg hw]
  exact key _ _ h1
theorem Given.known {i:Nat} {ρ:Nat→bH} {T:Nat→Prop} {w:World} (hG:Given ops D w0 h F0 effs fact i ρ T w) (n:Nat) {g:Nat} {o:Obj} (hn:dY ops D h (effs ρ) i [n]=true) (hk:known ops D h (effs ρ) i [n]=[(g,o)]):w.heap[g]? = some o:=by
 unfold dY at hn
 rw [Bool.and_eq_true,List.all_eq_true] at hn
 have hn1:=hn.1 n (by simp)
 rw [Bool.and_eq_true] at hn1
 obtain ⟨q,hb⟩:=Option.isSome_iff_exists.1 hn1.1
 have:=(hG.block n q hb hn1.2).1
 unfold YtahoheofpggopaaGreatDoor.known at hk
 simp only [List.map_cons,List.map_nil,hb,List.cons.injEq,and_true] at hk
 rw [hk] at this
 exact this
theorem o_semF (i:Nat) (s:(Nat→bH)→Sem Next) (v:(Nat→bH)→Value) (hc:∀ ρ,wL ops (vals ρ) (vals (upd ρ i {}) i) (effs (upd ρ i {}) i) i=some (v ρ,{}))
 (hx:∀ ρ,execOp (dC ops D l (vals ρ) i) (opAt ops i)=s ρ) (hr:∀ ρ T w,Given ops D w0 h F0 effs fact i ρ T w→(s ρ).run P w=.ok (.value (v ρ)) w)
 (hf:∀ ρ T w,Given ops D w0 h F0 effs fact i ρ T w→dL T (fact (upd ρ i {}) i) w):jV P ops D l w0 h F0 vals effs fact i:=by
 intro o ho ρ T w hG
 have hsm:=qH (hc ρ)
 have hoe:=eY hsm.1.1
 rw [ho] at hoe
 obtain rfl:o=opAt ops i:=by simpa using hoe
 rw [if_pos hsm.1.2]
 unfold opv
 rw [hx ρ,hr ρ T w hG]
 refine ⟨{},hsm.2.1.symm,nN.refl _ _,?_,?_,?_,?_⟩
 ·rw [hsm.2.2];intro n q hm;simp at hm
 ·rw [hsm.2.2];intro k b q hk;simp at hk
 ·rw [hsm.2.2];simp
 ·rw [hsm.2.2];exact (hf ρ T w hG).sub (fun b hb=>by simpa using hb)
def eU (P:Program) (ops:Array Oper) (D:List Nat) (l:List (Nat × Value)) (V:Nat→Value) (i:Nat) (z:List Nat):Option (Next × List (Nat × Obj) × List (Nat × Nat)) :=
 if (ops[i]?).isSome&&fM V (opAt ops i) then kH P (execOp (dC ops D l V i) (opAt ops i)) [] [] z else none
theorem o_callG (i:Nat) (f:FuncId) (args:(Nat→bH)→Array Value)
 (hc:∀ ρ z,eU P ops D l (vals ρ) i z=some (.enter f (args ρ),[],[]))
 (he:∀ ρ r,effs (upd ρ i r) i={})
 (hf:∀ ρ T w,Given ops D w0 h F0 effs fact i ρ T w→Calls P f (args ρ) w (fun e w'=>Below w.heap.size w w'∧∃ r,e=.returned (vals (upd ρ i r) i)∧dL (fun b=>b<w.heap.size) (fact (upd ρ i r) i) w')):jV P ops D l w0 h F0 vals effs fact i:=by
 have key:∀ ρ z,((ops[i]?).isSome=true∧fM (vals ρ) (opAt ops i)=true)∧kH P (execOp (dC ops D l (vals ρ) i) (opAt ops i)) [] [] z=some (.enter f (args ρ),[],[]):=by
  intro ρ z
  have h1:=hc ρ z
  unfold eU at h1
  split at h1
  ·rename_i hb
   simp only [Bool.and_eq_true] at hb
   exact ⟨hb,h1⟩
  ·exact absurd h1 (by simp)
 intro o ho ρ T w hG
 have hoe:=eY (key ρ []).1.1
 rw [ho] at hoe
 obtain rfl:o=opAt ops i:=by simpa using hoe
 rw [if_pos (key ρ []).1.2]
 obtain ⟨w1,h1,_,_,h4,_,_⟩:=kF (P:=P) (execOp (dC ops D l (vals ρ) i) (opAt ops i)) [] [] w _ _ _ (by intro y hy;simp at hy) (by simp) ((key ρ _).2) trivial
 have hb:Below w.heap.size w w1:=⟨h4.os,h4.tape,h4.output,h4.size,fun k hk=>h4.block k hk (by simp)⟩
 have hheap:∀ b,b<w.heap.size→w1.heap[b]? = w.heap[b]? := fun b hb'=>hb.block b hb'
 have hG1:Given ops D w0 h F0 effs fact i ρ T w1:=by
  have tr:∀ {F:World→Prop},dL T F w→dL T F w1:=by
   rintro F ⟨S,s1,s2⟩
   refine ⟨S,fun b hb'=>⟨Nat.lt_of_lt_of_le (s1 b hb').1 hb.size,(s1 b hb').2⟩,fun w' hw=>s2 w' (fun b hb'=>?_)⟩
   rw [hw b hb',hheap b (s1 b hb').1]
  refine ⟨fun b hb'=>Nat.lt_of_lt_of_le (hG.lt b hb') hb.size,hG.below.trans (nN.of_below hb),fun n x hn hk=>?_,hG.ne,tr hG.facts0,fun j hj=>tr (hG.facts j hj)⟩
  have:=hG.block n x hn hk
  refine ⟨?_,this.2⟩
  rw [hheap _ (hG.lt _ this.2.1)]
  exact this.1
 unfold opv
 rw [h1]
 refine (hf ρ T w1 hG1).mono (fun e w2 hew=>?_)
 obtain ⟨hb2,r,rfl,hp⟩:=hew
 show After ops D h vals effs fact i ρ T w _ w2
 refine ⟨r,rfl,nN.of_below (hb.trans (hb2.mono hb.size)),?_,?_,?_,?_⟩
 ·rw [he];intro n q hm;simp at hm
 ·rw [he];intro k b q hk;simp at hk
 ·rw [he];simp
 ·rw [he]
  refine hp.sub (fun b hbT=>?_)
  rcases hbT with hbT | hbT
  ·exact Nat.lt_of_lt_of_le (hG.lt b hbT) hb.size
  ·simp at hbT
theorem lN (i:Nat) (f:FuncId) (args:(Nat→bH)→Array Value) (v:(Nat→bH)→Value)
 (hc:∀ ρ z,eU P ops D l (vals ρ) i z=some (.enter f (args ρ),[],[]))
 (hv:∀ ρ,vals (upd ρ i {}) i=v ρ) (he:∀ ρ r,effs (upd ρ i r) i={}) (ht:∀ ρ w,fact ρ i w)
 (hf:∀ ρ T w,Given ops D w0 h F0 effs fact i ρ T w→Calls P f (args ρ) w (fun e w'=>e=.returned (v ρ)∧Below w.heap.size w w')):jV P ops D l w0 h F0 vals effs fact i:=by
 refine o_callG i f args hc he (fun ρ T w hG=>(hf ρ T w hG).mono (fun e w' hew=>⟨hew.2,{},?_,dB (ht _)⟩))
 rw [hv ρ];exact hew.1
theorem o_callB (i:Nat) (f:FuncId) (args:(Nat→bH)→Array Value) (v:(Nat→bH)→Option Addr→Nat→Value) (xs:(Nat→bH)→List UInt8)
 (hc:∀ ρ z,eU P ops D l (vals ρ) i z=some (.enter f (args ρ),[],[]))
 (hv:∀ ρ r,vals (upd ρ i r) i=v ρ r.a (r.n.headD 0)) (he:∀ ρ r,effs (upd ρ i r) i={}) (ht:∀ ρ r,fact (upd ρ i r) i=fun w=>Fs w0.w w r.a (r.n.headD 0) (xs ρ))
 (hf:∀ ρ T w,Given ops D w0 h F0 effs fact i ρ T w→Calls P f (args ρ) w (fun e w'=>∃ a c,e=.returned (v ρ a c)∧Below w.heap.size w w'∧Fs w w' a c (xs ρ))):jV P ops D l w0 h F0 vals effs fact i:=by
 refine o_callG i f args hc he (fun ρ T w hG=>(hf ρ T w hG).mono (fun e w' hew=>?_))
 obtain ⟨a,c,h1,h2,h3⟩:=hew
 refine ⟨h2,{ n:=[c],a:=a},?_,?_⟩
 ·rw [hv];exact h1
 ·rw [ht]
  exact (h3.pers (T:=fun b=>b<w.heap.size) (fun b hb=>hb)).mono (fun _ hx=>hx.older hG.below.size)
end
section
variable {P : Program} {ops : Array Oper} {D : List Nat} {l : List (Nat × Value)} {w0 : Base} {h : List (Nat × Obj)} {F0 : World → Prop}
variable {vals : (Nat → bH) → Nat → Value} {effs : (Nat → bH) → Nat → Eff} {fact : (Nat → bH) → Nat → World → Prop}
structure Grew (w w':World) (o:Obj):Prop where
 os:w'.os=w.os
 tape:w'.tape=w.tape
 output:w'.output=w.output
 heap:w'.heap=w.heap.push o
structure Wrote (w w':World) (g:Nat) (o:Obj):Prop where
 os:w'.os=w.os
 tape:w'.tape=w.tape
 output:w'.output=w.output
 size:w'.heap.size=w.heap.size
 other:∀ b,b≠g→w'.heap[b]? = w.heap[b]?
 at_:w'.heap[g]? = some o
def rP (ops:Array Oper) (V:Nat→Value) (v:Value) (E':Eff) (i:Nat):Option (Value × Eff) :=
 if (ops[i]?).isSome&&fM V (opAt ops i) then some (v,E') else none
theorem uB (i:Nat) (s:(Nat→bH)→Sem Next) (v:(Nat→bH)→List Nat→Value) (ob:(Nat→bH)→List Nat→Obj)
 (hc:∀ ρ z,rP ops (vals ρ) (vals (upd ρ i { n:=z}) i) (effs (upd ρ i { n:=z}) i) i=some (v ρ z,{ news:=[(z.headD 0,ob ρ z)]}))
 (hx:∀ ρ,execOp (dC ops D l (vals ρ) i) (opAt ops i)=s ρ) (ht:∀ ρ w,fact ρ i w)
 (hr:∀ ρ T w,Given ops D w0 h F0 effs fact i ρ T w→∃ k w',(s ρ).run P w=.ok (.value (v ρ [w.heap.size,k])) w'∧Grew w w' (ob ρ [w.heap.size,k])):jV P ops D l w0 h F0 vals effs fact i:=by
 have key:∀ ρ z,((ops[i]?).isSome=true∧fM (vals ρ) (opAt ops i)=true)∧v ρ z=vals (upd ρ i { n:=z}) i∧effs (upd ρ i { n:=z}) i={ news:=[(z.headD 0,ob ρ z)]}:=by
  intro ρ z
  have h1:=hc ρ z
  unfold rP at h1
  split at h1
  ·rename_i hb
   simp only [Bool.and_eq_true] at hb
   simp only [Option.some.injEq,Prod.mk.injEq] at h1
   exact ⟨hb,h1.1.symm,h1.2⟩
  ·exact absurd h1 (by simp)
 intro o ho ρ T w hG
 have hoe:=eY (key ρ []).1.1
 rw [ho] at hoe
 obtain rfl:o=opAt ops i:=by simpa using hoe
 rw [if_pos (key ρ []).1.2]
 obtain ⟨k,w',hrun,hgr⟩:=hr ρ T w hG
 unfold opv
 rw [hx ρ,hrun]
 have he:=(key ρ [w.heap.size,k]).2.2
 refine ⟨{ n:=[w.heap.size,k]},(key ρ _).2.1,?_,?_,?_,?_,dB (ht _)⟩
 ·refine ⟨hgr.os, hgr.tape, hgr.output, by rw [hgr.heap]; simp, fun b hb _ => ?_⟩
  rw [hgr.heap,Array.getElem?_push,if_neg (by omega)]
 ·rw [he];intro n q hm;simp at hm
 ·rw [he]
  intro j b q hj
  have:j=0:=by
   have:=(List.getElem?_eq_some_iff.1 hj).1
   simpa using this
  subst this
  simp only [List.headD_cons,List.getElem?_cons_zero,Option.some.injEq,Prod.mk.injEq] at hj
  obtain ⟨rfl,rfl⟩:=hj
  refine ⟨Nat.le_refl _,?_⟩
  rw [hgr.heap]
  simp
 ·rw [he];simp
theorem o9 (i n:Nat) (s:(Nat→bH)→Sem Next) (g:(Nat→bH)→Nat) (ob ob':(Nat→bH)→Obj) (v:(Nat→bH)→Value)
 (hc:∀ ρ,rP ops (vals ρ) (vals (upd ρ i {}) i) (effs (upd ρ i {}) i) i=some (v ρ,{ puts:=[(n,g ρ,ob' ρ)]}))
 (hn:∀ ρ,dY ops D h (effs ρ) i [n]=true) (hk:∀ ρ,known ops D h (effs ρ) i [n]=[(g ρ,ob ρ)])
 (hx:∀ ρ,execOp (dC ops D l (vals ρ) i) (opAt ops i)=s ρ) (ht:∀ ρ w,fact ρ i w)
 (hr:∀ ρ T w,Given ops D w0 h F0 effs fact i ρ T w→w.heap[g ρ]? = some (ob ρ)→∃ w',(s ρ).run P w=.ok (.value (v ρ)) w'∧Wrote w w' (g ρ) (ob' ρ)):jV P ops D l w0 h F0 vals effs fact i:=by
 have key:∀ ρ,((ops[i]?).isSome=true∧fM (vals ρ) (opAt ops i)=true)∧v ρ=vals (upd ρ i {}) i∧effs (upd ρ i {}) i={ puts:=[(n,g ρ,ob' ρ)]}:=by
  intro ρ
  have h1:=hc ρ
  unfold rP at h1
  split at h1
  ·rename_i hb
   simp only [Bool.and_eq_true] at hb
   simp only [Option.some.injEq,Prod.mk.injEq] at h1
   exact ⟨hb,h1.1.symm,h1.2⟩
  ·exact absurd h1 (by simp)
 intro o ho ρ T w hG
 have hoe:=eY (key ρ).1.1
 rw [ho] at hoe
 obtain rfl:o=opAt ops i:=by simpa using hoe
 rw [if_pos (key ρ).1.2]
 obtain ⟨w',hrun,hwr⟩:=hr ρ T w hG (hG.known n (hn ρ) (hk ρ))
 unfold opv
 rw [hx ρ,hrun]
 have he:=(key ρ).2.2
 have hn0:=hn ρ
 unfold dY at hn0
 rw [Bool.and_eq_true,List.all_eq_true] at hn0
 have hn1:=hn0.1 n (by simp)
 rw [Bool.and_eq_true] at hn1
 obtain ⟨q,hb⟩:=Option.isSome_iff_exists.1 hn1.1
 have hbg:cur (effs ρ) ops.size (mV D i) n q=(g ρ,ob ρ):=by
  have:=hk ρ
  unfold known at this
  simp only [List.map_cons,List.map_nil,hb,List.cons.injEq,and_true] at this
  exact this
 refine ⟨{},(key ρ).2.1,?_,?_,?_,?_,dB (ht _)⟩
 ·refine ⟨hwr.os, hwr.tape, hwr.output, by rw [hwr.size]; exact Nat.le_refl _, fun k hk' hX => hwr.other k ?_⟩
  rintro rfl
  exact hX ⟨n,_,q,by rw [he];exact List.mem_cons_self,hb,by rw [hbg]⟩
 ·rw [he]
  intro n' o' hm
  simp only [List.mem_singleton,Prod.mk.injEq] at hm
  obtain ⟨rfl,rfl⟩:=hm
  refine ⟨hn1.2,q,hb,?_,Or.inl ?_⟩
  ·simpa using hwr.at_
  ·rw [hbg];simp
 ·rw [he];intro k b' q' hk';simp at hk'
 ·rw [he];simp
end
section
variable {P : Program} {ops : Array Oper} {D : List Nat} {l : List (Nat × Value)} {w0 : Base} {h : List (Nat × Obj)} {F0 : World → Prop}
variable {vals : (Nat → bH) → Nat → Value} {effs : (Nat → bH) → Nat → Eff} {fact : (Nat → bH) → Nat → World → Prop}
inductive Moved (w w':World) (g g':Nat) (o:Obj):Prop
 | stay (e:g'=g) (h:Wrote w w' g o)
 | grow (e:g'=w.heap.size) (h:Grew w w' o)
theorem o_move1 (i n : Nat) (s : (Nat → bH) → Sem Next) (g : (Nat → bH) → Nat) (ob : (Nat → bH) → Obj) (ob' : (Nat → bH) → bH → Obj) (v : (Nat → bH) → bH → Value) (p : (Nat → bH) → bH → Prop)
 (hc:∀ ρ r,rP ops (vals ρ) (vals (upd ρ i r) i) (effs (upd ρ i r) i) i=some (v ρ r,{ puts:=[(n,r.n.headD 0,ob' ρ r)]}))
 (hn:∀ ρ,dY ops D h (effs ρ) i [n]=true) (hk:∀ ρ,known ops D h (effs ρ) i [n]=[(g ρ,ob ρ)])
 (hx:∀ ρ,execOp (dC ops D l (vals ρ) i) (opAt ops i)=s ρ) (ht:∀ ρ r,fact (upd ρ i r) i=fun _=>p ρ r)
 (hr:∀ ρ T w,Given ops D w0 h F0 effs fact i ρ T w→w.heap[g ρ]? = some (ob ρ)→∃ r w',(s ρ).run P w=.ok (.value (v ρ r)) w'∧p ρ r∧Moved w w' (g ρ) (r.n.headD 0) (ob' ρ r)):jV P ops D l w0 h F0 vals effs fact i:=by
 have key:∀ ρ r,((ops[i]?).isSome=true∧fM (vals ρ) (opAt ops i)=true)∧v ρ r=vals (upd ρ i r) i∧effs (upd ρ i r) i={ puts:=[(n,r.n.headD 0,ob' ρ r)]}:=by
  intro ρ r
  have h1:=hc ρ r
  unfold rP at h1
  split at h1
  ·rename_i hb
   simp only [Bool.and_eq_true] at hb
   simp only [Option.some.injEq,Prod.mk.injEq] at h1
   exact ⟨hb,h1.1.symm,h1.2⟩
  ·exact absurd h1 (by simp)
 intro o ho ρ T w hG
 have hoe:=eY (key ρ {}).1.1
 rw [ho] at hoe
 obtain rfl:o=opAt ops i:=by simpa using hoe
 rw [if_pos (key ρ {}).1.2]
 obtain ⟨r,w',hrun,hp,hmv⟩:=hr ρ T w hG (hG.known n (hn ρ) (hk ρ))
 unfold opv
 rw [hx ρ,hrun]
 have he:=(key ρ r).2.2
 have hn0:=hn ρ
 unfold dY at hn0
 rw [Bool.and_eq_true,List.all_eq_true] at hn0
 have hn1:=hn0.1 n (by simp)
 rw [Bool.and_eq_true] at hn1
 obtain ⟨q,hb⟩:=Option.isSome_iff_exists.1 hn1.1
 have hbg:cur (effs ρ) ops.size (mV D i) n q=(g ρ,ob ρ):=by
  have:=hk ρ
  unfold known at this
  simp only [List.map_cons,List.map_nil,hb,List.cons.injEq,and_true] at this
  exact this
 refine ⟨r,(key ρ r).2.1,?_,?_,?_,?_,by rw [ht];exact dB (fun _=>hp)⟩
 ·cases hmv with
  | stay e hwr =>
    refine ⟨hwr.os,hwr.tape,hwr.output,by rw [hwr.size];exact Nat.le_refl _,fun k hk' hX=>hwr.other k ?_⟩
    rintro rfl
    exact hX ⟨n,_,q,by rw [he];exact List.mem_cons_self,hb,by rw [hbg]⟩
  | grow e hgr =>
    refine ⟨hgr.os,hgr.tape,hgr.output,by rw [hgr.heap];simp,fun b hb _=>?_⟩
    rw [hgr.heap,Array.getElem?_push,if_neg (by omega)]
 ·rw [he]
  intro n' o' hm
  simp only [List.mem_singleton,Prod.mk.injEq] at hm
  obtain ⟨rfl,rfl⟩:=hm
  refine ⟨hn1.2,q,hb,?_,?_⟩
  ·cases hmv with
   | stay e hwr=>have:=hwr.at_;rw [← e] at this;simpa using this
   | grow e hgr =>
     simp only [List.lookup_cons,beq_self_eq_true,Option.getD_some]
     rw [e,hgr.heap];simp
  ·cases hmv with
   | stay e hwr=>left;rw [hbg];simpa using e
   | grow e hgr =>
     right
     refine ⟨by simpa using Nat.le_of_eq e.symm,?_,rfl⟩
     intro n2 y2 hm2
     simp only [List.mem_singleton,Prod.mk.injEq] at hm2
     exact hm2.1
 ·rw [he];intro k b' q' hk';simp at hk'
 ·rw [he];simp
end
section
variable {P : Program} {t e : TypeId}
def lJ (P:Program) (e:TypeId):Prop:=∃ i,P.info? e=some i∧i.size=1∧i.bytes=1∧i.zero=some (.int .u8 0)
theorem u8like_of (h:(P.info? e).map (fun i=>(i.size,i.bytes,i.zero))=some (1,1,some (.int .u8 0))):lJ P e:=by
 rw [Option.map_eq_some_iff] at h
 obtain ⟨i,h1,h2⟩:=h
 simp only [Prod.mk.injEq] at h2
 exact ⟨i,h1,h2⟩
def zB (n:Nat):Array Value:=(bs (List.replicate n 0)).toArray
def inpl (C:Array Value) (o:Nat) (vs:List Value):Array Value:=(C.toList.take o++vs++C.toList.drop (o+vs.length)).toArray
def grow (C:Array Value) (o:Nat) (vs:List Value) (k:Nat):Array Value:=(C.toList.take o++vs).toArray++zB k
theorem oD (n:Nat):(zB n).size=n:=by simp [zB,bs]
theorem sizeOf_u8 (hi:lJ P e) (w:World):(sizeOf e).run P w=.ok 1 w:=by
 obtain ⟨i,h1,h2,_⟩:=hi
 simp [sizeOf,typeInfo,h1,h2]
theorem made_zB (n:Nat):madeCells #[.int .u8 0] n=zB n:=by
 apply Array.ext
 ·simp [madeCells,zB,bs]
 ·intro i h1 h2
  simp [madeCells,zB,bs,bv,Nat.mod_one]
theorem zero_zB (n:Nat):Builtin.zeroCells #[.int .u8 0] n=zB n:=by
 apply Array.ext
 ·simp [Builtin.zeroCells,zB,bs]
 ·intro i h1 h2
  simp [Builtin.zeroCells,zB,bs,bv,Nat.mod_one]
theorem x9 (xs:List UInt8):∀ u∈bs xs,u.oneCell'=true:=by
 intro u hu
 obtain ⟨x,_,rfl⟩:=List.mem_map.1 hu
 rfl
theorem Bs.src {w:World} {a:Option Addr} {c:Nat} {xs:List UInt8} {tx e':TypeId} (hk:P.underlying tx=some (.slice e')) (h:Bs w a c xs):Src P 1 tx (.slice a xs.length c) xs.length (bs xs) w:=by
 cases a with
 | none =>
   have h0:xs=[]:=by
    rcases h.rows with h0 | ⟨p,hp,_⟩
    ·exact List.map_eq_nil_iff.1 h0
    ·exact absurd hp (by simp)
   subst h0
   exact Src.ofNil w hk c
 | some p =>
   refine Src.ofSlice w hk p xs.length c (bs xs) (by rw [dH,Nat.mul_one]) ?_ (x9 xs)
   intro j u hu
   rcases h.rows with h0 | ⟨p',hp,hh⟩
   ·rw [h0] at hu;simp at hu
   ·obtain rfl : p = p' := by simpa using hp
    exact hh j u hu
theorem wrote_row {w:World} {g:Nat} {C C':Array Value} {T:TypeId} (hg:w.heap[g]? = some (.cells C T (0,0))):Wrote w (w.setRow g C') g (.cells C' T (0,0)) :=
 ⟨rfl,rfl,rfl,size_setRow w g C',fun b hb=>setRow_other w g b C' hb,setRow_heap w g C C' T _ hg⟩
theorem app_room {w:World} {ty tx:TypeId} (ht:P.underlying t=some (.slice e)) (hi:lJ P e) {g n c:Nat} {C:Array Value} {x:Value} {ys:List UInt8} (hg:w.heap[g]? = some (.cells C e (0,0)))
 (hs:Src P 1 tx x ys.length (bs ys) w) (hr:n+ys.length≤c) (hf:n+ys.length≤C.size) :
 ∃ w',(do pure (Next.value (← Builtin.append_ #[t,tx] ty #[.slice (some ⟨g,0,none⟩) n c,x])):Sem Next).run P w=.ok (.value (.slice (some ⟨g,0,none⟩) (n+ys.length) c)) w'∧Wrote w w' g (.cells (inpl C n (bs ys)) e (0,0)):=by
 obtain ⟨i,h1,h2,h3,h4⟩:=hi
 refine ⟨_,?_,wrote_row hg⟩
 have hst:=run_storeCells_at P g n e (bs ys) 0 C w hg (by rw [dH];omega) (x9 ys)
 simp only [Nat.add_zero] at hst
 have hs2:Src P i.size tx x ys.length (bs ys) w:=by rw [h2];exact hs
 have hrun:(Builtin.append_ #[t,tx] ty #[.slice (some ⟨g,0,none⟩) n c,x]).run P w=.ok (.slice (some ⟨g,0,none⟩) (n+ys.length) c) (w.setRow g (inpl C n (bs ys))):=by
  unfold inpl
  rcases hs.kind with ⟨e',hk⟩ | hk<;>simp [Builtin.append_,run_underlying ht,run_underlying hk,sizeOf,typeInfo,h1,h2,hs.len,hr,hs.cells,Addr.add_lit,hst]
 rw [Sem.run_bind,hrun]
 rfl
theorem app_grow {w:World} {ty tx:TypeId} (ht:P.underlying t=some (.slice e)) (hi:lJ P e) {a:Option Addr} {n c:Nat} {olds:List Value} {x:Value} {ys:List UInt8}
 (ho:(Builtin.firstCells 1 n (.slice a n c)).run P w.drew=.ok olds.toArray w.drew) (hs:Src P 1 tx x ys.length (bs ys) w) (hr:c<n+ys.length) (hm:n+ys.length≤140737488351232) :
 ∃ k w',(do pure (Next.value (← Builtin.append_ #[t,tx] ty #[.slice a n c,x])):Sem Next).run P w=.ok (.value (.slice (some ⟨w.heap.size,0,none⟩) (n+ys.length) (n+ys.length+k))) w'∧Grew w w' (.cells ((olds++bs ys).toArray++zB k) e (0,0)):=by
 obtain ⟨i,h1,h2,h3,h4⟩:=hi
 have hge:=grownCap_ge w (n+ys.length) c e
 have hs2:Src P i.size tx x ys.length (bs ys) w:=by rw [h2];exact hs
 have hrun:=run_append_grow_src (P:=P) w t tx ty e i (.int .u8 0) ht h1 h4 a n c olds (by rw [h2];exact ho) x ys.length (bs ys) hs2 hr (by omega) (growslice_fits hr (by rw [h3];omega))
 refine ⟨grownCap w (n+ys.length) c e-(n+ys.length),w.drew.alloc (.cells ((olds++bs ys).toArray++zB (grownCap w (n+ys.length) c e-(n+ys.length))) e),?_,⟨rfl,rfl,rfl,rfl⟩⟩
 rw [Sem.run_bind,hrun]
 rw [show (n+ys.length+(grownCap w (n+ys.length) c e-(n+ys.length)))=grownCap w (n+ys.length) c e by omega,← zero_zB]
 rfl
theorem first_nil {w:World}:(Builtin.firstCells 1 0 (.slice none 0 0)).run P w=.ok ([]:List Value).toArray w:=run_firstCells_none w 1 0 0 0
theorem first_row {w:World} {g n c:Nat} {C:Array Value} {T:TypeId} {fr:Nat × Nat} (hg:w.heap[g]? = some (.cells C T fr)) (hn:n≤C.size):(Builtin.firstCells 1 n (.slice (some ⟨g,0,none⟩) n c)).run P w=.ok (C.toList.take n).toArray w:=by
 refine run_firstCells_some w 1 n ⟨g,0,none⟩ n c (C.toList.take n) (by simp;omega) (fun j v hv=>?_)
 rw [Addr.add_lit]
 unfold World.cell?
 simp only [hg]
 rw [List.getElem?_take] at hv
 split at hv
 ·simpa using hv
 ·exact absurd hv (by simp)
theorem copy_row {w : World} {ty tx : TypeId} (ht : P.underlying t = some (.slice e)) (hi : lJ P e) {g n c : Nat} {C : Array Value} {T : TypeId} {a : Option Addr} {m d : Nat} {xs : List UInt8} (hg : w.heap[g]? = some (.cells C T (0, 0)))
 (hb:Bs w a d xs) (hm:m=xs.length) (hn:n≤C.size) :
 ∃ w',(do pure (Next.value (← Builtin.copy_ #[t,tx] ty #[.slice (some ⟨g,0,none⟩) n c,.slice a m d])):Sem Next).run P w=.ok (.value (goInt (Nat.min xs.length n))) w'∧Wrote w w' g (.cells (inpl C 0 (bs (xs.take n))) T (0,0)):=by
 subst hm
 obtain ⟨i,h1,h2,h3,h4⟩:=hi
 refine ⟨_,?_,wrote_row hg⟩
 have hlen:(bs (xs.take n)).length=Nat.min xs.length n:=by rw [dH,List.length_take];exact Nat.min_comm _ _
 have hst:=run_storeCells_at P g 0 T (bs (xs.take n)) 0 C w hg (by rw [dH,List.length_take];omega) (x9 _)
 simp only [Nat.add_zero] at hst
 have hfc:(Builtin.firstCells 1 (Nat.min xs.length n) (.slice a xs.length d)).run P w=.ok (bs (xs.take n)).toArray w:=by
  cases a with
  | none =>
    have h0:xs=[]:=by
     rcases hb.rows with h0 | ⟨p,hp,_⟩
     ·exact List.map_eq_nil_iff.1 h0
     ·exact absurd hp (by simp)
    subst h0
    simp [Builtin.firstCells,bs]
  | some p =>
    refine run_firstCells_some w 1 _ p _ d (bs (xs.take n)) (by rw [hlen,Nat.mul_one]) (fun j v hv=>?_)
    rcases hb.rows with h0 | ⟨p',hp,hh⟩
    ·have h0' : xs = [] := List.map_eq_nil_iff.1 h0
     subst h0'
     simp [bs] at hv
    ·obtain rfl : p = p' := by simpa using hp
     apply hh j v
     unfold bs at hv ⊢
     rw [List.map_take,List.getElem?_take] at hv
     split at hv
     ·exact hv
     ·exact absurd hv (by simp)
 have hrun:(Builtin.copy_ #[t,tx] ty #[.slice (some ⟨g,0,none⟩) n c,.slice a xs.length d]).run P w=.ok (goInt (Nat.min xs.length n)) (w.setRow g (inpl C 0 (bs (xs.take n)))):=by
  unfold inpl
  simp [Builtin.copy_,run_underlying ht,Builtin.lenOf,sizeOf,typeInfo,h1,h2,hfc,hst]
 rw [Sem.run_bind,hrun]
 rfl
theorem make_row (ht:P.underlying t=some (.slice e)) (hi:lJ P e) {kl kc:IntKind} {n c:Nat} (hn:n≤c) (hc:c≤140737488351232) (w:World) :
 ∃ k w',(do pure (Next.value (← Instr.makeSlice t (.int kl (n:Int)) (.int kc (c:Int)))):Sem Next).run P w=.ok (.value (.slice (some ⟨([w.heap.size,k]:List Nat).headD 0,0,none⟩) n c)) w'∧Grew w w' (.cells (zB c) e (0,0)):=by
 obtain ⟨i,h1,h2,h3,h4⟩:=hi
 have hr:=run_make (P:=P) w t e i _ ht h1 h4 kl kc n c (by omega) (by omega) (by rw [h3];omega) (by omega)
 refine ⟨0,w.alloc (.cells (zB c) e),?_,⟨rfl,rfl,rfl,rfl⟩⟩
 rw [Sem.run_bind,hr]
 simp only [h2,Nat.mul_one,Int.toNat_natCast]
 rw [← made_zB]
 rfl
theorem idx_bytes (ht:P.underlying t=some (.slice e)) (hi:lJ P e) {w:World} {a:Option Addr} {c m:Nat} {xs:List UInt8} {k:IntKind} {z:Int} {j:Nat} (hb:Bs w a c xs) (hm:m=xs.length) (hz:z=(j:Int)) (hj:j<xs.length) :
 (do pure (Next.value (← Instr.indexAt t (.slice a m c) (.int k z))):Sem Next).run P w=.ok (.value (.pointer (fK a j))) w:=by
 subst hm hz
 obtain ⟨p,rfl,_⟩:=hb.cell hj
 have hs:=sizeOf_u8 hi w
 simp [Instr.indexAt,asIntOf,Sem.run_bind,run_underlying ht,hj,hs,fK]
theorem ld_bytes {w:World} {a:Option Addr} {c:Nat} {xs:List UInt8} {j:Nat} (ha:∀ w,(isAgg e).run P w=.ok false w) (hb:Bs w a c xs) (hj:j<xs.length) :
 (do pure (Next.value (← Instr.loadAt e (.pointer (fK a j)))):Sem Next).run P w=.ok (.value (.int .u8 (gB xs j:Int))) w:=by
 obtain ⟨p,rfl,hp⟩:=hb.cell hj
 simp only [fK,Option.map_some,Instr.loadAt,Instr.sureAddr,loadVar,Sem.run_bind,Sem.run_pure,Result.andThen_ok,ha,Bool.false_eq_true,if_false,load,Sem.run,hp]
theorem vH (ht:P.underlying t=some (.slice e)) (hi:lJ P e) {w:World} {a:Option Addr} {c m:Nat} {xs:List UInt8} {lo hi':Option Value} {l k:Nat} (hb:Bs w a c xs) (hm:m=xs.length)
 (hlo:lo=none∧l=0∨lo=some (.int .i64 (l:Int))) (hhi:hi'=none∧k=xs.length∨hi'=some (.int .i64 (k:Int))) (hl:l≤k) (hk:k≤xs.length) :
 (do pure (Next.value (← Instr.sliceAt t (.slice a m c) lo hi' none)):Sem Next).run P w=.ok (.value (.slice (uF a l c) (mid xs l k).length (c-l))) w:=by
 subst hm
 have hle:=hb.le
 have hs:=sizeOf_u8 hi w
 have h1:l≤k:=by omega
 have h2:k≤c:=by omega
 rw [kS xs l k hk]
 have hb1:(Instr.sliceBounds true xs.length c lo hi' none).run P w=.ok (l,k,c) w:=by
  rcases hlo with ⟨rfl,rfl⟩ | rfl
  ·rcases hhi with ⟨rfl, rfl⟩ | rfl
   ·simp [Instr.sliceBounds]
   ·simp [Instr.sliceBounds,Instr.sliceBound,asIntOf,h2]
  ·rcases hhi with ⟨rfl, rfl⟩ | rfl
   ·simp [Instr.sliceBounds,Instr.sliceBound,asIntOf,h1]
   ·simp [Instr.sliceBounds,Instr.sliceBound,asIntOf,h1,h2]
 simp [Instr.sliceAt,Instr.slice,run_underlying ht,hs,uF,fK,hb1]
def gY (xs:List UInt8):ByteArray:=⟨xs.toArray⟩
theorem xAX {ts:TypeId} (ht:P.underlying t=some (.slice e)) (he:P.underlying e=some (.int .u8)) (hd:P.underlying ts=some .string) {w:World} {a:Option Addr} {c m:Nat} {xs:List UInt8} (hb:Bs w a c xs) (hm:m=xs.length) :
 (do pure (Next.value (← convert t ts (.slice a m c))):Sem Next).run P w=.ok (.value (.string (gY xs))) w:=by
 subst hm
 cases a with
 | none =>
   have h0:xs=[]:=by
    rcases hb.rows with h0 | ⟨p,hp,_⟩
    ·exact List.map_eq_nil_iff.1 h0
    ·exact absurd hp (by simp)
   subst h0
   simp [run_convert_bytes_string w t ts e none _ c ht he hd,Conv.bytesToString,gY]
   rfl
 | some p =>
   rw [Sem.run_bind,run_convert_bytes_back w t ts e p c xs ht he hd]
   ·rfl
   ·intro j hj
    obtain ⟨p',hp,hc⟩:=hb.cell hj
    obtain rfl:p=p':=by simpa using hp
    rw [hc]
    simp [gB,List.getD,List.getElem?_eq_getElem hj]
def Hd (C:Array Value) (xs:List UInt8):Prop:=C.toList.take xs.length=bs xs
theorem Hd.size {C:Array Value} {xs:List UInt8} (h:Hd C xs):xs.length≤C.size:=by
 have:=congrArg List.length h
 rw [dH,List.length_take] at this
 simp at this
 omega
theorem Hd.nil (C:Array Value):Hd C []:=by simp [Hd,bs]
theorem Hd.all (xs:List UInt8):Hd (bs xs).toArray xs:=by
 unfold Hd
 rw [← dH]
 simp
theorem lG (C:Array Value) (o:Nat) (vs:List Value) (h:o+vs.length≤C.size):(inpl C o vs).size=C.size:=by
 simp [inpl]
 omega
theorem Hd.inpl {C:Array Value} {xs ys:List UInt8} (h:Hd C xs) {n:Nat} (hn:n=xs.length):Hd (inpl C n (bs ys)) (xs++ys):=by
 subst hn
 unfold Hd at h ⊢
 unfold YtahoheofpggopaaGreatDoor.inpl
 rw [h,bs_app,List.length_append]
 have:xs.length+ys.length=(bs xs++bs ys).length:=by rw [List.length_append,dH,dH]
 rw [this]
 simp only [List.append_assoc]
 rw [← List.append_assoc,List.take_left]
theorem Hd.grow {C:Array Value} {xs ys:List UInt8} (h:Hd C xs) {k n:Nat} (hn:n=xs.length):Hd (grow C n (bs ys) k) (xs++ys):=by
 subst hn
 unfold Hd at h ⊢
 unfold YtahoheofpggopaaGreatDoor.grow
 rw [h,bs_app,List.length_append]
 have:xs.length+ys.length=(bs xs++bs ys).length:=by rw [List.length_append,dH,dH]
 rw [this]
 simp only [Array.toList_append,List.append_assoc]
 rw [← List.append_assoc,List.take_left]
theorem grow_size {C:Array Value} {n:Nat} {ys:List UInt8} {k:Nat} (h:n≤C.size):(grow C n (bs ys) k).size=n+ys.length+k:=by
 simp [grow,bs,zB]
 omega
theorem Bs.of_hd {w:World} {g:Nat} {C:Array Value} {T:TypeId} {fr:Nat × Nat} {c:Nat} {xs:List UInt8} (hb:w.heap[g]? = some (.cells C T fr)) (hx:Hd C xs) (hc:xs.length≤c) (hm:xs.length≤140737488351232):Bs w (some ⟨g,0,none⟩) c xs :=
 Bs.of_block hb hx hc hm
theorem St.fresh {w0:Base} {w:World} {h:List (Nat × Obj)} {F:World→Prop} (hS:St w0 h F w) {g:Nat} {C:Array Value} {T:TypeId} {fr:Nat × Nat} {c:Nat} {xs:List UInt8} (hg:(g,.cells C T fr)∈h) (hx:Hd C xs) (hc:xs.length≤c) (hm:xs.length≤140737488351232) (hw:g ∉ w0.ws:=by exact List.not_mem_nil):Fs w0.w w (some ⟨g,0,none⟩) c xs:=by
 refine ⟨Bs.of_hd (hS.at_ _ hg).2 hx hc hm,fun p hp _=>?_⟩
 obtain rfl:(⟨g,0,none⟩:Addr)=p:=by simpa using hp
 exact (hS.at_ _ hg).1.resolve_right hw
end
def oa (ρ:Nat→bH) (i:Nat):Option Addr:=(ρ i).a
def ob (x:Int):UInt8:=UInt8.ofNat x.toNat
theorem ob_nat {x:Int} (h:0≤x∧x<256):((ob x).toNat:Int)=x:=by
 unfold ob
 rw [UInt8.toNat_ofNat']
 omega
theorem zW {x:Int} (h:0≤x∧x<256):bv (ob x)=.int .u8 x:=by
 unfold bv
 rw [ob_nat h]
theorem hd1 {x:Int} (h:0≤x∧x<256):Hd #[.int .u8 x] [ob x]:=by
 simp [Hd,bs,zW h]
theorem hd2 {x y:Int} (h:0≤x∧x<256) (h':0≤y∧y<256):Hd #[.int .u8 x,.int .u8 y] [ob x,ob y]:=by
 simp [Hd,bs,zW h,zW h']
theorem Hd.take {C:Array Value} {xs:List UInt8} (h:Hd C xs) (k:Nat):Hd C (xs.take k):=by
 unfold Hd at h ⊢
 unfold bs at h ⊢
 rw [List.map_take,← h,List.take_take,List.length_take]
theorem dU {w0 w:World} {a:Option Addr} {c:Nat} {xs ys:List UInt8} (e:xs=ys) (h:Fs w0 w a c xs):Fs w0 w a c ys:=e ▸ h
theorem oK {xs ys:List UInt8} {n:Nat} (h:xs.length+ys.length≤n):(xs++ys).length≤n:=by rw [List.length_append];exact h
theorem room_le {C:Array Value} {c n:Nat} {ys:List UInt8} (hc:C.size=c) (h:n+ys.length≤c):n+(bs ys).length≤C.size:=by rw [dH,hc];exact h
theorem tX {C:Array Value} {xs ys:List UInt8} {k:Nat} (h:Hd C xs):(grow C xs.length (bs ys) k).size=(xs++ys).length+k:=by
 rw [grow_size h.size,List.length_append]
theorem sadr_zero (a:Option Addr) (c:Nat):uF a 0 c=a:=by
 unfold uF fK
 split
 ·rfl
 ·cases a<;>simp [Addr.add]
section
variable {P : Program} {t e : TypeId}
theorem kD {w:World} {ty tx:TypeId} (ht:P.underlying t=some (.slice e)) (hi:lJ P e) {g c:Nat} {C:Array Value} {x:Value} {xs ys:List UInt8} (hg:w.heap[g]? = some (.cells C e (0,0)))
 (hs:Src P 1 tx x ys.length (bs ys) w) (hc:C.size=c) (hr:xs.length+ys.length≤c) :
 ∃ w',(do pure (Next.value (← Builtin.append_ #[t,tx] ty #[.slice (some ⟨g,0,none⟩) xs.length c,x])):Sem Next).run P w=.ok (.value (.slice (some ⟨g,0,none⟩) (xs++ys).length c)) w'∧Wrote w w' g (.cells (inpl C xs.length (bs ys)) e (0,0)):=by
 rw [List.length_append]
 exact app_room ht hi hg hs hr (by omega)
theorem xG {w:World} {ty tx:TypeId} (ht:P.underlying t=some (.slice e)) (hi:lJ P e) {g c:Nat} {C:Array Value} {x:Value} {xs ys:List UInt8} (hg:w.heap[g]? = some (.cells C e (0,0)))
 (hs:Src P 1 tx x ys.length (bs ys) w) (hc:C.size=c) (hx:xs.length≤c) (hr:c<xs.length+ys.length) (hm:xs.length+ys.length≤140737488351232) :
 ∃ k w',(do pure (Next.value (← Builtin.append_ #[t,tx] ty #[.slice (some ⟨g,0,none⟩) xs.length c,x])):Sem Next).run P w=.ok (.value (.slice (some ⟨w.heap.size,0,none⟩) (xs++ys).length ((xs++ys).length+k))) w'∧Grew w w' (.cells (grow C xs.length (bs ys) k) e (0,0)):=by
 rw [List.length_append]
 exact app_grow ht hi (first_row (w:=w.drew) hg (by omega)) hs hr hm
theorem oU {w:World} {ty tx:TypeId} (ht:P.underlying t=some (.slice e)) (hi:lJ P e) {x:Value} {ys:List UInt8}
 (hs:Src P 1 tx x ys.length (bs ys) w) (hr:0<ys.length) (hm:ys.length≤140737488351232) :
 ∃ k w',(do pure (Next.value (← Builtin.append_ #[t,tx] ty #[.slice none 0 0,x])):Sem Next).run P w=.ok (.value (.slice (some ⟨w.heap.size,0,none⟩) ys.length (ys.length+k))) w'∧Grew w w' (.cells ((bs ys).toArray++zB k) e (0,0)):=by
 have:=app_grow (w:=w) (ty:=ty) ht hi (a:=none) (n:=0) (c:=0) (olds:=[]) first_nil hs (by omega) (by omega)
 simpa using this
theorem Hd.fresh (ys:List UInt8) (k:Nat):Hd ((bs ys).toArray++zB k) ys:=by
 unfold Hd
 rw [Array.toList_append,← dH]
 simp
theorem xAR (ys:List UInt8) (k:Nat):((bs ys).toArray++zB k).size=ys.length+k:=by simp [bs,zB]
theorem mM (ht:P.underlying t=some (.slice e)) (hi:lJ P e) {kl kc:IntKind} {n c:Int} {c':Nat} (xs:List UInt8) (hx:n=(xs.length:Int)) (hc':c=(c':Int)) (hn:xs.length≤c') (hc:c'≤140737488351232) (w:World) :
 ∃ k w',(do pure (Next.value (← Instr.makeSlice t (.int kl n) (.int kc c))):Sem Next).run P w=.ok (.value (.slice (some ⟨([w.heap.size,k]:List Nat).headD 0,0,none⟩) xs.length c')) w'∧Grew w w' (.cells (zB c') e (0,0)):=by
 subst hx hc'
 exact make_row ht hi hn hc w
structure Ap (C:Array Value) (xs:List UInt8) (c:Nat):Prop where
 hd:Hd C xs
 le:xs.length≤c
 max:xs.length≤140737488351232
 size:C.size=c
theorem Ap.mk' {C:Array Value} {xs:List UInt8} {c:Nat} (h1:Hd C xs) (h2:xs.length≤c) (h3:xs.length≤140737488351232) (h4:C.size=c):Ap C xs c:=⟨h1,h2,h3,h4⟩
def objC:Obj→Array Value
 | .cells C _ _=>C
 | _=> #[]
def uG (r:bH):Array Value:=objC (r.o.headD (.cells #[] 0 (0,0)))
def oc (ρ:Nat→bH) (i:Nat):Array Value:=uG (ρ i)
theorem app_any {w:World} {ty tx:TypeId} (ht:P.underlying t=some (.slice e)) (hi:lJ P e) {g c:Nat} {C:Array Value} {x:Value} {xs ys:List UInt8} (hA:Ap C xs c) (hs:Src P 1 tx x ys.length (bs ys) w) (hm:xs.length+ys.length≤140737488351232) (hg:w.heap[g]? = some (.cells C e (0,0))) :
 ∃ r w',(do pure (Next.value (← Builtin.append_ #[t,tx] ty #[.slice (some ⟨g,0,none⟩) xs.length c,x])):Sem Next).run P w=.ok (.value (.slice (some ⟨r.n.headD 0,0,none⟩) (xs++ys).length (r.n.tail.headD 0))) w'∧Ap (uG r) (xs++ys) (r.n.tail.headD 0)∧Moved w w' g (r.n.headD 0) (.cells (uG r) e (0,0)):=by
 by_cases hr:xs.length+ys.length≤c
 ·obtain ⟨w', h1, h2⟩ := kD (w := w) (ty := ty) ht hi hg hs hA.size hr
  refine ⟨{ n:=[g,c],o:=[.cells (inpl C xs.length (bs ys)) 0 (0,0)]},w',h1,⟨Hd.inpl hA.hd rfl,oK hr,oK hm,(lG _ _ _ (room_le hA.size hr)).trans hA.size⟩,.stay rfl h2⟩
 ·obtain ⟨k, w', h1, h2⟩ := xG (w := w) (ty := ty) ht hi hg hs hA.size hA.le (by omega) hm
  refine ⟨{ n:=[w.heap.size,(xs++ys).length+k],o:=[.cells (grow C xs.length (bs ys) k) 0 (0,0)]},w',h1,⟨Hd.grow hA.hd rfl,Nat.le_add_right _ _,oK hm,tX hA.hd⟩,.grow rfl h2⟩
theorem uI (ht:P.underlying t=some (.slice e)) (hi:lJ P e) {g m c:Nat} {k:IntKind} {z:Int} {j:Nat} (hz:z=(j:Int)) (hj:j<m) (w:World) :
 (do pure (Next.value (← Instr.indexAt t (.slice (some ⟨g,0,none⟩) m c) (.int k z))):Sem Next).run P w=.ok (.value (.pointer (some ⟨g,j,none⟩))) w:=by
 subst hz
 have:=xX (P:=P) (t:=t) (elem:=e) (len:=m) (cap:=c) (s:=1) (g:=g) (off:=0) (k:=k) (n:=j) ht (sizeOf_u8 hi) (by omega) (by omega) w
 simpa using this
theorem eql_str (X Y:List UInt8) (w:World):(binOp .eql t (.string (gY X)) (.string (gY Y))).run P w=.ok (.bool (decide (X=Y))) w:=by
 have e:((gY X).toList==(gY Y).toList)=decide (X=Y):=by
  rw [Bool.eq_iff_iff,beq_iff_eq,decide_eq_true_eq,ByteArray.toList_eq,ByteArray.toList_eq]
  simp [gY]
 simp only [binOp,Op.stringOp,e]
 rfl
end
def hL (A:Nat):List UInt8:=(List.range 32).map fun i=>ob (nR A i)
theorem aO (A:Nat):(hL A).length=32:=by simp [hL]
theorem tN (A:Nat):Hd (hB A) (hL A):=by
 unfold Hd hL hB bs
 rw [List.length_map,List.length_range,List.map_map]
 have e:(List.range 32).map (bv ∘ fun i=>ob (nR A i))=(List.range 32).map fun i=>Value.int .u8 (nR A i):=by
  apply List.map_congr_left
  intro i _
  exact zW ⟨qK A i,byt_lt A i⟩
 rw [e]
 rfl
def nB (xs:List UInt8):Nat:=xs.foldl (fun a x=>a*256+x.toNat) 0
theorem nB_snoc (xs:List UInt8) (x:UInt8):nB (xs++[x])=nB xs*256+x.toNat:=by simp [nB,List.foldl_append]
theorem snoc_ind {p:List UInt8→Prop} (h0:p []) (h1:∀ xs x,p xs→p (xs++[x])):∀ xs,p xs:=by
 have key:∀ n xs,xs.length=n→p xs:=by
  intro n
  induction n with
  | zero=>intro xs hx;rw [List.eq_nil_of_length_eq_zero hx];exact h0
  | succ n ih =>
    intro xs hx
    have hne:xs≠[]:=by intro h;rw [h] at hx;simp at hx
    rw [← List.dropLast_concat_getLast hne]
    exact h1 _ _ (ih _ (by rw [List.length_dropLast];omega))
 exact fun xs=>key _ xs rfl
theorem nB_lt (xs:List UInt8):nB xs<256^xs.length:=by
 refine snoc_ind (p:=fun xs=>nB xs<256^xs.length) (by simp [nB]) ?_ xs
 intro xs x ih
 rw [nB_snoc,List.length_append,List.length_singleton,Nat.pow_succ]
 have:=x.toNat_lt
 omega
theorem nB_byte (xs:List UInt8):∀ i,i<xs.length→nB xs / 256^(xs.length-1-i)%256=gB xs i:=by
 refine snoc_ind (p:=fun xs=>∀ i,i<xs.length→nB xs / 256^(xs.length-1-i)%256=gB xs i) (fun i h=>absurd h (by simp)) ?_ xs
 intro xs x ih i hi
 rw [List.length_append,List.length_singleton] at hi ⊢
 rw [nB_snoc]
 have hx:=x.toNat_lt
 by_cases h:i<xs.length
 ·have e : xs.length + 1 - 1 - i = (xs.length - 1 - i) + 1 := by omega
  rw [e,Nat.pow_succ,Nat.mul_comm (256^_) 256,← Nat.div_div_eq_div_mul,show (nB xs*256+x.toNat) / 256=nB xs by omega,ih i h]
  simp [gB,List.getD,List.getElem?_append_left h]
 ·have e : i = xs.length := by omega
  subst e
  rw [show xs.length+1-1-xs.length=0 by omega,Nat.pow_zero,Nat.div_one]
  simp [gB,List.getD]
theorem hB_nB {xs:List UInt8} (h:xs.length=32):(bs xs).toArray=hB (nB xs):=by
 apply hB_ext
 ·simp [bs,h]
 ·intro j hj
  have hb:=nB_byte xs j (by omega)
  rw [h] at hb
  have hj':j<xs.length:=by omega
  unfold nR
  rw [show 31-j=32-1-j by omega,hb]
  simp [bs,bv,gB,List.getD,List.getElem?_eq_getElem hj']
theorem nB_M {xs:List UInt8} (h:xs.length=32):nB xs<M:=by
 have:=nB_lt xs
 rw [h] at this
 exact this
theorem hL_nB {xs:List UInt8} (h:xs.length=32):hL (nB xs)=xs:=by
 have h1:=tN (nB xs)
 rw [← hB_nB h] at h1
 unfold Hd at h1
 rw [aO] at h1
 have h2:bs xs=bs (hL (nB xs)):=by
  rw [← h1]
  rw [List.take_of_length_le (by simp [bs,h])]
 have inj:∀ a b:UInt8,bv a=bv b→a=b:=by
  intro a b hab
  unfold bv at hab
  simp at hab
  exact UInt8.toNat.inj (by omega)
 unfold bs at h2
 exact ((List.map_inj_right (fun a b=>inj a b)).1 h2).symm
section
variable {P : Program} {ops : Array Oper} {D : List Nat} {l : List (Nat × Value)} {w0 : Base} {h : List (Nat × Obj)} {F0 : World → Prop}
variable {vals : (Nat → bH) → Nat → Value} {effs : (Nat → bH) → Nat → Eff} {fact : (Nat → bH) → Nat → World → Prop}
end
theorem St.newb {w0:Base} {w:World} {h:List (Nat × Obj)} {F:World→Prop} (hS:St w0 h F w) {g:Nat} {o:Obj} (hg:(g,o)∈h) (hw:g ∉ w0.ws:=by exact List.not_mem_nil):w0.w.heap.size≤g∧w.heap[g]? = some o:=⟨(hS.at_ _ hg).1.resolve_right hw,(hS.at_ _ hg).2⟩
theorem Hd.eq {C:Array Value} {xs:List UInt8} (h:Hd C xs) (hs:C.size=xs.length):C=(bs xs).toArray:=by
 apply Array.ext'
 unfold Hd at h
 rw [← hs,← Array.length_toList,List.take_length] at h
 rw [h]
theorem nD {R:Act→World→Prop} {n:Nat} {l:List (Nat × Value)} {w0:Base} {h:List (Nat × Obj)} {F:World→Prop} (G:World→Prop) (hp:∀ w,F w→G w) (hk:gJ R n l w0 h G):gJ R n l w0 h F :=
 fun A w hf hs=>hk A w hf (hs.weaken hp)
theorem cell_blk {w:World} {g:Nat} {C:Array Value} {T:TypeId} {fr:Nat × Nat} (h:w.heap[g]? = some (.cells C T fr)) (j:Nat):w.cell? ⟨g,j,none⟩=C[j]? := cell_of_row w g j C _ _ h
def Kb (w:World) (g:Nat) (C:Array Value):Prop:=∀ i v,C[i]? = some v→w.cell? ⟨g,i,none⟩=some v
theorem Kb.of_block {w:World} {g:Nat} {C:Array Value} {T:TypeId} {fr:Nat × Nat} (h:w.heap[g]? = some (.cells C T fr)):Kb w g C:=fun i _ hv=>(cell_blk h i).trans hv
theorem cell_some_lt {w:World} {g i:Nat} {v:Value} (h:w.cell? ⟨g,i,none⟩=some v):g<w.heap.size:=by
 by_cases hl:g<w.heap.size
 ·exact hl
 ·have hn : w.heap[g]? = none := Array.getElem?_eq_none (by omega)
  unfold World.cell? at h
  simp [hn] at h
theorem Kb.pers0 {w:World} {g:Nat} {C:Array Value} (h:Kb w g C):dL (fun _=>False) (fun w=>Kb w g C) w:=by
 by_cases hz:∃ (i:Nat) (v:Value),C[i]? = some v
 ·obtain ⟨i, v, hv⟩ := hz
  exact ⟨fun b=>b=g,fun b hb=>⟨by rw [hb];exact cell_some_lt (h i v hv),id⟩,fun w' hw i v hv=>(cell_congr (a:=⟨g,i,none⟩) (hw g rfl)).trans (h i v hv)⟩
 ·exact ⟨fun _=>False,fun b hb=>hb.elim,fun w' _ i v hv=>absurd ⟨i,v,hv⟩ hz⟩
section
variable {P : Program} {t e : TypeId}
theorem mY {w:World} {g off:Nat} {C:Array Value} {v:Value} (ha:∀ w,(isAgg e).run P w=.ok false w) (h:Kb w g C) (hv:C[off]? = some v) :
 (do pure (Next.value (← Instr.loadAt e (.pointer (some ⟨g,off,none⟩)))):Sem Next).run P w=.ok (.value v) w:=by
 have hp:w.cell? ⟨g,off,none⟩=some v:=h off v hv
 simp only [Instr.loadAt,Instr.sureAddr,loadVar,Sem.run_bind,Sem.run_pure,Result.andThen_ok,ha,Bool.false_eq_true,if_false,load,Sem.run,hp]
theorem ld_blkA {w:World} {g off n:Nat} {C:Array Value} {vs:List Value} (ha:∀ w,(isAgg e).run P w=.ok true w) (hs:∀ w,(sizeOf e).run P w=.ok n w) (h:Kb w g C) (hn:vs.length=n) (hv:∀ j,j<n→C[off+j]? = vs[j]?) :
 (do pure (Next.value (← Instr.loadAt e (.pointer (some ⟨g,off,none⟩)))):Sem Next).run P w=.ok (.value (.agg vs.toArray)) w:=by
 have hl:=run_loadCells_list (P:=P) w ⟨g,off,none⟩ vs (fun j v hj=>by
  rw [Addr.add_lit]
  have hj':j<n:=by rw [← hn];exact (List.getElem?_eq_some_iff.1 hj).1
  exact h _ _ ((hv j hj').trans hj))
 rw [hn] at hl
 simp only [Instr.loadAt,Instr.sureAddr,loadVar,Sem.run_bind,Sem.run_pure,Result.andThen_ok,ha,if_true,hs,hl]
theorem vS {w:World} {g n:Nat} {C:Array Value} {T:TypeId} {fr:Nat × Nat} (ha:∀ w,(isAgg e).run P w=.ok true w) (hs:∀ w,(sizeOf e).run P w=.ok n w) (h:w.heap[g]? = some (.cells C T fr)) (hn:C.size=n) :
 (do pure (Next.value (← Instr.loadAt e (.pointer (some ⟨g,0,none⟩)))):Sem Next).run P w=.ok (.value (.agg C)) w:=by
 have h1:=ld_blkA (vs:=C.toList) ha hs (Kb.of_block h) (by rw [Array.length_toList];exact hn) (fun j _=>by rw [Nat.zero_add];simp)
 rw [Array.toArray_toList] at h1
 exact h1
theorem arr_bytes {n:Nat} {el:TypeId} (hu:P.underlying t=some (.array n el)) {w:World} {a:Option Addr} {c m:Nat} (hm:n≤m) :
 (do pure (Next.value (← Instr.arrayAt t (.slice a m c))):Sem Next).run P w=.ok (.value (.pointer a)) w:=by
 simp only [Instr.arrayAt,Sem.run_bind,run_underlying hu,Result.andThen_ok,if_neg (by omega: ¬ m<n),Sem.run_pure]
theorem ld_arr {n:Nat} (ha:∀ w,(isAgg t).run P w=.ok true w) (hs:∀ w,(sizeOf t).run P w=.ok n w) {w:World} {a:Option Addr} {c:Nat} {xs:List UInt8} (hb:Bs w a c xs) (hn:n≤xs.length) (h0:0<n) :
 (do pure (Next.value (← Instr.loadAt t (.pointer a))):Sem Next).run P w=.ok (.value (.agg (bs (xs.take n)).toArray)) w:=by
 rcases hb.rows with h | ⟨p,rfl,hp⟩
 ·have := congrArg List.length h
  rw [dH] at this
  have h1:xs.length=0:=this
  omega
 ·have hl := run_loadCells_list (P := P) w p (bs (xs.take n)) (fun j v hj => by
   refine hp j v ?_
   unfold bs at hj ⊢
   rw [List.getElem?_map,List.getElem?_take] at hj
   rw [List.getElem?_map]
   split at hj
   ·exact hj
   ·exact absurd hj (by simp))
  rw [dH,List.length_take,Nat.min_eq_left hn] at hl
  simp only [Instr.loadAt,Instr.sureAddr,loadVar,Sem.run_bind,Sem.run_pure,Result.andThen_ok,ha,if_true,hs,hl]
end
section
variable {P : Program} {ops : Array Oper} {D : List Nat} {l : List (Nat × Value)} {w0 : Base} {h : List (Nat × Obj)} {F0 : World → Prop}
variable {vals : (Nat → bH) → Nat → Value} {effs : (Nat → bH) → Nat → Eff} {fact : (Nat → bH) → Nat → World → Prop}
theorem o_newF (i:Nat) (s:(Nat→bH)→Sem Next) (v:(Nat→bH)→Option Addr→Nat→Value) (xs:(Nat→bH)→List UInt8)
 (hc:∀ ρ r,rP ops (vals ρ) (vals (upd ρ i r) i) (effs (upd ρ i r) i) i=some (v ρ r.a (r.n.headD 0),{}))
 (hx:∀ ρ,execOp (dC ops D l (vals ρ) i) (opAt ops i)=s ρ) (ht:∀ ρ r,fact (upd ρ i r) i=fun w=>Fs w0.w w r.a (r.n.headD 0) (xs ρ))
 (hr:∀ ρ T w,Given ops D w0 h F0 effs fact i ρ T w→∃ a c w' o,(s ρ).run P w=.ok (.value (v ρ a c)) w'∧Grew w w' o∧Fs w w' a c (xs ρ)):jV P ops D l w0 h F0 vals effs fact i:=by
 have key:∀ ρ r,((ops[i]?).isSome=true∧fM (vals ρ) (opAt ops i)=true)∧v ρ r.a (r.n.headD 0)=vals (upd ρ i r) i∧effs (upd ρ i r) i={}:=by
  intro ρ r
  have h1:=hc ρ r
  unfold rP at h1
  split at h1
  ·rename_i hb
   simp only [Bool.and_eq_true] at hb
   simp only [Option.some.injEq,Prod.mk.injEq] at h1
   exact ⟨hb,h1.1.symm,h1.2⟩
  ·exact absurd h1 (by simp)
 intro o ho ρ T w hG
 have hoe:=eY (key ρ {}).1.1
 rw [ho] at hoe
 obtain rfl:o=opAt ops i:=by simpa using hoe
 rw [if_pos (key ρ {}).1.2]
 obtain ⟨a,c,w',o',hrun,hgr,hF⟩:=hr ρ T w hG
 unfold opv
 rw [hx ρ,hrun]
 have hk:=key ρ { n:=[c],a:=a}
 refine ⟨{ n:=[c],a:=a},hk.2.1,?_,?_,?_,?_,?_⟩
 ·refine ⟨hgr.os, hgr.tape, hgr.output, by rw [hgr.heap]; simp, fun b hb _ => ?_⟩
  rw [hgr.heap,Array.getElem?_push,if_neg (by omega)]
 ·rw [hk.2.2];intro n q hm;simp at hm
 ·rw [hk.2.2];intro k b q hk';simp at hk'
 ·rw [hk.2.2];simp
 ·rw [ht]
  refine ((hF.pers (T:=fun b=>b<w.heap.size) (fun b hb=>hb)).mono (fun _ hx'=>hx'.older hG.below.size)).sub (fun b hbT=>?_)
  rw [hk.2.2] at hbT
  rcases hbT with hbT | hbT
  ·exact hG.lt b hbT
  ·simp at hbT
end
theorem bytes_str {P:Program} {ts td e:TypeId} (hs:P.underlying ts=some .string) (hd:P.underlying td=some (.slice e)) (he:P.underlying e=some (.int .u8)) (S:List UInt8) (hm:S.length≤140737488351232) (w:World) :
 ∃ a c w' o,(do pure (Next.value (← convert ts td (.string (gY S)))):Sem Next).run P w=.ok (.value (.slice a S.length c)) w'∧Grew w w' o∧Fs w w' a c S:=by
 have hrun:=run_bytes_of_string (P:=P) w ts td e (gY S) hs hd he
 have hsz:(gY S).size=S.length:=by simp [gY,ByteArray.size]
 have hge:=grownCap_ge w S.length 0 e
 rw [hsz] at hrun
 refine ⟨some ⟨w.heap.size,0,none⟩,grownCap w S.length 0 e,w.drew.alloc (.cells (bytesRow (gY S) (grownCap w S.length 0 e)) e ((bytesRow (gY S) (grownCap w S.length 0 e)).size,(bytesRow (gY S) (grownCap w S.length 0 e)).size+1)),_,?_,⟨rfl,rfl,rfl,rfl⟩,?_,?_⟩
 ·rw [Sem.run_bind,hrun];rfl
 ·refine Bs.of_block (g := w.heap.size) (C := bytesRow (gY S) (grownCap w S.length 0 e)) (T := e) (fr := ((bytesRow (gY S) (grownCap w S.length 0 e)).size, (bytesRow (gY S) (grownCap w S.length 0 e)).size + 1)) (show (w.heap.push _)[w.heap.size]? = _ by simp) ?_ hge hm
  simp [bytesRow,gY,bs,bv]
 ·intro p hp _
  obtain rfl:(⟨w.heap.size,0,none⟩:Addr)=p:=by simpa using hp
  exact Nat.le_refl _
def Chain (m:Nat) (p:Nat→Prop) (i:Nat):Prop:=∀ j,i≤j→j<m→p j
theorem cN {m:Nat} {p:Nat→Prop} {i:Nat} (h:m≤i:=by exact Nat.le_of_ble_eq_true rfl):Chain m p i:=fun _ h1 h2=>absurd h2 (by omega)
theorem cX {m:Nat} {p:Nat→Prop} {i:Nat} (h:p i) (t:Chain m p (i+1)):Chain m p i:=fun j h1 h2=>by
 by_cases e:j=i
 ·rw [e];exact h
 ·exact t j (by omega) h2
def mv (f:(Nat→bH)→List Value) (ρ:Nat→bH) (i:Nat):Value:=(f ρ).getD i undef
def me (f:(Nat→bH)→List (Nat × Eff)) (ρ:Nat→bH) (i:Nat):Eff:=((f ρ).lookup i).getD {}
def mf (f:(Nat→bH)→List (Nat × (World→Prop))) (ρ:Nat→bH) (i:Nat):World→Prop:=((f ρ).lookup i).getD (fun _=>True)
def vget:List Value→Nat→Value
 | [],_=>undef
 | v::_,0=>v
 | _::r,i+1=>vget r i
theorem vget_eq:∀ (l:List Value) (i:Nat),vget l i=l.getD i undef
 | [],_=>by simp [vget]
 | _::_,0=>by simp [vget]
 | _::r,i+1=>by simpa [vget] using vget_eq r i
def xget {α : Type} (d : α) : List (Nat × α) → Nat → α
 | [],_=>d
 | (k, v) :: r, i => match i == k with
   | true=>v
   | false=>xget d r i
theorem xget_eq {α:Type} (d:α):∀ (l:List (Nat × α)) (i:Nat),xget d l i=(l.lookup i).getD d
 | [],_=>rfl
 | (k, v) :: r, i => by
   unfold xget
   rw [List.lookup_cons]
   cases i==k
   ·exact xget_eq d r i
   ·rfl
def uK (f:(Nat→bH)→List Value) (g:(Nat→bH)→List (Nat × Eff)) (k:(Nat→bH)→List (Nat × (World→Prop))) (ρ:Nat→bH):Nat→List (Value × Eff × (World→Prop))
 | 0=>[]
 | i+1=>(mv f ρ i,me g ρ i,mf k ρ i)::uK f g k ρ i
def uD (D:List Nat) (f:(Nat→bH)→List Value) (g:(Nat→bH)→List (Nat × Eff)) (k:(Nat→bH)→List (Nat × (World→Prop))) (ρ:Nat→bH):Nat→List (Value × Eff × (World→Prop))
 | 0=>[]
 | i+1=>(vget (f (mask D i ρ)) i,xget {} (g (mask D i ρ)) i,xget (fun _=>True) (k (mask D i ρ)) i)::uD D f g k ρ i
theorem loc_get {D:List Nat} {f:(Nat→bH)→List Value} {g:(Nat→bH)→List (Nat × Eff)} {k:(Nat→bH)→List (Nat × (World→Prop))} {ρ:Nat→bH}:∀ {m:Nat},uK f g k ρ m=uD D f g k ρ m→∀ i,i<m→mv f ρ i=mv f (mask D i ρ) i∧me g ρ i=me g (mask D i ρ) i∧mf k ρ i=mf k (mask D i ρ) i
 | 0,_,i,hi=>by omega
 | m + 1, h, i, hi => by
   unfold uK uD at h
   obtain ⟨h1,h2⟩:=List.cons.inj h
   rcases (by omega:i=m∨i<m) with e | e
   ·subst e
    simp only [Prod.mk.injEq,vget_eq,xget_eq] at h1
    exact h1
   ·exact loc_get h2 i e
theorem wS {D:List Nat} {f:(Nat→bH)→List Value} {g:(Nat→bH)→List (Nat × Eff)} {k:(Nat→bH)→List (Nat × (World→Prop))} {m:Nat} (h:∀ ρ,uK f g k ρ m=uD D f g k ρ m) (i:Nat) (hi:i<m):Loc D (mv f) (me g) (mf k) i:=by
 intro ρ ρ' hh
 have e:=mask_congr hh
 obtain ⟨a1,a2,a3⟩:=loc_get (h ρ) i hi
 obtain ⟨b1,b2,b3⟩:=loc_get (h ρ') i hi
 rw [a1,a2,a3,b1,b2,b3,e]
 exact ⟨rfl,rfl,rfl⟩
def dsq (m:Nat):List Nat:=(List.range m).map fun i=>2^i-1
def oW {α:Type}:List Nat→List α→List α
 | [],l=>l
 | _,[]=>[]
 | 0::s,_::l=>oW s l
 | _::s,x::l=>x::oW s l
theorem jX {α:Type}:∀ (s:List Nat) (l:List α),List.Sublist (oW s l) l
 | [],l=>List.Sublist.refl l
 | _::_,[]=>by simp [oW]
 | 0::s,x::l=>(jX s l).cons x
 | (_+1)::s,x::l=>(jX s l).cons_cons x
section
variable {P : Program} {ops : Array Oper} {D : List Nat} {l : List (Nat × Value)} {w0 : Base} {h : List (Nat × Obj)} {F0 : World → Prop}
variable {vals : (Nat → bH) → Nat → Value} {effs : (Nat → bH) → Nat → Eff} {fact : (Nat → bH) → Nat → World → Prop}
def rcE (P : Program) (ops : Array Oper) (D : List Nat) (l : List (Nat × Value)) (h : List (Nat × Obj)) (V : Nat → Value) (E : Nat → Eff) (E' : Eff) (i : Nat) (ns z : List Nat) : Option (Value × List (Nat × Obj) × List (Nat × Nat) × Eff) :=
 if (ops[i]?).isSome&&dY ops D h E i ns&&yJ ns E' then
  if fM V (opAt ops i) then (kH P (execOp (dC ops D l V i) (opAt ops i)) [] (known ops D h E i ns) z).bind fun r=>(xY r.1).map fun v=>(v,r.2.1,r.2.2,E')
  else some (undef,known ops D h E i ns,[],{})
 else none
def rcL (r:Option (Value × List (Nat × Obj) × List (Nat × Nat) × Eff)):Option (Value × List (Nat × Obj) × List Nat × List Nat × Eff):=r.map fun r=>(r.1,r.2.1,r.2.2.1.map (·.1),r.2.2.1.map (·.2),r.2.2.2)
def rcR (r:Option (Value × List (Nat × Obj) × List (Nat × Nat) × Eff)) (v:Value) (K:List (Nat × Obj)) (E':Eff):Option (Value × List (Nat × Obj) × List Nat × List Nat × Eff):=some (v,K,((r.map (·.2.2.1)).getD []).map (·.1),((r.map (·.2.2.1)).getD []).map (·.1),E')
theorem eqs_of:∀ {es:List (Nat × Nat)},es.map (·.2)=es.map (·.1)→Eqs es
 | [],_=>trivial
 | e :: es, h => by
   simp only [List.map_cons,List.cons.injEq] at h
   exact ⟨h.1.symm,eqs_of h.2⟩
theorem run_obl {i : Nat} (ns : List Nat)
 (hc:∀ ρ z,rcL (rcE P ops D l h (vals ρ) (effs ρ) (effs (upd ρ i { n:=z}) i) i ns z)=rcR (rcE P ops D l h (vals ρ) (effs ρ) (effs (upd ρ i { n:=z}) i) i ns z) (vals (upd ρ i { n:=z}) i) (uM ns (known ops D h (effs ρ) i ns) (effs (upd ρ i { n:=z}) i)) (effs (upd ρ i { n:=z}) i))
 (hf:∀ ρ w,fact ρ i w):jV P ops D l w0 h F0 vals effs fact i:=by
 intro o ho ρ T w hG
 have key : ∀ z, ((ops[i]?).isSome = true ∧ dY ops D h (effs ρ) i ns = true ∧ yJ ns (effs (upd ρ i { n := z }) i) = true) ∧
  ((fM (vals ρ) (opAt ops i)=true∧∃ x es,xY x=some (vals (upd ρ i { n:=z}) i)∧Eqs es∧kH P (execOp (dC ops D l (vals ρ) i) (opAt ops i)) [] (known ops D h (effs ρ) i ns) z=some (x,uM ns (known ops D h (effs ρ) i ns) (effs (upd ρ i { n:=z}) i),es)) ∨
   (fM (vals ρ) (opAt ops i)=false∧vals (upd ρ i { n:=z}) i=undef∧effs (upd ρ i { n:=z}) i={})):=by
  intro z
  have h1:=hc ρ z
  unfold rcL rcR at h1
  rw [Option.map_eq_some_iff] at h1
  obtain ⟨⟨v,K,es,E'⟩,h2,h3⟩:=h1
  rw [h2] at h3
  simp only [Option.map_some,Option.getD_some,Prod.mk.injEq] at h3
  obtain ⟨hv,hK,_,hes,hE⟩:=h3
  unfold rcE at h2
  split at h2
  ·rename_i hb
   simp only [Bool.and_eq_true] at hb
   refine ⟨⟨hb.1.1,hb.1.2,hb.2⟩,?_⟩
   split at h2
   ·rename_i hw
    left
    refine ⟨hw,?_⟩
    rw [Option.bind_eq_some_iff] at h2
    obtain ⟨⟨x,K1,es1⟩,g1,g2⟩:=h2
    rw [Option.map_eq_some_iff] at g2
    obtain ⟨v1,g2,g3⟩:=g2
    simp only [Prod.mk.injEq] at g3
    obtain ⟨rfl,rfl,rfl,_⟩:=g3
    rw [hv] at g2
    rw [hK] at g1
    exact ⟨x,es1,g2,eqs_of hes,g1⟩
   ·rename_i hw
    right
    simp only [Option.some.injEq,Prod.mk.injEq] at h2
    refine ⟨by simpa using hw,?_,?_⟩
    ·rw [← hv];exact h2.1.symm
    ·rw [← hE];exact h2.2.2.2.symm
  ·exact absurd h2 (by simp)
 have hoe:=eY (key []).1.1
 rw [ho] at hoe
 obtain rfl:o=opAt ops i:=by simpa using hoe
 rcases (key []).2 with hk | hk
 ·have hw := hk.1
  have kz:∀ z,∃ x es,xY x=some (vals (upd ρ i { n:=z}) i)∧Eqs es∧kH P (execOp (dC ops D l (vals ρ) i) (opAt ops i)) [] (known ops D h (effs ρ) i ns) z=some (x,uM ns (known ops D h (effs ρ) i ns) (effs (upd ρ i { n:=z}) i),es):=by
   intro z
   rcases (key z).2 with k | k
   ·exact k.2
   ·rw [hw] at k;exact absurd k.1 (by simp)
  exact obl_run_at ho ns [] ρ (fun z=>(kz z).choose_spec.choose) (fun z=>(kz z).choose) hw (key []).1.2.1 (fun z=>(kz z).choose_spec.choose_spec.2.2) (fun z=>(kz z).choose_spec.choose_spec.1) (fun z=>(key z).1.2.2) (fun z=>(kz z).choose_spec.choose_spec.2.1) (fun z w=>hf _ w) T w hG
 ·obtain ⟨hw, hv, he⟩ := hk
  rw [if_neg (by rw [hw];simp)]
  refine ⟨{ n:=[]},hv.symm,?_,?_,?_,?_,dB (hf _)⟩
  ·exact nN.refl _ _
  ·rw [he];intro n q hm;simp at hm
  ·rw [he];intro k b q hk;simp at hk
  ·rw [he];simp
def chkL (P:Program) (ops:Array Oper) (D:List Nat) (l:List (Nat × Value)) (h:List (Nat × Obj)) (vals:(Nat→bH)→Nat→Value) (effs:(Nat→bH)→Nat→Eff) (ρ:Nat→bH) (z:List Nat):Nat→List (List Nat)→List (Option (Value × List (Nat × Obj) × List Nat × List Nat × Eff))
 | _,[]=>[]
 | i,ns::r=>rcL (rcE P ops D l h (vals ρ) (effs ρ) (effs (upd ρ i { n:=z}) i) i ns z)::chkL P ops D l h vals effs ρ z (i+1) r
def chkR (P:Program) (ops:Array Oper) (D:List Nat) (l:List (Nat × Value)) (h:List (Nat × Obj)) (vals:(Nat→bH)→Nat→Value) (effs:(Nat→bH)→Nat→Eff) (ρ:Nat→bH) (z:List Nat):Nat→List (List Nat)→List (Option (Value × List (Nat × Obj) × List Nat × List Nat × Eff))
 | _,[]=>[]
 | i,ns::r=>rcR (rcE P ops D l h (vals ρ) (effs ρ) (effs (upd ρ i { n:=z}) i) i ns z) (vals (upd ρ i { n:=z}) i) (uM ns (known ops D h (effs ρ) i ns) (effs (upd ρ i { n:=z}) i)) (effs (upd ρ i { n:=z}) i)::chkR P ops D l h vals effs ρ z (i+1) r
def factL (fact:(Nat→bH)→Nat→World→Prop) (ρ:Nat→bH):Nat→Nat→List (World→Prop)
 | _,0=>[]
 | i,k+1=>fact ρ i::factL fact ρ (i+1) k
def trueL:Nat→List (World→Prop)
 | 0=>[]
 | k+1=>(fun _=>True)::trueL k
theorem cR {m i:Nat} (nss:List (List Nat)) (t:Chain m (jV P ops D l w0 h F0 vals effs fact) (i+nss.length))
 (hc:∀ ρ z,chkL P ops D l h vals effs ρ z i nss=chkR P ops D l h vals effs ρ z i nss:=by intros;kernel_rfl)
 (hf:∀ ρ,factL fact ρ i nss.length=trueL nss.length:=by intros;kernel_rfl):Chain m (jV P ops D l w0 h F0 vals effs fact) i:=by
 induction nss generalizing i with
 | nil=>exact t
 | cons ns r ih =>
   have hc1:∀ ρ z,_:=fun ρ z=>List.cons.inj (hc ρ z)
   have hf1:∀ ρ,_:=fun ρ=>List.cons.inj (hf ρ)
   refine cX (run_obl ns (fun ρ z=>(hc1 ρ z).1) (fun ρ w=>by rw [(hf1 ρ).1];trivial)) (ih ?_ (fun ρ z=>(hc1 ρ z).2) (fun ρ=>(hf1 ρ).2))
   rw [List.length_cons] at t
   rw [show i+1+r.length=i+(r.length+1) by omega]
   exact t
theorem cY {m i:Nat} (hO:jV P ops D l w0 h F0 vals effs (fun _ _ _=>True) i) (t:Chain m (jV P ops D l w0 h F0 vals effs fact) (i+1)) (hF:∀ ρ,fact ρ i=fun _=>True:=by intros;kernel_rfl):Chain m (jV P ops D l w0 h F0 vals effs fact) i :=
 cX (hO.brings (fun ρ w=>by rw [hF ρ];trivial)) t
theorem cC {m i:Nat} {f:FuncId} {args:(Nat→bH)→Array Value} {v:(Nat→bH)→Value} (hf:∀ ρ w,Calls P f (args ρ) w (fun e w'=>e=.returned (v ρ)∧Below w.heap.size w w')) (t:Chain m (jV P ops D l w0 h F0 vals effs fact) (i+1))
 (hc:∀ ρ z,pM P ops D l (vals ρ) (vals (upd ρ i {}) i) (effs (upd ρ i {}) i) i z=some (.enter f (args ρ),[],[],v ρ,{}):=by intros;kernel_rfl) (hF:∀ ρ,fact ρ i=fun _=>True:=by intros;kernel_rfl):Chain m (jV P ops D l w0 h F0 vals effs fact) i:=cY (o_call i f args v hc hf) t hF
theorem cA {m i:Nat} {v:(Nat→bH)→Value} (v':(Nat→bH)→Value) (he:∀ ρ,v ρ=v' ρ) (t:Chain m (jV P ops D l w0 h F0 vals effs fact) (i+1))
 (hc:∀ ρ z,pM P ops D l (vals ρ) (vals (upd ρ i {}) i) (effs (upd ρ i {}) i) i z=some (.value (v ρ),[],[],v' ρ,{}):=by intros;kernel_rfl) (hF:∀ ρ,fact ρ i=fun _=>True:=by intros;kernel_rfl):Chain m (jV P ops D l w0 h F0 vals effs fact) i:=cY (o_as i v v' hc he) t hF
theorem cB {m i:Nat} {a b v:(Nat→bH)→Value} (op:BinOp) (ty:TypeId)
 (hf:∀ ρ w,(binOp op ty (a ρ) (b ρ)).run P w=.ok (v ρ) w) (t:Chain m (jV P ops D l w0 h F0 vals effs fact) (i+1))
 (hc:∀ ρ,binChk ops D l (vals ρ) (vals (upd ρ i {}) i) (effs (upd ρ i {}) i) i=some (op,ty,a ρ,b ρ,v ρ,{}):=by intros;kernel_rfl)
 (hg:∀ ρ x y w,(eqGuard op ty x y (a ρ) (b ρ)).run P w=.ok () w:=by intros;kernel_rfl) (hF:∀ ρ,fact ρ i=fun _=>True:=by intros;kernel_rfl):Chain m (jV P ops D l w0 h F0 vals effs fact) i:=cY (o_bin i op ty a b v hc hg hf) t hF
end
section
variable {P : Program} {ops : Array Oper} {D : List Nat} {l : List (Nat × Value)} {w0 : Base} {h : List (Nat × Obj)} {F0 : World → Prop}
variable {vals : (Nat → bH) → Nat → Value} {effs : (Nat → bH) → Nat → Eff} {fact : (Nat → bH) → Nat → World → Prop}
theorem Given.persK {i:Nat} {ρ:Nat→bH} {T:Nat→Prop} {w:World} (hG:Given ops D w0 h F0 effs fact i ρ T w) (ns:List Nat) {K:List (Nat × Obj)} (hn:dY ops D h (effs ρ) i ns=true) (hk:YtahoheofpggopaaGreatDoor.known ops D h (effs ρ) i ns=K) {G:World→Prop} (hFG:∀ w,F0 w→G w):dL (fun b=>b∈K.map (·.1)) G w:=by
 refine (hG.facts0.mono hFG).sub (fun b hb=>?_)
 rw [← hk] at hb
 unfold YtahoheofpggopaaGreatDoor.known at hb
 obtain ⟨y,hy,rfl⟩:=List.mem_map.1 hb
 obtain ⟨n,hm,rfl⟩:=List.mem_map.1 hy
 unfold dY at hn
 rw [Bool.and_eq_true,List.all_eq_true] at hn
 have hn1:=hn.1 n hm
 rw [Bool.and_eq_true] at hn1
 obtain ⟨q,hq⟩:=Option.isSome_iff_exists.1 hn1.1
 rw [hq]
 exact (hG.block n q hq hn1.2).2.1
theorem St.knows {w:World} {F:World→Prop} (hS:St w0 h F w) (ks:List Nat) {K:List (Nat × Obj)} (hK:oW ks h=K:=by kernel_rfl):Knows K w:=by
 intro x hx
 rw [← hK] at hx
 exact (hS.at_ x ((jX ks h).subset hx)).2
theorem o_callGWT (i:Nat) (ns:List Nat) (f:FuncId) (args:(Nat→bH)→Array Value) (K:(Nat→bH)→List (Nat × Obj)) (K':(Nat→bH)→bH→List (Nat × Obj))
 (hc:∀ ρ z,eU P ops D l (vals ρ) i z=some (.enter f (args ρ),[],[]))
 (he:∀ ρ r,effs (upd ρ i r) i={ puts:=ns.zip (K' ρ r)})
 (hn:∀ ρ,dY ops D h (effs ρ) i ns=true) (hk:∀ ρ,known ops D h (effs ρ) i ns=K ρ) (hl:∀ ρ r,(K' ρ r).map (·.1)=(K ρ).map (·.1))
 (hf:∀ ρ T w,Given ops D w0 h F0 effs fact i ρ T w→Knows (K ρ) w→Calls P f (args ρ) w (fun e w'=>nN (fun b=>b∈(K ρ).map (·.1)) w w'∧∃ r,e=.returned (vals (upd ρ i r) i)∧Knows (K' ρ r) w'∧dL T (fact (upd ρ i r) i) w')):jV P ops D l w0 h F0 vals effs fact i:=by
 have key:∀ ρ z,((ops[i]?).isSome=true∧fM (vals ρ) (opAt ops i)=true)∧kH P (execOp (dC ops D l (vals ρ) i) (opAt ops i)) [] [] z=some (.enter f (args ρ),[],[]):=by
  intro ρ z
  have h1:=hc ρ z
  unfold eU at h1
  split at h1
  ·rename_i hb
   simp only [Bool.and_eq_true] at hb
   exact ⟨hb,h1⟩
  ·exact absurd h1 (by simp)
 intro o ho ρ T w hG
 have hoe:=eY (key ρ []).1.1
 rw [ho] at hoe
 obtain rfl:o=opAt ops i:=by simpa using hoe
 rw [if_pos (key ρ []).1.2]
 obtain ⟨w1,h1,_,_,h4,_,_⟩:=kF (P:=P) (execOp (dC ops D l (vals ρ) i) (opAt ops i)) [] [] w _ _ _ (by intro y hy;simp at hy) (by simp) ((key ρ _).2) trivial
 have hb:Below w.heap.size w w1:=⟨h4.os,h4.tape,h4.output,h4.size,fun k hk=>h4.block k hk (by simp)⟩
 have hheap:∀ b,b<w.heap.size→w1.heap[b]? = w.heap[b]? := fun b hb'=>hb.block b hb'
 have hG1:Given ops D w0 h F0 effs fact i ρ T w1:=by
  have tr:∀ {F:World→Prop},dL T F w→dL T F w1:=by
   rintro F ⟨S,s1,s2⟩
   refine ⟨S,fun b hb'=>⟨Nat.lt_of_lt_of_le (s1 b hb').1 hb.size,(s1 b hb').2⟩,fun w' hw=>s2 w' (fun b hb'=>?_)⟩
   rw [hw b hb',hheap b (s1 b hb').1]
  refine ⟨fun b hb'=>Nat.lt_of_lt_of_le (hG.lt b hb') hb.size,hG.below.trans (nN.of_below hb),fun n x hn hk=>?_,hG.ne,tr hG.facts0,fun j hj=>tr (hG.facts j hj)⟩
  have:=hG.block n x hn hk
  refine ⟨?_,this.2⟩
  rw [hheap _ (hG.lt _ this.2.1)]
  exact this.1
 have hno:=hn ρ
 unfold dY at hno
 rw [Bool.and_eq_true,List.all_eq_true,decide_eq_true_eq] at hno
 obtain ⟨hno,hnd⟩:=hno
 have hbn:∀ n∈ns,∃ x,blk h (effs ρ) n=some x∧okN ops D h (effs ρ) i n=true:=by
  intro n hm
  have:=hno n hm
  rw [Bool.and_eq_true] at this
  obtain ⟨x,hb⟩:=Option.isSome_iff_exists.1 this.1
  exact ⟨x,hb,this.2⟩
 have hKk:∀ (j n:Nat),ns[j]? = some n→∃ x,blk h (effs ρ) n=some x∧okN ops D h (effs ρ) i n=true∧(K ρ)[j]? = some (cur (effs ρ) ops.size (mV D i) n x):=by
  intro j n hj
  obtain ⟨x,hx,hok⟩:=hbn n (List.mem_of_getElem? hj)
  refine ⟨x,hx,hok,?_⟩
  rw [← hk ρ]
  unfold known
  rw [List.getElem?_map,hj]
  simp only [Option.map_some,hx]
 have hKn:Knows (K ρ) w1:=by
  intro y hy
  rw [← hk ρ] at hy
  unfold known at hy
  obtain ⟨n,hm,rfl⟩:=List.mem_map.1 hy
  obtain ⟨x,hx,hok⟩:=hbn n hm
  rw [hx]
  exact (hG1.block n x hx hok).1
 unfold opv
 rw [h1]
 refine (hf ρ T w1 hG1 hKn).mono (fun e w2 hew=>?_)
 obtain ⟨hU,r,rfl,hK',hp⟩:=hew
 show After ops D h vals effs fact i ρ T w _ w2
 have hlen:(K' ρ r).length=ns.length:=by
  have q1:=congrArg List.length (hl ρ r)
  have q2:=congrArg List.length (hk ρ)
  unfold known at q2
  simp only [List.length_map] at q1 q2
  omega
 have hzip:∀ (j n:Nat) (y:Nat × Obj),ns[j]? = some n→(K' ρ r)[j]? = some y→(ns.zip (K' ρ r)).lookup n=some y:=by
  intro j n y hj hy
  have hm:(n,y)∈ns.zip (K' ρ r):=List.mem_iff_getElem?.2 ⟨j,by rw [List.getElem?_zip_eq_some];exact ⟨hj,hy⟩⟩
  cases hq:(ns.zip (K' ρ r)).lookup n with
  | none=>exact absurd hm (qA hq y)
  | some y2 =>
    obtain ⟨j2,hj2⟩:=List.mem_iff_getElem?.1 (fV hq)
    rw [List.getElem?_zip_eq_some] at hj2
    have e:j2=j:=by
     obtain ⟨l1,g1⟩:=List.getElem?_eq_some_iff.1 hj
     obtain ⟨l2,g2⟩:=List.getElem?_eq_some_iff.1 hj2.1
     have hpw:=List.pairwise_iff_getElem.1 hnd
     rcases Nat.lt_trichotomy j2 j with hlt | hlt | hlt
     ·exact absurd (g2.trans g1.symm) (hpw _ _ l2 l1 hlt)
     ·exact hlt
     ·exact absurd (g1.trans g2.symm) (hpw _ _ l1 l2 hlt)
    rw [e,hy] at hj2
    exact hj2.2.symm
 refine ⟨r,rfl,?_,?_,?_,?_,?_⟩
 ·refine ⟨hU.os.trans hb.os, hU.tape.trans hb.tape, hU.output.trans hb.output, Nat.le_trans hb.size hU.size, fun k hk' hX => (hU.block k (Nat.lt_of_lt_of_le hk' hb.size) ?_).trans (hheap k hk')⟩
  intro hm
  obtain ⟨y,hy,rfl⟩:=List.mem_map.1 hm
  obtain ⟨j,hj⟩:=List.mem_iff_getElem?.1 hy
  have hjl:j<ns.length:=by
   have q2:=congrArg List.length (hk ρ)
   unfold known at q2
   simp only [List.length_map] at q2
   rw [q2];exact (List.getElem?_eq_some_iff.1 hj).1
  obtain ⟨x,hx,_,hKj⟩:=hKk j ns[j] (List.getElem?_eq_getElem hjl)
  obtain rfl:y=cur (effs ρ) ops.size (mV D i) ns[j] x:=Option.some.inj (hj.symm.trans hKj)
  refine hX ⟨ns[j],(K' ρ r)[j]'(by omega),x,?_,hx,rfl⟩
  rw [he]
  exact List.mem_iff_getElem?.2 ⟨j,by rw [List.getElem?_zip_eq_some];exact ⟨List.getElem?_eq_getElem hjl,List.getElem?_eq_getElem (by omega)⟩⟩
 ·rw [he]
  intro n y hm
  obtain ⟨j,hj⟩:=List.mem_iff_getElem?.1 hm
  rw [List.getElem?_zip_eq_some] at hj
  obtain ⟨x,hx,hok,hKj⟩:=hKk j n hj.1
  refine ⟨hok,x,hx,?_,?_⟩
  ·rw [hzip j n y hj.1 hj.2]
   exact hK' y (List.mem_of_getElem? hj.2)
  ·left
   rw [hzip j n y hj.1 hj.2]
   have q:=congrArg (fun l:List Nat=>l[j]?) (hl ρ r)
   simp only [List.getElem?_map,hj.2,hKj,Option.map_some,Option.some.injEq] at q
   exact q
 ·rw [he];intro k b q hk;simp at hk
 ·rw [he];simp
 ·refine hp.sub (fun b hbT => ?_)
  rw [he] at hbT
  rcases hbT with hbT | hbT | hbT
  ·exact hbT
  ·simp at hbT
  ·obtain ⟨⟨n, y⟩, hm, rfl⟩ := List.mem_map.1 hbT
   obtain ⟨j,hj⟩:=List.mem_iff_getElem?.1 hm
   rw [List.getElem?_zip_eq_some] at hj
   obtain ⟨x,hx,hok,hKj⟩:=hKk j n hj.1
   have q:=congrArg (fun l:List Nat=>l[j]?) (hl ρ r)
   simp only [List.getElem?_map,hj.2,hKj,Option.map_some,Option.some.injEq] at q
   simp only [q]
   exact (hG1.block n x hx hok).2.1
theorem y7 (i:Nat) (ns:List Nat) (f:FuncId) (args:(Nat→bH)→Array Value) (K:(Nat→bH)→List (Nat × Obj)) (K':(Nat→bH)→bH→List (Nat × Obj))
 (hc:∀ ρ z,eU P ops D l (vals ρ) i z=some (.enter f (args ρ),[],[]))
 (he:∀ ρ r,effs (upd ρ i r) i={ puts:=ns.zip (K' ρ r)})
 (hn:∀ ρ,dY ops D h (effs ρ) i ns=true) (hk:∀ ρ,known ops D h (effs ρ) i ns=K ρ) (hl:∀ ρ r,(K' ρ r).map (·.1)=(K ρ).map (·.1))
 (hf:∀ ρ T w,Given ops D w0 h F0 effs fact i ρ T w→Knows (K ρ) w→Calls P f (args ρ) w (fun e w'=>nN (fun b=>b∈(K ρ).map (·.1)) w w'∧∃ r,e=.returned (vals (upd ρ i r) i)∧Knows (K' ρ r) w'∧dL (fun b=>b<w.heap.size) (fact (upd ρ i r) i) w')):jV P ops D l w0 h F0 vals effs fact i :=
 o_callGWT i ns f args K K' hc he hn hk hl (fun ρ T w hG hK=>(hf ρ T w hG hK).mono (fun _ _ ⟨h1,r,h2,h3,h4⟩=>⟨h1,r,h2,h3,h4.sub hG.lt⟩))
end
section
variable {P : Program} {Q : Exit → Act → World → Prop} {n : Nat} {l : List (Nat × Value)} {w0 : Base} {h : List (Nat × Obj)} {F : World → Prop}
theorem seqOk_dsq (m:Nat):DSeq m (dsq m)=true:=by
 unfold DSeq dsq
 rw [List.all_eq_true]
 intro i hi
 have hi':=List.mem_range.1 hi
 simp [hi']
def sqOk (ops:Array Oper) (m n:Nat) (l:List (Nat × Value)) (keep:List Nat):Bool:=ops.size==m&&vY ops n&&wW ops (dsq m) l&&keepOk ops l keep
def drOk (ops:Array Oper) (D:List Nat) (m n:Nat) (l:List (Nat × Value)) (keep:List Nat):Bool:=ops.size==m&&drawOk ops D n l keep
theorem reg_sq {id m:Nat} {ops:Array Oper} {keep hb:List Nat} {vals:(Nat→bH)→List Value} {effs:(Nat→bH)→List (Nat × Eff)} (hloc:∀ ρ,uK vals effs (fun _=>[]) ρ m=uD (dsq m) vals effs (fun _=>[]) ρ m) (hchk:sqOk ops m n l keep=true)
 (c:Chain m (jV P ops (dsq m) l w0 h F (mv vals) (me effs) (fun _ _ _=>True)) 0) :
 Reg P id ops false n l w0 h F (fun ρ=>tV ops l (mv vals ρ) keep) (fun ρ=>oW hb (rJ m h (me effs ρ))):=by
 unfold sqOk at hchk
 simp only [Bool.and_eq_true,beq_iff_eq] at hchk
 obtain ⟨⟨⟨hsz,c3⟩,c4⟩,c5⟩:=hchk
 subst hsz
 intro Q A w hfr hS hend
 refine rY (seqOk_dsq _) (by rw [hfr.size];exact c3) c4 (vals:=mv vals) (effs:=me effs) (fact:=fun _ _ _=>True) ?_ ?_ keep c5 (by rw [hfr.size];exact hfr) hS ?_
 ·intro j hj ρ ρ' hh
  exact ⟨(wS hloc j hj ρ ρ' hh).1,(wS hloc j hj ρ ρ' hh).2.1,rfl⟩
 ·intro i hi
  exact c i (Nat.zero_le _) hi
 ·intro ρ A' w' hA hS'
  rw [hfr.size] at hA
  exact hend ρ A' w' hA ((hS'.weaken (fun _ h=>h.1)).sub (jX _ _))
theorem reg_dr {id m:Nat} {ops:Array Oper} {D keep hb:List Nat} {vals:(Nat→bH)→List Value} {effs:(Nat→bH)→List (Nat × Eff)} (hloc:∀ ρ,uK vals effs (fun _=>[]) ρ m=uD D vals effs (fun _=>[]) ρ m) (hm:P.follows .mixedOrders=true) (hchk:drOk ops D m n l keep=true)
 (c:Chain m (jV P ops D l w0 h F (mv vals) (me effs) (fun _ _ _=>True)) 0) :
 Reg P id ops true n l w0 h F (fun ρ=>tV ops l (mv vals ρ) keep) (fun ρ=>oW hb (rJ m h (me effs ρ))):=by
 unfold drOk drawOk at hchk
 simp only [Bool.and_eq_true,beq_iff_eq] at hchk
 obtain ⟨hsz,⟨⟨⟨c1,c2⟩,c3⟩,c4⟩,c5⟩:=hchk
 subst hsz
 intro Q A w hfr hS hend
 refine uS hm c1 c2 (by rw [hfr.size];exact c3) c4 (vals:=mv vals) (effs:=me effs) (fact:=fun _ _ _=>True) ?_ ?_ keep c5 (by rw [hfr.size];exact hfr) hS ?_
 ·intro j hj ρ ρ' hh
  exact ⟨(wS hloc j hj ρ ρ' hh).1,(wS hloc j hj ρ ρ' hh).2.1,rfl⟩
 ·intro i hi
  exact c i (Nat.zero_le _) hi
 ·intro ρ A' w' hA hS'
  rw [hfr.size] at hA
  exact hend ρ A' w' hA ((hS'.weaken (fun _ h=>h.1)).sub (jX _ _))
theorem reg_sqF {id m:Nat} {ops:Array Oper} {keep hb:List Nat} {vals:(Nat→bH)→List Value} {effs:(Nat→bH)→List (Nat × Eff)} {fact:(Nat→bH)→List (Nat × (World→Prop))} {F':(Nat→bH)→World→Prop} (hloc:∀ ρ,uK vals effs fact ρ m=uD (dsq m) vals effs fact ρ m) (hchk:sqOk ops m n l keep=true)
 (hF:∀ ρ w,F w→(∀ i,mf fact ρ i w)→F' ρ w)
 (c:Chain m (jV P ops (dsq m) l w0 h F (mv vals) (me effs) (mf fact)) 0) (hfm:∀ ρ,(fact ρ).all (fun x=>decide (x.1<m))=true) :
 RegF P id ops false n l w0 h F (fun ρ=>tV ops l (mv vals ρ) keep) (fun ρ=>oW hb (rJ m h (me effs ρ))) F':=by
 have hnone:∀ ρ i,m≤i→mf fact ρ i=fun _=>True:=by
  intro ρ i hi
  unfold mf
  have:(fact ρ).lookup i=none:=by
   have:=hfm ρ
   rw [List.all_eq_true] at this
   rw [List.lookup_eq_none_iff]
   intro p hp
   have h1:=this p hp
   simp at h1
   simp;omega
  rw [this];rfl
 unfold sqOk at hchk
 simp only [Bool.and_eq_true,beq_iff_eq] at hchk
 obtain ⟨⟨⟨hsz,c3⟩,c4⟩,c5⟩:=hchk
 subst hsz
 intro Q A w hfr hS hend
 refine rY (seqOk_dsq _) (by rw [hfr.size];exact c3) c4 (vals:=mv vals) (effs:=me effs) (fact:=mf fact) ?_ ?_ keep c5 (by rw [hfr.size];exact hfr) hS ?_
 ·intro j hj
  exact wS hloc j hj
 ·intro i hi
  exact c i (Nat.zero_le _) hi
 ·intro ρ A' w' hA hS'
  rw [hfr.size] at hA
  refine hend ρ A' w' hA ((hS'.weaken (fun w h=>hF ρ w h.1 (fun i=>?_))).sub (jX _ _))
  by_cases hi:i<ops.size
  ·exact h.2 i hi
  ·rw [hnone ρ i (by omega)];trivial
theorem reg_drF {id m:Nat} {ops:Array Oper} {D keep hb:List Nat} {vals:(Nat→bH)→List Value} {effs:(Nat→bH)→List (Nat × Eff)} {fact:(Nat→bH)→List (Nat × (World→Prop))} {F':(Nat→bH)→World→Prop} (hloc:∀ ρ,uK vals effs fact ρ m=uD D vals effs fact ρ m) (hm:P.follows .mixedOrders=true) (hchk:drOk ops D m n l keep=true)
 (hF:∀ ρ w,F w→(∀ i,mf fact ρ i w)→F' ρ w)
 (c:Chain m (jV P ops D l w0 h F (mv vals) (me effs) (mf fact)) 0) (hfm:∀ ρ,(fact ρ).all (fun x=>decide (x.1<m))=true) :
 RegF P id ops true n l w0 h F (fun ρ=>tV ops l (mv vals ρ) keep) (fun ρ=>oW hb (rJ m h (me effs ρ))) F':=by
 have hnone:∀ ρ i,m≤i→mf fact ρ i=fun _=>True:=by
  intro ρ i hi
  unfold mf
  have:(fact ρ).lookup i=none:=by
   have:=hfm ρ
   rw [List.all_eq_true] at this
   rw [List.lookup_eq_none_iff]
   intro p hp
   have h1:=this p hp
   simp at h1
   simp;omega
  rw [this];rfl
 unfold drOk drawOk at hchk
 simp only [Bool.and_eq_true,beq_iff_eq] at hchk
 obtain ⟨hsz,⟨⟨⟨c1,c2⟩,c3⟩,c4⟩,c5⟩:=hchk
 subst hsz
 intro Q A w hfr hS hend
 refine uS hm c1 c2 (by rw [hfr.size];exact c3) c4 (vals:=mv vals) (effs:=me effs) (fact:=mf fact) ?_ ?_ keep c5 (by rw [hfr.size];exact hfr) hS ?_
 ·intro j hj
  exact wS hloc j hj
 ·intro i hi
  exact c i (Nat.zero_le _) hi
 ·intro ρ A' w' hA hS'
  rw [hfr.size] at hA
  refine hend ρ A' w' hA ((hS'.weaken (fun w h=>hF ρ w h.1 (fun i=>?_))).sub (jX _ _))
  by_cases hi:i<ops.size
  ·exact h.2 i hi
  ·rw [hnone ρ i (by omega)];trivial
theorem sS {id:Nat} {ops:Array Oper} {y:Code} (fn:Func) (m:Nat) (keep hb:List Nat) (vals:(Nat→bH)→List Value) (effs:(Nat→bH)→List (Nat × Eff))
 (c:Chain m (jV P (dP fn id) (dsq m) l w0 h F (mv vals) (me effs) (fun _ _ _=>True)) 0)
 (k:∀ ρ,Ok P y Q n (tV (dP fn id) l (mv vals ρ) keep) w0 (oW hb (rJ m h (me effs ρ))) F)
 (hloc:∀ ρ,uK vals effs (fun _=>[]) ρ m=uD (dsq m) vals effs (fun _=>[]) ρ m:=by intros;kernel_rfl) (e:ops=dP fn id:=by kernel_rfl) (hchk:sqOk (dP fn id) m n l keep=true:=by kernel_rfl):Ok P (.seq (.region id ops false) y) Q n l w0 h F:=ok_seq_r e (reg_sq hloc hchk c) k
theorem rS {id:Nat} {ops:Array Oper} (fn:Func) (m:Nat) (keep hb:List Nat) (vals:(Nat→bH)→List Value) (effs:(Nat→bH)→List (Nat × Eff))
 (c:Chain m (jV P (dP fn id) (dsq m) l w0 h F (mv vals) (me effs) (fun _ _ _=>True)) 0)
 (k:∀ ρ,gJ (Q .normal) n (tV (dP fn id) l (mv vals ρ) keep) w0 (oW hb (rJ m h (me effs ρ))) F)
 (hloc:∀ ρ,uK vals effs (fun _=>[]) ρ m=uD (dsq m) vals effs (fun _=>[]) ρ m:=by intros;kernel_rfl) (e:ops=dP fn id:=by kernel_rfl) (hchk:sqOk (dP fn id) m n l keep=true:=by kernel_rfl):Ok P (.region id ops false) Q n l w0 h F:=ok_r e (reg_sq hloc hchk c) k
theorem sD {id:Nat} {ops:Array Oper} {y:Code} (fn:Func) (D:List Nat) (m:Nat) (keep hb:List Nat) (vals:(Nat→bH)→List Value) (effs:(Nat→bH)→List (Nat × Eff))
 (c:Chain m (jV P (dP fn id) D l w0 h F (mv vals) (me effs) (fun _ _ _=>True)) 0)
 (k:∀ ρ,Ok P y Q n (tV (dP fn id) l (mv vals ρ) keep) w0 (oW hb (rJ m h (me effs ρ))) F)
 (hloc:∀ ρ,uK vals effs (fun _=>[]) ρ m=uD D vals effs (fun _=>[]) ρ m:=by intros;kernel_rfl) (e:ops=dP fn id:=by kernel_rfl) (hchk:drOk (dP fn id) D m n l keep=true:=by kernel_rfl) (hm:P.follows .mixedOrders=true:=by kernel_rfl):Ok P (.seq (.region id ops true) y) Q n l w0 h F:=ok_seq_r e (reg_dr hloc hm hchk c) k
theorem rD {id:Nat} {ops:Array Oper} (fn:Func) (D:List Nat) (m:Nat) (keep hb:List Nat) (vals:(Nat→bH)→List Value) (effs:(Nat→bH)→List (Nat × Eff))
 (c:Chain m (jV P (dP fn id) D l w0 h F (mv vals) (me effs) (fun _ _ _=>True)) 0)
 (k:∀ ρ,gJ (Q .normal) n (tV (dP fn id) l (mv vals ρ) keep) w0 (oW hb (rJ m h (me effs ρ))) F)
 (hloc:∀ ρ,uK vals effs (fun _=>[]) ρ m=uD D vals effs (fun _=>[]) ρ m:=by intros;kernel_rfl) (e:ops=dP fn id:=by kernel_rfl) (hchk:drOk (dP fn id) D m n l keep=true:=by kernel_rfl) (hm:P.follows .mixedOrders=true:=by kernel_rfl):Ok P (.region id ops true) Q n l w0 h F:=ok_r e (reg_dr hloc hm hchk c) k
theorem iZ {id:Nat} {ops:Array Oper} {y:Code} (fn:Func) (m:Nat) (keep hb:List Nat) (vals:(Nat→bH)→List Value) (effs:(Nat→bH)→List (Nat × Eff)) (fact:(Nat→bH)→List (Nat × (World→Prop))) (F':(Nat→bH)→World→Prop) (p:(Nat→bH)→Prop) (hF:∀ ρ w,F w→(∀ i,mf fact ρ i w)→F' ρ w∧p ρ)
 (c:Chain m (jV P (dP fn id) (dsq m) l w0 h F (mv vals) (me effs) (mf fact)) 0)
 (k:∀ ρ,p ρ→Ok P y Q n (tV (dP fn id) l (mv vals ρ) keep) w0 (oW hb (rJ m h (me effs ρ))) (F' ρ))
 (hloc:∀ ρ,uK vals effs fact ρ m=uD (dsq m) vals effs fact ρ m:=by intros;kernel_rfl) (e:ops=dP fn id:=by kernel_rfl) (hchk:sqOk (dP fn id) m n l keep=true:=by kernel_rfl) (hfm:∀ ρ,(fact ρ).all (fun x=>decide (x.1<m))=true:=by intros;kernel_rfl):Ok P (.seq (.region id ops false) y) Q n l w0 h F :=
 ok_seq_rf e (reg_sqF hloc hchk (F':=fun ρ w=>F' ρ w∧p ρ) hF c hfm) (fun ρ=>ok_pure (p ρ) (fun _ h=>h.2) (fun hp=>ok_facts (F' ρ) (fun _ h=>h.1) (k ρ hp)))
theorem rSf {id:Nat} {ops:Array Oper} (fn:Func) (m:Nat) (keep hb:List Nat) (vals:(Nat→bH)→List Value) (effs:(Nat→bH)→List (Nat × Eff)) (fact:(Nat→bH)→List (Nat × (World→Prop))) (F':(Nat→bH)→World→Prop) (p:(Nat→bH)→Prop) (hF:∀ ρ w,F w→(∀ i,mf fact ρ i w)→F' ρ w∧p ρ)
 (c:Chain m (jV P (dP fn id) (dsq m) l w0 h F (mv vals) (me effs) (mf fact)) 0)
 (k:∀ ρ,p ρ→gJ (Q .normal) n (tV (dP fn id) l (mv vals ρ) keep) w0 (oW hb (rJ m h (me effs ρ))) (F' ρ))
 (hloc:∀ ρ,uK vals effs fact ρ m=uD (dsq m) vals effs fact ρ m:=by intros;kernel_rfl) (e:ops=dP fn id:=by kernel_rfl) (hchk:sqOk (dP fn id) m n l keep=true:=by kernel_rfl) (hfm:∀ ρ,(fact ρ).all (fun x=>decide (x.1<m))=true:=by intros;kernel_rfl):Ok P (.region id ops false) Q n l w0 h F :=
 ok_rf e (reg_sqF hloc hchk (F':=fun ρ w=>F' ρ w∧p ρ) hF c hfm) (fun ρ=>mt_pure (p ρ) (fun _ h=>h.2) (fun hp=>nD (F' ρ) (fun _ h=>h.1) (k ρ hp)))
theorem sDf {id:Nat} {ops:Array Oper} {y:Code} (fn:Func) (D:List Nat) (m:Nat) (keep hb:List Nat) (vals:(Nat→bH)→List Value) (effs:(Nat→bH)→List (Nat × Eff)) (fact:(Nat→bH)→List (Nat × (World→Prop))) (F':(Nat→bH)→World→Prop) (p:(Nat→bH)→Prop) (hF:∀ ρ w,F w→(∀ i,mf fact ρ i w)→F' ρ w∧p ρ)
 (c:Chain m (jV P (dP fn id) D l w0 h F (mv vals) (me effs) (mf fact)) 0)
 (k:∀ ρ,p ρ→Ok P y Q n (tV (dP fn id) l (mv vals ρ) keep) w0 (oW hb (rJ m h (me effs ρ))) (F' ρ))
 (hloc:∀ ρ,uK vals effs fact ρ m=uD D vals effs fact ρ m:=by intros;kernel_rfl) (e:ops=dP fn id:=by kernel_rfl) (hchk:drOk (dP fn id) D m n l keep=true:=by kernel_rfl) (hm:P.follows .mixedOrders=true:=by kernel_rfl) (hfm:∀ ρ,(fact ρ).all (fun x=>decide (x.1<m))=true:=by intros;kernel_rfl):Ok P (.seq (.region id ops true) y) Q n l w0 h F :=
 ok_seq_rf e (reg_drF hloc hm hchk (F':=fun ρ w=>F' ρ w∧p ρ) hF c hfm) (fun ρ=>ok_pure (p ρ) (fun _ h=>h.2) (fun hp=>ok_facts (F' ρ) (fun _ h=>h.1) (k ρ hp)))
theorem rDf {id:Nat} {ops:Array Oper} (fn:Func) (D:List Nat) (m:Nat) (keep hb:List Nat) (vals:(Nat→bH)→List Value) (effs:(Nat→bH)→List (Nat × Eff)) (fact:(Nat→bH)→List (Nat × (World→Prop))) (F':(Nat→bH)→World→Prop) (p:(Nat→bH)→Prop) (hF:∀ ρ w,F w→(∀ i,mf fact ρ i w)→F' ρ w∧p ρ)
 (c:Chain m (jV P (dP fn id) D l w0 h F (mv vals) (me effs) (mf fact)) 0)
 (k:∀ ρ,p ρ→gJ (Q .normal) n (tV (dP fn id) l (mv vals ρ) keep) w0 (oW hb (rJ m h (me effs ρ))) (F' ρ))
 (hloc:∀ ρ,uK vals effs fact ρ m=uD D vals effs fact ρ m:=by intros;kernel_rfl) (e:ops=dP fn id:=by kernel_rfl) (hchk:drOk (dP fn id) D m n l keep=true:=by kernel_rfl) (hm:P.follows .mixedOrders=true:=by kernel_rfl) (hfm:∀ ρ,(fact ρ).all (fun x=>decide (x.1<m))=true:=by intros;kernel_rfl):Ok P (.region id ops true) Q n l w0 h F :=
 ok_rf e (reg_drF hloc hm hchk (F':=fun ρ w=>F' ρ w∧p ρ) hF c hfm) (fun ρ=>mt_pure (p ρ) (fun _ h=>h.2) (fun hp=>nD (F' ρ) (fun _ h=>h.1) (k ρ hp)))
theorem lK {c:Code} (l':List (Nat × Value)) (h':List (Nat × Obj)) (hc:Ok P c Q n l' w0 h' F) (hl:l'.map (fun x=>l.lookup x.1)=l'.map (fun x=>some x.2):=by kernel_rfl) (hh:h=h':=by kernel_rfl):Ok P c Q n l w0 h F:=by
 subst hh;exact ok_drop l' h hl (List.Sublist.refl _) hc
theorem mD {R:Act→World→Prop} (l':List (Nat × Value)) (h':List (Nat × Obj)) (hc:gJ R n l' w0 h' F) (hl:l'.map (fun x=>l.lookup x.1)=l'.map (fun x=>some x.2):=by kernel_rfl) (hh:h=h':=by kernel_rfl):gJ R n l w0 h F:=by
 subst hh;exact fun A w hf hs=>hc A w (hf.sub l' (Subl.get hl)) hs
theorem oY {t:Nat} {x y:Code} (hx:Ok P x Q n l w0 h F) (hl:l.lookup t=some (.bool true):=by kernel_rfl):Ok P (.cond (.tmp t) x y) Q n l w0 h F:=ok_yes hl hx
theorem oN {t:Nat} {x y:Code} (hy:Ok P y Q n l w0 h F) (hl:l.lookup t=some (.bool false):=by kernel_rfl):Ok P (.cond (.tmp t) x y) Q n l w0 h F:=ok_no hl hy
theorem oC {t:Nat} {x y:Code} (b:Bool) (hx:b=true→Ok P x Q n l w0 h F) (hy:b=false→Ok P y Q n l w0 h F) (hl:l.lookup t=some (.bool b):=by kernel_rfl):Ok P (.cond (.tmp t) x y) Q n l w0 h F:=ok_cond hl hx hy
theorem oL {σ:Type} {c:Code} (L:σ→List (Nat × Value)) (H:σ→List (Nat × Obj)) (m:σ→Nat) (R:σ→Prop) (s0:σ) (hR:R s0) (ks:List Nat)
 (round:∀ s,R s→Ok P c (Exit.then (Next1 n w0 F L H m R (m s)) Q) n (L s) w0 (H s) F)
 (hl:(L s0).map (fun x=>l.lookup x.1)=(L s0).map (fun x=>some x.2):=by kernel_rfl) (hh:oW ks h=H s0:=by kernel_rfl):Ok P (.loop c) Q n l w0 h F :=
 ok_loop L H m R s0 hR hl (hh ▸ jX ks h) round
theorem mN {σ:Type} {L:σ→List (Nat × Value)} {H:σ→List (Nat × Obj)} {m:σ→Nat} {R:σ→Prop} {k:Nat} (s:σ) (hm:m s<k) (hR:R s) (ks:List Nat) (hl:(L s).map (fun x=>l.lookup x.1)=(L s).map (fun x=>some x.2):=by kernel_rfl) (hh:oW ks h=H s:=by kernel_rfl) :
 gJ (Exit.then (Next1 n w0 F L H m R k) Q .normal) n l w0 h F:=mt_round s hm hR hl (hh ▸ jX ks h)
def resE (P:Program) (rs:Array ResultVar) (l:List (Nat × Value)) (ps:List Nat) (h:List (Nat × Obj)):Option (Value × List (Nat × Nat)):=if zV rs l then grd P (resL rs l) ps h else none
theorem mR {fn:Func} {R:Ending→World→Prop} {v:Value} (hR:∀ w,St w0 h F w→R (.returned v) w) (ps:List Nat:=[])
 (hg:(resE P fn.results l ps h).map (fun r=>(r.1,r.2.map (·.2)))=some (v,((resE P fn.results l ps h).map (fun r=>r.2.map (·.1))).getD []):=by kernel_rfl):gJ (bodyPost P fn R .ret) n l w0 h F:=by
 rw [Option.map_eq_some_iff] at hg
 obtain ⟨⟨v',es⟩,h1,h2⟩:=hg
 rw [h1] at h2
 simp only [Option.map_some,Option.getD_some,Prod.mk.injEq] at h2
 obtain ⟨rfl,h3⟩:=h2
 unfold resE at h1
 split at h1
 ·rename_i hr
  exact meets_ret ps es hr h1 (eqs_of h3) hR
 ·exact absurd h1 (by simp)
end
section
variable {P : Program} {ops : Array Oper} {D : List Nat} {l : List (Nat × Value)} {w0 : Base} {h : List (Nat × Obj)} {F0 : World → Prop}
variable {vals : (Nat → bH) → Nat → Value} {effs : (Nat → bH) → Nat → Eff} {fact : (Nat → bH) → Nat → World → Prop}
theorem Given.kn {i:Nat} {ρ:Nat→bH} {T:Nat→Prop} {w:World} (hG:Given ops D w0 h F0 effs fact i ρ T w) {g:Nat} {o:Obj} (n:Nat) (hn:dY ops D h (effs ρ) i [n]=true:=by kernel_rfl) (hk:YtahoheofpggopaaGreatDoor.known ops D h (effs ρ) i [n]=[(g,o)]:=by kernel_rfl):w.heap[g]? = some o:=hG.known n hn hk
theorem Given.pK {i:Nat} {ρ:Nat→bH} {T:Nat→Prop} {w:World} (hG:Given ops D w0 h F0 effs fact i ρ T w) (ns:List Nat) {K:List (Nat × Obj)} {G:World→Prop} (hFG:∀ w,F0 w→G w) (hn:dY ops D h (effs ρ) i ns=true:=by kernel_rfl) (hk:YtahoheofpggopaaGreatDoor.known ops D h (effs ρ) i ns=K:=by kernel_rfl):dL (fun b=>b∈K.map (·.1)) G w:=hG.persK ns hn hk hFG
variable {i : Nat}
theorem qC {f:FuncId} {args:(Nat→bH)→Array Value} {v:(Nat→bH)→Value}
 (hf:∀ ρ T w,Given ops D w0 h F0 effs fact i ρ T w→Calls P f (args ρ) w (fun e w'=>e=.returned (v ρ)∧Below w.heap.size w w'))
 (hc:∀ ρ z,eU P ops D l (vals ρ) i z=some (.enter f (args ρ),[],[]):=by intros;kernel_rfl)
 (hv:∀ ρ,vals (upd ρ i {}) i=v ρ:=by intros;kernel_rfl) (he:∀ ρ r,effs (upd ρ i r) i={}:=by intros;kernel_rfl) (ht:∀ ρ,fact ρ i=fun _=>True:=by intros;kernel_rfl):jV P ops D l w0 h F0 vals effs fact i :=
 lN i f args v hc hv he (fun ρ w=>by rw [ht];trivial) hf
theorem qB {f:FuncId} {args:(Nat→bH)→Array Value} {v:(Nat→bH)→Option Addr→Nat→Value} {xs:(Nat→bH)→List UInt8}
 (hf:∀ ρ T w,Given ops D w0 h F0 effs fact i ρ T w→Calls P f (args ρ) w (fun e w'=>∃ a c,e=.returned (v ρ a c)∧Below w.heap.size w w'∧Fs w w' a c (xs ρ)))
 (hc:∀ ρ z,eU P ops D l (vals ρ) i z=some (.enter f (args ρ),[],[]):=by intros;kernel_rfl)
 (hv:∀ ρ r,vals (upd ρ i r) i=v ρ r.a (r.n.headD 0):=by intros;kernel_rfl) (he:∀ ρ r,effs (upd ρ i r) i={}:=by intros;kernel_rfl) (ht:∀ ρ r,fact (upd ρ i r) i=(fun w=>Fs w0.w w r.a (r.n.headD 0) (xs ρ)):=by intros;kernel_rfl):jV P ops D l w0 h F0 vals effs fact i :=
 o_callB i f args v xs hc hv he ht hf
theorem qF {s:(Nat→bH)→Sem Next} {v:(Nat→bH)→Value} (hr:∀ ρ T w,Given ops D w0 h F0 effs fact i ρ T w→(s ρ).run P w=.ok (.value (v ρ)) w)
 (hc:∀ ρ,wL ops (vals ρ) (vals (upd ρ i {}) i) (effs (upd ρ i {}) i) i=some (v ρ,{}):=by intros;kernel_rfl)
 (hx:∀ ρ,execOp (dC ops D l (vals ρ) i) (opAt ops i)=s ρ:=by intros;kernel_rfl) (ht:∀ ρ,fact ρ i=fun _=>True:=by intros;kernel_rfl):jV P ops D l w0 h F0 vals effs fact i :=
 o_semF i s v hc hx hr (fun ρ T w _=>by rw [ht];exact cO)
theorem qS {s:(Nat→bH)→Sem Next} {v:(Nat→bH)→Value} (hr:∀ ρ w,(s ρ).run P w=.ok (.value (v ρ)) w)
 (hc:∀ ρ,wL ops (vals ρ) (vals (upd ρ i {}) i) (effs (upd ρ i {}) i) i=some (v ρ,{}):=by intros;kernel_rfl)
 (hx:∀ ρ,execOp (dC ops D l (vals ρ) i) (opAt ops i)=s ρ:=by intros;kernel_rfl):jV P ops D l w0 h F0 vals effs (fun _ _ _=>True) i :=
 o_sem i s v hc hx hr
theorem qN {s:(Nat→bH)→Sem Next} (v:(Nat→bH)→List Nat→Value) (ob:(Nat→bH)→List Nat→Obj)
 (hr:∀ ρ T w,Given ops D w0 h F0 effs fact i ρ T w→∃ k w',(s ρ).run P w=.ok (.value (v ρ [w.heap.size,k])) w'∧Grew w w' (ob ρ [w.heap.size,k]))
 (hc:∀ ρ z,rP ops (vals ρ) (vals (upd ρ i { n:=z}) i) (effs (upd ρ i { n:=z}) i) i=some (v ρ z,{ news:=[(z.headD 0,ob ρ z)]}):=by intros;kernel_rfl)
 (hx:∀ ρ,execOp (dC ops D l (vals ρ) i) (opAt ops i)=s ρ:=by intros;kernel_rfl) (ht:∀ ρ,fact ρ i=fun _=>True:=by intros;kernel_rfl):jV P ops D l w0 h F0 vals effs fact i :=
 uB i s v ob hc hx (fun ρ w=>by rw [ht];trivial) hr
theorem qM (n:Nat) {s:(Nat→bH)→Sem Next} {g:(Nat→bH)→Nat} {ob:(Nat→bH)→Obj} {ob':(Nat→bH)→bH→Obj} {v:(Nat→bH)→bH→Value} {p:(Nat→bH)→bH→Prop}
 (hr:∀ ρ T w,Given ops D w0 h F0 effs fact i ρ T w→w.heap[g ρ]? = some (ob ρ)→∃ r w',(s ρ).run P w=.ok (.value (v ρ r)) w'∧p ρ r∧Moved w w' (g ρ) (r.n.headD 0) (ob' ρ r))
 (hc:∀ ρ r,rP ops (vals ρ) (vals (upd ρ i r) i) (effs (upd ρ i r) i) i=some (v ρ r,{ puts:=[(n,r.n.headD 0,ob' ρ r)]}):=by intros;kernel_rfl)
 (hn:∀ ρ,dY ops D h (effs ρ) i [n]=true:=by intros;kernel_rfl) (hk:∀ ρ,YtahoheofpggopaaGreatDoor.known ops D h (effs ρ) i [n]=[(g ρ,ob ρ)]:=by intros;kernel_rfl)
 (hx:∀ ρ,execOp (dC ops D l (vals ρ) i) (opAt ops i)=s ρ:=by intros;kernel_rfl) (ht:∀ ρ r,fact (upd ρ i r) i=(fun _=>p ρ r):=by intros;kernel_rfl):jV P ops D l w0 h F0 vals effs fact i :=
 o_move1 i n s g ob ob' v p hc hn hk hx ht hr
end
abbrev vi (z:Int):Value:=.int .i64 z
abbrev vn (n:Nat):Value:=.int .i64 ((n:Nat):Int)
abbrev vs (g n c:Nat):Value:=.slice (some ⟨g,0,none⟩) n c
abbrev cL (C:Array Value) (T:TypeId):Obj:=.cells C T (0,0)
abbrev nw (ρ:Nat→bH) (k:Nat) (o:Obj):Eff:={ news:=[(nb ρ k,o)]}
abbrev bD (n g:Nat) (o:Obj):Eff:={ puts:=[(n,g,o)]}
theorem yT {p:Prop} [Decidable p] (h:decide p=true):p:=of_decide_eq_true h
theorem yF {p:Prop} [Decidable p] (h:decide p=false): ¬p:=of_decide_eq_false h
abbrev vu (n:Nat):Value:=.int .u32 ((n:Nat):Int)
abbrev vy (n:Nat):Value:=.int .u8 ((n:Nat):Int)
abbrev vx (n:Nat):Value:=.int .u64 ((n:Nat):Int)
abbrev jp (a i:Nat):Value:=.pointer (some ⟨a,i,none⟩)
abbrev jA (a:Option Addr) (c k z:Nat):Option Addr:=if c=k then a else a.map (·.add (k*z))
abbrev vz:Value:=.slice none 0 0
abbrev vT:Value:=.bool true
abbrev vF:Value:=.bool false
def jZ:Nat→bH:=fun _=>{}
section
variable {P : Program} {Q : Exit → Act → World → Prop} {n : Nat} {l : List (Nat × Value)} {w0 : Base} {h : List (Nat × Obj)} {F : World → Prop}
theorem trueL_c (ρ:Nat→bH):∀ i k,factL (fun _ _ _=>True) ρ i k=trueL k
 | _,0=>rfl
 | i,k+1=>congrArg (List.cons _) (trueL_c ρ (i+1) k)
theorem jM {id:Nat} {ops:Array Oper} {y:Code} (fn:Func) (m:Nat) (keep hb:List Nat) (vs:List Value) (nss:List (List Nat))
 (k:Ok P y Q n (tV (dP fn id) l (mv (fun _=>vs) jZ) keep) w0 (oW hb (rJ m h (me (fun _=>[]) jZ))) F)
 (hc:∀ ρ z,chkL P (dP fn id) (dsq m) l h (mv (fun _=>vs)) (me (fun _=>[])) ρ z 0 nss=chkR P (dP fn id) (dsq m) l h (mv (fun _=>vs)) (me (fun _=>[])) ρ z 0 nss:=by intros;kernel_rfl)
 (hm:m≤nss.length:=by exact Nat.le_of_ble_eq_true rfl)
 (hloc:∀ ρ,uK (fun _=>vs) (fun _=>[]) (fun _=>[]) ρ m=uD (dsq m) (fun _=>vs) (fun _=>[]) (fun _=>[]) ρ m:=by intros;kernel_rfl) (e:ops=dP fn id:=by kernel_rfl) (hchk:sqOk (dP fn id) m n l keep=true:=by kernel_rfl):Ok P (.seq (.region id ops false) y) Q n l w0 h F :=
 sS fn m keep hb (fun _=>vs) (fun _=>[]) (cR nss (cN (by rw [Nat.zero_add];exact hm)) hc (fun ρ=>trueL_c ρ 0 nss.length)) (fun _=>k) hloc e hchk
theorem jL {id:Nat} {ops:Array Oper} (fn:Func) (m:Nat) (keep hb:List Nat) (vs:List Value) (nss:List (List Nat))
 (k:gJ (Q .normal) n (tV (dP fn id) l (mv (fun _=>vs) jZ) keep) w0 (oW hb (rJ m h (me (fun _=>[]) jZ))) F)
 (hc:∀ ρ z,chkL P (dP fn id) (dsq m) l h (mv (fun _=>vs)) (me (fun _=>[])) ρ z 0 nss=chkR P (dP fn id) (dsq m) l h (mv (fun _=>vs)) (me (fun _=>[])) ρ z 0 nss:=by intros;kernel_rfl)
 (hm:m≤nss.length:=by exact Nat.le_of_ble_eq_true rfl)
 (hloc:∀ ρ,uK (fun _=>vs) (fun _=>[]) (fun _=>[]) ρ m=uD (dsq m) (fun _=>vs) (fun _=>[]) (fun _=>[]) ρ m:=by intros;kernel_rfl) (e:ops=dP fn id:=by kernel_rfl) (hchk:sqOk (dP fn id) m n l keep=true:=by kernel_rfl):Ok P (.region id ops false) Q n l w0 h F :=
 rS fn m keep hb (fun _=>vs) (fun _=>[]) (cR nss (cN (by rw [Nat.zero_add];exact hm)) hc (fun ρ=>trueL_c ρ 0 nss.length)) (fun _=>k) hloc e hchk
theorem jJ {id:Nat} {ops:Array Oper} {y:Code} (fn:Func) (m:Nat) (keep:List Nat) (vs:List Value)
 (k:Ok P y Q n (tV (dP fn id) l (mv (fun _=>vs) jZ) keep) w0 (oW [] (rJ m h (me (fun _=>[]) jZ))) F)
 (hc:∀ ρ z,chkL P (dP fn id) (dsq m) l h (mv (fun _=>vs)) (me (fun _=>[])) ρ z 0 (List.replicate m [])=chkR P (dP fn id) (dsq m) l h (mv (fun _=>vs)) (me (fun _=>[])) ρ z 0 (List.replicate m []):=by intros;kernel_rfl)
 (hloc:∀ ρ,uK (fun _=>vs) (fun _=>[]) (fun _=>[]) ρ m=uD (dsq m) (fun _=>vs) (fun _=>[]) (fun _=>[]) ρ m:=by intros;kernel_rfl) (e:ops=dP fn id:=by kernel_rfl) (hchk:sqOk (dP fn id) m n l keep=true:=by kernel_rfl):Ok P (.seq (.region id ops false) y) Q n l w0 h F :=
 jM fn m keep [] vs (List.replicate m []) k hc (Nat.le_of_eq (List.length_replicate).symm) hloc e hchk
end
theorem om {p:Prop} (h:p:=by omega):p:=h
theorem oA {p q:Prop} (a:q) (h:q→p:=by omega):p:=h a
theorem oB {p q r:Prop} (a:q) (b:r) (h:q→r→p:=by omega):p:=h a b
abbrev jR (v:Value) (w0:World):Ending→World→Prop:=fun ε w'=>ε=.returned v∧Below w0.heap.size w0 w'
abbrev jG (w0 w':World):Prop:=Below w0.heap.size w0 w'
theorem jB {a b:Bool} (h:a=b):Ending.returned (.bool a)=Ending.returned (.bool b):=congrArg (fun x=>Ending.returned (.bool x)) h
theorem jI {a b:Int} (h:a=b):Value.int .i64 a=Value.int .i64 b:=congrArg _ h
theorem jN {a b:Int} (h:a=b):Value.int .u32 a=Value.int .u32 b:=congrArg _ h
theorem jK {α:Type} [BEq α] {a b c:α} {r:Bool} (h:a=b) (e:(b==c)=r):(a==c)=r:=by rw [h];exact e
theorem jT {w:World}:dL (fun _=>False) (fun _=>True) w:=dB (fun _=>trivial)
section
variable {P : Program} {ops : Array Oper} {D : List Nat} {l : List (Nat × Value)} {w0 : Base} {h : List (Nat × Obj)} {F0 : World → Prop}
variable {vals : (Nat → bH) → Nat → Value} {effs : (Nat → bH) → Nat → Eff} {fact : (Nat → bH) → Nat → World → Prop}
theorem Given.fn {i:Nat} {ρ:Nat→bH} {T:Nat→Prop} {w:World} (hG:Given ops D w0 h F0 effs fact i ρ T w):F0 w:=hG.facts0.now
theorem jS {i:Nat} (x:(Nat→bH)→Sem Value) (v:(Nat→bH)→Value) (hr:∀ ρ w,(do pure (Next.value (← x ρ)):Sem Next).run P w=.ok (.value (v ρ)) w)
 (hc:∀ ρ,wL ops (vals ρ) (vals (upd ρ i {}) i) (effs (upd ρ i {}) i) i=some (v ρ,{}):=by intros;kernel_rfl) (hx:∀ ρ,execOp (dC ops D l (vals ρ) i) (opAt ops i)=(do pure (Next.value (← x ρ))):=by intros;kernel_rfl):jV P ops D l w0 h F0 vals effs (fun _ _ _=>True) i:=o_sem i (fun ρ=>do pure (Next.value (← x ρ))) v hc hx hr
theorem jF {i:Nat} (x:(Nat→bH)→Sem Value) (v:(Nat→bH)→Value) (hr:∀ ρ T w,Given ops D w0 h F0 effs fact i ρ T w→(do pure (Next.value (← x ρ)):Sem Next).run P w=.ok (.value (v ρ)) w) (hf:∀ ρ T w,Given ops D w0 h F0 effs fact i ρ T w→dL T (fact (upd ρ i {}) i) w)
 (hc:∀ ρ,wL ops (vals ρ) (vals (upd ρ i {}) i) (effs (upd ρ i {}) i) i=some (v ρ,{}):=by intros;kernel_rfl) (hx:∀ ρ,execOp (dC ops D l (vals ρ) i) (opAt ops i)=(do pure (Next.value (← x ρ))):=by intros;kernel_rfl):jV P ops D l w0 h F0 vals effs fact i:=o_semF i (fun ρ=>do pure (Next.value (← x ρ))) v hc hx hr hf
theorem jE {m i:Nat} (nss:List (List Nat)) (hm:m≤i+nss.length:=by exact Nat.le_of_ble_eq_true rfl)
 (hc:∀ ρ z,chkL P ops D l h vals effs ρ z i nss=chkR P ops D l h vals effs ρ z i nss:=by intros;kernel_rfl)
 (hf:∀ ρ,factL fact ρ i nss.length=trueL nss.length:=by intros;kernel_rfl):Chain m (jV P ops D l w0 h F0 vals effs fact) i:=cR nss (cN hm) hc hf
theorem jW {m i:Nat} (x:(Nat→bH)→Int) (y:(Nat→bH)→Nat) (he:∀ ρ,IntKind.i64.wrap (x ρ)=(y ρ:Int)) (t:Chain m (jV P ops D l w0 h F0 vals effs fact) (i+1))
 (hc:∀ ρ z,pM P ops D l (vals ρ) (vals (upd ρ i {}) i) (effs (upd ρ i {}) i) i z=some (.value (.int .i64 (IntKind.i64.wrap (x ρ))),[],[],.int .i64 (y ρ:Int),{}):=by intros;kernel_rfl) (hF:∀ ρ,fact ρ i=fun _=>True:=by intros;kernel_rfl):Chain m (jV P ops D l w0 h F0 vals effs fact) i :=
 cA (v:=fun ρ=>.int .i64 (IntKind.i64.wrap (x ρ))) (fun ρ=>.int .i64 (y ρ:Int)) (fun ρ=>jI (he ρ)) t hc hF
theorem jU {m i:Nat} (x:(Nat→bH)→Int) (y:(Nat→bH)→Int) (he:∀ ρ,IntKind.i64.wrap (x ρ)=y ρ) (t:Chain m (jV P ops D l w0 h F0 vals effs fact) (i+1))
 (hc:∀ ρ z,pM P ops D l (vals ρ) (vals (upd ρ i {}) i) (effs (upd ρ i {}) i) i z=some (.value (.int .i64 (IntKind.i64.wrap (x ρ))),[],[],.int .i64 (y ρ),{}):=by intros;kernel_rfl) (hF:∀ ρ,fact ρ i=fun _=>True:=by intros;kernel_rfl):Chain m (jV P ops D l w0 h F0 vals effs fact) i :=
 cA (v:=fun ρ=>.int .i64 (IntKind.i64.wrap (x ρ))) (fun ρ=>.int .i64 (y ρ)) (fun ρ=>jI (he ρ)) t hc hF
theorem jQ {m i:Nat} (x:(Nat→bH)→Bool) (y:Bool) (he:∀ ρ,x ρ=y) (t:Chain m (jV P ops D l w0 h F0 vals effs fact) (i+1))
 (hc:∀ ρ z,pM P ops D l (vals ρ) (vals (upd ρ i {}) i) (effs (upd ρ i {}) i) i z=some (.value (.bool (x ρ)),[],[],.bool y,{}):=by intros;kernel_rfl) (hF:∀ ρ,fact ρ i=fun _=>True:=by intros;kernel_rfl):Chain m (jV P ops D l w0 h F0 vals effs fact) i :=
 cA (v:=fun ρ=>.bool (x ρ)) (fun _=>.bool y) (fun ρ=>congrArg Value.bool (he ρ)) t hc hF
end
theorem uC {P:Program} {e:TypeId} {k:IntKind} (he:P.underlying e=some (.int k)) (xs:Array Value) (i:Nat) (v:Value) (hx:xs[i]? = some v) (w:World):(part e xs i).run P w=.ok v w:=by
 have hagg:(isAgg e).run P w=.ok false w:=by
  unfold isAgg
  rw [Sem.run_bind,run_underlying he w];simp
 simp [part,Sem.run_bind,hagg,hx]
theorem run_equalIn_int {P:Program} {e:TypeId} {k:IntKind} (d:Nat) (he:P.underlying e=some (.int k)) (a b:Int) (w:World):(Op.equalIn (d+1) e (.int k a) (.int k b)).run P w=.ok (a==b) w:=by
 simp [Op.equalIn,run_underlying he]
theorem vO {P : Program} {t e : TypeId} {n : Nat} {k : IntKind} (ht : P.underlying t = some (.array n e)) (he : P.underlying e = some (.int k)) (hs : (P.info? e).map (·.size) = some 1)
 (f g:Nat→Int) (xs ys:Array Value) (hx:∀ i,i<n→xs[i]? = some (.int k (f i))) (hy:∀ i,i<n→ys[i]? = some (.int k (g i))) (d:Nat) (w:World) :
 (Op.equalIn (d+2) t (.agg xs) (.agg ys)).run P w=.ok (decide (∀ i,i<n→f i=g i)) w:=by
 have hsz:∀ w,(sizeOf e).run P w=.ok 1 w:=by
  intro w
  cases hq:P.info? e with
  | none=>simp [hq] at hs
  | some i=>simp [hq] at hs;simp [sizeOf,typeInfo,hq,hs]
 rw [Op.equalIn]
 simp only [Sem.run_bind,run_underlying ht,Result.andThen_ok,hsz,Nat.mul_one]
 have key:∀ (m s:Nat),s+m=n→∀ w (b:Bool),(b=true↔∀ i,s≤i→i<n→f i=g i)→(forIn (m:=Sem) (List.range' s m) ((none:Option Bool),()) (fun i _=>do
  let a ← part e xs i
  let b ← part e ys i
  let r ← Op.equalIn (d+1) e a b
  if (!r)=true then pure (ForInStep.done (some false,())) else pure (ForInStep.yield (none,())))).run P w =
   .ok (if b then (none,()) else (some false,())) w:=by
  intro m
  induction m with
  | zero =>
    intro s hs w b hb
    rw [if_pos (hb.2 (fun i h1 h2=>by omega))]
    simp
  | succ m ih =>
    intro s hs w b hb
    rw [List.range'_succ,List.forIn_cons]
    simp only [Sem.run_bind,uC he xs s _ (hx s (by omega)),uC he ys s _ (hy s (by omega)),Result.andThen_ok,run_equalIn_int d he]
    by_cases h:f s=g s
    ·rw [h]
     simp only [beq_self_eq_true,Bool.not_true,Bool.false_eq_true,if_false,Sem.run_pure,Result.andThen_ok]
     refine ih (s+1) (by omega) w b (hb.trans ⟨fun q i h1 h2=>q i (by omega) h2,fun q i h1 h2=>?_⟩)
     by_cases e:i=s
     ·rw [e];exact h
     ·exact q i (by omega) h2
    ·have hf : (f s == g s) = false := by simpa using h
     have hb':b=false:=by
      cases b with
      | false=>rfl
      | true=>exact absurd (hb.1 rfl s (by omega) (by omega)) h
     rw [hf,hb']
     simp
 simp only [Std.Legacy.Range.forIn_eq_forIn_range',Std.Legacy.Range.size]
 have h0:=key n 0 (by omega) w (decide (∀ i,i<n→f i=g i)) (by simp)
 simp only [Nat.sub_zero,Nat.add_one_sub_one,Nat.div_one]
 rw [h0]
 by_cases hall:∀ i,i<n→f i=g i
 ·rw [decide_eq_true hall];simp
 ·rw [decide_eq_false hall];simp
theorem run_eql_ints {P:Program} {t e:TypeId} {n:Nat} {k:IntKind} (ht:P.underlying t=some (.array n e)) (he:P.underlying e=some (.int k)) (hs:(P.info? e).map (·.size)=some 1)
 (f g:Nat→Int) (xs ys:Array Value) (hx:∀ i,i<n→xs[i]? = some (.int k (f i))) (hy:∀ i,i<n→ys[i]? = some (.int k (g i))) (w:World) :
 (binOp .eql t (.agg xs) (.agg ys)).run P w=.ok (.bool (decide (∀ i,i<n→f i=g i))) w:=by
 simp only [binOp]
 simp [Op.equal,Op.maxDepth,vO ht he hs f g xs ys hx hy 9998 w]
theorem zU {P:Program} {t e:TypeId} {n:Nat} {k:IntKind} (ht:P.underlying t=some (.array n e)) (he:P.underlying e=some (.int k)) (hs:(P.info? e).map (·.size)=some 1)
 (f g:Nat→Int) (xs ys:Array Value) (hx:∀ i,i<n→xs[i]? = some (.int k (f i))) (hy:∀ i,i<n→ys[i]? = some (.int k (g i))) (w:World) :
 (binOp .neq t (.agg xs) (.agg ys)).run P w=.ok (.bool (!decide (∀ i,i<n→f i=g i))) w:=by
 simp only [binOp]
 simp [Op.equal,Op.maxDepth,vO ht he hs f g xs ys hx hy 9998 w]
theorem l9 (i:Nat):wd 0 i=0:=by unfold wd;simp
theorem wd_inj {A B:Nat} (hA:A<M) (hB:B<M):(∀ i,i<4→wd A i=wd B i)↔A=B:=by
 refine ⟨fun h=>?_,fun h=>by subst h;intros;rfl⟩
 have ea:=pO A hA;have eb:=pO B hB
 rw [h 0 (by omega),h 1 (by omega),h 2 (by omega),h 3 (by omega)] at ea
 omega
abbrev cU (A:Nat):Array Value:= #[.int .u64 (wd A 0),.int .u64 (wd A 1),.int .u64 (wd A 2),.int .u64 (wd A 3)]
theorem lL (A i:Nat) (h:i<4):(cU A)[i]? = some (.int .u64 (wd A i)):=by
 rcases (by omega:i=0∨i=1∨i=2∨i=3) with rfl | rfl | rfl | rfl<;>rfl
theorem eqlU (A B:Nat) (hA:A<M) (hB:B<M) (w:World):(binOp .eql 64 (U A) (U B)).run prog w=.ok (.bool (decide (A=B))) w:=by
 rw [run_eql_ints (n:=4) (e:=62) underlying64 underlying62 (by kernel_rfl) (wd A) (wd B) _ _ (lL A) (lL B) w]
 rw [decide_eq_decide.2 (wd_inj hA hB)]
theorem neqU (A B:Nat) (hA:A<M) (hB:B<M) (w:World):(binOp .neq 64 (U A) (U B)).run prog w=.ok (.bool (!decide (A=B))) w:=by
 rw [zU (n:=4) (e:=62) underlying64 underlying62 (by kernel_rfl) (wd A) (wd B) _ _ (lL A) (lL B) w]
 rw [decide_eq_decide.2 (wd_inj hA hB)]
theorem U0_eq:Value.agg #[.int .u64 0,.int .u64 0,.int .u64 0,.int .u64 0]=U 0:=by
 show _=Value.agg #[.int .u64 (wd 0 0),.int .u64 (wd 0 1),.int .u64 (wd 0 2),.int .u64 (wd 0 3)]
 rw [l9,l9,l9,l9]
theorem vK:0<M:=by rw [mQ];decide
theorem eqlU0 (A:Nat) (hA:A<M) (w:World):(binOp .eql 64 (U A) (.agg #[.int .u64 0,.int .u64 0,.int .u64 0,.int .u64 0])).run prog w=.ok (.bool (decide (A=0))) w:=by
 rw [U0_eq];exact eqlU A 0 hA vK w
theorem byt_inj {A B:Nat} (hA:A<M) (hB:B<M):(∀ i,i<32→nR A i=nR B i)↔A=B:=by
 refine ⟨fun h=>?_,fun h=>by subst h;intros;rfl⟩
 have key:∀ k,k≤32→A / 256^(32-k)=B / 256^(32-k):=by
  intro k
  induction k with
  | zero =>
    intro _
    have e:(256:Nat)^32=M:=by rw [mQ]
    rw [Nat.sub_zero,e,Nat.div_eq_of_lt hA,Nat.div_eq_of_lt hB]
  | succ k ih =>
    intro hk
    have h1:=ih (by omega)
    have h2:=h k (by omega)
    unfold nR at h2
    have e1:32-k=(31-k)+1:=by omega
    rw [e1,Nat.pow_succ,← Nat.div_div_eq_div_mul,← Nat.div_div_eq_div_mul] at h1
    rw [show 32-(k+1)=31-k by omega]
    omega
 have:=key 32 (by omega)
 simpa using this
def iv (k:IntKind) (zs:List Int):List Value:=zs.map (.int k)
theorem iv_length (k:IntKind) (zs:List Int):(iv k zs).length=zs.length:=List.length_map _
def gI (zs:List Int) (i:Nat):Int:=zs.getD i 0
structure Is (w:World) (k:IntKind) (a:Option Addr) (c:Nat) (zs:List Int):Prop where
 le:zs.length≤c
 max:zs.length≤140737488351232
 rows:Rs w a (iv k zs)
theorem Is.nil {w:World} {k:IntKind} {a:Option Addr} {c:Nat}:Is w k a c []:=⟨by simp,by simp,Or.inl rfl⟩
theorem Is.pers {T:Nat→Prop} {w:World} {k:IntKind} {a:Option Addr} {c:Nat} {zs:List Int} (h:Is w k a c zs) (hT:Apart T a zs.length):dL T (fun w=>Is w k a c zs) w :=
 (h.rows.pers (by rw [iv_length];exact hT)).mono (fun _ hr=>⟨h.le,h.max,hr⟩)
theorem Is.pers0 {w:World} {k:IntKind} {a:Option Addr} {c:Nat} {zs:List Int} (h:Is w k a c zs):dL (fun _=>False) (fun w=>Is w k a c zs) w:=h.pers (fun _ _ _=>id)
theorem Is.cell {w:World} {k:IntKind} {a:Option Addr} {c:Nat} {zs:List Int} (h:Is w k a c zs) {i:Nat} (hi:i<zs.length):∃ p,a=some p∧w.cell? (p.add i)=some (.int k (gI zs i)):=by
 rcases h.rows with h0 | ⟨p,rfl,hh⟩
 ·have := congrArg List.length h0
  rw [iv_length] at this
  simp at this
  subst this
  simp at hi
 ·refine ⟨p, rfl, hh i _ ?_⟩
  unfold iv
  rw [List.getElem?_map,List.getElem?_eq_getElem hi]
  simp [gI,List.getD,List.getElem?_eq_getElem hi]
def midI (zs:List Int) (l h:Nat):List Int:=(zs.take h).drop l
theorem midI_length (zs:List Int) (l h:Nat) (hh:h≤zs.length):(midI zs l h).length=h-l:=by
 unfold midI
 rw [List.length_drop,List.length_take]
 omega
theorem Is.mid {w:World} {ik:IntKind} {a:Option Addr} {c:Nat} {zs:List Int} (h:Is w ik a c zs) {l k:Nat} (hl:l≤k) (hk:k≤zs.length):Is w ik (uF a l c) (c-l) (midI zs l k):=by
 have hle:=h.le
 have hm:=h.max
 have hlen:=midI_length zs l k hk
 refine ⟨by omega,by omega,?_⟩
 unfold uF
 split
 ·have : midI zs l k = [] := List.eq_nil_of_length_eq_zero (by omega)
  rw [this]
  exact Or.inl rfl
 ·unfold fK midI iv
  rw [List.map_drop,List.map_take]
  exact (h.rows.take k).drop l
section
variable {P : Program} {t e : TypeId}
theorem o6 (ht:P.underlying t=some (.slice e)) (hs:∀ w,(sizeOf e).run P w=.ok 1 w) {w:World} {ik:IntKind} {a:Option Addr} {c m:Nat} {zs:List Int} {k:IntKind} {z:Int} {j:Nat} (hb:Is w ik a c zs) (hm:m=zs.length) (hz:z=(j:Int)) (hj:j<zs.length) :
 (do pure (Next.value (← Instr.indexAt t (.slice a m c) (.int k z))):Sem Next).run P w=.ok (.value (.pointer (fK a j))) w:=by
 subst hm hz
 obtain ⟨p,rfl,_⟩:=hb.cell hj
 have hs:=hs w
 simp [Instr.indexAt,asIntOf,Sem.run_bind,run_underlying ht,hj,hs,fK]
theorem rG {w:World} {ik:IntKind} {a:Option Addr} {c:Nat} {zs:List Int} {j:Nat} (ha:∀ w,(isAgg e).run P w=.ok false w) (hb:Is w ik a c zs) (hj:j<zs.length) :
 (do pure (Next.value (← Instr.loadAt e (.pointer (fK a j)))):Sem Next).run P w=.ok (.value (.int ik (gI zs j))) w:=by
 obtain ⟨p,rfl,hp⟩:=hb.cell hj
 simp only [fK,Option.map_some,Instr.loadAt,Instr.sureAddr,loadVar,Sem.run_bind,Sem.run_pure,Result.andThen_ok,ha,Bool.false_eq_true,if_false,load,Sem.run,hp]
end
def kC (s p c:Nat) (d i n:Int):Array Value:=cU s++cU p++hB c++ #[.int .i64 d,.int .u32 i,.int .u32 n]
def kY (k:Ky):Array Value:=kC k.s k.p k.c k.d ((k.i:Nat):Int) ((k.n:Nat):Int)
def wM (P:Program) (e:TypeId) (sz b:Nat) (z:Value):Prop:=∃ i,P.info? e=some i∧i.size=sz∧i.bytes=b∧i.zero=some z∧z.cells.size=sz
theorem dA {P:Program} {e:TypeId} {sz b:Nat} {z:Value} (h:(P.info? e).map (fun i=>(i.size,i.bytes,i.zero))=some (sz,b,some z)) (hz:z.cells.size=sz):wM P e sz b z:=by
 rw [Option.map_eq_some_iff] at h
 obtain ⟨i,h1,h2⟩:=h
 simp only [Prod.mk.injEq] at h2
 exact ⟨i,h1,h2.1,h2.2.1,h2.2.2,hz⟩
structure Av (C:Array Value) (sz n:Nat) (xs:List Value) (c:Nat):Prop where
 hd:C.toList.take xs.length=xs
 len:xs.length=n*sz
 le:n≤c
 size:C.size=c*sz
theorem vM (z:Array Value) (k:Nat):(Builtin.zeroCells z k).size=k*z.size:=by simp [Builtin.zeroCells]
section
variable {P : Program} {t e : TypeId} {sz b : Nat} {z : Value}
theorem appV_room {w:World} {ty tx:TypeId} (ht:P.underlying t=some (.slice e)) (hi:wM P e sz b z) {g n m c:Nat} {C:Array Value} {x:Value} {xs ys:List Value} (hA:Av C sz n xs c) (hg:w.heap[g]? = some (.cells C e (0,0)))
 (hs:Src P sz tx x m ys w) (hr:n+m≤c) :
 ∃ w',(do pure (Next.value (← Builtin.append_ #[t,tx] ty #[.slice (some ⟨g,0,none⟩) n c,x])):Sem Next).run P w=.ok (.value (.slice (some ⟨g,0,none⟩) (n+m) c)) w'∧Wrote w w' g (.cells (inpl C (n*sz) ys) e (0,0)):=by
 obtain ⟨i,h1,h2,h3,h4,h5⟩:=hi
 refine ⟨_,?_,wrote_row hg⟩
 have hfit:n*sz+ys.length≤C.size:=by rw [hs.newsLen,hA.size,← Nat.add_mul];exact Nat.mul_le_mul_right _ hr
 have hst:=run_storeCells_at P g (n*sz) e ys 0 C w hg (by omega) hs.one
 simp only [Nat.add_zero] at hst
 have hrun:(Builtin.append_ #[t,tx] ty #[.slice (some ⟨g,0,none⟩) n c,x]).run P w=.ok (.slice (some ⟨g,0,none⟩) (n+m) c) (w.setRow g (inpl C (n*sz) ys)):=by
  unfold inpl
  rcases hs.kind with ⟨e',hk⟩ | hk<;>simp [Builtin.append_,run_underlying ht,run_underlying hk,sizeOf,typeInfo,h1,h2,hs.len,hr,hs.cells,Addr.add_lit,hst]
 rw [Sem.run_bind,hrun]
 rfl
theorem appV_grow {w:World} {ty tx:TypeId} (ht:P.underlying t=some (.slice e)) (hi:wM P e sz b z) {a:Option Addr} {n m c:Nat} {olds:List Value} {x:Value} {ys:List Value}
 (ho:(Builtin.firstCells sz n (.slice a n c)).run P w.drew=.ok olds.toArray w.drew) (hs:Src P sz tx x m ys w) (hr:c<n+m) (hm:n+m≤140737488351232) (hmb:(n+m)*b≤140737488351232) :
 ∃ k w',(do pure (Next.value (← Builtin.append_ #[t,tx] ty #[.slice a n c,x])):Sem Next).run P w=.ok (.value (.slice (some ⟨w.heap.size,0,none⟩) (n+m) (n+m+k))) w'∧Grew w w' (.cells ((olds++ys).toArray++Builtin.zeroCells z.cells k) e (0,0)):=by
 obtain ⟨i,h1,h2,h3,h4,h5⟩:=hi
 have hge:=grownCap_ge w (n+m) c e
 have hs2:Src P i.size tx x m ys w:=by rw [h2];exact hs
 have hrun:=run_append_grow_src (P:=P) w t tx ty e i z ht h1 h4 a n c olds (by rw [h2];exact ho) x m ys hs2 hr (by omega) (growslice_fits hr (by rw [h3];omega))
 refine ⟨grownCap w (n+m) c e-(n+m),w.drew.alloc (.cells ((olds++ys).toArray++Builtin.zeroCells z.cells (grownCap w (n+m) c e-(n+m))) e),?_,⟨rfl,rfl,rfl,rfl⟩⟩
 rw [Sem.run_bind,hrun]
 rw [show (n+m+(grownCap w (n+m) c e-(n+m)))=grownCap w (n+m) c e by omega]
 rfl
theorem firstV_row {w:World} {g n c:Nat} {C:Array Value} {T:TypeId} {fr:Nat × Nat} {xs:List Value} (hg:w.heap[g]? = some (.cells C T fr)) (hA:Av C sz n xs c):(Builtin.firstCells sz n (.slice (some ⟨g,0,none⟩) n c)).run P w=.ok xs.toArray w:=by
 refine run_firstCells_some w sz n ⟨g,0,none⟩ n c xs hA.len (fun j v hv=>?_)
 rw [Addr.add_lit]
 unfold World.cell?
 simp only [hg]
 rw [← hA.hd,List.getElem?_take] at hv
 split at hv
 ·simpa using hv
 ·exact absurd hv (by simp)
theorem inpl_head {C:Array Value} {xs ys:List Value} {o:Nat} (h:C.toList.take xs.length=xs) (ho:o=xs.length):(inpl C o ys).toList.take (xs++ys).length=xs++ys:=by
 subst ho
 unfold inpl
 rw [h]
 show (xs++ys++C.toList.drop _).take _=_
 rw [List.take_left]
theorem sN {w:World} {ty tx:TypeId} (ht:P.underlying t=some (.slice e)) (hi:wM P e sz b z) {g n m c:Nat} {C:Array Value} {x:Value} {xs ys:List Value} (hA:Av C sz n xs c) (hs:Src P sz tx x m ys w) (hm:n+m≤140737488351232) (hmb:(n+m)*b≤140737488351232) (hg:w.heap[g]? = some (.cells C e (0,0))) :
 ∃ r w',(do pure (Next.value (← Builtin.append_ #[t,tx] ty #[.slice (some ⟨g,0,none⟩) n c,x])):Sem Next).run P w=.ok (.value (.slice (some ⟨r.n.headD 0,0,none⟩) (n+m) (r.n.tail.headD 0))) w'∧Av (uG r) sz (n+m) (xs++ys) (r.n.tail.headD 0)∧Moved w w' g (r.n.headD 0) (.cells (uG r) e (0,0)):=by
 have hlen:(xs++ys).length=(n+m)*sz:=by rw [List.length_append,hA.len,hs.newsLen,Nat.add_mul]
 by_cases hr:n+m≤c
 ·obtain ⟨w', h1, h2⟩ := appV_room (w := w) (ty := ty) ht hi hA hg hs hr
  have hfit:n*sz+ys.length≤C.size:=by rw [hs.newsLen,hA.size,← Nat.add_mul];exact Nat.mul_le_mul_right _ hr
  refine ⟨{ n:=[g,c],o:=[.cells (inpl C (n*sz) ys) 0 (0,0)]},w',h1,⟨inpl_head hA.hd hA.len.symm,hlen,hr,?_⟩,.stay rfl h2⟩
  exact (lG _ _ _ hfit).trans hA.size
 ·obtain ⟨k, w', h1, h2⟩ := appV_grow (w := w) (ty := ty) ht hi (a := some ⟨g, 0, none⟩) (n := n) (c := c) (olds := xs) (firstV_row (w := w.drew) (show w.drew.heap[g]? = _ from hg) hA) hs (by omega) hm hmb
  obtain ⟨i,q1,q2,q3,q4,q5⟩:=hi
  refine ⟨{ n:=[w.heap.size,n+m+k],o:=[.cells ((xs++ys).toArray++Builtin.zeroCells z.cells k) 0 (0,0)]},w',h1,⟨?_,hlen,Nat.le_add_right _ _,?_⟩,.grow rfl h2⟩
  ·show ((xs ++ ys).toArray ++ Builtin.zeroCells z.cells k).toList.take _ = _
   rw [Array.toList_append,List.take_left]
  ·show ((xs ++ ys).toArray ++ Builtin.zeroCells z.cells k).size = _
   rw [Array.size_append,vM,List.size_toArray,hlen,q5,← Nat.add_mul]
   rfl
theorem uV {w:World} {ty tx:TypeId} (ht:P.underlying t=some (.slice e)) (hi:wM P e sz b z) {m:Nat} {x:Value} {ys:List Value} (hs:Src P sz tx x m ys w) (h0:0<m) (hm:m≤140737488351232) (hmb:m*b≤140737488351232) :
 ∃ k w',(do pure (Next.value (← Builtin.append_ #[t,tx] ty #[.slice none 0 0,x])):Sem Next).run P w=.ok (.value (.slice (some ⟨([w.heap.size,k]:List Nat).headD 0,0,none⟩) m (m+([w.heap.size,k]:List Nat).tail.headD 0))) w'∧Grew w w' (.cells (ys.toArray++Builtin.zeroCells z.cells (([w.heap.size,k]:List Nat).tail.headD 0)) e (0,0)):=by
 obtain ⟨k,w',h1,h2⟩:=appV_grow (w:=w) (ty:=ty) ht hi (a:=none) (n:=0) (c:=0) (olds:=[]) (run_firstCells_none w.drew sz 0 0 0) hs (by omega) (by omega) (by rw [Nat.zero_add];exact hmb)
 refine ⟨k,w',?_,?_⟩
 ·simpa using h1
 ·simpa using h2
theorem Av.fresh (hz:z.cells.size=sz) {ys:List Value} {m:Nat} (hl:ys.length=m*sz) (k:Nat):Av (ys.toArray++Builtin.zeroCells z.cells k) sz m ys (m+k):=by
 refine ⟨?_,hl,Nat.le_add_right _ _,?_⟩
 ·rw [Array.toList_append,List.take_left]
 ·rw [Array.size_append,vM,List.size_toArray,hl,hz,← Nat.add_mul]
end
theorem Rs.of_av {w:World} {g sz n c:Nat} {C:Array Value} {T:TypeId} {fr:Nat × Nat} {xs:List Value} (hb:w.heap[g]? = some (.cells C T fr)) (hA:Av C sz n xs c):Rs w (some ⟨g,0,none⟩) xs:=by
 refine Or.inr ⟨_,rfl,fun i v hv=>?_⟩
 have h1:C[i]? = some v:=by
  rw [← hA.hd,List.getElem?_take] at hv
  split at hv
  ·simpa using hv
  ·exact absurd hv (by simp)
 rw [Addr.add_lit]
 unfold World.cell?
 simp only [hb]
 simpa using h1
theorem Is.of_av {w:World} {k:IntKind} {g c:Nat} {C:Array Value} {T:TypeId} {fr:Nat × Nat} {zs:List Int} (hb:w.heap[g]? = some (.cells C T fr)) (hA:Av C 1 zs.length (iv k zs) c) (hm:zs.length≤140737488351232):Is w k (some ⟨g,0,none⟩) c zs :=
 ⟨hA.le,hm,Rs.of_av hb hA⟩
def Fi (w0 w:World) (k:IntKind) (a:Option Addr) (c:Nat) (zs:List Int):Prop:=Is w k a c zs∧∀ p,a=some p→0<zs.length→w0.heap.size≤p.block
theorem Fi.nil {w0 w:World} {k:IntKind} {a:Option Addr} {c:Nat}:Fi w0 w k a c []:=⟨Is.nil,fun _ _ h=>absurd h (by simp)⟩
theorem Fi.of_av {w0 w:World} {k:IntKind} {g c:Nat} {C:Array Value} {T:TypeId} {fr:Nat × Nat} {zs:List Int} (hb:w0.heap.size≤g∧w.heap[g]? = some (.cells C T fr)) (hA:Av C 1 zs.length (iv k zs) c) (hm:zs.length≤140737488351232):Fi w0 w k (some ⟨g,0,none⟩) c zs :=
 ⟨Is.of_av hb.2 hA hm, fun p hp _ => by obtain rfl : (⟨g, 0, none⟩ : Addr) = p := by simpa using hp
                                        exact hb.1⟩
theorem Fi.pers {T:Nat→Prop} {w0 w:World} {k:IntKind} {a:Option Addr} {c:Nat} {zs:List Int} (h:Fi w0 w k a c zs) (hT:∀ b,T b→b<w0.heap.size):dL T (fun w=>Is w k a c zs) w :=
 h.1.pers (fun p hp hn hx=>absurd (h.2 p hp hn) (by have:=hT _ hx;omega))
theorem nX {P:Program} {w:World} {g m c:Nat} {vs:List Value} {T tx e':TypeId} {fr:Nat × Nat} {sz:Nat} (hk:P.underlying tx=some (.slice e')) (hb:w.heap[g]? = some (.cells vs.toArray T fr)) (hl:vs.length=m*sz) (h1:vs.all Value.oneCell'=true):Src P sz tx (.slice (some ⟨g,0,none⟩) m c) m vs w:=by
 refine Src.ofSlice w hk ⟨g,0,none⟩ m c vs hl (fun j u hu=>?_) (fun u hu=>List.all_eq_true.1 h1 u hu)
 rw [Addr.add_lit]
 unfold World.cell?
 simp only [hb]
 simpa using hu
section
variable {P : Program} {ops : Array Oper} {D : List Nat} {l : List (Nat × Value)} {w0 : Base} {h : List (Nat × Obj)} {F0 : World → Prop}
variable {vals : (Nat → bH) → Nat → Value} {effs : (Nat → bH) → Nat → Eff} {fact : (Nat → bH) → Nat → World → Prop}
end
theorem wrapU {k:IntKind} (hk:k.signed=false) (x:Nat):k.wrap (x:Int)=((x%2^k.bits:Nat):Int):=by
 simp [IntKind.wrap,hk]
theorem oO {k:IntKind} (hk:k.signed=false) {x:Nat} (h:x<2^k.bits):k.wrap (x:Int)=(x:Int):=by
 rw [wrapU hk,Nat.mod_eq_of_lt h]
theorem gG {P:Program} {t:TypeId} {k yk:IntKind} {x c:Nat} (h:x<2^k.bits) (w:World):(binOp .shr t (.int k (x:Int)) (.int yk (c:Int))).run P w=.ok (.int k ((x / 2^c:Nat):Int)) w:=by
 have e:Int.fdiv (x:Int) (2^(min (c:Int).toNat k.bits))=((x / 2^c:Nat):Int):=by
  rw [Int.toNat_natCast]
  rw [Int.fdiv_eq_ediv_of_nonneg _ (by exact Int.le_of_lt (Int.pow_pos (by decide)))]
  rw [show (2:Int)^(min c k.bits)=((2^(min c k.bits):Nat):Int) by simp,← Int.natCast_ediv]
  congr 1
  by_cases hc:c≤k.bits
  ·rw [Nat.min_eq_left hc]
  ·rw [Nat.min_eq_right (by omega), Nat.div_eq_of_lt h, Nat.div_eq_of_lt]
   exact Nat.lt_of_lt_of_le h (Nat.pow_le_pow_right (by decide) (by omega))
 simp only [binOp,Op.shift,if_neg (by omega: ¬ (c:Int)<0),e]
 rfl
theorem sV {P:Program} {t:TypeId} {k yk:IntKind} (hk:k.signed=false) {x c:Nat} (h:x*2^c<2^k.bits) (hx:0<x→c≤k.bits) (w:World):(binOp .shl t (.int k (x:Int)) (.int yk (c:Int))).run P w=.ok (.int k ((x*2^c:Nat):Int)) w:=by
 have e:k.wrap ((x:Int)*2^(min (c:Int).toNat k.bits))=((x*2^c:Nat):Int):=by
  rw [Int.toNat_natCast]
  rcases Nat.eq_zero_or_pos x with rfl | hp
  ·simp [IntKind.wrap,hk]
  ·rw [Nat.min_eq_left (hx hp),show (x:Int)*2^c=((x*2^c:Nat):Int) by simp,oO hk h]
 simp only [binOp,Op.shift,if_neg (by omega: ¬ (c:Int)<0),e]
 rfl
theorem bits_orU {k:IntKind} (hk:k.signed=false) {a b:Nat} (ha:a<2^k.bits) (hb:b<2^k.bits):bits .or k (a:Int) (b:Int)=((a|||b:Nat):Int):=by
 have e:∀ n:Nat,n<2^k.bits→(BitVec.ofInt k.bits (n:Int)).toNat=n:=by
  intro n hn
  rw [BitVec.toNat_ofInt]
  rw [show ((2^k.bits:Nat):Int)=((2^k.bits:Nat):Int) from rfl,← Int.natCast_emod,Int.toNat_natCast,Nat.mod_eq_of_lt hn]
 unfold bits
 simp only []
 rw [BitVec.toNat_or,e a ha,e b hb,oO hk (Nat.or_lt_two_pow ha hb)]
theorem bits_andU {k:IntKind} (hk:k.signed=false) {a b:Nat} (ha:a<2^k.bits) (hb:b<2^k.bits):bits .and k (a:Int) (b:Int)=((a&&&b:Nat):Int):=by
 have e:∀ n:Nat,n<2^k.bits→(BitVec.ofInt k.bits (n:Int)).toNat=n:=by
  intro n hn
  rw [BitVec.toNat_ofInt]
  rw [show ((2^k.bits:Nat):Int)=((2^k.bits:Nat):Int) from rfl,← Int.natCast_emod,Int.toNat_natCast,Nat.mod_eq_of_lt hn]
 unfold bits
 simp only []
 rw [BitVec.toNat_and,e a ha,e b hb,oO hk (Nat.and_lt_two_pow _ hb)]
theorem zT {P:Program} {t:TypeId} {k:IntKind} {n d:Nat} (hd:0<d) (w:World):(binOp .rem t (.int k (n:Int)) (.int k (d:Int))).run P w=.ok (.int k ((n%d:Nat):Int)) w:=by
 have e:Int.tmod (n:Int) (d:Int)=((n%d:Nat):Int):=by rw [Int.tmod_eq_emod_of_nonneg (by omega)];simp
 simp only [binOp,Op.intDiv,ne_eq,not_true_eq_false,if_false,if_neg (by omega: ¬ (d:Int)=0),e]
 rfl
theorem run_quoI {P:Program} {t:TypeId} {n d:Nat} (hd:0<d) (hn:n<9223372036854775808) (w:World):(binOp .quo t (.int .i64 (n:Int)) (.int .i64 (d:Int))).run P w=.ok (.int .i64 ((n / d:Nat):Int)) w:=by
 have e:Int.tdiv (n:Int) (d:Int)=((n / d:Nat):Int):=by rw [Int.tdiv_eq_ediv_of_nonneg (by omega)];simp
 have h1:n / d≤n:=Nat.div_le_self _ _
 have h2:IntKind.i64.wrap ((n / d:Nat):Int)=((n / d:Nat):Int):=by
  generalize n / d=q at h1
  exact IntWalk.i64_in _ (by omega)
 simp only [binOp,Op.intDiv,ne_eq,not_true_eq_false,if_false,if_neg (by omega: ¬ (d:Int)=0),e,h2]
 rfl
theorem nH:lJ prog 5:=u8like_of (by kernel_rfl)
theorem aW (x y:Nat) (h:x+y<9223372036854775808):IntKind.i64.wrap ((x:Int)+(y:Int))=((x+y:Nat):Int):=by
 rw [IntWalk.i64_in _ (by omega)];omega
theorem fQ (x y:Nat) (h:x*y<9223372036854775808):IntKind.i64.wrap ((x:Int)*(y:Int))=((x*y:Nat):Int):=by
 rw [← Int.natCast_mul]
 generalize x*y=z at h ⊢
 exact IntWalk.i64_in _ (by omega)
theorem u64N {x:Nat} (h:x<18446744073709551616):IntKind.u64.wrap (x:Int)=(x:Int):=oO rfl h
theorem u32N {x:Nat} (h:x<4294967296):IntKind.u32.wrap (x:Int)=(x:Int):=oO rfl h
theorem u8N {x:Nat} (h:x<256):IntKind.u8.wrap (x:Int)=(x:Int):=oO rfl h
theorem u32M (x:Nat):IntKind.u32.wrap (x:Int)=((x%4294967296:Nat):Int):=wrapU rfl x
theorem u8M (x:Nat):IntKind.u8.wrap (x:Int)=((x%256:Nat):Int):=wrapU rfl x
theorem vW (x y:Nat) (h:x+y<18446744073709551616):IntKind.u64.wrap ((x:Int)+(y:Int))=((x+y:Nat):Int):=by
 rw [← Int.natCast_add];exact u64N h
theorem u64_mulN (x y:Nat) (h:x*y<18446744073709551616):IntKind.u64.wrap ((x:Int)*(y:Int))=((x*y:Nat):Int):=by
 rw [← Int.natCast_mul];exact u64N h
theorem u64_subN (x y:Nat) (h:y≤x) (hx:x<18446744073709551616):IntKind.u64.wrap ((x:Int)-(y:Int))=((x-y:Nat):Int):=by
 rw [show (x:Int)-(y:Int)=((x-y:Nat):Int) by omega];exact u64N (by omega)
theorem gZ {x:Int} (h: -9223372036854775808≤x∧x<9223372036854775808):IntKind.i64.wrap x=x:=IntWalk.i64_in _ (by omega)
theorem xAU {x:Int} (h:(x != 0)=true):x≠0:=by simpa using h
theorem o5 {x:Int} (h:(x != 0)=false):x=0:=by simpa using h
theorem bneN {x k:Nat} (h:((x:Int) != (k:Int))=true):x≠k:=by
 intro e;subst e;simp at h
theorem bneN' {x k:Nat} (h:((x:Int) != (k:Int))=false):x=k:=by
 have:((x:Int))=(k:Int):=by simpa using h
 omega
theorem dF {b:Bool} (h:(!b)=true):b=false:=by simpa using h
theorem aV {b:Bool} (h:(!b)=false):b=true:=by simpa using h
theorem gB_app_r (P Q:List UInt8) (i:Nat):gB (P++Q) (P.length+i)=gB Q i:=by
 unfold gB
 rw [List.getD_eq_getElem?_getD,List.getD_eq_getElem?_getD,List.getElem?_append_right (by omega),Nat.add_sub_cancel_left]
theorem gB_app_l {P:List UInt8} (Q:List UInt8) {i:Nat} (h:i<P.length):gB (P++Q) i=gB P i:=by
 unfold gB
 rw [List.getD_eq_getElem?_getD,List.getD_eq_getElem?_getD,List.getElem?_append_left h]
theorem mid_at {P X Q:List UInt8} {l h:Nat} (hl:l=P.length) (hh:h=l+X.length):mid (P++X++Q) l h=X:=by
 unfold mid
 rw [List.take_append_of_le_length (by rw [List.length_append];omega),List.take_of_length_le (by rw [List.length_append];omega),hl,List.drop_left]
def add32 (x y:Nat):Nat:=(x+y)%4294967296
def aH (x n:Nat):Nat:=x*2^(32-n)%4294967296|||x / 2^n
def dW (x:Nat):Nat:=4294967295-x
theorem nP (x y:Nat):add32 x y<4294967296:=Nat.mod_lt _ (by decide)
theorem y9 (x:Nat):dW x<4294967296:=by unfold dW;omega
theorem lU {x y:Nat} (hx:x<4294967296) (hy:y<4294967296):x^^^y<4294967296:=Nat.xor_lt_two_pow (n:=32) hx hy
theorem iR {x:Nat} (y:Nat) (hx:x<4294967296):x&&&y<4294967296:=Nat.lt_of_le_of_lt Nat.and_le_left hx
theorem rV {x:Nat} (n:Nat) (hx:x<4294967296):x / 2^n<4294967296:=Nat.lt_of_le_of_lt (Nat.div_le_self _ _) hx
theorem dE {x:Nat} (n:Nat) (hx:x<4294967296):aH x n<4294967296 :=
 Nat.or_lt_two_pow (n:=32) (Nat.mod_lt _ (by decide)) (rV n hx)
def ss0 (x:Nat):Nat:=(aH x 7^^^aH x 18)^^^x / 2^3
def ss1 (x:Nat):Nat:=(aH x 17^^^aH x 19)^^^x / 2^10
def word (X:List UInt8) (n:Nat):Nat:=((gB X (4*n)*256+gB X (4*n+1))*256+gB X (4*n+2))*256+gB X (4*n+3)
def wstep (l:List Nat) (X:List UInt8) (n:Nat):Nat :=
 if n<16 then word X n else add32 (add32 (add32 (l.getD 15 0) (ss0 (l.getD 14 0))) (l.getD 6 0)) (ss1 (l.getD 1 0))
def wl (X:List UInt8):Nat→List Nat
 | 0=>[]
 | n+1=>wstep (wl X n) X n::wl X n
def wN (X:List UInt8) (j:Nat):Nat:=(wl X (j+1)).headD 0
theorem wl_get (X:List UInt8):∀ n k,k<n→(wl X n).getD k 0=wN X (n-1-k)
 | 0,k,h=>by omega
 | n+1,0,_=>by rw [Nat.sub_zero];simp only [Nat.add_sub_cancel];rfl
 | n + 1, k + 1, h => by
   rw [show n+1-1-(k+1)=n-1-k by omega,← wl_get X n k (by omega)]
   rfl
theorem word_lt (X:List UInt8) (n:Nat):word X n<4294967296:=by
 unfold word
 have:=iD X (4*n);have:=iD X (4*n+1);have:=iD X (4*n+2);have:=iD X (4*n+3)
 omega
theorem wN_step (X:List UInt8) (i:Nat):wN X i=wstep (wl X i) X i:=rfl
theorem wN_word {X:List UInt8} {i:Nat} (h:i<16):wN X i=word X i:=by
 rw [wN_step,wstep,if_pos h]
theorem wN_more {X:List UInt8} {i:Nat} (h:16≤i):wN X i=add32 (add32 (add32 (wN X (i-16)) (ss0 (wN X (i-15)))) (wN X (i-7))) (ss1 (wN X (i-2))):=by
 rw [wN_step,wstep,if_neg (by omega),wl_get X i 15 (by omega),wl_get X i 14 (by omega),wl_get X i 6 (by omega),wl_get X i 1 (by omega)]
 rw [show i-1-15=i-16 by omega,show i-1-14=i-15 by omega,show i-1-6=i-7 by omega,show i-1-1=i-2 by omega]
theorem iF (X:List UInt8) (i:Nat):wN X i<4294967296:=by
 by_cases h:i<16
 ·rw [wN_word h];exact word_lt X i
 ·rw [wN_more (by omega)];exact nP _ _
abbrev nS:Type:=Nat × Nat × Nat × Nat × Nat × Nat × Nat × Nat
def kL:List Nat:=[0x428a2f98,0x71374491,0xb5c0fbcf,0xe9b5dba5,0x3956c25b,0x59f111f1,0x923f82a4,0xab1c5ed5,0xd807aa98,0x12835b01,0x243185be,0x550c7dc3,0x72be5d74,0x80deb1fe,0x9bdc06a7,0xc19bf174,0xe49b69c1,0xefbe4786,0x0fc19dc6,0x240ca1cc,0x2de92c6f,0x4a7484aa,0x5cb0a9dc,0x76f988da,0x983e5152,0xa831c66d,0xb00327c8,0xbf597fc7,0xc6e00bf3,0xd5a79147,0x06ca6351,0x14292967,0x27b70a85,0x2e1b2138,0x4d2c6dfc,0x53380d13,0x650a7354,0x766a0abb,0x81c2c92e,0x92722c85,0xa2bfe8a1,0xa81a664b,0xc24b8b70,0xc76c51a3,0xd192e819,0xd6990624,0xf40e3585,0x106aa070,0x19a4c116,0x1e376c08,0x2748774c,0x34b0bcb5,0x391c0cb3,0x4ed8aa4a,0x5b9cca4f,0x682e6ff3,0x748f82ee,0x78a5636f,0x84c87814,0x8cc70208,0x90befffa,0xa4506ceb,0xbef9a3f7,0xc67178f2]
def kN (i:Nat):Nat:=kL.getD i 0
def bs0 (x:Nat):Nat:=(aH x 2^^^aH x 13)^^^aH x 22
def bs1 (x:Nat):Nat:=(aH x 6^^^aH x 11)^^^aH x 25
def chN (e f g:Nat):Nat:=(e&&&f)^^^(dW e&&&g)
def majN (a b c:Nat):Nat:=((a&&&b)^^^(a&&&c))^^^(b&&&c)
def t1N (k w e f g h:Nat):Nat:=add32 (add32 (add32 (add32 h (bs1 e)) (chN e f g)) k) w
def t2N (a b c:Nat):Nat:=add32 (bs0 a) (majN a b c)
def rnd (k w:Nat):nS→nS
 | (a,b,c,d,e,f,g,h)=>(add32 (t1N k w e f g h) (t2N a b c),a,b,c,add32 d (t1N k w e f g h),e,f,g)
def rnds (X:List UInt8) (s:nS):Nat→nS
 | 0=>s
 | i+1=>rnd (kN i) (wN X i) (rnds X s i)
def addS:nS→nS→nS
 | (a,b,c,d,e,f,g,h),(a',b',c',d',e',f',g',h')=>(add32 a a',add32 b b',add32 c c',add32 d d',add32 e e',add32 f f',add32 g g',add32 h h')
def eF (s:nS) (X:List UInt8):nS:=addS s (rnds X s 64)
def ok8:nS→Prop
 | (a,b,c,d,e,f,g,h)=>a<4294967296∧b<4294967296∧c<4294967296∧d<4294967296∧e<4294967296∧f<4294967296∧g<4294967296∧h<4294967296
theorem rnd_ok {k w:Nat} {s:nS} (h:ok8 s):ok8 (rnd k w s):=by
 obtain ⟨a,b,c,d,e,f,g,h'⟩:=s
 obtain ⟨h1,h2,h3,h4,h5,h6,h7,h8⟩:=h
 exact ⟨nP _ _,h1,h2,h3,nP _ _,h5,h6,h7⟩
theorem rnds_ok {X:List UInt8} {s:nS} (h:ok8 s):∀ i,ok8 (rnds X s i)
 | 0=>h
 | i+1=>rnd_ok (rnds_ok h i)
theorem addS_ok (s t:nS):ok8 (addS s t):=by
 obtain ⟨a,b,c,d,e,f,g,h⟩:=s
 obtain ⟨a',b',c',d',e',f',g',h'⟩:=t
 exact ⟨nP _ _,nP _ _,nP _ _,nP _ _,nP _ _,nP _ _,nP _ _,nP _ _⟩
theorem rnds_next {X:List UInt8} {s:nS} {i a b c d e f g h:Nat} (hr:rnds X s i=(a,b,c,d,e,f,g,h)) :
 rnds X s (i+1)=(add32 (t1N (kN i) (wN X i) e f g h) (t2N a b c),a,b,c,add32 d (t1N (kN i) (wN X i) e f g h),e,f,g):=by
 rw [rnds,hr];rfl
def zeros (n:Nat):Nat:=(64-(n+9)%64)%64
def be8 (x k:Nat):List UInt8:=(List.range k).map fun i=>ob ((x / 2^(56-8*i)%256:Nat):Int)
def aY (n:Nat):List UInt8:=128::(List.replicate (zeros n) 0++be8 (8*n) 8)
theorem be8_length (x k:Nat):(be8 x k).length=k:=by simp [be8]
theorem be8_succ (x k:Nat):be8 x (k+1)=be8 x k++[ob ((x / 2^(56-8*k)%256:Nat):Int)]:=by simp [be8,List.range_succ]
theorem yG (n:Nat):(aY n).length=zeros n+9:=by simp [aY,be8_length]
theorem aS (n:Nat):zeros n<64:=Nat.mod_lt _ (by decide)
def init8:nS:=(0x6a09e667,0xbb67ae85,0x3c6ef372,0xa54ff53a,0x510e527f,0x9b05688c,0x1f83d9ab,0x5be0cd19)
def xBK (m:List UInt8):Nat→nS
 | 0=>init8
 | i+1=>eF (xBK m i) (mid m (64*i) (64*i+64))
theorem xA (m:List UInt8):∀ i,ok8 (xBK m i)
 | 0=>⟨by decide,by decide,by decide,by decide,by decide,by decide,by decide,by decide⟩
 | i+1=>by rw [xBK,eF];exact addS_ok _ _
def iT:nS→Nat→Nat
 | (a,b,c,d,e,f,g,h),j=>([a,b,c,d,e,f,g,h]:List Nat).getD j 0
def xBL (s:nS):List UInt8:=(List.range 32).map fun m=>ob ((iT s (m / 4) / 2^(24-m%4*8)%256:Nat):Int)
theorem xAJ (s:nS):(xBL s).length=32:=by simp [xBL]
def xBN (b:List UInt8):List UInt8:=b++aY b.length
def xAO (b:List UInt8):List UInt8:=xBL (xBK (xBN b) ((xBN b).length / 64))
def aU (b:List UInt8):Nat:=nB (xAO b)
theorem xBM (b:List UInt8):(xAO b).length=32:=xAJ _
theorem shaN_lt (b:List UInt8):aU b<M:=nB_M (xBM b)
theorem hL_sha (b:List UInt8):hL (aU b)=xAO b:=hL_nB (xBM b)
def lV (t b:List UInt8):Nat:=aU ((xAO t++xAO t)++b)
theorem tagN_lt (t b:List UInt8):lV t b<M:=shaN_lt _
def bY (k:IntKind) (n:Nat) (f:Nat→Nat):Array Value:=((List.range n).map fun m=>Value.int k ((f m:Nat):Int)).toArray
theorem eH (k:IntKind) (n:Nat) (f:Nat→Nat):(bY k n f).size=n:=by simp [bY]
theorem nG {k:IntKind} {n:Nat} {f:Nat→Nat} {m:Nat} (h:m<n):(bY k n f)[m]? = some (.int k ((f m:Nat):Int)):=by
 simp [bY,h]
theorem wI {k:IntKind} {n:Nat} {f:Nat→Nat} {i v:Nat}:(bY k n f).setIfInBounds i (.int k ((v:Nat):Int))=bY k n (fun m=>if m=i then v else f m):=by
 apply Array.ext_getElem?
 intro m
 by_cases hm:m<n
 ·rw [nG hm]
  by_cases e:m=i
  ·subst e
   rw [Array.getElem?_setIfInBounds_self_of_lt (by rw [eH];exact hm),if_pos rfl]
  ·rw [Array.getElem?_setIfInBounds_ne (by omega),nG hm,if_neg e]
 ·rw [Array.getElem?_eq_none (by rw [Array.size_setIfInBounds,eH];omega),Array.getElem?_eq_none (by rw [eH];omega)]
theorem fG {k:IntKind} {n:Nat} {f g:Nat→Nat} (h:∀ m,m<n→f m=g m):bY k n f=bY k n g:=by
 unfold bY
 congr 1
 apply List.map_congr_left
 intro m hm
 rw [h m (List.mem_range.1 hm)]
theorem rowK_bytes (s:nS):bY .u8 32 (fun m=>iT s (m / 4) / 2^(24-m%4*8)%256)=hB (nB (xBL s)):=by
 rw [← hB_nB (xAJ s)]
 unfold bY xBL bs
 rw [List.map_map]
 congr 1
 apply List.map_congr_left
 intro m _
 show _=bv (ob _)
 rw [zW (by omega)]
theorem zG {X:List UInt8} {i:Nat} (h:i<X.length):(bs X).toArray[i]? = some (.int .u8 ((gB X i:Nat):Int)):=by
 rw [List.getElem?_toArray]
 unfold bs gB
 rw [List.getElem?_map,List.getElem?_eq_getElem h]
 simp [bv,List.getD,List.getElem?_eq_getElem h]
theorem sel_get {a b c d e f g h j:Nat} (hj:j<8):(#[Value.int .u32 ((a:Nat):Int),.int .u32 ((b:Nat):Int),.int .u32 ((c:Nat):Int),.int .u32 ((d:Nat):Int),.int .u32 ((e:Nat):Int),.int .u32 ((f:Nat):Int),.int .u32 ((g:Nat):Int),.int .u32 ((h:Nat):Int)]:Array Value)[j]? = some (.int .u32 ((iT (a,b,c,d,e,f,g,h) j:Nat):Int)):=by
 rcases (by omega:j=0∨j=1∨j=2∨j=3∨j=4∨j=5∨j=6∨j=7) with rfl | rfl | rfl | rfl | rfl | rfl | rfl | rfl<;>rfl
theorem sel8_lt {s:nS} (h:ok8 s) (j:Nat):iT s j<4294967296:=by
 obtain ⟨a,b,c,d,e,f,g,h'⟩:=s
 obtain ⟨h1,h2,h3,h4,h5,h6,h7,h8⟩:=h
 show ([a,b,c,d,e,f,g,h']:List Nat).getD j 0<4294967296
 rcases (by omega:j=0∨j=1∨j=2∨j=3∨j=4∨j=5∨j=6∨j=7∨8≤j) with rfl | rfl | rfl | rfl | rfl | rfl | rfl | rfl | hj<;>first | assumption | skip
 rw [List.getD_eq_getElem?_getD,List.getElem?_eq_none (by simpa using hj)]
 decide
def xZ (c:Int):Prop:=0≤c∧c≤1
theorem jD:xZ 0:=by unfold xZ;omega
theorem rZ:Word 0:=by unfold Word;omega
def cZ (x y c:Int):Int:=(x+y+c)%18446744073709551616
def dJ (x y c:Int):Int:=if x+y+c<18446744073709551616 then 0 else 1
theorem gQ (x y c:Int):Word (cZ x y c):=by unfold Word cZ;omega
theorem jO (x y c:Int):xZ (dJ x y c):=by unfold xZ dJ;split<;>omega
theorem add_eq {x y c:Int} (hx:Word x) (hy:Word y) (hc:xZ c):cZ x y c+18446744073709551616*dJ x y c=x+y+c:=by
 unfold Word xZ cZ dJ at *;split<;>omega
def qJ (x y c:Int):Int:=(x-y-c)%18446744073709551616
def iH (x y c:Int):Int:=if x<y+c then 1 else 0
theorem nT (x y c:Int):Word (qJ x y c):=by unfold Word qJ;omega
theorem lD (x y c:Int):xZ (iH x y c):=by unfold xZ iH;split<;>omega
theorem sub_eq {x y c:Int} (hx:Word x) (hy:Word y) (hc:xZ c):qJ x y c-18446744073709551616*iH x y c=x-y-c:=by
 unfold Word xZ qJ iH at *;split<;>omega
def bZ (x y:Int):Int:=(x*y)%18446744073709551616
def mJ (x y:Int):Int:=(x*y) / 18446744073709551616
theorem yO (x y:Int):Word (bZ x y):=by unfold Word bZ;omega
theorem mul_eq (x y:Int):bZ x y+18446744073709551616*mJ x y=x*y:=by unfold bZ mJ;omega
theorem add64 (x y c:Int) (hx:Word x) (hy:Word y) (hc:xZ c) (w:World):(callFunc 204 #[.int .u64 x,.int .u64 y,.int .u64 c]).run prog w=.ok (.value (.tuple #[.int .u64 (cZ x y c),.int .u64 (dJ x y c)])) w:=by
 unfold Word xZ at *
 rw [run_callFunc_extern func204 (by kernel_rfl) (by kernel_rfl) (by kernel_rfl) (e:=add64Entry) (by kernel_rfl),run_add64 x y c (by omega) (by omega) (by omega) (by omega)]
 simp only [Result.andThen]
 have e1:(x+y+c) / 18446744073709551616=dJ x y c:=by unfold dJ;split<;>omega
 rw [e1];rfl
theorem sub64 (x y b:Int) (hx:Word x) (hy:Word y) (hb:xZ b) (w:World):(callFunc 202 #[.int .u64 x,.int .u64 y,.int .u64 b]).run prog w=.ok (.value (.tuple #[.int .u64 (qJ x y b),.int .u64 (iH x y b)])) w:=by
 unfold Word xZ at *
 obtain ⟨x,rfl⟩:=Int.eq_ofNat_of_zero_le hx.1
 obtain ⟨y,rfl⟩:=Int.eq_ofNat_of_zero_le hy.1
 obtain ⟨b,rfl⟩:=Int.eq_ofNat_of_zero_le hb.1
 have e1:(((x+18446744073709551616-y-b)%18446744073709551616:Nat):Int)=qJ x y b:=by unfold qJ;omega
 have e2:((if x<y+b then 1 else 0:Nat):Int)=iH x y b:=by unfold iH;split<;>split<;>omega
 rw [run_callFunc_extern func202 (by kernel_rfl) (by kernel_rfl) (by kernel_rfl) (e:=sub64Entry) (by kernel_rfl),run_sub64 x y b (by omega),e1,e2]
 rfl
theorem rF {a b:Int} (h:a=b):Ending.returned (.int .i64 a)=.returned (.int .i64 b):=by rw [h]
theorem zS {a b:Bool} (h:a=b):Ending.returned (.bool a)=.returned (.bool b):=by rw [h]
theorem ret_Ub {a b:Value} {c d:Bool} (h:a=b) (h':c=d):Ending.returned (.tuple #[a,.bool c])=.returned (.tuple #[b,.bool d]):=by rw [h,h']
theorem ret_U {a b:Value} (h:a=b):Ending.returned a=.returned b:=by rw [h]
theorem bt {p : Prop} (h : p := by
    repeat' (first | (with_reducible exact Below.refl _ _) | (with_reducible assumption) | (with_reducible refine below_drewN ?_ _) | (with_reducible refine Below.drew ?_) | (with_reducible refine Below.setCell ?_ ?_ _) | (with_reducible refine Below.alloc ?_ ?_ _) | (with_reducible exact Nat.le_refl _) | omega | (simp; omega) | (simp; done))) : p := h
set_option maxHeartbeats 1000000 in
theorem uN (A B:Nat) (w:World) (hA:A<M) (hB:B<M) :
 Calls prog 151 #[U A,U B] w fun e w'=>e=.returned (.int .i64 (fJ A B))∧Below w.heap.size w w':=by
 go_enter func151,Tryz.ntmps151
 go_wp2
 refine wp_loop_rounds 5 ?_
 repeat' (first | (rw [rounds_succ];go_wp2) | (go_quiet (fail);go_wp2))
 all_goals (go_ret;have ea:=pO A hA;have eb:=pO B hB;have a0:=bG A 0;have a1:=bG A 1;have a2:=bG A 2;have a3:=bG A 3;have b0:=bG B 0;have b1:=bG B 1;have b2:=bG B 2;have b3:=bG B 3;unfold Word at a0 a1 a2 a3 b0 b1 b2 b3;refine ⟨rF (cmpN_of ?_ ?_ ?_),?_⟩;all_goals (first | (intro hh;first | rfl | (exfalso;omega)) | (exact bt)))
set_option maxHeartbeats 1000000 in
theorem xAI (A B:Nat) (w:World) (hA:A<M) (hB:B<M) :
 Calls prog 148 #[U A,U B] w fun e w'=>e=.returned (.int .i64 (fJ A B))∧Below w.heap.size w w':=by
 go_enter func148,Tryz.ntmps148
 go_wp2
 refine wp_loop_rounds 5 ?_
 repeat' (first | (rw [rounds_succ];go_wp2) | (go_quiet (fail);go_wp2))
 all_goals (go_ret;have ea:=pO A hA;have eb:=pO B hB;have a0:=bG A 0;have a1:=bG A 1;have a2:=bG A 2;have a3:=bG A 3;have b0:=bG B 0;have b1:=bG B 1;have b2:=bG B 2;have b3:=bG B 3;unfold Word at a0 a1 a2 a3 b0 b1 b2 b3;refine ⟨rF (cmpN_of ?_ ?_ ?_),?_⟩;all_goals (first | (intro hh;first | rfl | (exfalso;omega)) | (exact bt)))
theorem add_words (A B:Nat) (hA:A<M) (hB:B<M) :
 Value.agg #[.int .u64 (cZ (wd A 0) (wd B 0) 0),.int .u64 (cZ (wd A 1) (wd B 1) (dJ (wd A 0) (wd B 0) 0)),.int .u64 (cZ (wd A 2) (wd B 2) (dJ (wd A 1) (wd B 1) (dJ (wd A 0) (wd B 0) 0))),.int .u64 (cZ (wd A 3) (wd B 3) (dJ (wd A 2) (wd B 2) (dJ (wd A 1) (wd B 1) (dJ (wd A 0) (wd B 0) 0))))]=U ((A+B)%M) ∧
 (((A+B:Nat):Int)=((A+B)%M:Nat)+(M:Int)*dJ (wd A 3) (wd B 3) (dJ (wd A 2) (wd B 2) (dJ (wd A 1) (wd B 1) (dJ (wd A 0) (wd B 0) 0)))):=by
 have ea:=pO A hA
 have eb:=pO B hB
 have p0:=add_eq (bG A 0) (bG B 0) jD
 have q0:=jO (wd A 0) (wd B 0) 0
 have r0:=gQ (wd A 0) (wd B 0) 0
 generalize dJ (wd A 0) (wd B 0) 0=k0 at *
 have p1:=add_eq (bG A 1) (bG B 1) q0
 have q1:=jO (wd A 1) (wd B 1) k0
 have r1:=gQ (wd A 1) (wd B 1) k0
 generalize dJ (wd A 1) (wd B 1) k0=k1 at *
 have p2:=add_eq (bG A 2) (bG B 2) q1
 have q2:=jO (wd A 2) (wd B 2) k1
 have r2:=gQ (wd A 2) (wd B 2) k1
 generalize dJ (wd A 2) (wd B 2) k1=k2 at *
 have p3:=add_eq (bG A 3) (bG B 3) q2
 have q3:=jO (wd A 3) (wd B 3) k2
 have r3:=gQ (wd A 3) (wd B 3) k2
 generalize dJ (wd A 3) (wd B 3) k2=k3 at *
 generalize cZ (wd A 0) (wd B 0) 0=s0 at *
 generalize cZ (wd A 1) (wd B 1) k0=s1 at *
 generalize cZ (wd A 2) (wd B 2) k1=s2 at *
 generalize cZ (wd A 3) (wd B 3) k2=s3 at *
 have key:(((A+B)%M:Nat):Int)=s0+18446744073709551616*s1+340282366920938463463374607431768211456*s2+6277101735386680763835789423207666416102355444464034512896*s3∧(((A+B:Nat):Int)=((A+B)%M:Nat)+(M:Int)*k3):=by
  have hs:((A+B:Nat):Int)=s0+18446744073709551616*s1+340282366920938463463374607431768211456*s2+6277101735386680763835789423207666416102355444464034512896*s3+M*k3:=by
   rw [mQ];omega
  unfold Word xZ at *
  rw [mQ] at *
  omega
 exact ⟨sG _ r0 r1 r2 r3 key.1,key.2⟩
theorem bit_ne_zero {c:Int} (h:xZ c) {p:Prop} [Decidable p] (hp:c=1↔p):(c != 0)=decide p:=by
 unfold xZ at h
 by_cases hh:c=1
 ·rw [decide_eq_true (hp.1 hh),hh];rfl
 ·rw [decide_eq_false (fun x=>hh (hp.2 x)),show c=0 by omega];rfl
theorem bit_eq_one {c:Int} (h:xZ c) {p:Prop} [Decidable p] (hp:c=1↔p):(c==1)=decide p:=by
 unfold xZ at h
 by_cases hh:c=1
 ·rw [decide_eq_true (hp.1 hh),hh];rfl
 ·rw [decide_eq_false (fun x=>hh (hp.2 x)),show c=0 by omega];rfl
theorem add_carry (A B:Nat) (hA:A<M) (hB:B<M):dJ (wd A 3) (wd B 3) (dJ (wd A 2) (wd B 2) (dJ (wd A 1) (wd B 1) (dJ (wd A 0) (wd B 0) 0)))=1↔M≤A+B:=by
 have h:=(add_words A B hA hB).2
 have h2:=jO (wd A 3) (wd B 3) (dJ (wd A 2) (wd B 2) (dJ (wd A 1) (wd B 1) (dJ (wd A 0) (wd B 0) 0)))
 generalize dJ (wd A 3) (wd B 3) (dJ (wd A 2) (wd B 2) (dJ (wd A 1) (wd B 1) (dJ (wd A 0) (wd B 0) 0)))=k at *
 unfold xZ at h2;rw [mQ] at *
 rcases (by omega:k=0∨k=1) with rfl | rfl<;>omega
set_option maxHeartbeats 1000000 in
theorem add_any (A B:Nat) (w:World) (hA:A<M) (hB:B<M) :
 Calls prog 211 #[U A,U B] w fun e w'=>e=.returned (.tuple #[U ((A+B)%M),.bool (decide (M≤A+B))])∧Below w.heap.size w w':=by
 have h55:=add64;have h1:=bG;have h2:=gQ;have h3:=jO;have h4:=jD
 go_enter func211,Tryz.ntmps211
 go_wp2
 refine wp_loop_rounds 5 ?_
 repeat (rw [rounds_succ];go_wp2;try (go_region;go_wp2))
 go_returns
 refine ⟨ret_Ub (add_words A B hA hB).1 (bit_ne_zero (jO _ _ _) (add_carry A B hA hB)),?_⟩
 (exact bt)
set_option maxHeartbeats 1000000 in
theorem radd_any (A B:Nat) (w:World) (hA:A<M) (hB:B<M) :
 Calls prog 189 #[U A,U B] w fun e w'=>e=.returned (.tuple #[U ((A+B)%M),.bool (decide (M≤A+B))])∧Below w.heap.size w w':=by
 have h55:=add64;have h1:=bG;have h2:=gQ;have h3:=jO;have h4:=jD
 go_enter func189,Tryz.ntmps189
 go_wp2
 refine wp_loop_rounds 5 ?_
 repeat (rw [rounds_succ];go_wp2;try (go_region;go_wp2))
 go_returns
 refine ⟨ret_Ub (add_words A B hA hB).1 (bit_eq_one (jO _ _ _) (add_carry A B hA hB)),?_⟩
 (exact bt)
theorem sub_words (A B:Nat) (hA:A<M) (hB:B<M) :
 Value.agg #[.int .u64 (qJ (wd A 0) (wd B 0) 0),.int .u64 (qJ (wd A 1) (wd B 1) (iH (wd A 0) (wd B 0) 0)),.int .u64 (qJ (wd A 2) (wd B 2) (iH (wd A 1) (wd B 1) (iH (wd A 0) (wd B 0) 0))),.int .u64 (qJ (wd A 3) (wd B 3) (iH (wd A 2) (wd B 2) (iH (wd A 1) (wd B 1) (iH (wd A 0) (wd B 0) 0))))]=U ((A+M-B)%M) ∧
 (((A:Int)-B)=((A+M-B)%M:Nat)-(M:Int)*iH (wd A 3) (wd B 3) (iH (wd A 2) (wd B 2) (iH (wd A 1) (wd B 1) (iH (wd A 0) (wd B 0) 0)))):=by
 have ea:=pO A hA
 have eb:=pO B hB
 have p0:=sub_eq (bG A 0) (bG B 0) jD
 have q0:=lD (wd A 0) (wd B 0) 0
 have r0:=nT (wd A 0) (wd B 0) 0
 generalize iH (wd A 0) (wd B 0) 0=k0 at *
 have p1:=sub_eq (bG A 1) (bG B 1) q0
 have q1:=lD (wd A 1) (wd B 1) k0
 have r1:=nT (wd A 1) (wd B 1) k0
 generalize iH (wd A 1) (wd B 1) k0=k1 at *
 have p2:=sub_eq (bG A 2) (bG B 2) q1
 have q2:=lD (wd A 2) (wd B 2) k1
 have r2:=nT (wd A 2) (wd B 2) k1
 generalize iH (wd A 2) (wd B 2) k1=k2 at *
 have p3:=sub_eq (bG A 3) (bG B 3) q2
 have q3:=lD (wd A 3) (wd B 3) k2
 have r3:=nT (wd A 3) (wd B 3) k2
 generalize iH (wd A 3) (wd B 3) k2=k3 at *
 generalize qJ (wd A 0) (wd B 0) 0=s0 at *
 generalize qJ (wd A 1) (wd B 1) k0=s1 at *
 generalize qJ (wd A 2) (wd B 2) k1=s2 at *
 generalize qJ (wd A 3) (wd B 3) k2=s3 at *
 have key:(((A+M-B)%M:Nat):Int)=s0+18446744073709551616*s1+340282366920938463463374607431768211456*s2+6277101735386680763835789423207666416102355444464034512896*s3∧(((A:Int)-B)=((A+M-B)%M:Nat)-(M:Int)*k3):=by
  have hs:(A:Int)-B=s0+18446744073709551616*s1+340282366920938463463374607431768211456*s2+6277101735386680763835789423207666416102355444464034512896*s3-M*k3:=by
   rw [mQ];omega
  unfold Word xZ at *
  rw [mQ] at *
  omega
 exact ⟨sG _ r0 r1 r2 r3 key.1,key.2⟩
theorem sub_borrow (A B:Nat) (hA:A<M) (hB:B<M):iH (wd A 3) (wd B 3) (iH (wd A 2) (wd B 2) (iH (wd A 1) (wd B 1) (iH (wd A 0) (wd B 0) 0)))=1↔A<B:=by
 have h:=(sub_words A B hA hB).2
 have h2:=lD (wd A 3) (wd B 3) (iH (wd A 2) (wd B 2) (iH (wd A 1) (wd B 1) (iH (wd A 0) (wd B 0) 0)))
 generalize iH (wd A 3) (wd B 3) (iH (wd A 2) (wd B 2) (iH (wd A 1) (wd B 1) (iH (wd A 0) (wd B 0) 0)))=k at *
 unfold xZ at h2;rw [mQ] at *
 rcases (by omega:k=0∨k=1) with rfl | rfl<;>omega
set_option maxHeartbeats 1000000 in
theorem sub_any (A B:Nat) (w:World) (hA:A<M) (hB:B<M) :
 Calls prog 212 #[U A,U B] w fun e w'=>e=.returned (.tuple #[U ((A+M-B)%M),.bool (decide (A<B))])∧Below w.heap.size w w':=by
 have h55:=sub64;have h1:=bG;have h2:=nT;have h3:=lD;have h4:=jD
 go_enter func212,Tryz.ntmps212
 go_wp2
 refine wp_loop_rounds 5 ?_
 repeat (rw [rounds_succ];go_wp2;try (go_region;go_wp2))
 go_returns
 refine ⟨ret_Ub (sub_words A B hA hB).1 (bit_ne_zero (lD _ _ _) (sub_borrow A B hA hB)),?_⟩
 (exact bt)
set_option maxHeartbeats 1000000 in
theorem zQ (A B:Nat) (w:World) (hA:A<M) (hB:B<M) :
 Calls prog 184 #[U A,U B] w fun e w'=>e=.returned (.tuple #[U ((A+M-B)%M),.bool (decide (A<B))])∧Below w.heap.size w w':=by
 have h55:=sub64;have h1:=bG;have h2:=nT;have h3:=lD;have h4:=jD
 go_enter func184,Tryz.ntmps184
 go_wp2
 refine wp_loop_rounds 5 ?_
 repeat (rw [rounds_succ];go_wp2;try (go_region;go_wp2))
 go_returns
 refine ⟨ret_Ub (sub_words A B hA hB).1 (bit_eq_one (lD _ _ _) (sub_borrow A B hA hB)),?_⟩
 (exact bt)
theorem M_pow:M=2^256:=by rw [mQ]
theorem B64_pow:(18446744073709551616:Nat)=2^64:=rfl
theorem yI (A i:Nat):wd A i=((A / 2^(64*i)%2^64:Nat):Int):=by
 unfold wd;rw [B64_pow,← Nat.pow_mul]
theorem uO {q p:Nat} (h:q%2^(p+1)=0):∃ a,q=a*2^(p+1) :=
 ⟨q / 2^(p+1),by have:=Nat.div_add_mod q (2^(p+1));rw [h] at this;rw [Nat.mul_comm];omega⟩
theorem setbit_hi (q p j:Nat) (h:q%2^(p+1)=0) (hj:p+1≤64*j):wd (q+2^p) j=wd q j:=by
 rw [yI,yI]
 congr 2
 obtain ⟨a,rfl⟩:=uO h
 have e:64*j=(p+1)+(64*j-(p+1)):=by omega
 have e2:2^(64*j)=2^(p+1)*2^(64*j-(p+1)):=by rw [← Nat.pow_add,← e]
 rw [e2,← Nat.div_div_eq_div_mul,← Nat.div_div_eq_div_mul]
 have hp:0<2^(p+1):=Nat.pow_pos (by decide)
 have h1:(a*2^(p+1)+2^p) / 2^(p+1)=a:=by
  rw [Nat.add_comm,Nat.add_mul_div_right _ _ hp,Nat.div_eq_of_lt (Nat.pow_lt_pow_right (by decide) (by omega))];omega
 rw [h1,Nat.mul_div_cancel _ hp]
theorem setbit_lo (q p j:Nat) (hj:64*(j+1)≤p):wd (q+2^p) j=wd q j:=by
 rw [yI,yI]
 congr 1
 have hp:0<2^(64*j):=Nat.pow_pos (by decide)
 have e:2^p=2^(p-64*j-64)*2^64*2^(64*j):=by rw [← Nat.pow_add,← Nat.pow_add];congr 1;omega
 rw [e,Nat.add_mul_div_right _ _ hp,Nat.add_mul_mod_self_right]
theorem setbit_at (q j b:Nat) (hb:b<64) (h:q%2^(64*j+b+1)=0):bits .or .u64 (wd q j) (2^b)=wd (q+2^(64*j+b)) j:=by
 rw [yI,yI]
 obtain ⟨a,rfl⟩:=uO h
 have hp:0<2^(64*j):=Nat.pow_pos (by decide)
 have e1:a*2^(64*j+b+1)=a*2^(b+1)*2^(64*j):=by rw [Nat.mul_assoc,← Nat.pow_add];congr 2;omega
 have e2:2^(64*j+b)=2^b*2^(64*j):=by rw [← Nat.pow_add];congr 1;omega
 rw [e2,Nat.add_mul_div_right _ _ hp,e1,Nat.mul_div_cancel _ hp]
 have e3:2^64=2^(63-b)*2^(b+1):=by rw [← Nat.pow_add];congr 1;omega
 have e4:a*2^(b+1)%2^64=a%2^(63-b)*2^(b+1):=by rw [e3,Nat.mul_mod_mul_right]
 have hl:a%2^(63-b)<2^(63-b):=Nat.mod_lt _ (Nat.pow_pos (by decide))
 have hb2:2^(b+1)=2*2^b:=by rw [Nat.pow_succ];omega
 have hpb:0<2^b:=Nat.pow_pos (by decide)
 have hle:(a%2^(63-b)+1)*2^(b+1)≤2^64:=by rw [e3];exact Nat.mul_le_mul_right _ hl
 have e5:(a*2^(b+1)+2^b)%2^64=a%2^(63-b)*2^(b+1)+2^b:=by
  rw [Nat.add_mod,e4,Nat.mod_eq_of_lt (a:=2^b) (Nat.pow_lt_pow_right (by decide) hb),Nat.mod_eq_of_lt]
  rw [Nat.add_mul] at hle;omega
 rw [e5,e4]
 rw [Nat.add_mul] at hle
 have hc:((2:Int)^b)=((2^b:Nat):Int):=by simp
 have hlt1:a%2^(63-b)*2^(b+1)<18446744073709551616:=by rw [B64_pow];omega
 have hlt2:2^b<18446744073709551616:=by rw [B64_pow];omega
 rw [hc,bits_or_u64_nat _ _ hlt1 hlt2]
 congr 1
 exact or_add _ _ _ (Nat.pow_lt_pow_right (by decide) (by omega))
def dT (N i:Nat):Nat:=N / 2^(256-i)
def dLo (lo i:Nat):Nat:=lo*2^i%M
def dR (N b i:Nat):Nat:=dT N i%b
def dQ (N b i:Nat):Nat:=dT N i / b*2^(256-i)
theorem dLo_lt (lo i:Nat):dLo lo i<M:=Nat.mod_lt _ (by rw [mQ];decide)
theorem dLo_zero {lo:Nat} (h:lo<M):dLo lo 0=lo:=by unfold dLo;rw [Nat.pow_zero,Nat.mul_one,Nat.mod_eq_of_lt h]
theorem dLo_step (lo i:Nat):2*dLo lo i%M=dLo lo (i+1):=by
 unfold dLo;rw [Nat.mul_mod_mod,Nat.pow_succ];congr 1;rw [Nat.mul_comm 2,Nat.mul_assoc]
theorem dT_zero {hi lo:Nat} (h:lo<M):dT (hi*M+lo) 0=hi:=by
 unfold dT;rw [Nat.sub_zero,← M_pow,Nat.add_comm,Nat.add_mul_div_right _ _ (by rw [mQ];decide),Nat.div_eq_of_lt h];omega
theorem dT_step (hi lo i : Nat) (h : i < 256) : dT (hi * M + lo) (i + 1) = 2 * dT (hi * M + lo) i + 2 * dLo lo i / M := by
 unfold dT dLo
 rw [M_pow] at *
 have e0:256-i=(256-(i+1))+1:=by omega
 generalize hk:256-(i+1)=k at *
 rw [e0]
 have hi':i=255-k:=by omega
 have hlo:=Nat.div_add_mod lo (2^(k+1))
 have hv:lo%2^(k+1)<2^(k+1):=Nat.mod_lt _ (Nat.pow_pos (by decide))
 generalize lo / 2^(k+1)=u at *
 generalize lo%2^(k+1)=v at *
 have pk:2^(k+1)=2*2^k:=by rw [Nat.pow_succ];omega
 have p0:0<2^k:=Nat.pow_pos (by decide)
 have p256:(2:Nat)^256=2^(255-k)*2^(k+1):=by rw [← Nat.pow_add];congr 1;omega
 have e1:(hi*2^256+lo) / 2^(k+1)=hi*2^(255-k)+u:=by
  rw [p256,← hlo,show hi*(2^(255-k)*2^(k+1))+(2^(k+1)*u+v)=v+(hi*2^(255-k)+u)*2^(k+1) by rw [Nat.add_mul,Nat.mul_assoc,Nat.mul_comm u];omega,
   Nat.add_mul_div_right _ _ (Nat.pow_pos (by decide)),Nat.div_eq_of_lt hv];omega
 have e2:(hi*2^256+lo) / 2^k=2*(hi*2^(255-k)+u)+v / 2^k:=by
  rw [p256,← hlo,show hi*(2^(255-k)*2^(k+1))+(2^(k+1)*u+v)=v+(2*(hi*2^(255-k)+u))*2^k by
   rw [pk]
   have a1:hi*(2^(255-k)*(2*2^k))=2*(hi*2^(255-k))*2^k:=by
    rw [← Nat.mul_assoc,← Nat.mul_assoc,Nat.mul_comm (hi*2^(255-k)) 2]
   have a2:2*2^k*u=2*u*2^k:=by rw [Nat.mul_assoc,Nat.mul_comm (2^k),← Nat.mul_assoc]
   rw [a1,a2,Nat.mul_add,Nat.add_mul];omega,
   Nat.add_mul_div_right _ _ p0];omega
 have e3:lo*2^i%2^256=v*2^(255-k):=by
  rw [hi',← hlo,Nat.add_mul,p256,show 2^(k+1)*u*2^(255-k)=u*(2^(255-k)*2^(k+1)) by rw [Nat.mul_comm (2^(k+1)),Nat.mul_assoc,Nat.mul_comm (2^(k+1))],
   Nat.add_comm,Nat.add_mul_mod_self_right,Nat.mod_eq_of_lt]
  rw [Nat.mul_comm (2^(255-k))];exact Nat.mul_lt_mul_of_pos_right hv (Nat.pow_pos (by decide))
 have e4:2*(v*2^(255-k)) / 2^256=v / 2^k:=by
  rw [p256,pk,show 2*(v*2^(255-k))=v*(2^(255-k)*2) by rw [← Nat.mul_assoc,← Nat.mul_assoc,Nat.mul_comm 2 v,Nat.mul_assoc,Nat.mul_comm 2,← Nat.mul_assoc],
   show 2^(255-k)*(2*2^k)=2^k*(2^(255-k)*2) by rw [← Nat.mul_assoc,Nat.mul_comm],Nat.mul_div_mul_right _ _ (by have:0<2^(255-k):=Nat.pow_pos (by decide);omega)]
 rw [e1,e2,e3,e4]
theorem dbit (lo i:Nat):2*dLo lo i / M≤1:=by
 have:=dLo_lt lo i
 have hM:0<M:=by rw [mQ];decide
 rw [← Nat.lt_succ_iff,Nat.div_lt_iff_lt_mul hM];omega
theorem dQ_low (N b i:Nat) (_h:i<256):dQ N b i%2^(255-i+1)=0:=by
 unfold dQ;rw [show 255-i+1=256-i by omega];exact Nat.mul_mod_left _ _
theorem d_yes (hi lo b i:Nat) (hb:0<b) (h:i<256) (hge:b≤2*dR (hi*M+lo) b i+2*dLo lo i / M) :
 dR (hi*M+lo) b (i+1)=2*dR (hi*M+lo) b i+2*dLo lo i / M-b∧dQ (hi*M+lo) b (i+1)=dQ (hi*M+lo) b i+2^(255-i):=by
 have hT:=dT_step hi lo i h
 have hbit:=dbit lo i
 unfold dR dQ at *
 generalize dT (hi*M+lo) (i+1)=T' at *
 generalize dT (hi*M+lo) i=T at *
 generalize 2*dLo lo i / M=c at *
 have hd:=Nat.div_add_mod T b
 have hr:=Nat.mod_lt T hb
 generalize T / b=q at *
 generalize T%b=r at *
 have e:T'=(2*r+c-b)+(2*q+1)*b:=by rw [hT,← hd,Nat.add_mul,Nat.mul_assoc,Nat.mul_comm q b];omega
 have h1:2*r+c-b<b:=by omega
 rw [e,Nat.add_mul_mod_self_right,Nat.mod_eq_of_lt h1,Nat.add_mul_div_right _ _ hb,Nat.div_eq_of_lt h1]
 refine ⟨rfl,?_⟩
 rw [show 256-(i+1)=255-i by omega,show 256-i=255-i+1 by omega,Nat.pow_succ,Nat.zero_add,Nat.add_mul,Nat.one_mul,Nat.mul_comm 2 q,Nat.mul_assoc,Nat.mul_comm 2]
theorem d_no (hi lo b i:Nat) (hb:0<b) (h:i<256) (hge:2*dR (hi*M+lo) b i+2*dLo lo i / M<b) :
 dR (hi*M+lo) b (i+1)=2*dR (hi*M+lo) b i+2*dLo lo i / M∧dQ (hi*M+lo) b (i+1)=dQ (hi*M+lo) b i:=by
 have hT:=dT_step hi lo i h
 have hbit:=dbit lo i
 unfold dR dQ at *
 generalize dT (hi*M+lo) (i+1)=T' at *
 generalize dT (hi*M+lo) i=T at *
 generalize 2*dLo lo i / M=c at *
 have hd:=Nat.div_add_mod T b
 generalize T / b=q at *
 generalize T%b=r at *
 have e:T'=(2*r+c)+(2*q)*b:=by rw [hT,← hd,Nat.mul_assoc,Nat.mul_comm q b];omega
 rw [e,Nat.add_mul_mod_self_right,Nat.mod_eq_of_lt hge,Nat.add_mul_div_right _ _ hb,Nat.div_eq_of_lt hge]
 refine ⟨rfl,?_⟩
 rw [show 256-(i+1)=255-i by omega,show 256-i=255-i+1 by omega,Nat.pow_succ,Nat.zero_add,Nat.mul_comm 2 q,Nat.mul_assoc,Nat.mul_comm 2]
theorem dR_lt (N b i:Nat) (hb:0<b):dR N b i<b:=Nat.mod_lt _ hb
theorem d_start {hi lo b:Nat} (hl:lo<M) (hb:hi<b):dR (hi*M+lo) b 0=hi∧dQ (hi*M+lo) b 0=0:=by
 unfold dR dQ;rw [dT_zero hl,Nat.mod_eq_of_lt hb,Nat.div_eq_of_lt hb];exact ⟨rfl,Nat.zero_mul _⟩
theorem d_end (N b:Nat):dR N b 256=N%b∧dQ N b 256=N / b:=by
 unfold dR dQ dT;simp
theorem d_early {hi lo b i:Nat} (h:i≤256) (hr:dR (hi*M+lo) b i=0) (h0:dLo lo i=0):dR (hi*M+lo) b i=(hi*M+lo)%b∧dQ (hi*M+lo) b i=(hi*M+lo) / b:=by
 have key:∀ k,i+k≤256→dT (hi*M+lo) (i+k)=dT (hi*M+lo) i*2^k∧dLo lo (i+k)=0:=by
  intro k
  induction k with
  | zero=>intro _;exact ⟨by simp,h0⟩
  | succ k ih =>
    intro hk
    obtain ⟨h1,h2⟩:=ih (by omega)
    have h3:=dT_step hi lo (i+k) (by omega)
    have h4:=dLo_step lo (i+k)
    rw [h2] at h3 h4
    refine ⟨?_,?_⟩
    ·rw [← Nat.add_assoc,h3,h1,Nat.mul_zero,Nat.zero_div,Nat.pow_succ,Nat.add_zero,Nat.mul_comm 2,Nat.mul_assoc]
    ·rw [← Nat.add_assoc,← h4];simp
 have hN:hi*M+lo=dT (hi*M+lo) i*2^(256-i):=by
  have:=(key (256-i) (by omega)).1
  rw [show i+(256-i)=256 by omega] at this
  rw [← this];unfold dT;simp
 unfold dR dQ at *
 generalize dT (hi*M+lo) i=T at *
 rw [hN]
 by_cases hb:b=0
 ·subst hb;simp at *;simp [hr]
 ·have hb' : 0 < b := by omega
  have hd:=Nat.div_add_mod T b
  rw [hr] at hd
  rw [hr]
  generalize T / b=q at *
  have e:T*2^(256-i)=q*2^(256-i)*b:=by rw [← hd,Nat.add_zero,Nat.mul_comm b q,Nat.mul_right_comm]
  rw [e,Nat.mul_mod_left,Nat.mul_div_cancel _ hb']
  exact ⟨rfl,rfl⟩
theorem U_small (n:Nat) (hn:n<18446744073709551616):Value.agg #[.int .u64 n,.int .u64 0,.int .u64 0,.int .u64 0]=U n :=
 sG n ⟨by omega,by omega⟩ rZ rZ rZ (by omega)
set_option maxHeartbeats 1000000 in
theorem fromuint_any (n:Int) (w:World) (hn:Word n) :
 Calls prog 131 #[.int .u64 n] w fun e w'=>e=.returned (U n.toNat)∧Below w.heap.size w w':=by
 obtain ⟨n,rfl⟩:=Int.eq_ofNat_of_zero_le hn.1
 have h2:=hn.2
 go_enter func131,Tryz.ntmps131
 go_wp2
 go_returns
 refine ⟨ret_U (U_small n (by omega)),?_⟩
 (exact bt)
theorem zZ {x c:Int} (_hx:Word x) (hc:xZ c):bits .or .u64 (IntKind.u64.wrap (x*2)) c=(x*2)%18446744073709551616+c:=by
 unfold Word xZ at *
 rw [IntKind.wrap_u64]
 have e:x*2%18446744073709551616=(x%9223372036854775808)*2^1:=by omega
 have h:=uJ (x%9223372036854775808) c 1 (by omega) hc.1 (by omega) (by omega)
 rw [← e] at h
 exact h
theorem dbl_bit {x:Int} (hx:Word x):xZ (x / 9223372036854775808):=by unfold Word xZ at *;omega
theorem dbl_words (A:Nat) (c:Int) (hA:A<M) (hc:xZ c) :
 Value.agg #[.int .u64 (bits .or .u64 (IntKind.u64.wrap (wd A 0*2)) c),.int .u64 (bits .or .u64 (IntKind.u64.wrap (wd A 1*2)) (wd A 0 / 9223372036854775808)),.int .u64 (bits .or .u64 (IntKind.u64.wrap (wd A 2*2)) (wd A 1 / 9223372036854775808)),.int .u64 (bits .or .u64 (IntKind.u64.wrap (wd A 3*2)) (wd A 2 / 9223372036854775808))]=U ((2*A+c.toNat)%M)∧wd A 3 / 9223372036854775808=(((2*A+c.toNat) / M:Nat):Int):=by
 have w0:=bG A 0;have w1:=bG A 1;have w2:=bG A 2;have w3:=bG A 3
 have ea:=pO A hA
 rw [zZ w0 hc,zZ w1 (dbl_bit w0),zZ w2 (dbl_bit w1),zZ w3 (dbl_bit w2)]
 generalize wd A 0=a0 at *;generalize wd A 1=a1 at *;generalize wd A 2=a2 at *;generalize wd A 3=a3 at *
 unfold Word xZ at *
 refine ⟨sG _ ?_ ?_ ?_ ?_ ?_,?_⟩
 ·unfold Word;omega
 ·unfold Word;omega
 ·unfold Word;omega
 ·unfold Word;omega
 ·rw [mQ] at *;omega
 ·rw [mQ] at *;omega
theorem ret_Ui {a b:Value} {c d:Int} (h:a=b) (h':c=d):Ending.returned (.tuple #[a,.int .u64 c])=.returned (.tuple #[b,.int .u64 d]):=by rw [h,h']
set_option maxHeartbeats 1000000 in
theorem double_any (A:Nat) (c:Int) (w:World) (hA:A<M) (hc:xZ c) :
 Calls prog 213 #[U A,.int .u64 c] w fun e w'=>e=.returned (.tuple #[U ((2*A+c.toNat)%M),.int .u64 (((2*A+c.toNat) / M:Nat):Int)])∧Below w.heap.size w w':=by
 have H:=Lib.hid hc
 clear hc
 go_enter func213,Tryz.ntmps213
 go_wp2
 refine wp_loop_rounds 5 ?_
 repeat (rw [rounds_succ];go_wp2;try (go_region;go_wp2))
 go_returns
 obtain ⟨g1,g2⟩:=dbl_words A c hA H.out
 refine ⟨ret_Ui g1 g2,?_⟩
 (exact bt)
theorem setRow_alloc_at (w:World) (c c':Array Value) (t:TypeId) (n:Nat) (hn:n=w.heap.size):(w.alloc (.cells c t)).setRow n c'=w.alloc (.cells c' t):=by
 subst hn;exact World.setRow_alloc_new w c c' t
theorem zL (w:World) (o:Obj) (c':Array Value) (n:Nat) (hn:n<w.heap.size):(w.alloc o).setRow n c'=(w.setRow n c').alloc o:=by
 simp only [World.setRow,World.alloc]
 congr 1
 apply Array.ext_getElem?
 intro i
 simp only [Array.getElem?_modify,Array.getElem?_push,Array.size_modify]
 by_cases h:n=i
 ·subst h;rw [if_pos rfl,if_neg (by omega),if_neg (by omega),if_pos rfl]
 ·rw [if_neg h];split<;>first | rfl | (rw [if_neg h])
theorem heap_past_aux (w:World) (o:Obj) (n:Nat) (hn:n<w.heap.size):(w.alloc o).heap[n]? = w.heap[n]? := by
 show (w.heap.push o)[n]? = _
 rw [Array.getElem?_push,if_neg (Nat.ne_of_lt hn)]
theorem fF (w:World) (o:Obj) (n:Nat) (hn:n=w.heap.size):(w.alloc o).heap[n]? = some o:=by subst hn;exact heap_alloc_new w o
theorem dM (w:World) (o:Obj) (n:Nat) (hn:n<w.heap.size):(w.alloc o).heap[n]? = w.heap[n]? := Go.Proofs.YtahoheofpggopaaGreatDoor.heap_past_aux w o n hn
theorem wl_load {P:Program} {ops:Array Oper} {rest:List Oper} {dst:Option Tmp} {ty ty':TypeId} {x:Operand} {pos:String} {after:Array Edge} {a:Act} {w:World} {Q:Exit→Act→World→Prop}
 (g:Nat) (t:TypeId) (cs:Array Value) (d:TypeDesc) (hx:a.eval x=.pointer (some ⟨g,0,none⟩)) (hg:w.heap[g]? = some (.cells cs t (0,0)))
 (hu:P.underlying ty=some d) (hd:(match d with | .struct _ | .array _ _=>true | _=>false)=true) (hi:(P.info? ty).map (·.size)=some cs.size)
 (h:wpList P ops Q rest (a.put dst (.agg cs)) w):wpList P ops Q (⟨dst,.load ty x,ty',pos,after,none⟩::rest) a w :=
 wpList_load_row rfl ty x rfl g hx t cs (0,0) d hg hu hd hi h
theorem wl_store {P:Program} {ops:Array Oper} {rest:List Oper} {ty ty':TypeId} {x y:Operand} {pos:String} {after:Array Edge} {a:Act} {w:World} {Q:Exit→Act→World→Prop}
 (g:Nat) (t:TypeId) (old cs:Array Value) (hx:a.eval x=.pointer (some ⟨g,0,none⟩)) (hy:a.eval y=.agg cs) (hg:w.heap[g]? = some (.cells old t (0,0)))
 (hi:(P.info? ty).map (·.size)=some cs.size) (ho:old.size=cs.size) (h1:cs.all (·.oneCell')=true)
 (h:wpList P ops Q rest a (w.setRow g cs)):wpList P ops Q (⟨none,.store ty x y,ty',pos,after,none⟩::rest) a w :=
 wpList_store_row rfl ty x y rfl g cs hx hy t old hg hi ho h1 h
theorem hp_3_0 (w:World) (o0 o1 o2:Obj):(((w.alloc o0).alloc o1).alloc o2).heap[w.heap.size]? = some o0:=(dM _ _ _ (by simp;try omega)).trans ((dM _ _ _ (by simp;try omega)).trans (fF _ _ _ (by simp)))
theorem hp_3_1 (w:World) (o0 o1 o2:Obj):(((w.alloc o0).alloc o1).alloc o2).heap[w.heap.size+1]? = some o1:=(dM _ _ _ (by simp;try omega)).trans (fF _ _ _ (by simp))
theorem sr_3_1 (w:World) (o0 o2:Obj) (c c':Array Value) (t:TypeId):(((w.alloc o0).alloc (.cells c t)).alloc o2).setRow (w.heap.size+1) c'=(((w.alloc o0).alloc (.cells c' t)).alloc o2):=by rw [zL _ _ _ _ (by simp;try omega),setRow_alloc_at _ _ _ _ _ (by simp)]
theorem hp_3_2 (w:World) (o0 o1 o2:Obj):(((w.alloc o0).alloc o1).alloc o2).heap[w.heap.size+1+1]? = some o2:=fF _ _ _ (by simp)
theorem hp_5_0 (w:World) (o0 o1 o2 o3 o4:Obj):(((((w.alloc o0).alloc o1).alloc o2).alloc o3).alloc o4).heap[w.heap.size]? = some o0:=(dM _ _ _ (by simp;try omega)).trans ((dM _ _ _ (by simp;try omega)).trans ((dM _ _ _ (by simp;try omega)).trans ((dM _ _ _ (by simp;try omega)).trans (fF _ _ _ (by simp)))))
theorem hp_5_1 (w:World) (o0 o1 o2 o3 o4:Obj):(((((w.alloc o0).alloc o1).alloc o2).alloc o3).alloc o4).heap[w.heap.size+1]? = some o1:=(dM _ _ _ (by simp;try omega)).trans ((dM _ _ _ (by simp;try omega)).trans ((dM _ _ _ (by simp;try omega)).trans (fF _ _ _ (by simp))))
theorem hp_5_2 (w:World) (o0 o1 o2 o3 o4:Obj):(((((w.alloc o0).alloc o1).alloc o2).alloc o3).alloc o4).heap[w.heap.size+1+1]? = some o2:=(dM _ _ _ (by simp;try omega)).trans ((dM _ _ _ (by simp;try omega)).trans (fF _ _ _ (by simp)))
theorem hp_5_3 (w:World) (o0 o1 o2 o3 o4:Obj):(((((w.alloc o0).alloc o1).alloc o2).alloc o3).alloc o4).heap[w.heap.size+1+1+1]? = some o3:=(dM _ _ _ (by simp;try omega)).trans (fF _ _ _ (by simp))
theorem hp_5_4 (w:World) (o0 o1 o2 o3 o4:Obj):(((((w.alloc o0).alloc o1).alloc o2).alloc o3).alloc o4).heap[w.heap.size+1+1+1+1]? = some o4:=fF _ _ _ (by simp)
end Go.Proofs.YtahoheofpggopaaGreatDoor
