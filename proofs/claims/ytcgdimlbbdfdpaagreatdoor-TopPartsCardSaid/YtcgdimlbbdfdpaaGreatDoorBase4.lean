/-
  What this statement needs, part 4: the texts of it, one behind the other.
-/
import Derived.WalkKit
import Derived.Lib.Hide
import Derived.Deep.LoopGhost
import Derived.Laws.Bits64b
import Derived.Deep.AppendSrc
import Derived.Laws.IdiomStrings
import Derived.Laws.MakeOwn
import Derived.DataElems
import Derived.Laws.BitsLemmas
import Derived.IntWalk
import Derived.Test.YtcgdimlbbdfdpaaGreatDoorChecked
import Derived.WalkSpells
import Derived.WalkLawsBesides
import Derived.Handy
import Derived.Shelf.Spec.BitsCarry
import Derived.Lib.Mul64
import Derived.Lib.BitFns
import Derived.Deep.QuietTactic
import Derived.BigQuiet
import Derived.BigRegion
import Derived.Outline
set_option maxRecDepth 100000
set_option linter.all false
namespace Go.Proofs.YtcgdimlbbdfdpaaGreatDoor
open Go Go.RowKit _root_.Go.Proofs.Tryz
abbrev OA := Option Addr
abbrev LU := List UInt8
theorem om {p:Prop} (h:p:=by omega):p:=h
theorem dC {p:Prop} (h:p:=by decide):p:=h
structure Ky where
 s:Nat
 p:Nat
 c:Nat
 d:Int
 i:Nat
 n:Nat
structure KpA where
 k:Ky
 ps:List Nat
 wd:Bool
 pa:OA
 pc:Nat
structure TmA where
 kd:Int
 m:Int
 nu:Nat
 h:Nat
 ks:List KpA
 ka:OA
 kc:Nat
structure ScA where
 a:OA
 c:Nat
 b:LU
instance instInhabitedScA:Inhabited ScA:=⟨⟨none,0,[]⟩⟩
instance instInhabitedKpA:Inhabited KpA:=⟨⟨⟨0,0,0,0,0,0⟩,[],false,none,0⟩⟩
instance instInhabitedTmA:Inhabited TmA:=⟨⟨0,0,0,0,[],none,0⟩⟩
structure bC where
 n:List Nat:=[]
 o:List Obj:=[]
 a:OA:=none
 t:List TmA:=[]
 s:List ScA:=[]
 b:OA:=none
 d:OA:=none
structure Eff where
 news:List (Nat × Obj):=[]
 puts:List (Nat × Nat × Obj):=[]
def iI (T:Nat->Prop) (F:World->Prop) (w:World):Prop :=
 ∃ S:Nat->Prop,(∀ b,S b->b<w.heap.size/\¬ T b)/\∀ w',(∀ b,S b->w'.heap[b]? = w.heap[b]?)->F w'
theorem iI.now {T:Nat->Prop} {F:World->Prop} {w:World} (h:iI T F w):F w:=by
 obtain ⟨S,_,h2⟩:=h;exact h2 w (fun _ _=>rfl)
structure Upd (X:Nat->Prop) (w w':World):Prop where
 os:w'.os=w.os
 tape:w'.tape=w.tape
 output:w'.output=w.output
 size:w.heap.size<=w'.heap.size
 block:∀ k,k<w.heap.size->¬ X k->w'.heap[k]? = w.heap[k]?
theorem Upd.refl (X:Nat->Prop) (w:World):Upd X w w:=⟨rfl,rfl,rfl,Nat.le_refl _,fun _ _ _=>rfl⟩
theorem Upd.of_below {X:Nat->Prop} {w w':World} (h:Below w.heap.size w w'):Upd X w w':=⟨h.os,h.tape,h.output,h.size,fun k hk _=>h.block k hk⟩
theorem Upd.trans {X:Nat->Prop} {a b c:World} (h:Upd X a b) (k:Upd X b c):Upd X a c :=
 ⟨k.os.trans h.os,k.tape.trans h.tape,k.output.trans h.output,Nat.le_trans h.size k.size,fun i hi hx=>(k.block i (Nat.lt_of_lt_of_le hi h.size) hx).trans (h.block i hi hx)⟩
structure Base where
 w:World
 ws:List Nat
def Base.ok (B:Base) (b:Nat):Prop:=B.w.heap.size<=b\/b∈B.ws
abbrev Base.Since (B:Base) (w:World):Prop:=Upd (fun b=>b∈B.ws) B.w w
theorem iI.upd {T T' X:Nat->Prop} {F:World->Prop} {w w':World} (h:iI T F w) (hu:Upd X w w') (hX:∀ b,X b->T b) (hT:∀ b,T' b->T b\/w.heap.size<=b):iI T' F w':=by
 obtain ⟨S,h1,h2⟩:=h
 refine ⟨S,fun b hb=>⟨Nat.lt_of_lt_of_le (h1 b hb).1 hu.size,fun hT'=>?_⟩,fun w'' hw=>h2 w'' (fun b hb=>?_)⟩
 ·rcases hT b hT' with h3 | h3
  ·exact (h1 b hb).2 h3
  ·exact absurd (h1 b hb).1 om
 ·rw [hw b hb];exact hu.block b (h1 b hb).1 (fun hx=>(h1 b hb).2 (hX b hx))
def opv (P : Program) (s : Sem Next) (w : World) (K : Value -> World -> Prop) : Prop :=
 match s.run P w with
 | .ok (.value v) w'=>K v w'
 | .ok .skip w'=>K undef w'
 | .ok (.enter f args) w' => Calls P f args w' fun e w'' => match e with
   | .returned v=>K v w''
   | _=>False
 | _=>False
theorem wp_of_opv {P:Program} {o:Oper} {a:Act} {w:World} {K:Value->World->Prop} {N:Act->World->Prop} {Q:Exit->Act->World->Prop}
 (h:opv P (execOp a.eval o) w K) (hK:∀ v w',K v w'->N (a.put o.dst v) w'):o.wp P a w N Q:=by
 unfold opv at h
 unfold Oper.wp
 generalize (execOp a.eval o).run P w=r at h
 cases r with
 | ok n w' =>
   cases n<;>simp only [Oper.upon] at h ⊢
   case value v=>exact hK _ _ h
   case skip=>exact hK _ _ h
   case enter f args =>
    refine Calls.mono h fun e w'' he=>?_
    cases e with
    | returned v=>exact hK _ _ he
    | panicked c=>exact he.elim
    | outgrown=>exact he.elim
 | halt x w'=>exact h.elim
def dep (D:List Nat) (i j:Nat):Bool:=(D.getD i 0).testBit j
def edgesOf (ops:Array Oper) (i:Nat):List Nat:=((ops[i]?).map fun o=>((o.after.toList.filter (Region.binds .any)).map (·.on))).getD []
def DOk (ops:Array Oper) (D:List Nat):Bool :=
 (List.range ops.size).all fun i=>decide (D.getD i 0<2^i)&&(List.range i).all fun j=> !dep D i j||((edgesOf ops i).any fun e=>e==j||dep D e j)
def DSeq (n:Nat) (D:List Nat):Bool:=(List.range n).all fun i=>D.getD i 0==2^i-1
def jV (ops:Array Oper) (i:Nat):Option Nat:=(ops[i]?).bind (·.dst)
def tK (ops:Array Oper) (n:Nat):Bool :=
 (List.range ops.size).all fun i=>((jV ops i).map fun t=>decide (t<n)).getD true&&(List.range i).all fun j=>(jV ops i).isNone||jV ops i != jV ops j
def writer (ops:Array Oper) (t:Nat):Option Nat:=(List.range ops.size).find? fun i=>jV ops i==some t
section
variable (P:Program) (ops:Array Oper) (D:List Nat) (l:List (Nat × Value)) (w0:Base) (h:List (Nat × Obj)) (F0:World→Prop)
variable (vals:(Nat→bC)→Nat→Value) (effs:(Nat→bC)→Nat→Eff) (fact:(Nat→bC)→Nat→World→Prop)
structure Fr (n:Nat) (l:List (Nat × Value)) (A:Act):Prop where
 defers:A.defers=[]
 size:A.tmps.size=n
 slot:∀ t v,l.lookup t=some v->A.tmps[t]? = some v
def lookAt (V:Nat->Value) (i t:Nat):Value :=
 match writer ops t with
 | none=>(l.lookup t).getD undef
 | some j=>if dep D i j then V j else (l.lookup t).getD undef
def lookOk (i t:Nat):Bool :=
 match writer ops t with
 | none=>(l.lookup t).isSome
 | some j=>dep D i j||((decide (j=i)||dep D j i)&&(l.lookup t).isSome)
def bI (V:Nat->Value) (i:Nat):Operand->Value
 | .tmp t=>lookAt ops D l V i t
 | .const v=>v
 | .global g=>.pointer (some ⟨g,0,none⟩)
 | .func f=>.func (.func f) #[] #[]
def opLooksOk (i:Nat) (o:Oper):Bool :=
 (o.op.operands.all fun x=>match x with | .tmp t=>lookOk ops D l i t | _=>true)&&(match o.op with | .select _ _=>false | _=>true) &&
 (match o.guard with | none=>true | some (j,_)=>dep D i j&&(jV ops j).isSome)
def uQ:Bool:=(List.range ops.size).all fun i=>((ops[i]?).map (opLooksOk ops D l i)).getD true
def fJ (V:Nat->Value) (o:Oper):Bool :=
 match o.guard with
 | none=>true
 | some (j,b)=>match V j with | .bool c=>c==b | _=>false
def blk (E:Nat->Eff) (n:Nat):Option (Nat × Obj):=if n<h.length then h[n]? else (E ((n-h.length) / 8)).news[(n-h.length)%8]?
def cur (E:Nat->Eff) (m:Nat) (L:Nat->Bool) (n:Nat) (x:Nat × Obj):Nat × Obj :=
 (List.range m).foldl (fun c j=>if L j then ((E j).puts.lookup n).getD c else c) x
def born (L:Nat->Bool) (n:Nat):Bool:=decide (n<h.length)||L ((n-h.length) / 8)
def okN (E:Nat->Eff) (i n:Nat):Bool :=
 born h (dep D i) n&&(List.range ops.size).all fun j=>((E j).puts.lookup n).isNone||dep D i j||dep D j i||decide (j=i)
def Tof (E:Nat->Eff) (L:Nat->Bool):Nat->Prop:=fun b=>∃ n x,born h L n=true/\blk h E n=some x/\b=(cur E ops.size L n x).1
def upd (ρ:Nat->bC) (i:Nat) (r:bC):Nat->bC:=fun j=>if j=i then r else ρ j
def After (i : Nat) (ρ : Nat -> bC) (T : Nat -> Prop) (w : World) (v : Value) (w' : World) : Prop :=
 ∃ r : bC, v = vals (upd ρ i r) i /\
   Upd (fun b=>∃ n y x,(n,y)∈(effs (upd ρ i r) i).puts/\blk h (effs ρ) n=some x/\b=(cur (effs ρ) ops.size (dep D i) n x).1) w w' /\
   (∀ n y,(n,y)∈(effs (upd ρ i r) i).puts->okN ops D h (effs ρ) i n=true/\∃ x,blk h (effs ρ) n=some x/\w'.heap[(((effs (upd ρ i r) i).puts.lookup n).getD y).1]? = some (((effs (upd ρ i r) i).puts.lookup n).getD y).2 /\
    ((((effs (upd ρ i r) i).puts.lookup n).getD y).1=(cur (effs ρ) ops.size (dep D i) n x).1\/w.heap.size<=(((effs (upd ρ i r) i).puts.lookup n).getD y).1/\(∀ n' y',(n',y')∈(effs (upd ρ i r) i).puts->n'=n\/y'.1<w.heap.size)/\(effs (upd ρ i r) i).news=[])) /\
   (∀ (k b:Nat) (o:Obj),(effs (upd ρ i r) i).news[k]? = some (b,o)->w.heap.size<=b/\w'.heap[b]? = some o) /\
   ((effs (upd ρ i r) i).news.map (·.1)).Nodup /\
   iI (fun b=>T b\/b∈(effs (upd ρ i r) i).news.map (·.1)\/b∈(effs (upd ρ i r) i).puts.map (·.2.1)) (fact (upd ρ i r) i) w'
structure Given (i:Nat) (ρ:Nat->bC) (T:Nat->Prop) (w:World):Prop where
 lt:∀ b,T b->b<w.heap.size
 below:w0.Since w
 block:∀ n x,blk h (effs ρ) n=some x->okN ops D h (effs ρ) i n=true->w.heap[(cur (effs ρ) ops.size (dep D i) n x).1]? = some (cur (effs ρ) ops.size (dep D i) n x).2/\T (cur (effs ρ) ops.size (dep D i) n x).1/\w0.ok (cur (effs ρ) ops.size (dep D i) n x).1
 ne:∀ n n' x x',n≠n'->blk h (effs ρ) n=some x->blk h (effs ρ) n'=some x'->okN ops D h (effs ρ) i n=true->okN ops D h (effs ρ) i n'=true->(cur (effs ρ) ops.size (dep D i) n x).1≠(cur (effs ρ) ops.size (dep D i) n' x').1
 facts0:iI T F0 w
 facts:∀ j,dep D i j=true->iI T (fact ρ j) w
def fZ (i:Nat):Prop:=∀ o,ops[i]? = some o->∀ ρ T w,Given ops D w0 h F0 effs fact i ρ T w ->
 if fJ (vals ρ) o then opv P (execOp (bI ops D l (vals ρ) i) o) w (After ops D h vals effs fact i ρ T w) else After ops D h vals effs fact i ρ T w undef w
def Loc (i:Nat):Prop:=∀ ρ ρ':Nat->bC,(∀ j,j=i\/dep D i j=true->ρ j=ρ' j)->vals ρ i=vals ρ' i/\effs ρ i=effs ρ' i/\fact ρ i=fact ρ' i
structure RInv (a:Act) (L:Nat->Bool) (A:Act) (w:World) (ρ:Nat->bC):Prop where
 defers:A.defers=a.defers
 len:A.tmps.size=a.tmps.size
 lsz:∀ i,L i=true->i<ops.size
 done:∀ i t,jV ops i=some t->L i=true->A.tmps[t]? = some (vals ρ i)
 kept:∀ t,(∀ i,i<ops.size->jV ops i=some t->L i=false)->A.tmps[t]? = a.tmps[t]?
 closed:∀ i j,L i=true->dep D i j=true->L j=true
 below:w0.Since w
 live:∀ n x,blk h (effs ρ) n=some x->born h L n=true->w0.ok (cur (effs ρ) ops.size L n x).1/\w.heap[(cur (effs ρ) ops.size L n x).1]? = some (cur (effs ρ) ops.size L n x).2
 inj:∀ n n' x x',n≠n'->blk h (effs ρ) n=some x->blk h (effs ρ) n'=some x'->born h L n=true->born h L n'=true->(cur (effs ρ) ops.size L n x).1≠(cur (effs ρ) ops.size L n' x').1
 facts0:iI (Tof ops h (effs ρ) L) F0 w
 facts:∀ i,L i=true->iI (Tof ops h (effs ρ) L) (fact ρ i) w
 putsOk:∀ i n y,L i=true->(n,y)∈(effs ρ i).puts->born h L n=true
end
theorem tZ {α:Type} {l:List (Nat × α)} {n:Nat} (h:l.lookup n=none):∀ o,(n,o) ∉ l:=by
 intro o hm
 induction l with
 | nil=>simp at hm
 | cons x l ih =>
   obtain ⟨k,v⟩:=x
   rw [List.lookup_cons] at h
   by_cases hk:(n==k)=true
   ·rw [hk] at h;simp at h
   ·have hk' : (n == k) = false := by simpa using hk
    rw [hk'] at h
    rcases List.mem_cons.1 hm with h1 | h1
    ·simp only [Prod.mk.injEq] at h1;rw [h1.1] at hk';simp at hk'
    ·exact ih h h1
theorem fH {α:Type} {l:List (Nat × α)} {n:Nat} {o:α} (h:l.lookup n=some o):(n,o)∈l:=by
 induction l with
 | nil=>simp at h
 | cons x l ih =>
   obtain ⟨k,v⟩:=x
   rw [List.lookup_cons] at h
   by_cases hk:(n==k)=true
   ·rw [hk] at h
    have e:n=k:=by simpa using hk
    simp only [Option.some.injEq] at h
    rw [e,h];exact List.mem_cons_self
   ·have hk' : (n == k) = false := by simpa using hk
    rw [hk'] at h
    exact List.mem_cons_of_mem _ (ih h)
theorem nT {l:List (Nat × Value)} {n:Nat} {o:Value} (h:l.lookup n=some o):(n,o)∈l:=fH h
theorem fold_congr {α:Type} {l:List Nat} {f g:α->Nat->α} (h:∀ c j,j∈l->f c j=g c j):∀ c,l.foldl f c=l.foldl g c:=by
 induction l with
 | nil=>intro c;rfl
 | cons x l ih =>
   intro c
   simp only [List.foldl_cons]
   rw [h c x List.mem_cons_self]
   exact ih (fun c j hj=>h c j (List.mem_cons_of_mem _ hj)) _
theorem fold_id {α:Type} {l:List Nat} {f:α->Nat->α} (h:∀ c j,j∈l->f c j=c):∀ c,l.foldl f c=c:=by
 induction l with
 | nil=>intro c;rfl
 | cons x l ih =>
   intro c
   simp only [List.foldl_cons]
   rw [h c x List.mem_cons_self]
   exact ih (fun c j hj=>h c j (List.mem_cons_of_mem _ hj)) _
theorem cur_congr {E E':Nat->Eff} {m:Nat} {L L':Nat->Bool} {n:Nat} {o:Nat × Obj}
 (hh:∀ j,j<m->(if L j then ((E j).puts.lookup n) else none)=(if L' j then ((E' j).puts.lookup n) else none)):cur E m L n o=cur E' m L' n o:=by
 unfold cur
 apply fold_congr
 intro c j hj
 have:=hh j (List.mem_range.1 hj)
 by_cases h1:L j=true<;>by_cases h2:L' j=true<;>simp only [h1,h2,if_true,if_false,Bool.false_eq_true] at this ⊢
 ·rw [this]
 ·rw [this];rfl
 ·rw [<- this];rfl
theorem cur_last {E:Nat->Eff} {m i:Nat} {L:Nat->Bool} {n:Nat} {o x:Nat × Obj} (him:i<m) (hi:L i=true) (hx:(E i).puts.lookup n=some x)
 (hl:∀ j,i<j->j<m->L j=true->(E j).puts.lookup n=none):cur E m L n o=x:=by
 unfold cur
 obtain ⟨k,rfl⟩:∃ k,m=(i+1)+k:=⟨m-(i+1),by omega⟩
 rw [List.range_add,List.foldl_append,List.range_succ,List.foldl_append]
 simp only [List.foldl_cons,List.foldl_nil,hi,hx,if_true,Option.getD_some]
 apply fold_id
 intro c j hj
 rw [List.mem_map] at hj
 obtain ⟨j',hj',rfl⟩:=hj
 have hj'':=List.mem_range.1 hj'
 by_cases hL:L (i+1+j')=true
 ·rw [if_pos hL,hl _ om om hL];rfl
 ·rw [if_neg hL]
theorem dstOf_lt {ops:Array Oper} {i t:Nat} (h:jV ops i=some t):i<ops.size:=by
 unfold jV at h
 by_cases hl:i<ops.size
 ·exact hl
 ·rw [Array.getElem?_eq_none om] at h;exact absurd h (by simp)
theorem dst_inj {ops:Array Oper} {n i j t:Nat} (h:tK ops n=true) (hi:jV ops i=some t) (hj:jV ops j=some t):i=j:=by
 have key:∀ i j,j<i->jV ops i=some t->jV ops j=some t->False:=by
  intro i j hlt hi hj
  unfold tK at h
  rw [List.all_eq_true] at h
  have h1:=h i (List.mem_range.2 (dstOf_lt hi))
  rw [Bool.and_eq_true,List.all_eq_true] at h1
  have h2:=h1.2 j (List.mem_range.2 hlt)
  rw [hi,hj] at h2
  simp at h2
 rcases Nat.lt_trichotomy i j with hlt | rfl | hlt
 ·exact (key j i hlt hj hi).elim
 ·rfl
 ·exact (key i j hlt hi hj).elim
theorem dst_in {ops:Array Oper} {n i t:Nat} (h:tK ops n=true) (hi:jV ops i=some t):t<n:=by
 unfold tK at h
 rw [List.all_eq_true] at h
 have h1:=h i (List.mem_range.2 (dstOf_lt hi))
 rw [Bool.and_eq_true] at h1
 have h2:=h1.1
 rw [hi] at h2
 simpa using h2
theorem put_get (A:Act) (dst:Option Nat) (v:Value) (t:Nat):(A.put dst v).tmps[t]? = if dst=some t/\t<A.tmps.size then some v else A.tmps[t]? := by
 cases dst with
 | none=>simp [Act.put]
 | some d =>
   simp only [Act.put,Array.getElem?_setIfInBounds,Option.some.injEq]
   by_cases h:d=t
   ·subst h
    by_cases hl:d<A.tmps.size
    ·simp [hl]
    ·simp [hl]
   ·simp [h]
theorem writer_some {ops:Array Oper} {t j:Nat} (h:writer ops t=some j):jV ops j=some t:=by
 unfold writer at h
 have:=List.find?_some h
 simpa using this
theorem writer_none {ops:Array Oper} {t:Nat} (h:writer ops t=none):∀ i,i<ops.size->jV ops i≠some t:=by
 unfold writer at h
 rw [List.find?_eq_none] at h
 intro i hi he
 exact h i (List.mem_range.2 hi) (by simp [he])
section
variable {P:Program} {ops:Array Oper} {D:List Nat} {l:List (Nat × Value)} {a:Act} {w0:Base} {h:List (Nat × Obj)} {F0:World→Prop}
variable {vals:(Nat→bC)→Nat→Value} {effs:(Nat→bC)→Nat→Eff} {fact:(Nat→bC)→Nat→World→Prop} {Q:Exit→Act→World→Prop}
theorem eval_eq {L : Nat -> Bool} {A : Act} {w : World} {ρ : Nat -> bC} (hI : RInv ops D w0 h F0 vals effs fact a L A w ρ) (hok : tK ops a.tmps.size = true) {i : Nat} (hi : L i = false)
 (hd:∀ j,dep D i j=true->L j=true) {x:Operand} (hx:(match x with | .tmp t=>lookOk ops D l i t | _=>true)=true) (hfr:Fr a.tmps.size l a):bI ops D l (vals ρ) i x=A.eval x:=by
 cases x with
 | tmp t =>
   simp only at hx
   unfold bI lookAt
   unfold lookOk at hx
   simp only [Act.eval]
   cases hw:writer ops t with
   | none =>
     rw [hw] at hx
     obtain ⟨v,hv⟩:=Option.isSome_iff_exists.1 hx
     rw [Array.getD_eq_getD_getElem?,hI.kept t (fun j hj hjt=>absurd hjt (writer_none hw j hj)),hv,hfr.slot t v hv]
   | some j =>
     rw [hw] at hx
     have hjt:=writer_some hw
     simp only [] at hx ⊢
     by_cases hdj:dep D i j=true
     ·rw [if_pos hdj,Array.getD_eq_getD_getElem?,hI.done j t hjt (hd j hdj)];rfl
     ·rw [if_neg hdj]
      have hdj':dep D i j=false:=by simpa using hdj
      rw [hdj',Bool.false_or,Bool.and_eq_true] at hx
      obtain ⟨hx,hv⟩:=hx
      obtain ⟨v,hv⟩:=Option.isSome_iff_exists.1 hv
      have hLj:L j=false:=by
       cases hb:L j with
       | false=>rfl
       | true =>
         simp at hx
         rcases hx with rfl | hx
         ·rw [hi] at hb;exact hb.symm
         ·rw [hI.closed j i hb hx] at hi;exact absurd hi (by simp)
      rw [Array.getD_eq_getD_getElem?,hI.kept t (fun k hk hkt=>by rw [dst_inj hok hkt hjt];exact hLj),hv,hfr.slot t v hv]
 | const v=>rfl
 | global g=>rfl
 | func f=>rfl
theorem want_eq {L:Nat->Bool} {A:Act} {w:World} {ρ:Nat->bC} (hI:RInv ops D w0 h F0 vals effs fact a L A w ρ) {i:Nat} {o:Oper}
 (hd:∀ j,dep D i j=true->L j=true) (hg:(match o.guard with | none=>true | some (j,_)=>dep D i j&&(jV ops j).isSome)=true):Region.wanted o (yielded ops A.tmps)=fJ (vals ρ) o:=by
 unfold Region.wanted fJ
 cases hgd:o.guard with
 | none=>rfl
 | some gb =>
   obtain ⟨g,b⟩:=gb
   rw [hgd] at hg
   simp only [Bool.and_eq_true] at hg
   obtain ⟨hg1,hg2⟩:=hg
   obtain ⟨t,ht⟩:=Option.isSome_iff_exists.1 hg2
   have h1:=hI.done g t ht (hd g hg1)
   simp only []
   unfold yielded
   rw [show ((ops[g]?).bind (·.dst))=some t from ht]
   simp only [Option.bind_some,h1]
   cases vals ρ g<;>first | rfl | (simp only [];rename_i c;cases c<;>cases b<;>rfl)
theorem nK {L L':Nat->Bool} {n:Nat} (hh:∀ j,L j=true->L' j=true) (hb:born h L n=true):born h L' n=true:=by
 unfold born at *
 rw [Bool.or_eq_true] at *
 exact hb.imp id (hh _)
theorem blk_congr {E E':Nat->Eff} {n:Nat} (hh: ¬ n<h.length->E ((n-h.length) / 8)=E' ((n-h.length) / 8)):blk h E n=blk h E' n:=by
 unfold blk
 by_cases hn:n<h.length
 ·rw [if_pos hn,if_pos hn]
 ·rw [if_neg hn,if_neg hn,hh hn]
theorem uM {L:Nat->Bool} {A:Act} {w:World} {ρ:Nat->bC} (hI:RInv ops D w0 h F0 vals effs fact a L A w ρ) {i:Nat} (hi:L i=false)
 (hd:∀ j,dep D i j=true->L j=true) {n:Nat} (hok:okN ops D h (effs ρ) i n=true) (x:Nat × Obj):cur (effs ρ) ops.size (dep D i) n x=cur (effs ρ) ops.size L n x:=by
 unfold okN at hok
 rw [Bool.and_eq_true,List.all_eq_true] at hok
 symm
 apply cur_congr
 intro j hj
 have h3:=hok.2 j (List.mem_range.2 hj)
 by_cases hdj:dep D i j=true
 ·rw [hd j hdj,hdj]
 ·have hdj' : dep D i j = false := by simpa using hdj
  rw [hdj'] at h3 ⊢
  simp only [Bool.or_false,Bool.or_eq_true,decide_eq_true_eq] at h3
  rw [if_neg (c:=(false=true)) (by simp)]
  by_cases hLj:L j=true
  ·rw [if_pos hLj]
   rcases h3 with (h3 | h3) | h3
   ·simpa using h3
   ·rw [hI.closed j i hLj h3] at hi;exact absurd hi (by simp)
   ·rw [h3,hi] at hLj;exact absurd hLj (by simp)
  ·rw [if_neg hLj]
theorem tH {E:Nat->Eff} {i n:Nat} (hok:okN ops D h E i n=true):born h (dep D i) n=true:=by
 unfold okN at hok
 rw [Bool.and_eq_true] at hok
 exact hok.1
theorem given_of {L:Nat->Bool} {A:Act} {w:World} {ρ:Nat->bC} (hI:RInv ops D w0 h F0 vals effs fact a L A w ρ) {i:Nat} (hi:L i=false)
 (hd:∀ j,dep D i j=true->L j=true):Given ops D w0 h F0 effs fact i ρ (Tof ops h (effs ρ) L) w:=by
 refine ⟨?_,hI.below,?_,?_,hI.facts0,fun j hj=>hI.facts j (hd j hj)⟩
 ·rintro b ⟨n, x, hb, hn, rfl⟩
  have h1:=(hI.live n x hn hb).2
  by_cases hl:(cur (effs ρ) ops.size L n x).1<w.heap.size
  ·exact hl
  ·rw [Array.getElem?_eq_none om] at h1;exact absurd h1 (by simp)
 ·intro n x hn hok
  have hb:=nK hd (tH hok)
  obtain ⟨h1,h2⟩:=hI.live n x hn hb
  rw [uM hI hi hd hok x]
  exact ⟨h2,⟨n,x,hb,hn,rfl⟩,h1⟩
 ·intro n n' x x' hne hn hn' hk hk'
  rw [uM hI hi hd hk x,uM hI hi hd hk' x']
  exact hI.inj n n' x x' hne hn hn' (nK hd (tH hk)) (nK hd (tH hk'))
def mM (L:Nat->Bool) (i:Nat):Nat->Bool:=fun j=>L j||decide (j=i)
theorem after_inv {L : Nat -> Bool} {A : Act} {w w' : World} {ρ : Nat -> bC} {v : Value} {i : Nat} (hI : RInv ops D w0 h F0 vals effs fact a L A w ρ) (hok : tK ops a.tmps.size = true) (hi : L i = false) (his : i < ops.size)
 (hd:∀ j,dep D i j=true->L j=true) (hlt:∀ j,dep D i j=true->j<i) (hloc:∀ j,j<ops.size->Loc D vals effs fact j)
 (hA:After ops D h vals effs fact i ρ (Tof ops h (effs ρ) L) w v w'):∃ ρ',RInv ops D w0 h F0 vals effs fact a (mM L i) (A.put (jV ops i) v) w' ρ':=by
 obtain ⟨r,rfl,hU,hP,hN,hND,hF⟩:=hA
 have hG:=given_of hI hi hd
 have hii:dep D i i=false:=by
  cases hb:dep D i i with
  | false=>rfl
  | true=>exact absurd (hlt i hb) om
 have same:∀ j,L j=true->vals (upd ρ i r) j=vals ρ j/\effs (upd ρ i r) j=effs ρ j/\fact (upd ρ i r) j=fact ρ j:=by
  intro j hj
  apply hloc j (hI.lsz j hj)
  intro k hk
  unfold upd
  rw [if_neg]
  rintro rfl
  rcases hk with rfl | hk
  ·rw [hj] at hi;exact absurd hi (by simp)
  ·rw [hI.closed j k hj hk] at hi;exact absurd hi (by simp)
 have bsame:∀ n,born h L n=true->blk h (effs (upd ρ i r)) n=blk h (effs ρ) n:=by
  intro n hb
  apply blk_congr
  intro hn
  unfold born at hb
  rw [decide_eq_false hn,Bool.false_or] at hb
  exact (same _ hb).2.1
 have hX:∀ b,(∃ n y x,(n,y)∈(effs (upd ρ i r) i).puts/\blk h (effs ρ) n=some x/\b=(cur (effs ρ) ops.size (dep D i) n x).1)->Tof ops h (effs ρ) L b:=by
  rintro b ⟨n,y,x,hm,hb,rfl⟩
  have h1:=(hP n y hm).1
  exact ⟨n,x,nK hd (tH h1),hb,by rw [uM hI hi hd h1]⟩
 have bsplit:∀ n,born h (mM L i) n=true->born h L n=true\/(¬ n<h.length/\(n-h.length) / 8=i):=by
  intro n hb
  unfold born mM at *
  rw [Bool.or_eq_true] at hb
  rcases hb with hb | hb
  ·exact Or.inl (by rw [hb];rfl)
  ·rw [Bool.or_eq_true] at hb
   rcases hb with hb | hb
   ·exact Or.inl (by rw [hb];simp)
   ·by_cases hn : n < h.length
    ·exact Or.inl (by simp [hn])
    ·exact Or.inr ⟨hn,by simpa using hb⟩
 have hnotborn:∀ n,¬ n<h.length->(n-h.length) / 8=i->born h L n=false:=by
  intro n hn he
  unfold born
  rw [decide_eq_false hn,he,hi];rfl
 have hiput:∀ n y,(n,y)∈(effs (upd ρ i r) i).puts->born h L n=true:=fun n y hm=>nK hd (tH (hP n y hm).1)
 have blt:∀ n x,born h L n=true->blk h (effs ρ) n=some x->(cur (effs ρ) ops.size L n x).1<w.heap.size:=fun n x hb hn=>hG.lt _ ⟨n,x,hb,hn,rfl⟩
 have cNone:∀ n x,(effs (upd ρ i r) i).puts.lookup n=none->cur (effs (upd ρ i r)) ops.size (mM L i) n x=cur (effs ρ) ops.size L n x:=by
  intro n x hl
  apply cur_congr
  intro j hj
  by_cases hji:j=i
  ·subst hji
   rw [hi];unfold mM;simp [hl]
  ·have e1 : mM L i j = L j := by unfold mM; simp [hji]
   rw [e1]
   by_cases hLj:L j=true
   ·rw [if_pos hLj,if_pos hLj,(same j hLj).2.1]
   ·rw [if_neg hLj,if_neg hLj]
 have cSome:∀ n x y,(effs (upd ρ i r) i).puts.lookup n=some y->cur (effs (upd ρ i r)) ops.size (mM L i) n x=y:=by
  intro n x y hl
  have hk1:=(hP n y (fH hl)).1
  apply cur_last his (by unfold mM;simp) hl
  intro j hij hj hLj
  have hji:j≠i:=by omega
  have hLj':L j=true:=by unfold mM at hLj;simpa [hji] using hLj
  rw [(same j hLj').2.1]
  unfold okN at hk1
  rw [Bool.and_eq_true,List.all_eq_true] at hk1
  have h3:=hk1.2 j (List.mem_range.2 hj)
  simp only [Bool.or_eq_true,decide_eq_true_eq] at h3
  rcases h3 with ((h3 | h3) | h3) | h3
  ·simpa using h3
  ·exact absurd (hlt j h3) om
  ·rw [hI.closed j i hLj' h3] at hi;exact absurd hi (by simp)
  ·exact absurd h3 hji
 have cNew : ∀ n x, ¬ n < h.length -> (n - h.length) / 8 = i -> cur (effs (upd ρ i r)) ops.size (mM L i) n x = x := by
  intro n x hn1 hn2
  unfold cur
  apply fold_id
  intro c j hj
  by_cases hLj:mM L i j=true
  ·rw [if_pos hLj]
   have hnone:(effs (upd ρ i r) j).puts.lookup n=none:=by
    cases hl:(effs (upd ρ i r) j).puts.lookup n with
    | none=>rfl
    | some x =>
      have hm:=fH hl
      have hbn:born h L n=true:=by
       by_cases hji:j=i
       ·subst hji;exact hiput n x hm
       ·have hLj' : L j = true := by unfold mM at hLj; simpa [hji] using hLj
        rw [(same j hLj').2.1] at hm
        exact hI.putsOk j n x hLj' hm
      rw [hnotborn n hn1 hn2] at hbn
      exact absurd hbn (by simp)
   rw [hnone];rfl
  ·rw [if_neg hLj]
 have pOf:∀ n x y,(effs (upd ρ i r) i).puts.lookup n=some y->blk h (effs ρ) n=some x->w'.heap[y.1]? = some y.2/\(y.1=(cur (effs ρ) ops.size L n x).1\/w.heap.size<=y.1/\(∀ n' y',(n',y')∈(effs (upd ρ i r) i).puts->n'=n\/y'.1<w.heap.size)/\(effs (upd ρ i r) i).news=[]):=by
  intro n x y hl hn
  obtain ⟨hk1,x',hx',h1,h2⟩:=hP n y (fH hl)
  rw [hl] at h1 h2
  rw [hn] at hx'
  obtain rfl:x=x':=by simpa using hx'
  rw [uM hI hi hd hk1] at h2
  exact ⟨h1,h2⟩
 have newT:∀ b,Tof ops h (effs (upd ρ i r)) (mM L i) b->Tof ops h (effs ρ) L b\/(w.heap.size<=b/\(b∈(effs (upd ρ i r) i).news.map (·.1)\/b∈(effs (upd ρ i r) i).puts.map (·.2.1))):=by
  rintro b ⟨n,x,hb,hn,rfl⟩
  rcases bsplit n hb with hb | ⟨hn1,hn2⟩
  ·rw [bsame n hb] at hn
   cases hl:(effs (upd ρ i r) i).puts.lookup n with
   | none=>rw [cNone n x hl];exact Or.inl ⟨n,x,hb,hn,rfl⟩
   | some y =>
     rw [cSome n x y hl]
     rcases (pOf n x y hl hn).2 with h1 | h1
     ·rw [h1];exact Or.inl ⟨n,x,hb,hn,rfl⟩
     ·exact Or.inr ⟨h1.1,Or.inr (List.mem_map.2 ⟨(n,y),fH hl,rfl⟩)⟩
  ·right
   rw [cNew n x hn1 hn2]
   unfold blk at hn
   rw [if_neg hn1,hn2] at hn
   exact ⟨(hN _ x.1 x.2 hn).1,Or.inl (List.mem_map.2 ⟨x,List.mem_of_getElem? hn,rfl⟩)⟩
 refine ⟨upd ρ i r,?_,?_,?_,?_,?_,?_,?_,?_,?_,?_,?_,?_⟩
 ·have hd' := hI.defers
  unfold Act.put;split<;>exact hd'
 ·have hl' := hI.len
  unfold Act.put;split
  ·simpa using hl'
  ·exact hl'
 ·intro j hj
  unfold mM at hj
  rw [Bool.or_eq_true] at hj
  rcases hj with hj | hj
  ·exact hI.lsz j hj
  ·have : j = i := by simpa using hj
   omega
 ·intro j t hjt hjl
  rw [put_get]
  by_cases hij:j=i
  ·subst hij
   rw [if_pos ⟨hjt,by rw [hI.len];exact dst_in hok hjt⟩]
  ·have hj : L j = true := by
    unfold mM at hjl
    rw [Bool.or_eq_true] at hjl
    rcases hjl with hjl | hjl
    ·exact hjl
    ·exact absurd (by simpa using hjl) hij
   rw [if_neg (fun hc=>hij (dst_inj hok hjt hc.1)),hI.done j t hjt hj,(same j hj).1]
 ·intro t ht
  rw [put_get]
  by_cases hc:jV ops i=some t
  ·have := ht i his hc
   unfold mM at this
   simp at this
  ·rw [if_neg (fun h => hc h.1)]
   refine hI.kept t (fun j hj hjt=>?_)
   have:=ht j hj hjt
   unfold mM at this
   rw [Bool.or_eq_false_iff] at this
   exact this.1
 ·intro j k hj hk
  unfold mM at *
  rw [Bool.or_eq_true] at *
  left
  rcases hj with hj | hj
  ·exact hI.closed j k hj hk
  ·have e : j = i := by simpa using hj
   rw [e] at hk;exact hd k hk
 ·refine ⟨hU.os.trans hI.below.os, hU.tape.trans hI.below.tape, hU.output.trans hI.below.output, Nat.le_trans hI.below.size hU.size, fun k hk hkw => (hU.block k (Nat.lt_of_lt_of_le hk hI.below.size) ?_).trans (hI.below.block k hk hkw)⟩
  intro hx
  obtain ⟨n,x,hb,hn,e⟩:=hX k hx
  rcases (hI.live n x hn hb).1 with h1 | h1
  ·omega
  ·rw [<- e] at h1;exact hkw h1
 · intro n x hn hb
   rcases bsplit n hb with hb | ⟨hn1,hn2⟩
   ·rw [bsame n hb] at hn
    obtain ⟨h1,h2⟩:=hI.live n x hn hb
    cases hl:(effs (upd ρ i r) i).puts.lookup n with
    | none =>
      rw [cNone n x hl]
      refine ⟨h1,(hU.block _ (blt n x hb hn) ?_).trans h2⟩
      rintro ⟨n2,y2,x2,hm,hb2,he⟩
      have hne:n2≠n:=by
       rintro rfl
       exact tZ hl y2 hm
      rw [uM hI hi hd (hP n2 y2 hm).1] at he
      exact hI.inj n2 n x2 x hne hb2 hn (hiput n2 y2 hm) hb he.symm
    | some y =>
      rw [cSome n x y hl]
      obtain ⟨q1,q2⟩:=pOf n x y hl hn
      refine ⟨?_,q1⟩
      rcases q2 with q2 | q2
      ·rw [q2];exact h1
      ·exact Or.inl (Nat.le_trans hI.below.size q2.1)
   ·rw [cNew n x hn1 hn2]
    unfold blk at hn
    rw [if_neg hn1,hn2] at hn
    obtain ⟨h1,h2⟩:=hN _ x.1 x.2 hn
    exact ⟨Or.inl (Nat.le_trans hI.below.size h1),h2⟩
 · intro n n' x x' hne hn hn' hb hb'
   rcases bsplit n hb with hb | ⟨hn1,hn2⟩<;>rcases bsplit n' hb' with hb' | ⟨hn1',hn2'⟩
   ·rw [bsame n hb] at hn; rw [bsame n' hb'] at hn'
    have key:=hI.inj n n' x x' hne hn hn' hb hb'
    have l1:=blt n x hb hn
    have l2:=blt n' x' hb' hn'
    cases hl:(effs (upd ρ i r) i).puts.lookup n with
    | none =>
      rw [cNone n x hl]
      cases hl':(effs (upd ρ i r) i).puts.lookup n' with
      | none=>rw [cNone n' x' hl'];exact key
      | some y' =>
        rw [cSome n' x' y' hl']
        rcases (pOf n' x' y' hl' hn').2 with q | q
        ·rw [q];exact key
        ·have:=q.1;omega
    | some y =>
      rw [cSome n x y hl]
      cases hl':(effs (upd ρ i r) i).puts.lookup n' with
      | none =>
        rw [cNone n' x' hl']
        rcases (pOf n x y hl hn).2 with q | q
        ·rw [q];exact key
        ·have:=q.1;omega
      | some y' =>
        rw [cSome n' x' y' hl']
        rcases (pOf n x y hl hn).2 with q | q
        ·rcases (pOf n' x' y' hl' hn').2 with q' | q'
         ·rw [q,q'];exact key
         ·rcases q'.2.1 n y (fH hl) with q3 | q3
          ·exact absurd q3 hne
          ·have:=q'.1;omega
        ·rcases q.2.1 n' y' (fH hl') with q3 | q3
         ·exact absurd q3.symm hne
         ·have:=q.1;omega
   ·rw [bsame n hb] at hn
    have l1:=blt n x hb hn
    rw [cNew n' x' hn1' hn2']
    unfold blk at hn'
    rw [if_neg hn1',hn2'] at hn'
    have h2:=(hN _ x'.1 x'.2 hn').1
    cases hl:(effs (upd ρ i r) i).puts.lookup n with
    | none=>rw [cNone n x hl];omega
    | some y =>
      rw [cSome n x y hl]
      rcases (pOf n x y hl hn).2 with q | q
      ·omega
      ·rw [q.2.2] at hn';simp at hn'
   ·rw [bsame n' hb'] at hn'
    have l1:=blt n' x' hb' hn'
    rw [cNew n x hn1 hn2]
    unfold blk at hn
    rw [if_neg hn1,hn2] at hn
    have h2:=(hN _ x.1 x.2 hn).1
    cases hl:(effs (upd ρ i r) i).puts.lookup n' with
    | none=>rw [cNone n' x' hl];omega
    | some y =>
      rw [cSome n' x' y hl]
      rcases (pOf n' x' y hl hn').2 with q | q
      ·omega
      ·rw [q.2.2] at hn;simp at hn
   ·rw [cNew n x hn1 hn2, cNew n' x' hn1' hn2']
    unfold blk at hn hn'
    rw [if_neg hn1,hn2] at hn
    rw [if_neg hn1',hn2'] at hn'
    intro hxx
    have e:(n-h.length)%8=(n'-h.length)%8:=by
     have q1:((effs (upd ρ i r) i).news.map (·.1))[(n-h.length)%8]? = some x.1:=by rw [List.getElem?_map,hn];rfl
     have q2:((effs (upd ρ i r) i).news.map (·.1))[(n'-h.length)%8]? = some x.1:=by rw [hxx,List.getElem?_map,hn'];rfl
     obtain ⟨l1,q1'⟩:=List.getElem?_eq_some_iff.1 q1
     obtain ⟨l2,q2'⟩:=List.getElem?_eq_some_iff.1 q2
     have hpw:=List.pairwise_iff_getElem.1 hND
     rcases Nat.lt_trichotomy ((n-h.length)%8) ((n'-h.length)%8) with hl | hl | hl
     ·exact absurd (q1'.trans q2'.symm) (hpw _ _ l1 l2 hl)
     ·exact hl
     ·exact absurd (q2'.trans q1'.symm) (hpw _ _ l2 l1 hl)
    omega
 ·refine hI.facts0.upd hU hX ?_
  intro b hb
  rcases newT b hb with h1 | h1
  ·exact Or.inl h1
  ·exact Or.inr h1.1
 ·intro j hj
  by_cases hji:j=i
  ·subst hji
   obtain ⟨S,hS1,hS2⟩:=hF
   exact ⟨S,fun b hb=>⟨(hS1 b hb).1,fun hT=>(hS1 b hb).2 ((newT b hT).imp id (·.2))⟩,hS2⟩
  ·have hLj : L j = true := by unfold mM at hj; simpa [hji] using hj
   rw [(same j hLj).2.2]
   refine (hI.facts j hLj).upd hU hX ?_
   intro b hb
   rcases newT b hb with h1 | h1
   ·exact Or.inl h1
   ·exact Or.inr h1.1
 ·intro j n o hj hm
  have up:∀ n,born h L n=true->born h (mM L i) n=true:=fun n hb=>nK (fun k hk=>by unfold mM;rw [hk];rfl) hb
  by_cases hji:j=i
  ·subst hji;exact up n (hiput n o hm)
  ·have hLj : L j = true := by unfold mM at hj; simpa [hji] using hj
   rw [(same j hLj).2.1] at hm
   exact up n (hI.putsOk j n o hLj hm)
theorem step_inv {L:Nat->Bool} {A:Act} {w:World} {ρ:Nat->bC} {i:Nat} (hI:RInv ops D w0 h F0 vals effs fact a L A w ρ) (hok:tK ops a.tmps.size=true) (hi:L i=false) (his:i<ops.size)
 (hd:∀ j,dep D i j=true->L j=true) (hlt:∀ j,dep D i j=true->j<i) (hlook:uQ ops D l=true) (hfr:Fr a.tmps.size l a) (hloc:∀ j,j<ops.size->Loc D vals effs fact j)
 (hobl:fZ P ops D l w0 h F0 vals effs fact i):wpOp P ops Q i (fun A' w'=>∃ ρ',RInv ops D w0 h F0 vals effs fact a (mM L i) A' w' ρ') A w:=by
 obtain ⟨o,ho⟩:∃ o,ops[i]? = some o:=⟨_,Array.getElem?_eq_getElem his⟩
 have hlk:opLooksOk ops D l i o=true:=by
  unfold uQ at hlook
  rw [List.all_eq_true] at hlook
  have:=hlook i (List.mem_range.2 his)
  rw [ho] at this
  simpa using this
 unfold opLooksOk at hlk
 simp only [Bool.and_eq_true] at hlk
 obtain ⟨⟨k1,k2⟩,k3⟩:=hlk
 have hG:=given_of hI hi hd
 have hO:=hobl o ho ρ _ w hG
 have hw:=want_eq hI hd k3
 have hdst:o.dst=jV ops i:=by unfold jV;rw [ho];rfl
 have hex:execOp (bI ops D l (vals ρ) i) o=execOp A.eval o:=by
  apply execOp_congr
  ·intro cs b hs
   rw [hs] at k2;simp at k2
  ·intro x hx
   rw [Array.all_eq_true_iff_forall_mem] at k1
   exact eval_eq hI hok hi hd (k1 x hx) hfr
 unfold wpOp
 rw [ho]
 simp only []
 rw [hw]
 by_cases hwant:fJ (vals ρ) o=true
 ·rw [if_pos hwant] at hO ⊢
  refine Or.inl (wp_of_opv (by rw [<- hex];exact hO) (fun v w' hA=>?_))
  rw [hdst]
  exact after_inv hI hok hi his hd hlt hloc hA
 ·rw [if_neg hwant] at hO ⊢
  rw [hdst]
  exact after_inv hI hok hi his hd hlt hloc hO
def qU (ops:Array Oper) (l:List (Nat × Value)) (V:Nat->Value) (keep:List Nat):List (Nat × Value) :=
 keep.map fun t=>(t,match writer ops t with | some j=>V j | none=>(l.lookup t).getD undef)
def keepOk (ops:Array Oper) (l:List (Nat × Value)) (keep:List Nat):Bool:=keep.all fun t=>(writer ops t).isSome||(l.lookup t).isSome
def oO (m:Nat) (h:List (Nat × Obj)) (E:Nat->Eff):List (Nat × Obj) :=
 (h.mapIdx fun n x=>cur E m (fun _=>true) n x)++(List.range m).flatMap fun j=>((E j).news.take 8).mapIdx fun k x=>cur E m (fun _=>true) (h.length+8*j+k) x
structure St (w0:Base) (h:List (Nat × Obj)) (F:World->Prop) (w:World):Prop where
 below:w0.Since w
 at_:∀ x∈h,w0.ok x.1/\w.heap[x.1]? = some x.2
 nodup:(h.map (·.1)).Nodup
 facts:iI (fun b=>b∈h.map (·.1)) F w
theorem inv_start {w:World} (hS:St w0 h F0 w) (ρ:Nat->bC):RInv ops D w0 h F0 vals effs fact a (fun _=>false) a w ρ:=by
 have hb:∀ n,born h (fun _=>false) n=true->n<h.length:=by
  intro n hh
  unfold born at hh
  simpa using hh
 have hblk:∀ n x,born h (fun _=>false) n=true->blk h (effs ρ) n=some x->h[n]? = some x:=by
  intro n x h1 h2
  unfold blk at h2
  rw [if_pos (hb n h1)] at h2
  exact h2
 have hcur:∀ n x,cur (effs ρ) ops.size (fun _=>false) n x=x:=by
  intro n x
  unfold cur
  exact fold_id (fun c j _=>by simp) x
 refine ⟨rfl,rfl,fun i hi=>by simp at hi,fun i t _ hi=>by simp at hi,fun _ _=>rfl,fun i j hi=>by simp at hi,hS.below,?_,?_,?_,fun i hi=>by simp at hi,fun i n o hi=>by simp at hi⟩
 ·intro n x hn hh
  have h1:=hblk n x hh hn
  rw [hcur]
  exact hS.at_ x (List.mem_of_getElem? h1)
 ·intro n n' x x' hne hn hn' h1 h2
  have q1:=hblk n x h1 hn
  have q2:=hblk n' x' h2 hn'
  rw [hcur,hcur]
  intro hxx
  have hpw:=List.pairwise_iff_getElem.1 hS.nodup
  have p1:(h.map (·.1))[n]? = some x.1:=by rw [List.getElem?_map,q1];rfl
  have p2:(h.map (·.1))[n']? = some x.1:=by rw [hxx,List.getElem?_map,q2];rfl
  obtain ⟨l1,p1'⟩:=List.getElem?_eq_some_iff.1 p1
  obtain ⟨l2,p2'⟩:=List.getElem?_eq_some_iff.1 p2
  rcases Nat.lt_trichotomy n n' with hl | hl | hl
  ·exact absurd (p1'.trans p2'.symm) (hpw _ _ l1 l2 hl)
  ·exact hne hl
  ·exact absurd (p2'.trans p1'.symm) (hpw _ _ l2 l1 hl)
 ·obtain ⟨S, hS1, hS2⟩ := hS.facts
  refine ⟨S,fun b hbS=>⟨(hS1 b hbS).1,?_⟩,hS2⟩
  rintro ⟨n,x,h1,h2,rfl⟩
  rw [hcur] at hbS
  exact (hS1 _ hbS).2 (List.mem_map.2 ⟨x,List.mem_of_getElem? (hblk n x h1 h2),rfl⟩)
theorem RInv.congrL {L L':Nat->Bool} {A:Act} {w:World} {ρ:Nat->bC} (hI:RInv ops D w0 h F0 vals effs fact a L A w ρ) (he:∀ i,L i=L' i):RInv ops D w0 h F0 vals effs fact a L' A w ρ:=by
 rw [<- funext he];exact hI
theorem inv_end {L : Nat -> Bool} {A : Act} {w : World} {ρ : Nat -> bC} (hI : RInv ops D w0 h F0 vals effs fact a L A w ρ) (hL : ∀ i, i < ops.size -> L i = true) (hfr : Fr a.tmps.size l a) :
 (∀ keep,keepOk ops l keep=true->Fr a.tmps.size (qU ops l (vals ρ) keep) A)/\St w0 (oO ops.size h (effs ρ)) (fun w=>F0 w/\∀ i,i<ops.size->fact ρ i w) w:=by
 refine ⟨?_,?_⟩
 ·intro keep hkeep
  refine ⟨hI.defers.trans hfr.defers,hI.len,fun t v hv=>?_⟩
  have hm:=nT hv
  unfold qU at hm
  obtain ⟨t',ht',he⟩:=List.mem_map.1 hm
  simp only [Prod.mk.injEq] at he
  obtain ⟨rfl,rfl⟩:=he
  unfold keepOk at hkeep
  rw [List.all_eq_true] at hkeep
  have hk:=hkeep t' ht'
  cases hw:writer ops t' with
  | none =>
    rw [hw] at hk
    obtain ⟨v,hv⟩:=Option.isSome_iff_exists.1 (show (l.lookup t').isSome=true from by simpa using hk)
    rw [hI.kept t' (fun i hi hit=>absurd hit (writer_none hw i hi)),hv]
    exact hfr.slot t' v hv
  | some j =>
    have hjt:=writer_some hw
    rw [hI.done j t' hjt (hL j (dstOf_lt hjt))]
 ·have curL : ∀ n x, cur (effs ρ) ops.size (fun _ => true) n x = cur (effs ρ) ops.size L n x := by
   intro n x
   apply cur_congr
   intro j hj
   rw [hL j hj]
  have nb:∀ j k x,j<ops.size->k<8->(effs ρ j).news[k]? = some x->born h L (h.length+8*j+k)=true/\blk h (effs ρ) (h.length+8*j+k)=some x:=by
   intro j k x hj hk hq
   constructor
   ·unfold born
    rw [show (h.length+8*j+k-h.length) / 8=j by omega,hL j hj];simp
   ·unfold blk
    rw [if_neg om,show (h.length+8*j+k-h.length) / 8=j by omega,show (h.length+8*j+k-h.length)%8=k by omega,hq]
  have ob:∀ n x,h[n]? = some x->born h L n=true/\blk h (effs ρ) n=some x:=by
   intro n x hq
   have hl:n<h.length:=(List.getElem?_eq_some_iff.1 hq).1
   exact ⟨by unfold born;simp [hl],by unfold blk;rw [if_pos hl,hq]⟩
  have g1:∀ n y,(h.mapIdx fun n x=>cur (effs ρ) ops.size (fun _=>true) n x)[n]? = some y->∃ x,born h L n=true/\blk h (effs ρ) n=some x/\y=cur (effs ρ) ops.size L n x:=by
   intro n y hn
   rw [List.getElem?_mapIdx] at hn
   cases hq:h[n]? with
   | none=>rw [hq] at hn;simp at hn
   | some x =>
     rw [hq] at hn
     simp only [Option.map_some,Option.some.injEq] at hn
     exact ⟨x,(ob n x hq).1,(ob n x hq).2,by rw [<- hn,curL]⟩
  have g2:∀ j k y,j<ops.size->(((effs ρ j).news.take 8).mapIdx fun k x=>cur (effs ρ) ops.size (fun _=>true) (h.length+8*j+k) x)[k]? = some y->k<8/\∃ x,born h L (h.length+8*j+k)=true/\blk h (effs ρ) (h.length+8*j+k)=some x/\y=cur (effs ρ) ops.size L (h.length+8*j+k) x:=by
   intro j k y hj hk
   rw [List.getElem?_mapIdx] at hk
   have hk8:k<8:=by
    by_cases h':k<8
    ·exact h'
    ·rw [List.getElem?_take_eq_none om] at hk;simp at hk
   rw [List.getElem?_take_of_lt hk8] at hk
   cases hq:(effs ρ j).news[k]? with
   | none=>rw [hq] at hk;simp at hk
   | some x =>
     rw [hq] at hk
     simp only [Option.map_some,Option.some.injEq] at hk
     exact ⟨hk8,x,(nb j k x hj hk8 hq).1,(nb j k x hj hk8 hq).2,by rw [<- hk,curL]⟩
  have memH:∀ y∈oO ops.size h (effs ρ),∃ n x,born h L n=true/\blk h (effs ρ) n=some x/\y=cur (effs ρ) ops.size L n x:=by
   intro y hy
   unfold oO at hy
   rcases List.mem_append.1 hy with hy | hy
   ·obtain ⟨n, hn⟩ := List.mem_iff_getElem?.1 hy
    obtain ⟨x,q⟩:=g1 n y hn
    exact ⟨n,x,q⟩
   ·obtain ⟨j, hj, hy⟩ := List.mem_flatMap.1 hy
    obtain ⟨k,hk⟩:=List.mem_iff_getElem?.1 hy
    obtain ⟨_,x,q⟩:=g2 j k y (List.mem_range.1 hj) hk
    exact ⟨_,x,q⟩
  refine ⟨hI.below,?_,?_,?_⟩
  ·intro y hy
   obtain ⟨n,x,hb,hn,rfl⟩:=memH y hy
   exact hI.live n x hn hb
  ·unfold oO
   rw [List.nodup_iff_pairwise_ne,List.pairwise_map]
   refine List.pairwise_append.2 ⟨?_,?_,?_⟩
   ·refine List.pairwise_iff_getElem.2 (fun i j hi hj hij => ?_)
    obtain ⟨x,b1,k1,e1⟩:=g1 i _ (List.getElem?_eq_getElem hi)
    obtain ⟨x',b2,k2,e2⟩:=g1 j _ (List.getElem?_eq_getElem hj)
    rw [e1,e2]
    exact hI.inj i j x x' om k1 k2 b1 b2
   ·refine List.pairwise_flatMap.2 ⟨?_, ?_⟩
    ·intro j hj
     refine List.pairwise_iff_getElem.2 (fun i i' hi hi' hij=>?_)
     obtain ⟨_,x,b1,k1,e1⟩:=g2 j i _ (List.mem_range.1 hj) (List.getElem?_eq_getElem hi)
     obtain ⟨_,x',b2,k2,e2⟩:=g2 j i' _ (List.mem_range.1 hj) (List.getElem?_eq_getElem hi')
     rw [e1,e2]
     exact hI.inj _ _ x x' om k1 k2 b1 b2
    ·refine List.pairwise_iff_getElem.2 (fun i i' hi hi' hij => ?_)
     intro y hy y' hy'
     simp only [List.getElem_range] at hy hy'
     obtain ⟨k,hk⟩:=List.mem_iff_getElem?.1 hy
     obtain ⟨k',hk'⟩:=List.mem_iff_getElem?.1 hy'
     obtain ⟨l1,x,b1,k1,e1⟩:=g2 i k y (by simpa using hi) hk
     obtain ⟨l2,x',b2,k2,e2⟩:=g2 i' k' y' (by simpa using hi') hk'
     rw [e1,e2]
     exact hI.inj _ _ x x' om k1 k2 b1 b2
   ·intro y hy y' hy'
    obtain ⟨n,hn⟩:=List.mem_iff_getElem?.1 hy
    obtain ⟨j,hj,hy'⟩:=List.mem_flatMap.1 hy'
    obtain ⟨k,hk⟩:=List.mem_iff_getElem?.1 hy'
    obtain ⟨x,b1,k1,e1⟩:=g1 n y hn
    obtain ⟨l2,x',b2,k2,e2⟩:=g2 j k y' (List.mem_range.1 hj) hk
    have hl:n<h.length:=by
     have:=(List.getElem?_eq_some_iff.1 hn).1
     simpa using this
    rw [e1,e2]
    exact hI.inj _ _ x x' om k1 k2 b1 b2
  ·have join : ∀ l : List Nat, (∀ i ∈ l, i < ops.size) -> iI (Tof ops h (effs ρ) L) (fun w => F0 w /\ ∀ i ∈ l, fact ρ i w) w := by
    intro l
    induction l with
    | nil =>
      intro _
      obtain ⟨S,h1,h2⟩:=hI.facts0
      exact ⟨S,h1,fun w' hw=>⟨h2 w' hw,fun i hi=>by simp at hi⟩⟩
    | cons x l ih =>
      intro hl
      obtain ⟨S,h1,h2⟩:=ih (fun i hi=>hl i (List.mem_cons_of_mem _ hi))
      obtain ⟨S',h1',h2'⟩:=hI.facts x (hL x (hl x List.mem_cons_self))
      refine ⟨fun b=>S b\/S' b,fun b hb=>hb.elim (h1 b) (h1' b),fun w' hw=>?_⟩
      obtain ⟨q1,q2⟩:=h2 w' (fun b hb=>hw b (Or.inl hb))
      have q3:=h2' w' (fun b hb=>hw b (Or.inr hb))
      exact ⟨q1,fun i hi=>by
       rcases List.mem_cons.1 hi with rfl | hi
       ·exact q3
       ·exact q2 i hi⟩
   obtain ⟨S,h1,h2⟩:=join (List.range ops.size) (fun i hi=>List.mem_range.1 hi)
   refine ⟨S,fun b hb=>⟨(h1 b hb).1,fun hm=>(h1 b hb).2 ?_⟩,fun w' hw=>?_⟩
   ·obtain ⟨x, hx, rfl⟩ := List.mem_map.1 hm
    obtain ⟨n,y,q1,q2,q3⟩:=memH x hx
    exact ⟨n,y,q1,q2,by rw [q3]⟩
   ·obtain ⟨q1, q2⟩ := h2 w' hw
    exact ⟨q1,fun i hi=>q2 i (List.mem_range.2 hi)⟩
end
theorem ready_mem {md:Region.Mode} {ops:Array Oper} {L:Array Bool} {i:Nat} (h:i∈Region.ready md ops L) :
 ∃ o,ops[i]? = some o/\L.getD i true=false/\∀ e∈o.after,Region.binds md e=true->L.getD e.on false=true:=by
 unfold Region.ready at h
 rw [List.mem_filter] at h
 obtain ⟨h1,h2⟩:=h
 rw [Bool.and_eq_true] at h2
 obtain ⟨h2,h3⟩:=h2
 cases ho:ops[i]? with
 | none=>rw [ho] at h3;simp at h3
 | some o =>
   rw [ho] at h3
   simp only [Option.map_some,Option.getD_some,Array.all_eq_true_iff_forall_mem] at h3
   refine ⟨o,rfl,by simpa using h2,fun e he hb=>?_⟩
   have:=h3 e he
   rw [hb] at this
   simpa using this
def qR (md:Region.Mode) (ops:Array Oper):Bool:=(List.range ops.size).all fun i=>((ops[i]?).map fun o=>o.after.all fun e=> !Region.binds md e||decide (e.on<i)).getD true
theorem all_listed {md : Region.Mode} {ops : Array Oper} {L : Array Bool} (hd : qR md ops = true) (h : Region.ready md ops L = []) : ∀ i, i < ops.size -> L.getD i true = true := by
 intro i
 induction i using Nat.strongRecOn with
 | ind i ih =>
   intro hi
   cases hl:L.getD i true with
   | true=>rfl
   | false =>
     exfalso
     have hmem:i∈Region.ready md ops L:=by
      unfold Region.ready
      rw [List.mem_filter]
      refine ⟨List.mem_range.2 hi,?_⟩
      rw [hl]
      simp only [Bool.not_false,Bool.true_and]
      have hdi:((ops[i]?).map fun o=>o.after.all fun e=> !Region.binds md e||decide (e.on<i)).getD true=true:=by
       unfold qR at hd
       rw [List.all_eq_true] at hd
       exact hd i (List.mem_range.2 hi)
      cases ho:ops[i]? with
      | none=>rw [Array.getElem?_eq_none_iff] at ho;omega
      | some o =>
        rw [ho] at hdi
        simp only [Option.map_some,Option.getD_some,Array.all_eq_true_iff_forall_mem] at hdi ⊢
        intro e he
        have h1:=hdi e he
        cases hb:Region.binds md e with
        | false=>rfl
        | true =>
          rw [hb] at h1
          simp at h1
          have h2:=ih e.on h1 om
          simp only [Bool.not_true,Bool.false_or]
          have h3:L.getD e.on true=true:=h2
          rw [Array.getD_eq_getD_getElem?] at h3 ⊢
          cases hq:L[e.on]? with
          | none =>
            exfalso
            rw [Array.getElem?_eq_none_iff] at hq
            have:L.getD i true=true:=by rw [Array.getD_eq_getD_getElem?,Array.getElem?_eq_none om];rfl
            rw [this] at hl;exact absurd hl (by simp)
          | some b=>rw [hq] at h3;simpa using h3
     rw [h] at hmem
     exact absurd hmem (by simp)
def togo (L:Array Bool):Nat:=L.toList.countP (fun b=> !b)
theorem togo_set {L:Array Bool} {i:Nat} (h:L.getD i true=false):togo (L.setIfInBounds i true)+1=togo L:=by
 unfold togo
 have hi:i<L.size:=by
  by_cases hh:i<L.size
  ·exact hh
  ·rw [Array.getD_eq_getD_getElem?,Array.getElem?_eq_none om] at h;exact absurd h (by simp)
 have hv:L.toList[i]? = some false:=by
  rw [Array.getD_eq_getD_getElem?,Array.getElem?_eq_getElem hi] at h
  rw [Array.getElem?_toList,Array.getElem?_eq_getElem hi]
  simpa using h
 rw [Array.toList_setIfInBounds]
 revert hv
 generalize L.toList=l
 intro hv
 clear hi h
 induction l generalizing i with
 | nil=>simp at hv
 | cons b l ih =>
   cases i with
   | zero=>simp at hv;subst hv;simp
   | succ i=>simp at hv;simp only [List.set_cons_succ,List.countP_cons];have:=ih hv;omega
variable {P:Program} {ops:Array Oper} {Q:Exit→Act→World→Prop}
theorem wpAny_inv (I : Array Bool -> Act -> World -> Prop) (hd : qR .any ops = true)
 (hs:∀ L a w i o,I L a w->ops[i]? = some o->L.getD i true=false->(∀ e∈o.after,Region.binds .any e=true->L.getD e.on false=true)->wpOp P ops Q i (I (L.setIfInBounds i true)) a w)
 (he:∀ L a w,I L a w->(∀ i,i<ops.size->L.getD i true=true)->Q .normal a w) :
 ∀ fuel L a w,togo L<=fuel->I L a w->wpAny P .any ops Q fuel L a w:=by
 intro fuel
 induction fuel with
 | zero =>
   intro L a w ht hI
   have hn:Region.ready .any ops L=[]:=by
    cases hr:Region.ready .any ops L with
    | nil=>rfl
    | cons i l =>
      obtain ⟨o,_,h2,_⟩:=ready_mem (md:=.any) (ops:=ops) (L:=L) (i:=i) (by rw [hr];simp)
      have:=togo_set h2
      omega
   exact ⟨hn,he L a w hI (all_listed hd hn)⟩
 | succ fuel ih =>
   intro L a w ht hI
   refine ⟨fun hn=>he L a w hI (all_listed hd hn),fun i hi=>?_⟩
   obtain ⟨o,h1,h2,h3⟩:=ready_mem hi
   have hc:=togo_set h2
   exact wpOp_mono (fun a w h=>ih _ a w om h) (hs L a w i o hI h1 h2 h3)
theorem wp_region_inv {id:Nat} {a:Act} {w:World} (hm:P.follows .mixedOrders=true) (I:Array Bool->Act->World->Prop) (hd:qR .any ops=true)
 (h0:I (Array.replicate ops.size false) a w.drew)
 (hs:∀ L a w i o,I L a w->ops[i]? = some o->L.getD i true=false->(∀ e∈o.after,Region.binds .any e=true->L.getD e.on false=true)->wpOp P ops Q i (I (L.setIfInBounds i true)) a w)
 (he:∀ L a w,I L a w->(∀ i,i<ops.size->L.getD i true=true)->Q .normal a w):(Code.region id ops true).wp P Q a w:=by
 refine wp_region_any hm (wpAny_inv I hd hs he ops.size _ a _ ?_ h0)
 unfold togo
 rw [Array.toList_replicate]
 exact Nat.le_trans (List.countP_le_length) (by simp)
theorem Upd.drew {X:Nat->Prop} {w w':World} (h:Upd X w w'):Upd X w w'.drew:=⟨h.os,h.tape,h.output,h.size,h.block⟩
theorem St.drew {w0:Base} {w:World} {h:List (Nat × Obj)} {F:World->Prop} (hS:St w0 h F w):St w0 h F w.drew :=
 ⟨hS.below.drew,hS.at_,hS.nodup,by
  obtain ⟨S,h1,h2⟩:=hS.facts
  exact ⟨S,h1,h2⟩⟩
section
variable {P:Program} {ops:Array Oper} {D:List Nat} {l:List (Nat × Value)} {a:Act} {w0:Base} {h:List (Nat × Obj)} {F0:World→Prop}
variable {vals:(Nat→bC)→Nat→Value} {effs:(Nat→bC)→Nat→Eff} {fact:(Nat→bC)→Nat→World→Prop} {Q:Exit→Act→World→Prop}
theorem rP {id : Nat} {w : World} (hm : P.follows .mixedOrders = true) (hdn : qR .any ops = true) (hD : DOk ops D = true) (hok : tK ops a.tmps.size = true) (hlook : uQ ops D l = true)
 (hloc:∀ j,j<ops.size->Loc D vals effs fact j) (hobl:∀ i,i<ops.size->fZ P ops D l w0 h F0 vals effs fact i) (keep:List Nat) (hkeep:keepOk ops l keep=true) (hfr:Fr a.tmps.size l a) (hS:St w0 h F0 w)
 (hend:∀ ρ A w',Fr a.tmps.size (qU ops l (vals ρ) keep) A->St w0 (oO ops.size h (effs ρ)) (fun w=>F0 w/\∀ i,i<ops.size->fact ρ i w) w'->Q .normal A w'):(Code.region id ops true).wp P Q a w:=by
 have dj:∀ i,i<ops.size->∀ j,dep D i j=true->j<i/\∃ e∈edgesOf ops i,e=j\/dep D e j=true:=by
  intro i hi j hd
  unfold DOk at hD
  rw [List.all_eq_true] at hD
  have h1:=hD i (List.mem_range.2 hi)
  rw [Bool.and_eq_true,List.all_eq_true,decide_eq_true_eq] at h1
  have hji:j<i:=by
   by_cases hh:j<i
   ·exact hh
   ·unfold dep at hd
    rw [Nat.testBit_lt_two_pow (Nat.lt_of_lt_of_le h1.1 (Nat.pow_le_pow_right om om))] at hd
    exact absurd hd (by simp)
  have h2:=h1.2 j (List.mem_range.2 hji)
  rw [hd] at h2
  simp only [Bool.not_true,Bool.false_or,List.any_eq_true,Bool.or_eq_true,beq_iff_eq] at h2
  exact ⟨hji,h2⟩
 refine wp_region_inv hm (fun L A w=>∃ ρ,L.size=ops.size/\RInv ops D w0 h F0 vals effs fact a (fun i=>L.getD i false) A w ρ) hdn ?_ ?_ ?_
 ·refine ⟨fun _ => {}, by simp, (inv_start hS.drew _).congrL (fun i => ?_)⟩
  rw [Array.getD_eq_getD_getElem?,Array.getElem?_replicate];split<;>rfl
 ·rintro L A w' i o ⟨ρ, hsz, hI⟩ ho hl hdeps
  have hi:i<ops.size:=by
   by_cases hh:i<ops.size
   ·exact hh
   ·rw [Array.getElem?_eq_none om] at ho;exact absurd ho (by simp)
  have hlf:L.getD i false=false:=by
   rw [Array.getD_eq_getD_getElem?] at hl ⊢
   cases hq:L[i]? with
   | none=>rfl
   | some b=>rw [hq] at hl;simpa using hl
  have hdL:∀ j,dep D i j=true->L.getD j false=true:=by
   intro j hj
   obtain ⟨_,e,he,hej⟩:=dj i hi j hj
   have hLe:L.getD e false=true:=by
    unfold edgesOf at he
    rw [ho] at he
    simp only [Option.map_some,Option.getD_some,List.mem_map,List.mem_filter,Array.mem_toList_iff] at he
    obtain ⟨ed,⟨h1,h2⟩,rfl⟩:=he
    exact hdeps ed h1 h2
   rcases hej with rfl | hej
   ·exact hLe
   ·exact hI.closed e j hLe hej
  refine wpOp_mono ?_ (step_inv hI hok hlf hi hdL (fun j hj=>(dj i hi j hj).1) hlook hfr hloc (hobl i hi))
  rintro A' w2 ⟨ρ',hI'⟩
  refine ⟨ρ',by simpa using hsz,hI'.congrL (fun j=>?_)⟩
  unfold mM
  simp only [Array.getD_eq_getD_getElem?,Array.getElem?_setIfInBounds]
  by_cases hij:i=j
  ·subst hij
   rw [if_pos rfl,if_pos om];simp
  ·rw [if_neg hij,decide_eq_false (fun e=>hij e.symm),Bool.or_false]
 ·rintro L A w' ⟨ρ, hsz, hI⟩ hall
  obtain ⟨h1,h2⟩:=inv_end hI (fun i hi=>by
   have:=hall i hi
   rw [Array.getD_eq_getD_getElem?] at this ⊢
   rw [Array.getElem?_eq_getElem om] at this ⊢
   simpa using this) hfr
  exact hend ρ A w' (h1 keep hkeep) h2
theorem qP {id : Nat} {w : World} (hD : DSeq ops.size D = true) (hok : tK ops a.tmps.size = true) (hlook : uQ ops D l = true)
 (hloc:∀ j,j<ops.size->Loc D vals effs fact j) (hobl:∀ i,i<ops.size->fZ P ops D l w0 h F0 vals effs fact i) (keep:List Nat) (hkeep:keepOk ops l keep=true) (hfr:Fr a.tmps.size l a) (hS:St w0 h F0 w)
 (hend:∀ ρ A w',Fr a.tmps.size (qU ops l (vals ρ) keep) A->St w0 (oO ops.size h (effs ρ)) (fun w=>F0 w/\∀ i,i<ops.size->fact ρ i w) w'->Q .normal A w'):(Code.region id ops false).wp P Q a w:=by
 have dj:∀ i,i<ops.size->∀ j,dep D i j=decide (j<i):=by
  intro i hi j
  unfold DSeq at hD
  rw [List.all_eq_true] at hD
  have h1:=hD i (List.mem_range.2 hi)
  unfold dep
  rw [show D.getD i 0=2^i-1 by simpa using h1,Nat.testBit_two_pow_sub_one]
 apply wp_region
 have key:∀ m k A w,k+m=ops.size->(∃ ρ,RInv ops D w0 h F0 vals effs fact a (fun i=>decide (i<k)) A w ρ)->wpOps P ops Q (List.range' k m) A w:=by
  intro m
  induction m with
  | zero =>
    rintro k A w hk ⟨ρ,hI⟩
    obtain ⟨h1,h2⟩:=inv_end hI (fun i hi=>by simp;omega) hfr
    exact hend ρ A w (h1 keep hkeep) h2
  | succ m ih =>
    rintro k A w hk ⟨ρ,hI⟩
    rw [List.range'_succ,wpOps_cons]
    refine wpOp_mono ?_ (step_inv (i:=k) hI hok (by simp) om (fun j hj=>?_) (fun j hj=>?_) hlook hfr hloc (hobl k om))
    ·rintro A' w2 ⟨ρ', hI'⟩
     refine ih (k+1) A' w2 om ⟨ρ',hI'.congrL (fun j=>?_)⟩
     unfold mM
     by_cases h1:j=k
     ·subst h1;simp
     ·rw [decide_eq_false h1,Bool.or_false,decide_eq_decide];omega
    ·rw [dj k om] at hj;exact hj
    ·rw [dj k om] at hj;simpa using hj
 rw [List.range_eq_range']
 exact key ops.size 0 a w om ⟨fun _=>{},(inv_start hS _).congrL (fun i=>by simp)⟩
end
def sQ:Obj->Addr->Option Value
 | .cells c _ _,a=>if a.spot.isSome then none else c[a.off]?
 | _,_=>none
def frozenIn:Obj->Nat->Bool
 | .cells _ _ (lo,hi),o=>lo<=o&&o<hi
 | _,_=>false
def putIn:Obj->Nat->Value->Obj
 | .cells c e f,o,v=>.cells (c.setIfInBounds o v) e f
 | o,_,_=>o
def shapeIn:Obj->Option (TypeId × Nat)
 | .cells c e _=>some (e,c.size)
 | _=>none
def plainV:Value->Bool
 | .agg _=>false
 | .tuple _=>false
 | _=>true
def kK (P : Program) {α : Type} : Sem α -> List Nat -> List (Nat × Obj) -> List Nat -> Option (α × List (Nat × Obj) × List (Nat × Nat))
 | .pure a,_,K,_=>some (a,K,[])
 | .load _ a k, ps, K, ns => match K[ps.headD 0]? with
   | some (g, o) => match sQ o a with
     | some v=>(kK P (k v) ps.tail K ns).map fun r=>(r.1,r.2.1,(a.block,g)::r.2.2)
     | none=>none
   | none=>none
 | .store _ a v k, ps, K, ns => match plainV v, K[ps.headD 0]? with
   | true, some (g, o) => match sQ o a, frozenIn o a.off with
     | some _,false=>(kK P k ps.tail (K.set (ps.headD 0) (g,putIn o a.off v)) ns).map fun r=>(r.1,r.2.1,(a.block,g)::r.2.2)
     | _,_=>none
   | _,_=>none
 | .new o k,ps,K,ns=>kK P (k (ns.headD 0)) ps (K++[(ns.headD 0,o)]) ns.tail
 | .shape b k, ps, K, ns => match K[ps.headD 0]? with
   | some (g, o) => match shapeIn o with
     | some s=>(kK P (k (some s)) ps.tail K ns).map fun r=>(r.1,r.2.1,(b,g)::r.2.2)
     | none=>none
   | none=>none
 | .frozen a k, ps, K, ns => match K[ps.headD 0]? with
   | some (g,o)=>(kK P (k (frozenIn o a.off)) ps.tail K ns).map fun r=>(r.1,r.2.1,(a.block,g)::r.2.2)
   | none=>none
 | .program k,ps,K,ns=>kK P (k P) ps K ns
 | .mark _ k,ps,K,ns=>kK P k ps K ns
 | _,_,_,_=>none
def Eqs:List (Nat × Nat)->Prop
 | []=>True
 | e::l=>e.1=e.2/\Eqs l
def dN (P : Program) {α : Type} : Sem α -> World -> List Nat
 | .pure _,_=>[]
 | .load _ a k, w => match w.cell? a with
   | some v=>dN P (k v) w
   | none=>[]
 | .store _ a v k,w=>dN P k (w.setCell a v)
 | .new o k,w=>w.heap.size::dN P (k w.heap.size) { w with heap:=w.heap.push o}
 | .shape r k,w=>dN P (k (w.shape? r)) w
 | .frozen a k,w=>dN P (k (w.frozen? a)) w
 | .program k,w=>dN P (k P) w
 | .mark _ k,w=>dN P k w
 | _,_=>[]
def Knows (K:List (Nat × Obj)) (w:World):Prop:=∀ x∈K,w.heap[x.1]? = some x.2
theorem cell_in {w:World} {o:Obj} {a:Addr} (h:w.heap[a.block]? = some o) {v:Value} (hc:sQ o a=some v):w.cell? a=some v:=by
 unfold World.cell?
 rw [h]
 cases o<;>simp only [sQ] at hc<;>first | exact hc | (simp at hc;done)
theorem frozen_in {w:World} {o:Obj} {a:Addr} (h:w.heap[a.block]? = some o):w.frozen? a=frozenIn o a.off:=by
 unfold World.frozen?
 rw [h]
 cases o<;>rfl
theorem shape_in {w:World} {o:Obj} {b:Nat} (h:w.heap[b]? = some o) {s:TypeId × Nat} (hs:shapeIn o=some s):w.shape? b=some s:=by
 unfold World.shape?
 rw [h]
 cases o<;>simp only [shapeIn] at hs<;>first | exact hs | (simp at hs;done)
theorem put_in {w:World} {o:Obj} {a:Addr} (h:w.heap[a.block]? = some o) {u:Value} (hc:sQ o a=some u) (v:Value):(w.setCell a v).heap[a.block]? = some (putIn o a.off v):=by
 simp only [World.setCell,Array.getElem?_modify,if_true,h,Option.map_some]
 cases o<;>simp only [sQ] at hc<;>first | (simp at hc;done) | skip
 simp only [putIn]
 by_cases hs:a.spot.isSome=true
 ·rw [if_pos hs] at hc;simp at hc
 ·rw [if_neg hs]
theorem mem_set_cases {α:Type} {l:List α} {i:Nat} {x y:α} (h:y∈l.set i x):y=x\/∃ j,j≠i/\l[j]? = some y:=by
 obtain ⟨j,hj⟩:=List.mem_iff_getElem?.1 h
 rw [List.getElem?_set] at hj
 by_cases hij:i=j
 ·subst hij
  rw [if_pos rfl] at hj
  split at hj
  ·left;simpa using hj.symm
  ·simp at hj
 ·rw [if_neg hij] at hj
  exact Or.inr ⟨j,fun e=>hij e.symm,hj⟩
theorem nodup_get {l:List (Nat × Obj)} (h:(l.map (·.1)).Nodup) {i j:Nat} {g g':Nat} {o o':Obj} (hi:l[i]? = some (g,o)) (hj:l[j]? = some (g',o')) (hne:i≠j):g≠g':=by
 rintro rfl
 have hpw:=List.pairwise_iff_getElem.1 h
 have p1:(l.map (·.1))[i]? = some g:=by rw [List.getElem?_map,hi];rfl
 have p2:(l.map (·.1))[j]? = some g:=by rw [List.getElem?_map,hj];rfl
 obtain ⟨l1,p1'⟩:=List.getElem?_eq_some_iff.1 p1
 obtain ⟨l2,p2'⟩:=List.getElem?_eq_some_iff.1 p2
 rcases Nat.lt_trichotomy i j with hl | hl | hl
 ·exact absurd (p1'.trans p2'.symm) (hpw _ _ l1 l2 hl)
 ·exact hne hl
 ·exact absurd (p2'.trans p1'.symm) (hpw _ _ l2 l1 hl)
def GOk {α:Type} (P:Program) (s:Sem α) (w:World) (K:List (Nat × Obj)) (x:α) (K':List (Nat × Obj)) (w':World):Prop :=
 s.run P w=.ok x w'/\Knows K' w'/\K'.map (·.1)=K.map (·.1)++dN P s w/\Upd (fun b=>b∈K.map (·.1)) w w'/\(∀ b∈dN P s w,w.heap.size<=b)/\(dN P s w).Nodup
theorem rF {α : Type} {P : Program} (s : Sem α) : ∀ (ps : List Nat) (K : List (Nat × Obj)) (w : World) (x : α) (K' : List (Nat × Obj)) (es : List (Nat × Nat)),
 Knows K w->(K.map (·.1)).Nodup->kK P s ps K (dN P s w)=some (x,K',es)->Eqs es->∃ w',GOk P s w K x K' w':=by
 induction s with
 | pure a =>
   intro ps K w x K' es hK hN hg he
   simp only [kK,Option.some.injEq,Prod.mk.injEq] at hg
   obtain ⟨rfl,rfl,rfl⟩:=hg
   exact ⟨w,rfl,hK,by simp [dN],Upd.refl _ _,by simp [dN],by simp [dN]⟩
 | load m a k ih =>
   intro ps K w x K' es hK hN hg he
   simp only [kK] at hg
   split at hg
   ·rename_i g o hq
    split at hg
    ·rename_i v hc
     have hmem:=List.mem_of_getElem? hq
     rw [Option.map_eq_some_iff] at hg
     obtain ⟨⟨x1,K1,es1⟩,hg1,hg2⟩:=hg
     simp only [Prod.mk.injEq] at hg2
     obtain ⟨rfl,rfl,rfl⟩:=hg2
     obtain ⟨he1,he2⟩:=he
     simp only at he1
     have hcell:w.cell? a=some v:=cell_in (by rw [he1];exact hK _ hmem) hc
     have hnews:dN P (.load m a k) w=dN P (k v) w:=by simp only [dN,hcell]
     rw [hnews] at hg1
     obtain ⟨w',h1,h2,h3,h4,h5,h6⟩:=ih v _ K w _ _ _ hK hN hg1 he2
     exact ⟨w',by simp only [Sem.run,hcell];exact h1,h2,by rw [hnews];exact h3,h4,by rw [hnews];exact h5,by rw [hnews];exact h6⟩
    ·exact absurd hg (by simp)
   ·exact absurd hg (by simp)
 | store m a v k ih =>
   intro ps K w x K' es hK hN hg he
   simp only [kK] at hg
   split at hg
   ·rename_i g o hpv hq
    split at hg
    ·rename_i u hc hfz
     have hmem:=List.mem_of_getElem? hq
     rw [Option.map_eq_some_iff] at hg
     obtain ⟨⟨x1,K1,es1⟩,hg1,hg2⟩:=hg
     simp only [Prod.mk.injEq] at hg2
     obtain ⟨rfl,rfl,rfl⟩:=hg2
     obtain ⟨he1,he2⟩:=he
     simp only at he1
     have hblk:w.heap[a.block]? = some o:=by rw [he1];exact hK _ hmem
     have hcell:w.cell? a=some u:=cell_in hblk hc
     have hfr:w.frozen? a=false:=by rw [frozen_in hblk];exact hfz
     have hnews:dN P (.store m a v k) w=dN P k (w.setCell a v):=by simp only [dN]
     rw [hnews] at hg1
     have hset:(K.set (ps.headD 0) (g,putIn o a.off v)).map (·.1)=K.map (·.1):=by
      apply List.ext_getElem?
      intro j
      rw [List.getElem?_map,List.getElem?_map,List.getElem?_set]
      by_cases hj:ps.headD 0=j
      ·subst hj
       rw [if_pos rfl,if_pos (List.getElem?_eq_some_iff.1 hq).1,hq];rfl
      ·rw [if_neg hj]
     have hK1:Knows (K.set (ps.headD 0) (g,putIn o a.off v)) (w.setCell a v):=by
      intro y hy
      rcases mem_set_cases hy with rfl | ⟨j,hj,hjy⟩
      ·simp only
       rw [<- he1];exact put_in hblk hc v
      ·obtain ⟨g', o'⟩ := y
       have hne:=nodup_get hN hjy hq hj
       have:=hK _ (List.mem_of_getElem? hjy)
       simp only at this ⊢
       rw [Below.heap_setCell _ _ _ _ (by rw [he1];exact hne)]
       exact this
     obtain ⟨w',h1,h2,h3,h4,h5,h6⟩:=ih _ _ (w.setCell a v) _ _ _ hK1 (by rw [hset];exact hN) hg1 he2
     have hsz:(w.setCell a v).heap.size=w.heap.size:=by simp [World.setCell]
     refine ⟨w',?_,h2,by rw [hnews,h3,hset],?_,by rw [hnews,<- hsz];exact h5,by rw [hnews];exact h6⟩
     ·cases v<;>simp only [plainV,Bool.false_eq_true] at hpv<;>(simp only [Sem.run,hcell,hfr,Bool.false_eq_true,if_false];exact h1)
     ·rw [hset] at h4
      refine Upd.trans (b:=w.setCell a v) ⟨rfl,rfl,rfl,by omega,fun b hb hnb=>?_⟩ h4
      apply Below.heap_setCell
      rintro rfl
      apply hnb
      rw [he1]
      exact List.mem_map.2 ⟨(g,o),hmem,rfl⟩
    ·exact absurd hg (by simp)
   ·exact absurd hg (by simp)
 | new o k ih =>
   intro ps K w x K' es hK hN hg he
   simp only [kK,dN,List.headD_cons,List.tail_cons] at hg
   have hK1:Knows (K++[(w.heap.size,o)]) { w with heap:=w.heap.push o}:=by
    intro y hy
    rcases List.mem_append.1 hy with hy | hy
    ·have h1 := hK y hy
     have hlt:y.1<w.heap.size:=(Array.getElem?_eq_some_iff.1 h1).1
     show (w.heap.push o)[y.1]? = _
     rw [Array.getElem?_push,if_neg om];exact h1
    ·simp only [List.mem_singleton] at hy
     subst hy
     show (w.heap.push o)[w.heap.size]? = _
     simp
   have hlt:∀ b∈K.map (·.1),b<w.heap.size:=by
    intro b hb
    obtain ⟨y,hy,rfl⟩:=List.mem_map.1 hb
    exact (Array.getElem?_eq_some_iff.1 (hK y hy)).1
   have hN1:((K++[(w.heap.size,o)]).map (·.1)).Nodup:=by
    rw [List.map_append]
    refine List.nodup_append.2 ⟨hN,by simp,?_⟩
    intro b hb c hc
    simp only [List.map_cons,List.map_nil,List.mem_singleton] at hc
    have:=hlt b hb
    omega
   obtain ⟨w',h1,h2,h3,h4,h5,h6⟩:=ih w.heap.size _ _ { w with heap:=w.heap.push o} _ _ _ hK1 hN1 hg he
   have hsz:({ w with heap:=w.heap.push o}:World).heap.size=w.heap.size+1:=by simp
   rw [hsz] at h5
   refine ⟨w',by simp only [Sem.run];exact h1,h2,by rw [h3];simp [dN],?_,?_,?_⟩
   ·refine ⟨h4.os, h4.tape, h4.output, by have := h4.size; rw [hsz] at this; omega, fun b hb hnb => ?_⟩
    rw [h4.block b (by rw [hsz];omega) ?_]
    ·show (w.heap.push o)[b]? = _
     rw [Array.getElem?_push,if_neg om]
    ·rw [List.map_append]
     intro hm
     rcases List.mem_append.1 hm with hm | hm
     ·exact hnb hm
     ·simp only [List.map_cons,List.map_nil,List.mem_singleton] at hm;omega
   ·intro b hb
    simp only [dN,List.mem_cons] at hb
    rcases hb with rfl | hb
    ·omega
    ·have:=h5 b hb;omega
   ·simp only [dN]
    refine List.nodup_cons.2 ⟨fun hm=>?_,h6⟩
    have:=h5 _ hm;omega
 | shape b k ih =>
   intro ps K w x K' es hK hN hg he
   simp only [kK] at hg
   split at hg
   ·rename_i g o hq
    split at hg
    ·rename_i s hs
     have hmem:=List.mem_of_getElem? hq
     rw [Option.map_eq_some_iff] at hg
     obtain ⟨⟨x1,K1,es1⟩,hg1,hg2⟩:=hg
     simp only [Prod.mk.injEq] at hg2
     obtain ⟨rfl,rfl,rfl⟩:=hg2
     obtain ⟨he1,he2⟩:=he
     simp only at he1
     have hsh:w.shape? b=some s:=shape_in (by rw [he1];exact hK _ hmem) hs
     have hnews:dN P (.shape b k) w=dN P (k (some s)) w:=by simp only [dN,hsh]
     rw [hnews] at hg1
     obtain ⟨w',h1,h2,h3,h4,h5,h6⟩:=ih (some s) _ K w _ _ _ hK hN hg1 he2
     exact ⟨w',by simp only [Sem.run,hsh];exact h1,h2,by rw [hnews];exact h3,h4,by rw [hnews];exact h5,by rw [hnews];exact h6⟩
    ·exact absurd hg (by simp)
   ·exact absurd hg (by simp)
 | frozen a k ih =>
   intro ps K w x K' es hK hN hg he
   simp only [kK] at hg
   split at hg
   ·rename_i g o hq
    have hmem:=List.mem_of_getElem? hq
    rw [Option.map_eq_some_iff] at hg
    obtain ⟨⟨x1,K1,es1⟩,hg1,hg2⟩:=hg
    simp only [Prod.mk.injEq] at hg2
    obtain ⟨rfl,rfl,rfl⟩:=hg2
    obtain ⟨he1,he2⟩:=he
    simp only at he1
    have hfr:w.frozen? a=frozenIn o a.off:=frozen_in (by rw [he1];exact hK _ hmem)
    have hnews:dN P (.frozen a k) w=dN P (k (frozenIn o a.off)) w:=by simp only [dN,hfr]
    rw [hnews] at hg1
    obtain ⟨w',h1,h2,h3,h4,h5,h6⟩:=ih _ _ K w _ _ _ hK hN hg1 he2
    exact ⟨w',by simp only [Sem.run,hfr];exact h1,h2,by rw [hnews];exact h3,h4,by rw [hnews];exact h5,by rw [hnews];exact h6⟩
   ·exact absurd hg (by simp)
 | program k ih =>
   intro ps K w x K' es hK hN hg he
   obtain ⟨w',h⟩:=ih P ps K w x K' es hK hN hg he
   exact ⟨w',h⟩
 | mark m k ih =>
   intro ps K w x K' es hK hN hg he
   obtain ⟨w',h⟩:=ih ps K w x K' es hK hN hg he
   exact ⟨w',h⟩
 | freeze a n k ih=>intro ps K w x K' es hK hN hg he;simp [kK] at hg
 | getObj r k ih=>intro ps K w x K' es hK hN hg he;simp [kK] at hg
 | setObj r o k ih=>intro ps K w x K' es hK hN hg he;simp [kK] at hg
 | choose q k ih=>intro ps K w x K' es hK hN hg he;simp [kK] at hg
 | sys c k ih=>intro ps K w x K' es hK hN hg he;simp [kK] at hg
 | halt x=>intro ps K w x K' es hK hN hg he;simp [kK] at hg
section
variable {P:Program} {ops:Array Oper} {D:List Nat} {l:List (Nat × Value)} {a:Act} {w0:Base} {h:List (Nat × Obj)} {F0:World→Prop}
variable {vals:(Nat→bC)→Nat→Value} {effs:(Nat→bC)→Nat→Eff} {fact:(Nat→bC)→Nat→World→Prop}
def vW:Next->Option Value
 | .value v=>some v
 | .skip=>some undef
 | _=>none
def known (ops : Array Oper) (D : List Nat) (h : List (Nat × Obj)) (E : Nat -> Eff) (i : Nat) (ns : List Nat) : List (Nat × Obj) :=
 ns.map fun n=>match blk h E n with
  | some x=>cur E ops.size (dep D i) n x
  | none=>(0,default)
def eH (ops:Array Oper) (D:List Nat) (h:List (Nat × Obj)) (E:Nat->Eff) (i:Nat) (ns:List Nat):Bool :=
 (ns.all fun n=>(blk h E n).isSome&&okN ops D h E i n)&&decide ns.Nodup
def qX (ns:List Nat) (K:List (Nat × Obj)) (E:Eff):List (Nat × Obj) :=
 ((ns.zip K).map fun x=>(((E.puts.lookup x.1).getD x.2).1,((E.puts.lookup x.1).getD x.2).2))++E.news
theorem applyE_eq (ns:List Nat) (K:List (Nat × Obj)) (E:Eff):qX ns K E=((ns.zip K).map fun x=>(E.puts.lookup x.1).getD x.2)++E.news:=rfl
def wS (ns:List Nat) (E:Eff):Bool:=E.puts.all fun x=>ns.contains x.1
theorem gZ {T:Nat->Prop} {w:World} {F:World->Prop} (hF:∀ w,F w):iI T F w:=⟨fun _=>False,fun _ h=>h.elim,fun w' _=>hF w'⟩
theorem obl_run_at {i:Nat} {o:Oper} (_ho:ops[i]? = some o) (ns ps:List Nat) (ρ:Nat->bC) (es:List Nat->List (Nat × Nat)) (x:List Nat->Next)
 (hw:fJ (vals ρ) o=true) (hn:eH ops D h (effs ρ) i ns=true)
 (hr:∀ z,kK P (execOp (bI ops D l (vals ρ) i) o) ps (known ops D h (effs ρ) i ns) z=some (x z,qX ns (known ops D h (effs ρ) i ns) (effs (upd ρ i { n:=z}) i),es z))
 (hx:∀ z,vW (x z)=some (vals (upd ρ i { n:=z}) i)) (hp:∀ z,wS ns (effs (upd ρ i { n:=z}) i)=true)
 (he:∀ z,Eqs (es z)) (hf:∀ z w,fact (upd ρ i { n:=z}) i w) (T:Nat->Prop) (w:World) (hG:Given ops D w0 h F0 effs fact i ρ T w) :
 if fJ (vals ρ) o then opv P (execOp (bI ops D l (vals ρ) i) o) w (After ops D h vals effs fact i ρ T w) else After ops D h vals effs fact i ρ T w undef w:=by
 rw [if_pos hw]
 have hno:=hn
 unfold eH at hno
 rw [Bool.and_eq_true,List.all_eq_true,decide_eq_true_eq] at hno
 obtain ⟨hno,hnd⟩:=hno
 have hbn:∀ n∈ns,∃ x,blk h (effs ρ) n=some x/\okN ops D h (effs ρ) i n=true:=by
  intro n hm
  have:=hno n hm
  rw [Bool.and_eq_true] at this
  obtain ⟨x,hb⟩:=Option.isSome_iff_exists.1 this.1
  exact ⟨x,hb,this.2⟩
 have hK:Knows (known ops D h (effs ρ) i ns) w:=by
  intro y hy
  unfold known at hy
  obtain ⟨n,hm,rfl⟩:=List.mem_map.1 hy
  obtain ⟨x,hb,hok⟩:=hbn n hm
  rw [hb]
  exact (hG.block n x hb hok).1
 have hKN:((known ops D h (effs ρ) i ns).map (·.1)).Nodup:=by
  unfold known
  rw [List.map_map]
  refine List.pairwise_map.2 ?_
  refine List.Pairwise.imp_of_mem ?_ hnd
  intro n n' hm hm' hne
  obtain ⟨x,hb,hok⟩:=hbn n hm
  obtain ⟨x',hb',hok'⟩:=hbn n' hm'
  simp only [Function.comp,hb,hb']
  exact hG.ne n n' x x' hne hb hb' hok hok'
 obtain ⟨w',h1,h2,h3,h4,h5,h6⟩:=rF _ _ _ w _ _ _ hK hKN (hr (dN P (execOp (bI ops D l (vals ρ) i) o) w)) (he _)
 generalize dN P (execOp (bI ops D l (vals ρ) i) o) w=z at *
 have hxv:=hx z
 have hlen:(known ops D h (effs ρ) i ns).length=ns.length:=by unfold known;simp
 have h3':((ns.zip (known ops D h (effs ρ) i ns)).map fun x=>(((effs (upd ρ i { n:=z}) i).puts.lookup x.1).getD x.2).1)=(known ops D h (effs ρ) i ns).map (·.1)/\(effs (upd ρ i { n:=z}) i).news.map (·.1)=z:=by
  rw [applyE_eq] at h3
  rw [List.map_append,List.map_map] at h3
  exact List.append_inj h3 (by simp [hlen])
 have hnews:=h3'.2
 have hkn:∀ (k n:Nat) (x:Nat × Obj),ns[k]? = some n->blk h (effs ρ) n=some x->(known ops D h (effs ρ) i ns)[k]? = some (cur (effs ρ) ops.size (dep D i) n x):=by
  intro k n x hk hb
  unfold known
  rw [List.getElem?_map,hk]
  simp only [Option.map_some,hb]
 have hloc:∀ n∈ns,∀ x,blk h (effs ρ) n=some x->(((effs (upd ρ i { n:=z}) i).puts.lookup n).getD (cur (effs ρ) ops.size (dep D i) n x)).1=(cur (effs ρ) ops.size (dep D i) n x).1:=by
  intro n hm x hb
  obtain ⟨k,hk⟩:=List.mem_iff_getElem?.1 hm
  have q:=congrArg (fun l:List Nat=>l[k]?) h3'.1
  simp only [List.getElem?_map,hkn k n x hk hb,Option.map_some] at q
  rw [(List.getElem?_zip_eq_some (z:=(n,cur (effs ρ) ops.size (dep D i) n x))).2 ⟨hk,hkn k n x hk hb⟩] at q
  simpa using q
 have hzip:∀ n∈ns,∀ x,blk h (effs ρ) n=some x->w'.heap[(((effs (upd ρ i { n:=z}) i).puts.lookup n).getD (cur (effs ρ) ops.size (dep D i) n x)).1]? = some (((effs (upd ρ i { n:=z}) i).puts.lookup n).getD (cur (effs ρ) ops.size (dep D i) n x)).2:=by
  intro n hm x hb
  obtain ⟨k,hk⟩:=List.mem_iff_getElem?.1 hm
  exact h2 (((effs (upd ρ i { n:=z}) i).puts.lookup n).getD (cur (effs ρ) ops.size (dep D i) n x)) (by
   rw [applyE_eq]
   refine List.mem_append_left _ (List.mem_map.2 ⟨(n,cur (effs ρ) ops.size (dep D i) n x),?_,rfl⟩)
   exact List.mem_iff_getElem?.2 ⟨k,by rw [List.getElem?_zip_eq_some];exact ⟨hk,hkn k n x hk hb⟩⟩)
 have hputs:∀ n q,(n,q)∈(effs (upd ρ i { n:=z}) i).puts->n∈ns:=by
  intro n q hm
  have:=hp z
  unfold wS at this
  rw [List.all_eq_true] at this
  have:=this _ hm
  simpa using this
 have fin:After ops D h vals effs fact i ρ T w (vals (upd ρ i { n:=z}) i) w':=by
  refine ⟨{ n:=z},rfl,?_,?_,?_,?_,gZ (hf z)⟩
  ·refine ⟨h4.os, h4.tape, h4.output, h4.size, fun b hb hnX => ?_⟩
   by_cases hmem:b∈(known ops D h (effs ρ) i ns).map (·.1)
   ·obtain ⟨y, hy, rfl⟩ := List.mem_map.1 hmem
    have hy0:=hK y hy
    unfold known at hy
    obtain ⟨n,hm,rfl⟩:=List.mem_map.1 hy
    obtain ⟨x,hbq,hok⟩:=hbn n hm
    rw [hbq] at hy0 hnX ⊢
    simp only at hy0 hnX ⊢
    have q1:=hzip n hm x hbq
    cases hl:(effs (upd ρ i { n:=z}) i).puts.lookup n with
    | none=>rw [hl] at q1;rw [hy0];exact q1
    | some y=>exact absurd ⟨n,y,x,fH hl,hbq,rfl⟩ hnX
   ·exact h4.block b hb hmem
  ·intro n y hm
   have hmn:=hputs n y hm
   obtain ⟨x,hb,hok⟩:=hbn n hmn
   have q1:=hzip n hmn x hb
   have q2:=hloc n hmn x hb
   cases hl:(effs (upd ρ i { n:=z}) i).puts.lookup n with
   | none=>exact absurd hm (tZ hl y)
   | some y' =>
     rw [hl] at q1 q2
     exact ⟨hok,x,hb,q1,Or.inl q2⟩
  ·intro k b q hk
   have hmem:=List.mem_of_getElem? hk
   refine ⟨?_,?_⟩
   ·apply h5
    rw [<- hnews]
    exact List.mem_map.2 ⟨(b,q),hmem,rfl⟩
   ·exact h2 (b,q) (by rw [applyE_eq];exact List.mem_append_right _ hmem)
  ·rw [hnews];exact h6
 unfold opv
 rw [h1]
 cases hx':x z with
 | value v=>rw [hx'] at hxv;simp only [vW,Option.some.injEq] at hxv;simp only [hxv];exact fin
 | skip=>rw [hx'] at hxv;simp only [vW,Option.some.injEq] at hxv;simp only [hxv];exact fin
 | _=>rw [hx'] at hxv;simp [vW] at hxv
theorem obl_run {i:Nat} {o:Oper} (ho:ops[i]? = some o) (ns ps:List Nat) (es:(Nat->bC)->List Nat->List (Nat × Nat)) (x:(Nat->bC)->List Nat->Next)
 (hw:∀ ρ,fJ (vals ρ) o=true) (hn:∀ ρ,eH ops D h (effs ρ) i ns=true)
 (hr:∀ ρ z,kK P (execOp (bI ops D l (vals ρ) i) o) ps (known ops D h (effs ρ) i ns) z=some (x ρ z,qX ns (known ops D h (effs ρ) i ns) (effs (upd ρ i { n:=z}) i),es ρ z))
 (hx:∀ ρ z,vW (x ρ z)=some (vals (upd ρ i { n:=z}) i)) (hp:∀ ρ z,wS ns (effs (upd ρ i { n:=z}) i)=true)
 (he:∀ ρ z,Eqs (es ρ z)) (hf:∀ ρ z w,fact (upd ρ i { n:=z}) i w):fZ P ops D l w0 h F0 vals effs fact i:=by
 intro o' ho' ρ T w hG
 rw [ho] at ho'
 obtain rfl:o=o':=by simpa using ho'
 exact obl_run_at ho ns ps ρ (es ρ) (x ρ) (hw ρ) (hn ρ) (hr ρ) (hx ρ) (hp ρ) (he ρ) (hf ρ) T w hG
theorem xK {i:Nat} {o:Oper} (ho:ops[i]? = some o) (hw:∀ ρ,fJ (vals ρ) o=true)
 (hr:∀ ρ w,(∃ T,Given ops D w0 h F0 effs fact i ρ T w)->opv P (execOp (bI ops D l (vals ρ) i) o) w (fun v w'=>v=vals (upd ρ i {}) i/\Below w.heap.size w w'))
 (he:∀ ρ,effs (upd ρ i {}) i={}) (hf:∀ ρ w,fact (upd ρ i {}) i w):fZ P ops D l w0 h F0 vals effs fact i:=by
 intro o' ho' ρ T w hG
 rw [ho] at ho'
 obtain rfl:o=o':=by simpa using ho'
 rw [if_pos (hw ρ)]
 have key:∀ v w',(v=vals (upd ρ i {}) i/\Below w.heap.size w w')->After ops D h vals effs fact i ρ T w v w':=by
  rintro v w' ⟨rfl,hb⟩
  refine ⟨{},rfl,Upd.of_below hb,?_,?_,?_,gZ (hf ρ)⟩
  ·rw [he ρ];intro n q hm;simp at hm
  ·rw [he ρ];intro k b q hk;simp at hk
  ·rw [he ρ];simp
 have:=hr ρ w ⟨T,hG⟩
 unfold opv at this ⊢
 split at this
 ·exact key _ _ this
 ·exact key _ _ this
 ·refine this.mono (fun e w'' he => ?_)
  cases e with
  | returned v=>exact key _ _ he
  | panicked c=>exact he
  | outgrown=>exact he
 ·exact this.elim
theorem obl_call {i:Nat} {o:Oper} (ho:ops[i]? = some o) (f:FuncId) (args:(Nat->bC)->Array Value) (hw:∀ ρ,fJ (vals ρ) o=true)
 (hr:∀ ρ z,kK P (execOp (bI ops D l (vals ρ) i) o) [] [] z=some (.enter f (args ρ),[],[]))
 (hc:∀ ρ w,Calls P f (args ρ) w (fun e w'=>e=.returned (vals (upd ρ i {}) i)/\Below w.heap.size w w'))
 (he:∀ ρ,effs (upd ρ i {}) i={}) (hf:∀ ρ w,fact (upd ρ i {}) i w):fZ P ops D l w0 h F0 vals effs fact i:=by
 refine xK ho hw (fun ρ w _=>?_) he hf
 obtain ⟨w',h1,_,_,h4,_,_⟩:=rF (P:=P) (execOp (bI ops D l (vals ρ) i) o) [] [] w _ _ _ (by intro y hy;simp at hy) (by simp) (hr ρ _) trivial
 have hb:Below w.heap.size w w':=⟨h4.os,h4.tape,h4.output,h4.size,fun k hk=>h4.block k hk (by simp)⟩
 unfold opv
 rw [h1]
 simp only []
 refine (hc ρ w').mono (fun e w'' he=>?_)
 obtain ⟨rfl,hb2⟩:=he
 exact ⟨rfl,hb.trans (hb2.mono hb.size)⟩
theorem obl_pure {i:Nat} {o:Oper} (ho:ops[i]? = some o) (hw:∀ ρ,fJ (vals ρ) o=true)
 (hr:∀ ρ w,(execOp (bI ops D l (vals ρ) i) o).run P w=.ok (.value (vals (upd ρ i {}) i)) w)
 (he:∀ ρ,effs (upd ρ i {}) i={}) (hf:∀ ρ w,fact (upd ρ i {}) i w):fZ P ops D l w0 h F0 vals effs fact i:=by
 refine xK ho hw (fun ρ w _=>?_) he hf
 unfold opv
 rw [hr ρ w]
 exact ⟨rfl,Below.refl _ _⟩
end
def mask (D:List Nat) (i:Nat) (ρ:Nat->bC):Nat->bC:=fun j=>if j==i||dep D i j then ρ j else {}
theorem mask_congr {D:List Nat} {i:Nat} {ρ ρ':Nat->bC} (h:∀ j,j=i\/dep D i j=true->ρ j=ρ' j):mask D i ρ=mask D i ρ':=by
 funext j
 unfold mask
 by_cases hj:(j==i||dep D i j)=true
 ·rw [if_pos hj, if_pos hj]
  apply h
  simpa using hj
 ·rw [if_neg hj,if_neg hj]
def nb (ρ:Nat->bC) (i:Nat):Nat:=(ρ i).n.headD 0
def vI (ρ:Nat->bC) (i:Nat):Nat:=(ρ i).n.tail.headD 0
def grd (P : Program) {α : Type} : Sem α -> List Nat -> List (Nat × Obj) -> Option (α × List (Nat × Nat))
 | .pure a,_,_=>some (a,[])
 | .load _ a k, ps, K => match K[ps.headD 0]? with
   | some (g, o) => match sQ o a with
     | some v=>(grd P (k v) ps.tail K).map fun r=>(r.1,(a.block,g)::r.2)
     | none=>none
   | none=>none
 | .shape b k, ps, K => match K[ps.headD 0]? with
   | some (g, o) => match shapeIn o with
     | some s=>(grd P (k (some s)) ps.tail K).map fun r=>(r.1,(b,g)::r.2)
     | none=>none
   | none=>none
 | .frozen a k, ps, K => match K[ps.headD 0]? with
   | some (g,o)=>(grd P (k (frozenIn o a.off)) ps.tail K).map fun r=>(r.1,(a.block,g)::r.2)
   | none=>none
 | .program k,ps,K=>grd P (k P) ps K
 | .mark _ k,ps,K=>grd P k ps K
 | _,_,_=>none
theorem grd_sound {α : Type} {P : Program} (s : Sem α) : ∀ (ps : List Nat) (K : List (Nat × Obj)) (w : World) (x : α) (es : List (Nat × Nat)), Knows K w -> grd P s ps K = some (x, es) -> Eqs es -> s.run P w = .ok x w := by
 induction s with
 | pure a =>
   intro ps K w x es hK hg he
   simp only [grd,Option.some.injEq,Prod.mk.injEq] at hg
   obtain ⟨rfl,rfl⟩:=hg
   rfl
 | load m a k ih =>
   intro ps K w x es hK hg he
   simp only [grd] at hg
   split at hg
   ·rename_i g o hq
    split at hg
    ·rename_i v hc
     rw [Option.map_eq_some_iff] at hg
     obtain ⟨⟨x1,es1⟩,hg1,hg2⟩:=hg
     simp only [Prod.mk.injEq] at hg2
     obtain ⟨rfl,rfl⟩:=hg2
     obtain ⟨he1,he2⟩:=he
     simp only at he1
     have hcell:w.cell? a=some v:=cell_in (by rw [he1];exact hK _ (List.mem_of_getElem? hq)) hc
     simp only [Sem.run,hcell]
     exact ih v _ K w _ _ hK hg1 he2
    ·exact absurd hg (by simp)
   ·exact absurd hg (by simp)
 | shape b k ih =>
   intro ps K w x es hK hg he
   simp only [grd] at hg
   split at hg
   ·rename_i g o hq
    split at hg
    ·rename_i s hs
     rw [Option.map_eq_some_iff] at hg
     obtain ⟨⟨x1,es1⟩,hg1,hg2⟩:=hg
     simp only [Prod.mk.injEq] at hg2
     obtain ⟨rfl,rfl⟩:=hg2
     obtain ⟨he1,he2⟩:=he
     simp only at he1
     have hsh:w.shape? b=some s:=shape_in (by rw [he1];exact hK _ (List.mem_of_getElem? hq)) hs
     simp only [Sem.run,hsh]
     exact ih (some s) _ K w _ _ hK hg1 he2
    ·exact absurd hg (by simp)
   ·exact absurd hg (by simp)
 | frozen a k ih =>
   intro ps K w x es hK hg he
   simp only [grd] at hg
   split at hg
   ·rename_i g o hq
    rw [Option.map_eq_some_iff] at hg
    obtain ⟨⟨x1,es1⟩,hg1,hg2⟩:=hg
    simp only [Prod.mk.injEq] at hg2
    obtain ⟨rfl,rfl⟩:=hg2
    obtain ⟨he1,he2⟩:=he
    simp only at he1
    have hfr:w.frozen? a=frozenIn o a.off:=frozen_in (by rw [he1];exact hK _ (List.mem_of_getElem? hq))
    simp only [Sem.run,hfr]
    exact ih _ _ K w _ _ hK hg1 he2
   ·exact absurd hg (by simp)
 | program k ih=>intro ps K w x es hK hg he;exact ih P ps K w x es hK hg he
 | mark m k ih=>intro ps K w x es hK hg he;exact ih ps K w x es hK hg he
 | store m a v k ih=>intro ps K w x es hK hg he;simp [grd] at hg
 | new o k ih=>intro ps K w x es hK hg he;simp [grd] at hg
 | freeze a n k ih=>intro ps K w x es hK hg he;simp [grd] at hg
 | getObj r k ih=>intro ps K w x es hK hg he;simp [grd] at hg
 | setObj r o k ih=>intro ps K w x es hK hg he;simp [grd] at hg
 | choose q k ih=>intro ps K w x es hK hg he;simp [grd] at hg
 | sys c k ih=>intro ps K w x es hK hg he;simp [grd] at hg
 | halt x=>intro ps K w x es hK hg he;simp [grd] at hg
def Reg (P:Program) (id:Nat) (ops:Array Oper) (draw:Bool) (n:Nat) (l:List (Nat × Value)) (w0:Base) (h:List (Nat × Obj)) (F:World->Prop) (l':(Nat->bC)->List (Nat × Value)) (h':(Nat->bC)->List (Nat × Obj)):Prop :=
 ∀ Q A w,Fr n l A->St w0 h F w->(∀ ρ A' w',Fr n (l' ρ) A'->St w0 (h' ρ) F w'->Q .normal A' w')->(Code.region id ops draw).wp P Q A w
theorem St.weaken {w0:Base} {w:World} {h:List (Nat × Obj)} {F G:World->Prop} (hS:St w0 h F w) (hFG:∀ w,F w->G w):St w0 h G w:=by
 refine ⟨hS.below,hS.at_,hS.nodup,?_⟩
 obtain ⟨S,h1,h2⟩:=hS.facts
 exact ⟨S,h1,fun w' hw=>hFG _ (h2 w' hw)⟩
def drawOk (ops:Array Oper) (D:List Nat) (n:Nat) (l:List (Nat × Value)) (keep:List Nat):Bool :=
 qR .any ops&&DOk ops D&&tK ops n&&uQ ops D l&&keepOk ops l keep
def Ok (P:Program) (c:Code) (Q:Exit->Act->World->Prop) (n:Nat) (l:List (Nat × Value)) (w0:Base) (h:List (Nat × Obj)) (F:World->Prop):Prop :=
 ∀ A w,Fr n l A->St w0 h F w->c.wp P Q A w
def fV (Q:Act->World->Prop) (n:Nat) (l:List (Nat × Value)) (w0:Base) (h:List (Nat × Obj)) (F:World->Prop):Prop:=∀ A w,Fr n l A->St w0 h F w->Q A w
section
variable {P:Program} {Q:Exit→Act→World→Prop} {n:Nat} {l:List (Nat × Value)} {w0:Base} {h:List (Nat × Obj)} {F:World→Prop}
theorem aU {x y:Code} (hx:Ok P x (Exit.then (y.wp P Q) Q) n l w0 h F):Ok P (.seq x y) Q n l w0 h F:=fun A w hf hs=>wp_seq (hx A w hf hs)
theorem ok_reg {id:Nat} {ops:Array Oper} {d:Bool} {l':(Nat->bC)->List (Nat × Value)} {h':(Nat->bC)->List (Nat × Obj)} (hr:Reg P id ops d n l w0 h F l' h') (hk:∀ ρ,fV (Q .normal) n (l' ρ) w0 (h' ρ) F) :
 Ok P (.region id ops d) Q n l w0 h F:=fun A w hf hs=>hr Q A w hf hs (fun ρ A' w' hf' hs'=>hk ρ A' w' hf' hs')
theorem ok_seq_reg {id:Nat} {ops:Array Oper} {d:Bool} {y:Code} {l':(Nat->bC)->List (Nat × Value)} {h':(Nat->bC)->List (Nat × Obj)} (hr:Reg P id ops d n l w0 h F l' h') (hk:∀ ρ,Ok P y Q n (l' ρ) w0 (h' ρ) F) :
 Ok P (.seq (.region id ops d) y) Q n l w0 h F:=aU (ok_reg hr hk)
theorem Fr.eval {A:Act} {t:Nat} {v:Value} (hf:Fr n l A) (hl:l.lookup t=some v):A.eval (.tmp t)=v:=by
 show A.tmps.getD t undef=v
 rw [Array.getD_eq_getD_getElem?,hf.slot t v hl];rfl
theorem ok_cond {t:Nat} {b:Bool} {x y:Code} (hl:l.lookup t=some (.bool b)) (hx:b=true->Ok P x Q n l w0 h F) (hy:b=false->Ok P y Q n l w0 h F):Ok P (.cond (.tmp t) x y) Q n l w0 h F :=
 fun A w hf hs=>wp_cond_split (hf.eval hl) (fun e=>hx e A w hf hs) (fun e=>hy e A w hf hs)
theorem ok_yes {t:Nat} {x y:Code} (hl:l.lookup t=some (.bool true)) (hx:Ok P x Q n l w0 h F):Ok P (.cond (.tmp t) x y) Q n l w0 h F :=
 fun A w hf hs=>wp_cond_true (hf.eval hl) (hx A w hf hs)
theorem ok_no {t:Nat} {x y:Code} (hl:l.lookup t=some (.bool false)) (hy:Ok P y Q n l w0 h F):Ok P (.cond (.tmp t) x y) Q n l w0 h F :=
 fun A w hf hs=>wp_cond_false (hf.eval hl) (hy A w hf hs)
theorem dM (hk:fV (Q .normal) n l w0 h F):Ok P .skip Q n l w0 h F:=fun A w hf hs=>wp_skip (hk A w hf hs)
theorem eF {i:Nat} (hk:fV (Q (.exit i)) n l w0 h F):Ok P (.exit i) Q n l w0 h F:=fun A w hf hs=>wp_exit (hk A w hf hs)
theorem gQ (hk:fV (Q .ret) n l w0 h F):Ok P .ret Q n l w0 h F:=fun A w hf hs=>wp_ret (hk A w hf hs)
theorem aY {i:Nat} {c:Code} (hc:Ok P c (Exit.inBlock i Q) n l w0 h F):Ok P (.block i c) Q n l w0 h F:=fun A w hf hs=>wp_block (hc A w hf hs)
theorem St.sub {w:World} {h':List (Nat × Obj)} (hS:St w0 h F w) (hsub:List.Sublist h' h):St w0 h' F w :=
 ⟨hS.below,fun x hx=>hS.at_ x (hsub.subset hx),hS.nodup.sublist (hsub.map _),by
  obtain ⟨S,h1,h2⟩:=hS.facts
  exact ⟨S,fun b hb=>⟨(h1 b hb).1,fun hm=>(h1 b hb).2 ((hsub.map _).subset hm)⟩,h2⟩⟩
theorem Fr.sub {A:Act} (hf:Fr n l A) (l':List (Nat × Value)) (hl:∀ x∈l',l.lookup x.1=some x.2):Fr n l' A :=
 ⟨hf.defers,hf.size,fun t v hv=>hf.slot t v (hl (t,v) (nT hv))⟩
def uV (l : List (Nat × Value)) : List ResultVar -> Sem (List Value)
 | []=>pure []
 | .tmp t :: r => do
   let vs <- uV l r
   pure ((l.lookup t).getD undef::vs)
 | .cell a t :: r => do
   let v <- (do loadVar t (<- asAddr ((l.lookup a).getD undef)))
   let vs <- uV l r
   pure (v::vs)
def resL (rs:Array ResultVar) (l:List (Nat × Value)):Sem Value:=do
 let vs <- uV l rs.toList
 pure (match vs with | [v]=>v | vs=>.tuple vs.toArray)
def wZ (rs:Array ResultVar) (l:List (Nat × Value)):Bool:=rs.toList.all fun | .tmp t=>(l.lookup t).isSome | .cell a _=>(l.lookup a).isSome
theorem Fr.getD {A:Act} {t:Nat} (hf:Fr n l A) (hl:(l.lookup t).isSome=true):A.tmps.getD t undef=(l.lookup t).getD undef:=by
 obtain ⟨v,hv⟩:=Option.isSome_iff_exists.1 hl
 rw [Array.getD_eq_getD_getElem?,hf.slot t v hv,hv]
theorem resL_eq {fn:Func} {A:Act} (hf:Fr n l A) (hr:wZ fn.results l=true):results fn A.tmps=resL fn.results l:=by
 unfold results resL
 unfold wZ at hr
 rw [Array.mapM_eq_mapM_toList]
 generalize fn.results.toList=rs at *
 have key:∀ rs:List ResultVar,(rs.all fun | .tmp t=>(l.lookup t).isSome | .cell a _=>(l.lookup a).isSome)=true ->
  (rs.mapM fun | .tmp t=>(pure (A.tmps.getD t undef):Sem Value) | .cell a t=>do loadVar t (<- asAddr (A.tmps.getD a undef)))=uV l rs:=by
  intro rs
  induction rs with
  | nil=>intro _;rfl
  | cons x rs ih =>
    intro hall
    rw [List.all_cons,Bool.and_eq_true] at hall
    rw [List.mapM_cons,ih hall.2]
    cases x with
    | tmp t=>simp only [uV,hf.getD hall.1,pure_bind]
    | cell a t=>simp only [uV,hf.getD hall.1]
 have k:=key rs hr
 refine (congrArg (fun z:Sem (List Value)=>Functor.map List.toArray z >>= fun vs:Array Value=>(pure (if h:vs.size=1 then vs[0] else .tuple vs):Sem Value)) k).trans ?_
 rw [map_eq_pure_bind,bind_assoc]
 congr 1
 funext vs
 rw [pure_bind]
 rcases vs with _ | ⟨v,_ | ⟨u,vs⟩⟩
 ·simp
 ·simp
 ·simp
theorem meets_ret {fn:Func} {R:Ending->World->Prop} {v:Value} (ps:List Nat) (es:List (Nat × Nat)) (hr:wZ fn.results l=true) (hg:grd P (resL fn.results l) ps h=some (v,es)) (he:Eqs es)
 (hR:∀ w,St w0 h F w->R (.returned v) w):fV (bodyPost P fn R .ret) n l w0 h F:=by
 intro A w hf hs
 refine ⟨hf.defers,v,?_,hR w hs⟩
 rw [resL_eq hf hr]
 exact grd_sound _ ps h w v es (fun x hx=>(hs.at_ x hx).2) hg he
theorem Calls.of_ok {f:FuncId} {fn:Func} {c:Code} {args:Array Value} {w:World} {R:Ending->World->Prop} (hf:P.funcs[f]? = some fn) (hb:fn.body=some c) (hn:fn.ntmps=n) (hl:(args.toList.zipIdx.map fun x=>(x.2,x.1))=l) (ha:args.size<=n)
 (hF:iI (fun _=>False) F w) (h:Ok P c (bodyPost P fn R) n l ⟨w,[]⟩ [] F):Calls P f args w R:=by
 refine calls_of_wp hf hb (h _ w ?_ ?_)
 ·refine ⟨rfl, by simp [hn]; omega, fun t v hv => ?_⟩
  have hm:=nT hv
  rw [<- hl] at hm
  obtain ⟨⟨u,k⟩,hx,he⟩:=List.mem_map.1 hm
  simp only [Prod.mk.injEq] at he
  obtain ⟨rfl,rfl⟩:=he
  have h1:=List.mem_zipIdx_iff_getElem?.1 hx
  have h1':args[k]? = some u:=by simpa using h1
  have hlt:k<args.size:=(Array.getElem?_eq_some_iff.1 h1').1
  show (args++Array.replicate (fn.ntmps-args.size) undef)[k]? = some u
  rw [Array.getElem?_append_left hlt,h1']
 ·refine ⟨Upd.refl _ _, by simp, by simp, ?_⟩
  obtain ⟨S,h1,h2⟩:=hF
  exact ⟨S,fun b hb=>⟨(h1 b hb).1,by simp⟩,h2⟩
theorem Upd.below {w w':World} (h:Upd (fun b=>b∈([]:List Nat)) w w'):Below w.heap.size w w':=⟨h.os,h.tape,h.output,h.size,fun k hk=>h.block k hk (by simp)⟩
theorem St.bel {w w':World} (hS:St ⟨w,[]⟩ h F w'):Below w.heap.size w w':=hS.below.below
end
def pF (id : Nat) : Code -> Option (Array Oper)
 | .region i ops _=>if i==id then some ops else none
 | .seq a b => match pF id a with
   | some o=>some o
   | none=>pF id b
 | .cond _ a b => match pF id a with
   | some o=>some o
   | none=>pF id b
 | .block _ c=>pF id c
 | .loop c=>pF id c
 | .scope c=>pF id c
 | _=>none
def bH (f:Func) (id:Nat):Array Oper:=((f.body.bind (pF id)).getD #[])
def opAt (ops:Array Oper) (i:Nat):Oper:=(ops[i]?).getD default
theorem fM {ops:Array Oper} {i:Nat} (h:(ops[i]?).isSome=true):ops[i]? = some (opAt ops i):=by
 unfold opAt
 obtain ⟨o,ho⟩:=Option.isSome_iff_exists.1 h
 rw [ho];rfl
def dup (l:List Nat):List (Nat × Nat):=l.map fun g=>(g,g)
theorem eqs_dup:∀ l,Eqs (dup l)
 | []=>trivial
 | _::l=>⟨rfl,eqs_dup l⟩
section
variable {P:Program} {ops:Array Oper} {D:List Nat} {l:List (Nat × Value)} {w0:Base} {h:List (Nat × Obj)} {F0:World→Prop}
variable {vals:(Nat→bC)→Nat→Value} {effs:(Nat→bC)→Nat→Eff}
def runChk (P : Program) (ops : Array Oper) (D : List Nat) (l : List (Nat × Value)) (h : List (Nat × Obj)) (V : Nat -> Value) (E : Nat -> Eff) (E' : Eff) (i : Nat) (ns ps z : List Nat) : Option (Option Value × List (Nat × Obj) × List (Nat × Nat)) :=
 if (ops[i]?).isSome&&fJ V (opAt ops i)&&eH ops D h E i ns&&wS ns E' then
  (kK P (execOp (bI ops D l V i) (opAt ops i)) ps (known ops D h E i ns) z).map fun r=>(vW r.1,r.2.1,r.2.2)
 else none
theorem o_run (i:Nat) (ns ps:List Nat) (gs:(Nat->bC)->List Nat->List Nat)
 (hc:∀ ρ z,runChk P ops D l h (vals ρ) (effs ρ) (effs (upd ρ i { n:=z}) i) i ns ps z=some (some (vals (upd ρ i { n:=z}) i),qX ns (known ops D h (effs ρ) i ns) (effs (upd ρ i { n:=z}) i),dup (gs ρ z))) :
 fZ P ops D l w0 h F0 vals effs (fun _ _ _=>True) i:=by
 have key:∀ ρ z,((ops[i]?).isSome=true/\fJ (vals ρ) (opAt ops i)=true/\eH ops D h (effs ρ) i ns=true/\wS ns (effs (upd ρ i { n:=z}) i)=true) /\
  ∃ x,vW x=some (vals (upd ρ i { n:=z}) i)/\kK P (execOp (bI ops D l (vals ρ) i) (opAt ops i)) ps (known ops D h (effs ρ) i ns) z=some (x,qX ns (known ops D h (effs ρ) i ns) (effs (upd ρ i { n:=z}) i),dup (gs ρ z)):=by
  intro ρ z
  have h1:=hc ρ z
  unfold runChk at h1
  split at h1
  ·rename_i hb
   simp only [Bool.and_eq_true] at hb
   refine ⟨⟨hb.1.1.1,hb.1.1.2,hb.1.2,hb.2⟩,?_⟩
   rw [Option.map_eq_some_iff] at h1
   obtain ⟨⟨x,K,es⟩,h2,h3⟩:=h1
   simp only [Prod.mk.injEq] at h3
   obtain ⟨h3,rfl,rfl⟩:=h3
   exact ⟨x,h3,h2⟩
  ·exact absurd h1 (by simp)
 have k0:=key (fun _=>{}) []
 refine obl_run (fM k0.1.1) ns ps (fun ρ z=>dup (gs ρ z)) (fun ρ z=>(key ρ z).2.choose) (fun ρ=>(key ρ []).1.2.1) (fun ρ=>(key ρ []).1.2.2.1) (fun ρ z=>(key ρ z).2.choose_spec.2) (fun ρ z=>(key ρ z).2.choose_spec.1) (fun ρ z=>(key ρ z).1.2.2.2) (fun ρ z=>eqs_dup _) (fun _ _ _=>trivial)
def iO (P : Program) (ops : Array Oper) (D : List Nat) (l : List (Nat × Value)) (V : Nat -> Value) (v : Value) (E' : Eff) (i : Nat) (z : List Nat) : Option (Next × List (Nat × Obj) × List (Nat × Nat) × Value × Eff) :=
 if (ops[i]?).isSome&&fJ V (opAt ops i) then
  (kK P (execOp (bI ops D l V i) (opAt ops i)) [] [] z).map fun r=>(r.1,r.2.1,r.2.2,v,E')
 else none
theorem o_call (i:Nat) (f:FuncId) (args:(Nat->bC)->Array Value) (v:(Nat->bC)->Value)
 (hc:∀ ρ z,iO P ops D l (vals ρ) (vals (upd ρ i {}) i) (effs (upd ρ i {}) i) i z=some (.enter f (args ρ),[],[],v ρ,{}))
 (hf:∀ ρ w,Calls P f (args ρ) w (fun e w'=>e=.returned (v ρ)/\Below w.heap.size w w')):fZ P ops D l w0 h F0 vals effs (fun _ _ _=>True) i:=by
 have key:∀ ρ z,((ops[i]?).isSome=true/\fJ (vals ρ) (opAt ops i)=true)/\vals (upd ρ i {}) i=v ρ/\effs (upd ρ i {}) i={}/\kK P (execOp (bI ops D l (vals ρ) i) (opAt ops i)) [] [] z=some (.enter f (args ρ),[],[]):=by
  intro ρ z
  have h1:=hc ρ z
  unfold iO at h1
  split at h1
  ·rename_i hb
   simp only [Bool.and_eq_true] at hb
   rw [Option.map_eq_some_iff] at h1
   obtain ⟨⟨x,K,es⟩,h2,h3⟩:=h1
   simp only [Prod.mk.injEq] at h3
   obtain ⟨rfl,rfl,rfl,h4,h5⟩:=h3
   exact ⟨hb,h4,h5,h2⟩
  ·exact absurd h1 (by simp)
 refine obl_call (fM (key (fun _=>{}) []).1.1) f args (fun ρ=>(key ρ []).1.2) (fun ρ z=>(key ρ z).2.2.2) (fun ρ w=>?_) (fun ρ=>(key ρ []).2.2.1) (fun _ _=>trivial)
 rw [(key ρ []).2.1]
 exact hf ρ w
def binChk (ops : Array Oper) (D : List Nat) (l : List (Nat × Value)) (V : Nat -> Value) (v : Value) (E' : Eff) (i : Nat) : Option (BinOp × TypeId × Value × Value × Value × Eff) :=
 if (ops[i]?).isSome&&fJ V (opAt ops i) then
  match (opAt ops i).op with
  | .binOp op t x y _=>some (op,t,bI ops D l V i x,bI ops D l V i y,v,E')
  | _=>none
 else none
theorem o_bin (i : Nat) (op : BinOp) (t : TypeId) (a b v : (Nat -> bC) -> Value)
 (hc:∀ ρ,binChk ops D l (vals ρ) (vals (upd ρ i {}) i) (effs (upd ρ i {}) i) i=some (op,t,a ρ,b ρ,v ρ,{}))
 (hg:∀ ρ x y w,(eqGuard op t x y (a ρ) (b ρ)).run P w=.ok () w)
 (hf:∀ ρ w,(binOp op t (a ρ) (b ρ)).run P w=.ok (v ρ) w):fZ P ops D l w0 h F0 vals effs (fun _ _ _=>True) i:=by
 have key:∀ ρ,((ops[i]?).isSome=true/\fJ (vals ρ) (opAt ops i)=true)/\∃ x y t',(opAt ops i).op=.binOp op t x y t'/\bI ops D l (vals ρ) i x=a ρ/\bI ops D l (vals ρ) i y=b ρ/\vals (upd ρ i {}) i=v ρ/\effs (upd ρ i {}) i={}:=by
  intro ρ
  have h1:=hc ρ
  unfold binChk at h1
  split at h1
  ·rename_i hb
   simp only [Bool.and_eq_true] at hb
   split at h1
   ·rename_i op' t' x y t'' ho
    simp only [Option.some.injEq,Prod.mk.injEq] at h1
    obtain ⟨rfl,rfl,h2,h3,h4,h5⟩:=h1
    exact ⟨hb,x,y,t'',ho,h2,h3,h4,h5⟩
   ·exact absurd h1 (by simp)
  ·exact absurd h1 (by simp)
 refine obl_pure (fM (key (fun _=>{})).1.1) (fun ρ=>(key ρ).1.2) (fun ρ w=>?_) (fun ρ=>by obtain ⟨_,x,y,t',_,_,_,_,h5⟩:=key ρ;exact h5) (fun _ _=>trivial)
 obtain ⟨_,x,y,t',h1,h2,h3,h4,_⟩:=key ρ
 rw [h4]
 unfold execOp
 rw [h1]
 simp only [h2,h3]
 simp only [Sem.run_bind,hg ρ x y w,Result.andThen_ok,hf ρ w,Sem.run_pure]
theorem o_as (i:Nat) (v v':(Nat->bC)->Value)
 (hc:∀ ρ z,iO P ops D l (vals ρ) (vals (upd ρ i {}) i) (effs (upd ρ i {}) i) i z=some (.value (v ρ),[],[],v' ρ,{})) (he:∀ ρ,v ρ=v' ρ):fZ P ops D l w0 h F0 vals effs (fun _ _ _=>True) i:=by
 have key:∀ ρ z,((ops[i]?).isSome=true/\fJ (vals ρ) (opAt ops i)=true)/\vals (upd ρ i {}) i=v' ρ/\effs (upd ρ i {}) i={}/\kK P (execOp (bI ops D l (vals ρ) i) (opAt ops i)) [] [] z=some (.value (v ρ),[],[]):=by
  intro ρ z
  have h1:=hc ρ z
  unfold iO at h1
  split at h1
  ·rename_i hb
   simp only [Bool.and_eq_true] at hb
   rw [Option.map_eq_some_iff] at h1
   obtain ⟨⟨x,K,es⟩,h2,h3⟩:=h1
   simp only [Prod.mk.injEq] at h3
   obtain ⟨rfl,rfl,rfl,h4,h5⟩:=h3
   exact ⟨hb,h4,h5,h2⟩
  ·exact absurd h1 (by simp)
 refine xK (fM (key (fun _=>{}) []).1.1) (fun ρ=>(key ρ []).1.2) (fun ρ w _=>?_) (fun ρ=>(key ρ []).2.2.1) (fun _ _=>trivial)
 obtain ⟨w',h1,_,_,h4,_,_⟩:=rF (P:=P) (execOp (bI ops D l (vals ρ) i) (opAt ops i)) [] [] w _ _ _ (by intro y hy;simp at hy) (by simp) ((key ρ _).2.2.2) trivial
 unfold opv
 rw [h1]
 exact ⟨by rw [(key ρ []).2.1];exact he ρ,⟨h4.os,h4.tape,h4.output,h4.size,fun k hk=>h4.block k hk (by simp)⟩⟩
end
section
variable {P:Program} {Q:Exit→Act→World→Prop} {X:Act→World→Prop} {n:Nat} {l:List (Nat × Value)} {w0:Base} {h:List (Nat × Obj)} {F:World→Prop}
theorem ok_seq_r {id:Nat} {ops ops':Array Oper} {d:Bool} {y:Code} {l':(Nat->bC)->List (Nat × Value)} {h':(Nat->bC)->List (Nat × Obj)} (e:ops=ops') (hr:Reg P id ops' d n l w0 h F l' h') (hk:∀ ρ,Ok P y Q n (l' ρ) w0 (h' ρ) F) :
 Ok P (.seq (.region id ops d) y) Q n l w0 h F:=by subst e;exact ok_seq_reg hr hk
theorem ok_r {id:Nat} {ops ops':Array Oper} {d:Bool} {l':(Nat->bC)->List (Nat × Value)} {h':(Nat->bC)->List (Nat × Obj)} (e:ops=ops') (hr:Reg P id ops' d n l w0 h F l' h') (hk:∀ ρ,fV (Q .normal) n (l' ρ) w0 (h' ρ) F) :
 Ok P (.region id ops d) Q n l w0 h F:=by subst e;exact ok_reg hr hk
theorem aI {y:Code} (hk:Ok P y Q n l w0 h F):fV (Exit.then (y.wp P Q) Q .normal) n l w0 h F:=hk
theorem mt_then_r (hk:fV (Q .ret) n l w0 h F):fV (Exit.then X Q .ret) n l w0 h F:=hk
theorem aO {i:Nat} (hk:fV (Q (.exit i)) n l w0 h F):fV (Exit.then X Q (.exit i)) n l w0 h F:=hk
theorem bK {i:Nat} (hk:fV (Q .normal) n l w0 h F):fV (Exit.inBlock i Q .normal) n l w0 h F:=hk
theorem bU {i:Nat} (hk:fV (Q .normal) n l w0 h F):fV (Exit.inBlock i Q (.exit i)) n l w0 h F:=by
 intro A w hf hs
 show (if i=i then _ else _)
 rw [if_pos rfl];exact hk A w hf hs
def Subl (l' l:List (Nat × Value)):Prop:=l'.map (fun x=>l.lookup x.1)=l'.map (fun x=>some x.2)
theorem Subl.get {l' l:List (Nat × Value)} (hs:Subl l' l):∀ x∈l',l.lookup x.1=some x.2:=by
 unfold Subl at hs
 intro x hx
 obtain ⟨k,hk⟩:=List.mem_iff_getElem?.1 hx
 have h1:=congrArg (fun z=>z[k]?) hs
 simp only [List.getElem?_map,hk,Option.map_some,Option.some.injEq] at h1
 exact h1
def OkR (P:Program) (c:Code) (Q:Exit->Act->World->Prop) (k n:Nat) (l:List (Nat × Value)) (w0:Base) (h:List (Nat × Obj)) (F:World->Prop):Prop:=∀ A w,Fr n l A->St w0 h F w->Code.rounds P c Q k A w
theorem ok_rounds {c:Code} (k:Nat) (hc:OkR P c Q k n l w0 h F):Ok P (.loop c) Q n l w0 h F:=fun A w hf hs=>wp_loop_rounds k (hc A w hf hs)
theorem okr_succ {c:Code} {k:Nat} (hc:Ok P c (Exit.then (Code.rounds P c Q k) Q) n l w0 h F):OkR P c Q (k+1) n l w0 h F:=fun A w hf hs=>hc A w hf hs
def Next1 {σ:Type} (n:Nat) (w0:Base) (F:World->Prop) (L:σ->List (Nat × Value)) (H:σ->List (Nat × Obj)) (m:σ->Nat) (R:σ->Prop) (k:Nat) (A:Act) (w:World):Prop:=∃ s,m s<k/\R s/\Fr n (L s) A/\St w0 (H s) F w
theorem ok_loop {σ:Type} {c:Code} (L:σ->List (Nat × Value)) (H:σ->List (Nat × Obj)) (m:σ->Nat) (R:σ->Prop) (s0:σ) (hR:R s0) (hl:(L s0).map (fun x=>l.lookup x.1)=(L s0).map (fun x=>some x.2)) (hh:List.Sublist (H s0) h)
 (round:∀ s,R s->Ok P c (Exit.then (Next1 n w0 F L H m R (m s)) Q) n (L s) w0 (H s) F):Ok P (.loop c) Q n l w0 h F:=by
 intro A w hf hs
 refine wp_loop_ghost (fun k A w=>∃ s,m s=k/\R s/\Fr n (L s) A/\St w0 (H s) F w) (m s0) ⟨s0,rfl,hR,hf.sub _ (Subl.get hl),hs.sub hh⟩ ?_
 rintro k A w ⟨s,rfl,h1,h2,h3⟩
 refine Code.wp_mono ?_ (round s h1 A w h2 h3)
 intro e A' w' hq
 cases e with
 | normal =>
   obtain ⟨s',q1,q2,q3,q4⟩:=hq
   exact ⟨m s',q1,s',rfl,q2,q3,q4⟩
 | _=>exact hq
theorem mt_round {σ:Type} {L:σ->List (Nat × Value)} {H:σ->List (Nat × Obj)} {m:σ->Nat} {R:σ->Prop} {k:Nat} (s:σ) (hm:m s<k) (hR:R s) (hl:(L s).map (fun x=>l.lookup x.1)=(L s).map (fun x=>some x.2)) (hh:List.Sublist (H s) h) :
 fV (Exit.then (Next1 n w0 F L H m R k) Q .normal) n l w0 h F:=fun _ _ hf hs=>⟨s,hm,hR,hf.sub _ (Subl.get hl),hs.sub hh⟩
end
abbrev pt (g:Nat):Value:=.pointer (some ⟨g,0,none⟩)
section
variable {P:Program} {ops:Array Oper} {D:List Nat} {l:List (Nat × Value)} {w0:Base} {h:List (Nat × Obj)} {F0:World→Prop}
variable {vals:(Nat→bC)→Nat→Value} {effs:(Nat→bC)→Nat→Eff}
def oI (ops:Array Oper) (V:Nat->Value) (v:Value) (E':Eff) (i:Nat):Option (Value × Eff) :=
 if (ops[i]?).isSome&&fJ V (opAt ops i) then some (v,E') else none
theorem nU {v':Value} {E:Eff} {i:Nat} {V:Nat->Value} {v:Value} {E':Eff} (h1:oI ops V v E' i=some (v',E)):((ops[i]?).isSome=true/\fJ V (opAt ops i)=true)/\v=v'/\E'=E:=by
 unfold oI at h1
 split at h1
 ·rename_i hb
  simp only [Bool.and_eq_true] at hb
  simp only [Option.some.injEq,Prod.mk.injEq] at h1
  exact ⟨hb,h1⟩
 ·exact absurd h1 (by simp)
theorem o_sem (i:Nat) (s:(Nat->bC)->Sem Next) (v:(Nat->bC)->Value) (hc:∀ ρ,oI ops (vals ρ) (vals (upd ρ i {}) i) (effs (upd ρ i {}) i) i=some (v ρ,{}))
 (hx:∀ ρ,execOp (bI ops D l (vals ρ) i) (opAt ops i)=s ρ) (hr:∀ ρ w,(s ρ).run P w=.ok (.value (v ρ)) w):fZ P ops D l w0 h F0 vals effs (fun _ _ _=>True) i:=by
 refine obl_pure (fM (nU (hc (fun _=>{}))).1.1) (fun ρ=>(nU (hc ρ)).1.2) (fun ρ w=>?_) (fun ρ=>(nU (hc ρ)).2.2) (fun _ _=>trivial)
 rw [(nU (hc ρ)).2.1,hx ρ]
 exact hr ρ w
theorem run_idx_arr {t elem:TypeId} {len s g off:Nat} {k:IntKind} {n:Int} (hu:P.underlying t=some (.array len elem)) (hs:∀ w,(sizeOf elem).run P w=.ok s w) (h0:0<=n) (h1:n<len) (w:World) :
 (do pure (Next.value (<- Instr.indexAt t (.pointer (some ⟨g,off,none⟩)) (.int k n))):Sem Next).run P w=.ok (.value (.pointer (some ⟨g,off+n.toNat*s,none⟩))) w:=by
 have hadd:(Addr.add ⟨g,off,none⟩ (n.toNat*s))=⟨g,off+n.toNat*s,none⟩:=by
  unfold Addr.add
  split
  ·rename_i e;rw [e,Nat.add_zero]
  ·rfl
 simp [Instr.indexAt,asIntOf,Instr.sureAddr,Sem.run_bind,run_underlying hu,h0,h1,hs,hadd]
theorem vO {t elem:TypeId} {len cap s g off:Nat} {k:IntKind} {n:Int} (hu:P.underlying t=some (.slice elem)) (hs:∀ w,(sizeOf elem).run P w=.ok s w) (h0:0<=n) (h1:n<len) (w:World) :
 (do pure (Next.value (<- Instr.indexAt t (.slice (some ⟨g,off,none⟩) len cap) (.int k n))):Sem Next).run P w=.ok (.value (.pointer (some ⟨g,off+n.toNat*s,none⟩))) w:=by
 have hadd:(Addr.add ⟨g,off,none⟩ (n.toNat*s))=⟨g,off+n.toNat*s,none⟩:=by
  unfold Addr.add
  split
  ·rename_i e;rw [e,Nat.add_zero]
  ·rfl
 simp [Instr.indexAt,asIntOf,Sem.run_bind,run_underlying hu,h0,h1,hs,hadd]
theorem aC {t elem:TypeId} {len g:Nat} {k:IntKind} {n:Int} {i:Nat} (hu:P.underlying t=some (.array len elem)) (hs:∀ w,(sizeOf elem).run P w=.ok 1 w) (hi:n=(i:Int)/\i<len) (w:World) :
 (do pure (Next.value (<- Instr.indexAt t (.pointer (some ⟨g,0,none⟩)) (.int k n))):Sem Next).run P w=.ok (.value (.pointer (some ⟨g,i,none⟩))) w:=by
 obtain ⟨rfl,hi⟩:=hi
 rw [run_idx_arr hu hs om om w]
 simp
def ldChk (ops : Array Oper) (D : List Nat) (l : List (Nat × Value)) (h : List (Nat × Obj)) (V : Nat -> Value) (E : Nat -> Eff) (v : Value) (E' : Eff) (i n : Nat) : Option (TypeId × Value × List (Nat × Obj) × Value × Eff) :=
 if (ops[i]?).isSome&&fJ V (opAt ops i)&&eH ops D h E i [n] then
  match (opAt ops i).op with
  | .load t a=>some (t,bI ops D l V i a,known ops D h E i [n],v,E')
  | _=>none
 else none
theorem o_ld (i n : Nat) (t : TypeId) (g off : (Nat -> bC) -> Nat) (C : (Nat -> bC) -> Array Value) (T : TypeId) (fr : Nat × Nat) (v : (Nat -> bC) -> Value)
 (hc:∀ ρ,ldChk ops D l h (vals ρ) (effs ρ) (vals (upd ρ i {}) i) (effs (upd ρ i {}) i) i n=some (t,.pointer (some ⟨g ρ,off ρ,none⟩),[(g ρ,.cells (C ρ) T fr)],v ρ,{}))
 (ha:∀ w,(isAgg t).run P w=.ok false w) (hg:∀ ρ,(C ρ)[off ρ]? = some (v ρ)):fZ P ops D l w0 h F0 vals effs (fun _ _ _=>True) i:=by
 have key:∀ ρ,((ops[i]?).isSome=true/\fJ (vals ρ) (opAt ops i)=true/\eH ops D h (effs ρ) i [n]=true)/\∃ a,(opAt ops i).op=.load t a/\bI ops D l (vals ρ) i a=.pointer (some ⟨g ρ,off ρ,none⟩)/\known ops D h (effs ρ) i [n]=[(g ρ,.cells (C ρ) T fr)]/\vals (upd ρ i {}) i=v ρ/\effs (upd ρ i {}) i={}:=by
  intro ρ
  have h1:=hc ρ
  unfold ldChk at h1
  split at h1
  ·rename_i hb
   simp only [Bool.and_eq_true] at hb
   split at h1
   ·rename_i t' a ho
    simp only [Option.some.injEq,Prod.mk.injEq] at h1
    obtain ⟨rfl,h2,h3,h4,h5⟩:=h1
    exact ⟨⟨hb.1.1,hb.1.2,hb.2⟩,a,ho,h2,h3,h4,h5⟩
   ·exact absurd h1 (by simp)
  ·exact absurd h1 (by simp)
 refine xK (fM (key (fun _=>{})).1.1) (fun ρ=>(key ρ).1.2.1) (fun ρ w hG=>?_) (fun ρ=>(key ρ).2.choose_spec.2.2.2.2) (fun _ _=>trivial)
 obtain ⟨T',hG⟩:=hG
 obtain ⟨⟨_,_,hn⟩,a,h1,h2,h3,h4,_⟩:=key ρ
 have hblk:w.heap[g ρ]? = some (.cells (C ρ) T fr):=by
  unfold eH at hn
  rw [Bool.and_eq_true,List.all_eq_true] at hn
  have hn1:=hn.1 n (by simp)
  rw [Bool.and_eq_true] at hn1
  obtain ⟨q,hb⟩:=Option.isSome_iff_exists.1 hn1.1
  have:=(hG.block n q hb hn1.2).1
  unfold known at h3
  simp only [List.map_cons,List.map_nil,hb,List.cons.injEq,and_true] at h3
  rw [h3] at this
  exact this
 have hcell:w.cell? ⟨g ρ,off ρ,none⟩=some (v ρ):=by
  unfold World.cell?
  simp only [hblk]
  exact hg ρ
 unfold opv execOp
 rw [h1]
 simp only [h2]
 simp only [Instr.loadAt,Instr.sureAddr,loadVar,Sem.run_bind,Sem.run_pure,Result.andThen_ok,ha,Bool.false_eq_true,if_false,load,Sem.run,hcell]
 rw [h4]
 exact ⟨rfl,Below.refl _ _⟩
def stChk (ops : Array Oper) (D : List Nat) (l : List (Nat × Value)) (h : List (Nat × Obj)) (V : Nat -> Value) (E : Nat -> Eff) (v : Value) (E' : Eff) (i n : Nat) : Option (TypeId × Value × Value × List (Nat × Obj) × Value × Eff) :=
 if (ops[i]?).isSome&&fJ V (opAt ops i)&&eH ops D h E i [n] then
  match (opAt ops i).op with
  | .store t a x=>some (t,bI ops D l V i a,bI ops D l V i x,known ops D h E i [n],v,E')
  | _=>none
 else none
theorem o_st (i n : Nat) (t : TypeId) (g off : (Nat -> bC) -> Nat) (C C' : (Nat -> bC) -> Array Value) (T : TypeId) (x : (Nat -> bC) -> Value)
 (hc:∀ ρ,stChk ops D l h (vals ρ) (effs ρ) (vals (upd ρ i {}) i) (effs (upd ρ i {}) i) i n=some (t,.pointer (some ⟨g ρ,off ρ,none⟩),x ρ,[(g ρ,.cells (C ρ) T (0,0))],undef,{ puts:=[(n,g ρ,.cells (C' ρ) T (0,0))]}))
 (hs:∀ w,(sizeOf t).run P w=.ok 1 w) (hp:∀ ρ,plainV (x ρ)=true) (hlt:∀ ρ,off ρ<(C ρ).size) (hC:∀ ρ,(C ρ).setIfInBounds (off ρ) (x ρ)=C' ρ):fZ P ops D l w0 h F0 vals effs (fun _ _ _=>True) i:=by
 have key:∀ ρ,((ops[i]?).isSome=true/\fJ (vals ρ) (opAt ops i)=true/\eH ops D h (effs ρ) i [n]=true)/\∃ a y,(opAt ops i).op=.store t a y/\bI ops D l (vals ρ) i a=.pointer (some ⟨g ρ,off ρ,none⟩)/\bI ops D l (vals ρ) i y=x ρ/\known ops D h (effs ρ) i [n]=[(g ρ,.cells (C ρ) T (0,0))]/\vals (upd ρ i {}) i=undef/\effs (upd ρ i {}) i={ puts:=[(n,g ρ,.cells (C' ρ) T (0,0))]}:=by
  intro ρ
  have h1:=hc ρ
  unfold stChk at h1
  split at h1
  ·rename_i hb
   simp only [Bool.and_eq_true] at hb
   split at h1
   ·rename_i t' a y ho
    simp only [Option.some.injEq,Prod.mk.injEq] at h1
    obtain ⟨rfl,h2,h3,h4,h5,h6⟩:=h1
    exact ⟨⟨hb.1.1,hb.1.2,hb.2⟩,a,y,ho,h2,h3,h4,h5,h6⟩
   ·exact absurd h1 (by simp)
  ·exact absurd h1 (by simp)
 intro o ho ρ T' w hG
 obtain ⟨⟨hsome,hwant,hn⟩,a,y,h1,h2,h3,h4,h5,h6⟩:=key ρ
 have hoe:=fM hsome
 rw [ho] at hoe
 obtain rfl:o=opAt ops i:=by simpa using hoe
 rw [if_pos hwant]
 unfold eH at hn
 rw [Bool.and_eq_true,List.all_eq_true] at hn
 have hn1:=hn.1 n (by simp)
 rw [Bool.and_eq_true] at hn1
 obtain ⟨q,hb⟩:=Option.isSome_iff_exists.1 hn1.1
 have hblk0:=(hG.block n q hb hn1.2).1
 unfold known at h4
 simp only [List.map_cons,List.map_nil,hb,List.cons.injEq,and_true] at h4
 rw [h4] at hblk0
 simp only at hblk0
 have hcell:w.cell? ⟨g ρ,off ρ,none⟩=some ((C ρ)[off ρ]'(hlt ρ)):=by
  unfold World.cell?
  simp only [hblk0]
  simp [hlt ρ]
 have hfr:w.frozen? ⟨g ρ,off ρ,none⟩=false:=by
  unfold World.frozen?
  simp only [hblk0]
  simp
 have hsz:(x ρ).cells.toList=[x ρ]:=by
  have:=hp ρ
  cases hx:x ρ<;>rw [hx] at this<;>first | rfl | (simp [plainV] at this;done)
 have hsz2:(x ρ).cells.size=1:=by rw [<- Array.length_toList,hsz];rfl
 have hrun:(execOp (bI ops D l (vals ρ) i) (opAt ops i)).run P w=.ok .skip (w.setCell ⟨g ρ,off ρ,none⟩ (x ρ)):=by
  unfold execOp
  rw [h1]
  simp only [h2,h3]
  have hpv:=hp ρ
  simp only [Instr.storeAt,Instr.sureAddr,storeVar,Sem.run_bind,Sem.run_pure,Result.andThen_ok,hs,hsz,hsz2]
  rw [if_neg (by simp)]
  have hsu:(Sem.store .plain ⟨g ρ,off ρ,none⟩ (x ρ) (.pure ()):Sem Unit).run P w=.ok () (w.setCell ⟨g ρ,off ρ,none⟩ (x ρ)):=by
   cases hx:x ρ<;>rw [hx] at hpv<;>first | (simp [plainV] at hpv;done) | (simp only [Sem.run,hcell,hfr,Bool.false_eq_true,if_false])
  have hsc:(storeCells ⟨g ρ,off ρ,none⟩ [x ρ]).run P w=.ok () (w.setCell ⟨g ρ,off ρ,none⟩ (x ρ)):=by
   unfold storeCells
   simp only [Sem.run_bind,storeCells,store,Addr.add,if_true,hsu,Result.andThen_ok,Sem.run_pure]
  rw [hsc]
  rfl
 unfold opv
 rw [hrun]
 refine ⟨{},h5.symm,?_,?_,?_,?_,gZ (fun _=>trivial)⟩
 ·refine ⟨rfl, rfl, rfl, by simp [World.setCell], fun k hk hX => ?_⟩
  apply Below.heap_setCell
  rintro rfl
  exact hX ⟨n,_,q,by rw [h6];exact List.mem_cons_self,hb,by rw [h4]⟩
 ·rw [h6]
  intro n' o' hm
  simp only [List.mem_singleton,Prod.mk.injEq] at hm
  obtain ⟨rfl,rfl⟩:=hm
  refine ⟨hn1.2,q,hb,?_,?_⟩
  ·have hp' := put_in (w := w) (a := ⟨g ρ, off ρ, none⟩) hblk0 (u := (C ρ)[off ρ]'(hlt ρ)) (by simp [sQ, hlt ρ]) (x ρ)
   simp only [putIn,hC ρ] at hp'
   simpa using hp'
  ·left;rw [h4];simp
 ·rw [h6];intro k b' q' hk;simp at hk
 ·rw [h6];simp
end
def wd (A:Nat) (i:Nat):Int:=((A / 18446744073709551616^i%18446744073709551616:Nat):Int)
abbrev U (A:Nat):Value:=.agg #[.int .u64 (wd A 0),.int .u64 (wd A 1),.int .u64 (wd A 2),.int .u64 (wd A 3)]
theorem wd_nonneg (A i:Nat):0<=wd A i:=by unfold wd;omega
theorem wd_lt (A i:Nat):wd A i<18446744073709551616:=by unfold wd;omega
def M:Nat:=115792089237316195423570985008687907853269984665640564039457584007913129639936
theorem lW:M=115792089237316195423570985008687907853269984665640564039457584007913129639936:=rfl
theorem wd0 (A:Nat):wd A 0=((A%18446744073709551616:Nat):Int):=by unfold wd;simp
theorem wd1 (A:Nat):wd A 1=((A / 18446744073709551616%18446744073709551616:Nat):Int):=by unfold wd;simp
theorem wd2 (A:Nat):wd A 2=((A / 340282366920938463463374607431768211456%18446744073709551616:Nat):Int):=by unfold wd;simp
theorem wd3 (A:Nat):wd A 3=((A / 6277101735386680763835789423207666416102355444464034512896%18446744073709551616:Nat):Int):=by unfold wd;simp
theorem lX (A:Nat) (h:A<M):(A:Int)=wd A 0+18446744073709551616*wd A 1+340282366920938463463374607431768211456*wd A 2+6277101735386680763835789423207666416102355444464034512896*wd A 3:=by
 rw [wd0,wd1,wd2,wd3];rw [lW] at h;omega
def ofW (a b c d:Int):Nat:=(a+18446744073709551616*b+340282366920938463463374607431768211456*c+6277101735386680763835789423207666416102355444464034512896*d).toNat
def Word (x:Int):Prop:=0<=x/\x<18446744073709551616
theorem aZ (A i:Nat):Word (wd A i):=⟨wd_nonneg A i,wd_lt A i⟩
theorem ofW_lt {a b c d:Int} (ha:Word a) (hb:Word b) (hc:Word c) (hd:Word d):ofW a b c d<M:=by
 unfold ofW Word M at *;omega
theorem ofW_sum {a b c d:Int} (ha:Word a) (hb:Word b) (hc:Word c) (hd:Word d):(ofW a b c d:Int)=a+18446744073709551616*b+340282366920938463463374607431768211456*c+6277101735386680763835789423207666416102355444464034512896*d:=by
 unfold ofW Word at *;omega
theorem wd_of_sum {a b c d:Int} (N:Nat) (ha:Word a) (hb:Word b) (hc:Word c) (hd:Word d) (h:(N:Int)=a+18446744073709551616*b+340282366920938463463374607431768211456*c+6277101735386680763835789423207666416102355444464034512896*d):a=wd N 0/\b=wd N 1/\c=wd N 2/\d=wd N 3:=by
 rw [wd0,wd1,wd2,wd3]
 unfold Word at *
 refine ⟨?_,?_,?_,?_⟩<;>omega
theorem sG {a b c d:Int} (N:Nat) (ha:Word a) (hb:Word b) (hc:Word c) (hd:Word d) (h:(N:Int)=a+18446744073709551616*b+340282366920938463463374607431768211456*c+6277101735386680763835789423207666416102355444464034512896*d):Value.agg #[.int .u64 a,.int .u64 b,.int .u64 c,.int .u64 d]=U N:=by
 obtain ⟨rfl,rfl,rfl,rfl⟩:=wd_of_sum N ha hb hc hd h;rfl
def nG (A B:Nat):Int:=if A<B then -1 else if B<A then 1 else 0
theorem cmpN_gt {A B:Nat} (h:B<A):nG A B=1:=by unfold nG;rw [if_neg om,if_pos h]
theorem cmpN_of {A B:Nat} {n:Int} (h1:A<B->n= -1) (h2:B<A->n=1) (h3:A=B->n=0):n=nG A B:=by
 unfold nG;split
 ·exact h1 ‹_›
 ·split
  ·exact h2 ‹_›
  ·exact h3 om
def byt (A i:Nat):Int:=((A / 256^(31-i)%256:Nat):Int)
def hB (A:Nat):Array Value:=((List.range 32).map fun i=>Value.int .u8 (byt A i)).toArray
theorem hB_size (A:Nat):(hB A).size=32:=by simp [hB]
theorem hB_get (A i:Nat) (h:i<32):(hB A)[i]? = some (.int .u8 (byt A i)):=by simp [hB,h]
theorem hB_ext {A:Nat} {C:Array Value} (hC:C.size=32) (h:∀ j,j<32->C[j]? = some (.int .u8 (byt A j))):C=hB A:=by
 apply Array.ext_getElem?
 intro i
 by_cases hi:i<32
 ·rw [h i hi,hB_get A i hi]
 ·rw [Array.getElem?_eq_none om,Array.getElem?_eq_none (by rw [hB_size];omega)]
theorem or_add (a b s:Nat) (hb:b<2^s):a*2^s|||b=a*2^s+b:=by
 rw [Nat.mul_comm];exact (Nat.two_pow_add_eq_or_of_lt hb a).symm
theorem u64_or_add (a b:Int) (s:Nat) (ha:0<=a) (hb:0<=b) (hb2:b<2^s) (hs:a*2^s+b<18446744073709551616):bits .or .u64 (a*2^s) b=a*2^s+b:=by
 obtain ⟨a,rfl⟩:=Int.eq_ofNat_of_zero_le ha
 obtain ⟨b,rfl⟩:=Int.eq_ofNat_of_zero_le hb
 have e:(a:Int)*2^s=((a*2^s:Nat):Int):=by simp
 rw [e] at hs ⊢
 have hb3:b<2^s:=by
  have:((b:Nat):Int)<((2^s:Nat):Int):=by simpa using hb2
  omega
 rw [bits_or_u64_nat _ _ om om,or_add a b s hb3]
 simp
theorem u64_in' {a:Int} (h0:0<=a) (h1:a<18446744073709551616):IntKind.u64.wrap a=a:=IntWalk.u64_in a ⟨h0,by omega⟩
theorem iI.mono {T:Nat->Prop} {F G:World->Prop} {w:World} (h:iI T F w) (hFG:∀ w,F w->G w):iI T G w:=by
 obtain ⟨S,h1,h2⟩:=h
 exact ⟨S,h1,fun w' hw=>hFG _ (h2 w' hw)⟩
theorem iI.sub {T T':Nat->Prop} {F:World->Prop} {w:World} (h:iI T F w) (hT:∀ b,T' b->T b):iI T' F w:=by
 obtain ⟨S,h1,h2⟩:=h
 exact ⟨S,fun b hb=>⟨(h1 b hb).1,fun hx=>(h1 b hb).2 (hT b hx)⟩,h2⟩
theorem iI.and {T:Nat->Prop} {F G:World->Prop} {w:World} (h:iI T F w) (k:iI T G w):iI T (fun w=>F w/\G w) w:=by
 obtain ⟨S,h1,h2⟩:=h
 obtain ⟨S',k1,k2⟩:=k
 refine ⟨fun b=>S b\/S' b,fun b hb=>hb.elim (h1 b) (k1 b),fun w' hw=>⟨h2 w' (fun b hb=>hw b (Or.inl hb)),k2 w' (fun b hb=>hw b (Or.inr hb))⟩⟩
theorem persT {T:Nat->Prop} {w:World}:iI T (fun _=>True) w:=gZ (fun _=>trivial)
def bv (x:UInt8):Value:=.int .u8 (x.toNat:Int)
def bs (xs:LU):List Value:=xs.map bv
theorem dJ (xs:LU):(bs xs).length=xs.length:=List.length_map _
theorem bs_app (xs ys:LU):bs (xs++ys)=bs xs++bs ys:=List.map_append
theorem bs_get {xs:LU} {i:Nat} {v:Value} (h:(bs xs)[i]? = some v):∃ x,xs[i]? = some x/\v=bv x:=by
 unfold bs at h
 rw [List.getElem?_map,Option.map_eq_some_iff] at h
 obtain ⟨x,h1,h2⟩:=h
 exact ⟨x,h1,h2.symm⟩
def Rs (w:World) (a:OA) (vs:List Value):Prop:=vs=[]\/∃ p,a=some p/\∀ i v,vs[i]? = some v->w.cell? (p.add i)=some v
theorem addr_block (a:Addr) (i:Nat):(a.add i).block=a.block:=by unfold Addr.add;split<;>rfl
theorem cell_congr {w w':World} {a:Addr} (h:w'.heap[a.block]? = w.heap[a.block]?):w'.cell? a=w.cell? a:=by
 unfold World.cell?
 rw [h]
def Apart (T:Nat->Prop) (a:OA) (n:Nat):Prop:=∀ p,a=some p->0<n->¬ T p.block
theorem Rs.pers {T : Nat -> Prop} {w : World} {a : OA} {vs : List Value} (h : Rs w a vs) (hT : Apart T a vs.length) : iI T (fun w => Rs w a vs) w := by
 rcases h with h | ⟨p,rfl,h⟩
 ·exact gZ (fun _=>Or.inl h)
 ·cases vs with
  | nil=>exact gZ (fun _=>Or.inl rfl)
  | cons v0 vs =>
    refine ⟨fun b=>b=p.block,?_,?_⟩
    ·rintro b rfl
     refine ⟨?_,hT p rfl (by simp)⟩
     have h0:=h 0 v0 rfl
     unfold World.cell? at h0
     by_cases hl:p.block<w.heap.size
     ·exact hl
     ·rw [addr_block,Array.getElem?_eq_none om] at h0;simp at h0
    ·intro w' hw
     refine Or.inr ⟨p,rfl,fun i v hv=>?_⟩
     exact (cell_congr (by rw [addr_block];exact hw _ rfl)).trans (h i v hv)
theorem Rs.drop {w:World} {a:OA} {vs:List Value} (h:Rs w a vs) (k:Nat):Rs w (a.map (·.add k)) (vs.drop k):=by
 rcases h with rfl | ⟨p,rfl,h⟩
 ·exact Or.inl (by simp)
 ·refine Or.inr ⟨p.add k, rfl, fun i v hv => ?_⟩
  rw [Addr.add_add]
  rw [List.getElem?_drop] at hv
  exact h _ v hv
theorem Rs.take {w:World} {a:OA} {vs:List Value} (h:Rs w a vs) (k:Nat):Rs w a (vs.take k):=by
 rcases h with rfl | ⟨p,rfl,h⟩
 ·exact Or.inl (by simp)
 ·refine Or.inr ⟨p, rfl, fun i v hv => ?_⟩
  rw [List.getElem?_take] at hv
  split at hv
  ·exact h i v hv
  ·exact absurd hv (by simp)
structure Bs (w:World) (a:OA) (c:Nat) (xs:LU):Prop where
 le:xs.length<=c
 max:xs.length<=140737488351232
 rows:Rs w a (bs xs)
theorem Bs.nil {w:World} {a:OA} {c:Nat}:Bs w a c []:=⟨by simp,by simp,Or.inl rfl⟩
theorem Bs.pers {T:Nat->Prop} {w:World} {a:OA} {c:Nat} {xs:LU} (h:Bs w a c xs) (hT:Apart T a xs.length):iI T (fun w=>Bs w a c xs) w :=
 (h.rows.pers (by rw [dJ];exact hT)).mono (fun _ hr=>⟨h.le,h.max,hr⟩)
theorem Bs.pers0 {w:World} {a:OA} {c:Nat} {xs:LU} (h:Bs w a c xs):iI (fun _=>False) (fun w=>Bs w a c xs) w:=h.pers (fun _ _ _=>id)
def Fs (w0 w:World) (a:OA) (c:Nat) (xs:LU):Prop:=Bs w a c xs/\∀ p,a=some p->0<xs.length->w0.heap.size<=p.block
theorem Fs.nil {w0 w:World} {a:OA} {c:Nat}:Fs w0 w a c []:=⟨Bs.nil,fun _ _ h=>absurd h (by simp)⟩
theorem Fs.pers {T:Nat->Prop} {w0 w:World} {a:OA} {c:Nat} {xs:LU} (h:Fs w0 w a c xs) (hT:∀ b,T b->b<w0.heap.size):iI T (fun w=>Fs w0 w a c xs) w :=
 (h.1.pers (fun p hp hn hx=>absurd (h.2 p hp hn) (by have:=hT _ hx;omega))).mono (fun _ hr=>⟨hr,h.2⟩)
theorem Fs.older {w0 w1 w:World} {a:OA} {c:Nat} {xs:LU} (h:Fs w1 w a c xs) (hs:w0.heap.size<=w1.heap.size):Fs w0 w a c xs :=
 ⟨h.1,fun p hp hn=>Nat.le_trans hs (h.2 p hp hn)⟩
theorem Bs.of_block {w:World} {g:Nat} {C:Array Value} {T:TypeId} {fr:Nat × Nat} {c:Nat} {xs:LU} (hb:w.heap[g]? = some (.cells C T fr)) (hx:C.toList.take xs.length=bs xs) (hc:xs.length<=c) (hm:xs.length<=140737488351232):Bs w (some ⟨g,0,none⟩) c xs:=by
 refine ⟨hc,hm,Or.inr ⟨_,rfl,fun i v hv=>?_⟩⟩
 have h1:C[i]? = some v:=by
  rw [<- hx,List.getElem?_take] at hv
  split at hv
  ·simpa using hv
  ·exact absurd hv (by simp)
 rw [Addr.add_lit]
 unfold World.cell?
 simp only [hb]
 simpa using h1
def gB (xs:LU) (i:Nat):Nat:=(xs.getD i 0).toNat
theorem iU (xs:LU) (i:Nat):gB xs i<256:=UInt8.toNat_lt _
def adr (a:OA) (k:Nat):OA:=a.map (·.add k)
def wB (a:OA) (l m:Nat):OA:=if m=l then a else adr a l
def mid (xs:LU) (l h:Nat):LU:=(xs.take h).drop l
theorem iZ (xs:LU) (l h:Nat) (hh:h<=xs.length):(mid xs l h).length=h-l:=by
 unfold mid
 rw [List.length_drop,List.length_take]
 omega
theorem Bs.mid {w:World} {a:OA} {c:Nat} {xs:LU} (h:Bs w a c xs) {l k:Nat} (hl:l<=k) (hk:k<=xs.length):Bs w (wB a l c) (c-l) (mid xs l k):=by
 have hle:=h.le
 have hm:=h.max
 have hlen:=iZ xs l k hk
 refine ⟨by omega,by omega,?_⟩
 unfold wB
 split
 ·have : YtcgdimlbbdfdpaaGreatDoor.mid xs l k = [] := List.eq_nil_of_length_eq_zero om
  rw [this]
  exact Or.inl rfl
 ·unfold adr YtcgdimlbbdfdpaaGreatDoor.mid bs
  rw [List.map_drop,List.map_take]
  exact (h.rows.take k).drop l
def RegF (P:Program) (id:Nat) (ops:Array Oper) (draw:Bool) (n:Nat) (l:List (Nat × Value)) (w0:Base) (h:List (Nat × Obj)) (F:World->Prop) (l':(Nat->bC)->List (Nat × Value)) (h':(Nat->bC)->List (Nat × Obj)) (F':(Nat->bC)->World->Prop):Prop :=
 ∀ Q A w,Fr n l A->St w0 h F w->(∀ ρ A' w',Fr n (l' ρ) A'->St w0 (h' ρ) (F' ρ) w'->Q .normal A' w')->(Code.region id ops draw).wp P Q A w
section
variable {P:Program} {Q:Exit→Act→World→Prop} {n:Nat} {l:List (Nat × Value)} {w0:Base} {h:List (Nat × Obj)} {F:World→Prop}
theorem ok_rf {id:Nat} {ops ops':Array Oper} {d:Bool} {l':(Nat->bC)->List (Nat × Value)} {h':(Nat->bC)->List (Nat × Obj)} {F':(Nat->bC)->World->Prop} (e:ops=ops') (hr:RegF P id ops' d n l w0 h F l' h' F') (hk:∀ ρ,fV (Q .normal) n (l' ρ) w0 (h' ρ) (F' ρ)) :
 Ok P (.region id ops d) Q n l w0 h F:=by
 subst e
 exact fun A w hf hs=>hr Q A w hf hs (fun ρ A' w' hf' hs'=>hk ρ A' w' hf' hs')
theorem ok_seq_rf {id:Nat} {ops ops':Array Oper} {d:Bool} {y:Code} {l':(Nat->bC)->List (Nat × Value)} {h':(Nat->bC)->List (Nat × Obj)} {F':(Nat->bC)->World->Prop} (e:ops=ops') (hr:RegF P id ops' d n l w0 h F l' h' F') (hk:∀ ρ,Ok P y Q n (l' ρ) w0 (h' ρ) (F' ρ)) :
 Ok P (.seq (.region id ops d) y) Q n l w0 h F:=aU (ok_rf e hr hk)
theorem ok_pure {c:Code} (p:Prop) (hp:∀ w,F w->p) (hk:p->Ok P c Q n l w0 h F):Ok P c Q n l w0 h F :=
 fun A w hf hs=>hk (hp w hs.facts.now) A w hf hs
theorem mt_pure {R:Act->World->Prop} (p:Prop) (hp:∀ w,F w->p) (hk:p->fV R n l w0 h F):fV R n l w0 h F :=
 fun A w hf hs=>hk (hp w hs.facts.now) A w hf hs
theorem ok_facts {c:Code} (G:World->Prop) (hp:∀ w,F w->G w) (hk:Ok P c Q n l w0 h G):Ok P c Q n l w0 h F :=
 fun A w hf hs=>hk A w hf (hs.weaken hp)
end
section
variable {P:Program} {ops:Array Oper} {D:List Nat} {l:List (Nat × Value)} {w0:Base} {h:List (Nat × Obj)} {F0:World→Prop}
variable {vals:(Nat→bC)→Nat→Value} {effs:(Nat→bC)→Nat→Eff} {fact:(Nat→bC)→Nat→World→Prop}
theorem fZ.brings {i:Nat} (hO:fZ P ops D l w0 h F0 vals effs (fun _ _ _=>True) i) (hf:∀ ρ w,fact ρ i w):fZ P ops D l w0 h F0 vals effs fact i:=by
 intro o ho ρ T w hG
 have hG':Given ops D w0 h F0 effs (fun _ _ _=>True) i ρ T w:=⟨hG.lt,hG.below,hG.block,hG.ne,hG.facts0,fun j _=>persT⟩
 have h1:=hO o ho ρ T w hG'
 have key:∀ v w',After ops D h vals effs (fun _ _ _=>True) i ρ T w v w'->After ops D h vals effs fact i ρ T w v w':=by
  rintro v w' ⟨r,e1,e2,e3,e4,e5,_⟩
  exact ⟨r,e1,e2,e3,e4,e5,gZ (hf _)⟩
 split at h1
 ·rename_i hw
  rw [if_pos hw]
  unfold opv at h1 ⊢
  split at h1
  ·exact key _ _ h1
  ·exact key _ _ h1
  ·refine h1.mono (fun e w'' he => ?_)
   cases e with
   | returned v=>exact key _ _ he
   | panicked c=>exact he
   | outgrown=>exact he
  ·exact h1.elim
 ·rename_i hw
  rw [if_neg hw]
  exact key _ _ h1
theorem Given.known {i:Nat} {ρ:Nat->bC} {T:Nat->Prop} {w:World} (hG:Given ops D w0 h F0 effs fact i ρ T w) (n:Nat) {g:Nat} {o:Obj} (hn:eH ops D h (effs ρ) i [n]=true) (hk:known ops D h (effs ρ) i [n]=[(g,o)]):w.heap[g]? = some o:=by
 unfold eH at hn
 rw [Bool.and_eq_true,List.all_eq_true] at hn
 have hn1:=hn.1 n (by simp)
 rw [Bool.and_eq_true] at hn1
 obtain ⟨q,hb⟩:=Option.isSome_iff_exists.1 hn1.1
 have:=(hG.block n q hb hn1.2).1
 unfold YtcgdimlbbdfdpaaGreatDoor.known at hk
 simp only [List.map_cons,List.map_nil,hb,List.cons.injEq,and_true] at hk
 rw [hk] at this
 exact this
theorem o_semF (i:Nat) (s:(Nat->bC)->Sem Next) (v:(Nat->bC)->Value) (hc:∀ ρ,oI ops (vals ρ) (vals (upd ρ i {}) i) (effs (upd ρ i {}) i) i=some (v ρ,{}))
 (hx:∀ ρ,execOp (bI ops D l (vals ρ) i) (opAt ops i)=s ρ) (hr:∀ ρ T w,Given ops D w0 h F0 effs fact i ρ T w->(s ρ).run P w=.ok (.value (v ρ)) w)
 (hf:∀ ρ T w,Given ops D w0 h F0 effs fact i ρ T w->iI T (fact (upd ρ i {}) i) w):fZ P ops D l w0 h F0 vals effs fact i:=by
 intro o ho ρ T w hG
 have hsm:=nU (hc ρ)
 have hoe:=fM hsm.1.1
 rw [ho] at hoe
 obtain rfl:o=opAt ops i:=by simpa using hoe
 rw [if_pos hsm.1.2]
 unfold opv
 rw [hx ρ,hr ρ T w hG]
 refine ⟨{},hsm.2.1.symm,Upd.refl _ _,?_,?_,?_,?_⟩
 ·rw [hsm.2.2];intro n q hm;simp at hm
 ·rw [hsm.2.2];intro k b q hk;simp at hk
 ·rw [hsm.2.2];simp
 ·rw [hsm.2.2];exact (hf ρ T w hG).sub (fun b hb=>by simpa using hb)
def mQ (P:Program) (ops:Array Oper) (D:List Nat) (l:List (Nat × Value)) (V:Nat->Value) (i:Nat) (z:List Nat):Option (Next × List (Nat × Obj) × List (Nat × Nat)) :=
 if (ops[i]?).isSome&&fJ V (opAt ops i) then kK P (execOp (bI ops D l V i) (opAt ops i)) [] [] z else none
theorem o_callG (i:Nat) (f:FuncId) (args:(Nat->bC)->Array Value)
 (hc:∀ ρ z,mQ P ops D l (vals ρ) i z=some (.enter f (args ρ),[],[]))
 (he:∀ ρ r,effs (upd ρ i r) i={})
 (hf:∀ ρ T w,Given ops D w0 h F0 effs fact i ρ T w->Calls P f (args ρ) w (fun e w'=>Below w.heap.size w w'/\∃ r,e=.returned (vals (upd ρ i r) i)/\iI (fun b=>b<w.heap.size) (fact (upd ρ i r) i) w')):fZ P ops D l w0 h F0 vals effs fact i:=by
 have key:∀ ρ z,((ops[i]?).isSome=true/\fJ (vals ρ) (opAt ops i)=true)/\kK P (execOp (bI ops D l (vals ρ) i) (opAt ops i)) [] [] z=some (.enter f (args ρ),[],[]):=by
  intro ρ z
  have h1:=hc ρ z
  unfold mQ at h1
  split at h1
  ·rename_i hb
   simp only [Bool.and_eq_true] at hb
   exact ⟨hb,h1⟩
  ·exact absurd h1 (by simp)
 intro o ho ρ T w hG
 have hoe:=fM (key ρ []).1.1
 rw [ho] at hoe
 obtain rfl:o=opAt ops i:=by simpa using hoe
 rw [if_pos (key ρ []).1.2]
 obtain ⟨w1,h1,_,_,h4,_,_⟩:=rF (P:=P) (execOp (bI ops D l (vals ρ) i) (opAt ops i)) [] [] w _ _ _ (by intro y hy;simp at hy) (by simp) ((key ρ _).2) trivial
 have hb:Below w.heap.size w w1:=⟨h4.os,h4.tape,h4.output,h4.size,fun k hk=>h4.block k hk (by simp)⟩
 have hheap:∀ b,b<w.heap.size->w1.heap[b]? = w.heap[b]? := fun b hb'=>hb.block b hb'
 have hG1:Given ops D w0 h F0 effs fact i ρ T w1:=by
  have tr:∀ {F:World->Prop},iI T F w->iI T F w1:=by
   rintro F ⟨S,s1,s2⟩
   refine ⟨S,fun b hb'=>⟨Nat.lt_of_lt_of_le (s1 b hb').1 hb.size,(s1 b hb').2⟩,fun w' hw=>s2 w' (fun b hb'=>?_)⟩
   rw [hw b hb',hheap b (s1 b hb').1]
  refine ⟨fun b hb'=>Nat.lt_of_lt_of_le (hG.lt b hb') hb.size,hG.below.trans (Upd.of_below hb),fun n x hn hk=>?_,hG.ne,tr hG.facts0,fun j hj=>tr (hG.facts j hj)⟩
  have:=hG.block n x hn hk
  refine ⟨?_,this.2⟩
  rw [hheap _ (hG.lt _ this.2.1)]
  exact this.1
 unfold opv
 rw [h1]
 refine (hf ρ T w1 hG1).mono (fun e w2 hew=>?_)
 obtain ⟨hb2,r,rfl,hp⟩:=hew
 show After ops D h vals effs fact i ρ T w _ w2
 refine ⟨r,rfl,Upd.of_below (hb.trans (hb2.mono hb.size)),?_,?_,?_,?_⟩
 ·rw [he];intro n q hm;simp at hm
 ·rw [he];intro k b q hk;simp at hk
 ·rw [he];simp
 ·rw [he]
  refine hp.sub (fun b hbT=>?_)
  rcases hbT with hbT | hbT
  ·exact Nat.lt_of_lt_of_le (hG.lt b hbT) hb.size
  ·simp at hbT
theorem o_callP (i:Nat) (f:FuncId) (args:(Nat->bC)->Array Value) (v:(Nat->bC)->Value)
 (hc:∀ ρ z,mQ P ops D l (vals ρ) i z=some (.enter f (args ρ),[],[]))
 (hv:∀ ρ,vals (upd ρ i {}) i=v ρ) (he:∀ ρ r,effs (upd ρ i r) i={}) (ht:∀ ρ w,fact ρ i w)
 (hf:∀ ρ T w,Given ops D w0 h F0 effs fact i ρ T w->Calls P f (args ρ) w (fun e w'=>e=.returned (v ρ)/\Below w.heap.size w w')):fZ P ops D l w0 h F0 vals effs fact i:=by
 refine o_callG i f args hc he (fun ρ T w hG=>(hf ρ T w hG).mono (fun e w' hew=>⟨hew.2,{},?_,gZ (ht _)⟩))
 rw [hv ρ];exact hew.1
theorem o_callB (i:Nat) (f:FuncId) (args:(Nat->bC)->Array Value) (v:(Nat->bC)->OA->Nat->Value) (xs:(Nat->bC)->LU)
 (hc:∀ ρ z,mQ P ops D l (vals ρ) i z=some (.enter f (args ρ),[],[]))
 (hv:∀ ρ r,vals (upd ρ i r) i=v ρ r.a (r.n.headD 0)) (he:∀ ρ r,effs (upd ρ i r) i={}) (ht:∀ ρ r,fact (upd ρ i r) i=fun w=>Fs w0.w w r.a (r.n.headD 0) (xs ρ))
 (hf:∀ ρ T w,Given ops D w0 h F0 effs fact i ρ T w->Calls P f (args ρ) w (fun e w'=>∃ a c,e=.returned (v ρ a c)/\Below w.heap.size w w'/\Fs w w' a c (xs ρ))):fZ P ops D l w0 h F0 vals effs fact i:=by
 refine o_callG i f args hc he (fun ρ T w hG=>(hf ρ T w hG).mono (fun e w' hew=>?_))
 obtain ⟨a,c,h1,h2,h3⟩:=hew
 refine ⟨h2,{ n:=[c],a:=a},?_,?_⟩
 ·rw [hv];exact h1
 ·rw [ht]
  exact (h3.pers (T:=fun b=>b<w.heap.size) (fun b hb=>hb)).mono (fun _ hx=>hx.older hG.below.size)
end
section
variable {P:Program} {ops:Array Oper} {D:List Nat} {l:List (Nat × Value)} {w0:Base} {h:List (Nat × Obj)} {F0:World→Prop}
variable {vals:(Nat→bC)→Nat→Value} {effs:(Nat→bC)→Nat→Eff} {fact:(Nat→bC)→Nat→World→Prop}
structure Grew (w w':World) (o:Obj):Prop where
 os:w'.os=w.os
 tape:w'.tape=w.tape
 output:w'.output=w.output
 heap:w'.heap=w.heap.push o
structure Wrote (w w':World) (g:Nat) (o:Obj):Prop where
 os:w'.os=w.os
 tape:w'.tape=w.tape
 output:w'.output=w.output
 size:w'.heap.size=w.heap.size
 other:∀ b,b≠g->w'.heap[b]? = w.heap[b]?
 at_:w'.heap[g]? = some o
def tJ (ops:Array Oper) (V:Nat->Value) (v:Value) (E':Eff) (i:Nat):Option (Value × Eff) :=
 if (ops[i]?).isSome&&fJ V (opAt ops i) then some (v,E') else none
theorem o_new1 (i:Nat) (s:(Nat->bC)->Sem Next) (v:(Nat->bC)->List Nat->Value) (ob:(Nat->bC)->List Nat->Obj)
 (hc:∀ ρ z,tJ ops (vals ρ) (vals (upd ρ i { n:=z}) i) (effs (upd ρ i { n:=z}) i) i=some (v ρ z,{ news:=[(z.headD 0,ob ρ z)]}))
 (hx:∀ ρ,execOp (bI ops D l (vals ρ) i) (opAt ops i)=s ρ) (ht:∀ ρ w,fact ρ i w)
 (hr:∀ ρ T w,Given ops D w0 h F0 effs fact i ρ T w->∃ k w',(s ρ).run P w=.ok (.value (v ρ [w.heap.size,k])) w'/\Grew w w' (ob ρ [w.heap.size,k])):fZ P ops D l w0 h F0 vals effs fact i:=by
 have key:∀ ρ z,((ops[i]?).isSome=true/\fJ (vals ρ) (opAt ops i)=true)/\v ρ z=vals (upd ρ i { n:=z}) i/\effs (upd ρ i { n:=z}) i={ news:=[(z.headD 0,ob ρ z)]}:=by
  intro ρ z
  have h1:=hc ρ z
  unfold tJ at h1
  split at h1
  ·rename_i hb
   simp only [Bool.and_eq_true] at hb
   simp only [Option.some.injEq,Prod.mk.injEq] at h1
   exact ⟨hb,h1.1.symm,h1.2⟩
  ·exact absurd h1 (by simp)
 intro o ho ρ T w hG
 have hoe:=fM (key ρ []).1.1
 rw [ho] at hoe
 obtain rfl:o=opAt ops i:=by simpa using hoe
 rw [if_pos (key ρ []).1.2]
 obtain ⟨k,w',hrun,hgr⟩:=hr ρ T w hG
 unfold opv
 rw [hx ρ,hrun]
 have he:=(key ρ [w.heap.size,k]).2.2
 refine ⟨{ n:=[w.heap.size,k]},(key ρ _).2.1,?_,?_,?_,?_,gZ (ht _)⟩
 ·refine ⟨hgr.os, hgr.tape, hgr.output, by rw [hgr.heap]; simp, fun b hb _ => ?_⟩
  rw [hgr.heap,Array.getElem?_push,if_neg om]
 ·rw [he];intro n q hm;simp at hm
 ·rw [he]
  intro j b q hj
  have:j=0:=by
   have:=(List.getElem?_eq_some_iff.1 hj).1
   simpa using this
  subst this
  simp only [List.headD_cons,List.getElem?_cons_zero,Option.some.injEq,Prod.mk.injEq] at hj
  obtain ⟨rfl,rfl⟩:=hj
  refine ⟨Nat.le_refl _,?_⟩
  rw [hgr.heap]
  simp
 ·rw [he];simp
theorem o_put1 (i n:Nat) (s:(Nat->bC)->Sem Next) (g:(Nat->bC)->Nat) (ob ob':(Nat->bC)->Obj) (v:(Nat->bC)->Value)
 (hc:∀ ρ,tJ ops (vals ρ) (vals (upd ρ i {}) i) (effs (upd ρ i {}) i) i=some (v ρ,{ puts:=[(n,g ρ,ob' ρ)]}))
 (hn:∀ ρ,eH ops D h (effs ρ) i [n]=true) (hk:∀ ρ,known ops D h (effs ρ) i [n]=[(g ρ,ob ρ)])
 (hx:∀ ρ,execOp (bI ops D l (vals ρ) i) (opAt ops i)=s ρ) (ht:∀ ρ w,fact ρ i w)
 (hr:∀ ρ T w,Given ops D w0 h F0 effs fact i ρ T w->w.heap[g ρ]? = some (ob ρ)->∃ w',(s ρ).run P w=.ok (.value (v ρ)) w'/\Wrote w w' (g ρ) (ob' ρ)):fZ P ops D l w0 h F0 vals effs fact i:=by
 have key:∀ ρ,((ops[i]?).isSome=true/\fJ (vals ρ) (opAt ops i)=true)/\v ρ=vals (upd ρ i {}) i/\effs (upd ρ i {}) i={ puts:=[(n,g ρ,ob' ρ)]}:=by
  intro ρ
  have h1:=hc ρ
  unfold tJ at h1
  split at h1
  ·rename_i hb
   simp only [Bool.and_eq_true] at hb
   simp only [Option.some.injEq,Prod.mk.injEq] at h1
   exact ⟨hb,h1.1.symm,h1.2⟩
  ·exact absurd h1 (by simp)
 intro o ho ρ T w hG
 have hoe:=fM (key ρ).1.1
 rw [ho] at hoe
 obtain rfl:o=opAt ops i:=by simpa using hoe
 rw [if_pos (key ρ).1.2]
 obtain ⟨w',hrun,hwr⟩:=hr ρ T w hG (hG.known n (hn ρ) (hk ρ))
 unfold opv
 rw [hx ρ,hrun]
 have he:=(key ρ).2.2
 have hn0:=hn ρ
 unfold eH at hn0
 rw [Bool.and_eq_true,List.all_eq_true] at hn0
 have hn1:=hn0.1 n (by simp)
 rw [Bool.and_eq_true] at hn1
 obtain ⟨q,hb⟩:=Option.isSome_iff_exists.1 hn1.1
 have hbg:cur (effs ρ) ops.size (dep D i) n q=(g ρ,ob ρ):=by
  have:=hk ρ
  unfold known at this
  simp only [List.map_cons,List.map_nil,hb,List.cons.injEq,and_true] at this
  exact this
 refine ⟨{},(key ρ).2.1,?_,?_,?_,?_,gZ (ht _)⟩
 ·refine ⟨hwr.os, hwr.tape, hwr.output, by rw [hwr.size]; exact Nat.le_refl _, fun k hk' hX => hwr.other k ?_⟩
  rintro rfl
  exact hX ⟨n,_,q,by rw [he];exact List.mem_cons_self,hb,by rw [hbg]⟩
 ·rw [he]
  intro n' o' hm
  simp only [List.mem_singleton,Prod.mk.injEq] at hm
  obtain ⟨rfl,rfl⟩:=hm
  refine ⟨hn1.2,q,hb,?_,Or.inl ?_⟩
  ·simpa using hwr.at_
  ·rw [hbg];simp
 ·rw [he];intro k b' q' hk';simp at hk'
 ·rw [he];simp
end
section
variable {P:Program} {ops:Array Oper} {D:List Nat} {l:List (Nat × Value)} {w0:Base} {h:List (Nat × Obj)} {F0:World→Prop}
variable {vals:(Nat→bC)→Nat→Value} {effs:(Nat→bC)→Nat→Eff} {fact:(Nat→bC)→Nat→World→Prop}
inductive Moved (w w':World) (g g':Nat) (o:Obj):Prop
 | stay (e:g'=g) (h:Wrote w w' g o)
 | grow (e:g'=w.heap.size) (h:Grew w w' o)
theorem o_move1 (i n : Nat) (s : (Nat -> bC) -> Sem Next) (g : (Nat -> bC) -> Nat) (ob : (Nat -> bC) -> Obj) (ob' : (Nat -> bC) -> bC -> Obj) (v : (Nat -> bC) -> bC -> Value) (p : (Nat -> bC) -> bC -> Prop)
 (hc:∀ ρ r,tJ ops (vals ρ) (vals (upd ρ i r) i) (effs (upd ρ i r) i) i=some (v ρ r,{ puts:=[(n,r.n.headD 0,ob' ρ r)]}))
 (hn:∀ ρ,eH ops D h (effs ρ) i [n]=true) (hk:∀ ρ,known ops D h (effs ρ) i [n]=[(g ρ,ob ρ)])
 (hx:∀ ρ,execOp (bI ops D l (vals ρ) i) (opAt ops i)=s ρ) (ht:∀ ρ r,fact (upd ρ i r) i=fun _=>p ρ r)
 (hr:∀ ρ T w,Given ops D w0 h F0 effs fact i ρ T w->w.heap[g ρ]? = some (ob ρ)->∃ r w',(s ρ).run P w=.ok (.value (v ρ r)) w'/\p ρ r/\Moved w w' (g ρ) (r.n.headD 0) (ob' ρ r)):fZ P ops D l w0 h F0 vals effs fact i:=by
 have key:∀ ρ r,((ops[i]?).isSome=true/\fJ (vals ρ) (opAt ops i)=true)/\v ρ r=vals (upd ρ i r) i/\effs (upd ρ i r) i={ puts:=[(n,r.n.headD 0,ob' ρ r)]}:=by
  intro ρ r
  have h1:=hc ρ r
  unfold tJ at h1
  split at h1
  ·rename_i hb
   simp only [Bool.and_eq_true] at hb
   simp only [Option.some.injEq,Prod.mk.injEq] at h1
   exact ⟨hb,h1.1.symm,h1.2⟩
  ·exact absurd h1 (by simp)
 intro o ho ρ T w hG
 have hoe:=fM (key ρ {}).1.1
 rw [ho] at hoe
 obtain rfl:o=opAt ops i:=by simpa using hoe
 rw [if_pos (key ρ {}).1.2]
 obtain ⟨r,w',hrun,hp,hmv⟩:=hr ρ T w hG (hG.known n (hn ρ) (hk ρ))
 unfold opv
 rw [hx ρ,hrun]
 have he:=(key ρ r).2.2
 have hn0:=hn ρ
 unfold eH at hn0
 rw [Bool.and_eq_true,List.all_eq_true] at hn0
 have hn1:=hn0.1 n (by simp)
 rw [Bool.and_eq_true] at hn1
 obtain ⟨q,hb⟩:=Option.isSome_iff_exists.1 hn1.1
 have hbg:cur (effs ρ) ops.size (dep D i) n q=(g ρ,ob ρ):=by
  have:=hk ρ
  unfold known at this
  simp only [List.map_cons,List.map_nil,hb,List.cons.injEq,and_true] at this
  exact this
 refine ⟨r,(key ρ r).2.1,?_,?_,?_,?_,by rw [ht];exact gZ (fun _=>hp)⟩
 ·cases hmv with
  | stay e hwr =>
    refine ⟨hwr.os,hwr.tape,hwr.output,by rw [hwr.size];exact Nat.le_refl _,fun k hk' hX=>hwr.other k ?_⟩
    rintro rfl
    exact hX ⟨n,_,q,by rw [he];exact List.mem_cons_self,hb,by rw [hbg]⟩
  | grow e hgr =>
    refine ⟨hgr.os,hgr.tape,hgr.output,by rw [hgr.heap];simp,fun b hb _=>?_⟩
    rw [hgr.heap,Array.getElem?_push,if_neg om]
 ·rw [he]
  intro n' o' hm
  simp only [List.mem_singleton,Prod.mk.injEq] at hm
  obtain ⟨rfl,rfl⟩:=hm
  refine ⟨hn1.2,q,hb,?_,?_⟩
  ·cases hmv with
   | stay e hwr=>have:=hwr.at_;rw [<- e] at this;simpa using this
   | grow e hgr =>
     simp only [List.lookup_cons,beq_self_eq_true,Option.getD_some]
     rw [e,hgr.heap];simp
  ·cases hmv with
   | stay e hwr=>left;rw [hbg];simpa using e
   | grow e hgr =>
     right
     refine ⟨by simpa using Nat.le_of_eq e.symm,?_,rfl⟩
     intro n2 y2 hm2
     simp only [List.mem_singleton,Prod.mk.injEq] at hm2
     exact Or.inl hm2.1
 ·rw [he];intro k b' q' hk';simp at hk'
 ·rw [he];simp
end
section
variable {P:Program} {t e:TypeId}
def lJ (P:Program) (e:TypeId):Prop:=∃ i,P.info? e=some i/\i.size=1/\i.bytes=1/\i.zero=some (.int .u8 0)
theorem u8like_of (h:(P.info? e).map (fun i=>(i.size,i.bytes,i.zero))=some (1,1,some (.int .u8 0))):lJ P e:=by
 rw [Option.map_eq_some_iff] at h
 obtain ⟨i,h1,h2⟩:=h
 simp only [Prod.mk.injEq] at h2
 exact ⟨i,h1,h2⟩
def zB (n:Nat):Array Value:=(bs (List.replicate n 0)).toArray
def inpl (C:Array Value) (o:Nat) (vs:List Value):Array Value:=(C.toList.take o++vs++C.toList.drop (o+vs.length)).toArray
def grow (C:Array Value) (o:Nat) (vs:List Value) (k:Nat):Array Value:=(C.toList.take o++vs).toArray++zB k
theorem zB_size (n:Nat):(zB n).size=n:=by simp [zB,bs]
theorem sizeOf_u8 (hi:lJ P e) (w:World):(sizeOf e).run P w=.ok 1 w:=by
 obtain ⟨i,h1,h2,_⟩:=hi
 simp [sizeOf,typeInfo,h1,h2]
theorem made_zB (n:Nat):madeCells #[.int .u8 0] n=zB n:=by
 apply Array.ext
 ·simp [madeCells,zB,bs]
 ·intro i h1 h2
  simp [madeCells,zB,bs,bv,Nat.mod_one]
theorem zero_zB (n:Nat):Builtin.zeroCells #[.int .u8 0] n=zB n:=by
 apply Array.ext
 ·simp [Builtin.zeroCells,zB,bs]
 ·intro i h1 h2
  simp [Builtin.zeroCells,zB,bs,bv,Nat.mod_one]
theorem wW (xs:LU):∀ u∈bs xs,u.oneCell'=true:=by
 intro u hu
 obtain ⟨x,_,rfl⟩:=List.mem_map.1 hu
 rfl
theorem Bs.src {w:World} {a:OA} {c:Nat} {xs:LU} {tx e':TypeId} (hk:P.underlying tx=some (.slice e')) (h:Bs w a c xs):Src P 1 tx (.slice a xs.length c) xs.length (bs xs) w:=by
 cases a with
 | none =>
   have h0:xs=[]:=by
    rcases h.rows with h0 | ⟨p,hp,_⟩
    ·exact List.map_eq_nil_iff.1 h0
    ·exact absurd hp (by simp)
   subst h0
   exact Src.ofNil w hk c
 | some p =>
   refine Src.ofSlice w hk p xs.length c (bs xs) (by rw [dJ,Nat.mul_one]) ?_ (wW xs)
   intro j u hu
   rcases h.rows with h0 | ⟨p',hp,hh⟩
   ·rw [h0] at hu;simp at hu
   ·obtain rfl : p = p' := by simpa using hp
    exact hh j u hu
theorem wrote_row {w:World} {g:Nat} {C C':Array Value} {T:TypeId} (hg:w.heap[g]? = some (.cells C T (0,0))):Wrote w (w.setRow g C') g (.cells C' T (0,0)) :=
 ⟨rfl,rfl,rfl,size_setRow w g C',fun b hb=>setRow_other w g b C' hb,setRow_heap w g C C' T _ hg⟩
theorem app_room {w:World} {ty tx:TypeId} (ht:P.underlying t=some (.slice e)) (hi:lJ P e) {g n c:Nat} {C:Array Value} {x:Value} {ys:LU} (hg:w.heap[g]? = some (.cells C e (0,0)))
 (hs:Src P 1 tx x ys.length (bs ys) w) (hr:n+ys.length<=c) (hf:n+ys.length<=C.size) :
 ∃ w',(do pure (Next.value (<- Builtin.append_ #[t,tx] ty #[.slice (some ⟨g,0,none⟩) n c,x])):Sem Next).run P w=.ok (.value (.slice (some ⟨g,0,none⟩) (n+ys.length) c)) w'/\Wrote w w' g (.cells (inpl C n (bs ys)) e (0,0)):=by
 obtain ⟨i,h1,h2,h3,h4⟩:=hi
 refine ⟨_,?_,wrote_row hg⟩
 have hst:=run_storeCells_at P g n e (bs ys) 0 C w hg (by rw [dJ];omega) (wW ys)
 simp only [Nat.add_zero] at hst
 have hs2:Src P i.size tx x ys.length (bs ys) w:=by rw [h2];exact hs
 have hrun:(Builtin.append_ #[t,tx] ty #[.slice (some ⟨g,0,none⟩) n c,x]).run P w=.ok (.slice (some ⟨g,0,none⟩) (n+ys.length) c) (w.setRow g (inpl C n (bs ys))):=by
  unfold inpl
  rcases hs.kind with ⟨e',hk⟩ | hk<;>simp [Builtin.append_,run_underlying ht,run_underlying hk,sizeOf,typeInfo,h1,h2,hs.len,hr,hs.cells,Addr.add_lit,hst]
 rw [Sem.run_bind,hrun]
 rfl
theorem app_grow {w:World} {ty tx:TypeId} (ht:P.underlying t=some (.slice e)) (hi:lJ P e) {a:OA} {n c:Nat} {olds:List Value} {x:Value} {ys:LU}
 (ho:(Builtin.firstCells 1 n (.slice a n c)).run P w.drew=.ok olds.toArray w.drew) (hs:Src P 1 tx x ys.length (bs ys) w) (hr:c<n+ys.length) (hm:n+ys.length<=140737488351232) :
 ∃ k w',(do pure (Next.value (<- Builtin.append_ #[t,tx] ty #[.slice a n c,x])):Sem Next).run P w=.ok (.value (.slice (some ⟨w.heap.size,0,none⟩) (n+ys.length) (n+ys.length+k))) w'/\Grew w w' (.cells ((olds++bs ys).toArray++zB k) e (0,0)):=by
 obtain ⟨i,h1,h2,h3,h4⟩:=hi
 have hge:=grownCap_ge w (n+ys.length) c e
 have hs2:Src P i.size tx x ys.length (bs ys) w:=by rw [h2];exact hs
 have hrun:=run_append_grow_src (P:=P) w t tx ty e i (.int .u8 0) ht h1 h4 a n c olds (by rw [h2];exact ho) x ys.length (bs ys) hs2 hr om (growslice_fits hr (by rw [h3];omega))
 refine ⟨grownCap w (n+ys.length) c e-(n+ys.length),w.drew.alloc (.cells ((olds++bs ys).toArray++zB (grownCap w (n+ys.length) c e-(n+ys.length))) e),?_,⟨rfl,rfl,rfl,rfl⟩⟩
 rw [Sem.run_bind,hrun]
 rw [show (n+ys.length+(grownCap w (n+ys.length) c e-(n+ys.length)))=grownCap w (n+ys.length) c e by omega,<- zero_zB]
 rfl
theorem first_nil {w:World}:(Builtin.firstCells 1 0 (.slice none 0 0)).run P w=.ok ([]:List Value).toArray w:=run_firstCells_none w 1 0 0 0
theorem first_row {w:World} {g n c:Nat} {C:Array Value} {T:TypeId} {fr:Nat × Nat} (hg:w.heap[g]? = some (.cells C T fr)) (hn:n<=C.size):(Builtin.firstCells 1 n (.slice (some ⟨g,0,none⟩) n c)).run P w=.ok (C.toList.take n).toArray w:=by
 refine run_firstCells_some w 1 n ⟨g,0,none⟩ n c (C.toList.take n) (by simp;omega) (fun j v hv=>?_)
 rw [Addr.add_lit]
 unfold World.cell?
 simp only [hg]
 rw [List.getElem?_take] at hv
 split at hv
 ·simpa using hv
 ·exact absurd hv (by simp)
theorem copy_row {w : World} {ty tx : TypeId} (ht : P.underlying t = some (.slice e)) (hi : lJ P e) {g n c : Nat} {C : Array Value} {T : TypeId} {a : OA} {m d : Nat} {xs : LU} (hg : w.heap[g]? = some (.cells C T (0, 0)))
 (hb:Bs w a d xs) (hm:m=xs.length) (hn:n<=C.size) :
 ∃ w',(do pure (Next.value (<- Builtin.copy_ #[t,tx] ty #[.slice (some ⟨g,0,none⟩) n c,.slice a m d])):Sem Next).run P w=.ok (.value (goInt (Nat.min xs.length n))) w'/\Wrote w w' g (.cells (inpl C 0 (bs (xs.take n))) T (0,0)):=by
 subst hm
 obtain ⟨i,h1,h2,h3,h4⟩:=hi
 refine ⟨_,?_,wrote_row hg⟩
 have hlen:(bs (xs.take n)).length=Nat.min xs.length n:=by rw [dJ,List.length_take];exact Nat.min_comm _ _
 have hst:=run_storeCells_at P g 0 T (bs (xs.take n)) 0 C w hg (by rw [dJ,List.length_take];omega) (wW _)
 simp only [Nat.add_zero] at hst
 have hfc:(Builtin.firstCells 1 (Nat.min xs.length n) (.slice a xs.length d)).run P w=.ok (bs (xs.take n)).toArray w:=by
  cases a with
  | none =>
    have h0:xs=[]:=by
     rcases hb.rows with h0 | ⟨p,hp,_⟩
     ·exact List.map_eq_nil_iff.1 h0
     ·exact absurd hp (by simp)
    subst h0
    simp [Builtin.firstCells,bs]
  | some p =>
    refine run_firstCells_some w 1 _ p _ d (bs (xs.take n)) (by rw [hlen,Nat.mul_one]) (fun j v hv=>?_)
    rcases hb.rows with h0 | ⟨p',hp,hh⟩
    ·have h0' : xs = [] := List.map_eq_nil_iff.1 h0
     subst h0'
     simp [bs] at hv
    ·obtain rfl : p = p' := by simpa using hp
     apply hh j v
     unfold bs at hv ⊢
     rw [List.map_take,List.getElem?_take] at hv
     split at hv
     ·exact hv
     ·exact absurd hv (by simp)
 have hrun:(Builtin.copy_ #[t,tx] ty #[.slice (some ⟨g,0,none⟩) n c,.slice a xs.length d]).run P w=.ok (goInt (Nat.min xs.length n)) (w.setRow g (inpl C 0 (bs (xs.take n)))):=by
  unfold inpl
  simp [Builtin.copy_,run_underlying ht,Builtin.lenOf,sizeOf,typeInfo,h1,h2,hfc,hst]
 rw [Sem.run_bind,hrun]
 rfl
theorem make_row (ht:P.underlying t=some (.slice e)) (hi:lJ P e) {kl kc:IntKind} {n c:Nat} (hn:n<=c) (hc:c<=140737488351232) (w:World) :
 ∃ k w',(do pure (Next.value (<- Instr.makeSlice t (.int kl (n:Int)) (.int kc (c:Int)))):Sem Next).run P w=.ok (.value (.slice (some ⟨([w.heap.size,k]:List Nat).headD 0,0,none⟩) n c)) w'/\Grew w w' (.cells (zB c) e (0,0)):=by
 obtain ⟨i,h1,h2,h3,h4⟩:=hi
 have hr:=run_make (P:=P) w t e i _ ht h1 h4 kl kc n c om om (by rw [h3];omega) om
 refine ⟨0,w.alloc (.cells (zB c) e),?_,⟨rfl,rfl,rfl,rfl⟩⟩
 rw [Sem.run_bind,hr]
 simp only [h2,Nat.mul_one,Int.toNat_natCast]
 rw [<- made_zB]
 rfl
theorem slice_bytes (ht:P.underlying t=some (.slice e)) (hi:lJ P e) {w:World} {a:OA} {c m:Nat} {xs:LU} {lo hi':Option Value} {l k:Nat} (hb:Bs w a c xs) (hm:m=xs.length)
 (hlo:lo=none/\l=0\/lo=some (.int .i64 (l:Int))) (hhi:hi'=none/\k=xs.length\/hi'=some (.int .i64 (k:Int))) (hl:l<=k) (hk:k<=xs.length) :
 (do pure (Next.value (<- Instr.sliceAt t (.slice a m c) lo hi' none)):Sem Next).run P w=.ok (.value (.slice (wB a l c) (mid xs l k).length (c-l))) w:=by
 subst hm
 have hle:=hb.le
 have hs:=sizeOf_u8 hi w
 have h1:l<=k:=by omega
 have h2:k<=c:=by omega
 rw [iZ xs l k hk]
 have hb1:(Instr.sliceBounds true xs.length c lo hi' none).run P w=.ok (l,k,c) w:=by
  rcases hlo with ⟨rfl,rfl⟩ | rfl
  ·rcases hhi with ⟨rfl, rfl⟩ | rfl
   ·simp [Instr.sliceBounds]
   ·simp [Instr.sliceBounds,Instr.sliceBound,asIntOf,h2]
  ·rcases hhi with ⟨rfl, rfl⟩ | rfl
   ·simp [Instr.sliceBounds,Instr.sliceBound,asIntOf,h1]
   ·simp [Instr.sliceBounds,Instr.sliceBound,asIntOf,h1,h2]
 simp [Instr.sliceAt,Instr.slice,run_underlying ht,hs,wB,adr,hb1]
def Hd (C:Array Value) (xs:LU):Prop:=C.toList.take xs.length=bs xs
theorem Hd.size {C:Array Value} {xs:LU} (h:Hd C xs):xs.length<=C.size:=by
 have:=congrArg List.length h
 rw [dJ,List.length_take] at this
 simp at this
 omega
theorem qL (C:Array Value) (o:Nat) (vs:List Value) (h:o+vs.length<=C.size):(inpl C o vs).size=C.size:=by
 simp [inpl]
 omega
theorem Hd.inpl {C:Array Value} {xs ys:LU} (h:Hd C xs) {n:Nat} (hn:n=xs.length):Hd (inpl C n (bs ys)) (xs++ys):=by
 subst hn
 unfold Hd at h ⊢
 unfold YtcgdimlbbdfdpaaGreatDoor.inpl
 rw [h,bs_app,List.length_append]
 have:xs.length+ys.length=(bs xs++bs ys).length:=by rw [List.length_append,dJ,dJ]
 rw [this]
 simp only [List.append_assoc]
 rw [<- List.append_assoc,List.take_left]
theorem Hd.grow {C:Array Value} {xs ys:LU} (h:Hd C xs) {k n:Nat} (hn:n=xs.length):Hd (grow C n (bs ys) k) (xs++ys):=by
 subst hn
 unfold Hd at h ⊢
 unfold YtcgdimlbbdfdpaaGreatDoor.grow
 rw [h,bs_app,List.length_append]
 have:xs.length+ys.length=(bs xs++bs ys).length:=by rw [List.length_append,dJ,dJ]
 rw [this]
 simp only [Array.toList_append,List.append_assoc]
 rw [<- List.append_assoc,List.take_left]
theorem grow_size {C:Array Value} {n:Nat} {ys:LU} {k:Nat} (h:n<=C.size):(grow C n (bs ys) k).size=n+ys.length+k:=by
 simp [grow,bs,zB]
 omega
theorem Bs.of_hd {w:World} {g:Nat} {C:Array Value} {T:TypeId} {fr:Nat × Nat} {c:Nat} {xs:LU} (hb:w.heap[g]? = some (.cells C T fr)) (hx:Hd C xs) (hc:xs.length<=c) (hm:xs.length<=140737488351232):Bs w (some ⟨g,0,none⟩) c xs :=
 Bs.of_block hb hx hc hm
theorem St.fresh {w0:Base} {w:World} {h:List (Nat × Obj)} {F:World->Prop} (hS:St w0 h F w) {g:Nat} {C:Array Value} {T:TypeId} {fr:Nat × Nat} {c:Nat} {xs:LU} (hg:(g,.cells C T fr)∈h) (hx:Hd C xs) (hc:xs.length<=c) (hm:xs.length<=140737488351232) (hw:g ∉ w0.ws:=by exact List.not_mem_nil):Fs w0.w w (some ⟨g,0,none⟩) c xs:=by
 refine ⟨Bs.of_hd (hS.at_ _ hg).2 hx hc hm,fun p hp _=>?_⟩
 obtain rfl:(⟨g,0,none⟩:Addr)=p:=by simpa using hp
 exact (hS.at_ _ hg).1.resolve_right hw
end
def oa (ρ:Nat->bC) (i:Nat):OA:=(ρ i).a
def ob (x:Int):UInt8:=UInt8.ofNat x.toNat
theorem ob_nat {x:Int} (h:0<=x/\x<256):((ob x).toNat:Int)=x:=by
 unfold ob
 rw [UInt8.toNat_ofNat']
 omega
theorem bv_ob {x:Int} (h:0<=x/\x<256):bv (ob x)=.int .u8 x:=by
 unfold bv
 rw [ob_nat h]
theorem hd1 {x:Int} (h:0<=x/\x<256):Hd #[.int .u8 x] [ob x]:=by
 simp [Hd,bs,bv_ob h]
theorem fs_eq {w0 w:World} {a:OA} {c:Nat} {xs ys:LU} (e:xs=ys) (h:Fs w0 w a c xs):Fs w0 w a c ys:=e ▸ h
theorem uX {xs ys:LU} {n:Nat} (h:xs.length+ys.length<=n):(xs++ys).length<=n:=by rw [List.length_append];exact h
theorem room_le {C:Array Value} {c n:Nat} {ys:LU} (hc:C.size=c) (h:n+ys.length<=c):n+(bs ys).length<=C.size:=by rw [dJ,hc];exact h
theorem qW {C:Array Value} {xs ys:LU} {k:Nat} (h:Hd C xs):(grow C xs.length (bs ys) k).size=(xs++ys).length+k:=by
 rw [grow_size h.size,List.length_append]
section
variable {P:Program} {t e:TypeId}
theorem qH {w:World} {ty tx:TypeId} (ht:P.underlying t=some (.slice e)) (hi:lJ P e) {g c:Nat} {C:Array Value} {x:Value} {xs ys:LU} (hg:w.heap[g]? = some (.cells C e (0,0)))
 (hs:Src P 1 tx x ys.length (bs ys) w) (hc:C.size=c) (hr:xs.length+ys.length<=c) :
 ∃ w',(do pure (Next.value (<- Builtin.append_ #[t,tx] ty #[.slice (some ⟨g,0,none⟩) xs.length c,x])):Sem Next).run P w=.ok (.value (.slice (some ⟨g,0,none⟩) (xs++ys).length c)) w'/\Wrote w w' g (.cells (inpl C xs.length (bs ys)) e (0,0)):=by
 rw [List.length_append]
 exact app_room ht hi hg hs hr om
theorem uI {w:World} {ty tx:TypeId} (ht:P.underlying t=some (.slice e)) (hi:lJ P e) {g c:Nat} {C:Array Value} {x:Value} {xs ys:LU} (hg:w.heap[g]? = some (.cells C e (0,0)))
 (hs:Src P 1 tx x ys.length (bs ys) w) (hc:C.size=c) (hx:xs.length<=c) (hr:c<xs.length+ys.length) (hm:xs.length+ys.length<=140737488351232) :
 ∃ k w',(do pure (Next.value (<- Builtin.append_ #[t,tx] ty #[.slice (some ⟨g,0,none⟩) xs.length c,x])):Sem Next).run P w=.ok (.value (.slice (some ⟨w.heap.size,0,none⟩) (xs++ys).length ((xs++ys).length+k))) w'/\Grew w w' (.cells (grow C xs.length (bs ys) k) e (0,0)):=by
 rw [List.length_append]
 exact app_grow ht hi (first_row (w:=w.drew) hg om) hs hr hm
theorem app_nilL {w:World} {ty tx:TypeId} (ht:P.underlying t=some (.slice e)) (hi:lJ P e) {x:Value} {ys:LU}
 (hs:Src P 1 tx x ys.length (bs ys) w) (hr:0<ys.length) (hm:ys.length<=140737488351232) :
 ∃ k w',(do pure (Next.value (<- Builtin.append_ #[t,tx] ty #[.slice none 0 0,x])):Sem Next).run P w=.ok (.value (.slice (some ⟨w.heap.size,0,none⟩) ys.length (ys.length+k))) w'/\Grew w w' (.cells ((bs ys).toArray++zB k) e (0,0)):=by
 have:=app_grow (w:=w) (ty:=ty) ht hi (a:=none) (n:=0) (c:=0) (olds:=[]) first_nil hs om om
 simpa using this
theorem Hd.fresh (ys:LU) (k:Nat):Hd ((bs ys).toArray++zB k) ys:=by
 unfold Hd
 rw [Array.toList_append,<- dJ]
 simp
theorem fresh_size (ys:LU) (k:Nat):((bs ys).toArray++zB k).size=ys.length+k:=by simp [bs,zB]
theorem make_rowL (ht:P.underlying t=some (.slice e)) (hi:lJ P e) {kl kc:IntKind} {n c:Int} {c':Nat} (xs:LU) (hx:n=(xs.length:Int)) (hc':c=(c':Int)) (hn:xs.length<=c') (hc:c'<=140737488351232) (w:World) :
 ∃ k w',(do pure (Next.value (<- Instr.makeSlice t (.int kl n) (.int kc c))):Sem Next).run P w=.ok (.value (.slice (some ⟨([w.heap.size,k]:List Nat).headD 0,0,none⟩) xs.length c')) w'/\Grew w w' (.cells (zB c') e (0,0)):=by
 subst hx hc'
 exact make_row ht hi hn hc w
structure Ap (C:Array Value) (xs:LU) (c:Nat):Prop where
 hd:Hd C xs
 le:xs.length<=c
 max:xs.length<=140737488351232
 size:C.size=c
theorem Ap.mk' {C:Array Value} {xs:LU} {c:Nat} (h1:Hd C xs) (h2:xs.length<=c) (h3:xs.length<=140737488351232) (h4:C.size=c):Ap C xs c:=⟨h1,h2,h3,h4⟩
def objC:Obj->Array Value
 | .cells C _ _=>C
 | _=> #[]
def orcC (r:bC):Array Value:=objC (r.o.headD (.cells #[] 0 (0,0)))
def oc (ρ:Nat->bC) (i:Nat):Array Value:=orcC (ρ i)
theorem app_any {w:World} {ty tx:TypeId} (ht:P.underlying t=some (.slice e)) (hi:lJ P e) {g c:Nat} {C:Array Value} {x:Value} {xs ys:LU} (hA:Ap C xs c) (hs:Src P 1 tx x ys.length (bs ys) w) (hm:xs.length+ys.length<=140737488351232) (hg:w.heap[g]? = some (.cells C e (0,0))) :
 ∃ r w',(do pure (Next.value (<- Builtin.append_ #[t,tx] ty #[.slice (some ⟨g,0,none⟩) xs.length c,x])):Sem Next).run P w=.ok (.value (.slice (some ⟨r.n.headD 0,0,none⟩) (xs++ys).length (r.n.tail.headD 0))) w'/\Ap (orcC r) (xs++ys) (r.n.tail.headD 0)/\Moved w w' g (r.n.headD 0) (.cells (orcC r) e (0,0)):=by
 by_cases hr:xs.length+ys.length<=c
 ·obtain ⟨w', h1, h2⟩ := qH (w := w) (ty := ty) ht hi hg hs hA.size hr
  refine ⟨{ n:=[g,c],o:=[.cells (inpl C xs.length (bs ys)) 0 (0,0)]},w',h1,⟨Hd.inpl hA.hd rfl,uX hr,uX hm,(qL _ _ _ (room_le hA.size hr)).trans hA.size⟩,.stay rfl h2⟩
 ·obtain ⟨k, w', h1, h2⟩ := uI (w := w) (ty := ty) ht hi hg hs hA.size hA.le om hm
  refine ⟨{ n:=[w.heap.size,(xs++ys).length+k],o:=[.cells (grow C xs.length (bs ys) k) 0 (0,0)]},w',h1,⟨Hd.grow hA.hd rfl,Nat.le_add_right _ _,uX hm,qW hA.hd⟩,.grow rfl h2⟩
theorem idx_row (ht:P.underlying t=some (.slice e)) (hi:lJ P e) {g m c:Nat} {k:IntKind} {z:Int} {j:Nat} (hz:z=(j:Int)) (hj:j<m) (w:World) :
 (do pure (Next.value (<- Instr.indexAt t (.slice (some ⟨g,0,none⟩) m c) (.int k z))):Sem Next).run P w=.ok (.value (.pointer (some ⟨g,j,none⟩))) w:=by
 subst hz
 have:=vO (P:=P) (t:=t) (elem:=e) (len:=m) (cap:=c) (s:=1) (g:=g) (off:=0) (k:=k) (n:=j) ht (sizeOf_u8 hi) om om w
 simpa using this
end
def nB (xs:LU):Nat:=xs.foldl (fun a x=>a*256+x.toNat) 0
theorem nB_snoc (xs:LU) (x:UInt8):nB (xs++[x])=nB xs*256+x.toNat:=by simp [nB,List.foldl_append]
theorem snoc_ind {p:LU->Prop} (h0:p []) (h1:∀ xs x,p xs->p (xs++[x])):∀ xs,p xs:=by
 have key:∀ n xs,xs.length=n->p xs:=by
  intro n
  induction n with
  | zero=>intro xs hx;rw [List.eq_nil_of_length_eq_zero hx];exact h0
  | succ n ih =>
    intro xs hx
    have hne:xs≠[]:=by intro h;rw [h] at hx;simp at hx
    rw [<- List.dropLast_concat_getLast hne]
    exact h1 _ _ (ih _ (by rw [List.length_dropLast];omega))
 exact fun xs=>key _ xs rfl
theorem nB_byte (xs:LU):∀ i,i<xs.length->nB xs / 256^(xs.length-1-i)%256=gB xs i:=by
 refine snoc_ind (p:=fun xs=>∀ i,i<xs.length->nB xs / 256^(xs.length-1-i)%256=gB xs i) (fun i h=>absurd h (by simp)) ?_ xs
 intro xs x ih i hi
 rw [List.length_append,List.length_singleton] at hi ⊢
 rw [nB_snoc]
 have hx:=x.toNat_lt
 by_cases h:i<xs.length
 ·have e : xs.length + 1 - 1 - i = (xs.length - 1 - i) + 1 := by omega
  rw [e,Nat.pow_succ,Nat.mul_comm (256^_) 256,<- Nat.div_div_eq_div_mul,show (nB xs*256+x.toNat) / 256=nB xs by omega,ih i h]
  simp [gB,List.getD,List.getElem?_append_left h]
 ·have e : i = xs.length := by omega
  subst e
  rw [show xs.length+1-1-xs.length=0 by omega,Nat.pow_zero,Nat.div_one]
  simp [gB,List.getD]
theorem hB_nB {xs:LU} (h:xs.length=32):(bs xs).toArray=hB (nB xs):=by
 apply hB_ext
 ·simp [bs,h]
 ·intro j hj
  have hb:=nB_byte xs j om
  rw [h] at hb
  have hj':j<xs.length:=by omega
  unfold byt
  rw [show 31-j=32-1-j by omega,hb]
  simp [bs,bv,gB,List.getD,List.getElem?_eq_getElem hj']
theorem wrapU {k:IntKind} (hk:k.signed=false) (x:Nat):k.wrap (x:Int)=((x%2^k.bits:Nat):Int):=by
 simp [IntKind.wrap,hk]
theorem oD {k:IntKind} (hk:k.signed=false) {x:Nat} (h:x<2^k.bits):k.wrap (x:Int)=(x:Int):=by
 rw [wrapU hk,Nat.mod_eq_of_lt h]
theorem iG {P:Program} {t:TypeId} {k yk:IntKind} {x c:Nat} (h:x<2^k.bits) (w:World):(binOp .shr t (.int k (x:Int)) (.int yk (c:Int))).run P w=.ok (.int k ((x / 2^c:Nat):Int)) w:=by
 have e:Int.fdiv (x:Int) (2^(min (c:Int).toNat k.bits))=((x / 2^c:Nat):Int):=by
  rw [Int.toNat_natCast]
  rw [Int.fdiv_eq_ediv_of_nonneg _ (by exact Int.le_of_lt (Int.pow_pos dC))]
  rw [show (2:Int)^(min c k.bits)=((2^(min c k.bits):Nat):Int) by simp,<- Int.natCast_ediv]
  congr 1
  by_cases hc:c<=k.bits
  ·rw [Nat.min_eq_left hc]
  ·rw [Nat.min_eq_right om, Nat.div_eq_of_lt h, Nat.div_eq_of_lt]
   exact Nat.lt_of_lt_of_le h (Nat.pow_le_pow_right dC om)
 simp only [binOp,Op.shift,if_neg (by omega: ¬ (c:Int)<0),e]
 rfl
theorem yN {P:Program} {t:TypeId} {k yk:IntKind} (hk:k.signed=false) {x c:Nat} (h:x*2^c<2^k.bits) (hx:0<x->c<=k.bits) (w:World):(binOp .shl t (.int k (x:Int)) (.int yk (c:Int))).run P w=.ok (.int k ((x*2^c:Nat):Int)) w:=by
 have e:k.wrap ((x:Int)*2^(min (c:Int).toNat k.bits))=((x*2^c:Nat):Int):=by
  rw [Int.toNat_natCast]
  rcases Nat.eq_zero_or_pos x with rfl | hp
  ·simp [IntKind.wrap,hk]
  ·rw [Nat.min_eq_left (hx hp),show (x:Int)*2^c=((x*2^c:Nat):Int) by simp,oD hk h]
 simp only [binOp,Op.shift,if_neg (by omega: ¬ (c:Int)<0),e]
 rfl
theorem bits_orU {k:IntKind} (hk:k.signed=false) {a b:Nat} (ha:a<2^k.bits) (hb:b<2^k.bits):bits .or k (a:Int) (b:Int)=((a|||b:Nat):Int):=by
 have e:∀ n:Nat,n<2^k.bits->(BitVec.ofInt k.bits (n:Int)).toNat=n:=by
  intro n hn
  rw [BitVec.toNat_ofInt]
  rw [show ((2^k.bits:Nat):Int)=((2^k.bits:Nat):Int) from rfl,<- Int.natCast_emod,Int.toNat_natCast,Nat.mod_eq_of_lt hn]
 unfold bits
 simp only []
 rw [BitVec.toNat_or,e a ha,e b hb,oD hk (Nat.or_lt_two_pow ha hb)]
theorem bits_andU {k:IntKind} (hk:k.signed=false) {a b:Nat} (ha:a<2^k.bits) (hb:b<2^k.bits):bits .and k (a:Int) (b:Int)=((a&&&b:Nat):Int):=by
 have e:∀ n:Nat,n<2^k.bits->(BitVec.ofInt k.bits (n:Int)).toNat=n:=by
  intro n hn
  rw [BitVec.toNat_ofInt]
  rw [show ((2^k.bits:Nat):Int)=((2^k.bits:Nat):Int) from rfl,<- Int.natCast_emod,Int.toNat_natCast,Nat.mod_eq_of_lt hn]
 unfold bits
 simp only []
 rw [BitVec.toNat_and,e a ha,e b hb,oD hk (Nat.and_lt_two_pow _ hb)]
theorem xN {P:Program} {t:TypeId} {k:IntKind} {n d:Nat} (hd:0<d) (w:World):(binOp .rem t (.int k (n:Int)) (.int k (d:Int))).run P w=.ok (.int k ((n%d:Nat):Int)) w:=by
 have e:Int.tmod (n:Int) (d:Int)=((n%d:Nat):Int):=by rw [Int.tmod_eq_emod_of_nonneg om];simp
 simp only [binOp,Op.intDiv,ne_eq,not_true_eq_false,if_false,if_neg (by omega: ¬ (d:Int)=0),e]
 rfl
theorem run_quoI {P:Program} {t:TypeId} {n d:Nat} (hd:0<d) (hn:n<9223372036854775808) (w:World):(binOp .quo t (.int .i64 (n:Int)) (.int .i64 (d:Int))).run P w=.ok (.int .i64 ((n / d:Nat):Int)) w:=by
 have e:Int.tdiv (n:Int) (d:Int)=((n / d:Nat):Int):=by rw [Int.tdiv_eq_ediv_of_nonneg om];simp
 have h1:n / d<=n:=Nat.div_le_self _ _
 have h2:IntKind.i64.wrap ((n / d:Nat):Int)=((n / d:Nat):Int):=by
  generalize n / d=q at h1
  exact IntWalk.i64_in _ om
 simp only [binOp,Op.intDiv,ne_eq,not_true_eq_false,if_false,if_neg (by omega: ¬ (d:Int)=0),e,h2]
 rfl
def vN (c:Int):Prop:=0<=c/\c<=1
theorem kS:vN 0:=by unfold vN;omega
theorem word_zero:Word 0:=by unfold Word;omega
def dA (x y c:Int):Int:=(x+y+c)%18446744073709551616
def bV (x y c:Int):Int:=if x+y+c<18446744073709551616 then 0 else 1
theorem iE (x y c:Int):Word (dA x y c):=by unfold Word dA;omega
theorem jB (x y c:Int):vN (bV x y c):=by unfold vN bV;split<;>omega
theorem add_eq {x y c:Int} (hx:Word x) (hy:Word y) (hc:vN c):dA x y c+18446744073709551616*bV x y c=x+y+c:=by
 unfold Word vN dA bV at *;split<;>omega
def nV (x y c:Int):Int:=(x-y-c)%18446744073709551616
def fK (x y c:Int):Int:=if x<y+c then 1 else 0
theorem lU (x y c:Int):Word (nV x y c):=by unfold Word nV;omega
theorem jD (x y c:Int):vN (fK x y c):=by unfold vN fK;split<;>omega
theorem sub_eq {x y c:Int} (hx:Word x) (hy:Word y) (hc:vN c):nV x y c-18446744073709551616*fK x y c=x-y-c:=by
 unfold Word vN nV fK at *;split<;>omega
def dF (x y:Int):Int:=(x*y)%18446744073709551616
def pR (x y:Int):Int:=(x*y) / 18446744073709551616
theorem word_mulLo (x y:Int):Word (dF x y):=by unfold Word dF;omega
theorem mul_eq (x y:Int):dF x y+18446744073709551616*pR x y=x*y:=by unfold dF pR;omega
theorem add64 (x y c:Int) (hx:Word x) (hy:Word y) (hc:vN c) (w:World):(callFunc 162 #[.int .u64 x,.int .u64 y,.int .u64 c]).run prog w=.ok (.value (.tuple #[.int .u64 (dA x y c),.int .u64 (bV x y c)])) w:=by
 unfold Word vN at *
 rw [run_callFunc_extern func162 (by kernel_rfl) (by kernel_rfl) (by kernel_rfl) (e:=add64Entry) (by kernel_rfl),run_add64 x y c om om om om]
 simp only [Result.andThen]
 have e1:(x+y+c) / 18446744073709551616=bV x y c:=by unfold bV;split<;>omega
 rw [e1];rfl
theorem sub64 (x y b:Int) (hx:Word x) (hy:Word y) (hb:vN b) (w:World):(callFunc 213 #[.int .u64 x,.int .u64 y,.int .u64 b]).run prog w=.ok (.value (.tuple #[.int .u64 (nV x y b),.int .u64 (fK x y b)])) w:=by
 unfold Word vN at *
 obtain ⟨x,rfl⟩:=Int.eq_ofNat_of_zero_le hx.1
 obtain ⟨y,rfl⟩:=Int.eq_ofNat_of_zero_le hy.1
 obtain ⟨b,rfl⟩:=Int.eq_ofNat_of_zero_le hb.1
 have e1:(((x+18446744073709551616-y-b)%18446744073709551616:Nat):Int)=nV x y b:=by unfold nV;omega
 have e2:((if x<y+b then 1 else 0:Nat):Int)=fK x y b:=by unfold fK;split<;>split<;>omega
 rw [run_callFunc_extern func213 (by kernel_rfl) (by kernel_rfl) (by kernel_rfl) (e:=sub64Entry) (by kernel_rfl),run_sub64 x y b om,e1,e2]
 rfl
theorem rG {P:Program} {e:TypeId} {k:IntKind} (he:P.underlying e=some (.int k)) (xs:Array Value) (i:Nat) (v:Value) (hx:xs[i]? = some v) (w:World):(part e xs i).run P w=.ok v w:=by
 have hagg:(isAgg e).run P w=.ok false w:=by
  unfold isAgg
  rw [Sem.run_bind,run_underlying he w];simp
 simp [part,Sem.run_bind,hagg,hx]
theorem run_equalIn_int {P:Program} {e:TypeId} {k:IntKind} (d:Nat) (he:P.underlying e=some (.int k)) (a b:Int) (w:World):(Op.equalIn (d+1) e (.int k a) (.int k b)).run P w=.ok (a==b) w:=by
 simp [Op.equalIn,run_underlying he]
theorem run_equal_ints {P : Program} {t e : TypeId} {n : Nat} {k : IntKind} (ht : P.underlying t = some (.array n e)) (he : P.underlying e = some (.int k)) (hs : (P.info? e).map (·.size) = some 1)
 (f g:Nat->Int) (xs ys:Array Value) (hx:∀ i,i<n->xs[i]? = some (.int k (f i))) (hy:∀ i,i<n->ys[i]? = some (.int k (g i))) (d:Nat) (w:World) :
 (Op.equalIn (d+2) t (.agg xs) (.agg ys)).run P w=.ok (decide (∀ i,i<n->f i=g i)) w:=by
 have hsz:∀ w,(sizeOf e).run P w=.ok 1 w:=by
  intro w
  cases hq:P.info? e with
  | none=>simp [hq] at hs
  | some i=>simp [hq] at hs;simp [sizeOf,typeInfo,hq,hs]
 rw [Op.equalIn]
 simp only [Sem.run_bind,run_underlying ht,Result.andThen_ok,hsz,Nat.mul_one]
 have key:∀ (m s:Nat),s+m=n->∀ w (b:Bool),(b=true↔∀ i,s<=i->i<n->f i=g i)->(forIn (m:=Sem) (List.range' s m) ((none:Option Bool),()) (fun i _=>do
  let a <- part e xs i
  let b <- part e ys i
  let r <- Op.equalIn (d+1) e a b
  if (!r)=true then pure (ForInStep.done (some false,())) else pure (ForInStep.yield (none,())))).run P w =
   .ok (if b then (none,()) else (some false,())) w:=by
  intro m
  induction m with
  | zero =>
    intro s hs w b hb
    rw [if_pos (hb.2 (fun i h1 h2=>by omega))]
    simp
  | succ m ih =>
    intro s hs w b hb
    rw [List.range'_succ,List.forIn_cons]
    simp only [Sem.run_bind,rG he xs s _ (hx s om),rG he ys s _ (hy s om),Result.andThen_ok,run_equalIn_int d he]
    by_cases h:f s=g s
    ·rw [h]
     simp only [beq_self_eq_true,Bool.not_true,Bool.false_eq_true,if_false,Sem.run_pure,Result.andThen_ok]
     refine ih (s+1) om w b (hb.trans ⟨fun q i h1 h2=>q i om h2,fun q i h1 h2=>?_⟩)
     by_cases e:i=s
     ·rw [e];exact h
     ·exact q i om h2
    ·have hf : (f s == g s) = false := by simpa using h
     have hb':b=false:=by
      cases b with
      | false=>rfl
      | true=>exact absurd (hb.1 rfl s om om) h
     rw [hf,hb']
     simp
 simp only [Std.Legacy.Range.forIn_eq_forIn_range',Std.Legacy.Range.size]
 have h0:=key n 0 om w (decide (∀ i,i<n->f i=g i)) (by simp)
 simp only [Nat.sub_zero,Nat.add_one_sub_one,Nat.div_one]
 rw [h0]
 by_cases hall:∀ i,i<n->f i=g i
 ·rw [decide_eq_true hall];simp
 ·rw [decide_eq_false hall];simp
theorem run_eql_ints {P:Program} {t e:TypeId} {n:Nat} {k:IntKind} (ht:P.underlying t=some (.array n e)) (he:P.underlying e=some (.int k)) (hs:(P.info? e).map (·.size)=some 1)
 (f g:Nat->Int) (xs ys:Array Value) (hx:∀ i,i<n->xs[i]? = some (.int k (f i))) (hy:∀ i,i<n->ys[i]? = some (.int k (g i))) (w:World) :
 (binOp .eql t (.agg xs) (.agg ys)).run P w=.ok (.bool (decide (∀ i,i<n->f i=g i))) w:=by
 simp only [binOp]
 simp [Op.equal,Op.maxDepth,run_equal_ints ht he hs f g xs ys hx hy 9998 w]
theorem kW (i:Nat):wd 0 i=0:=by unfold wd;simp
theorem wd_inj {A B:Nat} (hA:A<M) (hB:B<M):(∀ i,i<4->wd A i=wd B i)↔A=B:=by
 refine ⟨fun h=>?_,fun h=>by subst h;intros;rfl⟩
 have ea:=lX A hA;have eb:=lX B hB
 rw [h 0 om,h 1 om,h 2 om,h 3 om] at ea
 omega
abbrev cU (A:Nat):Array Value:= #[.int .u64 (wd A 0),.int .u64 (wd A 1),.int .u64 (wd A 2),.int .u64 (wd A 3)]
theorem oJ (A i:Nat) (h:i<4):(cU A)[i]? = some (.int .u64 (wd A i)):=by
 rcases (by omega:i=0\/i=1\/i=2\/i=3) with rfl | rfl | rfl | rfl<;>rfl
theorem eqlU (A B:Nat) (hA:A<M) (hB:B<M) (w:World):(binOp .eql 31 (U A) (U B)).run prog w=.ok (.bool (decide (A=B))) w:=by
 rw [run_eql_ints (n:=4) (e:=29) underlying31 underlying29 (by kernel_rfl) (wd A) (wd B) _ _ (oJ A) (oJ B) w]
 rw [decide_eq_decide.2 (wd_inj hA hB)]
theorem U0_eq:Value.agg #[.int .u64 0,.int .u64 0,.int .u64 0,.int .u64 0]=U 0:=by
 show _=Value.agg #[.int .u64 (wd 0 0),.int .u64 (wd 0 1),.int .u64 (wd 0 2),.int .u64 (wd 0 3)]
 rw [kW,kW,kW,kW]
theorem M_pos:0<M:=by rw [lW];decide
theorem eqlU0 (A:Nat) (hA:A<M) (w:World):(binOp .eql 31 (U A) (.agg #[.int .u64 0,.int .u64 0,.int .u64 0,.int .u64 0])).run prog w=.ok (.bool (decide (A=0))) w:=by
 rw [U0_eq];exact eqlU A 0 hA M_pos w
theorem mt_facts {R:Act->World->Prop} {n:Nat} {l:List (Nat × Value)} {w0:Base} {h:List (Nat × Obj)} {F:World->Prop} (G:World->Prop) (hp:∀ w,F w->G w) (hk:fV R n l w0 h G):fV R n l w0 h F :=
 fun A w hf hs=>hk A w hf (hs.weaken hp)
theorem cell_blk {w:World} {g:Nat} {C:Array Value} {T:TypeId} {fr:Nat × Nat} (h:w.heap[g]? = some (.cells C T fr)) (j:Nat):w.cell? ⟨g,j,none⟩=C[j]? := cell_of_row w g j C _ _ h
def Kb (w:World) (g:Nat) (C:Array Value):Prop:=∀ i v,C[i]? = some v->w.cell? ⟨g,i,none⟩=some v
theorem Kb.of_block {w:World} {g:Nat} {C:Array Value} {T:TypeId} {fr:Nat × Nat} (h:w.heap[g]? = some (.cells C T fr)):Kb w g C:=fun i _ hv=>(cell_blk h i).trans hv
theorem xW {w:World} {g i:Nat} {v:Value} (h:w.cell? ⟨g,i,none⟩=some v):g<w.heap.size:=by
 by_cases hl:g<w.heap.size
 ·exact hl
 ·have hn : w.heap[g]? = none := Array.getElem?_eq_none om
  unfold World.cell? at h
  simp [hn] at h
theorem Kb.pers0 {w:World} {g:Nat} {C:Array Value} (h:Kb w g C):iI (fun _=>False) (fun w=>Kb w g C) w:=by
 by_cases hz:∃ (i:Nat) (v:Value),C[i]? = some v
 ·obtain ⟨i, v, hv⟩ := hz
  exact ⟨fun b=>b=g,fun b hb=>⟨by rw [hb];exact xW (h i v hv),id⟩,fun w' hw i v hv=>(cell_congr (a:=⟨g,i,none⟩) (hw g rfl)).trans (h i v hv)⟩
 ·exact ⟨fun _=>False,fun b hb=>hb.elim,fun w' _ i v hv=>absurd ⟨i,v,hv⟩ hz⟩
section
variable {P:Program} {t e:TypeId}
theorem ld_blk {w:World} {g off:Nat} {C:Array Value} {v:Value} (ha:∀ w,(isAgg e).run P w=.ok false w) (h:Kb w g C) (hv:C[off]? = some v) :
 (do pure (Next.value (<- Instr.loadAt e (.pointer (some ⟨g,off,none⟩)))):Sem Next).run P w=.ok (.value v) w:=by
 have hp:w.cell? ⟨g,off,none⟩=some v:=h off v hv
 simp only [Instr.loadAt,Instr.sureAddr,loadVar,Sem.run_bind,Sem.run_pure,Result.andThen_ok,ha,Bool.false_eq_true,if_false,load,Sem.run,hp]
theorem ld_blkA {w:World} {g off n:Nat} {C:Array Value} {vs:List Value} (ha:∀ w,(isAgg e).run P w=.ok true w) (hs:∀ w,(sizeOf e).run P w=.ok n w) (h:Kb w g C) (hn:vs.length=n) (hv:∀ j,j<n->C[off+j]? = vs[j]?) :
 (do pure (Next.value (<- Instr.loadAt e (.pointer (some ⟨g,off,none⟩)))):Sem Next).run P w=.ok (.value (.agg vs.toArray)) w:=by
 have hl:=run_loadCells_list (P:=P) w ⟨g,off,none⟩ vs (fun j v hj=>by
  rw [Addr.add_lit]
  have hj':j<n:=by rw [<- hn];exact (List.getElem?_eq_some_iff.1 hj).1
  exact h _ _ ((hv j hj').trans hj))
 rw [hn] at hl
 simp only [Instr.loadAt,Instr.sureAddr,loadVar,Sem.run_bind,Sem.run_pure,Result.andThen_ok,ha,if_true,hs,hl]
theorem sW {w:World} {g n:Nat} {C:Array Value} {T:TypeId} {fr:Nat × Nat} (ha:∀ w,(isAgg e).run P w=.ok true w) (hs:∀ w,(sizeOf e).run P w=.ok n w) (h:w.heap[g]? = some (.cells C T fr)) (hn:C.size=n) :
 (do pure (Next.value (<- Instr.loadAt e (.pointer (some ⟨g,0,none⟩)))):Sem Next).run P w=.ok (.value (.agg C)) w:=by
 have h1:=ld_blkA (vs:=C.toList) ha hs (Kb.of_block h) (by rw [Array.length_toList];exact hn) (fun j _=>by rw [Nat.zero_add];simp)
 rw [Array.toArray_toList] at h1
 exact h1
theorem arr_bytes {n:Nat} {el:TypeId} (hu:P.underlying t=some (.array n el)) {w:World} {a:OA} {c m:Nat} (hm:n<=m) :
 (do pure (Next.value (<- Instr.arrayAt t (.slice a m c))):Sem Next).run P w=.ok (.value (.pointer a)) w:=by
 simp only [Instr.arrayAt,Sem.run_bind,run_underlying hu,Result.andThen_ok,if_neg (by omega: ¬ m<n),Sem.run_pure]
theorem ld_arr {n:Nat} (ha:∀ w,(isAgg t).run P w=.ok true w) (hs:∀ w,(sizeOf t).run P w=.ok n w) {w:World} {a:OA} {c:Nat} {xs:LU} (hb:Bs w a c xs) (hn:n<=xs.length) (h0:0<n) :
 (do pure (Next.value (<- Instr.loadAt t (.pointer a))):Sem Next).run P w=.ok (.value (.agg (bs (xs.take n)).toArray)) w:=by
 rcases hb.rows with h | ⟨p,rfl,hp⟩
 ·have := congrArg List.length h
  rw [dJ] at this
  have h1:xs.length=0:=this
  omega
 ·have hl := run_loadCells_list (P := P) w p (bs (xs.take n)) (fun j v hj => by
   refine hp j v ?_
   unfold bs at hj ⊢
   rw [List.getElem?_map,List.getElem?_take] at hj
   rw [List.getElem?_map]
   split at hj
   ·exact hj
   ·exact absurd hj (by simp))
  rw [dJ,List.length_take,Nat.min_eq_left hn] at hl
  simp only [Instr.loadAt,Instr.sureAddr,loadVar,Sem.run_bind,Sem.run_pure,Result.andThen_ok,ha,if_true,hs,hl]
end
def Chain (m:Nat) (p:Nat->Prop) (i:Nat):Prop:=∀ j,i<=j->j<m->p j
theorem cN {m:Nat} {p:Nat->Prop} {i:Nat} (h:m<=i:=by exact Nat.le_of_ble_eq_true rfl):Chain m p i:=fun _ h1 h2=>absurd h2 om
theorem cX {m:Nat} {p:Nat->Prop} {i:Nat} (h:p i) (t:Chain m p (i+1)):Chain m p i:=fun j h1 h2=>by
 by_cases e:j=i
 ·rw [e];exact h
 ·exact t j om h2
def mv (f:(Nat->bC)->List Value) (ρ:Nat->bC) (i:Nat):Value:=(f ρ).getD i undef
def me (f:(Nat->bC)->List (Nat × Eff)) (ρ:Nat->bC) (i:Nat):Eff:=((f ρ).lookup i).getD {}
def mf (f:(Nat->bC)->List (Nat × (World->Prop))) (ρ:Nat->bC) (i:Nat):World->Prop:=((f ρ).lookup i).getD (fun _=>True)
def vget:List Value->Nat->Value
 | [],_=>undef
 | v::_,0=>v
 | _::r,i+1=>vget r i
theorem vget_eq:∀ (l:List Value) (i:Nat),vget l i=l.getD i undef
 | [],_=>by simp [vget]
 | _::_,0=>by simp [vget]
 | _::r,i+1=>by simpa [vget] using vget_eq r i
def xget {α : Type} (d : α) : List (Nat × α) -> Nat -> α
 | [],_=>d
 | (k, v) :: r, i => match i == k with
   | true=>v
   | false=>xget d r i
theorem xget_eq {α:Type} (d:α):∀ (l:List (Nat × α)) (i:Nat),xget d l i=(l.lookup i).getD d
 | [],_=>rfl
 | (k, v) :: r, i => by
   unfold xget
   rw [List.lookup_cons]
   cases i==k
   ·exact xget_eq d r i
   ·rfl
def qI (f:(Nat->bC)->List Value) (g:(Nat->bC)->List (Nat × Eff)) (k:(Nat->bC)->List (Nat × (World->Prop))) (ρ:Nat->bC):Nat->List (Value × Eff × (World->Prop))
 | 0=>[]
 | i+1=>(mv f ρ i,me g ρ i,mf k ρ i)::qI f g k ρ i
def qQ (D:List Nat) (f:(Nat->bC)->List Value) (g:(Nat->bC)->List (Nat × Eff)) (k:(Nat->bC)->List (Nat × (World->Prop))) (ρ:Nat->bC):Nat->List (Value × Eff × (World->Prop))
 | 0=>[]
 | i+1=>(vget (f (mask D i ρ)) i,xget {} (g (mask D i ρ)) i,xget (fun _=>True) (k (mask D i ρ)) i)::qQ D f g k ρ i
theorem loc_get {D:List Nat} {f:(Nat->bC)->List Value} {g:(Nat->bC)->List (Nat × Eff)} {k:(Nat->bC)->List (Nat × (World->Prop))} {ρ:Nat->bC}:∀ {m:Nat},qI f g k ρ m=qQ D f g k ρ m->∀ i,i<m->mv f ρ i=mv f (mask D i ρ) i/\me g ρ i=me g (mask D i ρ) i/\mf k ρ i=mf k (mask D i ρ) i
 | 0,_,i,hi=>by omega
 | m + 1, h, i, hi => by
   unfold qI qQ at h
   obtain ⟨h1,h2⟩:=List.cons.inj h
   rcases (by omega:i=m\/i<m) with e | e
   ·subst e
    simp only [Prod.mk.injEq,vget_eq,xget_eq] at h1
    exact h1
   ·exact loc_get h2 i e
theorem uN {D:List Nat} {f:(Nat->bC)->List Value} {g:(Nat->bC)->List (Nat × Eff)} {k:(Nat->bC)->List (Nat × (World->Prop))} {m:Nat} (h:∀ ρ,qI f g k ρ m=qQ D f g k ρ m) (i:Nat) (hi:i<m):Loc D (mv f) (me g) (mf k) i:=by
 intro ρ ρ' hh
 have e:=mask_congr hh
 obtain ⟨a1,a2,a3⟩:=loc_get (h ρ) i hi
 obtain ⟨b1,b2,b3⟩:=loc_get (h ρ') i hi
 rw [a1,a2,a3,b1,b2,b3,e]
 exact ⟨rfl,rfl,rfl⟩
def dsq (m:Nat):List Nat:=(List.range m).map fun i=>2^i-1
def oP {α:Type}:List Nat->List α->List α
 | [],l=>l
 | _,[]=>[]
 | 0::s,_::l=>oP s l
 | _::s,x::l=>x::oP s l
theorem mV {α:Type}:∀ (s:List Nat) (l:List α),List.Sublist (oP s l) l
 | [],l=>List.Sublist.refl l
 | _::_,[]=>by simp [oP]
 | 0::s,x::l=>(mV s l).cons x
 | (_+1)::s,x::l=>(mV s l).cons_cons x
section
variable {P:Program} {ops:Array Oper} {D:List Nat} {l:List (Nat × Value)} {w0:Base} {h:List (Nat × Obj)} {F0:World→Prop}
variable {vals:(Nat→bC)→Nat→Value} {effs:(Nat→bC)→Nat→Eff} {fact:(Nat→bC)→Nat→World→Prop}
def rcE (P : Program) (ops : Array Oper) (D : List Nat) (l : List (Nat × Value)) (h : List (Nat × Obj)) (V : Nat -> Value) (E : Nat -> Eff) (E' : Eff) (i : Nat) (ns z : List Nat) : Option (Value × List (Nat × Obj) × List (Nat × Nat) × Eff) :=
 if (ops[i]?).isSome&&eH ops D h E i ns&&wS ns E' then
  if fJ V (opAt ops i) then (kK P (execOp (bI ops D l V i) (opAt ops i)) [] (known ops D h E i ns) z).bind fun r=>(vW r.1).map fun v=>(v,r.2.1,r.2.2,E')
  else some (undef,known ops D h E i ns,[],{})
 else none
def rcL (r:Option (Value × List (Nat × Obj) × List (Nat × Nat) × Eff)):Option (Value × List (Nat × Obj) × List Nat × List Nat × Eff):=r.map fun r=>(r.1,r.2.1,r.2.2.1.map (·.1),r.2.2.1.map (·.2),r.2.2.2)
def rcR (r:Option (Value × List (Nat × Obj) × List (Nat × Nat) × Eff)) (v:Value) (K:List (Nat × Obj)) (E':Eff):Option (Value × List (Nat × Obj) × List Nat × List Nat × Eff):=some (v,K,((r.map (·.2.2.1)).getD []).map (·.1),((r.map (·.2.2.1)).getD []).map (·.1),E')
theorem eqs_of:∀ {es:List (Nat × Nat)},es.map (·.2)=es.map (·.1)->Eqs es
 | [],_=>trivial
 | e :: es, h => by
   simp only [List.map_cons,List.cons.injEq] at h
   exact ⟨h.1.symm,eqs_of h.2⟩
theorem run_obl {i : Nat} (ns : List Nat)
 (hc:∀ ρ z,rcL (rcE P ops D l h (vals ρ) (effs ρ) (effs (upd ρ i { n:=z}) i) i ns z)=rcR (rcE P ops D l h (vals ρ) (effs ρ) (effs (upd ρ i { n:=z}) i) i ns z) (vals (upd ρ i { n:=z}) i) (qX ns (known ops D h (effs ρ) i ns) (effs (upd ρ i { n:=z}) i)) (effs (upd ρ i { n:=z}) i))
 (hf:∀ ρ w,fact ρ i w):fZ P ops D l w0 h F0 vals effs fact i:=by
 intro o ho ρ T w hG
 have key : ∀ z, ((ops[i]?).isSome = true /\ eH ops D h (effs ρ) i ns = true /\ wS ns (effs (upd ρ i { n := z }) i) = true) /\
  ((fJ (vals ρ) (opAt ops i)=true/\∃ x es,vW x=some (vals (upd ρ i { n:=z}) i)/\Eqs es/\kK P (execOp (bI ops D l (vals ρ) i) (opAt ops i)) [] (known ops D h (effs ρ) i ns) z=some (x,qX ns (known ops D h (effs ρ) i ns) (effs (upd ρ i { n:=z}) i),es)) \/
   (fJ (vals ρ) (opAt ops i)=false/\vals (upd ρ i { n:=z}) i=undef/\effs (upd ρ i { n:=z}) i={})):=by
  intro z
  have h1:=hc ρ z
  unfold rcL rcR at h1
  rw [Option.map_eq_some_iff] at h1
  obtain ⟨⟨v,K,es,E'⟩,h2,h3⟩:=h1
  rw [h2] at h3
  simp only [Option.map_some,Option.getD_some,Prod.mk.injEq] at h3
  obtain ⟨hv,hK,_,hes,hE⟩:=h3
  unfold rcE at h2
  split at h2
  ·rename_i hb
   simp only [Bool.and_eq_true] at hb
   refine ⟨⟨hb.1.1,hb.1.2,hb.2⟩,?_⟩
   split at h2
   ·rename_i hw
    left
    refine ⟨hw,?_⟩
    rw [Option.bind_eq_some_iff] at h2
    obtain ⟨⟨x,K1,es1⟩,g1,g2⟩:=h2
    rw [Option.map_eq_some_iff] at g2
    obtain ⟨v1,g2,g3⟩:=g2
    simp only [Prod.mk.injEq] at g3
    obtain ⟨rfl,rfl,rfl,_⟩:=g3
    rw [hv] at g2
    rw [hK] at g1
    exact ⟨x,es1,g2,eqs_of hes,g1⟩
   ·rename_i hw
    right
    simp only [Option.some.injEq,Prod.mk.injEq] at h2
    refine ⟨by simpa using hw,?_,?_⟩
    ·rw [<- hv];exact h2.1.symm
    ·rw [<- hE];exact h2.2.2.2.symm
  ·exact absurd h2 (by simp)
 have hoe:=fM (key []).1.1
 rw [ho] at hoe
 obtain rfl:o=opAt ops i:=by simpa using hoe
 rcases (key []).2 with hk | hk
 ·have hw := hk.1
  have kz:∀ z,∃ x es,vW x=some (vals (upd ρ i { n:=z}) i)/\Eqs es/\kK P (execOp (bI ops D l (vals ρ) i) (opAt ops i)) [] (known ops D h (effs ρ) i ns) z=some (x,qX ns (known ops D h (effs ρ) i ns) (effs (upd ρ i { n:=z}) i),es):=by
   intro z
   rcases (key z).2 with k | k
   ·exact k.2
   ·rw [hw] at k;exact absurd k.1 (by simp)
  exact obl_run_at ho ns [] ρ (fun z=>(kz z).choose_spec.choose) (fun z=>(kz z).choose) hw (key []).1.2.1 (fun z=>(kz z).choose_spec.choose_spec.2.2) (fun z=>(kz z).choose_spec.choose_spec.1) (fun z=>(key z).1.2.2) (fun z=>(kz z).choose_spec.choose_spec.2.1) (fun z w=>hf _ w) T w hG
 ·obtain ⟨hw, hv, he⟩ := hk
  rw [if_neg (by rw [hw];simp)]
  refine ⟨{ n:=[]},hv.symm,?_,?_,?_,?_,gZ (hf _)⟩
  ·exact Upd.refl _ _
  ·rw [he];intro n q hm;simp at hm
  ·rw [he];intro k b q hk;simp at hk
  ·rw [he];simp
def chkL (P:Program) (ops:Array Oper) (D:List Nat) (l:List (Nat × Value)) (h:List (Nat × Obj)) (vals:(Nat->bC)->Nat->Value) (effs:(Nat->bC)->Nat->Eff) (ρ:Nat->bC) (z:List Nat):Nat->List (List Nat)->List (Option (Value × List (Nat × Obj) × List Nat × List Nat × Eff))
 | _,[]=>[]
 | i,ns::r=>rcL (rcE P ops D l h (vals ρ) (effs ρ) (effs (upd ρ i { n:=z}) i) i ns z)::chkL P ops D l h vals effs ρ z (i+1) r
def chkR (P:Program) (ops:Array Oper) (D:List Nat) (l:List (Nat × Value)) (h:List (Nat × Obj)) (vals:(Nat->bC)->Nat->Value) (effs:(Nat->bC)->Nat->Eff) (ρ:Nat->bC) (z:List Nat):Nat->List (List Nat)->List (Option (Value × List (Nat × Obj) × List Nat × List Nat × Eff))
 | _,[]=>[]
 | i,ns::r=>rcR (rcE P ops D l h (vals ρ) (effs ρ) (effs (upd ρ i { n:=z}) i) i ns z) (vals (upd ρ i { n:=z}) i) (qX ns (known ops D h (effs ρ) i ns) (effs (upd ρ i { n:=z}) i)) (effs (upd ρ i { n:=z}) i)::chkR P ops D l h vals effs ρ z (i+1) r
def factL (fact:(Nat->bC)->Nat->World->Prop) (ρ:Nat->bC):Nat->Nat->List (World->Prop)
 | _,0=>[]
 | i,k+1=>fact ρ i::factL fact ρ (i+1) k
def trueL:Nat->List (World->Prop)
 | 0=>[]
 | k+1=>(fun _=>True)::trueL k
theorem cR {m i:Nat} (nss:List (List Nat)) (t:Chain m (fZ P ops D l w0 h F0 vals effs fact) (i+nss.length))
 (hc:∀ ρ z,chkL P ops D l h vals effs ρ z i nss=chkR P ops D l h vals effs ρ z i nss:=by intros;kernel_rfl)
 (hf:∀ ρ,factL fact ρ i nss.length=trueL nss.length:=by intros;kernel_rfl):Chain m (fZ P ops D l w0 h F0 vals effs fact) i:=by
 induction nss generalizing i with
 | nil=>exact t
 | cons ns r ih =>
   have hc1:∀ ρ z,_:=fun ρ z=>List.cons.inj (hc ρ z)
   have hf1:∀ ρ,_:=fun ρ=>List.cons.inj (hf ρ)
   refine cX (run_obl ns (fun ρ z=>(hc1 ρ z).1) (fun ρ w=>by rw [(hf1 ρ).1];trivial)) (ih ?_ (fun ρ z=>(hc1 ρ z).2) (fun ρ=>(hf1 ρ).2))
   rw [List.length_cons] at t
   rw [show i+1+r.length=i+(r.length+1) by omega]
   exact t
theorem cY {m i:Nat} (hO:fZ P ops D l w0 h F0 vals effs (fun _ _ _=>True) i) (t:Chain m (fZ P ops D l w0 h F0 vals effs fact) (i+1)) (hF:∀ ρ,fact ρ i=fun _=>True:=by intros;kernel_rfl):Chain m (fZ P ops D l w0 h F0 vals effs fact) i :=
 cX (hO.brings (fun ρ w=>by rw [hF ρ];trivial)) t
theorem cC {m i:Nat} {f:FuncId} {args:(Nat->bC)->Array Value} {v:(Nat->bC)->Value} (hf:∀ ρ w,Calls P f (args ρ) w (fun e w'=>e=.returned (v ρ)/\Below w.heap.size w w')) (t:Chain m (fZ P ops D l w0 h F0 vals effs fact) (i+1))
 (hc:∀ ρ z,iO P ops D l (vals ρ) (vals (upd ρ i {}) i) (effs (upd ρ i {}) i) i z=some (.enter f (args ρ),[],[],v ρ,{}):=by intros;kernel_rfl) (hF:∀ ρ,fact ρ i=fun _=>True:=by intros;kernel_rfl):Chain m (fZ P ops D l w0 h F0 vals effs fact) i:=cY (o_call i f args v hc hf) t hF
theorem cA {m i:Nat} {v:(Nat->bC)->Value} (v':(Nat->bC)->Value) (he:∀ ρ,v ρ=v' ρ) (t:Chain m (fZ P ops D l w0 h F0 vals effs fact) (i+1))
 (hc:∀ ρ z,iO P ops D l (vals ρ) (vals (upd ρ i {}) i) (effs (upd ρ i {}) i) i z=some (.value (v ρ),[],[],v' ρ,{}):=by intros;kernel_rfl) (hF:∀ ρ,fact ρ i=fun _=>True:=by intros;kernel_rfl):Chain m (fZ P ops D l w0 h F0 vals effs fact) i:=cY (o_as i v v' hc he) t hF
theorem cB {m i:Nat} {a b v:(Nat->bC)->Value} (op:BinOp) (ty:TypeId)
 (hf:∀ ρ w,(binOp op ty (a ρ) (b ρ)).run P w=.ok (v ρ) w) (t:Chain m (fZ P ops D l w0 h F0 vals effs fact) (i+1))
 (hc:∀ ρ,binChk ops D l (vals ρ) (vals (upd ρ i {}) i) (effs (upd ρ i {}) i) i=some (op,ty,a ρ,b ρ,v ρ,{}):=by intros;kernel_rfl)
 (hg:∀ ρ x y w,(eqGuard op ty x y (a ρ) (b ρ)).run P w=.ok () w:=by intros;kernel_rfl) (hF:∀ ρ,fact ρ i=fun _=>True:=by intros;kernel_rfl):Chain m (fZ P ops D l w0 h F0 vals effs fact) i:=cY (o_bin i op ty a b v hc hg hf) t hF
end
section
variable {P:Program} {Q:Exit→Act→World→Prop} {n:Nat} {l:List (Nat × Value)} {w0:Base} {h:List (Nat × Obj)} {F:World→Prop}
theorem seqOk_dsq (m:Nat):DSeq m (dsq m)=true:=by
 unfold DSeq dsq
 rw [List.all_eq_true]
 intro i hi
 have hi':=List.mem_range.1 hi
 simp [hi']
def sqOk (ops:Array Oper) (m n:Nat) (l:List (Nat × Value)) (keep:List Nat):Bool:=ops.size==m&&tK ops n&&uQ ops (dsq m) l&&keepOk ops l keep
def drOk (ops:Array Oper) (D:List Nat) (m n:Nat) (l:List (Nat × Value)) (keep:List Nat):Bool:=ops.size==m&&drawOk ops D n l keep
theorem reg_sq {id m:Nat} {ops:Array Oper} {keep hb:List Nat} {vals:(Nat->bC)->List Value} {effs:(Nat->bC)->List (Nat × Eff)} (hloc:∀ ρ,qI vals effs (fun _=>[]) ρ m=qQ (dsq m) vals effs (fun _=>[]) ρ m) (hchk:sqOk ops m n l keep=true)
 (c:Chain m (fZ P ops (dsq m) l w0 h F (mv vals) (me effs) (fun _ _ _=>True)) 0) :
 Reg P id ops false n l w0 h F (fun ρ=>qU ops l (mv vals ρ) keep) (fun ρ=>oP hb (oO m h (me effs ρ))):=by
 unfold sqOk at hchk
 simp only [Bool.and_eq_true,beq_iff_eq] at hchk
 obtain ⟨⟨⟨hsz,c3⟩,c4⟩,c5⟩:=hchk
 subst hsz
 intro Q A w hfr hS hend
 refine qP (seqOk_dsq _) (by rw [hfr.size];exact c3) c4 (vals:=mv vals) (effs:=me effs) (fact:=fun _ _ _=>True) ?_ ?_ keep c5 (by rw [hfr.size];exact hfr) hS ?_
 ·intro j hj ρ ρ' hh
  exact ⟨(uN hloc j hj ρ ρ' hh).1,(uN hloc j hj ρ ρ' hh).2.1,rfl⟩
 ·intro i hi
  exact c i (Nat.zero_le _) hi
 ·intro ρ A' w' hA hS'
  rw [hfr.size] at hA
  exact hend ρ A' w' hA ((hS'.weaken (fun _ h=>h.1)).sub (mV _ _))
theorem reg_dr {id m:Nat} {ops:Array Oper} {D keep hb:List Nat} {vals:(Nat->bC)->List Value} {effs:(Nat->bC)->List (Nat × Eff)} (hloc:∀ ρ,qI vals effs (fun _=>[]) ρ m=qQ D vals effs (fun _=>[]) ρ m) (hm:P.follows .mixedOrders=true) (hchk:drOk ops D m n l keep=true)
 (c:Chain m (fZ P ops D l w0 h F (mv vals) (me effs) (fun _ _ _=>True)) 0) :
 Reg P id ops true n l w0 h F (fun ρ=>qU ops l (mv vals ρ) keep) (fun ρ=>oP hb (oO m h (me effs ρ))):=by
 unfold drOk drawOk at hchk
 simp only [Bool.and_eq_true,beq_iff_eq] at hchk
 obtain ⟨hsz,⟨⟨⟨c1,c2⟩,c3⟩,c4⟩,c5⟩:=hchk
 subst hsz
 intro Q A w hfr hS hend
 refine rP hm c1 c2 (by rw [hfr.size];exact c3) c4 (vals:=mv vals) (effs:=me effs) (fact:=fun _ _ _=>True) ?_ ?_ keep c5 (by rw [hfr.size];exact hfr) hS ?_
 ·intro j hj ρ ρ' hh
  exact ⟨(uN hloc j hj ρ ρ' hh).1,(uN hloc j hj ρ ρ' hh).2.1,rfl⟩
 ·intro i hi
  exact c i (Nat.zero_le _) hi
 ·intro ρ A' w' hA hS'
  rw [hfr.size] at hA
  exact hend ρ A' w' hA ((hS'.weaken (fun _ h=>h.1)).sub (mV _ _))
theorem reg_sqF {id m:Nat} {ops:Array Oper} {keep hb:List Nat} {vals:(Nat->bC)->List Value} {effs:(Nat->bC)->List (Nat × Eff)} {fact:(Nat->bC)->List (Nat × (World->Prop))} {F':(Nat->bC)->World->Prop} (hloc:∀ ρ,qI vals effs fact ρ m=qQ (dsq m) vals effs fact ρ m) (hchk:sqOk ops m n l keep=true)
 (hF:∀ ρ w,F w->(∀ i,mf fact ρ i w)->F' ρ w)
 (c:Chain m (fZ P ops (dsq m) l w0 h F (mv vals) (me effs) (mf fact)) 0) (hfm:∀ ρ,(fact ρ).all (fun x=>decide (x.1<m))=true) :
 RegF P id ops false n l w0 h F (fun ρ=>qU ops l (mv vals ρ) keep) (fun ρ=>oP hb (oO m h (me effs ρ))) F':=by
 have hnone:∀ ρ i,m<=i->mf fact ρ i=fun _=>True:=by
  intro ρ i hi
  unfold mf
  have:(fact ρ).lookup i=none:=by
   have:=hfm ρ
   rw [List.all_eq_true] at this
   rw [List.lookup_eq_none_iff]
   intro p hp
   have h1:=this p hp
   simp at h1
   simp;omega
  rw [this];rfl
 unfold sqOk at hchk
 simp only [Bool.and_eq_true,beq_iff_eq] at hchk
 obtain ⟨⟨⟨hsz,c3⟩,c4⟩,c5⟩:=hchk
 subst hsz
 intro Q A w hfr hS hend
 refine qP (seqOk_dsq _) (by rw [hfr.size];exact c3) c4 (vals:=mv vals) (effs:=me effs) (fact:=mf fact) ?_ ?_ keep c5 (by rw [hfr.size];exact hfr) hS ?_
 ·intro j hj
  exact uN hloc j hj
 ·intro i hi
  exact c i (Nat.zero_le _) hi
 ·intro ρ A' w' hA hS'
  rw [hfr.size] at hA
  refine hend ρ A' w' hA ((hS'.weaken (fun w h=>hF ρ w h.1 (fun i=>?_))).sub (mV _ _))
  by_cases hi:i<ops.size
  ·exact h.2 i hi
  ·rw [hnone ρ i om];trivial
theorem reg_drF {id m:Nat} {ops:Array Oper} {D keep hb:List Nat} {vals:(Nat->bC)->List Value} {effs:(Nat->bC)->List (Nat × Eff)} {fact:(Nat->bC)->List (Nat × (World->Prop))} {F':(Nat->bC)->World->Prop} (hloc:∀ ρ,qI vals effs fact ρ m=qQ D vals effs fact ρ m) (hm:P.follows .mixedOrders=true) (hchk:drOk ops D m n l keep=true)
 (hF:∀ ρ w,F w->(∀ i,mf fact ρ i w)->F' ρ w)
 (c:Chain m (fZ P ops D l w0 h F (mv vals) (me effs) (mf fact)) 0) (hfm:∀ ρ,(fact ρ).all (fun x=>decide (x.1<m))=true) :
 RegF P id ops true n l w0 h F (fun ρ=>qU ops l (mv vals ρ) keep) (fun ρ=>oP hb (oO m h (me effs ρ))) F':=by
 have hnone:∀ ρ i,m<=i->mf fact ρ i=fun _=>True:=by
  intro ρ i hi
  unfold mf
  have:(fact ρ).lookup i=none:=by
   have:=hfm ρ
   rw [List.all_eq_true] at this
   rw [List.lookup_eq_none_iff]
   intro p hp
   have h1:=this p hp
   simp at h1
   simp;omega
  rw [this];rfl
 unfold drOk drawOk at hchk
 simp only [Bool.and_eq_true,beq_iff_eq] at hchk
 obtain ⟨hsz,⟨⟨⟨c1,c2⟩,c3⟩,c4⟩,c5⟩:=hchk
 subst hsz
 intro Q A w hfr hS hend
 refine rP hm c1 c2 (by rw [hfr.size];exact c3) c4 (vals:=mv vals) (effs:=me effs) (fact:=mf fact) ?_ ?_ keep c5 (by rw [hfr.size];exact hfr) hS ?_
 ·intro j hj
  exact uN hloc j hj
 ·intro i hi
  exact c i (Nat.zero_le _) hi
 ·intro ρ A' w' hA hS'
  rw [hfr.size] at hA
  refine hend ρ A' w' hA ((hS'.weaken (fun w h=>hF ρ w h.1 (fun i=>?_))).sub (mV _ _))
  by_cases hi:i<ops.size
  ·exact h.2 i hi
  ·rw [hnone ρ i om];trivial
theorem sS {id:Nat} {ops:Array Oper} {y:Code} (fn:Func) (m:Nat) (keep hb:List Nat) (vals:(Nat->bC)->List Value) (effs:(Nat->bC)->List (Nat × Eff))
 (c:Chain m (fZ P (bH fn id) (dsq m) l w0 h F (mv vals) (me effs) (fun _ _ _=>True)) 0)
 (k:∀ ρ,Ok P y Q n (qU (bH fn id) l (mv vals ρ) keep) w0 (oP hb (oO m h (me effs ρ))) F)
 (hloc:∀ ρ,qI vals effs (fun _=>[]) ρ m=qQ (dsq m) vals effs (fun _=>[]) ρ m:=by intros;kernel_rfl) (e:ops=bH fn id:=by kernel_rfl) (hchk:sqOk (bH fn id) m n l keep=true:=by kernel_rfl):Ok P (.seq (.region id ops false) y) Q n l w0 h F:=ok_seq_r e (reg_sq hloc hchk c) k
theorem rS {id:Nat} {ops:Array Oper} (fn:Func) (m:Nat) (keep hb:List Nat) (vals:(Nat->bC)->List Value) (effs:(Nat->bC)->List (Nat × Eff))
 (c:Chain m (fZ P (bH fn id) (dsq m) l w0 h F (mv vals) (me effs) (fun _ _ _=>True)) 0)
 (k:∀ ρ,fV (Q .normal) n (qU (bH fn id) l (mv vals ρ) keep) w0 (oP hb (oO m h (me effs ρ))) F)
 (hloc:∀ ρ,qI vals effs (fun _=>[]) ρ m=qQ (dsq m) vals effs (fun _=>[]) ρ m:=by intros;kernel_rfl) (e:ops=bH fn id:=by kernel_rfl) (hchk:sqOk (bH fn id) m n l keep=true:=by kernel_rfl):Ok P (.region id ops false) Q n l w0 h F:=ok_r e (reg_sq hloc hchk c) k
theorem sD {id:Nat} {ops:Array Oper} {y:Code} (fn:Func) (D:List Nat) (m:Nat) (keep hb:List Nat) (vals:(Nat->bC)->List Value) (effs:(Nat->bC)->List (Nat × Eff))
 (c:Chain m (fZ P (bH fn id) D l w0 h F (mv vals) (me effs) (fun _ _ _=>True)) 0)
 (k:∀ ρ,Ok P y Q n (qU (bH fn id) l (mv vals ρ) keep) w0 (oP hb (oO m h (me effs ρ))) F)
 (hloc:∀ ρ,qI vals effs (fun _=>[]) ρ m=qQ D vals effs (fun _=>[]) ρ m:=by intros;kernel_rfl) (e:ops=bH fn id:=by kernel_rfl) (hchk:drOk (bH fn id) D m n l keep=true:=by kernel_rfl) (hm:P.follows .mixedOrders=true:=by kernel_rfl):Ok P (.seq (.region id ops true) y) Q n l w0 h F:=ok_seq_r e (reg_dr hloc hm hchk c) k
theorem rD {id:Nat} {ops:Array Oper} (fn:Func) (D:List Nat) (m:Nat) (keep hb:List Nat) (vals:(Nat->bC)->List Value) (effs:(Nat->bC)->List (Nat × Eff))
 (c:Chain m (fZ P (bH fn id) D l w0 h F (mv vals) (me effs) (fun _ _ _=>True)) 0)
 (k:∀ ρ,fV (Q .normal) n (qU (bH fn id) l (mv vals ρ) keep) w0 (oP hb (oO m h (me effs ρ))) F)
 (hloc:∀ ρ,qI vals effs (fun _=>[]) ρ m=qQ D vals effs (fun _=>[]) ρ m:=by intros;kernel_rfl) (e:ops=bH fn id:=by kernel_rfl) (hchk:drOk (bH fn id) D m n l keep=true:=by kernel_rfl) (hm:P.follows .mixedOrders=true:=by kernel_rfl):Ok P (.region id ops true) Q n l w0 h F:=ok_r e (reg_dr hloc hm hchk c) k
theorem sSf {id:Nat} {ops:Array Oper} {y:Code} (fn:Func) (m:Nat) (keep hb:List Nat) (vals:(Nat->bC)->List Value) (effs:(Nat->bC)->List (Nat × Eff)) (fact:(Nat->bC)->List (Nat × (World->Prop))) (F':(Nat->bC)->World->Prop) (p:(Nat->bC)->Prop) (hF:∀ ρ w,F w->(∀ i,mf fact ρ i w)->F' ρ w/\p ρ)
 (c:Chain m (fZ P (bH fn id) (dsq m) l w0 h F (mv vals) (me effs) (mf fact)) 0)
 (k:∀ ρ,p ρ->Ok P y Q n (qU (bH fn id) l (mv vals ρ) keep) w0 (oP hb (oO m h (me effs ρ))) (F' ρ))
 (hloc:∀ ρ,qI vals effs fact ρ m=qQ (dsq m) vals effs fact ρ m:=by intros;kernel_rfl) (e:ops=bH fn id:=by kernel_rfl) (hchk:sqOk (bH fn id) m n l keep=true:=by kernel_rfl) (hfm:∀ ρ,(fact ρ).all (fun x=>decide (x.1<m))=true:=by intros;kernel_rfl):Ok P (.seq (.region id ops false) y) Q n l w0 h F :=
 ok_seq_rf e (reg_sqF hloc hchk (F':=fun ρ w=>F' ρ w/\p ρ) hF c hfm) (fun ρ=>ok_pure (p ρ) (fun _ h=>h.2) (fun hp=>ok_facts (F' ρ) (fun _ h=>h.1) (k ρ hp)))
theorem rDf {id:Nat} {ops:Array Oper} (fn:Func) (D:List Nat) (m:Nat) (keep hb:List Nat) (vals:(Nat->bC)->List Value) (effs:(Nat->bC)->List (Nat × Eff)) (fact:(Nat->bC)->List (Nat × (World->Prop))) (F':(Nat->bC)->World->Prop) (p:(Nat->bC)->Prop) (hF:∀ ρ w,F w->(∀ i,mf fact ρ i w)->F' ρ w/\p ρ)
 (c:Chain m (fZ P (bH fn id) D l w0 h F (mv vals) (me effs) (mf fact)) 0)
 (k:∀ ρ,p ρ->fV (Q .normal) n (qU (bH fn id) l (mv vals ρ) keep) w0 (oP hb (oO m h (me effs ρ))) (F' ρ))
 (hloc:∀ ρ,qI vals effs fact ρ m=qQ D vals effs fact ρ m:=by intros;kernel_rfl) (e:ops=bH fn id:=by kernel_rfl) (hchk:drOk (bH fn id) D m n l keep=true:=by kernel_rfl) (hm:P.follows .mixedOrders=true:=by kernel_rfl) (hfm:∀ ρ,(fact ρ).all (fun x=>decide (x.1<m))=true:=by intros;kernel_rfl):Ok P (.region id ops true) Q n l w0 h F :=
 ok_rf e (reg_drF hloc hm hchk (F':=fun ρ w=>F' ρ w/\p ρ) hF c hfm) (fun ρ=>mt_pure (p ρ) (fun _ h=>h.2) (fun hp=>mt_facts (F' ρ) (fun _ h=>h.1) (k ρ hp)))
theorem mD {R:Act->World->Prop} (l':List (Nat × Value)) (h':List (Nat × Obj)) (hc:fV R n l' w0 h' F) (hl:l'.map (fun x=>l.lookup x.1)=l'.map (fun x=>some x.2):=by kernel_rfl) (hh:h=h':=by kernel_rfl):fV R n l w0 h F:=by
 subst hh;exact fun A w hf hs=>hc A w (hf.sub l' (Subl.get hl)) hs
theorem oY {t:Nat} {x y:Code} (hx:Ok P x Q n l w0 h F) (hl:l.lookup t=some (.bool true):=by kernel_rfl):Ok P (.cond (.tmp t) x y) Q n l w0 h F:=ok_yes hl hx
theorem oN {t:Nat} {x y:Code} (hy:Ok P y Q n l w0 h F) (hl:l.lookup t=some (.bool false):=by kernel_rfl):Ok P (.cond (.tmp t) x y) Q n l w0 h F:=ok_no hl hy
theorem oC {t:Nat} {x y:Code} (b:Bool) (hx:b=true->Ok P x Q n l w0 h F) (hy:b=false->Ok P y Q n l w0 h F) (hl:l.lookup t=some (.bool b):=by kernel_rfl):Ok P (.cond (.tmp t) x y) Q n l w0 h F:=ok_cond hl hx hy
theorem oL {σ:Type} {c:Code} (L:σ->List (Nat × Value)) (H:σ->List (Nat × Obj)) (m:σ->Nat) (R:σ->Prop) (s0:σ) (hR:R s0) (ks:List Nat)
 (round:∀ s,R s->Ok P c (Exit.then (Next1 n w0 F L H m R (m s)) Q) n (L s) w0 (H s) F)
 (hl:(L s0).map (fun x=>l.lookup x.1)=(L s0).map (fun x=>some x.2):=by kernel_rfl) (hh:oP ks h=H s0:=by kernel_rfl):Ok P (.loop c) Q n l w0 h F :=
 ok_loop L H m R s0 hR hl (hh ▸ mV ks h) round
theorem mN {σ:Type} {L:σ->List (Nat × Value)} {H:σ->List (Nat × Obj)} {m:σ->Nat} {R:σ->Prop} {k:Nat} (s:σ) (hm:m s<k) (hR:R s) (ks:List Nat) (hl:(L s).map (fun x=>l.lookup x.1)=(L s).map (fun x=>some x.2):=by kernel_rfl) (hh:oP ks h=H s:=by kernel_rfl) :
 fV (Exit.then (Next1 n w0 F L H m R k) Q .normal) n l w0 h F:=mt_round s hm hR hl (hh ▸ mV ks h)
def resE (P:Program) (rs:Array ResultVar) (l:List (Nat × Value)) (ps:List Nat) (h:List (Nat × Obj)):Option (Value × List (Nat × Nat)):=if wZ rs l then grd P (resL rs l) ps h else none
theorem mR {fn:Func} {R:Ending->World->Prop} {v:Value} (hR:∀ w,St w0 h F w->R (.returned v) w) (ps:List Nat:=[])
 (hg:(resE P fn.results l ps h).map (fun r=>(r.1,r.2.map (·.2)))=some (v,((resE P fn.results l ps h).map (fun r=>r.2.map (·.1))).getD []):=by kernel_rfl):fV (bodyPost P fn R .ret) n l w0 h F:=by
 rw [Option.map_eq_some_iff] at hg
 obtain ⟨⟨v',es⟩,h1,h2⟩:=hg
 rw [h1] at h2
 simp only [Option.map_some,Option.getD_some,Prod.mk.injEq] at h2
 obtain ⟨rfl,h3⟩:=h2
 unfold resE at h1
 split at h1
 ·rename_i hr
  exact meets_ret ps es hr h1 (eqs_of h3) hR
 ·exact absurd h1 (by simp)
end
section
variable {P:Program} {ops:Array Oper} {D:List Nat} {l:List (Nat × Value)} {w0:Base} {h:List (Nat × Obj)} {F0:World→Prop}
variable {vals:(Nat→bC)→Nat→Value} {effs:(Nat→bC)→Nat→Eff} {fact:(Nat→bC)→Nat→World→Prop}
theorem Given.kn {i:Nat} {ρ:Nat->bC} {T:Nat->Prop} {w:World} (hG:Given ops D w0 h F0 effs fact i ρ T w) {g:Nat} {o:Obj} (n:Nat) (hn:eH ops D h (effs ρ) i [n]=true:=by kernel_rfl) (hk:YtcgdimlbbdfdpaaGreatDoor.known ops D h (effs ρ) i [n]=[(g,o)]:=by kernel_rfl):w.heap[g]? = some o:=hG.known n hn hk
variable {i:Nat}
theorem qC {f:FuncId} {args:(Nat->bC)->Array Value} {v:(Nat->bC)->Value}
 (hf:∀ ρ T w,Given ops D w0 h F0 effs fact i ρ T w->Calls P f (args ρ) w (fun e w'=>e=.returned (v ρ)/\Below w.heap.size w w'))
 (hc:∀ ρ z,mQ P ops D l (vals ρ) i z=some (.enter f (args ρ),[],[]):=by intros;kernel_rfl)
 (hv:∀ ρ,vals (upd ρ i {}) i=v ρ:=by intros;kernel_rfl) (he:∀ ρ r,effs (upd ρ i r) i={}:=by intros;kernel_rfl) (ht:∀ ρ,fact ρ i=fun _=>True:=by intros;kernel_rfl):fZ P ops D l w0 h F0 vals effs fact i :=
 o_callP i f args v hc hv he (fun ρ w=>by rw [ht];trivial) hf
theorem qB {f:FuncId} {args:(Nat->bC)->Array Value} {v:(Nat->bC)->OA->Nat->Value} {xs:(Nat->bC)->LU}
 (hf:∀ ρ T w,Given ops D w0 h F0 effs fact i ρ T w->Calls P f (args ρ) w (fun e w'=>∃ a c,e=.returned (v ρ a c)/\Below w.heap.size w w'/\Fs w w' a c (xs ρ)))
 (hc:∀ ρ z,mQ P ops D l (vals ρ) i z=some (.enter f (args ρ),[],[]):=by intros;kernel_rfl)
 (hv:∀ ρ r,vals (upd ρ i r) i=v ρ r.a (r.n.headD 0):=by intros;kernel_rfl) (he:∀ ρ r,effs (upd ρ i r) i={}:=by intros;kernel_rfl) (ht:∀ ρ r,fact (upd ρ i r) i=(fun w=>Fs w0.w w r.a (r.n.headD 0) (xs ρ)):=by intros;kernel_rfl):fZ P ops D l w0 h F0 vals effs fact i :=
 o_callB i f args v xs hc hv he ht hf
theorem qF {s:(Nat->bC)->Sem Next} {v:(Nat->bC)->Value} (hr:∀ ρ T w,Given ops D w0 h F0 effs fact i ρ T w->(s ρ).run P w=.ok (.value (v ρ)) w)
 (hc:∀ ρ,oI ops (vals ρ) (vals (upd ρ i {}) i) (effs (upd ρ i {}) i) i=some (v ρ,{}):=by intros;kernel_rfl)
 (hx:∀ ρ,execOp (bI ops D l (vals ρ) i) (opAt ops i)=s ρ:=by intros;kernel_rfl) (ht:∀ ρ,fact ρ i=fun _=>True:=by intros;kernel_rfl):fZ P ops D l w0 h F0 vals effs fact i :=
 o_semF i s v hc hx hr (fun ρ T w _=>by rw [ht];exact persT)
theorem qS {s:(Nat->bC)->Sem Next} {v:(Nat->bC)->Value} (hr:∀ ρ w,(s ρ).run P w=.ok (.value (v ρ)) w)
 (hc:∀ ρ,oI ops (vals ρ) (vals (upd ρ i {}) i) (effs (upd ρ i {}) i) i=some (v ρ,{}):=by intros;kernel_rfl)
 (hx:∀ ρ,execOp (bI ops D l (vals ρ) i) (opAt ops i)=s ρ:=by intros;kernel_rfl):fZ P ops D l w0 h F0 vals effs (fun _ _ _=>True) i :=
 o_sem i s v hc hx hr
theorem qN {s:(Nat->bC)->Sem Next} (v:(Nat->bC)->List Nat->Value) (ob:(Nat->bC)->List Nat->Obj)
 (hr:∀ ρ T w,Given ops D w0 h F0 effs fact i ρ T w->∃ k w',(s ρ).run P w=.ok (.value (v ρ [w.heap.size,k])) w'/\Grew w w' (ob ρ [w.heap.size,k]))
 (hc:∀ ρ z,tJ ops (vals ρ) (vals (upd ρ i { n:=z}) i) (effs (upd ρ i { n:=z}) i) i=some (v ρ z,{ news:=[(z.headD 0,ob ρ z)]}):=by intros;kernel_rfl)
 (hx:∀ ρ,execOp (bI ops D l (vals ρ) i) (opAt ops i)=s ρ:=by intros;kernel_rfl) (ht:∀ ρ,fact ρ i=fun _=>True:=by intros;kernel_rfl):fZ P ops D l w0 h F0 vals effs fact i :=
 o_new1 i s v ob hc hx (fun ρ w=>by rw [ht];trivial) hr
theorem qM (n:Nat) {s:(Nat->bC)->Sem Next} {g:(Nat->bC)->Nat} {ob:(Nat->bC)->Obj} {ob':(Nat->bC)->bC->Obj} {v:(Nat->bC)->bC->Value} {p:(Nat->bC)->bC->Prop}
 (hr:∀ ρ T w,Given ops D w0 h F0 effs fact i ρ T w->w.heap[g ρ]? = some (ob ρ)->∃ r w',(s ρ).run P w=.ok (.value (v ρ r)) w'/\p ρ r/\Moved w w' (g ρ) (r.n.headD 0) (ob' ρ r))
 (hc:∀ ρ r,tJ ops (vals ρ) (vals (upd ρ i r) i) (effs (upd ρ i r) i) i=some (v ρ r,{ puts:=[(n,r.n.headD 0,ob' ρ r)]}):=by intros;kernel_rfl)
 (hn:∀ ρ,eH ops D h (effs ρ) i [n]=true:=by intros;kernel_rfl) (hk:∀ ρ,YtcgdimlbbdfdpaaGreatDoor.known ops D h (effs ρ) i [n]=[(g ρ,ob ρ)]:=by intros;kernel_rfl)
 (hx:∀ ρ,execOp (bI ops D l (vals ρ) i) (opAt ops i)=s ρ:=by intros;kernel_rfl) (ht:∀ ρ r,fact (upd ρ i r) i=(fun _=>p ρ r):=by intros;kernel_rfl):fZ P ops D l w0 h F0 vals effs fact i :=
 o_move1 i n s g ob ob' v p hc hn hk hx ht hr
end
abbrev vi (z:Int):Value:=.int .i64 z
abbrev vn (n:Nat):Value:=.int .i64 ((n:Nat):Int)
abbrev vs (g n c:Nat):Value:=.slice (some ⟨g,0,none⟩) n c
abbrev cL (C:Array Value) (T:TypeId):Obj:=.cells C T (0,0)
abbrev nw (ρ:Nat->bC) (k:Nat) (o:Obj):Eff:={ news:=[(nb ρ k,o)]}
abbrev oK (n g:Nat) (o:Obj):Eff:={ puts:=[(n,g,o)]}
theorem yT {p:Prop} [Decidable p] (h:decide p=true):p:=of_decide_eq_true h
theorem yF {p:Prop} [Decidable p] (h:decide p=false): ¬p:=of_decide_eq_false h
abbrev vu (n:Nat):Value:=.int .u32 ((n:Nat):Int)
abbrev vy (n:Nat):Value:=.int .u8 ((n:Nat):Int)
abbrev vx (n:Nat):Value:=.int .u64 ((n:Nat):Int)
abbrev jp (a i:Nat):Value:=.pointer (some ⟨a,i,none⟩)
abbrev vz:Value:=.slice none 0 0
abbrev vT:Value:=.bool true
abbrev vF:Value:=.bool false
def jZ:Nat->bC:=fun _=>{}
section
variable {P:Program} {Q:Exit→Act→World→Prop} {n:Nat} {l:List (Nat × Value)} {w0:Base} {h:List (Nat × Obj)} {F:World→Prop}
theorem trueL_c (ρ:Nat->bC):∀ i k,factL (fun _ _ _=>True) ρ i k=trueL k
 | _,0=>rfl
 | i,k+1=>congrArg (List.cons _) (trueL_c ρ (i+1) k)
theorem jM {id:Nat} {ops:Array Oper} {y:Code} (fn:Func) (m:Nat) (keep hb:List Nat) (vs:List Value) (nss:List (List Nat))
 (k:Ok P y Q n (qU (bH fn id) l (mv (fun _=>vs) jZ) keep) w0 (oP hb (oO m h (me (fun _=>[]) jZ))) F)
 (hc:∀ ρ z,chkL P (bH fn id) (dsq m) l h (mv (fun _=>vs)) (me (fun _=>[])) ρ z 0 nss=chkR P (bH fn id) (dsq m) l h (mv (fun _=>vs)) (me (fun _=>[])) ρ z 0 nss:=by intros;kernel_rfl)
 (hm:m<=nss.length:=by exact Nat.le_of_ble_eq_true rfl)
 (hloc:∀ ρ,qI (fun _=>vs) (fun _=>[]) (fun _=>[]) ρ m=qQ (dsq m) (fun _=>vs) (fun _=>[]) (fun _=>[]) ρ m:=by intros;kernel_rfl) (e:ops=bH fn id:=by kernel_rfl) (hchk:sqOk (bH fn id) m n l keep=true:=by kernel_rfl):Ok P (.seq (.region id ops false) y) Q n l w0 h F :=
 sS fn m keep hb (fun _=>vs) (fun _=>[]) (cR nss (cN (by rw [Nat.zero_add];exact hm)) hc (fun ρ=>trueL_c ρ 0 nss.length)) (fun _=>k) hloc e hchk
theorem jJ {id:Nat} {ops:Array Oper} {y:Code} (fn:Func) (m:Nat) (keep:List Nat) (vs:List Value)
 (k:Ok P y Q n (qU (bH fn id) l (mv (fun _=>vs) jZ) keep) w0 (oP [] (oO m h (me (fun _=>[]) jZ))) F)
 (hc:∀ ρ z,chkL P (bH fn id) (dsq m) l h (mv (fun _=>vs)) (me (fun _=>[])) ρ z 0 (List.replicate m [])=chkR P (bH fn id) (dsq m) l h (mv (fun _=>vs)) (me (fun _=>[])) ρ z 0 (List.replicate m []):=by intros;kernel_rfl)
 (hloc:∀ ρ,qI (fun _=>vs) (fun _=>[]) (fun _=>[]) ρ m=qQ (dsq m) (fun _=>vs) (fun _=>[]) (fun _=>[]) ρ m:=by intros;kernel_rfl) (e:ops=bH fn id:=by kernel_rfl) (hchk:sqOk (bH fn id) m n l keep=true:=by kernel_rfl):Ok P (.seq (.region id ops false) y) Q n l w0 h F :=
 jM fn m keep [] vs (List.replicate m []) k hc (Nat.le_of_eq (List.length_replicate).symm) hloc e hchk
end
theorem Calls.cW {P:Program} {l:List (Nat × Value)} {R:Ending->World->Prop} (n:Nat) (F:World->Prop) {f:FuncId} {fn:Func} {c:Code} {args:Array Value} {w:World} (hf:P.funcs[f]? = some fn) (hb:fn.body=some c) (hn:fn.ntmps=n) (hl:(args.toList.zipIdx.map fun x=>(x.2,x.1))=l)
 (hF:iI (fun _=>False) F w) (h:Ok P c (bodyPost P fn R) n l ⟨w,[]⟩ [] F) (ha:args.size<=n:=by simp):Calls P f args w R:=Calls.of_ok hf hb hn hl ha hF h
theorem kr {α:Sort _} {a b:α} (h:a=b:=by kernel_rfl):a=b:=h
theorem tV {α:Sort _} {β:α->Sort _}:∀ a,β a->True:=fun _ _=>trivial
theorem jO (b:Bool):b=true\/b=false:=Bool.eq_false_or_eq_true b
theorem lb {a b:Nat} (h:Nat.ble a b=true:=by rfl):a<=b:=Nat.le_of_ble_eq_true h
theorem oA {p q:Prop} (a:q) (h:q->p:=by omega):p:=h a
theorem jP {a b:Bool} (h:a=b):Value.bool a=Value.bool b:=congrArg Value.bool h
theorem oB {p q r:Prop} (a:q) (b:r) (h:q->r->p:=by omega):p:=h a b
abbrev jR (v:Value) (w0:World):Ending->World->Prop:=fun ε w'=>ε=.returned v/\Below w0.heap.size w0 w'
abbrev jG (w0 w':World):Prop:=Below w0.heap.size w0 w'
theorem jI {a b:Int} (h:a=b):Value.int .i64 a=Value.int .i64 b:=congrArg _ h
theorem jN {a b:Int} (h:a=b):Value.int .u32 a=Value.int .u32 b:=congrArg _ h
theorem jT {w:World}:iI (fun _=>False) (fun _=>True) w:=gZ (fun _=>trivial)
section
variable {P:Program} {ops:Array Oper} {D:List Nat} {l:List (Nat × Value)} {w0:Base} {h:List (Nat × Obj)} {F0:World→Prop}
variable {vals:(Nat→bC)→Nat→Value} {effs:(Nat→bC)→Nat→Eff} {fact:(Nat→bC)→Nat→World→Prop}
theorem Given.fn {i:Nat} {ρ:Nat->bC} {T:Nat->Prop} {w:World} (hG:Given ops D w0 h F0 effs fact i ρ T w):F0 w:=hG.facts0.now
theorem jS {i:Nat} (x:(Nat->bC)->Sem Value) (v:(Nat->bC)->Value) (hr:∀ ρ w,(do pure (Next.value (<- x ρ)):Sem Next).run P w=.ok (.value (v ρ)) w)
 (hc:∀ ρ,oI ops (vals ρ) (vals (upd ρ i {}) i) (effs (upd ρ i {}) i) i=some (v ρ,{}):=by intros;kernel_rfl) (hx:∀ ρ,execOp (bI ops D l (vals ρ) i) (opAt ops i)=(do pure (Next.value (<- x ρ))):=by intros;kernel_rfl):fZ P ops D l w0 h F0 vals effs (fun _ _ _=>True) i:=o_sem i (fun ρ=>do pure (Next.value (<- x ρ))) v hc hx hr
theorem jF {i:Nat} (x:(Nat->bC)->Sem Value) (v:(Nat->bC)->Value) (hr:∀ ρ T w,Given ops D w0 h F0 effs fact i ρ T w->(do pure (Next.value (<- x ρ)):Sem Next).run P w=.ok (.value (v ρ)) w) (hf:∀ ρ T w,Given ops D w0 h F0 effs fact i ρ T w->iI T (fact (upd ρ i {}) i) w)
 (hc:∀ ρ,oI ops (vals ρ) (vals (upd ρ i {}) i) (effs (upd ρ i {}) i) i=some (v ρ,{}):=by intros;kernel_rfl) (hx:∀ ρ,execOp (bI ops D l (vals ρ) i) (opAt ops i)=(do pure (Next.value (<- x ρ))):=by intros;kernel_rfl):fZ P ops D l w0 h F0 vals effs fact i:=o_semF i (fun ρ=>do pure (Next.value (<- x ρ))) v hc hx hr hf
theorem jE {m i:Nat} (nss:List (List Nat)) (hm:m<=i+nss.length:=by exact Nat.le_of_ble_eq_true rfl)
 (hc:∀ ρ z,chkL P ops D l h vals effs ρ z i nss=chkR P ops D l h vals effs ρ z i nss:=by intros;kernel_rfl)
 (hf:∀ ρ,factL fact ρ i nss.length=trueL nss.length:=by intros;kernel_rfl):Chain m (fZ P ops D l w0 h F0 vals effs fact) i:=cR nss (cN hm) hc hf
theorem jX {m i:Nat} (n:Nat) (hm:m<=i+(List.replicate n ([]:List Nat)).length:=by exact Nat.le_of_ble_eq_true rfl)
 (hc:∀ ρ z,chkL P ops D l h vals effs ρ z i (List.replicate n [])=chkR P ops D l h vals effs ρ z i (List.replicate n []):=by intros;kernel_rfl)
 (hf:∀ ρ,factL fact ρ i (List.replicate n ([]:List Nat)).length=trueL (List.replicate n ([]:List Nat)).length:=by intros;kernel_rfl):Chain m (fZ P ops D l w0 h F0 vals effs fact) i:=jE (List.replicate n []) hm hc hf
theorem jY {m i:Nat} (n:Nat) (t:Chain m (fZ P ops D l w0 h F0 vals effs fact) (i+(List.replicate n ([]:List Nat)).length))
 (hc:∀ ρ z,chkL P ops D l h vals effs ρ z i (List.replicate n [])=chkR P ops D l h vals effs ρ z i (List.replicate n []):=by intros;kernel_rfl)
 (hf:∀ ρ,factL fact ρ i (List.replicate n ([]:List Nat)).length=trueL (List.replicate n ([]:List Nat)).length:=by intros;kernel_rfl):Chain m (fZ P ops D l w0 h F0 vals effs fact) i:=cR (List.replicate n []) t hc hf
theorem jW {m i:Nat} (x:(Nat->bC)->Int) (y:(Nat->bC)->Nat) (he:∀ ρ,IntKind.i64.wrap (x ρ)=(y ρ:Int)) (t:Chain m (fZ P ops D l w0 h F0 vals effs fact) (i+1))
 (hc:∀ ρ z,iO P ops D l (vals ρ) (vals (upd ρ i {}) i) (effs (upd ρ i {}) i) i z=some (.value (.int .i64 (IntKind.i64.wrap (x ρ))),[],[],.int .i64 (y ρ:Int),{}):=by intros;kernel_rfl) (hF:∀ ρ,fact ρ i=fun _=>True:=by intros;kernel_rfl):Chain m (fZ P ops D l w0 h F0 vals effs fact) i :=
 cA (v:=fun ρ=>.int .i64 (IntKind.i64.wrap (x ρ))) (fun ρ=>.int .i64 (y ρ:Int)) (fun ρ=>jI (he ρ)) t hc hF
theorem jU {m i:Nat} (x:(Nat->bC)->Int) (y:(Nat->bC)->Int) (he:∀ ρ,IntKind.i64.wrap (x ρ)=y ρ) (t:Chain m (fZ P ops D l w0 h F0 vals effs fact) (i+1))
 (hc:∀ ρ z,iO P ops D l (vals ρ) (vals (upd ρ i {}) i) (effs (upd ρ i {}) i) i z=some (.value (.int .i64 (IntKind.i64.wrap (x ρ))),[],[],.int .i64 (y ρ),{}):=by intros;kernel_rfl) (hF:∀ ρ,fact ρ i=fun _=>True:=by intros;kernel_rfl):Chain m (fZ P ops D l w0 h F0 vals effs fact) i :=
 cA (v:=fun ρ=>.int .i64 (IntKind.i64.wrap (x ρ))) (fun ρ=>.int .i64 (y ρ)) (fun ρ=>jI (he ρ)) t hc hF
end
section
variable {P:Program} {ops:Array Oper} {D:List Nat} {l:List (Nat × Value)} {w0:Base} {h:List (Nat × Obj)} {F0:World→Prop}
variable {vals:(Nat→bC)→Nat→Value} {effs:(Nat→bC)→Nat→Eff} {fact:(Nat→bC)→Nat→World→Prop} {m i:Nat}
theorem kE {v:Value} (v':Value) (he:v=v') (t:Chain m (fZ P ops D l w0 h F0 vals effs fact) (i+1))
 (hc:∀ ρ z,iO P ops D l (vals ρ) (vals (upd ρ i {}) i) (effs (upd ρ i {}) i) i z=some (.value v,[],[],v',{}):=by intros;kernel_rfl) (hF:∀ ρ,fact ρ i=fun _=>True:=by intros;kernel_rfl):Chain m (fZ P ops D l w0 h F0 vals effs fact) i:=cA (v:=fun _=>v) (fun _=>v') (fun _=>he) t hc hF
theorem jWc (x:Int) (y:Nat) (he:IntKind.i64.wrap x=(y:Int)) (t:Chain m (fZ P ops D l w0 h F0 vals effs fact) (i+1))
 (hc:∀ ρ z,iO P ops D l (vals ρ) (vals (upd ρ i {}) i) (effs (upd ρ i {}) i) i z=some (.value (.int .i64 (IntKind.i64.wrap x)),[],[],.int .i64 (y:Int),{}):=by intros;kernel_rfl) (hF:∀ ρ,fact ρ i=fun _=>True:=by intros;kernel_rfl):Chain m (fZ P ops D l w0 h F0 vals effs fact) i:=jW (fun _=>x) (fun _=>y) (fun _=>he) t hc hF
theorem pM {x:Int} {y:Nat} (he:IntKind.i64.wrap x=(y:Int)) (t:Chain m (fZ P ops D l w0 h F0 vals effs fact) (i+1))
 (hc:∀ ρ z,iO P ops D l (vals ρ) (vals (upd ρ i {}) i) (effs (upd ρ i {}) i) i z=some (.value (.int .i64 (IntKind.i64.wrap x)),[],[],.int .i64 (y:Int),{}):=by intros;kernel_rfl) (hF:∀ ρ,fact ρ i=fun _=>True:=by intros;kernel_rfl):Chain m (fZ P ops D l w0 h F0 vals effs fact) i:=jWc x y he t hc hF
theorem jUc (x y:Int) (he:IntKind.i64.wrap x=y) (t:Chain m (fZ P ops D l w0 h F0 vals effs fact) (i+1))
 (hc:∀ ρ z,iO P ops D l (vals ρ) (vals (upd ρ i {}) i) (effs (upd ρ i {}) i) i z=some (.value (.int .i64 (IntKind.i64.wrap x)),[],[],.int .i64 y,{}):=by intros;kernel_rfl) (hF:∀ ρ,fact ρ i=fun _=>True:=by intros;kernel_rfl):Chain m (fZ P ops D l w0 h F0 vals effs fact) i:=jU (fun _=>x) (fun _=>y) (fun _=>he) t hc hF
theorem jUi (x:Int) (he: -9223372036854775808<=x/\x<9223372036854775808) (t:Chain m (fZ P ops D l w0 h F0 vals effs fact) (i+1))
 (hc:∀ ρ z,iO P ops D l (vals ρ) (vals (upd ρ i {}) i) (effs (upd ρ i {}) i) i z=some (.value (.int .i64 (IntKind.i64.wrap x)),[],[],.int .i64 x,{}):=by intros;kernel_rfl) (hF:∀ ρ,fact ρ i=fun _=>True:=by intros;kernel_rfl):Chain m (fZ P ops D l w0 h F0 vals effs fact) i:=jUc x x (IntWalk.i64_in _ om) t hc hF
theorem cCc {f:FuncId} {args:Array Value} {v:Value} (hf:∀ w,Calls P f args w (fun e w'=>e=.returned v/\Below w.heap.size w w')) (t:Chain m (fZ P ops D l w0 h F0 vals effs fact) (i+1))
 (hc:∀ ρ z,iO P ops D l (vals ρ) (vals (upd ρ i {}) i) (effs (upd ρ i {}) i) i z=some (.enter f args,[],[],v,{}):=by intros;kernel_rfl) (hF:∀ ρ,fact ρ i=fun _=>True:=by intros;kernel_rfl):Chain m (fZ P ops D l w0 h F0 vals effs fact) i:=cC (args:=fun _=>args) (v:=fun _=>v) (fun _=>hf) t hc hF
theorem oW (x:Sem Value) (v:Value) (hr:∀ w,(do pure (Next.value (<- x)):Sem Next).run P w=.ok (.value v) w) (t:Chain m (fZ P ops D l w0 h F0 vals effs (fun _ _ _=>True)) (i+1))
 (hc:∀ ρ,oI ops (vals ρ) (vals (upd ρ i {}) i) (effs (upd ρ i {}) i) i=some (v,{}):=by intros;kernel_rfl) (hx:∀ ρ,execOp (bI ops D l (vals ρ) i) (opAt ops i)=(do pure (Next.value (<- x))):=by intros;kernel_rfl):Chain m (fZ P ops D l w0 h F0 vals effs (fun _ _ _=>True)) i:=cX (jS (fun _=>x) (fun _=>v) (fun _=>hr) hc hx) t
theorem qSc {s:Sem Next} {v:Value} (hr:∀ w,s.run P w=.ok (.value v) w) (t:Chain m (fZ P ops D l w0 h F0 vals effs (fun _ _ _=>True)) (i+1))
 (hc:∀ ρ,oI ops (vals ρ) (vals (upd ρ i {}) i) (effs (upd ρ i {}) i) i=some (v,{}):=by intros;kernel_rfl)
 (hx:∀ ρ,execOp (bI ops D l (vals ρ) i) (opAt ops i)=s:=by intros;kernel_rfl):Chain m (fZ P ops D l w0 h F0 vals effs (fun _ _ _=>True)) i:=cX (qS (s:=fun _=>s) (v:=fun _=>v) (fun _=>hr) hc hx) t
theorem qFc {s:(Nat->bC)->Sem Next} {v:(Nat->bC)->Value} (hr:∀ {ρ T w},Given ops D w0 h F0 effs fact i ρ T w->(s ρ).run P w=.ok (.value (v ρ)) w) (t:Chain m (fZ P ops D l w0 h F0 vals effs fact) (i+1))
 (hc:∀ ρ,oI ops (vals ρ) (vals (upd ρ i {}) i) (effs (upd ρ i {}) i) i=some (v ρ,{}):=by intros;kernel_rfl)
 (hx:∀ ρ,execOp (bI ops D l (vals ρ) i) (opAt ops i)=s ρ:=by intros;kernel_rfl) (ht:∀ ρ,fact ρ i=fun _=>True:=by intros;kernel_rfl):Chain m (fZ P ops D l w0 h F0 vals effs fact) i:=cX (qF (fun _ _ _ hG=>hr hG) hc hx ht) t
theorem qCc {f:FuncId} {args:(Nat->bC)->Array Value} {v:(Nat->bC)->Value} (hf:∀ {ρ T w},Given ops D w0 h F0 effs fact i ρ T w->Calls P f (args ρ) w (fun e w'=>e=.returned (v ρ)/\Below w.heap.size w w')) (t:Chain m (fZ P ops D l w0 h F0 vals effs fact) (i+1))
 (hc:∀ ρ z,mQ P ops D l (vals ρ) i z=some (.enter f (args ρ),[],[]):=by intros;kernel_rfl)
 (hv:∀ ρ,vals (upd ρ i {}) i=v ρ:=by intros;kernel_rfl) (he:∀ ρ r,effs (upd ρ i r) i={}:=by intros;kernel_rfl) (ht:∀ ρ,fact ρ i=fun _=>True:=by intros;kernel_rfl):Chain m (fZ P ops D l w0 h F0 vals effs fact) i:=cX (qC (fun _ _ _ hG=>hf hG) hc hv he ht) t
theorem qBc {f:FuncId} {args:(Nat->bC)->Array Value} {v:(Nat->bC)->OA->Nat->Value} {xs:(Nat->bC)->LU} (hf:∀ {ρ T w},Given ops D w0 h F0 effs fact i ρ T w->Calls P f (args ρ) w (fun e w'=>∃ a c,e=.returned (v ρ a c)/\Below w.heap.size w w'/\Fs w w' a c (xs ρ))) (t:Chain m (fZ P ops D l w0 h F0 vals effs fact) (i+1))
 (hc:∀ ρ z,mQ P ops D l (vals ρ) i z=some (.enter f (args ρ),[],[]):=by intros;kernel_rfl)
 (hv:∀ ρ r,vals (upd ρ i r) i=v ρ r.a (r.n.headD 0):=by intros;kernel_rfl) (he:∀ ρ r,effs (upd ρ i r) i={}:=by intros;kernel_rfl) (ht:∀ ρ r,fact (upd ρ i r) i=(fun w=>Fs w0.w w r.a (r.n.headD 0) (xs ρ)):=by intros;kernel_rfl):Chain m (fZ P ops D l w0 h F0 vals effs fact) i:=cX (qB (fun _ _ _ hG=>hf hG) hc hv he ht) t
theorem lG (n:Nat) (t:TypeId) (g off:Nat) (C:Array Value) (T:TypeId) (v:Value) (ha:∀ w,(isAgg t).run P w=.ok false w) (hg:C[off]? = some v) (k:Chain m (fZ P ops D l w0 h F0 vals effs (fun _ _ _=>True)) (i+1))
 (hc:∀ ρ,ldChk ops D l h (vals ρ) (effs ρ) (vals (upd ρ i {}) i) (effs (upd ρ i {}) i) i n=some (t,.pointer (some ⟨g,off,none⟩),[(g,.cells C T (0,0))],v,{}):=by intros;kernel_rfl):Chain m (fZ P ops D l w0 h F0 vals effs (fun _ _ _=>True)) i:=cX (o_ld i n t (fun _=>g) (fun _=>off) (fun _=>C) T (0,0) (fun _=>v) hc ha (fun _=>hg)) k
theorem oStc (n:Nat) (t:TypeId) (g off:Nat) (C C':Array Value) (T:TypeId) (x:Value)
 (hs:∀ w,(sizeOf t).run P w=.ok 1 w) (hlt:off<C.size) (hC:C.setIfInBounds off x=C') (k:Chain m (fZ P ops D l w0 h F0 vals effs (fun _ _ _=>True)) (i+1))
 (hc:∀ ρ,stChk ops D l h (vals ρ) (effs ρ) (vals (upd ρ i {}) i) (effs (upd ρ i {}) i) i n=some (t,.pointer (some ⟨g,off,none⟩),x,[(g,.cells C T (0,0))],undef,{ puts:=[(n,g,.cells C' T (0,0))]}):=by intros;kernel_rfl) (hp:plainV x=true:=by rfl):Chain m (fZ P ops D l w0 h F0 vals effs (fun _ _ _=>True)) i:=cX (o_st i n t (fun _=>g) (fun _=>off) (fun _=>C) (fun _=>C') T (fun _=>x) hc hs (fun _=>hp) (fun _=>hlt) (fun _=>hC)) k
end
section
variable {P:Program} {Q:Exit→Act→World→Prop} {n:Nat} {l:List (Nat × Value)} {w0:Base} {h:List (Nat × Obj)} {F:World→Prop} {id:Nat} {ops:Array Oper} {y:Code}
theorem pO (fn:Func) (m:Nat) (keep hb:List Nat) (vs:List Value) (es:List (Nat × Eff)) (c:Chain m (fZ P (bH fn id) (dsq m) l w0 h F (mv (fun _=>vs)) (me (fun _=>es)) (fun _ _ _=>True)) 0)
 (k:Ok P y Q n (qU (bH fn id) l (mv (fun _=>vs) jZ) keep) w0 (oP hb (oO m h (me (fun _=>es) jZ))) F)
 (hloc:∀ ρ,qI (fun _=>vs) (fun _=>es) (fun _=>[]) ρ m=qQ (dsq m) (fun _=>vs) (fun _=>es) (fun _=>[]) ρ m:=by intros;kernel_rfl) (e:ops=bH fn id:=by kernel_rfl) (hchk:sqOk (bH fn id) m n l keep=true:=by kernel_rfl):Ok P (.seq (.region id ops false) y) Q n l w0 h F:=sS fn m keep hb (fun _=>vs) (fun _=>es) c (fun _=>k) hloc e hchk
theorem vY (fn:Func) (m:Nat) (keep hb:List Nat) (vs:List Value) (es:List (Nat × Eff)) (c:Chain m (fZ P (bH fn id) (dsq m) l w0 h F (mv (fun _=>vs)) (me (fun _=>es)) (fun _ _ _=>True)) 0)
 (k:fV (Q .normal) n (qU (bH fn id) l (mv (fun _=>vs) jZ) keep) w0 (oP hb (oO m h (me (fun _=>es) jZ))) F)
 (hloc:∀ ρ,qI (fun _=>vs) (fun _=>es) (fun _=>[]) ρ m=qQ (dsq m) (fun _=>vs) (fun _=>es) (fun _=>[]) ρ m:=by intros;kernel_rfl) (e:ops=bH fn id:=by kernel_rfl) (hchk:sqOk (bH fn id) m n l keep=true:=by kernel_rfl):Ok P (.region id ops false) Q n l w0 h F:=rS fn m keep hb (fun _=>vs) (fun _=>es) c (fun _=>k) hloc e hchk
theorem sDc (fn:Func) (D:List Nat) (m:Nat) (keep hb:List Nat) (vs:List Value) (es:List (Nat × Eff)) (c:Chain m (fZ P (bH fn id) D l w0 h F (mv (fun _=>vs)) (me (fun _=>es)) (fun _ _ _=>True)) 0)
 (k:Ok P y Q n (qU (bH fn id) l (mv (fun _=>vs) jZ) keep) w0 (oP hb (oO m h (me (fun _=>es) jZ))) F)
 (hloc:∀ ρ,qI (fun _=>vs) (fun _=>es) (fun _=>[]) ρ m=qQ D (fun _=>vs) (fun _=>es) (fun _=>[]) ρ m:=by intros;kernel_rfl) (e:ops=bH fn id:=by kernel_rfl) (hchk:drOk (bH fn id) D m n l keep=true:=by kernel_rfl) (hm:P.follows .mixedOrders=true:=by kernel_rfl):Ok P (.seq (.region id ops true) y) Q n l w0 h F:=sD fn D m keep hb (fun _=>vs) (fun _=>es) c (fun _=>k) hloc e hchk hm
theorem rDc (fn:Func) (D:List Nat) (m:Nat) (keep hb:List Nat) (vs:List Value) (es:List (Nat × Eff)) (c:Chain m (fZ P (bH fn id) D l w0 h F (mv (fun _=>vs)) (me (fun _=>es)) (fun _ _ _=>True)) 0)
 (k:fV (Q .normal) n (qU (bH fn id) l (mv (fun _=>vs) jZ) keep) w0 (oP hb (oO m h (me (fun _=>es) jZ))) F)
 (hloc:∀ ρ,qI (fun _=>vs) (fun _=>es) (fun _=>[]) ρ m=qQ D (fun _=>vs) (fun _=>es) (fun _=>[]) ρ m:=by intros;kernel_rfl) (e:ops=bH fn id:=by kernel_rfl) (hchk:drOk (bH fn id) D m n l keep=true:=by kernel_rfl) (hm:P.follows .mixedOrders=true:=by kernel_rfl):Ok P (.region id ops true) Q n l w0 h F:=rD fn D m keep hb (fun _=>vs) (fun _=>es) c (fun _=>k) hloc e hchk hm
end
end Go.Proofs.YtcgdimlbbdfdpaaGreatDoor
