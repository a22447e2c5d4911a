/-
  What this statement needs, part 2: the texts of it, one behind the other.
-/
import Derived.Test.YtaebcmpbbamfpaaGreatDoorBase1
import Derived.WalkKit
import Derived.ChangeKeysEq
import Derived.Laws.StructEq
set_option maxRecDepth 100000
namespace Go.Proofs.YtaebcmpbbamfpaaGreatDoor
open Go Go.RowKit
section
variable {P : Program} {ops : Array Oper} {D : List Nat} {l : List (Nat × Value)} {w0 : Base} {h : List (Nat × Obj)} {F0 : World → Prop}
variable {vals : (Nat → bH) → Nat → Value} {effs : (Nat → bH) → Nat → Eff} {fact : (Nat → bH) → Nat → World → Prop}
theorem o_callN (i:Nat) (f:FuncId) (args:(Nat→bH)→Array Value) (v:(Nat→bH)→Nat→Value) (ob:(Nat→bH)→Obj)
    (hc:∀ ρ z,eU P ops D l (vals ρ) i z=some (.enter f (args ρ),[],[]))
    (hv:∀ ρ g,vals (upd ρ i { n:=[g]}) i=v ρ g) (he:∀ ρ g,effs (upd ρ i { n:=[g]}) i={ news:=[(g,ob ρ)]}) (ht:∀ ρ w,fact ρ i w)
    (hf:∀ ρ T w,Given ops D w0 h F0 effs fact i ρ T w→Calls P f (args ρ) w (fun e w'=>∃ g,e=.returned (v ρ g)∧Below w.heap.size w w'∧w.heap.size≤g∧w'.heap[g]? = some (ob ρ))):jV P ops D l w0 h F0 vals effs fact i:=by
  have key:∀ ρ z,((ops[i]?).isSome=true∧fM (vals ρ) (opAt ops i)=true)∧kH P (execOp (dC ops D l (vals ρ) i) (opAt ops i)) [] [] z=some (.enter f (args ρ),[],[]):=by
    intro ρ z
    have h1:=hc ρ z
    unfold eU at h1
    split at h1
    · rename_i hb
      simp only [Bool.and_eq_true] at hb
      exact ⟨hb,h1⟩
    · exact absurd h1 (by simp)
  intro o ho ρ T w hG
  have hoe:=eY (key ρ []).1.1
  rw [ho] at hoe
  obtain rfl:o=opAt ops i:=by simpa using hoe
  rw [if_pos (key ρ []).1.2]
  obtain ⟨w1,h1,_,_,h4,_,_⟩:=kQ (P:=P) (execOp (dC ops D l (vals ρ) i) (opAt ops i)) [] [] w _ _ _ (by intro y hy;simp at hy) (by simp) ((key ρ _).2) trivial
  have hb:Below w.heap.size w w1:=⟨h4.os,h4.tape,h4.output,h4.size,fun k hk=>h4.block k hk (by simp)⟩
  have hheap:∀ b,b<w.heap.size→w1.heap[b]? = w.heap[b]? := fun b hb'=>hb.block b hb'
  have hG1:Given ops D w0 h F0 effs fact i ρ T w1:=by
    have tr:∀ {F:World→Prop},dL T F w→dL T F w1:=by
      rintro F ⟨S,s1,s2⟩
      refine ⟨S,fun b hb'=>⟨Nat.lt_of_lt_of_le (s1 b hb').1 hb.size,(s1 b hb').2⟩,fun w' hw=>s2 w' (fun b hb'=>?_)⟩
      rw [hw b hb',hheap b (s1 b hb').1]
    refine ⟨fun b hb'=>Nat.lt_of_lt_of_le (hG.lt b hb') hb.size,hG.below.trans (nN.of_below hb),fun n x hn hk=>?_,hG.ne,tr hG.facts0,fun j hj=>tr (hG.facts j hj)⟩
    have:=hG.block n x hn hk
    refine ⟨?_,this.2⟩
    rw [hheap _ (hG.lt _ this.2.1)]
    exact this.1
  unfold opv
  rw [h1]
  refine (hf ρ T w1 hG1).mono (fun e w2 hew=>?_)
  obtain ⟨g,rfl,hb2,hg,hgo⟩:=hew
  show After ops D h vals effs fact i ρ T w _ w2
  have he':=he ρ g
  refine ⟨{ n:=[g]},(hv ρ g).symm,nN.of_below (hb.trans (hb2.mono hb.size)),?_,?_,?_,dB (ht _)⟩
  · rw [he'];intro n q hm;simp at hm
  · rw [he']
    intro j b q hj
    have:j=0:=by
      have:=(List.getElem?_eq_some_iff.1 hj).1
      simpa using this
    subst this
    simp only [List.getElem?_cons_zero,Option.some.injEq,Prod.mk.injEq] at hj
    obtain ⟨rfl,rfl⟩:=hj
    exact ⟨Nat.le_trans hb.size hg,hgo⟩
  · rw [he'];simp
end
theorem St.newb {w0:Base} {w:World} {h:List (Nat × Obj)} {F:World→Prop} (hS:St w0 h F w) {g:Nat} {o:Obj} (hg:(g,o)∈h) (hw:g ∉ w0.ws:=by exact List.not_mem_nil):w0.w.heap.size≤g∧w.heap[g]? = some o:=⟨(hS.at_ _ hg).1.resolve_right hw,(hS.at_ _ hg).2⟩
theorem Hd.eq {C:Array Value} {xs:List UInt8} (h:Hd C xs) (hs:C.size=xs.length):C=(bs xs).toArray:=by
  apply Array.ext'
  unfold Hd at h
  rw [← hs,← Array.length_toList,List.take_length] at h
  rw [h]
theorem nD {R:Act→World→Prop} {n:Nat} {l:List (Nat × Value)} {w0:Base} {h:List (Nat × Obj)} {F:World→Prop} (G:World→Prop) (hp:∀ w,F w→G w) (hk:gJ R n l w0 h G):gJ R n l w0 h F :=
  fun A w hf hs=>hk A w hf (hs.weaken hp)
theorem cell_blk {w:World} {g:Nat} {C:Array Value} {T:TypeId} {fr:Nat × Nat} (h:w.heap[g]? = some (.cells C T fr)) (j:Nat):w.cell? ⟨g,j,none⟩=C[j]? := cell_of_row w g j C _ _ h
def Kb (w:World) (g:Nat) (C:Array Value):Prop:=∀ i v,C[i]? = some v→w.cell? ⟨g,i,none⟩=some v
theorem Kb.of_block {w:World} {g:Nat} {C:Array Value} {T:TypeId} {fr:Nat × Nat} (h:w.heap[g]? = some (.cells C T fr)):Kb w g C:=fun i _ hv=>(cell_blk h i).trans hv
theorem cell_some_lt {w:World} {g i:Nat} {v:Value} (h:w.cell? ⟨g,i,none⟩=some v):g<w.heap.size:=by
  by_cases hl:g<w.heap.size
  · exact hl
  · have hn : w.heap[g]? = none := Array.getElem?_eq_none (by omega)
    unfold World.cell? at h
    simp [hn] at h
theorem Kb.pers0 {w:World} {g:Nat} {C:Array Value} (h:Kb w g C):dL (fun _=>False) (fun w=>Kb w g C) w:=by
  by_cases hz:∃ (i:Nat) (v:Value),C[i]? = some v
  · obtain ⟨i, v, hv⟩ := hz
    exact ⟨fun b=>b=g,fun b hb=>⟨by rw [hb];exact cell_some_lt (h i v hv),id⟩,fun w' hw i v hv=>(cell_congr (a:=⟨g,i,none⟩) (hw g rfl)).trans (h i v hv)⟩
  · exact ⟨fun _=>False,fun b hb=>hb.elim,fun w' _ i v hv=>absurd ⟨i,v,hv⟩ hz⟩
section
variable {P : Program} {t e : TypeId}
theorem mY {w:World} {g off:Nat} {C:Array Value} {v:Value} (ha:∀ w,(isAgg e).run P w=.ok false w) (h:Kb w g C) (hv:C[off]? = some v) :
    (do pure (Next.value (← Instr.loadAt e (.pointer (some ⟨g,off,none⟩)))):Sem Next).run P w=.ok (.value v) w:=by
  have hp:w.cell? ⟨g,off,none⟩=some v:=h off v hv
  simp only [Instr.loadAt,Instr.sureAddr,loadVar,Sem.run_bind,Sem.run_pure,Result.andThen_ok,ha,Bool.false_eq_true,if_false,load,Sem.run,hp]
theorem ld_blkA {w:World} {g off n:Nat} {C:Array Value} {vs:List Value} (ha:∀ w,(isAgg e).run P w=.ok true w) (hs:∀ w,(sizeOf e).run P w=.ok n w) (h:Kb w g C) (hn:vs.length=n) (hv:∀ j,j<n→C[off+j]? = vs[j]?) :
    (do pure (Next.value (← Instr.loadAt e (.pointer (some ⟨g,off,none⟩)))):Sem Next).run P w=.ok (.value (.agg vs.toArray)) w:=by
  have hl:=run_loadCells_list (P:=P) w ⟨g,off,none⟩ vs (fun j v hj=>by
    rw [Addr.add_lit]
    have hj':j<n:=by rw [← hn];exact (List.getElem?_eq_some_iff.1 hj).1
    exact h _ _ ((hv j hj').trans hj))
  rw [hn] at hl
  simp only [Instr.loadAt,Instr.sureAddr,loadVar,Sem.run_bind,Sem.run_pure,Result.andThen_ok,ha,if_true,hs,hl]
theorem vS {w:World} {g n:Nat} {C:Array Value} {T:TypeId} {fr:Nat × Nat} (ha:∀ w,(isAgg e).run P w=.ok true w) (hs:∀ w,(sizeOf e).run P w=.ok n w) (h:w.heap[g]? = some (.cells C T fr)) (hn:C.size=n) :
    (do pure (Next.value (← Instr.loadAt e (.pointer (some ⟨g,0,none⟩)))):Sem Next).run P w=.ok (.value (.agg C)) w:=by
  have h1:=ld_blkA (vs:=C.toList) ha hs (Kb.of_block h) (by rw [Array.length_toList];exact hn) (fun j _=>by rw [Nat.zero_add];simp)
  rw [Array.toArray_toList] at h1
  exact h1
theorem arr_bytes {n:Nat} {el:TypeId} (hu:P.underlying t=some (.array n el)) {w:World} {a:Option Addr} {c m:Nat} (hm:n≤m) :
    (do pure (Next.value (← Instr.arrayAt t (.slice a m c))):Sem Next).run P w=.ok (.value (.pointer a)) w:=by
  simp only [Instr.arrayAt,Sem.run_bind,run_underlying hu,Result.andThen_ok,if_neg (by omega: ¬ m<n),Sem.run_pure]
theorem ld_arr {n:Nat} (ha:∀ w,(isAgg t).run P w=.ok true w) (hs:∀ w,(sizeOf t).run P w=.ok n w) {w:World} {a:Option Addr} {c:Nat} {xs:List UInt8} (hb:Bs w a c xs) (hn:n≤xs.length) (h0:0<n) :
    (do pure (Next.value (← Instr.loadAt t (.pointer a))):Sem Next).run P w=.ok (.value (.agg (bs (xs.take n)).toArray)) w:=by
  rcases hb.rows with h | ⟨p,rfl,hp⟩
  · have := congrArg List.length h
    rw [dH] at this
    have h1:xs.length=0:=this
    omega
  · have hl := run_loadCells_list (P := P) w p (bs (xs.take n)) (fun j v hj => by
      refine hp j v ?_
      unfold bs at hj ⊢
      rw [List.getElem?_map,List.getElem?_take] at hj
      rw [List.getElem?_map]
      split at hj
      · exact hj
      · exact absurd hj (by simp))
    rw [dH,List.length_take,Nat.min_eq_left hn] at hl
    simp only [Instr.loadAt,Instr.sureAddr,loadVar,Sem.run_bind,Sem.run_pure,Result.andThen_ok,ha,if_true,hs,hl]
end
section
variable {P : Program} {ops : Array Oper} {D : List Nat} {l : List (Nat × Value)} {w0 : Base} {h : List (Nat × Obj)} {F0 : World → Prop}
variable {vals : (Nat → bH) → Nat → Value} {effs : (Nat → bH) → Nat → Eff} {fact : (Nat → bH) → Nat → World → Prop}
theorem o_newF (i:Nat) (s:(Nat→bH)→Sem Next) (v:(Nat→bH)→Option Addr→Nat→Value) (xs:(Nat→bH)→List UInt8)
    (hc:∀ ρ r,rP ops (vals ρ) (vals (upd ρ i r) i) (effs (upd ρ i r) i) i=some (v ρ r.a (r.n.headD 0),{}))
    (hx:∀ ρ,execOp (dC ops D l (vals ρ) i) (opAt ops i)=s ρ) (ht:∀ ρ r,fact (upd ρ i r) i=fun w=>Fs w0.w w r.a (r.n.headD 0) (xs ρ))
    (hr:∀ ρ T w,Given ops D w0 h F0 effs fact i ρ T w→∃ a c w' o,(s ρ).run P w=.ok (.value (v ρ a c)) w'∧Grew w w' o∧Fs w w' a c (xs ρ)):jV P ops D l w0 h F0 vals effs fact i:=by
  have key:∀ ρ r,((ops[i]?).isSome=true∧fM (vals ρ) (opAt ops i)=true)∧v ρ r.a (r.n.headD 0)=vals (upd ρ i r) i∧effs (upd ρ i r) i={}:=by
    intro ρ r
    have h1:=hc ρ r
    unfold rP at h1
    split at h1
    · rename_i hb
      simp only [Bool.and_eq_true] at hb
      simp only [Option.some.injEq,Prod.mk.injEq] at h1
      exact ⟨hb,h1.1.symm,h1.2⟩
    · exact absurd h1 (by simp)
  intro o ho ρ T w hG
  have hoe:=eY (key ρ {}).1.1
  rw [ho] at hoe
  obtain rfl:o=opAt ops i:=by simpa using hoe
  rw [if_pos (key ρ {}).1.2]
  obtain ⟨a,c,w',o',hrun,hgr,hF⟩:=hr ρ T w hG
  unfold opv
  rw [hx ρ,hrun]
  have hk:=key ρ { n:=[c],a:=a}
  refine ⟨{ n:=[c],a:=a},hk.2.1,?_,?_,?_,?_,?_⟩
  · refine ⟨hgr.os, hgr.tape, hgr.output, by rw [hgr.heap]; simp, fun b hb _ => ?_⟩
    rw [hgr.heap,Array.getElem?_push,if_neg (by omega)]
  · rw [hk.2.2];intro n q hm;simp at hm
  · rw [hk.2.2];intro k b q hk';simp at hk'
  · rw [hk.2.2];simp
  · rw [ht]
    refine ((hF.pers (T:=fun b=>b<w.heap.size) (fun b hb=>hb)).mono (fun _ hx'=>hx'.older hG.below.size)).sub (fun b hbT=>?_)
    rw [hk.2.2] at hbT
    rcases hbT with hbT | hbT
    · exact hG.lt b hbT
    · simp at hbT
end
theorem bytes_str {P:Program} {ts td e:TypeId} (hs:P.underlying ts=some .string) (hd:P.underlying td=some (.slice e)) (he:P.underlying e=some (.int .u8)) (S:List UInt8) (hm:S.length≤140737488351232) (w:World) :
    ∃ a c w' o,(do pure (Next.value (← convert ts td (.string (gY S)))):Sem Next).run P w=.ok (.value (.slice a S.length c)) w'∧Grew w w' o∧Fs w w' a c S:=by
  have hrun:=run_bytes_of_string (P:=P) w ts td e (gY S) hs hd he
  have hsz:(gY S).size=S.length:=by simp [gY,ByteArray.size]
  have hge:=grownCap_ge w S.length 0 e
  rw [hsz] at hrun
  refine ⟨some ⟨w.heap.size,0,none⟩,grownCap w S.length 0 e,w.drew.alloc (.cells (bytesRow (gY S) (grownCap w S.length 0 e)) e ((bytesRow (gY S) (grownCap w S.length 0 e)).size,(bytesRow (gY S) (grownCap w S.length 0 e)).size+1)),_,?_,⟨rfl,rfl,rfl,rfl⟩,?_,?_⟩
  · rw [Sem.run_bind,hrun];rfl
  · refine Bs.of_block (g := w.heap.size) (C := bytesRow (gY S) (grownCap w S.length 0 e)) (T := e) (fr := ((bytesRow (gY S) (grownCap w S.length 0 e)).size, (bytesRow (gY S) (grownCap w S.length 0 e)).size + 1)) (show (w.heap.push _)[w.heap.size]? = _ by simp) ?_ hge hm
    simp [bytesRow,gY,bs,bv]
  · intro p hp _
    obtain rfl:(⟨w.heap.size,0,none⟩:Addr)=p:=by simpa using hp
    exact Nat.le_refl _
def Chain (m:Nat) (p:Nat→Prop) (i:Nat):Prop:=∀ j,i≤j→j<m→p j
theorem cN {m:Nat} {p:Nat→Prop} {i:Nat} (h:m≤i:=by exact Nat.le_of_ble_eq_true rfl):Chain m p i:=fun _ h1 h2=>absurd h2 (by omega)
theorem cX {m:Nat} {p:Nat→Prop} {i:Nat} (h:p i) (t:Chain m p (i+1)):Chain m p i:=fun j h1 h2=>by
  by_cases e:j=i
  · rw [e];exact h
  · exact t j (by omega) h2
def mv (f:(Nat→bH)→List Value) (ρ:Nat→bH) (i:Nat):Value:=(f ρ).getD i undef
def me (f:(Nat→bH)→List (Nat × Eff)) (ρ:Nat→bH) (i:Nat):Eff:=((f ρ).lookup i).getD {}
def mf (f:(Nat→bH)→List (Nat × (World→Prop))) (ρ:Nat→bH) (i:Nat):World→Prop:=((f ρ).lookup i).getD (fun _=>True)
def vget:List Value→Nat→Value
  | [],_=>undef
  | v::_,0=>v
  | _::r,i+1=>vget r i
theorem vget_eq:∀ (l:List Value) (i:Nat),vget l i=l.getD i undef
  | [],_=>by simp [vget]
  | _::_,0=>by simp [vget]
  | _::r,i+1=>by simpa [vget] using vget_eq r i
def xget {α : Type} (d : α) : List (Nat × α) → Nat → α
  | [],_=>d
  | (k, v) :: r, i => match i == k with
    | true=>v
    | false=>xget d r i
theorem xget_eq {α:Type} (d:α):∀ (l:List (Nat × α)) (i:Nat),xget d l i=(l.lookup i).getD d
  | [],_=>rfl
  | (k, v) :: r, i => by
    unfold xget
    rw [List.lookup_cons]
    cases i==k
    · exact xget_eq d r i
    · rfl
def uK (f:(Nat→bH)→List Value) (g:(Nat→bH)→List (Nat × Eff)) (k:(Nat→bH)→List (Nat × (World→Prop))) (ρ:Nat→bH):Nat→List (Value × Eff × (World→Prop))
  | 0=>[]
  | i+1=>(mv f ρ i,me g ρ i,mf k ρ i)::uK f g k ρ i
def uD (D:List Nat) (f:(Nat→bH)→List Value) (g:(Nat→bH)→List (Nat × Eff)) (k:(Nat→bH)→List (Nat × (World→Prop))) (ρ:Nat→bH):Nat→List (Value × Eff × (World→Prop))
  | 0=>[]
  | i+1=>(vget (f (mask D i ρ)) i,xget {} (g (mask D i ρ)) i,xget (fun _=>True) (k (mask D i ρ)) i)::uD D f g k ρ i
theorem loc_get {D:List Nat} {f:(Nat→bH)→List Value} {g:(Nat→bH)→List (Nat × Eff)} {k:(Nat→bH)→List (Nat × (World→Prop))} {ρ:Nat→bH}:∀ {m:Nat},uK f g k ρ m=uD D f g k ρ m→∀ i,i<m→mv f ρ i=mv f (mask D i ρ) i∧me g ρ i=me g (mask D i ρ) i∧mf k ρ i=mf k (mask D i ρ) i
  | 0,_,i,hi=>by omega
  | m + 1, h, i, hi => by
    unfold uK uD at h
    obtain ⟨h1,h2⟩:=List.cons.inj h
    rcases (by omega:i=m∨i<m) with e | e
    · subst e
      simp only [Prod.mk.injEq,vget_eq,xget_eq] at h1
      exact h1
    · exact loc_get h2 i e
theorem wS {D:List Nat} {f:(Nat→bH)→List Value} {g:(Nat→bH)→List (Nat × Eff)} {k:(Nat→bH)→List (Nat × (World→Prop))} {m:Nat} (h:∀ ρ,uK f g k ρ m=uD D f g k ρ m) (i:Nat) (hi:i<m):Loc D (mv f) (me g) (mf k) i:=by
  intro ρ ρ' hh
  have e:=mask_congr hh
  obtain ⟨a1,a2,a3⟩:=loc_get (h ρ) i hi
  obtain ⟨b1,b2,b3⟩:=loc_get (h ρ') i hi
  rw [a1,a2,a3,b1,b2,b3,e]
  exact ⟨rfl,rfl,rfl⟩
def dsq (m:Nat):List Nat:=(List.range m).map fun i=>2^i-1
def oW {α:Type}:List Nat→List α→List α
  | [],l=>l
  | _,[]=>[]
  | 0::s,_::l=>oW s l
  | _::s,x::l=>x::oW s l
theorem jX {α:Type}:∀ (s:List Nat) (l:List α),List.Sublist (oW s l) l
  | [],l=>List.Sublist.refl l
  | _::_,[]=>by simp [oW]
  | 0::s,x::l=>(jX s l).cons x
  | (_+1)::s,x::l=>(jX s l).cons_cons x
section
variable {P : Program} {ops : Array Oper} {D : List Nat} {l : List (Nat × Value)} {w0 : Base} {h : List (Nat × Obj)} {F0 : World → Prop}
variable {vals : (Nat → bH) → Nat → Value} {effs : (Nat → bH) → Nat → Eff} {fact : (Nat → bH) → Nat → World → Prop}
def rcE (P : Program) (ops : Array Oper) (D : List Nat) (l : List (Nat × Value)) (h : List (Nat × Obj)) (V : Nat → Value) (E : Nat → Eff) (E' : Eff) (i : Nat) (ns z : List Nat) : Option (Value × List (Nat × Obj) × List (Nat × Nat) × Eff) :=
  if (ops[i]?).isSome&&dY ops D h E i ns&&yJ ns E' then
    if fM V (opAt ops i) then (kH P (execOp (dC ops D l V i) (opAt ops i)) [] (known ops D h E i ns) z).bind fun r=>(xY r.1).map fun v=>(v,r.2.1,r.2.2,E')
    else some (undef,known ops D h E i ns,[],{})
  else none
def rcL (r:Option (Value × List (Nat × Obj) × List (Nat × Nat) × Eff)):Option (Value × List (Nat × Obj) × List Nat × List Nat × Eff):=r.map fun r=>(r.1,r.2.1,r.2.2.1.map (·.1),r.2.2.1.map (·.2),r.2.2.2)
def rcR (r:Option (Value × List (Nat × Obj) × List (Nat × Nat) × Eff)) (v:Value) (K:List (Nat × Obj)) (E':Eff):Option (Value × List (Nat × Obj) × List Nat × List Nat × Eff):=some (v,K,((r.map (·.2.2.1)).getD []).map (·.1),((r.map (·.2.2.1)).getD []).map (·.1),E')
theorem eqs_of:∀ {es:List (Nat × Nat)},es.map (·.2)=es.map (·.1)→Eqs es
  | [],_=>trivial
  | e :: es, h => by
    simp only [List.map_cons,List.cons.injEq] at h
    exact ⟨h.1.symm,eqs_of h.2⟩
theorem run_obl {i : Nat} (ns : List Nat)
    (hc:∀ ρ z,rcL (rcE P ops D l h (vals ρ) (effs ρ) (effs (upd ρ i { n:=z}) i) i ns z)=rcR (rcE P ops D l h (vals ρ) (effs ρ) (effs (upd ρ i { n:=z}) i) i ns z) (vals (upd ρ i { n:=z}) i) (uM ns (known ops D h (effs ρ) i ns) (effs (upd ρ i { n:=z}) i)) (effs (upd ρ i { n:=z}) i))
    (hf:∀ ρ w,fact ρ i w):jV P ops D l w0 h F0 vals effs fact i:=by
  intro o ho ρ T w hG
  have key : ∀ z, ((ops[i]?).isSome = true ∧ dY ops D h (effs ρ) i ns = true ∧ yJ ns (effs (upd ρ i { n := z }) i) = true) ∧
      ((fM (vals ρ) (opAt ops i)=true∧∃ x es,xY x=some (vals (upd ρ i { n:=z}) i)∧Eqs es∧kH P (execOp (dC ops D l (vals ρ) i) (opAt ops i)) [] (known ops D h (effs ρ) i ns) z=some (x,uM ns (known ops D h (effs ρ) i ns) (effs (upd ρ i { n:=z}) i),es)) ∨
       (fM (vals ρ) (opAt ops i)=false∧vals (upd ρ i { n:=z}) i=undef∧effs (upd ρ i { n:=z}) i={})):=by
    intro z
    have h1:=hc ρ z
    unfold rcL rcR at h1
    rw [Option.map_eq_some_iff] at h1
    obtain ⟨⟨v,K,es,E'⟩,h2,h3⟩:=h1
    rw [h2] at h3
    simp only [Option.map_some,Option.getD_some,Prod.mk.injEq] at h3
    obtain ⟨hv,hK,_,hes,hE⟩:=h3
    unfold rcE at h2
    split at h2
    · rename_i hb
      simp only [Bool.and_eq_true] at hb
      refine ⟨⟨hb.1.1,hb.1.2,hb.2⟩,?_⟩
      split at h2
      · rename_i hw
        left
        refine ⟨hw,?_⟩
        rw [Option.bind_eq_some_iff] at h2
        obtain ⟨⟨x,K1,es1⟩,g1,g2⟩:=h2
        rw [Option.map_eq_some_iff] at g2
        obtain ⟨v1,g2,g3⟩:=g2
        simp only [Prod.mk.injEq] at g3
        obtain ⟨rfl,rfl,rfl,_⟩:=g3
        rw [hv] at g2
        rw [hK] at g1
        exact ⟨x,es1,g2,eqs_of hes,g1⟩
      · rename_i hw
        right
        simp only [Option.some.injEq,Prod.mk.injEq] at h2
        refine ⟨by simpa using hw,?_,?_⟩
        · rw [← hv];exact h2.1.symm
        · rw [← hE];exact h2.2.2.2.symm
    · exact absurd h2 (by simp)
  have hoe:=eY (key []).1.1
  rw [ho] at hoe
  obtain rfl:o=opAt ops i:=by simpa using hoe
  rcases (key []).2 with hk | hk
  · have hw := hk.1
    have kz:∀ z,∃ x es,xY x=some (vals (upd ρ i { n:=z}) i)∧Eqs es∧kH P (execOp (dC ops D l (vals ρ) i) (opAt ops i)) [] (known ops D h (effs ρ) i ns) z=some (x,uM ns (known ops D h (effs ρ) i ns) (effs (upd ρ i { n:=z}) i),es):=by
      intro z
      rcases (key z).2 with k | k
      · exact k.2
      · rw [hw] at k;exact absurd k.1 (by simp)
    exact obl_run_at ho ns [] ρ (fun z=>(kz z).choose_spec.choose) (fun z=>(kz z).choose) hw (key []).1.2.1 (fun z=>(kz z).choose_spec.choose_spec.2.2) (fun z=>(kz z).choose_spec.choose_spec.1) (fun z=>(key z).1.2.2) (fun z=>(kz z).choose_spec.choose_spec.2.1) (fun z w=>hf _ w) T w hG
  · obtain ⟨hw, hv, he⟩ := hk
    rw [if_neg (by rw [hw];simp)]
    refine ⟨{ n:=[]},hv.symm,?_,?_,?_,?_,dB (hf _)⟩
    · exact nN.refl _ _
    · rw [he];intro n q hm;simp at hm
    · rw [he];intro k b q hk;simp at hk
    · rw [he];simp
def chkL (P:Program) (ops:Array Oper) (D:List Nat) (l:List (Nat × Value)) (h:List (Nat × Obj)) (vals:(Nat→bH)→Nat→Value) (effs:(Nat→bH)→Nat→Eff) (ρ:Nat→bH) (z:List Nat):Nat→List (List Nat)→List (Option (Value × List (Nat × Obj) × List Nat × List Nat × Eff))
  | _,[]=>[]
  | i,ns::r=>rcL (rcE P ops D l h (vals ρ) (effs ρ) (effs (upd ρ i { n:=z}) i) i ns z)::chkL P ops D l h vals effs ρ z (i+1) r
def chkR (P:Program) (ops:Array Oper) (D:List Nat) (l:List (Nat × Value)) (h:List (Nat × Obj)) (vals:(Nat→bH)→Nat→Value) (effs:(Nat→bH)→Nat→Eff) (ρ:Nat→bH) (z:List Nat):Nat→List (List Nat)→List (Option (Value × List (Nat × Obj) × List Nat × List Nat × Eff))
  | _,[]=>[]
  | i,ns::r=>rcR (rcE P ops D l h (vals ρ) (effs ρ) (effs (upd ρ i { n:=z}) i) i ns z) (vals (upd ρ i { n:=z}) i) (uM ns (known ops D h (effs ρ) i ns) (effs (upd ρ i { n:=z}) i)) (effs (upd ρ i { n:=z}) i)::chkR P ops D l h vals effs ρ z (i+1) r
def factL (fact:(Nat→bH)→Nat→World→Prop) (ρ:Nat→bH):Nat→Nat→List (World→Prop)
  | _,0=>[]
  | i,k+1=>fact ρ i::factL fact ρ (i+1) k
def trueL:Nat→List (World→Prop)
  | 0=>[]
  | k+1=>(fun _=>True)::trueL k
theorem cR {m i:Nat} (nss:List (List Nat)) (t:Chain m (jV P ops D l w0 h F0 vals effs fact) (i+nss.length))
    (hc:∀ ρ z,chkL P ops D l h vals effs ρ z i nss=chkR P ops D l h vals effs ρ z i nss:=by intros;kernel_rfl)
    (hf:∀ ρ,factL fact ρ i nss.length=trueL nss.length:=by intros;kernel_rfl):Chain m (jV P ops D l w0 h F0 vals effs fact) i:=by
  induction nss generalizing i with
  | nil=>exact t
  | cons ns r ih =>
    have hc1:∀ ρ z,_:=fun ρ z=>List.cons.inj (hc ρ z)
    have hf1:∀ ρ,_:=fun ρ=>List.cons.inj (hf ρ)
    refine cX (run_obl ns (fun ρ z=>(hc1 ρ z).1) (fun ρ w=>by rw [(hf1 ρ).1];trivial)) (ih ?_ (fun ρ z=>(hc1 ρ z).2) (fun ρ=>(hf1 ρ).2))
    rw [List.length_cons] at t
    rw [show i+1+r.length=i+(r.length+1) by omega]
    exact t
theorem cY {m i:Nat} (hO:jV P ops D l w0 h F0 vals effs (fun _ _ _=>True) i) (t:Chain m (jV P ops D l w0 h F0 vals effs fact) (i+1)) (hF:∀ ρ,fact ρ i=fun _=>True:=by intros;kernel_rfl):Chain m (jV P ops D l w0 h F0 vals effs fact) i :=
  cX (hO.brings (fun ρ w=>by rw [hF ρ];trivial)) t
theorem cC {m i:Nat} {f:FuncId} {args:(Nat→bH)→Array Value} {v:(Nat→bH)→Value} (hf:∀ ρ w,Calls P f (args ρ) w (fun e w'=>e=.returned (v ρ)∧Below w.heap.size w w')) (t:Chain m (jV P ops D l w0 h F0 vals effs fact) (i+1))
    (hc:∀ ρ z,pM P ops D l (vals ρ) (vals (upd ρ i {}) i) (effs (upd ρ i {}) i) i z=some (.enter f (args ρ),[],[],v ρ,{}):=by intros;kernel_rfl) (hF:∀ ρ,fact ρ i=fun _=>True:=by intros;kernel_rfl):Chain m (jV P ops D l w0 h F0 vals effs fact) i:=cY (o_call i f args v hc hf) t hF
theorem cA {m i:Nat} {v:(Nat→bH)→Value} (v':(Nat→bH)→Value) (he:∀ ρ,v ρ=v' ρ) (t:Chain m (jV P ops D l w0 h F0 vals effs fact) (i+1))
    (hc:∀ ρ z,pM P ops D l (vals ρ) (vals (upd ρ i {}) i) (effs (upd ρ i {}) i) i z=some (.value (v ρ),[],[],v' ρ,{}):=by intros;kernel_rfl) (hF:∀ ρ,fact ρ i=fun _=>True:=by intros;kernel_rfl):Chain m (jV P ops D l w0 h F0 vals effs fact) i:=cY (o_as i v v' hc he) t hF
theorem cB {m i:Nat} {a b v:(Nat→bH)→Value} (op:BinOp) (ty:TypeId)
    (hf:∀ ρ w,(binOp op ty (a ρ) (b ρ)).run P w=.ok (v ρ) w) (t:Chain m (jV P ops D l w0 h F0 vals effs fact) (i+1))
    (hc:∀ ρ,binChk ops D l (vals ρ) (vals (upd ρ i {}) i) (effs (upd ρ i {}) i) i=some (op,ty,a ρ,b ρ,v ρ,{}):=by intros;kernel_rfl)
    (hg:∀ ρ x y w,(eqGuard op ty x y (a ρ) (b ρ)).run P w=.ok () w:=by intros;kernel_rfl) (hF:∀ ρ,fact ρ i=fun _=>True:=by intros;kernel_rfl):Chain m (jV P ops D l w0 h F0 vals effs fact) i:=cY (o_bin i op ty a b v hc hg hf) t hF
end
section
variable {P : Program} {ops : Array Oper} {D : List Nat} {l : List (Nat × Value)} {w0 : Base} {h : List (Nat × Obj)} {F0 : World → Prop}
variable {vals : (Nat → bH) → Nat → Value} {effs : (Nat → bH) → Nat → Eff} {fact : (Nat → bH) → Nat → World → Prop}
theorem Given.persK {i:Nat} {ρ:Nat→bH} {T:Nat→Prop} {w:World} (hG:Given ops D w0 h F0 effs fact i ρ T w) (ns:List Nat) {K:List (Nat × Obj)} (hn:dY ops D h (effs ρ) i ns=true) (hk:YtaebcmpbbamfpaaGreatDoor.known ops D h (effs ρ) i ns=K) {G:World→Prop} (hFG:∀ w,F0 w→G w):dL (fun b=>b∈K.map (·.1)) G w:=by
  refine (hG.facts0.mono hFG).sub (fun b hb=>?_)
  rw [← hk] at hb
  unfold YtaebcmpbbamfpaaGreatDoor.known at hb
  obtain ⟨y,hy,rfl⟩:=List.mem_map.1 hb
  obtain ⟨n,hm,rfl⟩:=List.mem_map.1 hy
  unfold dY at hn
  rw [Bool.and_eq_true,List.all_eq_true] at hn
  have hn1:=hn.1 n hm
  rw [Bool.and_eq_true] at hn1
  obtain ⟨q,hq⟩:=Option.isSome_iff_exists.1 hn1.1
  rw [hq]
  exact (hG.block n q hq hn1.2).2.1
theorem St.knows {w:World} {F:World→Prop} (hS:St w0 h F w) (ks:List Nat) {K:List (Nat × Obj)} (hK:oW ks h=K:=by kernel_rfl):Knows K w:=by
  intro x hx
  rw [← hK] at hx
  exact (hS.at_ x ((jX ks h).subset hx)).2
theorem y7 (i:Nat) (ns:List Nat) (f:FuncId) (args:(Nat→bH)→Array Value) (K:(Nat→bH)→List (Nat × Obj)) (K':(Nat→bH)→bH→List (Nat × Obj))
    (hc:∀ ρ z,eU P ops D l (vals ρ) i z=some (.enter f (args ρ),[],[]))
    (he:∀ ρ r,effs (upd ρ i r) i={ puts:=ns.zip (K' ρ r)})
    (hn:∀ ρ,dY ops D h (effs ρ) i ns=true) (hk:∀ ρ,known ops D h (effs ρ) i ns=K ρ) (hl:∀ ρ r,(K' ρ r).map (·.1)=(K ρ).map (·.1))
    (hf:∀ ρ T w,Given ops D w0 h F0 effs fact i ρ T w→Knows (K ρ) w→Calls P f (args ρ) w (fun e w'=>nN (fun b=>b∈(K ρ).map (·.1)) w w'∧∃ r,e=.returned (vals (upd ρ i r) i)∧Knows (K' ρ r) w'∧dL (fun b=>b<w.heap.size) (fact (upd ρ i r) i) w')):jV P ops D l w0 h F0 vals effs fact i:=by
  have key:∀ ρ z,((ops[i]?).isSome=true∧fM (vals ρ) (opAt ops i)=true)∧kH P (execOp (dC ops D l (vals ρ) i) (opAt ops i)) [] [] z=some (.enter f (args ρ),[],[]):=by
    intro ρ z
    have h1:=hc ρ z
    unfold eU at h1
    split at h1
    · rename_i hb
      simp only [Bool.and_eq_true] at hb
      exact ⟨hb,h1⟩
    · exact absurd h1 (by simp)
  intro o ho ρ T w hG
  have hoe:=eY (key ρ []).1.1
  rw [ho] at hoe
  obtain rfl:o=opAt ops i:=by simpa using hoe
  rw [if_pos (key ρ []).1.2]
  obtain ⟨w1,h1,_,_,h4,_,_⟩:=kQ (P:=P) (execOp (dC ops D l (vals ρ) i) (opAt ops i)) [] [] w _ _ _ (by intro y hy;simp at hy) (by simp) ((key ρ _).2) trivial
  have hb:Below w.heap.size w w1:=⟨h4.os,h4.tape,h4.output,h4.size,fun k hk=>h4.block k hk (by simp)⟩
  have hheap:∀ b,b<w.heap.size→w1.heap[b]? = w.heap[b]? := fun b hb'=>hb.block b hb'
  have hG1:Given ops D w0 h F0 effs fact i ρ T w1:=by
    have tr:∀ {F:World→Prop},dL T F w→dL T F w1:=by
      rintro F ⟨S,s1,s2⟩
      refine ⟨S,fun b hb'=>⟨Nat.lt_of_lt_of_le (s1 b hb').1 hb.size,(s1 b hb').2⟩,fun w' hw=>s2 w' (fun b hb'=>?_)⟩
      rw [hw b hb',hheap b (s1 b hb').1]
    refine ⟨fun b hb'=>Nat.lt_of_lt_of_le (hG.lt b hb') hb.size,hG.below.trans (nN.of_below hb),fun n x hn hk=>?_,hG.ne,tr hG.facts0,fun j hj=>tr (hG.facts j hj)⟩
    have:=hG.block n x hn hk
    refine ⟨?_,this.2⟩
    rw [hheap _ (hG.lt _ this.2.1)]
    exact this.1
  have hno:=hn ρ
  unfold dY at hno
  rw [Bool.and_eq_true,List.all_eq_true,decide_eq_true_eq] at hno
  obtain ⟨hno,hnd⟩:=hno
  have hbn:∀ n∈ns,∃ x,blk h (effs ρ) n=some x∧okN ops D h (effs ρ) i n=true:=by
    intro n hm
    have:=hno n hm
    rw [Bool.and_eq_true] at this
    obtain ⟨x,hb⟩:=Option.isSome_iff_exists.1 this.1
    exact ⟨x,hb,this.2⟩
  have hKk:∀ (j n:Nat),ns[j]? = some n→∃ x,blk h (effs ρ) n=some x∧okN ops D h (effs ρ) i n=true∧(K ρ)[j]? = some (cur (effs ρ) ops.size (mV D i) n x):=by
    intro j n hj
    obtain ⟨x,hx,hok⟩:=hbn n (List.mem_of_getElem? hj)
    refine ⟨x,hx,hok,?_⟩
    rw [← hk ρ]
    unfold known
    rw [List.getElem?_map,hj]
    simp only [Option.map_some,hx]
  have hKn:Knows (K ρ) w1:=by
    intro y hy
    rw [← hk ρ] at hy
    unfold known at hy
    obtain ⟨n,hm,rfl⟩:=List.mem_map.1 hy
    obtain ⟨x,hx,hok⟩:=hbn n hm
    rw [hx]
    exact (hG1.block n x hx hok).1
  unfold opv
  rw [h1]
  refine (hf ρ T w1 hG1 hKn).mono (fun e w2 hew=>?_)
  obtain ⟨hU,r,rfl,hK',hp⟩:=hew
  show After ops D h vals effs fact i ρ T w _ w2
  have hlen:(K' ρ r).length=ns.length:=by
    have q1:=congrArg List.length (hl ρ r)
    have q2:=congrArg List.length (hk ρ)
    unfold known at q2
    simp only [List.length_map] at q1 q2
    omega
  have hzip:∀ (j n:Nat) (y:Nat × Obj),ns[j]? = some n→(K' ρ r)[j]? = some y→(ns.zip (K' ρ r)).lookup n=some y:=by
    intro j n y hj hy
    have hm:(n,y)∈ns.zip (K' ρ r):=List.mem_iff_getElem?.2 ⟨j,by rw [List.getElem?_zip_eq_some];exact ⟨hj,hy⟩⟩
    cases hq:(ns.zip (K' ρ r)).lookup n with
    | none=>exact absurd hm (qA hq y)
    | some y2 =>
      obtain ⟨j2,hj2⟩:=List.mem_iff_getElem?.1 (fV hq)
      rw [List.getElem?_zip_eq_some] at hj2
      have e:j2=j:=by
        obtain ⟨l1,g1⟩:=List.getElem?_eq_some_iff.1 hj
        obtain ⟨l2,g2⟩:=List.getElem?_eq_some_iff.1 hj2.1
        have hpw:=List.pairwise_iff_getElem.1 hnd
        rcases Nat.lt_trichotomy j2 j with hlt | hlt | hlt
        · exact absurd (g2.trans g1.symm) (hpw _ _ l2 l1 hlt)
        · exact hlt
        · exact absurd (g1.trans g2.symm) (hpw _ _ l1 l2 hlt)
      rw [e,hy] at hj2
      exact hj2.2.symm
  refine ⟨r,rfl,?_,?_,?_,?_,?_⟩
  · refine ⟨hU.os.trans hb.os, hU.tape.trans hb.tape, hU.output.trans hb.output, Nat.le_trans hb.size hU.size, fun k hk' hX => (hU.block k (Nat.lt_of_lt_of_le hk' hb.size) ?_).trans (hheap k hk')⟩
    intro hm
    obtain ⟨y,hy,rfl⟩:=List.mem_map.1 hm
    obtain ⟨j,hj⟩:=List.mem_iff_getElem?.1 hy
    have hjl:j<ns.length:=by
      have q2:=congrArg List.length (hk ρ)
      unfold known at q2
      simp only [List.length_map] at q2
      rw [q2];exact (List.getElem?_eq_some_iff.1 hj).1
    obtain ⟨x,hx,_,hKj⟩:=hKk j ns[j] (List.getElem?_eq_getElem hjl)
    obtain rfl:y=cur (effs ρ) ops.size (mV D i) ns[j] x:=Option.some.inj (hj.symm.trans hKj)
    refine hX ⟨ns[j],(K' ρ r)[j]'(by omega),x,?_,hx,rfl⟩
    rw [he]
    exact List.mem_iff_getElem?.2 ⟨j,by rw [List.getElem?_zip_eq_some];exact ⟨List.getElem?_eq_getElem hjl,List.getElem?_eq_getElem (by omega)⟩⟩
  · rw [he]
    intro n y hm
    obtain ⟨j,hj⟩:=List.mem_iff_getElem?.1 hm
    rw [List.getElem?_zip_eq_some] at hj
    obtain ⟨x,hx,hok,hKj⟩:=hKk j n hj.1
    refine ⟨hok,x,hx,?_,?_⟩
    · rw [hzip j n y hj.1 hj.2]
      exact hK' y (List.mem_of_getElem? hj.2)
    · left
      rw [hzip j n y hj.1 hj.2]
      have q:=congrArg (fun l:List Nat=>l[j]?) (hl ρ r)
      simp only [List.getElem?_map,hj.2,hKj,Option.map_some,Option.some.injEq] at q
      exact q
  · rw [he];intro k b q hk;simp at hk
  · rw [he];simp
  · refine hp.sub (fun b hbT => ?_)
    rw [he] at hbT
    rcases hbT with hbT | hbT | hbT
    · exact Nat.lt_of_lt_of_le (hG.lt b hbT) hb.size
    · simp at hbT
    · obtain ⟨⟨n, y⟩, hm, rfl⟩ := List.mem_map.1 hbT
      obtain ⟨j,hj⟩:=List.mem_iff_getElem?.1 hm
      rw [List.getElem?_zip_eq_some] at hj
      obtain ⟨x,hx,hok,hKj⟩:=hKk j n hj.1
      have q:=congrArg (fun l:List Nat=>l[j]?) (hl ρ r)
      simp only [List.getElem?_map,hj.2,hKj,Option.map_some,Option.some.injEq] at q
      simp only [q]
      exact hG1.lt _ (hG1.block n x hx hok).2.1
theorem o_callW (i:Nat) (ns:List Nat) (f:FuncId) (args:(Nat→bH)→Array Value) (v:(Nat→bH)→Value) (K K':(Nat→bH)→List (Nat × Obj))
    (hf:∀ ρ T w,Given ops D w0 h F0 effs fact i ρ T w→Knows (K ρ) w→Calls P f (args ρ) w (fun e w'=>e=.returned (v ρ)∧nN (fun b=>b∈(K ρ).map (·.1)) w w'∧Knows (K' ρ) w'))
    (hc:∀ ρ z,eU P ops D l (vals ρ) i z=some (.enter f (args ρ),[],[]):=by intros;kernel_rfl)
    (hv:∀ ρ,vals (upd ρ i {}) i=v ρ:=by intros;kernel_rfl) (he:∀ ρ r,effs (upd ρ i r) i={ puts:=ns.zip (K' ρ)}:=by intros;kernel_rfl)
    (hn:∀ ρ,dY ops D h (effs ρ) i ns=true:=by intros;kernel_rfl) (hk:∀ ρ,known ops D h (effs ρ) i ns=K ρ:=by intros;kernel_rfl) (hl:∀ ρ,(K' ρ).map (·.1)=(K ρ).map (·.1):=by intros;kernel_rfl)
    (hF:∀ ρ,fact ρ i=fun _=>True:=by intros;kernel_rfl):jV P ops D l w0 h F0 vals effs fact i:=by
  refine y7 i ns f args K (fun ρ _=>K' ρ) hc he hn hk (fun ρ _=>hl ρ) (fun ρ T w hG hK=>(hf ρ T w hG hK).mono (fun e w' hew=>⟨hew.2.1,{},?_,hew.2.2,?_⟩))
  · rw [hv ρ];exact hew.1
  · rw [hF];exact cO
end
section
variable {P : Program} {Q : Exit → Act → World → Prop} {n : Nat} {l : List (Nat × Value)} {w0 : Base} {h : List (Nat × Obj)} {F : World → Prop}
theorem seqOk_dsq (m:Nat):DSeq m (dsq m)=true:=by
  unfold DSeq dsq
  rw [List.all_eq_true]
  intro i hi
  have hi':=List.mem_range.1 hi
  simp [hi']
def sqOk (ops:Array Oper) (m n:Nat) (l:List (Nat × Value)) (keep:List Nat):Bool:=ops.size==m&&vY ops n&&wW ops (dsq m) l&&keepOk ops l keep
def drOk (ops:Array Oper) (D:List Nat) (m n:Nat) (l:List (Nat × Value)) (keep:List Nat):Bool:=ops.size==m&&drawOk ops D n l keep
theorem reg_sq {id m:Nat} {ops:Array Oper} {keep hb:List Nat} {vals:(Nat→bH)→List Value} {effs:(Nat→bH)→List (Nat × Eff)} (hloc:∀ ρ,uK vals effs (fun _=>[]) ρ m=uD (dsq m) vals effs (fun _=>[]) ρ m) (hchk:sqOk ops m n l keep=true)
    (c:Chain m (jV P ops (dsq m) l w0 h F (mv vals) (me effs) (fun _ _ _=>True)) 0) :
    Reg P id ops false n l w0 h F (fun ρ=>tV ops l (mv vals ρ) keep) (fun ρ=>oW hb (rJ m h (me effs ρ))):=by
  unfold sqOk at hchk
  simp only [Bool.and_eq_true,beq_iff_eq] at hchk
  obtain ⟨⟨⟨hsz,c3⟩,c4⟩,c5⟩:=hchk
  subst hsz
  intro Q A w hfr hS hend
  refine rY (seqOk_dsq _) (by rw [hfr.size];exact c3) c4 (vals:=mv vals) (effs:=me effs) (fact:=fun _ _ _=>True) ?_ ?_ keep c5 (by rw [hfr.size];exact hfr) hS ?_
  · intro j hj ρ ρ' hh
    exact ⟨(wS hloc j hj ρ ρ' hh).1,(wS hloc j hj ρ ρ' hh).2.1,rfl⟩
  · intro i hi
    exact c i (Nat.zero_le _) hi
  · intro ρ A' w' hA hS'
    rw [hfr.size] at hA
    exact hend ρ A' w' hA ((hS'.weaken (fun _ h=>h.1)).sub (jX _ _))
theorem reg_dr {id m:Nat} {ops:Array Oper} {D keep hb:List Nat} {vals:(Nat→bH)→List Value} {effs:(Nat→bH)→List (Nat × Eff)} (hloc:∀ ρ,uK vals effs (fun _=>[]) ρ m=uD D vals effs (fun _=>[]) ρ m) (hm:P.follows .mixedOrders=true) (hchk:drOk ops D m n l keep=true)
    (c:Chain m (jV P ops D l w0 h F (mv vals) (me effs) (fun _ _ _=>True)) 0) :
    Reg P id ops true n l w0 h F (fun ρ=>tV ops l (mv vals ρ) keep) (fun ρ=>oW hb (rJ m h (me effs ρ))):=by
  unfold drOk drawOk at hchk
  simp only [Bool.and_eq_true,beq_iff_eq] at hchk
  obtain ⟨hsz,⟨⟨⟨c1,c2⟩,c3⟩,c4⟩,c5⟩:=hchk
  subst hsz
  intro Q A w hfr hS hend
  refine uS hm c1 c2 (by rw [hfr.size];exact c3) c4 (vals:=mv vals) (effs:=me effs) (fact:=fun _ _ _=>True) ?_ ?_ keep c5 (by rw [hfr.size];exact hfr) hS ?_
  · intro j hj ρ ρ' hh
    exact ⟨(wS hloc j hj ρ ρ' hh).1,(wS hloc j hj ρ ρ' hh).2.1,rfl⟩
  · intro i hi
    exact c i (Nat.zero_le _) hi
  · intro ρ A' w' hA hS'
    rw [hfr.size] at hA
    exact hend ρ A' w' hA ((hS'.weaken (fun _ h=>h.1)).sub (jX _ _))
theorem reg_sqF {id m:Nat} {ops:Array Oper} {keep hb:List Nat} {vals:(Nat→bH)→List Value} {effs:(Nat→bH)→List (Nat × Eff)} {fact:(Nat→bH)→List (Nat × (World→Prop))} {F':(Nat→bH)→World→Prop} (hloc:∀ ρ,uK vals effs fact ρ m=uD (dsq m) vals effs fact ρ m) (hchk:sqOk ops m n l keep=true)
    (hF:∀ ρ w,F w→(∀ i,mf fact ρ i w)→F' ρ w)
    (c:Chain m (jV P ops (dsq m) l w0 h F (mv vals) (me effs) (mf fact)) 0) (hfm:∀ ρ,(fact ρ).all (fun x=>decide (x.1<m))=true) :
    RegF P id ops false n l w0 h F (fun ρ=>tV ops l (mv vals ρ) keep) (fun ρ=>oW hb (rJ m h (me effs ρ))) F':=by
  have hnone:∀ ρ i,m≤i→mf fact ρ i=fun _=>True:=by
    intro ρ i hi
    unfold mf
    have:(fact ρ).lookup i=none:=by
      have:=hfm ρ
      rw [List.all_eq_true] at this
      rw [List.lookup_eq_none_iff]
      intro p hp
      have h1:=this p hp
      simp at h1
      simp;omega
    rw [this];rfl
  unfold sqOk at hchk
  simp only [Bool.and_eq_true,beq_iff_eq] at hchk
  obtain ⟨⟨⟨hsz,c3⟩,c4⟩,c5⟩:=hchk
  subst hsz
  intro Q A w hfr hS hend
  refine rY (seqOk_dsq _) (by rw [hfr.size];exact c3) c4 (vals:=mv vals) (effs:=me effs) (fact:=mf fact) ?_ ?_ keep c5 (by rw [hfr.size];exact hfr) hS ?_
  · intro j hj
    exact wS hloc j hj
  · intro i hi
    exact c i (Nat.zero_le _) hi
  · intro ρ A' w' hA hS'
    rw [hfr.size] at hA
    refine hend ρ A' w' hA ((hS'.weaken (fun w h=>hF ρ w h.1 (fun i=>?_))).sub (jX _ _))
    by_cases hi:i<ops.size
    · exact h.2 i hi
    · rw [hnone ρ i (by omega)];trivial
theorem reg_drF {id m:Nat} {ops:Array Oper} {D keep hb:List Nat} {vals:(Nat→bH)→List Value} {effs:(Nat→bH)→List (Nat × Eff)} {fact:(Nat→bH)→List (Nat × (World→Prop))} {F':(Nat→bH)→World→Prop} (hloc:∀ ρ,uK vals effs fact ρ m=uD D vals effs fact ρ m) (hm:P.follows .mixedOrders=true) (hchk:drOk ops D m n l keep=true)
    (hF:∀ ρ w,F w→(∀ i,mf fact ρ i w)→F' ρ w)
    (c:Chain m (jV P ops D l w0 h F (mv vals) (me effs) (mf fact)) 0) (hfm:∀ ρ,(fact ρ).all (fun x=>decide (x.1<m))=true) :
    RegF P id ops true n l w0 h F (fun ρ=>tV ops l (mv vals ρ) keep) (fun ρ=>oW hb (rJ m h (me effs ρ))) F':=by
  have hnone:∀ ρ i,m≤i→mf fact ρ i=fun _=>True:=by
    intro ρ i hi
    unfold mf
    have:(fact ρ).lookup i=none:=by
      have:=hfm ρ
      rw [List.all_eq_true] at this
      rw [List.lookup_eq_none_iff]
      intro p hp
      have h1:=this p hp
      simp at h1
      simp;omega
    rw [this];rfl
  unfold drOk drawOk at hchk
  simp only [Bool.and_eq_true,beq_iff_eq] at hchk
  obtain ⟨hsz,⟨⟨⟨c1,c2⟩,c3⟩,c4⟩,c5⟩:=hchk
  subst hsz
  intro Q A w hfr hS hend
  refine uS hm c1 c2 (by rw [hfr.size];exact c3) c4 (vals:=mv vals) (effs:=me effs) (fact:=mf fact) ?_ ?_ keep c5 (by rw [hfr.size];exact hfr) hS ?_
  · intro j hj
    exact wS hloc j hj
  · intro i hi
    exact c i (Nat.zero_le _) hi
  · intro ρ A' w' hA hS'
    rw [hfr.size] at hA
    refine hend ρ A' w' hA ((hS'.weaken (fun w h=>hF ρ w h.1 (fun i=>?_))).sub (jX _ _))
    by_cases hi:i<ops.size
    · exact h.2 i hi
    · rw [hnone ρ i (by omega)];trivial
theorem sS {id:Nat} {ops:Array Oper} {y:Code} (fn:Func) (m:Nat) (keep hb:List Nat) (vals:(Nat→bH)→List Value) (effs:(Nat→bH)→List (Nat × Eff))
    (c:Chain m (jV P (dP fn id) (dsq m) l w0 h F (mv vals) (me effs) (fun _ _ _=>True)) 0)
    (k:∀ ρ,Ok P y Q n (tV (dP fn id) l (mv vals ρ) keep) w0 (oW hb (rJ m h (me effs ρ))) F)
    (hloc:∀ ρ,uK vals effs (fun _=>[]) ρ m=uD (dsq m) vals effs (fun _=>[]) ρ m:=by intros;kernel_rfl) (e:ops=dP fn id:=by kernel_rfl) (hchk:sqOk (dP fn id) m n l keep=true:=by kernel_rfl):Ok P (.seq (.region id ops false) y) Q n l w0 h F:=ok_seq_r e (reg_sq hloc hchk c) k
theorem rS {id:Nat} {ops:Array Oper} (fn:Func) (m:Nat) (keep hb:List Nat) (vals:(Nat→bH)→List Value) (effs:(Nat→bH)→List (Nat × Eff))
    (c:Chain m (jV P (dP fn id) (dsq m) l w0 h F (mv vals) (me effs) (fun _ _ _=>True)) 0)
    (k:∀ ρ,gJ (Q .normal) n (tV (dP fn id) l (mv vals ρ) keep) w0 (oW hb (rJ m h (me effs ρ))) F)
    (hloc:∀ ρ,uK vals effs (fun _=>[]) ρ m=uD (dsq m) vals effs (fun _=>[]) ρ m:=by intros;kernel_rfl) (e:ops=dP fn id:=by kernel_rfl) (hchk:sqOk (dP fn id) m n l keep=true:=by kernel_rfl):Ok P (.region id ops false) Q n l w0 h F:=ok_r e (reg_sq hloc hchk c) k
theorem sD {id:Nat} {ops:Array Oper} {y:Code} (fn:Func) (D:List Nat) (m:Nat) (keep hb:List Nat) (vals:(Nat→bH)→List Value) (effs:(Nat→bH)→List (Nat × Eff))
    (c:Chain m (jV P (dP fn id) D l w0 h F (mv vals) (me effs) (fun _ _ _=>True)) 0)
    (k:∀ ρ,Ok P y Q n (tV (dP fn id) l (mv vals ρ) keep) w0 (oW hb (rJ m h (me effs ρ))) F)
    (hloc:∀ ρ,uK vals effs (fun _=>[]) ρ m=uD D vals effs (fun _=>[]) ρ m:=by intros;kernel_rfl) (e:ops=dP fn id:=by kernel_rfl) (hchk:drOk (dP fn id) D m n l keep=true:=by kernel_rfl) (hm:P.follows .mixedOrders=true:=by kernel_rfl):Ok P (.seq (.region id ops true) y) Q n l w0 h F:=ok_seq_r e (reg_dr hloc hm hchk c) k
theorem rD {id:Nat} {ops:Array Oper} (fn:Func) (D:List Nat) (m:Nat) (keep hb:List Nat) (vals:(Nat→bH)→List Value) (effs:(Nat→bH)→List (Nat × Eff))
    (c:Chain m (jV P (dP fn id) D l w0 h F (mv vals) (me effs) (fun _ _ _=>True)) 0)
    (k:∀ ρ,gJ (Q .normal) n (tV (dP fn id) l (mv vals ρ) keep) w0 (oW hb (rJ m h (me effs ρ))) F)
    (hloc:∀ ρ,uK vals effs (fun _=>[]) ρ m=uD D vals effs (fun _=>[]) ρ m:=by intros;kernel_rfl) (e:ops=dP fn id:=by kernel_rfl) (hchk:drOk (dP fn id) D m n l keep=true:=by kernel_rfl) (hm:P.follows .mixedOrders=true:=by kernel_rfl):Ok P (.region id ops true) Q n l w0 h F:=ok_r e (reg_dr hloc hm hchk c) k
theorem iZ {id:Nat} {ops:Array Oper} {y:Code} (fn:Func) (m:Nat) (keep hb:List Nat) (vals:(Nat→bH)→List Value) (effs:(Nat→bH)→List (Nat × Eff)) (fact:(Nat→bH)→List (Nat × (World→Prop))) (F':(Nat→bH)→World→Prop) (p:(Nat→bH)→Prop) (hF:∀ ρ w,F w→(∀ i,mf fact ρ i w)→F' ρ w∧p ρ)
    (c:Chain m (jV P (dP fn id) (dsq m) l w0 h F (mv vals) (me effs) (mf fact)) 0)
    (k:∀ ρ,p ρ→Ok P y Q n (tV (dP fn id) l (mv vals ρ) keep) w0 (oW hb (rJ m h (me effs ρ))) (F' ρ))
    (hloc:∀ ρ,uK vals effs fact ρ m=uD (dsq m) vals effs fact ρ m:=by intros;kernel_rfl) (e:ops=dP fn id:=by kernel_rfl) (hchk:sqOk (dP fn id) m n l keep=true:=by kernel_rfl) (hfm:∀ ρ,(fact ρ).all (fun x=>decide (x.1<m))=true:=by intros;kernel_rfl):Ok P (.seq (.region id ops false) y) Q n l w0 h F :=
  ok_seq_rf e (reg_sqF hloc hchk (F':=fun ρ w=>F' ρ w∧p ρ) hF c hfm) (fun ρ=>ok_pure (p ρ) (fun _ h=>h.2) (fun hp=>ok_facts (F' ρ) (fun _ h=>h.1) (k ρ hp)))
theorem rSf {id:Nat} {ops:Array Oper} (fn:Func) (m:Nat) (keep hb:List Nat) (vals:(Nat→bH)→List Value) (effs:(Nat→bH)→List (Nat × Eff)) (fact:(Nat→bH)→List (Nat × (World→Prop))) (F':(Nat→bH)→World→Prop) (p:(Nat→bH)→Prop) (hF:∀ ρ w,F w→(∀ i,mf fact ρ i w)→F' ρ w∧p ρ)
    (c:Chain m (jV P (dP fn id) (dsq m) l w0 h F (mv vals) (me effs) (mf fact)) 0)
    (k:∀ ρ,p ρ→gJ (Q .normal) n (tV (dP fn id) l (mv vals ρ) keep) w0 (oW hb (rJ m h (me effs ρ))) (F' ρ))
    (hloc:∀ ρ,uK vals effs fact ρ m=uD (dsq m) vals effs fact ρ m:=by intros;kernel_rfl) (e:ops=dP fn id:=by kernel_rfl) (hchk:sqOk (dP fn id) m n l keep=true:=by kernel_rfl) (hfm:∀ ρ,(fact ρ).all (fun x=>decide (x.1<m))=true:=by intros;kernel_rfl):Ok P (.region id ops false) Q n l w0 h F :=
  ok_rf e (reg_sqF hloc hchk (F':=fun ρ w=>F' ρ w∧p ρ) hF c hfm) (fun ρ=>mt_pure (p ρ) (fun _ h=>h.2) (fun hp=>nD (F' ρ) (fun _ h=>h.1) (k ρ hp)))
theorem sDf {id:Nat} {ops:Array Oper} {y:Code} (fn:Func) (D:List Nat) (m:Nat) (keep hb:List Nat) (vals:(Nat→bH)→List Value) (effs:(Nat→bH)→List (Nat × Eff)) (fact:(Nat→bH)→List (Nat × (World→Prop))) (F':(Nat→bH)→World→Prop) (p:(Nat→bH)→Prop) (hF:∀ ρ w,F w→(∀ i,mf fact ρ i w)→F' ρ w∧p ρ)
    (c:Chain m (jV P (dP fn id) D l w0 h F (mv vals) (me effs) (mf fact)) 0)
    (k:∀ ρ,p ρ→Ok P y Q n (tV (dP fn id) l (mv vals ρ) keep) w0 (oW hb (rJ m h (me effs ρ))) (F' ρ))
    (hloc:∀ ρ,uK vals effs fact ρ m=uD D vals effs fact ρ m:=by intros;kernel_rfl) (e:ops=dP fn id:=by kernel_rfl) (hchk:drOk (dP fn id) D m n l keep=true:=by kernel_rfl) (hm:P.follows .mixedOrders=true:=by kernel_rfl) (hfm:∀ ρ,(fact ρ).all (fun x=>decide (x.1<m))=true:=by intros;kernel_rfl):Ok P (.seq (.region id ops true) y) Q n l w0 h F :=
  ok_seq_rf e (reg_drF hloc hm hchk (F':=fun ρ w=>F' ρ w∧p ρ) hF c hfm) (fun ρ=>ok_pure (p ρ) (fun _ h=>h.2) (fun hp=>ok_facts (F' ρ) (fun _ h=>h.1) (k ρ hp)))
theorem rDf {id:Nat} {ops:Array Oper} (fn:Func) (D:List Nat) (m:Nat) (keep hb:List Nat) (vals:(Nat→bH)→List Value) (effs:(Nat→bH)→List (Nat × Eff)) (fact:(Nat→bH)→List (Nat × (World→Prop))) (F':(Nat→bH)→World→Prop) (p:(Nat→bH)→Prop) (hF:∀ ρ w,F w→(∀ i,mf fact ρ i w)→F' ρ w∧p ρ)
    (c:Chain m (jV P (dP fn id) D l w0 h F (mv vals) (me effs) (mf fact)) 0)
    (k:∀ ρ,p ρ→gJ (Q .normal) n (tV (dP fn id) l (mv vals ρ) keep) w0 (oW hb (rJ m h (me effs ρ))) (F' ρ))
    (hloc:∀ ρ,uK vals effs fact ρ m=uD D vals effs fact ρ m:=by intros;kernel_rfl) (e:ops=dP fn id:=by kernel_rfl) (hchk:drOk (dP fn id) D m n l keep=true:=by kernel_rfl) (hm:P.follows .mixedOrders=true:=by kernel_rfl) (hfm:∀ ρ,(fact ρ).all (fun x=>decide (x.1<m))=true:=by intros;kernel_rfl):Ok P (.region id ops true) Q n l w0 h F :=
  ok_rf e (reg_drF hloc hm hchk (F':=fun ρ w=>F' ρ w∧p ρ) hF c hfm) (fun ρ=>mt_pure (p ρ) (fun _ h=>h.2) (fun hp=>nD (F' ρ) (fun _ h=>h.1) (k ρ hp)))
theorem lK {c:Code} (l':List (Nat × Value)) (h':List (Nat × Obj)) (hc:Ok P c Q n l' w0 h' F) (hl:l'.map (fun x=>l.lookup x.1)=l'.map (fun x=>some x.2):=by kernel_rfl) (hh:h=h':=by kernel_rfl):Ok P c Q n l w0 h F:=by
  subst hh;exact ok_drop l' h hl (List.Sublist.refl _) hc
theorem mD {R:Act→World→Prop} (l':List (Nat × Value)) (h':List (Nat × Obj)) (hc:gJ R n l' w0 h' F) (hl:l'.map (fun x=>l.lookup x.1)=l'.map (fun x=>some x.2):=by kernel_rfl) (hh:h=h':=by kernel_rfl):gJ R n l w0 h F:=by
  subst hh;exact fun A w hf hs=>hc A w (hf.sub l' (Subl.get hl)) hs
theorem oY {t:Nat} {x y:Code} (hx:Ok P x Q n l w0 h F) (hl:l.lookup t=some (.bool true):=by kernel_rfl):Ok P (.cond (.tmp t) x y) Q n l w0 h F:=ok_yes hl hx
theorem oN {t:Nat} {x y:Code} (hy:Ok P y Q n l w0 h F) (hl:l.lookup t=some (.bool false):=by kernel_rfl):Ok P (.cond (.tmp t) x y) Q n l w0 h F:=ok_no hl hy
theorem oC {t:Nat} {x y:Code} (b:Bool) (hx:b=true→Ok P x Q n l w0 h F) (hy:b=false→Ok P y Q n l w0 h F) (hl:l.lookup t=some (.bool b):=by kernel_rfl):Ok P (.cond (.tmp t) x y) Q n l w0 h F:=ok_cond hl hx hy
theorem oL {σ:Type} {c:Code} (L:σ→List (Nat × Value)) (H:σ→List (Nat × Obj)) (m:σ→Nat) (R:σ→Prop) (s0:σ) (hR:R s0) (ks:List Nat)
    (round:∀ s,R s→Ok P c (Exit.then (Next1 n w0 F L H m R (m s)) Q) n (L s) w0 (H s) F)
    (hl:(L s0).map (fun x=>l.lookup x.1)=(L s0).map (fun x=>some x.2):=by kernel_rfl) (hh:oW ks h=H s0:=by kernel_rfl):Ok P (.loop c) Q n l w0 h F :=
  ok_loop L H m R s0 hR hl (hh ▸ jX ks h) round
theorem mN {σ:Type} {L:σ→List (Nat × Value)} {H:σ→List (Nat × Obj)} {m:σ→Nat} {R:σ→Prop} {k:Nat} (s:σ) (hm:m s<k) (hR:R s) (ks:List Nat) (hl:(L s).map (fun x=>l.lookup x.1)=(L s).map (fun x=>some x.2):=by kernel_rfl) (hh:oW ks h=H s:=by kernel_rfl) :
    gJ (Exit.then (Next1 n w0 F L H m R k) Q .normal) n l w0 h F:=mt_round s hm hR hl (hh ▸ jX ks h)
def resE (P:Program) (rs:Array ResultVar) (l:List (Nat × Value)) (ps:List Nat) (h:List (Nat × Obj)):Option (Value × List (Nat × Nat)):=if zV rs l then grd P (resL rs l) ps h else none
theorem mR {fn:Func} {R:Ending→World→Prop} {v:Value} (hR:∀ w,St w0 h F w→R (.returned v) w) (ps:List Nat:=[])
    (hg:(resE P fn.results l ps h).map (fun r=>(r.1,r.2.map (·.2)))=some (v,((resE P fn.results l ps h).map (fun r=>r.2.map (·.1))).getD []):=by kernel_rfl):gJ (bodyPost P fn R .ret) n l w0 h F:=by
  rw [Option.map_eq_some_iff] at hg
  obtain ⟨⟨v',es⟩,h1,h2⟩:=hg
  rw [h1] at h2
  simp only [Option.map_some,Option.getD_some,Prod.mk.injEq] at h2
  obtain ⟨rfl,h3⟩:=h2
  unfold resE at h1
  split at h1
  · rename_i hr
    exact meets_ret ps es hr h1 (eqs_of h3) hR
  · exact absurd h1 (by simp)
end
section
variable {P : Program} {ops : Array Oper} {D : List Nat} {l : List (Nat × Value)} {w0 : Base} {h : List (Nat × Obj)} {F0 : World → Prop}
variable {vals : (Nat → bH) → Nat → Value} {effs : (Nat → bH) → Nat → Eff} {fact : (Nat → bH) → Nat → World → Prop}
theorem Given.kn {i:Nat} {ρ:Nat→bH} {T:Nat→Prop} {w:World} (hG:Given ops D w0 h F0 effs fact i ρ T w) {g:Nat} {o:Obj} (n:Nat) (hn:dY ops D h (effs ρ) i [n]=true:=by kernel_rfl) (hk:YtaebcmpbbamfpaaGreatDoor.known ops D h (effs ρ) i [n]=[(g,o)]:=by kernel_rfl):w.heap[g]? = some o:=hG.known n hn hk
theorem Given.pK {i:Nat} {ρ:Nat→bH} {T:Nat→Prop} {w:World} (hG:Given ops D w0 h F0 effs fact i ρ T w) (ns:List Nat) {K:List (Nat × Obj)} {G:World→Prop} (hFG:∀ w,F0 w→G w) (hn:dY ops D h (effs ρ) i ns=true:=by kernel_rfl) (hk:YtaebcmpbbamfpaaGreatDoor.known ops D h (effs ρ) i ns=K:=by kernel_rfl):dL (fun b=>b∈K.map (·.1)) G w:=hG.persK ns hn hk hFG
variable {i : Nat}
theorem qC {f:FuncId} {args:(Nat→bH)→Array Value} {v:(Nat→bH)→Value}
    (hf:∀ ρ T w,Given ops D w0 h F0 effs fact i ρ T w→Calls P f (args ρ) w (fun e w'=>e=.returned (v ρ)∧Below w.heap.size w w'))
    (hc:∀ ρ z,eU P ops D l (vals ρ) i z=some (.enter f (args ρ),[],[]):=by intros;kernel_rfl)
    (hv:∀ ρ,vals (upd ρ i {}) i=v ρ:=by intros;kernel_rfl) (he:∀ ρ r,effs (upd ρ i r) i={}:=by intros;kernel_rfl) (ht:∀ ρ,fact ρ i=fun _=>True:=by intros;kernel_rfl):jV P ops D l w0 h F0 vals effs fact i :=
  o_callP i f args v hc hv he (fun ρ w=>by rw [ht];trivial) hf
theorem qB {f:FuncId} {args:(Nat→bH)→Array Value} {v:(Nat→bH)→Option Addr→Nat→Value} {xs:(Nat→bH)→List UInt8}
    (hf:∀ ρ T w,Given ops D w0 h F0 effs fact i ρ T w→Calls P f (args ρ) w (fun e w'=>∃ a c,e=.returned (v ρ a c)∧Below w.heap.size w w'∧Fs w w' a c (xs ρ)))
    (hc:∀ ρ z,eU P ops D l (vals ρ) i z=some (.enter f (args ρ),[],[]):=by intros;kernel_rfl)
    (hv:∀ ρ r,vals (upd ρ i r) i=v ρ r.a (r.n.headD 0):=by intros;kernel_rfl) (he:∀ ρ r,effs (upd ρ i r) i={}:=by intros;kernel_rfl) (ht:∀ ρ r,fact (upd ρ i r) i=(fun w=>Fs w0.w w r.a (r.n.headD 0) (xs ρ)):=by intros;kernel_rfl):jV P ops D l w0 h F0 vals effs fact i :=
  o_callB i f args v xs hc hv he ht hf
theorem qW (ns:List Nat) {f:FuncId} {args:(Nat→bH)→Array Value} {v:(Nat→bH)→Value} {K K':(Nat→bH)→List (Nat × Obj)}
    (hf:∀ ρ T w,Given ops D w0 h F0 effs fact i ρ T w→Knows (K ρ) w→Calls P f (args ρ) w (fun e w'=>e=.returned (v ρ)∧nN (fun b=>b∈(K ρ).map (·.1)) w w'∧Knows (K' ρ) w'))
    (hc:∀ ρ z,eU P ops D l (vals ρ) i z=some (.enter f (args ρ),[],[]):=by intros;kernel_rfl)
    (hv:∀ ρ,vals (upd ρ i {}) i=v ρ:=by intros;kernel_rfl) (he:∀ ρ r,effs (upd ρ i r) i={ puts:=ns.zip (K' ρ)}:=by intros;kernel_rfl)
    (hn:∀ ρ,dY ops D h (effs ρ) i ns=true:=by intros;kernel_rfl) (hk:∀ ρ,YtaebcmpbbamfpaaGreatDoor.known ops D h (effs ρ) i ns=K ρ:=by intros;kernel_rfl) (hl:∀ ρ,(K' ρ).map (·.1)=(K ρ).map (·.1):=by intros;kernel_rfl)
    (hF:∀ ρ,fact ρ i=fun _=>True:=by intros;kernel_rfl):jV P ops D l w0 h F0 vals effs fact i :=
  o_callW i ns f args v K K' hf hc hv he hn hk hl hF
theorem qF {s:(Nat→bH)→Sem Next} {v:(Nat→bH)→Value} (hr:∀ ρ T w,Given ops D w0 h F0 effs fact i ρ T w→(s ρ).run P w=.ok (.value (v ρ)) w)
    (hc:∀ ρ,wL ops (vals ρ) (vals (upd ρ i {}) i) (effs (upd ρ i {}) i) i=some (v ρ,{}):=by intros;kernel_rfl)
    (hx:∀ ρ,execOp (dC ops D l (vals ρ) i) (opAt ops i)=s ρ:=by intros;kernel_rfl) (ht:∀ ρ,fact ρ i=fun _=>True:=by intros;kernel_rfl):jV P ops D l w0 h F0 vals effs fact i :=
  o_semF i s v hc hx hr (fun ρ T w _=>by rw [ht];exact cO)
theorem qS {s:(Nat→bH)→Sem Next} {v:(Nat→bH)→Value} (hr:∀ ρ w,(s ρ).run P w=.ok (.value (v ρ)) w)
    (hc:∀ ρ,wL ops (vals ρ) (vals (upd ρ i {}) i) (effs (upd ρ i {}) i) i=some (v ρ,{}):=by intros;kernel_rfl)
    (hx:∀ ρ,execOp (dC ops D l (vals ρ) i) (opAt ops i)=s ρ:=by intros;kernel_rfl):jV P ops D l w0 h F0 vals effs (fun _ _ _=>True) i :=
  o_sem i s v hc hx hr
theorem qN {s:(Nat→bH)→Sem Next} (v:(Nat→bH)→List Nat→Value) (ob:(Nat→bH)→List Nat→Obj)
    (hr:∀ ρ T w,Given ops D w0 h F0 effs fact i ρ T w→∃ k w',(s ρ).run P w=.ok (.value (v ρ [w.heap.size,k])) w'∧Grew w w' (ob ρ [w.heap.size,k]))
    (hc:∀ ρ z,rP ops (vals ρ) (vals (upd ρ i { n:=z}) i) (effs (upd ρ i { n:=z}) i) i=some (v ρ z,{ news:=[(z.headD 0,ob ρ z)]}):=by intros;kernel_rfl)
    (hx:∀ ρ,execOp (dC ops D l (vals ρ) i) (opAt ops i)=s ρ:=by intros;kernel_rfl) (ht:∀ ρ,fact ρ i=fun _=>True:=by intros;kernel_rfl):jV P ops D l w0 h F0 vals effs fact i :=
  uB i s v ob hc hx (fun ρ w=>by rw [ht];trivial) hr
theorem qM (n:Nat) {s:(Nat→bH)→Sem Next} {g:(Nat→bH)→Nat} {ob:(Nat→bH)→Obj} {ob':(Nat→bH)→bH→Obj} {v:(Nat→bH)→bH→Value} {p:(Nat→bH)→bH→Prop}
    (hr:∀ ρ T w,Given ops D w0 h F0 effs fact i ρ T w→w.heap[g ρ]? = some (ob ρ)→∃ r w',(s ρ).run P w=.ok (.value (v ρ r)) w'∧p ρ r∧Moved w w' (g ρ) (r.n.headD 0) (ob' ρ r))
    (hc:∀ ρ r,rP ops (vals ρ) (vals (upd ρ i r) i) (effs (upd ρ i r) i) i=some (v ρ r,{ puts:=[(n,r.n.headD 0,ob' ρ r)]}):=by intros;kernel_rfl)
    (hn:∀ ρ,dY ops D h (effs ρ) i [n]=true:=by intros;kernel_rfl) (hk:∀ ρ,YtaebcmpbbamfpaaGreatDoor.known ops D h (effs ρ) i [n]=[(g ρ,ob ρ)]:=by intros;kernel_rfl)
    (hx:∀ ρ,execOp (dC ops D l (vals ρ) i) (opAt ops i)=s ρ:=by intros;kernel_rfl) (ht:∀ ρ r,fact (upd ρ i r) i=(fun _=>p ρ r):=by intros;kernel_rfl):jV P ops D l w0 h F0 vals effs fact i :=
  o_move1 i n s g ob ob' v p hc hn hk hx ht hr
end
abbrev vi (z:Int):Value:=.int .i64 z
abbrev vn (n:Nat):Value:=.int .i64 ((n:Nat):Int)
abbrev vs (g n c:Nat):Value:=.slice (some ⟨g,0,none⟩) n c
abbrev cL (C:Array Value) (T:TypeId):Obj:=.cells C T (0,0)
abbrev nw (ρ:Nat→bH) (k:Nat) (o:Obj):Eff:={ news:=[(nb ρ k,o)]}
abbrev bD (n g:Nat) (o:Obj):Eff:={ puts:=[(n,g,o)]}
theorem yT {p:Prop} [Decidable p] (h:decide p=true):p:=of_decide_eq_true h
theorem yF {p:Prop} [Decidable p] (h:decide p=false): ¬p:=of_decide_eq_false h
abbrev vu (n:Nat):Value:=.int .u32 ((n:Nat):Int)
abbrev vy (n:Nat):Value:=.int .u8 ((n:Nat):Int)
abbrev vx (n:Nat):Value:=.int .u64 ((n:Nat):Int)
abbrev jp (a i:Nat):Value:=.pointer (some ⟨a,i,none⟩)
abbrev jA (a:Option Addr) (c k z:Nat):Option Addr:=if c=k then a else a.map (·.add (k*z))
abbrev vz:Value:=.slice none 0 0
abbrev vT:Value:=.bool true
abbrev vF:Value:=.bool false
def jZ:Nat→bH:=fun _=>{}
section
variable {P : Program} {Q : Exit → Act → World → Prop} {n : Nat} {l : List (Nat × Value)} {w0 : Base} {h : List (Nat × Obj)} {F : World → Prop}
theorem trueL_c (ρ:Nat→bH):∀ i k,factL (fun _ _ _=>True) ρ i k=trueL k
  | _,0=>rfl
  | i,k+1=>congrArg (List.cons _) (trueL_c ρ (i+1) k)
theorem jM {id:Nat} {ops:Array Oper} {y:Code} (fn:Func) (m:Nat) (keep hb:List Nat) (vs:List Value) (nss:List (List Nat))
    (k:Ok P y Q n (tV (dP fn id) l (mv (fun _=>vs) jZ) keep) w0 (oW hb (rJ m h (me (fun _=>[]) jZ))) F)
    (hc:∀ ρ z,chkL P (dP fn id) (dsq m) l h (mv (fun _=>vs)) (me (fun _=>[])) ρ z 0 nss=chkR P (dP fn id) (dsq m) l h (mv (fun _=>vs)) (me (fun _=>[])) ρ z 0 nss:=by intros;kernel_rfl)
    (hm:m≤nss.length:=by exact Nat.le_of_ble_eq_true rfl)
    (hloc:∀ ρ,uK (fun _=>vs) (fun _=>[]) (fun _=>[]) ρ m=uD (dsq m) (fun _=>vs) (fun _=>[]) (fun _=>[]) ρ m:=by intros;kernel_rfl) (e:ops=dP fn id:=by kernel_rfl) (hchk:sqOk (dP fn id) m n l keep=true:=by kernel_rfl):Ok P (.seq (.region id ops false) y) Q n l w0 h F :=
  sS fn m keep hb (fun _=>vs) (fun _=>[]) (cR nss (cN (by rw [Nat.zero_add];exact hm)) hc (fun ρ=>trueL_c ρ 0 nss.length)) (fun _=>k) hloc e hchk
theorem jL {id:Nat} {ops:Array Oper} (fn:Func) (m:Nat) (keep hb:List Nat) (vs:List Value) (nss:List (List Nat))
    (k:gJ (Q .normal) n (tV (dP fn id) l (mv (fun _=>vs) jZ) keep) w0 (oW hb (rJ m h (me (fun _=>[]) jZ))) F)
    (hc:∀ ρ z,chkL P (dP fn id) (dsq m) l h (mv (fun _=>vs)) (me (fun _=>[])) ρ z 0 nss=chkR P (dP fn id) (dsq m) l h (mv (fun _=>vs)) (me (fun _=>[])) ρ z 0 nss:=by intros;kernel_rfl)
    (hm:m≤nss.length:=by exact Nat.le_of_ble_eq_true rfl)
    (hloc:∀ ρ,uK (fun _=>vs) (fun _=>[]) (fun _=>[]) ρ m=uD (dsq m) (fun _=>vs) (fun _=>[]) (fun _=>[]) ρ m:=by intros;kernel_rfl) (e:ops=dP fn id:=by kernel_rfl) (hchk:sqOk (dP fn id) m n l keep=true:=by kernel_rfl):Ok P (.region id ops false) Q n l w0 h F :=
  rS fn m keep hb (fun _=>vs) (fun _=>[]) (cR nss (cN (by rw [Nat.zero_add];exact hm)) hc (fun ρ=>trueL_c ρ 0 nss.length)) (fun _=>k) hloc e hchk
theorem jJ {id:Nat} {ops:Array Oper} {y:Code} (fn:Func) (m:Nat) (keep:List Nat) (vs:List Value)
    (k:Ok P y Q n (tV (dP fn id) l (mv (fun _=>vs) jZ) keep) w0 (oW [] (rJ m h (me (fun _=>[]) jZ))) F)
    (hc:∀ ρ z,chkL P (dP fn id) (dsq m) l h (mv (fun _=>vs)) (me (fun _=>[])) ρ z 0 (List.replicate m [])=chkR P (dP fn id) (dsq m) l h (mv (fun _=>vs)) (me (fun _=>[])) ρ z 0 (List.replicate m []):=by intros;kernel_rfl)
    (hloc:∀ ρ,uK (fun _=>vs) (fun _=>[]) (fun _=>[]) ρ m=uD (dsq m) (fun _=>vs) (fun _=>[]) (fun _=>[]) ρ m:=by intros;kernel_rfl) (e:ops=dP fn id:=by kernel_rfl) (hchk:sqOk (dP fn id) m n l keep=true:=by kernel_rfl):Ok P (.seq (.region id ops false) y) Q n l w0 h F :=
  jM fn m keep [] vs (List.replicate m []) k hc (Nat.le_of_eq (List.length_replicate).symm) hloc e hchk
end
abbrev jR (v:Value) (w0:World):Ending→World→Prop:=fun ε w'=>ε=.returned v∧Below w0.heap.size w0 w'
abbrev jG (w0 w':World):Prop:=Below w0.heap.size w0 w'
theorem jB {a b:Bool} (h:a=b):Ending.returned (.bool a)=Ending.returned (.bool b):=congrArg (fun x=>Ending.returned (.bool x)) h
theorem jI {a b:Int} (h:a=b):Value.int .i64 a=Value.int .i64 b:=congrArg _ h
theorem jN {a b:Int} (h:a=b):Value.int .u32 a=Value.int .u32 b:=congrArg _ h
theorem jK {α:Type} [BEq α] {a b c:α} {r:Bool} (h:a=b) (e:(b==c)=r):(a==c)=r:=by rw [h];exact e
theorem jT {w:World}:dL (fun _=>False) (fun _=>True) w:=dB (fun _=>trivial)
section
variable {P : Program} {ops : Array Oper} {D : List Nat} {l : List (Nat × Value)} {w0 : Base} {h : List (Nat × Obj)} {F0 : World → Prop}
variable {vals : (Nat → bH) → Nat → Value} {effs : (Nat → bH) → Nat → Eff} {fact : (Nat → bH) → Nat → World → Prop}
theorem Given.fn {i:Nat} {ρ:Nat→bH} {T:Nat→Prop} {w:World} (hG:Given ops D w0 h F0 effs fact i ρ T w):F0 w:=hG.facts0.now
theorem jS {i:Nat} (x:(Nat→bH)→Sem Value) (v:(Nat→bH)→Value) (hr:∀ ρ w,(do pure (Next.value (← x ρ)):Sem Next).run P w=.ok (.value (v ρ)) w)
    (hc:∀ ρ,wL ops (vals ρ) (vals (upd ρ i {}) i) (effs (upd ρ i {}) i) i=some (v ρ,{}):=by intros;kernel_rfl) (hx:∀ ρ,execOp (dC ops D l (vals ρ) i) (opAt ops i)=(do pure (Next.value (← x ρ))):=by intros;kernel_rfl):jV P ops D l w0 h F0 vals effs (fun _ _ _=>True) i:=o_sem i (fun ρ=>do pure (Next.value (← x ρ))) v hc hx hr
theorem jF {i:Nat} (x:(Nat→bH)→Sem Value) (v:(Nat→bH)→Value) (hr:∀ ρ T w,Given ops D w0 h F0 effs fact i ρ T w→(do pure (Next.value (← x ρ)):Sem Next).run P w=.ok (.value (v ρ)) w) (hf:∀ ρ T w,Given ops D w0 h F0 effs fact i ρ T w→dL T (fact (upd ρ i {}) i) w)
    (hc:∀ ρ,wL ops (vals ρ) (vals (upd ρ i {}) i) (effs (upd ρ i {}) i) i=some (v ρ,{}):=by intros;kernel_rfl) (hx:∀ ρ,execOp (dC ops D l (vals ρ) i) (opAt ops i)=(do pure (Next.value (← x ρ))):=by intros;kernel_rfl):jV P ops D l w0 h F0 vals effs fact i:=o_semF i (fun ρ=>do pure (Next.value (← x ρ))) v hc hx hr hf
theorem jE {m i:Nat} (nss:List (List Nat)) (hm:m≤i+nss.length:=by exact Nat.le_of_ble_eq_true rfl)
    (hc:∀ ρ z,chkL P ops D l h vals effs ρ z i nss=chkR P ops D l h vals effs ρ z i nss:=by intros;kernel_rfl)
    (hf:∀ ρ,factL fact ρ i nss.length=trueL nss.length:=by intros;kernel_rfl):Chain m (jV P ops D l w0 h F0 vals effs fact) i:=cR nss (cN hm) hc hf
theorem jW {m i:Nat} (x:(Nat→bH)→Int) (y:(Nat→bH)→Nat) (he:∀ ρ,IntKind.i64.wrap (x ρ)=(y ρ:Int)) (t:Chain m (jV P ops D l w0 h F0 vals effs fact) (i+1))
    (hc:∀ ρ z,pM P ops D l (vals ρ) (vals (upd ρ i {}) i) (effs (upd ρ i {}) i) i z=some (.value (.int .i64 (IntKind.i64.wrap (x ρ))),[],[],.int .i64 (y ρ:Int),{}):=by intros;kernel_rfl) (hF:∀ ρ,fact ρ i=fun _=>True:=by intros;kernel_rfl):Chain m (jV P ops D l w0 h F0 vals effs fact) i :=
  cA (v:=fun ρ=>.int .i64 (IntKind.i64.wrap (x ρ))) (fun ρ=>.int .i64 (y ρ:Int)) (fun ρ=>jI (he ρ)) t hc hF
theorem jU {m i:Nat} (x:(Nat→bH)→Int) (y:(Nat→bH)→Int) (he:∀ ρ,IntKind.i64.wrap (x ρ)=y ρ) (t:Chain m (jV P ops D l w0 h F0 vals effs fact) (i+1))
    (hc:∀ ρ z,pM P ops D l (vals ρ) (vals (upd ρ i {}) i) (effs (upd ρ i {}) i) i z=some (.value (.int .i64 (IntKind.i64.wrap (x ρ))),[],[],.int .i64 (y ρ),{}):=by intros;kernel_rfl) (hF:∀ ρ,fact ρ i=fun _=>True:=by intros;kernel_rfl):Chain m (jV P ops D l w0 h F0 vals effs fact) i :=
  cA (v:=fun ρ=>.int .i64 (IntKind.i64.wrap (x ρ))) (fun ρ=>.int .i64 (y ρ)) (fun ρ=>jI (he ρ)) t hc hF
theorem jQ {m i:Nat} (x:(Nat→bH)→Bool) (y:Bool) (he:∀ ρ,x ρ=y) (t:Chain m (jV P ops D l w0 h F0 vals effs fact) (i+1))
    (hc:∀ ρ z,pM P ops D l (vals ρ) (vals (upd ρ i {}) i) (effs (upd ρ i {}) i) i z=some (.value (.bool (x ρ)),[],[],.bool y,{}):=by intros;kernel_rfl) (hF:∀ ρ,fact ρ i=fun _=>True:=by intros;kernel_rfl):Chain m (jV P ops D l w0 h F0 vals effs fact) i :=
  cA (v:=fun ρ=>.bool (x ρ)) (fun _=>.bool y) (fun ρ=>congrArg Value.bool (he ρ)) t hc hF
end
theorem bits_xorU {k:IntKind} (hk:k.signed=false) {a b:Nat} (ha:a<2^k.bits) (hb:b<2^k.bits):bits .xor k (a:Int) (b:Int)=((a^^^b:Nat):Int):=by
  have e:∀ n:Nat,n<2^k.bits→(BitVec.ofInt k.bits (n:Int)).toNat=n:=by
    intro n hn
    rw [BitVec.toNat_ofInt]
    rw [show ((2^k.bits:Nat):Int)=((2^k.bits:Nat):Int) from rfl,← Int.natCast_emod,Int.toNat_natCast,Nat.mod_eq_of_lt hn]
  unfold bits
  simp only []
  rw [BitVec.toNat_xor,e a ha,e b hb,oO hk (Nat.xor_lt_two_pow ha hb)]
theorem lH {a b:Nat} (ha:a<4294967296) (hb:b<4294967296):bits .xor .u32 (a:Int) (b:Int)=((a^^^b:Nat):Int):=bits_xorU rfl ha hb
theorem xR {a b:Nat} (ha:a<4294967296) (hb:b<4294967296):bits .and .u32 (a:Int) (b:Int)=((a&&&b:Nat):Int):=bits_andU rfl ha hb
theorem not_xor32 {a:Nat} (ha:a<4294967296):bits .xor .u32 4294967295 (a:Int)=((dW a:Nat):Int):=by
  refine (bits_xorU (k:=.u32) rfl (a:=4294967295) (b:=a) (by decide) ha).trans ?_
  congr 1
  unfold dW
  have h:(4294967295-BitVec.ofNat 32 a).toNat=(BitVec.ofNat 32 a^^^4294967295).toNat:=by
    have h2:BitVec.ofNat 32 a^^^4294967295= ~~~ (BitVec.ofNat 32 a):=by
      rw [show (4294967295:BitVec 32)=BitVec.allOnes 32 from rfl,BitVec.xor_allOnes]
    rw [h2,BitVec.toNat_not,BitVec.toNat_sub]
    have h3:(BitVec.ofNat 32 a).toNat=a:=by simp [Nat.mod_eq_of_lt ha]
    rw [h3]
    show (2^32-a+4294967295)%2^32=2^32-1-a
    omega
  have h3:(BitVec.ofNat 32 a).toNat=a:=by simp [Nat.mod_eq_of_lt ha]
  rw [BitVec.toNat_xor,BitVec.toNat_sub,h3] at h
  have h4:(4294967295:BitVec 32).toNat=4294967295:=rfl
  rw [h4] at h
  rw [Nat.xor_comm,← h]
  show (2^32-a+4294967295)%2^32=4294967295-a
  omega
theorem bP (x y:Nat):IntKind.u32.wrap ((x:Int)+(y:Int))=((add32 x y:Nat):Int):=by
  rw [← Int.natCast_add];exact u32M (x+y)
theorem u64_neg {n:Nat} (h0:0<n) (h:n<32):IntKind.u64.wrap (0-(n:Int))=((18446744073709551616-n:Nat):Int):=by
  simp only [IntKind.wrap]
  show (0-(n:Int))%18446744073709551616=_
  omega
theorem and31 {n:Nat} (h0:0<n) (h:n<32):bits .and .u64 ((18446744073709551616-n:Nat):Int) 31=((32-n:Nat):Int):=by
  refine (bits_andU (k:=.u64) rfl (a:=18446744073709551616-n) (b:=31) (by show _<18446744073709551616;omega) (by decide)).trans ?_
  congr 1
  rw [show (31:Nat)=2^5-1 from rfl,Nat.and_two_pow_sub_one_eq_mod]
  omega
theorem u64_32 {n:Nat} (h0:0<n) (h:n<32):IntKind.u64.wrap (32-((32-n:Nat):Int))=((n:Nat):Int):=by
  rw [show (32:Int)-((32-n:Nat):Int)=((n:Nat):Int) by omega]
  exact u64N (by omega)
theorem run_shlM {P:Program} {t:TypeId} {yk:IntKind} {x c:Nat} (hc:c≤32) (w:World):(binOp .shl t (.int .u32 (x:Int)) (.int yk (c:Int))).run P w=.ok (.int .u32 ((x*2^c%4294967296:Nat):Int)) w:=by
  have e:IntKind.u32.wrap ((x:Int)*2^(min (c:Int).toNat IntKind.u32.bits))=((x*2^c%4294967296:Nat):Int):=by
    rw [Int.toNat_natCast,Nat.min_eq_left (show c≤IntKind.u32.bits from hc),show (x:Int)*2^c=((x*2^c:Nat):Int) by simp]
    exact u32M _
  simp only [binOp,Op.shift,if_neg (by omega: ¬ (c:Int)<0),e]
  rfl
theorem or_rot {x n:Nat} (hx:x<4294967296):bits .or .u32 ((x*2^(32-n)%4294967296:Nat):Int) ((x / 2^n:Nat):Int)=((aH x n:Nat):Int) :=
  bits_orU (k:=.u32) rfl (Nat.mod_lt _ (by decide)) (rV n hx)
def zJ (X:List UInt8) (i:Nat):Nat→Nat
  | 0=>0
  | j+1=>zJ X i j*256+gB X (4*i+j)
theorem pwb_lt (X:List UInt8) (i:Nat):∀ j,zJ X i j<256^j
  | 0=>by simp [zJ]
  | j+1=>by have:=pwb_lt X i j;have:=iD X (4*i+j);rw [zJ,Nat.pow_succ];omega
theorem pwb_small {X:List UInt8} {i j:Nat} (h:j<4):zJ X i j<16777216 :=
  Nat.lt_of_lt_of_le (pwb_lt X i j) (by rw [show (16777216:Nat)=256^3 from rfl];exact Nat.pow_le_pow_right (by decide) (by omega))
theorem pwb_word (X:List UInt8) (i:Nat):zJ X i 4=word X i:=by simp [zJ,word]
theorem run_pw8 {P:Program} {t:TypeId} {X:List UInt8} {i j:Nat} (h:j<4) (w:World):(binOp .shl t (.int .u32 ((zJ X i j:Nat):Int)) (.int .u64 8)).run P w=.ok (.int .u32 ((zJ X i j*256:Nat):Int)) w :=
  sV (k:=.u32) (yk:=.u64) (x:=zJ X i j) (c:=8) rfl (by have:=pwb_small (X:=X) (i:=i) h;show zJ X i j*256<4294967296;omega) (fun _=>by decide) w
theorem or_pw {X:List UInt8} {i j:Nat} (h:j<4):bits .or .u32 ((zJ X i j*256:Nat):Int) ((gB X (4*i+j):Nat):Int)=((zJ X i (j+1):Nat):Int):=by
  have h1:=pwb_small (X:=X) (i:=i) h
  have h2:=iD X (4*i+j)
  rw [bits_orU (k:=.u32) rfl (by show _<4294967296;omega) (by show _<4294967296;omega)]
  congr 1
  rw [Nat.mul_comm,show (256:Nat)=2^8 from rfl,← Nat.two_pow_add_eq_or_of_lt h2,zJ,Nat.mul_comm]
theorem or_gen {x y k:Nat} (h:y<2^k) (hx:x*2^k<4294967296) (hy:y<4294967296):bits .or .u32 ((x*2^k:Nat):Int) ((y:Nat):Int)=((x*2^k+y:Nat):Int):=by
  rw [bits_orU (k:=.u32) rfl hx hy]
  congr 1
  rw [Nat.mul_comm,← Nat.two_pow_add_eq_or_of_lt h]
theorem or_w1 {a b:Nat} (ha:a<256) (hb:b<256):bits .or .u32 ((a*16777216:Nat):Int) ((b*65536:Nat):Int)=(((a*256+b)*65536:Nat):Int) :=
  (or_gen (x:=a) (y:=b*65536) (k:=24) (by show _<16777216;omega) (by show a*16777216<_;omega) (by omega)).trans (congrArg Nat.cast (show a*16777216+b*65536=_ by omega))
theorem or_w2 {a b c:Nat} (ha:a<256) (hb:b<256) (hc:c<256):bits .or .u32 (((a*256+b)*65536:Nat):Int) ((c*256:Nat):Int)=((((a*256+b)*256+c)*256:Nat):Int) :=
  (or_gen (x:=a*256+b) (y:=c*256) (k:=16) (by show _<65536;omega) (by show (a*256+b)*65536<_;omega) (by omega)).trans (congrArg Nat.cast (show (a*256+b)*65536+c*256=_ by omega))
theorem or_w3 {X:List UInt8} {i:Nat}:bits .or .u32 ((((gB X (4*i)*256+gB X (4*i+1))*256+gB X (4*i+2))*256:Nat):Int) ((gB X (4*i+3):Nat):Int)=((word X i:Nat):Int):=by
  have h0:=iD X (4*i);have h1:=iD X (4*i+1);have h2:=iD X (4*i+2);have h3:=iD X (4*i+3)
  exact or_gen (x:=(gB X (4*i)*256+gB X (4*i+1))*256+gB X (4*i+2)) (y:=gB X (4*i+3)) (k:=8) h3 (by show _*256<_;omega) (by omega)
def sc (X:List UInt8) (i j m:Nat):Nat:=if m<i then word X m else if m=i then zJ X i j else 0
def tc (X:List UInt8) (i m:Nat):Nat:=if m<i then wN X m else 0
theorem sc_zero (X:List UInt8) (m:Nat):sc X 0 0 m=0:=by unfold sc;rw [if_neg (by omega)];split<;>rfl
theorem sc_at (X:List UInt8) (i j:Nat):sc X i j i=zJ X i j:=by unfold sc;rw [if_neg (by omega),if_pos rfl]
theorem sc_set {X:List UInt8} {i j:Nat}:(bY .u32 64 (sc X i j)).setIfInBounds i (.int .u32 ((zJ X i (j+1):Nat):Int))=bY .u32 64 (sc X i (j+1)):=by
  rw [wI]
  refine fG fun m _=>?_
  by_cases e:m=i
  · rw [if_pos e,e,sc_at]
  · rw [if_neg e];unfold sc;rw [if_neg e,if_neg e]
theorem sc_next (X:List UInt8) (i:Nat):bY .u32 64 (sc X i 4)=bY .u32 64 (sc X (i+1) 0):=by
  refine fG fun m _=>?_
  unfold sc
  by_cases h1:m<i
  · rw [if_pos h1,if_pos (by omega)]
  · rw [if_neg h1]
    by_cases h2:m=i
    · rw [if_pos h2,if_pos (by omega),h2,pwb_word]
    · rw [if_neg h2, if_neg (by omega)]
      split<;>rfl
theorem sc_tc (X:List UInt8):bY .u32 64 (sc X 16 0)=bY .u32 64 (tc X 16):=by
  refine fG fun m _=>?_
  unfold sc tc
  by_cases h1:m<16
  · rw [if_pos h1,if_pos h1,wN_word h1]
  · rw [if_neg h1,if_neg h1];split<;>rfl
theorem sc_word {X:List UInt8} {i:Nat}:(bY .u32 64 (sc X i 0)).setIfInBounds i (.int .u32 ((word X i:Nat):Int))=bY .u32 64 (sc X (i+1) 0):=by
  rw [wI]
  refine fG fun m _=>?_
  unfold sc
  by_cases e:m=i
  · rw [if_pos e,if_pos (by omega),e]
  · rw [if_neg e, if_neg e]
    by_cases h1:m<i
    · rw [if_pos h1,if_pos (by omega)]
    · rw [if_neg h1,if_neg (by omega)];split<;>rfl
theorem lM {X:List UInt8} {i m:Nat} (h:m<i) (h64:m<64):(bY .u32 64 (tc X i))[m]? = some (.int .u32 ((wN X m:Nat):Int)):=by
  rw [nG h64,tc,if_pos h]
theorem tc_set {X:List UInt8} {i v:Nat} (hv:v=wN X i):(bY .u32 64 (tc X i)).setIfInBounds i (.int .u32 ((v:Nat):Int))=bY .u32 64 (tc X (i+1)):=by
  rw [wI]
  refine fG fun m _=>?_
  unfold tc
  by_cases e:m=i
  · rw [if_pos e,if_pos (by omega),e,hv]
  · rw [if_neg e]
    by_cases h1:m<i
    · rw [if_pos h1,if_pos (by omega)]
    · rw [if_neg h1,if_neg (by omega)]
theorem tc_end {X:List UInt8} {i:Nat} (h:64≤i):bY .u32 64 (tc X i)=bY .u32 64 (wN X):=by
  refine fG fun m hm=>?_
  rw [tc,if_pos (by omega)]
theorem kC_get {i:Nat} (h:i<64):(bY .u32 64 kN)[i]? = some (.int .u32 ((kN i:Nat):Int)):=nG h
theorem cmp_end {X:List UInt8} {a b c d e f g h a' b' c' d' e' f' g' h' i:Nat} (hr:rnds X (a,b,c,d,e,f,g,h) i=(a',b',c',d',e',f',g',h')) (hi:i=64) :
    eF (a,b,c,d,e,f,g,h) X=(add32 a a',add32 b b',add32 c c',add32 d d',add32 e e',add32 f f',add32 g g',add32 h h'):=by
  subst hi
  rw [eF,hr];rfl
theorem mid_take {m:List UInt8} {a:Nat} (n:Nat) (_h:a+n≤m.length):(mid m a m.length).take n=mid m a (a+n):=by
  unfold mid
  rw [List.take_length,List.take_drop,Nat.add_comm]
theorem bne0N {x:Nat} (h:((x:Int) != 0)=true):x≠0:=bneN (k:=0) h
theorem bne0N' {x:Nat} (h:((x:Int) != 0)=false):x=0:=bneN' (k:=0) h
theorem nZ {j:Nat} {X:List UInt8} (hX:X=128::List.replicate j 0):X.length=j+1:=by rw [hX];simp
theorem pad_hd0 (n:Nat):Hd ((zB (9+zeros n)).setIfInBounds 0 (.int .u8 128)) (128::List.replicate (zeros n) 0):=by
  unfold Hd zB
  simp only [Array.toList_setIfInBounds]
  rw [show 9+zeros n=(zeros n+8)+1 by omega,List.replicate_succ]
  show (((bv 0::bs (List.replicate (zeros n+8) 0)).set 0 (.int .u8 128)).take (List.replicate (zeros n) (0:UInt8)).length.succ)=_
  rw [List.set_cons_zero,List.take_succ_cons,List.length_replicate]
  show _=bv 128::bs (List.replicate (zeros n) 0)
  congr 1
  unfold bs
  rw [List.map_replicate,List.map_replicate,List.take_replicate,Nat.min_eq_left (by omega)]
theorem pad_next {n i:Nat} {X:List UInt8} (hX:X=128::(List.replicate (zeros n) 0++be8 (8*n) i)):X++[ob ((8*n / 2^(56-8*i)%256:Nat):Int)]=128::(List.replicate (zeros n) 0++be8 (8*n) (i+1)):=by
  rw [hX,be8_succ];simp
theorem pad_end {n i:Nat} {X:List UInt8} (hX:X=128::(List.replicate (zeros n) 0++be8 (8*n) i)) (hi:i=8):X=aY n:=by
  subst hi;exact hX
theorem dZ {n i:Nat} {X:List UInt8} (hX:X=128::(List.replicate (zeros n) 0++be8 (8*n) i)):X.length=1+zeros n+i:=by
  rw [hX];simp [be8_length];omega
theorem zer_next {j:Nat} {X:List UInt8} (hX:X=128::List.replicate j 0):X++[0]=128::List.replicate (j+1) 0:=by
  rw [hX,List.replicate_succ'];rfl
theorem xAA {n j:Nat} (hj:j≤zeros n) (h:(n+(j+1)+8)%64≠0):j<zeros n:=by
  unfold zeros at *;omega
theorem zer_end {n j:Nat} (hj:j≤zeros n) (h:(n+(j+1)+8)%64=0):j=zeros n:=by
  unfold zeros at *;omega
theorem zer_be {n j:Nat} {X:List UInt8} (hX:X=128::List.replicate j 0) (hj:j=zeros n):X=128::(List.replicate (zeros n) 0++be8 (8*n) 0):=by
  rw [hX,hj];simp [be8]
def yU (s:nS) (m j:Nat):Nat:=if j<m then gW s (j / 4) / 2^(24-j%4*8)%256 else 0
theorem hB0_row (s:nS):hB 0=bY .u8 32 (yU s 0):=by
  have h:bY .u8 32 (yU s 0)=bY .u8 32 (fun _=>0):=fG fun m _=>by unfold yU;rw [if_neg (by omega)]
  exact (show hB 0=bY .u8 32 (fun _=>0) by kernel_rfl).trans h.symm
theorem zI {s:nS} {m v:Nat} (hv:v=gW s (m / 4) / 2^(24-m%4*8)%256):(bY .u8 32 (yU s m)).setIfInBounds m (.int .u8 ((v:Nat):Int))=bY .u8 32 (yU s (m+1)):=by
  rw [wI]
  refine fG fun j _=>?_
  unfold yU
  by_cases e:j=m
  · rw [if_pos e,if_pos (by omega),e,hv]
  · rw [if_neg e]
    by_cases h1:j<m
    · rw [if_pos h1,if_pos (by omega)]
    · rw [if_neg h1,if_neg (by omega)]
theorem dgf_end {s:nS} {m:Nat} (h:32≤m):bY .u8 32 (yU s m)=hB (nB (digL s)):=by
  rw [← rowK_bytes]
  refine fG fun j hj=>?_
  rw [yU,if_pos (by omega)]
theorem sha_next {m:List UInt8} {i:Nat} {s:nS} (hS:shaS m i=s) (h:64*i+64≤m.length):shaS m (i+1)=eF s ((mid m (64*i) m.length).take 64):=by
  rw [shaS,hS,mid_take 64 h]
theorem sha_end {b:List UInt8} {i:Nat} {s:nS} (hS:shaS (b++aY b.length) i=s) (hi:i=(b++aY b.length).length / 64):nB (digL s)=aU b:=by
  subst hi;rw [← hS];rfl
theorem bJ (b:List UInt8):(b++aY b.length).length=b.length+zeros b.length+9:=by rw [List.length_append,yG];omega
section
variable {P : Program} {e : TypeId}
end
theorem copy_arr {C:Array Value} {n:Nat} {xs:List UInt8} (hC:C.size=n) (h:n≤xs.length):inpl C 0 (bs (xs.take n))=(bs (xs.take n)).toArray:=by
  unfold inpl
  have hl:(bs (xs.take n)).length=n:=by rw [dH,List.length_take];omega
  rw [List.take_zero,List.nil_append,hl,Nat.zero_add,List.drop_of_length_le (by rw [Array.length_toList];omega),List.append_nil]
theorem idx_arr8 {P:Program} {t el:TypeId} (hu:P.underlying t=some (.array 8 el)) (he:P.underlying el=some (.int .u32)) (hs:∀ w,(sizeOf el).run P w=.ok 1 w) {a b c d e f g h j:Nat} (hj:j<8) (w:World) :
    (do pure (Next.value (← Instr.index t (.agg #[Value.int .u32 ((a:Nat):Int),.int .u32 ((b:Nat):Int),.int .u32 ((c:Nat):Int),.int .u32 ((d:Nat):Int),.int .u32 ((e:Nat):Int),.int .u32 ((f:Nat):Int),.int .u32 ((g:Nat):Int),.int .u32 ((h:Nat):Int)]) (.int .i64 ((j:Nat):Int)))):Sem Next).run P w=.ok (.value (.int .u32 ((gW (a,b,c,d,e,f,g,h) j:Nat):Int))) w:=by
  have hp:=uC (P:=P) he _ j _ (sel_get (a:=a) (b:=b) (c:=c) (d:=d) (e:=e) (f:=f) (g:=g) (h:=h) hj) w
  have hc:(0:Int)≤(j:Int)∧(j:Int)<((8:Nat):Int):=by omega
  simp only [Instr.index,asIntOf,Sem.run_bind,Sem.run_pure,Result.andThen_ok,run_underlying hu,if_pos hc,hs,Int.toNat_natCast,Nat.mul_one,hp]
abbrev kJ (w:World):Prop:=Kb w 1 (bY .u32 64 kN)
abbrev kX (w:World):Prop:=Kb w 0 #[.int .u32 1779033703,.int .u32 3144134277,.int .u32 1013904242,.int .u32 2773480762,.int .u32 1359893119,.int .u32 2600822924,.int .u32 528734635,.int .u32 1541459225]
def xO (n:Nat) (pa:Nat→Option Addr) (pc:Nat→Nat) (pB:Nat→List UInt8):Array Value:=((List.range n).map fun k=>Value.slice (pa k) (pB k).length (pc k)).toArray
theorem uX {n:Nat} {pa:Nat→Option Addr} {pc:Nat→Nat} {pB:Nat→List UInt8} {k:Nat} (h:k<n):(xO n pa pc pB)[k]? = some (.slice (pa k) (pB k).length (pc k)):=by
  simp [xO,h]
def rO (w:World) (n:Nat) (pa:Nat→Option Addr) (pc:Nat→Nat) (pB:Nat→List UInt8):Prop:=∀ k,k<n→Bs w (pa k) (pc k) (pB k)
theorem rO.pers0 {w:World} {n:Nat} {pa:Nat→Option Addr} {pc:Nat→Nat} {pB:Nat→List UInt8} (h:rO w n pa pc pB):dL (fun _=>False) (fun w=>rO w n pa pc pB) w:=by
  refine ⟨fun b=>b<w.heap.size,fun b hb=>⟨hb,id⟩,fun w' hw k hk=>?_⟩
  obtain ⟨S,s1,s2⟩:=(h k hk).pers0
  exact s2 w' (fun b hb=>hw b (s1 b hb).1)
theorem allB2 {w:World} {a0 a1:Option Addr} {c0 c1:Nat} {B0 B1:List UInt8} (h0:Bs w a0 c0 B0) (h1:Bs w a1 c1 B1):rO w 2 (fun k=>[a0,a1].getD k none) (fun k=>[c0,c1].getD k 0) (fun k=>[B0,B1].getD k []):=by
  intro k hk
  rcases (by omega:k=0∨k=1) with rfl | rfl
  · exact h0
  · exact h1
theorem allB3 {w:World} {a0 a1 a2:Option Addr} {c0 c1 c2:Nat} {B0 B1 B2:List UInt8} (h0:Bs w a0 c0 B0) (h1:Bs w a1 c1 B1) (h2:Bs w a2 c2 B2):rO w 3 (fun k=>[a0,a1,a2].getD k none) (fun k=>[c0,c1,c2].getD k 0) (fun k=>[B0,B1,B2].getD k []):=by
  intro k hk
  rcases (by omega:k=0∨k=1∨k=2) with rfl | rfl | rfl
  · exact h0
  · exact h1
  · exact h2
def mZ (pB:Nat→List UInt8):Nat→List UInt8
  | 0=>[]
  | k+1=>mZ pB k++pB k
theorem catB_le (pB:Nat→List UInt8) {i n:Nat} (h:i≤n):(mZ pB i).length≤(mZ pB n).length:=by
  induction n with
  | zero=>rw [show i=0 by omega];exact Nat.le_refl _
  | succ n ih =>
    rcases (by omega:i≤n∨i=n+1) with e | e
    · rw [mZ,List.length_append];have:=ih e;omega
    · rw [e];exact Nat.le_refl _
theorem sH (pB:Nat→List UInt8) {i n:Nat} (h:i<n):(mZ pB i).length+(pB i).length≤(mZ pB n).length:=by
  have:=catB_le pB (i:=i+1) (n:=n) h
  rw [mZ,List.length_append] at this
  exact this
section
variable {P : Program} {t e : TypeId}
theorem sO (ht:P.underlying t=some (.slice e)) (hs:∀ w,(sizeOf e).run P w=.ok 1 w) {g m c:Nat} {k:IntKind} {z:Int} {j:Nat} (hz:z=(j:Int)) (hj:j<m) (w:World) :
    (do pure (Next.value (← Instr.indexAt t (.slice (some ⟨g,0,none⟩) m c) (.int k z))):Sem Next).run P w=.ok (.value (.pointer (some ⟨g,j,none⟩))) w:=by
  subst hz
  have:=xX (P:=P) (t:=t) (elem:=e) (len:=m) (cap:=c) (s:=1) (g:=g) (off:=0) (k:=k) (n:=j) ht hs (by omega) (by omega) w
  simpa using this
end
theorem pad_any (n:Nat) (hn:n≤140737488351232) (w0:World):Calls Tryz.prog 88 #[vx n] w0 (fun ε w'=>∃ α κ,ε=.returned (.slice α (aY n).length κ)∧jG w0 w'∧Fs w0 w' α κ (aY n)):=by
 refine Calls.of_ok (n:=33) (F:=(fun _=>True)) Tryz.func88 rfl rfl rfl (by simp) jT ?_
 refine jJ Tryz.f88 1 [0,2] [vz] ?_
 refine sS Tryz.f88 6 [0,2,3] [] (fun _=>[vx n,vx (n+9),vx ((n+9)%64),vx (64-((n+9)%64)),vx (zeros n),vx (zeros n)]) (fun _=>[]) (cR [[]]<|cA (v:=fun ρ=>(.int .u64 (IntKind.u64.wrap (((n:Nat):Int)+9)))) (fun _=>(vx (n+9))) (fun _=>congrArg (Value.int .u64) (vW n 9 (by have:=aS n;omega)))<|cB (a:=fun ρ=>(vx (n+9))) (b:=fun ρ=>(.int .u64 64)) (v:=fun ρ=>(vx ((n+9)%64))) .rem 37 (fun _ w=>zT (k:=.u64) (n:=(n+9)) (d:=64) (by decide) w)<|cA (v:=fun ρ=>(.int .u64 (IntKind.u64.wrap (64-(((n+9)%64:Nat):Int))))) (fun _=>(vx (64-((n+9)%64)))) (fun _=>congrArg (Value.int .u64) (u64_subN 64 ((n+9)%64) (by have:=aS n;omega) (by have:=aS n;omega)))<|cB (a:=fun ρ=>(vx (64-((n+9)%64)))) (b:=fun ρ=>(.int .u64 64)) (v:=fun ρ=>(vx (zeros n))) .rem 37 (fun _ w=>zT (k:=.u64) (n:=64-(n+9)%64) (d:=64) (by decide) w)<|jE [[]]) (fun _=>?_)
 refine sS Tryz.f88 6 [0,2,4] [] (fun ρ=>let qa:=vs (nb ρ 4) (List.replicate (zeros n+1) (0:UInt8)).length (9+(zeros n));[vx (zeros n),vx (zeros n+1),vx (zeros n),vx (9+(zeros n)),qa,qa]) (fun ρ=>[(4,(nw ρ 4 (cL (zB (9+(zeros n))) 5)))]) (cR [[]]<|cA (v:=fun ρ=>(.int .u64 (IntKind.u64.wrap (1+((zeros n:Nat):Int))))) (fun _=>(vx (zeros n+1))) (fun _=>congrArg (Value.int .u64) ((vW 1 (zeros n) (by have:=aS n;omega)).trans (by omega)))<|cR [[]]<|cA (v:=fun ρ=>(.int .u64 (IntKind.u64.wrap (9+((zeros n:Nat):Int))))) (fun _=>(vx (9+(zeros n)))) (fun _=>congrArg (Value.int .u64) (vW 9 (zeros n) (by have:=aS n;omega)))<|cX (uB _ (fun _=>do pure (Next.value (← Instr.makeSlice 33 (vx (zeros n+1)) (vx (9+(zeros n)))))) (fun _ ζ=>(vs (ζ.headD 0) (List.replicate (zeros n+1) (0:UInt8)).length (9+(zeros n)))) (fun _ _=>(cL (zB (9+(zeros n))) 5)) (fun _ _=>(by kernel_rfl)) (fun _=>(by kernel_rfl)) (fun _ _=>trivial) (fun _ _ w _=>mM Tryz.underlying33 nH (List.replicate (zeros n+1) (0:UInt8)) ((rfl).trans (by rw [List.length_replicate])) (rfl) (by have:=hn;have:=aS n;rw [List.length_replicate];omega) (by have:=aS n;omega) w))<|jE [[]]) (fun ρ3=>?_)
 refine sS Tryz.f88 3 [0,2,4] [] (fun _=>[vs (nb ρ3 4) (List.replicate (zeros n+1) (0:UInt8)).length (9+(zeros n)),jp (nb ρ3 4) 0,undef]) (fun _=>[(2,(bD 0 (nb ρ3 4) (cL ((zB (9+zeros n)).setIfInBounds 0 (.int .u8 128)) 5)))]) (cR [[]]<|cX (qS (fun _ w=>uI (g:=nb ρ3 4) (c:=9+(zeros n)) (k:=.i64) Tryz.underlying33 nH (show 0=((0:Nat):Int) from rfl) (show 0<(List.replicate (zeros n+1) (0:UInt8)).length from (by have:=hn;have:=aS n;rw [List.length_replicate];omega)) w))<|cX (qG _ 0 5 (fun _=>nb ρ3 4) (fun _=>0) (fun _=>(zB (9+(zeros n)))) (fun _=>((zB (9+zeros n)).setIfInBounds 0 (.int .u8 128))) 5 (fun _=>(.int .u8 128)) (fun _=>by kernel_rfl) Tryz.sizeOf5 (fun _=>rfl) (fun _=>(by rw [oD];omega)) (fun _=>rfl))<|cN) (fun _=>?_)
 refine aB (jJ Tryz.f88 1 [0,2,4,18] [vi 0] (aI ?_))
 refine oL (σ:=Nat × (List UInt8) × (Array Value)) (fun ⟨i,X,_⟩=>[(0,(vx n)),(2,vz),(4,(vs (nb ρ3 4) X.length (9+zeros n))),(18,(vn i))]) (fun ⟨_,_,C⟩=>[(nb ρ3 4,(cL C 5))]) (fun ⟨i,_,_⟩=>8-i)
   (fun ⟨i,X,C⟩=>(i≤8)∧(X=128::(List.replicate (zeros n) 0++be8 (8*n) i))∧(Hd C X)∧(C.size=9+zeros n)) (0,128::List.replicate (zeros n) (0:UInt8),(zB (9+zeros n)).setIfInBounds 0 (.int .u8 128)) (⟨by decide,by simp [be8],pad_hd0 n,by rw [Array.size_setIfInBounds,oD]⟩) [] ?_
 rintro ⟨i,X,C⟩ ⟨hi,hX,hC,hs⟩
 change Ok Tryz.prog _ _ 33 [(0,(vx n)),(2,vz),(4,(vs (nb ρ3 4) X.length (9+zeros n))),(18,(vn i))] _ [(nb ρ3 4,(cL C 5))] (fun _=>True)
 refine jJ Tryz.f88 1 [0,2,4,18,19] [.bool (decide (((i:Nat):Int)<8))] (aB ?_)
 refine oC (decide (((i:Nat):Int)<8)) (fun hb1=>?_) (fun hb1=>?_)
 ·
  rw [hb1]
  have:=yT hb1
  refine aG (aA (aB (aI (jJ Tryz.f88 2 [0,2,4,5,18] [vn i,vn i] ?_))))
  refine rS Tryz.f88 11 [0,2,4,18] [1,0] (fun ρ=>let qa:=([ob ((8*n / 2^(56-8*i)%256:Nat):Int)]:List UInt8);let qb:=vs (nb ρ3 4) (X++qa).length (9+zeros n);[vs (nb ρ3 4) X.length (9+zeros n),vx n,vx (8*n),vn i,vn (8*i),vn (56-8*i),vx (8*n / 2^(56-8*i)),vy (8*n / 2^(56-8*i)%256),vs (nb ρ 8) qa.length 1,qb,qb]) (fun ρ=>[(8,(nw ρ 8 (cL #[vy (8*n / 2^(56-8*i)%256)] 5))),(9,(bD 0 (nb ρ3 4) (cL (inpl C X.length (bs ([ob ((8*n / 2^(56-8*i)%256:Nat):Int)]:List UInt8))) 5)))]) (cR [[],[]]<|cA (v:=fun ρ=>(.int .u64 (IntKind.u64.wrap (8*((n:Nat):Int))))) (fun _=>(vx (8*n))) (fun _=>congrArg (Value.int .u64) (u64_mulN 8 n (by have:=aS n;have:=dZ hX;omega)))<|cR [[]]<|jW (fun ρ=>(8*((i:Nat):Int))) (fun _=>(8*i)) (fun _=>(fQ 8 i (by have:=aS n;have:=dZ hX;omega)))<|jW (fun ρ=>(56-((8*i:Nat):Int))) (fun _=>(56-8*i)) (fun _=>((gZ (by have:=aS n;have:=dZ hX;omega)).trans (by have:=aS n;have:=dZ hX;omega)))<|cB (a:=fun ρ=>(vx (8*n))) (b:=fun ρ=>(vn (56-8*i))) (v:=fun ρ=>(vx (8*n / 2^(56-8*i)))) .shr 37 (fun _ w=>gG (k:=.u64) (x:=8*n) (c:=56-8*i) (by have:=hn;have:=aS n;have:=hi;have:=dZ hX;show 8*n<18446744073709551616;omega) w)<|cA (fun _=>(vy (8*n / 2^(56-8*i)%256))) (fun _=>congrArg (Value.int .u8) (u8M (8*n / 2^(56-8*i))))<|cR [[]]<|cX (o9 _ 0 (fun ρ=>do pure (Next.value (← Builtin.append_ #[33,33] 33 #[vs (nb ρ3 4) X.length (9+zeros n),vs (nb ρ 8) ([ob ((8*n / 2^(56-8*i)%256:Nat):Int)]:List UInt8).length 1]))) (fun _=>nb ρ3 4) (fun _=>(cL C 5)) (fun _=>(cL (inpl C X.length (bs ([ob ((8*n / 2^(56-8*i)%256:Nat):Int)]:List UInt8))) 5)) (fun _=>(vs (nb ρ3 4) (X++([ob ((8*n / 2^(56-8*i)%256:Nat):Int)]:List UInt8)).length (9+zeros n))) (fun _=>(by kernel_rfl)) (fun _=>(by kernel_rfl)) (fun _=>(by kernel_rfl)) (fun _=>(by kernel_rfl)) (fun _ _=>trivial) (fun ρ _ _ hG hg=>kD Tryz.underlying33 nH hg (Bs.src (tx:=33) Tryz.underlying33 (Bs.of_hd (hG.kn (g:=nb ρ 8) (o:=(cL #[vy (8*n / 2^(56-8*i)%256)] 5)) 65) (hd1 (by omega)) (Nat.le_refl 1) (Nat.le_of_ble_eq_true rfl))) hs (by have:=hn;have:=aS n;have:=hi;have:=dZ hX;simp only [List.length_cons,List.length_nil];omega)))<|jE [[]]) (fun _=>?_)
  refine aJ (aA ?_)
  refine rS Tryz.f88 2 [0,2,4,18] [] (fun _=>[vn (i+1),vn (i+1)]) (fun _=>[]) (jW (fun ρ=>(((i:Nat):Int)+1)) (fun _=>(i+1)) (fun _=>(aW i 1 (by have:=aS n;have:=dZ hX;omega)))<|jE [[]]) (fun _=>?_)
  exact mN (i+1,X++([ob ((8*n / 2^(56-8*i)%256:Nat):Int)]:List UInt8),inpl C X.length (bs ([ob ((8*n / 2^(56-8*i)%256:Nat):Int)]:List UInt8))) (by show 8-(i+1)<8-i;have:=aS n;have:=dZ hX;omega) (⟨(by have:=aS n;have:=dZ hX;omega),pad_next hX,Hd.inpl hC rfl,(lG _ _ _ (room_le hs (by have:=hn;have:=aS n;have:=hi;have:=dZ hX;simp only [List.length_cons,List.length_nil];omega))).trans hs⟩) []
 rw [hb1]
 refine bF (aN (aN (aT (aA (jJ Tryz.f88 2 [2] (let qa:=vs (nb ρ3 4) X.length (9+zeros n);[qa,qa]) (aF (mD [(2,(vs (nb ρ3 4) X.length (9+zeros n)))] [(nb ρ3 4,(cL C 5))] ?_)))))))
 exact mR (v:=(vs (nb ρ3 4) X.length (9+zeros n))) (fun _ hS=>⟨some ⟨nb ρ3 4,0,none⟩,9+zeros n,congrArg Ending.returned (by rw [(pad_end hX (by have:=yF hb1;have:=aS n;have:=dZ hX;omega))]),hS.bel,dU (pad_end hX (by have:=yF hb1;have:=aS n;have:=dZ hX;omega)) (hS.fresh (.head _) hC (by have:=aS n;have:=dZ hX;omega) (by have:=aS n;have:=dZ hX;omega))⟩)
theorem shrow_any (g:Nat) (n:Nat) (pa:Nat→Option Addr) (pc:Nat→Nat) (pB:Nat→List UInt8) (hn:n≤16) (hl:(mZ pB n).length≤140737488351232) (h0:0<(pB 0).length) (w0:World) (hf0:Kb w0 g (xO n pa pc pB)) (hf1:rO w0 n pa pc pB):Calls Tryz.prog 55 #[vs g n n] w0 (fun ε w'=>∃ α κ,ε=.returned (.slice α (mZ pB n).length κ)∧jG w0 w'∧Fs w0 w' α κ (mZ pB n)):=by
 refine Calls.of_ok (n:=17) (F:=(fun w=>Kb w g (xO n pa pc pB)∧rO w n pa pc pB∧True)) Tryz.func55 rfl rfl rfl (by simp) (hf0.pers0.and (hf1.pers0.and cO)) ?_
 refine jJ Tryz.f55 1 [0,2] [vz] (jJ Tryz.f55 1 [0,2,3] [vz] (aB (jJ Tryz.f55 3 [2,3,6,7,8] [vs g n n,vn n,vi 0] (aI ?_))))
 refine oL (σ:=Nat ⊕ (Nat × Nat × (List UInt8) × (Array Value) × Nat)) (fun s=>match s with | Sum.inl i=>[(2,vz),(3,vz),(6,(vs g n n)),(7,(vn n)),(8,(vn i))] | Sum.inr ⟨i,q,X,_,κ⟩=>[(2,vz),(3,(vs q X.length κ)),(6,(vs g n n)),(7,(vn n)),(8,(vn i))]) (fun s=>match s with | Sum.inl _=>[] | Sum.inr ⟨_,q,_,C,_⟩=>[(q,(cL C 5))]) (fun s=>match s with | Sum.inl i=>n-i | Sum.inr ⟨i,_,_,_,_⟩=>n-i)
   (fun s=>match s with | Sum.inl i=>(i≤n)∧(i=0) | Sum.inr ⟨i,_,X,C,κ⟩=>(i≤n)∧(X=mZ pB i)∧(Hd C X)∧(C.size=κ)∧(X.length≤κ)) (Sum.inl 0) (⟨Nat.zero_le _,rfl⟩) [] ?_
 rintro (i | ⟨i,q,X,C,κ⟩)
 ·
  rintro ⟨hi,h0i⟩
  change Ok Tryz.prog _ _ 17 [(2,vz),(3,vz),(6,(vs g n n)),(7,(vn n)),(8,(vn i))] _ [] (fun w=>Kb w g (xO n pa pc pB)∧rO w n pa pc pB∧True)
  refine jJ Tryz.f55 1 [2,3,6,7,8,9] [.bool (decide (((i:Nat):Int)<((n:Nat):Int)))] (aB ?_)
  refine oC (decide (((i:Nat):Int)<((n:Nat):Int))) (fun hb1=>?_) (fun hb1=>?_)
  ·
   rw [hb1]
   have:=yT hb1
   refine aG (aA (aB (aI ?_)))
   refine sS Tryz.f55 3 [2,3,5,6,7,8] [] (fun _=>let qa:Value:=.slice (pa i) (pB i).length (pc i);[jp g i,qa,qa]) (fun _=>[]) (cX (qS (fun _ w=>sO (g:=g) (c:=n) (k:=.i64) Tryz.underlying107 Tryz.sizeOf33 (show ((i:Nat):Int)=((i:Nat):Int) from rfl) (show i<n from (by omega)) w))<|cX (qF (v:=fun ρ=>(.slice (pa i) (pB i).length (pc i))) (fun _ _ _ hG=>mY (off:=i) Tryz.isAgg33 hG.fn.1 (uX (by omega))))<|jE [[]]) (fun _=>?_)
   refine rS Tryz.f55 4 [2,3,6,7,8] [] (fun ρ=>let qa:=vs (nb ρ 2) (pB i).length ((pB i).length+aZ ρ 2);[vz,.slice (pa i) (pB i).length (pc i),qa,qa]) (fun ρ=>[(2,(nw ρ 2 (cL ((bs (pB i)).toArray++zB (aZ ρ 2)) 5)))]) (cR [[],[]]<|cX (qN (fun _ ζ=>(vs (ζ.headD 0) (pB i).length ((pB i).length+ζ.tail.headD 0))) (fun _ ζ=>(cL ((bs (pB i)).toArray++zB (ζ.tail.headD 0)) 5)) (fun _ _ _ hG=>oU (ty:=33) Tryz.underlying33 nH (Bs.src (tx:=33) Tryz.underlying33 (hG.fn.2.1 i (by omega))) (by rw [h0i];exact h0) (by have h1:=(sH pB (show i<n by omega));omega)))<|jE [[]]) (fun ρ6=>?_)
   refine aJ (aA ?_)
   refine rS Tryz.f55 2 [2,3,6,7,8] [] (fun _=>[vn (i+1),vn (i+1)]) (fun _=>[]) (jW (fun ρ=>(((i:Nat):Int)+1)) (fun _=>(i+1)) (fun _=>(aW i 1 (by omega)))<|jE [[]]) (fun _=>?_)
   exact mN (Sum.inr (i+1,nb ρ6 2,pB i,(bs (pB i)).toArray++zB (aZ ρ6 2),(pB i).length+aZ ρ6 2)) (by show n-(i+1)<n-i;omega) (⟨(by omega),(by rw [h0i];rfl),Hd.fresh _ _,kV _ _,Nat.le_add_right _ _⟩) []
  rw [hb1]
  refine bF (aN (aN (aT (aA (jJ Tryz.f55 2 [2] [vz,vz] (aF (mD [(2,vz)] [] ?_)))))))
  exact mR (v:=vz) (fun _ hS=>⟨none,0,congrArg Ending.returned (by rw [← (show ([]:List UInt8)=mZ pB n by rw [show n=0 by have:=yF hb1;omega];rfl)];rfl),hS.bel,dU (show ([]:List UInt8)=mZ pB n by rw [show n=0 by have:=yF hb1;omega];rfl) Fs.nil⟩)
 rintro ⟨hi,hX,hC,hs,hle⟩
 change Ok Tryz.prog _ _ 17 [(2,vz),(3,(vs q X.length κ)),(6,(vs g n n)),(7,(vn n)),(8,(vn i))] _ [(q,(cL C 5))] (fun w=>Kb w g (xO n pa pc pB)∧rO w n pa pc pB∧True)
 refine jJ Tryz.f55 1 [2,3,6,7,8,9] [.bool (decide (((i:Nat):Int)<((n:Nat):Int)))] (aB ?_)
 refine oC (decide (((i:Nat):Int)<((n:Nat):Int))) (fun hb2=>?_) (fun hb2=>?_)
 ·
  rw [hb2]
  have:=yT hb2
  refine aG (aA (aB (aI ?_)))
  refine sS Tryz.f55 3 [2,3,5,6,7,8] [] (fun _=>let qa:Value:=.slice (pa i) (pB i).length (pc i);[jp g i,qa,qa]) (fun _=>[]) (cX (qS (fun _ w=>sO (g:=g) (c:=n) (k:=.i64) Tryz.underlying107 Tryz.sizeOf33 (show ((i:Nat):Int)=((i:Nat):Int) from rfl) (show i<n from (by omega)) w))<|cX (qF (v:=fun ρ=>(.slice (pa i) (pB i).length (pc i))) (fun _ _ _ hG=>mY (off:=i) Tryz.isAgg33 hG.fn.1 (uX (by omega))))<|jE [[]]) (fun _=>?_)
  rcases Bool.eq_false_or_eq_true (decide (X.length+(pB i).length≤κ)) with hb3 | hb3
  ·
   refine rS Tryz.f55 4 [2,3,6,7,8] [] (fun _=>let qa:=vs q (X++(pB i)).length κ;[vs q X.length κ,.slice (pa i) (pB i).length (pc i),qa,qa]) (fun _=>[(2,(bD 0 q (cL (inpl C X.length (bs (pB i))) 5)))]) (cR [[],[]]<|cX (o9 _ 0 (fun _=>do pure (Next.value (← Builtin.append_ #[33,33] 33 #[vs q X.length κ,.slice (pa i) (pB i).length (pc i)]))) (fun _=>q) (fun _=>(cL C 5)) (fun _=>(cL (inpl C X.length (bs (pB i))) 5)) (fun _=>(vs q (X++(pB i)).length κ)) (fun _=>(by kernel_rfl)) (fun _=>(by kernel_rfl)) (fun _=>(by kernel_rfl)) (fun _=>(by kernel_rfl)) (fun _ _=>trivial) (fun _ _ _ hG hg=>kD Tryz.underlying33 nH hg (Bs.src (tx:=33) Tryz.underlying33 (hG.fn.2.1 i (by have:=yT hb3;omega))) hs (yT hb3)))<|jE [[]]) (fun _=>?_)
   refine aJ (aA ?_)
   refine rS Tryz.f55 2 [2,3,6,7,8] [] (fun _=>[vn (i+1),vn (i+1)]) (fun _=>[]) (jW (fun ρ=>(((i:Nat):Int)+1)) (fun _=>(i+1)) (fun _=>(aW i 1 (by have:=yT hb3;omega)))<|jE [[]]) (fun _=>?_)
   exact mN (Sum.inr (i+1,q,X++(pB i),inpl C X.length (bs (pB i)),κ)) (by show n-(i+1)<n-i;have:=yT hb3;omega) (⟨(by have:=yT hb3;omega),(by rw [hX];rfl),Hd.inpl hC rfl,(lG _ _ _ (room_le hs (yT hb3))).trans hs,oK (yT hb3)⟩) []
  refine rS Tryz.f55 4 [2,3,6,7,8] [0,1] (fun ρ=>let qa:=vs (nb ρ 2) (X++(pB i)).length ((X++(pB i)).length+aZ ρ 2);[vs q X.length κ,.slice (pa i) (pB i).length (pc i),qa,qa]) (fun ρ=>[(2,(nw ρ 2 (cL (grow C X.length (bs (pB i)) (aZ ρ 2)) 5)))]) (cR [[],[]]<|cX (qN (fun _ ζ=>(vs (ζ.headD 0) (X++(pB i)).length ((X++(pB i)).length+ζ.tail.headD 0))) (fun _ ζ=>(cL (grow C X.length (bs (pB i)) (ζ.tail.headD 0)) 5)) (fun _ _ _ hG=>xG (ty:=33) Tryz.underlying33 nH (hG.kn (g:=q) (o:=(cL C 5)) 0) (Bs.src (tx:=33) Tryz.underlying33 (hG.fn.2.1 i (by have:=yF hb3;omega))) hs hle (Nat.lt_of_not_le (yF hb3)) (by have h1:=(sH pB (show i<n by have:=yF hb3;omega));rw [← hX] at h1;exact Nat.le_trans h1 hl)))<|jE [[]]) (fun ρ13=>?_)
  refine aJ (aA ?_)
  refine rS Tryz.f55 2 [2,3,6,7,8] [] (fun _=>[vn (i+1),vn (i+1)]) (fun _=>[]) (jW (fun ρ=>(((i:Nat):Int)+1)) (fun _=>(i+1)) (fun _=>(aW i 1 (by have:=yF hb3;omega)))<|jE [[]]) (fun _=>?_)
  exact mN (Sum.inr (i+1,nb ρ13 2,X++(pB i),grow C X.length (bs (pB i)) (aZ ρ13 2),(X++(pB i)).length+aZ ρ13 2)) (by show n-(i+1)<n-i;have:=yF hb3;omega) (⟨(by have:=yF hb3;omega),(by rw [hX];rfl),Hd.grow hC rfl,tX hC,Nat.le_add_right _ _⟩) []
 rw [hb2]
 refine bF (aN (aN (aT (aA (jJ Tryz.f55 2 [2] [vs q X.length κ,vs q X.length κ] (aF (mD [(2,(vs q X.length κ))] [(q,(cL C 5))] ?_)))))))
 exact mR (v:=(vs q X.length κ)) (fun _ hS=>⟨some ⟨q,0,none⟩,κ,congrArg Ending.returned (by rw [← (show X=mZ pB n from hX.trans (by rw [show i=n by have:=yF hb2;omega]))]),hS.bel,dU (show X=mZ pB n from hX.trans (by rw [show i=n by have:=yF hb2;omega])) (hS.fresh (.head _) hC hle (by rw [hX];exact Nat.le_trans (catB_le pB hi) hl))⟩)
theorem yA (g:Nat) (a0:Option Addr) (c0:Nat) (B0:List UInt8) (a1:Option Addr) (c1:Nat) (B1:List UInt8) (hl:B0.length+B1.length≤140737488351232) (h0:0<B0.length) (w0:World) (hf0:Kb w0 g #[.slice a0 B0.length c0,.slice a1 B1.length c1]) (hf1:Bs w0 a0 c0 B0) (hf2:Bs w0 a1 c1 B1):Calls Tryz.prog 55 #[.slice (some ⟨g,0,none⟩) 2 2] w0 (fun ε w'=>∃ α κ,ε=.returned (.slice α (B0++B1).length κ)∧jG w0 w'∧Fs w0 w' α κ (B0++B1)):=shrow_any g 2 (fun k=>[a0,a1].getD k none) (fun k=>[c0,c1].getD k 0) (fun k=>[B0,B1].getD k []) (by decide) (by show (([]++B0)++B1).length≤_;simp only [List.length_append,List.length_nil];omega) h0 w0 hf0 (allB2 hf1 hf2)
theorem shrow3_any (g:Nat) (a0:Option Addr) (c0:Nat) (B0:List UInt8) (a1:Option Addr) (c1:Nat) (B1:List UInt8) (a2:Option Addr) (c2:Nat) (B2:List UInt8) (hl:B0.length+B1.length+B2.length≤140737488351232) (h0:0<B0.length) (w0:World) (hf0:Kb w0 g #[.slice a0 B0.length c0,.slice a1 B1.length c1,.slice a2 B2.length c2]) (hf1:Bs w0 a0 c0 B0) (hf2:Bs w0 a1 c1 B1) (hf3:Bs w0 a2 c2 B2):Calls Tryz.prog 55 #[.slice (some ⟨g,0,none⟩) 3 3] w0 (fun ε w'=>∃ α κ,ε=.returned (.slice α ((B0++B1)++B2).length κ)∧jG w0 w'∧Fs w0 w' α κ ((B0++B1)++B2)):=shrow_any g 3 (fun k=>[a0,a1,a2].getD k none) (fun k=>[c0,c1,c2].getD k 0) (fun k=>[B0,B1,B2].getD k []) (by decide) (by show ((([]++B0)++B1)++B2).length≤_;simp only [List.length_append,List.length_nil];omega) h0 w0 hf0 (allB3 hf1 hf2 hf3)
theorem rotl_any (x:Nat) (n:Nat) (hx:x<4294967296) (hn:0<n∧n<32) (w0:World):Calls Tryz.prog 141 #[vu x,vi (0-((n:Nat):Int))] w0 (jR (vu (aH x n)) w0):=by
 refine Calls.of_ok (n:=17) (F:=(fun _=>True)) Tryz.func141 rfl rfl rfl (by simp) jT ?_
 refine jJ Tryz.f141 1 [0,1,4] [.int .u32 0] ?_
 refine sS Tryz.f141 4 [0,4,5] [] (fun _=>[vi (0-((n:Nat):Int)),vx (18446744073709551616-n),vx (32-n),vx (32-n)]) (fun _=>[]) (cR [[]]<|cA (fun _=>(vx (18446744073709551616-n))) (fun _=>congrArg (Value.int .u64) (u64_neg hn.1 hn.2))<|cA (fun _=>(vx (32-n))) (fun _=>congrArg (Value.int .u64) (and31 hn.1 hn.2))<|jE [[]]) (fun _=>?_)
 refine sS Tryz.f141 9 [4] [] (fun _=>[vu x,vx (32-n),vu (x*2^(32-n)%4294967296),vu x,vx (32-n),vx n,vu (x / 2^n),vu (aH x n),vu (aH x n)]) (fun _=>[]) (cR [[],[]]<|cB (a:=fun ρ=>(vu x)) (b:=fun ρ=>(vx (32-n))) (v:=fun ρ=>(vu (x*2^(32-n)%4294967296))) .shl 41 (fun _ w=>run_shlM (by omega) w)<|cR [[],[]]<|cA (fun _=>(vx n)) (fun _=>congrArg (Value.int .u64) (u64_32 hn.1 hn.2))<|cB (a:=fun ρ=>(vu x)) (b:=fun ρ=>(vx n)) (v:=fun ρ=>(vu (x / 2^n))) .shr 41 (fun _ w=>gG (k:=.u32) hx w)<|cA (fun _=>(vu (aH x n))) (fun _=>jN (or_rot hx))<|jE [[]]) (fun _=>?_)
 refine aF ?_
 exact mR (v:=(vu (aH x n))) (fun _ hS=>⟨rfl,hS.bel⟩)
theorem lS (x:Nat) (n:Nat) (hx:x<4294967296) (hn:0<n∧n<32) (w0:World):Calls Tryz.prog 116 #[vu x,vn n] w0 (jR (vu (aH x n)) w0):=by
 refine Calls.of_ok (n:=9) (F:=(fun _=>True)) Tryz.func116 rfl rfl rfl (by simp) jT ?_
 refine jJ Tryz.f116 1 [0,1,4] [.int .u32 0] ?_
 refine sS Tryz.f116 5 [4] [] (fun _=>[vu x,vn n,vi (0-((n:Nat):Int)),vu (aH x n),vu (aH x n)]) (fun _=>[]) (cR [[],[]]<|jU (fun ρ=>(0-((n:Nat):Int))) (fun _=>(0-((n:Nat):Int))) (fun _=>(gZ (by omega)))<|cC (fun _ w=>rotl_any x n hx hn w)<|jE [[]]) (fun _=>?_)
 refine aF ?_
 exact mR (v:=(vu (aH x n))) (fun _ hS=>⟨rfl,hS.bel⟩)
theorem zrow_sc (X:List UInt8):bY .u32 64 (fun _=>0)=bY .u32 64 (sc X 0 0):=fG fun m _=>(sc_zero X m).symm
theorem sched_any (X:List UInt8) (hX:X.length=64) (w0:World):Calls Tryz.prog 115 #[.agg (bs X).toArray] w0 (jR (.agg (bY .u32 64 (wN X))) w0):=by
 refine Calls.of_ok (n:=85) (F:=(fun _=>True)) Tryz.func115 rfl rfl rfl (by simp) jT ?_
 refine sS Tryz.f115 2 [1,2] [] (fun ρ=>[pt (nb ρ 0),pt (nb ρ 1)]) (fun ρ=>[(0,(nw ρ 0 (cL (bs X).toArray 106))),(1,(nw ρ 1 (cL (bY .u32 64 (fun _=>0)) 115)))]) (jE [[],[]]) (fun ρ1=>?_)
 refine sS Tryz.f115 1 [1,2,3] [] (fun ρ=>[pt (nb ρ 0)]) (fun ρ=>[(0,(nw ρ 0 (cL (bY .u32 64 (fun _=>0)) 115)))]) (jE [[]]) (fun ρ2=>?_)
 refine aB (jJ Tryz.f115 1 [1,2,3,9] [vi 0] (aI ?_))
 refine oL (σ:=Nat × (Array Value)) (fun ⟨i,_⟩=>[(1,(pt (nb ρ1 0))),(2,(pt (nb ρ1 1))),(3,(pt (nb ρ2 0))),(9,(vn i))]) (fun ⟨_,C⟩=>[(nb ρ1 0,(cL (bs X).toArray 106)),(nb ρ1 1,(cL (bY .u32 64 (fun _=>0)) 115)),(nb ρ2 0,(cL C 115))]) (fun ⟨i,_⟩=>16-i)
   (fun ⟨i,C⟩=>(i≤16)∧(C=bY .u32 64 (sc X i 0))) (0,bY .u32 64 (fun _=>0)) (⟨by decide,zrow_sc X⟩) [] ?_
 rintro ⟨i,C⟩ ⟨hi,hC⟩
 change Ok Tryz.prog _ _ 85 [(1,(pt (nb ρ1 0))),(2,(pt (nb ρ1 1))),(3,(pt (nb ρ2 0))),(9,(vn i))] _ [(nb ρ1 0,(cL (bs X).toArray 106)),(nb ρ1 1,(cL (bY .u32 64 (fun _=>0)) 115)),(nb ρ2 0,(cL C 115))] (fun _=>True)
 refine jJ Tryz.f115 1 [1,2,3,9,10] [.bool (decide (((i:Nat):Int)<16))] (aB ?_)
 refine oC (decide (((i:Nat):Int)<16)) (fun hb1=>?_) (fun hb1=>?_)
 ·
  rw [hb1]
  have:=yT hb1
  refine aG (aA (aB (aI (jJ Tryz.f115 2 [1,2,3,4,9] [vn i,vn i] (jJ Tryz.f115 1 [1,2,3,4,9,12] [vi 0] (aI ?_))))))
  refine oL (σ:=Nat × (Array Value)) (fun ⟨j,_⟩=>[(1,(pt (nb ρ1 0))),(2,(pt (nb ρ1 1))),(3,(pt (nb ρ2 0))),(4,(vn i)),(9,(vn i)),(12,(vn j))]) (fun ⟨_,C2⟩=>[(nb ρ1 0,(cL (bs X).toArray 106)),(nb ρ1 1,(cL (bY .u32 64 (fun _=>0)) 115)),(nb ρ2 0,(cL C2 115))]) (fun ⟨j,_⟩=>4-j)
    (fun ⟨j,C2⟩=>(j≤4)∧(C2=bY .u32 64 (sc X i j))) (0,C) (⟨by decide,hC⟩) [] ?_
  rintro ⟨j,C2⟩ ⟨hj,hC2⟩
  change Ok Tryz.prog _ _ 85 [(1,(pt (nb ρ1 0))),(2,(pt (nb ρ1 1))),(3,(pt (nb ρ2 0))),(4,(vn i)),(9,(vn i)),(12,(vn j))] _ [(nb ρ1 0,(cL (bs X).toArray 106)),(nb ρ1 1,(cL (bY .u32 64 (fun _=>0)) 115)),(nb ρ2 0,(cL C2 115))] (fun _=>True)
  refine jJ Tryz.f115 1 [1,2,3,4,9,12,13] [.bool (decide (((j:Nat):Int)<4))] (aB ?_)
  refine oC (decide (((j:Nat):Int)<4)) (fun hb2=>?_) (fun hb2=>?_)
  ·
   rw [hb2]
   have:=yT hb2
   refine aG (aA (aB (aI (jJ Tryz.f115 2 [1,2,3,4,5,9,12] [vn j,vn j] ?_))))
   refine rD Tryz.f115 [0,0,2,6,14,0,32,0,224,480,992,2016,4094,8191,16383] 15 [1,2,3,4,9,12] [] (fun _=>[vn i,vn i,jp (nb ρ2 0) i,vu (zJ X i j),vu (zJ X i j*256),vn i,vn (4*i),vn j,vn ((4*i)+j),jp (nb ρ1 0) ((4*i)+j),vy (gB X ((4*i)+j)),vu (gB X ((4*i)+j)),vu (zJ X i (j+1)),jp (nb ρ2 0) i,undef]) (fun _=>[(14,(bD 2 (nb ρ2 0) (cL (C2.setIfInBounds i (vu (zJ X i (j+1)))) 115)))]) (cR [[],[]]<|cX (jS (fun _=>Instr.indexAt 115 (pt (nb ρ2 0)) (vn i)) (fun _=>(jp (nb ρ2 0) i)) (fun _ w=>aX (n:=((i:Nat):Int)) (i:=i) Tryz.underlying115 Tryz.sizeOf41 (by omega) w))<|cX (kG _ 2 41 (fun _=>nb ρ2 0) (fun _=>i) (fun _=>C2) 115 (0,0) (fun _=>(vu (zJ X i j))) (fun _=>by kernel_rfl) Tryz.isAgg41 (fun _=>(by rw [hC2,nG (by omega),sc_at])))<|cB (a:=fun ρ=>(vu (zJ X i j))) (b:=fun ρ=>(.int .u64 8)) (v:=fun ρ=>(vu (zJ X i j*256))) .shl 41 (fun _ w=>run_pw8 (by omega) w)<|cR [[]]<|jW (fun ρ=>(4*((i:Nat):Int))) (fun _=>(4*i)) (fun _=>(fQ 4 i (by omega)))<|cR [[]]<|jW (fun ρ=>(((4*i:Nat):Int)+((j:Nat):Int))) (fun _=>((4*i)+j)) (fun _=>(aW (4*i) j (by omega)))<|cX (jS (fun _=>Instr.indexAt 106 (pt (nb ρ1 0)) (vn ((4*i)+j))) (fun _=>(jp (nb ρ1 0) ((4*i)+j))) (fun _ w=>aX (n:=(((4*i)+j:Nat):Int)) (i:=(4*i)+j) Tryz.underlying106 Tryz.sizeOf5 (by omega) w))<|cX (kG _ 0 5 (fun _=>nb ρ1 0) (fun _=>(4*i)+j) (fun _=>(bs X).toArray) 106 (0,0) (fun _=>(vy (gB X ((4*i)+j)))) (fun _=>by kernel_rfl) Tryz.isAgg5 (fun _=>(zG (by rw [hX];omega))))<|cA (v:=fun ρ=>(.int .u32 (IntKind.u32.wrap ((gB X ((4*i)+j):Nat):Int)))) (fun _=>(vu (gB X ((4*i)+j)))) (fun _=>jN (u32N (Nat.lt_of_lt_of_le (iD _ _) (by decide))))<|cA (v:=fun ρ=>(.int .u32 (bits .or .u32 ((zJ X i j*256:Nat):Int) ((gB X ((4*i)+j):Nat):Int)))) (fun _=>(vu (zJ X i (j+1)))) (fun _=>jN (or_pw (by omega)))<|cX (jS (fun _=>Instr.indexAt 115 (pt (nb ρ2 0)) (vn i)) (fun _=>(jp (nb ρ2 0) i)) (fun _ w=>aX (n:=((i:Nat):Int)) (i:=i) Tryz.underlying115 Tryz.sizeOf41 (by omega) w))<|cX (qG _ 2 41 (fun _=>nb ρ2 0) (fun _=>i) (fun _=>C2) (fun _=>(C2.setIfInBounds i (vu (zJ X i (j+1))))) 115 (fun _=>(vu (zJ X i (j+1)))) (fun _=>by kernel_rfl) Tryz.sizeOf41 (fun _=>rfl) (fun _=>(by rw [hC2,eH];omega)) (fun _=>rfl))<|cN) (fun _=>?_)
   refine aJ (aA ?_)
   refine rS Tryz.f115 2 [1,2,3,4,9,12] [] (fun _=>[vn (j+1),vn (j+1)]) (fun _=>[]) (jW (fun ρ=>(((j:Nat):Int)+1)) (fun _=>(j+1)) (fun _=>(aW j 1 (by omega)))<|jE [[]]) (fun _=>?_)
   exact mN (j+1,C2.setIfInBounds i (vu (zJ X i (j+1)))) (by show 4-(j+1)<4-j;omega) (⟨(by omega),by rw [hC2];exact sc_set⟩) []
  rw [hb2]
  have:=yF hb2
  refine bF (aN (aN (aT (aJ (aA ?_)))))
  refine rS Tryz.f115 2 [1,2,3,9] [] (fun _=>[vn (i+1),vn (i+1)]) (fun _=>[]) (jW (fun ρ=>(((i:Nat):Int)+1)) (fun _=>(i+1)) (fun _=>(aW i 1 (by omega)))<|jE [[]]) (fun _=>?_)
  exact mN (i+1,C2) (by show 16-(i+1)<16-i;omega) (⟨(by omega),hC2.trans (by rw [show j=4 by omega];exact sc_next X i)⟩) []
 rw [hb1]
 have:=yF hb1
 refine bF (aN (aN (aT (aA (aB (jM Tryz.f115 1 [2,3,6] [0,1,1] [vi 16] [[]] (aI ?_)))))))
 refine oL (σ:=Nat × (Array Value)) (fun ⟨k,_⟩=>[(2,(pt (nb ρ1 1))),(3,(pt (nb ρ2 0))),(6,(vn k))]) (fun ⟨_,C3⟩=>[(nb ρ1 1,(cL (bY .u32 64 (fun _=>0)) 115)),(nb ρ2 0,(cL C3 115))]) (fun ⟨k,_⟩=>64-k)
   (fun ⟨k,C3⟩=>(16≤k∧k≤64)∧(C3=bY .u32 64 (tc X k))) (16,C) (⟨by decide,hC.trans (by rw [show i=16 by omega];exact sc_tc X)⟩) [] ?_
 rintro ⟨k,C3⟩ ⟨hk,hC3⟩
 change Ok Tryz.prog _ _ 85 [(2,(pt (nb ρ1 1))),(3,(pt (nb ρ2 0))),(6,(vn k))] _ [(nb ρ1 1,(cL (bY .u32 64 (fun _=>0)) 115)),(nb ρ2 0,(cL C3 115))] (fun _=>True)
 refine aB (jJ Tryz.f115 2 [2,3,6,32] [vn k,.bool (decide (((k:Nat):Int)<64))] ?_)
 refine oC (decide (((k:Nat):Int)<64)) (fun hb3=>?_) (fun hb3=>?_)
 ·
  rw [hb3]
  have:=yT hb3
  refine aG (aA (aB (aI ?_)))
  refine sD Tryz.f115 [0,1,3,7,15,0,32,96,224,511,1023,0,2048,6144,14336,30720,65535,131071] 18 [2,3,6,7] [] (fun _=>let qa:=vu (((aH (wN X (k-15)) 7)^^^(aH (wN X (k-15)) 18))^^^((wN X (k-15)) / 2^3));let qb:=vi (((k:Nat):Int)-15);[vn k,qb,jp (nb ρ2 0) (k-15),vu (wN X (k-15)),vu (aH (wN X (k-15)) 7),vn k,qb,jp (nb ρ2 0) (k-15),vu (wN X (k-15)),vu (aH (wN X (k-15)) 18),vu ((aH (wN X (k-15)) 7)^^^(aH (wN X (k-15)) 18)),vn k,qb,jp (nb ρ2 0) (k-15),vu (wN X (k-15)),vu ((wN X (k-15)) / 2^3),qa,qa]) (fun _=>[]) (cR [[]]<|jU (fun ρ=>(((k:Nat):Int)-15)) (fun _=>(((k:Nat):Int)-15)) (fun _=>(gZ (by omega)))<|cX (jS (fun _=>Instr.indexAt 115 (pt (nb ρ2 0)) (vi (((k:Nat):Int)-15))) (fun _=>(jp (nb ρ2 0) (k-15))) (fun _ w=>aX (n:=((k:Nat):Int)-15) (i:=k-15) Tryz.underlying115 Tryz.sizeOf41 (by omega) w))<|cX (kG _ 1 41 (fun _=>nb ρ2 0) (fun _=>k-15) (fun _=>C3) 115 (0,0) (fun _=>(vu (wN X (k-15)))) (fun _=>by kernel_rfl) Tryz.isAgg41 (fun _=>(by rw [hC3];exact lM (by omega) (by omega))))<|cC (f:=116) (args:=fun ρ=> #[vu (wN X (k-15)),vi 7]) (v:=fun ρ=>(vu (aH (wN X (k-15)) 7))) (fun _ w=>(fun w=>lS (wN X (k-15)) 7 (iF _ _) (by decide) w) w)<|cR [[]]<|jU (fun ρ=>(((k:Nat):Int)-15)) (fun _=>(((k:Nat):Int)-15)) (fun _=>(gZ (by omega)))<|cX (jS (fun _=>Instr.indexAt 115 (pt (nb ρ2 0)) (vi (((k:Nat):Int)-15))) (fun _=>(jp (nb ρ2 0) (k-15))) (fun _ w=>aX (n:=((k:Nat):Int)-15) (i:=k-15) Tryz.underlying115 Tryz.sizeOf41 (by omega) w))<|cX (kG _ 1 41 (fun _=>nb ρ2 0) (fun _=>k-15) (fun _=>C3) 115 (0,0) (fun _=>(vu (wN X (k-15)))) (fun _=>by kernel_rfl) Tryz.isAgg41 (fun _=>(by rw [hC3];exact lM (by omega) (by omega))))<|cC (f:=116) (args:=fun ρ=> #[vu (wN X (k-15)),vi 18]) (v:=fun ρ=>(vu (aH (wN X (k-15)) 18))) (fun _ w=>(fun w=>lS (wN X (k-15)) 18 (iF _ _) (by decide) w) w)<|cA (v:=fun ρ=>(.int .u32 (bits .xor .u32 ((aH (wN X (k-15)) 7:Nat):Int) ((aH (wN X (k-15)) 18:Nat):Int)))) (fun _=>(vu ((aH (wN X (k-15)) 7)^^^(aH (wN X (k-15)) 18)))) (fun _=>jN (lH (dE _ (iF _ _)) (dE _ (iF _ _))))<|cR [[]]<|jU (fun ρ=>(((k:Nat):Int)-15)) (fun _=>(((k:Nat):Int)-15)) (fun _=>(gZ (by omega)))<|cX (jS (fun _=>Instr.indexAt 115 (pt (nb ρ2 0)) (vi (((k:Nat):Int)-15))) (fun _=>(jp (nb ρ2 0) (k-15))) (fun _ w=>aX (n:=((k:Nat):Int)-15) (i:=k-15) Tryz.underlying115 Tryz.sizeOf41 (by omega) w))<|cX (kG _ 1 41 (fun _=>nb ρ2 0) (fun _=>k-15) (fun _=>C3) 115 (0,0) (fun _=>(vu (wN X (k-15)))) (fun _=>by kernel_rfl) Tryz.isAgg41 (fun _=>(by rw [hC3];exact lM (by omega) (by omega))))<|cB (a:=fun ρ=>(vu (wN X (k-15)))) (b:=fun ρ=>(.int .u64 3)) (v:=fun ρ=>(vu ((wN X (k-15)) / 2^3))) .shr 41 (fun _ w=>gG (k:=.u32) (x:=(wN X (k-15))) (c:=3) (iF _ _) w)<|cA (v:=fun ρ=>(.int .u32 (bits .xor .u32 (((aH (wN X (k-15)) 7)^^^(aH (wN X (k-15)) 18):Nat):Int) (((wN X (k-15)) / 2^3:Nat):Int)))) (fun _=>(vu (((aH (wN X (k-15)) 7)^^^(aH (wN X (k-15)) 18))^^^((wN X (k-15)) / 2^3)))) (fun _=>jN (lH (lU (dE _ (iF _ _)) (dE _ (iF _ _))) (rV _ (iF _ _))))<|jE [[]]) (fun _=>?_)
  refine sD Tryz.f115 [0,1,3,7,15,0,32,96,224,511,1023,0,2048,6144,14336,30720,65535,131071] 18 [2,3,6,7,8] [] (fun _=>let qa:=vu (((aH (wN X (k-2)) 17)^^^(aH (wN X (k-2)) 19))^^^((wN X (k-2)) / 2^10));let qb:=vi (((k:Nat):Int)-2);[vn k,qb,jp (nb ρ2 0) (k-2),vu (wN X (k-2)),vu (aH (wN X (k-2)) 17),vn k,qb,jp (nb ρ2 0) (k-2),vu (wN X (k-2)),vu (aH (wN X (k-2)) 19),vu ((aH (wN X (k-2)) 17)^^^(aH (wN X (k-2)) 19)),vn k,qb,jp (nb ρ2 0) (k-2),vu (wN X (k-2)),vu ((wN X (k-2)) / 2^10),qa,qa]) (fun _=>[]) (cR [[]]<|jU (fun ρ=>(((k:Nat):Int)-2)) (fun _=>(((k:Nat):Int)-2)) (fun _=>(gZ (by omega)))<|cX (jS (fun _=>Instr.indexAt 115 (pt (nb ρ2 0)) (vi (((k:Nat):Int)-2))) (fun _=>(jp (nb ρ2 0) (k-2))) (fun _ w=>aX (n:=((k:Nat):Int)-2) (i:=k-2) Tryz.underlying115 Tryz.sizeOf41 (by omega) w))<|cX (kG _ 1 41 (fun _=>nb ρ2 0) (fun _=>k-2) (fun _=>C3) 115 (0,0) (fun _=>(vu (wN X (k-2)))) (fun _=>by kernel_rfl) Tryz.isAgg41 (fun _=>(by rw [hC3];exact lM (by omega) (by omega))))<|cC (f:=116) (args:=fun ρ=> #[vu (wN X (k-2)),vi 17]) (v:=fun ρ=>(vu (aH (wN X (k-2)) 17))) (fun _ w=>(fun w=>lS (wN X (k-2)) 17 (iF _ _) (by decide) w) w)<|cR [[]]<|jU (fun ρ=>(((k:Nat):Int)-2)) (fun _=>(((k:Nat):Int)-2)) (fun _=>(gZ (by omega)))<|cX (jS (fun _=>Instr.indexAt 115 (pt (nb ρ2 0)) (vi (((k:Nat):Int)-2))) (fun _=>(jp (nb ρ2 0) (k-2))) (fun _ w=>aX (n:=((k:Nat):Int)-2) (i:=k-2) Tryz.underlying115 Tryz.sizeOf41 (by omega) w))<|cX (kG _ 1 41 (fun _=>nb ρ2 0) (fun _=>k-2) (fun _=>C3) 115 (0,0) (fun _=>(vu (wN X (k-2)))) (fun _=>by kernel_rfl) Tryz.isAgg41 (fun _=>(by rw [hC3];exact lM (by omega) (by omega))))<|cC (f:=116) (args:=fun ρ=> #[vu (wN X (k-2)),vi 19]) (v:=fun ρ=>(vu (aH (wN X (k-2)) 19))) (fun _ w=>(fun w=>lS (wN X (k-2)) 19 (iF _ _) (by decide) w) w)<|cA (v:=fun ρ=>(.int .u32 (bits .xor .u32 ((aH (wN X (k-2)) 17:Nat):Int) ((aH (wN X (k-2)) 19:Nat):Int)))) (fun _=>(vu ((aH (wN X (k-2)) 17)^^^(aH (wN X (k-2)) 19)))) (fun _=>jN (lH (dE _ (iF _ _)) (dE _ (iF _ _))))<|cR [[]]<|jU (fun ρ=>(((k:Nat):Int)-2)) (fun _=>(((k:Nat):Int)-2)) (fun _=>(gZ (by omega)))<|cX (jS (fun _=>Instr.indexAt 115 (pt (nb ρ2 0)) (vi (((k:Nat):Int)-2))) (fun _=>(jp (nb ρ2 0) (k-2))) (fun _ w=>aX (n:=((k:Nat):Int)-2) (i:=k-2) Tryz.underlying115 Tryz.sizeOf41 (by omega) w))<|cX (kG _ 1 41 (fun _=>nb ρ2 0) (fun _=>k-2) (fun _=>C3) 115 (0,0) (fun _=>(vu (wN X (k-2)))) (fun _=>by kernel_rfl) Tryz.isAgg41 (fun _=>(by rw [hC3];exact lM (by omega) (by omega))))<|cB (a:=fun ρ=>(vu (wN X (k-2)))) (b:=fun ρ=>(.int .u64 10)) (v:=fun ρ=>(vu ((wN X (k-2)) / 2^10))) .shr 41 (fun _ w=>gG (k:=.u32) (x:=(wN X (k-2))) (c:=10) (iF _ _) w)<|cA (v:=fun ρ=>(.int .u32 (bits .xor .u32 (((aH (wN X (k-2)) 17)^^^(aH (wN X (k-2)) 19):Nat):Int) (((wN X (k-2)) / 2^10:Nat):Int)))) (fun _=>(vu (((aH (wN X (k-2)) 17)^^^(aH (wN X (k-2)) 19))^^^((wN X (k-2)) / 2^10)))) (fun _=>jN (lH (lU (dE _ (iF _ _)) (dE _ (iF _ _))) (rV _ (iF _ _))))<|jE [[]]) (fun _=>?_)
  refine rD Tryz.f115 [0,0,2,6,14,0,62,0,128,384,896,2046,0,8190,16383,32767] 16 [2,3,6] [] (fun _=>[vn k,vn k,vi (((k:Nat):Int)-16),jp (nb ρ2 0) (k-16),vu (wN X (k-16)),vu (((aH (wN X (k-15)) 7)^^^(aH (wN X (k-15)) 18))^^^((wN X (k-15)) / 2^3)),vu (add32 (wN X (k-16)) (((aH (wN X (k-15)) 7)^^^(aH (wN X (k-15)) 18))^^^((wN X (k-15)) / 2^3))),vn k,vi (((k:Nat):Int)-7),jp (nb ρ2 0) (k-7),vu (wN X (k-7)),vu (add32 (add32 (wN X (k-16)) (((aH (wN X (k-15)) 7)^^^(aH (wN X (k-15)) 18))^^^((wN X (k-15)) / 2^3))) (wN X (k-7))),vu (((aH (wN X (k-2)) 17)^^^(aH (wN X (k-2)) 19))^^^((wN X (k-2)) / 2^10)),vu (add32 (add32 (add32 (wN X (k-16)) (((aH (wN X (k-15)) 7)^^^(aH (wN X (k-15)) 18))^^^((wN X (k-15)) / 2^3))) (wN X (k-7))) (((aH (wN X (k-2)) 17)^^^(aH (wN X (k-2)) 19))^^^((wN X (k-2)) / 2^10))),jp (nb ρ2 0) k,undef]) (fun _=>[(15,(bD 1 (nb ρ2 0) (cL (C3.setIfInBounds k (vu (add32 (add32 (add32 (wN X (k-16)) (((aH (wN X (k-15)) 7)^^^(aH (wN X (k-15)) 18))^^^((wN X (k-15)) / 2^3))) (wN X (k-7))) (((aH (wN X (k-2)) 17)^^^(aH (wN X (k-2)) 19))^^^((wN X (k-2)) / 2^10))))) 115)))]) (cR [[],[]]<|jU (fun ρ=>(((k:Nat):Int)-16)) (fun _=>(((k:Nat):Int)-16)) (fun _=>(gZ (by omega)))<|cX (jS (fun _=>Instr.indexAt 115 (pt (nb ρ2 0)) (vi (((k:Nat):Int)-16))) (fun _=>(jp (nb ρ2 0) (k-16))) (fun _ w=>aX (n:=((k:Nat):Int)-16) (i:=k-16) Tryz.underlying115 Tryz.sizeOf41 (by omega) w))<|cX (kG _ 1 41 (fun _=>nb ρ2 0) (fun _=>k-16) (fun _=>C3) 115 (0,0) (fun _=>(vu (wN X (k-16)))) (fun _=>by kernel_rfl) Tryz.isAgg41 (fun _=>(by rw [hC3];exact lM (by omega) (by omega))))<|cR [[]]<|cA (fun _=>(vu (add32 (wN X (k-16)) (((aH (wN X (k-15)) 7)^^^(aH (wN X (k-15)) 18))^^^((wN X (k-15)) / 2^3))))) (fun _=>jN (bP (wN X (k-16)) (((aH (wN X (k-15)) 7)^^^(aH (wN X (k-15)) 18))^^^((wN X (k-15)) / 2^3))))<|cR [[]]<|jU (fun ρ=>(((k:Nat):Int)-7)) (fun _=>(((k:Nat):Int)-7)) (fun _=>(gZ (by omega)))<|cX (jS (fun _=>Instr.indexAt 115 (pt (nb ρ2 0)) (vi (((k:Nat):Int)-7))) (fun _=>(jp (nb ρ2 0) (k-7))) (fun _ w=>aX (n:=((k:Nat):Int)-7) (i:=k-7) Tryz.underlying115 Tryz.sizeOf41 (by omega) w))<|cX (kG _ 1 41 (fun _=>nb ρ2 0) (fun _=>k-7) (fun _=>C3) 115 (0,0) (fun _=>(vu (wN X (k-7)))) (fun _=>by kernel_rfl) Tryz.isAgg41 (fun _=>(by rw [hC3];exact lM (by omega) (by omega))))<|cA (fun _=>(vu (add32 (add32 (wN X (k-16)) (((aH (wN X (k-15)) 7)^^^(aH (wN X (k-15)) 18))^^^((wN X (k-15)) / 2^3))) (wN X (k-7))))) (fun _=>jN (bP (add32 (wN X (k-16)) (((aH (wN X (k-15)) 7)^^^(aH (wN X (k-15)) 18))^^^((wN X (k-15)) / 2^3))) (wN X (k-7))))<|cR [[]]<|cA (fun _=>(vu (add32 (add32 (add32 (wN X (k-16)) (((aH (wN X (k-15)) 7)^^^(aH (wN X (k-15)) 18))^^^((wN X (k-15)) / 2^3))) (wN X (k-7))) (((aH (wN X (k-2)) 17)^^^(aH (wN X (k-2)) 19))^^^((wN X (k-2)) / 2^10))))) (fun _=>jN (bP (add32 (add32 (wN X (k-16)) (((aH (wN X (k-15)) 7)^^^(aH (wN X (k-15)) 18))^^^((wN X (k-15)) / 2^3))) (wN X (k-7))) (((aH (wN X (k-2)) 17)^^^(aH (wN X (k-2)) 19))^^^((wN X (k-2)) / 2^10))))<|cX (jS (fun _=>Instr.indexAt 115 (pt (nb ρ2 0)) (vn k)) (fun _=>(jp (nb ρ2 0) k)) (fun _ w=>aX (n:=((k:Nat):Int)) (i:=k) Tryz.underlying115 Tryz.sizeOf41 (by omega) w))<|cX (qG _ 1 41 (fun _=>nb ρ2 0) (fun _=>k) (fun _=>C3) (fun _=>(C3.setIfInBounds k (vu (add32 (add32 (add32 (wN X (k-16)) (((aH (wN X (k-15)) 7)^^^(aH (wN X (k-15)) 18))^^^((wN X (k-15)) / 2^3))) (wN X (k-7))) (((aH (wN X (k-2)) 17)^^^(aH (wN X (k-2)) 19))^^^((wN X (k-2)) / 2^10)))))) 115 (fun _=>(vu (add32 (add32 (add32 (wN X (k-16)) (((aH (wN X (k-15)) 7)^^^(aH (wN X (k-15)) 18))^^^((wN X (k-15)) / 2^3))) (wN X (k-7))) (((aH (wN X (k-2)) 17)^^^(aH (wN X (k-2)) 19))^^^((wN X (k-2)) / 2^10))))) (fun _=>by kernel_rfl) Tryz.sizeOf41 (fun _=>rfl) (fun _=>(by rw [hC3,eH];omega)) (fun _=>rfl))<|cN) (fun _=>?_)
  refine aJ (aA ?_)
  refine rS Tryz.f115 3 [2,3,6] [] (fun _=>[vn k,vn (k+1),vn (k+1)]) (fun _=>[]) (cR [[]]<|jW (fun ρ=>(((k:Nat):Int)+1)) (fun _=>(k+1)) (fun _=>(aW k 1 (by omega)))<|jE [[]]) (fun _=>?_)
  exact mN (k+1,C3.setIfInBounds k (vu (add32 (add32 (add32 (wN X (k-16)) (((aH (wN X (k-15)) 7)^^^(aH (wN X (k-15)) 18))^^^((wN X (k-15)) / 2^3))) (wN X (k-7))) (((aH (wN X (k-2)) 17)^^^(aH (wN X (k-2)) 19))^^^((wN X (k-2)) / 2^10))))) (by show 64-(k+1)<64-k;omega) (⟨(by omega),by rw [hC3];exact tc_set (wN_more hk.1).symm⟩) []
 rw [hb3]
 refine bF (aN (aN (aT ?_)))
 rw [hC3]
 refine aA ?_
 refine sS Tryz.f115 2 [2] [1,0] (fun _=>[.agg (bY .u32 64 (tc X k)),undef]) (fun _=>[(1,(bD 0 (nb ρ1 1) (cL (bY .u32 64 (tc X k)) 115)))]) (jE [[1],[0]]) (fun _=>?_)
 refine aF ?_
 exact mR (v:=(.agg (bY .u32 64 (tc X k)))) (fun _ hS=>⟨congrArg Ending.returned (congrArg Value.agg (tc_end (by have:=yF hb3;omega))),hS.bel⟩)
theorem compress_any (s0:Nat) (s1:Nat) (s2:Nat) (s3:Nat) (s4:Nat) (s5:Nat) (s6:Nat) (s7:Nat) (X:List UInt8) (hs:ok8 (s0,s1,s2,s3,s4,s5,s6,s7)) (hX:X.length=64) (w0:World) (hf0:kJ w0):Calls Tryz.prog 89 #[.agg #[vu s0,vu s1,vu s2,vu s3,vu s4,vu s5,vu s6,vu s7],.agg (bs X).toArray] w0 (jR (.agg #[vu ((eF (s0,s1,s2,s3,s4,s5,s6,s7) X).1),vu ((eF (s0,s1,s2,s3,s4,s5,s6,s7) X).2.1),vu ((eF (s0,s1,s2,s3,s4,s5,s6,s7) X).2.2.1),vu ((eF (s0,s1,s2,s3,s4,s5,s6,s7) X).2.2.2.1),vu ((eF (s0,s1,s2,s3,s4,s5,s6,s7) X).2.2.2.2.1),vu ((eF (s0,s1,s2,s3,s4,s5,s6,s7) X).2.2.2.2.2.1),vu ((eF (s0,s1,s2,s3,s4,s5,s6,s7) X).2.2.2.2.2.2.1),vu ((eF (s0,s1,s2,s3,s4,s5,s6,s7) X).2.2.2.2.2.2.2)]) w0):=by
 refine Calls.of_ok (n:=131) (F:=(fun w=>kJ w∧True)) Tryz.func89 rfl rfl rfl (by simp) (hf0.pers0.and cO) ?_
 refine sS Tryz.f89 3 [2,3,4] [] (fun ρ=>[pt (nb ρ 0),pt (nb ρ 1),pt (nb ρ 2)]) (fun ρ=>[(0,(nw ρ 0 (cL #[vu s0,vu s1,vu s2,vu s3,vu s4,vu s5,vu s6,vu s7] 104))),(1,(nw ρ 1 (cL (bs X).toArray 106))),(2,(nw ρ 2 (cL #[.int .u32 0,.int .u32 0,.int .u32 0,.int .u32 0,.int .u32 0,.int .u32 0,.int .u32 0,.int .u32 0] 104)))]) (jE [[],[],[]]) (fun ρ1=>?_)
 refine sS Tryz.f89 4 [2,4,5] [1,0,1,1] (fun ρ=>[.agg (bs X).toArray,.agg (bY .u32 64 (wN X)),pt (nb ρ 2),undef]) (fun ρ=>[(2,(nw ρ 2 (cL (bY .u32 64 (fun _=>0)) 115))),(3,(bD 19 (nb ρ 2) (cL (bY .u32 64 (wN X)) 115)))]) (cX (qF (fun _ _ _ hG=>vS Tryz.isAgg106 Tryz.sizeOf106 (hG.kn (g:=nb ρ1 1) (o:=(cL (bs X).toArray 106)) 1) (by simp [bs,hX])))<|cC (fun _ w=>sched_any X hX w)<|jE [[],[19]]) (fun ρ2=>?_)
 refine sD Tryz.f89 [0,1,0,4,0,16,0,64,3,271,831,2047] 12 [2,4,5,6,7,8,9] [] (fun _=>[pt (nb ρ1 0),vu s0,jp (nb ρ1 0) 1,vu s1,jp (nb ρ1 0) 2,vu s2,jp (nb ρ1 0) 3,vu s3,vu s0,vu s1,vu s2,vu s3]) (fun _=>[]) (jE [[],[0],[],[0],[],[0],[],[0],[],[],[],[]]) (fun _=>?_)
 refine sD Tryz.f89 [0,1,0,4,0,16,0,64,3,271,831,2047] 12 [2,4,5,6,7,8,9,10,11,12,13] [] (fun _=>[jp (nb ρ1 0) 4,vu s4,jp (nb ρ1 0) 5,vu s5,jp (nb ρ1 0) 6,vu s6,jp (nb ρ1 0) 7,vu s7,vu s4,vu s5,vu s6,vu s7]) (fun _=>[]) (jE [[],[0],[],[0],[],[0],[],[0],[],[],[],[]]) (fun _=>?_)
 refine aB (jJ Tryz.f89 1 [2,4,5,6,7,8,9,10,11,12,13,35] [vi 0] (aI ?_))
 refine oL (σ:=Nat × Nat × Nat × Nat × Nat × Nat × Nat × Nat × Nat) (fun ⟨i,ra,rb,rc,rd,re,rf,rg,rh⟩=>[(2,(pt (nb ρ1 0))),(4,(pt (nb ρ1 2))),(5,(pt (nb ρ2 2))),(6,(vu ra)),(7,(vu rb)),(8,(vu rc)),(9,(vu rd)),(10,(vu re)),(11,(vu rf)),(12,(vu rg)),(13,(vu rh)),(35,(vn i))]) (fun ⟨_,_,_,_,_,_,_,_,_⟩=>[(nb ρ1 0,(cL #[vu s0,vu s1,vu s2,vu s3,vu s4,vu s5,vu s6,vu s7] 104)),(nb ρ1 2,(cL #[.int .u32 0,.int .u32 0,.int .u32 0,.int .u32 0,.int .u32 0,.int .u32 0,.int .u32 0,.int .u32 0] 104)),(nb ρ2 2,(cL (bY .u32 64 (wN X)) 115))]) (fun ⟨i,_,_,_,_,_,_,_,_⟩=>64-i)
   (fun ⟨i,ra,rb,rc,rd,re,rf,rg,rh⟩=>(i≤64)∧(rnds X (s0,s1,s2,s3,s4,s5,s6,s7) i=(ra,rb,rc,rd,re,rf,rg,rh))) (0,s0,s1,s2,s3,s4,s5,s6,s7) (⟨by decide,rfl⟩) [] ?_
 rintro ⟨i,ra,rb,rc,rd,re,rf,rg,rh⟩ ⟨hi,hr⟩
 change Ok Tryz.prog _ _ 131 [(2,(pt (nb ρ1 0))),(4,(pt (nb ρ1 2))),(5,(pt (nb ρ2 2))),(6,(vu ra)),(7,(vu rb)),(8,(vu rc)),(9,(vu rd)),(10,(vu re)),(11,(vu rf)),(12,(vu rg)),(13,(vu rh)),(35,(vn i))] _ [(nb ρ1 0,(cL #[vu s0,vu s1,vu s2,vu s3,vu s4,vu s5,vu s6,vu s7] 104)),(nb ρ1 2,(cL #[.int .u32 0,.int .u32 0,.int .u32 0,.int .u32 0,.int .u32 0,.int .u32 0,.int .u32 0,.int .u32 0] 104)),(nb ρ2 2,(cL (bY .u32 64 (wN X)) 115))] (fun w=>kJ w∧True)
 have ho:ok8 (ra,rb,rc,rd,re,rf,rg,rh):=hr ▸ rnds_ok hs i
 refine jJ Tryz.f89 1 [2,4,5,6,7,8,9,10,11,12,13,35,36] [.bool (decide (((i:Nat):Int)<64))] (aB ?_)
 refine oC (decide (((i:Nat):Int)<64)) (fun hb1=>?_) (fun hb1=>?_)
 ·
  rw [hb1]
  have:=yT hb1
  refine aG (aA (aB (aI (jJ Tryz.f89 2 [2,4,5,6,7,8,9,10,11,12,13,14,35] [vn i,vn i] ?_))))
  refine sD Tryz.f89 [0,0,2,0,14,30,0,94,254,511,0,0,3072,0,8192,0,57344,130048,262143,0,524288,1572864,4194303,0,8388608,25165824,67108863,134217727] 28 [2,4,5,6,7,8,9,10,11,12,13,15,35] [] (fun _=>let qa:=vu (add32 (add32 (add32 (add32 rh (((aH re 6)^^^(aH re 11))^^^(aH re 25))) ((re&&&rf)^^^((dW re)&&&rg))) (kN i)) (wN X i));[vu rh,vu re,vu (aH re 6),vu re,vu (aH re 11),vu ((aH re 6)^^^(aH re 11)),vu re,vu (aH re 25),vu (((aH re 6)^^^(aH re 11))^^^(aH re 25)),vu (add32 rh (((aH re 6)^^^(aH re 11))^^^(aH re 25))),vu re,vu rf,vu (re&&&rf),vu re,vu (dW re),vu rg,vu ((dW re)&&&rg),vu ((re&&&rf)^^^((dW re)&&&rg)),vu (add32 (add32 rh (((aH re 6)^^^(aH re 11))^^^(aH re 25))) ((re&&&rf)^^^((dW re)&&&rg))),vn i,jp 1 i,vu (kN i),vu (add32 (add32 (add32 rh (((aH re 6)^^^(aH re 11))^^^(aH re 25))) ((re&&&rf)^^^((dW re)&&&rg))) (kN i)),vn i,jp (nb ρ2 2) i,vu (wN X i),qa,qa]) (fun _=>[]) (cR [[],[]]<|cC (fun _ w=>lS re 6 ho.2.2.2.2.1 (by decide) w)<|cR [[]]<|cC (fun _ w=>lS re 11 ho.2.2.2.2.1 (by decide) w)<|cA (v:=fun ρ=>(.int .u32 (bits .xor .u32 ((aH re 6:Nat):Int) ((aH re 11:Nat):Int)))) (fun _=>(vu ((aH re 6)^^^(aH re 11)))) (fun _=>jN (lH (dE _ ho.2.2.2.2.1) (dE _ ho.2.2.2.2.1)))<|cR [[]]<|cC (fun _ w=>lS re 25 ho.2.2.2.2.1 (by decide) w)<|cA (v:=fun ρ=>(.int .u32 (bits .xor .u32 (((aH re 6)^^^(aH re 11):Nat):Int) ((aH re 25:Nat):Int)))) (fun _=>(vu (((aH re 6)^^^(aH re 11))^^^(aH re 25)))) (fun _=>jN (lH (lU (dE _ ho.2.2.2.2.1) (dE _ ho.2.2.2.2.1)) (dE _ ho.2.2.2.2.1)))<|cA (fun _=>(vu (add32 rh (((aH re 6)^^^(aH re 11))^^^(aH re 25))))) (fun _=>jN (bP rh (((aH re 6)^^^(aH re 11))^^^(aH re 25))))<|cR [[],[]]<|cA (fun _=>(vu (re&&&rf))) (fun _=>jN (xR ho.2.2.2.2.1 ho.2.2.2.2.2.1))<|cR [[]]<|cA (fun _=>(vu (dW re))) (fun _=>jN (not_xor32 ho.2.2.2.2.1))<|cR [[]]<|cA (v:=fun ρ=>(.int .u32 (bits .and .u32 ((dW re:Nat):Int) ((rg:Nat):Int)))) (fun _=>(vu ((dW re)&&&rg))) (fun _=>jN (xR (y9 _) ho.2.2.2.2.2.2.1))<|cA (v:=fun ρ=>(.int .u32 (bits .xor .u32 ((re&&&rf:Nat):Int) (((dW re)&&&rg:Nat):Int)))) (fun _=>(vu ((re&&&rf)^^^((dW re)&&&rg)))) (fun _=>jN (lH (iR _ ho.2.2.2.2.1) (iR _ (y9 _))))<|cA (fun _=>(vu (add32 (add32 rh (((aH re 6)^^^(aH re 11))^^^(aH re 25))) ((re&&&rf)^^^((dW re)&&&rg))))) (fun _=>jN (bP (add32 rh (((aH re 6)^^^(aH re 11))^^^(aH re 25))) ((re&&&rf)^^^((dW re)&&&rg))))<|cR [[]]<|cX (jS (fun _=>Instr.indexAt 115 (pt 1) (vn i)) (fun _=>(jp 1 i)) (fun _ w=>aX (n:=((i:Nat):Int)) (i:=i) Tryz.underlying115 Tryz.sizeOf41 (by omega) w))<|cX (qF (v:=fun ρ=>(vu (kN i))) (fun _ _ _ hG=>mY (off:=i) Tryz.isAgg41 hG.fn.1 (kC_get (by omega))))<|cA (fun _=>(vu (add32 (add32 (add32 rh (((aH re 6)^^^(aH re 11))^^^(aH re 25))) ((re&&&rf)^^^((dW re)&&&rg))) (kN i)))) (fun _=>jN (bP (add32 (add32 rh (((aH re 6)^^^(aH re 11))^^^(aH re 25))) ((re&&&rf)^^^((dW re)&&&rg))) (kN i)))<|cR [[]]<|cX (jS (fun _=>Instr.indexAt 115 (pt (nb ρ2 2)) (vn i)) (fun _=>(jp (nb ρ2 2) i)) (fun _ w=>aX (n:=((i:Nat):Int)) (i:=i) Tryz.underlying115 Tryz.sizeOf41 (by omega) w))<|cX (kG _ 2 41 (fun _=>nb ρ2 2) (fun _=>i) (fun _=>(bY .u32 64 (wN X))) 115 (0,0) (fun _=>(vu (wN X i))) (fun _=>by kernel_rfl) Tryz.isAgg41 (fun _=>(nG (by omega))))<|cA (fun _=>(vu (add32 (add32 (add32 (add32 rh (((aH re 6)^^^(aH re 11))^^^(aH re 25))) ((re&&&rf)^^^((dW re)&&&rg))) (kN i)) (wN X i)))) (fun _=>jN (bP (add32 (add32 (add32 rh (((aH re 6)^^^(aH re 11))^^^(aH re 25))) ((re&&&rf)^^^((dW re)&&&rg))) (kN i)) (wN X i)))<|jE [[]]) (fun _=>?_)
  refine sS Tryz.f89 21 [2,4,5,6,7,8,9,10,11,12,13,15,16,35] [] (fun _=>let qa:=vu (add32 (((aH ra 2)^^^(aH ra 13))^^^(aH ra 22)) (((ra&&&rb)^^^(ra&&&rc))^^^(rb&&&rc)));[vu ra,vu (aH ra 2),vu ra,vu (aH ra 13),vu ((aH ra 2)^^^(aH ra 13)),vu ra,vu (aH ra 22),vu (((aH ra 2)^^^(aH ra 13))^^^(aH ra 22)),vu ra,vu rb,vu (ra&&&rb),vu ra,vu rc,vu (ra&&&rc),vu ((ra&&&rb)^^^(ra&&&rc)),vu rb,vu rc,vu (rb&&&rc),vu (((ra&&&rb)^^^(ra&&&rc))^^^(rb&&&rc)),qa,qa]) (fun _=>[]) (cR [[]]<|cC (fun _ w=>lS ra 2 ho.1 (by decide) w)<|cR [[]]<|cC (fun _ w=>lS ra 13 ho.1 (by decide) w)<|cA (v:=fun ρ=>(.int .u32 (bits .xor .u32 ((aH ra 2:Nat):Int) ((aH ra 13:Nat):Int)))) (fun _=>(vu ((aH ra 2)^^^(aH ra 13)))) (fun _=>jN (lH (dE _ ho.1) (dE _ ho.1)))<|cR [[]]<|cC (fun _ w=>lS ra 22 ho.1 (by decide) w)<|cA (v:=fun ρ=>(.int .u32 (bits .xor .u32 (((aH ra 2)^^^(aH ra 13):Nat):Int) ((aH ra 22:Nat):Int)))) (fun _=>(vu (((aH ra 2)^^^(aH ra 13))^^^(aH ra 22)))) (fun _=>jN (lH (lU (dE _ ho.1) (dE _ ho.1)) (dE _ ho.1)))<|cR [[],[]]<|cA (fun _=>(vu (ra&&&rb))) (fun _=>jN (xR ho.1 ho.2.1))<|cR [[],[]]<|cA (fun _=>(vu (ra&&&rc))) (fun _=>jN (xR ho.1 ho.2.2.1))<|cA (v:=fun ρ=>(.int .u32 (bits .xor .u32 ((ra&&&rb:Nat):Int) ((ra&&&rc:Nat):Int)))) (fun _=>(vu ((ra&&&rb)^^^(ra&&&rc)))) (fun _=>jN (lH (iR _ ho.1) (iR _ ho.1)))<|cR [[],[]]<|cA (fun _=>(vu (rb&&&rc))) (fun _=>jN (xR ho.2.1 ho.2.2.1))<|cA (v:=fun ρ=>(.int .u32 (bits .xor .u32 (((ra&&&rb)^^^(ra&&&rc):Nat):Int) ((rb&&&rc:Nat):Int)))) (fun _=>(vu (((ra&&&rb)^^^(ra&&&rc))^^^(rb&&&rc)))) (fun _=>jN (lH (lU (iR _ ho.1) (iR _ ho.1)) (iR _ ho.2.1)))<|cA (fun _=>(vu (add32 (((aH ra 2)^^^(aH ra 13))^^^(aH ra 22)) (((ra&&&rb)^^^(ra&&&rc))^^^(rb&&&rc))))) (fun _=>jN (bP (((aH ra 2)^^^(aH ra 13))^^^(aH ra 22)) (((ra&&&rb)^^^(ra&&&rc))^^^(rb&&&rc))))<|jE [[]]) (fun _=>?_)
  refine rS Tryz.f89 20 [2,4,5,6,7,8,9,10,11,12,13,35] [] (fun _=>let qa:=vu (add32 (add32 (add32 (add32 (add32 rh (((aH re 6)^^^(aH re 11))^^^(aH re 25))) ((re&&&rf)^^^((dW re)&&&rg))) (kN i)) (wN X i)) (add32 (((aH ra 2)^^^(aH ra 13))^^^(aH ra 22)) (((ra&&&rb)^^^(ra&&&rc))^^^(rb&&&rc))));let qb:=vu (add32 rd (add32 (add32 (add32 (add32 rh (((aH re 6)^^^(aH re 11))^^^(aH re 25))) ((re&&&rf)^^^((dW re)&&&rg))) (kN i)) (wN X i)));let qc:=vu (add32 (add32 (add32 (add32 rh (((aH re 6)^^^(aH re 11))^^^(aH re 25))) ((re&&&rf)^^^((dW re)&&&rg))) (kN i)) (wN X i));[qc,vu (add32 (((aH ra 2)^^^(aH ra 13))^^^(aH ra 22)) (((ra&&&rb)^^^(ra&&&rc))^^^(rb&&&rc))),qa,vu ra,vu rb,vu rc,vu rd,qc,qb,vu re,vu rf,vu rg,qa,vu ra,vu rb,vu rc,qb,vu re,vu rf,vu rg]) (fun _=>[]) (cR [[],[]]<|cA (fun _=>(vu (add32 (add32 (add32 (add32 (add32 rh (((aH re 6)^^^(aH re 11))^^^(aH re 25))) ((re&&&rf)^^^((dW re)&&&rg))) (kN i)) (wN X i)) (add32 (((aH ra 2)^^^(aH ra 13))^^^(aH ra 22)) (((ra&&&rb)^^^(ra&&&rc))^^^(rb&&&rc)))))) (fun _=>jN (bP (add32 (add32 (add32 (add32 rh (((aH re 6)^^^(aH re 11))^^^(aH re 25))) ((re&&&rf)^^^((dW re)&&&rg))) (kN i)) (wN X i)) (add32 (((aH ra 2)^^^(aH ra 13))^^^(aH ra 22)) (((ra&&&rb)^^^(ra&&&rc))^^^(rb&&&rc)))))<|cR [[],[],[],[],[]]<|cA (fun _=>(vu (add32 rd (add32 (add32 (add32 (add32 rh (((aH re 6)^^^(aH re 11))^^^(aH re 25))) ((re&&&rf)^^^((dW re)&&&rg))) (kN i)) (wN X i))))) (fun _=>jN (bP rd (add32 (add32 (add32 (add32 rh (((aH re 6)^^^(aH re 11))^^^(aH re 25))) ((re&&&rf)^^^((dW re)&&&rg))) (kN i)) (wN X i))))<|jE [[],[],[],[],[],[],[],[],[],[],[]]) (fun _=>?_)
  refine aJ (aA ?_)
  refine rS Tryz.f89 2 [2,4,5,6,7,8,9,10,11,12,13,35] [] (fun _=>[vn (i+1),vn (i+1)]) (fun _=>[]) (jW (fun ρ=>(((i:Nat):Int)+1)) (fun _=>(i+1)) (fun _=>(aW i 1 (by omega)))<|jE [[]]) (fun _=>?_)
  exact mN (i+1,add32 (add32 (add32 (add32 (add32 rh (((aH re 6)^^^(aH re 11))^^^(aH re 25))) ((re&&&rf)^^^((dW re)&&&rg))) (kN i)) (wN X i)) (add32 (((aH ra 2)^^^(aH ra 13))^^^(aH ra 22)) (((ra&&&rb)^^^(ra&&&rc))^^^(rb&&&rc))),ra,rb,rc,add32 rd (add32 (add32 (add32 (add32 rh (((aH re 6)^^^(aH re 11))^^^(aH re 25))) ((re&&&rf)^^^((dW re)&&&rg))) (kN i)) (wN X i)),re,rf,rg) (by show 64-(i+1)<64-i;omega) (⟨(by omega),rnds_next hr⟩) []
 rw [hb1]
 refine bF (aN (aN (aT (aA ?_))))
 refine sS Tryz.f89 34 [4] [0,1,0] (fun _=>[pt (nb ρ1 0),vu s0,vu ra,vu (add32 s0 ra),jp (nb ρ1 0) 1,vu s1,vu rb,vu (add32 s1 rb),jp (nb ρ1 0) 2,vu s2,vu rc,vu (add32 s2 rc),jp (nb ρ1 0) 3,vu s3,vu rd,vu (add32 s3 rd),jp (nb ρ1 0) 4,vu s4,vu re,vu (add32 s4 re),jp (nb ρ1 0) 5,vu s5,vu rf,vu (add32 s5 rf),jp (nb ρ1 0) 6,vu s6,vu rg,vu (add32 s6 rg),jp (nb ρ1 0) 7,vu s7,vu rh,vu (add32 s7 rh),.agg #[vu (add32 s0 ra),vu (add32 s1 rb),vu (add32 s2 rc),vu (add32 s3 rd),vu (add32 s4 re),vu (add32 s5 rf),vu (add32 s6 rg),vu (add32 s7 rh)],undef]) (fun _=>[(33,(bD 1 (nb ρ1 2) (cL #[vu (add32 s0 ra),vu (add32 s1 rb),vu (add32 s2 rc),vu (add32 s3 rd),vu (add32 s4 re),vu (add32 s5 rf),vu (add32 s6 rg),vu (add32 s7 rh)] 104)))]) (cR [[],[0],[]]<|cA (fun _=>(vu (add32 s0 ra))) (fun _=>jN (bP s0 ra))<|cR [[],[0],[]]<|cA (fun _=>(vu (add32 s1 rb))) (fun _=>jN (bP s1 rb))<|cR [[],[0],[]]<|cA (fun _=>(vu (add32 s2 rc))) (fun _=>jN (bP s2 rc))<|cR [[],[0],[]]<|cA (fun _=>(vu (add32 s3 rd))) (fun _=>jN (bP s3 rd))<|cR [[],[0],[]]<|cA (fun _=>(vu (add32 s4 re))) (fun _=>jN (bP s4 re))<|cR [[],[0],[]]<|cA (fun _=>(vu (add32 s5 rf))) (fun _=>jN (bP s5 rf))<|cR [[],[0],[]]<|cA (fun _=>(vu (add32 s6 rg))) (fun _=>jN (bP s6 rg))<|cR [[],[0],[]]<|cA (fun _=>(vu (add32 s7 rh))) (fun _=>jN (bP s7 rh))<|jE [[],[1]]) (fun _=>?_)
 refine aF ?_
 exact mR (v:=(.agg #[vu (add32 s0 ra),vu (add32 s1 rb),vu (add32 s2 rc),vu (add32 s3 rd),vu (add32 s4 re),vu (add32 s5 rf),vu (add32 s6 rg),vu (add32 s7 rh)])) (fun _ hS=>⟨congrArg Ending.returned (by rw [cmp_end hr (show i=64 by have:=yF hb1;omega)]),hS.bel⟩)
theorem sum_any (a:Option Addr) (c:Nat) (B:List UInt8) (h0:0<B.length) (hl:B.length+73≤140737488351232) (w0:World) (hf0:Bs w0 a c B) (hf1:kJ w0) (hf2:kX w0):Calls Tryz.prog 54 #[.slice a B.length c] w0 (jR (.agg (hB (aU B))) w0):=by
 refine Calls.of_ok (n:=48) (F:=(fun w=>Bs w a c B∧kJ w∧kX w∧True)) Tryz.func54 rfl rfl rfl (by simp) (hf0.pers0.and (hf1.pers0.and (hf2.pers0.and cO))) ?_
 refine sS Tryz.f54 1 [0,2] [] (fun ρ=>[pt (nb ρ 0)]) (fun ρ=>[(0,(nw ρ 0 (cL (hB 0) 43)))]) (jE [[]]) (fun ρ1=>?_)
 refine iZ Tryz.f54 8 [2,3] [1,0] (fun ρ=>let qa:Value:=.slice (oa ρ 6) (B++(aY B.length)).length (nb ρ 6);[.slice a B.length c,.slice a B.length c,vn B.length,vx B.length,.slice (oa ρ 4) (aY B.length).length (nb ρ 4),vs (nb ρ 5) 2 2,qa,qa]) (fun ρ=>[(5,(nw ρ 5 (cL #[.slice a B.length c,.slice (oa ρ 4) (aY B.length).length (nb ρ 4)] 33)))]) (fun ρ=>[(4,fun w=>Fs w0 w (oa ρ 4) (nb ρ 4) (aY B.length)),(6,fun w=>Fs w0 w (oa ρ 6) (nb ρ 6) (B++(aY B.length)))]) (fun ρ=>(fun w=>Bs w a c B∧kJ w∧kX w∧Fs w0 w (oa ρ 4) (nb ρ 4) (aY B.length)∧Fs w0 w (oa ρ 6) (nb ρ 6) (B++(aY B.length))∧True)) (fun _=>True) (fun _ _ hF hf=>⟨⟨hF.1,hF.2.1,hF.2.2.1,hf 4,hf 6,trivial⟩,trivial⟩) (cR [[],[],[]]<|cA (v:=fun ρ=>(.int .u64 (IntKind.u64.wrap ((B.length:Nat):Int)))) (fun _=>(vx B.length)) (fun _=>congrArg (Value.int .u64) (u64N (by have:=bJ B;have:=aS B.length;omega)))<|cX (qB (fun _ _ w _=>pad_any B.length (by have:=bJ B;have:=aS B.length;omega) w))<|cR [[]]<|cX (qB (fun ρ _ w hG=>yA (nb ρ 5) a c B (oa ρ 4) (nb ρ 4) (aY B.length) (by have:=yG B.length;have:=aS B.length;omega) h0 w (Kb.of_block (hG.kn (g:=nb ρ 5) (o:=(cL #[.slice a B.length c,.slice (oa ρ 4) (aY B.length).length (nb ρ 4)] 33)) 41)) hG.fn.1 (show Fs w0 w (oa ρ 4) (nb ρ 4) (aY B.length) from (hG.facts 4 rfl).now).1))<|jE [[]]) (fun ρ2 _=>?_)
 refine sS Tryz.f54 3 [2,3,4] [] (fun ρ=>[.agg #[.int .u32 1779033703,.int .u32 3144134277,.int .u32 1013904242,.int .u32 2773480762,.int .u32 1359893119,.int .u32 2600822924,.int .u32 528734635,.int .u32 1541459225],pt (nb ρ 1),undef]) (fun ρ=>[(1,(nw ρ 1 (cL #[.int .u32 0,.int .u32 0,.int .u32 0,.int .u32 0,.int .u32 0,.int .u32 0,.int .u32 0,.int .u32 0] 104))),(2,(bD 9 (nb ρ 1) (cL #[.int .u32 1779033703,.int .u32 3144134277,.int .u32 1013904242,.int .u32 2773480762,.int .u32 1359893119,.int .u32 2600822924,.int .u32 528734635,.int .u32 1541459225] 104)))]) (cX (qF (v:=fun ρ=>(.agg #[.int .u32 1779033703,.int .u32 3144134277,.int .u32 1013904242,.int .u32 2773480762,.int .u32 1359893119,.int .u32 2600822924,.int .u32 528734635,.int .u32 1541459225])) (fun _ _ _ hG=>ld_blkA (off:=0) (vs:=[.int .u32 1779033703,.int .u32 3144134277,.int .u32 1013904242,.int .u32 2773480762,.int .u32 1359893119,.int .u32 2600822924,.int .u32 528734635,.int .u32 1541459225]) Tryz.isAgg104 Tryz.sizeOf104 hG.fn.2.2.1 rfl (fun _ _=>by rw [Nat.zero_add];simp)))<|jE [[],[9]]) (fun ρ3=>?_)
 refine aB ?_
 refine sS Tryz.f54 4 [2,3,4,18,19] [] (fun _=>[.slice (oa ρ2 6) (B++(aY B.length)).length (nb ρ2 6),vn (B++(aY B.length)).length,vn ((B++(aY B.length)).length / 64),vi 0]) (fun _=>[]) (cR [[],[]]<|cB (a:=fun ρ=>(vn (B++(aY B.length)).length)) (b:=fun ρ=>(vi 64)) (v:=fun ρ=>(vn ((B++(aY B.length)).length / 64))) .quo 3 (fun _ w=>run_quoI (n:=(B++(aY B.length)).length) (d:=64) (by decide) (by have:=bJ B;have:=aS B.length;omega) w)<|jE [[]]) (fun _=>?_)
 refine aI ?_
 refine oL (σ:=Nat × Nat × Nat × Nat × Nat × Nat × Nat × Nat × Nat) (fun ⟨i,_,_,_,_,_,_,_,_⟩=>[(2,(pt (nb ρ1 0))),(3,(.slice (oa ρ2 6) (B++(aY B.length)).length (nb ρ2 6))),(4,(pt (nb ρ3 1))),(18,(vn ((B++(aY B.length)).length / 64))),(19,(vn i))]) (fun ⟨_,t0,t1,t2,t3,t4,t5,t6,t7⟩=>[(nb ρ1 0,(cL (hB 0) 43)),(nb ρ3 1,(cL #[vu t0,vu t1,vu t2,vu t3,vu t4,vu t5,vu t6,vu t7] 104))]) (fun ⟨i,_,_,_,_,_,_,_,_⟩=>(B++(aY B.length)).length / 64-i)
   (fun ⟨i,t0,t1,t2,t3,t4,t5,t6,t7⟩=>(i≤(B++(aY B.length)).length / 64)∧(shaS (B++(aY B.length)) i=(t0,t1,t2,t3,t4,t5,t6,t7))) (0,1779033703,3144134277,1013904242,2773480762,1359893119,2600822924,528734635,1541459225) (⟨Nat.zero_le _,rfl⟩) [] ?_
 rintro ⟨i,t0,t1,t2,t3,t4,t5,t6,t7⟩ ⟨hi,hQ⟩
 change Ok Tryz.prog _ _ 48 [(2,(pt (nb ρ1 0))),(3,(.slice (oa ρ2 6) (B++(aY B.length)).length (nb ρ2 6))),(4,(pt (nb ρ3 1))),(18,(vn ((B++(aY B.length)).length / 64))),(19,(vn i))] _ [(nb ρ1 0,(cL (hB 0) 43)),(nb ρ3 1,(cL #[vu t0,vu t1,vu t2,vu t3,vu t4,vu t5,vu t6,vu t7] 104))] (fun w=>Bs w a c B∧kJ w∧kX w∧Fs w0 w (oa ρ2 4) (nb ρ2 4) (aY B.length)∧Fs w0 w (oa ρ2 6) (nb ρ2 6) (B++(aY B.length))∧True)
 refine jJ Tryz.f54 1 [2,3,4,18,19,20] [.bool (decide (((i:Nat):Int)<(((B++(aY B.length)).length / 64:Nat):Int)))] (aB ?_)
 refine oC (decide (((i:Nat):Int)<(((B++(aY B.length)).length / 64:Nat):Int))) (fun hb1=>?_) (fun hb1=>?_)
 ·
  rw [hb1]
  have:=yT hb1
  refine aG (aA (aB (aI (jJ Tryz.f54 2 [2,3,4,5,18,19] [vn i,vn i] ?_))))
  refine rDf Tryz.f54 [0,0,0,4,14,30,62,127,255] 9 [2,3,4,18,19] [] (fun _=>[.agg #[vu t0,vu t1,vu t2,vu t3,vu t4,vu t5,vu t6,vu t7],.slice (oa ρ2 6) (B++(aY B.length)).length (nb ρ2 6),vn i,vn (64*i),.slice (uF (oa ρ2 6) (64*i) (nb ρ2 6)) (mid (B++(aY B.length)) (64*i) (B++(aY B.length)).length).length ((nb ρ2 6)-(64*i)),.pointer (uF (oa ρ2 6) (64*i) (nb ρ2 6)),.agg (bs ((mid (B++(aY B.length)) (64*i) (B++(aY B.length)).length).take 64)).toArray,.agg #[vu ((eF (t0,t1,t2,t3,t4,t5,t6,t7) ((mid (B++(aY B.length)) (64*i) (B++(aY B.length)).length).take 64)).1),vu ((eF (t0,t1,t2,t3,t4,t5,t6,t7) ((mid (B++(aY B.length)) (64*i) (B++(aY B.length)).length).take 64)).2.1),vu ((eF (t0,t1,t2,t3,t4,t5,t6,t7) ((mid (B++(aY B.length)) (64*i) (B++(aY B.length)).length).take 64)).2.2.1),vu ((eF (t0,t1,t2,t3,t4,t5,t6,t7) ((mid (B++(aY B.length)) (64*i) (B++(aY B.length)).length).take 64)).2.2.2.1),vu ((eF (t0,t1,t2,t3,t4,t5,t6,t7) ((mid (B++(aY B.length)) (64*i) (B++(aY B.length)).length).take 64)).2.2.2.2.1),vu ((eF (t0,t1,t2,t3,t4,t5,t6,t7) ((mid (B++(aY B.length)) (64*i) (B++(aY B.length)).length).take 64)).2.2.2.2.2.1),vu ((eF (t0,t1,t2,t3,t4,t5,t6,t7) ((mid (B++(aY B.length)) (64*i) (B++(aY B.length)).length).take 64)).2.2.2.2.2.2.1),vu ((eF (t0,t1,t2,t3,t4,t5,t6,t7) ((mid (B++(aY B.length)) (64*i) (B++(aY B.length)).length).take 64)).2.2.2.2.2.2.2)],undef]) (fun _=>[(8,(bD 1 (nb ρ3 1) (cL #[vu ((eF (t0,t1,t2,t3,t4,t5,t6,t7) ((mid (B++(aY B.length)) (64*i) (B++(aY B.length)).length).take 64)).1),vu ((eF (t0,t1,t2,t3,t4,t5,t6,t7) ((mid (B++(aY B.length)) (64*i) (B++(aY B.length)).length).take 64)).2.1),vu ((eF (t0,t1,t2,t3,t4,t5,t6,t7) ((mid (B++(aY B.length)) (64*i) (B++(aY B.length)).length).take 64)).2.2.1),vu ((eF (t0,t1,t2,t3,t4,t5,t6,t7) ((mid (B++(aY B.length)) (64*i) (B++(aY B.length)).length).take 64)).2.2.2.1),vu ((eF (t0,t1,t2,t3,t4,t5,t6,t7) ((mid (B++(aY B.length)) (64*i) (B++(aY B.length)).length).take 64)).2.2.2.2.1),vu ((eF (t0,t1,t2,t3,t4,t5,t6,t7) ((mid (B++(aY B.length)) (64*i) (B++(aY B.length)).length).take 64)).2.2.2.2.2.1),vu ((eF (t0,t1,t2,t3,t4,t5,t6,t7) ((mid (B++(aY B.length)) (64*i) (B++(aY B.length)).length).take 64)).2.2.2.2.2.2.1),vu ((eF (t0,t1,t2,t3,t4,t5,t6,t7) ((mid (B++(aY B.length)) (64*i) (B++(aY B.length)).length).take 64)).2.2.2.2.2.2.2)] 104)))]) (fun _=>[(4,fun w=>Bs w (uF (oa ρ2 6) (64*i) (nb ρ2 6)) ((nb ρ2 6)-(64*i)) (mid (B++(aY B.length)) (64*i) (B++(aY B.length)).length))]) (fun _=>(fun w=>Bs w a c B∧kJ w∧kX w∧Fs w0 w (oa ρ2 4) (nb ρ2 4) (aY B.length)∧Fs w0 w (oa ρ2 6) (nb ρ2 6) (B++(aY B.length))∧Bs w (uF (oa ρ2 6) (64*i) (nb ρ2 6)) ((nb ρ2 6)-(64*i)) (mid (B++(aY B.length)) (64*i) (B++(aY B.length)).length)∧True)) (fun _=>True) (fun _ _ hF hf=>⟨⟨hF.1,hF.2.1,hF.2.2.1,hF.2.2.2.1,hF.2.2.2.2.1,hf 4,trivial⟩,trivial⟩) (cR [[1],[],[]]<|jW (fun ρ=>(64*((i:Nat):Int))) (fun _=>(64*i)) (fun _=>(fQ 64 i (by have:=bJ B;have:=aS B.length;omega)))<|cX (jF (fun _=>Instr.sliceAt 33 (.slice (oa ρ2 6) (B++(aY B.length)).length (nb ρ2 6)) (some (vn (64*i))) none none) (fun _=>(.slice (uF (oa ρ2 6) (64*i) (nb ρ2 6)) (mid (B++(aY B.length)) (64*i) (B++(aY B.length)).length).length ((nb ρ2 6)-(64*i)))) (fun _ _ _ hG=>vH (l:=64*i) (k:=(B++(aY B.length)).length) Tryz.underlying33 nH hG.fn.2.2.2.2.1.1 rfl (Or.inr (congrArg (fun z=>some (Value.int .i64 z)) (rfl))) (Or.inl ⟨rfl,rfl⟩) (by have:=bJ B;have:=aS B.length;omega) (Nat.le_refl _)) (fun _ _ w hG=>hG.facts0.mono (fun _ hF=>hF.2.2.2.2.1.1.mid (by have:=bJ B;have:=aS B.length;omega) (Nat.le_refl _))))<|cX (jF (fun _=>Instr.arrayAt 106 (.slice (uF (oa ρ2 6) (64*i) (nb ρ2 6)) (mid (B++(aY B.length)) (64*i) (B++(aY B.length)).length).length ((nb ρ2 6)-(64*i)))) (fun _=>(.pointer (uF (oa ρ2 6) (64*i) (nb ρ2 6)))) (fun _ _ _ _=>arr_bytes Tryz.underlying106 (by rw [kS _ _ _ (Nat.le_refl _)];have:=bJ B;have:=aS B.length;omega)) (fun _ _ _ _=>cO))<|cX (qF (fun _ _ w hG=>ld_arr Tryz.isAgg106 Tryz.sizeOf106 (show Bs w (uF (oa ρ2 6) (64*i) (nb ρ2 6)) ((nb ρ2 6)-(64*i)) (mid (B++(aY B.length)) (64*i) (B++(aY B.length)).length) from (hG.facts 4 rfl).now) (by rw [kS _ _ _ (Nat.le_refl _)];have:=bJ B;have:=aS B.length;omega) (by decide)))<|cX (qC (fun _ _ w hG=>compress_any t0 t1 t2 t3 t4 t5 t6 t7 ((mid (B++(aY B.length)) (64*i) (B++(aY B.length)).length).take 64) (hQ ▸ xA (B++(aY B.length)) i) (by rw [List.length_take,kS _ _ _ (Nat.le_refl _)];have:=bJ B;have:=aS B.length;omega) w hG.fn.2.1))<|jE [[1]]) (fun _ _=>?_)
  refine aJ (aA ?_)
  refine rS Tryz.f54 2 [2,3,4,18,19] [] (fun _=>[vn (i+1),vn (i+1)]) (fun _=>[]) (jW (fun ρ=>(((i:Nat):Int)+1)) (fun _=>(i+1)) (fun _=>(aW i 1 (by have:=bJ B;have:=aS B.length;omega)))<|jE [[]]) (fun _=>?_)
  refine nD (fun w=>Bs w a c B∧kJ w∧kX w∧Fs w0 w (oa ρ2 4) (nb ρ2 4) (aY B.length)∧Fs w0 w (oa ρ2 6) (nb ρ2 6) (B++(aY B.length))∧True) (fun w hF=>⟨hF.1,hF.2.1,hF.2.2.1,hF.2.2.2.1,hF.2.2.2.2.1,trivial⟩) ?_
  exact mN (i+1,(eF (t0,t1,t2,t3,t4,t5,t6,t7) ((mid (B++(aY B.length)) (64*i) (B++(aY B.length)).length).take 64)).1,(eF (t0,t1,t2,t3,t4,t5,t6,t7) ((mid (B++(aY B.length)) (64*i) (B++(aY B.length)).length).take 64)).2.1,(eF (t0,t1,t2,t3,t4,t5,t6,t7) ((mid (B++(aY B.length)) (64*i) (B++(aY B.length)).length).take 64)).2.2.1,(eF (t0,t1,t2,t3,t4,t5,t6,t7) ((mid (B++(aY B.length)) (64*i) (B++(aY B.length)).length).take 64)).2.2.2.1,(eF (t0,t1,t2,t3,t4,t5,t6,t7) ((mid (B++(aY B.length)) (64*i) (B++(aY B.length)).length).take 64)).2.2.2.2.1,(eF (t0,t1,t2,t3,t4,t5,t6,t7) ((mid (B++(aY B.length)) (64*i) (B++(aY B.length)).length).take 64)).2.2.2.2.2.1,(eF (t0,t1,t2,t3,t4,t5,t6,t7) ((mid (B++(aY B.length)) (64*i) (B++(aY B.length)).length).take 64)).2.2.2.2.2.2.1,(eF (t0,t1,t2,t3,t4,t5,t6,t7) ((mid (B++(aY B.length)) (64*i) (B++(aY B.length)).length).take 64)).2.2.2.2.2.2.2) (by show (B++(aY B.length)).length / 64-(i+1)<(B++(aY B.length)).length / 64-i;have:=bJ B;have:=aS B.length;omega) (⟨(by have:=bJ B;have:=aS B.length;omega),sha_next hQ (by have:=bJ B;have:=aS B.length;omega)⟩) []
 rw [hb1]
 have:=yF hb1
 refine bF (aN (aN (aT (aA ?_))))
 refine sS Tryz.f54 1 [2,4,6] [] (fun ρ=>[pt (nb ρ 0)]) (fun ρ=>[(0,(nw ρ 0 (cL (hB 0) 43)))]) (jE [[]]) (fun ρ9=>?_)
 refine aB (jJ Tryz.f54 1 [2,4,6,31] [vi 0] (aI ?_))
 refine oL (σ:=Nat × (Array Value)) (fun ⟨m,_⟩=>[(2,(pt (nb ρ1 0))),(4,(pt (nb ρ3 1))),(6,(pt (nb ρ9 0))),(31,(vn m))]) (fun ⟨_,C⟩=>[(nb ρ1 0,(cL (hB 0) 43)),(nb ρ3 1,(cL #[vu t0,vu t1,vu t2,vu t3,vu t4,vu t5,vu t6,vu t7] 104)),(nb ρ9 0,(cL C 43))]) (fun ⟨m,_⟩=>32-m)
   (fun ⟨m,C⟩=>(m≤32)∧(C=bY .u8 32 (yU (t0,t1,t2,t3,t4,t5,t6,t7) m))) (0,hB 0) (⟨by decide,hB0_row (t0,t1,t2,t3,t4,t5,t6,t7)⟩) [] ?_
 rintro ⟨m,C⟩ ⟨hm,hC⟩
 change Ok Tryz.prog _ _ 48 [(2,(pt (nb ρ1 0))),(4,(pt (nb ρ3 1))),(6,(pt (nb ρ9 0))),(31,(vn m))] _ [(nb ρ1 0,(cL (hB 0) 43)),(nb ρ3 1,(cL #[vu t0,vu t1,vu t2,vu t3,vu t4,vu t5,vu t6,vu t7] 104)),(nb ρ9 0,(cL C 43))] (fun w=>Bs w a c B∧kJ w∧kX w∧Fs w0 w (oa ρ2 4) (nb ρ2 4) (aY B.length)∧Fs w0 w (oa ρ2 6) (nb ρ2 6) (B++(aY B.length))∧True)
 refine jJ Tryz.f54 1 [2,4,6,31,32] [.bool (decide (((m:Nat):Int)<32))] (aB ?_)
 refine oC (decide (((m:Nat):Int)<32)) (fun hb2=>?_) (fun hb2=>?_)
 ·
  rw [hb2]
  have:=yT hb2
  refine aG (aA (aB (aI (jJ Tryz.f54 2 [2,4,6,7,31] [vn m,vn m] ?_))))
  refine rS Tryz.f54 13 [2,4,6,31] [] (fun _=>[vn m,vn m,vn (m / 4),jp (nb ρ3 1) (m / 4),vu (gW (t0,t1,t2,t3,t4,t5,t6,t7) (m / 4)),vn m,vn (m%4),vn ((m%4)*8),vn (24-m%4*8),vu (gW (t0,t1,t2,t3,t4,t5,t6,t7) (m / 4) / 2^(24-m%4*8)),vy (gW (t0,t1,t2,t3,t4,t5,t6,t7) (m / 4) / 2^(24-m%4*8)%256),jp (nb ρ9 0) m,undef]) (fun _=>[(12,(bD 2 (nb ρ9 0) (cL (C.setIfInBounds m (vy (gW (t0,t1,t2,t3,t4,t5,t6,t7) (m / 4) / 2^(24-m%4*8)%256))) 43)))]) (cR [[],[]]<|cB (a:=fun ρ=>(vn m)) (b:=fun ρ=>(vi 4)) (v:=fun ρ=>(vn (m / 4))) .quo 3 (fun _ w=>run_quoI (n:=m) (d:=4) (by decide) (by have:=bJ B;have:=aS B.length;omega) w)<|cX (jS (fun _=>Instr.indexAt 104 (pt (nb ρ3 1)) (vn (m / 4))) (fun _=>(jp (nb ρ3 1) (m / 4))) (fun _ w=>aX (n:=((m / 4:Nat):Int)) (i:=m / 4) Tryz.underlying104 Tryz.sizeOf41 (by have:=bJ B;have:=aS B.length;omega) w))<|cX (kG _ 1 41 (fun _=>nb ρ3 1) (fun _=>m / 4) (fun _=> #[vu t0,vu t1,vu t2,vu t3,vu t4,vu t5,vu t6,vu t7]) 104 (0,0) (fun _=>(vu (gW (t0,t1,t2,t3,t4,t5,t6,t7) (m / 4)))) (fun _=>by kernel_rfl) Tryz.isAgg41 (fun _=>sel_get (by have:=bJ B;have:=aS B.length;omega)))<|cR [[]]<|cB (a:=fun ρ=>(vn m)) (b:=fun ρ=>(vi 4)) (v:=fun ρ=>(vn (m%4))) .rem 3 (fun _ w=>zT (k:=.i64) (n:=m) (d:=4) (by decide) w)<|jW (fun ρ=>(((m%4:Nat):Int)*8)) (fun _=>((m%4)*8)) (fun _=>(fQ (m%4) 8 (by have:=bJ B;have:=aS B.length;omega)))<|jW (fun ρ=>(24-(((m%4)*8:Nat):Int))) (fun _=>(24-m%4*8)) (fun _=>((gZ (by have:=bJ B;have:=aS B.length;omega)).trans (by omega)))<|cB (a:=fun ρ=>(vu (gW (t0,t1,t2,t3,t4,t5,t6,t7) (m / 4)))) (b:=fun ρ=>(vn (24-m%4*8))) (v:=fun ρ=>(vu (gW (t0,t1,t2,t3,t4,t5,t6,t7) (m / 4) / 2^(24-m%4*8)))) .shr 41 (fun _ w=>gG (k:=.u32) (x:=gW (t0,t1,t2,t3,t4,t5,t6,t7) (m / 4)) (c:=24-m%4*8) (sel8_lt (hQ ▸ xA _ i) _) w)<|cA (fun _=>(vy (gW (t0,t1,t2,t3,t4,t5,t6,t7) (m / 4) / 2^(24-m%4*8)%256))) (fun _=>congrArg (Value.int .u8) (u8M (gW (t0,t1,t2,t3,t4,t5,t6,t7) (m / 4) / 2^(24-m%4*8))))<|cX (jS (fun _=>Instr.indexAt 43 (pt (nb ρ9 0)) (vn m)) (fun _=>(jp (nb ρ9 0) m)) (fun _ w=>aX (n:=((m:Nat):Int)) (i:=m) Tryz.underlying43 Tryz.sizeOf5 (by have:=bJ B;have:=aS B.length;omega) w))<|cX (qG _ 2 5 (fun _=>nb ρ9 0) (fun _=>m) (fun _=>C) (fun _=>(C.setIfInBounds m (vy (gW (t0,t1,t2,t3,t4,t5,t6,t7) (m / 4) / 2^(24-m%4*8)%256)))) 43 (fun _=>(vy (gW (t0,t1,t2,t3,t4,t5,t6,t7) (m / 4) / 2^(24-m%4*8)%256))) (fun _=>by kernel_rfl) Tryz.sizeOf5 (fun _=>rfl) (fun _=>(by rw [hC,eH];have:=bJ B;have:=aS B.length;omega)) (fun _=>rfl))<|cN) (fun _=>?_)
  refine aJ (aA ?_)
  refine rS Tryz.f54 2 [2,4,6,31] [] (fun _=>[vn (m+1),vn (m+1)]) (fun _=>[]) (jW (fun ρ=>(((m:Nat):Int)+1)) (fun _=>(m+1)) (fun _=>(aW m 1 (by have:=bJ B;have:=aS B.length;omega)))<|jE [[]]) (fun _=>?_)
  exact mN (m+1,C.setIfInBounds m (vy (gW (t0,t1,t2,t3,t4,t5,t6,t7) (m / 4) / 2^(24-m%4*8)%256))) (by show 32-(m+1)<32-m;have:=bJ B;have:=aS B.length;omega) (⟨(by have:=bJ B;have:=aS B.length;omega),by rw [hC];exact zI rfl⟩) []
 rw [hb2]
 refine bF (aN (aN (aT ?_)))
 rw [hC]
 refine aA ?_
 refine sS Tryz.f54 2 [2] [1,0,0] (fun _=>[.agg (bY .u8 32 (yU (t0,t1,t2,t3,t4,t5,t6,t7) m)),undef]) (fun _=>[(1,(bD 0 (nb ρ1 0) (cL (bY .u8 32 (yU (t0,t1,t2,t3,t4,t5,t6,t7) m)) 43)))]) (cX (qF (fun _ _ _ hG=>vS Tryz.isAgg43 Tryz.sizeOf43 (hG.kn (g:=nb ρ9 0) (o:=(cL (bY .u8 32 (yU (t0,t1,t2,t3,t4,t5,t6,t7) m)) 43)) 2) (eH _ _ _)))<|jE [[0]]) (fun _=>?_)
 refine aF ?_
 exact mR (v:=(.agg (bY .u8 32 (yU (t0,t1,t2,t3,t4,t5,t6,t7) m)))) (fun _ hS=>⟨congrArg Ending.returned (congrArg Value.agg ((dgf_end (by have:=yF hb2;have:=bJ B;have:=aS B.length;omega)).trans (congrArg hB (sha_end hQ (by have:=yF hb2;have:=bJ B;have:=aS B.length;omega))))),hS.bel⟩)
theorem yM (T:List UInt8) (a:Option Addr) (c:Nat) (B:List UInt8) (hT:0<T.length∧T.length≤1000) (hl:B.length+200≤140737488351232) (w0:World) (hf0:Bs w0 a c B) (hf1:kJ w0) (hf2:kX w0):Calls Tryz.prog 28 #[.string (gY T),.slice a B.length c] w0 (jR (.agg (hB (lV T B))) w0):=by
 refine Calls.of_ok (n:=15) (F:=(fun w=>Bs w a c B∧kJ w∧kX w∧True)) Tryz.func28 rfl rfl rfl (by simp) (hf0.pers0.and (hf1.pers0.and (hf2.pers0.and cO))) ?_
 refine sS Tryz.f28 1 [0,1,4] [] (fun ρ=>[pt (nb ρ 0)]) (fun ρ=>[(0,(nw ρ 0 (cL (hB 0) 43)))]) (jE [[]]) (fun ρ1=>?_)
 refine iZ Tryz.f28 5 [1,4,5] [] (fun ρ=>[.string (gY T),.slice (oa ρ 1) T.length (nb ρ 1),.agg (hB (aU T)),pt (nb ρ 3),undef]) (fun ρ=>[(3,(nw ρ 3 (cL (hB 0) 43))),(4,(bD 25 (nb ρ 3) (cL (hB (aU T)) 43)))]) (fun ρ=>[(1,fun w=>Fs w0 w (oa ρ 1) (nb ρ 1) T)]) (fun ρ=>(fun w=>Bs w a c B∧kJ w∧kX w∧Fs w0 w (oa ρ 1) (nb ρ 1) T∧True)) (fun _=>True) (fun _ _ hF hf=>⟨⟨hF.1,hF.2.1,hF.2.2.1,hf 1,trivial⟩,trivial⟩) (cR [[]]<|cX (o_newF _ (fun _=>do pure (Next.value (← convert 9 33 (.string (gY T))))) (fun _ α κ=>(.slice α T.length κ)) (fun _=>T) (fun _ _=>(by kernel_rfl)) (fun _=>(by kernel_rfl)) (fun _ _=>(by kernel_rfl)) (fun _ _ w _=>bytes_str Tryz.underlying9 Tryz.underlying33 Tryz.underlying5 T (by omega) w))<|cX (qC (fun ρ _ w hG=>sum_any (oa ρ 1) (nb ρ 1) T hT.1 (by omega) w (show Fs w0 w (oa ρ 1) (nb ρ 1) T from (hG.facts 1 rfl).now).1 hG.fn.2.1 hG.fn.2.2.1))<|jE [[],[25]]) (fun ρ2 _=>?_)
 refine sDf Tryz.f28 [0,0,0,7,15,31,63] 7 [4] [1,0,0] (fun ρ=>let qa:=vs (nb ρ2 3) (hL (aU T)).length 32;[qa,qa,.slice a B.length c,vs (nb ρ 3) 3 3,.slice (oa ρ 4) (((hL (aU T))++(hL (aU T)))++B).length (nb ρ 4),.agg (hB (aU (((hL (aU T))++(hL (aU T)))++B))),undef]) (fun ρ=>let qa:=vs (nb ρ2 3) (hL (aU T)).length 32;[(3,(nw ρ 3 (cL #[qa,qa,.slice a B.length c] 33))),(6,(bD 0 (nb ρ1 0) (cL (hB (aU (((hL (aU T))++(hL (aU T)))++B))) 43)))]) (fun ρ=>[(4,fun w=>Fs w0 w (oa ρ 4) (nb ρ 4) (((hL (aU T))++(hL (aU T)))++B))]) (fun ρ=>(fun w=>Bs w a c B∧kJ w∧kX w∧Fs w0 w (oa ρ2 1) (nb ρ2 1) T∧Fs w0 w (oa ρ 4) (nb ρ 4) (((hL (aU T))++(hL (aU T)))++B)∧True)) (fun _=>True) (fun _ _ hF hf=>⟨⟨hF.1,hF.2.1,hF.2.2.1,hF.2.2.2.1,hf 4,trivial⟩,trivial⟩) (cR [[],[],[],[]]<|cX (qB (fun ρ _ w hG=>shrow3_any (nb ρ 3) (some ⟨nb ρ2 3,0,none⟩) 32 (hL (aU T)) (some ⟨nb ρ2 3,0,none⟩) 32 (hL (aU T)) a c B (by simp only [aO];omega) (by rw [aO];decide) w (Kb.of_block (hG.kn (g:=nb ρ 3) (o:=(cL #[vs (nb ρ2 3) (hL (aU T)).length 32,vs (nb ρ2 3) (hL (aU T)).length 32,.slice a B.length c] 33)) 26)) (Bs.of_hd (c:=32) (hG.kn (g:=nb ρ2 3) (o:=(cL (hB (aU T)) 43)) 1) (kP _) (Nat.le_refl _) (Nat.le_of_ble_eq_true rfl)) (Bs.of_hd (c:=32) (hG.kn (g:=nb ρ2 3) (o:=(cL (hB (aU T)) 43)) 1) (kP _) (Nat.le_refl _) (Nat.le_of_ble_eq_true rfl)) hG.fn.1))<|cX (qC (fun ρ _ w hG=>sum_any (oa ρ 4) (nb ρ 4) (((hL (aU T))++(hL (aU T)))++B) (by simp only [List.length_append,aO];omega) (by simp only [List.length_append,aO];omega) w (show Fs w0 w (oa ρ 4) (nb ρ 4) (((hL (aU T))++(hL (aU T)))++B) from (hG.facts 4 rfl).now).1 hG.fn.2.1 hG.fn.2.2.1))<|jE [[0]]) (fun _ _=>?_)
 refine aF ?_
 exact mR (v:=(.agg (hB (aU (((hL (aU T))++(hL (aU T)))++B))))) (fun _ hS=>⟨congrArg Ending.returned (congrArg (fun z=>Value.agg (hB z)) (by rw [lV,hL_sha])),hS.bel⟩)
def iv (k:IntKind) (zs:List Int):List Value:=zs.map (.int k)
theorem iv_length (k:IntKind) (zs:List Int):(iv k zs).length=zs.length:=List.length_map _
def gI (zs:List Int) (i:Nat):Int:=zs.getD i 0
structure Is (w:World) (k:IntKind) (a:Option Addr) (c:Nat) (zs:List Int):Prop where
  le:zs.length≤c
  max:zs.length≤140737488351232
  rows:Rs w a (iv k zs)
theorem Is.nil {w:World} {k:IntKind} {a:Option Addr} {c:Nat}:Is w k a c []:=⟨by simp,by simp,Or.inl rfl⟩
theorem Is.pers {T:Nat→Prop} {w:World} {k:IntKind} {a:Option Addr} {c:Nat} {zs:List Int} (h:Is w k a c zs) (hT:Apart T a zs.length):dL T (fun w=>Is w k a c zs) w :=
  (h.rows.pers (by rw [iv_length];exact hT)).mono (fun _ hr=>⟨h.le,h.max,hr⟩)
theorem Is.pers0 {w:World} {k:IntKind} {a:Option Addr} {c:Nat} {zs:List Int} (h:Is w k a c zs):dL (fun _=>False) (fun w=>Is w k a c zs) w:=h.pers (fun _ _ _=>id)
theorem Is.cell {w:World} {k:IntKind} {a:Option Addr} {c:Nat} {zs:List Int} (h:Is w k a c zs) {i:Nat} (hi:i<zs.length):∃ p,a=some p∧w.cell? (p.add i)=some (.int k (gI zs i)):=by
  rcases h.rows with h0 | ⟨p,rfl,hh⟩
  · have := congrArg List.length h0
    rw [iv_length] at this
    simp at this
    subst this
    simp at hi
  · refine ⟨p, rfl, hh i _ ?_⟩
    unfold iv
    rw [List.getElem?_map,List.getElem?_eq_getElem hi]
    simp [gI,List.getD,List.getElem?_eq_getElem hi]
def midI (zs:List Int) (l h:Nat):List Int:=(zs.take h).drop l
theorem midI_length (zs:List Int) (l h:Nat) (hh:h≤zs.length):(midI zs l h).length=h-l:=by
  unfold midI
  rw [List.length_drop,List.length_take]
  omega
theorem Is.mid {w:World} {ik:IntKind} {a:Option Addr} {c:Nat} {zs:List Int} (h:Is w ik a c zs) {l k:Nat} (hl:l≤k) (hk:k≤zs.length):Is w ik (uF a l c) (c-l) (midI zs l k):=by
  have hle:=h.le
  have hm:=h.max
  have hlen:=midI_length zs l k hk
  refine ⟨by omega,by omega,?_⟩
  unfold uF
  split
  · have : midI zs l k = [] := List.eq_nil_of_length_eq_zero (by omega)
    rw [this]
    exact Or.inl rfl
  · unfold fK midI iv
    rw [List.map_drop,List.map_take]
    exact (h.rows.take k).drop l
section
variable {P : Program} {t e : TypeId}
theorem o6 (ht:P.underlying t=some (.slice e)) (hs:∀ w,(sizeOf e).run P w=.ok 1 w) {w:World} {ik:IntKind} {a:Option Addr} {c m:Nat} {zs:List Int} {k:IntKind} {z:Int} {j:Nat} (hb:Is w ik a c zs) (hm:m=zs.length) (hz:z=(j:Int)) (hj:j<zs.length) :
    (do pure (Next.value (← Instr.indexAt t (.slice a m c) (.int k z))):Sem Next).run P w=.ok (.value (.pointer (fK a j))) w:=by
  subst hm hz
  obtain ⟨p,rfl,_⟩:=hb.cell hj
  have hs:=hs w
  simp [Instr.indexAt,asIntOf,Sem.run_bind,run_underlying ht,hj,hs,fK]
theorem rG {w:World} {ik:IntKind} {a:Option Addr} {c:Nat} {zs:List Int} {j:Nat} (ha:∀ w,(isAgg e).run P w=.ok false w) (hb:Is w ik a c zs) (hj:j<zs.length) :
    (do pure (Next.value (← Instr.loadAt e (.pointer (fK a j)))):Sem Next).run P w=.ok (.value (.int ik (gI zs j))) w:=by
  obtain ⟨p,rfl,hp⟩:=hb.cell hj
  simp only [fK,Option.map_some,Instr.loadAt,Instr.sureAddr,loadVar,Sem.run_bind,Sem.run_pure,Result.andThen_ok,ha,Bool.false_eq_true,if_false,load,Sem.run,hp]
end
def kC (s p c:Nat) (d i n:Int):Array Value:=cU s++cU p++hB c++ #[.int .i64 d,.int .u32 i,.int .u32 n]
def kY (k:Ky):Array Value:=kC k.s k.p k.c k.d ((k.i:Nat):Int) ((k.n:Nat):Int)
def wM (P:Program) (e:TypeId) (sz b:Nat) (z:Value):Prop:=∃ i,P.info? e=some i∧i.size=sz∧i.bytes=b∧i.zero=some z∧z.cells.size=sz
theorem dA {P:Program} {e:TypeId} {sz b:Nat} {z:Value} (h:(P.info? e).map (fun i=>(i.size,i.bytes,i.zero))=some (sz,b,some z)) (hz:z.cells.size=sz):wM P e sz b z:=by
  rw [Option.map_eq_some_iff] at h
  obtain ⟨i,h1,h2⟩:=h
  simp only [Prod.mk.injEq] at h2
  exact ⟨i,h1,h2.1,h2.2.1,h2.2.2,hz⟩
structure Av (C:Array Value) (sz n:Nat) (xs:List Value) (c:Nat):Prop where
  hd:C.toList.take xs.length=xs
  len:xs.length=n*sz
  le:n≤c
  size:C.size=c*sz
theorem vM (z:Array Value) (k:Nat):(Builtin.zeroCells z k).size=k*z.size:=by simp [Builtin.zeroCells]
section
variable {P : Program} {t e : TypeId} {sz b : Nat} {z : Value}
theorem appV_room {w:World} {ty tx:TypeId} (ht:P.underlying t=some (.slice e)) (hi:wM P e sz b z) {g n m c:Nat} {C:Array Value} {x:Value} {xs ys:List Value} (hA:Av C sz n xs c) (hg:w.heap[g]? = some (.cells C e (0,0)))
    (hs:Src P sz tx x m ys w) (hr:n+m≤c) :
    ∃ w',(do pure (Next.value (← Builtin.append_ #[t,tx] ty #[.slice (some ⟨g,0,none⟩) n c,x])):Sem Next).run P w=.ok (.value (.slice (some ⟨g,0,none⟩) (n+m) c)) w'∧Wrote w w' g (.cells (inpl C (n*sz) ys) e (0,0)):=by
  obtain ⟨i,h1,h2,h3,h4,h5⟩:=hi
  refine ⟨_,?_,wrote_row hg⟩
  have hfit:n*sz+ys.length≤C.size:=by rw [hs.newsLen,hA.size,← Nat.add_mul];exact Nat.mul_le_mul_right _ hr
  have hst:=run_storeCells_at P g (n*sz) e ys 0 C w hg (by omega) hs.one
  simp only [Nat.add_zero] at hst
  have hrun:(Builtin.append_ #[t,tx] ty #[.slice (some ⟨g,0,none⟩) n c,x]).run P w=.ok (.slice (some ⟨g,0,none⟩) (n+m) c) (w.setRow g (inpl C (n*sz) ys)):=by
    unfold inpl
    rcases hs.kind with ⟨e',hk⟩ | hk<;>simp [Builtin.append_,run_underlying ht,run_underlying hk,sizeOf,typeInfo,h1,h2,hs.len,hr,hs.cells,Addr.add_lit,hst]
  rw [Sem.run_bind,hrun]
  rfl
theorem appV_grow {w:World} {ty tx:TypeId} (ht:P.underlying t=some (.slice e)) (hi:wM P e sz b z) {a:Option Addr} {n m c:Nat} {olds:List Value} {x:Value} {ys:List Value}
    (ho:(Builtin.firstCells sz n (.slice a n c)).run P w.drew=.ok olds.toArray w.drew) (hs:Src P sz tx x m ys w) (hr:c<n+m) (hm:n+m≤140737488351232) (hmb:(n+m)*b≤140737488351232) :
    ∃ k w',(do pure (Next.value (← Builtin.append_ #[t,tx] ty #[.slice a n c,x])):Sem Next).run P w=.ok (.value (.slice (some ⟨w.heap.size,0,none⟩) (n+m) (n+m+k))) w'∧Grew w w' (.cells ((olds++ys).toArray++Builtin.zeroCells z.cells k) e (0,0)):=by
  obtain ⟨i,h1,h2,h3,h4,h5⟩:=hi
  have hge:=grownCap_ge w (n+m) c e
  have hs2:Src P i.size tx x m ys w:=by rw [h2];exact hs
  have hrun:=run_append_grow_src (P:=P) w t tx ty e i z ht h1 h4 a n c olds (by rw [h2];exact ho) x m ys hs2 hr (by omega) (growslice_fits hr (by rw [h3];omega))
  refine ⟨grownCap w (n+m) c e-(n+m),w.drew.alloc (.cells ((olds++ys).toArray++Builtin.zeroCells z.cells (grownCap w (n+m) c e-(n+m))) e),?_,⟨rfl,rfl,rfl,rfl⟩⟩
  rw [Sem.run_bind,hrun]
  rw [show (n+m+(grownCap w (n+m) c e-(n+m)))=grownCap w (n+m) c e by omega]
  rfl
theorem firstV_row {w:World} {g n c:Nat} {C:Array Value} {T:TypeId} {fr:Nat × Nat} {xs:List Value} (hg:w.heap[g]? = some (.cells C T fr)) (hA:Av C sz n xs c):(Builtin.firstCells sz n (.slice (some ⟨g,0,none⟩) n c)).run P w=.ok xs.toArray w:=by
  refine run_firstCells_some w sz n ⟨g,0,none⟩ n c xs hA.len (fun j v hv=>?_)
  rw [Addr.add_lit]
  unfold World.cell?
  simp only [hg]
  rw [← hA.hd,List.getElem?_take] at hv
  split at hv
  · simpa using hv
  · exact absurd hv (by simp)
theorem inpl_head {C:Array Value} {xs ys:List Value} {o:Nat} (h:C.toList.take xs.length=xs) (ho:o=xs.length):(inpl C o ys).toList.take (xs++ys).length=xs++ys:=by
  subst ho
  unfold inpl
  rw [h]
  show (xs++ys++C.toList.drop _).take _=_
  rw [List.take_left]
theorem sN {w:World} {ty tx:TypeId} (ht:P.underlying t=some (.slice e)) (hi:wM P e sz b z) {g n m c:Nat} {C:Array Value} {x:Value} {xs ys:List Value} (hA:Av C sz n xs c) (hs:Src P sz tx x m ys w) (hm:n+m≤140737488351232) (hmb:(n+m)*b≤140737488351232) (hg:w.heap[g]? = some (.cells C e (0,0))) :
    ∃ r w',(do pure (Next.value (← Builtin.append_ #[t,tx] ty #[.slice (some ⟨g,0,none⟩) n c,x])):Sem Next).run P w=.ok (.value (.slice (some ⟨r.n.headD 0,0,none⟩) (n+m) (r.n.tail.headD 0))) w'∧Av (uG r) sz (n+m) (xs++ys) (r.n.tail.headD 0)∧Moved w w' g (r.n.headD 0) (.cells (uG r) e (0,0)):=by
  have hlen:(xs++ys).length=(n+m)*sz:=by rw [List.length_append,hA.len,hs.newsLen,Nat.add_mul]
  by_cases hr:n+m≤c
  · obtain ⟨w', h1, h2⟩ := appV_room (w := w) (ty := ty) ht hi hA hg hs hr
    have hfit:n*sz+ys.length≤C.size:=by rw [hs.newsLen,hA.size,← Nat.add_mul];exact Nat.mul_le_mul_right _ hr
    refine ⟨{ n:=[g,c],o:=[.cells (inpl C (n*sz) ys) 0 (0,0)]},w',h1,⟨inpl_head hA.hd hA.len.symm,hlen,hr,?_⟩,.stay rfl h2⟩
    exact (lG _ _ _ hfit).trans hA.size
  · obtain ⟨k, w', h1, h2⟩ := appV_grow (w := w) (ty := ty) ht hi (a := some ⟨g, 0, none⟩) (n := n) (c := c) (olds := xs) (firstV_row (w := w.drew) (show w.drew.heap[g]? = _ from hg) hA) hs (by omega) hm hmb
    obtain ⟨i,q1,q2,q3,q4,q5⟩:=hi
    refine ⟨{ n:=[w.heap.size,n+m+k],o:=[.cells ((xs++ys).toArray++Builtin.zeroCells z.cells k) 0 (0,0)]},w',h1,⟨?_,hlen,Nat.le_add_right _ _,?_⟩,.grow rfl h2⟩
    · show ((xs ++ ys).toArray ++ Builtin.zeroCells z.cells k).toList.take _ = _
      rw [Array.toList_append,List.take_left]
    · show ((xs ++ ys).toArray ++ Builtin.zeroCells z.cells k).size = _
      rw [Array.size_append,vM,List.size_toArray,hlen,q5,← Nat.add_mul]
      rfl
theorem uV {w:World} {ty tx:TypeId} (ht:P.underlying t=some (.slice e)) (hi:wM P e sz b z) {m:Nat} {x:Value} {ys:List Value} (hs:Src P sz tx x m ys w) (h0:0<m) (hm:m≤140737488351232) (hmb:m*b≤140737488351232) :
    ∃ k w',(do pure (Next.value (← Builtin.append_ #[t,tx] ty #[.slice none 0 0,x])):Sem Next).run P w=.ok (.value (.slice (some ⟨([w.heap.size,k]:List Nat).headD 0,0,none⟩) m (m+([w.heap.size,k]:List Nat).tail.headD 0))) w'∧Grew w w' (.cells (ys.toArray++Builtin.zeroCells z.cells (([w.heap.size,k]:List Nat).tail.headD 0)) e (0,0)):=by
  obtain ⟨k,w',h1,h2⟩:=appV_grow (w:=w) (ty:=ty) ht hi (a:=none) (n:=0) (c:=0) (olds:=[]) (run_firstCells_none w.drew sz 0 0 0) hs (by omega) (by omega) (by rw [Nat.zero_add];exact hmb)
  refine ⟨k,w',?_,?_⟩
  · simpa using h1
  · simpa using h2
theorem Av.fresh (hz:z.cells.size=sz) {ys:List Value} {m:Nat} (hl:ys.length=m*sz) (k:Nat):Av (ys.toArray++Builtin.zeroCells z.cells k) sz m ys (m+k):=by
  refine ⟨?_,hl,Nat.le_add_right _ _,?_⟩
  · rw [Array.toList_append,List.take_left]
  · rw [Array.size_append,vM,List.size_toArray,hl,hz,← Nat.add_mul]
end
theorem Rs.of_av {w:World} {g sz n c:Nat} {C:Array Value} {T:TypeId} {fr:Nat × Nat} {xs:List Value} (hb:w.heap[g]? = some (.cells C T fr)) (hA:Av C sz n xs c):Rs w (some ⟨g,0,none⟩) xs:=by
  refine Or.inr ⟨_,rfl,fun i v hv=>?_⟩
  have h1:C[i]? = some v:=by
    rw [← hA.hd,List.getElem?_take] at hv
    split at hv
    · simpa using hv
    · exact absurd hv (by simp)
  rw [Addr.add_lit]
  unfold World.cell?
  simp only [hb]
  simpa using h1
theorem Is.of_av {w:World} {k:IntKind} {g c:Nat} {C:Array Value} {T:TypeId} {fr:Nat × Nat} {zs:List Int} (hb:w.heap[g]? = some (.cells C T fr)) (hA:Av C 1 zs.length (iv k zs) c) (hm:zs.length≤140737488351232):Is w k (some ⟨g,0,none⟩) c zs :=
  ⟨hA.le,hm,Rs.of_av hb hA⟩
def Fi (w0 w:World) (k:IntKind) (a:Option Addr) (c:Nat) (zs:List Int):Prop:=Is w k a c zs∧∀ p,a=some p→0<zs.length→w0.heap.size≤p.block
theorem Fi.nil {w0 w:World} {k:IntKind} {a:Option Addr} {c:Nat}:Fi w0 w k a c []:=⟨Is.nil,fun _ _ h=>absurd h (by simp)⟩
theorem Fi.of_av {w0 w:World} {k:IntKind} {g c:Nat} {C:Array Value} {T:TypeId} {fr:Nat × Nat} {zs:List Int} (hb:w0.heap.size≤g∧w.heap[g]? = some (.cells C T fr)) (hA:Av C 1 zs.length (iv k zs) c) (hm:zs.length≤140737488351232):Fi w0 w k (some ⟨g,0,none⟩) c zs :=
  ⟨Is.of_av hb.2 hA hm, fun p hp _ => by obtain rfl : (⟨g, 0, none⟩ : Addr) = p := by simpa using hp
                                         exact hb.1⟩
theorem Fi.pers {T:Nat→Prop} {w0 w:World} {k:IntKind} {a:Option Addr} {c:Nat} {zs:List Int} (h:Fi w0 w k a c zs) (hT:∀ b,T b→b<w0.heap.size):dL T (fun w=>Is w k a c zs) w :=
  h.1.pers (fun p hp hn hx=>absurd (h.2 p hp hn) (by have:=hT _ hx;omega))
theorem St.new1 {B:Base} {w:World} {h r:List (Nat × Obj)} {F:World→Prop} (hS:St B h F w) {g0:Nat} {o0:Obj} (hB:B.ws=[g0]) (hh:h=(g0,o0)::r) {x:Nat} {o:Obj} (hx:(x,o)∈r):B.w.heap.size≤x∧w.heap[x]? = some o:=by
  have hm:(x,o)∈h:=by rw [hh];exact List.mem_cons_of_mem _ hx
  refine hS.newb hm ?_
  rw [hB]
  intro h1
  obtain rfl:x=g0:=by simpa using h1
  have hn:=hS.nodup
  rw [hh,List.map_cons,List.nodup_cons] at hn
  exact hn.1 (List.mem_map.2 ⟨_,hx,rfl⟩)
theorem nX {P:Program} {w:World} {g m c:Nat} {vs:List Value} {T tx e':TypeId} {fr:Nat × Nat} {sz:Nat} (hk:P.underlying tx=some (.slice e')) (hb:w.heap[g]? = some (.cells vs.toArray T fr)) (hl:vs.length=m*sz) (h1:vs.all Value.oneCell'=true):Src P sz tx (.slice (some ⟨g,0,none⟩) m c) m vs w:=by
  refine Src.ofSlice w hk ⟨g,0,none⟩ m c vs hl (fun j u hu=>?_) (fun u hu=>List.all_eq_true.1 h1 u hu)
  rw [Addr.add_lit]
  unfold World.cell?
  simp only [hb]
  simpa using hu
section
variable {P : Program} {ops : Array Oper} {D : List Nat} {l : List (Nat × Value)} {w0 : Base} {h : List (Nat × Obj)} {F0 : World → Prop}
variable {vals : (Nat → bH) → Nat → Value} {effs : (Nat → bH) → Nat → Eff} {fact : (Nat → bH) → Nat → World → Prop}
end
def bC (a b m:Nat):Nat:=if m=0 then 0 else (a+b)%m
def bV (a b m:Nat):Nat:=if m=0 then 0 else (a*b)%m
def bK (a e m:Nat):Nat:=if m=0 then 0 else a^e%m
theorem modz_lt {m:Nat} (x:Nat) (h:m<M):(if m=0 then 0 else x%m)<M:=by
  split
  · exact vK
  · exact Nat.lt_trans (Nat.mod_lt _ (by omega)) h
theorem qI (a b:Nat) {m:Nat} (h:m<M):bC a b m<M:=modz_lt _ h
theorem wE (a b:Nat) {m:Nat} (h:m<M):bV a b m<M:=modz_lt _ h
theorem vZ (a b:Nat) {m:Nat} (h:m<M):bK a b m<M:=modz_lt _ h
theorem jH {a m:Nat} (h:decide (m=0)=false):aQ a m=a%m∧0<m∧a%m<m:=by
  have h0:m≠0:=of_decide_eq_false h
  unfold aQ;rw [if_neg h0]
  exact ⟨rfl,by omega,Nat.mod_lt _ (by omega)⟩
theorem addm_0 {a b m:Nat} (h:decide (m=0)=true):0=bC a b m:=by unfold bC;rw [if_pos (of_decide_eq_true h)]
theorem addm_0' {a b m:Nat} (h:decide (m=0)=true):m=bC a b m:=by rw [← addm_0 h];exact of_decide_eq_true h
theorem mulm_0 {a b m:Nat} (h:decide (m=0)=true):0=bV a b m:=by unfold bV;rw [if_pos (of_decide_eq_true h)]
theorem mulm_0' {a b m:Nat} (h:decide (m=0)=true):m=bV a b m:=by rw [← mulm_0 h];exact of_decide_eq_true h
theorem expm_0 {a b m:Nat} (h:decide (m=0)=true):0=bK a b m:=by unfold bK;rw [if_pos (of_decide_eq_true h)]
theorem expm_0' {a b m:Nat} (h:decide (m=0)=true):m=bK a b m:=by rw [← expm_0 h];exact of_decide_eq_true h
theorem addm_core {a b m:Nat} (h0:0<m):bC a b m=if m≤a%m+b%m then a%m+b%m-m else a%m+b%m:=by
  unfold bC
  rw [if_neg (by omega),Nat.add_mod]
  have h1:=Nat.mod_lt a h0;have h2:=Nat.mod_lt b h0
  split
  · rw [Nat.mod_eq_sub_mod (by omega),Nat.mod_eq_of_lt (by omega)]
  · rw [Nat.mod_eq_of_lt (by omega)]
theorem addm_2 {a b m:Nat} (hm:m<M) (h1:decide (m=0)=false) (h2:decide (M≤aQ a m+aQ b m)=true):((aQ a m+aQ b m)%M+M-m)%M=bC a b m:=by
  obtain ⟨e1,p,l1⟩:=jH (a:=a) h1
  obtain ⟨e2,_,l2⟩:=jH (a:=b) h1
  have h2:=of_decide_eq_true h2
  rw [e1,e2] at h2 ⊢
  rw [addm_core p,if_pos (by omega)]
  clear e1 e2
  generalize a%m=x at *;generalize b%m=y at *
  rw [mQ] at *;omega
theorem addm_3t {a b m:Nat} (hm:m<M) (h1:decide (m=0)=false) (h2:decide (M≤aQ a m+aQ b m)=false) (h3:decide (0≤fJ ((aQ a m+aQ b m)%M) m)=true):((aQ a m+aQ b m)%M+M-m)%M=bC a b m:=by
  obtain ⟨e1,p,l1⟩:=jH (a:=a) h1
  obtain ⟨e2,_,l2⟩:=jH (a:=b) h1
  have h2:=of_decide_eq_false h2
  rw [e1,e2] at h2 ⊢
  have h3: ¬ (a%m+b%m)%M<m:=fun hh=>by
    have:=of_decide_eq_true h3
    rw [e1,e2] at this
    have h4:=vX.2 hh
    omega
  rw [addm_core p]
  clear e1 e2
  generalize a%m=x at *;generalize b%m=y at *
  rw [mQ] at *
  split<;>omega
theorem addm_3f {a b m:Nat} (_hm:m<M) (h1:decide (m=0)=false) (h2:decide (M≤aQ a m+aQ b m)=false) (h3:decide (0≤fJ ((aQ a m+aQ b m)%M) m)=false):(aQ a m+aQ b m)%M=bC a b m:=by
  obtain ⟨e1,p,l1⟩:=jH (a:=a) h1
  obtain ⟨e2,_,l2⟩:=jH (a:=b) h1
  have h2:=of_decide_eq_false h2
  rw [e1,e2] at h2 ⊢
  have h3:(a%m+b%m)%M<m:=vX.1 (by have:=of_decide_eq_false h3;rw [e1,e2] at this;omega)
  rw [addm_core p]
  clear e1 e2
  generalize a%m=x at *;generalize b%m=y at *
  rw [mQ] at *
  split<;>omega
theorem mulm_1 {a b m:Nat} (h1:decide (m=0)=false):iV (aQ (a*b / M) m) (a*b%M) m=bV a b m:=by
  obtain ⟨e1,p,l1⟩:=jH (a:=a*b / M) h1
  unfold iV bV
  rw [e1,if_neg (by omega),if_neg (by omega),Nat.add_mod,Nat.mul_mod,Nat.mod_mod,← Nat.mul_mod,← Nat.add_mod,Nat.mul_comm (a*b / M),Nat.div_add_mod]
theorem mulm_2 {a b m:Nat} (hm:m<M) (h1:decide (m=0)=false):iV (aQ a m*aQ b m / M) (aQ a m*aQ b m%M) m=bV a b m:=by
  obtain ⟨e1,p,l1⟩:=jH (a:=a) h1
  obtain ⟨e2,_,l2⟩:=jH (a:=b) h1
  rw [e1,e2]
  have hlt:a%m*(b%m) / M<m:=by
    rw [Nat.div_lt_iff_lt_mul vK]
    have:a%m*(b%m)≤(m-1)*m:=Nat.mul_le_mul (by omega) (by omega)
    have h3:(m-1)*m<m*m:=Nat.mul_lt_mul_of_pos_right (by omega) p
    have h4:m*m≤m*M:=Nat.mul_le_mul_left _ (by omega)
    omega
  unfold iV bV
  rw [if_neg (by omega),if_neg (by omega),Nat.mul_comm (a%m*(b%m) / M),Nat.div_add_mod,← Nat.mul_mod]
def c8 (f:Nat→Int):Array Value:= #[.int .u64 (f 0),.int .u64 (f 1),.int .u64 (f 2),.int .u64 (f 3),.int .u64 (f 4),.int .u64 (f 5),.int .u64 (f 6),.int .u64 (f 7)]
def qR (f:Nat→Int) (k:Nat) (x:Int):Nat→Int:=fun j=>if j=k then x else f j
theorem lt8 {k:Nat} (h:k<8):k=0∨k=1∨k=2∨k=3∨k=4∨k=5∨k=6∨k=7:=by omega
theorem c8_get (f:Nat→Int) (k:Nat) (h:k<8):(c8 f)[k]? = some (.int .u64 (f k)):=by
  rcases lt8 h with rfl | rfl | rfl | rfl | rfl | rfl | rfl | rfl<;>rfl
theorem c8_set (f:Nat→Int) (k:Nat) (x:Int) (h:k<8):(c8 f).setIfInBounds k (.int .u64 x)=c8 (qR f k x):=by
  rcases lt8 h with rfl | rfl | rfl | rfl | rfl | rfl | rfl | rfl<;>simp [c8,qR]
def S8 (f:Nat→Int):Int:=f 0+18446744073709551616*f 1+340282366920938463463374607431768211456*f 2+6277101735386680763835789423207666416102355444464034512896*f 3+115792089237316195423570985008687907853269984665640564039457584007913129639936*f 4+2135987035920910082395021706169552114602704522356652769947041607822219725780640550022962086936576*f 5+39402006196394479212279040100143613805079739270465446667948293404245721771497210611414266254884915640806627990306816*f 6+726838724295606890549323807888004534353641360687318060281490199180639288113397923326191050713763565560762521606266177933534601628614656*f 7
def pw (k:Nat):Int:=18446744073709551616^k
theorem pw_vals:pw 0=1∧pw 1=18446744073709551616∧pw 2=340282366920938463463374607431768211456∧pw 3=6277101735386680763835789423207666416102355444464034512896∧pw 4=115792089237316195423570985008687907853269984665640564039457584007913129639936∧pw 5=2135987035920910082395021706169552114602704522356652769947041607822219725780640550022962086936576∧pw 6=39402006196394479212279040100143613805079739270465446667948293404245721771497210611414266254884915640806627990306816∧pw 7=726838724295606890549323807888004534353641360687318060281490199180639288113397923326191050713763565560762521606266177933534601628614656:=by
  decide +kernel
def mG (A B i:Nat):Nat→Int
  | 0=>0
  | j+1=>mG A B i j+wd A i*wd B j*pw (i+j)
def mH (A B:Nat):Nat→Int
  | 0=>0
  | i+1=>mH A B i+mG A B i 4
structure MulO (A B i:Nat) (f:Nat→Int):Prop where
  word:∀ k,Word (f k)
  zero:∀ k,i+4≤k→f k=0
  sum:S8 f=mH A B i
structure MulI (A B i j:Nat) (f:Nat→Int) (c:Int):Prop where
  car:Word c
  word:∀ k,Word (f k)
  zero:∀ k,i+4≤k→f k=0
  sum:S8 f+c*pw (i+j)=mH A B i+mG A B i j
theorem mulO_zero (A B:Nat):MulO A B 0 (fun _=>0):=⟨fun _=>rZ,fun _ _=>rfl,by simp [S8,mH]⟩
theorem mulO_begin {A B i:Nat} {f:Nat→Int} (h:MulO A B i f):MulI A B i 0 f 0:=⟨rZ,h.word,h.zero,by rw [h.sum];simp [mG]⟩
theorem mulI_end {A B i:Nat} {f:Nat→Int} {c:Int} (hi:i<4) (h:MulI A B i 4 f c):MulO A B (i+1) (qR f (i+4) c):=by
  refine ⟨fun k=>?_,fun k hk=>?_,?_⟩
  · unfold qR; split
    · exact h.car
    · exact h.word k
  · unfold qR;rw [if_neg (by omega)];exact h.zero k (by omega)
  · have hz := h.zero (i + 4) (by omega)
    have hs:=h.sum
    show _=mH A B i+mG A B i 4
    rw [← hs]
    obtain ⟨p0,p1,p2,p3,p4,p5,p6,p7⟩:=pw_vals
    rcases (by omega:i=0∨i=1∨i=2∨i=3) with rfl | rfl | rfl | rfl<;>simp only [S8,qR,Nat.reduceAdd,Nat.reduceEqDiff,if_true,if_false,p4,p5,p6,p7] at hz ⊢ <;> rw [hz]<;>omega
theorem mul_bound {x y:Int} (hx:Word x) (hy:Word y):0≤x*y∧x*y≤340282366920938463426481119284349108225:=by
  unfold Word at *
  refine ⟨Int.mul_nonneg hx.1 hy.1,?_⟩
  have h1:x*y≤18446744073709551615*y:=Int.mul_le_mul_of_nonneg_right (by omega) hy.1
  omega
theorem u64_wrap (n:Int):IntKind.u64.wrap n=n%18446744073709551616:=IntKind.wrap_u64 n
theorem mul_step {x y u c:Int} (hx:Word x) (hy:Word y) (hu:Word u) (hc:Word c) :
    cZ (cZ (bZ x y) u 0) c 0+18446744073709551616*(IntKind.u64.wrap (IntKind.u64.wrap (mJ x y+dJ (bZ x y) u 0)+dJ (cZ (bZ x y) u 0) c 0))=x*y+u+c ∧
      Word (IntKind.u64.wrap (IntKind.u64.wrap (mJ x y+dJ (bZ x y) u 0)+dJ (cZ (bZ x y) u 0) c 0)):=by
  have hb:=mul_bound hx hy
  have e1:=mul_eq x y
  have w1:=yO x y
  have e2:=add_eq w1 hu jD
  have w2:=gQ (bZ x y) u 0
  have b2:=jO (bZ x y) u 0
  have e3:=add_eq w2 hc jD
  have w3:=gQ (cZ (bZ x y) u 0) c 0
  have b3:=jO (cZ (bZ x y) u 0) c 0
  rw [u64_wrap,u64_wrap]
  generalize dJ (cZ (bZ x y) u 0) c 0=q3 at *
  generalize cZ (cZ (bZ x y) u 0) c 0=r3 at *
  generalize dJ (bZ x y) u 0=q2 at *
  generalize cZ (bZ x y) u 0=r2 at *
  generalize bZ x y=r1 at *
  generalize mJ x y=q1 at *
  generalize x*y=p at *
  unfold Word xZ at *
  omega
theorem addLo_comm (x y c:Int):cZ x y c=cZ y x c:=by unfold cZ;rw [Int.add_comm x y]
theorem addHi_comm (x y c:Int):dJ x y c=dJ y x c:=by unfold dJ;rw [Int.add_comm x y]
theorem rmul_step {x y u c:Int} (hx:Word x) (hy:Word y) (hu:Word u) (hc:Word c) :
    cZ (cZ u (bZ x y) 0) c 0+18446744073709551616*(IntKind.u64.wrap (IntKind.u64.wrap (mJ x y+dJ u (bZ x y) 0)+dJ (cZ u (bZ x y) 0) c 0))=x*y+u+c ∧
      Word (IntKind.u64.wrap (IntKind.u64.wrap (mJ x y+dJ u (bZ x y) 0)+dJ (cZ u (bZ x y) 0) c 0)):=by
  rw [addLo_comm u (bZ x y),addHi_comm u (bZ x y)]
  exact mul_step hx hy hu hc
theorem mulI_next {A B i j:Nat} {f:Nat→Int} {c w c':Int} (hi:i<4) (hj:j<4) (h:MulI A B i j f c) (hw:Word w) (hc':Word c') (he:w+18446744073709551616*c'=wd A i*wd B j+f (i+j)+c) :
    MulI A B i (j+1) (qR f (i+j) w) c':=by
  refine ⟨hc',fun k=>?_,fun k hk=>?_,?_⟩
  · unfold qR; split
    · exact hw
    · exact h.word k
  · unfold qR;rw [if_neg (by omega)];exact h.zero k hk
  · have hs := h.sum
    show _=mH A B i+(mG A B i j+wd A i*wd B j*pw (i+j))
    generalize wd A i*wd B j=p at *
    rw [← Int.add_assoc,← hs]
    obtain ⟨p0,p1,p2,p3,p4,p5,p6,p7⟩:=pw_vals
    clear hs
    rcases (by omega:i=0∨i=1∨i=2∨i=3) with rfl | rfl | rfl | rfl<;>rcases (by omega:j=0∨j=1∨j=2∨j=3) with rfl | rfl | rfl | rfl <;>
      simp only [S8,qR,Nat.reduceAdd,Nat.reduceEqDiff,if_true,if_false,p0,p1,p2,p3,p4,p5,p6,p7] at he ⊢ <;> omega
theorem mul_four (x b0 b1 b2 b3:Int):x*(b0+18446744073709551616*b1+340282366920938463463374607431768211456*b2+6277101735386680763835789423207666416102355444464034512896*b3)=x*b0+18446744073709551616*(x*b1)+340282366920938463463374607431768211456*(x*b2)+6277101735386680763835789423207666416102355444464034512896*(x*b3):=by
  rw [Int.mul_add,Int.mul_add,Int.mul_add,Int.mul_left_comm x _ b1,Int.mul_left_comm x _ b2,Int.mul_left_comm x _ b3]
theorem mH_four {A B:Nat} (hA:A<M) (hB:B<M):mH A B 4=((A*B:Nat):Int):=by
  have ea:=kW A hA;have eb:=kW B hB
  obtain ⟨p0,p1,p2,p3,p4,p5,p6,p7⟩:=pw_vals
  have e:((A*B:Nat):Int)=(wd A 0+18446744073709551616*wd A 1+340282366920938463463374607431768211456*wd A 2+6277101735386680763835789423207666416102355444464034512896*wd A 3)*(B:Int):=by
    rw [← ea,Int.natCast_mul]
  rw [e,Int.add_mul,Int.add_mul,Int.add_mul,Int.mul_assoc,Int.mul_assoc,Int.mul_assoc,eb]
  simp only [mul_four]
  simp only [mH,mG,Nat.reduceAdd,Nat.zero_add,Nat.add_zero,p0,p1,p2,p3,p4,p5,p6]
  omega
theorem mul_end {A B:Nat} {f:Nat→Int} (hA:A<M) (hB:B<M) (h:MulO A B 4 f) :
    Ending.returned (.tuple #[.agg #[.int .u64 (f 4),.int .u64 (f 5),.int .u64 (f 6),.int .u64 (f 7)],.agg #[.int .u64 (f 0),.int .u64 (f 1),.int .u64 (f 2),.int .u64 (f 3)]])=.returned (.tuple #[U (A*B / M),U (A*B%M)]):=by
  have hs:=h.sum
  rw [mH_four hA hB] at hs
  have w0:=h.word 0;have w1:=h.word 1;have w2:=h.word 2;have w3:=h.word 3;have w4:=h.word 4;have w5:=h.word 5;have w6:=h.word 6;have w7:=h.word 7
  have l1:=ofW_sum w0 w1 w2 w3
  have l2:=ofW_sum w4 w5 w6 w7
  have t1:=ofW_lt w0 w1 w2 w3
  have key:A*B=ofW (f 4) (f 5) (f 6) (f 7)*M+ofW (f 0) (f 1) (f 2) (f 3):=by
    unfold S8 at hs
    rw [mQ] at *
    omega
  have e1:A*B / M=ofW (f 4) (f 5) (f 6) (f 7):=by
    rw [key,Nat.mul_comm,Nat.mul_add_div vK,Nat.div_eq_of_lt t1,Nat.add_zero]
  have e2:A*B%M=ofW (f 0) (f 1) (f 2) (f 3):=by
    rw [key,Nat.mul_comm,Nat.mul_add_mod,Nat.mod_eq_of_lt t1]
  rw [e1,e2,sG _ w4 w5 w6 w7 l2,sG _ w0 w1 w2 w3 l1]
theorem mulhi_lt {A B:Nat} (hA:A<M) (hB:B<M):A*B / M<M:=by
  rw [Nat.div_lt_iff_lt_mul vK]
  exact Nat.mul_lt_mul_of_lt_of_lt hA hB
theorem dX (x y:Nat) (h:x+y<9223372036854775808):IntKind.i64.wrap ((x:Int)+(y:Int))=((x+y:Nat):Int):=by
  rw [IntWalk.i64_in _ (by omega)];omega
def shlW (x:Int) (k:Nat):Int:=IntKind.u64.wrap (x*2^min k 64)
def shrW (x:Int) (k:Nat):Int:=x.fdiv (2^min k 64)
theorem run_shl {P:Program} {t:TypeId} {yk:IntKind} (x:Int) (k:Nat) (w:World):(binOp .shl t (.int .u64 x) (.int yk (k:Int))).run P w=.ok (.int .u64 (shlW x k)) w:=by
  simp only [binOp,Op.shift,if_neg (by omega: ¬ (k:Int)<0),Int.toNat_natCast]
  rfl
theorem run_shr {P:Program} {t:TypeId} {yk:IntKind} (x:Int) (k:Nat) (w:World):(binOp .shr t (.int .u64 x) (.int yk (k:Int))).run P w=.ok (.int .u64 (shrW x k)) w:=by
  simp only [binOp,Op.shift,if_neg (by omega: ¬ (k:Int)<0),Int.toNat_natCast]
  rfl
theorem run_quo_nat {P:Program} {t:TypeId} (n d q:Nat) (hd:0<d) (hn:n<9223372036854775808) (hq:n / d=q) (w:World):(binOp .quo t (.int .i64 (n:Int)) (.int .i64 (d:Int))).run P w=.ok (.int .i64 (q:Int)) w:=by
  have e:Int.tdiv (n:Int) (d:Int)=(q:Int):=by rw [Int.tdiv_eq_ediv_of_nonneg (by omega),← hq];simp
  have h1:q≤n:=by rw [← hq];exact Nat.div_le_self _ _
  simp only [binOp,Op.intDiv,ne_eq,not_true_eq_false,if_false,if_neg (by omega: ¬ (d:Int)=0),e,IntWalk.i64_in (q:Int) (by omega)]
  rfl
theorem run_rem_nat {P:Program} {t:TypeId} (n d q:Nat) (hd:0<d) (hq:n%d=q) (w:World):(binOp .rem t (.int .i64 (n:Int)) (.int .i64 (d:Int))).run P w=.ok (.int .i64 (q:Int)) w:=by
  have e:Int.tmod (n:Int) (d:Int)=(q:Int):=by rw [Int.tmod_eq_emod_of_nonneg (by omega),← hq];simp
  simp only [binOp,Op.intDiv,ne_eq,not_true_eq_false,if_false,if_neg (by omega: ¬ (d:Int)=0),e]
  rfl
theorem zY (x y:Nat) (h:y≤x) (hx:x<9223372036854775808):IntKind.i64.wrap ((x:Int)-(y:Int))=((x-y:Nat):Int):=by
  rw [IntWalk.i64_in _ (by omega)];omega
def shrZ (a:Nat) (n:Int):Nat:=if n<0 then a else a / 2^n.toNat
theorem shrN_big {a:Nat} (ha:a<M) {n:Nat} (h:256≤n):a / 2^n=0:=by
  apply Nat.div_eq_of_lt
  have:(2:Nat)^256≤2^n:=Nat.pow_le_pow_right (by decide) h
  rw [show M=2^256 by rw [mQ]] at ha
  omega
theorem bits_or_comm (x y:Int):bits .or .u64 x y=bits .or .u64 y x:=by
  simp only [bits,BitVec.or_comm]
theorem setlow_row (q g m : Nat) (hg : g < 4) (hm : m < 64) (h : q < 2 ^ (64 * g + m)) : (cU q).setIfInBounds g (.int .u64 (bits .or .u64 (wd q g) (2 ^ m))) = cU (q + 2 ^ (64 * g + m)) := by
  have hl:∀ j,j<g→wd (q+2^(64*g+m)) j=wd q j:=fun j hj=>setbit_lo q _ j (by omega)
  have hpos:0<2^(64*g):=Nat.pow_pos (by decide)
  have hlt:q / 2^(64*g)<2^m:=by
    rw [Nat.div_lt_iff_lt_mul hpos,← Nat.pow_add,Nat.add_comm m];exact h
  have h64:(2:Nat)^m<18446744073709551616:=by
    have:(2:Nat)^m<2^64:=Nat.pow_lt_pow_right (by decide) hm
    omega
  have hW:∀ j,(18446744073709551616:Nat)^j=2^(64*j):=fun j=>by rw [Nat.pow_mul]
  have hz:∀ j,g<j→wd (q+2^(64*g+m)) j=wd q j:=by
    intro j hj
    have hb:(2:Nat)^(64*g+m)+2^(64*g+m)≤2^(64*j):=by
      rw [← Nat.two_mul,← Nat.pow_succ']
      exact Nat.pow_le_pow_right (by decide) (by omega)
    unfold wd
    rw [hW,Nat.div_eq_of_lt (by omega),Nat.div_eq_of_lt (by omega)]
  have hg':bits .or .u64 (wd q g) (2^m)=wd (q+2^(64*g+m)) g:=by
    have e1:wd q g=((q / 2^(64*g):Nat):Int):=by
      unfold wd;rw [hW,Nat.mod_eq_of_lt (by omega)]
    have e2:wd (q+2^(64*g+m)) g=((q / 2^(64*g)+2^m:Nat):Int):=by
      unfold wd
      rw [hW,Nat.pow_add,Nat.add_mul_div_left _ _ hpos,Nat.mod_eq_of_lt]
      have:(2:Nat)^m+2^m≤2^64:=by
        rw [← Nat.two_mul,← Nat.pow_succ'];exact Nat.pow_le_pow_right (by decide) (by omega)
      omega
    rw [e1,e2,bits_or_comm]
    clear e1 e2 hl hz
    generalize q / 2^(64*g)=d at *
    have ec:((2:Int)^m)=((2^m:Nat):Int):=by simp
    have h1:=uJ 1 (d:Int) m (by omega) (by omega) (by rw [ec];omega) (by
      have:(2:Nat)^m+2^m≤2^64:=by
        rw [← Nat.two_mul,← Nat.pow_succ'];exact Nat.pow_le_pow_right (by decide) (by omega)
      rw [ec];omega)
    rw [Int.one_mul] at h1
    rw [h1,ec];omega
  rw [hg']
  generalize q+2^(64*g+m)=q' at *
  rcases (by omega:g=0∨g=1∨g=2∨g=3) with rfl | rfl | rfl | rfl
  · show #[_,_,_,_]=_;rw [cU,hz 1 (by omega),hz 2 (by omega),hz 3 (by omega)]
  · show #[_,_,_,_]=_;rw [cU,hl 0 (by omega),hz 2 (by omega),hz 3 (by omega)]
  · show #[_,_,_,_]=_;rw [cU,hl 0 (by omega),hl 1 (by omega),hz 3 (by omega)]
  · show #[_,_,_,_]=_;rw [cU,hl 0 (by omega),hl 1 (by omega),hl 2 (by omega)]
theorem low_next (x i:Nat):x%2^(i+1)=x%2^i+(if x / 2^i%2=1 then 2^i else 0):=by
  rw [Nat.mod_pow_succ]
  rcases (by omega:x / 2^i%2=0∨x / 2^i%2=1) with h | h<;>simp [h]
theorem shr_bit (a n i:Nat):a / 2^(i+n)%2=a / 2^n / 2^i%2:=by rw [Nat.div_div_eq_div_mul,← Nat.pow_add,Nat.add_comm n i]
theorem shr_all {a n i:Nat} (ha:a<M) (h:256≤i+n):a / 2^n%2^i=a / 2^n:=by
  apply Nat.mod_eq_of_lt
  rw [Nat.div_lt_iff_lt_mul (Nat.pow_pos (by decide)),← Nat.pow_add]
  have:(2:Nat)^256≤2^(i+n):=Nat.pow_le_pow_right (by decide) h
  rw [show M=2^256 by rw [mQ]] at ha
  omega
def c4 (f:Nat→Int):Array Value:= #[.int .u64 (f 0),.int .u64 (f 1),.int .u64 (f 2),.int .u64 (f 3)]
theorem div_lenN (e:Nat):e / 2^dG e=0:=by
  apply Nat.div_eq_of_lt
  unfold dG
  split
  · rename_i h;rw [h];exact Nat.pow_pos (by decide)
  · exact Nat.lt_log2_self
theorem exp_step {a p m x:Nat} (hp:p=a^x%m) (hm:0<m):bV p p m=a^(2*x)%m:=by
  unfold bV
  rw [if_neg (by omega),hp,← Nat.mul_mod,Nat.two_mul,Nat.pow_add]
theorem exp_step1 {a p m x:Nat} (hp:p=a^x%m) (hm:0<m):bV (bV p p m) a m=a^(2*x+1)%m:=by
  rw [exp_step hp hm]
  unfold bV
  rw [if_neg (by omega),Nat.mod_mul_mod,Nat.pow_succ]
theorem half_even {e k:Nat} (h0:0<k) (h:nJ e (k-1)=false):2*(e / 2^k)=e / 2^(k-1):=by
  unfold nJ at h
  have h:=of_decide_eq_false h
  have e1:2^k=2^(k-1)*2:=by rw [← Nat.pow_succ];congr 1;omega
  rw [e1,← Nat.div_div_eq_div_mul]
  omega
theorem half_odd {e k:Nat} (h0:0<k) (h:nJ e (k-1)=true):2*(e / 2^k)+1=e / 2^(k-1):=by
  unfold nJ at h
  have h:=of_decide_eq_true h
  have e1:2^k=2^(k-1)*2:=by rw [← Nat.pow_succ];congr 1;omega
  rw [e1,← Nat.div_div_eq_div_mul]
  omega
theorem exp_start {a e m:Nat} (h:decide (m=0)=false):aQ 1 m=a^(e / 2^dG e)%m:=by
  rw [(jH h).1,div_lenN,Nat.pow_zero]
theorem exp_lt {a x m p:Nat} (hm:m<M) (h:decide (m=0)=false) (hp:p=a^x%m):p<M:=by
  rw [hp];exact Nat.lt_trans (Nat.mod_lt _ (jH (a:=0) h).2.1) hm
theorem exp_end {a e m p k:Nat} (h:decide (m=0)=false) (hk:k=0) (hp:p=a^(e / 2^k)%m):p=bK a e m:=by
  unfold bK
  rw [if_neg (of_decide_eq_false h),hp,hk,Nat.pow_zero,Nat.div_one]
theorem rbit_at (A i:Nat) (x:Int) (hx:x=(i:Int)) (w:World) (hi:i<256) :
    Calls Tryz.prog 164 #[U A,.int .i64 x] w fun e w'=>e=.returned (.bool (nJ A i))∧Below w.heap.size w w':=by
  subst hx;exact rW A i w hi
theorem expbit (e i : Nat) : (bits .and .u64 (shrW (wd e (i / 64)) (i % 64)) 1 == 1) = nJ e i := by
  rw [← bit_wd e (i / 64) i rfl]
  unfold shrW
  rw [Nat.min_eq_left (by omega), Int.fdiv_eq_ediv_of_nonneg _ (by have : (0 : Nat) < 2 ^ (i % 64) := Nat.pow_pos (by decide); have e : ((2 : Int) ^ (i % 64)) = ((2 ^ (i % 64) : Nat) : Int) := by simp
                                                                   omega)]
theorem wrap_down {k:Nat} (h:0<k) (h2:k<9223372036854775808):IntKind.i64.wrap ((k:Int)-1-1)=((k-1:Nat):Int)-1:=by
  rw [IntWalk.i64_in _ (by omega)];omega
theorem wrap_pred {k:Nat} (h2:k<9223372036854775808):IntKind.i64.wrap ((k:Int)-1)=(k:Int)-1:=by
  rw [IntWalk.i64_in _ (by omega)]
def pP:Nat:=115792089237316195423570985008687907853269984665640564039457584007913129603823
def qP:Nat:=57896044618658097711785492504343953926634992332820282019728792003956564801911
theorem oV:pP<M:=by rw [mQ];unfold pP;decide
theorem sW:qP<M:=by rw [mQ];unfold qP;decide
theorem pF:1<pP:=by unfold pP;decide
theorem qP_pos:1<qP:=by unfold qP;decide
theorem pq:pP=2*qP+1:=by unfold pP qP;decide
theorem pJ (a e:Nat):bK a e pP=a^e%pP:=by unfold bK;rw [if_neg (by have:=pF;omega)]
theorem mulm_p (a b:Nat):bV a b pP=a*b%pP:=by unfold bV;rw [if_neg (by have:=pF;omega)]
def powm (m:Nat):Nat→Nat→Nat→Nat
  | 0,_,_=>1%m
  | f+1,a,e=>if e=0 then 1%m else if e%2=1 then a*powm m f (a*a%m) (e / 2)%m else powm m f (a*a%m) (e / 2)
theorem powm_eq (m : Nat) : ∀ f a e, e < 2 ^ f → powm m f a e = a ^ e % m := by
  intro f
  induction f with
  | zero => intro a e h; have : e = 0 := by simpa using h
            subst this;rfl
  | succ f ih =>
    intro a e h
    have hlt:e / 2<2^f:=by rw [Nat.div_lt_iff_lt_mul (by decide)];rw [Nat.pow_succ] at h;exact h
    have hsq:(a*a%m)^(e / 2)%m=a^(2*(e / 2))%m:=by rw [← Nat.pow_mod,← Nat.pow_two,← Nat.pow_mul]
    unfold powm
    split
    · rename_i h0; rw [h0]
      rfl
    · split
      · rw [ih _ _ hlt, hsq, Nat.mul_mod_mod, Nat.mul_comm, ← Nat.pow_succ]
        congr 2;omega
      · rw [ih _ _ hlt, hsq]
        congr 2;omega
theorem four_q:4^qP%pP=1:=by
  rw [← powm_eq pP 256 4 qP (by unfold qP;decide +kernel)]
  decide +kernel
def mW (a:Nat):Bool:=decide (a≠0∧a<pP∧a^qP%pP=1)
theorem memB_zero:mW 0=false:=by unfold mW;rw [decide_eq_false_iff_not];exact fun h=>h.1 rfl
theorem pow_red (x:Nat):4^(x%qP)%pP=4^x%pP:=by
  have h1:4^x%pP=4^(qP*(x / qP)+x%qP)%pP:=by rw [Nat.div_add_mod]
  rw [h1,Nat.pow_add,Nat.pow_mul,Nat.mul_mod,Nat.pow_mod (4^qP),four_q,Nat.one_pow,Nat.mod_eq_of_lt pF,Nat.one_mul,Nat.mod_mod]
theorem pow_ne (x:Nat):4^x%pP≠0:=by
  intro h
  have h1:(4^x)^qP%pP=1:=by rw [← Nat.pow_mul,Nat.mul_comm,Nat.pow_mul,Nat.pow_mod,four_q,Nat.one_pow,Nat.mod_eq_of_lt pF]
  rw [Nat.pow_mod,h,Nat.zero_pow (by have:=qP_pos;omega),Nat.zero_mod] at h1
  exact absurd h1 (by decide)
theorem pow_q (x:Nat):(4^x%pP)^qP%pP=1:=by
  rw [← Nat.pow_mod,← Nat.pow_mul,Nat.mul_comm,Nat.pow_mul,Nat.pow_mod,four_q,Nat.one_pow,Nat.mod_eq_of_lt pF]
theorem memB_pow (x:Nat):mW (4^x%pP)=true:=by
  unfold mW;rw [decide_eq_true_eq]
  exact ⟨pow_ne x,Nat.mod_lt _ (by have:=pF;omega),pow_q x⟩
theorem mem_no1 {a:Nat} (h:decide (a=0)=true):false=mW a:=by rw [of_decide_eq_true h];exact memB_zero.symm
theorem mem_no2 {a:Nat} (h:decide (0≤fJ a pP)=true):false=mW a:=by
  unfold mW;symm;rw [decide_eq_false_iff_not]
  intro hh
  have h1:=vX.2 hh.2.1
  have:=of_decide_eq_true h;omega
theorem mem_no3 {a:Nat} (h:decide (fJ a pP<0)=false):false=mW a:=mem_no2 (decide_eq_true (by have:=of_decide_eq_false h;omega))
theorem mem_yes {a:Nat} (h0:decide (a=0)=false) (h:fJ a pP<0):decide (bK a qP pP=1)=mW a:=by
  unfold mW
  rw [decide_eq_decide,pJ]
  exact ⟨fun e=>⟨of_decide_eq_false h0,vX.1 h,e⟩,fun e=>e.2.2⟩
theorem exp_one (a e:Nat):1=a^(e / 2^dG e)%pP:=by rw [div_lenN,Nat.pow_zero,Nat.mod_eq_of_lt pF]
theorem gexp_lt {a x p:Nat} (hp:p=a^x%pP):p<M:=by rw [hp];exact Nat.lt_trans (Nat.mod_lt _ (by have:=pF;omega)) oV
theorem gexp_end {a e p i:Nat} (hi:i=dG e) (hp:p=a^(e / 2^(dG e-i))%pP):p=bK a e pP:=by
  rw [pJ,hp,hi,Nat.sub_self,Nat.pow_zero,Nat.div_one]
theorem law_mem (x:Nat):mW (bK 4 x pP)=true:=by rw [pJ];exact memB_pow x
def fH (p:Nat):Prop:=1<p∧∀ d,d ∣ p→d=1∨d=p
theorem fH.coprime {p a:Nat} (hp:fH p) (h: ¬ p ∣ a):Nat.Coprime p a:=by
  rcases hp.2 (Nat.gcd p a) (Nat.gcd_dvd_left p a) with h1 | h1
  · exact h1
  · exact absurd (h1 ▸ Nat.gcd_dvd_right p a) h
theorem fH.dvd_mul {p a b:Nat} (hp:fH p) (h:p ∣ a*b):p ∣ a∨p ∣ b:=by
  by_cases ha:p ∣ a
  · exact Or.inl ha
  · exact Or.inr ((hp.coprime ha).dvd_of_dvd_mul_left h)
def rH:Nat→Nat→Nat
  | _,0=>1
  | 0,_+1=>0
  | n+1,k+1=>rH n k+rH n (k+1)
theorem uZ (n:Nat):rH n 0=1:=by cases n<;>rfl
theorem sU:∀ n k,n<k→rH n k=0
  | 0,0,h=>absurd h (by omega)
  | 0,k+1,_=>rfl
  | n+1,0,h=>absurd h (by omega)
  | n+1,k+1,h=>by rw [rH,sU n k (by omega),sU n (k+1) (by omega)]
theorem chs_self:∀ n,rH n n=1
  | 0=>rfl
  | n+1=>by rw [rH,chs_self n,sU n (n+1) (by omega)]
theorem tC:∀ n k,(k+1)*rH (n+1) (k+1)=(n+1)*rH n k
  | 0,0=>rfl
  | 0,k+1=>by rw [sU 1 (k+2) (by omega),sU 0 (k+1) (by omega),Nat.mul_zero,Nat.mul_zero]
  | n + 1, 0 => by
    have:=tC n 0
    rw [uZ] at this ⊢
    rw [show rH (n+1+1) (0+1)=rH (n+1) 0+rH (n+1) (0+1) from rfl,uZ]
    omega
  | n + 1, k + 1 => by
    have h1:=tC n k
    have h2:=tC n (k+1)
    rw [show rH (n+1+1) (k+1+1)=rH (n+1) (k+1)+rH (n+1) (k+1+1) from rfl,Nat.mul_add,h2]
    rw [show rH (n+1) (k+1)=rH n k+rH n (k+1) from rfl] at h1 ⊢
    rw [show (k+1+1)*(rH n k+rH n (k+1))=(k+1)*(rH n k+rH n (k+1))+(rH n k+rH n (k+1)) by rw [Nat.add_mul,Nat.one_mul],h1]
    rw [Nat.add_mul (n+1) 1,Nat.mul_add,Nat.one_mul]
    omega
def sumTo (f:Nat→Nat):Nat→Nat
  | 0=>0
  | n+1=>sumTo f n+f n
theorem sumTo_add (f g:Nat→Nat):∀ n,sumTo (fun k=>f k+g k) n=sumTo f n+sumTo g n
  | 0=>rfl
  | n+1=>by simp only [sumTo,sumTo_add f g n];omega
theorem sumTo_mul (c:Nat) (f:Nat→Nat):∀ n,sumTo (fun k=>c*f k) n=c*sumTo f n
  | 0=>by simp [sumTo]
  | n+1=>by simp only [sumTo,sumTo_mul c f n,Nat.mul_add]
theorem uA (f:Nat→Nat):∀ n,sumTo f (n+1)=f 0+sumTo (fun k=>f (k+1)) n
  | 0=>by simp [sumTo]
  | n + 1 => by
    have:=uA f n
    simp only [sumTo] at *
    omega
theorem sumTo_congr {f g:Nat→Nat}:∀ n,(∀ k,k<n→f k=g k)→sumTo f n=sumTo g n
  | 0,_=>rfl
  | n+1,h=>by simp only [sumTo];rw [sumTo_congr n (fun k hk=>h k (by omega)),h n (by omega)]
theorem binom (x:Nat):∀ n,(x+1)^n=sumTo (fun k=>rH n k*x^k) (n+1)
  | 0=>by simp [sumTo,rH]
  | n + 1 => by
    have ih:=binom x n
    rw [uA,Nat.pow_zero,Nat.mul_one,uZ]
    have e1:sumTo (fun k=>rH (n+1) (k+1)*x^(k+1)) (n+1)=sumTo (fun k=>x*(rH n k*x^k)) (n+1)+sumTo (fun k=>rH n (k+1)*x^(k+1)) (n+1):=by
      rw [← sumTo_add]
      apply sumTo_congr
      intro k _
      rw [rH,Nat.add_mul,Nat.pow_succ,← Nat.mul_assoc (rH n k),Nat.mul_comm (rH n k*x^k) x]
    have e2:sumTo (fun k=>rH n k*x^k) (n+2)=1+sumTo (fun k=>rH n (k+1)*x^(k+1)) (n+1):=by
      rw [uA,Nat.pow_zero,Nat.mul_one,uZ]
    have e3:sumTo (fun k=>rH n k*x^k) (n+2)=sumTo (fun k=>rH n k*x^k) (n+1):=by
      show sumTo (fun k=>rH n k*x^k) (n+1)+rH n (n+1)*x^(n+1)=_
      rw [sU n (n+1) (by omega),Nat.zero_mul,Nat.add_zero]
    rw [e1,sumTo_mul,← ih,Nat.pow_succ,Nat.mul_add,Nat.mul_one,Nat.mul_comm x]
    rw [e3,← ih] at e2
    omega
theorem dvd_sumTo {m:Nat} {f:Nat→Nat}:∀ n,(∀ k,k<n→m ∣ f k)→m ∣ sumTo f n
  | 0,_=>Nat.dvd_zero m
  | n+1,h=>Nat.dvd_add (dvd_sumTo n (fun k hk=>h k (by omega))) (h n (by omega))
theorem dvd_chs {p k:Nat} (hp:fH p) (h0:0<k) (h1:k<p):p ∣ rH p k:=by
  obtain ⟨n,rfl⟩:∃ n,p=n+1:=⟨p-1,by omega⟩
  obtain ⟨j,rfl⟩:∃ j,k=j+1:=⟨k-1,by omega⟩
  have h:=tC n j
  have h2:n+1 ∣ (j+1)*rH (n+1) (j+1):=⟨_,h⟩
  rcases hp.dvd_mul h2 with h3 | h3
  · exact absurd (Nat.le_of_dvd (by omega) h3) (by omega)
  · exact h3
theorem dream {p:Nat} (hp:fH p) (x:Nat):(x+1)^p%p=(x^p+1)%p:=by
  obtain ⟨n,rfl⟩:∃ n,p=n+2:=⟨p-2,by have:=hp.1;omega⟩
  rw [binom]
  show (sumTo (fun k=>rH (n+2) k*x^k) (n+2)+rH (n+2) (n+2)*x^(n+2))%(n+2)=_
  rw [chs_self,Nat.one_mul,uA,Nat.pow_zero,Nat.mul_one,uZ]
  have h:(n+2) ∣ sumTo (fun k=>rH (n+2) (k+1)*x^(k+1)) (n+1):=dvd_sumTo _ (fun k hk=>Nat.dvd_mul_right_of_dvd (dvd_chs hp (by omega) (by omega)) _)
  obtain ⟨c,hc⟩:=h
  rw [hc,show 1+(n+2)*c+x^(n+2)=x^(n+2)+1+(n+2)*c by omega,Nat.add_mul_mod_self_left]
theorem fermat {p:Nat} (hp:fH p):∀ a,a^p%p=a%p
  | 0=>by rw [Nat.zero_pow (by have:=hp.1;omega)]
  | a+1=>by rw [dream hp a,Nat.add_mod,fermat hp a,← Nat.add_mod]
theorem mod_cancel {p a x y:Nat} (hp:fH p) (ha: ¬ p ∣ a) (h:a*x%p=a*y%p) (hxy:y≤x):x%p=y%p:=by
  have h1:=Nat.sub_mod_eq_zero_of_mod_eq h
  rw [← Nat.mul_sub] at h1
  rcases hp.dvd_mul (Nat.dvd_of_mod_eq_zero h1) with h2 | h2
  · exact absurd h2 ha
  · obtain ⟨c, hc⟩ := h2
    rw [show x=y+p*c by omega,Nat.add_mul_mod_self_left]
theorem fermat1 {p a:Nat} (hp:fH p) (ha: ¬ p ∣ a):a^(p-1)%p=1:=by
  have h1:=fermat hp a
  have ha0:0<a:=by
    rcases Nat.eq_zero_or_pos a with rfl | h
    · exact absurd (Nat.dvd_zero p) ha
    · exact h
  have h2:a*a^(p-1)%p=a*1%p:=by
    rw [Nat.mul_one,← h1,Nat.mul_comm,← Nat.pow_succ,show (p-1).succ=p by have:=hp.1;omega]
  rw [mod_cancel hp ha h2 (Nat.pow_pos ha0),Nat.mod_eq_of_lt hp.1]
theorem pow_mod_one {d e m:Nat} (h:e^m%d=1) (hd:1<d) (k:Nat):e^(m*k)%d=1:=by
  rw [Nat.pow_mul,Nat.pow_mod,h,Nat.one_pow,Nat.mod_eq_of_lt hd]
theorem pow_gcd {d e:Nat} (hd:1<d) (m n:Nat):e^m%d=1→e^n%d=1→e^(Nat.gcd m n)%d=1:=by
  induction m,n using Nat.gcd.induction with
  | H0 n=>intro _ h;rw [Nat.gcd_zero_left];exact h
  | H1 m n _ ih =>
    intro h1 h2
    rw [Nat.gcd_rec]
    apply ih _ h1
    have h3:e^n%d=e^(n%m)%d:=by
      have h4:e^n=e^(m*(n / m))*e^(n%m):=by rw [← Nat.pow_add,Nat.div_add_mod]
      rw [h4,Nat.mul_mod,pow_mod_one h1 hd,Nat.one_mul,Nat.mod_mod]
    rw [← h3];exact h2
theorem least_div {n : Nat} (hn : 1 < n) : ∃ d, 1 < d ∧ d ∣ n ∧ fH d ∧ ∀ c, 1 < c → c ∣ n → d ≤ c := by
  have key:∀ k,(∀ c,1<c→c ∣ n→k≤c)∨∃ d,1<d∧d ∣ n∧∀ c,1<c→c ∣ n→d≤c:=by
    intro k
    induction k with
    | zero=>exact Or.inl (fun c _ _=>Nat.zero_le c)
    | succ k ih =>
      rcases ih with h | h
      · by_cases hk : 1 < k ∧ k ∣ n
        · exact Or.inr ⟨k,hk.1,hk.2,h⟩
        · left
          intro c hc hcn
          have:=h c hc hcn
          rcases Nat.eq_or_lt_of_le this with rfl | h2
          · exact absurd ⟨hc,hcn⟩ hk
          · exact h2
      · exact Or.inr h
  rcases key (n+1) with h | ⟨d,h1,h2,h3⟩
  · exact absurd (h n hn (Nat.dvd_refl n)) (by omega)
  · refine ⟨d, h1, h2, ⟨h1, fun c hc => ?_⟩, h3⟩
    by_cases hc1:c=1
    · exact Or.inl hc1
    · right
      have hcpos:0<c:=Nat.pos_of_dvd_of_pos hc (by omega)
      have:=h3 c (by omega) (Nat.dvd_trans hc h2)
      have:=Nat.le_of_dvd (by omega) hc
      omega
theorem pocklington {n q k a : Nat} (hq : fH q) (hn : n = q * k + 1) (hk : 0 < k) (hqq : n < q * q) (h1 : a ^ (n - 1) % n = 1) (h2 : Nat.gcd (a ^ k % n - 1) n = 1) : fH n := by
  have hq1:=hq.1
  have hn1:1<n:=by rw [hn];have:1*1≤q*k:=Nat.mul_le_mul (by omega) hk;omega
  obtain ⟨d,d1,d2,dp,dmin⟩:=least_div hn1
  have hdn:n%d=0:=Nat.mod_eq_zero_of_dvd d2
  have red:∀ x,x%n%d=x%d:=fun x=>Nat.mod_mod_of_dvd x d2
  have e1:(a^k)^q%d=1:=by
    rw [← Nat.pow_mul,Nat.mul_comm k q,show q*k=n-1 by omega,← red,h1,Nat.mod_eq_of_lt d1]
  have e2: ¬ (a^k)%d=1:=by
    intro h
    have h3:a^k%n%d=1:=by rw [red];exact h
    have h4:d ∣ a^k%n-1:=by
      have:=Nat.sub_mod_eq_zero_of_mod_eq (m:=a^k%n) (n:=1) (k:=d) (by rw [h3,Nat.mod_eq_of_lt d1])
      exact Nat.dvd_of_mod_eq_zero this
    have h5:=Nat.dvd_gcd h4 d2
    rw [h2] at h5
    have:=Nat.le_of_dvd (by decide) h5
    omega
  have e3: ¬ d ∣ a^k:=by
    intro h
    have:(a^k)^q%d=0:=by
      obtain ⟨c,hc⟩:=h
      rw [hc,Nat.mul_pow]
      obtain ⟨r,hr⟩:∃ r,q=r+1:=⟨q-1,by omega⟩
      rw [hr,Nat.pow_succ,Nat.mul_assoc,Nat.mul_left_comm]
      exact Nat.mul_mod_right _ _
    rw [e1] at this;exact absurd this (by decide)
  have e4:=fermat1 dp e3
  have e5:=pow_gcd d1 q (d-1) e1 e4
  have e6:q ∣ d-1:=by
    rcases hq.2 _ (Nat.gcd_dvd_left q (d-1)) with h | h
    · rw [h,Nat.pow_one] at e5;exact absurd e5 e2
    · rw [← h];exact Nat.gcd_dvd_right _ _
  have e7:q<d:=by have:=Nat.le_of_dvd (by omega) e6;omega
  refine ⟨hn1,fun c hc=>?_⟩
  by_cases hc1:c=1
  · exact Or.inl hc1
  · right
    obtain ⟨m,hm⟩:=hc
    have hcpos:0<c:=by
      rcases Nat.eq_zero_or_pos c with rfl | h
      · rw [Nat.zero_mul] at hm;omega
      · exact h
    have hcd:=dmin c (by omega) ⟨m,hm⟩
    by_cases hm1:m=1
    · rw [hm,hm1,Nat.mul_one]
    · exfalso
      have hmpos:0<m:=by
        rcases Nat.eq_zero_or_pos m with rfl | h
        · rw [Nat.mul_zero] at hm;omega
        · exact h
      have hmd:=dmin m (by omega) ⟨c,by rw [hm,Nat.mul_comm]⟩
      have:q*q≤c*m:=Nat.mul_le_mul (by omega) (by omega)
      omega
def noDiv (n:Nat):Nat→Bool
  | 0=>true
  | k+1=>(decide (k<2)||n%k != 0)&&noDiv n k
theorem yL {n:Nat}:∀ k,noDiv n k=true→∀ c,1<c→c<k→¬ c ∣ n
  | 0,_,_,_,h=>absurd h (by omega)
  | k + 1, h, c, h1, h2 => by
    rw [noDiv,Bool.and_eq_true] at h
    by_cases hk:c=k
    · subst hk
      intro hd
      have:=h.1
      rw [Nat.mod_eq_zero_of_dvd hd] at this
      simp at this;omega
    · exact yL k h.2 c h1 (by omega)
theorem prime_trial {n k : Nat} (hn : 1 < n) (h : noDiv n k = true) (hk : n < k * k) : fH n := by
  refine ⟨hn,fun c hc=>?_⟩
  by_cases hc1:c=1
  · exact Or.inl hc1
  · right
    obtain ⟨m,hm⟩:=hc
    have hcpos:0<c:=by
      rcases Nat.eq_zero_or_pos c with rfl | h
      · rw [Nat.zero_mul] at hm;omega
      · exact h
    have hck:k≤c:=Nat.le_of_not_lt (fun hlt=>yL k h c (by omega) hlt ⟨m,hm⟩)
    by_cases hm1:m=1
    · rw [hm,hm1,Nat.mul_one]
    · exfalso
      have hmpos:0<m:=by
        rcases Nat.eq_zero_or_pos m with rfl | h
        · rw [Nat.mul_zero] at hm;omega
        · exact h
      have hmk:k≤m:=Nat.le_of_not_lt (fun hlt=>yL k h m (by omega) hlt ⟨c,by rw [hm,Nat.mul_comm]⟩)
      have:k*k≤c*m:=Nat.mul_le_mul hck hmk
      omega
theorem pock {n q k a f:Nat} (hq:fH q) (hn:n=q*k+1) (hk:0<k) (hqq:n<q*q) (hf:n<2^f) (h1:powm n f a (n-1)=1) (h2:Nat.gcd (powm n f a k-1) n=1):fH n:=by
  have hq1:=hq.1
  have hkn:k<n:=by
    have h3:1*k≤q*k:=Nat.mul_le_mul_right _ (by omega)
    omega
  refine pocklington hq hn hk hqq (a:=a) ?_ ?_
  · rw [← powm_eq n f a (n-1) (by omega)];exact h1
  · rw [← powm_eq n f a k (by omega)];exact h2
theorem prime_w:fH 213319:=prime_trial (k:=500) (by decide) (by decide +kernel) (by decide)
theorem prime_v:fH 2155375177:=pock (q:=213319) (k:=10104) (a:=2) (f:=32) prime_w (by decide +kernel) (by decide +kernel) (by decide +kernel) (by decide +kernel) (by decide +kernel) (by decide +kernel)
theorem prime_u:fH 59483944987587859:=pock (q:=2155375177) (k:=27597954) (a:=2) (f:=56) prime_v (by decide +kernel) (by decide +kernel) (by decide +kernel) (by decide +kernel) (by decide +kernel) (by decide +kernel)
theorem prime_t:fH 1202684276868524221513588244947:=pock (q:=59483944987587859) (k:=20218636761894) (a:=2) (f:=100) prime_u (by decide +kernel) (by decide +kernel) (by decide +kernel) (by decide +kernel) (by decide +kernel) (by decide +kernel)
theorem prime_s:fH 3201964079152361724098258636758155557:=pock (q:=1202684276868524221513588244947) (k:=2662348) (a:=2) (f:=122) prime_t (by decide +kernel) (by decide +kernel) (by decide +kernel) (by decide +kernel) (by decide +kernel) (by decide +kernel)
theorem prime_r:fH 2848630210554880446022254608450222949126931851754251657020267:=pock (q:=3201964079152361724098258636758155557) (k:=889650895555637400306338) (a:=2) (f:=201) prime_s (by decide +kernel) (by decide +kernel) (by decide +kernel) (by decide +kernel) (by decide +kernel) (by decide +kernel)
theorem prime_q:fH 57896044618658097711785492504343953926634992332820282019728792003956564801911:=pock (q:=2848630210554880446022254608450222949126931851754251657020267) (k:=20324169983221730) (a:=2) (f:=255) prime_r (by decide +kernel) (by decide +kernel) (by decide +kernel) (by decide +kernel) (by decide +kernel) (by decide +kernel)
def tgN:List UInt8:=[108,105,103,104,116,99,108,105,101,110,116,47,110,111,110,99,101]
def tgC:List UInt8:=[108,105,103,104,116,99,108,105,101,110,116,47,99,104,97,108,108,101,110,103,101]
def scB (a:Nat):Bool:=decide (a<qP)
def iM (x:Nat):Bool:=decide (x≠0∧x<qP)
def dK (x:Nat):Nat:=if iM x=true then bK 4 x pP else 0
def iW (x:Nat):Int:=if iM x=true then 0 else 60
def iY (p:Nat):Bool:=decide (p≠1)&&mW p
def nonN (x m:Nat):Nat:=if bC (lV tgN (hL x++hL m)) 0 qP=0 then 1 else bC (lV tgN (hL x++hL m)) 0 qP
def chaN (r p m:Nat):Nat:=bC (lV tgC ((hL r++hL p)++hL m)) 0 qP
def sigE (x m:Nat):Nat:=if iM x=true then chaN (bK 4 (nonN x m) pP) (bK 4 x pP) m else 0
def sigS (x m:Nat):Nat:=if iM x=true then bC (nonN x m) (bV (chaN (bK 4 (nonN x m) pP) (bK 4 x pP) m) x qP) qP else 0
def recN (p E S:Nat):Nat:=bV (bK 4 S pP) (bK p (qP-E) pP) pP
def verB (p m E S:Nat):Bool:=scB E&&(scB S&&(iY p&&decide (E=chaN (recN p E S) p m)))
def twO (p t:Nat):Nat:=bV p (bK 4 (bC t 0 qP) pP) pP
def yS (p t:Nat):Nat:=if iY p=true then (if twO p t=1 then 0 else twO p t) else 0
def wY (p t:Nat):Int:=if iY p=true then (if twO p t=1 then 5 else 0) else 60
def tsO (x t:Nat):Nat:=bC x (bC t 0 qP) qP
def fO (x t:Nat):Nat:=if iM x=true then (if tsO x t=0 then 0 else tsO x t) else 0
def nY (x t:Nat):Int:=if iM x=true then (if tsO x t=0 then 5 else 0) else 60
theorem addm_q (a b:Nat):bC a b qP=(a+b)%qP:=by unfold bC;rw [if_neg (by have:=qP_pos;omega)]
theorem mulm_q (a b:Nat):bV a b qP=a*b%qP:=by unfold bV;rw [if_neg (by have:=qP_pos;omega)]
theorem addq_lt (a b:Nat):bC a b qP<qP:=by rw [addm_q];exact Nat.mod_lt _ (by have:=qP_pos;omega)
theorem iL:0<M:=by rw [mQ];decide
theorem ifM {c:Prop} [Decidable c] {a b:Nat} (ha:a<M) (hb:b<M):(if c then a else b)<M:=by split<;>assumption
theorem pubV_lt (x:Nat):dK x<M:=ifM (vZ _ _ oV) iL
theorem twV_lt (p t:Nat):yS p t<M:=ifM (ifM iL (wE _ _ oV)) iL
theorem tsV_lt (x t:Nat):fO x t<M:=ifM (ifM iL (qI _ _ sW)) iL
theorem sc_dec (a:Nat):decide (fJ a qP<0)=scB a:=by
  unfold scB fJ
  by_cases h:a<qP
  · rw [if_pos h,decide_eq_true h];rfl
  · rw [if_neg h,decide_eq_false h];split<;>rfl
theorem sec_0 {x:Nat} (h:decide (x=0)=true):false=iM x:=by
  unfold iM;rw [decide_eq_false];exact fun hh=>hh.1 (of_decide_eq_true h)
theorem sec_1 {x:Nat} (h:decide (x=0)=false):scB x=iM x:=by
  unfold iM scB
  rw [decide_eq_decide]
  exact ⟨fun hx=>⟨of_decide_eq_false h,hx⟩,fun hx=>hx.2⟩
theorem pub_no {x:Nat} (h:iM x=false):dK x=0∧iW x=60:=by unfold dK iW;rw [h];exact ⟨rfl,rfl⟩
theorem lZ {x:Nat} (h:iM x=true):dK x=bK 4 x pP∧iW x=0:=by unfold dK iW;rw [if_pos h,if_pos h];exact ⟨rfl,rfl⟩
theorem val_0 {p:Nat} (h:decide (p=1)=true):false=iY p:=by unfold iY;rw [of_decide_eq_true h];rfl
theorem val_1 {p:Nat} (h:decide (p=1)=false):mW p=iY p:=by
  unfold iY;rw [decide_eq_true (of_decide_eq_false h),Bool.true_and]
theorem sig_yes {x m:Nat} (h:iM x=true):sigE x m=chaN (bK 4 (nonN x m) pP) (dK x) m∧sigS x m=bC (nonN x m) (bV (chaN (bK 4 (nonN x m) pP) (dK x) m) x qP) qP:=by
  unfold sigE sigS
  rw [if_pos h,if_pos h,(lZ h).1];exact ⟨rfl,rfl⟩
theorem tw_a {p t:Nat} (h:iY p=false):yS p t=0∧wY p t=60:=by unfold yS wY;rw [h];exact ⟨rfl,rfl⟩
theorem tw_b {p t:Nat} (h:iY p=true) (h1:twO p t=1):yS p t=0∧wY p t=5:=by unfold yS wY;rw [if_pos h,if_pos h,if_pos h1,if_pos h1];exact ⟨rfl,rfl⟩
theorem tw_c {p t:Nat} (h:iY p=true) (h1:twO p t≠1):yS p t=twO p t∧wY p t=0:=by unfold yS wY;rw [if_pos h,if_pos h,if_neg h1,if_neg h1];exact ⟨rfl,rfl⟩
theorem ts_a {x t:Nat} (h:iM x=false):fO x t=0∧nY x t=60:=by unfold fO nY;rw [h];exact ⟨rfl,rfl⟩
theorem ts_b {x t:Nat} (h:iM x=true) (h1:tsO x t=0):fO x t=0∧nY x t=5:=by unfold fO nY;rw [if_pos h,if_pos h,if_pos h1,if_pos h1];exact ⟨rfl,rfl⟩
theorem ts_c {x t:Nat} (h:iM x=true) (h1:tsO x t≠0):fO x t=tsO x t∧nY x t=0:=by unfold fO nY;rw [if_pos h,if_pos h,if_neg h1,if_neg h1];exact ⟨rfl,rfl⟩
theorem qP_prime:fH qP:=prime_q
theorem pow_not_one {x:Nat} (h0:x≠0) (h:x<qP):4^x%pP≠1:=by
  intro h1
  have hg:=pow_gcd (d:=pP) (e:=4) pF x qP h1 four_q
  have hc:Nat.gcd x qP=1:=by
    have:=qP_prime.coprime (a:=x) (fun hd=>absurd (Nat.le_of_dvd (by omega) hd) (by omega))
    rw [Nat.gcd_comm];exact this
  rw [hc] at hg
  exact absurd hg (by unfold pP;decide)
theorem sec_lt {x:Nat} (h:iM x=true):x≠0∧x<qP:=of_decide_eq_true h
theorem val_pub {x:Nat} (h:iM x=true):iY (bK 4 x pP)=true:=by
  have hx:=sec_lt h
  unfold iY
  rw [law_mem,Bool.and_true,pJ]
  exact decide_eq_true (pow_not_one hx.1 hx.2)
theorem cha_q (r p m:Nat):chaN r p m<qP:=addq_lt _ _
theorem sc_cha (r p m:Nat):scB (chaN r p m)=true:=decide_eq_true (addq_lt _ _)
theorem rec_pow (x E S:Nat):recN (bK 4 x pP) E S=4^(S+x*(qP-E))%pP:=by
  unfold recN
  rw [mulm_p,pJ,pJ,pJ,← Nat.pow_mod,← Nat.pow_mul,← Nat.mul_mod,← Nat.pow_add]
theorem rec_sig {x k e:Nat} (he:e<qP):recN (bK 4 x pP) e (bC k (bV e x qP) qP)=bK 4 k pP:=by
  rw [rec_pow,pJ,← pow_red (_+_),← pow_red k,addm_q,mulm_q]
  congr 2
  have h:e*x+x*(qP-e)=x*qP:=by
    rw [Nat.mul_comm e x,← Nat.mul_add,show e+(qP-e)=qP by omega]
  have:((k+e*x%qP)%qP+x*(qP-e))%qP=(k+(e*x+x*(qP-e)))%qP:=by
    rw [Nat.add_mod,Nat.mod_mod,← Nat.add_mod,Nat.add_assoc,Nat.add_mod k,Nat.add_mod (e*x%qP),Nat.mod_mod,← Nat.add_mod (e*x),← Nat.add_mod]
  rw [this,h,Nat.add_mul_mod_self_right]
theorem right {x m:Nat} (h:iM x=true):verB (dK x) m (sigE x m) (sigS x m)=true:=by
  have hs:=sig_yes (m:=m) h
  unfold verB
  rw [hs.1,hs.2,(lZ h).1,sc_cha,val_pub h,rec_sig (cha_q _ _ _)]
  have:scB (bC (nonN x m) (bV (chaN (bK 4 (nonN x m) pP) (bK 4 x pP) m) x qP) qP)=true:=decide_eq_true (addq_lt _ _)
  rw [this,decide_eq_true rfl];rfl
theorem tsO_lt (x t:Nat):tsO x t<qP:=addq_lt _ _
theorem sec_ts {x t:Nat} (h:tsO x t≠0):iM (tsO x t)=true:=decide_eq_true ⟨h,tsO_lt x t⟩
theorem tw_pow (x t:Nat):twO (bK 4 x pP) t=bK 4 (tsO x t) pP:=by
  unfold twO tsO
  rw [mulm_p,pJ,pJ,pJ,addm_q x,← pow_red (_%_),Nat.mod_mod,pow_red,Nat.pow_add,← Nat.mul_mod]
theorem tw_not {x t:Nat} (h:tsO x t≠0):twO (bK 4 x pP) t≠1:=by
  rw [tw_pow,pJ];exact pow_not_one h (tsO_lt x t)
theorem tsE_ok {x t:Nat} (h:(nY x t != 0)=false):iM x=true∧tsO x t≠0:=by
  have h0:nY x t=0:=by simpa using h
  cases e:iM x
  · rw [(ts_a e).2] at h0;exact absurd h0 (by decide)
  · refine ⟨rfl, fun ho => ?_⟩
    rw [(ts_b e ho).2] at h0;exact absurd h0 (by decide)
theorem both {x t:Nat} (h:iM x=true) (ho:tsO x t≠0):wY (dK x) t=0∧yS (dK x) t=dK (fO x t)∧iW (fO x t)=0∧iM (fO x t)=true:=by
  have hv:=val_pub h
  have ht:=tw_c hv (tw_not (x:=x) (t:=t) ho)
  rw [(lZ h).1,ht.1,ht.2,(ts_c h ho).1,(lZ (sec_ts ho)).1,(lZ (sec_ts ho)).2,sec_ts ho,tw_pow]
  exact ⟨rfl,rfl,rfl,rfl⟩
def tgS:List UInt8:=[108,105,103,104,116,99,108,105,101,110,116,47,115,111,102,116]
def tgH:List UInt8:=[108,105,103,104,116,99,108,105,101,110,116,47,104,97,114,100]
def tgM:List UInt8:=[108,105,103,104,116,99,108,105,101,110,116,47,109,97,115,116,101,114]
def tgI:List UInt8:=[108,105,103,104,116,99,108,105,101,110,116,47,99,104,97,105,110]
structure Ky.Ok (k:Ky):Prop where
  s:k.s<M
  p:k.p<M
  c:k.c<M
  i:k.i<4294967296
  n:k.n<4294967296
def Ky.z:Ky:=⟨0,0,0,0,0,0⟩
theorem Ky.z_ok:Ky.z.Ok:=⟨iL,iL,iL,by decide,by decide⟩
def Ky.neu (k:Ky):Ky:={ k with s:=0}
def hdB (i:Nat):Bool:=decide (2147483648≤i)
def fC (k:Ky):Bool:=decide (0≤k.d)&&(decide (k.d≤8)&&(iY k.p&&(decide (k.s=0)||(decide (iW k.s=0)&&decide (dK k.s=k.p)))))
def bN (D j:Nat):Nat:=D / 256^(31-j)%256
theorem byt_bN (D j:Nat):nR D j=((bN D j:Nat):Int):=rfl
def hiN (D:Nat):Nat→Nat
  | 0=>0
  | j+1=>hiN D j*256+bN D j
def o8 (p:Nat):Nat:=hiN (aU (hL p)) 4
theorem rU (D j:Nat):bN D j<256:=Nat.mod_lt _ (by decide)
theorem hiN_lt (D:Nat):∀ j,hiN D j<256^j
  | 0=>by simp [hiN]
  | j + 1 => by
    have:=hiN_lt D j
    have:=rU D j
    rw [hiN,Nat.pow_succ]
    omega
theorem prN_lt (p:Nat):o8 p<4294967296:=hiN_lt _ 4
def bT (k:Ky) (i:Nat):Nat:=if hdB i=true then lV tgH ((hL k.c++hL k.s)++leB i 4) else lV tgS ((hL k.c++hL k.p)++leB i 4)
theorem twk_lt (k:Ky) (i:Nat):bT k i<M:=ifM (tagN_lt _ _) (tagN_lt _ _)
def xB (v:UInt8) (K:Nat):List UInt8:=(hL K++List.replicate 32 0).map (· ^^^ v)
def hmN (K:Nat) (B:List UInt8):Nat:=aU (xB 92 K++hL (aU (xB 54 K++B)))
theorem hmN_lt (K:Nat) (B:List UInt8):hmN K B<M:=shaN_lt _
def stE (k:Ky) (i:Nat):Int :=
  if k.d=8 then 4 else if hdB i=true∧k.s=0 then 250 else if k.s=0 then wY k.p (bT k i) else nY k.s (bT k i)
def chE (k:Ky) (i:Nat):Int:=if fC k=true then stE k i else 6
def stK (k:Ky) (i:Nat):Ky :=
  if stE k i=0 then { s:=if k.s=0 then 0 else fO k.s (bT k i),p:=if k.s=0 then yS k.p (bT k i) else dK (fO k.s (bT k i)),c:=hmN k.c (hL (bT k i)),d:=k.d+1,i:=i,n:=o8 k.p} else Ky.z
def chK (k:Ky) (i:Nat):Ky:=if fC k=true then stK k i else Ky.z
theorem stK_ok (k:Ky) (i:Nat) (hi:i<4294967296):(stK k i).Ok:=by
  unfold stK
  split
  · exact ⟨ifM iL (tsV_lt _ _),ifM (twV_lt _ _) (pubV_lt _),hmN_lt _ _,hi,prN_lt _⟩
  · exact Ky.z_ok
theorem chK_ok (k:Ky) (i:Nat) (hi:i<4294967296):(chK k i).Ok:=by
  unfold chK
  split
  · exact stK_ok k i hi
  · exact Ky.z_ok
theorem oI {k:Ky} (h:fC k=true):0≤k.d∧k.d≤8∧iY k.p=true∧(k.s=0∨(iM k.s=true∧dK k.s=k.p)):=by
  unfold fC at h
  simp only [Bool.and_eq_true,Bool.or_eq_true,decide_eq_true_eq] at h
  refine ⟨h.1,h.2.1,h.2.2.1,h.2.2.2.imp id (fun q=>⟨?_,q.2⟩)⟩
  cases e:iM k.s
  · have:=q.1;rw [(pub_no e).2] at this;exact absurd this (by decide)
  · rfl
theorem snd_mk {k:Ky} (h0:0≤k.d) (h8:k.d≤8) (hv:iY k.p=true) (hs:k.s=0∨(iM k.s=true∧dK k.s=k.p)):fC k=true:=by
  unfold fC
  rw [decide_eq_true h0,decide_eq_true h8,hv]
  rcases hs with hs | ⟨hs,hp⟩
  · rw [decide_eq_true hs];rfl
  · rw [decide_eq_true hp,decide_eq_true (lZ hs).2,Bool.and_self,Bool.or_true];rfl
theorem mem_mul {a b:Nat} (ha:mW a=true) (hb:mW b=true):mW (bV a b pP)=true:=by
  unfold mW at ha hb ⊢
  have ha:=of_decide_eq_true ha
  have hb:=of_decide_eq_true hb
  have hpp:=pF
  have e:bV a b pP=a*b%pP:=by unfold bV;rw [if_neg (by omega)]
  rw [e]
  have h1:(a*b%pP)^qP%pP=1:=by
    rw [← Nat.pow_mod,Nat.mul_pow,Nat.mul_mod,ha.2.2,hb.2.2]
    exact Nat.mod_eq_of_lt hpp
  apply decide_eq_true
  refine ⟨?_,Nat.mod_lt _ (by omega),h1⟩
  intro h0
  rw [h0,Nat.zero_pow (by have:=qP_pos;omega)] at h1
  simp at h1
theorem val_tw {p t:Nat} (hp:iY p=true) (h1:twO p t≠1):iY (twO p t)=true:=by
  unfold iY at hp ⊢
  rw [Bool.and_eq_true] at hp
  rw [decide_eq_true h1,Bool.true_and]
  unfold twO
  exact mem_mul hp.2 (law_mem _)
theorem st_snd {k : Ky} {i : Nat} (h : fC k = true) (h0 : stE k i = 0) : fC (stK k i) = true := by
  obtain ⟨g0,g8,gv,gs⟩:=oI h
  have hE:=h0
  unfold stK
  rw [if_pos h0]
  unfold stE at h0
  split at h0
  · exact absurd h0 (by decide)
  · rename_i hd
    split at h0
    · exact absurd h0 (by decide)
    · split at h0
      · rename_i hs
        have hne:twO k.p (bT k i)≠1:=by
          intro e;rw [(tw_b gv e).2] at h0;exact absurd h0 (by decide)
        refine snd_mk (by show 0≤k.d+1;omega) (by show k.d+1≤8;omega) ?_ (Or.inl ?_)
        · show iY (if k.s = 0 then yS k.p (bT k i) else _) = true
          rw [if_pos hs,(tw_c gv hne).1];exact val_tw gv hne
        · show (if k.s = 0 then 0 else _) = 0
          rw [if_pos hs]
      · rename_i hs
        have ho:=tsE_ok (x:=k.s) (t:=bT k i) (by rw [h0];rfl)
        have hb:=both ho.1 ho.2
        refine snd_mk (by show 0≤k.d+1;omega) (by show k.d+1≤8;omega) ?_ (Or.inr ⟨?_,?_⟩)
        · show iY (if k.s = 0 then _ else dK (fO k.s (bT k i))) = true
          rw [if_neg hs,(lZ hb.2.2.2).1];exact val_pub hb.2.2.2
        · show iM (if k.s = 0 then 0 else fO k.s (bT k i)) = true
          rw [if_neg hs];exact hb.2.2.2
        · show dK (if k.s = 0 then 0 else fO k.s (bT k i)) = (if k.s = 0 then _ else dK (fO k.s (bT k i)))
          rw [if_neg hs,if_neg hs]
def dvE (k:Ky):List Nat→Int
  | []=>0
  | i::r=>if stE k i=0 then dvE (stK k i) r else stE k i
def dvK (k:Ky):List Nat→Ky
  | []=>k
  | i::r=>if stE k i=0 then dvK (stK k i) r else Ky.z
def nM (k:Ky) (l:List Nat):Int:=if fC k=true then dvE k l else 6
def iQ (k:Ky) (l:List Nat):Ky:=if fC k=true then dvK k l else Ky.z
theorem dvK_ok {k:Ky} (hk:k.Ok) {p:List Nat} (hp:∀ i∈p,i<4294967296):(dvK k p).Ok:=by
  induction p generalizing k with
  | nil=>exact hk
  | cons i r ih =>
    simp only [dvK]
    split
    · exact ih (stK_ok k i (hp i List.mem_cons_self)) (fun j hj=>hp j (List.mem_cons_of_mem _ hj))
    · exact Ky.z_ok
theorem yR {k:Ky} (hk:k.Ok) {p:List Nat} (hp:∀ i∈p,i<4294967296):(iQ k p).Ok:=by
  unfold iQ
  split
  · exact dvK_ok hk hp
  · exact Ky.z_ok
theorem snd_end1 {k:Ky} (h1:decide (k.d<0)=true):false=fC k:=by
  have:=of_decide_eq_true h1
  unfold fC
  rw [decide_eq_false (show ¬ 0≤k.d by omega)];rfl
theorem snd_end2 {k:Ky} (_:decide (k.d<0)=false) (h2:decide (8<k.d)=true):false=fC k:=by
  have:=of_decide_eq_true h2
  unfold fC
  rw [decide_eq_false (show ¬ k.d≤8 by omega),Bool.false_and,Bool.and_false]
theorem snd_end3 {k:Ky} (_:decide (k.d<0)=false) (_:decide (8<k.d)=false) (h3:iY k.p=false):false=fC k:=by
  unfold fC
  rw [h3,Bool.false_and,Bool.and_false,Bool.and_false]
theorem snd_mid {k:Ky} (h1:decide (k.d<0)=false) (h2:decide (8<k.d)=false) (h3:iY k.p=true):fC k=(decide (k.s=0)||(decide (iW k.s=0)&&decide (dK k.s=k.p))):=by
  have:=of_decide_eq_false h1
  have:=of_decide_eq_false h2
  unfold fC
  rw [decide_eq_true (show 0≤k.d by omega),decide_eq_true (show k.d≤8 by omega),h3];rfl
theorem snd_ok4 {k:Ky} (h1:decide (k.d<0)=false) (h2:decide (8<k.d)=false) (h3:iY k.p=true) (h4:decide (k.s=0)=true):true=fC k:=by
  rw [snd_mid h1 h2 h3,h4];rfl
theorem snd_ok5 {k:Ky} (h1:decide (k.d<0)=false) (h2:decide (8<k.d)=false) (h3:iY k.p=true) (h4:decide (k.s=0)=false) (h5:(iW k.s==0)=true):decide (dK k.s=k.p)=fC k:=by
  have h:iW k.s=0:=by simpa using h5
  rw [snd_mid h1 h2 h3,h4,decide_eq_true h];rfl
theorem snd_end5 {k:Ky} (h1:decide (k.d<0)=false) (h2:decide (8<k.d)=false) (h3:iY k.p=true) (h4:decide (k.s=0)=false) (h5:(iW k.s==0)=false):false=fC k:=by
  have h: ¬ iW k.s=0:=by simpa using h5
  rw [snd_mid h1 h2 h3,h4,decide_eq_false h];rfl
theorem hiN_small {D j:Nat} (h:j<4):hiN D j<16777216 :=
  Nat.lt_of_lt_of_le (hiN_lt D j) (by rw [show (16777216:Nat)=256^3 from rfl];exact Nat.pow_le_pow_right (by decide) (by omega))
theorem or_hi {D j:Nat} (h:j<4):bits .or .u32 ((hiN D j*256:Nat):Int) ((bN D j:Nat):Int)=((hiN D (j+1):Nat):Int):=by
  have h1:=hiN_small (D:=D) h
  have h2:=rU D j
  exact or_gen (x:=hiN D j) (y:=bN D j) (k:=8) h2 (by show _*256<_;omega) (by omega)
theorem run_hi8 {P:Program} {t:TypeId} {D j:Nat} (h:j<4) (w:World):(binOp .shl t (.int .u32 ((hiN D j:Nat):Int)) (.int .u64 8)).run P w=.ok (.int .u32 ((hiN D j*256:Nat):Int)) w :=
  sV (k:=.u32) (yk:=.u64) (x:=hiN D j) (c:=8) rfl (by have:=hiN_small (D:=D) h;show hiN D j*256<4294967296;omega) (fun _=>by decide) w
theorem vI (D j:Nat):IntKind.u32.wrap ((bN D j:Nat):Int)=((bN D j:Nat):Int):=u32N (Nat.lt_trans (rU D j) (by decide))
theorem run_bN {P:Program} {t:TypeId} {D j c:Nat} (hc:c≤24) (w:World):(binOp .shl t (.int .u32 ((bN D j:Nat):Int)) (.int .u64 ((c:Nat):Int))).run P w=.ok (.int .u32 ((bN D j*2^c:Nat):Int)) w :=
  sV (k:=.u32) (yk:=.u64) (x:=bN D j) (c:=c) rfl (by
    have h1:=rU D j
    have h2:2^c≤2^24:=Nat.pow_le_pow_right (by decide) hc
    have h3:bN D j*2^c≤255*2^24:=Nat.mul_le_mul (by omega) h2
    show bN D j*2^c<4294967296
    omega) (fun _=>by show c≤32;omega) w
theorem or_p1 (D:Nat):bits .or .u32 ((bN D 0*2^24:Nat):Int) ((bN D 1*2^16:Nat):Int)=(((bN D 0*256+bN D 1)*65536:Nat):Int):=or_w1 (rU D 0) (rU D 1)
theorem or_p2 (D:Nat):bits .or .u32 (((bN D 0*256+bN D 1)*65536:Nat):Int) ((bN D 2*2^8:Nat):Int)=((((bN D 0*256+bN D 1)*256+bN D 2)*256:Nat):Int):=or_w2 (rU D 0) (rU D 1) (rU D 2)
theorem or_p3 (D:Nat):bits .or .u32 ((((bN D 0*256+bN D 1)*256+bN D 2)*256:Nat):Int) ((bN D 3:Nat):Int)=((hiN D 4:Nat):Int):=by
  have h0:=rU D 0;have h1:=rU D 1;have h2:=rU D 2;have h3:=rU D 3
  refine (or_gen (x:=(bN D 0*256+bN D 1)*256+bN D 2) (y:=bN D 3) (k:=8) h3 (by show _*256<_;omega) (by omega)).trans ?_
  simp [hiN]
theorem hd_t {i:Nat} (h:decide (2147483648≤((i:Nat):Int))=true):hdB i=true:=decide_eq_true (by have:=of_decide_eq_true h;omega)
theorem hd_f {i:Nat} (h:decide (2147483648≤((i:Nat):Int))=false):hdB i=false:=decide_eq_false (by have:=of_decide_eq_false h;omega)
theorem twk_1 {k:Ky} {i:Nat} (h:decide (2147483648≤((i:Nat):Int))=true):lV tgH ((hL k.c++hL k.s)++leB i 4)=bT k i:=by unfold bT;rw [if_pos (hd_t h)]
theorem twk_0 {k:Ky} {i:Nat} (h:decide (2147483648≤((i:Nat):Int))=false):lV tgS ((hL k.c++hL k.p)++leB i 4)=bT k i:=by unfold bT;rw [hd_f h];rfl
theorem xQ {x y:Int} (h:(x==y)=true):x=y:=by simpa using h
theorem jP {x y:Int} (h:(x==y)=false):x≠y:=by simpa using h
theorem bnI {x:Int} (h:(x==0)=true):(x != 0)=false:=by rw [xQ h];rfl
theorem d8_t {k:Ky} (hs:fC k=true) (h:decide (8≤k.d)=true):k.d=8:=by have:=oI hs;have:=of_decide_eq_true h;omega
theorem zC {k:Ky} (h:decide (8≤k.d)=false):k.d≠8:=by have:=of_decide_eq_false h;omega
theorem bn_n {x:Int} {b:Bool} (h:(x==0)=b):(x != 0)= !b:=by unfold bne;rw [h]
theorem pub_ts {x t:Nat} (h:(nY x t != 0)=false):(iW (fO x t) != 0)=false:=by
  have ho:=tsE_ok h
  rw [(both ho.1 ho.2).2.2.1];rfl
theorem st_4 {k:Ky} {i:Nat} (h:k.d=8):stE k i=4∧stK k i=Ky.z:=by
  have e:stE k i=4:=if_pos h
  exact ⟨e,by unfold stK;rw [if_neg (by rw [e];decide)]⟩
theorem st_250 {k:Ky} {i:Nat} (h:k.d≠8) (hh:hdB i=true) (hs:k.s=0):stE k i=250∧stK k i=Ky.z:=by
  have e:stE k i=250:=by unfold stE;rw [if_neg h,if_pos ⟨hh,hs⟩]
  exact ⟨e,by unfold stK;rw [if_neg (by rw [e];decide)]⟩
theorem st_E {k:Ky} {i:Nat} (h:k.d≠8) (hn:hdB i=false∨k.s≠0):stE k i=if k.s=0 then wY k.p (bT k i) else nY k.s (bT k i):=by
  unfold stE
  rw [if_neg h,if_neg (fun q=>hn.elim (fun a=>by rw [q.1] at a;exact absurd a (by decide)) (fun a=>a q.2))]
theorem st_s1 {k:Ky} {i:Nat} (h:k.d≠8) (hn:hdB i=false∨k.s≠0) (hs:k.s≠0) (he:nY k.s (bT k i)≠0):stE k i=nY k.s (bT k i)∧stK k i=Ky.z:=by
  have e:stE k i=nY k.s (bT k i):=by rw [st_E h hn,if_neg hs]
  exact ⟨e,by unfold stK;rw [if_neg (by rw [e];exact he)]⟩
theorem st_p1 {k:Ky} {i:Nat} (h:k.d≠8) (hn:hdB i=false∨k.s≠0) (hs:k.s=0) (he:wY k.p (bT k i)≠0):stE k i=wY k.p (bT k i)∧stK k i=Ky.z:=by
  have e:stE k i=wY k.p (bT k i):=by rw [st_E h hn,if_pos hs]
  exact ⟨e,by unfold stK;rw [if_neg (by rw [e];exact he)]⟩
theorem st_s0 {k:Ky} {i:Nat} (h:k.d≠8) (hn:hdB i=false∨k.s≠0) (hs:k.s≠0) (he:nY k.s (bT k i)=0):stE k i=0∧stK k i=⟨fO k.s (bT k i),dK (fO k.s (bT k i)),hmN k.c (hL (bT k i)),k.d+1,i,o8 k.p⟩:=by
  have e:stE k i=0:=by rw [st_E h hn,if_neg hs,he]
  exact ⟨e,by unfold stK;rw [if_pos e,if_neg hs,if_neg hs]⟩
theorem st_p0 {k:Ky} {i:Nat} (h:k.d≠8) (hn:hdB i=false∨k.s≠0) (hs:k.s=0) (he:wY k.p (bT k i)=0):stE k i=0∧stK k i=⟨0,yS k.p (bT k i),hmN k.c (hL (bT k i)),k.d+1,i,o8 k.p⟩:=by
  have e:stE k i=0:=by rw [st_E h hn,if_pos hs,he]
  exact ⟨e,by unfold stK;rw [if_pos e,if_pos hs,if_pos hs]⟩
theorem lQ {k:Ky} {i:Nat} (h:fC k=true):chE k i=stE k i∧chK k i=stK k i:=by unfold chE chK;rw [if_pos h,if_pos h];exact ⟨rfl,rfl⟩
theorem ch_6 {k:Ky} {i:Nat} (h:fC k=false):chE k i=6∧chK k i=Ky.z:=by unfold chE chK;rw [h];exact ⟨rfl,rfl⟩
theorem ch_4 {k:Ky} {i:Nat} (s:fC k=true) (h:k.d=8):chE k i=4∧chK k i=Ky.z:=by rw [(lQ s).1,(lQ s).2];exact st_4 h
theorem ch_250 {k:Ky} {i:Nat} (s:fC k=true) (h:k.d≠8) (hh:hdB i=true) (hs:k.s=0):chE k i=250∧chK k i=Ky.z:=by rw [(lQ s).1,(lQ s).2];exact st_250 h hh hs
theorem ch_s1 {k:Ky} {i:Nat} (s:fC k=true) (h:k.d≠8) (hn:hdB i=false∨k.s≠0) (hs:k.s≠0) (he:nY k.s (bT k i)≠0):chE k i=nY k.s (bT k i)∧chK k i=Ky.z:=by rw [(lQ s).1,(lQ s).2];exact st_s1 h hn hs he
theorem ch_p1 {k:Ky} {i:Nat} (s:fC k=true) (h:k.d≠8) (hn:hdB i=false∨k.s≠0) (hs:k.s=0) (he:wY k.p (bT k i)≠0):chE k i=wY k.p (bT k i)∧chK k i=Ky.z:=by rw [(lQ s).1,(lQ s).2];exact st_p1 h hn hs he
theorem ch_s0 {k:Ky} {i:Nat} (s:fC k=true) (h:k.d≠8) (hn:hdB i=false∨k.s≠0) (hs:k.s≠0) (he:nY k.s (bT k i)=0):chE k i=0∧chK k i=⟨fO k.s (bT k i),dK (fO k.s (bT k i)),hmN k.c (hL (bT k i)),k.d+1,i,o8 k.p⟩:=by rw [(lQ s).1,(lQ s).2];exact st_s0 h hn hs he
theorem ch_p0 {k:Ky} {i:Nat} (s:fC k=true) (h:k.d≠8) (hn:hdB i=false∨k.s≠0) (hs:k.s=0) (he:wY k.p (bT k i)=0):chE k i=0∧chK k i=⟨0,yS k.p (bT k i),hmN k.c (hL (bT k i)),k.d+1,i,o8 k.p⟩:=by rw [(lQ s).1,(lQ s).2];exact st_p0 h hn hs he
def nI (ps:List Nat):List Int:=ps.map fun n=>((n:Nat):Int)
theorem fZ (ps:List Nat):(nI ps).length=ps.length:=List.length_map _
theorem yQ (ps:List Nat) (j:Nat):gI (nI ps) j=((ps.getD j 0:Nat):Int):=by
  unfold gI nI
  rw [List.getD_eq_getElem?_getD,List.getD_eq_getElem?_getD,List.getElem?_map]
  cases ps[j]? <;> rfl
theorem get_all {p:Nat→Prop} {ps:List Nat} (h:∀ i∈ps,p i) (h0:p 0) (j:Nat):p (ps.getD j 0):=by
  rw [List.getD_eq_getElem?_getD]
  cases e:ps[j]? with
  | none=>exact h0
  | some x=>exact h x (List.mem_of_getElem? e)
theorem rX {ps:List Nat} {j:Nat} (h:j<ps.length):ps.drop j=ps.getD j 0::ps.drop (j+1):=by
  rw [List.drop_eq_getElem_cons h,List.getD_eq_getElem?_getD,List.getElem?_eq_getElem h];rfl
theorem dv_fail {k x:Ky} {ps:List Nat} {j:Nat} (hs:fC k=true) (hx:fC x=true) (hj:j<ps.length) (hE:dvE x (ps.drop j)=dvE k ps) (hK:dvK x (ps.drop j)=dvK k ps) (h:(chE x (ps.getD j 0) != 0)=true):nM k ps=chE x (ps.getD j 0)∧iQ k ps=Ky.z:=by
  have hne:stE x (ps.getD j 0)≠0:=by rw [← (lQ hx).1];simpa using h
  rw [rX hj] at hE hK
  simp only [dvE,dvK] at hE hK
  rw [if_neg hne] at hE hK
  unfold nM iQ
  rw [if_pos hs,if_pos hs,← hE,← hK,(lQ hx).1]
  exact ⟨rfl,rfl⟩
theorem wU {k x:Ky} {ps:List Nat} {j:Nat} (hx:fC x=true) (hj:j<ps.length) (hE:dvE x (ps.drop j)=dvE k ps) (hK:dvK x (ps.drop j)=dvK k ps) (h:(chE x (ps.getD j 0) != 0)=false):fC (chK x (ps.getD j 0))=true∧dvE (chK x (ps.getD j 0)) (ps.drop (j+1))=dvE k ps∧dvK (chK x (ps.getD j 0)) (ps.drop (j+1))=dvK k ps:=by
  have h0:stE x (ps.getD j 0)=0:=by rw [← (lQ hx).1];simpa using h
  rw [rX hj] at hE hK
  simp only [dvE,dvK] at hE hK
  rw [if_pos h0] at hE hK
  rw [(lQ hx).2]
  exact ⟨st_snd hx h0,hE,hK⟩
theorem dv_done {k x:Ky} {ps:List Nat} {j:Nat} (hs:fC k=true) (hj:ps.length≤j) (hE:dvE x (ps.drop j)=dvE k ps) (hK:dvK x (ps.drop j)=dvK k ps):nM k ps=0∧iQ k ps=x:=by
  rw [List.drop_eq_nil_of_le hj] at hE hK
  unfold nM iQ
  rw [if_pos hs,if_pos hs,← hE,← hK]
  exact ⟨rfl,rfl⟩
theorem dr_6 {k:Ky} {ps:List Nat} (hs:fC k=false):nM k ps=6∧iQ k ps=Ky.z:=by unfold nM iQ;rw [hs];exact ⟨rfl,rfl⟩
theorem neqH (A B:Nat) (h1:A<M) (h2:B<M) (w:World):(binOp .neq 43 (.agg (hB A)) (.agg (hB B))).run Tryz.prog w=.ok (.bool (!decide (A=B))) w:=by
  rw [zU (n:=32) (e:=5) Tryz.underlying43 Tryz.underlying5 (by kernel_rfl) (nR A) (nR B) _ _ (hB_get A) (hB_get B) w]
  rw [decide_eq_decide.2 (byt_inj h1 h2)]
def kM (s p c:Nat) (d i n:Int) (x y:Value):Array Value:=cU s++cU p++hB c++ #[.int .i64 d,.int .u32 i,.int .u32 n,x,y]
def iC (kd m nu:Int) (h:Nat) (x:Value):Array Value:= #[.int .i64 kd,.int .i64 m,.int .u32 nu]++hB h++ #[x]
def dO.row (p:dO):Array Value:=kM p.k.s p.k.p p.k.c p.k.d ((p.k.i:Nat):Int) ((p.k.n:Nat):Int) (.slice p.pa (nI p.ps).length p.pc) (.bool p.wd)
def bW.row (t:bW):Array Value:=iC t.kd t.m ((t.nu:Nat):Int) t.h (.slice t.ka t.ks.length t.kc)
theorem dO.row_len (p:dO):p.row.toList.length=45:=by simp [dO.row,kM,cU,yV]
theorem bW.row_len (t:bW):t.row.toList.length=36:=by simp [bW.row,iC,yV]
def rng (z:Int):Prop:= -9223372036854775808≤z∧z<9223372036854775808
theorem dS {z:Int} (h: -9223372036854775808≤z∧z<9223372036854775808):rng z:=h
theorem rng_nat {n:Nat} (h:n<1000000):rng ((n:Nat):Int):=by unfold rng;omega
structure dO.Ok (p:dO):Prop where
  k:p.k.Ok
  d:rng p.k.d
  ps:∀ i∈p.ps,i<4294967296
structure bW.Ok (t:bW):Prop where
  kd:rng t.kd
  m:rng t.m
  nu:t.nu<4294967296
  h:t.h<M
theorem dO.ok_d:(default:dO).Ok:=⟨Ky.z_ok,by unfold rng;exact ⟨by decide,by decide⟩,fun i hi=>absurd hi (by simp [default])⟩
theorem bW.ok_d:(default:bW).Ok:=⟨by unfold rng;exact ⟨by decide,by decide⟩,by unfold rng;exact ⟨by decide,by decide⟩,by decide,iL⟩
def gK (l:List dO) (i:Nat):dO:=l.getD i default
def gT (l:List bW) (i:Nat):bW:=l.getD i default
theorem getD_mem {α:Type} [Inhabited α] {l:List α} {i:Nat} (h:i<l.length):l.getD i default∈l:=by
  rw [List.getD_eq_getElem?_getD,List.getElem?_eq_getElem h]
  exact List.getElem_mem h
theorem nU {l:List dO} {i:Nat} (h:i<l.length):gK l i∈l:=getD_mem h
theorem fA {l:List bW} {i:Nat} (h:i<l.length):gT l i∈l:=getD_mem h
def mP (ts:List bW):Prop:=∀ t∈ts,t.Ok∧∀ p∈t.ks,p.Ok
def KsOk (ks:List dO):Prop:=∀ p∈ks,p.Ok
theorem wF {α:Type} [Inhabited α] {q:α→Prop} {l:List α} (h:∀ x∈l,q x) (h0:q default) (i:Nat):q (l.getD i default):=by
  rw [List.getD_eq_getElem?_getD]
  cases e:l[i]? with
  | none=>exact h0
  | some x=>exact h x (List.mem_of_getElem? e)
theorem KsOk.gK1 {ks:List dO} (h:KsOk ks) (j:Nat):(gK ks j).Ok:=wF h dO.ok_d j
theorem mP.gT {ts:List bW} (h:mP ts) (i:Nat):(gT ts i).Ok:=(wF (q:=fun t:bW=>t.Ok∧∀ p∈t.ks,p.Ok) h ⟨bW.ok_d,fun p hp=>absurd hp (by simp [default])⟩ i).1
theorem mP.gK {ts:List bW} (h:mP ts) (i j:Nat):(gK (Go.Proofs.YtaebcmpbbamfpaaGreatDoor.gT ts i).ks j).Ok:=KsOk.gK1 (wF (q:=fun t:bW=>t.Ok∧∀ p∈t.ks,p.Ok) h ⟨bW.ok_d,fun p hp=>absurd hp (by simp [default])⟩ i).2 j
section
variable {α : Type} {f : α → List Value} {n : Nat}
theorem yB (hf:∀ x,(f x).length=n):∀ l:List α,(l.flatMap f).length=l.length*n
  | []=>by simp
  | x :: r => by
    rw [List.flatMap_cons,List.length_append,hf,yB hf r,List.length_cons,Nat.add_mul,Nat.one_mul,Nat.add_comm]
theorem fm_get (hf:∀ x,(f x).length=n) [Inhabited α]:∀ (l:List α) (i j:Nat),i<l.length→j<n→(l.flatMap f)[i*n+j]? = (f (l.getD i default))[j]?
  | [],i,_,h,_=>absurd h (by simp)
  | x :: r, 0, j, _, hj => by
    rw [List.flatMap_cons,Nat.zero_mul,Nat.zero_add,List.getElem?_append_left (by rw [hf];exact hj)]
    rfl
  | x :: r, i + 1, j, h, hj => by
    rw [List.flatMap_cons,List.getElem?_append_right (by rw [hf,Nat.add_mul,Nat.one_mul];omega),hf,show (i+1)*n+j-n=i*n+j by rw [Nat.add_mul,Nat.one_mul];omega,fm_get hf r i j (by simpa using h) hj]
    rfl
end
structure oG (w:World) (a:Option Addr) (c:Nat) (l:List dO):Prop where
  le:l.length≤c
  max:l.length≤1000000
  rows:Rs w a (l.flatMap fun p=>p.row.toList)
  sub:∀ p∈l,Is w .u32 p.pa p.pc (nI p.ps)
  ok:∀ p∈l,p.Ok
structure bM (w:World) (a:Option Addr) (c:Nat) (l:List bW):Prop where
  le:l.length≤c
  max:l.length≤1000000
  rows:Rs w a (l.flatMap fun t=>t.row.toList)
  sub:∀ t∈l,oG w t.ka t.kc t.ks
  ok:∀ t∈l,t.Ok
theorem bM.oks {w:World} {a:Option Addr} {c:Nat} {l:List bW} (h:bM w a c l):mP l:=fun t ht=>⟨h.ok t ht,(h.sub t ht).ok⟩
theorem mP.klen {ts:List bW} (_:mP ts) {w:World} {a:Option Addr} {c:Nat} (h:bM w a c ts) (i:Nat):(Go.Proofs.YtaebcmpbbamfpaaGreatDoor.gT ts i).ks.length≤1000000 :=
  wF (q:=fun t:bW=>t.ks.length≤1000000) (fun t ht=>(h.sub t ht).max) (by decide) i
theorem oG.nil {w:World} {a:Option Addr} {c:Nat}:oG w a c []:=⟨by simp,by simp,Or.inl rfl,by simp,by simp⟩
theorem bM.nil {w:World} {a:Option Addr} {c:Nat}:bM w a c []:=⟨by simp,by simp,Or.inl rfl,by simp,by simp⟩
theorem persAll {α:Type} {T:Nat→Prop} {F:α→World→Prop} {w:World}:∀ {l:List α},(∀ x∈l,dL T (F x) w)→dL T (fun w=>∀ x∈l,F x w) w
  | [],_=>dB (fun _ x hx=>absurd hx (by simp))
  | x :: r, h => ((h x List.mem_cons_self).and (persAll (l := r) (fun y hy => h y (List.mem_cons_of_mem _ hy)))).mono (fun _ hh y hy => by
    rcases List.mem_cons.1 hy with rfl | hy
    · exact hh.1
    · exact hh.2 y hy)
theorem oG.mkP {T:Nat→Prop} {w:World} {a:Option Addr} {c:Nat} {l:List dO} (hle:l.length≤c) (hmax:l.length≤1000000) (hr:dL T (fun w=>Rs w a (l.flatMap fun p=>p.row.toList)) w) (hs:∀ p∈l,dL T (fun w=>Is w .u32 p.pa p.pc (nI p.ps)) w) (ok:∀ p∈l,p.Ok):dL T (fun w=>oG w a c l) w :=
  (hr.and (persAll hs)).mono (fun _ h=>⟨hle,hmax,h.1,h.2,ok⟩)
theorem bM.mkP {T:Nat→Prop} {w:World} {a:Option Addr} {c:Nat} {l:List bW} (hle:l.length≤c) (hmax:l.length≤1000000) (hr:dL T (fun w=>Rs w a (l.flatMap fun p=>p.row.toList)) w) (hs:∀ t∈l,dL T (fun w=>oG w t.ka t.kc t.ks) w) (ok:∀ t∈l,t.Ok):dL T (fun w=>bM w a c l) w :=
  (hr.and (persAll hs)).mono (fun _ h=>⟨hle,hmax,h.1,h.2,ok⟩)
theorem apart0 {a:Option Addr} {n:Nat}:Apart (fun _=>False) a n:=fun _ _ _=>id
theorem oG.pers0 {w:World} {a:Option Addr} {c:Nat} {l:List dO} (h:oG w a c l):dL (fun _=>False) (fun w=>oG w a c l) w :=
  oG.mkP h.le h.max (h.rows.pers apart0) (fun p hp=>(h.sub p hp).pers0) h.ok
theorem bM.pers0 {w:World} {a:Option Addr} {c:Nat} {l:List bW} (h:bM w a c l):dL (fun _=>False) (fun w=>bM w a c l) w :=
  bM.mkP h.le h.max (h.rows.pers apart0) (fun t ht=>(h.sub t ht).pers0) h.ok
section
variable {P : Program} {t e : TypeId}
theorem Rs.some {w:World} {a:Option Addr} {vs:List Value} (h:Rs w a vs) {i:Nat} (hi:i<vs.length):∃ p,a=.some p∧∀ i v,vs[i]? = .some v→w.cell? (p.add i)=.some v:=by
  rcases h with rfl | h
  · simp at hi
  · exact h
theorem adr_add (p:Addr) (k o:Nat):fK (some p) (k+o)=some ((p.add k).add o):=by
  unfold fK
  rw [Option.map_some,Addr.add_add]
theorem idx_rs (ht:P.underlying t=some (.slice e)) {sz:Nat} (hs:∀ w,(sizeOf e).run P w=.ok sz w) {w:World} {a:Option Addr} {c m:Nat} {vs:List Value} {k:IntKind} {z:Int} {j:Nat} (hr:Rs w a vs) (hv:0<vs.length) (hz:z=(j:Int)) (hj:j<m) :
    (do pure (Next.value (← Instr.indexAt t (.slice a m c) (.int k z))):Sem Next).run P w=.ok (.value (.pointer (fK a (j*sz)))) w:=by
  subst hz
  obtain ⟨p,rfl,_⟩:=hr.some hv
  have hs:=hs w
  simp [Instr.indexAt,asIntOf,Sem.run_bind,run_underlying ht,hj,hs,fK]
theorem uH {s ft:TypeId} {fs:Array Field} {f:Nat} {fd:Field} {o n:Nat} (hu:P.underlying s=some (.struct fs)) (hf:fs[f]? = some fd) (hft:fd.type=ft) (ho:fd.offset=o) (hs:∀ w,(sizeOf ft).run P w=.ok (n+1) w) {w:World} {a:Option Addr} {vs:List Value} {k:Nat} (hr:Rs w a vs) (hv:0<vs.length) :
    (do pure (Next.value (← Instr.fieldAt s (.pointer (fK a k)) f)):Sem Next).run P w=.ok (.value (.pointer (fK a (k+o)))) w:=by
  subst hft ho
  obtain ⟨p,rfl,_⟩:=hr.some hv
  have hs:=hs w
  rw [adr_add]
  simp [Instr.fieldAt,Instr.sureAddr,fieldPlace,Sem.run_bind,run_underlying hu,hf,hs,fK]
theorem ld_rs1 {w:World} {a:Option Addr} {vs:List Value} {k:Nat} {v:Value} (ha:∀ w,(isAgg e).run P w=.ok false w) (hr:Rs w a vs) (hv:vs[k]? = some v) :
    (do pure (Next.value (← Instr.loadAt e (.pointer (fK a k)))):Sem Next).run P w=.ok (.value v) w:=by
  obtain ⟨p,rfl,hp⟩:=hr.some (List.getElem?_eq_some_iff.1 hv).1
  have hp:=hp k v hv
  simp only [fK,Option.map_some,Instr.loadAt,Instr.sureAddr,loadVar,Sem.run_bind,Sem.run_pure,Result.andThen_ok,ha,Bool.false_eq_true,if_false,load,Sem.run,hp]
theorem pG {w:World} {a:Option Addr} {vs us:List Value} {k n:Nat} (ha:∀ w,(isAgg e).run P w=.ok true w) (hs:∀ w,(sizeOf e).run P w=.ok n w) (hr:Rs w a vs) (hn:us.length=n) (h0:0<n) (hv:∀ j,j<n→vs[k+j]? = us[j]?) :
    (do pure (Next.value (← Instr.loadAt e (.pointer (fK a k)))):Sem Next).run P w=.ok (.value (.agg us.toArray)) w:=by
  have hlt:k<vs.length:=by
    have h1:=hv 0 h0
    rw [List.getElem?_eq_getElem (show 0<us.length by omega)] at h1
    have:=(List.getElem?_eq_some_iff.1 h1).1
    omega
  obtain ⟨p,rfl,hp⟩:=hr.some hlt
  have hl:=run_loadCells_list (P:=P) w (p.add k) us (fun j v hj=>by
    rw [Addr.add_add]
    have hj':j<n:=by rw [← hn];exact (List.getElem?_eq_some_iff.1 hj).1
    exact hp _ _ ((hv j hj').trans hj))
  rw [hn] at hl
  simp only [fK,Option.map_some,Instr.loadAt,Instr.sureAddr,loadVar,Sem.run_bind,Sem.run_pure,Result.andThen_ok,ha,if_true,hs,hl]
end
section
variable {P : Program} {t e : TypeId} {w : World} {a : Option Addr} {c : Nat}
theorem bM.pos {ts:List bW} (h:bM w a c ts) {i:Nat} (hi:i<ts.length):Rs w a (ts.flatMap fun t=>t.row.toList)∧0<(ts.flatMap fun t=>t.row.toList).length:=⟨h.rows,by rw [yB bW.row_len];omega⟩
theorem oG.pos {ks:List dO} (h:oG w a c ks) {i:Nat} (hi:i<ks.length):Rs w a (ks.flatMap fun t=>t.row.toList)∧0<(ks.flatMap fun t=>t.row.toList).length:=⟨h.rows,by rw [yB dO.row_len];omega⟩
theorem bM.idx {ts:List bW} (ht:P.underlying t=some (.slice e)) (hs:∀ w,(sizeOf e).run P w=.ok 36 w) {m:Nat} {k:IntKind} {z:Int} {j:Nat} (h:bM w a c ts) (hm:m=ts.length) (hz:z=(j:Int)) (hj:j<ts.length) :
    (do pure (Next.value (← Instr.indexAt t (.slice a m c) (.int k z))):Sem Next).run P w=.ok (.value (.pointer (fK a (j*36)))) w:=idx_rs ht hs (h.pos hj).1 (h.pos hj).2 hz (by omega)
theorem oG.idx {ks:List dO} (ht:P.underlying t=some (.slice e)) (hs:∀ w,(sizeOf e).run P w=.ok 45 w) {m:Nat} {k:IntKind} {z:Int} {j:Nat} (h:oG w a c ks) (hm:m=ks.length) (hz:z=(j:Int)) (hj:j<ks.length) :
    (do pure (Next.value (← Instr.indexAt t (.slice a m c) (.int k z))):Sem Next).run P w=.ok (.value (.pointer (fK a (j*45)))) w:=idx_rs ht hs (h.pos hj).1 (h.pos hj).2 hz (by omega)
theorem bM.cell {ts:List bW} {i j:Nat} {v:Value} (hi:i<ts.length) (hj:j<36) (hv:(gT ts i).row[j]? = some v):(ts.flatMap fun t=>t.row.toList)[i*36+j]? = some v:=by
  rw [fm_get bW.row_len ts i j hi hj,Array.getElem?_toList];exact hv
theorem oG.cell {ks:List dO} {i j:Nat} {v:Value} (hi:i<ks.length) (hj:j<45) (hv:(gK ks i).row[j]? = some v):(ks.flatMap fun t=>t.row.toList)[i*45+j]? = some v:=by
  rw [fm_get dO.row_len ks i j hi hj,Array.getElem?_toList];exact hv
theorem bM.ld {ts:List bW} {i j:Nat} {v:Value} (ha:∀ w,(isAgg e).run P w=.ok false w) (h:bM w a c ts) (hi:i<ts.length) (hj:j<36) (hv:(gT ts i).row[j]? = some v) :
    (do pure (Next.value (← Instr.loadAt e (.pointer (fK a (i*36+j))))):Sem Next).run P w=.ok (.value v) w:=ld_rs1 ha h.rows (bM.cell hi hj hv)
theorem oG.ld {ks:List dO} {i j:Nat} {v:Value} (ha:∀ w,(isAgg e).run P w=.ok false w) (h:oG w a c ks) (hi:i<ks.length) (hj:j<45) (hv:(gK ks i).row[j]? = some v) :
    (do pure (Next.value (← Instr.loadAt e (.pointer (fK a (i*45+j))))):Sem Next).run P w=.ok (.value v) w:=ld_rs1 ha h.rows (oG.cell hi hj hv)
theorem bM.ldA {ts:List bW} {i:Nat} (ha:∀ w,(isAgg e).run P w=.ok true w) (hs:∀ w,(sizeOf e).run P w=.ok 36 w) (h:bM w a c ts) (hi:i<ts.length) :
    (do pure (Next.value (← Instr.loadAt e (.pointer (fK a (i*36))))):Sem Next).run P w=.ok (.value (.agg (gT ts i).row)) w:=by
  have h1:=pG (us:=(gT ts i).row.toList) ha hs h.rows (bW.row_len _) (by decide) (fun j hj=>fm_get bW.row_len ts i j hi hj)
  rw [Array.toArray_toList] at h1;exact h1
theorem oG.ldA {ks:List dO} {i:Nat} (ha:∀ w,(isAgg e).run P w=.ok true w) (hs:∀ w,(sizeOf e).run P w=.ok 45 w) (h:oG w a c ks) (hi:i<ks.length) :
    (do pure (Next.value (← Instr.loadAt e (.pointer (fK a (i*45))))):Sem Next).run P w=.ok (.value (.agg (gK ks i).row)) w:=by
  have h1:=pG (us:=(gK ks i).row.toList) ha hs h.rows (dO.row_len _) (by decide) (fun j hj=>fm_get dO.row_len ks i j hi hj)
  rw [Array.toArray_toList] at h1;exact h1
end
def nO (k:Int):Int:=if k=1∨k=2 then 0 else if k=3∨k=4∨k=5 then 1 else if k=6 then 2 else -1
theorem zM (k:Int): -1≤nO k∧nO k≤2:=by unfold nO;split<;>(try split)<;>(try split)<;>decide
def vG:Int→List bW→Bool
  | m,[]=>decide (m=0)
  | m,t::r=>if m=0∨nO t.kd<0 then false else vG (m+(nO t.kd-1)) r
def fdN (kd m:Int) (nu h n:Nat):Bool :=
  if kd≠2∧m≠0 then false else if (kd≠3∧kd≠4)∧nu≠0 then false else if kd≠5∧h≠0 then false else
  if kd=1 then decide (n=1) else if kd=2 then decide (1≤n∧n≤15∧1≤m∧m≤(n:Int)) else decide (n=0)
def bW.fd (t:bW):Bool:=fdN t.kd t.m t.nu t.h t.ks.length
def dO.w1 (p:dO):Nat:=if p.wd=true then 1 else 0
def dO.vp (p:dO):Bool:=decide (p.ps.length≤8)&&(fC p.k&&(decide (p.k.d+p.ps.length+p.w1≤8)&&(!p.ps.any hdB||decide (p.k.s≠0))))
def vkB (ks:List dO):Bool:=ks.all dO.vp
def bW.vk (t:bW):Bool:=vkB t.ks
def xW (ts:List bW):Bool:=decide (1≤ts.length∧ts.length≤8)&&(vG 1 ts&&(ts.all bW.fd&&ts.all bW.vk))
def rgK (ks:List dO):Bool:=ks.any dO.wd
def bW.rg (t:bW):Bool:=rgK t.ks
section
variable {α : Type} [Inhabited α] {f : α → Bool} {l : List α} {i : Nat}
theorem zO (h:i<l.length):l.drop i=l.getD i default::l.drop (i+1):=by
  rw [List.drop_eq_getElem_cons h,List.getD_eq_getElem?_getD,List.getElem?_eq_getElem h];rfl
theorem sF (h:i<l.length) (hf:f (l.getD i default)=true) (hr:(l.drop i).all f=l.all f):(l.drop (i+1)).all f=l.all f:=by
  rw [zO h,List.all_cons,hf,Bool.true_and] at hr;exact hr
theorem sZ (h:i<l.length) (hf:f (l.getD i default)=false) (hr:(l.drop i).all f=l.all f):l.all f=false:=by
  rw [zO h,List.all_cons,hf,Bool.false_and] at hr;exact hr.symm
end
theorem xH {α:Type} {f:α→Bool} {l:List α} {i:Nat} (h:l.length≤i) (hr:(l.drop i).all f=l.all f):l.all f=true:=by
  rw [List.drop_eq_nil_of_le h] at hr;exact hr.symm
theorem any_end {α:Type} {f:α→Bool} {l:List α} {i:Nat} (h:l.length≤i) (hr:(l.drop i).any f=l.any f):l.any f=false:=by
  rw [List.drop_eq_nil_of_le h] at hr;exact hr.symm
theorem wh_next {ts:List bW} {i:Nat} {m:Int} (h:i<ts.length) (h0:m≠0) (hk: ¬ nO (gT ts i).kd<0) (hr:vG m (ts.drop i)=vG 1 ts):vG (m+(nO (gT ts i).kd-1)) (ts.drop (i+1))=vG 1 ts:=by
  rw [zO h] at hr
  simp only [vG] at hr
  rw [if_neg (by intro q;rcases q with q | q;exact h0 q;exact hk q)] at hr
  exact hr
theorem wh_stop {ts:List bW} {i:Nat} {m:Int} (h:i<ts.length) (hk:m=0∨nO (gT ts i).kd<0) (hr:vG m (ts.drop i)=vG 1 ts):vG 1 ts=false:=by
  rw [zO h] at hr
  simp only [vG] at hr
  have hk':m=0∨nO (ts.getD i default).kd<0:=hk
  rw [if_pos hk'] at hr
  exact hr.symm
theorem wh_end {ts:List bW} {i:Nat} {m:Int} (h:ts.length≤i) (hr:vG m (ts.drop i)=vG 1 ts):decide (m=0)=vG 1 ts:=by
  rw [List.drop_eq_nil_of_le h] at hr;exact hr
theorem beq_dec (m:Int):(m==0)=decide (m=0):=by rw [Bool.eq_iff_iff,beq_iff_eq,decide_eq_true_eq]
theorem kd_1 {z:Int} (h:z=1∨z=2):0=nO z:=by unfold nO;rw [if_pos h]
theorem kd_3 {z:Int} (h:z=3∨z=4∨z=5):1=nO z:=by unfold nO;rw [if_neg (by omega),if_pos h]
theorem kd_6 {z:Int} (h:z=6):2=nO z:=by unfold nO;rw [if_neg (by omega),if_neg (by omega),if_pos h]
theorem kd_0 {z:Int} (h: ¬ (1≤z∧z≤6)): -1=nO z:=by unfold nO;rw [if_neg (by omega),if_neg (by omega),if_neg (by omega)]
def o7 (kd m:Int) (nu h n:Nat):Prop:=(kd=2∨m=0)∧(kd=3∨kd=4∨nu=0)∧(kd=5∨h=0)∧(kd=1→n=1)∧(kd=2→1≤n∧n≤15∧1≤m∧m≤(n:Int))∧(kd≠1→kd≠2→n=0)
theorem qO (kd m : Int) (nu h n : Nat) : fdN kd m nu h n = true ↔ o7 kd m nu h n := by
  unfold fdN o7
  split
  · simp;omega
  · split
    · simp;omega
    · split
      · simp;omega
      · split
        · simp;omega
        · split
          · simp;omega
          · simp;omega
section
variable {kd m : Int} {nu h n : Nat}
theorem qU (q: ¬ o7 kd m nu h n):false=fdN kd m nu h n:=(Bool.eq_false_iff.2 (fun e=>q ((qO kd m nu h n).1 e))).symm
theorem fd_d {p:Prop} [Decidable p] (q:p↔o7 kd m nu h n):decide p=fdN kd m nu h n:=by rw [Bool.eq_iff_iff,decide_eq_true_eq,qO];exact q
theorem fd_b {x y:Int} (q:x=y↔o7 kd m nu h n):(x==y)=fdN kd m nu h n:=by rw [Bool.eq_iff_iff,beq_iff_eq,qO];exact q
end
theorem beq_f {x y:Int} (h:x≠y):(x==y)=false:=by simpa using h
theorem iK {x y:Int} (h:(x != y)=true):x≠y:=by simpa using h
theorem dD {x y:Int} (h:(x != y)=false):x=y:=by simpa using h
def shB (ts:List bW):Bool:=vG 1 ts&&(decide (1≤ts.length)&&decide (ts.length≤8))
section
variable {ts : List bW} {m : Int} (hw : decide (m = 0) = vG 1 ts)
include hw
theorem sh_0 (h:(m==0)=false):false=shB ts:=by unfold shB;rw [← hw,← beq_dec,h];rfl
theorem sh_2 (h:(m==0)=true) (h1:decide (1≤(((ts).length:Nat):Int))=true):decide ((((ts).length:Nat):Int)≤8)=shB ts:=by
  have:=of_decide_eq_true h1
  unfold shB;rw [← hw,← beq_dec,h,decide_eq_true (show 1≤ts.length by omega),Bool.true_and,Bool.true_and,decide_eq_decide];omega
end
theorem sh_1 {ts:List bW} {m:Int} (_:decide (m=0)=vG 1 ts) (_:(m==0)=true) (h1:decide (1≤(((ts).length:Nat):Int))=false):false=shB ts:=by
  have:=of_decide_eq_false h1
  unfold shB;rw [decide_eq_false (show ¬ 1≤ts.length by omega),Bool.false_and,Bool.and_false]
theorem vl_a {ts:List bW} (h: ¬ (1≤ts.length∧ts.length≤8)):false=xW ts:=by unfold xW;rw [decide_eq_false h];rfl
theorem vl_b {ts:List bW} (h:vG 1 ts=false):false=xW ts:=by unfold xW;rw [h,Bool.false_and,Bool.and_false]
theorem vl_c {ts:List bW} (h:ts.all bW.fd=false):false=xW ts:=by unfold xW;rw [h,Bool.false_and,Bool.and_false,Bool.and_false]
theorem vl_d {ts:List bW} (h:ts.all bW.vk=false):false=xW ts:=by unfold xW;rw [h,Bool.and_false,Bool.and_false,Bool.and_false]
theorem vl_e {ts:List bW} (h1:1≤ts.length∧ts.length≤8) (h2:vG 1 ts=true) (h3:ts.all bW.fd=true) (h4:ts.all bW.vk=true):true=xW ts:=by unfold xW;rw [decide_eq_true h1,h2,h3,h4];rfl
theorem sh_no {ts:List bW} (h:shB ts=false):false=xW ts:=by
  unfold shB at h
  cases e:vG 1 ts
  · exact vl_b e
  · rw [e,Bool.true_and,← Bool.decide_and] at h;exact vl_a (of_decide_eq_false h)
theorem sh_yes {ts:List bW} (h:shB ts=true):(1≤ts.length∧ts.length≤8)∧vG 1 ts=true:=by
  unfold shB at h
  simp only [Bool.and_eq_true,decide_eq_true_eq] at h
  exact ⟨h.2,h.1⟩
theorem w1_t {p:dO} (h:p.wd=true):p.w1=1:=by unfold dO.w1;rw [if_pos h]
theorem w1_f {p:dO} (h:p.wd=false):p.w1=0:=by unfold dO.w1;rw [h];rfl
theorem vp_1 {p:dO} (h: ¬ p.ps.length≤8):false=p.vp:=by unfold dO.vp;rw [decide_eq_false h];rfl
theorem vp_2 {p:dO} (h:fC p.k=false):false=p.vp:=by unfold dO.vp;rw [h,Bool.false_and,Bool.and_false]
theorem vp_3 {p:dO} (h: ¬ p.k.d+p.ps.length+p.w1≤8):false=p.vp:=by unfold dO.vp;rw [decide_eq_false h,Bool.false_and,Bool.and_false,Bool.and_false]
theorem vp_4 {p:dO} (h:p.ps.any hdB=true) (hs:p.k.s=0):false=p.vp:=by unfold dO.vp;rw [h,decide_eq_false (not_not_intro hs),Bool.not_true,Bool.or_false,Bool.and_false,Bool.and_false,Bool.and_false]
theorem vp_5 {p:dO} (h1:p.ps.length≤8) (h2:fC p.k=true) (h3:p.k.d+p.ps.length+p.w1≤8) (h:p.ps.any hdB=false∨p.k.s≠0):true=p.vp:=by
  unfold dO.vp
  rw [decide_eq_true h1,h2,decide_eq_true h3]
  rcases h with h | h
  · rw [h];rfl
  · rw [decide_eq_true h,Bool.or_true];rfl
theorem hd_dec (x:Nat):decide (2147483648≤((x:Nat):Int))=hdB x:=by unfold hdB;rw [decide_eq_decide];omega
def ixA:List Nat→Nat→Int
  | [],_=> -1
  | x::r,i=>if hdB x=true then (i:Int) else ixA r (i+1)
theorem ixA_any:∀ (ps:List Nat) (i:Nat),decide (0≤ixA ps i)=ps.any hdB
  | [],_=>rfl
  | x :: r, i => by
    rw [ixA,List.any_cons]
    by_cases h:hdB x=true
    · rw [if_pos h,h,Bool.true_or];exact decide_eq_true (by omega)
    · rw [if_neg h,Bool.eq_false_iff.2 h,Bool.false_or];exact ixA_any r (i+1)
theorem ix_next {ps:List Nat} {i:Nat} (h:i<ps.length) (hf:hdB (ps.getD i 0)=false) (hr:ixA (ps.drop i) i=ixA ps 0):ixA (ps.drop (i+1)) (i+1)=ixA ps 0:=by
  rw [rX h,ixA,hf] at hr;exact hr
theorem ix_stop {ps:List Nat} {i:Nat} (h:i<ps.length) (hf:hdB (ps.getD i 0)=true) (hr:ixA (ps.drop i) i=ixA ps 0):(i:Int)=ixA ps 0:=by
  rw [rX h,ixA,hf] at hr;exact hr
theorem ix_end {ps:List Nat} {i:Nat} (h:ps.length≤i) (hr:ixA (ps.drop i) i=ixA ps 0): -1=ixA ps 0:=by
  rw [List.drop_eq_nil_of_le h] at hr;exact hr
theorem pa_next {ps:List Nat} {i:Nat} {f:Nat→Bool} (h:i<ps.length) (hf:f (ps.getD i 0)=false) (hr:(ps.drop i).any f=ps.any f):(ps.drop (i+1)).any f=ps.any f:=by
  rw [rX h,List.any_cons,hf,Bool.false_or] at hr;exact hr
theorem pa_stop {ps:List Nat} {i:Nat} {f:Nat→Bool} (h:i<ps.length) (hf:f (ps.getD i 0)=true) (hr:(ps.drop i).any f=ps.any f):ps.any f=true:=by
  rw [rX h,List.any_cons,hf,Bool.true_or] at hr;exact hr.symm
theorem all_endN {ps:List Nat} {i:Nat} {f:Nat→Bool} (h:ps.length≤i) (hr:(ps.drop i).any f=ps.any f):ps.any f=false:=any_end h hr
theorem any_and (ps:List Nat) (b:Bool):(ps.any fun x=>hdB x&&b)=(ps.any hdB&&b):=by
  induction ps with
  | nil=>rfl
  | cons x r ih=>rw [List.any_cons,List.any_cons,ih];cases hdB x<;>cases b<;>simp
def dO.hf (p:dO) (x:Nat):Bool:=hdB x&&decide (p.k.s=0)
theorem hf_a {p:dO} {x:Nat} (h:decide (2147483648≤((x:Nat):Int))=false):p.hf x=false:=by unfold dO.hf;rw [← hd_dec,h];rfl
theorem hf_b {p:dO} {x:Nat} (h:decide (p.k.s=0)=false):p.hf x=false:=by unfold dO.hf;rw [h,Bool.and_false]
theorem hf_c {p:dO} {x:Nat} (h:decide (2147483648≤((x:Nat):Int))=true) (h0:decide (p.k.s=0)=true):p.hf x=true:=by unfold dO.hf;rw [← hd_dec,h,h0];rfl
theorem vp_6 {p:dO} (h:p.ps.any p.hf=true):false=p.vp:=by
  rw [show p.ps.any p.hf=p.ps.any (fun x=>hdB x&&decide (p.k.s=0)) from rfl,any_and,Bool.and_eq_true] at h
  exact vp_4 h.1 (of_decide_eq_true h.2)
theorem vp_7 {p:dO} (h:p.ps.any p.hf=false):p.ps.any hdB=false∨p.k.s≠0:=by
  rw [show p.ps.any p.hf=p.ps.any (fun x=>hdB x&&decide (p.k.s=0)) from rfl,any_and,Bool.and_eq_false_iff] at h
  exact h.imp id of_decide_eq_false
section
variable {P : Program}
end
end Go.Proofs.YtaebcmpbbamfpaaGreatDoor
