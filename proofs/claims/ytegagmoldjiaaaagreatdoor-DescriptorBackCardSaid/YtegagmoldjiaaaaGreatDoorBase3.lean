/-
  What this statement needs, part 3: the texts of it, one behind the other.
-/
import Derived.Test.YtegagmoldjiaaaaGreatDoorBase2
import Derived.Shelf.LaysM
import Derived.Shelf.Strconv.Itoa3
import Derived.Test.YtegagmoldjiaaaaGreatDoorProg
import Derived.Lib.Walk
import Derived.Lib.ItoaMem
import Derived.Lib.AppendIntMem
import Derived.WalkKit
import Derived.BigCall
import Derived.BigGuard
import Derived.ChangeKeysEq
import Derived.Laws.StructEq
set_option maxRecDepth 100000
namespace Go.Proofs.YtegagmoldjiaaaaGreatDoor
open Go Go.RowKit
section
variable {P : Program} {ops : Array Oper} {D : List Nat} {l : List (Nat × Value)} {w0 : Base} {h : List (Nat × Obj)} {F0 : World → Prop}
variable {vals : (Nat → bH) → Nat → Value} {effs : (Nat → bH) → Nat → Eff} {fact : (Nat → bH) → Nat → World → Prop}
theorem o_callGX (i:Nat) (ns:List Nat) (f:FuncId) (args:(Nat→bH)→Array Value) (K:(Nat→bH)→List (Nat × Obj)) (K' N:(Nat→bH)→bH→List (Nat × Obj))
    (hc:∀ ρ z,eU P ops D l (vals ρ) i z=some (.enter f (args ρ),[],[]))
    (he:∀ ρ r,effs (upd ρ i r) i={ news:=N ρ r,puts:=ns.zip (K' ρ r)})
    (hn:∀ ρ,dY ops D h (effs ρ) i ns=true) (hk:∀ ρ,known ops D h (effs ρ) i ns=K ρ) (hl:∀ ρ r,(K' ρ r).length=(K ρ).length)
    (hf:∀ ρ T w,Given ops D w0 h F0 effs fact i ρ T w→Knows (K ρ) w→(∀ x∈K ρ,T x.1)→Calls P f (args ρ) w (fun e w'=>nN (fun b=>b∈(K ρ).map (·.1)) w w'∧∃ r,e=.returned (vals (upd ρ i r) i)∧Knows (K' ρ r) w' ∧
      (∀ (j:Nat) (x y:Nat × Obj),(K ρ)[j]? = some x→(K' ρ r)[j]? = some y→y.1=x.1∨(w.heap.size≤y.1∧(∀ (j':Nat) (y':Nat × Obj),(K' ρ r)[j']? = some y'→j'=j∨y'.1<w.heap.size)∧N ρ r=[])) ∧
      (∀ (k b:Nat) (o:Obj),(N ρ r)[k]? = some (b,o)→w.heap.size≤b∧w'.heap[b]? = some o)∧((N ρ r).map (·.1)).Nodup ∧
      dL (fun b=>T b∨b∈(N ρ r).map (·.1)∨b∈(K' ρ r).map (·.1)) (fact (upd ρ i r) i) w')):jV P ops D l w0 h F0 vals effs fact i:=by
  have key:∀ ρ z,((ops[i]?).isSome=true∧fM (vals ρ) (opAt ops i)=true)∧kH P (execOp (dC ops D l (vals ρ) i) (opAt ops i)) [] [] z=some (.enter f (args ρ),[],[]):=by
    intro ρ z
    have h1:=hc ρ z
    unfold eU at h1
    split at h1
    · rename_i hb
      simp only [Bool.and_eq_true] at hb
      exact ⟨hb,h1⟩
    · exact absurd h1 (by simp)
  intro o ho ρ T w hG
  have hoe:=eY (key ρ []).1.1
  rw [ho] at hoe
  obtain rfl:o=opAt ops i:=by simpa using hoe
  rw [if_pos (key ρ []).1.2]
  obtain ⟨w1,h1,_,_,h4,_,_⟩:=kF (P:=P) (execOp (dC ops D l (vals ρ) i) (opAt ops i)) [] [] w _ _ _ (by intro y hy;simp at hy) (by simp) ((key ρ _).2) trivial
  have hb:Below w.heap.size w w1:=⟨h4.os,h4.tape,h4.output,h4.size,fun k hk=>h4.block k hk (by simp)⟩
  have hheap:∀ b,b<w.heap.size→w1.heap[b]? = w.heap[b]? := fun b hb'=>hb.block b hb'
  have hG1:Given ops D w0 h F0 effs fact i ρ T w1:=by
    have tr:∀ {F:World→Prop},dL T F w→dL T F w1:=by
      rintro F ⟨S,s1,s2⟩
      refine ⟨S,fun b hb'=>⟨Nat.lt_of_lt_of_le (s1 b hb').1 hb.size,(s1 b hb').2⟩,fun w' hw=>s2 w' (fun b hb'=>?_)⟩
      rw [hw b hb',hheap b (s1 b hb').1]
    refine ⟨fun b hb'=>Nat.lt_of_lt_of_le (hG.lt b hb') hb.size,hG.below.trans (nN.of_below hb),fun n x hn hk=>?_,hG.ne,tr hG.facts0,fun j hj=>tr (hG.facts j hj)⟩
    have:=hG.block n x hn hk
    refine ⟨?_,this.2⟩
    rw [hheap _ (hG.lt _ this.2.1)]
    exact this.1
  have hno:=hn ρ
  unfold dY at hno
  rw [Bool.and_eq_true,List.all_eq_true,decide_eq_true_eq] at hno
  obtain ⟨hno,hnd⟩:=hno
  have hbn:∀ n∈ns,∃ x,blk h (effs ρ) n=some x∧okN ops D h (effs ρ) i n=true:=by
    intro n hm
    have:=hno n hm
    rw [Bool.and_eq_true] at this
    obtain ⟨x,hb⟩:=Option.isSome_iff_exists.1 this.1
    exact ⟨x,hb,this.2⟩
  have hKk:∀ (j n:Nat),ns[j]? = some n→∃ x,blk h (effs ρ) n=some x∧okN ops D h (effs ρ) i n=true∧(K ρ)[j]? = some (cur (effs ρ) ops.size (mV D i) n x):=by
    intro j n hj
    obtain ⟨x,hx,hok⟩:=hbn n (List.mem_of_getElem? hj)
    refine ⟨x,hx,hok,?_⟩
    rw [← hk ρ]
    unfold known
    rw [List.getElem?_map,hj]
    simp only [Option.map_some,hx]
  have hKT:∀ y∈K ρ,w1.heap[y.1]? = some y.2∧T y.1:=by
    intro y hy
    rw [← hk ρ] at hy
    unfold known at hy
    obtain ⟨n,hm,rfl⟩:=List.mem_map.1 hy
    obtain ⟨x,hx,hok⟩:=hbn n hm
    rw [hx]
    exact ⟨(hG1.block n x hx hok).1,(hG1.block n x hx hok).2.1⟩
  unfold opv
  rw [h1]
  refine (hf ρ T w1 hG1 (fun y hy=>(hKT y hy).1) (fun y hy=>(hKT y hy).2)).mono (fun e w2 hew=>?_)
  obtain ⟨hU,r,rfl,hK',hmv,hnw,hnn,hp⟩:=hew
  show After ops D h vals effs fact i ρ T w _ w2
  have hlen:(K' ρ r).length=ns.length:=by
    have q1:=hl ρ r
    have q2:=congrArg List.length (hk ρ)
    unfold known at q2
    simp only [List.length_map] at q2
    omega
  have hjj:∀ (j j2 n:Nat),ns[j]? = some n→ns[j2]? = some n→j2=j:=by
    intro j j2 n hj hj2
    obtain ⟨l1,g1⟩:=List.getElem?_eq_some_iff.1 hj
    obtain ⟨l2,g2⟩:=List.getElem?_eq_some_iff.1 hj2
    have hpw:=List.pairwise_iff_getElem.1 hnd
    rcases Nat.lt_trichotomy j2 j with hlt | hlt | hlt
    · exact absurd (g2.trans g1.symm) (hpw _ _ l2 l1 hlt)
    · exact hlt
    · exact absurd (g1.trans g2.symm) (hpw _ _ l1 l2 hlt)
  have hzip:∀ (j n:Nat) (y:Nat × Obj),ns[j]? = some n→(K' ρ r)[j]? = some y→(ns.zip (K' ρ r)).lookup n=some y:=by
    intro j n y hj hy
    have hm:(n,y)∈ns.zip (K' ρ r):=List.mem_iff_getElem?.2 ⟨j,by rw [List.getElem?_zip_eq_some];exact ⟨hj,hy⟩⟩
    cases hq:(ns.zip (K' ρ r)).lookup n with
    | none=>exact absurd hm (qA hq y)
    | some y2 =>
      obtain ⟨j2,hj2⟩:=List.mem_iff_getElem?.1 (fV hq)
      rw [List.getElem?_zip_eq_some] at hj2
      have e:=hjj j j2 n hj hj2.1
      rw [e,hy] at hj2
      exact hj2.2.symm
  refine ⟨r,rfl,?_,?_,?_,?_,?_⟩
  · refine ⟨hU.os.trans hb.os, hU.tape.trans hb.tape, hU.output.trans hb.output, Nat.le_trans hb.size hU.size, fun k hk' hX => (hU.block k (Nat.lt_of_lt_of_le hk' hb.size) ?_).trans (hheap k hk')⟩
    intro hm
    obtain ⟨y,hy,rfl⟩:=List.mem_map.1 hm
    obtain ⟨j,hj⟩:=List.mem_iff_getElem?.1 hy
    have hjl:j<ns.length:=by
      have q2:=congrArg List.length (hk ρ)
      unfold known at q2
      simp only [List.length_map] at q2
      rw [q2];exact (List.getElem?_eq_some_iff.1 hj).1
    obtain ⟨x,hx,_,hKj⟩:=hKk j ns[j] (List.getElem?_eq_getElem hjl)
    obtain rfl:y=cur (effs ρ) ops.size (mV D i) ns[j] x:=Option.some.inj (hj.symm.trans hKj)
    refine hX ⟨ns[j],(K' ρ r)[j]'(by omega),x,?_,hx,rfl⟩
    rw [he]
    exact List.mem_iff_getElem?.2 ⟨j,by rw [List.getElem?_zip_eq_some];exact ⟨List.getElem?_eq_getElem hjl,List.getElem?_eq_getElem (by omega)⟩⟩
  · rw [he]
    intro n y hm
    obtain ⟨j,hj⟩:=List.mem_iff_getElem?.1 hm
    rw [List.getElem?_zip_eq_some] at hj
    obtain ⟨x,hx,hok,hKj⟩:=hKk j n hj.1
    refine ⟨hok,x,hx,?_,?_⟩
    · rw [hzip j n y hj.1 hj.2]
      exact hK' y (List.mem_of_getElem? hj.2)
    · rw [hzip j n y hj.1 hj.2]
      rcases hmv j _ y hKj hj.2 with q | ⟨q1,q2,q3⟩
      · exact Or.inl q
      · refine Or.inr ⟨Nat.le_trans hb.size q1, fun n' y' hm' => ?_, q3⟩
        obtain ⟨j',hj'⟩:=List.mem_iff_getElem?.1 hm'
        rw [List.getElem?_zip_eq_some] at hj'
        obtain ⟨x',hx',hok',hKj'⟩:=hKk j' n' hj'.1
        rcases q2 j' y' hj'.2 with e | e
        · subst e
          exact Or.inl (Option.some.inj (hj'.1.symm.trans hj.1))
        · rcases hmv j' _ y' hKj' hj'.2 with q' | ⟨q', _, _⟩
          · right
            rw [q']
            exact hG.lt _ (hG.block n' x' hx' hok').2.1
          · exact absurd e (by omega)
  · rw [he]
    intro k b q hk
    obtain ⟨q1,q2⟩:=hnw k b q hk
    exact ⟨Nat.le_trans hb.size q1,q2⟩
  · rw [he];exact hnn
  · refine hp.sub (fun b hbT => ?_)
    rw [he] at hbT
    rcases hbT with hbT | hbT | hbT
    · exact Or.inl hbT
    · exact Or.inr (Or.inl hbT)
    · obtain ⟨⟨n, y⟩, hm, rfl⟩ := List.mem_map.1 hbT
      exact Or.inr (Or.inr (List.mem_map.2 ⟨y,(List.of_mem_zip hm).2,rfl⟩))
theorem qMW {i : Nat} (n : Nat) (ns : List Nat) {f : FuncId} {args : (Nat → bH) → Array Value} {v : (Nat → bH) → bH → Value} {g : (Nat → bH) → Nat} {ob : (Nat → bH) → Obj} {ob' : (Nat → bH) → bH → Obj} {K : (Nat → bH) → List (Nat × Obj)} {K1 : (Nat → bH) → bH → List (Nat × Obj)} {Φ : (Nat → bH) → bH → World → Prop}
    (hf:∀ ρ T w,Given ops D w0 h F0 effs fact i ρ T w→Knows (K ρ) w→w.heap[g ρ]? = some (ob ρ)→(∀ x∈K ρ,T x.1)→T (g ρ)→Calls P f (args ρ) w (fun e w'=>∃ r,e=.returned (v ρ r)∧nN (fun b=>b=g ρ∨b∈(K ρ).map (·.1)) w w'∧Knows (K1 ρ r) w'∧(r.n.headD 0=g ρ∨w.heap.size≤r.n.headD 0)∧w'.heap[r.n.headD 0]? = some (ob' ρ r)∧dL (fun b=>T b∨b=r.n.headD 0) (Φ ρ r) w'))
    (hc:∀ ρ z,eU P ops D l (vals ρ) i z=some (.enter f (args ρ),[],[]):=by intros;kernel_rfl)
    (hv:∀ ρ r,vals (upd ρ i r) i=v ρ r:=by intros;kernel_rfl) (he:∀ ρ r,effs (upd ρ i r) i={ puts:=(n,r.n.headD 0,ob' ρ r)::ns.zip (K1 ρ r)}:=by intros;kernel_rfl)
    (hn:∀ ρ,dY ops D h (effs ρ) i (n::ns)=true:=by intros;kernel_rfl) (hk:∀ ρ,known ops D h (effs ρ) i (n::ns)=(g ρ,ob ρ)::K ρ:=by intros;kernel_rfl) (hl:∀ ρ r,(K1 ρ r).map (·.1)=(K ρ).map (·.1):=by intros;kernel_rfl)
    (ht:∀ ρ r,fact (upd ρ i r) i=Φ ρ r:=by intros;kernel_rfl):jV P ops D l w0 h F0 vals effs fact i:=by
  refine o_callGX i (n::ns) f args (fun ρ=>(g ρ,ob ρ)::K ρ) (fun ρ r=>(r.n.headD 0,ob' ρ r)::K1 ρ r) (fun _ _=>[]) hc he hn hk (fun ρ r=>by have:=congrArg List.length (hl ρ r);simpa using this) (fun ρ T w hG hK hT=>?_)
  refine (hf ρ T w hG (fun x hx=>hK x (List.mem_cons_of_mem _ hx)) (hK _ List.mem_cons_self) (fun x hx=>hT x (List.mem_cons_of_mem _ hx)) (hT _ List.mem_cons_self)).mono (fun e w' hew=>?_)
  obtain ⟨r,h1,h2,h3,h4,h5,h6⟩:=hew
  have hpl:∀ (j:Nat) (x y:Nat × Obj),(K ρ)[j]? = some x→(K1 ρ r)[j]? = some y→y.1=x.1:=by
    intro j x y hx hy
    have q:=congrArg (fun l:List Nat=>l[j]?) (hl ρ r)
    simp only [List.getElem?_map,hx,hy,Option.map_some,Option.some.injEq] at q
    exact q
  have hin:∀ (j:Nat) (y:Nat × Obj),(K1 ρ r)[j]? = some y→T y.1:=by
    intro j y hy
    have hj:j<(K ρ).length:=by
      have:=congrArg List.length (hl ρ r)
      simp only [List.length_map] at this
      rw [← this];exact (List.getElem?_eq_some_iff.1 hy).1
    rw [hpl j _ y (List.getElem?_eq_getElem hj) hy]
    exact hT _ (List.mem_cons_of_mem _ (List.getElem_mem hj))
  refine ⟨⟨h2.os,h2.tape,h2.output,h2.size,fun k hk hX=>h2.block k hk (fun q=>hX ?_)⟩,r,h1.trans (by rw [hv]),?_,?_,?_,?_,?_⟩
  · rcases q with q | q
    · rw [q];exact List.mem_cons_self
    · exact List.mem_cons_of_mem _ q
  · intro x hx
    rcases List.mem_cons.1 hx with rfl | hx
    · exact h5
    · exact h3 x hx
  · intro j x y hx hy
    cases j with
    | zero =>
      simp only [List.getElem?_cons_zero,Option.some.injEq] at hx hy
      subst hx;subst hy
      rcases h4 with q | q
      · exact Or.inl q
      · refine Or.inr ⟨q, fun j' y' hy' => ?_, rfl⟩
        cases j' with
        | zero=>exact Or.inl rfl
        | succ j'=>exact Or.inr (hG.lt _ (hin j' y' (by simpa using hy')))
    | succ j=>exact Or.inl (hpl j x y (by simpa using hx) (by simpa using hy))
  · intro k b o hk;simp at hk
  · simp
  · rw [ht]
    refine h6.sub (fun b hb=>?_)
    rcases hb with hb | hb | hb
    · exact Or.inl hb
    · simp at hb
    · obtain ⟨y, hy, rfl⟩ := List.mem_map.1 hb
      rcases List.mem_cons.1 hy with rfl | hy
      · exact Or.inr rfl
      · obtain ⟨j, hj⟩ := List.mem_iff_getElem?.1 hy
        exact Or.inl (hin j y hj)
theorem qNW {i:Nat} (ns:List Nat) {f:FuncId} {args:(Nat→bH)→Array Value} {v:(Nat→bH)→bH→Value} {ob':(Nat→bH)→bH→Obj} {K:(Nat→bH)→List (Nat × Obj)} {K1:(Nat→bH)→bH→List (Nat × Obj)} {Φ:(Nat→bH)→bH→World→Prop}
    (hf:∀ ρ T w,Given ops D w0 h F0 effs fact i ρ T w→Knows (K ρ) w→(∀ x∈K ρ,T x.1)→Calls P f (args ρ) w (fun e w'=>∃ r,e=.returned (v ρ r)∧nN (fun b=>b∈(K ρ).map (·.1)) w w'∧Knows (K1 ρ r) w'∧w.heap.size≤r.n.headD 0∧w'.heap[r.n.headD 0]? = some (ob' ρ r)∧dL (fun b=>T b∨b=r.n.headD 0) (Φ ρ r) w'))
    (hc:∀ ρ z,eU P ops D l (vals ρ) i z=some (.enter f (args ρ),[],[]):=by intros;kernel_rfl)
    (hv:∀ ρ r,vals (upd ρ i r) i=v ρ r:=by intros;kernel_rfl) (he:∀ ρ r,effs (upd ρ i r) i={ news:=[(r.n.headD 0,ob' ρ r)],puts:=ns.zip (K1 ρ r)}:=by intros;kernel_rfl)
    (hn:∀ ρ,dY ops D h (effs ρ) i ns=true:=by intros;kernel_rfl) (hk:∀ ρ,known ops D h (effs ρ) i ns=K ρ:=by intros;kernel_rfl) (hl:∀ ρ r,(K1 ρ r).map (·.1)=(K ρ).map (·.1):=by intros;kernel_rfl)
    (ht:∀ ρ r,fact (upd ρ i r) i=Φ ρ r:=by intros;kernel_rfl):jV P ops D l w0 h F0 vals effs fact i:=by
  refine o_callGX i ns f args K K1 (fun ρ r=>[(r.n.headD 0,ob' ρ r)]) hc he hn hk (fun ρ r=>by have:=congrArg List.length (hl ρ r);simpa using this) (fun ρ T w hG hK hT=>?_)
  refine (hf ρ T w hG hK hT).mono (fun e w' hew=>?_)
  obtain ⟨r,h1,h2,h3,h4,h5,h6⟩:=hew
  have hpl:∀ (j:Nat) (x y:Nat × Obj),(K ρ)[j]? = some x→(K1 ρ r)[j]? = some y→y.1=x.1:=by
    intro j x y hx hy
    have q:=congrArg (fun l:List Nat=>l[j]?) (hl ρ r)
    simp only [List.getElem?_map,hx,hy,Option.map_some,Option.some.injEq] at q
    exact q
  refine ⟨h2,r,h1.trans (by rw [hv]),h3,fun j x y hx hy=>Or.inl (hpl j x y hx hy),?_,?_,?_⟩
  · intro k b o hk
    cases k with
    | zero =>
      simp only [List.getElem?_cons_zero,Option.some.injEq,Prod.mk.injEq] at hk
      obtain ⟨rfl,rfl⟩:=hk
      exact ⟨h4,h5⟩
    | succ k=>simp at hk
  · simp
  · rw [ht]
    refine h6.sub (fun b hb=>?_)
    rcases hb with hb | hb | hb
    · exact Or.inl hb
    · exact Or.inr (by simpa using hb)
    · rw [hl] at hb
      obtain ⟨x,hx,rfl⟩:=List.mem_map.1 hb
      exact Or.inl (hT x hx)
theorem qXW {i:Nat} (ns:List Nat) {f:FuncId} {args:(Nat→bH)→Array Value} {v:(Nat→bH)→Value} {K:(Nat→bH)→List (Nat × Obj)} {K1:(Nat→bH)→bH→List (Nat × Obj)}
    (hf:∀ ρ T w,Given ops D w0 h F0 effs fact i ρ T w→Knows (K ρ) w→(∀ x∈K ρ,T x.1)→Calls P f (args ρ) w (fun e w'=>∃ r,e=.returned (v ρ)∧nN (fun b=>b∈(K ρ).map (·.1)) w w'∧Knows (K1 ρ r) w'))
    (hc:∀ ρ z,eU P ops D l (vals ρ) i z=some (.enter f (args ρ),[],[]):=by intros;kernel_rfl)
    (hv:∀ ρ r,vals (upd ρ i r) i=v ρ:=by intros;kernel_rfl) (he:∀ ρ r,effs (upd ρ i r) i={ puts:=ns.zip (K1 ρ r)}:=by intros;kernel_rfl)
    (hn:∀ ρ,dY ops D h (effs ρ) i ns=true:=by intros;kernel_rfl) (hk:∀ ρ,known ops D h (effs ρ) i ns=K ρ:=by intros;kernel_rfl) (hl:∀ ρ r,(K1 ρ r).map (·.1)=(K ρ).map (·.1):=by intros;kernel_rfl)
    (ht:∀ ρ r,fact (upd ρ i r) i=(fun _=>True):=by intros;kernel_rfl):jV P ops D l w0 h F0 vals effs fact i:=by
  refine o_callGX i ns f args K K1 (fun _ _=>[]) hc he hn hk (fun ρ r=>by have:=congrArg List.length (hl ρ r);simpa using this) (fun ρ T w hG hK hT=>?_)
  refine (hf ρ T w hG hK hT).mono (fun e w' hew=>?_)
  obtain ⟨r,h1,h2,h3⟩:=hew
  refine ⟨h2,r,h1.trans (by rw [hv]),h3,fun j x y hx hy=>Or.inl ?_,fun k b o hk=>by simp at hk,by simp,by rw [ht];exact dB (fun _=>trivial)⟩
  have q:=congrArg (fun l:List Nat=>l[j]?) (hl ρ r)
  simp only [List.getElem?_map,hx,hy,Option.map_some,Option.some.injEq] at q
  exact q
theorem qOr {i:Nat} {f:FuncId} {args:(Nat→bH)→Array Value} {v:(Nat→bH)→bH→Value} {Φ:(Nat→bH)→bH→World→Prop}
    (hf:∀ ρ T w,Given ops D w0 h F0 effs fact i ρ T w→Calls P f (args ρ) w (fun e w'=>Below w.heap.size w w'∧∃ r,e=.returned (v ρ r)∧dL T (Φ ρ r) w'))
    (hc:∀ ρ z,eU P ops D l (vals ρ) i z=some (.enter f (args ρ),[],[]):=by intros;kernel_rfl)
    (hv:∀ ρ r,vals (upd ρ i r) i=v ρ r:=by intros;kernel_rfl) (he:∀ ρ r,effs (upd ρ i r) i={}:=by intros;kernel_rfl)
    (ht:∀ ρ r,fact (upd ρ i r) i=Φ ρ r:=by intros;kernel_rfl):jV P ops D l w0 h F0 vals effs fact i:=by
  refine o_callGT i f args hc he (fun ρ T w hG=>(hf ρ T w hG).mono (fun e w' hew=>?_))
  obtain ⟨hb,r,h1,h2⟩:=hew
  exact ⟨hb,r,by rw [hv];exact h1,by rw [ht];exact h2⟩
end
def mX (n:Nat) (a:Option Addr):Prop:=∀ p,a=some p→n≤p.block
theorem mX.some {n g:Nat} (h:n≤g):mX n (some ⟨g,0,none⟩):=fun p hp=>by
  obtain rfl:(⟨g,0,none⟩:Addr)=p:=by simpa using hp
  exact h
theorem mX.ap {n m:Nat} {a:Option Addr} (h:mX n a) {T:Nat→Prop} (hT:∀ b,T b→b<n):Apart T a m:=fun p hp _ ht=>by
  have h1:=h p hp
  have h2:=hT _ ht
  omega
theorem mX.none {n:Nat}:mX n none:=fun _ h=>absurd h (by simp)
def KjF (w0 w:World) (ks:List dO):Prop:=∀ p∈ks,Fi w0 w .u32 p.pa p.pc (nI p.ps)
structure KpN (w0 w:World) (a:Option Addr) (c:Nat) (ks:List dO):Prop where
  f:oG w a c ks
  n:mX w0.heap.size a
  p:KjF w0 w ks
theorem KjF.nil {w0 w:World}:KjF w0 w []:=fun _ h=>absurd h (by simp)
theorem KpN.nil {w0 w:World}:KpN w0 w none 0 []:=⟨oG.nil,mX.none,KjF.nil⟩
theorem KpN.pers {w0 w:World} {a:Option Addr} {c:Nat} {ks:List dO} (h:KpN w0 w a c ks) {T:Nat→Prop} (hT:∀ b,T b→b<w0.heap.size):dL T (fun w=>oG w a c ks) w :=
  oG.mkP h.f.le h.f.max (h.f.rows.pers (h.n.ap hT)) (fun p hp=>(h.p p hp).pers hT) h.f.ok
theorem kK_one (p:dO):kK.A p.row [p] 1:=⟨by show p.row.toList.take _=_;rw [kK_r];simp only [kpR,List.flatMap_cons,List.flatMap_nil,List.append_nil,List.take_length],kK.r_len _,Nat.le_refl _,by have:=dO.row_len p;rw [Array.length_toList] at this;rw [this]⟩
section
variable {B : Base} {w : World} {h : List (Nat × Obj)} {F : World → Prop} {g : Nat}
theorem St.frozKN (hS:St B h F w) (k:Nat) {C:Array Value} {e:TypeId} {fr:Nat × Nat} {N:List dO} {c:Nat} (hA:kK.A C N c) (hm:N.length≤1000000) (hok:∀ p∈N,p.Ok) (hF:∀ w,F w→KjF B.w w N) (hn0:B.w.heap.size≤g) (ks':List Nat) {h':List (Nat × Obj)}
    (hk:h[k]? = some (g,.cells C e fr):=by kernel_rfl) (hh:oW ks' (h.eraseIdx k)=h':=by kernel_rfl):St B h' (fun w=>KpN B.w w (some ⟨g,0,none⟩) c N∧F w) w:=by
  refine hS.froz k hk ks' hh (fun _ hg hn=>?_)
  have hsub:∀ b,b∈h'.map (·.1)→b∈h.map (·.1):=fun b hb=>((((hh ▸ xBJ ks' _:List.Sublist h' (h.eraseIdx k)).trans (List.eraseIdx_sublist h k)).map _).subset hb)
  have hP:dL (fun b=>b∈h'.map (·.1)) (fun w=>KjF B.w w N) w:=(hS.facts.sub hsub).mono hF
  have hrow:Rs w (some ⟨g,0,none⟩) (kpR N):=by rw [← kK_r];exact Rs.of_av hg hA
  exact ((oG.mkP hA.le hm (hrow.pers (fun p hp _ hx=>by
      obtain rfl:(⟨g,0,none⟩:Addr)=p:=by simpa using hp
      exact hn hx)) (fun p hp=>hP.mono (fun w hw=>(hw p hp).1)) hok).and hP).mono (fun _ hw=>⟨hw.1,mX.some hn0,hw.2⟩)
end
theorem St.subM {B:Base} {w:World} {h:List (Nat × Obj)} {F:World→Prop} (hS:St B h F w) (ks:List Nat) {h':List (Nat × Obj)} (hh:oW ks h=h':=by kernel_rfl):St B h' F w:=hS.sub (hh ▸ xBJ ks h)
def MdF (w0 w:World) (us:List bW):Prop:=∀ t∈us,t.Ok∧KpN w0 w t.ka t.kc t.ks∧SoftL t
theorem MdF.one {w0 w:World} {t:bW} (h:t.Ok) (k:KpN w0 w t.ka t.kc t.ks) (s:SoftL t):MdF w0 w [t]:=fun x hx=>by rw [List.mem_singleton.1 hx];exact ⟨h,k,s⟩
theorem MdF.two {w0 w:World} {t u:bW} (h:MdF w0 w [t]) (k:MdF w0 w [u]):MdF w0 w [t,u]:=fun x hx=>(List.mem_cons.1 hx).elim (fun e=>h x (List.mem_singleton.2 e)) (k x)
theorem MdF.made {w0 w:World} {us:List bW} (h:MdF w0 w us) {T:Nat→Prop} (hT:∀ b,T b→b<w0.heap.size):∀ t∈us,MadeT T w t:=fun t ht=>⟨(h t ht).1,(h t ht).2.1.pers hT,(h t ht).2.2⟩
theorem KjF.one {w0 w:World} {p:dO} (h:Fi w0 w .u32 p.pa p.pc (nI p.ps)):KjF w0 w [p]:=fun x hx=>by rw [List.mem_singleton.1 hx];exact h
section
variable {f : Nat} {a : List Nat} {X : List UInt8} {R : Pth}
theorem st_e0 (hf:X.length<f) (hr:wR f a X=R) (h1:Lib.hasPrefix X [47]=false):R=⟨true,a,false,X⟩:=by
  cases f with
  | zero=>omega
  | succ f=>rw [wR,if_pos h1] at hr;exact hr.symm
theorem st_e1 (hf:X.length<f) (hr:wR f a X=R) (h1:Lib.hasPrefix X [47]=true) (h2:Lib.hasPrefix (Lib.trimPrefix X [47]) [42]=true):R=⟨true,a,true,Lib.trimPrefix (Lib.trimPrefix X [47]) [42]⟩:=by
  cases f with
  | zero=>omega
  | succ f=>rw [wR,if_neg (by rw [h1];decide),if_pos h2] at hr;exact hr.symm
theorem st_f (hf:X.length<f) (hr:wR f a X=R) (h1:Lib.hasPrefix X [47]=true) (h2:Lib.hasPrefix (Lib.trimPrefix X [47]) [42]=false) (h3:numO (Lib.trimPrefix X [47])=false):R=⟨false,[],false,Lib.trimPrefix X [47]⟩:=by
  cases f with
  | zero=>omega
  | succ f=>rw [wR,if_neg (by rw [h1];decide),if_neg (by rw [h2];decide),if_pos h3] at hr;exact hr.symm
theorem st_h (hf:X.length<f) (hr:wR f a X=R) (h1:Lib.hasPrefix X [47]=true) (h2:Lib.hasPrefix (Lib.trimPrefix X [47]) [42]=false) (h3:numO (Lib.trimPrefix X [47])=true) (h4:2147483648≤bT (Lib.trimPrefix X [47])):R=⟨false,[],false,eP (Lib.trimPrefix X [47])⟩:=by
  cases f with
  | zero=>omega
  | succ f=>rw [wR,if_neg (by rw [h1];decide),if_neg (by rw [h2];decide),if_neg (by rw [h3];decide),if_pos h4] at hr;exact hr.symm
theorem st_n1 (hf:X.length<f) (hr:wR f a X=R) (h1:Lib.hasPrefix X [47]=true) (h2:Lib.hasPrefix (Lib.trimPrefix X [47]) [42]=false) (h3:numO (Lib.trimPrefix X [47])=true) (h4: ¬ 2147483648≤bT (Lib.trimPrefix X [47])) (h5:Lib.hasPrefix (eP (Lib.trimPrefix X [47])) [104]=true) :
    (Lib.trimPrefix (eP (Lib.trimPrefix X [47])) [104]).length<f-1∧wR (f-1) (a++[bT (Lib.trimPrefix X [47])+2147483648]) (Lib.trimPrefix (eP (Lib.trimPrefix X [47])) [104])=R:=by
  have q1:=tZ h1
  have q2:=kE (Lib.trimPrefix X [47])
  have q3:=tZ h5
  cases f with
  | zero=>omega
  | succ f =>
    rw [wR,if_neg (by rw [h1];decide),if_neg (by rw [h2];decide),if_neg (by rw [h3];decide),if_neg h4,if_pos h5] at hr
    exact ⟨by simp only [List.length_nil] at *;omega,hr⟩
theorem st_n0 (hf:X.length<f) (hr:wR f a X=R) (h1:Lib.hasPrefix X [47]=true) (h2:Lib.hasPrefix (Lib.trimPrefix X [47]) [42]=false) (h3:numO (Lib.trimPrefix X [47])=true) (h4: ¬ 2147483648≤bT (Lib.trimPrefix X [47])) (h5:Lib.hasPrefix (eP (Lib.trimPrefix X [47])) [104]=false) :
    (eP (Lib.trimPrefix X [47])).length<f-1∧wR (f-1) (a++[bT (Lib.trimPrefix X [47])]) (eP (Lib.trimPrefix X [47]))=R:=by
  have q1:=tZ h1
  have q2:=kE (Lib.trimPrefix X [47])
  cases f with
  | zero=>omega
  | succ f =>
    rw [wR,if_neg (by rw [h1];decide),if_neg (by rw [h2];decide),if_neg (by rw [h3];decide),if_neg h4,if_neg (by rw [h5];decide)] at hr
    exact ⟨by simp only [List.length_nil] at *;omega,hr⟩
end
theorem st_ok:∀ (f:Nat) (a:List Nat) (X:List UInt8),(∀ x∈a,x<4294967296)→(∀ x∈(wR f a X).s,x<4294967296)∧(wR f a X).l.length≤X.length
  | 0,_,_,_=>⟨fun x hx=>absurd hx (by simp [wR]),Nat.le_refl _⟩
  | f + 1, a, X, h => by
    have q1:=gX X [47]
    have q2:=gX (Lib.trimPrefix X [47]) [42]
    have q3:=kE (Lib.trimPrefix X [47])
    have q4:=gX (eP (Lib.trimPrefix X [47])) [104]
    unfold wR
    split
    · exact ⟨h,Nat.le_refl _⟩
    split
    · exact ⟨h,by show (Lib.trimPrefix (Lib.trimPrefix X [47]) [42]).length≤_;omega⟩
    split
    · exact ⟨fun x hx=>absurd hx (by simp),q1⟩
    split
    · exact ⟨fun x hx=>absurd hx (by simp),by show (eP (Lib.trimPrefix X [47])).length≤_;omega⟩
    rename_i h4
    split
    · have := st_ok f (a ++ [bT (Lib.trimPrefix X [47]) + 2147483648]) (Lib.trimPrefix (eP (Lib.trimPrefix X [47])) [104]) (fun x hx => (List.mem_append.1 hx).elim (h x) (fun e => by rw [List.mem_singleton.1 e]; omega))
      exact ⟨this.1,by omega⟩
    · have := st_ok f (a ++ [bT (Lib.trimPrefix X [47])]) (eP (Lib.trimPrefix X [47])) (fun x hx => (List.mem_append.1 hx).elim (h x) (fun e => by rw [List.mem_singleton.1 e]; omega))
      exact ⟨this.1,by omega⟩
section
variable {L : List UInt8}
theorem rp_b (h:rbO 74 L=false):jC L=⟨false,[],false,qV 74 L⟩:=by unfold jC;rw [if_pos h]
theorem rp_k (h:rbO 74 L=true) (h1:kdE (fO 74 L)≠0):jC L=⟨false,[],false,qV 74 L⟩:=by unfold jC;rw [if_neg (by rw [h];decide),if_pos h1]
theorem rp_s (h:rbO 74 L=true) (h1:kdE (fO 74 L)=0):wR ((qV 74 L).length+1) [] (qV 74 L)=jC L:=by unfold jC;rw [if_neg (by rw [h];decide),if_neg (by omega)]
theorem rpK_t (h:(jC L).o=true):lQ L=iU (fO 74 L):=by unfold lQ;rw [if_pos h]
theorem rpK_f (h:(jC L).o=false):lQ L=Ky.z:=by unfold lQ;rw [if_neg (by rw [h];decide)]
theorem wV (L:List UInt8):(∀ x∈(jC L).s,x<4294967296)∧(jC L).l.length≤L.length:=by
  have q:=vC 74 L
  unfold jC
  split
  · exact ⟨fun x hx=>absurd hx (by simp),q⟩
  split
  · exact ⟨fun x hx=>absurd hx (by simp),q⟩
  · have := st_ok ((qV 74 L).length + 1) [] (qV 74 L) (fun x hx => absurd hx (by simp))
    exact ⟨this.1,by omega⟩
theorem rpK_ok (L:List UInt8):(lQ L).Ok:=by
  unfold lQ;split
  · exact kdK_ok _
  · exact Ky.z_ok
theorem rpK_d (L:List UInt8):rng (lQ L).d:=by
  unfold lQ iU
  split
  · split
    · show rng ((gB (fO 74 L) 1 : Nat) : Int)
      have:=iD (fO 74 L) 1
      unfold rng;omega
    · exact ⟨by decide,by decide⟩
  · exact ⟨by decide,by decide⟩
end
theorem Fi.of_kI {w0 w:World} {g c:Nat} {C:Array Value} {T:TypeId} {fr:Nat × Nat} {ps:List Nat} (hg:w0.heap.size≤g∧w.heap[g]? = some (.cells C T fr)) (hA:kI.A C ps c) (hm:ps.length≤140737488351232):Fi w0 w .u32 (some ⟨g,0,none⟩) c (nI ps) :=
  ⟨Is.of_kI hg.2 hA hm,fun p hp _=>by
    obtain rfl:(⟨g,0,none⟩:Addr)=p:=by simpa using hp
    exact hg.1⟩
theorem u32h {n:Nat} (h: ¬ 2147483648≤n):IntKind.u32.wrap ((n:Int)+2147483648)=((n+2147483648:Nat):Int):=by rw [IntKind.wrap_u32];omega
theorem pX (L:List UInt8):bT L<4294967296:=numV_lt L
def bU.v (s:bU):Value:=.slice s.a s.b.length s.c
def kW:RowK bU 1:=⟨fun s=>[s.v],fun _=>rfl,fun s u hu=>by rw [List.mem_singleton.1 hu];rfl⟩
theorem kW_r:∀ l:List bU,kW.r l=l.map bU.v
  | []=>rfl
  | x::r=>by show x.v::kW.r r=_;rw [kW_r r];rfl
def gS (l:List bU) (j:Nat):bU:=l.getD j default
def xBQ (w:World) (l:List bU):Prop:=∀ s∈l,Bs w s.a s.c s.b
structure bI (w:World) (a:Option Addr) (c:Nat) (l:List bU):Prop where
  le:l.length≤c
  max:l.length≤140737488351232
  rows:Rs w a (kW.r l)
  sub:xBQ w l
theorem xBQ.nil {w:World}:xBQ w []:=fun _ h=>absurd h (by simp)
theorem xBQ.one {w:World} {a:Option Addr} {c:Nat} {xs:List UInt8} (h:Bs w a c xs):xBQ w [⟨a,c,xs⟩]:=fun s hs=>by rw [List.mem_singleton.1 hs];exact h
theorem xBQ.app {w:World} {l m:List bU} (h:xBQ w l) (k:xBQ w m):xBQ w (l++m):=fun s hs=>(List.mem_append.1 hs).elim (h s) (k s)
theorem xBQ.set {w:World} {l:List bU} {x:bU} {j:Nat} (h:xBQ w l) (k:Bs w x.a x.c x.b):xBQ w (l.set j x):=fun s hs=>(List.mem_or_eq_of_mem_set hs).elim (h s) (fun e=>by rw [e];exact k)
theorem xBQ.pers0 {w:World} {l:List bU} (h:xBQ w l):dL (fun _=>False) (fun w=>xBQ w l) w:=uT (fun s hs=>(h s hs).pers0)
theorem bI.nil {w:World} {a:Option Addr} {c:Nat}:bI w a c []:=⟨by simp,by simp,Or.inl rfl,xBQ.nil⟩
theorem bI.mkP {T:Nat→Prop} {w:World} {a:Option Addr} {c:Nat} {l:List bU} (hle:l.length≤c) (hmax:l.length≤140737488351232) (hr:dL T (fun w=>Rs w a (kW.r l)) w) (hs:dL T (fun w=>xBQ w l) w):dL T (fun w=>bI w a c l) w:=(hr.and hs).mono (fun _ h=>⟨hle,hmax,h.1,h.2⟩)
theorem bI.pers0 {w:World} {a:Option Addr} {c:Nat} {l:List bU} (h:bI w a c l):dL (fun _=>False) (fun w=>bI w a c l) w:=bI.mkP h.le h.max (h.rows.pers xBC) h.sub.pers0
theorem bI.take {w:World} {a:Option Addr} {c:Nat} {l:List bU} (h:bI w a c l) (k:Nat):bI w a c (l.take k):=by
  refine ⟨Nat.le_trans (by rw [List.length_take];exact Nat.min_le_right _ _) h.le,Nat.le_trans (by rw [List.length_take];exact Nat.min_le_right _ _) h.max,?_,fun s hs=>h.sub s (List.mem_of_mem_take hs)⟩
  rw [RowK.r_take]
  exact h.rows.take _
theorem bI.drop {w:World} {a:Option Addr} {c:Nat} {l:List bU} (h:bI w a c l) {k:Nat} (hk:k≤l.length):bI w (if c=k then a else a.map (·.add (k*1))) (c-k) (l.drop k):=by
  have hle:=h.le
  refine ⟨by rw [List.length_drop];omega,by rw [List.length_drop];have:=h.max;omega,?_,fun s hs=>h.sub s (List.mem_of_mem_drop hs)⟩
  by_cases hc:c=k
  · have : l.drop k = [] := List.eq_nil_of_length_eq_zero (by rw [List.length_drop]; omega)
    rw [this];exact Or.inl rfl
  · rw [if_neg hc, RowK.r_drop]
    exact h.rows.drop _
theorem Rs.apart {T : Nat → Prop} {w : World} {a : Option Addr} {vs : List Value} (h : dL T (fun w => Rs w a vs) w) : Apart T a vs.length := by
  intro p hp h0 hT
  obtain ⟨S,h1,h2⟩:=h
  have hS: ¬ S p.block:=fun hs=>(h1 _ hs).2 hT
  have:=h2 { w with heap:=w.heap.setIfInBounds p.block (.cells #[] 0 (0,0))} (fun b hb=>by
    show (w.heap.setIfInBounds p.block _)[b]? = _
    rw [Array.getElem?_setIfInBounds,if_neg (fun e=>hS (by rw [e];exact hb))])
  rcases this with e | ⟨q,hq,hc⟩
  · rw [e] at h0;exact absurd h0 (by simp)
  · obtain rfl : p = q := by rw [hp] at hq; exact Option.some.inj hq
    obtain ⟨v,r,rfl⟩:∃ v r,vs=v::r:=by cases vs with
      | nil=>exact absurd h0 (by simp)
      | cons v r=>exact ⟨v,r,rfl⟩
    have h3:=hc 0 v rfl
    unfold World.cell? at h3
    rw [xBD] at h3
    simp only [Array.getElem?_setIfInBounds,if_pos] at h3
    split at h3
    · rename_i c _ _ hx
      split at hx
      · obtain ⟨rfl, _, _⟩ := by simpa using hx
        split at h3<;>simp at h3
      · exact absurd hx (by simp)
    · exact absurd h3 (by simp)
theorem Bs.apart {T:Nat→Prop} {w:World} {a:Option Addr} {c:Nat} {xs:List UInt8} (h:dL T (fun w=>Bs w a c xs) w):Apart T a xs.length:=by
  have:=Rs.apart (h.mono (fun _ h=>h.rows));rw [dH] at this;exact this
theorem Apart.or {T T':Nat→Prop} {a:Option Addr} {n:Nat} (h:Apart T a n) (k:Apart T' a n):Apart (fun b=>T b∨T' b) a n:=fun p hp hn hb=>hb.elim (h p hp hn) (k p hp hn)
theorem Apart.sub {T T':Nat→Prop} {a:Option Addr} {n:Nat} (h:Apart T a n) (k:∀ b,T' b→T b):Apart T' a n:=fun p hp hn hb=>h p hp hn (k _ hb)
def xCA (T:Nat→Prop) (l:List bU):Prop:=∀ s∈l,Apart T s.a s.b.length
theorem xBQ.apart {T:Nat→Prop} {w:World} {l:List bU} (h:dL T (fun w=>xBQ w l) w):xCA T l:=fun s hs=>Bs.apart (h.mono (fun _ h=>h s hs))
theorem xCA.nil {T:Nat→Prop}:xCA T []:=fun _ h=>absurd h (by simp)
theorem xCA.app {T:Nat→Prop} {l m:List bU} (h:xCA T l) (k:xCA T m):xCA T (l++m):=fun s hs=>(List.mem_append.1 hs).elim (h s) (k s)
theorem xCA.or {T T':Nat→Prop} {l:List bU} (h:xCA T l) (k:xCA T' l):xCA (fun b=>T b∨T' b) l:=fun s hs=>(h s hs).or (k s hs)
def sK (n:Nat) (l:List bU):Prop:=xCA (fun b=>b<n) l
theorem sK.one {w0 w:World} {a:Option Addr} {c:Nat} {xs:List UInt8} (h:Fs w0 w a c xs):sK w0.heap.size [⟨a,c,xs⟩]:=fun s hs p hp hn hx=>by
  rw [List.mem_singleton.1 hs] at hp hn
  have:=h.2 p hp hn
  omega
theorem xCA.one {T:Nat→Prop} {s:bU} (h:Apart T s.a s.b.length):xCA T [s]:=fun x hx=>by rw [List.mem_singleton.1 hx];exact h
theorem xCA.set {T:Nat→Prop} {l:List bU} {x:bU} {j:Nat} (h:xCA T l) (k:xCA T [x]):xCA T (l.set j x):=fun s hs=>(List.mem_or_eq_of_mem_set hs).elim (h s) (fun e=>by rw [e];exact k x (by simp))
section
variable {P : Program} {t e : TypeId} {w : World} {a : Option Addr} {c : Nat} {l : List bU}
theorem kW_at {j:Nat} (hj:j<l.length):(kW.r l)[j]? = some (.slice (gS l j).a (gS l j).b.length (gS l j).c):=by
  rw [kW_r,List.getElem?_map,List.getElem?_eq_getElem hj]
  unfold gS
  rw [List.getD_eq_getElem?_getD,List.getElem?_eq_getElem hj];rfl
theorem bI.pos (h:bI w a c l) {i:Nat} (hi:i<l.length):Rs w a (kW.r l)∧0<(kW.r l).length:=⟨h.rows,by rw [kW.r_len];omega⟩
theorem bI.idx (ht:P.underlying t=some (.slice e)) (hs:∀ w,(sizeOf e).run P w=.ok 1 w) {m:Nat} {k:IntKind} {z:Int} {j:Nat} (h:bI w a c l) (hm:m=l.length) (hz:z=(j:Int)) (hj:j<l.length) :
    (do pure (Next.value (← Instr.indexAt t (.slice a m c) (.int k z))):Sem Next).run P w=.ok (.value (.pointer (fK a j))) w:=by
  have:=idx_rs (k:=k) (c:=c) ht hs (h.pos hj).1 (h.pos hj).2 hz (by omega:j<m)
  rw [Nat.mul_one] at this;exact this
theorem bI.ld {j:Nat} (ha:∀ w,(isAgg e).run P w=.ok false w) (h:bI w a c l) (hj:j<l.length) :
    (do pure (Next.value (← Instr.loadAt e (.pointer (fK a j)))):Sem Next).run P w=.ok (.value (.slice (gS l j).a (gS l j).b.length (gS l j).c)) w:=ld_rs1 ha h.rows (kW_at hj)
theorem src_rs {sz n:Nat} {vs:List Value} {tx e':TypeId} (hk:P.underlying tx=some (.slice e')) (hr:Rs w a vs) (hl:vs.length=n*sz) (h0:0<sz) (h1:∀ u∈vs,u.oneCell'=true):Src P sz tx (.slice a n c) n vs w:=by
  cases a with
  | none =>
    have h2:vs=[]:=hr.elim id (fun ⟨p,hp,_⟩=>absurd hp (by simp))
    subst h2
    obtain rfl:n=0:=by
      rcases Nat.eq_zero_or_pos n with h | h
      · exact h
      · have:=Nat.mul_pos h h0;simp at hl;omega
    exact Src.ofNil w hk c
  | some p =>
    refine Src.ofSlice w hk p n c vs hl (fun j u hu=>?_) h1
    rcases hr with h2 | ⟨q,hq,hh⟩
    · rw [h2] at hu;simp at hu
    · obtain rfl : p = q := by simpa using hq
      exact hh j u hu
theorem bI.src {tx e':TypeId} (hk:P.underlying tx=some (.slice e')) (h:bI w a c l):Src P 1 tx (.slice a l.length c) l.length (kW.r l) w:=src_rs hk h.rows (kW.r_len l) (by decide) (kW.r_one l)
end
section
variable {P : Program} {ops : Array Oper} {D : List Nat} {l : List (Nat × Value)} {w0 : Base} {h : List (Nat × Obj)} {F0 : World → Prop}
variable {vals : (Nat → bH) → Nat → Value} {effs : (Nat → bH) → Nat → Eff} {fact : (Nat → bH) → Nat → World → Prop}
end
def os (ρ:Nat→bH) (i:Nat):List bU:=(ρ i).s
def qY (ρ:Nat→bH) (i:Nat):List dO:=((ρ i).t.headD default).ks
def oob (ρ:Nat→bH) (i:Nat):Obj:=(ρ i).o.tail.headD (.cells #[] 0 (0,0))
def oo0 (ρ:Nat→bH) (i:Nat):Obj:=(ρ i).o.headD (.cells #[] 0 (0,0))
def rkl (r:bH):List dO:=(r.t.headD default).ks
def wY (w:World) (ks:List dO):Prop:=∀ p∈ks,Is w .u32 p.pa p.pc (nI p.ps)
def NwP (n:Nat) (p:dO):Prop:=∀ a,p.pa=some a→0<(nI p.ps).length→n≤a.block
def NwM (n:Nat) (t:bW):Prop:=mX n t.ka∧∀ p∈t.ks,NwP n p
theorem wY.nil {w:World}:wY w []:=fun _ h=>absurd h (by simp)
theorem wY.app {w:World} {l m:List dO} (h:wY w l) (k:wY w m):wY w (l++m):=fun p hp=>(List.mem_append.1 hp).elim (h p) (k p)
theorem wY.one {w:World} {p:dO} (h:Is w .u32 p.pa p.pc (nI p.ps)):wY w [p]:=fun q hq=>by rw [List.mem_singleton.1 hq];exact h
theorem NwP.le {n m:Nat} {p:dO} (h:NwP n p) (hm:m≤n):NwP m p:=fun a ha h0=>Nat.le_trans hm (h a ha h0)
theorem NwM.le {n m:Nat} {t:bW} (h:NwM n t) (hm:m≤n):NwM m t:=⟨fun p hp=>Nat.le_trans hm (h.1 p hp),fun p hp=>(h.2 p hp).le hm⟩
theorem kV.app {w:World} {l m:List bW} (h:kV w l) (k:kV w m):kV w (l++m):=fun t ht=>(List.mem_append.1 ht).elim (h t) (k t)
theorem kV.one {w:World} {t:bW} (h:oG w t.ka t.kc t.ks):kV w [t]:=fun x hx=>by rw [List.mem_singleton.1 hx];exact h
section
variable {B : Base} {w : World} {h : List (Nat × Obj)} {F : World → Prop} {q : Nat} {o : Obj} {T : Nat → Prop}
theorem St.newX (hS:St B h F w) (k:Nat) (ns:List Nat) (hB:B.ws=ns) (hk:(h.take k).map (·.1)=ns) (hx:(q,o)∈h.drop k):B.w.heap.size≤q∧w.heap[q]? = some o:=by
  have hm:(q,o)∈h:=List.mem_of_mem_drop hx
  refine hS.newb hm (fun h1=>?_)
  rw [hB,← hk] at h1
  have hn:=hS.nodup
  rw [← List.take_append_drop k h,List.map_append,List.nodup_append] at hn
  exact hn.2.2 _ h1 _ (List.mem_map.2 ⟨_,hx,rfl⟩) rfl
theorem pers_q {F:World→Prop} {w0:World} {ws:List Nat} (hS:St ⟨w0,ws⟩ h F w) (hm:(q,o)∈h) (hws:∀ b∈ws,T b) {G:World→Prop} (hY:dL T G w0):dL (fun b=>T b∨b=q) G w :=
  hY.upd (T':=fun b=>T b∨b=q) (X:=fun b=>b∈ws) hS.below hws (fun b hb=>hb.elim Or.inl (fun e=>by
    rcases (hS.at_ _ hm).1 with k | k
    · exact Or.inr (by rw [e];exact k)
    · exact Or.inl (by rw [e];exact hws _ k)))
theorem is_q {F:World→Prop} (hS:St B h F w) (hm:(q,o)∈h) (hT:∀ b,T b→b<B.w.heap.size) {p:dO} (hF:∀ w,F w→Is w .u32 p.pa p.pc (nI p.ps)) (hn:NwP B.w.heap.size p):dL (fun b=>T b∨b=q) (fun w=>Is w .u32 p.pa p.pc (nI p.ps)) w:=by
  have a1:Apart (fun b=>b∈h.map (·.1)) p.pa (nI p.ps).length:=by
    have:=Rs.apart (hS.facts.mono (fun w hw=>(hF w hw).rows))
    rw [zN] at this;exact this
  refine (hF _ hS.facts.now).pers (Apart.or (fun a ha h0 hb=>?_) (a1.sub (fun b hb=>by rw [hb];exact List.mem_map.2 ⟨_,hm,rfl⟩)))
  have:=hn a ha h0
  have:=hT _ hb
  omega
theorem St.mvK {w0:World} {ws:List Nat} {l N:List dO} (hS:St ⟨w0,ws⟩ h F w) (hm:(q,o)∈h) (hws:∀ b∈ws,T b) (hT:∀ b,T b→b<w0.heap.size) (hY:dL T (fun w=>wY w l) w0) (hF:∀ w,F w→wY w N) (hX:∀ p∈N,p∈l∨NwP w0.heap.size p):dL (fun b=>T b∨b=q) (fun w=>wY w N) w :=
  uT (fun p hp=>(hX p hp).elim (fun hl=>(pers_q hS hm hws hY).mono (fun _ h=>h p hl)) (fun hn=>is_q hS hm hT (fun w hw=>hF w hw p hp) hn))
theorem kpf_q {F:World→Prop} (hS:St B h F w) (hm:(q,o)∈h) (hT:∀ b,T b→b<B.w.heap.size) {t:bW} (hF:∀ w,F w→oG w t.ka t.kc t.ks) (hn:NwM B.w.heap.size t):dL (fun b=>T b∨b=q) (fun w=>oG w t.ka t.kc t.ks) w:=by
  have f0:=hF _ hS.facts.now
  have a1:=Rs.apart (hS.facts.mono (fun w hw=>(hF w hw).rows))
  refine oG.mkP f0.le f0.max (f0.rows.pers (Apart.or (fun a ha h0 hb=>?_) (a1.sub (fun b hb=>by rw [hb];exact List.mem_map.2 ⟨_,hm,rfl⟩)))) (fun p hp=>is_q hS hm hT (fun w hw=>(hF w hw).sub p hp) (hn.2 p hp)) f0.ok
  have:=hn.1 a ha
  have:=hT _ hb
  omega
theorem St.mvT {w0:World} {ws:List Nat} {l N:List bW} (hS:St ⟨w0,ws⟩ h F w) (hm:(q,o)∈h) (hws:∀ b∈ws,T b) (hT:∀ b,T b→b<w0.heap.size) (hY:dL T (fun w=>kV w l) w0) (hF:∀ w,F w→kV w N) (hX:∀ t∈N,t∈l∨NwM w0.heap.size t):dL (fun b=>T b∨b=q) (fun w=>kV w N) w :=
  uT (fun p hp=>(hX p hp).elim (fun hl=>(pers_q hS hm hws hY).mono (fun _ h=>h p hl)) (fun hn=>kpf_q hS hm hT (fun w hw=>hF w hw p hp) hn))
theorem St.frozKI {g:Nat} (hS:St B h F w) (k:Nat) {C:Array Value} {e:TypeId} {fr:Nat × Nat} {N:List dO} {c:Nat} (hA:kK.A C N c) (hm:N.length≤1000000) (hok:∀ p∈N,p.Ok) (hF:∀ w,F w→wY w N) (ks':List Nat) {h':List (Nat × Obj)}
    (hk:h[k]? = some (g,.cells C e fr):=by kernel_rfl) (hh:oW ks' (h.eraseIdx k)=h':=by kernel_rfl):St B h' (fun w=>oG w (some ⟨g,0,none⟩) c N∧F w) w:=by
  refine hS.froz k hk ks' hh (fun _ hg hn=>?_)
  have hsub:∀ b,b∈h'.map (·.1)→b∈h.map (·.1):=fun b hb=>((((hh ▸ xBJ ks' _:List.Sublist h' (h.eraseIdx k)).trans (List.eraseIdx_sublist h k)).map _).subset hb)
  have hrow:Rs w (some ⟨g,0,none⟩) (kpR N):=by rw [← kK_r];exact Rs.of_av hg hA
  exact oG.mkP hA.le hm (hrow.pers (fun p hp _ hx=>by
      obtain rfl:(⟨g,0,none⟩:Addr)=p:=by simpa using hp
      exact hn hx)) (fun p hp=>(hS.facts.sub hsub).mono (fun w hw=>hF w hw p hp)) hok
theorem St.frozK0 (hS:St B h F w) (ks:List Nat) {h':List (Nat × Obj)} (hh:oW ks h=h':=by kernel_rfl):St B h' (fun w=>oG w none 0 []∧F w) w :=
  (hS.sub (hh ▸ xBJ ks h:List.Sublist h' h)).weaken (fun _ hF=>⟨oG.nil,hF⟩)
end
theorem src_k1 {P:Program} {w:World} {g:Nat} {p:dO} {T tx e':TypeId} {fr:Nat × Nat} (hk:P.underlying tx=some (.slice e')) (hb:w.heap[g]? = some (.cells p.row T fr)):Src P 45 tx (.slice (some ⟨g,0,none⟩) 1 1) [p].length (kK.r [p]) w:=by
  have e:kK.r [p]=p.row.toList:=by rw [kK_r];simp [kpR]
  rw [e]
  exact nX hk (by rw [Array.toArray_toList];exact hb) (by rw [p.row_len]) (List.all_eq_true.2 (kp_one p))
theorem Knows.cons {x:Nat} {o:Obj} {K:List (Nat × Obj)} {w:World} (h:w.heap[x]? = some o) (k:Knows K w):Knows ((x,o)::K) w:=fun y hy=>(List.mem_cons.1 hy).elim (fun e=>by rw [e];exact h) (k y)
theorem inC {T:Nat→Prop} {x:Nat} {o:Obj} {K:List (Nat × Obj)} (h:T x) (k:∀ y∈K,T y.1):∀ y∈(x,o)::K,T y.1:=fun y hy=>(List.mem_cons.1 hy).elim (fun e=>by rw [e];exact h) (k y)
theorem wsT {T:Nat→Prop} {K:List (Nat × Obj)} (k:∀ y∈K,T y.1):∀ b∈K.map (·.1),T b:=fun b hb=>by
  obtain ⟨y,hy,rfl⟩:=List.mem_map.1 hb
  exact k y hy
theorem updC {x:Nat} {o:Obj} {K:List (Nat × Obj)} {w w':World} (h:nN (fun b=>b∈((x,o)::K).map (·.1)) w w'):nN (fun b=>b=x∨b∈K.map (·.1)) w w':=⟨h.os,h.tape,h.output,h.size,fun k hk hX=>h.block k hk (fun hm=>hX (List.mem_cons.1 hm))⟩
theorem St.movX {w0 w:World} {q q':Nat} {ws:List Nat} {o:Obj} {r:List (Nat × Obj)} {F:World→Prop} (hS:St ⟨w0,q::ws⟩ ((q',o)::r) F w) (ns:List Nat) (hw:ws=ns) (hr:(r.take ns.length).map (·.1)=ns):q'=q∨w0.heap.size≤q':=by
  rcases (hS.at_ _ List.mem_cons_self).1 with k | k
  · exact Or.inr k
  · rcases List.mem_cons.1 k with e | e
    · exact Or.inl e
    · have hn := hS.nodup
      rw [List.map_cons,List.nodup_cons] at hn
      refine absurd ?_ hn.1
      rw [hw,← hr] at e
      obtain ⟨y,hy,he⟩:=List.mem_map.1 e
      exact List.mem_map.2 ⟨y,List.mem_of_mem_take hy,he⟩
theorem neT {w:World} {g b:Nat} {C C':Array Value} {T T':TypeId} {fr fr':Nat × Nat} (h:w.heap[g]? = some (.cells C T fr)) (k:w.heap[b]? = some (.cells C' T' fr')) (hT:(T==T')=false):g≠b:=fun e=>by
  rw [e,k] at h
  simp only [Option.some.injEq,Obj.cells.injEq] at h
  rw [h.2.1] at hT
  simp at hT
theorem nd2 {w:World} {g b:Nat} {C C':Array Value} {T T':TypeId} {fr fr':Nat × Nat} (hK:Knows [(g,.cells C T fr),(b,.cells C' T' fr')] w) (hT:(T==T')=false):([g,b]:List Nat).Nodup:=by
  have:=neT (hK _ (.head _)) (hK _ (.tail _ (.head _))) hT
  simp [this]
theorem nd3 {w:World} {q g b:Nat} {C C' E:Array Value} {T T' U:TypeId} {fr fr' fs:Nat × Nat} (hK:Knows [(q,.cells E U fs),(g,.cells C T fr),(b,.cells C' T' fr')] w) (h1:(U==T)=false) (h2:(U==T')=false) (hT:(T==T')=false):([q,g,b]:List Nat).Nodup:=by
  have a:=neT (hK _ (.head _)) (hK _ (.tail _ (.head _))) h1
  have b:=neT (hK _ (.head _)) (hK _ (.tail _ (.tail _ (.head _)))) h2
  have c:=neT (hK _ (.tail _ (.head _))) (hK _ (.tail _ (.tail _ (.head _)))) hT
  simp [a,b,c]
theorem xAL (L:List UInt8) {a:Option Addr} {c:Nat}:(dO.mk (lQ L) (jC L).s (jC L).w a c).Ok:=⟨rpK_ok L,rpK_d L,(wV L).1⟩
theorem zA {N a:List dO} (h:N.map dO.er=a) (ha:∀ p∈a,p.Ok):∀ p∈N,p.Ok:=fun p hp=>by
  have h1:p.er∈a:=h ▸ List.mem_map_of_mem hp
  have h2:=ha _ h1
  exact ⟨h2.k,h2.d,h2.ps⟩
theorem oJ {α:Type} {f:α→α} {N a:List α} (h:N.map f=a):N.length=a.length:=by rw [← h,List.length_map]
section
variable {k : Int} {L : List UInt8}
theorem hd_1 (h:k=1):vJ k L=⟨(jC L).o,tz k 0 0 0 [rpA L],(jC L).l⟩:=by unfold vJ;rw [if_pos h]
theorem hd_m0 (h:k=2) (h1:numO L=false):(vJ k L).o=false:=by unfold vJ;rw [if_neg (by omega),if_pos h,if_pos h1]
theorem hd_m1 (h:k=2) (h1:numO L=true) (h2:Lib.hasPrefix (eP L) [44]=false):(vJ k L).o=false:=by
  unfold vJ;rw [if_neg (by omega),if_pos h,if_neg (by rw [h1];decide),if_pos h2]
theorem hd_n0 (h:k=3∨k=4) (h1:numO L=false):(vJ k L).o=false:=by unfold vJ;rw [if_neg (by omega),if_neg (by omega),if_pos h,if_pos h1]
theorem hd_n (h:k=3∨k=4) (h1:numO L=true):vJ k L=⟨Lib.hasPrefix (eP L) [44],tz k 0 (bT L) 0 [],Lib.trimPrefix (eP L) [44]⟩:=by unfold vJ;rw [if_neg (by omega),if_neg (by omega),if_pos h,if_neg (by rw [h1];decide)]
theorem hd_n1 (h:k=3∨k=4) (h1:numO L=true) (h2:Lib.hasPrefix (eP L) [44]=false):(vJ k L).o=false:=by rw [hd_n h h1];exact h2
theorem hd_n2 (h:k=3∨k=4) (h1:numO L=true) (h2:Lib.hasPrefix (eP L) [44]=true):vJ k L=⟨true,tz k 0 (bT L) 0 [],Lib.trimPrefix (eP L) [44]⟩:=by rw [hd_n h h1,h2]
theorem hd_h0 (h:k=5) (h1:rbO 32 L=false):(vJ k L).o=false:=by unfold vJ;rw [if_neg (by omega),if_neg (by omega),if_neg (by omega),if_pos h,if_pos h1]
theorem hd_h (h:k=5) (h1:rbO 32 L=true):vJ k L=⟨Lib.hasPrefix (qV 32 L) [44],tz k 0 0 (nB ((fO 32 L).take 32)) [],Lib.trimPrefix (qV 32 L) [44]⟩:=by unfold vJ;rw [if_neg (by omega),if_neg (by omega),if_neg (by omega),if_pos h,if_neg (by rw [h1];decide)]
theorem hd_h1 (h:k=5) (h1:rbO 32 L=true) (h2:Lib.hasPrefix (qV 32 L) [44]=false):(vJ k L).o=false:=by rw [hd_h h h1];exact h2
theorem hd_h2 (h:k=5) (h1:rbO 32 L=true) (h2:Lib.hasPrefix (qV 32 L) [44]=true):vJ k L=⟨true,tz k 0 0 (nB ((fO 32 L).take 32)) [],Lib.trimPrefix (qV 32 L) [44]⟩:=by rw [hd_h h h1,h2]
theorem hd_6 (h:k=6):vJ k L=⟨true,tz k 0 0 0 [],L⟩:=by unfold vJ;rw [if_neg (by omega),if_neg (by omega),if_neg (by omega),if_neg (by omega)]
end
structure KsS (H:Rhd) (k:Int) (v:Nat) (f:Nat) (N:List dO) (X:List UInt8) (ok:Bool):Prop where
  t:ok=true→X.length<f∧H=(fun y:Rks=>⟨y.o,tz k v 0 0 y.ks,y.l⟩) (ksR f (N.map dO.er) X)
  f:ok=false→H.o=false
section
variable {k : Int} {L X : List UInt8} {N N' : List dO} {H : Rhd} {v f : Nat} {ok : Bool}
theorem ks_start (h:k=2) (h1:numO L=true) (h2:Lib.hasPrefix (eP L) [44]=true) (hN:N.map dO.er=[rpA (Lib.trimPrefix (eP L) [44])]):KsS (vJ k L) k (bT L) ((jC (Lib.trimPrefix (eP L) [44])).l.length+1) N (jC (Lib.trimPrefix (eP L) [44])).l (jC (Lib.trimPrefix (eP L) [44])).o:=by
  refine ⟨fun ho=>⟨Nat.lt_succ_self _,?_⟩,fun ho=>?_⟩
  · unfold vJ;rw [if_neg (by omega),if_pos h,if_neg (by rw [h1];decide),if_neg (by rw [h2];decide),if_neg (by rw [ho];decide),hN]
  · unfold vJ;rw [if_neg (by omega),if_pos h,if_neg (by rw [h1];decide),if_neg (by rw [h2];decide),if_pos ho]
theorem ks_next (h:KsS H k v f N X ok) (ho:ok=true) (h1:Lib.hasPrefix X [44]=true) (hN:N'.map dO.er=N.map dO.er++[rpA (Lib.trimPrefix X [44])]):KsS H k v (f-1) N' (jC (Lib.trimPrefix X [44])).l (jC (Lib.trimPrefix X [44])).o:=by
  obtain ⟨hf,hH⟩:=h.t ho
  have q1:=tZ h1
  have q2:=(wV (Lib.trimPrefix X [44])).2
  cases f with
  | zero=>omega
  | succ f =>
    rw [ksR,if_neg (by rw [h1];decide)] at hH
    refine ⟨fun ho=>⟨by simp only [List.length_nil] at q1;omega,?_⟩,fun ho=>?_⟩
    · rw [if_neg (by rw [ho]; decide)] at hH
      rw [hN];exact hH
    · rw [if_pos ho] at hH
      rw [hH]
theorem ks_lt (h1:Lib.hasPrefix X [44]=true):(jC (Lib.trimPrefix X [44])).l.length<X.length:=by
  have q1:=tZ h1
  have q2:=(wV (Lib.trimPrefix X [44])).2
  omega
theorem ks_end (h:KsS H k v f N X ok) (ho:ok=true) (h1:Lib.hasPrefix X [44]=false):H=⟨true,tz k v 0 0 (N.map dO.er),X⟩:=by
  obtain ⟨hf,hH⟩:=h.t ho
  cases f with
  | zero=>omega
  | succ f=>rw [ksR,if_pos h1] at hH;exact hH
end
theorem rcl_1 {x:Rtm} (h:x.o=true) (h1:Lib.hasPrefix x.l [41]=true):rcl x=⟨true,x.ts,Lib.trimPrefix x.l [41]⟩:=by unfold rcl;rw [if_neg (by rw [h];decide),h1]
theorem rcl_0 {x:Rtm} (h1:Lib.hasPrefix x.l [41]=false):(rcl x).o=false:=by
  unfold rcl;split
  · assumption
  · exact h1
theorem rcl_f {x:Rtm} (h:x.o=false):(rcl x).o=false:=by unfold rcl;rw [if_pos h];exact h
section
variable {f : Nat} {a Nm : List bW} {t : bW} {L X : List UInt8}
theorem tm_0 (h:(fD L==0)=true):(gW (f+1) a L).o=false:=by unfold gW;rw [if_pos (beq_iff_eq.1 h)]
theorem tm_8 (h:a.length=8):(gW (f+1) a L).o=false:=by
  unfold gW;split
  · rfl
  · first | rfl | rw [if_pos h]
theorem tm_h (h:(vJ (fD L) (bQ L)).o=false):(gW (f+1) a L).o=false:=by
  unfold gW;split
  · rfl
  split
  · rfl
  · simp only [h,if_pos]
theorem tm_kd (h0:(fD L==0)=false):fD L=1∨fD L=2∨fD L=3∨fD L=4∨fD L=5∨fD L=6:=by
  have e:fD L≠0:=fun q=>by rw [q] at h0;exact absurd h0 (by decide)
  have:=jX L
  omega
variable (h0 : (fD L == 0) = false) (h8 : a.length ≠ 8) (hx : vJ (fD L) (bQ L) = ⟨true, t, X⟩)
include h0 h8 hx
theorem tm_go : gW (f + 1) a L = if fD L = 1 ∨ fD L = 2 then rcl ⟨true, a ++ [t], X⟩ else
      if fD L=6 then
        (fun y:Rtm=>if y.o=false then y else if Lib.hasPrefix y.l [44]=false then ⟨false,y.ts,y.l⟩ else rcl (gW f y.ts (Lib.trimPrefix y.l [44]))) (gW f (a++[t]) X)
      else rcl (gW f (a++[t]) X):=by
  have e:fD L≠0:=fun q=>by rw [q] at h0;exact absurd h0 (by decide)
  conv=>lhs;unfold gW
  rw [if_neg e,if_neg h8,hx]
  simp only [Bool.true_eq_false,if_false]
theorem tm_c0 (hk:decide (0<nO (fD L))=false):gW (f+1) a L=rcl ⟨true,a++[t],X⟩:=by
  rw [tm_go h0 h8 hx]
  rcases tm_kd h0 with e | e | e | e | e | e
  · rw [if_pos (Or.inl e)]
  · rw [if_pos (Or.inr e)]
  all_goals exact absurd hk (by rw [e];decide)
theorem tm_c1 (hk:decide (0<nO (fD L))=true) (hk2:decide (1<nO (fD L))=false):gW (f+1) a L=rcl (gW f (a++[t]) X):=by
  rw [tm_go h0 h8 hx]
  rcases tm_kd h0 with e | e | e | e | e | e
  · exact absurd hk (by rw [e];decide)
  · exact absurd hk (by rw [e];decide)
  · rw [if_neg (by omega),if_neg (by omega)]
  · rw [if_neg (by omega),if_neg (by omega)]
  · rw [if_neg (by omega),if_neg (by omega)]
  · exact absurd hk2 (by rw [e];decide)
theorem tm_c2 (hk2:decide (1<nO (fD L))=true):gW (f+1) a L=(fun y:Rtm=>if y.o=false then y else if Lib.hasPrefix y.l [44]=false then ⟨false,y.ts,y.l⟩ else rcl (gW f y.ts (Lib.trimPrefix y.l [44]))) (gW f (a++[t]) X):=by
  rw [tm_go h0 h8 hx]
  rcases tm_kd h0 with e | e | e | e | e | e
  · exact absurd hk2 (by rw [e];decide)
  · exact absurd hk2 (by rw [e];decide)
  · exact absurd hk2 (by rw [e];decide)
  · exact absurd hk2 (by rw [e];decide)
  · exact absurd hk2 (by rw [e];decide)
  · rw [if_neg (by omega),if_pos e]
theorem tm_E1 (hk:decide (0<nO (fD L))=false) (hc:Lib.hasPrefix X [41]=true):gW (f+1) a L=⟨true,a++[t],Lib.trimPrefix X [41]⟩:=by rw [tm_c0 h0 h8 hx hk,rcl_1 rfl hc]
theorem tm_F1 (hk:decide (0<nO (fD L))=false) (hc:Lib.hasPrefix X [41]=false):(gW (f+1) a L).o=false:=by rw [tm_c0 h0 h8 hx hk,rcl_0 hc]
theorem tm_Fy (hk:decide (0<nO (fD L))=true) (hy:(gW f (a++[t]) X).o=false):(gW (f+1) a L).o=false:=by
  cases h:decide (1<nO (fD L)) with
  | false=>rw [tm_c1 h0 h8 hx hk h,rcl_f hy]
  | true=>rw [tm_c2 h0 h8 hx h];simp only [hy,if_pos]
theorem tm_E2 (hk:decide (0<nO (fD L))=true) (hk2:decide (1<nO (fD L))=false) (hy:(gW f (a++[t]) X).o=true) (hc:Lib.hasPrefix (gW f (a++[t]) X).l [41]=true):gW (f+1) a L=⟨true,(gW f (a++[t]) X).ts,Lib.trimPrefix (gW f (a++[t]) X).l [41]⟩:=by rw [tm_c1 h0 h8 hx hk hk2,rcl_1 hy hc]
theorem tm_F2 (hk:decide (0<nO (fD L))=true) (hk2:decide (1<nO (fD L))=false) (hc:Lib.hasPrefix (gW f (a++[t]) X).l [41]=false):(gW (f+1) a L).o=false:=by rw [tm_c1 h0 h8 hx hk hk2,rcl_0 hc]
theorem tm_F3 (hk2:decide (1<nO (fD L))=true) (hc:Lib.hasPrefix (gW f (a++[t]) X).l [44]=false):(gW (f+1) a L).o=false:=by
  rw [tm_c2 h0 h8 hx hk2]
  cases h:(gW f (a++[t]) X).o<;>simp [h,hc]
theorem tm_c3 (hk2:decide (1<nO (fD L))=true) (hy:(gW f (a++[t]) X).o=true) (hc:Lib.hasPrefix (gW f (a++[t]) X).l [44]=true) (hN:Nm=(gW f (a++[t]) X).ts):gW (f+1) a L=rcl (gW f Nm (Lib.trimPrefix (gW f (a++[t]) X).l [44])):=by
  rw [tm_c2 h0 h8 hx hk2,hN]
  simp only [hy,hc,Bool.true_eq_false,if_false]
theorem tm_E4 (hk2:decide (1<nO (fD L))=true) (hy:(gW f (a++[t]) X).o=true) (hc:Lib.hasPrefix (gW f (a++[t]) X).l [44]=true) (hN:Nm=(gW f (a++[t]) X).ts) (hz:(gW f Nm (Lib.trimPrefix (gW f (a++[t]) X).l [44])).o=true) (he:Lib.hasPrefix (gW f Nm (Lib.trimPrefix (gW f (a++[t]) X).l [44])).l [41]=true) :
    gW (f+1) a L=⟨true,(gW f Nm (Lib.trimPrefix (gW f (a++[t]) X).l [44])).ts,Lib.trimPrefix (gW f Nm (Lib.trimPrefix (gW f (a++[t]) X).l [44])).l [41]⟩:=by rw [tm_c3 h0 h8 hx hk2 hy hc hN,rcl_1 hz he]
theorem tm_Fz (hk2:decide (1<nO (fD L))=true) (hy:(gW f (a++[t]) X).o=true) (hc:Lib.hasPrefix (gW f (a++[t]) X).l [44]=true) (hN:Nm=(gW f (a++[t]) X).ts) (hz:(gW f Nm (Lib.trimPrefix (gW f (a++[t]) X).l [44])).o=false):(gW (f+1) a L).o=false:=by rw [tm_c3 h0 h8 hx hk2 hy hc hN,rcl_f hz]
theorem tm_F4 (hk2:decide (1<nO (fD L))=true) (hy:(gW f (a++[t]) X).o=true) (hc:Lib.hasPrefix (gW f (a++[t]) X).l [44]=true) (hN:Nm=(gW f (a++[t]) X).ts) (he:Lib.hasPrefix (gW f Nm (Lib.trimPrefix (gW f (a++[t]) X).l [44])).l [41]=false):(gW (f+1) a L).o=false:=by rw [tm_c3 h0 h8 hx hk2 hy hc hN,rcl_0 he]
end
theorem ksR_len:∀ (f:Nat) (a:List dO) (L:List UInt8),(ksR f a L).l.length≤L.length
  | 0,_,_=>Nat.le_refl _
  | f + 1, a, L => by
    have q1:=gX L [44]
    have q2:=(wV (Lib.trimPrefix L [44])).2
    unfold ksR;split
    · exact Nat.le_refl _
    split
    · show (jC (Lib.trimPrefix L [44])).l.length≤_;omega
    · have := ksR_len f (a ++ [rpA (Lib.trimPrefix L [44])]) (jC (Lib.trimPrefix L [44])).l
      omega
theorem hdR_len (k:Int) (L:List UInt8):(vJ k L).l.length≤L.length:=by
  have q0:=(wV L).2
  have q1:=kE L
  have q2:=gX (eP L) [44]
  have q3:=(wV (Lib.trimPrefix (eP L) [44])).2
  have q4:=vC 32 L
  have q5:=gX (qV 32 L) [44]
  have q6:=ksR_len ((jC (Lib.trimPrefix (eP L) [44])).l.length+1) [rpA (Lib.trimPrefix (eP L) [44])] (jC (Lib.trimPrefix (eP L) [44])).l
  unfold vJ
  repeat' split
  all_goals (first | omega | (simp only [];omega))
theorem y8 (x:Rtm):(rcl x).l.length≤x.l.length∧(rcl x).ts=x.ts:=by
  unfold rcl;split
  · exact ⟨Nat.le_refl _,rfl⟩
  · exact ⟨gX _ _,rfl⟩
theorem qO : ∀ (f : Nat) (a : List bW) (L : List UInt8), a.length ≤ 8 → a.length ≤ (gW f a L).ts.length ∧ (gW f a L).ts.length ≤ 8 ∧ (gW f a L).l.length ≤ L.length
  | 0,a,L,h=>⟨Nat.le_refl _,h,Nat.le_refl _⟩
  | f + 1, a, L, h => by
    unfold gW
    split
    · exact ⟨Nat.le_refl _,h,Nat.le_refl _⟩
    have q0:=iQ L
    split
    · exact ⟨Nat.le_refl _,h,q0⟩
    rename_i h8
    have q1:=hdR_len (fD L) (bQ L)
    generalize vJ (fD L) (bQ L)=x at q1
    have l1:(a++[x.t]).length=a.length+1:=by rw [List.length_append];rfl
    have ih:=qO f (a++[x.t]) x.l (by omega)
    simp only []
    split
    · exact ⟨Nat.le_refl _,h,by show x.l.length≤_;omega⟩
    split
    · have r := y8 ⟨true, a ++ [x.t], x.l⟩
      rw [r.2]
      have:=r.1
      exact ⟨by show _≤(a++[x.t]).length;omega,by show (a++[x.t]).length≤_;omega,by simp only [] at this;omega⟩
    split
    · generalize gW f (a ++ [x.t]) x.l = y at ih
      split
      · exact ⟨by omega,ih.2.1,by omega⟩
      split
      · exact ⟨by show _≤y.ts.length;omega,ih.2.1,by show y.l.length≤_;omega⟩
      · have q3 := gX y.l [44]
        have ih2:=qO f y.ts (Lib.trimPrefix y.l [44]) ih.2.1
        have r:=y8 (gW f y.ts (Lib.trimPrefix y.l [44]))
        rw [r.2]
        exact ⟨by omega,ih2.2.1,by omega⟩
    · have r := y8 (gW f (a ++ [x.t]) x.l)
      rw [r.2]
      exact ⟨by omega,ih.2.1,by omega⟩
theorem yer {H:Rhd} {k m:Int} {nu h:Nat} {N ks:List dO} {X:List UInt8} {a:Option Addr} {c:Nat} (he:N.map dO.er=ks) (hH:H=⟨true,tz k m nu h ks,X⟩):H=⟨true,(bW.mk k m nu h N a c).er,X⟩:=by rw [hH,← he];rfl
theorem yok {k m:Int} {nu h:Nat} {N:List dO} {a:Option Addr} {c:Nat} (hk:0≤k∧k≤6) (hm:0≤m∧m<4294967296) (hn:nu<4294967296) (hh:h<M):(bW.mk k m nu h N a c).Ok:=⟨by show rng k;unfold rng;omega,by show rng m;unfold rng;omega,hn,hh⟩
theorem okK_era {N:List dO} (h:∀ p∈N,p.Ok):∀ p∈N.map dO.er,p.Ok:=fun p hp=>by
  obtain ⟨q,hq,rfl⟩:=List.mem_map.1 hp
  exact ⟨(h q hq).k,(h q hq).d,(h q hq).ps⟩
theorem n8A {ts A:List bW} (h:ts.map bW.er=A) (h8:(((ts.length:Nat):Int)==8)=false):A.length≠8:=fun e=>by
  have:=oJ h
  rw [show ts.length=8 by omega] at h8
  exact absurd h8 (by decide)
theorem n8B {ts A:List bW} (h:ts.map bW.er=A) (h8:(((ts.length:Nat):Int)==8)=true):A.length=8:=by
  have:=oJ h
  have:=beq_iff_eq.1 h8
  omega
theorem n8I {n:Nat} (h8:(((n:Nat):Int)==8)=false):n≠8:=fun e=>by rw [e] at h8;exact absurd h8 (by decide)
theorem rb32 {L:List UInt8} (h:rbO 32 L=true):32≤(fO 32 L).length:=by
  unfold rbO at h
  split at h
  · rename_i h1
    have e:=(rb_t (n:=32) h1).1
    have e0:=beq_iff_eq.1 h
    rw [e]
    unfold uhE at e0
    unfold uhX
    unfold uhR at e0 ⊢
    have hl:(L.take (2*32)).length=64:=by rw [List.length_take];omega
    split at e0
    · exact absurd e0 (by decide)
    split at e0
    · exact absurd e0 (by decide)
    split at e0
    · rename_i q1 q2 q3
      rw [if_neg q1,if_neg q2,if_pos q3]
      show 32≤(uhP _ _).length
      rw [uhP_length,hl]
      exact (by decide:32≤64 / 2)
    · exact absurd e0 (by decide)
  · exact absurd h (by decide)
theorem rb0 {L:List UInt8} (h:rbO 32 L=false):fO 32 L=[]:=by
  unfold rbO at h
  split at h
  · rename_i h1
    have e:=(rb_t (n:=32) h1).1
    rw [e]
    unfold uhE at h
    unfold uhX
    unfold uhR at h ⊢
    split
    · rfl
    split
    · rfl
    split
    · rename_i q1 q2 q3
      rw [if_neg q1,if_neg q2,if_pos q3] at h
      exact absurd h (by show ¬ ((0:Int)==0)=false;decide)
    · rfl
  · rename_i h1
    exact (rb_f h1).1
theorem er_snoc {ts A:List bW} {y:bW} (h:ts.map bW.er=A):(ts++[y]).map bW.er=A++[y.er]:=by rw [List.map_append,h];rfl
theorem lX {n:Nat} {k m:Int} {nu h:Nat}:NwM n (bW.mk k m nu h [] none 0):=⟨mX.none,fun _ hp=>absurd hp (by simp)⟩
theorem zC {n n0:Nat} {ts l:List bW} {y:bW} (h:∀ t∈l,t∈ts∨NwM n t) (hy:NwM n y) (hn:n0≤n):∀ t∈l++[y],t∈ts∨NwM n0 t:=fun t ht=>(List.mem_append.1 ht).elim (fun k=>(h t k).imp id (fun k=>k.le hn)) (fun k=>by rw [List.mem_singleton.1 k];exact Or.inr (hy.le hn))
theorem nw_z {n n0:Nat} {l:List bW} (h:∀ t∈l,t∈([]:List bW)∨NwM n t) (hn:n0≤n):∀ t∈l,NwM n0 t:=fun t ht=>(h t ht).elim (fun q=>absurd q (by simp)) (fun q=>q.le hn)
theorem vP {n:Nat} {ts:List bW}:∀ t∈ts,t∈ts∨NwM n t:=fun _ h=>Or.inl h
theorem pI {n n0:Nat} {ts l m:List bW} (h:∀ t∈m,t∈l∨NwM n t) (k:∀ t∈l,t∈ts∨NwM n t) (hn:n0≤n):∀ t∈m,t∈ts∨NwM n0 t:=fun t ht=>(h t ht).elim (fun q=>(k t q).imp id (fun q=>q.le hn)) (fun q=>Or.inr (q.le hn))
section
variable {P : Program} {t e : TypeId}
theorem zF {w : World} {ty tx : TypeId} (ht : P.underlying t = some (.slice e)) (hi : lJ P e) {g o n c : Nat} {C : Array Value} {T : TypeId} {a : Option Addr} {m d : Nat} {xs : List UInt8} (hg : w.heap[g]? = some (.cells C T (0, 0)))
    (hb:Bs w a d xs) (hm:m=xs.length) (hn:o+n≤C.size) :
    ∃ w',(do pure (Next.value (← Builtin.copy_ #[t,tx] ty #[.slice (some ⟨g,o,none⟩) n c,.slice a m d])):Sem Next).run P w=.ok (.value (goInt (Nat.min xs.length n))) w'∧Wrote w w' g (.cells (inpl C o (bs (xs.take n))) T (0,0)):=by
  subst hm
  obtain ⟨i,h1,h2,h3,h4⟩:=hi
  refine ⟨_,?_,zK hg⟩
  have hlen:(bs (xs.take n)).length=Nat.min xs.length n:=by rw [dH,List.length_take];exact Nat.min_comm _ _
  have hst:=run_storeCells_at P g o T (bs (xs.take n)) 0 C w hg (by rw [dH,List.length_take];omega) (x9 _)
  simp only [Nat.add_zero] at hst
  have hfc:(Builtin.firstCells 1 (Nat.min xs.length n) (.slice a xs.length d)).run P w=.ok (bs (xs.take n)).toArray w:=by
    cases a with
    | none =>
      have h0:xs=[]:=by
        rcases hb.rows with h0 | ⟨p,hp,_⟩
        · exact List.map_eq_nil_iff.1 h0
        · exact absurd hp (by simp)
      subst h0
      simp [Builtin.firstCells,bs]
    | some p =>
      refine run_firstCells_some w 1 _ p _ d (bs (xs.take n)) (by rw [hlen,Nat.mul_one]) (fun j v hv=>?_)
      rcases hb.rows with h0 | ⟨p',hp,hh⟩
      · have h0' : xs = [] := List.map_eq_nil_iff.1 h0
        subst h0'
        simp [bs] at hv
      · obtain rfl : p = p' := by simpa using hp
        apply hh j v
        unfold bs at hv ⊢
        rw [List.map_take,List.getElem?_take] at hv
        split at hv
        · exact hv
        · exact absurd hv (by simp)
  have hrun:(Builtin.copy_ #[t,tx] ty #[.slice (some ⟨g,o,none⟩) n c,.slice a xs.length d]).run P w=.ok (goInt (Nat.min xs.length n)) (w.setRow g (inpl C o (bs (xs.take n)))):=by
    unfold inpl
    simp [Builtin.copy_,run_underlying ht,Builtin.lenOf,sizeOf,typeInfo,h1,h2,hfc,hst]
  rw [Sem.run_bind,hrun]
  rfl
end
theorem xBH (kd m nu:Int) (h:Nat) (x:Value):(iC kd m nu h x).size=36:=by simp [iC,yV]
theorem copy_tm (kd m nu:Int) (h:Nat) (x:Value) {xs:List UInt8} (hx:32≤xs.length):inpl (iC kd m nu h x) 3 (bs (xs.take 32))=iC kd m nu (nB (xs.take 32)) x:=by
  have hl:(xs.take 32).length=32:=by rw [List.length_take];omega
  unfold inpl iC
  rw [← hB_nB hl,dH,hl]
  apply Array.ext'
  simp only [Array.toList_append]
  have e1:∀ A B:List Value,A.length=3→(A++B).take 3=A:=fun A B h=>List.take_left' h
  have e2:∀ A B E:List Value,A.length=3→B.length=32→(A++(B++E)).drop (3+32)=E:=fun A B E h k=>by rw [← List.append_assoc];exact List.drop_left' (by rw [List.length_append,h,k])
  rw [List.append_assoc,List.append_assoc,List.append_assoc,e1 _ _ rfl,e2 _ _ _ rfl (by rw [Array.length_toList,yV])]
theorem copy_tm0 (kd m nu:Int) (h:Nat) (x:Value) {xs:List UInt8} (hx:xs=[]):inpl (iC kd m nu h x) 3 (bs (xs.take 32))=iC kd m nu h x:=by
  subst hx
  unfold inpl
  apply Array.ext'
  simp [bs]
def xU:List UInt8:=[108,105,103,104,116,99,108,105,101,110,116,47,100,101,115,99,114,105,112,116,111,114]
theorem sum_8 (d:Nat):((((l7 ((hL d).take 4)).length:Nat):Int)==8)=true:=by
  have h:(l7 ((hL d).take 4)).length=8:=by rw [eG,List.length_take,aO];rfl
  rw [h];rfl
theorem ksT_er (ks:List dO):xM (ks.map dO.er)=xM ks:=by
  unfold xM
  rw [List.flatMap_map];rfl
theorem fw_er (t:bW):t.er.fw=t.fw:=by
  unfold bW.fw
  have e:FwP t.er=FwP t:=by unfold FwP bW.er;simp only [List.length_map]
  simp only [e]
theorem key_er (t:bW):nK (gK t.er.ks 0)=nK (gK t.ks 0):=by
  cases h:t.ks with
  | nil=>show nK (gK (t.ks.map dO.er) 0)=_;rw [h];rfl
  | cons p r=>show nK (gK (t.ks.map dO.er) 0)=_;rw [h];rfl
theorem mul_er (t:bW):nY t.er.m t.er.ks=nY t.m t.ks:=by
  unfold nY
  show _++xM (t.ks.map dO.er)++_=_
  rw [ksT_er];rfl
theorem er_head {ts us:List bW} (h:ts.map bW.er=us.map bW.er):(gT ts 0).er=(gT us 0).er:=by
  cases ts with
  | nil => cases us with
    | nil=>rfl
    | cons u r=>simp at h
  | cons t r => cases us with
    | nil=>simp at h
    | cons u r'=>rw [List.map_cons,List.map_cons] at h;injection h
theorem tY {ts us:List bW} (h:ts.map bW.er=us.map bW.er):ts.length=us.length:=by have:=congrArg List.length h;rwa [List.length_map,List.length_map] at this
section
variable {X Y : List bW} (he : X.map bW.er = Y.map bW.er)
include he
theorem er_get (i:Nat):(gT X i).er=(gT Y i).er:=by
  have g:∀ m:List bW,(gT m i).er=(m.map bW.er).getD i (default:bW).er:=fun m=>by
    unfold gT
    rw [List.getD_eq_getElem?_getD,List.getD_eq_getElem?_getD,List.getElem?_map]
    cases m[i]? <;> rfl
  rw [g,g,he]
theorem er_f (i:Nat):(gT X i).kd=(gT Y i).kd∧(gT X i).m=(gT Y i).m∧(gT X i).nu=(gT Y i).nu∧(gT X i).h=(gT Y i).h∧(gT X i).ks.map dO.er=(gT Y i).ks.map dO.er:=by
  have h:=er_get he i
  unfold bW.er at h
  simp only [bW.mk.injEq] at h
  exact ⟨h.1,h.2.1,h.2.2.1,h.2.2.2.1,h.2.2.2.2.1⟩
theorem er_kl (i:Nat):(gT X i).ks.length=(gT Y i).ks.length:=by simpa using congrArg List.length (er_f he i).2.2.2.2
theorem er_k (i j:Nat):(gK (gT X i).ks j).k=(gK (gT Y i).ks j).k∧(gK (gT X i).ks j).ps=(gK (gT Y i).ks j).ps∧(gK (gT X i).ks j).wd=(gK (gT Y i).ks j).wd:=by
  have hk:=(er_f he i).2.2.2.2
  have g:∀ m:List dO,(gK m j).er=(m.map dO.er).getD j (default:dO).er:=fun m=>by
    unfold gK
    rw [List.getD_eq_getElem?_getD,List.getD_eq_getElem?_getD,List.getElem?_map]
    cases m[j]? <;> rfl
  have h:(gK (gT X i).ks j).er=(gK (gT Y i).ks j).er:=by rw [g,g,hk]
  unfold dO.er at h
  simp only [dO.mk.injEq] at h
  exact ⟨h.1,h.2.1,h.2.2.1⟩
end
theorem bx_simE:∀ (f:Nat) (s t:Tq),s.ts.map bW.er=t.ts.map bW.er→(bx f s=none∧bx f t=none)∨∃ b s' t',bx f s=some (b,s')∧bx f t=some (b,t')∧s'.ts.map bW.er=t'.ts.map bW.er
  | 0,_,_,_=>Or.inl ⟨rfl,rfl⟩
  | f + 1, s, t, h => by
    have hg:s.go.ts.map bW.er=t.go.ts.map bW.er:=by
      show s.ts.tail.map bW.er=t.ts.tail.map bW.er
      rw [List.map_tail,List.map_tail,h]
    have he:s.fst.er=t.fst.er:=er_head h
    have hk:s.fst.er.kd=t.fst.er.kd:=by rw [he]
    have hn:s.fst.er.nu=t.fst.er.nu:=by rw [he]
    have hh:s.fst.er.h=t.fst.er.h:=by rw [he]
    have hf:s.fst.fw=t.fst.fw:=by rw [← fw_er s.fst,he,fw_er]
    have h1:nK (gK s.fst.ks 0)=nK (gK t.fst.ks 0):=by rw [← key_er s.fst,he,key_er]
    have h2:nY s.fst.m s.fst.ks=nY t.fst.m t.fst.ks:=by rw [← mul_er s.fst,he,mul_er]
    replace hk:s.fst.kd=t.fst.kd:=hk
    replace hn:s.fst.nu=t.fst.nu:=hn
    replace hh:s.fst.h=t.fst.h:=hh
    unfold bx
    rw [tY h,hf,hk,hn,hh,h1,h2]
    by_cases c0:t.ts.length=0∨t.fst.fw=false
    · rw [if_pos c0,if_pos c0];exact Or.inl ⟨rfl,rfl⟩
    rw [if_neg c0,if_neg c0]
    by_cases c1:t.fst.kd=1
    · rw [if_pos c1,if_pos c1];exact Or.inr ⟨_,_,_,rfl,rfl,hg⟩
    rw [if_neg c1,if_neg c1]
    by_cases c2:t.fst.kd=2
    · rw [if_pos c2,if_pos c2];exact Or.inr ⟨_,_,_,rfl,rfl,hg⟩
    rw [if_neg c2,if_neg c2]
    rcases bx_simE f s.go t.go hg with ⟨ha,hb⟩ | ⟨b,s',t',ha,hb,h'⟩
    · rw [ha,hb];exact Or.inl ⟨rfl,rfl⟩
    rw [ha,hb]
    by_cases c6:t.fst.kd=6
    · simp only [if_pos c6]
      rcases bx_simE f s' t' h' with ⟨ha,hb⟩ | ⟨b2,s2,t2,ha,hb,h2⟩
      · rw [ha,hb];exact Or.inl ⟨rfl,rfl⟩
      · rw [ha,hb];exact Or.inr ⟨_,_,_,rfl,rfl,h2⟩
    · simp only [if_neg c6]
      by_cases c3:3≤t.fst.kd∧t.fst.kd≤5
      · simp only [if_pos c3];exact Or.inr ⟨_,_,_,rfl,rfl,h'⟩
      · simp only [if_neg c3];exact Or.inl (by simp)
theorem bxB_er {ts us:List bW} (h:ts.map bW.er=us.map bW.er):bxB ts=bxB us:=by
  unfold bxB
  rcases bx_simE 8 ⟨none,0,ts⟩ ⟨none,0,us⟩ h with ⟨ha,hb⟩ | ⟨b,s',t',ha,hb,_⟩
  · rw [ha,hb]
  · rw [ha,hb];rfl
theorem er_er (ts:List bW):(ts.map bW.er).map bW.er=ts.map bW.er:=by
  rw [List.map_map]
  refine List.map_congr_left (fun t _=>?_)
  show t.er.er=t.er
  unfold bW.er
  rw [List.map_map];rfl
def RdK (p:dO):Prop:=p.Ok∧p.ps.length≤20000
def RdT (t:bW):Prop:=t.Ok∧t.fw=true∧∀ p∈t.ks,RdK p
theorem st_len:∀ (f:Nat) (a:List Nat) (X:List UInt8),(wR f a X).s.length≤a.length+X.length
  | 0,_,_=>Nat.zero_le _
  | f + 1, a, X => by
    have q3:=kE (Lib.trimPrefix X [47])
    have q4:=gX (eP (Lib.trimPrefix X [47])) [104]
    unfold wR
    split
    · exact Nat.le_add_right _ _
    rename_i h1
    have q1:=tZ (L:=X) (b:=47) (W:=[]) (by simpa using h1)
    rw [List.length_nil] at q1
    split
    · exact Nat.le_add_right _ _
    split
    · exact Nat.zero_le _
    split
    · exact Nat.zero_le _
    split
    · have := st_len f (a ++ [bT (Lib.trimPrefix X [47]) + 2147483648]) (Lib.trimPrefix (eP (Lib.trimPrefix X [47])) [104])
      rw [List.length_append,List.length_cons,List.length_nil] at this;omega
    · have := st_len f (a ++ [bT (Lib.trimPrefix X [47])]) (eP (Lib.trimPrefix X [47]))
      rw [List.length_append,List.length_cons,List.length_nil] at this;omega
theorem rp_len (L:List UInt8):(jC L).s.length≤L.length:=by
  have q:=vC 74 L
  unfold jC
  split
  · exact Nat.zero_le _
  split
  · exact Nat.zero_le _
  · have := st_len ((qV 74 L).length + 1) [] (qV 74 L)
    rw [List.length_nil] at this;omega
theorem rpA_rd {L:List UInt8} (h:L.length≤20000):RdK (rpA L):=⟨xAL L,Nat.le_trans (rp_len L) h⟩
theorem ks_rd:∀ (f:Nat) (a:List dO) (L:List UInt8),L.length≤20000→(∀ p∈a,RdK p)→(∀ p∈(ksR f a L).ks,RdK p)∧(ksR f a L).ks.length≤a.length+L.length∧a.length≤(ksR f a L).ks.length
  | 0,a,_,_,h=>⟨h,Nat.le_add_right _ _,Nat.le_refl _⟩
  | f + 1, a, L, hL, h => by
    have q2:=(wV (Lib.trimPrefix L [44])).2
    have hn:∀ p∈a++[rpA (Lib.trimPrefix L [44])],RdK p:=fun p hp=>(List.mem_append.1 hp).elim (h p) (fun e=>by
      rw [List.mem_singleton.1 e];exact rpA_rd (Nat.le_trans (gX _ _) hL))
    unfold ksR;split
    · exact ⟨h,Nat.le_add_right _ _,Nat.le_refl _⟩
    rename_i h1
    have q1:=tZ (L:=L) (b:=44) (W:=[]) (by simpa using h1)
    rw [List.length_nil] at q1
    split
    · refine ⟨hn, ?_, ?_⟩
      · show (a++[_]).length≤_;rw [List.length_append,List.length_cons,List.length_nil];omega
      · show _≤(a++[_]).length;rw [List.length_append];omega
    · have := ks_rd f (a ++ [rpA (Lib.trimPrefix L [44])]) (jC (Lib.trimPrefix L [44])).l (by omega) hn
      rw [List.length_append,List.length_cons,List.length_nil] at this
      exact ⟨this.1,by omega,by omega⟩
theorem tz_rd {k m:Int} {nu h:Nat} {ks:List dO} (hk:1≤k∧k≤6) (hm:0≤m∧m<4294967296) (hn:nu<4294967296) (hh:h<M) (h1:k=1→ks.length=1) (h2:k=2→1≤ks.length∧ks.length≤20000) (h3:k≠1→k≠2→ks.length=0) (hp:∀ p∈ks,RdK p):RdT (tz k m nu h ks):=by
  refine ⟨⟨by show rng k;unfold rng;omega,by show rng m;unfold rng;omega,hn,hh⟩,decide_eq_true ⟨h1,fun e=>?_,h3⟩,hp⟩
  have:=h2 e
  exact ⟨this.1,this.2,hm.1,hm.2⟩
theorem hd_rd {k:Int} {L:List UInt8} (hk:1≤k∧k≤6) (hL:L.length≤19999) (ho:(vJ k L).o=true):RdT (vJ k L).t∧(vJ k L).t.kd=k:=by
  have q0:∀ p∈([]:List dO),RdK p:=fun p hp=>absurd hp (by simp)
  have z0:(0:Int)≤0∧(0:Int)<4294967296:=by decide
  have n0:(0:Nat)<4294967296:=by decide
  unfold vJ at ho ⊢
  by_cases c1:k=1
  · rw [if_pos c1]
    exact ⟨tz_rd hk z0 n0 iL (fun _=>rfl) (fun e=>by omega) (fun e=>absurd c1 e) (fun p hp=>by rw [List.mem_singleton.1 hp];exact rpA_rd (by omega)),rfl⟩
  rw [if_neg c1] at ho ⊢
  by_cases c2:k=2
  · rw [if_pos c2] at ho ⊢
    by_cases d1:numO L=false
    · rw [if_pos d1] at ho;exact Bool.noConfusion (show false=true from ho)
    rw [if_neg d1] at ho ⊢
    by_cases d2:Lib.hasPrefix (eP L) [44]=false
    · rw [if_pos d2] at ho;exact Bool.noConfusion (show false=true from ho)
    rw [if_neg d2] at ho ⊢
    by_cases d3:(jC (Lib.trimPrefix (eP L) [44])).o=false
    · rw [if_pos d3] at ho;exact Bool.noConfusion (show false=true from ho)
    rw [if_neg d3]
    have l1:=kE L
    have l2:=gX (eP L) [44]
    have l3:=(wV (Lib.trimPrefix (eP L) [44])).2
    have r:=ks_rd ((jC (Lib.trimPrefix (eP L) [44])).l.length+1) [rpA (Lib.trimPrefix (eP L) [44])] (jC (Lib.trimPrefix (eP L) [44])).l (by omega) (fun p hp=>by rw [List.mem_singleton.1 hp];exact rpA_rd (by omega))
    simp only [List.length_cons,List.length_nil] at r
    have nv:=pX L
    exact ⟨tz_rd hk ⟨by omega,by omega⟩ n0 iL (fun e=>absurd e c1) (fun _=>⟨by omega,by omega⟩) (fun _ e=>absurd c2 e) r.1,rfl⟩
  rw [if_neg c2] at ho ⊢
  by_cases c3:k=3∨k=4
  · rw [if_pos c3] at ho ⊢
    by_cases d1:numO L=false
    · rw [if_pos d1] at ho;exact Bool.noConfusion (show false=true from ho)
    rw [if_neg d1]
    exact ⟨tz_rd hk z0 (pX L) iL (fun e=>absurd e c1) (fun e=>absurd e c2) (fun _ _=>rfl) q0,rfl⟩
  rw [if_neg c3] at ho ⊢
  by_cases c5:k=5
  · rw [if_pos c5] at ho ⊢
    by_cases d1:rbO 32 L=false
    · rw [if_pos d1] at ho;exact Bool.noConfusion (show false=true from ho)
    rw [if_neg d1]
    have hb:rbO 32 L=true:=by simpa using d1
    exact ⟨tz_rd hk z0 n0 (nB_M (by rw [List.length_take];exact Nat.min_eq_left (rb32 hb))) (fun e=>absurd e c1) (fun e=>absurd e c2) (fun _ _=>rfl) q0,rfl⟩
  rw [if_neg c5]
  exact ⟨tz_rd hk z0 n0 iL (fun e=>absurd e c1) (fun e=>absurd e c2) (fun _ _=>rfl) q0,rfl⟩
def WhA (b:List bW):Prop:=∀ (m:Int) (r:List bW),0≤m→vG (m+1) (b++r)=vG m r
theorem whA_cons {t:bW} {m:Int} {r:List bW} (hm:0≤m) (hk:0≤nO t.kd):vG (m+1) (t::r)=vG (m+nO t.kd) r:=by
  simp only [vG]
  rw [if_neg (by omega),show m+1+(nO t.kd-1)=m+nO t.kd by omega]
theorem whA_0 {t:bW} (h:nO t.kd=0):WhA [t]:=fun m r hm=>by
  show vG (m+1) (t::r)=_
  rw [whA_cons hm (by omega),h,Int.add_zero]
theorem whA_1 {t:bW} {b:List bW} (h:nO t.kd=1) (hb:WhA b):WhA (t::b):=fun m r hm=>by
  show vG (m+1) (t::(b++r))=_
  rw [whA_cons hm (by omega),h];exact hb m r hm
theorem whA_2 {t:bW} {b c:List bW} (h:nO t.kd=2) (hb:WhA b) (hc:WhA c):WhA (t::(b++c)):=fun m r hm=>by
  show vG (m+1) (t::(b++c++r))=_
  rw [whA_cons hm (by omega),h,List.append_assoc,show m+2=(m+1)+1 by omega,hb (m+1) _ (by omega)];exact hc m r hm
theorem rcl_t {x:Rtm} (h:(rcl x).o=true):x.o=true:=by
  cases e:x.o with
  | true=>rfl
  | false=>rw [rcl_f e] at h;exact h
theorem tm_rd : ∀ (f : Nat) (a : List bW) (L : List UInt8), L.length ≤ 19999 → a.length ≤ 8 → (gW f a L).o = true → ∃ b, (gW f a L).ts = a ++ b ∧ WhA b ∧ ∀ t ∈ b, RdT t
  | 0,_,_,_,_,h=>Bool.noConfusion (show false=true from h)
  | f + 1, a, L, hL, h8, h => by
    unfold gW at h ⊢
    by_cases c0:fD L=0
    · rw [if_pos c0] at h;exact Bool.noConfusion (show false=true from h)
    rw [if_neg c0] at h ⊢
    by_cases c8:a.length=8
    · rw [if_pos c8] at h;exact Bool.noConfusion (show false=true from h)
    rw [if_neg c8] at h ⊢
    have hk:=jX L
    have q0:=iQ L
    have q1:=hdR_len (fD L) (bQ L)
    have hr:=hd_rd (k:=fD L) (L:=bQ L) (by omega) (by omega)
    generalize vJ (fD L) (bQ L)=x at h q1 hr ⊢
    simp only [] at h ⊢
    by_cases cx:x.o=false
    · rw [if_pos cx] at h;exact Bool.noConfusion (show false=true from h)
    rw [if_neg cx] at h ⊢
    obtain ⟨ht,hkd⟩:=hr (by simpa using cx)
    have l1:(a++[x.t]).length=a.length+1:=by rw [List.length_append];rfl
    have one:∀ t∈[x.t],RdT t:=fun t e=>by rw [List.mem_singleton.1 e];exact ht
    by_cases c1:fD L=1∨fD L=2
    · rw [if_pos c1] at h ⊢
      refine ⟨[x.t],(y8 _).2,whA_0 (by rw [hkd];unfold nO;rw [if_pos c1]),one⟩
    rw [if_neg c1] at h ⊢
    have ih:=tm_rd f (a++[x.t]) x.l (by omega) (by omega)
    have tl:=qO f (a++[x.t]) x.l (by omega)
    by_cases c6:fD L=6
    · rw [if_pos c6] at h ⊢
      generalize gW f (a++[x.t]) x.l=y at h ih tl ⊢
      by_cases cy:y.o=false
      · rw [if_pos cy,cy] at h;exact Bool.noConfusion (show false=true from h)
      rw [if_neg cy] at h ⊢
      obtain ⟨b,hb,wb,rb⟩:=ih (by simpa using cy)
      by_cases cc:Lib.hasPrefix y.l [44]=false
      · rw [if_pos cc] at h;exact Bool.noConfusion (show false=true from h)
      rw [if_neg cc] at h ⊢
      have q2:=gX y.l [44]
      obtain ⟨c,hc,wc,rc⟩:=tm_rd f y.ts (Lib.trimPrefix y.l [44]) (by omega) tl.2.1 (rcl_t h)
      refine ⟨x.t::(b++c),?_,whA_2 (by rw [hkd,c6];rfl) wb wc,fun t ht'=>?_⟩
      · rw [(y8 _).2,hc,hb];simp
      · rcases List.mem_cons.1 ht' with e | e
        · rw [e];exact ht
        · exact (List.mem_append.1 e).elim (rb t) (rc t)
    · rw [if_neg c6] at h ⊢
      obtain ⟨b,hb,wb,rb⟩:=ih (rcl_t h)
      refine ⟨x.t::b,?_,whA_1 (by rw [hkd];unfold nO;rw [if_neg c1,if_pos (by omega)]) wb,fun t ht'=>?_⟩
      · rw [(y8 _).2,hb];simp
      · rcases List.mem_cons.1 ht' with e | e
        · rw [e];exact ht
        · exact rb t e
theorem rd_whole {L:List UInt8} (hL:L.length≤19999) (h:(gW 9 [] L).o=true):vG 1 (gW 9 [] L).ts=true∧(gW 9 [] L).ts.length≤8∧∀ t∈(gW 9 [] L).ts,RdT t:=by
  obtain ⟨b,hb,wb,rb⟩:=tm_rd 9 [] L hL (by decide) h
  rw [List.nil_append] at hb
  refine ⟨?_,(qO 9 [] L (by decide)).2.1,by rw [hb];exact rb⟩
  rw [hb]
  have:=wb 0 [] (Int.le_refl 0)
  rw [List.append_nil] at this
  exact this
theorem rd_mem {L:List UInt8} {us:List bW} (hL:L.length≤19999) (h:(gW 9 [] L).o=true) (he:us.map bW.er=(gW 9 [] L).ts):us.length≤8∧vG 1 us=true∧us.all bW.fw=true∧(∀ t∈us,t.Ok)∧TxS us:=by
  obtain ⟨h1,h2,h3⟩:=rd_whole hL h
  have hm:∀ t∈us,RdT t.er:=fun t ht=>h3 _ (he ▸ List.mem_map_of_mem ht)
  refine ⟨by rw [oJ he];exact h2,?_,List.all_eq_true.2 (fun t ht=>?_),fun t ht=>?_,fun t ht p hp=>?_⟩
  · rw [← map_wh (G:=bW.er) (g:=dO.er) (fun _=>rfl),he];exact h1
  · rw [← fw_er];exact (hm t ht).2.1
  · have := (hm t ht).1
    exact ⟨this.kd,this.m,this.nu,this.h⟩
  · have k := (hm t ht).2.2 p.er (List.mem_map_of_mem hp)
    have k1:∀ x∈p.ps,x<4294967296:=k.1.ps
    have k2:p.ps.length≤20000:=k.2
    have:=paT_len p.ps k1
    show (kpT p.k p.ps p.wd).length≤_
    unfold kpT
    rw [List.length_append,List.length_append,eG,xE]
    split<;>simp only [List.length_cons,List.length_nil]<;>omega
def smS (W:List UInt8):List UInt8:=l7 ((hL (lV xU W)).take 4)
def pW (S:List UInt8):List UInt8:=S.take (S.length-9)
def prE (S:List UInt8):Int :=
  if 16384<S.length then 4 else if S.length<9∨gB S (S.length-9)≠35 then 7 else if S.drop (S.length-8)≠smS (pW S) then 241 else
  if (gW 9 [] (pW S)).o=false then 260 else if bxB (gW 9 [] (pW S)).ts≠pW S then 260 else if xW (gW 9 [] (pW S)).ts=false then 260 else 0
def prT (S:List UInt8):List bW:=if prE S=0 then (gW 9 [] (pW S)).ts else []
section
variable {S : List UInt8}
theorem pr_4 (h:16384<S.length):prE S=4:=by unfold prE;rw [if_pos h]
theorem pr_7 (h: ¬ 16384<S.length) (h1:S.length<9∨gB S (S.length-9)≠35):prE S=7:=by unfold prE;rw [if_neg h,if_pos h1]
variable (h : ¬ 16384 < S.length) (h1 : ¬ S.length < 9) (h2 : gB S (S.length - 9) = 35)
include h h1 h2
theorem pr_go:prE S=if S.drop (S.length-8)≠smS (pW S) then 241 else
  if (gW 9 [] (pW S)).o=false then 260 else if bxB (gW 9 [] (pW S)).ts≠pW S then 260 else if xW (gW 9 [] (pW S)).ts=false then 260 else 0:=by
  unfold prE
  rw [if_neg h,if_neg (fun q=>q.elim h1 (fun k=>k h2))]
theorem pr_sum (h3:S.drop (S.length-8)≠smS (pW S)):prE S=241:=by rw [pr_go h h1 h2,if_pos h3]
theorem pr_o (h3:S.drop (S.length-8)=smS (pW S)) (h4:(gW 9 [] (pW S)).o=false):prE S=260:=by rw [pr_go h h1 h2,if_neg (fun q=>q h3),if_pos h4]
theorem pr_b {us:List bW} (h3:S.drop (S.length-8)=smS (pW S)) (h4:(gW 9 [] (pW S)).o=true) (he:us.map bW.er=(gW 9 [] (pW S)).ts) (h5:bxB us≠pW S):prE S=260:=by
  rw [pr_go h h1 h2,if_neg (fun q=>q h3),if_neg (by rw [h4];decide),if_pos (by rw [← bxB_er (show us.map bW.er=_ from he.trans (by rw [← he,er_er]))];exact h5)]
theorem pr_v {us:List bW} (h3:S.drop (S.length-8)=smS (pW S)) (h4:(gW 9 [] (pW S)).o=true) (he:us.map bW.er=(gW 9 [] (pW S)).ts) (h5:bxB us=pW S) (h6:xW us=false):prE S=260:=by
  rw [pr_go h h1 h2,if_neg (fun q=>q h3),if_neg (by rw [h4];decide),if_neg (by rw [← bxB_er (show us.map bW.er=_ from he.trans (by rw [← he,er_er]))];exact fun q=>q h5),if_pos (by rw [← he,vl_er];exact h6)]
theorem pr_0 {us:List bW} (h3:S.drop (S.length-8)=smS (pW S)) (h4:(gW 9 [] (pW S)).o=true) (he:us.map bW.er=(gW 9 [] (pW S)).ts) (h5:bxB us=pW S) (h6:xW us=true):prE S=0∧us.map bW.er=prT S:=by
  have e:prE S=0:=by rw [pr_go h h1 h2,if_neg (fun q=>q h3),if_neg (by rw [h4];decide),if_neg (by rw [← bxB_er (show us.map bW.er=_ from he.trans (by rw [← he,er_er]))];exact fun q=>q h5),if_neg (by rw [← he,vl_er,h6];decide)]
  exact ⟨e,by unfold prT;rw [if_pos e];exact he⟩
end
theorem prT_n {S:List UInt8} (h:prE S≠0):prT S=[]:=by unfold prT;rw [if_neg h]
theorem bM.newR {w:World} {n c:Nat} {a:Option Addr} {us:List bW} {T:Nat→Prop} (h:bM w a c us) (ha:mX n a) (hn:∀ t∈us,NwM n t) (hT:∀ b,T b→b<n):dL T (fun w=>bM w a c us) w :=
  bM.mkP h.le h.max (h.rows.pers (ha.ap hT)) (fun t ht=>oG.mkP (h.sub t ht).le (h.sub t ht).max ((h.sub t ht).rows.pers ((hn t ht).1.ap hT)) (fun p hp=>((h.sub t ht).sub p hp).pers (fun q hq h0 hb=>by
    have h1:=(hn t ht).2 p hp q hq h0
    have h2:=hT _ hb
    omega)) (h.sub t ht).ok) h.ok
def StopB (R:List UInt8):Prop:=∃ r,R=44::r∨R=41::r
theorem stop_dg {R:List UInt8} (h:StopB R):∀ b,R.head? = some b→xAG b=false:=by
  obtain ⟨r,rfl | rfl⟩:=h<;>intro b hb<;>(obtain rfl:=Option.some.inj hb;decide)
theorem lC (b:UInt8) (R:List UInt8):Lib.hasPrefix (b::R) [b]=true∧Lib.trimPrefix (b::R) [b]=R:=pre_yes [b] R
theorem yR {b c:UInt8} {R:List UInt8} (h:b≠c):Lib.hasPrefix (c::R) [b]=false:=by
  show (b==c&&([]:List UInt8).isPrefixOf R)=false
  rw [beq_eq_false_iff_ne.2 h];rfl
theorem stop_no {R:List UInt8} (h:StopB R) {b:UInt8} (h1:b≠44) (h2:b≠41):Lib.hasPrefix R [b]=false:=by
  obtain ⟨r,rfl | rfl⟩:=h
  · exact yR h1
  · exact yR h2
theorem xBS {n:Nat} {R:List UInt8} (hn:n<4294967296) (hR:∀ b,R.head? = some b→xAG b=false):numO (dS n++R)=true∧bT (dS n++R)=n∧eP (dS n++R)=R:=by
  obtain ⟨h1,h2⟩:=num_at (n:=n) hR
  have e:Lib.parseUintB 32 ((dS n++R).take (xC (dS n++R)))=.ok n:=by rw [h1];exact pu_dS hn
  have ho:numO (dS n++R)=true:=by unfold numO;rw [e]
  refine ⟨ho,by unfold bT;rw [e],?_⟩
  rw [numL_t ho,h2]
theorem dS_star (n:Nat) (R:List UInt8):Lib.hasPrefix (dS n++R) [42]=false:=by
  cases h:dS n with
  | nil=>exact absurd h (dS_ne n)
  | cons b r =>
    have hb:=dS_dig n b (by rw [h];exact List.mem_cons_self)
    have:(42:UInt8)≠b:=fun e=>by rw [← e] at hb;exact absurd hb (by decide)
    exact yR this
def wdT (wd:Bool):List UInt8:=if wd=true then [47,42] else []
theorem nodg47 (R:List UInt8):∀ b,((47:UInt8)::R).head? = some b→xAG b=false:=fun b hb=>by obtain rfl:=Option.some.inj hb;decide
theorem nodg104 (R:List UInt8):∀ b,((104:UInt8)::R).head? = some b→xAG b=false:=fun b hb=>by obtain rfl:=Option.some.inj hb;decide
theorem paT_cons (i:Nat) (r:List Nat):paT (i::r)=sgT i++paT r:=by unfold paT;rw [List.flatMap_cons]
theorem sgT_h {i:Nat} (h:2147483648≤i):sgT i=([47]++dS (i-2147483648))++[104]:=by unfold sgT;exact if_pos h
theorem sgT_n {i:Nat} (h: ¬ 2147483648≤i):sgT i=[47]++dS i:=by unfold sgT;exact if_neg h
theorem ex_h (D:List UInt8):∃ q,([47]++D)++[104]=(47:UInt8)::q:=⟨D++[104],rfl⟩
theorem sgT_47 (i:Nat):∃ q,sgT i=47::q:=by
  by_cases h:2147483648≤i
  · rw [sgT_h h];exact ex_h _
  · rw [sgT_n h];exact ⟨_,rfl⟩
theorem e_h (D T:List UInt8):([47]++D)++[104]++T=47::(D++(104::T)):=by simp
theorem tail_hd {ps:List Nat} {wd:Bool} {R:List UInt8} (hR:StopB R):(∀ b,(paT ps++(wdT wd++R)).head? = some b→xAG b=false)∧Lib.hasPrefix (paT ps++(wdT wd++R)) [104]=false:=by
  cases ps with
  | nil =>
    cases wd with
    | false=>exact ⟨stop_dg hR,stop_no hR (by decide) (by decide)⟩
    | true=>exact ⟨nodg47 _,yR (by decide)⟩
  | cons i r =>
    obtain ⟨q,hq⟩:=sgT_47 i
    rw [paT_cons,hq]
    exact ⟨nodg47 _,yR (by decide)⟩
theorem st_bh {f n:Nat} {a:List Nat} {T:List UInt8} (hn:n<2147483648):wR (f+1) a (47::(dS n++(104::T)))=wR f (a++[n+2147483648]) T:=by
  obtain ⟨h1,h2⟩:=lC 47 (dS n++(104::T))
  obtain ⟨n1,n2,n3⟩:=xBS (n:=n) (R:=104::T) (by omega) (nodg104 T)
  obtain ⟨h3,h4⟩:=lC 104 T
  rw [wR,if_neg (by rw [h1];decide),h2,if_neg (by rw [dS_star];decide),if_neg (by rw [n1];decide),n2,if_neg (by omega),n3,if_pos h3,h4]
theorem st_bn {f n:Nat} {a:List Nat} {T:List UInt8} (hn:n<2147483648) (t1:∀ b,T.head? = some b→xAG b=false) (t2:Lib.hasPrefix T [104]=false):wR (f+1) a (47::(dS n++T))=wR f (a++[n]) T:=by
  obtain ⟨h1,h2⟩:=lC 47 (dS n++T)
  obtain ⟨n1,n2,n3⟩:=xBS (n:=n) (R:=T) (by omega) t1
  rw [wR,if_neg (by rw [h1];decide),h2,if_neg (by rw [dS_star];decide),if_neg (by rw [n1];decide),n2,if_neg (by omega),n3,if_neg (by rw [t2];decide)]
theorem sgT_hh (n:Nat):sgT (n+2147483648)=([47]++dS n)++[104]:=by rw [sgT_h (Nat.le_add_left _ _),Nat.add_sub_cancel]
theorem app_one {a ps:List Nat} {x:Nat}:a++[x]++ps=a++x::ps:=by rw [List.append_assoc];rfl
theorem st_b1 {wd:Bool} {R T:List UInt8} {n f:Nat} {a ps:List Nat} (ih:∀ a:List Nat,T.length<f→wR f a T=⟨true,a++ps,wd,R⟩) (hf:T.length<f) (hi:n<2147483648):wR (f+1) a (sgT (n+2147483648)++T)=⟨true,a++(n+2147483648)::ps,wd,R⟩:=by
  rw [sgT_hh,e_h,st_bh hi,ih _ hf,app_one]
theorem st_b0 {wd:Bool} {R T:List UInt8} {n f:Nat} {a ps:List Nat} (ih:∀ a:List Nat,T.length<f→wR f a T=⟨true,a++ps,wd,R⟩) (hf:T.length<f) (hi:n<2147483648) (t1:∀ b,T.head? = some b→xAG b=false) (t2:Lib.hasPrefix T [104]=false):wR (f+1) a (sgT n++T)=⟨true,a++n::ps,wd,R⟩:=by
  rw [sgT_n (by omega)]
  show wR (f+1) a (47::(dS n++T))=_
  rw [st_bn hi t1 t2,ih _ hf,app_one]
theorem st_nil {wd:Bool} {R:List UInt8} (hR:StopB R) (f:Nat) (a:List Nat):wR (f+1) a (wdT wd++R)=⟨true,a,wd,R⟩:=by
  cases wd with
  | false =>
    show wR (f+1) a R=_
    rw [wR,if_pos (stop_no hR (by decide) (by decide))]
  | true =>
    show wR (f+1) a (47::42::R)=_
    obtain ⟨h1,h2⟩:=lC 47 (42::R)
    obtain ⟨h3,h4⟩:=lC 42 R
    rw [wR,if_neg (by rw [h1];decide),h2,if_pos h3,h4]
theorem sgT_len1 (i:Nat):1≤(sgT i).length:=by
  obtain ⟨q,hq⟩:=sgT_47 i
  rw [hq];exact Nat.le_add_left _ _
theorem st_bi {wd:Bool} {R T:List UInt8} {i f:Nat} {a ps:List Nat} (ih:∀ a:List Nat,T.length<f→wR f a T=⟨true,a++ps,wd,R⟩) (hf:T.length<f) (hi:i<4294967296) (t1:∀ b,T.head? = some b→xAG b=false) (t2:Lib.hasPrefix T [104]=false):wR (f+1) a (sgT i++T)=⟨true,a++i::ps,wd,R⟩:=by
  rcases Nat.lt_or_ge i 2147483648 with h | h
  · exact st_b0 ih hf h t1 t2
  · obtain ⟨n, rfl⟩ := Nat.exists_eq_add_of_le' h
    exact st_b1 ih hf (by omega)
theorem st_back {wd:Bool} {R:List UInt8} (hR:StopB R) (ps:List Nat):∀ (f:Nat) (a:List Nat),(∀ i∈ps,i<4294967296)→(paT ps++(wdT wd++R)).length<f→wR f a (paT ps++(wdT wd++R))=⟨true,a++ps,wd,R⟩:=by
  induction ps with
  | nil =>
    intro f a _ hf
    obtain ⟨f,rfl⟩:∃ g,f=g+1:=⟨f-1,by omega⟩
    rw [List.append_nil]
    exact st_nil hR f a
  | cons i ps ih =>
    intro f a hi hf
    obtain ⟨f,rfl⟩:∃ g,f=g+1:=⟨f-1,by omega⟩
    obtain ⟨t1,t2⟩:=tail_hd (ps:=ps) (wd:=wd) hR
    have ih:=fun a=>ih f a (fun x hx=>hi x (List.mem_cons_of_mem _ hx))
    rw [paT_cons,List.append_assoc] at hf ⊢
    have h1:=sgT_len1 i
    rw [List.length_append] at hf
    exact st_bi ih (by omega) (hi i List.mem_cons_self) t1 t2
theorem en_back1 {k:Ky} (hk:k.Ok) (h:fC k=true):kdE (sJ k)=0∧iU (sJ k)=k:=by
  by_cases hs:k.s=0
  · exact en_back hk h hs
  obtain ⟨g0,g8,_,gs⟩:=oI h
  obtain ⟨gs1,gs2⟩:=gs.resolve_left hs
  have hl:lst k=k.s:=by unfold lst;rw [if_neg hs]
  have hf:flg k.s=1:=by unfold flg;rw [if_neg hs]
  have hd:oH k.d=k.d:=by
    unfold oH IntKind.wrap
    simp [IntKind.signed,IntKind.bits]
    omega
  have hB0:gB (sJ k) 0=1:=by show (ob (flg k.s)).toNat=1;rw [hf];rfl
  have hB1:((gB (sJ k) 1:Nat):Int)=k.d:=by
    show (((ob (oH k.d)).toNat:Nat):Int)=k.d
    rw [hd];exact ob_nat ⟨g0,by omega⟩
  have hi:=(rd_at (A:=sJ k) (P:=[ob (flg k.s),ob (oH k.d)]) (Q:=leB k.n 4++(hL k.c++hL (lst k))) (n:=k.i) (w:=4) (z:=2) (by unfold sJ;simp only [List.append_assoc]) rfl hk.i).2.2
  have hn:=(rd_at (A:=sJ k) (P:=[ob (flg k.s),ob (oH k.d)]++leB k.i 4) (Q:=hL k.c++hL (lst k)) (n:=k.n) (w:=4) (z:=6) (by unfold sJ;simp only [List.append_assoc]) (by simp [eQ]) hk.n).2.2
  have hc:=(hs_at (A:=sJ k) (P:=([ob (flg k.s),ob (oH k.d)]++leB k.i 4)++leB k.n 4) (Q:=hL (lst k)) (h:=k.c) (z:=10) rfl (by simp [eQ]) hk.c).1
  have hp:=(hs_at (A:=sJ k) (P:=(([ob (flg k.s),ob (oH k.d)]++leB k.i 4)++leB k.n 4)++hL k.c) (Q:=[]) (h:=k.s) (z:=42) (by unfold sJ;rw [hl,List.append_nil]) (by simp [eQ,aO]) hk.s).1
  have hi:uU (sJ k) 2 4=k.i:=hi
  have hn:uU (sJ k) 6 4=k.n:=hn
  have hc:nM (sJ k) 10=k.c:=hc
  have hp:nM (sJ k) 42=k.s:=hp
  have h1: ¬ (1<gB (sJ k) 0∨8<gB (sJ k) 1):=by omega
  have hh:=dc_s1 (xE k) h1 (by omega) (by rw [hp];exact (lZ gs1).2)
  refine ⟨hh.1,hh.2.trans ?_⟩
  rw [hi,hn,hc,hp,hB1,gs2]
theorem rb_back {n:Nat} {B R:List UInt8} (hn:B.length=n) (h9:n≤1000):rbO n (l7 B++R)=true∧fO n (l7 B++R)=B∧qV n (l7 B++R)=R:=by
  have hl:(l7 B).length=2*n:=by rw [eG,hn]
  obtain ⟨e1,e2,e3⟩:=rb_t (n:=n) (L:=l7 B++R) (by rw [List.length_append];omega)
  rw [e1,e2,e3,← hl,List.take_left,List.drop_left,hx_back_x (by omega),hx_back_e (by omega)]
  exact ⟨rfl,rfl,rfl⟩
theorem rp_back {p:dO} {R:List UInt8} (hp:p.Ok) (hs:fC p.k=true) (hR:StopB R):jC (p.tx++R)=⟨true,p.ps,p.wd,R⟩∧rpA (p.tx++R)=p.er:=by
  have e:p.tx++R=l7 (sJ p.k)++(paT p.ps++(wdT p.wd++R)):=by
    show ((l7 (sJ p.k)++paT p.ps)++(if p.wd=true then [47,42] else []))++R=_
    simp only [List.append_assoc];rfl
  rw [e]
  obtain ⟨b1,b2,b3⟩:=rb_back (R:=paT p.ps++(wdT p.wd++R)) (xE p.k) (by decide)
  obtain ⟨k1,k2⟩:=en_back1 hp.k hs
  have hr:jC (l7 (sJ p.k)++(paT p.ps++(wdT p.wd++R)))=⟨true,p.ps,p.wd,R⟩:=by
    unfold jC
    rw [if_neg (by rw [b1];decide),b2,if_neg (by omega),b3,st_back hR p.ps _ [] hp.ps (Nat.lt_succ_self _)];rfl
  refine ⟨hr,?_⟩
  unfold rpA lQ
  rw [hr,b2]
  show dO.mk (if true=true then _ else _) p.ps p.wd none 0=p.er
  rw [if_pos rfl,k2];rfl
theorem ks_back {R:List UInt8} (ks:List dO):∀ (f:Nat) (a:List dO),(∀ p∈ks,p.Ok∧fC p.k=true)→(xM ks++41::R).length<f→ksR f a (xM ks++41::R)=⟨true,a++ks.map dO.er,41::R⟩:=by
  induction ks with
  | nil =>
    intro f a _ hf
    obtain ⟨f,rfl⟩:∃ g,f=g+1:=⟨f-1,by omega⟩
    show ksR (f+1) a (41::R)=_
    rw [ksR,if_pos (yR (by decide)),List.map_nil,List.append_nil]
  | cons p ks ih =>
    intro f a hk hf
    obtain ⟨f,rfl⟩:∃ g,f=g+1:=⟨f-1,by omega⟩
    obtain ⟨hp,hs⟩:=hk p List.mem_cons_self
    have ih:=ih f (a++[p.er]) (fun q hq=>hk q (List.mem_cons_of_mem _ hq))
    have e:xM (p::ks)++41::R=44::(p.tx++(xM ks++41::R)):=by
      show (([44]++p.tx)++xM ks)++_=_
      simp only [List.append_assoc];rfl
    rw [e] at hf ⊢
    have hst:StopB (xM ks++41::R):=by
      cases ks with
      | nil=>exact ⟨R,Or.inr rfl⟩
      | cons q r=>exact ⟨q.tx++(xM r++41::R),Or.inl (by show (([44]++q.tx)++xM r)++_=_;simp only [List.append_assoc];rfl)⟩
    obtain ⟨h1,h2⟩:=lC 44 (p.tx++(xM ks++41::R))
    obtain ⟨r1,r2⟩:=rp_back hp hs hst
    rw [ksR,if_neg (by rw [h1];decide),h2,r1,r2,if_neg (fun q=>Bool.noConfusion (show true=false from q)),ih (by simp only [List.length_cons,List.length_append] at hf ⊢;omega),List.map_cons,List.append_assoc];rfl
theorem kd_back {k:Int} (h:1≤k∧k≤6) (R:List UInt8):fD (uP k++R)=k∧bQ (uP k++R)=R:=by
  have e:fD (uP k++R)=k:=by
    rcases (by omega:k=1∨k=2∨k=3∨k=4∨k=5∨k=6) with rfl | rfl | rfl | rfl | rfl | rfl<;>rfl
  refine ⟨e,?_⟩
  unfold bQ
  rw [e,if_neg (by omega)]
  exact (pre_yes _ _).2
structure VtT (t:bW):Prop where
  ok:t.Ok
  fd:t.fd=true
  ks:∀ p∈t.ks,p.Ok∧fC p.k=true
theorem hd_b1 {t:bW} {R:List UInt8} (h:VtT t) (hk:t.kd=1):vJ t.kd ((gK t.ks 0).tx++41::R)=⟨true,t.er,41::R⟩:=by
  have hF:=(xAT _ _ _ _ _).1 h.fd
  unfold o7 at hF
  obtain ⟨p,hp⟩:∃ p,t.ks=[p]:=by
    have:=hF.2.2.2.1 hk
    cases e:t.ks with
    | nil=>rw [e] at this;simp at this
    | cons p r=>rw [e] at this;simp at this;exact ⟨p,by rw [this]⟩
  obtain ⟨q1,q2⟩:=h.ks p (by rw [hp];exact List.mem_cons_self)
  have e:gK t.ks 0=p:=by rw [hp];rfl
  obtain ⟨r1,r2⟩:=rp_back q1 q2 (R:=41::R) ⟨R,Or.inr rfl⟩
  rw [hd_1 hk,e,r1,r2]
  unfold bW.er tz
  rw [hp,show t.m=0 by omega,show t.nu=0 by omega,show t.h=0 by omega];rfl
theorem hd_b2 {t:bW} {R:List UInt8} (h:VtT t) (hk:t.kd=2):vJ t.kd (dS t.m.toNat++(xM t.ks++41::R))=⟨true,t.er,41::R⟩:=by
  have hF:=(xAT _ _ _ _ _).1 h.fd
  unfold o7 at hF
  have h2:=hF.2.2.2.2.1 hk
  obtain ⟨p,r,hp⟩:∃ p r,t.ks=p::r:=by
    cases e:t.ks with
    | nil=>rw [e] at h2;simp at h2
    | cons p r=>exact ⟨p,r,rfl⟩
  have e:xM t.ks++41::R=44::(p.tx++(xM r++41::R)):=by
    rw [hp]
    show (([44]++p.tx)++xM r)++_=_
    simp only [List.append_assoc];rfl
  have hst:StopB (xM r++41::R):=by
    cases r with
    | nil=>exact ⟨R,Or.inr rfl⟩
    | cons q r=>exact ⟨q.tx++(xM r++41::R),Or.inl (by show (([44]++q.tx)++xM r)++_=_;simp only [List.append_assoc];rfl)⟩
  obtain ⟨q1,q2⟩:=h.ks p (by rw [hp];exact List.mem_cons_self)
  obtain ⟨n1,n2,n3⟩:=xBS (n:=t.m.toNat) (R:=44::(p.tx++(xM r++41::R))) (by omega) (stop_dg ⟨_,Or.inl rfl⟩)
  obtain ⟨c1,c2⟩:=lC 44 (p.tx++(xM r++41::R))
  obtain ⟨r1,r2⟩:=rp_back q1 q2 hst
  unfold vJ
  rw [e,if_neg (by omega),if_pos hk,if_neg (by rw [n1];decide),n2,n3,if_neg (by rw [c1];decide),c2,r1,r2,if_neg (fun q=>Bool.noConfusion (show true=false from q)),ks_back r _ _ (fun x hx=>h.ks x (by rw [hp];exact List.mem_cons_of_mem _ hx)) (Nat.lt_succ_self _)]
  unfold bW.er tz
  rw [hp,show t.nu=0 by omega,show t.h=0 by omega,show ((t.m.toNat:Nat):Int)=t.m by omega];rfl
theorem hd_b3 {t:bW} {R:List UInt8} (h:VtT t) (hk:t.kd=3∨t.kd=4):vJ t.kd (dS t.nu++44::R)=⟨true,t.er,R⟩:=by
  have hF:=(xAT _ _ _ _ _).1 h.fd
  unfold o7 at hF
  obtain ⟨n1,n2,n3⟩:=xBS (n:=t.nu) (R:=44::R) h.ok.nu (stop_dg ⟨_,Or.inl rfl⟩)
  obtain ⟨c1,c2⟩:=lC 44 R
  rw [hd_n hk n1,n2,n3,c1,c2]
  unfold bW.er tz
  rw [List.eq_nil_of_length_eq_zero (show t.ks.length=0 by omega),show t.m=0 by omega,show t.h=0 by omega];rfl
theorem hd_b5 {t:bW} {R:List UInt8} (h:VtT t) (hk:t.kd=5):vJ t.kd (l7 (hL t.h)++44::R)=⟨true,t.er,R⟩:=by
  have hF:=(xAT _ _ _ _ _).1 h.fd
  unfold o7 at hF
  obtain ⟨n1,n2,n3⟩:=rb_back (R:=44::R) (aO t.h) (by decide)
  obtain ⟨c1,c2⟩:=lC 44 R
  rw [hd_h hk n1,n2,n3,c1,c2,List.take_of_length_le (by rw [aO];exact Nat.le_refl _),nB_hL h.ok.h]
  unfold bW.er tz
  rw [List.eq_nil_of_length_eq_zero (show t.ks.length=0 by omega),show t.m=0 by omega,show t.nu=0 by omega];rfl
theorem hd_b6 {t:bW} {R:List UInt8} (h:VtT t) (hk:t.kd=6):vJ t.kd R=⟨true,t.er,R⟩:=by
  have hF:=(xAT _ _ _ _ _).1 h.fd
  unfold o7 at hF
  rw [hd_6 hk]
  unfold bW.er tz
  rw [List.eq_nil_of_length_eq_zero (show t.ks.length=0 by omega),show t.m=0 by omega,show t.nu=0 by omega,show t.h=0 by omega];rfl
theorem tb_pre {t:bW} {B X:List UInt8} (hk:1≤t.kd∧t.kd≤6) (hx:vJ t.kd B=⟨true,t.er,X⟩):(fD (uP t.kd++B)==0)=false∧vJ (fD (uP t.kd++B)) (bQ (uP t.kd++B))=⟨true,t.er,X⟩∧fD (uP t.kd++B)=t.kd:=by
  obtain ⟨e1,e2⟩:=kd_back hk B
  rw [e1,e2]
  exact ⟨by have : t.kd ≠ 0 := by omega
            simpa using this,hx,rfl⟩
section
variable {f : Nat} {a : List bW} {t : bW} {B X : List UInt8} (hk : 1 ≤ t.kd ∧ t.kd ≤ 6) (h8 : a.length ≠ 8) (hx : vJ t.kd B = ⟨true, t.er, X⟩)
include hk h8 hx
theorem tb_0 {R:List UInt8} (hn:t.kd=1∨t.kd=2) (hX:X=41::R):gW (f+1) a (uP t.kd++B)=⟨true,a++[t.er],R⟩:=by
  obtain ⟨q1,q2,q3⟩:=tb_pre hk hx
  rw [tm_E1 q1 h8 q2 (by rw [q3];exact decide_eq_false (by unfold nO;rw [if_pos hn];decide)) (by rw [hX];exact (lC 41 R).1),hX,(lC 41 R).2]
theorem tb_1 {R:List UInt8} {c:List bW} (hn:t.kd=3∨t.kd=4∨t.kd=5) (hy:gW f (a++[t.er]) X=⟨true,c,41::R⟩):gW (f+1) a (uP t.kd++B)=⟨true,c,R⟩:=by
  obtain ⟨q1,q2,q3⟩:=tb_pre hk hx
  have k1:nO t.kd=1:=by unfold nO;rw [if_neg (by omega),if_pos hn]
  rw [tm_E2 q1 h8 q2 (by rw [q3,k1];rfl) (by rw [q3,k1];rfl) (by rw [hy]) (by rw [hy];exact (lC 41 R).1),hy]
  show Rtm.mk true c (Lib.trimPrefix (41::R) [41])=_
  rw [(lC 41 R).2]
theorem tb_2 {Y R:List UInt8} {c d:List bW} (hn:t.kd=6) (hy:gW f (a++[t.er]) X=⟨true,c,44::Y⟩) (hz:gW f c Y=⟨true,d,41::R⟩):gW (f+1) a (uP t.kd++B)=⟨true,d,R⟩:=by
  obtain ⟨q1,q2,q3⟩:=tb_pre hk hx
  have k1:nO t.kd=2:=by rw [hn];rfl
  have hz':gW f c (Lib.trimPrefix (gW f (a++[t.er]) X).l [44])=⟨true,d,41::R⟩:=by rw [hy];show gW f c (Lib.trimPrefix (44::Y) [44])=_;rw [(lC 44 Y).2];exact hz
  rw [tm_E4 (Nm:=c) q1 h8 q2 (by rw [q3,k1];rfl) (by rw [hy]) (by rw [hy];exact (lC 44 Y).1) (by rw [hy]) (by rw [hz']) (by rw [hz'];exact (lC 41 R).1),hz']
  show Rtm.mk true d (Lib.trimPrefix (41::R) [41])=_
  rw [(lC 41 R).2]
end
theorem bx_back : ∀ (f : Nat) (s : Tq) (x : List UInt8) (s' : Tq), bx f s = some (x, s') → (∀ t ∈ s.ts, VtT t) →
    ∃ pre,s.ts=pre++s'.ts∧1≤pre.length∧∀ (g:Nat) (a:List bW) (R:List UInt8),a.length+pre.length≤8→9≤g+a.length→gW g a (x++R)=⟨true,a++pre.map bW.er,R⟩
  | 0,_,_,_,h,_=>by simp [bx] at h
  | f + 1, s, x, s', h, hv => by
    unfold bx at h
    split at h
    · exact absurd h (by simp)
    rename_i hc
    have h0:0<s.ts.length:=by omega
    have ht:VtT s.fst:=hv _ (xAE h0)
    have hsp:s.ts=s.fst::s.go.ts:=by
      cases e:s.ts with
      | nil=>rw [e] at h0;simp at h0
      | cons t r =>
        have e1:s.fst=t:=by unfold Tq.fst;rw [e];rfl
        have e2:s.go.ts=r:=by show s.ts.tail=r;rw [e];rfl
        rw [e1,e2]
    have hvg:∀ t∈s.go.ts,VtT t:=fun t ht=>hv t (by rw [hsp];exact List.mem_cons_of_mem _ ht)
    have hN:∀ {g:Nat} {a:List bW},a.length+1≤8→9≤g+a.length→∃ g',g=g'+1∧a.length≠8∧9≤g'+(a++[s.fst.er]).length:=fun {g a} q1 q2=>by
      rw [List.length_append,List.length_cons,List.length_nil]
      exact ⟨g-1,by omega,by omega,by omega⟩
    split at h
    · rename_i hk
      simp only [Option.some.injEq,Prod.mk.injEq] at h
      obtain ⟨rfl,rfl⟩:=h
      refine ⟨[s.fst],hsp,Nat.le_refl _,fun g a R q1 q2=>?_⟩
      obtain ⟨g',rfl,h8,_⟩:=hN (by simpa using q1) q2
      have e:nK (gK s.fst.ks 0)++R=uP s.fst.kd++((gK s.fst.ks 0).tx++41::R):=by
        rw [hk]
        show ((([107,101,121,40]:List UInt8)++(gK s.fst.ks 0).tx)++[41])++R=([107,101,121]++[40])++_
        simp
      rw [e]
      exact tb_0 (by omega) h8 (hd_b1 ht hk) (Or.inl hk) rfl
    split at h
    · rename_i hk
      simp only [Option.some.injEq,Prod.mk.injEq] at h
      obtain ⟨rfl,rfl⟩:=h
      refine ⟨[s.fst],hsp,Nat.le_refl _,fun g a R q1 q2=>?_⟩
      obtain ⟨g',rfl,h8,_⟩:=hN (by simpa using q1) q2
      have e:nY s.fst.m s.fst.ks++R=uP s.fst.kd++(dS s.fst.m.toNat++(xM s.fst.ks++41::R)):=by
        rw [hk]
        show (((([109,117,108,116,105,40]:List UInt8)++dS s.fst.m.toNat)++xM s.fst.ks)++[41])++R=([109,117,108,116,105]++[40])++_
        simp
      rw [e]
      exact tb_0 (by omega) h8 (hd_b2 ht hk) (Or.inr hk) rfl
    split at h
    · exact absurd h (by simp)
    rename_i k1 k2 _ xa s1 e1
    obtain ⟨p1,hp1,l1,r1⟩:=bx_back f _ _ _ e1 hvg
    have hv1:∀ t∈s1.ts,VtT t:=fun t ht=>hvg t (by rw [hp1];exact List.mem_append_right _ ht)
    split at h
    · rename_i hk
      split at h
      · exact absurd h (by simp)
      rename_i xb s2 e2
      obtain ⟨p2,hp2,l2,r2⟩:=bx_back f _ _ _ e2 hv1
      simp only [Option.some.injEq,Prod.mk.injEq] at h
      obtain ⟨rfl,rfl⟩:=h
      refine ⟨s.fst::(p1++p2),by rw [hsp,hp1,hp2];simp,by rw [List.length_cons];omega,fun g a R q1 q2=>?_⟩
      rw [List.length_cons,List.length_append] at q1
      obtain ⟨g',rfl,h8,q3⟩:=hN (by omega) q2
      have la:(a++[s.fst.er]).length=a.length+1:=by rw [List.length_append];rfl
      have e:eiT xa xb++R=uP s.fst.kd++(xa++(44::(xb++41::R))):=by
        rw [hk]
        show ((((([101,105,116,104,101,114,40]:List UInt8)++xa)++[44])++xb)++[41])++R=([101,105,116,104,101,114]++[40])++_
        simp
      rw [e,tb_2 (by omega) h8 (hd_b6 ht hk) hk (r1 g' (a++[s.fst.er]) (44::(xb++41::R)) (by omega) q3) (r2 g' _ (41::R) (by rw [List.length_append,List.length_map];omega) (by rw [List.length_append,List.length_map];omega))]
      simp
    · split at h
      · rename_i hk
        have hk:s.fst.kd=3∨s.fst.kd=4∨s.fst.kd=5:=by omega
        simp only [Option.some.injEq,Prod.mk.injEq] at h
        obtain ⟨rfl,rfl⟩:=h
        refine ⟨s.fst::p1,by rw [hsp,hp1];simp,by rw [List.length_cons];omega,fun g a R q1 q2=>?_⟩
        rw [List.length_cons] at q1
        obtain ⟨g',rfl,h8,q3⟩:=hN (by omega) q2
        have la:(a++[s.fst.er]).length=a.length+1:=by rw [List.length_append];rfl
        have ih:=r1 g' (a++[s.fst.er]) (41::R) (by omega) q3
        have fin:(⟨true,(a++[s.fst.er])++p1.map bW.er,R⟩:Rtm)=⟨true,a++(s.fst::p1).map bW.er,R⟩:=by simp
        rw [← fin]
        by_cases c5:s.fst.kd=5
        · have e : slT s.fst.kd s.fst.nu s.fst.h xa ++ R = uP s.fst.kd ++ (l7 (hL s.fst.h) ++ 44 :: (xa ++ 41 :: R)) := by
            unfold slT arT
            rw [c5]
            show ((((([104,97,115,104,40]:List UInt8)++l7 (hL s.fst.h))++[44])++xa)++[41])++R=([104,97,115,104]++[40])++_
            simp
          rw [e]
          exact tb_1 (by omega) h8 (hd_b5 ht c5) hk ih
        · have e : slT s.fst.kd s.fst.nu s.fst.h xa ++ R = uP s.fst.kd ++ (dS s.fst.nu ++ 44 :: (xa ++ 41 :: R)) := by
            unfold slT arT
            rcases (by omega:s.fst.kd=3∨s.fst.kd=4) with c | c
            · rw [c]
              show ((((([97,102,116,101,114,40]:List UInt8)++dS s.fst.nu)++[44])++xa)++[41])++R=([97,102,116,101,114]++[40])++_
              simp
            · rw [c]
              show ((((([111,108,100,101,114,40]:List UInt8)++dS s.fst.nu)++[44])++xa)++[41])++R=([111,108,100,101,114]++[40])++_
              simp
          rw [e]
          exact tb_1 (by omega) h8 (hd_b3 ht (by omega)) hk ih
      · exact absurd h (by simp)
theorem vt_of {ts:List bW} (hv:xW ts=true) (ho:mP ts):∀ t∈ts,VtT t:=fun t ht=>by
  obtain ⟨_,_,hf,hk⟩:=vl_get hv
  refine ⟨(ho t ht).1,List.all_eq_true.1 hf t ht,fun p hp=>⟨(ho t ht).2 p hp,?_⟩⟩
  have h1:=List.all_eq_true.1 hk t ht
  have h2:=List.all_eq_true.1 h1 p hp
  unfold dO.vp at h2
  simp only [Bool.and_eq_true] at h2
  exact h2.2.1
theorem bxB_go {ts:List bW} (hv:xW ts=true):∃ s',bx 8 ⟨none,0,ts⟩=some (bxB ts,s')∧s'.ts=[]:=by
  obtain ⟨hl,hw,hf,_⟩:=vl_get hv
  obtain ⟨x,s',hx,w1,_⟩:=bx_ok 8 1 ⟨none,0,ts⟩ hl.2 (by decide) hw (fds_fws hf)
  obtain ⟨s2,h2⟩:=bx_go hv none 0
  rw [hx] at h2
  simp only [Option.some.injEq,Prod.mk.injEq] at h2
  refine ⟨s',by rw [hx,h2.1],?_⟩
  cases e:s'.ts with
  | nil=>rfl
  | cons t r=>rw [e] at w1;simp [vG] at w1
theorem read_back {ts:List bW} (hv:xW ts=true) (ho:mP ts):gW 9 [] (bxB ts)=⟨true,ts.map bW.er,[]⟩:=by
  obtain ⟨s',h1,h2⟩:=bxB_go hv
  obtain ⟨pre,q1,q2,q3⟩:=bx_back 8 _ _ _ h1 (vt_of hv ho)
  have hp:pre=ts:=by rw [h2,List.append_nil] at q1;exact q1.symm
  have:=q3 9 [] [] (by rw [hp];have:=(vl_get hv).1;simpa using this.2) (by decide)
  rw [List.append_nil] at this
  rw [this,hp];rfl
section
open Go Go.Shelf Go.Proofs
def lays283_ren:Go.Shelf.Ren:=⟨fun | 283=>95 | n=>n,fun | 3=>3 | 9=>9 | 4=>4 | n=>n,fun | n=>n⟩
theorem lays283:Go.Proofs.Lays.n283 Tryz.prog lays283_ren:={
  mixed:=by kernel_rfl
  f283:=Tryz.func95.trans (congrArg some (by kernel_rfl))
  t3:=Tryz.underlying3
  a3:=Tryz.isAgg3
  z3:=Tryz.sizeOf3
  v3:=Tryz.zeroValue3
  t4:=Tryz.underlying4
  a4:=Tryz.isAgg4
  z4:=Tryz.sizeOf4
  v4:=Tryz.zeroValue4
  t9:=Tryz.underlying9
  a9:=Tryz.isAgg9
  z9:=Tryz.sizeOf9
  v9:=Tryz.zeroValue9}
def laysM284_ren:Go.Shelf.Ren:=⟨fun | 284=>96 | 129=>131 | 317=>130 | 318=>132 | n=>n,fun | 53=>52 | 3=>3 | 212=>163 | 0=>0 | 4=>4 | 46=>87 | 5=>5 | 9=>9 | n=>n,fun | 17=>2 | n=>n⟩
theorem laysM284:Go.Proofs.LaysM.n284 Tryz.prog laysM284_ren:={
  mixed:=by kernel_rfl
  f129:=Tryz.func131.trans (congrArg some (by kernel_rfl))
  f284:=Tryz.func96.trans (congrArg some (by kernel_rfl))
  f317:=Tryz.func130.trans (congrArg some (by kernel_rfl))
  f318:=Tryz.func132.trans (congrArg some (by kernel_rfl))
  t0:=Tryz.underlying0
  a0:=Tryz.isAgg0
  z0:=Tryz.sizeOf0
  v0:=Tryz.zeroValue0
  t3:=Tryz.underlying3
  a3:=Tryz.isAgg3
  z3:=Tryz.sizeOf3
  v3:=Tryz.zeroValue3
  t4:=Tryz.underlying4
  a4:=Tryz.isAgg4
  z4:=Tryz.sizeOf4
  v4:=Tryz.zeroValue4
  t5:=Tryz.underlying5
  a5:=Tryz.isAgg5
  z5:=Tryz.sizeOf5
  v5:=Tryz.zeroValue5
  t9:=Tryz.underlying9
  a9:=Tryz.isAgg9
  z9:=Tryz.sizeOf9
  v9:=Tryz.zeroValue9
  t46:=Tryz.underlying87
  a46:=Tryz.isAgg87
  z46:=Tryz.sizeOf87
  v46:=Tryz.zeroValue87
  t53:=Tryz.underlying52
  a53:=Tryz.isAgg52
  z53:=Tryz.sizeOf52
  v53:=Tryz.zeroValue52
  t212:=Tryz.underlying163
  a212:=Tryz.isAgg163
  z212:=Tryz.sizeOf163
  v212:=Tryz.zeroValue163
  g17:=by kernel_rfl
  i0:=by kernel_rfl
  i3:=by kernel_rfl
  i4:=by kernel_rfl
  i5:=by kernel_rfl
  i9:=by kernel_rfl
  i46:=by kernel_rfl
  i53:=by kernel_rfl
  i212:=by kernel_rfl
  m17:=by kernel_rfl}
def lays285_ren:Go.Shelf.Ren:=⟨fun | 285=>97 | n=>n,fun | 37=>35 | 53=>52 | 3=>3 | 4=>4 | 51=>45 | 9=>9 | 5=>5 | 0=>0 | n=>n,fun | n=>n⟩
theorem lays285:Go.Proofs.Lays.n285 Tryz.prog lays285_ren:={
  mixed:=by kernel_rfl
  f285:=Tryz.func97.trans (congrArg some (by kernel_rfl))
  t0:=Tryz.underlying0
  a0:=Tryz.isAgg0
  z0:=Tryz.sizeOf0
  v0:=Tryz.zeroValue0
  t3:=Tryz.underlying3
  a3:=Tryz.isAgg3
  z3:=Tryz.sizeOf3
  v3:=Tryz.zeroValue3
  t4:=Tryz.underlying4
  a4:=Tryz.isAgg4
  z4:=Tryz.sizeOf4
  v4:=Tryz.zeroValue4
  t5:=Tryz.underlying5
  a5:=Tryz.isAgg5
  z5:=Tryz.sizeOf5
  v5:=Tryz.zeroValue5
  t9:=Tryz.underlying9
  a9:=Tryz.isAgg9
  z9:=Tryz.sizeOf9
  v9:=Tryz.zeroValue9
  t37:=Tryz.underlying35
  a37:=Tryz.isAgg35
  z37:=Tryz.sizeOf35
  v37:=Tryz.zeroValue35
  t51:=Tryz.underlying45
  a51:=Tryz.isAgg45
  z51:=Tryz.sizeOf45
  v51:=Tryz.zeroValue45
  t53:=Tryz.underlying52
  a53:=Tryz.isAgg52
  z53:=Tryz.sizeOf52
  v53:=Tryz.zeroValue52}
def lays171_ren:Go.Shelf.Ren:=⟨fun | 171=>43 | 243=>70 | 246=>94 | 283=>95 | 284=>96 | 285=>97 | 286=>98 | 129=>131 | 317=>130 | 318=>132 | 319=>133 | 320=>134 | 337=>165 | 338=>166 | n=>n,fun | 3=>3 | 9=>9 | 2=>2 | 4=>4 | 171=>134 | 0=>0 | 53=>52 | 37=>35 | 5=>5 | 173=>137 | 212=>163 | 51=>45 | 20=>20 | 213=>164 | 46=>87 | 232=>46 | 233=>113 | n=>n,fun | 17=>2 | 18=>5 | 19=>6 | n=>n⟩
theorem lays171:Go.Proofs.Lays.n171 Tryz.prog lays171_ren:={
  mixed:=by kernel_rfl
  f129:=Tryz.func131.trans (congrArg some (by kernel_rfl))
  f171:=Tryz.func43.trans (congrArg some (by kernel_rfl))
  f243:=Tryz.func70.trans (congrArg some (by kernel_rfl))
  f246:=Tryz.func94.trans (congrArg some (by kernel_rfl))
  f283:=Tryz.func95.trans (congrArg some (by kernel_rfl))
  f284:=Tryz.func96.trans (congrArg some (by kernel_rfl))
  f285:=Tryz.func97.trans (congrArg some (by kernel_rfl))
  f286:=Tryz.func98.trans (congrArg some (by kernel_rfl))
  f317:=Tryz.func130.trans (congrArg some (by kernel_rfl))
  f318:=Tryz.func132.trans (congrArg some (by kernel_rfl))
  f319:=Tryz.func133.trans (congrArg some (by kernel_rfl))
  f320:=Tryz.func134.trans (congrArg some (by kernel_rfl))
  f337:=Tryz.func165.trans (congrArg some (by kernel_rfl))
  f338:=Tryz.func166.trans (congrArg some (by kernel_rfl))
  t0:=Tryz.underlying0
  a0:=Tryz.isAgg0
  z0:=Tryz.sizeOf0
  v0:=Tryz.zeroValue0
  t2:=Tryz.underlying2
  a2:=Tryz.isAgg2
  z2:=Tryz.sizeOf2
  v2:=Tryz.zeroValue2
  t3:=Tryz.underlying3
  a3:=Tryz.isAgg3
  z3:=Tryz.sizeOf3
  v3:=Tryz.zeroValue3
  t4:=Tryz.underlying4
  a4:=Tryz.isAgg4
  z4:=Tryz.sizeOf4
  v4:=Tryz.zeroValue4
  t5:=Tryz.underlying5
  a5:=Tryz.isAgg5
  z5:=Tryz.sizeOf5
  v5:=Tryz.zeroValue5
  t9:=Tryz.underlying9
  a9:=Tryz.isAgg9
  z9:=Tryz.sizeOf9
  v9:=Tryz.zeroValue9
  t20:=Tryz.underlying20
  a20:=Tryz.isAgg20
  z20:=Tryz.sizeOf20
  v20:=Tryz.zeroValue20
  t37:=Tryz.underlying35
  a37:=Tryz.isAgg35
  z37:=Tryz.sizeOf35
  v37:=Tryz.zeroValue35
  t46:=Tryz.underlying87
  a46:=Tryz.isAgg87
  z46:=Tryz.sizeOf87
  v46:=Tryz.zeroValue87
  t51:=Tryz.underlying45
  a51:=Tryz.isAgg45
  z51:=Tryz.sizeOf45
  v51:=Tryz.zeroValue45
  t53:=Tryz.underlying52
  a53:=Tryz.isAgg52
  z53:=Tryz.sizeOf52
  v53:=Tryz.zeroValue52
  t171:=Tryz.underlying134
  a171:=Tryz.isAgg134
  z171:=Tryz.sizeOf134
  v171:=Tryz.zeroValue134
  t173:=Tryz.underlying137
  a173:=Tryz.isAgg137
  z173:=Tryz.sizeOf137
  v173:=Tryz.zeroValue137
  t212:=Tryz.underlying163
  a212:=Tryz.isAgg163
  z212:=Tryz.sizeOf163
  v212:=Tryz.zeroValue163
  t213:=Tryz.underlying164
  a213:=Tryz.isAgg164
  z213:=Tryz.sizeOf164
  t232:=Tryz.underlying46
  a232:=Tryz.isAgg46
  z232:=Tryz.sizeOf46
  v232:=Tryz.zeroValue46
  t233:=Tryz.underlying113
  a233:=Tryz.isAgg113
  z233:=Tryz.sizeOf113
  v233:=Tryz.zeroValue113
  g17:=by kernel_rfl
  g18:=by kernel_rfl
  g19:=by kernel_rfl}
open Go.RowKit Go.Sort Go.Lib
theorem smallS (i:Nat) (h:i<100) (w:World):Calls Tryz.prog 95 #[.int .i64 i] w fun e w'=>e=.returned (.string ⟨(Lib.decDigits i).toArray⟩)∧w'=w:=Any.internal_strconv_small lays283 i h w
theorem numDigitsS (u:Nat) (h1:1≤u) (h2:u<18446744073709551616) (w:World) (htab:Lib.TabIs Tryz.prog w "internal/strconv.uint64pow10" .u64 Lib.pow10Tab) :
    Calls Tryz.prog 96 #[.int .u64 u] w fun e w'=>e=.returned (.int .i64 (Lib.nDigits u))∧w'=w:=Any.internal_strconv_numDigits laysM284 u h1 h2 w htab
theorem formatS (blk off cap u:Nat) (d:Array UInt8) (w:World) (hH:Holds (fun (b:UInt8)=>Value.int .u8 (b.toNat:Int)) w blk off d) (hu:u<10^d.size) (hu64:u<18446744073709551616) (hsz:d.size<4611686018427387904) :
    Calls Tryz.prog 97 #[.slice (some ⟨blk,off,none⟩) d.size cap,.int .u64 u] w fun e w' =>
      e=.returned (.tuple #[])∧∃ (n v':Nat) (dk:Array UInt8),w'=(putRow (fun (b:UInt8)=>Value.int .u8 (b.toNat:Int)) w blk off dk).drewN n∧FmtInv d.size u 0 v' dk:=Any.internal_strconv_formatBase10 lays285 blk off cap u d w hH hu hu64 hsz
open Go Go.Shelf Go.RowKit Go.Sort Go.Lib
theorem holds_zero0 (w:World) (T:TypeId) (nd:Nat) (hs:nd≤24):Holds (fun (b:UInt8)=>Value.int .u8 (b.toNat:Int)) (w.alloc (.cells zeros24 T)) w.heap.size 0 (Array.replicate nd (0:UInt8)):=fun j hj=>by
  have hj':j<nd:=by simpa using hj
  refine ⟨?_,World.frozen?_alloc_new _ _ _ _⟩
  rw [World.cell?_alloc_new,zeros24_at _ (by omega),getElem!_pos _ j hj]
  simp
theorem fin_pos0 (w:World) (o:Obj) (dk:Array UInt8) (k:Nat):∃ os,(putRow (fun (b:UInt8)=>Value.int .u8 (b.toNat:Int)) (w.alloc o) w.heap.size 0 dk).drewN k=Go.Sort.grow (w.drewN k) os:=by
  rw [alloc_eq_grow]
  obtain ⟨os',_,e⟩:=putRow_grow_new (fun (b:UInt8)=>Value.int .u8 (b.toNat:Int)) w #[o] w.heap.size 0 dk (Nat.le_refl _)
  exact ⟨os',by rw [e];rfl⟩
set_option maxHeartbeats 6400000 in
theorem fmtU_any (u : Nat) (hu64 : u < 18446744073709551616) (w : World) (htab : Lib.TabIs Tryz.prog w "internal/strconv.uint64pow10" .u64 Lib.pow10Tab) :
    Calls Tryz.prog 71 #[.int .u64 u,.int .i64 10] w fun e w'=>e=.returned (.string ⟨(Lib.decDigits u).toArray⟩)∧Below w.heap.size w w':=by
  by_cases hs:u<100
  · go_enter Tryz.func71, Tryz.ntmps71
    go_wp2_with (go_at_call 95;refine (smallS u hs _).mono ?_;rintro e w' ⟨rfl,rfl⟩)
    go_ret
    exact ⟨rfl,Below.refl _ _⟩
  · have hu1 : 1 ≤ u := by omega
    have hnd20:Lib.nDigits u≤20:=by have:=Lib.numDigits_eq u hu1 hu64;split at this<;>omega
    have hb3:Lib.nDigits u≤24:=by omega
    have hal:Tryz.prog.arrayLen 134=24:=by kernel_rfl
    have hsl1:∀ W,(Instr.sliceAt 134 (.pointer (some ⟨w.heap.size,0,none⟩)) none (some (.int .i64 (Lib.nDigits u:Int))) none).run Tryz.prog W=.ok (.slice (some ⟨w.heap.size,0,none⟩) (Lib.nDigits u) 24) W:=fun W=>by
      rw [run_sliceAt_array_h W 134 ⟨w.heap.size,0,none⟩ (by kernel_rfl) .i64 (Lib.nDigits u:Int) (by omega) (by rw [hal];omega)]
      go_simp
    have hH0:=holds_zero0 w 134 (Lib.nDigits u) (by omega)
    have hfmt:=formatS w.heap.size 0 24 u (Array.replicate (Lib.nDigits u) 0) (w.alloc (.cells Lib.zeros24 134)) hH0 (by rw [Array.size_replicate];exact Lib.lt_pow_nDigits u) hu64 (by rw [Array.size_replicate];omega)
    rw [Array.size_replicate] at hfmt
    have HH0:=Lib.hid hH0
    clear hH0 hal
    go_enter Tryz.func71,Tryz.ntmps71
    go_wp2_with (first
      | (go_at_call 96;refine (numDigitsS u hu1 hu64 _ (Lib.tabIs_alloc htab _)).mono ?_;rintro e w' ⟨rfl,rfl⟩))
    go_at_call 97
    refine hfmt.mono ?_
    rintro e w' ⟨rfl,k,v',dk,rfl,hF⟩
    have hcv:(convert 35 9 (.slice (some ⟨w.heap.size,0,none⟩) (Lib.nDigits u) 24)).run Tryz.prog ((putRow (fun (b:UInt8)=>Value.int .u8 (b.toNat:Int)) (w.alloc (.cells Lib.zeros24 134)) w.heap.size 0 dk).drewN k)=.ok (.string ⟨(Lib.decDigits u).toArray⟩) ((putRow (fun (b:UInt8)=>Value.int .u8 (b.toNat:Int)) (w.alloc (.cells Lib.zeros24 134)) w.heap.size 0 dk).drewN k):=by
      have h:=run_convert_bytes_back (P:=Tryz.prog) ((putRow (fun (b:UInt8)=>Value.int .u8 (b.toNat:Int)) (w.alloc (.cells Lib.zeros24 134)) w.heap.size 0 dk).drewN k) 35 9 5 ⟨w.heap.size,0,none⟩ 24 (Lib.decDigits u) Tryz.underlying35 Tryz.underlying5 Tryz.underlying9 (fun j hj=>by
        rw [Lib.row_is_numeral hF j hj,Lib.add_plain,World.cell?_drewN]
        exact cell?_putRow (fun (b:UInt8)=>Value.int .u8 (b.toNat:Int)) _ w.heap.size 0 _ dk HH0.out (by rw [hF.size,Array.size_replicate]) j (by rw [hF.size];rw [Lib.decDigits_length] at hj;exact hj))
      rw [Lib.decDigits_length] at h
      exact h
    go_wp2
    go_ret
    obtain ⟨os,eo⟩:=fin_pos0 w (.cells Lib.zeros24 134) dk k
    refine ⟨rfl,?_⟩
    have hb:=Lib.below_grow w.heap.size w (Nat.le_refl _) k os
    rw [← eo] at hb
    exact hb
theorem fmt_any (u:Nat) (hu64:u<18446744073709551616) (w:World) (htab:Lib.TabIs Tryz.prog w "internal/strconv.uint64pow10" .u64 Lib.pow10Tab) :
    Calls Tryz.prog 44 #[.int .u64 u,.int .i64 10] w fun e w'=>e=.returned (.string ⟨(Lib.decDigits u).toArray⟩)∧Below w.heap.size w w':=by
  go_enter Tryz.func44,Tryz.ntmps44
  go_wp2_with (go_at_call 71;refine (fmtU_any u hu64 _ htab).mono ?_;rintro e w' ⟨rfl,hb⟩)
  go_ret
  exact ⟨rfl,hb⟩
end
theorem pad_any (n:Nat) (hn:n≤140737488351232) (w0:World):Calls Tryz.prog 76 #[vx n] w0 (fun ε w'=>∃ α κ,ε=.returned (.slice α (aY n).length κ)∧jG w0 w'∧Fs w0 w' α κ (aY n)):=by
 refine Calls.of_ok (n:=33) (F:=(fun _=>True)) Tryz.func76 rfl rfl rfl (by simp) jT ?_
 refine jJ Tryz.f76 1 [0,2] [vz] ?_
 refine sS Tryz.f76 6 [0,2,3] [] (fun _=>[vx n,vx (n+9),vx ((n+9)%64),vx (64-((n+9)%64)),vx (zeros n),vx (zeros n)]) (fun _=>[]) (cR [[]]<|cA (v:=fun ρ=>(.int .u64 (IntKind.u64.wrap (((n:Nat):Int)+9)))) (fun _=>(vx (n+9))) (fun _=>congrArg (Value.int .u64) (vW n 9 (by have:=aS n;omega)))<|cB (a:=fun ρ=>(vx (n+9))) (b:=fun ρ=>(.int .u64 64)) (v:=fun ρ=>(vx ((n+9)%64))) .rem 52 (fun _ w=>zT (k:=.u64) (n:=(n+9)) (d:=64) (by decide) w)<|cA (v:=fun ρ=>(.int .u64 (IntKind.u64.wrap (64-(((n+9)%64:Nat):Int))))) (fun _=>(vx (64-((n+9)%64)))) (fun _=>congrArg (Value.int .u64) (u64_subN 64 ((n+9)%64) (by have:=aS n;omega) (by have:=aS n;omega)))<|cB (a:=fun ρ=>(vx (64-((n+9)%64)))) (b:=fun ρ=>(.int .u64 64)) (v:=fun ρ=>(vx (zeros n))) .rem 52 (fun _ w=>zT (k:=.u64) (n:=64-(n+9)%64) (d:=64) (by decide) w)<|jE [[]]) (fun _=>?_)
 refine sS Tryz.f76 6 [0,2,4] [] (fun ρ=>let qa:=vs (nb ρ 4) (List.replicate (zeros n+1) (0:UInt8)).length (9+(zeros n));[vx (zeros n),vx (zeros n+1),vx (zeros n),vx (9+(zeros n)),qa,qa]) (fun ρ=>[(4,(nw ρ 4 (cL (zB (9+(zeros n))) 5)))]) (cR [[]]<|cA (v:=fun ρ=>(.int .u64 (IntKind.u64.wrap (1+((zeros n:Nat):Int))))) (fun _=>(vx (zeros n+1))) (fun _=>congrArg (Value.int .u64) ((vW 1 (zeros n) (by have:=aS n;omega)).trans (by omega)))<|cR [[]]<|cA (v:=fun ρ=>(.int .u64 (IntKind.u64.wrap (9+((zeros n:Nat):Int))))) (fun _=>(vx (9+(zeros n)))) (fun _=>congrArg (Value.int .u64) (vW 9 (zeros n) (by have:=aS n;omega)))<|cX (uB _ (fun _=>do pure (Next.value (← Instr.makeSlice 35 (vx (zeros n+1)) (vx (9+(zeros n)))))) (fun _ ζ=>(vs (ζ.headD 0) (List.replicate (zeros n+1) (0:UInt8)).length (9+(zeros n)))) (fun _ _=>(cL (zB (9+(zeros n))) 5)) (fun _ _=>(by kernel_rfl)) (fun _=>(by kernel_rfl)) (fun _ _=>trivial) (fun _ _ w _=>mM Tryz.underlying35 nH (List.replicate (zeros n+1) (0:UInt8)) ((rfl).trans (by rw [List.length_replicate])) (rfl) (by have:=hn;have:=aS n;rw [List.length_replicate];omega) (by have:=aS n;omega) w))<|jE [[]]) (fun ρ3=>?_)
 refine sS Tryz.f76 3 [0,2,4] [] (fun _=>[vs (nb ρ3 4) (List.replicate (zeros n+1) (0:UInt8)).length (9+(zeros n)),jp (nb ρ3 4) 0,undef]) (fun _=>[(2,(bD 0 (nb ρ3 4) (cL ((zB (9+zeros n)).setIfInBounds 0 (.int .u8 128)) 5)))]) (cR [[]]<|cX (qS (fun _ w=>uI (g:=nb ρ3 4) (c:=9+(zeros n)) (k:=.i64) Tryz.underlying35 nH (show 0=((0:Nat):Int) from rfl) (show 0<(List.replicate (zeros n+1) (0:UInt8)).length from (by have:=hn;have:=aS n;rw [List.length_replicate];omega)) w))<|cX (qG _ 0 5 (fun _=>nb ρ3 4) (fun _=>0) (fun _=>(zB (9+(zeros n)))) (fun _=>((zB (9+zeros n)).setIfInBounds 0 (.int .u8 128))) 5 (fun _=>(.int .u8 128)) (fun _=>by kernel_rfl) Tryz.sizeOf5 (fun _=>rfl) (fun _=>(by rw [oD];omega)) (fun _=>rfl))<|cN) (fun _=>?_)
 refine aB (jJ Tryz.f76 1 [0,2,4,18] [vi 0] (aI ?_))
 refine oL (σ:=Nat × (List UInt8) × (Array Value)) (fun ⟨i,X,_⟩=>[(0,(vx n)),(2,vz),(4,(vs (nb ρ3 4) X.length (9+zeros n))),(18,(vn i))]) (fun ⟨_,_,C⟩=>[(nb ρ3 4,(cL C 5))]) (fun ⟨i,_,_⟩=>8-i)
   (fun ⟨i,X,C⟩=>(i≤8)∧(X=128::(List.replicate (zeros n) 0++be8 (8*n) i))∧(Hd C X)∧(C.size=9+zeros n)) (0,128::List.replicate (zeros n) (0:UInt8),(zB (9+zeros n)).setIfInBounds 0 (.int .u8 128)) (⟨by decide,by simp [be8],pad_hd0 n,by rw [Array.size_setIfInBounds,oD]⟩) [] ?_
 rintro ⟨i,X,C⟩ ⟨hi,hX,hC,hs⟩
 change Ok Tryz.prog _ _ 33 [(0,(vx n)),(2,vz),(4,(vs (nb ρ3 4) X.length (9+zeros n))),(18,(vn i))] _ [(nb ρ3 4,(cL C 5))] (fun _=>True)
 refine jJ Tryz.f76 1 [0,2,4,18,19] [.bool (decide (((i:Nat):Int)<8))] (aB ?_)
 refine oC (decide (((i:Nat):Int)<8)) (fun hb1=>?_) (fun hb1=>?_)
 ·
  rw [hb1]
  have:=yT hb1
  refine aG (aA (aB (aI (jJ Tryz.f76 2 [0,2,4,5,18] [vn i,vn i] ?_))))
  refine rS Tryz.f76 11 [0,2,4,18] [1,0] (fun ρ=>let qa:=([ob ((8*n / 2^(56-8*i)%256:Nat):Int)]:List UInt8);let qb:=vs (nb ρ3 4) (X++qa).length (9+zeros n);[vs (nb ρ3 4) X.length (9+zeros n),vx n,vx (8*n),vn i,vn (8*i),vn (56-8*i),vx (8*n / 2^(56-8*i)),vy (8*n / 2^(56-8*i)%256),vs (nb ρ 8) qa.length 1,qb,qb]) (fun ρ=>[(8,(nw ρ 8 (cL #[vy (8*n / 2^(56-8*i)%256)] 5))),(9,(bD 0 (nb ρ3 4) (cL (inpl C X.length (bs ([ob ((8*n / 2^(56-8*i)%256:Nat):Int)]:List UInt8))) 5)))]) (cR [[],[]]<|cA (v:=fun ρ=>(.int .u64 (IntKind.u64.wrap (8*((n:Nat):Int))))) (fun _=>(vx (8*n))) (fun _=>congrArg (Value.int .u64) (u64_mulN 8 n (by have:=aS n;have:=dZ hX;omega)))<|cR [[]]<|jW (fun ρ=>(8*((i:Nat):Int))) (fun _=>(8*i)) (fun _=>(fQ 8 i (by have:=aS n;have:=dZ hX;omega)))<|jW (fun ρ=>(56-((8*i:Nat):Int))) (fun _=>(56-8*i)) (fun _=>((gZ (by have:=aS n;have:=dZ hX;omega)).trans (by have:=aS n;have:=dZ hX;omega)))<|cB (a:=fun ρ=>(vx (8*n))) (b:=fun ρ=>(vn (56-8*i))) (v:=fun ρ=>(vx (8*n / 2^(56-8*i)))) .shr 52 (fun _ w=>gG (k:=.u64) (x:=8*n) (c:=56-8*i) (by have:=hn;have:=aS n;have:=hi;have:=dZ hX;show 8*n<18446744073709551616;omega) w)<|cA (fun _=>(vy (8*n / 2^(56-8*i)%256))) (fun _=>congrArg (Value.int .u8) (u8M (8*n / 2^(56-8*i))))<|cR [[]]<|cX (o9 _ 0 (fun ρ=>do pure (Next.value (← Builtin.append_ #[35,35] 35 #[vs (nb ρ3 4) X.length (9+zeros n),vs (nb ρ 8) ([ob ((8*n / 2^(56-8*i)%256:Nat):Int)]:List UInt8).length 1]))) (fun _=>nb ρ3 4) (fun _=>(cL C 5)) (fun _=>(cL (inpl C X.length (bs ([ob ((8*n / 2^(56-8*i)%256:Nat):Int)]:List UInt8))) 5)) (fun _=>(vs (nb ρ3 4) (X++([ob ((8*n / 2^(56-8*i)%256:Nat):Int)]:List UInt8)).length (9+zeros n))) (fun _=>(by kernel_rfl)) (fun _=>(by kernel_rfl)) (fun _=>(by kernel_rfl)) (fun _=>(by kernel_rfl)) (fun _ _=>trivial) (fun ρ _ _ hG hg=>kD Tryz.underlying35 nH hg (Bs.src (tx:=35) Tryz.underlying35 (Bs.of_hd (hG.kn (g:=nb ρ 8) (o:=(cL #[vy (8*n / 2^(56-8*i)%256)] 5)) 65) (hd1 (by omega)) (Nat.le_refl 1) (Nat.le_of_ble_eq_true rfl))) hs (by have:=hn;have:=aS n;have:=hi;have:=dZ hX;simp only [List.length_cons,List.length_nil];omega)))<|jE [[]]) (fun _=>?_)
  refine aJ (aA ?_)
  refine rS Tryz.f76 2 [0,2,4,18] [] (fun _=>[vn (i+1),vn (i+1)]) (fun _=>[]) (jW (fun ρ=>(((i:Nat):Int)+1)) (fun _=>(i+1)) (fun _=>(aW i 1 (by have:=aS n;have:=dZ hX;omega)))<|jE [[]]) (fun _=>?_)
  exact mN (i+1,X++([ob ((8*n / 2^(56-8*i)%256:Nat):Int)]:List UInt8),inpl C X.length (bs ([ob ((8*n / 2^(56-8*i)%256:Nat):Int)]:List UInt8))) (by show 8-(i+1)<8-i;have:=aS n;have:=dZ hX;omega) (⟨(by have:=aS n;have:=dZ hX;omega),pad_next hX,Hd.inpl hC rfl,(lG _ _ _ (room_le hs (by have:=hn;have:=aS n;have:=hi;have:=dZ hX;simp only [List.length_cons,List.length_nil];omega))).trans hs⟩) []
 rw [hb1]
 refine bF (aN (aN (aT (aA (jJ Tryz.f76 2 [2] (let qa:=vs (nb ρ3 4) X.length (9+zeros n);[qa,qa]) (aF (mD [(2,(vs (nb ρ3 4) X.length (9+zeros n)))] [(nb ρ3 4,(cL C 5))] ?_)))))))
 exact mR (v:=(vs (nb ρ3 4) X.length (9+zeros n))) (fun _ hS=>⟨some ⟨nb ρ3 4,0,none⟩,9+zeros n,congrArg Ending.returned (by rw [(pad_end hX (by have:=yF hb1;have:=aS n;have:=dZ hX;omega))]),hS.bel,dU (pad_end hX (by have:=yF hb1;have:=aS n;have:=dZ hX;omega)) (hS.fresh (.head _) hC (by have:=aS n;have:=dZ hX;omega) (by have:=aS n;have:=dZ hX;omega))⟩)
theorem shrow_any (g:Nat) (n:Nat) (pa:Nat→Option Addr) (pc:Nat→Nat) (pB:Nat→List UInt8) (hn:n≤16) (hl:(mZ pB n).length≤140737488351232) (h0:0<(pB 0).length) (w0:World) (hf0:Kb w0 g (xO n pa pc pB)) (hf1:rO w0 n pa pc pB):Calls Tryz.prog 49 #[vs g n n] w0 (fun ε w'=>∃ α κ,ε=.returned (.slice α (mZ pB n).length κ)∧jG w0 w'∧Fs w0 w' α κ (mZ pB n)):=by
 refine Calls.of_ok (n:=17) (F:=(fun w=>Kb w g (xO n pa pc pB)∧rO w n pa pc pB∧True)) Tryz.func49 rfl rfl rfl (by simp) (hf0.pers0.and (hf1.pers0.and cO)) ?_
 refine jJ Tryz.f49 1 [0,2] [vz] (jJ Tryz.f49 1 [0,2,3] [vz] (aB (jJ Tryz.f49 3 [2,3,6,7,8] [vs g n n,vn n,vi 0] (aI ?_))))
 refine oL (σ:=Nat ⊕ (Nat × Nat × (List UInt8) × (Array Value) × Nat)) (fun s=>match s with | Sum.inl i=>[(2,vz),(3,vz),(6,(vs g n n)),(7,(vn n)),(8,(vn i))] | Sum.inr ⟨i,q,X,_,κ⟩=>[(2,vz),(3,(vs q X.length κ)),(6,(vs g n n)),(7,(vn n)),(8,(vn i))]) (fun s=>match s with | Sum.inl _=>[] | Sum.inr ⟨_,q,_,C,_⟩=>[(q,(cL C 5))]) (fun s=>match s with | Sum.inl i=>n-i | Sum.inr ⟨i,_,_,_,_⟩=>n-i)
   (fun s=>match s with | Sum.inl i=>(i≤n)∧(i=0) | Sum.inr ⟨i,_,X,C,κ⟩=>(i≤n)∧(X=mZ pB i)∧(Hd C X)∧(C.size=κ)∧(X.length≤κ)) (Sum.inl 0) (⟨Nat.zero_le _,rfl⟩) [] ?_
 rintro (i | ⟨i,q,X,C,κ⟩)
 ·
  rintro ⟨hi,h0i⟩
  change Ok Tryz.prog _ _ 17 [(2,vz),(3,vz),(6,(vs g n n)),(7,(vn n)),(8,(vn i))] _ [] (fun w=>Kb w g (xO n pa pc pB)∧rO w n pa pc pB∧True)
  refine jJ Tryz.f49 1 [2,3,6,7,8,9] [.bool (decide (((i:Nat):Int)<((n:Nat):Int)))] (aB ?_)
  refine oC (decide (((i:Nat):Int)<((n:Nat):Int))) (fun hb1=>?_) (fun hb1=>?_)
  ·
   rw [hb1]
   have:=yT hb1
   refine aG (aA (aB (aI ?_)))
   refine sS Tryz.f49 3 [2,3,5,6,7,8] [] (fun _=>let qa:Value:=.slice (pa i) (pB i).length (pc i);[jp g i,qa,qa]) (fun _=>[]) (cX (qS (fun _ w=>sO (g:=g) (c:=n) (k:=.i64) Tryz.underlying114 Tryz.sizeOf35 (show ((i:Nat):Int)=((i:Nat):Int) from rfl) (show i<n from (by omega)) w))<|cX (qF (v:=fun ρ=>(.slice (pa i) (pB i).length (pc i))) (fun _ _ _ hG=>mY (off:=i) Tryz.isAgg35 hG.fn.1 (uX (by omega))))<|jE [[]]) (fun _=>?_)
   refine rS Tryz.f49 4 [2,3,6,7,8] [] (fun ρ=>let qa:=vs (nb ρ 2) (pB i).length ((pB i).length+aZ ρ 2);[vz,.slice (pa i) (pB i).length (pc i),qa,qa]) (fun ρ=>[(2,(nw ρ 2 (cL ((bs (pB i)).toArray++zB (aZ ρ 2)) 5)))]) (cR [[],[]]<|cX (qN (fun _ ζ=>(vs (ζ.headD 0) (pB i).length ((pB i).length+ζ.tail.headD 0))) (fun _ ζ=>(cL ((bs (pB i)).toArray++zB (ζ.tail.headD 0)) 5)) (fun _ _ _ hG=>xBV (ty:=35) Tryz.underlying35 nH (Bs.src (tx:=35) Tryz.underlying35 (hG.fn.2.1 i (by omega))) (by rw [h0i];exact h0) (by have h1:=(sH pB (show i<n by omega));omega)))<|jE [[]]) (fun ρ6=>?_)
   refine aJ (aA ?_)
   refine rS Tryz.f49 2 [2,3,6,7,8] [] (fun _=>[vn (i+1),vn (i+1)]) (fun _=>[]) (jW (fun ρ=>(((i:Nat):Int)+1)) (fun _=>(i+1)) (fun _=>(aW i 1 (by omega)))<|jE [[]]) (fun _=>?_)
   exact mN (Sum.inr (i+1,nb ρ6 2,pB i,(bs (pB i)).toArray++zB (aZ ρ6 2),(pB i).length+aZ ρ6 2)) (by show n-(i+1)<n-i;omega) (⟨(by omega),(by rw [h0i];rfl),Hd.fresh _ _,xAR _ _,Nat.le_add_right _ _⟩) []
  rw [hb1]
  refine bF (aN (aN (aT (aA (jJ Tryz.f49 2 [2] [vz,vz] (aF (mD [(2,vz)] [] ?_)))))))
  exact mR (v:=vz) (fun _ hS=>⟨none,0,congrArg Ending.returned (by rw [← (show ([]:List UInt8)=mZ pB n by rw [show n=0 by have:=yF hb1;omega];rfl)];rfl),hS.bel,dU (show ([]:List UInt8)=mZ pB n by rw [show n=0 by have:=yF hb1;omega];rfl) Fs.nil⟩)
 rintro ⟨hi,hX,hC,hs,hle⟩
 change Ok Tryz.prog _ _ 17 [(2,vz),(3,(vs q X.length κ)),(6,(vs g n n)),(7,(vn n)),(8,(vn i))] _ [(q,(cL C 5))] (fun w=>Kb w g (xO n pa pc pB)∧rO w n pa pc pB∧True)
 refine jJ Tryz.f49 1 [2,3,6,7,8,9] [.bool (decide (((i:Nat):Int)<((n:Nat):Int)))] (aB ?_)
 refine oC (decide (((i:Nat):Int)<((n:Nat):Int))) (fun hb2=>?_) (fun hb2=>?_)
 ·
  rw [hb2]
  have:=yT hb2
  refine aG (aA (aB (aI ?_)))
  refine sS Tryz.f49 3 [2,3,5,6,7,8] [] (fun _=>let qa:Value:=.slice (pa i) (pB i).length (pc i);[jp g i,qa,qa]) (fun _=>[]) (cX (qS (fun _ w=>sO (g:=g) (c:=n) (k:=.i64) Tryz.underlying114 Tryz.sizeOf35 (show ((i:Nat):Int)=((i:Nat):Int) from rfl) (show i<n from (by omega)) w))<|cX (qF (v:=fun ρ=>(.slice (pa i) (pB i).length (pc i))) (fun _ _ _ hG=>mY (off:=i) Tryz.isAgg35 hG.fn.1 (uX (by omega))))<|jE [[]]) (fun _=>?_)
  rcases Bool.eq_false_or_eq_true (decide (X.length+(pB i).length≤κ)) with hb3 | hb3
  ·
   refine rS Tryz.f49 4 [2,3,6,7,8] [] (fun _=>let qa:=vs q (X++(pB i)).length κ;[vs q X.length κ,.slice (pa i) (pB i).length (pc i),qa,qa]) (fun _=>[(2,(bD 0 q (cL (inpl C X.length (bs (pB i))) 5)))]) (cR [[],[]]<|cX (o9 _ 0 (fun _=>do pure (Next.value (← Builtin.append_ #[35,35] 35 #[vs q X.length κ,.slice (pa i) (pB i).length (pc i)]))) (fun _=>q) (fun _=>(cL C 5)) (fun _=>(cL (inpl C X.length (bs (pB i))) 5)) (fun _=>(vs q (X++(pB i)).length κ)) (fun _=>(by kernel_rfl)) (fun _=>(by kernel_rfl)) (fun _=>(by kernel_rfl)) (fun _=>(by kernel_rfl)) (fun _ _=>trivial) (fun _ _ _ hG hg=>kD Tryz.underlying35 nH hg (Bs.src (tx:=35) Tryz.underlying35 (hG.fn.2.1 i (by have:=yT hb3;omega))) hs (yT hb3)))<|jE [[]]) (fun _=>?_)
   refine aJ (aA ?_)
   refine rS Tryz.f49 2 [2,3,6,7,8] [] (fun _=>[vn (i+1),vn (i+1)]) (fun _=>[]) (jW (fun ρ=>(((i:Nat):Int)+1)) (fun _=>(i+1)) (fun _=>(aW i 1 (by have:=yT hb3;omega)))<|jE [[]]) (fun _=>?_)
   exact mN (Sum.inr (i+1,q,X++(pB i),inpl C X.length (bs (pB i)),κ)) (by show n-(i+1)<n-i;have:=yT hb3;omega) (⟨(by have:=yT hb3;omega),(by rw [hX];rfl),Hd.inpl hC rfl,(lG _ _ _ (room_le hs (yT hb3))).trans hs,oK (yT hb3)⟩) []
  refine rS Tryz.f49 4 [2,3,6,7,8] [0,1] (fun ρ=>let qa:=vs (nb ρ 2) (X++(pB i)).length ((X++(pB i)).length+aZ ρ 2);[vs q X.length κ,.slice (pa i) (pB i).length (pc i),qa,qa]) (fun ρ=>[(2,(nw ρ 2 (cL (grow C X.length (bs (pB i)) (aZ ρ 2)) 5)))]) (cR [[],[]]<|cX (qN (fun _ ζ=>(vs (ζ.headD 0) (X++(pB i)).length ((X++(pB i)).length+ζ.tail.headD 0))) (fun _ ζ=>(cL (grow C X.length (bs (pB i)) (ζ.tail.headD 0)) 5)) (fun _ _ _ hG=>xG (ty:=35) Tryz.underlying35 nH (hG.kn (g:=q) (o:=(cL C 5)) 0) (Bs.src (tx:=35) Tryz.underlying35 (hG.fn.2.1 i (by have:=yF hb3;omega))) hs hle (Nat.lt_of_not_le (yF hb3)) (by have h1:=(sH pB (show i<n by have:=yF hb3;omega));rw [← hX] at h1;exact Nat.le_trans h1 hl)))<|jE [[]]) (fun ρ13=>?_)
  refine aJ (aA ?_)
  refine rS Tryz.f49 2 [2,3,6,7,8] [] (fun _=>[vn (i+1),vn (i+1)]) (fun _=>[]) (jW (fun ρ=>(((i:Nat):Int)+1)) (fun _=>(i+1)) (fun _=>(aW i 1 (by have:=yF hb3;omega)))<|jE [[]]) (fun _=>?_)
  exact mN (Sum.inr (i+1,nb ρ13 2,X++(pB i),grow C X.length (bs (pB i)) (aZ ρ13 2),(X++(pB i)).length+aZ ρ13 2)) (by show n-(i+1)<n-i;have:=yF hb3;omega) (⟨(by have:=yF hb3;omega),(by rw [hX];rfl),Hd.grow hC rfl,tX hC,Nat.le_add_right _ _⟩) []
 rw [hb2]
 refine bF (aN (aN (aT (aA (jJ Tryz.f49 2 [2] [vs q X.length κ,vs q X.length κ] (aF (mD [(2,(vs q X.length κ))] [(q,(cL C 5))] ?_)))))))
 exact mR (v:=(vs q X.length κ)) (fun _ hS=>⟨some ⟨q,0,none⟩,κ,congrArg Ending.returned (by rw [← (show X=mZ pB n from hX.trans (by rw [show i=n by have:=yF hb2;omega]))]),hS.bel,dU (show X=mZ pB n from hX.trans (by rw [show i=n by have:=yF hb2;omega])) (hS.fresh (.head _) hC hle (by rw [hX];exact Nat.le_trans (catB_le pB hi) hl))⟩)
theorem yA (g:Nat) (a0:Option Addr) (c0:Nat) (B0:List UInt8) (a1:Option Addr) (c1:Nat) (B1:List UInt8) (hl:B0.length+B1.length≤140737488351232) (h0:0<B0.length) (w0:World) (hf0:Kb w0 g #[.slice a0 B0.length c0,.slice a1 B1.length c1]) (hf1:Bs w0 a0 c0 B0) (hf2:Bs w0 a1 c1 B1):Calls Tryz.prog 49 #[.slice (some ⟨g,0,none⟩) 2 2] w0 (fun ε w'=>∃ α κ,ε=.returned (.slice α (B0++B1).length κ)∧jG w0 w'∧Fs w0 w' α κ (B0++B1)):=shrow_any g 2 (fun k=>[a0,a1].getD k none) (fun k=>[c0,c1].getD k 0) (fun k=>[B0,B1].getD k []) (by decide) (by show (([]++B0)++B1).length≤_;simp only [List.length_append,List.length_nil];omega) h0 w0 hf0 (allB2 hf1 hf2)
theorem shrow3_any (g:Nat) (a0:Option Addr) (c0:Nat) (B0:List UInt8) (a1:Option Addr) (c1:Nat) (B1:List UInt8) (a2:Option Addr) (c2:Nat) (B2:List UInt8) (hl:B0.length+B1.length+B2.length≤140737488351232) (h0:0<B0.length) (w0:World) (hf0:Kb w0 g #[.slice a0 B0.length c0,.slice a1 B1.length c1,.slice a2 B2.length c2]) (hf1:Bs w0 a0 c0 B0) (hf2:Bs w0 a1 c1 B1) (hf3:Bs w0 a2 c2 B2):Calls Tryz.prog 49 #[.slice (some ⟨g,0,none⟩) 3 3] w0 (fun ε w'=>∃ α κ,ε=.returned (.slice α ((B0++B1)++B2).length κ)∧jG w0 w'∧Fs w0 w' α κ ((B0++B1)++B2)):=shrow_any g 3 (fun k=>[a0,a1,a2].getD k none) (fun k=>[c0,c1,c2].getD k 0) (fun k=>[B0,B1,B2].getD k []) (by decide) (by show ((([]++B0)++B1)++B2).length≤_;simp only [List.length_append,List.length_nil];omega) h0 w0 hf0 (allB3 hf1 hf2 hf3)
theorem rotl_any (x:Nat) (n:Nat) (hx:x<4294967296) (hn:0<n∧n<32) (w0:World):Calls Tryz.prog 142 #[vu x,vi (0-((n:Nat):Int))] w0 (jR (vu (aH x n)) w0):=by
 refine Calls.of_ok (n:=17) (F:=(fun _=>True)) Tryz.func142 rfl rfl rfl (by simp) jT ?_
 refine jJ Tryz.f142 1 [0,1,4] [.int .u32 0] ?_
 refine sS Tryz.f142 4 [0,4,5] [] (fun _=>[vi (0-((n:Nat):Int)),vx (18446744073709551616-n),vx (32-n),vx (32-n)]) (fun _=>[]) (cR [[]]<|cA (fun _=>(vx (18446744073709551616-n))) (fun _=>congrArg (Value.int .u64) (u64_neg hn.1 hn.2))<|cA (fun _=>(vx (32-n))) (fun _=>congrArg (Value.int .u64) (and31 hn.1 hn.2))<|jE [[]]) (fun _=>?_)
 refine sS Tryz.f142 9 [4] [] (fun _=>[vu x,vx (32-n),vu (x*2^(32-n)%4294967296),vu x,vx (32-n),vx n,vu (x / 2^n),vu (aH x n),vu (aH x n)]) (fun _=>[]) (cR [[],[]]<|cB (a:=fun ρ=>(vu x)) (b:=fun ρ=>(vx (32-n))) (v:=fun ρ=>(vu (x*2^(32-n)%4294967296))) .shl 45 (fun _ w=>run_shlM (by omega) w)<|cR [[],[]]<|cA (fun _=>(vx n)) (fun _=>congrArg (Value.int .u64) (u64_32 hn.1 hn.2))<|cB (a:=fun ρ=>(vu x)) (b:=fun ρ=>(vx n)) (v:=fun ρ=>(vu (x / 2^n))) .shr 45 (fun _ w=>gG (k:=.u32) hx w)<|cA (fun _=>(vu (aH x n))) (fun _=>jN (or_rot hx))<|jE [[]]) (fun _=>?_)
 refine aF ?_
 exact mR (v:=(vu (aH x n))) (fun _ hS=>⟨rfl,hS.bel⟩)
theorem lS (x:Nat) (n:Nat) (hx:x<4294967296) (hn:0<n∧n<32) (w0:World):Calls Tryz.prog 107 #[vu x,vn n] w0 (jR (vu (aH x n)) w0):=by
 refine Calls.of_ok (n:=9) (F:=(fun _=>True)) Tryz.func107 rfl rfl rfl (by simp) jT ?_
 refine jJ Tryz.f107 1 [0,1,4] [.int .u32 0] ?_
 refine sS Tryz.f107 5 [4] [] (fun _=>[vu x,vn n,vi (0-((n:Nat):Int)),vu (aH x n),vu (aH x n)]) (fun _=>[]) (cR [[],[]]<|jU (fun ρ=>(0-((n:Nat):Int))) (fun _=>(0-((n:Nat):Int))) (fun _=>(gZ (by omega)))<|cC (fun _ w=>rotl_any x n hx hn w)<|jE [[]]) (fun _=>?_)
 refine aF ?_
 exact mR (v:=(vu (aH x n))) (fun _ hS=>⟨rfl,hS.bel⟩)
theorem zrow_sc (X:List UInt8):bY .u32 64 (fun _=>0)=bY .u32 64 (sc X 0 0):=fG fun m _=>(sc_zero X m).symm
theorem sched_any (X:List UInt8) (hX:X.length=64) (w0:World):Calls Tryz.prog 106 #[.agg (bs X).toArray] w0 (jR (.agg (bY .u32 64 (wN X))) w0):=by
 refine Calls.of_ok (n:=85) (F:=(fun _=>True)) Tryz.func106 rfl rfl rfl (by simp) jT ?_
 refine sS Tryz.f106 2 [1,2] [] (fun ρ=>[pt (nb ρ 0),pt (nb ρ 1)]) (fun ρ=>[(0,(nw ρ 0 (cL (bs X).toArray 113))),(1,(nw ρ 1 (cL (bY .u32 64 (fun _=>0)) 145)))]) (jE [[],[]]) (fun ρ1=>?_)
 refine sS Tryz.f106 1 [1,2,3] [] (fun ρ=>[pt (nb ρ 0)]) (fun ρ=>[(0,(nw ρ 0 (cL (bY .u32 64 (fun _=>0)) 145)))]) (jE [[]]) (fun ρ2=>?_)
 refine aB (jJ Tryz.f106 1 [1,2,3,9] [vi 0] (aI ?_))
 refine oL (σ:=Nat × (Array Value)) (fun ⟨i,_⟩=>[(1,(pt (nb ρ1 0))),(2,(pt (nb ρ1 1))),(3,(pt (nb ρ2 0))),(9,(vn i))]) (fun ⟨_,C⟩=>[(nb ρ1 0,(cL (bs X).toArray 113)),(nb ρ1 1,(cL (bY .u32 64 (fun _=>0)) 145)),(nb ρ2 0,(cL C 145))]) (fun ⟨i,_⟩=>16-i)
   (fun ⟨i,C⟩=>(i≤16)∧(C=bY .u32 64 (sc X i 0))) (0,bY .u32 64 (fun _=>0)) (⟨by decide,zrow_sc X⟩) [] ?_
 rintro ⟨i,C⟩ ⟨hi,hC⟩
 change Ok Tryz.prog _ _ 85 [(1,(pt (nb ρ1 0))),(2,(pt (nb ρ1 1))),(3,(pt (nb ρ2 0))),(9,(vn i))] _ [(nb ρ1 0,(cL (bs X).toArray 113)),(nb ρ1 1,(cL (bY .u32 64 (fun _=>0)) 145)),(nb ρ2 0,(cL C 145))] (fun _=>True)
 refine jJ Tryz.f106 1 [1,2,3,9,10] [.bool (decide (((i:Nat):Int)<16))] (aB ?_)
 refine oC (decide (((i:Nat):Int)<16)) (fun hb1=>?_) (fun hb1=>?_)
 ·
  rw [hb1]
  have:=yT hb1
  refine aG (aA (aB (aI (jJ Tryz.f106 2 [1,2,3,4,9] [vn i,vn i] (jJ Tryz.f106 1 [1,2,3,4,9,12] [vi 0] (aI ?_))))))
  refine oL (σ:=Nat × (Array Value)) (fun ⟨j,_⟩=>[(1,(pt (nb ρ1 0))),(2,(pt (nb ρ1 1))),(3,(pt (nb ρ2 0))),(4,(vn i)),(9,(vn i)),(12,(vn j))]) (fun ⟨_,C2⟩=>[(nb ρ1 0,(cL (bs X).toArray 113)),(nb ρ1 1,(cL (bY .u32 64 (fun _=>0)) 145)),(nb ρ2 0,(cL C2 145))]) (fun ⟨j,_⟩=>4-j)
    (fun ⟨j,C2⟩=>(j≤4)∧(C2=bY .u32 64 (sc X i j))) (0,C) (⟨by decide,hC⟩) [] ?_
  rintro ⟨j,C2⟩ ⟨hj,hC2⟩
  change Ok Tryz.prog _ _ 85 [(1,(pt (nb ρ1 0))),(2,(pt (nb ρ1 1))),(3,(pt (nb ρ2 0))),(4,(vn i)),(9,(vn i)),(12,(vn j))] _ [(nb ρ1 0,(cL (bs X).toArray 113)),(nb ρ1 1,(cL (bY .u32 64 (fun _=>0)) 145)),(nb ρ2 0,(cL C2 145))] (fun _=>True)
  refine jJ Tryz.f106 1 [1,2,3,4,9,12,13] [.bool (decide (((j:Nat):Int)<4))] (aB ?_)
  refine oC (decide (((j:Nat):Int)<4)) (fun hb2=>?_) (fun hb2=>?_)
  ·
   rw [hb2]
   have:=yT hb2
   refine aG (aA (aB (aI (jJ Tryz.f106 2 [1,2,3,4,5,9,12] [vn j,vn j] ?_))))
   refine rD Tryz.f106 [0,0,2,6,14,0,32,0,224,480,992,2016,4094,8191,16383] 15 [1,2,3,4,9,12] [] (fun _=>[vn i,vn i,jp (nb ρ2 0) i,vu (zJ X i j),vu (zJ X i j*256),vn i,vn (4*i),vn j,vn ((4*i)+j),jp (nb ρ1 0) ((4*i)+j),vy (gB X ((4*i)+j)),vu (gB X ((4*i)+j)),vu (zJ X i (j+1)),jp (nb ρ2 0) i,undef]) (fun _=>[(14,(bD 2 (nb ρ2 0) (cL (C2.setIfInBounds i (vu (zJ X i (j+1)))) 145)))]) (cR [[],[]]<|cX (jS (fun _=>Instr.indexAt 145 (pt (nb ρ2 0)) (vn i)) (fun _=>(jp (nb ρ2 0) i)) (fun _ w=>aX (n:=((i:Nat):Int)) (i:=i) Tryz.underlying145 Tryz.sizeOf45 (by omega) w))<|cX (kG _ 2 45 (fun _=>nb ρ2 0) (fun _=>i) (fun _=>C2) 145 (0,0) (fun _=>(vu (zJ X i j))) (fun _=>by kernel_rfl) Tryz.isAgg45 (fun _=>(by rw [hC2,nG (by omega),sc_at])))<|cB (a:=fun ρ=>(vu (zJ X i j))) (b:=fun ρ=>(.int .u64 8)) (v:=fun ρ=>(vu (zJ X i j*256))) .shl 45 (fun _ w=>run_pw8 (by omega) w)<|cR [[]]<|jW (fun ρ=>(4*((i:Nat):Int))) (fun _=>(4*i)) (fun _=>(fQ 4 i (by omega)))<|cR [[]]<|jW (fun ρ=>(((4*i:Nat):Int)+((j:Nat):Int))) (fun _=>((4*i)+j)) (fun _=>(aW (4*i) j (by omega)))<|cX (jS (fun _=>Instr.indexAt 113 (pt (nb ρ1 0)) (vn ((4*i)+j))) (fun _=>(jp (nb ρ1 0) ((4*i)+j))) (fun _ w=>aX (n:=(((4*i)+j:Nat):Int)) (i:=(4*i)+j) Tryz.underlying113 Tryz.sizeOf5 (by omega) w))<|cX (kG _ 0 5 (fun _=>nb ρ1 0) (fun _=>(4*i)+j) (fun _=>(bs X).toArray) 113 (0,0) (fun _=>(vy (gB X ((4*i)+j)))) (fun _=>by kernel_rfl) Tryz.isAgg5 (fun _=>(zG (by rw [hX];omega))))<|cA (v:=fun ρ=>(.int .u32 (IntKind.u32.wrap ((gB X ((4*i)+j):Nat):Int)))) (fun _=>(vu (gB X ((4*i)+j)))) (fun _=>jN (u32N (Nat.lt_of_lt_of_le (iD _ _) (by decide))))<|cA (v:=fun ρ=>(.int .u32 (bits .or .u32 ((zJ X i j*256:Nat):Int) ((gB X ((4*i)+j):Nat):Int)))) (fun _=>(vu (zJ X i (j+1)))) (fun _=>jN (or_pw (by omega)))<|cX (jS (fun _=>Instr.indexAt 145 (pt (nb ρ2 0)) (vn i)) (fun _=>(jp (nb ρ2 0) i)) (fun _ w=>aX (n:=((i:Nat):Int)) (i:=i) Tryz.underlying145 Tryz.sizeOf45 (by omega) w))<|cX (qG _ 2 45 (fun _=>nb ρ2 0) (fun _=>i) (fun _=>C2) (fun _=>(C2.setIfInBounds i (vu (zJ X i (j+1))))) 145 (fun _=>(vu (zJ X i (j+1)))) (fun _=>by kernel_rfl) Tryz.sizeOf45 (fun _=>rfl) (fun _=>(by rw [hC2,eH];omega)) (fun _=>rfl))<|cN) (fun _=>?_)
   refine aJ (aA ?_)
   refine rS Tryz.f106 2 [1,2,3,4,9,12] [] (fun _=>[vn (j+1),vn (j+1)]) (fun _=>[]) (jW (fun ρ=>(((j:Nat):Int)+1)) (fun _=>(j+1)) (fun _=>(aW j 1 (by omega)))<|jE [[]]) (fun _=>?_)
   exact mN (j+1,C2.setIfInBounds i (vu (zJ X i (j+1)))) (by show 4-(j+1)<4-j;omega) (⟨(by omega),by rw [hC2];exact sc_set⟩) []
  rw [hb2]
  have:=yF hb2
  refine bF (aN (aN (aT (aJ (aA ?_)))))
  refine rS Tryz.f106 2 [1,2,3,9] [] (fun _=>[vn (i+1),vn (i+1)]) (fun _=>[]) (jW (fun ρ=>(((i:Nat):Int)+1)) (fun _=>(i+1)) (fun _=>(aW i 1 (by omega)))<|jE [[]]) (fun _=>?_)
  exact mN (i+1,C2) (by show 16-(i+1)<16-i;omega) (⟨(by omega),hC2.trans (by rw [show j=4 by omega];exact sc_next X i)⟩) []
 rw [hb1]
 have:=yF hb1
 refine bF (aN (aN (aT (aA (aB (jM Tryz.f106 1 [2,3,6] [0,1,1] [vi 16] [[]] (aI ?_)))))))
 refine oL (σ:=Nat × (Array Value)) (fun ⟨k,_⟩=>[(2,(pt (nb ρ1 1))),(3,(pt (nb ρ2 0))),(6,(vn k))]) (fun ⟨_,C3⟩=>[(nb ρ1 1,(cL (bY .u32 64 (fun _=>0)) 145)),(nb ρ2 0,(cL C3 145))]) (fun ⟨k,_⟩=>64-k)
   (fun ⟨k,C3⟩=>(16≤k∧k≤64)∧(C3=bY .u32 64 (tc X k))) (16,C) (⟨by decide,hC.trans (by rw [show i=16 by omega];exact sc_tc X)⟩) [] ?_
 rintro ⟨k,C3⟩ ⟨hk,hC3⟩
 change Ok Tryz.prog _ _ 85 [(2,(pt (nb ρ1 1))),(3,(pt (nb ρ2 0))),(6,(vn k))] _ [(nb ρ1 1,(cL (bY .u32 64 (fun _=>0)) 145)),(nb ρ2 0,(cL C3 145))] (fun _=>True)
 refine aB (jJ Tryz.f106 2 [2,3,6,32] [vn k,.bool (decide (((k:Nat):Int)<64))] ?_)
 refine oC (decide (((k:Nat):Int)<64)) (fun hb3=>?_) (fun hb3=>?_)
 ·
  rw [hb3]
  have:=yT hb3
  refine aG (aA (aB (aI ?_)))
  refine sD Tryz.f106 [0,1,3,7,15,0,32,96,224,511,1023,0,2048,6144,14336,30720,65535,131071] 18 [2,3,6,7] [] (fun _=>let qa:=vu (((aH (wN X (k-15)) 7)^^^(aH (wN X (k-15)) 18))^^^((wN X (k-15)) / 2^3));let qb:=vi (((k:Nat):Int)-15);[vn k,qb,jp (nb ρ2 0) (k-15),vu (wN X (k-15)),vu (aH (wN X (k-15)) 7),vn k,qb,jp (nb ρ2 0) (k-15),vu (wN X (k-15)),vu (aH (wN X (k-15)) 18),vu ((aH (wN X (k-15)) 7)^^^(aH (wN X (k-15)) 18)),vn k,qb,jp (nb ρ2 0) (k-15),vu (wN X (k-15)),vu ((wN X (k-15)) / 2^3),qa,qa]) (fun _=>[]) (cR [[]]<|jU (fun ρ=>(((k:Nat):Int)-15)) (fun _=>(((k:Nat):Int)-15)) (fun _=>(gZ (by omega)))<|cX (jS (fun _=>Instr.indexAt 145 (pt (nb ρ2 0)) (vi (((k:Nat):Int)-15))) (fun _=>(jp (nb ρ2 0) (k-15))) (fun _ w=>aX (n:=((k:Nat):Int)-15) (i:=k-15) Tryz.underlying145 Tryz.sizeOf45 (by omega) w))<|cX (kG _ 1 45 (fun _=>nb ρ2 0) (fun _=>k-15) (fun _=>C3) 145 (0,0) (fun _=>(vu (wN X (k-15)))) (fun _=>by kernel_rfl) Tryz.isAgg45 (fun _=>(by rw [hC3];exact lM (by omega) (by omega))))<|cC (f:=107) (args:=fun ρ=> #[vu (wN X (k-15)),vi 7]) (v:=fun ρ=>(vu (aH (wN X (k-15)) 7))) (fun _ w=>(fun w=>lS (wN X (k-15)) 7 (iF _ _) (by decide) w) w)<|cR [[]]<|jU (fun ρ=>(((k:Nat):Int)-15)) (fun _=>(((k:Nat):Int)-15)) (fun _=>(gZ (by omega)))<|cX (jS (fun _=>Instr.indexAt 145 (pt (nb ρ2 0)) (vi (((k:Nat):Int)-15))) (fun _=>(jp (nb ρ2 0) (k-15))) (fun _ w=>aX (n:=((k:Nat):Int)-15) (i:=k-15) Tryz.underlying145 Tryz.sizeOf45 (by omega) w))<|cX (kG _ 1 45 (fun _=>nb ρ2 0) (fun _=>k-15) (fun _=>C3) 145 (0,0) (fun _=>(vu (wN X (k-15)))) (fun _=>by kernel_rfl) Tryz.isAgg45 (fun _=>(by rw [hC3];exact lM (by omega) (by omega))))<|cC (f:=107) (args:=fun ρ=> #[vu (wN X (k-15)),vi 18]) (v:=fun ρ=>(vu (aH (wN X (k-15)) 18))) (fun _ w=>(fun w=>lS (wN X (k-15)) 18 (iF _ _) (by decide) w) w)<|cA (v:=fun ρ=>(.int .u32 (bits .xor .u32 ((aH (wN X (k-15)) 7:Nat):Int) ((aH (wN X (k-15)) 18:Nat):Int)))) (fun _=>(vu ((aH (wN X (k-15)) 7)^^^(aH (wN X (k-15)) 18)))) (fun _=>jN (lH (dE _ (iF _ _)) (dE _ (iF _ _))))<|cR [[]]<|jU (fun ρ=>(((k:Nat):Int)-15)) (fun _=>(((k:Nat):Int)-15)) (fun _=>(gZ (by omega)))<|cX (jS (fun _=>Instr.indexAt 145 (pt (nb ρ2 0)) (vi (((k:Nat):Int)-15))) (fun _=>(jp (nb ρ2 0) (k-15))) (fun _ w=>aX (n:=((k:Nat):Int)-15) (i:=k-15) Tryz.underlying145 Tryz.sizeOf45 (by omega) w))<|cX (kG _ 1 45 (fun _=>nb ρ2 0) (fun _=>k-15) (fun _=>C3) 145 (0,0) (fun _=>(vu (wN X (k-15)))) (fun _=>by kernel_rfl) Tryz.isAgg45 (fun _=>(by rw [hC3];exact lM (by omega) (by omega))))<|cB (a:=fun ρ=>(vu (wN X (k-15)))) (b:=fun ρ=>(.int .u64 3)) (v:=fun ρ=>(vu ((wN X (k-15)) / 2^3))) .shr 45 (fun _ w=>gG (k:=.u32) (x:=(wN X (k-15))) (c:=3) (iF _ _) w)<|cA (v:=fun ρ=>(.int .u32 (bits .xor .u32 (((aH (wN X (k-15)) 7)^^^(aH (wN X (k-15)) 18):Nat):Int) (((wN X (k-15)) / 2^3:Nat):Int)))) (fun _=>(vu (((aH (wN X (k-15)) 7)^^^(aH (wN X (k-15)) 18))^^^((wN X (k-15)) / 2^3)))) (fun _=>jN (lH (lU (dE _ (iF _ _)) (dE _ (iF _ _))) (rV _ (iF _ _))))<|jE [[]]) (fun _=>?_)
  refine sD Tryz.f106 [0,1,3,7,15,0,32,96,224,511,1023,0,2048,6144,14336,30720,65535,131071] 18 [2,3,6,7,8] [] (fun _=>let qa:=vu (((aH (wN X (k-2)) 17)^^^(aH (wN X (k-2)) 19))^^^((wN X (k-2)) / 2^10));let qb:=vi (((k:Nat):Int)-2);[vn k,qb,jp (nb ρ2 0) (k-2),vu (wN X (k-2)),vu (aH (wN X (k-2)) 17),vn k,qb,jp (nb ρ2 0) (k-2),vu (wN X (k-2)),vu (aH (wN X (k-2)) 19),vu ((aH (wN X (k-2)) 17)^^^(aH (wN X (k-2)) 19)),vn k,qb,jp (nb ρ2 0) (k-2),vu (wN X (k-2)),vu ((wN X (k-2)) / 2^10),qa,qa]) (fun _=>[]) (cR [[]]<|jU (fun ρ=>(((k:Nat):Int)-2)) (fun _=>(((k:Nat):Int)-2)) (fun _=>(gZ (by omega)))<|cX (jS (fun _=>Instr.indexAt 145 (pt (nb ρ2 0)) (vi (((k:Nat):Int)-2))) (fun _=>(jp (nb ρ2 0) (k-2))) (fun _ w=>aX (n:=((k:Nat):Int)-2) (i:=k-2) Tryz.underlying145 Tryz.sizeOf45 (by omega) w))<|cX (kG _ 1 45 (fun _=>nb ρ2 0) (fun _=>k-2) (fun _=>C3) 145 (0,0) (fun _=>(vu (wN X (k-2)))) (fun _=>by kernel_rfl) Tryz.isAgg45 (fun _=>(by rw [hC3];exact lM (by omega) (by omega))))<|cC (f:=107) (args:=fun ρ=> #[vu (wN X (k-2)),vi 17]) (v:=fun ρ=>(vu (aH (wN X (k-2)) 17))) (fun _ w=>(fun w=>lS (wN X (k-2)) 17 (iF _ _) (by decide) w) w)<|cR [[]]<|jU (fun ρ=>(((k:Nat):Int)-2)) (fun _=>(((k:Nat):Int)-2)) (fun _=>(gZ (by omega)))<|cX (jS (fun _=>Instr.indexAt 145 (pt (nb ρ2 0)) (vi (((k:Nat):Int)-2))) (fun _=>(jp (nb ρ2 0) (k-2))) (fun _ w=>aX (n:=((k:Nat):Int)-2) (i:=k-2) Tryz.underlying145 Tryz.sizeOf45 (by omega) w))<|cX (kG _ 1 45 (fun _=>nb ρ2 0) (fun _=>k-2) (fun _=>C3) 145 (0,0) (fun _=>(vu (wN X (k-2)))) (fun _=>by kernel_rfl) Tryz.isAgg45 (fun _=>(by rw [hC3];exact lM (by omega) (by omega))))<|cC (f:=107) (args:=fun ρ=> #[vu (wN X (k-2)),vi 19]) (v:=fun ρ=>(vu (aH (wN X (k-2)) 19))) (fun _ w=>(fun w=>lS (wN X (k-2)) 19 (iF _ _) (by decide) w) w)<|cA (v:=fun ρ=>(.int .u32 (bits .xor .u32 ((aH (wN X (k-2)) 17:Nat):Int) ((aH (wN X (k-2)) 19:Nat):Int)))) (fun _=>(vu ((aH (wN X (k-2)) 17)^^^(aH (wN X (k-2)) 19)))) (fun _=>jN (lH (dE _ (iF _ _)) (dE _ (iF _ _))))<|cR [[]]<|jU (fun ρ=>(((k:Nat):Int)-2)) (fun _=>(((k:Nat):Int)-2)) (fun _=>(gZ (by omega)))<|cX (jS (fun _=>Instr.indexAt 145 (pt (nb ρ2 0)) (vi (((k:Nat):Int)-2))) (fun _=>(jp (nb ρ2 0) (k-2))) (fun _ w=>aX (n:=((k:Nat):Int)-2) (i:=k-2) Tryz.underlying145 Tryz.sizeOf45 (by omega) w))<|cX (kG _ 1 45 (fun _=>nb ρ2 0) (fun _=>k-2) (fun _=>C3) 145 (0,0) (fun _=>(vu (wN X (k-2)))) (fun _=>by kernel_rfl) Tryz.isAgg45 (fun _=>(by rw [hC3];exact lM (by omega) (by omega))))<|cB (a:=fun ρ=>(vu (wN X (k-2)))) (b:=fun ρ=>(.int .u64 10)) (v:=fun ρ=>(vu ((wN X (k-2)) / 2^10))) .shr 45 (fun _ w=>gG (k:=.u32) (x:=(wN X (k-2))) (c:=10) (iF _ _) w)<|cA (v:=fun ρ=>(.int .u32 (bits .xor .u32 (((aH (wN X (k-2)) 17)^^^(aH (wN X (k-2)) 19):Nat):Int) (((wN X (k-2)) / 2^10:Nat):Int)))) (fun _=>(vu (((aH (wN X (k-2)) 17)^^^(aH (wN X (k-2)) 19))^^^((wN X (k-2)) / 2^10)))) (fun _=>jN (lH (lU (dE _ (iF _ _)) (dE _ (iF _ _))) (rV _ (iF _ _))))<|jE [[]]) (fun _=>?_)
  refine rD Tryz.f106 [0,0,2,6,14,0,62,0,128,384,896,2046,0,8190,16383,32767] 16 [2,3,6] [] (fun _=>[vn k,vn k,vi (((k:Nat):Int)-16),jp (nb ρ2 0) (k-16),vu (wN X (k-16)),vu (((aH (wN X (k-15)) 7)^^^(aH (wN X (k-15)) 18))^^^((wN X (k-15)) / 2^3)),vu (add32 (wN X (k-16)) (((aH (wN X (k-15)) 7)^^^(aH (wN X (k-15)) 18))^^^((wN X (k-15)) / 2^3))),vn k,vi (((k:Nat):Int)-7),jp (nb ρ2 0) (k-7),vu (wN X (k-7)),vu (add32 (add32 (wN X (k-16)) (((aH (wN X (k-15)) 7)^^^(aH (wN X (k-15)) 18))^^^((wN X (k-15)) / 2^3))) (wN X (k-7))),vu (((aH (wN X (k-2)) 17)^^^(aH (wN X (k-2)) 19))^^^((wN X (k-2)) / 2^10)),vu (add32 (add32 (add32 (wN X (k-16)) (((aH (wN X (k-15)) 7)^^^(aH (wN X (k-15)) 18))^^^((wN X (k-15)) / 2^3))) (wN X (k-7))) (((aH (wN X (k-2)) 17)^^^(aH (wN X (k-2)) 19))^^^((wN X (k-2)) / 2^10))),jp (nb ρ2 0) k,undef]) (fun _=>[(15,(bD 1 (nb ρ2 0) (cL (C3.setIfInBounds k (vu (add32 (add32 (add32 (wN X (k-16)) (((aH (wN X (k-15)) 7)^^^(aH (wN X (k-15)) 18))^^^((wN X (k-15)) / 2^3))) (wN X (k-7))) (((aH (wN X (k-2)) 17)^^^(aH (wN X (k-2)) 19))^^^((wN X (k-2)) / 2^10))))) 145)))]) (cR [[],[]]<|jU (fun ρ=>(((k:Nat):Int)-16)) (fun _=>(((k:Nat):Int)-16)) (fun _=>(gZ (by omega)))<|cX (jS (fun _=>Instr.indexAt 145 (pt (nb ρ2 0)) (vi (((k:Nat):Int)-16))) (fun _=>(jp (nb ρ2 0) (k-16))) (fun _ w=>aX (n:=((k:Nat):Int)-16) (i:=k-16) Tryz.underlying145 Tryz.sizeOf45 (by omega) w))<|cX (kG _ 1 45 (fun _=>nb ρ2 0) (fun _=>k-16) (fun _=>C3) 145 (0,0) (fun _=>(vu (wN X (k-16)))) (fun _=>by kernel_rfl) Tryz.isAgg45 (fun _=>(by rw [hC3];exact lM (by omega) (by omega))))<|cR [[]]<|cA (fun _=>(vu (add32 (wN X (k-16)) (((aH (wN X (k-15)) 7)^^^(aH (wN X (k-15)) 18))^^^((wN X (k-15)) / 2^3))))) (fun _=>jN (bP (wN X (k-16)) (((aH (wN X (k-15)) 7)^^^(aH (wN X (k-15)) 18))^^^((wN X (k-15)) / 2^3))))<|cR [[]]<|jU (fun ρ=>(((k:Nat):Int)-7)) (fun _=>(((k:Nat):Int)-7)) (fun _=>(gZ (by omega)))<|cX (jS (fun _=>Instr.indexAt 145 (pt (nb ρ2 0)) (vi (((k:Nat):Int)-7))) (fun _=>(jp (nb ρ2 0) (k-7))) (fun _ w=>aX (n:=((k:Nat):Int)-7) (i:=k-7) Tryz.underlying145 Tryz.sizeOf45 (by omega) w))<|cX (kG _ 1 45 (fun _=>nb ρ2 0) (fun _=>k-7) (fun _=>C3) 145 (0,0) (fun _=>(vu (wN X (k-7)))) (fun _=>by kernel_rfl) Tryz.isAgg45 (fun _=>(by rw [hC3];exact lM (by omega) (by omega))))<|cA (fun _=>(vu (add32 (add32 (wN X (k-16)) (((aH (wN X (k-15)) 7)^^^(aH (wN X (k-15)) 18))^^^((wN X (k-15)) / 2^3))) (wN X (k-7))))) (fun _=>jN (bP (add32 (wN X (k-16)) (((aH (wN X (k-15)) 7)^^^(aH (wN X (k-15)) 18))^^^((wN X (k-15)) / 2^3))) (wN X (k-7))))<|cR [[]]<|cA (fun _=>(vu (add32 (add32 (add32 (wN X (k-16)) (((aH (wN X (k-15)) 7)^^^(aH (wN X (k-15)) 18))^^^((wN X (k-15)) / 2^3))) (wN X (k-7))) (((aH (wN X (k-2)) 17)^^^(aH (wN X (k-2)) 19))^^^((wN X (k-2)) / 2^10))))) (fun _=>jN (bP (add32 (add32 (wN X (k-16)) (((aH (wN X (k-15)) 7)^^^(aH (wN X (k-15)) 18))^^^((wN X (k-15)) / 2^3))) (wN X (k-7))) (((aH (wN X (k-2)) 17)^^^(aH (wN X (k-2)) 19))^^^((wN X (k-2)) / 2^10))))<|cX (jS (fun _=>Instr.indexAt 145 (pt (nb ρ2 0)) (vn k)) (fun _=>(jp (nb ρ2 0) k)) (fun _ w=>aX (n:=((k:Nat):Int)) (i:=k) Tryz.underlying145 Tryz.sizeOf45 (by omega) w))<|cX (qG _ 1 45 (fun _=>nb ρ2 0) (fun _=>k) (fun _=>C3) (fun _=>(C3.setIfInBounds k (vu (add32 (add32 (add32 (wN X (k-16)) (((aH (wN X (k-15)) 7)^^^(aH (wN X (k-15)) 18))^^^((wN X (k-15)) / 2^3))) (wN X (k-7))) (((aH (wN X (k-2)) 17)^^^(aH (wN X (k-2)) 19))^^^((wN X (k-2)) / 2^10)))))) 145 (fun _=>(vu (add32 (add32 (add32 (wN X (k-16)) (((aH (wN X (k-15)) 7)^^^(aH (wN X (k-15)) 18))^^^((wN X (k-15)) / 2^3))) (wN X (k-7))) (((aH (wN X (k-2)) 17)^^^(aH (wN X (k-2)) 19))^^^((wN X (k-2)) / 2^10))))) (fun _=>by kernel_rfl) Tryz.sizeOf45 (fun _=>rfl) (fun _=>(by rw [hC3,eH];omega)) (fun _=>rfl))<|cN) (fun _=>?_)
  refine aJ (aA ?_)
  refine rS Tryz.f106 3 [2,3,6] [] (fun _=>[vn k,vn (k+1),vn (k+1)]) (fun _=>[]) (cR [[]]<|jW (fun ρ=>(((k:Nat):Int)+1)) (fun _=>(k+1)) (fun _=>(aW k 1 (by omega)))<|jE [[]]) (fun _=>?_)
  exact mN (k+1,C3.setIfInBounds k (vu (add32 (add32 (add32 (wN X (k-16)) (((aH (wN X (k-15)) 7)^^^(aH (wN X (k-15)) 18))^^^((wN X (k-15)) / 2^3))) (wN X (k-7))) (((aH (wN X (k-2)) 17)^^^(aH (wN X (k-2)) 19))^^^((wN X (k-2)) / 2^10))))) (by show 64-(k+1)<64-k;omega) (⟨(by omega),by rw [hC3];exact tc_set (wN_more hk.1).symm⟩) []
 rw [hb3]
 refine bF (aN (aN (aT ?_)))
 rw [hC3]
 refine aA ?_
 refine sS Tryz.f106 2 [2] [1,0] (fun _=>[.agg (bY .u32 64 (tc X k)),undef]) (fun _=>[(1,(bD 0 (nb ρ1 1) (cL (bY .u32 64 (tc X k)) 145)))]) (jE [[1],[0]]) (fun _=>?_)
 refine aF ?_
 exact mR (v:=(.agg (bY .u32 64 (tc X k)))) (fun _ hS=>⟨congrArg Ending.returned (congrArg Value.agg (tc_end (by have:=yF hb3;omega))),hS.bel⟩)
theorem compress_any (s0:Nat) (s1:Nat) (s2:Nat) (s3:Nat) (s4:Nat) (s5:Nat) (s6:Nat) (s7:Nat) (X:List UInt8) (hs:ok8 (s0,s1,s2,s3,s4,s5,s6,s7)) (hX:X.length=64) (w0:World) (hf0:kJ w0):Calls Tryz.prog 77 #[.agg #[vu s0,vu s1,vu s2,vu s3,vu s4,vu s5,vu s6,vu s7],.agg (bs X).toArray] w0 (jR (.agg #[vu ((eF (s0,s1,s2,s3,s4,s5,s6,s7) X).1),vu ((eF (s0,s1,s2,s3,s4,s5,s6,s7) X).2.1),vu ((eF (s0,s1,s2,s3,s4,s5,s6,s7) X).2.2.1),vu ((eF (s0,s1,s2,s3,s4,s5,s6,s7) X).2.2.2.1),vu ((eF (s0,s1,s2,s3,s4,s5,s6,s7) X).2.2.2.2.1),vu ((eF (s0,s1,s2,s3,s4,s5,s6,s7) X).2.2.2.2.2.1),vu ((eF (s0,s1,s2,s3,s4,s5,s6,s7) X).2.2.2.2.2.2.1),vu ((eF (s0,s1,s2,s3,s4,s5,s6,s7) X).2.2.2.2.2.2.2)]) w0):=by
 refine Calls.of_ok (n:=131) (F:=(fun w=>kJ w∧True)) Tryz.func77 rfl rfl rfl (by simp) (hf0.pers0.and cO) ?_
 refine sS Tryz.f77 3 [2,3,4] [] (fun ρ=>[pt (nb ρ 0),pt (nb ρ 1),pt (nb ρ 2)]) (fun ρ=>[(0,(nw ρ 0 (cL #[vu s0,vu s1,vu s2,vu s3,vu s4,vu s5,vu s6,vu s7] 111))),(1,(nw ρ 1 (cL (bs X).toArray 113))),(2,(nw ρ 2 (cL #[.int .u32 0,.int .u32 0,.int .u32 0,.int .u32 0,.int .u32 0,.int .u32 0,.int .u32 0,.int .u32 0] 111)))]) (jE [[],[],[]]) (fun ρ1=>?_)
 refine sS Tryz.f77 4 [2,4,5] [1,0,1,1] (fun ρ=>[.agg (bs X).toArray,.agg (bY .u32 64 (wN X)),pt (nb ρ 2),undef]) (fun ρ=>[(2,(nw ρ 2 (cL (bY .u32 64 (fun _=>0)) 145))),(3,(bD 19 (nb ρ 2) (cL (bY .u32 64 (wN X)) 145)))]) (cX (qF (fun _ _ _ hG=>vS Tryz.isAgg113 Tryz.sizeOf113 (hG.kn (g:=nb ρ1 1) (o:=(cL (bs X).toArray 113)) 1) (by simp [bs,hX])))<|cC (fun _ w=>sched_any X hX w)<|jE [[],[19]]) (fun ρ2=>?_)
 refine sD Tryz.f77 [0,1,0,4,0,16,0,64,3,271,831,2047] 12 [2,4,5,6,7,8,9] [] (fun _=>[pt (nb ρ1 0),vu s0,jp (nb ρ1 0) 1,vu s1,jp (nb ρ1 0) 2,vu s2,jp (nb ρ1 0) 3,vu s3,vu s0,vu s1,vu s2,vu s3]) (fun _=>[]) (jE [[],[0],[],[0],[],[0],[],[0],[],[],[],[]]) (fun _=>?_)
 refine sD Tryz.f77 [0,1,0,4,0,16,0,64,3,271,831,2047] 12 [2,4,5,6,7,8,9,10,11,12,13] [] (fun _=>[jp (nb ρ1 0) 4,vu s4,jp (nb ρ1 0) 5,vu s5,jp (nb ρ1 0) 6,vu s6,jp (nb ρ1 0) 7,vu s7,vu s4,vu s5,vu s6,vu s7]) (fun _=>[]) (jE [[],[0],[],[0],[],[0],[],[0],[],[],[],[]]) (fun _=>?_)
 refine aB (jJ Tryz.f77 1 [2,4,5,6,7,8,9,10,11,12,13,35] [vi 0] (aI ?_))
 refine oL (σ:=Nat × Nat × Nat × Nat × Nat × Nat × Nat × Nat × Nat) (fun ⟨i,ra,rb,rc,rd,re,rf,rg,rh⟩=>[(2,(pt (nb ρ1 0))),(4,(pt (nb ρ1 2))),(5,(pt (nb ρ2 2))),(6,(vu ra)),(7,(vu rb)),(8,(vu rc)),(9,(vu rd)),(10,(vu re)),(11,(vu rf)),(12,(vu rg)),(13,(vu rh)),(35,(vn i))]) (fun ⟨_,_,_,_,_,_,_,_,_⟩=>[(nb ρ1 0,(cL #[vu s0,vu s1,vu s2,vu s3,vu s4,vu s5,vu s6,vu s7] 111)),(nb ρ1 2,(cL #[.int .u32 0,.int .u32 0,.int .u32 0,.int .u32 0,.int .u32 0,.int .u32 0,.int .u32 0,.int .u32 0] 111)),(nb ρ2 2,(cL (bY .u32 64 (wN X)) 145))]) (fun ⟨i,_,_,_,_,_,_,_,_⟩=>64-i)
   (fun ⟨i,ra,rb,rc,rd,re,rf,rg,rh⟩=>(i≤64)∧(rnds X (s0,s1,s2,s3,s4,s5,s6,s7) i=(ra,rb,rc,rd,re,rf,rg,rh))) (0,s0,s1,s2,s3,s4,s5,s6,s7) (⟨by decide,rfl⟩) [] ?_
 rintro ⟨i,ra,rb,rc,rd,re,rf,rg,rh⟩ ⟨hi,hr⟩
 change Ok Tryz.prog _ _ 131 [(2,(pt (nb ρ1 0))),(4,(pt (nb ρ1 2))),(5,(pt (nb ρ2 2))),(6,(vu ra)),(7,(vu rb)),(8,(vu rc)),(9,(vu rd)),(10,(vu re)),(11,(vu rf)),(12,(vu rg)),(13,(vu rh)),(35,(vn i))] _ [(nb ρ1 0,(cL #[vu s0,vu s1,vu s2,vu s3,vu s4,vu s5,vu s6,vu s7] 111)),(nb ρ1 2,(cL #[.int .u32 0,.int .u32 0,.int .u32 0,.int .u32 0,.int .u32 0,.int .u32 0,.int .u32 0,.int .u32 0] 111)),(nb ρ2 2,(cL (bY .u32 64 (wN X)) 145))] (fun w=>kJ w∧True)
 have ho:ok8 (ra,rb,rc,rd,re,rf,rg,rh):=hr ▸ rnds_ok hs i
 refine jJ Tryz.f77 1 [2,4,5,6,7,8,9,10,11,12,13,35,36] [.bool (decide (((i:Nat):Int)<64))] (aB ?_)
 refine oC (decide (((i:Nat):Int)<64)) (fun hb1=>?_) (fun hb1=>?_)
 ·
  rw [hb1]
  have:=yT hb1
  refine aG (aA (aB (aI (jJ Tryz.f77 2 [2,4,5,6,7,8,9,10,11,12,13,14,35] [vn i,vn i] ?_))))
  refine sD Tryz.f77 [0,0,2,0,14,30,0,94,254,511,0,0,3072,0,8192,0,57344,130048,262143,0,524288,1572864,4194303,0,8388608,25165824,67108863,134217727] 28 [2,4,5,6,7,8,9,10,11,12,13,15,35] [] (fun _=>let qa:=vu (add32 (add32 (add32 (add32 rh (((aH re 6)^^^(aH re 11))^^^(aH re 25))) ((re&&&rf)^^^((dW re)&&&rg))) (kN i)) (wN X i));[vu rh,vu re,vu (aH re 6),vu re,vu (aH re 11),vu ((aH re 6)^^^(aH re 11)),vu re,vu (aH re 25),vu (((aH re 6)^^^(aH re 11))^^^(aH re 25)),vu (add32 rh (((aH re 6)^^^(aH re 11))^^^(aH re 25))),vu re,vu rf,vu (re&&&rf),vu re,vu (dW re),vu rg,vu ((dW re)&&&rg),vu ((re&&&rf)^^^((dW re)&&&rg)),vu (add32 (add32 rh (((aH re 6)^^^(aH re 11))^^^(aH re 25))) ((re&&&rf)^^^((dW re)&&&rg))),vn i,jp 1 i,vu (kN i),vu (add32 (add32 (add32 rh (((aH re 6)^^^(aH re 11))^^^(aH re 25))) ((re&&&rf)^^^((dW re)&&&rg))) (kN i)),vn i,jp (nb ρ2 2) i,vu (wN X i),qa,qa]) (fun _=>[]) (cR [[],[]]<|cC (fun _ w=>lS re 6 ho.2.2.2.2.1 (by decide) w)<|cR [[]]<|cC (fun _ w=>lS re 11 ho.2.2.2.2.1 (by decide) w)<|cA (v:=fun ρ=>(.int .u32 (bits .xor .u32 ((aH re 6:Nat):Int) ((aH re 11:Nat):Int)))) (fun _=>(vu ((aH re 6)^^^(aH re 11)))) (fun _=>jN (lH (dE _ ho.2.2.2.2.1) (dE _ ho.2.2.2.2.1)))<|cR [[]]<|cC (fun _ w=>lS re 25 ho.2.2.2.2.1 (by decide) w)<|cA (v:=fun ρ=>(.int .u32 (bits .xor .u32 (((aH re 6)^^^(aH re 11):Nat):Int) ((aH re 25:Nat):Int)))) (fun _=>(vu (((aH re 6)^^^(aH re 11))^^^(aH re 25)))) (fun _=>jN (lH (lU (dE _ ho.2.2.2.2.1) (dE _ ho.2.2.2.2.1)) (dE _ ho.2.2.2.2.1)))<|cA (fun _=>(vu (add32 rh (((aH re 6)^^^(aH re 11))^^^(aH re 25))))) (fun _=>jN (bP rh (((aH re 6)^^^(aH re 11))^^^(aH re 25))))<|cR [[],[]]<|cA (fun _=>(vu (re&&&rf))) (fun _=>jN (xR ho.2.2.2.2.1 ho.2.2.2.2.2.1))<|cR [[]]<|cA (fun _=>(vu (dW re))) (fun _=>jN (not_xor32 ho.2.2.2.2.1))<|cR [[]]<|cA (v:=fun ρ=>(.int .u32 (bits .and .u32 ((dW re:Nat):Int) ((rg:Nat):Int)))) (fun _=>(vu ((dW re)&&&rg))) (fun _=>jN (xR (y9 _) ho.2.2.2.2.2.2.1))<|cA (v:=fun ρ=>(.int .u32 (bits .xor .u32 ((re&&&rf:Nat):Int) (((dW re)&&&rg:Nat):Int)))) (fun _=>(vu ((re&&&rf)^^^((dW re)&&&rg)))) (fun _=>jN (lH (iR _ ho.2.2.2.2.1) (iR _ (y9 _))))<|cA (fun _=>(vu (add32 (add32 rh (((aH re 6)^^^(aH re 11))^^^(aH re 25))) ((re&&&rf)^^^((dW re)&&&rg))))) (fun _=>jN (bP (add32 rh (((aH re 6)^^^(aH re 11))^^^(aH re 25))) ((re&&&rf)^^^((dW re)&&&rg))))<|cR [[]]<|cX (jS (fun _=>Instr.indexAt 145 (pt 1) (vn i)) (fun _=>(jp 1 i)) (fun _ w=>aX (n:=((i:Nat):Int)) (i:=i) Tryz.underlying145 Tryz.sizeOf45 (by omega) w))<|cX (qF (v:=fun ρ=>(vu (kN i))) (fun _ _ _ hG=>mY (off:=i) Tryz.isAgg45 hG.fn.1 (kC_get (by omega))))<|cA (fun _=>(vu (add32 (add32 (add32 rh (((aH re 6)^^^(aH re 11))^^^(aH re 25))) ((re&&&rf)^^^((dW re)&&&rg))) (kN i)))) (fun _=>jN (bP (add32 (add32 rh (((aH re 6)^^^(aH re 11))^^^(aH re 25))) ((re&&&rf)^^^((dW re)&&&rg))) (kN i)))<|cR [[]]<|cX (jS (fun _=>Instr.indexAt 145 (pt (nb ρ2 2)) (vn i)) (fun _=>(jp (nb ρ2 2) i)) (fun _ w=>aX (n:=((i:Nat):Int)) (i:=i) Tryz.underlying145 Tryz.sizeOf45 (by omega) w))<|cX (kG _ 2 45 (fun _=>nb ρ2 2) (fun _=>i) (fun _=>(bY .u32 64 (wN X))) 145 (0,0) (fun _=>(vu (wN X i))) (fun _=>by kernel_rfl) Tryz.isAgg45 (fun _=>(nG (by omega))))<|cA (fun _=>(vu (add32 (add32 (add32 (add32 rh (((aH re 6)^^^(aH re 11))^^^(aH re 25))) ((re&&&rf)^^^((dW re)&&&rg))) (kN i)) (wN X i)))) (fun _=>jN (bP (add32 (add32 (add32 rh (((aH re 6)^^^(aH re 11))^^^(aH re 25))) ((re&&&rf)^^^((dW re)&&&rg))) (kN i)) (wN X i)))<|jE [[]]) (fun _=>?_)
  refine sS Tryz.f77 21 [2,4,5,6,7,8,9,10,11,12,13,15,16,35] [] (fun _=>let qa:=vu (add32 (((aH ra 2)^^^(aH ra 13))^^^(aH ra 22)) (((ra&&&rb)^^^(ra&&&rc))^^^(rb&&&rc)));[vu ra,vu (aH ra 2),vu ra,vu (aH ra 13),vu ((aH ra 2)^^^(aH ra 13)),vu ra,vu (aH ra 22),vu (((aH ra 2)^^^(aH ra 13))^^^(aH ra 22)),vu ra,vu rb,vu (ra&&&rb),vu ra,vu rc,vu (ra&&&rc),vu ((ra&&&rb)^^^(ra&&&rc)),vu rb,vu rc,vu (rb&&&rc),vu (((ra&&&rb)^^^(ra&&&rc))^^^(rb&&&rc)),qa,qa]) (fun _=>[]) (cR [[]]<|cC (fun _ w=>lS ra 2 ho.1 (by decide) w)<|cR [[]]<|cC (fun _ w=>lS ra 13 ho.1 (by decide) w)<|cA (v:=fun ρ=>(.int .u32 (bits .xor .u32 ((aH ra 2:Nat):Int) ((aH ra 13:Nat):Int)))) (fun _=>(vu ((aH ra 2)^^^(aH ra 13)))) (fun _=>jN (lH (dE _ ho.1) (dE _ ho.1)))<|cR [[]]<|cC (fun _ w=>lS ra 22 ho.1 (by decide) w)<|cA (v:=fun ρ=>(.int .u32 (bits .xor .u32 (((aH ra 2)^^^(aH ra 13):Nat):Int) ((aH ra 22:Nat):Int)))) (fun _=>(vu (((aH ra 2)^^^(aH ra 13))^^^(aH ra 22)))) (fun _=>jN (lH (lU (dE _ ho.1) (dE _ ho.1)) (dE _ ho.1)))<|cR [[],[]]<|cA (fun _=>(vu (ra&&&rb))) (fun _=>jN (xR ho.1 ho.2.1))<|cR [[],[]]<|cA (fun _=>(vu (ra&&&rc))) (fun _=>jN (xR ho.1 ho.2.2.1))<|cA (v:=fun ρ=>(.int .u32 (bits .xor .u32 ((ra&&&rb:Nat):Int) ((ra&&&rc:Nat):Int)))) (fun _=>(vu ((ra&&&rb)^^^(ra&&&rc)))) (fun _=>jN (lH (iR _ ho.1) (iR _ ho.1)))<|cR [[],[]]<|cA (fun _=>(vu (rb&&&rc))) (fun _=>jN (xR ho.2.1 ho.2.2.1))<|cA (v:=fun ρ=>(.int .u32 (bits .xor .u32 (((ra&&&rb)^^^(ra&&&rc):Nat):Int) ((rb&&&rc:Nat):Int)))) (fun _=>(vu (((ra&&&rb)^^^(ra&&&rc))^^^(rb&&&rc)))) (fun _=>jN (lH (lU (iR _ ho.1) (iR _ ho.1)) (iR _ ho.2.1)))<|cA (fun _=>(vu (add32 (((aH ra 2)^^^(aH ra 13))^^^(aH ra 22)) (((ra&&&rb)^^^(ra&&&rc))^^^(rb&&&rc))))) (fun _=>jN (bP (((aH ra 2)^^^(aH ra 13))^^^(aH ra 22)) (((ra&&&rb)^^^(ra&&&rc))^^^(rb&&&rc))))<|jE [[]]) (fun _=>?_)
  refine rS Tryz.f77 20 [2,4,5,6,7,8,9,10,11,12,13,35] [] (fun _=>let qa:=vu (add32 (add32 (add32 (add32 (add32 rh (((aH re 6)^^^(aH re 11))^^^(aH re 25))) ((re&&&rf)^^^((dW re)&&&rg))) (kN i)) (wN X i)) (add32 (((aH ra 2)^^^(aH ra 13))^^^(aH ra 22)) (((ra&&&rb)^^^(ra&&&rc))^^^(rb&&&rc))));let qb:=vu (add32 rd (add32 (add32 (add32 (add32 rh (((aH re 6)^^^(aH re 11))^^^(aH re 25))) ((re&&&rf)^^^((dW re)&&&rg))) (kN i)) (wN X i)));let qc:=vu (add32 (add32 (add32 (add32 rh (((aH re 6)^^^(aH re 11))^^^(aH re 25))) ((re&&&rf)^^^((dW re)&&&rg))) (kN i)) (wN X i));[qc,vu (add32 (((aH ra 2)^^^(aH ra 13))^^^(aH ra 22)) (((ra&&&rb)^^^(ra&&&rc))^^^(rb&&&rc))),qa,vu ra,vu rb,vu rc,vu rd,qc,qb,vu re,vu rf,vu rg,qa,vu ra,vu rb,vu rc,qb,vu re,vu rf,vu rg]) (fun _=>[]) (cR [[],[]]<|cA (fun _=>(vu (add32 (add32 (add32 (add32 (add32 rh (((aH re 6)^^^(aH re 11))^^^(aH re 25))) ((re&&&rf)^^^((dW re)&&&rg))) (kN i)) (wN X i)) (add32 (((aH ra 2)^^^(aH ra 13))^^^(aH ra 22)) (((ra&&&rb)^^^(ra&&&rc))^^^(rb&&&rc)))))) (fun _=>jN (bP (add32 (add32 (add32 (add32 rh (((aH re 6)^^^(aH re 11))^^^(aH re 25))) ((re&&&rf)^^^((dW re)&&&rg))) (kN i)) (wN X i)) (add32 (((aH ra 2)^^^(aH ra 13))^^^(aH ra 22)) (((ra&&&rb)^^^(ra&&&rc))^^^(rb&&&rc)))))<|cR [[],[],[],[],[]]<|cA (fun _=>(vu (add32 rd (add32 (add32 (add32 (add32 rh (((aH re 6)^^^(aH re 11))^^^(aH re 25))) ((re&&&rf)^^^((dW re)&&&rg))) (kN i)) (wN X i))))) (fun _=>jN (bP rd (add32 (add32 (add32 (add32 rh (((aH re 6)^^^(aH re 11))^^^(aH re 25))) ((re&&&rf)^^^((dW re)&&&rg))) (kN i)) (wN X i))))<|jE [[],[],[],[],[],[],[],[],[],[],[]]) (fun _=>?_)
  refine aJ (aA ?_)
  refine rS Tryz.f77 2 [2,4,5,6,7,8,9,10,11,12,13,35] [] (fun _=>[vn (i+1),vn (i+1)]) (fun _=>[]) (jW (fun ρ=>(((i:Nat):Int)+1)) (fun _=>(i+1)) (fun _=>(aW i 1 (by omega)))<|jE [[]]) (fun _=>?_)
  exact mN (i+1,add32 (add32 (add32 (add32 (add32 rh (((aH re 6)^^^(aH re 11))^^^(aH re 25))) ((re&&&rf)^^^((dW re)&&&rg))) (kN i)) (wN X i)) (add32 (((aH ra 2)^^^(aH ra 13))^^^(aH ra 22)) (((ra&&&rb)^^^(ra&&&rc))^^^(rb&&&rc))),ra,rb,rc,add32 rd (add32 (add32 (add32 (add32 rh (((aH re 6)^^^(aH re 11))^^^(aH re 25))) ((re&&&rf)^^^((dW re)&&&rg))) (kN i)) (wN X i)),re,rf,rg) (by show 64-(i+1)<64-i;omega) (⟨(by omega),rnds_next hr⟩) []
 rw [hb1]
 refine bF (aN (aN (aT (aA ?_))))
 refine sS Tryz.f77 34 [4] [0,1,0] (fun _=>[pt (nb ρ1 0),vu s0,vu ra,vu (add32 s0 ra),jp (nb ρ1 0) 1,vu s1,vu rb,vu (add32 s1 rb),jp (nb ρ1 0) 2,vu s2,vu rc,vu (add32 s2 rc),jp (nb ρ1 0) 3,vu s3,vu rd,vu (add32 s3 rd),jp (nb ρ1 0) 4,vu s4,vu re,vu (add32 s4 re),jp (nb ρ1 0) 5,vu s5,vu rf,vu (add32 s5 rf),jp (nb ρ1 0) 6,vu s6,vu rg,vu (add32 s6 rg),jp (nb ρ1 0) 7,vu s7,vu rh,vu (add32 s7 rh),.agg #[vu (add32 s0 ra),vu (add32 s1 rb),vu (add32 s2 rc),vu (add32 s3 rd),vu (add32 s4 re),vu (add32 s5 rf),vu (add32 s6 rg),vu (add32 s7 rh)],undef]) (fun _=>[(33,(bD 1 (nb ρ1 2) (cL #[vu (add32 s0 ra),vu (add32 s1 rb),vu (add32 s2 rc),vu (add32 s3 rd),vu (add32 s4 re),vu (add32 s5 rf),vu (add32 s6 rg),vu (add32 s7 rh)] 111)))]) (cR [[],[0],[]]<|cA (fun _=>(vu (add32 s0 ra))) (fun _=>jN (bP s0 ra))<|cR [[],[0],[]]<|cA (fun _=>(vu (add32 s1 rb))) (fun _=>jN (bP s1 rb))<|cR [[],[0],[]]<|cA (fun _=>(vu (add32 s2 rc))) (fun _=>jN (bP s2 rc))<|cR [[],[0],[]]<|cA (fun _=>(vu (add32 s3 rd))) (fun _=>jN (bP s3 rd))<|cR [[],[0],[]]<|cA (fun _=>(vu (add32 s4 re))) (fun _=>jN (bP s4 re))<|cR [[],[0],[]]<|cA (fun _=>(vu (add32 s5 rf))) (fun _=>jN (bP s5 rf))<|cR [[],[0],[]]<|cA (fun _=>(vu (add32 s6 rg))) (fun _=>jN (bP s6 rg))<|cR [[],[0],[]]<|cA (fun _=>(vu (add32 s7 rh))) (fun _=>jN (bP s7 rh))<|jE [[],[1]]) (fun _=>?_)
 refine aF ?_
 exact mR (v:=(.agg #[vu (add32 s0 ra),vu (add32 s1 rb),vu (add32 s2 rc),vu (add32 s3 rd),vu (add32 s4 re),vu (add32 s5 rf),vu (add32 s6 rg),vu (add32 s7 rh)])) (fun _ hS=>⟨congrArg Ending.returned (by rw [cmp_end hr (show i=64 by have:=yF hb1;omega)]),hS.bel⟩)
theorem sum_any (a:Option Addr) (c:Nat) (B:List UInt8) (h0:0<B.length) (hl:B.length+73≤140737488351232) (w0:World) (hf0:Bs w0 a c B) (hf1:kJ w0) (hf2:fU w0):Calls Tryz.prog 48 #[.slice a B.length c] w0 (jR (.agg (hB (aU B))) w0):=by
 refine Calls.of_ok (n:=48) (F:=(fun w=>Bs w a c B∧kJ w∧fU w∧True)) Tryz.func48 rfl rfl rfl (by simp) (hf0.pers0.and (hf1.pers0.and (hf2.pers0.and cO))) ?_
 refine sS Tryz.f48 1 [0,2] [] (fun ρ=>[pt (nb ρ 0)]) (fun ρ=>[(0,(nw ρ 0 (cL (hB 0) 47)))]) (jE [[]]) (fun ρ1=>?_)
 refine iZ Tryz.f48 8 [2,3] [1,0] (fun ρ=>let qa:Value:=.slice (oa ρ 6) (B++(aY B.length)).length (nb ρ 6);[.slice a B.length c,.slice a B.length c,vn B.length,vx B.length,.slice (oa ρ 4) (aY B.length).length (nb ρ 4),vs (nb ρ 5) 2 2,qa,qa]) (fun ρ=>[(5,(nw ρ 5 (cL #[.slice a B.length c,.slice (oa ρ 4) (aY B.length).length (nb ρ 4)] 35)))]) (fun ρ=>[(4,fun w=>Fs w0 w (oa ρ 4) (nb ρ 4) (aY B.length)),(6,fun w=>Fs w0 w (oa ρ 6) (nb ρ 6) (B++(aY B.length)))]) (fun ρ=>(fun w=>Bs w a c B∧kJ w∧fU w∧Fs w0 w (oa ρ 4) (nb ρ 4) (aY B.length)∧Fs w0 w (oa ρ 6) (nb ρ 6) (B++(aY B.length))∧True)) (fun _=>True) (fun _ _ hF hf=>⟨⟨hF.1,hF.2.1,hF.2.2.1,hf 4,hf 6,trivial⟩,trivial⟩) (cR [[],[],[]]<|cA (v:=fun ρ=>(.int .u64 (IntKind.u64.wrap ((B.length:Nat):Int)))) (fun _=>(vx B.length)) (fun _=>congrArg (Value.int .u64) (u64N (by have:=bJ B;have:=aS B.length;omega)))<|cX (qB (fun _ _ w _=>pad_any B.length (by have:=bJ B;have:=aS B.length;omega) w))<|cR [[]]<|cX (qB (fun ρ _ w hG=>yA (nb ρ 5) a c B (oa ρ 4) (nb ρ 4) (aY B.length) (by have:=yG B.length;have:=aS B.length;omega) h0 w (Kb.of_block (hG.kn (g:=nb ρ 5) (o:=(cL #[.slice a B.length c,.slice (oa ρ 4) (aY B.length).length (nb ρ 4)] 35)) 41)) hG.fn.1 (show Fs w0 w (oa ρ 4) (nb ρ 4) (aY B.length) from (hG.facts 4 rfl).now).1))<|jE [[]]) (fun ρ2 _=>?_)
 refine sS Tryz.f48 3 [2,3,4] [] (fun ρ=>[.agg #[.int .u32 1779033703,.int .u32 3144134277,.int .u32 1013904242,.int .u32 2773480762,.int .u32 1359893119,.int .u32 2600822924,.int .u32 528734635,.int .u32 1541459225],pt (nb ρ 1),undef]) (fun ρ=>[(1,(nw ρ 1 (cL #[.int .u32 0,.int .u32 0,.int .u32 0,.int .u32 0,.int .u32 0,.int .u32 0,.int .u32 0,.int .u32 0] 111))),(2,(bD 9 (nb ρ 1) (cL #[.int .u32 1779033703,.int .u32 3144134277,.int .u32 1013904242,.int .u32 2773480762,.int .u32 1359893119,.int .u32 2600822924,.int .u32 528734635,.int .u32 1541459225] 111)))]) (cX (qF (v:=fun ρ=>(.agg #[.int .u32 1779033703,.int .u32 3144134277,.int .u32 1013904242,.int .u32 2773480762,.int .u32 1359893119,.int .u32 2600822924,.int .u32 528734635,.int .u32 1541459225])) (fun _ _ _ hG=>ld_blkA (off:=0) (vs:=[.int .u32 1779033703,.int .u32 3144134277,.int .u32 1013904242,.int .u32 2773480762,.int .u32 1359893119,.int .u32 2600822924,.int .u32 528734635,.int .u32 1541459225]) Tryz.isAgg111 Tryz.sizeOf111 hG.fn.2.2.1 rfl (fun _ _=>by rw [Nat.zero_add];simp)))<|jE [[],[9]]) (fun ρ3=>?_)
 refine aB ?_
 refine sS Tryz.f48 4 [2,3,4,18,19] [] (fun _=>[.slice (oa ρ2 6) (B++(aY B.length)).length (nb ρ2 6),vn (B++(aY B.length)).length,vn ((B++(aY B.length)).length / 64),vi 0]) (fun _=>[]) (cR [[],[]]<|cB (a:=fun ρ=>(vn (B++(aY B.length)).length)) (b:=fun ρ=>(vi 64)) (v:=fun ρ=>(vn ((B++(aY B.length)).length / 64))) .quo 3 (fun _ w=>yP (n:=(B++(aY B.length)).length) (d:=64) (by decide) (by have:=bJ B;have:=aS B.length;omega) w)<|jE [[]]) (fun _=>?_)
 refine aI ?_
 refine oL (σ:=Nat × Nat × Nat × Nat × Nat × Nat × Nat × Nat × Nat) (fun ⟨i,_,_,_,_,_,_,_,_⟩=>[(2,(pt (nb ρ1 0))),(3,(.slice (oa ρ2 6) (B++(aY B.length)).length (nb ρ2 6))),(4,(pt (nb ρ3 1))),(18,(vn ((B++(aY B.length)).length / 64))),(19,(vn i))]) (fun ⟨_,t0,t1,t2,t3,t4,t5,t6,t7⟩=>[(nb ρ1 0,(cL (hB 0) 47)),(nb ρ3 1,(cL #[vu t0,vu t1,vu t2,vu t3,vu t4,vu t5,vu t6,vu t7] 111))]) (fun ⟨i,_,_,_,_,_,_,_,_⟩=>(B++(aY B.length)).length / 64-i)
   (fun ⟨i,t0,t1,t2,t3,t4,t5,t6,t7⟩=>(i≤(B++(aY B.length)).length / 64)∧(xBK (B++(aY B.length)) i=(t0,t1,t2,t3,t4,t5,t6,t7))) (0,1779033703,3144134277,1013904242,2773480762,1359893119,2600822924,528734635,1541459225) (⟨Nat.zero_le _,rfl⟩) [] ?_
 rintro ⟨i,t0,t1,t2,t3,t4,t5,t6,t7⟩ ⟨hi,hQ⟩
 change Ok Tryz.prog _ _ 48 [(2,(pt (nb ρ1 0))),(3,(.slice (oa ρ2 6) (B++(aY B.length)).length (nb ρ2 6))),(4,(pt (nb ρ3 1))),(18,(vn ((B++(aY B.length)).length / 64))),(19,(vn i))] _ [(nb ρ1 0,(cL (hB 0) 47)),(nb ρ3 1,(cL #[vu t0,vu t1,vu t2,vu t3,vu t4,vu t5,vu t6,vu t7] 111))] (fun w=>Bs w a c B∧kJ w∧fU w∧Fs w0 w (oa ρ2 4) (nb ρ2 4) (aY B.length)∧Fs w0 w (oa ρ2 6) (nb ρ2 6) (B++(aY B.length))∧True)
 refine jJ Tryz.f48 1 [2,3,4,18,19,20] [.bool (decide (((i:Nat):Int)<(((B++(aY B.length)).length / 64:Nat):Int)))] (aB ?_)
 refine oC (decide (((i:Nat):Int)<(((B++(aY B.length)).length / 64:Nat):Int))) (fun hb1=>?_) (fun hb1=>?_)
 ·
  rw [hb1]
  have:=yT hb1
  refine aG (aA (aB (aI (jJ Tryz.f48 2 [2,3,4,5,18,19] [vn i,vn i] ?_))))
  refine rDf Tryz.f48 [0,0,0,4,14,30,62,127,255] 9 [2,3,4,18,19] [] (fun _=>[.agg #[vu t0,vu t1,vu t2,vu t3,vu t4,vu t5,vu t6,vu t7],.slice (oa ρ2 6) (B++(aY B.length)).length (nb ρ2 6),vn i,vn (64*i),.slice (uF (oa ρ2 6) (64*i) (nb ρ2 6)) (mid (B++(aY B.length)) (64*i) (B++(aY B.length)).length).length ((nb ρ2 6)-(64*i)),.pointer (uF (oa ρ2 6) (64*i) (nb ρ2 6)),.agg (bs ((mid (B++(aY B.length)) (64*i) (B++(aY B.length)).length).take 64)).toArray,.agg #[vu ((eF (t0,t1,t2,t3,t4,t5,t6,t7) ((mid (B++(aY B.length)) (64*i) (B++(aY B.length)).length).take 64)).1),vu ((eF (t0,t1,t2,t3,t4,t5,t6,t7) ((mid (B++(aY B.length)) (64*i) (B++(aY B.length)).length).take 64)).2.1),vu ((eF (t0,t1,t2,t3,t4,t5,t6,t7) ((mid (B++(aY B.length)) (64*i) (B++(aY B.length)).length).take 64)).2.2.1),vu ((eF (t0,t1,t2,t3,t4,t5,t6,t7) ((mid (B++(aY B.length)) (64*i) (B++(aY B.length)).length).take 64)).2.2.2.1),vu ((eF (t0,t1,t2,t3,t4,t5,t6,t7) ((mid (B++(aY B.length)) (64*i) (B++(aY B.length)).length).take 64)).2.2.2.2.1),vu ((eF (t0,t1,t2,t3,t4,t5,t6,t7) ((mid (B++(aY B.length)) (64*i) (B++(aY B.length)).length).take 64)).2.2.2.2.2.1),vu ((eF (t0,t1,t2,t3,t4,t5,t6,t7) ((mid (B++(aY B.length)) (64*i) (B++(aY B.length)).length).take 64)).2.2.2.2.2.2.1),vu ((eF (t0,t1,t2,t3,t4,t5,t6,t7) ((mid (B++(aY B.length)) (64*i) (B++(aY B.length)).length).take 64)).2.2.2.2.2.2.2)],undef]) (fun _=>[(8,(bD 1 (nb ρ3 1) (cL #[vu ((eF (t0,t1,t2,t3,t4,t5,t6,t7) ((mid (B++(aY B.length)) (64*i) (B++(aY B.length)).length).take 64)).1),vu ((eF (t0,t1,t2,t3,t4,t5,t6,t7) ((mid (B++(aY B.length)) (64*i) (B++(aY B.length)).length).take 64)).2.1),vu ((eF (t0,t1,t2,t3,t4,t5,t6,t7) ((mid (B++(aY B.length)) (64*i) (B++(aY B.length)).length).take 64)).2.2.1),vu ((eF (t0,t1,t2,t3,t4,t5,t6,t7) ((mid (B++(aY B.length)) (64*i) (B++(aY B.length)).length).take 64)).2.2.2.1),vu ((eF (t0,t1,t2,t3,t4,t5,t6,t7) ((mid (B++(aY B.length)) (64*i) (B++(aY B.length)).length).take 64)).2.2.2.2.1),vu ((eF (t0,t1,t2,t3,t4,t5,t6,t7) ((mid (B++(aY B.length)) (64*i) (B++(aY B.length)).length).take 64)).2.2.2.2.2.1),vu ((eF (t0,t1,t2,t3,t4,t5,t6,t7) ((mid (B++(aY B.length)) (64*i) (B++(aY B.length)).length).take 64)).2.2.2.2.2.2.1),vu ((eF (t0,t1,t2,t3,t4,t5,t6,t7) ((mid (B++(aY B.length)) (64*i) (B++(aY B.length)).length).take 64)).2.2.2.2.2.2.2)] 111)))]) (fun _=>[(4,fun w=>Bs w (uF (oa ρ2 6) (64*i) (nb ρ2 6)) ((nb ρ2 6)-(64*i)) (mid (B++(aY B.length)) (64*i) (B++(aY B.length)).length))]) (fun _=>(fun w=>Bs w a c B∧kJ w∧fU w∧Fs w0 w (oa ρ2 4) (nb ρ2 4) (aY B.length)∧Fs w0 w (oa ρ2 6) (nb ρ2 6) (B++(aY B.length))∧Bs w (uF (oa ρ2 6) (64*i) (nb ρ2 6)) ((nb ρ2 6)-(64*i)) (mid (B++(aY B.length)) (64*i) (B++(aY B.length)).length)∧True)) (fun _=>True) (fun _ _ hF hf=>⟨⟨hF.1,hF.2.1,hF.2.2.1,hF.2.2.2.1,hF.2.2.2.2.1,hf 4,trivial⟩,trivial⟩) (cR [[1],[],[]]<|jW (fun ρ=>(64*((i:Nat):Int))) (fun _=>(64*i)) (fun _=>(fQ 64 i (by have:=bJ B;have:=aS B.length;omega)))<|cX (jF (fun _=>Instr.sliceAt 35 (.slice (oa ρ2 6) (B++(aY B.length)).length (nb ρ2 6)) (some (vn (64*i))) none none) (fun _=>(.slice (uF (oa ρ2 6) (64*i) (nb ρ2 6)) (mid (B++(aY B.length)) (64*i) (B++(aY B.length)).length).length ((nb ρ2 6)-(64*i)))) (fun _ _ _ hG=>vH (l:=64*i) (k:=(B++(aY B.length)).length) Tryz.underlying35 nH hG.fn.2.2.2.2.1.1 rfl (Or.inr (congrArg (fun z=>some (Value.int .i64 z)) (rfl))) (Or.inl ⟨rfl,rfl⟩) (by have:=bJ B;have:=aS B.length;omega) (Nat.le_refl _)) (fun _ _ w hG=>hG.facts0.mono (fun _ hF=>hF.2.2.2.2.1.1.mid (by have:=bJ B;have:=aS B.length;omega) (Nat.le_refl _))))<|cX (jF (fun _=>Instr.arrayAt 113 (.slice (uF (oa ρ2 6) (64*i) (nb ρ2 6)) (mid (B++(aY B.length)) (64*i) (B++(aY B.length)).length).length ((nb ρ2 6)-(64*i)))) (fun _=>(.pointer (uF (oa ρ2 6) (64*i) (nb ρ2 6)))) (fun _ _ _ _=>arr_bytes Tryz.underlying113 (by rw [kS _ _ _ (Nat.le_refl _)];have:=bJ B;have:=aS B.length;omega)) (fun _ _ _ _=>cO))<|cX (qF (fun _ _ w hG=>ld_arr Tryz.isAgg113 Tryz.sizeOf113 (show Bs w (uF (oa ρ2 6) (64*i) (nb ρ2 6)) ((nb ρ2 6)-(64*i)) (mid (B++(aY B.length)) (64*i) (B++(aY B.length)).length) from (hG.facts 4 rfl).now) (by rw [kS _ _ _ (Nat.le_refl _)];have:=bJ B;have:=aS B.length;omega) (by decide)))<|cX (qC (fun _ _ w hG=>compress_any t0 t1 t2 t3 t4 t5 t6 t7 ((mid (B++(aY B.length)) (64*i) (B++(aY B.length)).length).take 64) (hQ ▸ xA (B++(aY B.length)) i) (by rw [List.length_take,kS _ _ _ (Nat.le_refl _)];have:=bJ B;have:=aS B.length;omega) w hG.fn.2.1))<|jE [[1]]) (fun _ _=>?_)
  refine aJ (aA ?_)
  refine rS Tryz.f48 2 [2,3,4,18,19] [] (fun _=>[vn (i+1),vn (i+1)]) (fun _=>[]) (jW (fun ρ=>(((i:Nat):Int)+1)) (fun _=>(i+1)) (fun _=>(aW i 1 (by have:=bJ B;have:=aS B.length;omega)))<|jE [[]]) (fun _=>?_)
  refine nD (fun w=>Bs w a c B∧kJ w∧fU w∧Fs w0 w (oa ρ2 4) (nb ρ2 4) (aY B.length)∧Fs w0 w (oa ρ2 6) (nb ρ2 6) (B++(aY B.length))∧True) (fun w hF=>⟨hF.1,hF.2.1,hF.2.2.1,hF.2.2.2.1,hF.2.2.2.2.1,trivial⟩) ?_
  exact mN (i+1,(eF (t0,t1,t2,t3,t4,t5,t6,t7) ((mid (B++(aY B.length)) (64*i) (B++(aY B.length)).length).take 64)).1,(eF (t0,t1,t2,t3,t4,t5,t6,t7) ((mid (B++(aY B.length)) (64*i) (B++(aY B.length)).length).take 64)).2.1,(eF (t0,t1,t2,t3,t4,t5,t6,t7) ((mid (B++(aY B.length)) (64*i) (B++(aY B.length)).length).take 64)).2.2.1,(eF (t0,t1,t2,t3,t4,t5,t6,t7) ((mid (B++(aY B.length)) (64*i) (B++(aY B.length)).length).take 64)).2.2.2.1,(eF (t0,t1,t2,t3,t4,t5,t6,t7) ((mid (B++(aY B.length)) (64*i) (B++(aY B.length)).length).take 64)).2.2.2.2.1,(eF (t0,t1,t2,t3,t4,t5,t6,t7) ((mid (B++(aY B.length)) (64*i) (B++(aY B.length)).length).take 64)).2.2.2.2.2.1,(eF (t0,t1,t2,t3,t4,t5,t6,t7) ((mid (B++(aY B.length)) (64*i) (B++(aY B.length)).length).take 64)).2.2.2.2.2.2.1,(eF (t0,t1,t2,t3,t4,t5,t6,t7) ((mid (B++(aY B.length)) (64*i) (B++(aY B.length)).length).take 64)).2.2.2.2.2.2.2) (by show (B++(aY B.length)).length / 64-(i+1)<(B++(aY B.length)).length / 64-i;have:=bJ B;have:=aS B.length;omega) (⟨(by have:=bJ B;have:=aS B.length;omega),sha_next hQ (by have:=bJ B;have:=aS B.length;omega)⟩) []
 rw [hb1]
 have:=yF hb1
 refine bF (aN (aN (aT (aA ?_))))
 refine sS Tryz.f48 1 [2,4,6] [] (fun ρ=>[pt (nb ρ 0)]) (fun ρ=>[(0,(nw ρ 0 (cL (hB 0) 47)))]) (jE [[]]) (fun ρ9=>?_)
 refine aB (jJ Tryz.f48 1 [2,4,6,31] [vi 0] (aI ?_))
 refine oL (σ:=Nat × (Array Value)) (fun ⟨m,_⟩=>[(2,(pt (nb ρ1 0))),(4,(pt (nb ρ3 1))),(6,(pt (nb ρ9 0))),(31,(vn m))]) (fun ⟨_,C⟩=>[(nb ρ1 0,(cL (hB 0) 47)),(nb ρ3 1,(cL #[vu t0,vu t1,vu t2,vu t3,vu t4,vu t5,vu t6,vu t7] 111)),(nb ρ9 0,(cL C 47))]) (fun ⟨m,_⟩=>32-m)
   (fun ⟨m,C⟩=>(m≤32)∧(C=bY .u8 32 (yU (t0,t1,t2,t3,t4,t5,t6,t7) m))) (0,hB 0) (⟨by decide,hB0_row (t0,t1,t2,t3,t4,t5,t6,t7)⟩) [] ?_
 rintro ⟨m,C⟩ ⟨hm,hC⟩
 change Ok Tryz.prog _ _ 48 [(2,(pt (nb ρ1 0))),(4,(pt (nb ρ3 1))),(6,(pt (nb ρ9 0))),(31,(vn m))] _ [(nb ρ1 0,(cL (hB 0) 47)),(nb ρ3 1,(cL #[vu t0,vu t1,vu t2,vu t3,vu t4,vu t5,vu t6,vu t7] 111)),(nb ρ9 0,(cL C 47))] (fun w=>Bs w a c B∧kJ w∧fU w∧Fs w0 w (oa ρ2 4) (nb ρ2 4) (aY B.length)∧Fs w0 w (oa ρ2 6) (nb ρ2 6) (B++(aY B.length))∧True)
 refine jJ Tryz.f48 1 [2,4,6,31,32] [.bool (decide (((m:Nat):Int)<32))] (aB ?_)
 refine oC (decide (((m:Nat):Int)<32)) (fun hb2=>?_) (fun hb2=>?_)
 ·
  rw [hb2]
  have:=yT hb2
  refine aG (aA (aB (aI (jJ Tryz.f48 2 [2,4,6,7,31] [vn m,vn m] ?_))))
  refine rS Tryz.f48 13 [2,4,6,31] [] (fun _=>[vn m,vn m,vn (m / 4),jp (nb ρ3 1) (m / 4),vu (iT (t0,t1,t2,t3,t4,t5,t6,t7) (m / 4)),vn m,vn (m%4),vn ((m%4)*8),vn (24-m%4*8),vu (iT (t0,t1,t2,t3,t4,t5,t6,t7) (m / 4) / 2^(24-m%4*8)),vy (iT (t0,t1,t2,t3,t4,t5,t6,t7) (m / 4) / 2^(24-m%4*8)%256),jp (nb ρ9 0) m,undef]) (fun _=>[(12,(bD 2 (nb ρ9 0) (cL (C.setIfInBounds m (vy (iT (t0,t1,t2,t3,t4,t5,t6,t7) (m / 4) / 2^(24-m%4*8)%256))) 47)))]) (cR [[],[]]<|cB (a:=fun ρ=>(vn m)) (b:=fun ρ=>(vi 4)) (v:=fun ρ=>(vn (m / 4))) .quo 3 (fun _ w=>yP (n:=m) (d:=4) (by decide) (by have:=bJ B;have:=aS B.length;omega) w)<|cX (jS (fun _=>Instr.indexAt 111 (pt (nb ρ3 1)) (vn (m / 4))) (fun _=>(jp (nb ρ3 1) (m / 4))) (fun _ w=>aX (n:=((m / 4:Nat):Int)) (i:=m / 4) Tryz.underlying111 Tryz.sizeOf45 (by have:=bJ B;have:=aS B.length;omega) w))<|cX (kG _ 1 45 (fun _=>nb ρ3 1) (fun _=>m / 4) (fun _=> #[vu t0,vu t1,vu t2,vu t3,vu t4,vu t5,vu t6,vu t7]) 111 (0,0) (fun _=>(vu (iT (t0,t1,t2,t3,t4,t5,t6,t7) (m / 4)))) (fun _=>by kernel_rfl) Tryz.isAgg45 (fun _=>sel_get (by have:=bJ B;have:=aS B.length;omega)))<|cR [[]]<|cB (a:=fun ρ=>(vn m)) (b:=fun ρ=>(vi 4)) (v:=fun ρ=>(vn (m%4))) .rem 3 (fun _ w=>zT (k:=.i64) (n:=m) (d:=4) (by decide) w)<|jW (fun ρ=>(((m%4:Nat):Int)*8)) (fun _=>((m%4)*8)) (fun _=>(fQ (m%4) 8 (by have:=bJ B;have:=aS B.length;omega)))<|jW (fun ρ=>(24-(((m%4)*8:Nat):Int))) (fun _=>(24-m%4*8)) (fun _=>((gZ (by have:=bJ B;have:=aS B.length;omega)).trans (by omega)))<|cB (a:=fun ρ=>(vu (iT (t0,t1,t2,t3,t4,t5,t6,t7) (m / 4)))) (b:=fun ρ=>(vn (24-m%4*8))) (v:=fun ρ=>(vu (iT (t0,t1,t2,t3,t4,t5,t6,t7) (m / 4) / 2^(24-m%4*8)))) .shr 45 (fun _ w=>gG (k:=.u32) (x:=iT (t0,t1,t2,t3,t4,t5,t6,t7) (m / 4)) (c:=24-m%4*8) (sel8_lt (hQ ▸ xA _ i) _) w)<|cA (fun _=>(vy (iT (t0,t1,t2,t3,t4,t5,t6,t7) (m / 4) / 2^(24-m%4*8)%256))) (fun _=>congrArg (Value.int .u8) (u8M (iT (t0,t1,t2,t3,t4,t5,t6,t7) (m / 4) / 2^(24-m%4*8))))<|cX (jS (fun _=>Instr.indexAt 47 (pt (nb ρ9 0)) (vn m)) (fun _=>(jp (nb ρ9 0) m)) (fun _ w=>aX (n:=((m:Nat):Int)) (i:=m) Tryz.underlying47 Tryz.sizeOf5 (by have:=bJ B;have:=aS B.length;omega) w))<|cX (qG _ 2 5 (fun _=>nb ρ9 0) (fun _=>m) (fun _=>C) (fun _=>(C.setIfInBounds m (vy (iT (t0,t1,t2,t3,t4,t5,t6,t7) (m / 4) / 2^(24-m%4*8)%256)))) 47 (fun _=>(vy (iT (t0,t1,t2,t3,t4,t5,t6,t7) (m / 4) / 2^(24-m%4*8)%256))) (fun _=>by kernel_rfl) Tryz.sizeOf5 (fun _=>rfl) (fun _=>(by rw [hC,eH];have:=bJ B;have:=aS B.length;omega)) (fun _=>rfl))<|cN) (fun _=>?_)
  refine aJ (aA ?_)
  refine rS Tryz.f48 2 [2,4,6,31] [] (fun _=>[vn (m+1),vn (m+1)]) (fun _=>[]) (jW (fun ρ=>(((m:Nat):Int)+1)) (fun _=>(m+1)) (fun _=>(aW m 1 (by have:=bJ B;have:=aS B.length;omega)))<|jE [[]]) (fun _=>?_)
  exact mN (m+1,C.setIfInBounds m (vy (iT (t0,t1,t2,t3,t4,t5,t6,t7) (m / 4) / 2^(24-m%4*8)%256))) (by show 32-(m+1)<32-m;have:=bJ B;have:=aS B.length;omega) (⟨(by have:=bJ B;have:=aS B.length;omega),by rw [hC];exact zI rfl⟩) []
 rw [hb2]
 refine bF (aN (aN (aT ?_)))
 rw [hC]
 refine aA ?_
 refine sS Tryz.f48 2 [2] [1,0,0] (fun _=>[.agg (bY .u8 32 (yU (t0,t1,t2,t3,t4,t5,t6,t7) m)),undef]) (fun _=>[(1,(bD 0 (nb ρ1 0) (cL (bY .u8 32 (yU (t0,t1,t2,t3,t4,t5,t6,t7) m)) 47)))]) (cX (qF (fun _ _ _ hG=>vS Tryz.isAgg47 Tryz.sizeOf47 (hG.kn (g:=nb ρ9 0) (o:=(cL (bY .u8 32 (yU (t0,t1,t2,t3,t4,t5,t6,t7) m)) 47)) 2) (eH _ _ _)))<|jE [[0]]) (fun _=>?_)
 refine aF ?_
 exact mR (v:=(.agg (bY .u8 32 (yU (t0,t1,t2,t3,t4,t5,t6,t7) m)))) (fun _ hS=>⟨congrArg Ending.returned (congrArg Value.agg ((dgf_end (by have:=yF hb2;have:=bJ B;have:=aS B.length;omega)).trans (congrArg hB (sha_end hQ (by have:=yF hb2;have:=bJ B;have:=aS B.length;omega))))),hS.bel⟩)
theorem yM (T:List UInt8) (a:Option Addr) (c:Nat) (B:List UInt8) (hT:0<T.length∧T.length≤1000) (hl:B.length+200≤140737488351232) (w0:World) (hf0:Bs w0 a c B) (hf1:kJ w0) (hf2:fU w0):Calls Tryz.prog 27 #[.string (gY T),.slice a B.length c] w0 (jR (.agg (hB (lV T B))) w0):=by
 refine Calls.of_ok (n:=15) (F:=(fun w=>Bs w a c B∧kJ w∧fU w∧True)) Tryz.func27 rfl rfl rfl (by simp) (hf0.pers0.and (hf1.pers0.and (hf2.pers0.and cO))) ?_
 refine sS Tryz.f27 1 [0,1,4] [] (fun ρ=>[pt (nb ρ 0)]) (fun ρ=>[(0,(nw ρ 0 (cL (hB 0) 47)))]) (jE [[]]) (fun ρ1=>?_)
 refine iZ Tryz.f27 5 [1,4,5] [] (fun ρ=>[.string (gY T),.slice (oa ρ 1) T.length (nb ρ 1),.agg (hB (aU T)),pt (nb ρ 3),undef]) (fun ρ=>[(3,(nw ρ 3 (cL (hB 0) 47))),(4,(bD 25 (nb ρ 3) (cL (hB (aU T)) 47)))]) (fun ρ=>[(1,fun w=>Fs w0 w (oa ρ 1) (nb ρ 1) T)]) (fun ρ=>(fun w=>Bs w a c B∧kJ w∧fU w∧Fs w0 w (oa ρ 1) (nb ρ 1) T∧True)) (fun _=>True) (fun _ _ hF hf=>⟨⟨hF.1,hF.2.1,hF.2.2.1,hf 1,trivial⟩,trivial⟩) (cR [[]]<|cX (o_newF _ (fun _=>do pure (Next.value (← convert 9 35 (.string (gY T))))) (fun _ α κ=>(.slice α T.length κ)) (fun _=>T) (fun _ _=>(by kernel_rfl)) (fun _=>(by kernel_rfl)) (fun _ _=>(by kernel_rfl)) (fun _ _ w _=>bytes_str Tryz.underlying9 Tryz.underlying35 Tryz.underlying5 T (by omega) w))<|cX (qC (fun ρ _ w hG=>sum_any (oa ρ 1) (nb ρ 1) T hT.1 (by omega) w (show Fs w0 w (oa ρ 1) (nb ρ 1) T from (hG.facts 1 rfl).now).1 hG.fn.2.1 hG.fn.2.2.1))<|jE [[],[25]]) (fun ρ2 _=>?_)
 refine sDf Tryz.f27 [0,0,0,7,15,31,63] 7 [4] [1,0,0] (fun ρ=>let qa:=vs (nb ρ2 3) (hL (aU T)).length 32;[qa,qa,.slice a B.length c,vs (nb ρ 3) 3 3,.slice (oa ρ 4) (((hL (aU T))++(hL (aU T)))++B).length (nb ρ 4),.agg (hB (aU (((hL (aU T))++(hL (aU T)))++B))),undef]) (fun ρ=>let qa:=vs (nb ρ2 3) (hL (aU T)).length 32;[(3,(nw ρ 3 (cL #[qa,qa,.slice a B.length c] 35))),(6,(bD 0 (nb ρ1 0) (cL (hB (aU (((hL (aU T))++(hL (aU T)))++B))) 47)))]) (fun ρ=>[(4,fun w=>Fs w0 w (oa ρ 4) (nb ρ 4) (((hL (aU T))++(hL (aU T)))++B))]) (fun ρ=>(fun w=>Bs w a c B∧kJ w∧fU w∧Fs w0 w (oa ρ2 1) (nb ρ2 1) T∧Fs w0 w (oa ρ 4) (nb ρ 4) (((hL (aU T))++(hL (aU T)))++B)∧True)) (fun _=>True) (fun _ _ hF hf=>⟨⟨hF.1,hF.2.1,hF.2.2.1,hF.2.2.2.1,hf 4,trivial⟩,trivial⟩) (cR [[],[],[],[]]<|cX (qB (fun ρ _ w hG=>shrow3_any (nb ρ 3) (some ⟨nb ρ2 3,0,none⟩) 32 (hL (aU T)) (some ⟨nb ρ2 3,0,none⟩) 32 (hL (aU T)) a c B (by simp only [aO];omega) (by rw [aO];decide) w (Kb.of_block (hG.kn (g:=nb ρ 3) (o:=(cL #[vs (nb ρ2 3) (hL (aU T)).length 32,vs (nb ρ2 3) (hL (aU T)).length 32,.slice a B.length c] 35)) 26)) (Bs.of_hd (c:=32) (hG.kn (g:=nb ρ2 3) (o:=(cL (hB (aU T)) 47)) 1) (xBR _) (Nat.le_refl _) (Nat.le_of_ble_eq_true rfl)) (Bs.of_hd (c:=32) (hG.kn (g:=nb ρ2 3) (o:=(cL (hB (aU T)) 47)) 1) (xBR _) (Nat.le_refl _) (Nat.le_of_ble_eq_true rfl)) hG.fn.1))<|cX (qC (fun ρ _ w hG=>sum_any (oa ρ 4) (nb ρ 4) (((hL (aU T))++(hL (aU T)))++B) (by simp only [List.length_append,aO];omega) (by simp only [List.length_append,aO];omega) w (show Fs w0 w (oa ρ 4) (nb ρ 4) (((hL (aU T))++(hL (aU T)))++B) from (hG.facts 4 rfl).now).1 hG.fn.2.1 hG.fn.2.2.1))<|jE [[0]]) (fun _ _=>?_)
 refine aF ?_
 exact mR (v:=(.agg (hB (aU (((hL (aU T))++(hL (aU T)))++B))))) (fun _ hS=>⟨congrArg Ending.returned (congrArg (fun z=>Value.agg (hB z)) (by rw [lV,hL_sha])),hS.bel⟩)
theorem reduce_w (a:Nat) (m:Nat) (ha:a<M) (hm:m<M) (w0:World):Calls Tryz.prog 181 #[U a,U m] w0 (jR (U (aQ a m)) w0):=by
 refine Calls.of_ok (n:=22) (F:=(fun _=>True)) Tryz.func181 rfl rfl rfl (by simp) jT ?_
 refine sS Tryz.f181 3 [2,3,4] [] (fun ρ=>[pt (nb ρ 0),pt (nb ρ 1),pt (nb ρ 2)]) (fun ρ=>[(0,(nw ρ 0 (cL (cU a) 54))),(1,(nw ρ 1 (cL (cU m) 54))),(2,(nw ρ 2 (cL (cU 0) 54)))]) (jE [[],[],[]]) (fun ρ1=>?_)
 refine aB ?_
 refine sS Tryz.f181 4 [2,3,4,11] [] (fun _=>[U a,U m,vi (fJ a m),.bool (decide ((fJ a m)<0))]) (fun _=>[]) (cR [[0],[1]]<|cC (fun _ w=>uN a m w ha hm)<|jE [[]]) (fun _=>?_)
 refine oC (decide ((fJ a m)<0)) (fun hb1=>?_) (fun hb1=>?_)
 ·
  rw [hb1]
  refine sS Tryz.f181 2 [2,3,4] [] (fun _=>[U a,undef]) (fun _=>[(1,(bD 2 (nb ρ1 2) (cL (cU a) 54)))]) (jE [[0],[2]]) (fun _=>?_)
  refine aF (aC ?_)
  exact mR (v:=(U a)) (ps:=[2,2,2,2]) (fun _ hS=>⟨congrArg (fun x=>Ending.returned (U x)) (red_lt hb1),hS.bel⟩)
 rw [hb1]
 refine aG (aA ?_)
 refine sS Tryz.f181 13 [4,6] [0,0,1,0,1] (fun ρ=>let qa:Value:=.bool (decide (0<m));[U 0,U a,U m,.tuple #[U (qQ 0 a m),U (iV 0 a m),qa],.tuple #[U (qQ 0 a m),U (iV 0 a m),qa],U (qQ 0 a m),U (iV 0 a m),qa,pt (nb ρ 8),pt (nb ρ 9),undef,undef,qa]) (fun ρ=>[(8,(nw ρ 8 (cL (cU 0) 54))),(9,(nw ρ 9 (cL (cU 0) 54))),(10,(bD 67 (nb ρ 8) (cL (cU (qQ 0 a m)) 54))),(11,(bD 75 (nb ρ 9) (cL (cU (iV 0 a m)) 54)))]) (cR [[],[0],[1]]<|cC (fun _ w=>div_any 0 a m w (by decide +kernel) ha hm)<|jE [[],[],[],[],[],[],[67],[75],[]]) (fun _=>?_)
 refine sS Tryz.f181 2 [4] [1,0] (fun _=>[U (iV 0 a m),undef]) (fun _=>[(1,(bD 0 (nb ρ1 2) (cL (cU (iV 0 a m)) 54)))]) (jE [[1],[0]]) (fun _=>?_)
 refine aF ?_
 exact mR (v:=(U (iV 0 a m))) (fun _ hS=>⟨congrArg (fun x=>Ending.returned (U x)) (red_div hb1),hS.bel⟩)
theorem yE (a m:Nat) (w0:World) (ha:a<M) (hm:m<M):Calls Tryz.prog 181 #[U a,U m] w0 (jR (U (aQ a m)) w0):=reduce_w a m ha hm w0
theorem rreduce_w (a:Nat) (m:Nat) (ha:a<M) (hm:m<M) (w0:World):Calls Tryz.prog 176 #[U a,U m] w0 (jR (U (aQ a m)) w0):=by
 refine Calls.of_ok (n:=17) (F:=(fun _=>True)) Tryz.func176 rfl rfl rfl (by simp) jT ?_
 refine sS Tryz.f176 3 [2,3,4] [] (fun ρ=>[pt (nb ρ 0),pt (nb ρ 1),pt (nb ρ 2)]) (fun ρ=>[(0,(nw ρ 0 (cL (cU a) 54))),(1,(nw ρ 1 (cL (cU m) 54))),(2,(nw ρ 2 (cL (cU 0) 54)))]) (jE [[],[],[]]) (fun ρ1=>?_)
 refine sS Tryz.f176 13 [4,6] [0,0,1,0,1] (fun ρ=>let qa:Value:=.bool (decide (0<m));[U 0,U a,U m,.tuple #[U (qQ 0 a m),U (iV 0 a m),qa],.tuple #[U (qQ 0 a m),U (iV 0 a m),qa],U (qQ 0 a m),U (iV 0 a m),qa,pt (nb ρ 8),pt (nb ρ 9),undef,undef,qa]) (fun ρ=>[(8,(nw ρ 8 (cL (cU 0) 54))),(9,(nw ρ 9 (cL (cU 0) 54))),(10,(bD 67 (nb ρ 8) (cL (cU (qQ 0 a m)) 54))),(11,(bD 75 (nb ρ 9) (cL (cU (iV 0 a m)) 54)))]) (cR [[],[0],[1]]<|cC (fun _ w=>rdiv_any 0 a m w (by decide +kernel) ha hm)<|jE [[],[],[],[],[],[],[67],[75],[]]) (fun _=>?_)
 refine sS Tryz.f176 2 [4] [1,0] (fun _=>[U (iV 0 a m),undef]) (fun _=>[(1,(bD 0 (nb ρ1 2) (cL (cU (iV 0 a m)) 54)))]) (jE [[1],[0]]) (fun _=>?_)
 refine aF ?_
 exact mR (v:=(U (iV 0 a m))) (fun _ hS=>⟨congrArg (fun x=>Ending.returned (U x)) (red_div0 a m),hS.bel⟩)
theorem oM (a m:Nat) (w0:World) (ha:a<M) (hm:m<M):Calls Tryz.prog 176 #[U a,U m] w0 (jR (U (aQ a m)) w0):=rreduce_w a m ha hm w0
theorem mul64_any (x y:Int) (hx:Word x) (hy:Word y) (w:World):Calls Tryz.prog 154 #[.int .u64 x,.int .u64 y] w fun ε w'=>ε=.returned (.tuple #[.int .u64 (mJ x y),.int .u64 (bZ x y)])∧Below w.heap.size w w':=by
  obtain ⟨x,rfl⟩:=Int.eq_ofNat_of_zero_le hx.1
  obtain ⟨y,rfl⟩:=Int.eq_ofNat_of_zero_le hy.1
  refine (mul64_nat x y (by have:=hx.2;omega) (by have:=hy.2;omega) w).mono ?_
  rintro e w' ⟨rfl,rfl⟩
  refine ⟨?_,Below.refl _ _⟩
  unfold mJ bZ
  rw [Int.natCast_ediv,Int.natCast_emod,Int.natCast_mul];rfl
theorem mul_w (a:Nat) (b:Nat) (ha:a<M) (hb:b<M) (w0:World):Calls Tryz.prog 179 #[U a,U b] w0 (jR (.tuple #[U (a*b / M),U (a*b%M)]) w0):=by
 refine Calls.of_ok (n:=69) (F:=(fun _=>True)) Tryz.func179 rfl rfl rfl (by simp) jT ?_
 refine sS Tryz.f179 4 [2,3,4,5] [] (fun ρ=>[pt (nb ρ 0),pt (nb ρ 1),pt (nb ρ 2),pt (nb ρ 3)]) (fun ρ=>[(0,(nw ρ 0 (cL (cU a) 54))),(1,(nw ρ 1 (cL (cU b) 54))),(2,(nw ρ 2 (cL (cU 0) 54))),(3,(nw ρ 3 (cL (cU 0) 54)))]) (jE [[],[],[],[]]) (fun ρ1=>?_)
 refine sS Tryz.f179 1 [2,3,4,5,6] [] (fun ρ=>[pt (nb ρ 0)]) (fun ρ=>[(0,(nw ρ 0 (cL #[.int .u64 0,.int .u64 0,.int .u64 0,.int .u64 0,.int .u64 0,.int .u64 0,.int .u64 0,.int .u64 0] 178)))]) (jE [[]]) (fun ρ2=>?_)
 refine aB (jJ Tryz.f179 1 [2,3,4,5,6,14] [vi 0] (aI ?_))
 refine oL (σ:=Nat × (Nat→Int)) (fun ⟨i,_⟩=>[(2,(pt (nb ρ1 0))),(3,(pt (nb ρ1 1))),(4,(pt (nb ρ1 2))),(5,(pt (nb ρ1 3))),(6,(pt (nb ρ2 0))),(14,(vn i))]) (fun ⟨_,f⟩=>[(nb ρ1 0,(cL (cU a) 54)),(nb ρ1 1,(cL (cU b) 54)),(nb ρ1 2,(cL (cU 0) 54)),(nb ρ1 3,(cL (cU 0) 54)),(nb ρ2 0,(cL (c8 f) 178))]) (fun ⟨i,_⟩=>4-i)
   (fun ⟨i,f⟩=>(i≤4)∧(MulO a b i f)) (0,(fun _=>0)) (⟨by omega,mulO_zero a b⟩) [] ?_
 rintro ⟨i,f⟩ ⟨hi,hO⟩
 change Ok Tryz.prog _ _ 69 [(2,(pt (nb ρ1 0))),(3,(pt (nb ρ1 1))),(4,(pt (nb ρ1 2))),(5,(pt (nb ρ1 3))),(6,(pt (nb ρ2 0))),(14,(vn i))] _ [(nb ρ1 0,(cL (cU a) 54)),(nb ρ1 1,(cL (cU b) 54)),(nb ρ1 2,(cL (cU 0) 54)),(nb ρ1 3,(cL (cU 0) 54)),(nb ρ2 0,(cL (c8 f) 178))] (fun _=>True)
 refine jJ Tryz.f179 1 [2,3,4,5,6,14,15] [.bool (decide (((i:Nat):Int)<4))] (aB ?_)
 refine oC (decide (((i:Nat):Int)<4)) (fun hb1=>?_) (fun hb1=>?_)
 ·
  rw [hb1]
  have:=yT hb1
  refine aG (aA (aB (aI (jJ Tryz.f179 2 [2,3,4,5,6,7,14] [vn i,vn i] (jJ Tryz.f179 1 [2,3,4,5,6,7,8,14] [.int .u64 0] (aB (jJ Tryz.f179 1 [2,3,4,5,6,7,8,14,17] [vi 0] (aI ?_))))))))
  refine oL (σ:=Nat × (Nat→Int) × Int) (fun ⟨j,_,c⟩=>[(2,(pt (nb ρ1 0))),(3,(pt (nb ρ1 1))),(4,(pt (nb ρ1 2))),(5,(pt (nb ρ1 3))),(6,(pt (nb ρ2 0))),(7,(vn i)),(8,(.int .u64 c)),(14,(vn i)),(17,(vn j))]) (fun ⟨_,u,_⟩=>[(nb ρ1 0,(cL (cU a) 54)),(nb ρ1 1,(cL (cU b) 54)),(nb ρ1 2,(cL (cU 0) 54)),(nb ρ1 3,(cL (cU 0) 54)),(nb ρ2 0,(cL (c8 u) 178))]) (fun ⟨j,_,_⟩=>4-j)
    (fun ⟨j,u,c⟩=>(j≤4)∧(MulI a b i j u c)) (0,f,0) (⟨by omega,mulO_begin hO⟩) [] ?_
  rintro ⟨j,u,c⟩ ⟨hj,hM⟩
  change Ok Tryz.prog _ _ 69 [(2,(pt (nb ρ1 0))),(3,(pt (nb ρ1 1))),(4,(pt (nb ρ1 2))),(5,(pt (nb ρ1 3))),(6,(pt (nb ρ2 0))),(7,(vn i)),(8,(.int .u64 c)),(14,(vn i)),(17,(vn j))] _ [(nb ρ1 0,(cL (cU a) 54)),(nb ρ1 1,(cL (cU b) 54)),(nb ρ1 2,(cL (cU 0) 54)),(nb ρ1 3,(cL (cU 0) 54)),(nb ρ2 0,(cL (c8 u) 178))] (fun _=>True)
  refine jJ Tryz.f179 1 [2,3,4,5,6,7,8,14,17,18] [.bool (decide (((j:Nat):Int)<4))] (aB ?_)
  refine oC (decide (((j:Nat):Int)<4)) (fun hb2=>?_) (fun hb2=>?_)
  ·
   rw [hb2]
   have:=yT hb2
   refine aG (aA (aB (aI (jJ Tryz.f179 2 [2,3,4,5,6,7,8,9,14,17] [vn j,vn j] ?_))))
   refine sD Tryz.f179 [0,1,3,0,8,24,63,127,255,255,511,2047] 12 [2,3,4,5,6,7,8,9,10,11,14,17] [] (fun _=>let qa:Value:=.int .u64 (mJ (wd a i) (wd b j));let qb:Value:=.int .u64 (bZ (wd a i) (wd b j));[vn i,jp (nb ρ1 0) i,.int .u64 (wd a i),vn j,jp (nb ρ1 1) j,.int .u64 (wd b j),.tuple #[qa,qb],.tuple #[qa,qb],qa,qb,qa,qb]) (fun _=>[]) (cR [[]]<|cX (jS (fun _=>Instr.indexAt 54 (pt (nb ρ1 0)) (vn i)) (fun _=>(jp (nb ρ1 0) i)) (fun _ w=>aX (n:=((i:Nat):Int)) (i:=i) Tryz.underlying54 Tryz.sizeOf52 (⟨rfl,by omega⟩) w))<|cX (kG _ 0 52 (fun _=>nb ρ1 0) (fun _=>i) (fun _=>(cU a)) 54 (0,0) (fun _=>(.int .u64 (wd a i))) (fun _=>by kernel_rfl) Tryz.isAgg52 (fun _=>lL a i (by omega)))<|cR [[]]<|cX (jS (fun _=>Instr.indexAt 54 (pt (nb ρ1 1)) (vn j)) (fun _=>(jp (nb ρ1 1) j)) (fun _ w=>aX (n:=((j:Nat):Int)) (i:=j) Tryz.underlying54 Tryz.sizeOf52 (⟨rfl,by omega⟩) w))<|cX (kG _ 1 52 (fun _=>nb ρ1 1) (fun _=>j) (fun _=>(cU b)) 54 (0,0) (fun _=>(.int .u64 (wd b j))) (fun _=>by kernel_rfl) Tryz.isAgg52 (fun _=>lL b j (by omega)))<|cC (fun _ w=>mul64_any (wd a i) (wd b j) (bG a i) (bG b j) w)<|jE [[],[],[],[],[]]) (fun _=>?_)
   refine sS Tryz.f179 12 [2,3,4,5,6,7,8,9,10,12,13,14,17] [] (fun _=>let qa:Value:=.int .u64 (cZ (bZ (wd a i) (wd b j)) (u (i+j)) 0);let qb:Value:=.int .u64 (dJ (bZ (wd a i) (wd b j)) (u (i+j)) 0);[.int .u64 (bZ (wd a i) (wd b j)),vn i,vn j,vn (i+j),jp (nb ρ2 0) (i+j),.int .u64 (u (i+j)),.tuple #[qa,qb],.tuple #[qa,qb],qa,qb,qa,qb]) (fun _=>[]) (cR [[],[],[]]<|jW (fun ρ=>(((i:Nat):Int)+((j:Nat):Int))) (fun _=>(i+j)) (fun _=>(dX i j (by omega)))<|cX (jS (fun _=>Instr.indexAt 178 (pt (nb ρ2 0)) (vn (i+j))) (fun _=>(jp (nb ρ2 0) (i+j))) (fun _ w=>aX (n:=((i+j:Nat):Int)) (i:=i+j) Tryz.underlying178 Tryz.sizeOf52 (⟨rfl,by omega⟩) w))<|cX (kG _ 4 52 (fun _=>nb ρ2 0) (fun _=>i+j) (fun _=>(c8 u)) 178 (0,0) (fun _=>(.int .u64 (u (i+j)))) (fun _=>by kernel_rfl) Tryz.isAgg52 (fun _=>c8_get u (i+j) (by omega)))<|cX (o_sem _ (fun _=>callFunc 155 #[.int .u64 (bZ (wd a i) (wd b j)),.int .u64 (u (i+j)),.int .u64 0]) (fun _=>(.tuple #[.int .u64 (cZ (bZ (wd a i) (wd b j)) (u (i+j)) 0),.int .u64 (dJ (bZ (wd a i) (wd b j)) (u (i+j)) 0)])) (fun _=>by kernel_rfl) (fun _=>by kernel_rfl) (fun _ w=>(add64 (bZ (wd a i) (wd b j)) (u (i+j)) 0 (yO _ _) (hM.word _) jD) w))<|jE [[],[],[],[],[]]) (fun _=>?_)
   refine jJ Tryz.f179 4 [2,3,4,5,6,7,8,9,10,12,13,14,17] (let qa:Value:=.int .u64 (IntKind.u64.wrap ((mJ (wd a i) (wd b j))+(dJ (bZ (wd a i) (wd b j)) (u (i+j)) 0)));[.int .u64 (mJ (wd a i) (wd b j)),.int .u64 (dJ (bZ (wd a i) (wd b j)) (u (i+j)) 0),qa,qa]) ?_
   refine sS Tryz.f179 8 [2,3,4,5,6,7,8,9,10,12,13,14,17] [] (fun _=>let qa:Value:=.int .u64 (cZ (cZ (bZ (wd a i) (wd b j)) (u (i+j)) 0) c 0);let qb:Value:=.int .u64 (dJ (cZ (bZ (wd a i) (wd b j)) (u (i+j)) 0) c 0);[.int .u64 (cZ (bZ (wd a i) (wd b j)) (u (i+j)) 0),.int .u64 c,.tuple #[qa,qb],.tuple #[qa,qb],qa,qb,qa,qb]) (fun _=>[]) (cR [[],[]]<|cX (o_sem _ (fun _=>callFunc 155 #[.int .u64 (cZ (bZ (wd a i) (wd b j)) (u (i+j)) 0),.int .u64 c,.int .u64 0]) (fun _=>(.tuple #[.int .u64 (cZ (cZ (bZ (wd a i) (wd b j)) (u (i+j)) 0) c 0),.int .u64 (dJ (cZ (bZ (wd a i) (wd b j)) (u (i+j)) 0) c 0)])) (fun _=>by kernel_rfl) (fun _=>by kernel_rfl) (fun _ w=>(add64 (cZ (bZ (wd a i) (wd b j)) (u (i+j)) 0) c 0 (gQ _ _ _) hM.car jD) w))<|jE [[],[],[],[],[]]) (fun _=>?_)
   refine rS Tryz.f179 10 [2,3,4,5,6,7,8,14,17] [] (fun _=>let qa:Value:=.int .u64 (IntKind.u64.wrap ((IntKind.u64.wrap ((mJ (wd a i) (wd b j))+(dJ (bZ (wd a i) (wd b j)) (u (i+j)) 0)))+(dJ (cZ (bZ (wd a i) (wd b j)) (u (i+j)) 0) c 0)));[vn i,vn j,vn (i+j),.int .u64 (cZ (cZ (bZ (wd a i) (wd b j)) (u (i+j)) 0) c 0),.int .u64 (IntKind.u64.wrap ((mJ (wd a i) (wd b j))+(dJ (bZ (wd a i) (wd b j)) (u (i+j)) 0))),.int .u64 (dJ (cZ (bZ (wd a i) (wd b j)) (u (i+j)) 0) c 0),qa,jp (nb ρ2 0) (i+j),undef,qa]) (fun _=>[(8,(bD 4 (nb ρ2 0) (cL (c8 (qR u (i+j) (cZ (cZ (bZ (wd a i) (wd b j)) (u (i+j)) 0) c 0))) 178)))]) (cR [[],[]]<|jW (fun ρ=>(((i:Nat):Int)+((j:Nat):Int))) (fun _=>(i+j)) (fun _=>(dX i j (by omega)))<|cR [[],[],[],[]]<|cX (jS (fun _=>Instr.indexAt 178 (pt (nb ρ2 0)) (vn (i+j))) (fun _=>(jp (nb ρ2 0) (i+j))) (fun _ w=>aX (n:=((i+j:Nat):Int)) (i:=i+j) Tryz.underlying178 Tryz.sizeOf52 (⟨rfl,by omega⟩) w))<|cX (qG _ 4 52 (fun _=>nb ρ2 0) (fun _=>i+j) (fun _=>(c8 u)) (fun _=>(c8 (qR u (i+j) (cZ (cZ (bZ (wd a i) (wd b j)) (u (i+j)) 0) c 0)))) 178 (fun _=>(.int .u64 (cZ (cZ (bZ (wd a i) (wd b j)) (u (i+j)) 0) c 0))) (fun _=>by kernel_rfl) Tryz.sizeOf52 (fun _=>rfl) (fun _=>(show _<8 from (by omega))) (fun _=>c8_set u (i+j) (cZ (cZ (bZ (wd a i) (wd b j)) (u (i+j)) 0) c 0) (by omega)))<|jE [[]]) (fun _=>?_)
   refine aJ (aA ?_)
   refine rS Tryz.f179 2 [2,3,4,5,6,7,8,14,17] [] (fun _=>[vn (j+1),vn (j+1)]) (fun _=>[]) (jW (fun ρ=>(((j:Nat):Int)+1)) (fun _=>(j+1)) (fun _=>(dX j 1 (by omega)))<|jE [[]]) (fun _=>?_)
   exact mN (j+1,qR u (i+j) (cZ (cZ (bZ (wd a i) (wd b j)) (u (i+j)) 0) c 0),IntKind.u64.wrap ((IntKind.u64.wrap ((mJ (wd a i) (wd b j))+(dJ (bZ (wd a i) (wd b j)) (u (i+j)) 0)))+(dJ (cZ (bZ (wd a i) (wd b j)) (u (i+j)) 0) c 0))) (by show 4-(j+1)<4-j;omega) (⟨by omega,mulI_next (by omega) (by omega) hM (gQ _ _ _) (mul_step (bG a i) (bG b j) (hM.word _) hM.car).2 (mul_step (bG a i) (bG b j) (hM.word _) hM.car).1⟩) []
  rw [hb2]
  refine bF (aN (aN (aT (aA ?_))))
  refine rS Tryz.f179 5 [2,3,4,5,6,14] [] (fun _=>[vn i,vn (i+4),.int .u64 c,jp (nb ρ2 0) (i+4),undef]) (fun _=>[(4,(bD 4 (nb ρ2 0) (cL (c8 (qR u (i+4) c)) 178)))]) (cR [[]]<|jW (fun ρ=>(((i:Nat):Int)+4)) (fun _=>(i+4)) (fun _=>(dX i 4 (by omega)))<|cR [[]]<|cX (jS (fun _=>Instr.indexAt 178 (pt (nb ρ2 0)) (vn (i+4))) (fun _=>(jp (nb ρ2 0) (i+4))) (fun _ w=>aX (n:=((i+4:Nat):Int)) (i:=i+4) Tryz.underlying178 Tryz.sizeOf52 (⟨rfl,by omega⟩) w))<|cX (qG _ 4 52 (fun _=>nb ρ2 0) (fun _=>i+4) (fun _=>(c8 u)) (fun _=>(c8 (qR u (i+4) c))) 178 (fun _=>(.int .u64 c)) (fun _=>by kernel_rfl) Tryz.sizeOf52 (fun _=>rfl) (fun _=>(show _<8 from (by omega))) (fun _=>c8_set u (i+4) c (by omega)))<|cN) (fun _=>?_)
  refine aJ (aA ?_)
  refine rS Tryz.f179 2 [2,3,4,5,6,14] [] (fun _=>[vn (i+1),vn (i+1)]) (fun _=>[]) (jW (fun ρ=>(((i:Nat):Int)+1)) (fun _=>(i+1)) (fun _=>(dX i 1 (by omega)))<|jE [[]]) (fun _=>?_)
  exact mN (i+1,qR u (i+4) c) (by show 4-(i+1)<4-i;omega) (⟨by omega,mulI_end (by omega) (by have:j=4:=(by have:=yF hb2;omega);subst this;exact hM)⟩) []
 rw [hb1]
 refine bF (aN (aN (aT (aA ?_))))
 refine sD Tryz.f179 [0,1,3,0,8,24,7,127] 8 [4,5] [0,0,1,1,0] (fun _=>[.slice (some ⟨nb ρ2 0,4,none⟩) 4 4,jp (nb ρ2 0) 4,.agg #[.int .u64 (f 4),.int .u64 (f 5),.int .u64 (f 6),.int .u64 (f 7)],vs (nb ρ2 0) 4 8,pt (nb ρ2 0),.agg #[.int .u64 (f 0),.int .u64 (f 1),.int .u64 (f 2),.int .u64 (f 3)],undef,undef]) (fun _=>[(6,(bD 2 (nb ρ1 2) (cL #[.int .u64 (f 4),.int .u64 (f 5),.int .u64 (f 6),.int .u64 (f 7)] 54))),(7,(bD 3 (nb ρ1 3) (cL #[.int .u64 (f 0),.int .u64 (f 1),.int .u64 (f 2),.int .u64 (f 3)] 54)))]) (jE [[],[],[4],[],[],[4],[2],[3]]) (fun _=>?_)
 refine aF ?_
 exact mR (v:=(.tuple #[.agg #[.int .u64 (f 4),.int .u64 (f 5),.int .u64 (f 6),.int .u64 (f 7)],.agg #[.int .u64 (f 0),.int .u64 (f 1),.int .u64 (f 2),.int .u64 (f 3)]])) (ps:=[0,0,0,0,1,1,1,1]) (fun _ hS=>⟨mul_end ha hb (by have:i=4:=(by have:=yF hb1;omega);subst this;exact hO),hS.bel⟩)
theorem mul_any (a b:Nat) (w0:World) (ha:a<M) (hb:b<M):Calls Tryz.prog 179 #[U a,U b] w0 (jR (.tuple #[U (a*b / M),U (a*b%M)]) w0):=mul_w a b ha hb w0
theorem rmul_w (a:Nat) (b:Nat) (ha:a<M) (hb:b<M) (w0:World):Calls Tryz.prog 119 #[U a,U b] w0 (jR (.tuple #[U (a*b / M),U (a*b%M)]) w0):=by
 refine Calls.of_ok (n:=71) (F:=(fun _=>True)) Tryz.func119 rfl rfl rfl (by simp) jT ?_
 refine sS Tryz.f119 4 [2,3,4,5] [] (fun ρ=>[pt (nb ρ 0),pt (nb ρ 1),pt (nb ρ 2),pt (nb ρ 3)]) (fun ρ=>[(0,(nw ρ 0 (cL (cU a) 54))),(1,(nw ρ 1 (cL (cU b) 54))),(2,(nw ρ 2 (cL (cU 0) 54))),(3,(nw ρ 3 (cL (cU 0) 54)))]) (jE [[],[],[],[]]) (fun ρ1=>?_)
 refine sS Tryz.f119 1 [2,3,4,5,6] [] (fun ρ=>[pt (nb ρ 0)]) (fun ρ=>[(0,(nw ρ 0 (cL #[.int .u64 0,.int .u64 0,.int .u64 0,.int .u64 0,.int .u64 0,.int .u64 0,.int .u64 0,.int .u64 0] 178)))]) (jE [[]]) (fun ρ2=>?_)
 refine aB (jJ Tryz.f119 1 [2,3,4,5,6,15] [vi 0] (aI ?_))
 refine oL (σ:=Nat × (Nat→Int)) (fun ⟨i,_⟩=>[(2,(pt (nb ρ1 0))),(3,(pt (nb ρ1 1))),(4,(pt (nb ρ1 2))),(5,(pt (nb ρ1 3))),(6,(pt (nb ρ2 0))),(15,(vn i))]) (fun ⟨_,f⟩=>[(nb ρ1 0,(cL (cU a) 54)),(nb ρ1 1,(cL (cU b) 54)),(nb ρ1 2,(cL (cU 0) 54)),(nb ρ1 3,(cL (cU 0) 54)),(nb ρ2 0,(cL (c8 f) 178))]) (fun ⟨i,_⟩=>4-i)
   (fun ⟨i,f⟩=>(i≤4)∧(MulO a b i f)) (0,(fun _=>0)) (⟨by omega,mulO_zero a b⟩) [] ?_
 rintro ⟨i,f⟩ ⟨hi,hO⟩
 change Ok Tryz.prog _ _ 71 [(2,(pt (nb ρ1 0))),(3,(pt (nb ρ1 1))),(4,(pt (nb ρ1 2))),(5,(pt (nb ρ1 3))),(6,(pt (nb ρ2 0))),(15,(vn i))] _ [(nb ρ1 0,(cL (cU a) 54)),(nb ρ1 1,(cL (cU b) 54)),(nb ρ1 2,(cL (cU 0) 54)),(nb ρ1 3,(cL (cU 0) 54)),(nb ρ2 0,(cL (c8 f) 178))] (fun _=>True)
 refine jJ Tryz.f119 1 [2,3,4,5,6,15,16] [.bool (decide (((i:Nat):Int)<4))] (aB ?_)
 refine oC (decide (((i:Nat):Int)<4)) (fun hb1=>?_) (fun hb1=>?_)
 ·
  rw [hb1]
  have:=yT hb1
  refine aG (aA (aB (aI (jJ Tryz.f119 2 [2,3,4,5,6,7,15] [vn i,vn i] (jJ Tryz.f119 1 [2,3,4,5,6,7,8,15] [.int .u64 0] (aB (jJ Tryz.f119 1 [2,3,4,5,6,7,8,15,18] [vi 0] (aI ?_))))))))
  refine oL (σ:=Nat × (Nat→Int) × Int) (fun ⟨j,_,c⟩=>[(2,(pt (nb ρ1 0))),(3,(pt (nb ρ1 1))),(4,(pt (nb ρ1 2))),(5,(pt (nb ρ1 3))),(6,(pt (nb ρ2 0))),(7,(vn i)),(8,(.int .u64 c)),(15,(vn i)),(18,(vn j))]) (fun ⟨_,u,_⟩=>[(nb ρ1 0,(cL (cU a) 54)),(nb ρ1 1,(cL (cU b) 54)),(nb ρ1 2,(cL (cU 0) 54)),(nb ρ1 3,(cL (cU 0) 54)),(nb ρ2 0,(cL (c8 u) 178))]) (fun ⟨j,_,_⟩=>4-j)
    (fun ⟨j,u,c⟩=>(j≤4)∧(MulI a b i j u c)) (0,f,0) (⟨by omega,mulO_begin hO⟩) [] ?_
  rintro ⟨j,u,c⟩ ⟨hj,hM⟩
  change Ok Tryz.prog _ _ 71 [(2,(pt (nb ρ1 0))),(3,(pt (nb ρ1 1))),(4,(pt (nb ρ1 2))),(5,(pt (nb ρ1 3))),(6,(pt (nb ρ2 0))),(7,(vn i)),(8,(.int .u64 c)),(15,(vn i)),(18,(vn j))] _ [(nb ρ1 0,(cL (cU a) 54)),(nb ρ1 1,(cL (cU b) 54)),(nb ρ1 2,(cL (cU 0) 54)),(nb ρ1 3,(cL (cU 0) 54)),(nb ρ2 0,(cL (c8 u) 178))] (fun _=>True)
  refine jJ Tryz.f119 1 [2,3,4,5,6,7,8,15,18,19] [.bool (decide (((j:Nat):Int)<4))] (aB ?_)
  refine oC (decide (((j:Nat):Int)<4)) (fun hb2=>?_) (fun hb2=>?_)
  ·
   rw [hb2]
   have:=yT hb2
   refine aG (aA (aB (aI (jJ Tryz.f119 2 [2,3,4,5,6,7,8,9,15,18] [vn j,vn j] ?_))))
   refine sD Tryz.f119 [0,1,3,0,8,24,63,127,255,255,511,2047] 12 [2,3,4,5,6,7,8,9,10,11,15,18] [] (fun _=>let qa:Value:=.int .u64 (mJ (wd a i) (wd b j));let qb:Value:=.int .u64 (bZ (wd a i) (wd b j));[vn i,jp (nb ρ1 0) i,.int .u64 (wd a i),vn j,jp (nb ρ1 1) j,.int .u64 (wd b j),.tuple #[qa,qb],.tuple #[qa,qb],qa,qb,qa,qb]) (fun _=>[]) (cR [[]]<|cX (jS (fun _=>Instr.indexAt 54 (pt (nb ρ1 0)) (vn i)) (fun _=>(jp (nb ρ1 0) i)) (fun _ w=>aX (n:=((i:Nat):Int)) (i:=i) Tryz.underlying54 Tryz.sizeOf52 (⟨rfl,by omega⟩) w))<|cX (kG _ 0 52 (fun _=>nb ρ1 0) (fun _=>i) (fun _=>(cU a)) 54 (0,0) (fun _=>(.int .u64 (wd a i))) (fun _=>by kernel_rfl) Tryz.isAgg52 (fun _=>lL a i (by omega)))<|cR [[]]<|cX (jS (fun _=>Instr.indexAt 54 (pt (nb ρ1 1)) (vn j)) (fun _=>(jp (nb ρ1 1) j)) (fun _ w=>aX (n:=((j:Nat):Int)) (i:=j) Tryz.underlying54 Tryz.sizeOf52 (⟨rfl,by omega⟩) w))<|cX (kG _ 1 52 (fun _=>nb ρ1 1) (fun _=>j) (fun _=>(cU b)) 54 (0,0) (fun _=>(.int .u64 (wd b j))) (fun _=>by kernel_rfl) Tryz.isAgg52 (fun _=>lL b j (by omega)))<|cC (fun _ w=>mul64_any (wd a i) (wd b j) (bG a i) (bG b j) w)<|jE [[],[],[],[],[]]) (fun _=>?_)
   refine sS Tryz.f119 12 [2,3,4,5,6,7,8,9,10,12,13,15,18] [] (fun _=>let qa:Value:=.int .u64 (cZ (u (i+j)) (bZ (wd a i) (wd b j)) 0);let qb:Value:=.int .u64 (dJ (u (i+j)) (bZ (wd a i) (wd b j)) 0);[vn i,vn j,vn (i+j),jp (nb ρ2 0) (i+j),.int .u64 (u (i+j)),.int .u64 (bZ (wd a i) (wd b j)),.tuple #[qa,qb],.tuple #[qa,qb],qa,qb,qa,qb]) (fun _=>[]) (cR [[],[]]<|jW (fun ρ=>(((i:Nat):Int)+((j:Nat):Int))) (fun _=>(i+j)) (fun _=>(dX i j (by omega)))<|cX (jS (fun _=>Instr.indexAt 178 (pt (nb ρ2 0)) (vn (i+j))) (fun _=>(jp (nb ρ2 0) (i+j))) (fun _ w=>aX (n:=((i+j:Nat):Int)) (i:=i+j) Tryz.underlying178 Tryz.sizeOf52 (⟨rfl,by omega⟩) w))<|cX (kG _ 4 52 (fun _=>nb ρ2 0) (fun _=>i+j) (fun _=>(c8 u)) 178 (0,0) (fun _=>(.int .u64 (u (i+j)))) (fun _=>by kernel_rfl) Tryz.isAgg52 (fun _=>c8_get u (i+j) (by omega)))<|cR [[]]<|cX (o_sem _ (fun _=>callFunc 155 #[.int .u64 (u (i+j)),.int .u64 (bZ (wd a i) (wd b j)),.int .u64 0]) (fun _=>(.tuple #[.int .u64 (cZ (u (i+j)) (bZ (wd a i) (wd b j)) 0),.int .u64 (dJ (u (i+j)) (bZ (wd a i) (wd b j)) 0)])) (fun _=>by kernel_rfl) (fun _=>by kernel_rfl) (fun _ w=>(add64 (u (i+j)) (bZ (wd a i) (wd b j)) 0 (hM.word _) (yO _ _) jD) w))<|jE [[],[],[],[],[]]) (fun _=>?_)
   refine sS Tryz.f119 8 [2,3,4,5,6,7,8,9,10,12,13,14,15,18] [] (fun _=>let qa:Value:=.int .u64 (cZ (cZ (u (i+j)) (bZ (wd a i) (wd b j)) 0) c 0);let qb:Value:=.int .u64 (dJ (cZ (u (i+j)) (bZ (wd a i) (wd b j)) 0) c 0);[.int .u64 (cZ (u (i+j)) (bZ (wd a i) (wd b j)) 0),.int .u64 c,.tuple #[qa,qb],.tuple #[qa,qb],qa,qb,qa,qb]) (fun _=>[]) (cR [[],[]]<|cX (o_sem _ (fun _=>callFunc 155 #[.int .u64 (cZ (u (i+j)) (bZ (wd a i) (wd b j)) 0),.int .u64 c,.int .u64 0]) (fun _=>(.tuple #[.int .u64 (cZ (cZ (u (i+j)) (bZ (wd a i) (wd b j)) 0) c 0),.int .u64 (dJ (cZ (u (i+j)) (bZ (wd a i) (wd b j)) 0) c 0)])) (fun _=>by kernel_rfl) (fun _=>by kernel_rfl) (fun _ w=>(add64 (cZ (u (i+j)) (bZ (wd a i) (wd b j)) 0) c 0 (gQ _ _ _) hM.car jD) w))<|jE [[],[],[],[],[]]) (fun _=>?_)
   refine rS Tryz.f119 12 [2,3,4,5,6,7,8,15,18] [] (fun _=>let qa:Value:=.int .u64 (IntKind.u64.wrap ((IntKind.u64.wrap ((mJ (wd a i) (wd b j))+(dJ (u (i+j)) (bZ (wd a i) (wd b j)) 0)))+(dJ (cZ (u (i+j)) (bZ (wd a i) (wd b j)) 0) c 0)));[vn i,vn j,vn (i+j),.int .u64 (cZ (cZ (u (i+j)) (bZ (wd a i) (wd b j)) 0) c 0),.int .u64 (mJ (wd a i) (wd b j)),.int .u64 (dJ (u (i+j)) (bZ (wd a i) (wd b j)) 0),.int .u64 (IntKind.u64.wrap ((mJ (wd a i) (wd b j))+(dJ (u (i+j)) (bZ (wd a i) (wd b j)) 0))),.int .u64 (dJ (cZ (u (i+j)) (bZ (wd a i) (wd b j)) 0) c 0),qa,jp (nb ρ2 0) (i+j),undef,qa]) (fun _=>[(10,(bD 4 (nb ρ2 0) (cL (c8 (qR u (i+j) (cZ (cZ (u (i+j)) (bZ (wd a i) (wd b j)) 0) c 0))) 178)))]) (cR [[],[]]<|jW (fun ρ=>(((i:Nat):Int)+((j:Nat):Int))) (fun _=>(i+j)) (fun _=>(dX i j (by omega)))<|cR [[],[],[],[],[],[]]<|cX (jS (fun _=>Instr.indexAt 178 (pt (nb ρ2 0)) (vn (i+j))) (fun _=>(jp (nb ρ2 0) (i+j))) (fun _ w=>aX (n:=((i+j:Nat):Int)) (i:=i+j) Tryz.underlying178 Tryz.sizeOf52 (⟨rfl,by omega⟩) w))<|cX (qG _ 4 52 (fun _=>nb ρ2 0) (fun _=>i+j) (fun _=>(c8 u)) (fun _=>(c8 (qR u (i+j) (cZ (cZ (u (i+j)) (bZ (wd a i) (wd b j)) 0) c 0)))) 178 (fun _=>(.int .u64 (cZ (cZ (u (i+j)) (bZ (wd a i) (wd b j)) 0) c 0))) (fun _=>by kernel_rfl) Tryz.sizeOf52 (fun _=>rfl) (fun _=>(show _<8 from (by omega))) (fun _=>c8_set u (i+j) (cZ (cZ (u (i+j)) (bZ (wd a i) (wd b j)) 0) c 0) (by omega)))<|jE [[]]) (fun _=>?_)
   refine aJ (aA ?_)
   refine rS Tryz.f119 2 [2,3,4,5,6,7,8,15,18] [] (fun _=>[vn (j+1),vn (j+1)]) (fun _=>[]) (jW (fun ρ=>(((j:Nat):Int)+1)) (fun _=>(j+1)) (fun _=>(dX j 1 (by omega)))<|jE [[]]) (fun _=>?_)
   exact mN (j+1,qR u (i+j) (cZ (cZ (u (i+j)) (bZ (wd a i) (wd b j)) 0) c 0),IntKind.u64.wrap ((IntKind.u64.wrap ((mJ (wd a i) (wd b j))+(dJ (u (i+j)) (bZ (wd a i) (wd b j)) 0)))+(dJ (cZ (u (i+j)) (bZ (wd a i) (wd b j)) 0) c 0))) (by show 4-(j+1)<4-j;omega) (⟨by omega,mulI_next (by omega) (by omega) hM (gQ _ _ _) (rmul_step (bG a i) (bG b j) (hM.word _) hM.car).2 (rmul_step (bG a i) (bG b j) (hM.word _) hM.car).1⟩) []
  rw [hb2]
  refine bF (aN (aN (aT (aA ?_))))
  refine rS Tryz.f119 5 [2,3,4,5,6,15] [] (fun _=>[vn i,vn (i+4),.int .u64 c,jp (nb ρ2 0) (i+4),undef]) (fun _=>[(4,(bD 4 (nb ρ2 0) (cL (c8 (qR u (i+4) c)) 178)))]) (cR [[]]<|jW (fun ρ=>(((i:Nat):Int)+4)) (fun _=>(i+4)) (fun _=>(dX i 4 (by omega)))<|cR [[]]<|cX (jS (fun _=>Instr.indexAt 178 (pt (nb ρ2 0)) (vn (i+4))) (fun _=>(jp (nb ρ2 0) (i+4))) (fun _ w=>aX (n:=((i+4:Nat):Int)) (i:=i+4) Tryz.underlying178 Tryz.sizeOf52 (⟨rfl,by omega⟩) w))<|cX (qG _ 4 52 (fun _=>nb ρ2 0) (fun _=>i+4) (fun _=>(c8 u)) (fun _=>(c8 (qR u (i+4) c))) 178 (fun _=>(.int .u64 c)) (fun _=>by kernel_rfl) Tryz.sizeOf52 (fun _=>rfl) (fun _=>(show _<8 from (by omega))) (fun _=>c8_set u (i+4) c (by omega)))<|cN) (fun _=>?_)
  refine aJ (aA ?_)
  refine rS Tryz.f119 2 [2,3,4,5,6,15] [] (fun _=>[vn (i+1),vn (i+1)]) (fun _=>[]) (jW (fun ρ=>(((i:Nat):Int)+1)) (fun _=>(i+1)) (fun _=>(dX i 1 (by omega)))<|jE [[]]) (fun _=>?_)
  exact mN (i+1,qR u (i+4) c) (by show 4-(i+1)<4-i;omega) (⟨by omega,mulI_end (by omega) (by have:j=4:=(by have:=yF hb2;omega);subst this;exact hM)⟩) []
 rw [hb1]
 refine bF (aN (aN (aT (aA ?_))))
 refine sD Tryz.f119 [0,0,3] 3 [4,5,6] [0,0,1,1,1] (fun _=>[vs (nb ρ1 3) 4 4,vs (nb ρ2 0) 4 8,vi 4]) (fun _=>[(2,(bD 3 (nb ρ1 3) (cL #[.int .u64 (f 0),.int .u64 (f 1),.int .u64 (f 2),.int .u64 (f 3)] 54)))]) (cR [[],[]]<|cX (o_run _ [3,4] [1,1,1,1,0,0,0,0] (fun _ _=>[nb ρ2 0,nb ρ2 0,nb ρ2 0,nb ρ2 0,nb ρ1 3,nb ρ1 3,nb ρ1 3,nb ρ1 3]) (fun _ _=>by kernel_rfl))<|cN) (fun _=>?_)
 refine sD Tryz.f119 [0,0,3] 3 [4,5] [1,1,0] (fun _=>[vs (nb ρ1 2) 4 4,.slice (some ⟨nb ρ2 0,4,none⟩) 4 4,vi 4]) (fun _=>[(2,(bD 0 (nb ρ1 2) (cL #[.int .u64 (f 4),.int .u64 (f 5),.int .u64 (f 6),.int .u64 (f 7)] 54)))]) (cR [[],[]]<|cX (o_run _ [0,2] [1,1,1,1,0,0,0,0] (fun _ _=>[nb ρ2 0,nb ρ2 0,nb ρ2 0,nb ρ2 0,nb ρ1 2,nb ρ1 2,nb ρ1 2,nb ρ1 2]) (fun _ _=>by kernel_rfl))<|cN) (fun _=>?_)
 refine sS Tryz.f119 4 [4,5] [] (fun _=>[.agg #[.int .u64 (f 4),.int .u64 (f 5),.int .u64 (f 6),.int .u64 (f 7)],.agg #[.int .u64 (f 0),.int .u64 (f 1),.int .u64 (f 2),.int .u64 (f 3)],undef,undef]) (fun _=>[(2,(bD 0 (nb ρ1 2) (cL #[.int .u64 (f 4),.int .u64 (f 5),.int .u64 (f 6),.int .u64 (f 7)] 54))),(3,(bD 1 (nb ρ1 3) (cL #[.int .u64 (f 0),.int .u64 (f 1),.int .u64 (f 2),.int .u64 (f 3)] 54)))]) (jE [[0],[1],[0],[1]]) (fun _=>?_)
 refine aF ?_
 exact mR (v:=(.tuple #[.agg #[.int .u64 (f 4),.int .u64 (f 5),.int .u64 (f 6),.int .u64 (f 7)],.agg #[.int .u64 (f 0),.int .u64 (f 1),.int .u64 (f 2),.int .u64 (f 3)]])) (ps:=[0,0,0,0,1,1,1,1]) (fun _ hS=>⟨mul_end ha hb (by have:i=4:=(by have:=yF hb1;omega);subst this;exact hO),hS.bel⟩)
theorem rmul_any (a b:Nat) (w0:World) (ha:a<M) (hb:b<M):Calls Tryz.prog 119 #[U a,U b] w0 (jR (.tuple #[U (a*b / M),U (a*b%M)]) w0):=rmul_w a b ha hb w0
theorem mulmod_w (a:Nat) (b:Nat) (m:Nat) (ha:a<M) (hb:b<M) (hm:m<M) (w0:World):Calls Tryz.prog 178 #[U a,U b,U m] w0 (jR (U (bV a b m)) w0):=by
 refine Calls.of_ok (n:=33) (F:=(fun _=>True)) Tryz.func178 rfl rfl rfl (by simp) jT ?_
 refine sS Tryz.f178 4 [3,4,5,6] [] (fun ρ=>[pt (nb ρ 0),pt (nb ρ 1),pt (nb ρ 2),pt (nb ρ 3)]) (fun ρ=>[(0,(nw ρ 0 (cL (cU a) 54))),(1,(nw ρ 1 (cL (cU b) 54))),(2,(nw ρ 2 (cL (cU m) 54))),(3,(nw ρ 3 (cL (cU 0) 54)))]) (jE [[],[],[],[]]) (fun ρ1=>?_)
 refine aB ?_
 refine sS Tryz.f178 3 [3,4,5,6,14] [] (fun _=>[U m,U 0,.bool (decide (m=0))]) (fun _=>[]) (cR [[2],[]]<|cB (a:=fun ρ=>(U m)) (b:=fun ρ=>(U 0)) (v:=fun ρ=>(.bool (decide (m=0)))) .eql 54 (fun _ _=>eqlU m 0 hm (by decide +kernel) _)<|cN) (fun _=>?_)
 refine oC (decide (m=0)) (fun hb1=>?_) (fun hb1=>?_)
 ·
  rw [hb1]
  refine sS Tryz.f178 2 [3,4,5,6] [] (fun _=>[U 0,undef]) (fun _=>[(1,(bD 3 (nb ρ1 3) (cL (cU 0) 54)))]) (jE [[],[3]]) (fun _=>?_)
  refine aF (aC ?_)
  exact mR (v:=(U 0)) (ps:=[3,3,3,3]) (fun _ hS=>⟨congrArg (fun x=>Ending.returned (U x)) (mulm_0 hb1),hS.bel⟩)
 rw [hb1]
 refine aG (aA ?_)
 refine sS Tryz.f178 10 [5,6,7,8] [0,0,1,1,1,1] (fun ρ=>[U a,U b,.tuple #[U ((a*b) / M),U ((a*b)%M)],.tuple #[U ((a*b) / M),U ((a*b)%M)],U ((a*b) / M),U ((a*b)%M),pt (nb ρ 6),pt (nb ρ 7),undef,undef]) (fun ρ=>[(6,(nw ρ 6 (cL (cU 0) 54))),(7,(nw ρ 7 (cL (cU 0) 54))),(8,(bD 52 (nb ρ 6) (cL (cU ((a*b) / M)) 54))),(9,(bD 60 (nb ρ 7) (cL (cU ((a*b)%M)) 54)))]) (cR [[0],[1]]<|cC (fun _ w=>mul_any a b w ha hb)<|jE [[],[],[],[],[],[52],[60]]) (fun _=>?_)
 refine sD Tryz.f178 [0,0,3,0,0,31,63,127,127,127,0,0,3327,7679,16383] 15 [6,10] [0,1,0,0,0,1] (fun ρ=>let qa:Value:=.bool (decide ((aQ ((a*b) / M) m)<m));[U ((a*b) / M),U m,U (aQ ((a*b) / M) m),U ((a*b)%M),U m,.tuple #[U (qQ (aQ ((a*b) / M) m) ((a*b)%M) m),U (iV (aQ ((a*b) / M) m) ((a*b)%M) m),qa],.tuple #[U (qQ (aQ ((a*b) / M) m) ((a*b)%M) m),U (iV (aQ ((a*b) / M) m) ((a*b)%M) m),qa],U (qQ (aQ ((a*b) / M) m) ((a*b)%M) m),U (iV (aQ ((a*b) / M) m) ((a*b)%M) m),qa,pt (nb ρ 10),pt (nb ρ 11),undef,undef,qa]) (fun ρ=>[(10,(nw ρ 10 (cL (cU 0) 54))),(11,(nw ρ 11 (cL (cU 0) 54))),(12,(bD 84 (nb ρ 10) (cL (cU (qQ (aQ ((a*b) / M) m) ((a*b)%M) m)) 54))),(13,(bD 92 (nb ρ 11) (cL (cU (iV (aQ ((a*b) / M) m) ((a*b)%M) m)) 54)))]) (cR [[2],[0]]<|cC (fun _ w=>yE ((a*b) / M) m w (mulhi_lt ha hb) hm)<|cR [[3],[0]]<|cC (f:=180) (args:=fun ρ=> #[U (aQ ((a*b) / M) m),U ((a*b)%M),U m]) (v:=fun ρ=>(.tuple #[U (qQ (aQ ((a*b) / M) m) ((a*b)%M) m),U (iV (aQ ((a*b) / M) m) ((a*b)%M) m),.bool (decide ((aQ ((a*b) / M) m)<m))])) (fun _ w=>(fun w=>div_any (aQ ((a*b) / M) m) ((a*b)%M) m w (pR (mulhi_lt ha hb)) (rC _) hm) w)<|jE [[],[],[],[],[],[],[84],[92],[]]) (fun _=>?_)
 refine sS Tryz.f178 2 [6] [1,0] (fun _=>[U (iV (aQ ((a*b) / M) m) ((a*b)%M) m),undef]) (fun _=>[(1,(bD 0 (nb ρ1 3) (cL (cU (iV (aQ ((a*b) / M) m) ((a*b)%M) m)) 54)))]) (jE [[1],[0]]) (fun _=>?_)
 refine aF ?_
 exact mR (v:=(U (iV (aQ ((a*b) / M) m) ((a*b)%M) m))) (fun _ hS=>⟨congrArg (fun x=>Ending.returned (U x)) (mulm_1 hb1),hS.bel⟩)
theorem mulmod_any (a b m:Nat) (w0:World) (ha:a<M) (hb:b<M) (hm:m<M):Calls Tryz.prog 178 #[U a,U b,U m] w0 (jR (U (bV a b m)) w0):=mulmod_w a b m ha hb hm w0
theorem rmulmod_w (a:Nat) (b:Nat) (m:Nat) (ha:a<M) (hb:b<M) (hm:m<M) (w0:World):Calls Tryz.prog 177 #[U a,U b,U m] w0 (jR (U (bV a b m)) w0):=by
 refine Calls.of_ok (n:=34) (F:=(fun _=>True)) Tryz.func177 rfl rfl rfl (by simp) jT ?_
 refine sS Tryz.f177 4 [3,4,5,6] [] (fun ρ=>[pt (nb ρ 0),pt (nb ρ 1),pt (nb ρ 2),pt (nb ρ 3)]) (fun ρ=>[(0,(nw ρ 0 (cL (cU a) 54))),(1,(nw ρ 1 (cL (cU b) 54))),(2,(nw ρ 2 (cL (cU m) 54))),(3,(nw ρ 3 (cL (cU 0) 54)))]) (jE [[],[],[],[]]) (fun ρ1=>?_)
 refine aB ?_
 refine sS Tryz.f177 2 [3,4,5,6,13] [] (fun _=>[U m,.bool (decide (m=0))]) (fun _=>[]) (cR [[2]]<|cC (fun _ w=>iI m w hm)<|cN) (fun _=>?_)
 refine oC (decide (m=0)) (fun hb1=>?_) (fun hb1=>?_)
 ·
  rw [hb1]
  refine sS Tryz.f177 2 [3,4,5,6] [] (fun _=>[U m,undef]) (fun _=>[(1,(bD 3 (nb ρ1 3) (cL (cU m) 54)))]) (jE [[2],[3]]) (fun _=>?_)
  refine aF (aC ?_)
  exact mR (v:=(U m)) (ps:=[3,3,3,3]) (fun _ hS=>⟨congrArg (fun x=>Ending.returned (U x)) (mulm_0' hb1),hS.bel⟩)
 rw [hb1]
 refine aG (aA ?_)
 refine sD Tryz.f177 [0,0,3,0,0,31,63,127,255,255,0,0,3583,8191] 14 [5,6,7,8] [0,0,1,1,1,1] (fun ρ=>[U a,U m,U (aQ a m),U b,U m,U (aQ b m),.tuple #[U (((aQ a m)*(aQ b m)) / M),U (((aQ a m)*(aQ b m))%M)],.tuple #[U (((aQ a m)*(aQ b m)) / M),U (((aQ a m)*(aQ b m))%M)],U (((aQ a m)*(aQ b m)) / M),U (((aQ a m)*(aQ b m))%M),pt (nb ρ 10),pt (nb ρ 11),undef,undef]) (fun ρ=>[(10,(nw ρ 10 (cL (cU 0) 54))),(11,(nw ρ 11 (cL (cU 0) 54))),(12,(bD 84 (nb ρ 10) (cL (cU (((aQ a m)*(aQ b m)) / M)) 54))),(13,(bD 92 (nb ρ 11) (cL (cU (((aQ a m)*(aQ b m))%M)) 54)))]) (cR [[0],[2]]<|cC (fun _ w=>oM a m w ha hm)<|cR [[1],[2]]<|cC (fun _ w=>oM b m w hb hm)<|cC (fun _ w=>rmul_any (aQ a m) (aQ b m) w (pR ha) (pR hb))<|jE [[],[],[],[],[],[84],[92]]) (fun _=>?_)
 refine sS Tryz.f177 13 [6,10] [0,1,0,0,0,1] (fun ρ=>let qa:Value:=.bool (decide ((((aQ a m)*(aQ b m)) / M)<m));[U (((aQ a m)*(aQ b m)) / M),U (((aQ a m)*(aQ b m))%M),U m,.tuple #[U (qQ (((aQ a m)*(aQ b m)) / M) (((aQ a m)*(aQ b m))%M) m),U (iV (((aQ a m)*(aQ b m)) / M) (((aQ a m)*(aQ b m))%M) m),qa],.tuple #[U (qQ (((aQ a m)*(aQ b m)) / M) (((aQ a m)*(aQ b m))%M) m),U (iV (((aQ a m)*(aQ b m)) / M) (((aQ a m)*(aQ b m))%M) m),qa],U (qQ (((aQ a m)*(aQ b m)) / M) (((aQ a m)*(aQ b m))%M) m),U (iV (((aQ a m)*(aQ b m)) / M) (((aQ a m)*(aQ b m))%M) m),qa,pt (nb ρ 8),pt (nb ρ 9),undef,undef,qa]) (fun ρ=>[(8,(nw ρ 8 (cL (cU 0) 54))),(9,(nw ρ 9 (cL (cU 0) 54))),(10,(bD 68 (nb ρ 8) (cL (cU (qQ (((aQ a m)*(aQ b m)) / M) (((aQ a m)*(aQ b m))%M) m)) 54))),(11,(bD 76 (nb ρ 9) (cL (cU (iV (((aQ a m)*(aQ b m)) / M) (((aQ a m)*(aQ b m))%M) m)) 54)))]) (cR [[2],[3],[0]]<|cC (f:=105) (args:=fun ρ=> #[U (((aQ a m)*(aQ b m)) / M),U (((aQ a m)*(aQ b m))%M),U m]) (v:=fun ρ=>(.tuple #[U (qQ (((aQ a m)*(aQ b m)) / M) (((aQ a m)*(aQ b m))%M) m),U (iV (((aQ a m)*(aQ b m)) / M) (((aQ a m)*(aQ b m))%M) m),.bool (decide ((((aQ a m)*(aQ b m)) / M)<m))])) (fun _ w=>(fun w=>rdiv_any (((aQ a m)*(aQ b m)) / M) (((aQ a m)*(aQ b m))%M) m w (mulhi_lt (pR ha) (pR hb)) (rC _) hm) w)<|jE [[],[],[],[],[],[],[68],[76],[]]) (fun _=>?_)
 refine sS Tryz.f177 2 [6] [1,0] (fun _=>[U (iV (((aQ a m)*(aQ b m)) / M) (((aQ a m)*(aQ b m))%M) m),undef]) (fun _=>[(1,(bD 0 (nb ρ1 3) (cL (cU (iV (((aQ a m)*(aQ b m)) / M) (((aQ a m)*(aQ b m))%M) m)) 54)))]) (jE [[1],[0]]) (fun _=>?_)
 refine aF ?_
 exact mR (v:=(U (iV (((aQ a m)*(aQ b m)) / M) (((aQ a m)*(aQ b m))%M) m))) (fun _ hS=>⟨congrArg (fun x=>Ending.returned (U x)) (mulm_2 hm hb1),hS.bel⟩)
theorem vU (a b m:Nat) (w0:World) (ha:a<M) (hb:b<M) (hm:m<M):Calls Tryz.prog 177 #[U a,U b,U m] w0 (jR (U (bV a b m)) w0):=rmulmod_w a b m ha hb hm w0
theorem rshr_neg (a:Nat) (n:Int) (hn:n≤0) (w0:World):Calls Tryz.prog 173 #[U a,vi n] w0 (jR (U a) w0):=by
 refine Calls.of_ok (n:=34) (F:=(fun _=>True)) Tryz.func173 rfl rfl rfl (by simp) jT ?_
 have hk0:decide (n≤0)=true:=decide_eq_true hn
 refine sS Tryz.f173 2 [1,2,4] [] (fun ρ=>[pt (nb ρ 0),pt (nb ρ 1)]) (fun ρ=>[(0,(nw ρ 0 (cL (cU a) 54))),(1,(nw ρ 1 (cL (cU 0) 54)))]) (jE [[],[]]) (fun ρ1=>?_)
 refine aB ?_
 refine sS Tryz.f173 2 [1,2,4,8] [] (fun _=>[vi n,vT]) (fun _=>[]) (cR [[]]<|cA (fun _=>vT) (fun _=>congrArg Value.bool hk0)<|cN) (fun _=>?_)
 refine oY ?_
 refine sS Tryz.f173 2 [1,2,4] [] (fun _=>[U a,undef]) (fun _=>[(1,(bD 1 (nb ρ1 1) (cL (cU a) 54)))]) (jE [[0],[1]]) (fun _=>?_)
 refine aF (aC ?_)
 exact mR (v:=(U a)) (ps:=[1,1,1,1]) (fun _ hS=>⟨rfl,hS.bel⟩)
theorem rshr_big (a:Nat) (n:Int) (hn:256≤n) (w0:World):Calls Tryz.prog 173 #[U a,vi n] w0 (jR (U 0) w0):=by
 refine Calls.of_ok (n:=34) (F:=(fun _=>True)) Tryz.func173 rfl rfl rfl (by simp) jT ?_
 have hk0:decide (n≤0)=false:=decide_eq_false (by omega)
 have hk1:decide (256≤n)=true:=decide_eq_true hn
 refine sS Tryz.f173 2 [1,2,4] [] (fun ρ=>[pt (nb ρ 0),pt (nb ρ 1)]) (fun ρ=>[(0,(nw ρ 0 (cL (cU a) 54))),(1,(nw ρ 1 (cL (cU 0) 54)))]) (jE [[],[]]) (fun ρ1=>?_)
 refine aB ?_
 refine sS Tryz.f173 2 [1,2,4,8] [] (fun _=>[vi n,vF]) (fun _=>[]) (cR [[]]<|cA (fun _=>vF) (fun _=>congrArg Value.bool hk0)<|cN) (fun _=>?_)
 refine oN ?_
 refine aG (aA (aB ?_))
 refine sS Tryz.f173 2 [1,2,4,11] [] (fun _=>[vi n,vT]) (fun _=>[]) (cR [[]]<|cA (fun _=>vT) (fun _=>congrArg Value.bool hk1)<|cN) (fun _=>?_)
 refine oY ?_
 refine sS Tryz.f173 2 [1,2,4] [] (fun _=>[U 0,undef]) (fun _=>[(1,(bD 1 (nb ρ1 1) (cL (cU 0) 54)))]) (jE [[],[1]]) (fun _=>?_)
 refine aF (aC ?_)
 exact mR (v:=(U 0)) (ps:=[1,1,1,1]) (fun _ hS=>⟨rfl,hS.bel⟩)
theorem run_shl1 {P:Program} {t:TypeId} (k:Nat) (h:k<64) (w:World):(binOp .shl t (.int .u64 1) (.int .i64 (k:Int))).run P w=.ok (.int .u64 (2^k)) w:=by
  rw [run_shl]
  unfold shlW
  rw [Nat.min_eq_left (by omega),Int.one_mul,x8 k h]
theorem rshr_mid (a:Nat) (m:Nat) (ha:a<M) (_h0:0<m) (_hm:m<256) (w0:World):Calls Tryz.prog 173 #[U a,vn m] w0 (jR (U (a / 2^m)) w0):=by
 refine Calls.of_ok (n:=34) (F:=(fun _=>True)) Tryz.func173 rfl rfl rfl (by simp) jT ?_
 have hk0:decide (((m:Nat):Int)≤0)=false:=decide_eq_false (by omega)
 have hk1:decide (256≤((m:Nat):Int))=false:=decide_eq_false (by omega)
 refine sS Tryz.f173 2 [1,2,4] [] (fun ρ=>[pt (nb ρ 0),pt (nb ρ 1)]) (fun ρ=>[(0,(nw ρ 0 (cL (cU a) 54))),(1,(nw ρ 1 (cL (cU 0) 54)))]) (jE [[],[]]) (fun ρ1=>?_)
 refine aB ?_
 refine sS Tryz.f173 2 [1,2,4,8] [] (fun _=>[vn m,vF]) (fun _=>[]) (cR [[]]<|cA (fun _=>vF) (fun _=>congrArg Value.bool hk0)<|cN) (fun _=>?_)
 refine oN ?_
 refine aG (aA (aB ?_))
 refine sS Tryz.f173 2 [1,2,4,11] [] (fun _=>[vn m,vF]) (fun _=>[]) (cR [[]]<|cA (fun _=>vF) (fun _=>congrArg Value.bool hk1)<|cN) (fun _=>?_)
 refine oN ?_
 refine aG (aA ?_)
 refine sS Tryz.f173 1 [1,2,4,5] [] (fun ρ=>[pt (nb ρ 0)]) (fun ρ=>[(0,(nw ρ 0 (cL (cU 0) 54)))]) (jE [[]]) (fun ρ4=>?_)
 refine aB (jJ Tryz.f173 1 [1,2,4,5,6] [vi 0] (aI ?_))
 refine oL (σ:=Nat × Nat) (fun ⟨i,_⟩=>[(1,(vn m)),(2,(pt (nb ρ1 0))),(4,(pt (nb ρ1 1))),(5,(pt (nb ρ4 0))),(6,(vn i))]) (fun ⟨_,b⟩=>[(nb ρ1 0,(cL (cU a) 54)),(nb ρ1 1,(cL (cU 0) 54)),(nb ρ4 0,(cL (cU b) 54))]) (fun ⟨i,_⟩=>256-i)
   (fun ⟨i,b⟩=>(i+m≤256)∧(b=a / 2^m%2^i)) (0,0) (⟨by omega,by simp [Nat.mod_one]⟩) [] ?_
 rintro ⟨i,b⟩ ⟨hi,hb⟩
 change Ok Tryz.prog _ _ 34 [(1,(vn m)),(2,(pt (nb ρ1 0))),(4,(pt (nb ρ1 1))),(5,(pt (nb ρ4 0))),(6,(vn i))] _ [(nb ρ1 0,(cL (cU a) 54)),(nb ρ1 1,(cL (cU 0) 54)),(nb ρ4 0,(cL (cU b) 54))] (fun _=>True)
 refine aB ?_
 refine sS Tryz.f173 4 [1,2,4,5,6,16] [] (fun _=>[vn i,vn m,vn (i+m),.bool (decide (((i+m:Nat):Int)<256))]) (fun _=>[]) (cR [[],[]]<|jW (fun ρ=>(((i:Nat):Int)+((m:Nat):Int))) (fun _=>(i+m)) (fun _=>(dX i m (by omega)))<|jE [[]]) (fun _=>?_)
 refine oC (decide (((i+m:Nat):Int)<256)) (fun hb1=>?_) (fun hb1=>?_)
 ·
  rw [hb1]
  have:=yT hb1
  refine aG (aA (aB (aI ?_)))
  refine sS Tryz.f173 5 [1,2,4,5,6,23] [] (fun _=>[U a,vn i,vn m,vn (i+m),.bool (nJ a (i+m))]) (fun _=>[]) (cR [[0],[],[]]<|jW (fun ρ=>(((i:Nat):Int)+((m:Nat):Int))) (fun _=>(i+m)) (fun _=>(dX i m (by omega)))<|cC (fun _ w=>rW a (i+m) w (by omega))<|cN) (fun _=>?_)
  refine oC (nJ a (i+m)) (fun hb2=>?_) (fun hb2=>?_)
  ·
   rw [hb2]
   refine rD Tryz.f173 [0,1,3,7,0,16,48,127,255,511] 10 [1,2,4,5,6] [] (fun _=>[vn i,vn (i / 64),jp (nb ρ4 0) (i / 64),.int .u64 (wd b (i / 64)),vn i,vn (i%64),.int .u64 ((2:Int)^(i%64)),.int .u64 (bits .or .u64 (wd b (i / 64)) ((2:Int)^(i%64))),jp (nb ρ4 0) (i / 64),undef]) (fun _=>[(9,(bD 2 (nb ρ4 0) (cL (cU (b+2^(64*(i / 64)+i%64))) 54)))]) (cR [[]]<|cB (a:=fun ρ=>(vn i)) (b:=fun ρ=>(vi 64)) (v:=fun ρ=>(vn (i / 64))) .quo 3 (fun _ w=>run_quo_nat i 64 (i / 64) (by decide) (by omega) rfl w)<|cX (jS (fun _=>Instr.indexAt 54 (pt (nb ρ4 0)) (vn (i / 64))) (fun _=>(jp (nb ρ4 0) (i / 64))) (fun _ w=>aX (n:=((i / 64:Nat):Int)) (i:=i / 64) Tryz.underlying54 Tryz.sizeOf52 (⟨rfl,by omega⟩) w))<|cX (kG _ 2 52 (fun _=>nb ρ4 0) (fun _=>i / 64) (fun _=>(cU b)) 54 (0,0) (fun _=>(.int .u64 (wd b (i / 64)))) (fun _=>by kernel_rfl) Tryz.isAgg52 (fun _=>lL b (i / 64) (by omega)))<|cR [[]]<|cB (a:=fun ρ=>(vn i)) (b:=fun ρ=>(vi 64)) (v:=fun ρ=>(vn (i%64))) .rem 3 (fun _ w=>run_rem_nat i 64 (i%64) (by decide) rfl w)<|cB (a:=fun ρ=>(.int .u64 1)) (b:=fun ρ=>(vn (i%64))) (v:=fun ρ=>(.int .u64 ((2:Int)^(i%64)))) .shl 52 (fun _ w=>run_shl1 (i%64) (by omega) w)<|cR [[]]<|cX (jS (fun _=>Instr.indexAt 54 (pt (nb ρ4 0)) (vn (i / 64))) (fun _=>(jp (nb ρ4 0) (i / 64))) (fun _ w=>aX (n:=((i / 64:Nat):Int)) (i:=i / 64) Tryz.underlying54 Tryz.sizeOf52 (⟨rfl,by omega⟩) w))<|cX (qG _ 2 52 (fun _=>nb ρ4 0) (fun _=>i / 64) (fun _=>(cU b)) (fun _=>(cU (b+2^(64*(i / 64)+i%64)))) 54 (fun _=>(.int .u64 (bits .or .u64 (wd b (i / 64)) ((2:Int)^(i%64))))) (fun _=>by kernel_rfl) Tryz.sizeOf52 (fun _=>rfl) (fun _=>(show _<4 from by omega)) (fun _=>setlow_row b (i / 64) (i%64) (by omega) (by omega) (by rw [hb,show 64*(i / 64)+i%64=i by omega];exact Nat.mod_lt _ (Nat.pow_pos (by decide)))))<|cN) (fun _=>?_)
   refine aJ (aA ?_)
   refine rS Tryz.f173 3 [1,2,4,5,6] [] (fun _=>[vn i,vn (i+1),vn (i+1)]) (fun _=>[]) (cR [[]]<|jW (fun ρ=>(((i:Nat):Int)+1)) (fun _=>(i+1)) (fun _=>(dX i 1 (by omega)))<|jE [[]]) (fun _=>?_)
   exact mN (i+1,b+2^(64*(i / 64)+i%64)) (by show 256-(i+1)<256-i;omega) (⟨by omega,by rw [low_next,hb];have h2:=hb2;unfold nJ at h2;rw [shr_bit] at h2;rw [if_pos (yT h2),show 64*(i / 64)+i%64=i by omega]⟩) []
  rw [hb2]
  refine aG (aJ (aA ?_))
  refine rS Tryz.f173 3 [1,2,4,5,6] [] (fun _=>[vn i,vn (i+1),vn (i+1)]) (fun _=>[]) (cR [[]]<|jW (fun ρ=>(((i:Nat):Int)+1)) (fun _=>(i+1)) (fun _=>(dX i 1 (by omega)))<|jE [[]]) (fun _=>?_)
  exact mN (i+1,b) (by show 256-(i+1)<256-i;omega) (⟨by omega,by rw [low_next,hb];have h2:=hb2;unfold nJ at h2;rw [shr_bit] at h2;rw [if_neg (yF h2),Nat.add_zero]⟩) []
 rw [hb1]
 refine bF (aN (aN (aT (aA ?_))))
 refine sS Tryz.f173 2 [4] [0,1,0] (fun _=>[U b,undef]) (fun _=>[(1,(bD 1 (nb ρ1 1) (cL (cU b) 54)))]) (jE [[2],[1]]) (fun _=>?_)
 refine aF ?_
 exact mR (v:=(U b)) (fun _ hS=>⟨congrArg (fun x=>Ending.returned (U x)) (by rw [hb];exact shr_all ha (by have:=yF hb1;omega)),hS.bel⟩)
theorem rshr_any (a:Nat) (n:Int) (w0:World) (ha:a<M):Calls Tryz.prog 173 #[U a,.int .i64 n] w0 (jR (U (shrZ a n)) w0):=by
  unfold shrZ
  by_cases h0:n<0
  · rw [if_pos h0];exact rshr_neg a n (by omega) w0
  · rw [if_neg h0]
    by_cases h1:256≤n
    · rw [shrN_big ha (by omega)];exact rshr_big a n h1 w0
    · obtain ⟨k, rfl⟩ := Int.eq_ofNat_of_zero_le (by omega : 0 ≤ n)
      rw [Int.toNat_natCast]
      by_cases hk:k=0
      · subst hk;rw [Nat.pow_zero,Nat.div_one];exact rshr_neg a _ (by omega) w0
      · exact rshr_mid a k ha (by omega) (by omega) w0
theorem rexpmod_w (a:Nat) (e:Nat) (m:Nat) (ha:a<M) (he:e<M) (hm:m<M) (w0:World):Calls Tryz.prog 172 #[U a,U e,U m] w0 (jR (U (bK a e m)) w0):=by
 refine Calls.of_ok (n:=34) (F:=(fun _=>True)) Tryz.func172 rfl rfl rfl (by simp) jT ?_
 refine sS Tryz.f172 4 [3,4,5,6] [] (fun ρ=>[pt (nb ρ 0),pt (nb ρ 1),pt (nb ρ 2),pt (nb ρ 3)]) (fun ρ=>[(0,(nw ρ 0 (cL (cU a) 54))),(1,(nw ρ 1 (cL (cU e) 54))),(2,(nw ρ 2 (cL (cU m) 54))),(3,(nw ρ 3 (cL (cU 0) 54)))]) (jE [[],[],[],[]]) (fun ρ1=>?_)
 refine aB ?_
 refine sS Tryz.f172 2 [3,4,5,6,10] [] (fun _=>[U m,.bool (decide (m=0))]) (fun _=>[]) (cR [[2]]<|cC (fun _ w=>iI m w hm)<|cN) (fun _=>?_)
 refine oC (decide (m=0)) (fun hb1=>?_) (fun hb1=>?_)
 ·
  rw [hb1]
  refine sS Tryz.f172 2 [3,4,5,6] [] (fun _=>[U m,undef]) (fun _=>[(1,(bD 3 (nb ρ1 3) (cL (cU m) 54)))]) (jE [[2],[3]]) (fun _=>?_)
  refine aF (aC ?_)
  exact mR (v:=(U m)) (ps:=[3,3,3,3]) (fun _ hS=>⟨congrArg (fun x=>Ending.returned (U x)) (expm_0' hb1),hS.bel⟩)
 rw [hb1]
 refine aG (aA ?_)
 refine sD Tryz.f172 [0,0,3,0,15] 5 [3,4,5,6,7] [] (fun ρ=>[U 1,U m,U (aQ 1 m),pt (nb ρ 3),undef]) (fun ρ=>[(3,(nw ρ 3 (cL (cU 0) 54))),(4,(bD 28 (nb ρ 3) (cL (cU (aQ 1 m)) 54)))]) (cC (fun _ w=>iE 1 w (by decide))<|cR [[2]]<|cC (fun _ w=>oM 1 m w (by decide +kernel) hm)<|jE [[],[28]]) (fun ρ4=>?_)
 refine aB ?_
 refine sS Tryz.f172 4 [3,4,5,6,7,8] [] (fun _=>let qa:=vi (((dG e:Nat):Int)-1);[U e,vn (dG e),qa,qa]) (fun _=>[]) (cR [[1]]<|cC (fun _ w=>rlen_any e w he)<|jU (fun ρ=>(((dG e:Nat):Int)-1)) (fun _=>(((dG e:Nat):Int)-1)) (fun _=>(wrap_pred (by have:=iJ e he;omega)))<|jE [[]]) (fun _=>?_)
 refine aI ?_
 refine oL (σ:=Nat × Nat) (fun ⟨k,_⟩=>[(3,(pt (nb ρ1 0))),(4,(pt (nb ρ1 1))),(5,(pt (nb ρ1 2))),(6,(pt (nb ρ1 3))),(7,(pt (nb ρ4 3))),(8,(vi (((k:Nat):Int)-1)))]) (fun ⟨_,p⟩=>[(nb ρ1 0,(cL (cU a) 54)),(nb ρ1 1,(cL (cU e) 54)),(nb ρ1 2,(cL (cU m) 54)),(nb ρ1 3,(cL (cU 0) 54)),(nb ρ4 3,(cL (cU p) 54))]) (fun ⟨k,_⟩=>k)
   (fun ⟨k,p⟩=>(k≤256)∧(p=a^(e / 2^k)%m)) (dG e,aQ 1 m) (⟨iJ e he,exp_start hb1⟩) [] ?_
 rintro ⟨k,p⟩ ⟨hk,hp⟩
 change Ok Tryz.prog _ _ 34 [(3,(pt (nb ρ1 0))),(4,(pt (nb ρ1 1))),(5,(pt (nb ρ1 2))),(6,(pt (nb ρ1 3))),(7,(pt (nb ρ4 3))),(8,(vi (((k:Nat):Int)-1)))] _ [(nb ρ1 0,(cL (cU a) 54)),(nb ρ1 1,(cL (cU e) 54)),(nb ρ1 2,(cL (cU m) 54)),(nb ρ1 3,(cL (cU 0) 54)),(nb ρ4 3,(cL (cU p) 54))] (fun _=>True)
 have hpM:p<M:=exp_lt hm hb1 hp
 refine aB (jJ Tryz.f172 2 [3,4,5,6,7,8,19] [vi (((k:Nat):Int)-1),.bool (decide (0≤(((k:Nat):Int)-1)))] ?_)
 refine oC (decide (0≤(((k:Nat):Int)-1))) (fun hb2=>?_) (fun hb2=>?_)
 ·
  rw [hb2]
  refine aG (aA (aB (aI ?_)))
  refine sS Tryz.f172 5 [3,4,5,6,7,8] [] (fun _=>[U p,U p,U m,U (bV p p m),undef]) (fun _=>[(4,(bD 4 (nb ρ4 3) (cL (cU (bV p p m)) 54)))]) (cR [[4],[4],[2]]<|cC (fun _ w=>vU p p m w hpM hpM hm)<|jE [[4]]) (fun _=>?_)
  refine sS Tryz.f172 3 [3,4,5,6,7,8,28] [] (fun _=>[U e,vi (((k:Nat):Int)-1),.bool (nJ e (k-1))]) (fun _=>[]) (cR [[1],[]]<|cC (f:=121) (args:=fun ρ=> #[U e,vi (((k:Nat):Int)-1)]) (v:=fun ρ=>(.bool (nJ e (k-1)))) (fun _ w=>(fun w=>rbit_at e (k-1) _ (by have h1:=yT hb2;omega) w (by have h1:=yT hb2;omega)) w)<|cN) (fun _=>?_)
  refine oC (nJ e (k-1)) (fun hb3=>?_) (fun hb3=>?_)
  ·
   rw [hb3]
   refine rS Tryz.f172 5 [3,4,5,6,7,8] [] (fun _=>[U (bV p p m),U a,U m,U (bV (bV p p m) a m),undef]) (fun _=>[(4,(bD 4 (nb ρ4 3) (cL (cU (bV (bV p p m) a m)) 54)))]) (cR [[4],[0],[2]]<|cC (f:=177) (args:=fun ρ=> #[U (bV p p m),U a,U m]) (v:=fun ρ=>(U (bV (bV p p m) a m))) (fun _ w=>(fun w=>vU (bV p p m) a m w (wE _ _ hm) ha hm) w)<|jE [[4]]) (fun _=>?_)
   refine aJ (aA ?_)
   refine rS Tryz.f172 3 [3,4,5,6,7,8] [] (fun _=>let qa:=vi (((k-1:Nat):Int)-1);[vi (((k:Nat):Int)-1),qa,qa]) (fun _=>[]) (cR [[]]<|jU (fun ρ=>((((k:Nat):Int)-1)-1)) (fun _=>(((k-1:Nat):Int)-1)) (fun _=>(wrap_down (by have h1:=yT hb2;omega) (by omega)))<|jE [[]]) (fun _=>?_)
   exact mN (k-1,bV (bV p p m) a m) (by show k-1<k;have h1:=yT hb2;omega) (⟨by omega,by rw [exp_step1 hp (jH (a:=0) hb1).2.1,half_odd (by have h1:=yT hb2;omega) hb3]⟩) []
  rw [hb3]
  refine aG (aJ (aA ?_))
  refine rS Tryz.f172 3 [3,4,5,6,7,8] [] (fun _=>let qa:=vi (((k-1:Nat):Int)-1);[vi (((k:Nat):Int)-1),qa,qa]) (fun _=>[]) (cR [[]]<|jU (fun ρ=>((((k:Nat):Int)-1)-1)) (fun _=>(((k-1:Nat):Int)-1)) (fun _=>(wrap_down (by have h1:=yT hb2;omega) (by omega)))<|jE [[]]) (fun _=>?_)
  exact mN (k-1,bV p p m) (by show k-1<k;have h1:=yT hb2;omega) (⟨by omega,by rw [exp_step hp (jH (a:=0) hb1).2.1,half_even (by have h1:=yT hb2;omega) hb3]⟩) []
 rw [hb2]
 refine bF (aN (aN (aT (aA ?_))))
 refine sS Tryz.f172 2 [6] [0,0,0,1,0] (fun _=>[U p,undef]) (fun _=>[(1,(bD 3 (nb ρ1 3) (cL (cU p) 54)))]) (jE [[4],[3]]) (fun _=>?_)
 refine aF ?_
 exact mR (v:=(U p)) (fun _ hS=>⟨congrArg (fun x=>Ending.returned (U x)) (exp_end (k:=k) hb1 (by have h1:=yF hb2;omega) hp),hS.bel⟩)
theorem rexpmod_any (a e m:Nat) (w0:World) (ha:a<M) (he:e<M) (hm:m<M):Calls Tryz.prog 172 #[U a,U e,U m] w0 (jR (U (bK a e m)) w0):=rexpmod_w a e m ha he hm w0
theorem qX {A k:Nat} {C:Array Value} {v:Int} (hC:C.size=32) (hk:k<32) (hj:∀ j,j<k→C[j]? = some (.int .u8 (nR A j))) (hv:v=nR A k) :
    (C.setIfInBounds k (.int .u8 v)).size=32∧∀ j,j<k+1→(C.setIfInBounds k (.int .u8 v))[j]? = some (.int .u8 (nR A j)):=by
  refine ⟨by simpa using hC,fun j h=>?_⟩
  by_cases e:j=k
  · subst e;rw [hv];simp [hC,hk]
  · rw [Array.getElem?_setIfInBounds_ne (fun x=>e x.symm)];exact hj j (by omega)
theorem nV {C:Array Value} (h:C.size=32):(Tryz.prog.info? 47).map (·.size)=some C.size:=by rw [h];kernel_rfl
set_option maxHeartbeats 1000000 in
set_option maxRecDepth 100000 in
theorem bytes_any (A : Nat) (w : World) :
    Calls Tryz.prog 101 #[U A] w fun e w'=>e=.returned (.agg (hB A))∧Below w.heap.size w w':=by
  go_enter Tryz.func101,Tryz.ntmps101
  go_wp2
  obtain ⟨Z,hZ⟩:∃ Z:Array Value,Z= #[.int .u8 0,.int .u8 0,.int .u8 0,.int .u8 0,.int .u8 0,.int .u8 0,.int .u8 0,.int .u8 0,.int .u8 0,.int .u8 0,.int .u8 0,.int .u8 0,.int .u8 0,.int .u8 0,.int .u8 0,.int .u8 0,.int .u8 0,.int .u8 0,.int .u8 0,.int .u8 0,.int .u8 0,.int .u8 0,.int .u8 0,.int .u8 0,.int .u8 0,.int .u8 0,.int .u8 0,.int .u8 0,.int .u8 0,.int .u8 0,.int .u8 0,.int .u8 0]:=⟨_,rfl⟩
  rw [← hZ]
  have hz:Z.size=32:=by rw [hZ];rfl
  clear hZ
  go_loopw [5] (fun i wr=>∃ (k:Nat) (C:Array Value),k≤32∧i=.int .i64 k∧C.size=32∧(∀ j,j<k→C[j]? = some (.int .u8 (nR A j)))∧wr=((w.alloc (.cells #[.int .u64 (wd A 0),.int .u64 (wd A 1),.int .u64 (wd A 2),.int .u64 (wd A 3)] 54)).alloc (.cells Z 47)).alloc (.cells C 47)) (fun i _=>32-(intOf i).toNat)
  case atStart=>exact ⟨0,Z,by omega,rfl,hz,fun j hj=>by omega,rfl⟩
  case round =>
    obtain ⟨k,C,hk,rfl,hC,hj,rfl⟩:=hrel
    have HC:=Lib.hid hC;have HJ:=Lib.hid hj;have HZ:=Lib.hid hz
    clear hC hj hz
    by_cases hlt:k<32
    · have hC2 : k < C.size := by have := HC.out; omega
      rcases (by omega:(k:Int) / 8=0∨(k:Int) / 8=1∨(k:Int) / 8=2∨(k:Int) / 8=3) with h8 | h8 | h8 | h8
      all_goals
        go_wp2
        go_roundw
        case rel =>
          first | (obtain ⟨g1,g2⟩:=qX HC.out hlt HJ.out (byt_wd A 3 k hlt (by omega));exact ⟨k+1,_,by omega,by go_num,g1,g2,rfl⟩) | (obtain ⟨g1,g2⟩:=qX HC.out hlt HJ.out (byt_wd A 2 k hlt (by omega));exact ⟨k+1,_,by omega,by go_num,g1,g2,rfl⟩) | (obtain ⟨g1,g2⟩:=qX HC.out hlt HJ.out (byt_wd A 1 k hlt (by omega));exact ⟨k+1,_,by omega,by go_num,g1,g2,rfl⟩) | (obtain ⟨g1,g2⟩:=qX HC.out hlt HJ.out (byt_wd A 0 k hlt (by omega));exact ⟨k+1,_,by omega,by go_num,g1,g2,rfl⟩)
        case measure=>simp [intOf];omega
    · go_wp2_with (first | (refine wl_load (w.heap.size + 1 + 1) 47 C _ rfl (hp_3_2 _ _ _ _) Tryz.underlying47 rfl (nV HC.out) ?_) | (refine wl_store (w.heap.size + 1) 47 Z C rfl rfl (hp_3_1 _ _ _ _) (nV HC.out) (HZ.out.trans HC.out.symm) (by rw [hB_ext HC.out (fun j h => HJ.out j (by omega))]; exact hB_one A) ?_))
      rw [sr_3_1]
      refine bodyPost_ret (results_cell_row rfl _ _ (w.heap.size+1) 47 C (0,0) _ rfl (hp_3_1 _ _ _ _) Tryz.underlying47 rfl (nV HC.out)) rfl ?_
      refine ⟨by rw [hB_ext HC.out (fun j h=>HJ.out j (by omega))],?_⟩
      (exact bt)
theorem run_index_hash (A k:Nat) (hk:k<32) (w:World):(Instr.index 47 (.agg (hB A)) (.int .i64 k)).run Tryz.prog w=.ok (.int .u8 (nR A k)) w:=by
  have h:=hB_get A k hk
  have h0:(0:Int)≤(k:Int)∧(k:Int)<32:=by omega
  simp [Instr.index,go_sem,part,h,h0,hk]
set_option maxHeartbeats 1000000 in
set_option maxRecDepth 100000 in
theorem frombytes_any (A : Nat) (w : World) :
    Calls Tryz.prog 145 #[.agg (hB A)] w fun e w'=>e=.returned (U A)∧Below w.heap.size w w':=by
  go_enter Tryz.func145,Tryz.ntmps145
  go_wp2_with (refine wl_load (w.heap.size) 47 (hB A) _ rfl (hp_3_0 _ _ _ _) Tryz.underlying47 rfl (nV (yV A)) ?_)
  go_loopw [8] (fun i wr=>∃ (k:Nat),k≤32∧i=.int .i64 k∧wr=((w.alloc (.cells (hB A) 47)).alloc (.cells #[.int .u64 0,.int .u64 0,.int .u64 0,.int .u64 0] 54)).alloc (.cells #[.int .u64 (pre A 0 k),.int .u64 (pre A 1 k),.int .u64 (pre A 2 k),.int .u64 (pre A 3 k)] 54)) (fun i _=>32-(intOf i).toNat)
  case atStart=>exact ⟨0,by omega,rfl,by rw [xI A 0 0 (by omega),xI A 1 0 (by omega),xI A 2 0 (by omega),xI A 3 0 (by omega)]⟩
  case round =>
    obtain ⟨k,hk,rfl,rfl⟩:=hrel
    by_cases hlt:k<32
    · have hidx := run_index_hash A k hlt
      rcases (by omega:(k:Int) / 8=0∨(k:Int) / 8=1∨(k:Int) / 8=2∨(k:Int) / 8=3) with h8 | h8 | h8 | h8
      all_goals
        go_wp2
        go_roundw
        case rel =>
          refine ⟨k+1,by omega,by go_num,?_⟩
          first
            | rw [yZ A 3 k hlt (by omega),iP A 0 k (by omega) (by omega),iP A 1 k (by omega) (by omega),iP A 2 k (by omega) (by omega)]
            | rw [yZ A 2 k hlt (by omega),iP A 0 k (by omega) (by omega),iP A 1 k (by omega) (by omega),iP A 3 k (by omega) (by omega)]
            | rw [yZ A 1 k hlt (by omega),iP A 0 k (by omega) (by omega),iP A 2 k (by omega) (by omega),iP A 3 k (by omega) (by omega)]
            | rw [yZ A 0 k hlt (by omega),iP A 1 k (by omega) (by omega),iP A 2 k (by omega) (by omega),iP A 3 k (by omega) (by omega)]
        case measure=>simp [intOf];omega
    · obtain rfl : k = 32 := by omega
      rw [pre_end A 0 (by omega),pre_end A 1 (by omega),pre_end A 2 (by omega),pre_end A 3 (by omega)]
      go_wp2
      go_returns
      refine ⟨rfl,?_⟩
      (exact bt)
theorem gmodulus_w  (w0:World):Calls Tryz.prog 161 #[] w0 (jR (U pP) w0):=by
 refine Calls.of_ok (n:=2) (F:=(fun _=>True)) Tryz.func161 rfl rfl rfl (by simp) jT ?_
 refine sS Tryz.f161 1 [0] [] (fun ρ=>[pt (nb ρ 0)]) (fun ρ=>[(0,(nw ρ 0 (cL (cU 0) 54)))]) (jE [[]]) (fun ρ1=>?_)
 refine sS Tryz.f161 2 [0] [] (fun _=>[U 115792089237316195423570985008687907853269984665640564039457584007913129603823,undef]) (fun _=>[(1,(bD 0 (nb ρ1 0) (cL (cU 115792089237316195423570985008687907853269984665640564039457584007913129603823) 54)))]) (jE [[],[0]]) (fun _=>?_)
 refine aF ?_
 exact mR (v:=(U 115792089237316195423570985008687907853269984665640564039457584007913129603823)) (fun _ hS=>⟨congrArg (fun x=>Ending.returned (U x)) (by decide +kernel),hS.bel⟩)
theorem yY (w0:World)  : Calls Tryz.prog 161 #[] w0 (jR (U pP) w0):=gmodulus_w  w0
theorem gorder_w  (w0:World):Calls Tryz.prog 163 #[] w0 (jR (U qP) w0):=by
 refine Calls.of_ok (n:=2) (F:=(fun _=>True)) Tryz.func163 rfl rfl rfl (by simp) jT ?_
 refine sS Tryz.f163 1 [0] [] (fun ρ=>[pt (nb ρ 0)]) (fun ρ=>[(0,(nw ρ 0 (cL (cU 0) 54)))]) (jE [[]]) (fun ρ1=>?_)
 refine sS Tryz.f163 2 [0] [] (fun _=>[U 57896044618658097711785492504343953926634992332820282019728792003956564801911,undef]) (fun _=>[(1,(bD 0 (nb ρ1 0) (cL (cU 57896044618658097711785492504343953926634992332820282019728792003956564801911) 54)))]) (jE [[],[0]]) (fun _=>?_)
 refine aF ?_
 exact mR (v:=(U 57896044618658097711785492504343953926634992332820282019728792003956564801911)) (fun _ hS=>⟨congrArg (fun x=>Ending.returned (U x)) (by decide +kernel),hS.bel⟩)
theorem yC (w0:World)  : Calls Tryz.prog 163 #[] w0 (jR (U qP) w0):=gorder_w  w0
theorem rgmodulus_w  (w0:World):Calls Tryz.prog 156 #[] w0 (jR (U pP) w0):=by
 refine Calls.of_ok (n:=10) (F:=(fun _=>True)) Tryz.func156 rfl rfl rfl (by simp) jT ?_
 refine sS Tryz.f156 1 [0] [] (fun ρ=>[pt (nb ρ 0)]) (fun ρ=>[(0,(nw ρ 0 (cL (cU 0) 54)))]) (jE [[]]) (fun ρ1=>?_)
 refine sS Tryz.f156 9 [0,1] [] (fun ρ=>let qa:Value:=.bool (decide (0<36113));[U 0,U 36113,.tuple #[U ((0+M-36113)%M),qa],.tuple #[U ((0+M-36113)%M),qa],U ((0+M-36113)%M),qa,pt (nb ρ 6),undef,qa]) (fun ρ=>[(6,(nw ρ 6 (cL (cU 0) 54))),(7,(bD 49 (nb ρ 6) (cL (cU ((0+M-36113)%M)) 54)))]) (cR [[]]<|cC (fun _ w=>iE 36113 w (by decide))<|cC (fun _ w=>zQ 0 36113 w (by decide +kernel) (by decide +kernel))<|jE [[],[],[],[],[49],[]]) (fun _=>?_)
 refine sS Tryz.f156 2 [0] [1,0] (fun _=>[U ((0+M-36113)%M),undef]) (fun _=>[(1,(bD 0 (nb ρ1 0) (cL (cU ((0+M-36113)%M)) 54)))]) (jE [[1],[0]]) (fun _=>?_)
 refine aF ?_
 exact mR (v:=(U ((0+M-36113)%M))) (fun _ hS=>⟨congrArg (fun x=>Ending.returned (U x)) (by decide +kernel),hS.bel⟩)
theorem lW (w0:World)  : Calls Tryz.prog 156 #[] w0 (jR (U pP) w0):=rgmodulus_w  w0
theorem rgorder_w  (w0:World):Calls Tryz.prog 158 #[] w0 (jR (U qP) w0):=by
 refine Calls.of_ok (n:=3) (F:=(fun _=>True)) Tryz.func158 rfl rfl rfl (by simp) jT ?_
 refine sS Tryz.f158 1 [0] [] (fun ρ=>[pt (nb ρ 0)]) (fun ρ=>[(0,(nw ρ 0 (cL (cU 0) 54)))]) (jE [[]]) (fun ρ1=>?_)
 refine sS Tryz.f158 3 [0] [] (fun _=>[U pP,U (shrZ pP 1),undef]) (fun _=>[(2,(bD 0 (nb ρ1 0) (cL (cU (shrZ pP 1)) 54)))]) (cC (fun _ w=>lW w)<|cC (fun _ w=>rshr_any pP 1 w oV)<|jE [[0]]) (fun _=>?_)
 refine aF ?_
 exact mR (v:=(U (shrZ pP 1))) (fun _ hS=>⟨congrArg (fun x=>Ending.returned (U x)) (by decide +kernel),hS.bel⟩)
theorem wC (w0:World)  : Calls Tryz.prog 158 #[] w0 (jR (U qP) w0):=rgorder_w  w0
theorem rgone_w  (w0:World):Calls Tryz.prog 159 #[] w0 (jR (U 1) w0):=by
 refine Calls.of_ok (n:=2) (F:=(fun _=>True)) Tryz.func159 rfl rfl rfl (by simp) jT ?_
 refine sS Tryz.f159 1 [0] [] (fun ρ=>[pt (nb ρ 0)]) (fun ρ=>[(0,(nw ρ 0 (cL (cU 0) 54)))]) (jE [[]]) (fun ρ1=>?_)
 refine sS Tryz.f159 2 [0] [] (fun _=>[U 1,undef]) (fun _=>[(1,(bD 0 (nb ρ1 0) (cL (cU 1) 54)))]) (cC (fun _ w=>iE 1 w (by decide))<|jE [[0]]) (fun _=>?_)
 refine aF ?_
 exact mR (v:=(U 1)) (fun _ hS=>⟨rfl,hS.bel⟩)
theorem rgone_any (w0:World)  : Calls Tryz.prog 159 #[] w0 (jR (U 1) w0):=rgone_w  w0
theorem gmul_w (a:Nat) (b:Nat) (ha:a<M) (hb:b<M) (w0:World):Calls Tryz.prog 175 #[U a,U b] w0 (jR (U (bV a b pP)) w0):=by
 refine Calls.of_ok (n:=9) (F:=(fun _=>True)) Tryz.func175 rfl rfl rfl (by simp) jT ?_
 refine sS Tryz.f175 3 [2,3,4] [] (fun ρ=>[pt (nb ρ 0),pt (nb ρ 1),pt (nb ρ 2)]) (fun ρ=>[(0,(nw ρ 0 (cL (cU a) 54))),(1,(nw ρ 1 (cL (cU b) 54))),(2,(nw ρ 2 (cL (cU 0) 54)))]) (jE [[],[],[]]) (fun ρ1=>?_)
 refine sD Tryz.f175 [0,0,0,7,15] 5 [4] [0,0,1] (fun _=>[U a,U b,U pP,U (bV a b pP),undef]) (fun _=>[(4,(bD 2 (nb ρ1 2) (cL (cU (bV a b pP)) 54)))]) (cR [[0],[1]]<|cC (fun _ w=>yY w)<|cC (fun _ w=>mulmod_any a b pP w ha hb oV)<|jE [[2]]) (fun _=>?_)
 refine aF ?_
 exact mR (v:=(U (bV a b pP))) (fun _ hS=>⟨rfl,hS.bel⟩)
theorem gmul_any (a b:Nat) (w0:World) (ha:a<M) (hb:b<M):Calls Tryz.prog 175 #[U a,U b] w0 (jR (U (bV a b pP)) w0):=gmul_w a b ha hb w0
theorem gexp_w (a:Nat) (e:Nat) (ha:a<M) (he:e<M) (w0:World):Calls Tryz.prog 162 #[U a,U e] w0 (jR (U (bK a e pP)) w0):=by
 refine Calls.of_ok (n:=37) (F:=(fun _=>True)) Tryz.func162 rfl rfl rfl (by simp) jT ?_
 refine sS Tryz.f162 3 [2,3,4] [] (fun ρ=>[pt (nb ρ 0),pt (nb ρ 1),pt (nb ρ 2)]) (fun ρ=>[(0,(nw ρ 0 (cL (cU a) 54))),(1,(nw ρ 1 (cL (cU e) 54))),(2,(nw ρ 2 (cL (cU 0) 54)))]) (jE [[],[],[]]) (fun ρ1=>?_)
 refine sS Tryz.f162 3 [2,3,4,5] [] (fun ρ=>[U 1,pt (nb ρ 1),undef]) (fun ρ=>[(1,(nw ρ 1 (cL (cU 0) 54))),(2,(bD 11 (nb ρ 1) (cL (cU 1) 54)))]) (cC (fun _ w=>lF 1 w (by decide))<|jE [[],[11]]) (fun ρ2=>?_)
 refine sS Tryz.f162 3 [2,3,4,5,6] [] (fun _=>[U e,vn (dG e),vn (dG e)]) (fun _=>[]) (cR [[1]]<|cC (fun _ w=>len_any e w he)<|jE [[]]) (fun _=>?_)
 refine aB (jJ Tryz.f162 2 [2,3,4,5,6,12,13] [vn (dG e),vi 0] (aI ?_))
 refine oL (σ:=Nat × Nat) (fun ⟨i,_⟩=>[(2,(pt (nb ρ1 0))),(3,(pt (nb ρ1 1))),(4,(pt (nb ρ1 2))),(5,(pt (nb ρ2 1))),(6,(vn (dG e))),(12,(vn (dG e))),(13,(vn i))]) (fun ⟨_,p⟩=>[(nb ρ1 0,(cL (cU a) 54)),(nb ρ1 1,(cL (cU e) 54)),(nb ρ1 2,(cL (cU 0) 54)),(nb ρ2 1,(cL (cU p) 54))]) (fun ⟨i,_⟩=>dG e-i)
   (fun ⟨i,p⟩=>(i≤dG e)∧(p=a^(e / 2^(dG e-i))%pP)) (0,1) (⟨Nat.zero_le _,exp_one a e⟩) [] ?_
 rintro ⟨i,p⟩ ⟨hi,hp⟩
 change Ok Tryz.prog _ _ 37 [(2,(pt (nb ρ1 0))),(3,(pt (nb ρ1 1))),(4,(pt (nb ρ1 2))),(5,(pt (nb ρ2 1))),(6,(vn (dG e))),(12,(vn (dG e))),(13,(vn i))] _ [(nb ρ1 0,(cL (cU a) 54)),(nb ρ1 1,(cL (cU e) 54)),(nb ρ1 2,(cL (cU 0) 54)),(nb ρ2 1,(cL (cU p) 54))] (fun _=>True)
 have hpM:p<M:=gexp_lt hp
 refine jJ Tryz.f162 1 [2,3,4,5,6,12,13,14] [.bool (decide (((i:Nat):Int)<((dG e:Nat):Int)))] (aB ?_)
 refine oC (decide (((i:Nat):Int)<((dG e:Nat):Int))) (fun hb1=>?_) (fun hb1=>?_)
 ·
  rw [hb1]
  refine aG (aA (aB (aI (jJ Tryz.f162 2 [2,3,4,5,6,7,12,13] [vn i,vn i] ?_))))
  refine sS Tryz.f162 5 [2,3,4,5,6,8,12,13] [] (fun _=>[vn (dG e),vn (dG e-1),vn i,vn (dG e-1-i),vn (dG e-1-i)]) (fun _=>[]) (cR [[]]<|jW (fun ρ=>(((dG e:Nat):Int)-1)) (fun _=>(dG e-1)) (fun _=>(zY (dG e) 1 (by have h1:=yT hb1;have h2:=iJ e he;omega) (by have h1:=yT hb1;have h2:=iJ e he;omega)))<|cR [[]]<|jW (fun ρ=>(((dG e-1:Nat):Int)-((i:Nat):Int))) (fun _=>(dG e-1-i)) (fun _=>(zY (dG e-1) i (by have h1:=yT hb1;have h2:=iJ e he;omega) (by have h1:=yT hb1;have h2:=iJ e he;omega)))<|jE [[]]) (fun _=>?_)
  refine sS Tryz.f162 4 [2,3,4,5,6,8,12,13] [] (fun _=>[U p,U p,U (bV p p pP),undef]) (fun _=>[(3,(bD 3 (nb ρ2 1) (cL (cU (bV p p pP)) 54)))]) (cR [[3],[3]]<|cC (fun _ w=>gmul_any p p w hpM hpM)<|jE [[3]]) (fun _=>?_)
  refine sS Tryz.f162 9 [2,3,4,5,6,12,13,31] [] (fun _=>[vn (dG e-1-i),vn ((dG e-1-i) / 64),jp (nb ρ1 1) ((dG e-1-i) / 64),.int .u64 (wd e ((dG e-1-i) / 64)),vn (dG e-1-i),vn ((dG e-1-i)%64),.int .u64 (shrW (wd e ((dG e-1-i) / 64)) ((dG e-1-i)%64)),.int .u64 (bits .and .u64 (shrW (wd e ((dG e-1-i) / 64)) ((dG e-1-i)%64)) 1),.bool (nJ e (dG e-1-i))]) (fun _=>[]) (cR [[]]<|cB (a:=fun ρ=>(vn (dG e-1-i))) (b:=fun ρ=>(vi 64)) (v:=fun ρ=>(vn ((dG e-1-i) / 64))) .quo 3 (fun _ w=>run_quo_nat (dG e-1-i) 64 ((dG e-1-i) / 64) (by decide) (by have h1:=yT hb1;have h2:=iJ e he;omega) rfl w)<|cX (jS (fun _=>Instr.indexAt 54 (pt (nb ρ1 1)) (vn ((dG e-1-i) / 64))) (fun _=>(jp (nb ρ1 1) ((dG e-1-i) / 64))) (fun _ w=>aX (n:=(((dG e-1-i) / 64:Nat):Int)) (i:=(dG e-1-i) / 64) Tryz.underlying54 Tryz.sizeOf52 (⟨rfl,(by have h1:=yT hb1;have h2:=iJ e he;omega)⟩) w))<|cX (kG _ 1 52 (fun _=>nb ρ1 1) (fun _=>(dG e-1-i) / 64) (fun _=>(cU e)) 54 (0,0) (fun _=>(.int .u64 (wd e ((dG e-1-i) / 64)))) (fun _=>by kernel_rfl) Tryz.isAgg52 (fun _=>lL e ((dG e-1-i) / 64) (by have h1:=yT hb1;have h2:=iJ e he;omega)))<|cR [[]]<|cB (a:=fun ρ=>(vn (dG e-1-i))) (b:=fun ρ=>(vi 64)) (v:=fun ρ=>(vn ((dG e-1-i)%64))) .rem 3 (fun _ w=>run_rem_nat (dG e-1-i) 64 ((dG e-1-i)%64) (by decide) rfl w)<|cB (a:=fun ρ=>(.int .u64 (wd e ((dG e-1-i) / 64)))) (b:=fun ρ=>(vn ((dG e-1-i)%64))) (v:=fun ρ=>(.int .u64 (shrW (wd e ((dG e-1-i) / 64)) ((dG e-1-i)%64)))) .shr 52 (fun _ w=>run_shr (wd e ((dG e-1-i) / 64)) ((dG e-1-i)%64) w)<|cR [[]]<|cA (fun _=>(.bool (nJ e (dG e-1-i)))) (fun _=>congrArg Value.bool (expbit e (dG e-1-i)))<|cN) (fun _=>?_)
  refine oC (nJ e (dG e-1-i)) (fun hb2=>?_) (fun hb2=>?_)
  ·
   rw [hb2]
   refine rS Tryz.f162 4 [2,3,4,5,6,12,13] [] (fun _=>[U (bV p p pP),U a,U (bV (bV p p pP) a pP),undef]) (fun _=>[(3,(bD 3 (nb ρ2 1) (cL (cU (bV (bV p p pP) a pP)) 54)))]) (cR [[3],[0]]<|cC (f:=175) (args:=fun ρ=> #[U (bV p p pP),U a]) (v:=fun ρ=>(U (bV (bV p p pP) a pP))) (fun _ w=>(fun w=>gmul_any (bV p p pP) a w (wE _ _ oV) ha) w)<|jE [[3]]) (fun _=>?_)
   refine aJ (aA ?_)
   refine rS Tryz.f162 2 [2,3,4,5,6,12,13] [] (fun _=>[vn (i+1),vn (i+1)]) (fun _=>[]) (jW (fun ρ=>(((i:Nat):Int)+1)) (fun _=>(i+1)) (fun _=>(dX i 1 (by have h1:=yT hb1;have h2:=iJ e he;omega)))<|jE [[]]) (fun _=>?_)
   exact mN (i+1,bV (bV p p pP) a pP) (by show dG e-(i+1)<dG e-i;have h1:=yT hb1;have h2:=iJ e he;omega) (⟨by have h1:=yT hb1;have h2:=iJ e he;omega,by rw [exp_step1 hp (Nat.lt_trans Nat.zero_lt_one pF),show dG e-(i+1)=(dG e-i)-1 by omega,← half_odd (by have h1:=yT hb1;have h2:=iJ e he;omega) (by rw [show dG e-i-1=dG e-1-i by omega];exact hb2)]⟩) []
  rw [hb2]
  refine aG (aJ (aA ?_))
  refine rS Tryz.f162 2 [2,3,4,5,6,12,13] [] (fun _=>[vn (i+1),vn (i+1)]) (fun _=>[]) (jW (fun ρ=>(((i:Nat):Int)+1)) (fun _=>(i+1)) (fun _=>(dX i 1 (by have h1:=yT hb1;have h2:=iJ e he;omega)))<|jE [[]]) (fun _=>?_)
  exact mN (i+1,bV p p pP) (by show dG e-(i+1)<dG e-i;have h1:=yT hb1;have h2:=iJ e he;omega) (⟨by have h1:=yT hb1;have h2:=iJ e he;omega,by rw [exp_step hp (Nat.lt_trans Nat.zero_lt_one pF),show dG e-(i+1)=(dG e-i)-1 by omega,← half_even (by have h1:=yT hb1;have h2:=iJ e he;omega) (by rw [show dG e-i-1=dG e-1-i by omega];exact hb2)]⟩) []
 rw [hb1]
 refine bF (aN (aN (aT (aA ?_))))
 refine sS Tryz.f162 2 [4] [0,0,1,0] (fun _=>[U p,undef]) (fun _=>[(1,(bD 2 (nb ρ1 2) (cL (cU p) 54)))]) (jE [[3],[2]]) (fun _=>?_)
 refine aF ?_
 exact mR (v:=(U p)) (fun _ hS=>⟨congrArg (fun x=>Ending.returned (U x)) (gexp_end (i:=i) (by have h1:=yF hb1;omega) hp),hS.bel⟩)
theorem gexp_any (a e:Nat) (w0:World) (ha:a<M) (he:e<M):Calls Tryz.prog 162 #[U a,U e] w0 (jR (U (bK a e pP)) w0):=gexp_w a e ha he w0
theorem rgexp_w (a:Nat) (e:Nat) (ha:a<M) (he:e<M) (w0:World):Calls Tryz.prog 157 #[U a,U e] w0 (jR (U (bK a e pP)) w0):=by
 refine Calls.of_ok (n:=9) (F:=(fun _=>True)) Tryz.func157 rfl rfl rfl (by simp) jT ?_
 refine sS Tryz.f157 3 [2,3,4] [] (fun ρ=>[pt (nb ρ 0),pt (nb ρ 1),pt (nb ρ 2)]) (fun ρ=>[(0,(nw ρ 0 (cL (cU a) 54))),(1,(nw ρ 1 (cL (cU e) 54))),(2,(nw ρ 2 (cL (cU 0) 54)))]) (jE [[],[],[]]) (fun ρ1=>?_)
 refine sD Tryz.f157 [0,0,0,7,15] 5 [4] [0,0,1] (fun _=>[U a,U e,U pP,U (bK a e pP),undef]) (fun _=>[(4,(bD 2 (nb ρ1 2) (cL (cU (bK a e pP)) 54)))]) (cR [[0],[1]]<|cC (fun _ w=>lW w)<|cC (fun _ w=>rexpmod_any a e pP w ha he oV)<|jE [[2]]) (fun _=>?_)
 refine aF ?_
 exact mR (v:=(U (bK a e pP))) (fun _ hS=>⟨rfl,hS.bel⟩)
theorem rgexp_any (a e:Nat) (w0:World) (ha:a<M) (he:e<M):Calls Tryz.prog 157 #[U a,U e] w0 (jR (U (bK a e pP)) w0):=rgexp_w a e ha he w0
theorem gmember_w (a:Nat) (ha:a<M) (w0:World):Calls Tryz.prog 127 #[U a] w0 (jR (.bool (mW a)) w0):=by
 refine Calls.of_ok (n:=17) (F:=(fun _=>True)) Tryz.func127 rfl rfl rfl (by simp) jT ?_
 refine sS Tryz.f127 2 [1,2] [] (fun ρ=>[pt (nb ρ 0),vF]) (fun ρ=>[(0,(nw ρ 0 (cL (cU a) 54)))]) (jE [[],[]]) (fun _=>?_)
 refine aB ?_
 rcases Bool.eq_false_or_eq_true (decide (a=0)) with hb1 | hb1
 ·
  refine sD Tryz.f127 [0,0,3,7,15,15,63,127,255] 9 [1,2,11] [] (fun _=>[U a,U 0,vT,vT,undef,undef,undef,undef,vT]) (fun _=>[]) (cR [[0],[]]<|cB (a:=fun ρ=>(U a)) (b:=fun ρ=>(U 0)) (v:=fun ρ=>vT) .eql 54 (fun _ _=>(eqlU a 0 ha (by decide +kernel) _).trans (by rw [hb1];try rfl))<|jE [[],[],[],[],[],[]]) (fun _=>?_)
  refine oY ?_
  refine jJ Tryz.f127 1 [1,2] [vF] (aF (aC ?_))
  exact mR (v:=vF) (fun _ hS=>⟨jB (mem_no1 hb1),hS.bel⟩)
 refine sD Tryz.f127 [0,0,3,7,15,15,63,127,255] 9 [1,2,11] [] (fun _=>let qa:Value:=.bool (decide (0≤(fJ a pP)));[U a,U 0,vF,vF,U a,U pP,vi (fJ a pP),qa,qa]) (fun _=>[]) (cR [[0],[]]<|cB (a:=fun ρ=>(U a)) (b:=fun ρ=>(U 0)) (v:=fun ρ=>vF) .eql 54 (fun _ _=>(eqlU a 0 ha (by decide +kernel) _).trans (by rw [hb1];try rfl))<|cR [[],[0]]<|cC (fun _ w=>yY w)<|cC (fun _ w=>uN a pP w ha oV)<|jE [[],[]]) (fun _=>?_)
 refine oC (decide (0≤(fJ a pP))) (fun hb2=>?_) (fun hb2=>?_)
 ·
  rw [hb2]
  refine jJ Tryz.f127 1 [1,2] [vF] (aF (aC ?_))
  exact mR (v:=vF) (fun _ hS=>⟨jB (mem_no2 hb2),hS.bel⟩)
 rw [hb2]
 refine aG (aA ?_)
 refine sD Tryz.f127 [0,0,3,7,15,31] 6 [2] [0] (fun _=>let qa:Value:=.bool (decide (bK a qP pP=1));[U a,U qP,U (bK a qP pP),U 1,qa,qa]) (fun _=>[]) (cR [[0]]<|cC (fun _ w=>yC w)<|cC (fun _ w=>gexp_any a qP w ha sW)<|cC (fun _ w=>lF 1 w (by decide))<|cB (a:=fun ρ=>(U (bK a qP pP))) (b:=fun ρ=>(U 1)) (v:=fun ρ=>(.bool (decide (bK a qP pP=1)))) .eql 54 (fun _ _=>eqlU (bK a qP pP) 1 (vZ _ _ oV) (by decide +kernel) _)<|jE [[]]) (fun _=>?_)
 refine aF ?_
 exact mR (v:=(.bool (decide (bK a qP pP=1)))) (fun _ hS=>⟨jB (mem_yes hb1 (by have:=yF hb2;omega)),hS.bel⟩)
theorem gmember_any (a:Nat) (w0:World) (ha:a<M):Calls Tryz.prog 127 #[U a] w0 (jR (.bool (mW a)) w0):=gmember_w a ha w0
theorem gpower_w (e:Nat) (he:e<M) (w0:World):Calls Tryz.prog 129 #[U e] w0 (jR (U (bK 4 e pP)) w0):=by
 refine Calls.of_ok (n:=6) (F:=(fun _=>True)) Tryz.func129 rfl rfl rfl (by simp) jT ?_
 refine sS Tryz.f129 2 [1,2] [] (fun ρ=>[pt (nb ρ 0),pt (nb ρ 1)]) (fun ρ=>[(0,(nw ρ 0 (cL (cU e) 54))),(1,(nw ρ 1 (cL (cU 0) 54)))]) (jE [[],[]]) (fun ρ1=>?_)
 refine sD Tryz.f129 [0,0,3,7] 4 [2] [0,1] (fun _=>[U 4,U e,U (bK 4 e pP),undef]) (fun _=>[(3,(bD 1 (nb ρ1 1) (cL (cU (bK 4 e pP)) 54)))]) (cC (fun _ w=>lF 4 w (by decide))<|cR [[0]]<|cC (fun _ w=>gexp_any 4 e w (by decide +kernel) he)<|jE [[1]]) (fun _=>?_)
 refine aF ?_
 exact mR (v:=(U (bK 4 e pP))) (fun _ hS=>⟨rfl,hS.bel⟩)
theorem gpower_any (e:Nat) (w0:World) (he:e<M):Calls Tryz.prog 129 #[U e] w0 (jR (U (bK 4 e pP)) w0):=gpower_w e he w0
theorem rgmember_w (a:Nat) (ha:a<M) (w0:World):Calls Tryz.prog 123 #[U a] w0 (jR (.bool (mW a)) w0):=by
 refine Calls.of_ok (n:=19) (F:=(fun _=>True)) Tryz.func123 rfl rfl rfl (by simp) jT ?_
 refine sS Tryz.f123 2 [1,2] [] (fun ρ=>[pt (nb ρ 0),vF]) (fun ρ=>[(0,(nw ρ 0 (cL (cU a) 54)))]) (jE [[],[]]) (fun _=>?_)
 rcases Bool.eq_false_or_eq_true (decide (a=0)) with hb1 | hb1
 ·
  refine sD Tryz.f123 [0,1,3,7,15,15,63,127,255,511,1023,1023,4095,8191,16383,32767,65535] 17 [2] [0] (fun _=>[U a,vT,vF,vF,undef,undef,undef,undef,vF,vF,undef,undef,undef,undef,undef,vF,vF]) (fun _=>[]) (cR [[0]]<|cC (f:=64) (args:=fun ρ=> #[U a]) (v:=fun ρ=>vT) (fun _ w=>by as_aux_lemma=>(have hcall:=(fun w=>iI a w ha) w;rw [hb1] at hcall;exact hcall))<|jE [[],[],[],[],[],[],[],[],[],[],[],[],[],[],[]]) (fun _=>?_)
  refine aF ?_
  exact mR (v:=vF) (fun _ hS=>⟨jB (mem_no1 hb1),hS.bel⟩)
 rcases Bool.eq_false_or_eq_true (decide ((fJ a pP)<0)) with hb2 | hb2
 ·
  refine sD Tryz.f123 [0,1,3,7,15,15,63,127,255,511,1023,1023,4095,8191,16383,32767,65535] 17 [2] [0] (fun _=>let qa:Value:=.bool (decide (bK a qP pP=1));[U a,vF,vT,vT,U a,U pP,vi (fJ a pP),vT,vT,vT,U a,U qP,U (bK a qP pP),U 1,qa,qa,qa]) (fun _=>[]) (cR [[0]]<|cC (f:=64) (args:=fun ρ=> #[U a]) (v:=fun ρ=>vF) (fun _ w=>by as_aux_lemma=>(have hcall:=(fun w=>iI a w ha) w;rw [hb1] at hcall;exact hcall))<|cR [[],[],[0]]<|cC (fun _ w=>lW w)<|cC (fun _ w=>xAI a pP w ha oV)<|cA (fun _=>vT) (fun _=>congrArg Value.bool hb2)<|cR [[],[],[0]]<|cC (fun _ w=>wC w)<|cC (fun _ w=>rgexp_any a qP w ha sW)<|cC (fun _ w=>rgone_any w)<|cB (a:=fun ρ=>(U (bK a qP pP))) (b:=fun ρ=>(U 1)) (v:=fun ρ=>(.bool (decide (bK a qP pP=1)))) .eql 54 (fun _ _=>eqlU (bK a qP pP) 1 (vZ _ _ oV) (by decide +kernel) _)<|jE [[],[]]) (fun _=>?_)
  refine aF ?_
  exact mR (v:=(.bool (decide (bK a qP pP=1)))) (fun _ hS=>⟨jB (mem_yes hb1 (by have:=yT hb2;omega)),hS.bel⟩)
 refine sD Tryz.f123 [0,1,3,7,15,15,63,127,255,511,1023,1023,4095,8191,16383,32767,65535] 17 [2] [0] (fun _=>[U a,vF,vT,vT,U a,U pP,vi (fJ a pP),vF,vF,vF,undef,undef,undef,undef,undef,vF,vF]) (fun _=>[]) (cR [[0]]<|cC (f:=64) (args:=fun ρ=> #[U a]) (v:=fun ρ=>vF) (fun _ w=>by as_aux_lemma=>(have hcall:=(fun w=>iI a w ha) w;rw [hb1] at hcall;exact hcall))<|cR [[],[],[0]]<|cC (fun _ w=>lW w)<|cC (fun _ w=>xAI a pP w ha oV)<|cA (fun _=>vF) (fun _=>congrArg Value.bool hb2)<|jE [[],[],[],[],[],[],[],[],[]]) (fun _=>?_)
 refine aF ?_
 exact mR (v:=vF) (fun _ hS=>⟨jB (mem_no3 hb2),hS.bel⟩)
theorem rgmember_any (a:Nat) (w0:World) (ha:a<M):Calls Tryz.prog 123 #[U a] w0 (jR (.bool (mW a)) w0):=rgmember_w a ha w0
theorem rgpower_w (e:Nat) (he:e<M) (w0:World):Calls Tryz.prog 125 #[U e] w0 (jR (U (bK 4 e pP)) w0):=by
 refine Calls.of_ok (n:=6) (F:=(fun _=>True)) Tryz.func125 rfl rfl rfl (by simp) jT ?_
 refine sS Tryz.f125 2 [1,2] [] (fun ρ=>[pt (nb ρ 0),pt (nb ρ 1)]) (fun ρ=>[(0,(nw ρ 0 (cL (cU e) 54))),(1,(nw ρ 1 (cL (cU 0) 54)))]) (jE [[],[]]) (fun ρ1=>?_)
 refine sD Tryz.f125 [0,0,3,7] 4 [2] [0,1] (fun _=>[U 4,U e,U (bK 4 e pP),undef]) (fun _=>[(3,(bD 1 (nb ρ1 1) (cL (cU (bK 4 e pP)) 54)))]) (cC (fun _ w=>iE 4 w (by decide))<|cR [[0]]<|cC (fun _ w=>rgexp_any 4 e w (by decide +kernel) he)<|jE [[1]]) (fun _=>?_)
 refine aF ?_
 exact mR (v:=(U (bK 4 e pP))) (fun _ hS=>⟨rfl,hS.bel⟩)
theorem rgpower_any (e:Nat) (w0:World) (he:e<M):Calls Tryz.prog 125 #[U e] w0 (jR (U (bK 4 e pP)) w0):=rgpower_w e he w0
theorem scalarb_any (a:Nat) (ha:a<M) (w0:World):Calls Tryz.prog 164 #[U a] w0 (jR (.bool (scB a)) w0):=by
 refine Calls.of_ok (n:=7) (F:=(fun _=>True)) Tryz.func164 rfl rfl rfl (by simp) jT ?_
 refine sS Tryz.f164 2 [1,2] [] (fun ρ=>[pt (nb ρ 0),vF]) (fun ρ=>[(0,(nw ρ 0 (cL (cU a) 54)))]) (jE [[],[]]) (fun _=>?_)
 refine sD Tryz.f164 [0,0,3,7,15] 5 [2] [0] (fun _=>let qa:Value:=.bool (decide ((fJ a qP)<0));[U a,U qP,vi (fJ a qP),qa,qa]) (fun _=>[]) (cR [[0]]<|cC (fun _ w=>yC w)<|cC (fun _ w=>uN a qP w ha sW)<|jE [[],[]]) (fun _=>?_)
 refine aF ?_
 exact mR (v:=(.bool (decide ((fJ a qP)<0)))) (fun _ hS=>⟨jB (sc_dec a),hS.bel⟩)
theorem secret_any (x:Nat) (hx:x<M) (w0:World):Calls Tryz.prog 128 #[U x] w0 (jR (.bool (iM x)) w0):=by
 refine Calls.of_ok (n:=10) (F:=(fun _=>True)) Tryz.func128 rfl rfl rfl (by simp) jT ?_
 refine sS Tryz.f128 2 [1,2] [] (fun ρ=>[pt (nb ρ 0),vF]) (fun ρ=>[(0,(nw ρ 0 (cL (cU x) 54)))]) (jE [[],[]]) (fun _=>?_)
 rcases Bool.eq_false_or_eq_true (decide (x=0)) with hb1 | hb1
 ·
  refine sS Tryz.f128 8 [2] [0] (fun _=>[U x,U 0,vF,vF,undef,undef,vF,vF]) (fun _=>[]) (cR [[0],[]]<|cB (a:=fun ρ=>(U x)) (b:=fun ρ=>(U 0)) (v:=fun ρ=>vF) .neq 54 (fun _ _=>(neqU x 0 hx (by decide +kernel) _).trans (by rw [hb1];try rfl))<|jE [[],[],[],[],[]]) (fun _=>?_)
  refine aF ?_
  exact mR (v:=vF) (fun _ hS=>⟨jB (sec_0 hb1),hS.bel⟩)
 refine sS Tryz.f128 8 [2] [0] (fun _=>[U x,U 0,vT,vT,U x,.bool (scB x),.bool (scB x),.bool (scB x)]) (fun _=>[]) (cR [[0],[]]<|cB (a:=fun ρ=>(U x)) (b:=fun ρ=>(U 0)) (v:=fun ρ=>vT) .neq 54 (fun _ _=>(neqU x 0 hx (by decide +kernel) _).trans (by rw [hb1];try rfl))<|cR [[],[0]]<|cC (fun _ w=>scalarb_any x hx w)<|jE [[],[]]) (fun _=>?_)
 refine aF ?_
 exact mR (v:=(.bool (scB x))) (fun _ hS=>⟨jB (sec_1 hb1),hS.bel⟩)
theorem rsecret_any (x:Nat) (hx:x<M) (w0:World):Calls Tryz.prog 124 #[U x] w0 (jR (.bool (iM x)) w0):=by
 refine Calls.of_ok (n:=12) (F:=(fun _=>True)) Tryz.func124 rfl rfl rfl (by simp) jT ?_
 refine sS Tryz.f124 2 [1,2] [] (fun ρ=>[pt (nb ρ 0),vF]) (fun ρ=>[(0,(nw ρ 0 (cL (cU x) 54)))]) (jE [[],[]]) (fun _=>?_)
 rcases Bool.eq_false_or_eq_true (decide (x=0)) with hb1 | hb1
 ·
  refine sD Tryz.f124 [0,1,3,7,15,15,63,127,255,511] 10 [2] [0] (fun _=>[U x,vT,vF,vF,undef,undef,undef,undef,vF,vF]) (fun _=>[]) (cR [[0]]<|cC (f:=64) (args:=fun ρ=> #[U x]) (v:=fun ρ=>vT) (fun _ w=>by as_aux_lemma=>(have hcall:=(fun w=>iI x w hx) w;rw [hb1] at hcall;exact hcall))<|jE [[],[],[],[],[],[],[],[]]) (fun _=>?_)
  refine aF ?_
  exact mR (v:=vF) (fun _ hS=>⟨jB (sec_0 hb1),hS.bel⟩)
 refine sD Tryz.f124 [0,1,3,7,15,15,63,127,255,511] 10 [2] [0] (fun _=>let qa:Value:=.bool (decide ((fJ x qP)<0));[U x,vF,vT,vT,U x,U qP,vi (fJ x qP),qa,qa,qa]) (fun _=>[]) (cR [[0]]<|cC (f:=64) (args:=fun ρ=> #[U x]) (v:=fun ρ=>vF) (fun _ w=>by as_aux_lemma=>(have hcall:=(fun w=>iI x w hx) w;rw [hb1] at hcall;exact hcall))<|cR [[],[],[0]]<|cC (fun _ w=>wC w)<|cC (fun _ w=>xAI x qP w hx sW)<|jE [[],[],[]]) (fun _=>?_)
 refine aF ?_
 exact mR (v:=(.bool (decide ((fJ x qP)<0)))) (fun _ hS=>⟨jB ((sc_dec x).trans (sec_1 hb1)),hS.bel⟩)
theorem yD (x:Nat) (hx:x<M) (w0:World):Calls Tryz.prog 92 #[U x] w0 (jR (.tuple #[U (dK x),vi (iW x)]) w0):=by
 refine Calls.of_ok (n:=10) (F:=(fun _=>True)) Tryz.func92 rfl rfl rfl (by simp) jT ?_
 refine sS Tryz.f92 3 [1,2,3] [] (fun ρ=>[pt (nb ρ 0),pt (nb ρ 1),vi 0]) (fun ρ=>[(0,(nw ρ 0 (cL (cU x) 54))),(1,(nw ρ 1 (cL (cU 0) 54)))]) (jE [[],[],[]]) (fun ρ1=>?_)
 refine aB ?_
 refine sS Tryz.f92 3 [1,2,3,6] [] (fun _=>[U x,.bool (iM x),.bool (!(iM x))]) (fun _=>[]) (cR [[0]]<|cC (fun _ w=>secret_any x hx w)<|jE [[]]) (fun _=>?_)
 refine oC (!(iM x)) (fun hb1=>?_) (fun hb1=>?_)
 ·
  rw [hb1]
  refine sS Tryz.f92 3 [1,2,3] [] (fun _=>[U 0,undef,vi 60]) (fun _=>[(1,(bD 1 (nb ρ1 1) (cL (cU 0) 54)))]) (jE [[],[1],[]]) (fun _=>?_)
  refine aF (aC ?_)
  exact mR (v:=(.tuple #[U 0,vi 60])) (ps:=[1,1,1,1]) (fun _ hS=>⟨by rw [(pub_no (dF hb1)).1,(pub_no (dF hb1)).2],hS.bel⟩)
 rw [hb1]
 refine aG (aA ?_)
 refine sS Tryz.f92 4 [2,3] [0,1] (fun _=>[U x,U (bK 4 x pP),undef,vi 0]) (fun _=>[(2,(bD 1 (nb ρ1 1) (cL (cU (bK 4 x pP)) 54)))]) (cR [[0]]<|cC (fun _ w=>gpower_any x w hx)<|jE [[1],[]]) (fun _=>?_)
 refine aF ?_
 exact mR (v:=(.tuple #[U (bK 4 x pP),vi 0])) (fun _ hS=>⟨by rw [(lZ (aV hb1)).1,(lZ (aV hb1)).2],hS.bel⟩)
theorem valid_any (p:Nat) (hp:p<M) (w0:World):Calls Tryz.prog 91 #[U p] w0 (jR (.bool (iY p)) w0):=by
 refine Calls.of_ok (n:=10) (F:=(fun _=>True)) Tryz.func91 rfl rfl rfl (by simp) jT ?_
 refine sS Tryz.f91 2 [1,2] [] (fun ρ=>[pt (nb ρ 0),vF]) (fun ρ=>[(0,(nw ρ 0 (cL (cU p) 54)))]) (jE [[],[]]) (fun _=>?_)
 rcases Bool.eq_false_or_eq_true (decide (p=1)) with hb1 | hb1
 ·
  refine sD Tryz.f91 [0,0,3,7,15,31,63,127] 8 [2] [0] (fun _=>[U p,U 1,vF,vF,undef,undef,vF,vF]) (fun _=>[]) (cR [[0]]<|cC (fun _ w=>lF 1 w (by decide))<|cB (a:=fun ρ=>(U p)) (b:=fun ρ=>(U 1)) (v:=fun ρ=>vF) .neq 54 (fun _ _=>(neqU p 1 hp (by decide +kernel) _).trans (by rw [hb1];try rfl))<|jE [[],[],[],[],[]]) (fun _=>?_)
  refine aF ?_
  exact mR (v:=vF) (fun _ hS=>⟨jB (val_0 hb1),hS.bel⟩)
 refine sD Tryz.f91 [0,0,3,7,15,31,63,127] 8 [2] [0] (fun _=>[U p,U 1,vT,vT,U p,.bool (mW p),.bool (mW p),.bool (mW p)]) (fun _=>[]) (cR [[0]]<|cC (fun _ w=>lF 1 w (by decide))<|cB (a:=fun ρ=>(U p)) (b:=fun ρ=>(U 1)) (v:=fun ρ=>vT) .neq 54 (fun _ _=>(neqU p 1 hp (by decide +kernel) _).trans (by rw [hb1];try rfl))<|cR [[],[0]]<|cC (fun _ w=>gmember_any p w hp)<|jE [[],[]]) (fun _=>?_)
 refine aF ?_
 exact mR (v:=(.bool (mW p))) (fun _ hS=>⟨jB (val_1 hb1),hS.bel⟩)
theorem rE (x:Nat) (hx:x<M) (w0:World):Calls Tryz.prog 90 #[U x] w0 (jR (.tuple #[U (dK x),vi (iW x)]) w0):=by
 refine Calls.of_ok (n:=10) (F:=(fun _=>True)) Tryz.func90 rfl rfl rfl (by simp) jT ?_
 refine sS Tryz.f90 3 [1,2,3] [] (fun ρ=>[pt (nb ρ 0),pt (nb ρ 1),vi 0]) (fun ρ=>[(0,(nw ρ 0 (cL (cU x) 54))),(1,(nw ρ 1 (cL (cU 0) 54)))]) (jE [[],[],[]]) (fun ρ1=>?_)
 refine aB ?_
 refine sS Tryz.f90 3 [1,2,3,6] [] (fun _=>[U x,.bool (iM x),.bool (!(iM x))]) (fun _=>[]) (cR [[0]]<|cC (fun _ w=>rsecret_any x hx w)<|jE [[]]) (fun _=>?_)
 refine oC (!(iM x)) (fun hb1=>?_) (fun hb1=>?_)
 ·
  rw [hb1]
  refine sS Tryz.f90 3 [1,2,3] [] (fun _=>[U 0,undef,vi 60]) (fun _=>[(1,(bD 1 (nb ρ1 1) (cL (cU 0) 54)))]) (jE [[],[1],[]]) (fun _=>?_)
  refine aF (aC ?_)
  exact mR (v:=(.tuple #[U 0,vi 60])) (ps:=[1,1,1,1]) (fun _ hS=>⟨by rw [(pub_no (dF hb1)).1,(pub_no (dF hb1)).2],hS.bel⟩)
 rw [hb1]
 refine aG (aA ?_)
 refine sS Tryz.f90 4 [2,3] [0,1] (fun _=>[U x,U (bK 4 x pP),undef,vi 0]) (fun _=>[(2,(bD 1 (nb ρ1 1) (cL (cU (bK 4 x pP)) 54)))]) (cR [[0]]<|cC (fun _ w=>rgpower_any x w hx)<|jE [[1],[]]) (fun _=>?_)
 refine aF ?_
 exact mR (v:=(.tuple #[U (bK 4 x pP),vi 0])) (fun _ hS=>⟨by rw [(lZ (aV hb1)).1,(lZ (aV hb1)).2],hS.bel⟩)
theorem rvalid_any (p:Nat) (hp:p<M) (w0:World):Calls Tryz.prog 89 #[U p] w0 (jR (.bool (iY p)) w0):=by
 refine Calls.of_ok (n:=10) (F:=(fun _=>True)) Tryz.func89 rfl rfl rfl (by simp) jT ?_
 refine sS Tryz.f89 2 [1,2] [] (fun ρ=>[pt (nb ρ 0),vF]) (fun ρ=>[(0,(nw ρ 0 (cL (cU p) 54)))]) (jE [[],[]]) (fun _=>?_)
 rcases Bool.eq_false_or_eq_true (decide (p=1)) with hb1 | hb1
 ·
  refine sD Tryz.f89 [0,0,3,7,15,31,63,127] 8 [2] [0] (fun _=>[U p,U 1,vF,vF,undef,undef,vF,vF]) (fun _=>[]) (cR [[0]]<|cC (fun _ w=>iE 1 w (by decide))<|cB (a:=fun ρ=>(U p)) (b:=fun ρ=>(U 1)) (v:=fun ρ=>vF) .neq 54 (fun _ _=>(neqU p 1 hp (by decide +kernel) _).trans (by rw [hb1];try rfl))<|jE [[],[],[],[],[]]) (fun _=>?_)
  refine aF ?_
  exact mR (v:=vF) (fun _ hS=>⟨jB (val_0 hb1),hS.bel⟩)
 refine sD Tryz.f89 [0,0,3,7,15,31,63,127] 8 [2] [0] (fun _=>[U p,U 1,vT,vT,U p,.bool (mW p),.bool (mW p),.bool (mW p)]) (fun _=>[]) (cR [[0]]<|cC (fun _ w=>iE 1 w (by decide))<|cB (a:=fun ρ=>(U p)) (b:=fun ρ=>(U 1)) (v:=fun ρ=>vT) .neq 54 (fun _ _=>(neqU p 1 hp (by decide +kernel) _).trans (by rw [hb1];try rfl))<|cR [[],[0]]<|cC (fun _ w=>rgmember_any p w hp)<|jE [[],[]]) (fun _=>?_)
 refine aF ?_
 exact mR (v:=(.bool (mW p))) (fun _ hS=>⟨jB (val_1 hb1),hS.bel⟩)
def aggD:TypeDesc→Bool
  | .struct _=>true
  | .array _ _=>true
  | _=>false
def xAZ (P:Program) (t:TypeId) (cs:Array Value) (off:Nat):Option Value :=
  match P.info? t,P.underlying t with
  | some i,some d=>if aggD d then some (.agg (cs.extract off (off+i.size))) else cs[off]?
  | _,_=>none
def eqStep (f:Value→Value→Option (List (Int × Int))) (a b:Option Value):Option (List (Int × Int)) :=
  match a,b with
  | some a,some b=>f a b
  | _,_=>none
def eqF (P : Program) : Nat → TypeId → Value → Value → Option (List (Int × Int))
  | 0,_,_,_=>none
  | d + 1, t, x, y => match P.underlying t, x, y with
    | some (.int _),.int k a,.int k' b=>if k=k' then some [(a,b)] else none
    | some (.array n e),.agg xs,.agg ys=>if (P.info? e).isSome then ((List.range n).mapM fun i=>eqStep (eqF P d e) (xAZ P e xs (i*P.cellsOf e)) (xAZ P e ys (i*P.cellsOf e))).map List.flatten else none
    | some (.struct fs),.agg xs,.agg ys=>if P.stoodInHeld t then none else (fs.toList.mapM fun f=>if f.name≠ "_" then eqStep (eqF P d f.type) (xAZ P f.type xs f.offset) (xAZ P f.type ys f.offset) else none).map List.flatten
    | _,_,_=>none
def eqB (l:List (Int × Int)):Bool:=l.all fun p=>p.1==p.2
theorem eqB_app (a b:List (Int × Int)):eqB (a++b)=(eqB a&&eqB b):=by simp [eqB]
section
variable {P : Program}
theorem xAV {t : TypeId} {cs : Array Value} {off : Nat} {v : Value} (h : xAZ P t cs off = some v) (w : World) : (part t cs off).run P w = .ok v w := by
  unfold xAZ at h
  cases hi:P.info? t with
  | none=>rw [hi] at h;simp at h
  | some i =>
    cases hk:P.underlying t with
    | none=>rw [hi,hk] at h;simp at h
    | some d =>
      rw [hi,hk] at h
      simp only at h
      have hag:(isAgg t).run P w=.ok (aggD d) w:=by
        unfold isAgg
        rw [Sem.run_bind,run_underlying hk w]
        cases d<;>simp [aggD]
      have hsz:(sizeOf t).run P w=.ok i.size w:=by simp [sizeOf,typeInfo,hi]
      unfold part
      rw [Sem.run_bind,hag]
      simp only [Result.andThen_ok]
      split at h
      · rename_i hb
        rw [hb]
        simp only [if_true,Sem.run_bind,hsz,Result.andThen_ok,Sem.run_pure]
        rw [Option.some.inj h]
      · rename_i hb
        simp only [hb,Bool.false_eq_true,if_false,h,Sem.run_pure]
theorem items_eq {d c:Nat} {e:TypeId} {xs ys:Array Value} (ih:∀ x y l w,eqF P d e x y=some l→(Op.equalIn d e x y).run P w=.ok (eqB l) w):∀ (is:List Nat) (ls:List (List (Int × Int))) (w:World),
    is.mapM (fun i=>eqStep (eqF P d e) (xAZ P e xs (i*c)) (xAZ P e ys (i*c)))=some ls→(Op.eqItems d e c xs ys is).run P w=.ok (eqB ls.flatten) w
  | [], ls, w, h => by
    simp at h
    subst h
    simp [Op.eqItems,eqB]
  | i :: is, ls, w, h => by
    rw [List.mapM_cons] at h
    simp only [bind,Option.bind_eq_some_iff,pure,Option.some.injEq] at h
    obtain ⟨l1,h1,ls',h2,rfl⟩:=h
    unfold eqStep at h1
    split at h1
    · rename_i a b ha hb
      have h3:=items_eq (c:=c) (xs:=xs) (ys:=ys) ih is ls' w h2
      simp only [Op.eqItems,Sem.run_bind,xAV ha,xAV hb,Result.andThen_ok,ih a b l1 w h1]
      cases hq:eqB l1
      · simp [List.flatten_cons,eqB_app,hq]
      · simp [List.flatten_cons,eqB_app,hq,h3]
    · exact absurd h1 (by simp)
theorem fields_eq {d : Nat} {xs ys : Array Value} (ih : ∀ t x y l w, eqF P d t x y = some l → (Op.equalIn d t x y).run P w = .ok (eqB l) w) : ∀ (fs : List Field) (ls : List (List (Int × Int))) (w : World),
    fs.mapM (fun f=>if f.name≠ "_" then eqStep (eqF P d f.type) (xAZ P f.type xs f.offset) (xAZ P f.type ys f.offset) else none)=some ls→(Op.eqFields d xs ys fs).run P w=.ok (eqB ls.flatten) w
  | [], ls, w, h => by
    simp at h
    subst h
    simp [Op.eqFields,eqB]
  | f :: fs, ls, w, h => by
    rw [List.mapM_cons] at h
    simp only [bind,Option.bind_eq_some_iff,pure,Option.some.injEq] at h
    obtain ⟨l1,h1,ls',h2,rfl⟩:=h
    split at h1
    · rename_i hn
      unfold eqStep at h1
      split at h1
      · rename_i a b ha hb
        have h3:=fields_eq (xs:=xs) (ys:=ys) ih fs ls' w h2
        simp only [Op.eqFields,hn,ne_eq,not_false_eq_true,if_true,Sem.run_bind,xAV ha,xAV hb,Result.andThen_ok,ih f.type a b l1 w h1]
        cases hq:eqB l1
        · simp [List.flatten_cons,eqB_app,hq]
        · simp [List.flatten_cons,eqB_app,hq,h3]
      · exact absurd h1 (by simp)
    · exact absurd h1 (by simp)
theorem run_eqF : ∀ (d : Nat) (t : TypeId) (x y : Value) (l : List (Int × Int)) (w : World), eqF P d t x y = some l → (Op.equalIn d t x y).run P w = .ok (eqB l) w
  | 0,_,_,_,_,_,h=>by simp [eqF] at h
  | d + 1, t, x, y, l, w, h => by
    unfold eqF at h
    split at h
    · rename_i hu
      split at h
      · rename_i hk
        subst hk
        simp only [Option.some.injEq] at h
        subst h
        simp [Op.equalIn,run_underlying hu,eqB]
      · exact absurd h (by simp)
    · rename_i n e xs ys hu
      split at h
      · rename_i hi
        obtain ⟨i,hi⟩:=Option.isSome_iff_exists.1 hi
        rw [Option.map_eq_some_iff] at h
        obtain ⟨ls,h1,rfl⟩:=h
        rw [run_equalIn_array w d xs ys hu hi]
        exact items_eq (fun x y l w=>run_eqF d e x y l w) _ ls w h1
      · exact absurd h (by simp)
    · rename_i fs xs ys hu
      split at h
      · exact absurd h (by simp)
      · rename_i hp
        rw [Option.map_eq_some_iff] at h
        obtain ⟨ls,h1,rfl⟩:=h
        have hfs:P.fieldsOf t=fs:=by unfold Program.fieldsOf;rw [hu]
        rw [run_equalIn_struct w d t xs ys (by rw [hfs];exact hu) (by simpa using hp),hfs]
        exact fields_eq (fun t x y l w=>run_eqF d t x y l w) _ ls w h1
    · exact absurd h (by simp)
def eqT (P:Program) (t:TypeId) (x y:Value):Option (List (Int × Int)):=eqF P 10000 t x y
theorem neq_any {t:TypeId} {x y:Array Value} {l:List (Int × Int)} (h:eqT P t (.agg x) (.agg y)=some l) (w:World):(binOp .neq t (.agg x) (.agg y)).run P w=.ok (.bool (!eqB l)) w:=by
  have h1:=run_eqF 10000 t (.agg x) (.agg y) l w h
  simp only [binOp]
  simp [Op.equal,Op.maxDepth,h1]
theorem eqB_same:∀ {l:List (Int × Int)},l.map (·.1)=l.map (·.2)→eqB l=true
  | [],_=>rfl
  | p :: l, h => by
    simp only [List.map_cons,List.cons.injEq] at h
    have:=eqB_same h.2
    unfold eqB at this ⊢
    simp only [List.all_cons,this,Bool.and_true,beq_iff_eq]
    exact h.1
theorem same_get {t:TypeId} {x y:Value} (h:(eqT P t x y).map (fun l=>l.map (·.1))=some (((eqT P t x y).map fun l=>l.map (·.2)).getD [])):∃ l,eqT P t x y=some l∧eqB l=true:=by
  rw [Option.map_eq_some_iff] at h
  obtain ⟨l,h1,h2⟩:=h
  rw [h1] at h2
  exact ⟨l,h1,eqB_same h2⟩
theorem neq_same {t:TypeId} {x y:Array Value} (w:World) (h:(eqT P t (.agg x) (.agg y)).map (fun l=>l.map (·.1))=some (((eqT P t (.agg x) (.agg y)).map fun l=>l.map (·.2)).getD []):=by kernel_rfl):(binOp .neq t (.agg x) (.agg y)).run P w=.ok (.bool false) w:=by
  obtain ⟨l,h1,h2⟩:=same_get h
  rw [neq_any h1,h2];rfl
theorem neq_eq {t:TypeId} {x y:Array Value} (e:x=y) (w:World) (h:(eqT P t (.agg x) (.agg x)).map (fun l=>l.map (·.1))=some (((eqT P t (.agg x) (.agg x)).map fun l=>l.map (·.2)).getD []):=by kernel_rfl):(binOp .neq t (.agg x) (.agg y)).run P w=.ok (.bool false) w:=by
  subst e;exact neq_same w h
end
theorem yN (k:Ky) (hk:k.Ok) (w0:World):Calls Tryz.prog 67 #[.agg (kY k)] w0 (jR (.bool (fC k)) w0):=by
 refine Calls.of_ok (n:=37) (F:=(fun _=>True)) Tryz.func67 rfl rfl rfl (by simp) jT ?_
 refine sS Tryz.f67 2 [1,2] [] (fun ρ=>[pt (nb ρ 0),vF]) (fun ρ=>[(0,(nw ρ 0 (cL (kY k) 56)))]) (jE [[],[]]) (fun ρ1=>?_)
 refine aB ?_
 rcases Bool.eq_false_or_eq_true (decide (k.d<0)) with hb1 | hb1
 ·
  refine sS Tryz.f67 14 [1,2,18] [] (fun _=>[jp (nb ρ1 0) 40,vi k.d,vT,vT,undef,undef,undef,vT,vT,undef,undef,undef,undef,vT]) (fun _=>[]) (cR [[],[0]]<|cA (fun _=>vT) (fun _=>congrArg Value.bool hb1)<|jE [[],[],[],[],[],[],[],[],[],[],[]]) (fun _=>?_)
  refine oY ?_
  refine jJ Tryz.f67 1 [1,2] [vF] (aF (aC ?_))
  exact mR (v:=vF) (fun _ hS=>⟨jB (snd_end1 hb1),hS.bel⟩)
 rcases Bool.eq_false_or_eq_true (decide (8<k.d)) with hb2 | hb2
 ·
  refine sS Tryz.f67 14 [1,2,18] [] (fun _=>[jp (nb ρ1 0) 40,vi k.d,vF,vF,jp (nb ρ1 0) 40,vi k.d,vT,vT,vT,undef,undef,undef,undef,vT]) (fun _=>[]) (cR [[],[0]]<|cA (fun _=>vF) (fun _=>congrArg Value.bool hb1)<|cR [[],[],[0]]<|cA (fun _=>vT) (fun _=>congrArg Value.bool hb2)<|jE [[],[],[],[],[],[],[]]) (fun _=>?_)
  refine oY ?_
  refine jJ Tryz.f67 1 [1,2] [vF] (aF (aC ?_))
  exact mR (v:=vF) (fun _ hS=>⟨jB (snd_end2 hb1 hb2),hS.bel⟩)
 refine sS Tryz.f67 14 [1,2,18] [] (fun _=>[jp (nb ρ1 0) 40,vi k.d,vF,vF,jp (nb ρ1 0) 40,vi k.d,vF,vF,vF,jp (nb ρ1 0) 4,U k.p,.bool (iY k.p),.bool (!(iY k.p)),.bool (!(iY k.p))]) (fun _=>[]) (cR [[],[0]]<|cA (fun _=>vF) (fun _=>congrArg Value.bool hb1)<|cR [[],[],[0]]<|cA (fun _=>vF) (fun _=>congrArg Value.bool hb2)<|cR [[],[],[],[0]]<|cC (fun _ w=>valid_any k.p hk.p w)<|jE [[],[]]) (fun _=>?_)
 refine oC (!(iY k.p)) (fun hb3=>?_) (fun hb3=>?_)
 ·
  rw [hb3]
  refine jJ Tryz.f67 1 [1,2] [vF] (aF (aC ?_))
  exact mR (v:=vF) (fun _ hS=>⟨jB (snd_end3 hb1 hb2 (dF hb3)),hS.bel⟩)
 rw [hb3]
 refine aG (aA (aB ?_))
 refine sS Tryz.f67 4 [1,2,22] [] (fun _=>[pt (nb ρ1 0),U k.s,U 0,.bool (decide (k.s=0))]) (fun _=>[]) (cR [[],[0],[]]<|cB (a:=fun ρ=>(U k.s)) (b:=fun ρ=>(U 0)) (v:=fun ρ=>(.bool (decide (k.s=0)))) .eql 54 (fun _ _=>eqlU k.s 0 hk.s (by decide +kernel) _)<|cN) (fun _=>?_)
 refine oC (decide (k.s=0)) (fun hb4=>?_) (fun hb4=>?_)
 ·
  rw [hb4]
  refine jJ Tryz.f67 1 [1,2] [vT] (aF (aC ?_))
  exact mR (v:=vT) (fun _ hS=>⟨jB (snd_ok4 hb1 hb2 (aV hb3) hb4),hS.bel⟩)
 rw [hb4]
 refine aG (aA ?_)
 refine sS Tryz.f67 9 [1,2,3,4] [] (fun ρ=>[pt (nb ρ1 0),U k.s,.tuple #[U (dK k.s),vi (iW k.s)],.tuple #[U (dK k.s),vi (iW k.s)],U (dK k.s),vi (iW k.s),pt (nb ρ 6),undef,vi (iW k.s)]) (fun ρ=>[(6,(nw ρ 6 (cL (cU 0) 54))),(7,(bD 49 (nb ρ 6) (cL (cU (dK k.s)) 54)))]) (cR [[],[0]]<|cC (fun _ w=>yD k.s hk.s w)<|jE [[],[],[],[],[49],[]]) (fun _=>?_)
 rcases Bool.eq_false_or_eq_true ((iW k.s)==0) with hb5 | hb5
 ·
  refine sS Tryz.f67 9 [2] [0,0] (fun _=>let qa:Value:=.bool (decide (dK k.s=k.p));[vi (iW k.s),vT,vT,U (dK k.s),jp (nb ρ1 0) 4,U k.p,qa,qa,qa]) (fun _=>[]) (cR [[]]<|cA (fun _=>vT) (fun _=>congrArg Value.bool hb5)<|cR [[],[1],[],[0]]<|cB (a:=fun ρ=>(U (dK k.s))) (b:=fun ρ=>(U k.p)) (v:=fun ρ=>(.bool (decide (dK k.s=k.p)))) .eql 54 (fun _ _=>eqlU (dK k.s) k.p (pubV_lt _) hk.p _)<|jE [[],[]]) (fun _=>?_)
  refine aF ?_
  exact mR (v:=(.bool (decide (dK k.s=k.p)))) (fun _ hS=>⟨jB (snd_ok5 hb1 hb2 (aV hb3) hb4 hb5),hS.bel⟩)
 refine sS Tryz.f67 9 [2] [0,0] (fun _=>[vi (iW k.s),vF,vF,undef,undef,undef,undef,vF,vF]) (fun _=>[]) (cR [[]]<|cA (fun _=>vF) (fun _=>congrArg Value.bool hb5)<|jE [[],[],[],[],[],[],[]]) (fun _=>?_)
 refine aF ?_
 exact mR (v:=vF) (fun _ hS=>⟨jB (snd_end5 hb1 hb2 (aV hb3) hb4 hb5),hS.bel⟩)
theorem oQ (k:Ky) (hk:k.Ok) (w0:World):Calls Tryz.prog 63 #[.agg (kY k)] w0 (jR (.bool (fC k)) w0):=by
 refine Calls.of_ok (n:=36) (F:=(fun _=>True)) Tryz.func63 rfl rfl rfl (by simp) jT ?_
 refine sS Tryz.f63 2 [1,2] [] (fun ρ=>[pt (nb ρ 0),vF]) (fun ρ=>[(0,(nw ρ 0 (cL (kY k) 56)))]) (jE [[],[]]) (fun ρ1=>?_)
 refine aB ?_
 rcases Bool.eq_false_or_eq_true (decide (k.d<0)) with hb1 | hb1
 ·
  refine sS Tryz.f63 14 [1,2,18] [] (fun _=>[jp (nb ρ1 0) 40,vi k.d,vT,vT,undef,undef,undef,vT,vT,undef,undef,undef,undef,vT]) (fun _=>[]) (cR [[],[0]]<|cA (fun _=>vT) (fun _=>congrArg Value.bool hb1)<|jE [[],[],[],[],[],[],[],[],[],[],[]]) (fun _=>?_)
  refine oY ?_
  refine jJ Tryz.f63 1 [1,2] [vF] (aF (aC ?_))
  exact mR (v:=vF) (fun _ hS=>⟨jB (snd_end1 hb1),hS.bel⟩)
 rcases Bool.eq_false_or_eq_true (decide (8<k.d)) with hb2 | hb2
 ·
  refine sS Tryz.f63 14 [1,2,18] [] (fun _=>[jp (nb ρ1 0) 40,vi k.d,vF,vF,jp (nb ρ1 0) 40,vi k.d,vT,vT,vT,undef,undef,undef,undef,vT]) (fun _=>[]) (cR [[],[0]]<|cA (fun _=>vF) (fun _=>congrArg Value.bool hb1)<|cR [[],[],[0]]<|cA (fun _=>vT) (fun _=>congrArg Value.bool hb2)<|jE [[],[],[],[],[],[],[]]) (fun _=>?_)
  refine oY ?_
  refine jJ Tryz.f63 1 [1,2] [vF] (aF (aC ?_))
  exact mR (v:=vF) (fun _ hS=>⟨jB (snd_end2 hb1 hb2),hS.bel⟩)
 refine sS Tryz.f63 14 [1,2,18] [] (fun _=>[jp (nb ρ1 0) 40,vi k.d,vF,vF,jp (nb ρ1 0) 40,vi k.d,vF,vF,vF,jp (nb ρ1 0) 4,U k.p,.bool (iY k.p),.bool (!(iY k.p)),.bool (!(iY k.p))]) (fun _=>[]) (cR [[],[0]]<|cA (fun _=>vF) (fun _=>congrArg Value.bool hb1)<|cR [[],[],[0]]<|cA (fun _=>vF) (fun _=>congrArg Value.bool hb2)<|cR [[],[],[],[0]]<|cC (fun _ w=>rvalid_any k.p hk.p w)<|jE [[],[]]) (fun _=>?_)
 refine oC (!(iY k.p)) (fun hb3=>?_) (fun hb3=>?_)
 ·
  rw [hb3]
  refine jJ Tryz.f63 1 [1,2] [vF] (aF (aC ?_))
  exact mR (v:=vF) (fun _ hS=>⟨jB (snd_end3 hb1 hb2 (dF hb3)),hS.bel⟩)
 rw [hb3]
 refine aG (aA (aB ?_))
 refine sS Tryz.f63 3 [1,2,21] [] (fun _=>[pt (nb ρ1 0),U k.s,.bool (decide (k.s=0))]) (fun _=>[]) (cR [[],[0]]<|cC (fun _ w=>iI k.s w hk.s)<|cN) (fun _=>?_)
 refine oC (decide (k.s=0)) (fun hb4=>?_) (fun hb4=>?_)
 ·
  rw [hb4]
  refine jJ Tryz.f63 1 [1,2] [vT] (aF (aC ?_))
  exact mR (v:=vT) (fun _ hS=>⟨jB (snd_ok4 hb1 hb2 (aV hb3) hb4),hS.bel⟩)
 rw [hb4]
 refine aG (aA ?_)
 refine sS Tryz.f63 9 [1,2,3,4] [] (fun ρ=>[pt (nb ρ1 0),U k.s,.tuple #[U (dK k.s),vi (iW k.s)],.tuple #[U (dK k.s),vi (iW k.s)],U (dK k.s),vi (iW k.s),pt (nb ρ 6),undef,vi (iW k.s)]) (fun ρ=>[(6,(nw ρ 6 (cL (cU 0) 54))),(7,(bD 49 (nb ρ 6) (cL (cU (dK k.s)) 54)))]) (cR [[],[0]]<|cC (fun _ w=>rE k.s hk.s w)<|jE [[],[],[],[],[49],[]]) (fun _=>?_)
 rcases Bool.eq_false_or_eq_true ((iW k.s)==0) with hb5 | hb5
 ·
  refine sS Tryz.f63 9 [2] [0,0] (fun _=>let qa:Value:=.bool (decide (dK k.s=k.p));[vi (iW k.s),vT,vT,U (dK k.s),jp (nb ρ1 0) 4,U k.p,qa,qa,qa]) (fun _=>[]) (cR [[]]<|cA (fun _=>vT) (fun _=>congrArg Value.bool hb5)<|cR [[],[1],[],[0]]<|cB (a:=fun ρ=>(U (dK k.s))) (b:=fun ρ=>(U k.p)) (v:=fun ρ=>(.bool (decide (dK k.s=k.p)))) .eql 54 (fun _ _=>eqlU (dK k.s) k.p (pubV_lt _) hk.p _)<|jE [[],[]]) (fun _=>?_)
  refine aF ?_
  exact mR (v:=(.bool (decide (dK k.s=k.p)))) (fun _ hS=>⟨jB (snd_ok5 hb1 hb2 (aV hb3) hb4 hb5),hS.bel⟩)
 refine sS Tryz.f63 9 [2] [0,0] (fun _=>[vi (iW k.s),vF,vF,undef,undef,undef,undef,vF,vF]) (fun _=>[]) (cR [[]]<|cA (fun _=>vF) (fun _=>congrArg Value.bool hb5)<|jE [[],[],[],[],[],[],[]]) (fun _=>?_)
 refine aF ?_
 exact mR (v:=vF) (fun _ hS=>⟨jB (snd_end5 hb1 hb2 (aV hb3) hb4 hb5),hS.bel⟩)
theorem run_remI {P:Program} {t:TypeId} {v:Int} {n:Nat} (hn:0<n) (w:World):(binOp .rem t (.int .i64 v) (.int .i64 (n:Int))).run P w=.ok (.int .i64 (Int.tmod v (n:Int))) w:=by
  simp only [binOp,Op.intDiv,ne_eq,not_true_eq_false,if_false,if_neg (by omega: ¬ (n:Int)=0)]
  rfl
theorem mod_wrap {v:Int} {n:Nat} (hn:0<n∧n≤1099511627776) (h:Int.tmod v n<0):IntKind.i64.wrap (Int.tmod v (n:Int)+(n:Int))=((dm v n:Nat):Int):=by
  have h1:=mod_neg hn.1 h
  have h2:=iG v hn.1
  rw [h1]
  exact gZ (by omega)
def Z64 (zs:List Int):Prop:=∀ z∈zs,-9223372036854775808≤z∧z<9223372036854775808
theorem Z64.get {zs:List Int} (h:Z64 zs) (i:Nat): -9223372036854775808≤gI zs i∧gI zs i<9223372036854775808:=by
  unfold gI
  by_cases hi:i<zs.length
  · rw [List.getD_eq_getElem?_getD, List.getElem?_eq_getElem hi]
    exact h _ (List.getElem_mem hi)
  · rw [List.getD_eq_getElem?_getD, List.getElem?_eq_none (by omega)]
    decide
theorem pN_wrap {zs:List Int} {j:Nat} (hl:zs.length≤140737488351232) (h:((pN zs j:Nat):Int)<((zs.length:Nat):Int)):IntKind.i64.wrap (((pN zs j:Nat):Int)+1)=((pN zs (j+1):Nat):Int):=by
  have h1:=pN_succ (zs:=zs) (j:=j) (by omega)
  rw [h1,gZ (by omega)]
  omega
theorem pN_back {zs:List Int} {j:Nat} (hl:zs.length≤140737488351232) (h:((pN zs j:Nat):Int)<((zs.length:Nat):Int)):IntKind.i64.wrap (((pN zs (j+1):Nat):Int)-1)=((pN zs j:Nat):Int):=by
  have h1:=pN_succ (zs:=zs) (j:=j) (by omega)
  rw [h1,gZ (by omega)]
  omega
end Go.Proofs.YtegagmoldjiaaaaGreatDoor
