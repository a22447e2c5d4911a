/-
  What this statement needs, part 3: the texts of it, one behind the other.
-/
import Derived.Test.YtahoheofpggopaaGreatDoorBase2
import Derived.ChangeKeysEq
import Derived.Laws.StructEq
set_option maxRecDepth 100000
namespace Go.Proofs.YtahoheofpggopaaGreatDoor
open Go Go.RowKit _root_.Go.Proofs.Tryz
def bW.wk (t:bW) (ks:List dO) (ka:OA) (kc:Nat):bW:=⟨t.kd,t.m,t.nu,t.h,ks,ka,kc⟩
def dO.wp (p:dO) (a:OA) (c:Nat):dO:=⟨p.k,p.ps,p.wd,a,c⟩
def TkN (w0 w:World) (us:List bW):Prop:=∀ t∈us,KpN w0 w t.ka t.kc t.ks
theorem TkN.nil {w0 w:World}:TkN w0 w []:=fun _ h=>absurd h (by simp)
section
variable {α:Type} [Inhabited α] {sz:Nat} {K:RowK α sz} {C:Array Value} {l:List α} {c i o:Nat}
theorem row_get (h:K.A C l c) (hi:i<l.length) (ho:o<sz) {v:Value} (hv:(K.f (l.getD i default))[o]? = some v):C[i*sz+o]? = some v:=by
 have h1:=Av.hd h
 have hr:(K.r l)[i*sz+o]? = some v:=(xBA K.len l i o hi ho).trans hv
 rw [← h1,List.getElem?_take] at hr
 split at hr
 ·simpa using hr
 ·exact absurd hr (by simp)
theorem row_put (h:K.A C l c) (hi:i<l.length) (ho:o<sz) {v:Value} {x:α} (hx:K.f x=(K.f (l.getD i default)).set o v):K.A (C.setIfInBounds (i*sz+o) v) (l.set i x) c:=by
 have h1:=Av.set (j:=i*sz+o) (v:=v) h
 have e:K.r (l.set i x)=(K.r l).set (i*sz+o) v:=fm_set K.len l i o x v hi ho (fun y hy=>by
  rw [hx]
  have:l.getD i default=y:=by rw [List.getD_eq_getElem?_getD,hy];rfl
  rw [this])
 unfold RowK.A
 rw [List.length_set,e];exact h1
omit [Inhabited α] in
theorem row_lt (h:K.A C l c) (hi:i<l.length) (ho:o<sz):i*sz+o<C.size:=h.fit (k:=o+1) hi ho
theorem row_ld {P:Program} {e:TypeId} {w:World} {g:Nat} {T:TypeId} {fr:Nat × Nat} (ha:∀ w,(isAgg e).run P w=.ok true w) (hs:∀ w,(sizeOf e).run P w=.ok sz w) (hb:w.heap[g]? = some (.cells C T fr)) (h:K.A C l c) (hi:i<l.length) :
 (do pure (Next.value (← Instr.loadAt e (.pointer (some ⟨g,i*sz,none⟩)))):Sem Next).run P w=.ok (.value (.agg (K.f (l.getD i default)).toArray)) w :=
 ld_blkA (vs:=K.f (l.getD i default)) ha hs (Kb.of_block hb) (K.len _) (fun j hj=>by
  rw [row_get h hi hj (List.getElem?_eq_getElem (by rw [K.len];exact hj)),List.getElem?_eq_getElem (by rw [K.len];exact hj)])
theorem drop_gD {l m:List α} (h:l.drop i=m.drop i):l.getD i default=m.getD i default:=by
 have e:∀ x:List α,x[i]? = (x.drop i)[0]? := fun x=>by rw [List.getElem?_drop];rfl
 rw [List.getD_eq_getElem?_getD,List.getD_eq_getElem?_getD,e l,e m,h]
theorem set_gD {l:List α} {x:α} (hi:i<l.length):(l.set i x).getD i default=x:=by
 rw [List.getD_eq_getElem?_getD,List.getElem?_set_self (by simpa using hi)];rfl
omit [Inhabited α] in
theorem row_re {x y:α} (h:K.A C (l.set i x) c) (hx:K.f y=K.f x):K.A C (l.set i y) c:=by
 have e:K.r (l.set i y)=K.r (l.set i x):=by
  unfold RowK.r
  rw [List.flatMap_def,List.flatMap_def,List.map_set,List.map_set,hx]
 unfold RowK.A at h ⊢
 rw [List.length_set] at h ⊢
 rw [e];exact h
end
theorem kT_f (t:bW):kT.f t=t.row.toList:=by simp only [kT]
structure Cp0 {α:Type} (er:α→α) (ts M:List α) (i:Nat):Prop where
 len:M.length=ts.length
 er:M.map er=ts.map er
 dr:M.drop i=ts.drop i
 le:i≤ts.length
section
variable {α:Type} {er:α→α} {ts M:List α} {i:Nat}
theorem Cp0.start:Cp0 er ts ts 0:=⟨rfl,rfl,rfl,Nat.zero_le _⟩
theorem Cp0.next [Inhabited α] {x:α} (h:Cp0 er ts M i) (hi:i<ts.length) (hx:er x=er (ts.getD i default)):Cp0 er ts (M.set i x) (i+1):=by
 refine ⟨by rw [List.length_set];exact h.len,?_,?_,hi⟩
 ·rw [List.map_set, h.er, hx, ← List.map_set]
  congr 1
  have:ts.getD i default=ts[i]:=by rw [List.getD_eq_getElem?_getD,List.getElem?_eq_getElem hi];rfl
  rw [this];exact List.set_getElem_self hi
 ·rw [List.drop_set_of_lt om]
  have:=congrArg (List.drop 1) h.dr
  rwa [List.drop_drop,List.drop_drop] at this
theorem Cp0.lt (h:Cp0 er ts M i) (hi:i<ts.length):i<M.length:=by rw [h.len];exact hi
theorem take_setT {x:α} (hi:i<M.length):(M.set i x).take (i+1)=M.take i++[x]:=by
 rw [List.take_add_one,List.take_set_of_le (Nat.le_refl i),List.getElem?_set_self hi];rfl
theorem Cp0.done (h:Cp0 er ts M i) (hi:ts.length≤i):M.take i=M:=List.take_of_length_le (by rw [h.len];exact hi)
end
def TCp (ts M:List bW) (i:Nat):Prop:=Cp0 bW.er ts M i
def KCp (ks N:List dO) (j:Nat):Prop:=Cp0 dO.er ks N j
section
variable {ts M:List bW} {i:Nat}
theorem TCp.gT (h:TCp ts M i):gT M i=Go.Proofs.YtahoheofpggopaaGreatDoor.gT ts i:=drop_gD h.dr
theorem wk_er {t:bW} {ks:List dO} {a:OA} {c:Nat} (h:ks.map dO.er=t.ks.map dO.er):(t.wk ks a c).er=t.er:=by
 unfold bW.er bW.wk;rw [h]
theorem TCp.next (h:TCp ts M i) (hi:i<ts.length) {ks:List dO} {a:OA} {c:Nat} (hk:ks.map dO.er=(Go.Proofs.YtahoheofpggopaaGreatDoor.gT ts i).ks.map dO.er):TCp ts (M.set i ((Go.Proofs.YtahoheofpggopaaGreatDoor.gT ts i).wk ks a c)) (i+1):=Cp0.next h hi (wk_er hk)
theorem TkN.next {w0 w:World} {x:bW} (h:TkN w0 w (M.take i)) (hi:i<M.length) (hx:KpN w0 w x.ka x.kc x.ks):TkN w0 w ((M.set i x).take (i+1)):=by
 rw [take_setT hi]
 intro t ht
 rcases List.mem_append.1 ht with h1 | h1
 ·exact h t h1
 ·rw [List.mem_singleton.1 h1];exact hx
theorem ok_er (h:M.map bW.er=ts.map bW.er) (ho:mP ts):∀ t∈M,t.Ok:=fun t ht=>by
 have h1:t.er∈ts.map bW.er:=h ▸ List.mem_map_of_mem ht
 obtain ⟨u,hu,he⟩:=List.mem_map.1 h1
 have hk:=(ho u hu).1
 unfold bW.er at he
 simp only [bW.mk.injEq] at he
 exact ⟨he.1 ▸ hk.kd,he.2.1 ▸ hk.m,he.2.2.1 ▸ hk.nu,he.2.2.2.1 ▸ hk.h⟩
end
section
variable {ks N:List dO} {j:Nat}
theorem KCp.gK (h:KCp ks N j):gK N j=Go.Proofs.YtahoheofpggopaaGreatDoor.gK ks j:=drop_gD h.dr
theorem KCp.next (h:KCp ks N j) (hj:j<ks.length) {a:OA} {c:Nat}:KCp ks (N.set j ((Go.Proofs.YtahoheofpggopaaGreatDoor.gK ks j).wp a c)) (j+1):=Cp0.next h hj rfl
theorem KjF.next {w0 w:World} {a:OA} {c:Nat} {p:dO} (h:KjF w0 w (N.take j)) (hj:j<N.length) (hp:Fi w0 w .u32 a c (nI p.ps)):KjF w0 w ((N.set j (p.wp a c)).take (j+1)):=by
 rw [take_setT hj]
 intro t ht
 rcases List.mem_append.1 ht with h1 | h1
 ·exact h t h1
 ·rw [List.mem_singleton.1 h1];exact hp
theorem okK_er (h:N.map dO.er=ks.map dO.er) (ho:∀ p∈ks,p.Ok):∀ p∈N,p.Ok:=fun p hp=>by
 have h1:p.er∈ks.map dO.er:=h ▸ List.mem_map_of_mem hp
 obtain ⟨q,hq,he⟩:=List.mem_map.1 h1
 have hk:=ho q hq
 unfold dO.er at he
 simp only [dO.mk.injEq] at he
 exact ⟨he.1 ▸ hk.k,he.1 ▸ hk.d,he.2.1 ▸ hk.ps⟩
end
section
variable {C:Array Value} {M ts:List bW} {κ i:Nat}
theorem row_35 (t:bW):(kT.f t)[35]? = some (.slice t.ka t.ks.length t.kc):=by
 rw [kT_f];simp [bW.row,iC,yV]
theorem wk_f (t:bW) {ks:List dO} {a:OA} {c n:Nat} (hn:n=ks.length):kT.f (t.wk ks a c)=(kT.f t).set 35 (.slice a n c):=by
 subst hn
 have e:∀ x:Value,(iC t.kd t.m ((t.nu:Nat):Int) t.h x).toList=(#[Value.int .i64 t.kd,.int .i64 t.m,.int .u32 ((t.nu:Nat):Int)]++hB t.h).toList++[x]:=fun x=>by simp [iC]
 have hl:(#[Value.int .i64 t.kd,.int .i64 t.m,.int .u32 ((t.nu:Nat):Int)]++hB t.h).toList.length=35:=by simp [yV]
 rw [kT_f,kT_f]
 show (iC t.kd t.m ((t.nu:Nat):Int) t.h _).toList=(iC t.kd t.m ((t.nu:Nat):Int) t.h _).toList.set 35 _
 rw [e,e,List.set_append_right _ _ om,hl];rfl
theorem kT_g (hC:TCp ts M i) (hi:i<ts.length) (h:kT.A C M κ):C[i*36+35]? = some (.slice (gT ts i).ka (gT ts i).ks.length (gT ts i).kc):=by
 rw [← hC.gT]
 exact row_get h (hC.lt hi) (by decide) (row_35 _)
theorem kT_s (hC:TCp ts M i) (hi:i<ts.length) (ks:List dO) (a:OA) (c:Nat) {n:Nat} (hn:n=ks.length) (h:kT.A C M κ):kT.A (C.setIfInBounds (i*36+35) (.slice a n c)) (M.set i ((gT ts i).wk ks a c)) κ:=by
 rw [← hC.gT]
 exact row_put h (hC.lt hi) (by decide) (wk_f _ hn)
theorem kT_l (hC:TCp ts M i) (hi:i<ts.length) (h:kT.A C M κ):i*36+35<C.size:=row_lt h (hC.lt hi) (by decide)
theorem kT_gs (hC:TCp ts M i) (hi:i<ts.length) {t:bW} {ks:List dO} {a:OA} {c:Nat} (h:kT.A C (M.set i (t.wk ks a c)) κ):C[i*36+35]? = some (.slice a ks.length c) :=
 row_get h (by rw [List.length_set];exact hC.lt hi) (by decide) (by rw [set_gD (hC.lt hi)];exact row_35 _)
theorem kT_re {t:bW} {ks ks':List dO} {a:OA} {c:Nat} (hl:ks'.length=ks.length) (h:kT.A C (M.set i (t.wk ks a c)) κ):kT.A C (M.set i (t.wk ks' a c)) κ :=
 row_re h ((wk_f t hl.symm).trans (wk_f t rfl).symm)
end
section
variable {C:Array Value} {N ks:List dO} {κ j:Nat}
theorem wp_f (p:dO) {a:OA} {c n:Nat} (hn:n=(nI p.ps).length):kK.f (p.wp a c)=(kK.f p).set 43 (.slice a n c):=by
 subst hn
 have e:∀ x:Value,(kM p.k.s p.k.p p.k.c p.k.d ((p.k.i:Nat):Int) ((p.k.n:Nat):Int) x (.bool p.wd)).toList=(cU p.k.s++cU p.k.p++hB p.k.c++ #[Value.int .i64 p.k.d,.int .u32 ((p.k.i:Nat):Int),.int .u32 ((p.k.n:Nat):Int)]).toList++[x,.bool p.wd]:=fun x=>by simp [kM]
 have hl:(cU p.k.s++cU p.k.p++hB p.k.c++ #[Value.int .i64 p.k.d,.int .u32 ((p.k.i:Nat):Int),.int .u32 ((p.k.n:Nat):Int)]).toList.length=43:=by simp [cU,yV]
 rw [kK_f,kK_f]
 show (kM p.k.s p.k.p p.k.c p.k.d ((p.k.i:Nat):Int) ((p.k.n:Nat):Int) _ (.bool p.wd)).toList=(kM p.k.s p.k.p p.k.c p.k.d ((p.k.i:Nat):Int) ((p.k.n:Nat):Int) _ (.bool p.wd)).toList.set 43 _
 rw [e,e,List.set_append_right _ _ om,hl];rfl
theorem kK_ld {P:Program} {e:TypeId} {w:World} {g:Nat} {T:TypeId} {fr:Nat × Nat} (hC:KCp ks N j) (hj:j<ks.length) (ha:∀ w,(isAgg e).run P w=.ok true w) (hs:∀ w,(sizeOf e).run P w=.ok 45 w) (hb:w.heap[g]? = some (.cells C T fr)) (h:kK.A C N κ) :
 (do pure (Next.value (← Instr.loadAt e (.pointer (some ⟨g,j*45,none⟩)))):Sem Next).run P w=.ok (.value (.agg (gK ks j).row)) w:=by
 have h1:=row_ld ha hs hb h (hC.lt hj)
 have h2:N.getD j default=gK ks j:=hC.gK
 rw [h2,kK_f,Array.toArray_toList] at h1
 exact h1
theorem kK_s (hC:KCp ks N j) (hj:j<ks.length) (a:OA) (c:Nat) {n:Nat} (hn:n=(nI (gK ks j).ps).length) (h:kK.A C N κ):kK.A (C.setIfInBounds (j*45+43) (.slice a n c)) (N.set j ((gK ks j).wp a c)) κ:=by
 rw [← hC.gK] at hn ⊢
 exact row_put h (hC.lt hj) (by decide) (wp_f _ hn)
theorem kK_l (hC:KCp ks N j) (hj:j<ks.length) (h:kK.A C N κ):j*45+43<C.size:=row_lt h (hC.lt hj) (by decide)
end
theorem termsN {w0 w:World} {q κ:Nat} {C:Array Value} {e:TypeId} {fr:Nat × Nat} {M ts:List bW} {T:Nat→Prop} (hT:∀ b,T b→b<w0.heap.size) (hg:w0.heap.size≤q∧w.heap[q]? = some (.cells C e fr)) (hA:kT.A C M κ) (hF:TkN w0 w M) (hm:M.length≤1000000) (he:M.map bW.er=ts.map bW.er) (ho:mP ts):dL T (fun w=>bM w (some ⟨q,0,none⟩) κ M∧M.map bW.er=ts.map bW.er) w:=by
 have hrow:Rs w (some ⟨q,0,none⟩) (pV M):=by rw [← kT_r];exact Rs.of_av hg.2 hA
 exact (bM.mkP hA.le hm (hrow.pers ((mX.some hg.1).ap hT)) (fun t ht=>(hF t ht).pers hT) (ok_er he ho)).mono (fun _ h=>⟨h,he⟩)
def NwT (n:Nat) (a:OA) (us:List bW):Prop:=mX n a∧∀ t∈us,mX n t.ka∧∀ p∈t.ks,∀ q,p.pa=some q→0<(nI p.ps).length→n≤q.block
theorem NwT.le {n m:Nat} {a:OA} {us:List bW} (h:NwT n a us) (hm:m≤n):NwT m a us :=
 ⟨fun p hp=>Nat.le_trans hm (h.1 p hp),fun t ht=>⟨fun p hp=>Nat.le_trans hm ((h.2 t ht).1 p hp),fun p hp q hq h0=>Nat.le_trans hm ((h.2 t ht).2 p hp q hq h0)⟩⟩
theorem TkN.nw {w0 w:World} {q:Nat} {us:List bW} (h:TkN w0 w us) (hq:w0.heap.size≤q):NwT w0.heap.size (some ⟨q,0,none⟩) us :=
 ⟨mX.some hq,fun t ht=>⟨(h t ht).n,fun p hp=>((h t ht).p p hp).2⟩⟩
theorem bM.newT {w:World} {n c:Nat} {a:OA} {us:List bW} {T:Nat→Prop} (h:bM w a c us) (hn:NwT n a us) (hT:∀ b,T b→b<n):dL T (fun w=>bM w a c us) w :=
 bM.mkP h.le h.max (h.rows.pers (hn.1.ap hT)) (fun t ht=>oG.mkP (h.sub t ht).le (h.sub t ht).max ((h.sub t ht).rows.pers ((hn.2 t ht).1.ap hT)) (fun p hp=>((h.sub t ht).sub p hp).pers (fun q hq h0 hb=>by
  have h1:=(hn.2 t ht).2 p hp q hq h0
  have h2:=hT _ hb
  omega)) (h.sub t ht).ok) h.ok
theorem termsG {w:World} {n g c c0:Nat} {C:Array Value} {e:TypeId} {fr:Nat × Nat} {a0:OA} {ts:List bW} {T:Nat→Prop} (hT:∀ b,T b→b<n) (hg:n≤g∧w.heap[g]? = some (.cells C e fr)) (hA:kT.A C ts c) (hP:dL T (fun w=>bM w a0 c0 ts) w):dL T (fun w=>bM w (some ⟨g,0,none⟩) c ts) w:=by
 have f0:=hP.now
 have hrow:Rs w (some ⟨g,0,none⟩) (pV ts):=by rw [← kT_r];exact Rs.of_av hg.2 hA
 exact bM.mkP hA.le f0.max (hrow.pers ((mX.some hg.1).ap hT)) (fun t ht=>hP.mono (fun _ h=>h.sub t ht)) f0.ok
section
variable {P:Program} {ops:Array Oper} {D:List Nat} {l:List (Nat × Value)} {w0:Base} {h:List (Nat × Obj)} {F0:World→Prop}
variable {vals:(Nat→bH)→Nat→Value} {effs:(Nat→bH)→Nat→Eff} {fact:(Nat→bH)→Nat→World→Prop}
theorem qTe {i:Nat} {f:FuncId} {args:(Nat→bH)→Array Value} {ts:(Nat→bH)→List bW}
 (hf:∀ ρ T w,Given ops D w0 h F0 effs fact i ρ T w→Calls P f (args ρ) w (fun e w'=>Below w.heap.size w w'∧∃ r:bH,e=.returned (.slice r.a (r.t).length (r.n.headD 0))∧NwT w.heap.size r.a r.t∧dL T (fun w=>bM w r.a (r.n.headD 0) r.t∧r.t.map bW.er=(ts ρ).map bW.er) w'))
 (hc:∀ ρ z,eU P ops D l (vals ρ) i z=some (.enter f (args ρ),[],[]):=by intros;kernel_rfl)
 (hv:∀ ρ r,vals (upd ρ i r) i=.slice r.a (r.t).length (r.n.headD 0):=by intros;kernel_rfl) (he:∀ ρ r,effs (upd ρ i r) i={}:=by intros;kernel_rfl)
 (ht:∀ ρ r,fact (upd ρ i r) i=(fun w=>bM w r.a (r.n.headD 0) r.t∧r.t.map bW.er=(ts ρ).map bW.er∧NwT w0.w.heap.size r.a r.t):=by intros;kernel_rfl):jV P ops D l w0 h F0 vals effs fact i :=
 qO (v:=fun _ r=>.slice r.a (r.t).length (r.n.headD 0)) (Φ:=fun ρ r w=>bM w r.a (r.n.headD 0) r.t∧r.t.map bW.er=(ts ρ).map bW.er∧NwT w0.w.heap.size r.a r.t)
  (fun ρ T w hG=>(hf ρ T w hG).mono (fun _ _ ⟨h1,r,h2,h3,h4⟩=>⟨h1,r,h2,h4.mono (fun _ h=>⟨h.1,h.2,h3.le hG.below.size⟩)⟩)) hc hv he ht
end
section
variable {X Y:List bW} (he:X.map bW.er=Y.map bW.er)
include he
theorem er_len:X.length=Y.length:=by simpa using congrArg List.length he
theorem er_get (i:Nat):(gT X i).er=(gT Y i).er:=by
 have g:∀ m:List bW,(gT m i).er=(m.map bW.er).getD i (default:bW).er:=fun m=>by
  unfold gT
  rw [List.getD_eq_getElem?_getD,List.getD_eq_getElem?_getD,List.getElem?_map]
  cases m[i]? <;> rfl
 rw [g,g,he]
theorem er_f (i:Nat):(gT X i).kd=(gT Y i).kd∧(gT X i).m=(gT Y i).m∧(gT X i).nu=(gT Y i).nu∧(gT X i).h=(gT Y i).h∧(gT X i).ks.map dO.er=(gT Y i).ks.map dO.er:=by
 have h:=er_get he i
 unfold bW.er at h
 simp only [bW.mk.injEq] at h
 exact ⟨h.1,h.2.1,h.2.2.1,h.2.2.2.1,h.2.2.2.2.1⟩
theorem er_kl (i:Nat):(gT X i).ks.length=(gT Y i).ks.length:=by simpa using congrArg List.length (er_f he i).2.2.2.2
theorem er_k (i j:Nat):(gK (gT X i).ks j).k=(gK (gT Y i).ks j).k∧(gK (gT X i).ks j).ps=(gK (gT Y i).ks j).ps∧(gK (gT X i).ks j).wd=(gK (gT Y i).ks j).wd:=by
 have hk:=(er_f he i).2.2.2.2
 have g:∀ m:List dO,(gK m j).er=(m.map dO.er).getD j (default:dO).er:=fun m=>by
  unfold gK
  rw [List.getD_eq_getElem?_getD,List.getD_eq_getElem?_getD,List.getElem?_map]
  cases m[j]? <;> rfl
 have h:(gK (gT X i).ks j).er=(gK (gT Y i).ks j).er:=by rw [g,g,hk]
 unfold dO.er at h
 simp only [dO.mk.injEq] at h
 exact ⟨h.1,h.2.1,h.2.2.1⟩
theorem er_rg:rgB X=rgB Y:=by
 have g:∀ ts:List bW,rgB (ts.map bW.er)=rgB ts:=fun ts=>by
  rw [rg_aK,rg_aK,map_aK (G:=bW.er) (g:=dO.er) (fun _=>rfl),List.any_map];rfl
 rw [← g X,he,g Y]
end
theorem src_n {P:Program} {w:World} {tx e':TypeId} (hk:P.underlying tx=some (.slice e')):Src P 1 tx (.slice none 0 0) ([]:List bU).length (kW.r []) w:=Src.ofNil w hk 0
def nwG (ts:List bW) (g:Nat):Nat:=if rgB ts=true then g else 1
theorem nwG_t {ts:List bW} {g:Nat} (h:rgB ts=true):nwG ts g=g:=if_pos h
theorem nwG_f {ts:List bW} {g:Nat} (h:rgB ts=false):nwG ts g=1:=if_neg (by rw [h];decide)
def exF (ts:List bW) (i:Nat):Int:=pX ts ((i:Nat):Int)
def gpB (z:Int):Int:=([0,-1,21]:List Int).getD (dm z 3) 0
theorem gpB_get (z:Int):(#[.int .i64 0,.int .i64 (-1),.int .i64 21]:Array Value)[dm z 3]? = some (.int .i64 (gpB z)):=by
 have h:=iG z (n:=3) (by decide)
 unfold gpB
 generalize dm z 3=n at h
 have:n=0∨n=1∨n=2:=by omega
 rcases this with rfl | rfl | rfl<;>rfl
def nwE (ts:List bW) (z:Int):Int:=if xW ts=true then (if z<1∨20<z then 5 else qL (exF ts) (nwG ts z.toNat)) else 260
theorem nwE_ok {ts:List bW} {z:Int} (h:nwE ts z=0):xW ts=true∧(1≤z∧z≤20)∧qL (exF ts) (nwG ts z.toNat)=0:=by
 unfold nwE at h
 split at h
 ·rename_i hv
  split at h
  ·exact absurd h (by decide)
  ·exact ⟨hv,by omega,h⟩
 ·exact absurd h (by decide)
theorem nwE_er {ts:List bW} {z:Int} (_:nwE ts z≠0):(xW ts=false∧nwE ts z=260)∨(xW ts=true∧(z<1∨20<z)∧nwE ts z=5)∨(xW ts=true∧(1≤z∧z≤20)∧nwE ts z=qL (exF ts) (nwG ts z.toNat)):=by
 unfold nwE
 cases hv:xW ts with
 | false=>exact Or.inl ⟨rfl,rfl⟩
 | true =>
   rw [if_pos rfl]
   by_cases hz:z<1∨20<z
   ·exact Or.inr (Or.inl ⟨rfl,hz,if_pos hz⟩)
   ·exact Or.inr (Or.inr ⟨rfl,by omega,if_neg hz⟩)
theorem frE_at {E:Nat→Int} {i n:Nat} (ho:y8 E i) (hi:i<n) (he:E i≠0):qL E n=E i:=by
 have h0:qL E n≠0:=fun h=>he (xAH.1 h i hi)
 obtain ⟨j,_,j2,j3,j4⟩:=frE_er h0
 have h1:=frE_le ho j4
 have h2:=frE_le j2 he
 have:i=j:=by omega
 rw [← j3,this]
theorem y8.next {E:Nat→Int} {n:Nat} (h:y8 E n) (he:E n=0):y8 E (n+1):=fun i hi=>by
 rcases Nat.lt_or_ge i n with h1 | h1
 ·exact h i h1
 ·have : i = n := by omega
  rw [this];exact he
def gpC (z:Int) (i:Nat):Int:=([((1+dm z 2:Nat):Int),gpB z]:List Int).getD i 0
theorem gpC_get (z:Int) {i:Nat} (h:i<2):(#[.int .i64 ((1+dm z 2:Nat):Int),.int .i64 (gpB z)]:Array Value)[i]? = some (.int .i64 (gpC z i)):=by
 have:i=0∨i=1:=by omega
 rcases this with rfl | rfl<;>rfl
theorem eql_nil32 (a:OA) (n c:Nat) (w:World):(binOp .eql 67 (.slice a n c) (.slice none 0 0)).run prog w=.ok (.bool a.isNone) w:=by cases a<;>kernel_rfl
theorem pad_any (n:Nat) (hn:n≤140737488351232) (w0:World):Calls prog 198 #[vx n] w0 (fun ε w'=>∃ α κ,ε=.returned (.slice α (aY n).length κ)∧jG w0 w'∧Fs w0 w' α κ (aY n)):=by
 refine Calls.cW 33 (fun _=>True) func198 rfl rfl rfl jT (jJ f198 1 [0,2] [vz] (sS f198 6 [0,2,3] [] (fun _=>[vx n,vx (n+9),vx ((n+9)%64),vx (64-((n+9)%64)),vx (zeros n),vx (zeros n)]) (fun _=>[]) (jY 1<|cA (v:=fun ρ=>(.int .u64 (IntKind.u64.wrap (((n:Nat):Int)+9)))) (fun _=>(vx (n+9))) (fun _=>congrArg (Value.int .u64) (vW n 9 (oA (aS n))))<|cB (a:=fun ρ=>(vx (n+9))) (b:=fun ρ=>(.int .u64 64)) (v:=fun ρ=>(vx ((n+9)%64))) .rem 62 (fun _ w=>zT (k:=.u64) (n:=(n+9)) (d:=64) (by decide) w)<|cA (v:=fun ρ=>(.int .u64 (IntKind.u64.wrap (64-(((n+9)%64:Nat):Int))))) (fun _=>(vx (64-((n+9)%64)))) (fun _=>congrArg (Value.int .u64) (u64_subN 64 ((n+9)%64) (oA (aS n)) (oA (aS n))))<|cB (a:=fun ρ=>(vx (64-((n+9)%64)))) (b:=fun ρ=>(.int .u64 64)) (v:=fun ρ=>(vx (zeros n))) .rem 62 (fun _ w=>zT (k:=.u64) (n:=64-(n+9)%64) (d:=64) (by decide) w)<|jX 1) (fun _=>sS f198 6 [0,2,4] [] (fun ρ=>let qa:=vs (nb ρ 4) (List.replicate (zeros n+1) (0:UInt8)).length (9+(zeros n));[vx (zeros n),vx (zeros n+1),vx (zeros n),vx (9+(zeros n)),qa,qa]) (fun ρ=>[(4,(nw ρ 4 (cL (zB (9+(zeros n))) 5)))]) (jY 1<|cA (v:=fun ρ=>(.int .u64 (IntKind.u64.wrap (1+((zeros n:Nat):Int))))) (fun _=>(vx (zeros n+1))) (fun _=>congrArg (Value.int .u64) ((vW 1 (zeros n) (oA (aS n))).trans om))<|jY 1<|cA (v:=fun ρ=>(.int .u64 (IntKind.u64.wrap (9+((zeros n:Nat):Int))))) (fun _=>(vx (9+(zeros n)))) (fun _=>congrArg (Value.int .u64) (vW 9 (zeros n) (oA (aS n))))<|cX (uB _ (fun _=>do pure (Next.value (← Instr.makeSlice 37 (vx (zeros n+1)) (vx (9+(zeros n)))))) (fun _ ζ=>(vs (ζ.headD 0) (List.replicate (zeros n+1) (0:UInt8)).length (9+(zeros n)))) (fun _ _=>(cL (zB (9+(zeros n))) 5)) (fun _ _=>(by kernel_rfl)) (fun _=>(by kernel_rfl)) (fun _ _=>trivial) (fun _ _ w _=>mM underlying37 nH (List.replicate (zeros n+1) (0:UInt8)) ((rfl).trans (by rw [List.length_replicate])) (rfl) (by have:=hn;have:=aS n;rw [List.length_replicate];omega) (oA (aS n)) w))<|jX 1) (fun ρ3=>sS f198 3 [0,2,4] [] (fun _=>[vs (nb ρ3 4) (List.replicate (zeros n+1) (0:UInt8)).length (9+(zeros n)),jp (nb ρ3 4) 0,undef]) (fun _=>[(2,(bD 0 (nb ρ3 4) (cL ((zB (9+zeros n)).setIfInBounds 0 (.int .u8 128)) 5)))]) (jY 1<|cX (qS (fun _ w=>uI (g:=nb ρ3 4) (c:=9+(zeros n)) (k:=.i64) underlying37 nH (show 0=((0:Nat):Int) from rfl) (show 0<(List.replicate (zeros n+1) (0:UInt8)).length from (by have:=hn;have:=aS n;rw [List.length_replicate];omega)) w))<|cX (qG _ 0 5 (fun _=>nb ρ3 4) (fun _=>0) (fun _=>(zB (9+(zeros n)))) (fun _=>((zB (9+zeros n)).setIfInBounds 0 (.int .u8 128))) 5 (fun _=>(.int .u8 128)) (fun _=>by kernel_rfl) sizeOf5 (fun _=>rfl) (fun _=>(by rw [oD];omega)) (fun _=>rfl))<|cN) (fun _=>aB (jJ f198 1 [0,2,4,18] [vi 0] (aI ?_)))))))
 refine oL (σ:=Nat × (LU) × (Array Value)) (fun ⟨i,X,_⟩=>[(0,(vx n)),(2,vz),(4,(vs (nb ρ3 4) X.length (9+zeros n))),(18,(vn i))]) (fun ⟨_,_,C⟩=>[(nb ρ3 4,(cL C 5))]) (fun ⟨i,_,_⟩=>8-i)
  (fun ⟨i,X,C⟩=>(i≤8)∧(X=128::(List.replicate (zeros n) 0++be8 (8*n) i))∧(Hd C X)∧(C.size=9+zeros n)) (0,128::List.replicate (zeros n) (0:UInt8),(zB (9+zeros n)).setIfInBounds 0 (.int .u8 128)) (⟨by decide,by simp [be8],pad_hd0 n,by rw [Array.size_setIfInBounds,oD]⟩) [] ?_
 rintro ⟨i,X,C⟩ ⟨hi,hX,hC,hs⟩
 refine jJ f198 1 [0,2,4,18,19] [.bool (decide (((i:Nat):Int)<8))] (aB (oC (decide (((i:Nat):Int)<8)) (fun hb1=>?_) (fun hb1=>?_)))
 ·rw [hb1]
  have:=yT hb1
  refine aG (aA (aB (aI (jJ f198 2 [0,2,4,5,18] [vn i,vn i] (rS f198 11 [0,2,4,18] [1,0] (fun ρ=>let qa:=([ob ((8*n / 2^(56-8*i)%256:Nat):Int)]:LU);let qb:=vs (nb ρ3 4) (X++qa).length (9+zeros n);[vs (nb ρ3 4) X.length (9+zeros n),vx n,vx (8*n),vn i,vn (8*i),vn (56-8*i),vx (8*n / 2^(56-8*i)),vy (8*n / 2^(56-8*i)%256),vs (nb ρ 8) qa.length 1,qb,qb]) (fun ρ=>[(8,(nw ρ 8 (cL #[vy (8*n / 2^(56-8*i)%256)] 5))),(9,(bD 0 (nb ρ3 4) (cL (inpl C X.length (bs ([ob ((8*n / 2^(56-8*i)%256:Nat):Int)]:LU))) 5)))]) (jY 2<|cA (v:=fun ρ=>(.int .u64 (IntKind.u64.wrap (8*((n:Nat):Int))))) (fun _=>(vx (8*n))) (fun _=>congrArg (Value.int .u64) (u64_mulN 8 n (oB (aS n) (dZ hX))))<|jY 1<|jW (fun ρ=>(8*((i:Nat):Int))) (fun _=>(8*i)) (fun _=>(fQ 8 i (oB (aS n) (dZ hX))))<|jW (fun ρ=>(56-((8*i:Nat):Int))) (fun _=>(56-8*i)) (fun _=>((gZ (oB (aS n) (dZ hX))).trans (oB (aS n) (dZ hX))))<|cB (a:=fun ρ=>(vx (8*n))) (b:=fun ρ=>(vn (56-8*i))) (v:=fun ρ=>(vx (8*n / 2^(56-8*i)))) .shr 62 (fun _ w=>gG (k:=.u64) (x:=8*n) (c:=56-8*i) (by have:=hn;have:=aS n;have:=hi;have:=dZ hX;show 8*n<18446744073709551616;omega) w)<|cA (fun _=>(vy (8*n / 2^(56-8*i)%256))) (fun _=>congrArg (Value.int .u8) (u8M (8*n / 2^(56-8*i))))<|jY 1<|cX (o9 _ 0 (fun ρ=>do pure (Next.value (← Builtin.append_ #[37,37] 37 #[vs (nb ρ3 4) X.length (9+zeros n),vs (nb ρ 8) ([ob ((8*n / 2^(56-8*i)%256:Nat):Int)]:LU).length 1]))) (fun _=>nb ρ3 4) (fun _=>(cL C 5)) (fun _=>(cL (inpl C X.length (bs ([ob ((8*n / 2^(56-8*i)%256:Nat):Int)]:LU))) 5)) (fun _=>(vs (nb ρ3 4) (X++([ob ((8*n / 2^(56-8*i)%256:Nat):Int)]:LU)).length (9+zeros n))) (fun _=>(by kernel_rfl)) (fun _=>(by kernel_rfl)) (fun _=>(by kernel_rfl)) (fun _=>(by kernel_rfl)) (fun _ _=>trivial) (fun ρ _ _ hG hg=>kD underlying37 nH hg (Bs.src (tx:=37) underlying37 (Bs.of_hd (hG.kn (g:=nb ρ 8) (o:=(cL #[vy (8*n / 2^(56-8*i)%256)] 5)) 65) (hd1 om) (Nat.le_refl 1) (Nat.le_of_ble_eq_true rfl))) hs (by have:=hn;have:=aS n;have:=hi;have:=dZ hX;simp only [List.length_cons,List.length_nil];omega)))<|jX 1) (fun _=>aJ (aA (rS f198 2 [0,2,4,18] [] (fun _=>[vn (i+1),vn (i+1)]) (fun _=>[]) (jW (fun ρ=>(((i:Nat):Int)+1)) (fun _=>(i+1)) (fun _=>(aW i 1 (oB (aS n) (dZ hX))))<|jX 1) (fun _=>?_)))))))))
  exact mN (i+1,X++([ob ((8*n / 2^(56-8*i)%256:Nat):Int)]:LU),inpl C X.length (bs ([ob ((8*n / 2^(56-8*i)%256:Nat):Int)]:LU))) (by show 8-(i+1)<8-i;have:=aS n;have:=dZ hX;omega) (⟨(oB (aS n) (dZ hX)),pad_next hX,Hd.inpl hC rfl,(lG _ _ _ (room_le hs (by have:=hn;have:=aS n;have:=hi;have:=dZ hX;simp only [List.length_cons,List.length_nil];omega))).trans hs⟩) []
 rw [hb1]
 refine bF (aN (aN (aT (aA (jJ f198 2 [2] (let qa:=vs (nb ρ3 4) X.length (9+zeros n);[qa,qa]) (aF (mD [(2,(vs (nb ρ3 4) X.length (9+zeros n)))] [(nb ρ3 4,(cL C 5))] ?_)))))))
 exact mR (v:=(vs (nb ρ3 4) X.length (9+zeros n))) (fun _ hS=>⟨some ⟨nb ρ3 4,0,none⟩,9+zeros n,congrArg Ending.returned (by rw [(pad_end hX (by have:=yF hb1;have:=aS n;have:=dZ hX;omega))]),hS.bel,dU (pad_end hX (by have:=yF hb1;have:=aS n;have:=dZ hX;omega)) (hS.fresh (.head _) hC (oB (aS n) (dZ hX)) (oB (aS n) (dZ hX)))⟩)
theorem shrow_any (g:Nat) (n:Nat) (pa:Nat→OA) (pc:Nat→Nat) (pB:Nat→LU) (hn:n≤16) (hl:(mZ pB n).length≤140737488351232) (h0:0<(pB 0).length) (w0:World) (hf0:Kb w0 g (xO n pa pc pB)) (hf1:rO w0 n pa pc pB):Calls prog 179 #[vs g n n] w0 (fun ε w'=>∃ α κ,ε=.returned (.slice α (mZ pB n).length κ)∧jG w0 w'∧Fs w0 w' α κ (mZ pB n)):=by
 refine Calls.cW 17 (fun w=>Kb w g (xO n pa pc pB)∧rO w n pa pc pB∧True) func179 rfl rfl rfl (hf0.pers0.and (hf1.pers0.and cO)) (jJ f179 1 [0,2] [vz] (jJ f179 1 [0,2,3] [vz] (aB (jJ f179 3 [2,3,6,7,8] [vs g n n,vn n,vi 0] (aI ?_)))))
 refine oL (σ:=Nat ⊕ (Nat × Nat × (LU) × (Array Value) × Nat)) (fun s=>match s with | Sum.inl i=>[(2,vz),(3,vz),(6,(vs g n n)),(7,(vn n)),(8,(vn i))] | Sum.inr ⟨i,q,X,_,κ⟩=>[(2,vz),(3,(vs q X.length κ)),(6,(vs g n n)),(7,(vn n)),(8,(vn i))]) (fun s=>match s with | Sum.inl _=>[] | Sum.inr ⟨_,q,_,C,_⟩=>[(q,(cL C 5))]) (fun s=>match s with | Sum.inl i=>n-i | Sum.inr ⟨i,_,_,_,_⟩=>n-i)
  (fun s=>match s with | Sum.inl i=>(i≤n)∧(i=0) | Sum.inr ⟨i,_,X,C,κ⟩=>(i≤n)∧(X=mZ pB i)∧(Hd C X)∧(C.size=κ)∧(X.length≤κ)) (Sum.inl 0) (⟨Nat.zero_le _,rfl⟩) [] ?_
 rintro (i | ⟨i,q,X,C,κ⟩)
 ·rintro ⟨hi,h0i⟩
  refine jJ f179 1 [2,3,6,7,8,9] [.bool (decide (((i:Nat):Int)<((n:Nat):Int)))] (aB (oC (decide (((i:Nat):Int)<((n:Nat):Int))) (fun hb1=>?_) (fun hb1=>?_)))
  ·rw [hb1]
   have:=yT hb1
   refine aG (aA (aB (aI (sS f179 3 [2,3,5,6,7,8] [] (fun _=>let qa:Value:=.slice (pa i) (pB i).length (pc i);[jp g i,qa,qa]) (fun _=>[]) (cX (qS (fun _ w=>sO (g:=g) (c:=n) (k:=.i64) underlying29 sizeOf37 (show ((i:Nat):Int)=((i:Nat):Int) from rfl) (show i<n from om) w))<|cX (qF (v:=fun ρ=>(.slice (pa i) (pB i).length (pc i))) (fun _ _ _ hG=>mY (off:=i) isAgg37 hG.fn.1 (uX om)))<|jX 1) (fun _=>rS f179 4 [2,3,6,7,8] [] (fun ρ=>let qa:=vs (nb ρ 2) (pB i).length ((pB i).length+aZ ρ 2);[vz,.slice (pa i) (pB i).length (pc i),qa,qa]) (fun ρ=>[(2,(nw ρ 2 (cL ((bs (pB i)).toArray++zB (aZ ρ 2)) 5)))]) (jY 2<|cX (qN (fun _ ζ=>(vs (ζ.headD 0) (pB i).length ((pB i).length+ζ.tail.headD 0))) (fun _ ζ=>(cL ((bs (pB i)).toArray++zB (ζ.tail.headD 0)) 5)) (fun _ _ _ hG=>xBV (ty:=37) underlying37 nH (Bs.src (tx:=37) underlying37 (hG.fn.2.1 i om)) (by rw [h0i];exact h0) (by have h1:=(sH pB (show i<n by omega));omega)))<|jX 1) (fun ρ6=>aJ (aA (rS f179 2 [2,3,6,7,8] [] (fun _=>[vn (i+1),vn (i+1)]) (fun _=>[]) (jW (fun ρ=>(((i:Nat):Int)+1)) (fun _=>(i+1)) (fun _=>(aW i 1 om))<|jX 1) (fun _=>?_)))))))))
   exact mN (Sum.inr (i+1,nb ρ6 2,pB i,(bs (pB i)).toArray++zB (aZ ρ6 2),(pB i).length+aZ ρ6 2)) (by show n-(i+1)<n-i;omega) (⟨om,(by rw [h0i];rfl),Hd.fresh _ _,xAR _ _,Nat.le_add_right _ _⟩) []
  rw [hb1]
  refine bF (aN (aN (aT (aA (jJ f179 2 [2] [vz,vz] (aF (mD [(2,vz)] [] ?_)))))))
  exact mR (v:=vz) (fun _ hS=>⟨none,0,congrArg Ending.returned (by rw [← (show ([]:LU)=mZ pB n by rw [show n=0 by have:=yF hb1;omega];rfl)];rfl),hS.bel,dU (show ([]:LU)=mZ pB n by rw [show n=0 by have:=yF hb1;omega];rfl) Fs.nil⟩)
 rintro ⟨hi,hX,hC,hs,hle⟩
 refine jJ f179 1 [2,3,6,7,8,9] [.bool (decide (((i:Nat):Int)<((n:Nat):Int)))] (aB (oC (decide (((i:Nat):Int)<((n:Nat):Int))) (fun hb2=>?_) (fun hb2=>?_)))
 ·rw [hb2]
  have:=yT hb2
  refine aG (aA (aB (aI (sS f179 3 [2,3,5,6,7,8] [] (fun _=>let qa:Value:=.slice (pa i) (pB i).length (pc i);[jp g i,qa,qa]) (fun _=>[]) (cX (qS (fun _ w=>sO (g:=g) (c:=n) (k:=.i64) underlying29 sizeOf37 (show ((i:Nat):Int)=((i:Nat):Int) from rfl) (show i<n from om) w))<|cX (qF (v:=fun ρ=>(.slice (pa i) (pB i).length (pc i))) (fun _ _ _ hG=>mY (off:=i) isAgg37 hG.fn.1 (uX om)))<|jX 1) (fun _=>?_)))))
  rcases Bool.eq_false_or_eq_true (decide (X.length+(pB i).length≤κ)) with hb3 | hb3
  ·refine rS f179 4 [2,3,6,7,8] [] (fun _=>let qa:=vs q (X++(pB i)).length κ;[vs q X.length κ,.slice (pa i) (pB i).length (pc i),qa,qa]) (fun _=>[(2,(bD 0 q (cL (inpl C X.length (bs (pB i))) 5)))]) (jY 2<|cX (o9 _ 0 (fun _=>do pure (Next.value (← Builtin.append_ #[37,37] 37 #[vs q X.length κ,.slice (pa i) (pB i).length (pc i)]))) (fun _=>q) (fun _=>(cL C 5)) (fun _=>(cL (inpl C X.length (bs (pB i))) 5)) (fun _=>(vs q (X++(pB i)).length κ)) (fun _=>(by kernel_rfl)) (fun _=>(by kernel_rfl)) (fun _=>(by kernel_rfl)) (fun _=>(by kernel_rfl)) (fun _ _=>trivial) (fun _ _ _ hG hg=>kD underlying37 nH hg (Bs.src (tx:=37) underlying37 (hG.fn.2.1 i (oA (yT hb3)))) hs (yT hb3)))<|jX 1) (fun _=>aJ (aA (rS f179 2 [2,3,6,7,8] [] (fun _=>[vn (i+1),vn (i+1)]) (fun _=>[]) (jW (fun ρ=>(((i:Nat):Int)+1)) (fun _=>(i+1)) (fun _=>(aW i 1 (oA (yT hb3))))<|jX 1) (fun _=>?_))))
   exact mN (Sum.inr (i+1,q,X++(pB i),inpl C X.length (bs (pB i)),κ)) (by show n-(i+1)<n-i;have:=yT hb3;omega) (⟨(oA (yT hb3)),(by rw [hX];rfl),Hd.inpl hC rfl,(lG _ _ _ (room_le hs (yT hb3))).trans hs,oK (yT hb3)⟩) []
  refine rS f179 4 [2,3,6,7,8] [0,1] (fun ρ=>let qa:=vs (nb ρ 2) (X++(pB i)).length ((X++(pB i)).length+aZ ρ 2);[vs q X.length κ,.slice (pa i) (pB i).length (pc i),qa,qa]) (fun ρ=>[(2,(nw ρ 2 (cL (grow C X.length (bs (pB i)) (aZ ρ 2)) 5)))]) (jY 2<|cX (qN (fun _ ζ=>(vs (ζ.headD 0) (X++(pB i)).length ((X++(pB i)).length+ζ.tail.headD 0))) (fun _ ζ=>(cL (grow C X.length (bs (pB i)) (ζ.tail.headD 0)) 5)) (fun _ _ _ hG=>xG (ty:=37) underlying37 nH (hG.kn (g:=q) (o:=(cL C 5)) 0) (Bs.src (tx:=37) underlying37 (hG.fn.2.1 i (oA (yF hb3)))) hs hle (Nat.lt_of_not_le (yF hb3)) (by have h1:=(sH pB (show i<n by have:=yF hb3;omega));rw [← hX] at h1;exact Nat.le_trans h1 hl)))<|jX 1) (fun ρ13=>aJ (aA (rS f179 2 [2,3,6,7,8] [] (fun _=>[vn (i+1),vn (i+1)]) (fun _=>[]) (jW (fun ρ=>(((i:Nat):Int)+1)) (fun _=>(i+1)) (fun _=>(aW i 1 (oA (yF hb3))))<|jX 1) (fun _=>?_))))
  exact mN (Sum.inr (i+1,nb ρ13 2,X++(pB i),grow C X.length (bs (pB i)) (aZ ρ13 2),(X++(pB i)).length+aZ ρ13 2)) (by show n-(i+1)<n-i;have:=yF hb3;omega) (⟨(oA (yF hb3)),(by rw [hX];rfl),Hd.grow hC rfl,tX hC,Nat.le_add_right _ _⟩) []
 rw [hb2]
 have zh1:X=mZ pB n:=hX.trans (by rw [show i=n by have:=yF hb2;omega])
 refine bF (aN (aN (aT (aA (jJ f179 2 [2] [vs q X.length κ,vs q X.length κ] (aF (mD [(2,(vs q X.length κ))] [(q,(cL C 5))] ?_)))))))
 exact mR (v:=(vs q X.length κ)) (fun _ hS=>⟨some ⟨q,0,none⟩,κ,congrArg Ending.returned (by rw [← zh1]),hS.bel,dU zh1 (hS.fresh (.head _) hC hle (by rw [hX];exact Nat.le_trans (catB_le pB hi) hl))⟩)
theorem yA (g:Nat) (a0:OA) (c0:Nat) (B0:LU) (a1:OA) (c1:Nat) (B1:LU) (hl:B0.length+B1.length≤140737488351232) (h0:0<B0.length) (w0:World) (hf0:Kb w0 g #[.slice a0 B0.length c0,.slice a1 B1.length c1]) (hf1:Bs w0 a0 c0 B0) (hf2:Bs w0 a1 c1 B1):Calls prog 179 #[.slice (some ⟨g,0,none⟩) 2 2] w0 (fun ε w'=>∃ α κ,ε=.returned (.slice α (B0++B1).length κ)∧jG w0 w'∧Fs w0 w' α κ (B0++B1)):=shrow_any g 2 (fun k=>[a0,a1].getD k none) (fun k=>[c0,c1].getD k 0) (fun k=>[B0,B1].getD k []) (by decide) (by show (([]++B0)++B1).length≤_;simp only [List.length_append,List.length_nil];omega) h0 w0 hf0 (allB2 hf1 hf2)
theorem shrow3_any (g:Nat) (a0:OA) (c0:Nat) (B0:LU) (a1:OA) (c1:Nat) (B1:LU) (a2:OA) (c2:Nat) (B2:LU) (hl:B0.length+B1.length+B2.length≤140737488351232) (h0:0<B0.length) (w0:World) (hf0:Kb w0 g #[.slice a0 B0.length c0,.slice a1 B1.length c1,.slice a2 B2.length c2]) (hf1:Bs w0 a0 c0 B0) (hf2:Bs w0 a1 c1 B1) (hf3:Bs w0 a2 c2 B2):Calls prog 179 #[.slice (some ⟨g,0,none⟩) 3 3] w0 (fun ε w'=>∃ α κ,ε=.returned (.slice α ((B0++B1)++B2).length κ)∧jG w0 w'∧Fs w0 w' α κ ((B0++B1)++B2)):=shrow_any g 3 (fun k=>[a0,a1,a2].getD k none) (fun k=>[c0,c1,c2].getD k 0) (fun k=>[B0,B1,B2].getD k []) (by decide) (by show ((([]++B0)++B1)++B2).length≤_;simp only [List.length_append,List.length_nil];omega) h0 w0 hf0 (allB3 hf1 hf2 hf3)
theorem rotl_any (x:Nat) (n:Nat) (hx:x<4294967296) (hn:0<n∧n<32) (w0:World):Calls prog 203 #[vu x,vi (0-((n:Nat):Int))] w0 (jR (vu (aH x n)) w0):=by
 refine Calls.cW 17 (fun _=>True) func203 rfl rfl rfl jT (jJ f203 1 [0,1,4] [.int .u32 0] (sS f203 4 [0,4,5] [] (fun _=>[vi (0-((n:Nat):Int)),vx (18446744073709551616-n),vx (32-n),vx (32-n)]) (fun _=>[]) (jY 1<|cA (fun _=>(vx (18446744073709551616-n))) (fun _=>congrArg (Value.int .u64) (u64_neg hn.1 hn.2))<|cA (fun _=>(vx (32-n))) (fun _=>congrArg (Value.int .u64) (and31 hn.1 hn.2))<|jX 1) (fun _=>sS f203 9 [4] [] (fun _=>[vu x,vx (32-n),vu (x*2^(32-n)%4294967296),vu x,vx (32-n),vx n,vu (x / 2^n),vu (aH x n),vu (aH x n)]) (fun _=>[]) (jY 2<|cB (a:=fun ρ=>(vu x)) (b:=fun ρ=>(vx (32-n))) (v:=fun ρ=>(vu (x*2^(32-n)%4294967296))) .shl 55 (fun _ w=>run_shlM om w)<|jY 2<|cA (fun _=>(vx n)) (fun _=>congrArg (Value.int .u64) (u64_32 hn.1 hn.2))<|cB (a:=fun ρ=>(vu x)) (b:=fun ρ=>(vx n)) (v:=fun ρ=>(vu (x / 2^n))) .shr 55 (fun _ w=>gG (k:=.u32) hx w)<|cA (fun _=>(vu (aH x n))) (fun _=>jN (or_rot hx))<|jX 1) (fun _=>aF ?_))))
 exact mR (v:=(vu (aH x n))) (fun _ hS=>⟨rfl,hS.bel⟩)
theorem lS (x:Nat) (n:Nat) (hx:x<4294967296) (hn:0<n∧n<32) (w0:World):Calls prog 210 #[vu x,vn n] w0 (jR (vu (aH x n)) w0):=by
 refine Calls.cW 9 (fun _=>True) func210 rfl rfl rfl jT (jJ f210 1 [0,1,4] [.int .u32 0] (sS f210 5 [4] [] (fun _=>[vu x,vn n,vi (0-((n:Nat):Int)),vu (aH x n),vu (aH x n)]) (fun _=>[]) (jY 2<|jU (fun ρ=>(0-((n:Nat):Int))) (fun _=>(0-((n:Nat):Int))) (fun _=>(gZ om))<|cC (fun _ w=>rotl_any x n hx hn w)<|jX 1) (fun _=>aF ?_)))
 exact mR (v:=(vu (aH x n))) (fun _ hS=>⟨rfl,hS.bel⟩)
theorem zrow_sc (X:LU):bY .u32 64 (fun _=>0)=bY .u32 64 (sc X 0 0):=fG fun m _=>(sc_zero X m).symm
theorem sched_any (X:LU) (hX:X.length=64) (w0:World):Calls prog 209 #[.agg (bs X).toArray] w0 (jR (.agg (bY .u32 64 (wN X))) w0):=by
 refine Calls.cW 85 (fun _=>True) func209 rfl rfl rfl jT (sS f209 2 [1,2] [] (fun ρ=>[pt (nb ρ 0),pt (nb ρ 1)]) (fun ρ=>[(0,(nw ρ 0 (cL (bs X).toArray 165))),(1,(nw ρ 1 (cL (bY .u32 64 (fun _=>0)) 174)))]) (jX 2) (fun ρ1=>sS f209 1 [1,2,3] [] (fun ρ=>[pt (nb ρ 0)]) (fun ρ=>[(0,(nw ρ 0 (cL (bY .u32 64 (fun _=>0)) 174)))]) (jX 1) (fun ρ2=>aB (jJ f209 1 [1,2,3,9] [vi 0] (aI ?_)))))
 refine oL (σ:=Nat × (Array Value)) (fun ⟨i,_⟩=>[(1,(pt (nb ρ1 0))),(2,(pt (nb ρ1 1))),(3,(pt (nb ρ2 0))),(9,(vn i))]) (fun ⟨_,C⟩=>[(nb ρ1 0,(cL (bs X).toArray 165)),(nb ρ1 1,(cL (bY .u32 64 (fun _=>0)) 174)),(nb ρ2 0,(cL C 174))]) (fun ⟨i,_⟩=>16-i)
  (fun ⟨i,C⟩=>(i≤16)∧(C=bY .u32 64 (sc X i 0))) (0,bY .u32 64 (fun _=>0)) (⟨by decide,zrow_sc X⟩) [] ?_
 rintro ⟨i,C⟩ ⟨hi,hC⟩
 refine jJ f209 1 [1,2,3,9,10] [.bool (decide (((i:Nat):Int)<16))] (aB (oC (decide (((i:Nat):Int)<16)) (fun hb1=>?_) (fun hb1=>?_)))
 ·rw [hb1]
  have:=yT hb1
  refine aG (aA (aB (aI (jJ f209 2 [1,2,3,4,9] [vn i,vn i] (jJ f209 1 [1,2,3,4,9,12] [vi 0] (aI ?_))))))
  refine oL (σ:=Nat × (Array Value)) (fun ⟨j,_⟩=>[(1,(pt (nb ρ1 0))),(2,(pt (nb ρ1 1))),(3,(pt (nb ρ2 0))),(4,(vn i)),(9,(vn i)),(12,(vn j))]) (fun ⟨_,C2⟩=>[(nb ρ1 0,(cL (bs X).toArray 165)),(nb ρ1 1,(cL (bY .u32 64 (fun _=>0)) 174)),(nb ρ2 0,(cL C2 174))]) (fun ⟨j,_⟩=>4-j)
   (fun ⟨j,C2⟩=>(j≤4)∧(C2=bY .u32 64 (sc X i j))) (0,C) (⟨by decide,hC⟩) [] ?_
  rintro ⟨j,C2⟩ ⟨hj,hC2⟩
  refine jJ f209 1 [1,2,3,4,9,12,13] [.bool (decide (((j:Nat):Int)<4))] (aB (oC (decide (((j:Nat):Int)<4)) (fun hb2=>?_) (fun hb2=>?_)))
  ·rw [hb2]
   have:=yT hb2
   refine aG (aA (aB (aI (jJ f209 2 [1,2,3,4,5,9,12] [vn j,vn j] (rD f209 [0,0,2,6,14,0,32,0,224,480,992,2016,4094,8191,16383] 15 [1,2,3,4,9,12] [] (fun _=>[vn i,vn i,jp (nb ρ2 0) i,vu (zJ X i j),vu (zJ X i j*256),vn i,vn (4*i),vn j,vn ((4*i)+j),jp (nb ρ1 0) ((4*i)+j),vy (gB X ((4*i)+j)),vu (gB X ((4*i)+j)),vu (zJ X i (j+1)),jp (nb ρ2 0) i,undef]) (fun _=>[(14,(bD 2 (nb ρ2 0) (cL (C2.setIfInBounds i (vu (zJ X i (j+1)))) 174)))]) (jY 2<|cX (jS (fun _=>Instr.indexAt 174 (pt (nb ρ2 0)) (vn i)) (fun _=>(jp (nb ρ2 0) i)) (fun _ w=>aX (n:=((i:Nat):Int)) (i:=i) underlying174 sizeOf55 om w))<|cX (kG _ 2 55 (fun _=>nb ρ2 0) (fun _=>i) (fun _=>C2) 174 (0,0) (fun _=>(vu (zJ X i j))) (fun _=>by kernel_rfl) isAgg55 (fun _=>(by rw [hC2,nG om,sc_at])))<|cB (a:=fun ρ=>(vu (zJ X i j))) (b:=fun ρ=>(.int .u64 8)) (v:=fun ρ=>(vu (zJ X i j*256))) .shl 55 (fun _ w=>run_pw8 om w)<|jY 1<|jW (fun ρ=>(4*((i:Nat):Int))) (fun _=>(4*i)) (fun _=>(fQ 4 i om))<|jY 1<|jW (fun ρ=>(((4*i:Nat):Int)+((j:Nat):Int))) (fun _=>((4*i)+j)) (fun _=>(aW (4*i) j om))<|cX (jS (fun _=>Instr.indexAt 165 (pt (nb ρ1 0)) (vn ((4*i)+j))) (fun _=>(jp (nb ρ1 0) ((4*i)+j))) (fun _ w=>aX (n:=(((4*i)+j:Nat):Int)) (i:=(4*i)+j) underlying165 sizeOf5 om w))<|cX (kG _ 0 5 (fun _=>nb ρ1 0) (fun _=>(4*i)+j) (fun _=>(bs X).toArray) 165 (0,0) (fun _=>(vy (gB X ((4*i)+j)))) (fun _=>by kernel_rfl) isAgg5 (fun _=>(zG (by rw [hX];omega))))<|cA (v:=fun ρ=>(.int .u32 (IntKind.u32.wrap ((gB X ((4*i)+j):Nat):Int)))) (fun _=>(vu (gB X ((4*i)+j)))) (fun _=>jN (u32N (Nat.lt_of_lt_of_le (iD _ _) (by decide))))<|cA (v:=fun ρ=>(.int .u32 (bits .or .u32 ((zJ X i j*256:Nat):Int) ((gB X ((4*i)+j):Nat):Int)))) (fun _=>(vu (zJ X i (j+1)))) (fun _=>jN (or_pw om))<|cX (jS (fun _=>Instr.indexAt 174 (pt (nb ρ2 0)) (vn i)) (fun _=>(jp (nb ρ2 0) i)) (fun _ w=>aX (n:=((i:Nat):Int)) (i:=i) underlying174 sizeOf55 om w))<|cX (qG _ 2 55 (fun _=>nb ρ2 0) (fun _=>i) (fun _=>C2) (fun _=>(C2.setIfInBounds i (vu (zJ X i (j+1))))) 174 (fun _=>(vu (zJ X i (j+1)))) (fun _=>by kernel_rfl) sizeOf55 (fun _=>rfl) (fun _=>(by rw [hC2,eH];omega)) (fun _=>rfl))<|cN) (fun _=>aJ (aA (rS f209 2 [1,2,3,4,9,12] [] (fun _=>[vn (j+1),vn (j+1)]) (fun _=>[]) (jW (fun ρ=>(((j:Nat):Int)+1)) (fun _=>(j+1)) (fun _=>(aW j 1 om))<|jX 1) (fun _=>?_)))))))))
   exact mN (j+1,C2.setIfInBounds i (vu (zJ X i (j+1)))) (by show 4-(j+1)<4-j;omega) (⟨om,by rw [hC2];exact sc_set⟩) []
  rw [hb2]
  have:=yF hb2
  refine bF (aN (aN (aT (aJ (aA (rS f209 2 [1,2,3,9] [] (fun _=>[vn (i+1),vn (i+1)]) (fun _=>[]) (jW (fun ρ=>(((i:Nat):Int)+1)) (fun _=>(i+1)) (fun _=>(aW i 1 om))<|jX 1) (fun _=>?_)))))))
  exact mN (i+1,C2) (by show 16-(i+1)<16-i;omega) (⟨om,hC2.trans (by rw [show j=4 by omega];exact sc_next X i)⟩) []
 rw [hb1]
 have:=yF hb1
 refine bF (aN (aN (aT (aA (aB (jM f209 1 [2,3,6] [0,1,1] [vi 16] [[]] (aI ?_)))))))
 refine oL (σ:=Nat × (Array Value)) (fun ⟨k,_⟩=>[(2,(pt (nb ρ1 1))),(3,(pt (nb ρ2 0))),(6,(vn k))]) (fun ⟨_,C3⟩=>[(nb ρ1 1,(cL (bY .u32 64 (fun _=>0)) 174)),(nb ρ2 0,(cL C3 174))]) (fun ⟨k,_⟩=>64-k)
  (fun ⟨k,C3⟩=>(16≤k∧k≤64)∧(C3=bY .u32 64 (tc X k))) (16,C) (⟨by decide,hC.trans (by rw [show i=16 by omega];exact sc_tc X)⟩) [] ?_
 rintro ⟨k,C3⟩ ⟨hk,hC3⟩
 refine aB (jJ f209 2 [2,3,6,32] [vn k,.bool (decide (((k:Nat):Int)<64))] (oC (decide (((k:Nat):Int)<64)) (fun hb3=>?_) (fun hb3=>?_)))
 ·rw [hb3]
  have:=yT hb3
  refine aG (aA (aB (aI (sD f209 [0,1,3,7,15,0,32,96,224,511,1023,0,2048,6144,14336,30720,65535,131071] 18 [2,3,6,7] [] (fun _=>let qa:=vu (((aH (wN X (k-15)) 7)^^^(aH (wN X (k-15)) 18))^^^((wN X (k-15)) / 2^3));let qb:=vi (((k:Nat):Int)-15);[vn k,qb,jp (nb ρ2 0) (k-15),vu (wN X (k-15)),vu (aH (wN X (k-15)) 7),vn k,qb,jp (nb ρ2 0) (k-15),vu (wN X (k-15)),vu (aH (wN X (k-15)) 18),vu ((aH (wN X (k-15)) 7)^^^(aH (wN X (k-15)) 18)),vn k,qb,jp (nb ρ2 0) (k-15),vu (wN X (k-15)),vu ((wN X (k-15)) / 2^3),qa,qa]) (fun _=>[]) (jY 1<|jU (fun ρ=>(((k:Nat):Int)-15)) (fun _=>(((k:Nat):Int)-15)) (fun _=>(gZ om))<|cX (jS (fun _=>Instr.indexAt 174 (pt (nb ρ2 0)) (vi (((k:Nat):Int)-15))) (fun _=>(jp (nb ρ2 0) (k-15))) (fun _ w=>aX (n:=((k:Nat):Int)-15) (i:=k-15) underlying174 sizeOf55 om w))<|cX (kG _ 1 55 (fun _=>nb ρ2 0) (fun _=>k-15) (fun _=>C3) 174 (0,0) (fun _=>(vu (wN X (k-15)))) (fun _=>by kernel_rfl) isAgg55 (fun _=>(by rw [hC3];exact lM om om)))<|cC (f:=210) (args:=fun ρ=> #[vu (wN X (k-15)),vi 7]) (v:=fun ρ=>(vu (aH (wN X (k-15)) 7))) (fun _ w=>(fun w=>lS (wN X (k-15)) 7 (iF _ _) (by decide) w) w)<|jY 1<|jU (fun ρ=>(((k:Nat):Int)-15)) (fun _=>(((k:Nat):Int)-15)) (fun _=>(gZ om))<|cX (jS (fun _=>Instr.indexAt 174 (pt (nb ρ2 0)) (vi (((k:Nat):Int)-15))) (fun _=>(jp (nb ρ2 0) (k-15))) (fun _ w=>aX (n:=((k:Nat):Int)-15) (i:=k-15) underlying174 sizeOf55 om w))<|cX (kG _ 1 55 (fun _=>nb ρ2 0) (fun _=>k-15) (fun _=>C3) 174 (0,0) (fun _=>(vu (wN X (k-15)))) (fun _=>by kernel_rfl) isAgg55 (fun _=>(by rw [hC3];exact lM om om)))<|cC (f:=210) (args:=fun ρ=> #[vu (wN X (k-15)),vi 18]) (v:=fun ρ=>(vu (aH (wN X (k-15)) 18))) (fun _ w=>(fun w=>lS (wN X (k-15)) 18 (iF _ _) (by decide) w) w)<|cA (v:=fun ρ=>(.int .u32 (bits .xor .u32 ((aH (wN X (k-15)) 7:Nat):Int) ((aH (wN X (k-15)) 18:Nat):Int)))) (fun _=>(vu ((aH (wN X (k-15)) 7)^^^(aH (wN X (k-15)) 18)))) (fun _=>jN (lH (dE _ (iF _ _)) (dE _ (iF _ _))))<|jY 1<|jU (fun ρ=>(((k:Nat):Int)-15)) (fun _=>(((k:Nat):Int)-15)) (fun _=>(gZ om))<|cX (jS (fun _=>Instr.indexAt 174 (pt (nb ρ2 0)) (vi (((k:Nat):Int)-15))) (fun _=>(jp (nb ρ2 0) (k-15))) (fun _ w=>aX (n:=((k:Nat):Int)-15) (i:=k-15) underlying174 sizeOf55 om w))<|cX (kG _ 1 55 (fun _=>nb ρ2 0) (fun _=>k-15) (fun _=>C3) 174 (0,0) (fun _=>(vu (wN X (k-15)))) (fun _=>by kernel_rfl) isAgg55 (fun _=>(by rw [hC3];exact lM om om)))<|cB (a:=fun ρ=>(vu (wN X (k-15)))) (b:=fun ρ=>(.int .u64 3)) (v:=fun ρ=>(vu ((wN X (k-15)) / 2^3))) .shr 55 (fun _ w=>gG (k:=.u32) (x:=(wN X (k-15))) (c:=3) (iF _ _) w)<|cA (v:=fun ρ=>(.int .u32 (bits .xor .u32 (((aH (wN X (k-15)) 7)^^^(aH (wN X (k-15)) 18):Nat):Int) (((wN X (k-15)) / 2^3:Nat):Int)))) (fun _=>(vu (((aH (wN X (k-15)) 7)^^^(aH (wN X (k-15)) 18))^^^((wN X (k-15)) / 2^3)))) (fun _=>jN (lH (lU (dE _ (iF _ _)) (dE _ (iF _ _))) (rV _ (iF _ _))))<|jX 1) (fun _=>sD f209 [0,1,3,7,15,0,32,96,224,511,1023,0,2048,6144,14336,30720,65535,131071] 18 [2,3,6,7,8] [] (fun _=>let qa:=vu (((aH (wN X (k-2)) 17)^^^(aH (wN X (k-2)) 19))^^^((wN X (k-2)) / 2^10));let qb:=vi (((k:Nat):Int)-2);[vn k,qb,jp (nb ρ2 0) (k-2),vu (wN X (k-2)),vu (aH (wN X (k-2)) 17),vn k,qb,jp (nb ρ2 0) (k-2),vu (wN X (k-2)),vu (aH (wN X (k-2)) 19),vu ((aH (wN X (k-2)) 17)^^^(aH (wN X (k-2)) 19)),vn k,qb,jp (nb ρ2 0) (k-2),vu (wN X (k-2)),vu ((wN X (k-2)) / 2^10),qa,qa]) (fun _=>[]) (jY 1<|jU (fun ρ=>(((k:Nat):Int)-2)) (fun _=>(((k:Nat):Int)-2)) (fun _=>(gZ om))<|cX (jS (fun _=>Instr.indexAt 174 (pt (nb ρ2 0)) (vi (((k:Nat):Int)-2))) (fun _=>(jp (nb ρ2 0) (k-2))) (fun _ w=>aX (n:=((k:Nat):Int)-2) (i:=k-2) underlying174 sizeOf55 om w))<|cX (kG _ 1 55 (fun _=>nb ρ2 0) (fun _=>k-2) (fun _=>C3) 174 (0,0) (fun _=>(vu (wN X (k-2)))) (fun _=>by kernel_rfl) isAgg55 (fun _=>(by rw [hC3];exact lM om om)))<|cC (f:=210) (args:=fun ρ=> #[vu (wN X (k-2)),vi 17]) (v:=fun ρ=>(vu (aH (wN X (k-2)) 17))) (fun _ w=>(fun w=>lS (wN X (k-2)) 17 (iF _ _) (by decide) w) w)<|jY 1<|jU (fun ρ=>(((k:Nat):Int)-2)) (fun _=>(((k:Nat):Int)-2)) (fun _=>(gZ om))<|cX (jS (fun _=>Instr.indexAt 174 (pt (nb ρ2 0)) (vi (((k:Nat):Int)-2))) (fun _=>(jp (nb ρ2 0) (k-2))) (fun _ w=>aX (n:=((k:Nat):Int)-2) (i:=k-2) underlying174 sizeOf55 om w))<|cX (kG _ 1 55 (fun _=>nb ρ2 0) (fun _=>k-2) (fun _=>C3) 174 (0,0) (fun _=>(vu (wN X (k-2)))) (fun _=>by kernel_rfl) isAgg55 (fun _=>(by rw [hC3];exact lM om om)))<|cC (f:=210) (args:=fun ρ=> #[vu (wN X (k-2)),vi 19]) (v:=fun ρ=>(vu (aH (wN X (k-2)) 19))) (fun _ w=>(fun w=>lS (wN X (k-2)) 19 (iF _ _) (by decide) w) w)<|cA (v:=fun ρ=>(.int .u32 (bits .xor .u32 ((aH (wN X (k-2)) 17:Nat):Int) ((aH (wN X (k-2)) 19:Nat):Int)))) (fun _=>(vu ((aH (wN X (k-2)) 17)^^^(aH (wN X (k-2)) 19)))) (fun _=>jN (lH (dE _ (iF _ _)) (dE _ (iF _ _))))<|jY 1<|jU (fun ρ=>(((k:Nat):Int)-2)) (fun _=>(((k:Nat):Int)-2)) (fun _=>(gZ om))<|cX (jS (fun _=>Instr.indexAt 174 (pt (nb ρ2 0)) (vi (((k:Nat):Int)-2))) (fun _=>(jp (nb ρ2 0) (k-2))) (fun _ w=>aX (n:=((k:Nat):Int)-2) (i:=k-2) underlying174 sizeOf55 om w))<|cX (kG _ 1 55 (fun _=>nb ρ2 0) (fun _=>k-2) (fun _=>C3) 174 (0,0) (fun _=>(vu (wN X (k-2)))) (fun _=>by kernel_rfl) isAgg55 (fun _=>(by rw [hC3];exact lM om om)))<|cB (a:=fun ρ=>(vu (wN X (k-2)))) (b:=fun ρ=>(.int .u64 10)) (v:=fun ρ=>(vu ((wN X (k-2)) / 2^10))) .shr 55 (fun _ w=>gG (k:=.u32) (x:=(wN X (k-2))) (c:=10) (iF _ _) w)<|cA (v:=fun ρ=>(.int .u32 (bits .xor .u32 (((aH (wN X (k-2)) 17)^^^(aH (wN X (k-2)) 19):Nat):Int) (((wN X (k-2)) / 2^10:Nat):Int)))) (fun _=>(vu (((aH (wN X (k-2)) 17)^^^(aH (wN X (k-2)) 19))^^^((wN X (k-2)) / 2^10)))) (fun _=>jN (lH (lU (dE _ (iF _ _)) (dE _ (iF _ _))) (rV _ (iF _ _))))<|jX 1) (fun _=>rD f209 [0,0,2,6,14,0,62,0,128,384,896,2046,0,8190,16383,32767] 16 [2,3,6] [] (fun _=>let qa:=add32 (wN X (k-16)) (((aH (wN X (k-15)) 7)^^^(aH (wN X (k-15)) 18))^^^((wN X (k-15)) / 2^3));[vn k,vn k,vi (((k:Nat):Int)-16),jp (nb ρ2 0) (k-16),vu (wN X (k-16)),vu (((aH (wN X (k-15)) 7)^^^(aH (wN X (k-15)) 18))^^^((wN X (k-15)) / 2^3)),vu qa,vn k,vi (((k:Nat):Int)-7),jp (nb ρ2 0) (k-7),vu (wN X (k-7)),vu (add32 qa (wN X (k-7))),vu (((aH (wN X (k-2)) 17)^^^(aH (wN X (k-2)) 19))^^^((wN X (k-2)) / 2^10)),vu (add32 (add32 qa (wN X (k-7))) (((aH (wN X (k-2)) 17)^^^(aH (wN X (k-2)) 19))^^^((wN X (k-2)) / 2^10))),jp (nb ρ2 0) k,undef]) (fun _=>[(15,(bD 1 (nb ρ2 0) (cL (C3.setIfInBounds k (vu (add32 (add32 (add32 (wN X (k-16)) (((aH (wN X (k-15)) 7)^^^(aH (wN X (k-15)) 18))^^^((wN X (k-15)) / 2^3))) (wN X (k-7))) (((aH (wN X (k-2)) 17)^^^(aH (wN X (k-2)) 19))^^^((wN X (k-2)) / 2^10))))) 174)))]) (jY 2<|jU (fun ρ=>(((k:Nat):Int)-16)) (fun _=>(((k:Nat):Int)-16)) (fun _=>(gZ om))<|cX (jS (fun _=>Instr.indexAt 174 (pt (nb ρ2 0)) (vi (((k:Nat):Int)-16))) (fun _=>(jp (nb ρ2 0) (k-16))) (fun _ w=>aX (n:=((k:Nat):Int)-16) (i:=k-16) underlying174 sizeOf55 om w))<|cX (kG _ 1 55 (fun _=>nb ρ2 0) (fun _=>k-16) (fun _=>C3) 174 (0,0) (fun _=>(vu (wN X (k-16)))) (fun _=>by kernel_rfl) isAgg55 (fun _=>(by rw [hC3];exact lM om om)))<|jY 1<|cA (fun _=>(vu (add32 (wN X (k-16)) (((aH (wN X (k-15)) 7)^^^(aH (wN X (k-15)) 18))^^^((wN X (k-15)) / 2^3))))) (fun _=>jN (bP (wN X (k-16)) (((aH (wN X (k-15)) 7)^^^(aH (wN X (k-15)) 18))^^^((wN X (k-15)) / 2^3))))<|jY 1<|jU (fun ρ=>(((k:Nat):Int)-7)) (fun _=>(((k:Nat):Int)-7)) (fun _=>(gZ om))<|cX (jS (fun _=>Instr.indexAt 174 (pt (nb ρ2 0)) (vi (((k:Nat):Int)-7))) (fun _=>(jp (nb ρ2 0) (k-7))) (fun _ w=>aX (n:=((k:Nat):Int)-7) (i:=k-7) underlying174 sizeOf55 om w))<|cX (kG _ 1 55 (fun _=>nb ρ2 0) (fun _=>k-7) (fun _=>C3) 174 (0,0) (fun _=>(vu (wN X (k-7)))) (fun _=>by kernel_rfl) isAgg55 (fun _=>(by rw [hC3];exact lM om om)))<|cA (fun _=>(vu (add32 (add32 (wN X (k-16)) (((aH (wN X (k-15)) 7)^^^(aH (wN X (k-15)) 18))^^^((wN X (k-15)) / 2^3))) (wN X (k-7))))) (fun _=>jN (bP (add32 (wN X (k-16)) (((aH (wN X (k-15)) 7)^^^(aH (wN X (k-15)) 18))^^^((wN X (k-15)) / 2^3))) (wN X (k-7))))<|jY 1<|cA (fun _=>(vu (add32 (add32 (add32 (wN X (k-16)) (((aH (wN X (k-15)) 7)^^^(aH (wN X (k-15)) 18))^^^((wN X (k-15)) / 2^3))) (wN X (k-7))) (((aH (wN X (k-2)) 17)^^^(aH (wN X (k-2)) 19))^^^((wN X (k-2)) / 2^10))))) (fun _=>jN (bP (add32 (add32 (wN X (k-16)) (((aH (wN X (k-15)) 7)^^^(aH (wN X (k-15)) 18))^^^((wN X (k-15)) / 2^3))) (wN X (k-7))) (((aH (wN X (k-2)) 17)^^^(aH (wN X (k-2)) 19))^^^((wN X (k-2)) / 2^10))))<|cX (jS (fun _=>Instr.indexAt 174 (pt (nb ρ2 0)) (vn k)) (fun _=>(jp (nb ρ2 0) k)) (fun _ w=>aX (n:=((k:Nat):Int)) (i:=k) underlying174 sizeOf55 om w))<|cX (qG _ 1 55 (fun _=>nb ρ2 0) (fun _=>k) (fun _=>C3) (fun _=>(C3.setIfInBounds k (vu (add32 (add32 (add32 (wN X (k-16)) (((aH (wN X (k-15)) 7)^^^(aH (wN X (k-15)) 18))^^^((wN X (k-15)) / 2^3))) (wN X (k-7))) (((aH (wN X (k-2)) 17)^^^(aH (wN X (k-2)) 19))^^^((wN X (k-2)) / 2^10)))))) 174 (fun _=>(vu (add32 (add32 (add32 (wN X (k-16)) (((aH (wN X (k-15)) 7)^^^(aH (wN X (k-15)) 18))^^^((wN X (k-15)) / 2^3))) (wN X (k-7))) (((aH (wN X (k-2)) 17)^^^(aH (wN X (k-2)) 19))^^^((wN X (k-2)) / 2^10))))) (fun _=>by kernel_rfl) sizeOf55 (fun _=>rfl) (fun _=>(by rw [hC3,eH];omega)) (fun _=>rfl))<|cN) (fun _=>aJ (aA (rS f209 3 [2,3,6] [] (fun _=>[vn k,vn (k+1),vn (k+1)]) (fun _=>[]) (jY 1<|jW (fun ρ=>(((k:Nat):Int)+1)) (fun _=>(k+1)) (fun _=>(aW k 1 om))<|jX 1) (fun _=>?_))))))))))
  exact mN (k+1,C3.setIfInBounds k (vu (add32 (add32 (add32 (wN X (k-16)) (((aH (wN X (k-15)) 7)^^^(aH (wN X (k-15)) 18))^^^((wN X (k-15)) / 2^3))) (wN X (k-7))) (((aH (wN X (k-2)) 17)^^^(aH (wN X (k-2)) 19))^^^((wN X (k-2)) / 2^10))))) (by show 64-(k+1)<64-k;omega) (⟨om,by rw [hC3];exact tc_set (wN_more hk.1).symm⟩) []
 rw [hb3]
 refine bF (aN (aN (aT ?_)))
 rw [hC3]
 refine aA (sS f209 2 [2] [1,0] (fun _=>[.agg (bY .u32 64 (tc X k)),undef]) (fun _=>[(1,(bD 0 (nb ρ1 1) (cL (bY .u32 64 (tc X k)) 174)))]) (jE [[1],[0]]) (fun _=>aF ?_))
 exact mR (v:=(.agg (bY .u32 64 (tc X k)))) (fun _ hS=>⟨congrArg Ending.returned (congrArg Value.agg (tc_end (oA (yF hb3)))),hS.bel⟩)
theorem compress_any (s0:Nat) (s1:Nat) (s2:Nat) (s3:Nat) (s4:Nat) (s5:Nat) (s6:Nat) (s7:Nat) (X:LU) (hs:ok8 (s0,s1,s2,s3,s4,s5,s6,s7)) (hX:X.length=64) (w0:World) (hf0:kJ w0):Calls prog 199 #[.agg #[vu s0,vu s1,vu s2,vu s3,vu s4,vu s5,vu s6,vu s7],.agg (bs X).toArray] w0 (jR (.agg #[vu ((eF (s0,s1,s2,s3,s4,s5,s6,s7) X).1),vu ((eF (s0,s1,s2,s3,s4,s5,s6,s7) X).2.1),vu ((eF (s0,s1,s2,s3,s4,s5,s6,s7) X).2.2.1),vu ((eF (s0,s1,s2,s3,s4,s5,s6,s7) X).2.2.2.1),vu ((eF (s0,s1,s2,s3,s4,s5,s6,s7) X).2.2.2.2.1),vu ((eF (s0,s1,s2,s3,s4,s5,s6,s7) X).2.2.2.2.2.1),vu ((eF (s0,s1,s2,s3,s4,s5,s6,s7) X).2.2.2.2.2.2.1),vu ((eF (s0,s1,s2,s3,s4,s5,s6,s7) X).2.2.2.2.2.2.2)]) w0):=by
 refine Calls.cW 131 (fun w=>kJ w∧True) func199 rfl rfl rfl (hf0.pers0.and cO) (sS f199 3 [2,3,4] [] (fun ρ=>[pt (nb ρ 0),pt (nb ρ 1),pt (nb ρ 2)]) (fun ρ=>[(0,(nw ρ 0 (cL #[vu s0,vu s1,vu s2,vu s3,vu s4,vu s5,vu s6,vu s7] 163))),(1,(nw ρ 1 (cL (bs X).toArray 165))),(2,(nw ρ 2 (cL #[.int .u32 0,.int .u32 0,.int .u32 0,.int .u32 0,.int .u32 0,.int .u32 0,.int .u32 0,.int .u32 0] 163)))]) (jX 3) (fun ρ1=>sS f199 4 [2,4,5] [1,0,1,1] (fun ρ=>[.agg (bs X).toArray,.agg (bY .u32 64 (wN X)),pt (nb ρ 2),undef]) (fun ρ=>[(2,(nw ρ 2 (cL (bY .u32 64 (fun _=>0)) 174))),(3,(bD 19 (nb ρ 2) (cL (bY .u32 64 (wN X)) 174)))]) (cX (qF (fun _ _ _ hG=>vS isAgg165 sizeOf165 (hG.kn (g:=nb ρ1 1) (o:=(cL (bs X).toArray 165)) 1) (by simp [bs,hX])))<|cC (fun _ w=>sched_any X hX w)<|jE [[],[19]]) (fun ρ2=>sD f199 [0,1,0,4,0,16,0,64,3,271,831,2047] 12 [2,4,5,6,7,8,9] [] (fun _=>[pt (nb ρ1 0),vu s0,jp (nb ρ1 0) 1,vu s1,jp (nb ρ1 0) 2,vu s2,jp (nb ρ1 0) 3,vu s3,vu s0,vu s1,vu s2,vu s3]) (fun _=>[]) (jE [[],[0],[],[0],[],[0],[],[0],[],[],[],[]]) (fun _=>sD f199 [0,1,0,4,0,16,0,64,3,271,831,2047] 12 [2,4,5,6,7,8,9,10,11,12,13] [] (fun _=>[jp (nb ρ1 0) 4,vu s4,jp (nb ρ1 0) 5,vu s5,jp (nb ρ1 0) 6,vu s6,jp (nb ρ1 0) 7,vu s7,vu s4,vu s5,vu s6,vu s7]) (fun _=>[]) (jE [[],[0],[],[0],[],[0],[],[0],[],[],[],[]]) (fun _=>aB (jJ f199 1 [2,4,5,6,7,8,9,10,11,12,13,35] [vi 0] (aI ?_)))))))
 refine oL (σ:=Nat × Nat × Nat × Nat × Nat × Nat × Nat × Nat × Nat) (fun ⟨i,ra,rb,rc,rd,re,rf,rg,rh⟩=>[(2,(pt (nb ρ1 0))),(4,(pt (nb ρ1 2))),(5,(pt (nb ρ2 2))),(6,(vu ra)),(7,(vu rb)),(8,(vu rc)),(9,(vu rd)),(10,(vu re)),(11,(vu rf)),(12,(vu rg)),(13,(vu rh)),(35,(vn i))]) (fun ⟨_,_,_,_,_,_,_,_,_⟩=>[(nb ρ1 0,(cL #[vu s0,vu s1,vu s2,vu s3,vu s4,vu s5,vu s6,vu s7] 163)),(nb ρ1 2,(cL #[.int .u32 0,.int .u32 0,.int .u32 0,.int .u32 0,.int .u32 0,.int .u32 0,.int .u32 0,.int .u32 0] 163)),(nb ρ2 2,(cL (bY .u32 64 (wN X)) 174))]) (fun ⟨i,_,_,_,_,_,_,_,_⟩=>64-i)
  (fun ⟨i,ra,rb,rc,rd,re,rf,rg,rh⟩=>(i≤64)∧(rnds X (s0,s1,s2,s3,s4,s5,s6,s7) i=(ra,rb,rc,rd,re,rf,rg,rh))) (0,s0,s1,s2,s3,s4,s5,s6,s7) (⟨by decide,rfl⟩) [] ?_
 rintro ⟨i,ra,rb,rc,rd,re,rf,rg,rh⟩ ⟨hi,hr⟩
 have ho:ok8 (ra,rb,rc,rd,re,rf,rg,rh):=hr ▸ rnds_ok hs i
 refine jJ f199 1 [2,4,5,6,7,8,9,10,11,12,13,35,36] [.bool (decide (((i:Nat):Int)<64))] (aB (oC (decide (((i:Nat):Int)<64)) (fun hb1=>?_) (fun hb1=>?_)))
 ·rw [hb1]
  have:=yT hb1
  refine aG (aA (aB (aI (jJ f199 2 [2,4,5,6,7,8,9,10,11,12,13,14,35] [vn i,vn i] (sD f199 [0,0,2,0,14,30,0,94,254,511,0,0,3072,0,8192,0,57344,130048,262143,0,524288,1572864,4194303,0,8388608,25165824,67108863,134217727] 28 [2,4,5,6,7,8,9,10,11,12,13,15,35] [] (fun _=>let qa:=add32 (add32 rh (((aH re 6)^^^(aH re 11))^^^(aH re 25))) ((re&&&rf)^^^((dW re)&&&rg));let qb:=vu (add32 (add32 qa (kN i)) (wN X i));[vu rh,vu re,vu (aH re 6),vu re,vu (aH re 11),vu ((aH re 6)^^^(aH re 11)),vu re,vu (aH re 25),vu (((aH re 6)^^^(aH re 11))^^^(aH re 25)),vu (add32 rh (((aH re 6)^^^(aH re 11))^^^(aH re 25))),vu re,vu rf,vu (re&&&rf),vu re,vu (dW re),vu rg,vu ((dW re)&&&rg),vu ((re&&&rf)^^^((dW re)&&&rg)),vu qa,vn i,jp 2 i,vu (kN i),vu (add32 qa (kN i)),vn i,jp (nb ρ2 2) i,vu (wN X i),qb,qb]) (fun _=>[]) (jY 2<|cC (fun _ w=>lS re 6 ho.2.2.2.2.1 (by decide) w)<|jY 1<|cC (fun _ w=>lS re 11 ho.2.2.2.2.1 (by decide) w)<|cA (v:=fun ρ=>(.int .u32 (bits .xor .u32 ((aH re 6:Nat):Int) ((aH re 11:Nat):Int)))) (fun _=>(vu ((aH re 6)^^^(aH re 11)))) (fun _=>jN (lH (dE _ ho.2.2.2.2.1) (dE _ ho.2.2.2.2.1)))<|jY 1<|cC (fun _ w=>lS re 25 ho.2.2.2.2.1 (by decide) w)<|cA (v:=fun ρ=>(.int .u32 (bits .xor .u32 (((aH re 6)^^^(aH re 11):Nat):Int) ((aH re 25:Nat):Int)))) (fun _=>(vu (((aH re 6)^^^(aH re 11))^^^(aH re 25)))) (fun _=>jN (lH (lU (dE _ ho.2.2.2.2.1) (dE _ ho.2.2.2.2.1)) (dE _ ho.2.2.2.2.1)))<|cA (fun _=>(vu (add32 rh (((aH re 6)^^^(aH re 11))^^^(aH re 25))))) (fun _=>jN (bP rh (((aH re 6)^^^(aH re 11))^^^(aH re 25))))<|jY 2<|cA (fun _=>(vu (re&&&rf))) (fun _=>jN (xR ho.2.2.2.2.1 ho.2.2.2.2.2.1))<|jY 1<|cA (fun _=>(vu (dW re))) (fun _=>jN (not_xor32 ho.2.2.2.2.1))<|jY 1<|cA (v:=fun ρ=>(.int .u32 (bits .and .u32 ((dW re:Nat):Int) ((rg:Nat):Int)))) (fun _=>(vu ((dW re)&&&rg))) (fun _=>jN (xR (y9 _) ho.2.2.2.2.2.2.1))<|cA (v:=fun ρ=>(.int .u32 (bits .xor .u32 ((re&&&rf:Nat):Int) (((dW re)&&&rg:Nat):Int)))) (fun _=>(vu ((re&&&rf)^^^((dW re)&&&rg)))) (fun _=>jN (lH (iR _ ho.2.2.2.2.1) (iR _ (y9 _))))<|cA (fun _=>(vu (add32 (add32 rh (((aH re 6)^^^(aH re 11))^^^(aH re 25))) ((re&&&rf)^^^((dW re)&&&rg))))) (fun _=>jN (bP (add32 rh (((aH re 6)^^^(aH re 11))^^^(aH re 25))) ((re&&&rf)^^^((dW re)&&&rg))))<|jY 1<|cX (jS (fun _=>Instr.indexAt 174 (pt 2) (vn i)) (fun _=>(jp 2 i)) (fun _ w=>aX (n:=((i:Nat):Int)) (i:=i) underlying174 sizeOf55 om w))<|cX (qF (v:=fun ρ=>(vu (kN i))) (fun _ _ _ hG=>mY (off:=i) isAgg55 hG.fn.1 (kC_get om)))<|cA (fun _=>(vu (add32 (add32 (add32 rh (((aH re 6)^^^(aH re 11))^^^(aH re 25))) ((re&&&rf)^^^((dW re)&&&rg))) (kN i)))) (fun _=>jN (bP (add32 (add32 rh (((aH re 6)^^^(aH re 11))^^^(aH re 25))) ((re&&&rf)^^^((dW re)&&&rg))) (kN i)))<|jY 1<|cX (jS (fun _=>Instr.indexAt 174 (pt (nb ρ2 2)) (vn i)) (fun _=>(jp (nb ρ2 2) i)) (fun _ w=>aX (n:=((i:Nat):Int)) (i:=i) underlying174 sizeOf55 om w))<|cX (kG _ 2 55 (fun _=>nb ρ2 2) (fun _=>i) (fun _=>(bY .u32 64 (wN X))) 174 (0,0) (fun _=>(vu (wN X i))) (fun _=>by kernel_rfl) isAgg55 (fun _=>(nG om)))<|cA (fun _=>(vu (add32 (add32 (add32 (add32 rh (((aH re 6)^^^(aH re 11))^^^(aH re 25))) ((re&&&rf)^^^((dW re)&&&rg))) (kN i)) (wN X i)))) (fun _=>jN (bP (add32 (add32 (add32 rh (((aH re 6)^^^(aH re 11))^^^(aH re 25))) ((re&&&rf)^^^((dW re)&&&rg))) (kN i)) (wN X i)))<|jX 1) (fun _=>sS f199 21 [2,4,5,6,7,8,9,10,11,12,13,15,16,35] [] (fun _=>let qa:=vu (add32 (((aH ra 2)^^^(aH ra 13))^^^(aH ra 22)) (((ra&&&rb)^^^(ra&&&rc))^^^(rb&&&rc)));[vu ra,vu (aH ra 2),vu ra,vu (aH ra 13),vu ((aH ra 2)^^^(aH ra 13)),vu ra,vu (aH ra 22),vu (((aH ra 2)^^^(aH ra 13))^^^(aH ra 22)),vu ra,vu rb,vu (ra&&&rb),vu ra,vu rc,vu (ra&&&rc),vu ((ra&&&rb)^^^(ra&&&rc)),vu rb,vu rc,vu (rb&&&rc),vu (((ra&&&rb)^^^(ra&&&rc))^^^(rb&&&rc)),qa,qa]) (fun _=>[]) (jY 1<|cC (fun _ w=>lS ra 2 ho.1 (by decide) w)<|jY 1<|cC (fun _ w=>lS ra 13 ho.1 (by decide) w)<|cA (v:=fun ρ=>(.int .u32 (bits .xor .u32 ((aH ra 2:Nat):Int) ((aH ra 13:Nat):Int)))) (fun _=>(vu ((aH ra 2)^^^(aH ra 13)))) (fun _=>jN (lH (dE _ ho.1) (dE _ ho.1)))<|jY 1<|cC (fun _ w=>lS ra 22 ho.1 (by decide) w)<|cA (v:=fun ρ=>(.int .u32 (bits .xor .u32 (((aH ra 2)^^^(aH ra 13):Nat):Int) ((aH ra 22:Nat):Int)))) (fun _=>(vu (((aH ra 2)^^^(aH ra 13))^^^(aH ra 22)))) (fun _=>jN (lH (lU (dE _ ho.1) (dE _ ho.1)) (dE _ ho.1)))<|jY 2<|cA (fun _=>(vu (ra&&&rb))) (fun _=>jN (xR ho.1 ho.2.1))<|jY 2<|cA (fun _=>(vu (ra&&&rc))) (fun _=>jN (xR ho.1 ho.2.2.1))<|cA (v:=fun ρ=>(.int .u32 (bits .xor .u32 ((ra&&&rb:Nat):Int) ((ra&&&rc:Nat):Int)))) (fun _=>(vu ((ra&&&rb)^^^(ra&&&rc)))) (fun _=>jN (lH (iR _ ho.1) (iR _ ho.1)))<|jY 2<|cA (fun _=>(vu (rb&&&rc))) (fun _=>jN (xR ho.2.1 ho.2.2.1))<|cA (v:=fun ρ=>(.int .u32 (bits .xor .u32 (((ra&&&rb)^^^(ra&&&rc):Nat):Int) ((rb&&&rc:Nat):Int)))) (fun _=>(vu (((ra&&&rb)^^^(ra&&&rc))^^^(rb&&&rc)))) (fun _=>jN (lH (lU (iR _ ho.1) (iR _ ho.1)) (iR _ ho.2.1)))<|cA (fun _=>(vu (add32 (((aH ra 2)^^^(aH ra 13))^^^(aH ra 22)) (((ra&&&rb)^^^(ra&&&rc))^^^(rb&&&rc))))) (fun _=>jN (bP (((aH ra 2)^^^(aH ra 13))^^^(aH ra 22)) (((ra&&&rb)^^^(ra&&&rc))^^^(rb&&&rc))))<|jX 1) (fun _=>rS f199 20 [2,4,5,6,7,8,9,10,11,12,13,35] [] (fun _=>let qa:=add32 (add32 (add32 (add32 rh (((aH re 6)^^^(aH re 11))^^^(aH re 25))) ((re&&&rf)^^^((dW re)&&&rg))) (kN i)) (wN X i);let qb:=add32 (((aH ra 2)^^^(aH ra 13))^^^(aH ra 22)) (((ra&&&rb)^^^(ra&&&rc))^^^(rb&&&rc));[vu qa,vu qb,vu (add32 qa qb),vu ra,vu rb,vu rc,vu rd,vu qa,vu (add32 rd qa),vu re,vu rf,vu rg,vu (add32 qa qb),vu ra,vu rb,vu rc,vu (add32 rd qa),vu re,vu rf,vu rg]) (fun _=>[]) (jY 2<|cA (fun _=>(vu (add32 (add32 (add32 (add32 (add32 rh (((aH re 6)^^^(aH re 11))^^^(aH re 25))) ((re&&&rf)^^^((dW re)&&&rg))) (kN i)) (wN X i)) (add32 (((aH ra 2)^^^(aH ra 13))^^^(aH ra 22)) (((ra&&&rb)^^^(ra&&&rc))^^^(rb&&&rc)))))) (fun _=>jN (bP (add32 (add32 (add32 (add32 rh (((aH re 6)^^^(aH re 11))^^^(aH re 25))) ((re&&&rf)^^^((dW re)&&&rg))) (kN i)) (wN X i)) (add32 (((aH ra 2)^^^(aH ra 13))^^^(aH ra 22)) (((ra&&&rb)^^^(ra&&&rc))^^^(rb&&&rc)))))<|jY 5<|cA (fun _=>(vu (add32 rd (add32 (add32 (add32 (add32 rh (((aH re 6)^^^(aH re 11))^^^(aH re 25))) ((re&&&rf)^^^((dW re)&&&rg))) (kN i)) (wN X i))))) (fun _=>jN (bP rd (add32 (add32 (add32 (add32 rh (((aH re 6)^^^(aH re 11))^^^(aH re 25))) ((re&&&rf)^^^((dW re)&&&rg))) (kN i)) (wN X i))))<|jX 11) (fun _=>aJ (aA (rS f199 2 [2,4,5,6,7,8,9,10,11,12,13,35] [] (fun _=>[vn (i+1),vn (i+1)]) (fun _=>[]) (jW (fun ρ=>(((i:Nat):Int)+1)) (fun _=>(i+1)) (fun _=>(aW i 1 om))<|jX 1) (fun _=>?_)))))))))))
  exact mN (i+1,add32 (add32 (add32 (add32 (add32 rh (((aH re 6)^^^(aH re 11))^^^(aH re 25))) ((re&&&rf)^^^((dW re)&&&rg))) (kN i)) (wN X i)) (add32 (((aH ra 2)^^^(aH ra 13))^^^(aH ra 22)) (((ra&&&rb)^^^(ra&&&rc))^^^(rb&&&rc))),ra,rb,rc,add32 rd (add32 (add32 (add32 (add32 rh (((aH re 6)^^^(aH re 11))^^^(aH re 25))) ((re&&&rf)^^^((dW re)&&&rg))) (kN i)) (wN X i)),re,rf,rg) (by show 64-(i+1)<64-i;omega) (⟨om,rnds_next hr⟩) []
 rw [hb1]
 refine bF (aN (aN (aT (aA (sS f199 34 [4] [0,1,0] (fun _=>[pt (nb ρ1 0),vu s0,vu ra,vu (add32 s0 ra),jp (nb ρ1 0) 1,vu s1,vu rb,vu (add32 s1 rb),jp (nb ρ1 0) 2,vu s2,vu rc,vu (add32 s2 rc),jp (nb ρ1 0) 3,vu s3,vu rd,vu (add32 s3 rd),jp (nb ρ1 0) 4,vu s4,vu re,vu (add32 s4 re),jp (nb ρ1 0) 5,vu s5,vu rf,vu (add32 s5 rf),jp (nb ρ1 0) 6,vu s6,vu rg,vu (add32 s6 rg),jp (nb ρ1 0) 7,vu s7,vu rh,vu (add32 s7 rh),.agg #[vu (add32 s0 ra),vu (add32 s1 rb),vu (add32 s2 rc),vu (add32 s3 rd),vu (add32 s4 re),vu (add32 s5 rf),vu (add32 s6 rg),vu (add32 s7 rh)],undef]) (fun _=>[(33,(bD 1 (nb ρ1 2) (cL #[vu (add32 s0 ra),vu (add32 s1 rb),vu (add32 s2 rc),vu (add32 s3 rd),vu (add32 s4 re),vu (add32 s5 rf),vu (add32 s6 rg),vu (add32 s7 rh)] 163)))]) (cR [[],[0],[]]<|cA (fun _=>(vu (add32 s0 ra))) (fun _=>jN (bP s0 ra))<|cR [[],[0],[]]<|cA (fun _=>(vu (add32 s1 rb))) (fun _=>jN (bP s1 rb))<|cR [[],[0],[]]<|cA (fun _=>(vu (add32 s2 rc))) (fun _=>jN (bP s2 rc))<|cR [[],[0],[]]<|cA (fun _=>(vu (add32 s3 rd))) (fun _=>jN (bP s3 rd))<|cR [[],[0],[]]<|cA (fun _=>(vu (add32 s4 re))) (fun _=>jN (bP s4 re))<|cR [[],[0],[]]<|cA (fun _=>(vu (add32 s5 rf))) (fun _=>jN (bP s5 rf))<|cR [[],[0],[]]<|cA (fun _=>(vu (add32 s6 rg))) (fun _=>jN (bP s6 rg))<|cR [[],[0],[]]<|cA (fun _=>(vu (add32 s7 rh))) (fun _=>jN (bP s7 rh))<|jE [[],[1]]) (fun _=>aF ?_))))))
 exact mR (v:=(.agg #[vu (add32 s0 ra),vu (add32 s1 rb),vu (add32 s2 rc),vu (add32 s3 rd),vu (add32 s4 re),vu (add32 s5 rf),vu (add32 s6 rg),vu (add32 s7 rh)])) (fun _ hS=>⟨congrArg Ending.returned (by rw [cmp_end hr (show i=64 by have:=yF hb1;omega)]),hS.bel⟩)
theorem sum_any (a:OA) (c:Nat) (B:LU) (h0:0<B.length) (hl:B.length+73≤140737488351232) (w0:World) (hf0:Bs w0 a c B) (hf1:kJ w0) (hf2:fU w0):Calls prog 178 #[.slice a B.length c] w0 (jR (.agg (hB (aU B))) w0):=by
 refine Calls.cW 48 (fun w=>Bs w a c B∧kJ w∧fU w∧True) func178 rfl rfl rfl (hf0.pers0.and (hf1.pers0.and (hf2.pers0.and cO))) (sS f178 1 [0,2] [] (fun ρ=>[pt (nb ρ 0)]) (fun ρ=>[(0,(nw ρ 0 (cL (hB 0) 57)))]) (jX 1) (fun ρ1=>iZ f178 8 [2,3] [1,0] (fun ρ=>let qa:Value:=.slice (oa ρ 6) (B++(aY B.length)).length (nb ρ 6);[.slice a B.length c,.slice a B.length c,vn B.length,vx B.length,.slice (oa ρ 4) (aY B.length).length (nb ρ 4),vs (nb ρ 5) 2 2,qa,qa]) (fun ρ=>[(5,(nw ρ 5 (cL #[.slice a B.length c,.slice (oa ρ 4) (aY B.length).length (nb ρ 4)] 37)))]) (fun ρ=>[(4,fun w=>Fs w0 w (oa ρ 4) (nb ρ 4) (aY B.length)),(6,fun w=>Fs w0 w (oa ρ 6) (nb ρ 6) (B++(aY B.length)))]) (fun ρ=>(fun w=>Bs w a c B∧kJ w∧fU w∧Fs w0 w (oa ρ 4) (nb ρ 4) (aY B.length)∧Fs w0 w (oa ρ 6) (nb ρ 6) (B++(aY B.length))∧True)) (fun _=>True) (fun _ _ hF hf=>⟨⟨hF.1,hF.2.1,hF.2.2.1,hf 4,hf 6,trivial⟩,trivial⟩) (jY 3<|cA (v:=fun ρ=>(.int .u64 (IntKind.u64.wrap ((B.length:Nat):Int)))) (fun _=>(vx B.length)) (fun _=>congrArg (Value.int .u64) (u64N (oB (bJ B) (aS B.length))))<|cX (qB (fun _ _ w _=>pad_any B.length (oB (bJ B) (aS B.length)) w))<|jY 1<|cX (qB (fun ρ _ w hG=>yA (nb ρ 5) a c B (oa ρ 4) (nb ρ 4) (aY B.length) (oB (yG B.length) (aS B.length)) h0 w (Kb.of_block (hG.kn (g:=nb ρ 5) (o:=(cL #[.slice a B.length c,.slice (oa ρ 4) (aY B.length).length (nb ρ 4)] 37)) 41)) hG.fn.1 (show Fs w0 w (oa ρ 4) (nb ρ 4) (aY B.length) from (hG.facts 4 rfl).now).1))<|jX 1) (fun ρ2 _=>sS f178 3 [2,3,4] [] (fun ρ=>[.agg #[.int .u32 1779033703,.int .u32 3144134277,.int .u32 1013904242,.int .u32 2773480762,.int .u32 1359893119,.int .u32 2600822924,.int .u32 528734635,.int .u32 1541459225],pt (nb ρ 1),undef]) (fun ρ=>[(1,(nw ρ 1 (cL #[.int .u32 0,.int .u32 0,.int .u32 0,.int .u32 0,.int .u32 0,.int .u32 0,.int .u32 0,.int .u32 0] 163))),(2,(bD 9 (nb ρ 1) (cL #[.int .u32 1779033703,.int .u32 3144134277,.int .u32 1013904242,.int .u32 2773480762,.int .u32 1359893119,.int .u32 2600822924,.int .u32 528734635,.int .u32 1541459225] 163)))]) (cX (qF (v:=fun ρ=>(.agg #[.int .u32 1779033703,.int .u32 3144134277,.int .u32 1013904242,.int .u32 2773480762,.int .u32 1359893119,.int .u32 2600822924,.int .u32 528734635,.int .u32 1541459225])) (fun _ _ _ hG=>ld_blkA (off:=0) (vs:=[.int .u32 1779033703,.int .u32 3144134277,.int .u32 1013904242,.int .u32 2773480762,.int .u32 1359893119,.int .u32 2600822924,.int .u32 528734635,.int .u32 1541459225]) isAgg163 sizeOf163 hG.fn.2.2.1 rfl (fun _ _=>by rw [Nat.zero_add];simp)))<|jE [[],[9]]) (fun ρ3=>aB (sS f178 4 [2,3,4,18,19] [] (fun _=>[.slice (oa ρ2 6) (B++(aY B.length)).length (nb ρ2 6),vn (B++(aY B.length)).length,vn ((B++(aY B.length)).length / 64),vi 0]) (fun _=>[]) (jY 2<|cB (a:=fun ρ=>(vn (B++(aY B.length)).length)) (b:=fun ρ=>(vi 64)) (v:=fun ρ=>(vn ((B++(aY B.length)).length / 64))) .quo 3 (fun _ w=>run_quoI (n:=(B++(aY B.length)).length) (d:=64) (by decide) (oB (bJ B) (aS B.length)) w)<|jX 1) (fun _=>aI ?_))))))
 refine oL (σ:=Nat × Nat × Nat × Nat × Nat × Nat × Nat × Nat × Nat) (fun ⟨i,_,_,_,_,_,_,_,_⟩=>[(2,(pt (nb ρ1 0))),(3,(.slice (oa ρ2 6) (B++(aY B.length)).length (nb ρ2 6))),(4,(pt (nb ρ3 1))),(18,(vn ((B++(aY B.length)).length / 64))),(19,(vn i))]) (fun ⟨_,t0,t1,t2,t3,t4,t5,t6,t7⟩=>[(nb ρ1 0,(cL (hB 0) 57)),(nb ρ3 1,(cL #[vu t0,vu t1,vu t2,vu t3,vu t4,vu t5,vu t6,vu t7] 163))]) (fun ⟨i,_,_,_,_,_,_,_,_⟩=>(B++(aY B.length)).length / 64-i)
  (fun ⟨i,t0,t1,t2,t3,t4,t5,t6,t7⟩=>(i≤(B++(aY B.length)).length / 64)∧(xBK (B++(aY B.length)) i=(t0,t1,t2,t3,t4,t5,t6,t7))) (0,1779033703,3144134277,1013904242,2773480762,1359893119,2600822924,528734635,1541459225) (⟨Nat.zero_le _,rfl⟩) [] ?_
 rintro ⟨i,t0,t1,t2,t3,t4,t5,t6,t7⟩ ⟨hi,hQ⟩
 refine jJ f178 1 [2,3,4,18,19,20] [.bool (decide (((i:Nat):Int)<(((B++(aY B.length)).length / 64:Nat):Int)))] (aB (oC (decide (((i:Nat):Int)<(((B++(aY B.length)).length / 64:Nat):Int))) (fun hb1=>?_) (fun hb1=>?_)))
 ·rw [hb1]
  have:=yT hb1
  refine aG (aA (aB (aI (jJ f178 2 [2,3,4,5,18,19] [vn i,vn i] (rDf f178 [0,0,0,4,14,30,62,127,255] 9 [2,3,4,18,19] [] (fun _=>let qa:=eF (t0,t1,t2,t3,t4,t5,t6,t7) ((mid (B++(aY B.length)) (64*i) (B++(aY B.length)).length).take 64);let qb:=mid (B++(aY B.length)) (64*i) (B++(aY B.length)).length;[.agg #[vu t0,vu t1,vu t2,vu t3,vu t4,vu t5,vu t6,vu t7],.slice (oa ρ2 6) (B++(aY B.length)).length (nb ρ2 6),vn i,vn (64*i),.slice (uF (oa ρ2 6) (64*i) (nb ρ2 6)) qb.length ((nb ρ2 6)-(64*i)),.pointer (uF (oa ρ2 6) (64*i) (nb ρ2 6)),.agg (bs (qb.take 64)).toArray,.agg #[vu (qa.1),vu (qa.2.1),vu (qa.2.2.1),vu (qa.2.2.2.1),vu (qa.2.2.2.2.1),vu (qa.2.2.2.2.2.1),vu (qa.2.2.2.2.2.2.1),vu (qa.2.2.2.2.2.2.2)],undef]) (fun _=>let qa:=eF (t0,t1,t2,t3,t4,t5,t6,t7) ((mid (B++(aY B.length)) (64*i) (B++(aY B.length)).length).take 64);[(8,(bD 1 (nb ρ3 1) (cL #[vu (qa.1),vu (qa.2.1),vu (qa.2.2.1),vu (qa.2.2.2.1),vu (qa.2.2.2.2.1),vu (qa.2.2.2.2.2.1),vu (qa.2.2.2.2.2.2.1),vu (qa.2.2.2.2.2.2.2)] 163)))]) (fun _=>[(4,fun w=>Bs w (uF (oa ρ2 6) (64*i) (nb ρ2 6)) ((nb ρ2 6)-(64*i)) (mid (B++(aY B.length)) (64*i) (B++(aY B.length)).length))]) (fun _=>(fun w=>Bs w a c B∧kJ w∧fU w∧Fs w0 w (oa ρ2 4) (nb ρ2 4) (aY B.length)∧Fs w0 w (oa ρ2 6) (nb ρ2 6) (B++(aY B.length))∧Bs w (uF (oa ρ2 6) (64*i) (nb ρ2 6)) ((nb ρ2 6)-(64*i)) (mid (B++(aY B.length)) (64*i) (B++(aY B.length)).length)∧True)) (fun _=>True) (fun _ _ hF hf=>⟨⟨hF.1,hF.2.1,hF.2.2.1,hF.2.2.2.1,hF.2.2.2.2.1,hf 4,trivial⟩,trivial⟩) (cR [[1],[],[]]<|jW (fun ρ=>(64*((i:Nat):Int))) (fun _=>(64*i)) (fun _=>(fQ 64 i (oB (bJ B) (aS B.length))))<|cX (jF (fun _=>Instr.sliceAt 37 (.slice (oa ρ2 6) (B++(aY B.length)).length (nb ρ2 6)) (some (vn (64*i))) none none) (fun _=>(.slice (uF (oa ρ2 6) (64*i) (nb ρ2 6)) (mid (B++(aY B.length)) (64*i) (B++(aY B.length)).length).length ((nb ρ2 6)-(64*i)))) (fun _ _ _ hG=>vH (l:=64*i) (k:=(B++(aY B.length)).length) underlying37 nH hG.fn.2.2.2.2.1.1 rfl (Or.inr (congrArg (fun z=>some (Value.int .i64 z)) (rfl))) (Or.inl ⟨rfl,rfl⟩) (oB (bJ B) (aS B.length)) (Nat.le_refl _)) (fun _ _ w hG=>hG.facts0.mono (fun _ hF=>hF.2.2.2.2.1.1.mid (oB (bJ B) (aS B.length)) (Nat.le_refl _))))<|cX (jF (fun _=>Instr.arrayAt 165 (.slice (uF (oa ρ2 6) (64*i) (nb ρ2 6)) (mid (B++(aY B.length)) (64*i) (B++(aY B.length)).length).length ((nb ρ2 6)-(64*i)))) (fun _=>(.pointer (uF (oa ρ2 6) (64*i) (nb ρ2 6)))) (fun _ _ _ _=>arr_bytes underlying165 (by rw [kS _ _ _ (Nat.le_refl _)];have:=bJ B;have:=aS B.length;omega)) (fun _ _ _ _=>cO))<|cX (qF (fun _ _ w hG=>ld_arr isAgg165 sizeOf165 (show Bs w (uF (oa ρ2 6) (64*i) (nb ρ2 6)) ((nb ρ2 6)-(64*i)) (mid (B++(aY B.length)) (64*i) (B++(aY B.length)).length) from (hG.facts 4 rfl).now) (by rw [kS _ _ _ (Nat.le_refl _)];have:=bJ B;have:=aS B.length;omega) (by decide)))<|cX (qC (fun _ _ w hG=>compress_any t0 t1 t2 t3 t4 t5 t6 t7 ((mid (B++(aY B.length)) (64*i) (B++(aY B.length)).length).take 64) (hQ ▸ xA (B++(aY B.length)) i) (by rw [List.length_take,kS _ _ _ (Nat.le_refl _)];have:=bJ B;have:=aS B.length;omega) w hG.fn.2.1))<|jE [[1]]) (fun _ _=>aJ (aA (rS f178 2 [2,3,4,18,19] [] (fun _=>[vn (i+1),vn (i+1)]) (fun _=>[]) (jW (fun ρ=>(((i:Nat):Int)+1)) (fun _=>(i+1)) (fun _=>(aW i 1 (oB (bJ B) (aS B.length))))<|jX 1) (fun _=>nD (fun w=>Bs w a c B∧kJ w∧fU w∧Fs w0 w (oa ρ2 4) (nb ρ2 4) (aY B.length)∧Fs w0 w (oa ρ2 6) (nb ρ2 6) (B++(aY B.length))∧True) (fun w hF=>⟨hF.1,hF.2.1,hF.2.2.1,hF.2.2.2.1,hF.2.2.2.2.1,trivial⟩) ?_)))))))))
  exact mN (i+1,(eF (t0,t1,t2,t3,t4,t5,t6,t7) ((mid (B++(aY B.length)) (64*i) (B++(aY B.length)).length).take 64)).1,(eF (t0,t1,t2,t3,t4,t5,t6,t7) ((mid (B++(aY B.length)) (64*i) (B++(aY B.length)).length).take 64)).2.1,(eF (t0,t1,t2,t3,t4,t5,t6,t7) ((mid (B++(aY B.length)) (64*i) (B++(aY B.length)).length).take 64)).2.2.1,(eF (t0,t1,t2,t3,t4,t5,t6,t7) ((mid (B++(aY B.length)) (64*i) (B++(aY B.length)).length).take 64)).2.2.2.1,(eF (t0,t1,t2,t3,t4,t5,t6,t7) ((mid (B++(aY B.length)) (64*i) (B++(aY B.length)).length).take 64)).2.2.2.2.1,(eF (t0,t1,t2,t3,t4,t5,t6,t7) ((mid (B++(aY B.length)) (64*i) (B++(aY B.length)).length).take 64)).2.2.2.2.2.1,(eF (t0,t1,t2,t3,t4,t5,t6,t7) ((mid (B++(aY B.length)) (64*i) (B++(aY B.length)).length).take 64)).2.2.2.2.2.2.1,(eF (t0,t1,t2,t3,t4,t5,t6,t7) ((mid (B++(aY B.length)) (64*i) (B++(aY B.length)).length).take 64)).2.2.2.2.2.2.2) (by show (B++(aY B.length)).length / 64-(i+1)<(B++(aY B.length)).length / 64-i;have:=bJ B;have:=aS B.length;omega) (⟨(oB (bJ B) (aS B.length)),sha_next hQ (oB (bJ B) (aS B.length))⟩) []
 rw [hb1]
 have:=yF hb1
 refine bF (aN (aN (aT (aA (sS f178 1 [2,4,6] [] (fun ρ=>[pt (nb ρ 0)]) (fun ρ=>[(0,(nw ρ 0 (cL (hB 0) 57)))]) (jX 1) (fun ρ9=>aB (jJ f178 1 [2,4,6,31] [vi 0] (aI ?_))))))))
 refine oL (σ:=Nat × (Array Value)) (fun ⟨m,_⟩=>[(2,(pt (nb ρ1 0))),(4,(pt (nb ρ3 1))),(6,(pt (nb ρ9 0))),(31,(vn m))]) (fun ⟨_,C⟩=>[(nb ρ1 0,(cL (hB 0) 57)),(nb ρ3 1,(cL #[vu t0,vu t1,vu t2,vu t3,vu t4,vu t5,vu t6,vu t7] 163)),(nb ρ9 0,(cL C 57))]) (fun ⟨m,_⟩=>32-m)
  (fun ⟨m,C⟩=>(m≤32)∧(C=bY .u8 32 (yU (t0,t1,t2,t3,t4,t5,t6,t7) m))) (0,hB 0) (⟨by decide,hB0_row (t0,t1,t2,t3,t4,t5,t6,t7)⟩) [] ?_
 rintro ⟨m,C⟩ ⟨hm,hC⟩
 refine jJ f178 1 [2,4,6,31,32] [.bool (decide (((m:Nat):Int)<32))] (aB (oC (decide (((m:Nat):Int)<32)) (fun hb2=>?_) (fun hb2=>?_)))
 ·rw [hb2]
  have:=yT hb2
  refine aG (aA (aB (aI (jJ f178 2 [2,4,6,7,31] [vn m,vn m] (rS f178 13 [2,4,6,31] [] (fun _=>[vn m,vn m,vn (m / 4),jp (nb ρ3 1) (m / 4),vu (iT (t0,t1,t2,t3,t4,t5,t6,t7) (m / 4)),vn m,vn (m%4),vn ((m%4)*8),vn (24-m%4*8),vu (iT (t0,t1,t2,t3,t4,t5,t6,t7) (m / 4) / 2^(24-m%4*8)),vy (iT (t0,t1,t2,t3,t4,t5,t6,t7) (m / 4) / 2^(24-m%4*8)%256),jp (nb ρ9 0) m,undef]) (fun _=>[(12,(bD 2 (nb ρ9 0) (cL (C.setIfInBounds m (vy (iT (t0,t1,t2,t3,t4,t5,t6,t7) (m / 4) / 2^(24-m%4*8)%256))) 57)))]) (jY 2<|cB (a:=fun ρ=>(vn m)) (b:=fun ρ=>(vi 4)) (v:=fun ρ=>(vn (m / 4))) .quo 3 (fun _ w=>run_quoI (n:=m) (d:=4) (by decide) (oB (bJ B) (aS B.length)) w)<|cX (jS (fun _=>Instr.indexAt 163 (pt (nb ρ3 1)) (vn (m / 4))) (fun _=>(jp (nb ρ3 1) (m / 4))) (fun _ w=>aX (n:=((m / 4:Nat):Int)) (i:=m / 4) underlying163 sizeOf55 (oB (bJ B) (aS B.length)) w))<|cX (kG _ 1 55 (fun _=>nb ρ3 1) (fun _=>m / 4) (fun _=> #[vu t0,vu t1,vu t2,vu t3,vu t4,vu t5,vu t6,vu t7]) 163 (0,0) (fun _=>(vu (iT (t0,t1,t2,t3,t4,t5,t6,t7) (m / 4)))) (fun _=>by kernel_rfl) isAgg55 (fun _=>sel_get (oB (bJ B) (aS B.length))))<|jY 1<|cB (a:=fun ρ=>(vn m)) (b:=fun ρ=>(vi 4)) (v:=fun ρ=>(vn (m%4))) .rem 3 (fun _ w=>zT (k:=.i64) (n:=m) (d:=4) (by decide) w)<|jW (fun ρ=>(((m%4:Nat):Int)*8)) (fun _=>((m%4)*8)) (fun _=>(fQ (m%4) 8 (oB (bJ B) (aS B.length))))<|jW (fun ρ=>(24-(((m%4)*8:Nat):Int))) (fun _=>(24-m%4*8)) (fun _=>((gZ (oB (bJ B) (aS B.length))).trans om))<|cB (a:=fun ρ=>(vu (iT (t0,t1,t2,t3,t4,t5,t6,t7) (m / 4)))) (b:=fun ρ=>(vn (24-m%4*8))) (v:=fun ρ=>(vu (iT (t0,t1,t2,t3,t4,t5,t6,t7) (m / 4) / 2^(24-m%4*8)))) .shr 55 (fun _ w=>gG (k:=.u32) (x:=iT (t0,t1,t2,t3,t4,t5,t6,t7) (m / 4)) (c:=24-m%4*8) (sel8_lt (hQ ▸ xA _ i) _) w)<|cA (fun _=>(vy (iT (t0,t1,t2,t3,t4,t5,t6,t7) (m / 4) / 2^(24-m%4*8)%256))) (fun _=>congrArg (Value.int .u8) (u8M (iT (t0,t1,t2,t3,t4,t5,t6,t7) (m / 4) / 2^(24-m%4*8))))<|cX (jS (fun _=>Instr.indexAt 57 (pt (nb ρ9 0)) (vn m)) (fun _=>(jp (nb ρ9 0) m)) (fun _ w=>aX (n:=((m:Nat):Int)) (i:=m) underlying57 sizeOf5 (oB (bJ B) (aS B.length)) w))<|cX (qG _ 2 5 (fun _=>nb ρ9 0) (fun _=>m) (fun _=>C) (fun _=>(C.setIfInBounds m (vy (iT (t0,t1,t2,t3,t4,t5,t6,t7) (m / 4) / 2^(24-m%4*8)%256)))) 57 (fun _=>(vy (iT (t0,t1,t2,t3,t4,t5,t6,t7) (m / 4) / 2^(24-m%4*8)%256))) (fun _=>by kernel_rfl) sizeOf5 (fun _=>rfl) (fun _=>(by rw [hC,eH];have:=bJ B;have:=aS B.length;omega)) (fun _=>rfl))<|cN) (fun _=>aJ (aA (rS f178 2 [2,4,6,31] [] (fun _=>[vn (m+1),vn (m+1)]) (fun _=>[]) (jW (fun ρ=>(((m:Nat):Int)+1)) (fun _=>(m+1)) (fun _=>(aW m 1 (oB (bJ B) (aS B.length))))<|jX 1) (fun _=>?_)))))))))
  exact mN (m+1,C.setIfInBounds m (vy (iT (t0,t1,t2,t3,t4,t5,t6,t7) (m / 4) / 2^(24-m%4*8)%256))) (by show 32-(m+1)<32-m;have:=bJ B;have:=aS B.length;omega) (⟨(oB (bJ B) (aS B.length)),by rw [hC];exact zI rfl⟩) []
 rw [hb2]
 refine bF (aN (aN (aT ?_)))
 rw [hC]
 refine aA (sS f178 2 [2] [1,0,0] (fun _=>[.agg (bY .u8 32 (yU (t0,t1,t2,t3,t4,t5,t6,t7) m)),undef]) (fun _=>[(1,(bD 0 (nb ρ1 0) (cL (bY .u8 32 (yU (t0,t1,t2,t3,t4,t5,t6,t7) m)) 57)))]) (cX (qF (fun _ _ _ hG=>vS isAgg57 sizeOf57 (hG.kn (g:=nb ρ9 0) (o:=(cL (bY .u8 32 (yU (t0,t1,t2,t3,t4,t5,t6,t7) m)) 57)) 2) (eH _ _ _)))<|jE [[0]]) (fun _=>aF ?_))
 exact mR (v:=(.agg (bY .u8 32 (yU (t0,t1,t2,t3,t4,t5,t6,t7) m)))) (fun _ hS=>⟨congrArg Ending.returned (congrArg Value.agg ((dgf_end (by have:=yF hb2;have:=bJ B;have:=aS B.length;omega)).trans (congrArg hB (sha_end hQ (by have:=yF hb2;have:=bJ B;have:=aS B.length;omega))))),hS.bel⟩)
theorem yM (T:LU) (a:OA) (c:Nat) (B:LU) (hT:0<T.length∧T.length≤1000) (hl:B.length+200≤140737488351232) (w0:World) (hf0:Bs w0 a c B) (hf1:kJ w0) (hf2:fU w0):Calls prog 175 #[.string (gY T),.slice a B.length c] w0 (jR (.agg (hB (lV T B))) w0):=by
 refine Calls.cW 15 (fun w=>Bs w a c B∧kJ w∧fU w∧True) func175 rfl rfl rfl (hf0.pers0.and (hf1.pers0.and (hf2.pers0.and cO))) (sS f175 1 [0,1,4] [] (fun ρ=>[pt (nb ρ 0)]) (fun ρ=>[(0,(nw ρ 0 (cL (hB 0) 57)))]) (jX 1) (fun ρ1=>iZ f175 5 [1,4,5] [] (fun ρ=>[.string (gY T),.slice (oa ρ 1) T.length (nb ρ 1),.agg (hB (aU T)),pt (nb ρ 3),undef]) (fun ρ=>[(3,(nw ρ 3 (cL (hB 0) 57))),(4,(bD 25 (nb ρ 3) (cL (hB (aU T)) 57)))]) (fun ρ=>[(1,fun w=>Fs w0 w (oa ρ 1) (nb ρ 1) T)]) (fun ρ=>(fun w=>Bs w a c B∧kJ w∧fU w∧Fs w0 w (oa ρ 1) (nb ρ 1) T∧True)) (fun _=>True) (fun _ _ hF hf=>⟨⟨hF.1,hF.2.1,hF.2.2.1,hf 1,trivial⟩,trivial⟩) (jY 1<|cX (o_newF _ (fun _=>do pure (Next.value (← convert 9 37 (.string (gY T))))) (fun _ α κ=>(.slice α T.length κ)) (fun _=>T) (fun _ _=>(by kernel_rfl)) (fun _=>(by kernel_rfl)) (fun _ _=>(by kernel_rfl)) (fun _ _ w _=>bytes_str underlying9 underlying37 underlying5 T om w))<|cX (qC (fun ρ _ w hG=>sum_any (oa ρ 1) (nb ρ 1) T hT.1 om w (show Fs w0 w (oa ρ 1) (nb ρ 1) T from (hG.facts 1 rfl).now).1 hG.fn.2.1 hG.fn.2.2.1))<|jE [[],[25]]) (fun ρ2 _=>sDf f175 [0,0,0,7,15,31,63] 7 [4] [1,0,0] (fun ρ=>let qa:=vs (nb ρ2 3) (hL (aU T)).length 32;[qa,qa,.slice a B.length c,vs (nb ρ 3) 3 3,.slice (oa ρ 4) (((hL (aU T))++(hL (aU T)))++B).length (nb ρ 4),.agg (hB (aU (((hL (aU T))++(hL (aU T)))++B))),undef]) (fun ρ=>let qa:=vs (nb ρ2 3) (hL (aU T)).length 32;[(3,(nw ρ 3 (cL #[qa,qa,.slice a B.length c] 37))),(6,(bD 0 (nb ρ1 0) (cL (hB (aU (((hL (aU T))++(hL (aU T)))++B))) 57)))]) (fun ρ=>[(4,fun w=>Fs w0 w (oa ρ 4) (nb ρ 4) (((hL (aU T))++(hL (aU T)))++B))]) (fun ρ=>(fun w=>Bs w a c B∧kJ w∧fU w∧Fs w0 w (oa ρ2 1) (nb ρ2 1) T∧Fs w0 w (oa ρ 4) (nb ρ 4) (((hL (aU T))++(hL (aU T)))++B)∧True)) (fun _=>True) (fun _ _ hF hf=>⟨⟨hF.1,hF.2.1,hF.2.2.1,hF.2.2.2.1,hf 4,trivial⟩,trivial⟩) (jY 4<|cX (qB (fun ρ _ w hG=>shrow3_any (nb ρ 3) (some ⟨nb ρ2 3,0,none⟩) 32 (hL (aU T)) (some ⟨nb ρ2 3,0,none⟩) 32 (hL (aU T)) a c B (by simp only [aO];omega) (by rw [aO];decide) w (Kb.of_block (hG.kn (g:=nb ρ 3) (o:=(cL #[vs (nb ρ2 3) (hL (aU T)).length 32,vs (nb ρ2 3) (hL (aU T)).length 32,.slice a B.length c] 37)) 26)) (Bs.of_hd (c:=32) (hG.kn (g:=nb ρ2 3) (o:=(cL (hB (aU T)) 57)) 1) (xBR _) (Nat.le_refl _) (Nat.le_of_ble_eq_true rfl)) (Bs.of_hd (c:=32) (hG.kn (g:=nb ρ2 3) (o:=(cL (hB (aU T)) 57)) 1) (xBR _) (Nat.le_refl _) (Nat.le_of_ble_eq_true rfl)) hG.fn.1))<|cX (qC (fun ρ _ w hG=>sum_any (oa ρ 4) (nb ρ 4) (((hL (aU T))++(hL (aU T)))++B) (by simp only [List.length_append,aO];omega) (by simp only [List.length_append,aO];omega) w (show Fs w0 w (oa ρ 4) (nb ρ 4) (((hL (aU T))++(hL (aU T)))++B) from (hG.facts 4 rfl).now).1 hG.fn.2.1 hG.fn.2.2.1))<|jE [[0]]) (fun _ _=>aF ?_))))
 exact mR (v:=(.agg (hB (aU (((hL (aU T))++(hL (aU T)))++B))))) (fun _ hS=>⟨congrArg Ending.returned (congrArg (fun z=>Value.agg (hB z)) (by rw [lV,hL_sha])),hS.bel⟩)
theorem reduce_w (a:Nat) (m:Nat) (ha:a<M) (hm:m<M) (w0:World):Calls prog 208 #[U a,U m] w0 (jR (U (aQ a m)) w0):=by
 refine Calls.cW 22 (fun _=>True) func208 rfl rfl rfl jT (sS f208 3 [2,3,4] [] (fun ρ=>[pt (nb ρ 0),pt (nb ρ 1),pt (nb ρ 2)]) (fun ρ=>[(0,(nw ρ 0 (cL (cU a) 64))),(1,(nw ρ 1 (cL (cU m) 64))),(2,(nw ρ 2 (cL (cU 0) 64)))]) (jX 3) (fun ρ1=>aB (sS f208 4 [2,3,4,11] [] (fun _=>[U a,U m,vi (fJ a m),.bool (decide ((fJ a m)<0))]) (fun _=>[]) (cR [[0],[1]]<|cC (fun _ w=>uN a m w ha hm)<|jX 1) (fun _=>oC (decide ((fJ a m)<0)) (fun hb1=>?_) (fun hb1=>?_)))))
 ·rw [hb1]
  refine sS f208 2 [2,3,4] [] (fun _=>[U a,undef]) (fun _=>[(1,(bD 2 (nb ρ1 2) (cL (cU a) 64)))]) (jE [[0],[2]]) (fun _=>aF (aC ?_))
  exact mR (v:=(U a)) (ps:=[2,2,2,2]) (fun _ hS=>⟨congrArg (fun x=>Ending.returned (U x)) (red_lt hb1),hS.bel⟩)
 rw [hb1]
 refine aG (aA (sS f208 13 [4,6] [0,0,1,0,1] (fun ρ=>let qa:Value:=.bool (decide (0<m));[U 0,U a,U m,.tuple #[U (qQ 0 a m),U (iV 0 a m),qa],.tuple #[U (qQ 0 a m),U (iV 0 a m),qa],U (qQ 0 a m),U (iV 0 a m),qa,pt (nb ρ 8),pt (nb ρ 9),undef,undef,qa]) (fun ρ=>[(8,(nw ρ 8 (cL (cU 0) 64))),(9,(nw ρ 9 (cL (cU 0) 64))),(10,(bD 67 (nb ρ 8) (cL (cU (qQ 0 a m)) 64))),(11,(bD 75 (nb ρ 9) (cL (cU (iV 0 a m)) 64)))]) (cR [[],[0],[1]]<|cC (fun _ w=>div_any 0 a m w (by decide +kernel) ha hm)<|jE [[],[],[],[],[],[],[67],[75],[]]) (fun _=>sS f208 2 [4] [1,0] (fun _=>[U (iV 0 a m),undef]) (fun _=>[(1,(bD 0 (nb ρ1 2) (cL (cU (iV 0 a m)) 64)))]) (jE [[1],[0]]) (fun _=>aF ?_))))
 exact mR (v:=(U (iV 0 a m))) (fun _ hS=>⟨congrArg (fun x=>Ending.returned (U x)) (red_div hb1),hS.bel⟩)
theorem yE (a m:Nat) (w0:World) (ha:a<M) (hm:m<M):Calls prog 208 #[U a,U m] w0 (jR (U (aQ a m)) w0):=reduce_w a m ha hm w0
theorem rreduce_w (a:Nat) (m:Nat) (ha:a<M) (hm:m<M) (w0:World):Calls prog 188 #[U a,U m] w0 (jR (U (aQ a m)) w0):=by
 refine Calls.cW 17 (fun _=>True) func188 rfl rfl rfl jT (sS f188 3 [2,3,4] [] (fun ρ=>[pt (nb ρ 0),pt (nb ρ 1),pt (nb ρ 2)]) (fun ρ=>[(0,(nw ρ 0 (cL (cU a) 64))),(1,(nw ρ 1 (cL (cU m) 64))),(2,(nw ρ 2 (cL (cU 0) 64)))]) (jX 3) (fun ρ1=>sS f188 13 [4,6] [0,0,1,0,1] (fun ρ=>let qa:Value:=.bool (decide (0<m));[U 0,U a,U m,.tuple #[U (qQ 0 a m),U (iV 0 a m),qa],.tuple #[U (qQ 0 a m),U (iV 0 a m),qa],U (qQ 0 a m),U (iV 0 a m),qa,pt (nb ρ 8),pt (nb ρ 9),undef,undef,qa]) (fun ρ=>[(8,(nw ρ 8 (cL (cU 0) 64))),(9,(nw ρ 9 (cL (cU 0) 64))),(10,(bD 67 (nb ρ 8) (cL (cU (qQ 0 a m)) 64))),(11,(bD 75 (nb ρ 9) (cL (cU (iV 0 a m)) 64)))]) (cR [[],[0],[1]]<|cC (fun _ w=>rdiv_any 0 a m w (by decide +kernel) ha hm)<|jE [[],[],[],[],[],[],[67],[75],[]]) (fun _=>sS f188 2 [4] [1,0] (fun _=>[U (iV 0 a m),undef]) (fun _=>[(1,(bD 0 (nb ρ1 2) (cL (cU (iV 0 a m)) 64)))]) (jE [[1],[0]]) (fun _=>aF ?_))))
 exact mR (v:=(U (iV 0 a m))) (fun _ hS=>⟨congrArg (fun x=>Ending.returned (U x)) (red_div0 a m),hS.bel⟩)
theorem oM (a m:Nat) (w0:World) (ha:a<M) (hm:m<M):Calls prog 188 #[U a,U m] w0 (jR (U (aQ a m)) w0):=rreduce_w a m ha hm w0
theorem mul64_any (x y:Int) (hx:Word x) (hy:Word y) (w:World):Calls prog 205 #[.int .u64 x,.int .u64 y] w fun ε w'=>ε=.returned (.tuple #[.int .u64 (mJ x y),.int .u64 (bZ x y)])∧Below w.heap.size w w':=by
 obtain ⟨x,rfl⟩:=Int.eq_ofNat_of_zero_le hx.1
 obtain ⟨y,rfl⟩:=Int.eq_ofNat_of_zero_le hy.1
 refine (mul64_nat x y (oA hx.2) (oA hy.2) w).mono ?_
 rintro e w' ⟨rfl,rfl⟩
 refine ⟨?_,Below.refl _ _⟩
 unfold mJ bZ
 rw [Int.natCast_ediv,Int.natCast_emod,Int.natCast_mul];rfl
theorem mul_w (a:Nat) (b:Nat) (ha:a<M) (hb:b<M) (w0:World):Calls prog 206 #[U a,U b] w0 (jR (.tuple #[U (a*b / M),U (a*b%M)]) w0):=by
 refine Calls.cW 69 (fun _=>True) func206 rfl rfl rfl jT (sS f206 4 [2,3,4,5] [] (fun ρ=>[pt (nb ρ 0),pt (nb ρ 1),pt (nb ρ 2),pt (nb ρ 3)]) (fun ρ=>[(0,(nw ρ 0 (cL (cU a) 64))),(1,(nw ρ 1 (cL (cU b) 64))),(2,(nw ρ 2 (cL (cU 0) 64))),(3,(nw ρ 3 (cL (cU 0) 64)))]) (jX 4) (fun ρ1=>sS f206 1 [2,3,4,5,6] [] (fun ρ=>[pt (nb ρ 0)]) (fun ρ=>[(0,(nw ρ 0 (cL #[.int .u64 0,.int .u64 0,.int .u64 0,.int .u64 0,.int .u64 0,.int .u64 0,.int .u64 0,.int .u64 0] 187)))]) (jX 1) (fun ρ2=>aB (jJ f206 1 [2,3,4,5,6,14] [vi 0] (aI ?_)))))
 refine oL (σ:=Nat × (Nat→Int)) (fun ⟨i,_⟩=>[(2,(pt (nb ρ1 0))),(3,(pt (nb ρ1 1))),(4,(pt (nb ρ1 2))),(5,(pt (nb ρ1 3))),(6,(pt (nb ρ2 0))),(14,(vn i))]) (fun ⟨_,f⟩=>[(nb ρ1 0,(cL (cU a) 64)),(nb ρ1 1,(cL (cU b) 64)),(nb ρ1 2,(cL (cU 0) 64)),(nb ρ1 3,(cL (cU 0) 64)),(nb ρ2 0,(cL (c8 f) 187))]) (fun ⟨i,_⟩=>4-i)
  (fun ⟨i,f⟩=>(i≤4)∧(MulO a b i f)) (0,(fun _=>0)) (⟨by omega,mulO_zero a b⟩) [] ?_
 rintro ⟨i,f⟩ ⟨hi,hO⟩
 refine jJ f206 1 [2,3,4,5,6,14,15] [.bool (decide (((i:Nat):Int)<4))] (aB (oC (decide (((i:Nat):Int)<4)) (fun hb1=>?_) (fun hb1=>?_)))
 ·rw [hb1]
  have:=yT hb1
  refine aG (aA (aB (aI (jJ f206 2 [2,3,4,5,6,7,14] [vn i,vn i] (jJ f206 1 [2,3,4,5,6,7,8,14] [.int .u64 0] (aB (jJ f206 1 [2,3,4,5,6,7,8,14,17] [vi 0] (aI ?_))))))))
  refine oL (σ:=Nat × (Nat→Int) × Int) (fun ⟨j,_,c⟩=>[(2,(pt (nb ρ1 0))),(3,(pt (nb ρ1 1))),(4,(pt (nb ρ1 2))),(5,(pt (nb ρ1 3))),(6,(pt (nb ρ2 0))),(7,(vn i)),(8,(.int .u64 c)),(14,(vn i)),(17,(vn j))]) (fun ⟨_,u,_⟩=>[(nb ρ1 0,(cL (cU a) 64)),(nb ρ1 1,(cL (cU b) 64)),(nb ρ1 2,(cL (cU 0) 64)),(nb ρ1 3,(cL (cU 0) 64)),(nb ρ2 0,(cL (c8 u) 187))]) (fun ⟨j,_,_⟩=>4-j)
   (fun ⟨j,u,c⟩=>(j≤4)∧(MulI a b i j u c)) (0,f,0) (⟨by omega,mulO_begin hO⟩) [] ?_
  rintro ⟨j,u,c⟩ ⟨hj,hM⟩
  refine jJ f206 1 [2,3,4,5,6,7,8,14,17,18] [.bool (decide (((j:Nat):Int)<4))] (aB (oC (decide (((j:Nat):Int)<4)) (fun hb2=>?_) (fun hb2=>?_)))
  ·rw [hb2]
   have:=yT hb2
   refine aG (aA (aB (aI (jJ f206 2 [2,3,4,5,6,7,8,9,14,17] [vn j,vn j] (sD f206 [0,1,3,0,8,24,63,127,255,255,511,2047] 12 [2,3,4,5,6,7,8,9,10,11,14,17] [] (fun _=>let qa:Value:=.int .u64 (mJ (wd a i) (wd b j));let qb:Value:=.int .u64 (bZ (wd a i) (wd b j));[vn i,jp (nb ρ1 0) i,.int .u64 (wd a i),vn j,jp (nb ρ1 1) j,.int .u64 (wd b j),.tuple #[qa,qb],.tuple #[qa,qb],qa,qb,qa,qb]) (fun _=>[]) (jY 1<|cX (jS (fun _=>Instr.indexAt 64 (pt (nb ρ1 0)) (vn i)) (fun _=>(jp (nb ρ1 0) i)) (fun _ w=>aX (n:=((i:Nat):Int)) (i:=i) underlying64 sizeOf62 (⟨rfl,by omega⟩) w))<|cX (kG _ 0 62 (fun _=>nb ρ1 0) (fun _=>i) (fun _=>(cU a)) 64 (0,0) (fun _=>(.int .u64 (wd a i))) (fun _=>by kernel_rfl) isAgg62 (fun _=>lL a i om))<|jY 1<|cX (jS (fun _=>Instr.indexAt 64 (pt (nb ρ1 1)) (vn j)) (fun _=>(jp (nb ρ1 1) j)) (fun _ w=>aX (n:=((j:Nat):Int)) (i:=j) underlying64 sizeOf62 (⟨rfl,by omega⟩) w))<|cX (kG _ 1 62 (fun _=>nb ρ1 1) (fun _=>j) (fun _=>(cU b)) 64 (0,0) (fun _=>(.int .u64 (wd b j))) (fun _=>by kernel_rfl) isAgg62 (fun _=>lL b j om))<|cC (fun _ w=>mul64_any (wd a i) (wd b j) (bG a i) (bG b j) w)<|jX 5) (fun _=>sS f206 12 [2,3,4,5,6,7,8,9,10,12,13,14,17] [] (fun _=>let qa:Value:=.int .u64 (cZ (bZ (wd a i) (wd b j)) (u (i+j)) 0);let qb:Value:=.int .u64 (dJ (bZ (wd a i) (wd b j)) (u (i+j)) 0);[.int .u64 (bZ (wd a i) (wd b j)),vn i,vn j,vn (i+j),jp (nb ρ2 0) (i+j),.int .u64 (u (i+j)),.tuple #[qa,qb],.tuple #[qa,qb],qa,qb,qa,qb]) (fun _=>[]) (jY 3<|jW (fun ρ=>(((i:Nat):Int)+((j:Nat):Int))) (fun _=>(i+j)) (fun _=>(dX i j om))<|cX (jS (fun _=>Instr.indexAt 187 (pt (nb ρ2 0)) (vn (i+j))) (fun _=>(jp (nb ρ2 0) (i+j))) (fun _ w=>aX (n:=((i+j:Nat):Int)) (i:=i+j) underlying187 sizeOf62 (⟨rfl,by omega⟩) w))<|cX (kG _ 4 62 (fun _=>nb ρ2 0) (fun _=>i+j) (fun _=>(c8 u)) 187 (0,0) (fun _=>(.int .u64 (u (i+j)))) (fun _=>by kernel_rfl) isAgg62 (fun _=>c8_get u (i+j) om))<|cX (o_sem _ (fun _=>callFunc 204 #[.int .u64 (bZ (wd a i) (wd b j)),.int .u64 (u (i+j)),.int .u64 0]) (fun _=>(.tuple #[.int .u64 (cZ (bZ (wd a i) (wd b j)) (u (i+j)) 0),.int .u64 (dJ (bZ (wd a i) (wd b j)) (u (i+j)) 0)])) (fun _=>by kernel_rfl) (fun _=>by kernel_rfl) (fun _ w=>(add64 (bZ (wd a i) (wd b j)) (u (i+j)) 0 (yO _ _) (hM.word _) jD) w))<|jX 5) (fun _=>jJ f206 4 [2,3,4,5,6,7,8,9,10,12,13,14,17] (let qa:Value:=.int .u64 (IntKind.u64.wrap ((mJ (wd a i) (wd b j))+(dJ (bZ (wd a i) (wd b j)) (u (i+j)) 0)));[.int .u64 (mJ (wd a i) (wd b j)),.int .u64 (dJ (bZ (wd a i) (wd b j)) (u (i+j)) 0),qa,qa]) (sS f206 8 [2,3,4,5,6,7,8,9,10,12,13,14,17] [] (fun _=>let qa:=cZ (bZ (wd a i) (wd b j)) (u (i+j)) 0;let qb:Value:=.int .u64 (cZ qa c 0);let qc:Value:=.int .u64 (dJ qa c 0);[.int .u64 qa,.int .u64 c,.tuple #[qb,qc],.tuple #[qb,qc],qb,qc,qb,qc]) (fun _=>[]) (jY 2<|cX (o_sem _ (fun _=>callFunc 204 #[.int .u64 (cZ (bZ (wd a i) (wd b j)) (u (i+j)) 0),.int .u64 c,.int .u64 0]) (fun _=>(.tuple #[.int .u64 (cZ (cZ (bZ (wd a i) (wd b j)) (u (i+j)) 0) c 0),.int .u64 (dJ (cZ (bZ (wd a i) (wd b j)) (u (i+j)) 0) c 0)])) (fun _=>by kernel_rfl) (fun _=>by kernel_rfl) (fun _ w=>(add64 (cZ (bZ (wd a i) (wd b j)) (u (i+j)) 0) c 0 (gQ _ _ _) hM.car jD) w))<|jX 5) (fun _=>rS f206 10 [2,3,4,5,6,7,8,14,17] [] (fun _=>let qa:=IntKind.u64.wrap ((mJ (wd a i) (wd b j))+(dJ (bZ (wd a i) (wd b j)) (u (i+j)) 0));let qb:=cZ (bZ (wd a i) (wd b j)) (u (i+j)) 0;let qc:Value:=.int .u64 (IntKind.u64.wrap (qa+(dJ qb c 0)));[vn i,vn j,vn (i+j),.int .u64 (cZ qb c 0),.int .u64 qa,.int .u64 (dJ qb c 0),qc,jp (nb ρ2 0) (i+j),undef,qc]) (fun _=>[(8,(bD 4 (nb ρ2 0) (cL (c8 (qR u (i+j) (cZ (cZ (bZ (wd a i) (wd b j)) (u (i+j)) 0) c 0))) 187)))]) (jY 2<|jW (fun ρ=>(((i:Nat):Int)+((j:Nat):Int))) (fun _=>(i+j)) (fun _=>(dX i j om))<|jY 4<|cX (jS (fun _=>Instr.indexAt 187 (pt (nb ρ2 0)) (vn (i+j))) (fun _=>(jp (nb ρ2 0) (i+j))) (fun _ w=>aX (n:=((i+j:Nat):Int)) (i:=i+j) underlying187 sizeOf62 (⟨rfl,by omega⟩) w))<|cX (qG _ 4 62 (fun _=>nb ρ2 0) (fun _=>i+j) (fun _=>(c8 u)) (fun _=>(c8 (qR u (i+j) (cZ (cZ (bZ (wd a i) (wd b j)) (u (i+j)) 0) c 0)))) 187 (fun _=>(.int .u64 (cZ (cZ (bZ (wd a i) (wd b j)) (u (i+j)) 0) c 0))) (fun _=>by kernel_rfl) sizeOf62 (fun _=>rfl) (fun _=>(show _<8 from om)) (fun _=>c8_set u (i+j) (cZ (cZ (bZ (wd a i) (wd b j)) (u (i+j)) 0) c 0) om))<|jX 1) (fun _=>aJ (aA (rS f206 2 [2,3,4,5,6,7,8,14,17] [] (fun _=>[vn (j+1),vn (j+1)]) (fun _=>[]) (jW (fun ρ=>(((j:Nat):Int)+1)) (fun _=>(j+1)) (fun _=>(dX j 1 om))<|jX 1) (fun _=>?_)))))))))))))
   exact mN (j+1,qR u (i+j) (cZ (cZ (bZ (wd a i) (wd b j)) (u (i+j)) 0) c 0),IntKind.u64.wrap ((IntKind.u64.wrap ((mJ (wd a i) (wd b j))+(dJ (bZ (wd a i) (wd b j)) (u (i+j)) 0)))+(dJ (cZ (bZ (wd a i) (wd b j)) (u (i+j)) 0) c 0))) (by show 4-(j+1)<4-j;omega) (⟨by omega,mulI_next om om hM (gQ _ _ _) (mul_step (bG a i) (bG b j) (hM.word _) hM.car).2 (mul_step (bG a i) (bG b j) (hM.word _) hM.car).1⟩) []
  rw [hb2]
  refine bF (aN (aN (aT (aA (rS f206 5 [2,3,4,5,6,14] [] (fun _=>[vn i,vn (i+4),.int .u64 c,jp (nb ρ2 0) (i+4),undef]) (fun _=>[(4,(bD 4 (nb ρ2 0) (cL (c8 (qR u (i+4) c)) 187)))]) (jY 1<|jW (fun ρ=>(((i:Nat):Int)+4)) (fun _=>(i+4)) (fun _=>(dX i 4 om))<|jY 1<|cX (jS (fun _=>Instr.indexAt 187 (pt (nb ρ2 0)) (vn (i+4))) (fun _=>(jp (nb ρ2 0) (i+4))) (fun _ w=>aX (n:=((i+4:Nat):Int)) (i:=i+4) underlying187 sizeOf62 (⟨rfl,by omega⟩) w))<|cX (qG _ 4 62 (fun _=>nb ρ2 0) (fun _=>i+4) (fun _=>(c8 u)) (fun _=>(c8 (qR u (i+4) c))) 187 (fun _=>(.int .u64 c)) (fun _=>by kernel_rfl) sizeOf62 (fun _=>rfl) (fun _=>(show _<8 from om)) (fun _=>c8_set u (i+4) c om))<|cN) (fun _=>aJ (aA (rS f206 2 [2,3,4,5,6,14] [] (fun _=>[vn (i+1),vn (i+1)]) (fun _=>[]) (jW (fun ρ=>(((i:Nat):Int)+1)) (fun _=>(i+1)) (fun _=>(dX i 1 om))<|jX 1) (fun _=>?_)))))))))
  exact mN (i+1,qR u (i+4) c) (by show 4-(i+1)<4-i;omega) (⟨by omega,mulI_end om (by have:j=4:=(oA (yF hb2));subst this;exact hM)⟩) []
 rw [hb1]
 refine bF (aN (aN (aT (aA (sD f206 [0,1,3,0,8,24,7,127] 8 [4,5] [0,0,1,1,0] (fun _=>[.slice (some ⟨nb ρ2 0,4,none⟩) 4 4,jp (nb ρ2 0) 4,.agg #[.int .u64 (f 4),.int .u64 (f 5),.int .u64 (f 6),.int .u64 (f 7)],vs (nb ρ2 0) 4 8,pt (nb ρ2 0),.agg #[.int .u64 (f 0),.int .u64 (f 1),.int .u64 (f 2),.int .u64 (f 3)],undef,undef]) (fun _=>[(6,(bD 2 (nb ρ1 2) (cL #[.int .u64 (f 4),.int .u64 (f 5),.int .u64 (f 6),.int .u64 (f 7)] 64))),(7,(bD 3 (nb ρ1 3) (cL #[.int .u64 (f 0),.int .u64 (f 1),.int .u64 (f 2),.int .u64 (f 3)] 64)))]) (jE [[],[],[4],[],[],[4],[2],[3]]) (fun _=>aF ?_))))))
 exact mR (v:=(.tuple #[.agg #[.int .u64 (f 4),.int .u64 (f 5),.int .u64 (f 6),.int .u64 (f 7)],.agg #[.int .u64 (f 0),.int .u64 (f 1),.int .u64 (f 2),.int .u64 (f 3)]])) (ps:=[0,0,0,0,1,1,1,1]) (fun _ hS=>⟨mul_end ha hb (by have:i=4:=(oA (yF hb1));subst this;exact hO),hS.bel⟩)
theorem mul_any (a b:Nat) (w0:World) (ha:a<M) (hb:b<M):Calls prog 206 #[U a,U b] w0 (jR (.tuple #[U (a*b / M),U (a*b%M)]) w0):=mul_w a b ha hb w0
theorem rmul_w (a:Nat) (b:Nat) (ha:a<M) (hb:b<M) (w0:World):Calls prog 190 #[U a,U b] w0 (jR (.tuple #[U (a*b / M),U (a*b%M)]) w0):=by
 refine Calls.cW 71 (fun _=>True) func190 rfl rfl rfl jT (sS f190 4 [2,3,4,5] [] (fun ρ=>[pt (nb ρ 0),pt (nb ρ 1),pt (nb ρ 2),pt (nb ρ 3)]) (fun ρ=>[(0,(nw ρ 0 (cL (cU a) 64))),(1,(nw ρ 1 (cL (cU b) 64))),(2,(nw ρ 2 (cL (cU 0) 64))),(3,(nw ρ 3 (cL (cU 0) 64)))]) (jX 4) (fun ρ1=>sS f190 1 [2,3,4,5,6] [] (fun ρ=>[pt (nb ρ 0)]) (fun ρ=>[(0,(nw ρ 0 (cL #[.int .u64 0,.int .u64 0,.int .u64 0,.int .u64 0,.int .u64 0,.int .u64 0,.int .u64 0,.int .u64 0] 187)))]) (jX 1) (fun ρ2=>aB (jJ f190 1 [2,3,4,5,6,15] [vi 0] (aI ?_)))))
 refine oL (σ:=Nat × (Nat→Int)) (fun ⟨i,_⟩=>[(2,(pt (nb ρ1 0))),(3,(pt (nb ρ1 1))),(4,(pt (nb ρ1 2))),(5,(pt (nb ρ1 3))),(6,(pt (nb ρ2 0))),(15,(vn i))]) (fun ⟨_,f⟩=>[(nb ρ1 0,(cL (cU a) 64)),(nb ρ1 1,(cL (cU b) 64)),(nb ρ1 2,(cL (cU 0) 64)),(nb ρ1 3,(cL (cU 0) 64)),(nb ρ2 0,(cL (c8 f) 187))]) (fun ⟨i,_⟩=>4-i)
  (fun ⟨i,f⟩=>(i≤4)∧(MulO a b i f)) (0,(fun _=>0)) (⟨by omega,mulO_zero a b⟩) [] ?_
 rintro ⟨i,f⟩ ⟨hi,hO⟩
 refine jJ f190 1 [2,3,4,5,6,15,16] [.bool (decide (((i:Nat):Int)<4))] (aB (oC (decide (((i:Nat):Int)<4)) (fun hb1=>?_) (fun hb1=>?_)))
 ·rw [hb1]
  have:=yT hb1
  refine aG (aA (aB (aI (jJ f190 2 [2,3,4,5,6,7,15] [vn i,vn i] (jJ f190 1 [2,3,4,5,6,7,8,15] [.int .u64 0] (aB (jJ f190 1 [2,3,4,5,6,7,8,15,18] [vi 0] (aI ?_))))))))
  refine oL (σ:=Nat × (Nat→Int) × Int) (fun ⟨j,_,c⟩=>[(2,(pt (nb ρ1 0))),(3,(pt (nb ρ1 1))),(4,(pt (nb ρ1 2))),(5,(pt (nb ρ1 3))),(6,(pt (nb ρ2 0))),(7,(vn i)),(8,(.int .u64 c)),(15,(vn i)),(18,(vn j))]) (fun ⟨_,u,_⟩=>[(nb ρ1 0,(cL (cU a) 64)),(nb ρ1 1,(cL (cU b) 64)),(nb ρ1 2,(cL (cU 0) 64)),(nb ρ1 3,(cL (cU 0) 64)),(nb ρ2 0,(cL (c8 u) 187))]) (fun ⟨j,_,_⟩=>4-j)
   (fun ⟨j,u,c⟩=>(j≤4)∧(MulI a b i j u c)) (0,f,0) (⟨by omega,mulO_begin hO⟩) [] ?_
  rintro ⟨j,u,c⟩ ⟨hj,hM⟩
  refine jJ f190 1 [2,3,4,5,6,7,8,15,18,19] [.bool (decide (((j:Nat):Int)<4))] (aB (oC (decide (((j:Nat):Int)<4)) (fun hb2=>?_) (fun hb2=>?_)))
  ·rw [hb2]
   have:=yT hb2
   refine aG (aA (aB (aI (jJ f190 2 [2,3,4,5,6,7,8,9,15,18] [vn j,vn j] (sD f190 [0,1,3,0,8,24,63,127,255,255,511,2047] 12 [2,3,4,5,6,7,8,9,10,11,15,18] [] (fun _=>let qa:Value:=.int .u64 (mJ (wd a i) (wd b j));let qb:Value:=.int .u64 (bZ (wd a i) (wd b j));[vn i,jp (nb ρ1 0) i,.int .u64 (wd a i),vn j,jp (nb ρ1 1) j,.int .u64 (wd b j),.tuple #[qa,qb],.tuple #[qa,qb],qa,qb,qa,qb]) (fun _=>[]) (jY 1<|cX (jS (fun _=>Instr.indexAt 64 (pt (nb ρ1 0)) (vn i)) (fun _=>(jp (nb ρ1 0) i)) (fun _ w=>aX (n:=((i:Nat):Int)) (i:=i) underlying64 sizeOf62 (⟨rfl,by omega⟩) w))<|cX (kG _ 0 62 (fun _=>nb ρ1 0) (fun _=>i) (fun _=>(cU a)) 64 (0,0) (fun _=>(.int .u64 (wd a i))) (fun _=>by kernel_rfl) isAgg62 (fun _=>lL a i om))<|jY 1<|cX (jS (fun _=>Instr.indexAt 64 (pt (nb ρ1 1)) (vn j)) (fun _=>(jp (nb ρ1 1) j)) (fun _ w=>aX (n:=((j:Nat):Int)) (i:=j) underlying64 sizeOf62 (⟨rfl,by omega⟩) w))<|cX (kG _ 1 62 (fun _=>nb ρ1 1) (fun _=>j) (fun _=>(cU b)) 64 (0,0) (fun _=>(.int .u64 (wd b j))) (fun _=>by kernel_rfl) isAgg62 (fun _=>lL b j om))<|cC (fun _ w=>mul64_any (wd a i) (wd b j) (bG a i) (bG b j) w)<|jX 5) (fun _=>sS f190 12 [2,3,4,5,6,7,8,9,10,12,13,15,18] [] (fun _=>let qa:Value:=.int .u64 (cZ (u (i+j)) (bZ (wd a i) (wd b j)) 0);let qb:Value:=.int .u64 (dJ (u (i+j)) (bZ (wd a i) (wd b j)) 0);[vn i,vn j,vn (i+j),jp (nb ρ2 0) (i+j),.int .u64 (u (i+j)),.int .u64 (bZ (wd a i) (wd b j)),.tuple #[qa,qb],.tuple #[qa,qb],qa,qb,qa,qb]) (fun _=>[]) (jY 2<|jW (fun ρ=>(((i:Nat):Int)+((j:Nat):Int))) (fun _=>(i+j)) (fun _=>(dX i j om))<|cX (jS (fun _=>Instr.indexAt 187 (pt (nb ρ2 0)) (vn (i+j))) (fun _=>(jp (nb ρ2 0) (i+j))) (fun _ w=>aX (n:=((i+j:Nat):Int)) (i:=i+j) underlying187 sizeOf62 (⟨rfl,by omega⟩) w))<|cX (kG _ 4 62 (fun _=>nb ρ2 0) (fun _=>i+j) (fun _=>(c8 u)) 187 (0,0) (fun _=>(.int .u64 (u (i+j)))) (fun _=>by kernel_rfl) isAgg62 (fun _=>c8_get u (i+j) om))<|jY 1<|cX (o_sem _ (fun _=>callFunc 204 #[.int .u64 (u (i+j)),.int .u64 (bZ (wd a i) (wd b j)),.int .u64 0]) (fun _=>(.tuple #[.int .u64 (cZ (u (i+j)) (bZ (wd a i) (wd b j)) 0),.int .u64 (dJ (u (i+j)) (bZ (wd a i) (wd b j)) 0)])) (fun _=>by kernel_rfl) (fun _=>by kernel_rfl) (fun _ w=>(add64 (u (i+j)) (bZ (wd a i) (wd b j)) 0 (hM.word _) (yO _ _) jD) w))<|jX 5) (fun _=>sS f190 8 [2,3,4,5,6,7,8,9,10,12,13,14,15,18] [] (fun _=>let qa:=cZ (u (i+j)) (bZ (wd a i) (wd b j)) 0;let qb:Value:=.int .u64 (cZ qa c 0);let qc:Value:=.int .u64 (dJ qa c 0);[.int .u64 qa,.int .u64 c,.tuple #[qb,qc],.tuple #[qb,qc],qb,qc,qb,qc]) (fun _=>[]) (jY 2<|cX (o_sem _ (fun _=>callFunc 204 #[.int .u64 (cZ (u (i+j)) (bZ (wd a i) (wd b j)) 0),.int .u64 c,.int .u64 0]) (fun _=>(.tuple #[.int .u64 (cZ (cZ (u (i+j)) (bZ (wd a i) (wd b j)) 0) c 0),.int .u64 (dJ (cZ (u (i+j)) (bZ (wd a i) (wd b j)) 0) c 0)])) (fun _=>by kernel_rfl) (fun _=>by kernel_rfl) (fun _ w=>(add64 (cZ (u (i+j)) (bZ (wd a i) (wd b j)) 0) c 0 (gQ _ _ _) hM.car jD) w))<|jX 5) (fun _=>rS f190 12 [2,3,4,5,6,7,8,15,18] [] (fun _=>let qa:=IntKind.u64.wrap ((mJ (wd a i) (wd b j))+(dJ (u (i+j)) (bZ (wd a i) (wd b j)) 0));let qb:=cZ (u (i+j)) (bZ (wd a i) (wd b j)) 0;let qc:Value:=.int .u64 (IntKind.u64.wrap (qa+(dJ qb c 0)));[vn i,vn j,vn (i+j),.int .u64 (cZ qb c 0),.int .u64 (mJ (wd a i) (wd b j)),.int .u64 (dJ (u (i+j)) (bZ (wd a i) (wd b j)) 0),.int .u64 qa,.int .u64 (dJ qb c 0),qc,jp (nb ρ2 0) (i+j),undef,qc]) (fun _=>[(10,(bD 4 (nb ρ2 0) (cL (c8 (qR u (i+j) (cZ (cZ (u (i+j)) (bZ (wd a i) (wd b j)) 0) c 0))) 187)))]) (jY 2<|jW (fun ρ=>(((i:Nat):Int)+((j:Nat):Int))) (fun _=>(i+j)) (fun _=>(dX i j om))<|jY 6<|cX (jS (fun _=>Instr.indexAt 187 (pt (nb ρ2 0)) (vn (i+j))) (fun _=>(jp (nb ρ2 0) (i+j))) (fun _ w=>aX (n:=((i+j:Nat):Int)) (i:=i+j) underlying187 sizeOf62 (⟨rfl,by omega⟩) w))<|cX (qG _ 4 62 (fun _=>nb ρ2 0) (fun _=>i+j) (fun _=>(c8 u)) (fun _=>(c8 (qR u (i+j) (cZ (cZ (u (i+j)) (bZ (wd a i) (wd b j)) 0) c 0)))) 187 (fun _=>(.int .u64 (cZ (cZ (u (i+j)) (bZ (wd a i) (wd b j)) 0) c 0))) (fun _=>by kernel_rfl) sizeOf62 (fun _=>rfl) (fun _=>(show _<8 from om)) (fun _=>c8_set u (i+j) (cZ (cZ (u (i+j)) (bZ (wd a i) (wd b j)) 0) c 0) om))<|jX 1) (fun _=>aJ (aA (rS f190 2 [2,3,4,5,6,7,8,15,18] [] (fun _=>[vn (j+1),vn (j+1)]) (fun _=>[]) (jW (fun ρ=>(((j:Nat):Int)+1)) (fun _=>(j+1)) (fun _=>(dX j 1 om))<|jX 1) (fun _=>?_))))))))))))
   exact mN (j+1,qR u (i+j) (cZ (cZ (u (i+j)) (bZ (wd a i) (wd b j)) 0) c 0),IntKind.u64.wrap ((IntKind.u64.wrap ((mJ (wd a i) (wd b j))+(dJ (u (i+j)) (bZ (wd a i) (wd b j)) 0)))+(dJ (cZ (u (i+j)) (bZ (wd a i) (wd b j)) 0) c 0))) (by show 4-(j+1)<4-j;omega) (⟨by omega,mulI_next om om hM (gQ _ _ _) (rmul_step (bG a i) (bG b j) (hM.word _) hM.car).2 (rmul_step (bG a i) (bG b j) (hM.word _) hM.car).1⟩) []
  rw [hb2]
  refine bF (aN (aN (aT (aA (rS f190 5 [2,3,4,5,6,15] [] (fun _=>[vn i,vn (i+4),.int .u64 c,jp (nb ρ2 0) (i+4),undef]) (fun _=>[(4,(bD 4 (nb ρ2 0) (cL (c8 (qR u (i+4) c)) 187)))]) (jY 1<|jW (fun ρ=>(((i:Nat):Int)+4)) (fun _=>(i+4)) (fun _=>(dX i 4 om))<|jY 1<|cX (jS (fun _=>Instr.indexAt 187 (pt (nb ρ2 0)) (vn (i+4))) (fun _=>(jp (nb ρ2 0) (i+4))) (fun _ w=>aX (n:=((i+4:Nat):Int)) (i:=i+4) underlying187 sizeOf62 (⟨rfl,by omega⟩) w))<|cX (qG _ 4 62 (fun _=>nb ρ2 0) (fun _=>i+4) (fun _=>(c8 u)) (fun _=>(c8 (qR u (i+4) c))) 187 (fun _=>(.int .u64 c)) (fun _=>by kernel_rfl) sizeOf62 (fun _=>rfl) (fun _=>(show _<8 from om)) (fun _=>c8_set u (i+4) c om))<|cN) (fun _=>aJ (aA (rS f190 2 [2,3,4,5,6,15] [] (fun _=>[vn (i+1),vn (i+1)]) (fun _=>[]) (jW (fun ρ=>(((i:Nat):Int)+1)) (fun _=>(i+1)) (fun _=>(dX i 1 om))<|jX 1) (fun _=>?_)))))))))
  exact mN (i+1,qR u (i+4) c) (by show 4-(i+1)<4-i;omega) (⟨by omega,mulI_end om (by have:j=4:=(oA (yF hb2));subst this;exact hM)⟩) []
 rw [hb1]
 refine bF (aN (aN (aT (aA (sD f190 [0,0,3] 3 [4,5,6] [0,0,1,1,1] (fun _=>[vs (nb ρ1 3) 4 4,vs (nb ρ2 0) 4 8,vi 4]) (fun _=>[(2,(bD 3 (nb ρ1 3) (cL #[.int .u64 (f 0),.int .u64 (f 1),.int .u64 (f 2),.int .u64 (f 3)] 64)))]) (jY 2<|cX (o_run _ [3,4] [1,1,1,1,0,0,0,0] (fun _ _=>[nb ρ2 0,nb ρ2 0,nb ρ2 0,nb ρ2 0,nb ρ1 3,nb ρ1 3,nb ρ1 3,nb ρ1 3]) (fun _ _=>by kernel_rfl))<|cN) (fun _=>sD f190 [0,0,3] 3 [4,5] [1,1,0] (fun _=>[vs (nb ρ1 2) 4 4,.slice (some ⟨nb ρ2 0,4,none⟩) 4 4,vi 4]) (fun _=>[(2,(bD 0 (nb ρ1 2) (cL #[.int .u64 (f 4),.int .u64 (f 5),.int .u64 (f 6),.int .u64 (f 7)] 64)))]) (jY 2<|cX (o_run _ [0,2] [1,1,1,1,0,0,0,0] (fun _ _=>[nb ρ2 0,nb ρ2 0,nb ρ2 0,nb ρ2 0,nb ρ1 2,nb ρ1 2,nb ρ1 2,nb ρ1 2]) (fun _ _=>by kernel_rfl))<|cN) (fun _=>sS f190 4 [4,5] [] (fun _=>[.agg #[.int .u64 (f 4),.int .u64 (f 5),.int .u64 (f 6),.int .u64 (f 7)],.agg #[.int .u64 (f 0),.int .u64 (f 1),.int .u64 (f 2),.int .u64 (f 3)],undef,undef]) (fun _=>[(2,(bD 0 (nb ρ1 2) (cL #[.int .u64 (f 4),.int .u64 (f 5),.int .u64 (f 6),.int .u64 (f 7)] 64))),(3,(bD 1 (nb ρ1 3) (cL #[.int .u64 (f 0),.int .u64 (f 1),.int .u64 (f 2),.int .u64 (f 3)] 64)))]) (jE [[0],[1],[0],[1]]) (fun _=>aF ?_))))))))
 exact mR (v:=(.tuple #[.agg #[.int .u64 (f 4),.int .u64 (f 5),.int .u64 (f 6),.int .u64 (f 7)],.agg #[.int .u64 (f 0),.int .u64 (f 1),.int .u64 (f 2),.int .u64 (f 3)]])) (ps:=[0,0,0,0,1,1,1,1]) (fun _ hS=>⟨mul_end ha hb (by have:i=4:=(oA (yF hb1));subst this;exact hO),hS.bel⟩)
theorem rmul_any (a b:Nat) (w0:World) (ha:a<M) (hb:b<M):Calls prog 190 #[U a,U b] w0 (jR (.tuple #[U (a*b / M),U (a*b%M)]) w0):=rmul_w a b ha hb w0
theorem addmod_w (a:Nat) (b:Nat) (m:Nat) (ha:a<M) (hb:b<M) (hm:m<M) (w0:World):Calls prog 200 #[U a,U b,U m] w0 (jR (U (bC a b m)) w0):=by
 refine Calls.cW 37 (fun _=>True) func200 rfl rfl rfl jT (sS f200 4 [3,4,5,6] [] (fun ρ=>[pt (nb ρ 0),pt (nb ρ 1),pt (nb ρ 2),pt (nb ρ 3)]) (fun ρ=>[(0,(nw ρ 0 (cL (cU a) 64))),(1,(nw ρ 1 (cL (cU b) 64))),(2,(nw ρ 2 (cL (cU m) 64))),(3,(nw ρ 3 (cL (cU 0) 64)))]) (jX 4) (fun ρ1=>aB (sS f200 3 [3,4,5,6,11] [] (fun _=>[U m,U 0,.bool (decide (m=0))]) (fun _=>[]) (cR [[2],[]]<|cB (a:=fun ρ=>(U m)) (b:=fun ρ=>(U 0)) (v:=fun ρ=>(.bool (decide (m=0)))) .eql 64 (fun _ _=>eqlU m 0 hm (by decide +kernel) _)<|cN) (fun _=>oC (decide (m=0)) (fun hb1=>?_) (fun hb1=>?_)))))
 ·rw [hb1]
  refine sS f200 2 [3,4,5,6] [] (fun _=>[U 0,undef]) (fun _=>[(1,(bD 3 (nb ρ1 3) (cL (cU 0) 64)))]) (jE [[],[3]]) (fun _=>aF (aC ?_))
  exact mR (v:=(U 0)) (ps:=[3,3,3,3]) (fun _ hS=>⟨congrArg (fun x=>Ending.returned (U x)) (addm_0 hb1),hS.bel⟩)
 rw [hb1]
 refine aG (aA (sD f200 [0,0,3,0,0,31,63,127,255,255,0,1535,4095] 13 [5,6,7,8] [0,0,1,1,1] (fun ρ=>let qa:Value:=.bool (decide (M≤(aQ a m)+(aQ b m)));[U a,U m,U (aQ a m),U b,U m,U (aQ b m),.tuple #[U (((aQ a m)+(aQ b m))%M),qa],.tuple #[U (((aQ a m)+(aQ b m))%M),qa],U (((aQ a m)+(aQ b m))%M),qa,pt (nb ρ 10),undef,qa]) (fun ρ=>[(10,(nw ρ 10 (cL (cU 0) 64))),(11,(bD 84 (nb ρ 10) (cL (cU (((aQ a m)+(aQ b m))%M)) 64)))]) (cR [[0],[2]]<|cC (fun _ w=>yE a m w ha hm)<|cR [[1],[2]]<|cC (fun _ w=>yE b m w hb hm)<|cC (fun _ w=>add_any (aQ a m) (aQ b m) w (pR ha) (pR hb))<|jE [[],[],[],[],[84],[]]) (fun ρ4=>aB ?_)))
 rcases Bool.eq_false_or_eq_true (decide (M≤(aQ a m)+(aQ b m))) with hb2 | hb2
 ·rw [hb2]
  refine jJ f200 7 [5,6,7,29] [vT,vT,undef,undef,undef,undef,vT] (oY (rS f200 7 [6,7] [0,1,1] (fun _=>let qa:Value:=.bool (decide ((((aQ a m)+(aQ b m))%M)<m));let qb:=U (((((aQ a m)+(aQ b m))%M)+M-m)%M);[U (((aQ a m)+(aQ b m))%M),U m,.tuple #[qb,qa],.tuple #[qb,qa],qb,qa,undef]) (fun _=>[(6,(bD 2 (nb ρ4 10) (cL (cU (((((aQ a m)+(aQ b m))%M)+M-m)%M)) 64)))]) (cR [[2],[0]]<|cC (f:=212) (args:=fun ρ=> #[U (((aQ a m)+(aQ b m))%M),U m]) (v:=fun ρ=>(.tuple #[U (((((aQ a m)+(aQ b m))%M)+M-m)%M),.bool (decide ((((aQ a m)+(aQ b m))%M)<m))])) (fun _ w=>(fun w=>sub_any (((aQ a m)+(aQ b m))%M) m w (rC _) hm) w)<|jE [[],[],[],[2]]) (fun _=>aA (sS f200 2 [6] [1,0] (fun _=>[U (((((aQ a m)+(aQ b m))%M)+M-m)%M),undef]) (fun _=>[(1,(bD 0 (nb ρ1 3) (cL (cU (((((aQ a m)+(aQ b m))%M)+M-m)%M)) 64)))]) (jE [[1],[0]]) (fun _=>aF ?_)))))
  exact mR (v:=(U (((((aQ a m)+(aQ b m))%M)+M-m)%M))) (fun _ hS=>⟨congrArg (fun x=>Ending.returned (U x)) (addm_2 hm hb1 hb2),hS.bel⟩)
 rw [hb2]
 refine sS f200 7 [5,6,7,29] [] (fun _=>let qa:=fJ (((aQ a m)+(aQ b m))%M) m;let qb:Value:=.bool (decide (0≤(fJ (((aQ a m)+(aQ b m))%M) m)));[vF,vF,U (((aQ a m)+(aQ b m))%M),U m,vi qa,qb,qb]) (fun _=>[]) (cR [[],[],[2],[0]]<|cC (f:=151) (args:=fun ρ=> #[U (((aQ a m)+(aQ b m))%M),U m]) (v:=fun ρ=>(vi (fJ (((aQ a m)+(aQ b m))%M) m))) (fun _ w=>(fun w=>uN (((aQ a m)+(aQ b m))%M) m w (rC _) hm) w)<|jX 2) (fun _=>oC (decide (0≤(fJ (((aQ a m)+(aQ b m))%M) m))) (fun hb3=>?_) (fun hb3=>?_))
 ·rw [hb3]
  refine rS f200 7 [6,7] [0,1,1] (fun _=>let qa:Value:=.bool (decide ((((aQ a m)+(aQ b m))%M)<m));let qb:=U (((((aQ a m)+(aQ b m))%M)+M-m)%M);[U (((aQ a m)+(aQ b m))%M),U m,.tuple #[qb,qa],.tuple #[qb,qa],qb,qa,undef]) (fun _=>[(6,(bD 2 (nb ρ4 10) (cL (cU (((((aQ a m)+(aQ b m))%M)+M-m)%M)) 64)))]) (cR [[2],[0]]<|cC (f:=212) (args:=fun ρ=> #[U (((aQ a m)+(aQ b m))%M),U m]) (v:=fun ρ=>(.tuple #[U (((((aQ a m)+(aQ b m))%M)+M-m)%M),.bool (decide ((((aQ a m)+(aQ b m))%M)<m))])) (fun _ w=>(fun w=>sub_any (((aQ a m)+(aQ b m))%M) m w (rC _) hm) w)<|jE [[],[],[],[2]]) (fun _=>aA (sS f200 2 [6] [1,0] (fun _=>[U (((((aQ a m)+(aQ b m))%M)+M-m)%M),undef]) (fun _=>[(1,(bD 0 (nb ρ1 3) (cL (cU (((((aQ a m)+(aQ b m))%M)+M-m)%M)) 64)))]) (jE [[1],[0]]) (fun _=>aF ?_)))
  exact mR (v:=(U (((((aQ a m)+(aQ b m))%M)+M-m)%M))) (fun _ hS=>⟨congrArg (fun x=>Ending.returned (U x)) (addm_3t hm hb1 hb2 hb3),hS.bel⟩)
 rw [hb3]
 refine aG (aA (sS f200 2 [6] [0,1,0] (fun _=>[U (((aQ a m)+(aQ b m))%M),undef]) (fun _=>[(1,(bD 1 (nb ρ1 3) (cL (cU (((aQ a m)+(aQ b m))%M)) 64)))]) (jE [[2],[1]]) (fun _=>aF ?_)))
 exact mR (v:=(U (((aQ a m)+(aQ b m))%M))) (fun _ hS=>⟨congrArg (fun x=>Ending.returned (U x)) (addm_3f hm hb1 hb2 hb3),hS.bel⟩)
theorem addmod_any (a b m:Nat) (w0:World) (ha:a<M) (hb:b<M) (hm:m<M):Calls prog 200 #[U a,U b,U m] w0 (jR (U (bC a b m)) w0):=addmod_w a b m ha hb hm w0
theorem mulmod_w (a:Nat) (b:Nat) (m:Nat) (ha:a<M) (hb:b<M) (hm:m<M) (w0:World):Calls prog 194 #[U a,U b,U m] w0 (jR (U (bV a b m)) w0):=by
 refine Calls.cW 33 (fun _=>True) func194 rfl rfl rfl jT (sS f194 4 [3,4,5,6] [] (fun ρ=>[pt (nb ρ 0),pt (nb ρ 1),pt (nb ρ 2),pt (nb ρ 3)]) (fun ρ=>[(0,(nw ρ 0 (cL (cU a) 64))),(1,(nw ρ 1 (cL (cU b) 64))),(2,(nw ρ 2 (cL (cU m) 64))),(3,(nw ρ 3 (cL (cU 0) 64)))]) (jX 4) (fun ρ1=>aB (sS f194 3 [3,4,5,6,14] [] (fun _=>[U m,U 0,.bool (decide (m=0))]) (fun _=>[]) (cR [[2],[]]<|cB (a:=fun ρ=>(U m)) (b:=fun ρ=>(U 0)) (v:=fun ρ=>(.bool (decide (m=0)))) .eql 64 (fun _ _=>eqlU m 0 hm (by decide +kernel) _)<|cN) (fun _=>oC (decide (m=0)) (fun hb1=>?_) (fun hb1=>?_)))))
 ·rw [hb1]
  refine sS f194 2 [3,4,5,6] [] (fun _=>[U 0,undef]) (fun _=>[(1,(bD 3 (nb ρ1 3) (cL (cU 0) 64)))]) (jE [[],[3]]) (fun _=>aF (aC ?_))
  exact mR (v:=(U 0)) (ps:=[3,3,3,3]) (fun _ hS=>⟨congrArg (fun x=>Ending.returned (U x)) (mulm_0 hb1),hS.bel⟩)
 rw [hb1]
 refine aG (aA (sS f194 10 [5,6,7,8] [0,0,1,1,1,1] (fun ρ=>[U a,U b,.tuple #[U ((a*b) / M),U ((a*b)%M)],.tuple #[U ((a*b) / M),U ((a*b)%M)],U ((a*b) / M),U ((a*b)%M),pt (nb ρ 6),pt (nb ρ 7),undef,undef]) (fun ρ=>[(6,(nw ρ 6 (cL (cU 0) 64))),(7,(nw ρ 7 (cL (cU 0) 64))),(8,(bD 52 (nb ρ 6) (cL (cU ((a*b) / M)) 64))),(9,(bD 60 (nb ρ 7) (cL (cU ((a*b)%M)) 64)))]) (cR [[0],[1]]<|cC (fun _ w=>mul_any a b w ha hb)<|jE [[],[],[],[],[],[52],[60]]) (fun _=>sD f194 [0,0,3,0,0,31,63,127,127,127,0,0,3327,7679,16383] 15 [6,10] [0,1,0,0,0,1] (fun ρ=>let qa:Value:=.bool (decide ((aQ ((a*b) / M) m)<m));let qb:=U (qQ (aQ ((a*b) / M) m) ((a*b)%M) m);let qc:=U (iV (aQ ((a*b) / M) m) ((a*b)%M) m);[U ((a*b) / M),U m,U (aQ ((a*b) / M) m),U ((a*b)%M),U m,.tuple #[qb,qc,qa],.tuple #[qb,qc,qa],qb,qc,qa,pt (nb ρ 10),pt (nb ρ 11),undef,undef,qa]) (fun ρ=>[(10,(nw ρ 10 (cL (cU 0) 64))),(11,(nw ρ 11 (cL (cU 0) 64))),(12,(bD 84 (nb ρ 10) (cL (cU (qQ (aQ ((a*b) / M) m) ((a*b)%M) m)) 64))),(13,(bD 92 (nb ρ 11) (cL (cU (iV (aQ ((a*b) / M) m) ((a*b)%M) m)) 64)))]) (cR [[2],[0]]<|cC (fun _ w=>yE ((a*b) / M) m w (mulhi_lt ha hb) hm)<|cR [[3],[0]]<|cC (f:=207) (args:=fun ρ=> #[U (aQ ((a*b) / M) m),U ((a*b)%M),U m]) (v:=fun ρ=>(.tuple #[U (qQ (aQ ((a*b) / M) m) ((a*b)%M) m),U (iV (aQ ((a*b) / M) m) ((a*b)%M) m),.bool (decide ((aQ ((a*b) / M) m)<m))])) (fun _ w=>(fun w=>div_any (aQ ((a*b) / M) m) ((a*b)%M) m w (pR (mulhi_lt ha hb)) (rC _) hm) w)<|jE [[],[],[],[],[],[],[84],[92],[]]) (fun _=>sS f194 2 [6] [1,0] (fun _=>[U (iV (aQ ((a*b) / M) m) ((a*b)%M) m),undef]) (fun _=>[(1,(bD 0 (nb ρ1 3) (cL (cU (iV (aQ ((a*b) / M) m) ((a*b)%M) m)) 64)))]) (jE [[1],[0]]) (fun _=>aF ?_)))))
 exact mR (v:=(U (iV (aQ ((a*b) / M) m) ((a*b)%M) m))) (fun _ hS=>⟨congrArg (fun x=>Ending.returned (U x)) (mulm_1 hb1),hS.bel⟩)
theorem mulmod_any (a b m:Nat) (w0:World) (ha:a<M) (hb:b<M) (hm:m<M):Calls prog 194 #[U a,U b,U m] w0 (jR (U (bV a b m)) w0):=mulmod_w a b m ha hb hm w0
theorem raddmod_w (a:Nat) (b:Nat) (m:Nat) (ha:a<M) (hb:b<M) (hm:m<M) (w0:World):Calls prog 168 #[U a,U b,U m] w0 (jR (U (bC a b m)) w0):=by
 refine Calls.cW 38 (fun _=>True) func168 rfl rfl rfl jT (sS f168 4 [3,4,5,6] [] (fun ρ=>[pt (nb ρ 0),pt (nb ρ 1),pt (nb ρ 2),pt (nb ρ 3)]) (fun ρ=>[(0,(nw ρ 0 (cL (cU a) 64))),(1,(nw ρ 1 (cL (cU b) 64))),(2,(nw ρ 2 (cL (cU m) 64))),(3,(nw ρ 3 (cL (cU 0) 64)))]) (jX 4) (fun ρ1=>aB (sS f168 2 [3,4,5,6,10] [] (fun _=>[U m,.bool (decide (m=0))]) (fun _=>[]) (cR [[2]]<|cC (fun _ w=>iI m w hm)<|cN) (fun _=>oC (decide (m=0)) (fun hb1=>?_) (fun hb1=>?_)))))
 ·rw [hb1]
  refine sS f168 2 [3,4,5,6] [] (fun _=>[U m,undef]) (fun _=>[(1,(bD 3 (nb ρ1 3) (cL (cU m) 64)))]) (jE [[2],[3]]) (fun _=>aF (aC ?_))
  exact mR (v:=(U m)) (ps:=[3,3,3,3]) (fun _ hS=>⟨congrArg (fun x=>Ending.returned (U x)) (addm_0' hb1),hS.bel⟩)
 rw [hb1]
 refine aG (aA (sD f168 [0,0,3,0,0,31,63,127] 8 [3,4,5,6] [] (fun _=>[U a,U m,U (aQ a m),U b,U m,U (aQ b m),undef,undef]) (fun _=>[(6,(bD 0 (nb ρ1 0) (cL (cU (aQ a m)) 64))),(7,(bD 1 (nb ρ1 1) (cL (cU (aQ b m)) 64)))]) (cR [[0],[2]]<|cC (fun _ w=>oM a m w ha hm)<|cR [[1],[2]]<|cC (fun _ w=>oM b m w hb hm)<|jE [[0],[1]]) (fun _=>sS f168 9 [5,6,7,8] [0,0,1,1,1] (fun ρ=>let qa:Value:=.bool (decide (M≤(aQ a m)+(aQ b m)));[U (aQ a m),U (aQ b m),.tuple #[U (((aQ a m)+(aQ b m))%M),qa],.tuple #[U (((aQ a m)+(aQ b m))%M),qa],U (((aQ a m)+(aQ b m))%M),qa,pt (nb ρ 6),undef,qa]) (fun ρ=>[(6,(nw ρ 6 (cL (cU 0) 64))),(7,(bD 52 (nb ρ 6) (cL (cU (((aQ a m)+(aQ b m))%M)) 64)))]) (cR [[0],[1]]<|cC (fun _ w=>radd_any (aQ a m) (aQ b m) w (pR ha) (pR hb))<|jE [[],[],[],[],[52],[]]) (fun ρ5=>aB ?_))))
 rcases Bool.eq_false_or_eq_true (decide (M≤(aQ a m)+(aQ b m))) with hb2 | hb2
 ·rw [hb2]
  refine jJ f168 7 [5,6,7,30] [vT,vT,undef,undef,undef,undef,vT] (oY (rS f168 7 [6,7] [0,1,1] (fun _=>let qa:Value:=.bool (decide ((((aQ a m)+(aQ b m))%M)<m));let qb:=U (((((aQ a m)+(aQ b m))%M)+M-m)%M);[U (((aQ a m)+(aQ b m))%M),U m,.tuple #[qb,qa],.tuple #[qb,qa],qb,qa,undef]) (fun _=>[(6,(bD 2 (nb ρ5 6) (cL (cU (((((aQ a m)+(aQ b m))%M)+M-m)%M)) 64)))]) (cR [[2],[0]]<|cC (f:=184) (args:=fun ρ=> #[U (((aQ a m)+(aQ b m))%M),U m]) (v:=fun ρ=>(.tuple #[U (((((aQ a m)+(aQ b m))%M)+M-m)%M),.bool (decide ((((aQ a m)+(aQ b m))%M)<m))])) (fun _ w=>(fun w=>zQ (((aQ a m)+(aQ b m))%M) m w (rC _) hm) w)<|jE [[],[],[],[2]]) (fun _=>aA (sS f168 2 [6] [1,0] (fun _=>[U (((((aQ a m)+(aQ b m))%M)+M-m)%M),undef]) (fun _=>[(1,(bD 0 (nb ρ1 3) (cL (cU (((((aQ a m)+(aQ b m))%M)+M-m)%M)) 64)))]) (jE [[1],[0]]) (fun _=>aF ?_)))))
  exact mR (v:=(U (((((aQ a m)+(aQ b m))%M)+M-m)%M))) (fun _ hS=>⟨congrArg (fun x=>Ending.returned (U x)) (addm_2 hm hb1 hb2),hS.bel⟩)
 rw [hb2]
 refine sS f168 7 [5,6,7,30] [] (fun _=>let qa:=fJ (((aQ a m)+(aQ b m))%M) m;let qb:Value:=.bool (decide (0≤(fJ (((aQ a m)+(aQ b m))%M) m)));[vF,vF,U (((aQ a m)+(aQ b m))%M),U m,vi qa,qb,qb]) (fun _=>[]) (cR [[],[],[2],[0]]<|cC (f:=148) (args:=fun ρ=> #[U (((aQ a m)+(aQ b m))%M),U m]) (v:=fun ρ=>(vi (fJ (((aQ a m)+(aQ b m))%M) m))) (fun _ w=>(fun w=>xAI (((aQ a m)+(aQ b m))%M) m w (rC _) hm) w)<|jX 2) (fun _=>oC (decide (0≤(fJ (((aQ a m)+(aQ b m))%M) m))) (fun hb3=>?_) (fun hb3=>?_))
 ·rw [hb3]
  refine rS f168 7 [6,7] [0,1,1] (fun _=>let qa:Value:=.bool (decide ((((aQ a m)+(aQ b m))%M)<m));let qb:=U (((((aQ a m)+(aQ b m))%M)+M-m)%M);[U (((aQ a m)+(aQ b m))%M),U m,.tuple #[qb,qa],.tuple #[qb,qa],qb,qa,undef]) (fun _=>[(6,(bD 2 (nb ρ5 6) (cL (cU (((((aQ a m)+(aQ b m))%M)+M-m)%M)) 64)))]) (cR [[2],[0]]<|cC (f:=184) (args:=fun ρ=> #[U (((aQ a m)+(aQ b m))%M),U m]) (v:=fun ρ=>(.tuple #[U (((((aQ a m)+(aQ b m))%M)+M-m)%M),.bool (decide ((((aQ a m)+(aQ b m))%M)<m))])) (fun _ w=>(fun w=>zQ (((aQ a m)+(aQ b m))%M) m w (rC _) hm) w)<|jE [[],[],[],[2]]) (fun _=>aA (sS f168 2 [6] [1,0] (fun _=>[U (((((aQ a m)+(aQ b m))%M)+M-m)%M),undef]) (fun _=>[(1,(bD 0 (nb ρ1 3) (cL (cU (((((aQ a m)+(aQ b m))%M)+M-m)%M)) 64)))]) (jE [[1],[0]]) (fun _=>aF ?_)))
  exact mR (v:=(U (((((aQ a m)+(aQ b m))%M)+M-m)%M))) (fun _ hS=>⟨congrArg (fun x=>Ending.returned (U x)) (addm_3t hm hb1 hb2 hb3),hS.bel⟩)
 rw [hb3]
 refine aG (aA (sS f168 2 [6] [0,1,0] (fun _=>[U (((aQ a m)+(aQ b m))%M),undef]) (fun _=>[(1,(bD 1 (nb ρ1 3) (cL (cU (((aQ a m)+(aQ b m))%M)) 64)))]) (jE [[2],[1]]) (fun _=>aF ?_)))
 exact mR (v:=(U (((aQ a m)+(aQ b m))%M))) (fun _ hS=>⟨congrArg (fun x=>Ending.returned (U x)) (addm_3f hm hb1 hb2 hb3),hS.bel⟩)
theorem raddmod_any (a b m:Nat) (w0:World) (ha:a<M) (hb:b<M) (hm:m<M):Calls prog 168 #[U a,U b,U m] w0 (jR (U (bC a b m)) w0):=raddmod_w a b m ha hb hm w0
theorem rmulmod_w (a:Nat) (b:Nat) (m:Nat) (ha:a<M) (hb:b<M) (hm:m<M) (w0:World):Calls prog 170 #[U a,U b,U m] w0 (jR (U (bV a b m)) w0):=by
 refine Calls.cW 34 (fun _=>True) func170 rfl rfl rfl jT (sS f170 4 [3,4,5,6] [] (fun ρ=>[pt (nb ρ 0),pt (nb ρ 1),pt (nb ρ 2),pt (nb ρ 3)]) (fun ρ=>[(0,(nw ρ 0 (cL (cU a) 64))),(1,(nw ρ 1 (cL (cU b) 64))),(2,(nw ρ 2 (cL (cU m) 64))),(3,(nw ρ 3 (cL (cU 0) 64)))]) (jX 4) (fun ρ1=>aB (sS f170 2 [3,4,5,6,13] [] (fun _=>[U m,.bool (decide (m=0))]) (fun _=>[]) (cR [[2]]<|cC (fun _ w=>iI m w hm)<|cN) (fun _=>oC (decide (m=0)) (fun hb1=>?_) (fun hb1=>?_)))))
 ·rw [hb1]
  refine sS f170 2 [3,4,5,6] [] (fun _=>[U m,undef]) (fun _=>[(1,(bD 3 (nb ρ1 3) (cL (cU m) 64)))]) (jE [[2],[3]]) (fun _=>aF (aC ?_))
  exact mR (v:=(U m)) (ps:=[3,3,3,3]) (fun _ hS=>⟨congrArg (fun x=>Ending.returned (U x)) (mulm_0' hb1),hS.bel⟩)
 rw [hb1]
 refine aG (aA (sD f170 [0,0,3,0,0,31,63,127,255,255,0,0,3583,8191] 14 [5,6,7,8] [0,0,1,1,1,1] (fun ρ=>[U a,U m,U (aQ a m),U b,U m,U (aQ b m),.tuple #[U (((aQ a m)*(aQ b m)) / M),U (((aQ a m)*(aQ b m))%M)],.tuple #[U (((aQ a m)*(aQ b m)) / M),U (((aQ a m)*(aQ b m))%M)],U (((aQ a m)*(aQ b m)) / M),U (((aQ a m)*(aQ b m))%M),pt (nb ρ 10),pt (nb ρ 11),undef,undef]) (fun ρ=>[(10,(nw ρ 10 (cL (cU 0) 64))),(11,(nw ρ 11 (cL (cU 0) 64))),(12,(bD 84 (nb ρ 10) (cL (cU (((aQ a m)*(aQ b m)) / M)) 64))),(13,(bD 92 (nb ρ 11) (cL (cU (((aQ a m)*(aQ b m))%M)) 64)))]) (cR [[0],[2]]<|cC (fun _ w=>oM a m w ha hm)<|cR [[1],[2]]<|cC (fun _ w=>oM b m w hb hm)<|cC (fun _ w=>rmul_any (aQ a m) (aQ b m) w (pR ha) (pR hb))<|jE [[],[],[],[],[],[84],[92]]) (fun _=>sS f170 13 [6,10] [0,1,0,0,0,1] (fun ρ=>let qa:Value:=.bool (decide ((((aQ a m)*(aQ b m)) / M)<m));let qb:=U (qQ (((aQ a m)*(aQ b m)) / M) (((aQ a m)*(aQ b m))%M) m);let qc:=U (iV (((aQ a m)*(aQ b m)) / M) (((aQ a m)*(aQ b m))%M) m);[U (((aQ a m)*(aQ b m)) / M),U (((aQ a m)*(aQ b m))%M),U m,.tuple #[qb,qc,qa],.tuple #[qb,qc,qa],qb,qc,qa,pt (nb ρ 8),pt (nb ρ 9),undef,undef,qa]) (fun ρ=>[(8,(nw ρ 8 (cL (cU 0) 64))),(9,(nw ρ 9 (cL (cU 0) 64))),(10,(bD 68 (nb ρ 8) (cL (cU (qQ (((aQ a m)*(aQ b m)) / M) (((aQ a m)*(aQ b m))%M) m)) 64))),(11,(bD 76 (nb ρ 9) (cL (cU (iV (((aQ a m)*(aQ b m)) / M) (((aQ a m)*(aQ b m))%M) m)) 64)))]) (cR [[2],[3],[0]]<|cC (f:=191) (args:=fun ρ=> #[U (((aQ a m)*(aQ b m)) / M),U (((aQ a m)*(aQ b m))%M),U m]) (v:=fun ρ=>(.tuple #[U (qQ (((aQ a m)*(aQ b m)) / M) (((aQ a m)*(aQ b m))%M) m),U (iV (((aQ a m)*(aQ b m)) / M) (((aQ a m)*(aQ b m))%M) m),.bool (decide ((((aQ a m)*(aQ b m)) / M)<m))])) (fun _ w=>(fun w=>rdiv_any (((aQ a m)*(aQ b m)) / M) (((aQ a m)*(aQ b m))%M) m w (mulhi_lt (pR ha) (pR hb)) (rC _) hm) w)<|jE [[],[],[],[],[],[],[68],[76],[]]) (fun _=>sS f170 2 [6] [1,0] (fun _=>[U (iV (((aQ a m)*(aQ b m)) / M) (((aQ a m)*(aQ b m))%M) m),undef]) (fun _=>[(1,(bD 0 (nb ρ1 3) (cL (cU (iV (((aQ a m)*(aQ b m)) / M) (((aQ a m)*(aQ b m))%M) m)) 64)))]) (jE [[1],[0]]) (fun _=>aF ?_)))))
 exact mR (v:=(U (iV (((aQ a m)*(aQ b m)) / M) (((aQ a m)*(aQ b m))%M) m))) (fun _ hS=>⟨congrArg (fun x=>Ending.returned (U x)) (mulm_2 hm hb1),hS.bel⟩)
theorem vU (a b m:Nat) (w0:World) (ha:a<M) (hb:b<M) (hm:m<M):Calls prog 170 #[U a,U b,U m] w0 (jR (U (bV a b m)) w0):=rmulmod_w a b m ha hb hm w0
theorem rshr_neg (a:Nat) (n:Int) (hn:n≤0) (w0:World):Calls prog 171 #[U a,vi n] w0 (jR (U a) w0):=by
 refine Calls.cW 34 (fun _=>True) func171 rfl rfl rfl jT ?_
 have hk0:decide (n≤0)=true:=decide_eq_true hn
 refine sS f171 2 [1,2,4] [] (fun ρ=>[pt (nb ρ 0),pt (nb ρ 1)]) (fun ρ=>[(0,(nw ρ 0 (cL (cU a) 64))),(1,(nw ρ 1 (cL (cU 0) 64)))]) (jX 2) (fun ρ1=>aB (sS f171 2 [1,2,4,8] [] (fun _=>[vi n,vT]) (fun _=>[]) (jY 1<|cA (fun _=>vT) (fun _=>jP hk0)<|cN) (fun _=>oY (sS f171 2 [1,2,4] [] (fun _=>[U a,undef]) (fun _=>[(1,(bD 1 (nb ρ1 1) (cL (cU a) 64)))]) (jE [[0],[1]]) (fun _=>aF (aC ?_))))))
 exact mR (v:=(U a)) (ps:=[1,1,1,1]) (fun _ hS=>⟨rfl,hS.bel⟩)
theorem rshr_big (a:Nat) (n:Int) (hn:256≤n) (w0:World):Calls prog 171 #[U a,vi n] w0 (jR (U 0) w0):=by
 refine Calls.cW 34 (fun _=>True) func171 rfl rfl rfl jT ?_
 have hk0:decide (n≤0)=false:=decide_eq_false om
 have hk1:decide (256≤n)=true:=decide_eq_true hn
 refine sS f171 2 [1,2,4] [] (fun ρ=>[pt (nb ρ 0),pt (nb ρ 1)]) (fun ρ=>[(0,(nw ρ 0 (cL (cU a) 64))),(1,(nw ρ 1 (cL (cU 0) 64)))]) (jX 2) (fun ρ1=>aB (sS f171 2 [1,2,4,8] [] (fun _=>[vi n,vF]) (fun _=>[]) (jY 1<|cA (fun _=>vF) (fun _=>jP hk0)<|cN) (fun _=>oN (aG (aA (aB (sS f171 2 [1,2,4,11] [] (fun _=>[vi n,vT]) (fun _=>[]) (jY 1<|cA (fun _=>vT) (fun _=>jP hk1)<|cN) (fun _=>oY (sS f171 2 [1,2,4] [] (fun _=>[U 0,undef]) (fun _=>[(1,(bD 1 (nb ρ1 1) (cL (cU 0) 64)))]) (jE [[],[1]]) (fun _=>aF (aC ?_)))))))))))
 exact mR (v:=(U 0)) (ps:=[1,1,1,1]) (fun _ hS=>⟨rfl,hS.bel⟩)
theorem run_shl1 {P:Program} {t:TypeId} (k:Nat) (h:k<64) (w:World):(binOp .shl t (.int .u64 1) (.int .i64 (k:Int))).run P w=.ok (.int .u64 (2^k)) w:=by
 rw [run_shl]
 unfold shlW
 rw [Nat.min_eq_left om,Int.one_mul,x8 k h]
theorem rshr_mid (a:Nat) (m:Nat) (ha:a<M) (_h0:0<m) (_hm:m<256) (w0:World):Calls prog 171 #[U a,vn m] w0 (jR (U (a / 2^m)) w0):=by
 refine Calls.cW 34 (fun _=>True) func171 rfl rfl rfl jT ?_
 have hk0:decide (((m:Nat):Int)≤0)=false:=decide_eq_false om
 have hk1:decide (256≤((m:Nat):Int))=false:=decide_eq_false om
 refine sS f171 2 [1,2,4] [] (fun ρ=>[pt (nb ρ 0),pt (nb ρ 1)]) (fun ρ=>[(0,(nw ρ 0 (cL (cU a) 64))),(1,(nw ρ 1 (cL (cU 0) 64)))]) (jX 2) (fun ρ1=>aB (sS f171 2 [1,2,4,8] [] (fun _=>[vn m,vF]) (fun _=>[]) (jY 1<|cA (fun _=>vF) (fun _=>jP hk0)<|cN) (fun _=>oN (aG (aA (aB (sS f171 2 [1,2,4,11] [] (fun _=>[vn m,vF]) (fun _=>[]) (jY 1<|cA (fun _=>vF) (fun _=>jP hk1)<|cN) (fun _=>oN (aG (aA (sS f171 1 [1,2,4,5] [] (fun ρ=>[pt (nb ρ 0)]) (fun ρ=>[(0,(nw ρ 0 (cL (cU 0) 64)))]) (jX 1) (fun ρ4=>aB (jJ f171 1 [1,2,4,5,6] [vi 0] (aI ?_))))))))))))))
 refine oL (σ:=Nat × Nat) (fun ⟨i,_⟩=>[(1,(vn m)),(2,(pt (nb ρ1 0))),(4,(pt (nb ρ1 1))),(5,(pt (nb ρ4 0))),(6,(vn i))]) (fun ⟨_,b⟩=>[(nb ρ1 0,(cL (cU a) 64)),(nb ρ1 1,(cL (cU 0) 64)),(nb ρ4 0,(cL (cU b) 64))]) (fun ⟨i,_⟩=>256-i)
  (fun ⟨i,b⟩=>(i+m≤256)∧(b=a / 2^m%2^i)) (0,0) (⟨by omega,by simp [Nat.mod_one]⟩) [] ?_
 rintro ⟨i,b⟩ ⟨hi,hb⟩
 refine aB (sS f171 4 [1,2,4,5,6,16] [] (fun _=>[vn i,vn m,vn (i+m),.bool (decide (((i+m:Nat):Int)<256))]) (fun _=>[]) (jY 2<|jW (fun ρ=>(((i:Nat):Int)+((m:Nat):Int))) (fun _=>(i+m)) (fun _=>(dX i m om))<|jX 1) (fun _=>oC (decide (((i+m:Nat):Int)<256)) (fun hb1=>?_) (fun hb1=>?_)))
 ·rw [hb1]
  have:=yT hb1
  refine aG (aA (aB (aI (sS f171 5 [1,2,4,5,6,23] [] (fun _=>[U a,vn i,vn m,vn (i+m),.bool (nJ a (i+m))]) (fun _=>[]) (cR [[0],[],[]]<|jW (fun ρ=>(((i:Nat):Int)+((m:Nat):Int))) (fun _=>(i+m)) (fun _=>(dX i m om))<|cC (fun _ w=>rW a (i+m) w om)<|cN) (fun _=>oC (nJ a (i+m)) (fun hb2=>?_) (fun hb2=>?_))))))
  ·rw [hb2]
   refine rD f171 [0,1,3,7,0,16,48,127,255,511] 10 [1,2,4,5,6] [] (fun _=>[vn i,vn (i / 64),jp (nb ρ4 0) (i / 64),.int .u64 (wd b (i / 64)),vn i,vn (i%64),.int .u64 ((2:Int)^(i%64)),.int .u64 (bits .or .u64 (wd b (i / 64)) ((2:Int)^(i%64))),jp (nb ρ4 0) (i / 64),undef]) (fun _=>[(9,(bD 2 (nb ρ4 0) (cL (cU (b+2^(64*(i / 64)+i%64))) 64)))]) (jY 1<|cB (a:=fun ρ=>(vn i)) (b:=fun ρ=>(vi 64)) (v:=fun ρ=>(vn (i / 64))) .quo 3 (fun _ w=>run_quo_nat i 64 (i / 64) (by decide) om rfl w)<|cX (jS (fun _=>Instr.indexAt 64 (pt (nb ρ4 0)) (vn (i / 64))) (fun _=>(jp (nb ρ4 0) (i / 64))) (fun _ w=>aX (n:=((i / 64:Nat):Int)) (i:=i / 64) underlying64 sizeOf62 (⟨rfl,by omega⟩) w))<|cX (kG _ 2 62 (fun _=>nb ρ4 0) (fun _=>i / 64) (fun _=>(cU b)) 64 (0,0) (fun _=>(.int .u64 (wd b (i / 64)))) (fun _=>by kernel_rfl) isAgg62 (fun _=>lL b (i / 64) om))<|jY 1<|cB (a:=fun ρ=>(vn i)) (b:=fun ρ=>(vi 64)) (v:=fun ρ=>(vn (i%64))) .rem 3 (fun _ w=>run_rem_nat i 64 (i%64) (by decide) rfl w)<|cB (a:=fun ρ=>(.int .u64 1)) (b:=fun ρ=>(vn (i%64))) (v:=fun ρ=>(.int .u64 ((2:Int)^(i%64)))) .shl 62 (fun _ w=>run_shl1 (i%64) om w)<|jY 1<|cX (jS (fun _=>Instr.indexAt 64 (pt (nb ρ4 0)) (vn (i / 64))) (fun _=>(jp (nb ρ4 0) (i / 64))) (fun _ w=>aX (n:=((i / 64:Nat):Int)) (i:=i / 64) underlying64 sizeOf62 (⟨rfl,by omega⟩) w))<|cX (qG _ 2 62 (fun _=>nb ρ4 0) (fun _=>i / 64) (fun _=>(cU b)) (fun _=>(cU (b+2^(64*(i / 64)+i%64)))) 64 (fun _=>(.int .u64 (bits .or .u64 (wd b (i / 64)) ((2:Int)^(i%64))))) (fun _=>by kernel_rfl) sizeOf62 (fun _=>rfl) (fun _=>(show _<4 from by omega)) (fun _=>setlow_row b (i / 64) (i%64) om om (by rw [hb,show 64*(i / 64)+i%64=i by omega];exact Nat.mod_lt _ (Nat.pow_pos (by decide)))))<|cN) (fun _=>aJ (aA (rS f171 3 [1,2,4,5,6] [] (fun _=>[vn i,vn (i+1),vn (i+1)]) (fun _=>[]) (jY 1<|jW (fun ρ=>(((i:Nat):Int)+1)) (fun _=>(i+1)) (fun _=>(dX i 1 om))<|jX 1) (fun _=>?_))))
   exact mN (i+1,b+2^(64*(i / 64)+i%64)) (by show 256-(i+1)<256-i;omega) (⟨by omega,by rw [low_next,hb];have h2:=hb2;unfold nJ at h2;rw [shr_bit] at h2;rw [if_pos (yT h2),show 64*(i / 64)+i%64=i by omega]⟩) []
  rw [hb2]
  refine aG (aJ (aA (rS f171 3 [1,2,4,5,6] [] (fun _=>[vn i,vn (i+1),vn (i+1)]) (fun _=>[]) (jY 1<|jW (fun ρ=>(((i:Nat):Int)+1)) (fun _=>(i+1)) (fun _=>(dX i 1 om))<|jX 1) (fun _=>?_))))
  exact mN (i+1,b) (by show 256-(i+1)<256-i;omega) (⟨by omega,by rw [low_next,hb];have h2:=hb2;unfold nJ at h2;rw [shr_bit] at h2;rw [if_neg (yF h2),Nat.add_zero]⟩) []
 rw [hb1]
 refine bF (aN (aN (aT (aA (sS f171 2 [4] [0,1,0] (fun _=>[U b,undef]) (fun _=>[(1,(bD 1 (nb ρ1 1) (cL (cU b) 64)))]) (jE [[2],[1]]) (fun _=>aF ?_))))))
 exact mR (v:=(U b)) (fun _ hS=>⟨congrArg (fun x=>Ending.returned (U x)) (by rw [hb];exact shr_all ha (oA (yF hb1))),hS.bel⟩)
theorem rshr_any (a:Nat) (n:Int) (w0:World) (ha:a<M):Calls prog 171 #[U a,.int .i64 n] w0 (jR (U (shrZ a n)) w0):=by
 unfold shrZ
 by_cases h0:n<0
 ·rw [if_pos h0];exact rshr_neg a n om w0
 ·rw [if_neg h0]
  by_cases h1:256≤n
  ·rw [shrN_big ha om];exact rshr_big a n h1 w0
  ·obtain ⟨k, rfl⟩ := Int.eq_ofNat_of_zero_le (by omega : 0 ≤ n)
   rw [Int.toNat_natCast]
   by_cases hk:k=0
   ·subst hk;rw [Nat.pow_zero,Nat.div_one];exact rshr_neg a _ om w0
   ·exact rshr_mid a k ha om om w0
theorem rexpmod_w (a:Nat) (e:Nat) (m:Nat) (ha:a<M) (he:e<M) (hm:m<M) (w0:World):Calls prog 172 #[U a,U e,U m] w0 (jR (U (bK a e m)) w0):=by
 refine Calls.cW 34 (fun _=>True) func172 rfl rfl rfl jT (sS f172 4 [3,4,5,6] [] (fun ρ=>[pt (nb ρ 0),pt (nb ρ 1),pt (nb ρ 2),pt (nb ρ 3)]) (fun ρ=>[(0,(nw ρ 0 (cL (cU a) 64))),(1,(nw ρ 1 (cL (cU e) 64))),(2,(nw ρ 2 (cL (cU m) 64))),(3,(nw ρ 3 (cL (cU 0) 64)))]) (jX 4) (fun ρ1=>aB (sS f172 2 [3,4,5,6,10] [] (fun _=>[U m,.bool (decide (m=0))]) (fun _=>[]) (cR [[2]]<|cC (fun _ w=>iI m w hm)<|cN) (fun _=>oC (decide (m=0)) (fun hb1=>?_) (fun hb1=>?_)))))
 ·rw [hb1]
  refine sS f172 2 [3,4,5,6] [] (fun _=>[U m,undef]) (fun _=>[(1,(bD 3 (nb ρ1 3) (cL (cU m) 64)))]) (jE [[2],[3]]) (fun _=>aF (aC ?_))
  exact mR (v:=(U m)) (ps:=[3,3,3,3]) (fun _ hS=>⟨congrArg (fun x=>Ending.returned (U x)) (expm_0' hb1),hS.bel⟩)
 rw [hb1]
 refine aG (aA (sD f172 [0,0,3,0,15] 5 [3,4,5,6,7] [] (fun ρ=>[U 1,U m,U (aQ 1 m),pt (nb ρ 3),undef]) (fun ρ=>[(3,(nw ρ 3 (cL (cU 0) 64))),(4,(bD 28 (nb ρ 3) (cL (cU (aQ 1 m)) 64)))]) (cC (fun _ w=>iE 1 w (by decide))<|cR [[2]]<|cC (fun _ w=>oM 1 m w (by decide +kernel) hm)<|jE [[],[28]]) (fun ρ4=>aB (sS f172 4 [3,4,5,6,7,8] [] (fun _=>let qa:=vi (((dG e:Nat):Int)-1);[U e,vn (dG e),qa,qa]) (fun _=>[]) (cR [[1]]<|cC (fun _ w=>rlen_any e w he)<|jU (fun ρ=>(((dG e:Nat):Int)-1)) (fun _=>(((dG e:Nat):Int)-1)) (fun _=>(wrap_pred (oA (iJ e he))))<|jX 1) (fun _=>aI ?_)))))
 refine oL (σ:=Nat × Nat) (fun ⟨k,_⟩=>[(3,(pt (nb ρ1 0))),(4,(pt (nb ρ1 1))),(5,(pt (nb ρ1 2))),(6,(pt (nb ρ1 3))),(7,(pt (nb ρ4 3))),(8,(vi (((k:Nat):Int)-1)))]) (fun ⟨_,p⟩=>[(nb ρ1 0,(cL (cU a) 64)),(nb ρ1 1,(cL (cU e) 64)),(nb ρ1 2,(cL (cU m) 64)),(nb ρ1 3,(cL (cU 0) 64)),(nb ρ4 3,(cL (cU p) 64))]) (fun ⟨k,_⟩=>k)
  (fun ⟨k,p⟩=>(k≤256)∧(p=a^(e / 2^k)%m)) (dG e,aQ 1 m) (⟨iJ e he,exp_start hb1⟩) [] ?_
 rintro ⟨k,p⟩ ⟨hk,hp⟩
 have hpM:p<M:=exp_lt hm hb1 hp
 refine aB (jJ f172 2 [3,4,5,6,7,8,19] [vi (((k:Nat):Int)-1),.bool (decide (0≤(((k:Nat):Int)-1)))] (oC (decide (0≤(((k:Nat):Int)-1))) (fun hb2=>?_) (fun hb2=>?_)))
 ·rw [hb2]
  refine aG (aA (aB (aI (sS f172 5 [3,4,5,6,7,8] [] (fun _=>[U p,U p,U m,U (bV p p m),undef]) (fun _=>[(4,(bD 4 (nb ρ4 3) (cL (cU (bV p p m)) 64)))]) (cR [[4],[4],[2]]<|cC (fun _ w=>vU p p m w hpM hpM hm)<|jE [[4]]) (fun _=>sS f172 3 [3,4,5,6,7,8,28] [] (fun _=>[U e,vi (((k:Nat):Int)-1),.bool (nJ e (k-1))]) (fun _=>[]) (cR [[1],[]]<|cC (f:=192) (args:=fun ρ=> #[U e,vi (((k:Nat):Int)-1)]) (v:=fun ρ=>(.bool (nJ e (k-1)))) (fun _ w=>(fun w=>rbit_at e (k-1) _ (by have h1:=yT hb2;omega) w (by have h1:=yT hb2;omega)) w)<|cN) (fun _=>oC (nJ e (k-1)) (fun hb3=>?_) (fun hb3=>?_)))))))
  ·rw [hb3]
   refine rS f172 5 [3,4,5,6,7,8] [] (fun _=>[U (bV p p m),U a,U m,U (bV (bV p p m) a m),undef]) (fun _=>[(4,(bD 4 (nb ρ4 3) (cL (cU (bV (bV p p m) a m)) 64)))]) (cR [[4],[0],[2]]<|cC (f:=170) (args:=fun ρ=> #[U (bV p p m),U a,U m]) (v:=fun ρ=>(U (bV (bV p p m) a m))) (fun _ w=>(fun w=>vU (bV p p m) a m w (wE _ _ hm) ha hm) w)<|jE [[4]]) (fun _=>aJ (aA (rS f172 3 [3,4,5,6,7,8] [] (fun _=>let qa:=vi (((k-1:Nat):Int)-1);[vi (((k:Nat):Int)-1),qa,qa]) (fun _=>[]) (jY 1<|jU (fun ρ=>((((k:Nat):Int)-1)-1)) (fun _=>(((k-1:Nat):Int)-1)) (fun _=>(wrap_down (by have h1:=yT hb2;omega) om))<|jX 1) (fun _=>?_))))
   exact mN (k-1,bV (bV p p m) a m) (by show k-1<k;have h1:=yT hb2;omega) (⟨by omega,by rw [exp_step1 hp (jH (a:=0) hb1).2.1,half_odd (by have h1:=yT hb2;omega) hb3]⟩) []
  rw [hb3]
  refine aG (aJ (aA (rS f172 3 [3,4,5,6,7,8] [] (fun _=>let qa:=vi (((k-1:Nat):Int)-1);[vi (((k:Nat):Int)-1),qa,qa]) (fun _=>[]) (jY 1<|jU (fun ρ=>((((k:Nat):Int)-1)-1)) (fun _=>(((k-1:Nat):Int)-1)) (fun _=>(wrap_down (by have h1:=yT hb2;omega) om))<|jX 1) (fun _=>?_))))
  exact mN (k-1,bV p p m) (by show k-1<k;have h1:=yT hb2;omega) (⟨by omega,by rw [exp_step hp (jH (a:=0) hb1).2.1,half_even (by have h1:=yT hb2;omega) hb3]⟩) []
 rw [hb2]
 refine bF (aN (aN (aT (aA (sS f172 2 [6] [0,0,0,1,0] (fun _=>[U p,undef]) (fun _=>[(1,(bD 3 (nb ρ1 3) (cL (cU p) 64)))]) (jE [[4],[3]]) (fun _=>aF ?_))))))
 exact mR (v:=(U p)) (fun _ hS=>⟨congrArg (fun x=>Ending.returned (U x)) (exp_end (k:=k) hb1 (by have h1:=yF hb2;omega) hp),hS.bel⟩)
theorem rexpmod_any (a e m:Nat) (w0:World) (ha:a<M) (he:e<M) (hm:m<M):Calls prog 172 #[U a,U e,U m] w0 (jR (U (bK a e m)) w0):=rexpmod_w a e m ha he hm w0
theorem qX {A k:Nat} {C:Array Value} {v:Int} (hC:C.size=32) (hk:k<32) (hj:∀ j,j<k→C[j]? = some (.int .u8 (nR A j))) (hv:v=nR A k) :
 (C.setIfInBounds k (.int .u8 v)).size=32∧∀ j,j<k+1→(C.setIfInBounds k (.int .u8 v))[j]? = some (.int .u8 (nR A j)):=by
 refine ⟨by simpa using hC,fun j h=>?_⟩
 by_cases e:j=k
 ·subst e;rw [hv];simp [hC,hk]
 ·rw [Array.getElem?_setIfInBounds_ne (fun x=>e x.symm)];exact hj j om
theorem nV {C:Array Value} (h:C.size=32):(prog.info? 57).map (·.size)=some C.size:=by rw [h];kernel_rfl
set_option maxHeartbeats 1000000 in
set_option maxRecDepth 100000 in
theorem pW (A : Nat) (w : World) :
 Calls prog 136 #[U A] w fun e w'=>e=.returned (.agg (hB A))∧Below w.heap.size w w':=by
 go_enter func136,Tryz.ntmps136
 go_wp2
 obtain ⟨Z,hZ⟩:∃ Z:Array Value,Z= #[.int .u8 0,.int .u8 0,.int .u8 0,.int .u8 0,.int .u8 0,.int .u8 0,.int .u8 0,.int .u8 0,.int .u8 0,.int .u8 0,.int .u8 0,.int .u8 0,.int .u8 0,.int .u8 0,.int .u8 0,.int .u8 0,.int .u8 0,.int .u8 0,.int .u8 0,.int .u8 0,.int .u8 0,.int .u8 0,.int .u8 0,.int .u8 0,.int .u8 0,.int .u8 0,.int .u8 0,.int .u8 0,.int .u8 0,.int .u8 0,.int .u8 0,.int .u8 0]:=⟨_,rfl⟩
 rw [← hZ]
 have hz:Z.size=32:=by rw [hZ];rfl
 clear hZ
 go_loopw [5] (fun i wr=>∃ (k:Nat) (C:Array Value),k≤32∧i=.int .i64 k∧C.size=32∧(∀ j,j<k→C[j]? = some (.int .u8 (nR A j)))∧wr=((w.alloc (.cells #[.int .u64 (wd A 0),.int .u64 (wd A 1),.int .u64 (wd A 2),.int .u64 (wd A 3)] 64)).alloc (.cells Z 57)).alloc (.cells C 57)) (fun i _=>32-(intOf i).toNat)
 case atStart=>exact ⟨0,Z,by omega,rfl,hz,fun j hj=>by omega,rfl⟩
 case round =>
  obtain ⟨k,C,hk,rfl,hC,hj,rfl⟩:=hrel
  have HC:=Lib.hid hC;have HJ:=Lib.hid hj;have HZ:=Lib.hid hz
  clear hC hj hz
  by_cases hlt:k<32
  ·have hC2 : k < C.size := by have := HC.out; omega
   rcases (by omega:(k:Int) / 8=0∨(k:Int) / 8=1∨(k:Int) / 8=2∨(k:Int) / 8=3) with h8 | h8 | h8 | h8
   all_goals
    go_wp2
    go_roundw
    case rel =>
     first | (obtain ⟨g1,g2⟩:=qX HC.out hlt HJ.out (byt_wd A 3 k hlt om);exact ⟨k+1,_,by omega,by go_num,g1,g2,rfl⟩) | (obtain ⟨g1,g2⟩:=qX HC.out hlt HJ.out (byt_wd A 2 k hlt om);exact ⟨k+1,_,by omega,by go_num,g1,g2,rfl⟩) | (obtain ⟨g1,g2⟩:=qX HC.out hlt HJ.out (byt_wd A 1 k hlt om);exact ⟨k+1,_,by omega,by go_num,g1,g2,rfl⟩) | (obtain ⟨g1,g2⟩:=qX HC.out hlt HJ.out (byt_wd A 0 k hlt om);exact ⟨k+1,_,by omega,by go_num,g1,g2,rfl⟩)
    case measure=>simp [intOf];omega
  ·go_wp2_with (first | (refine wl_load (w.heap.size + 1 + 1) 57 C _ rfl (hp_3_2 _ _ _ _) underlying57 rfl (nV HC.out) ?_) | (refine wl_store (w.heap.size + 1) 57 Z C rfl rfl (hp_3_1 _ _ _ _) (nV HC.out) (HZ.out.trans HC.out.symm) (by rw [hB_ext HC.out (fun j h => HJ.out j om)]; exact hB_one A) ?_))
   rw [sr_3_1]
   refine bodyPost_ret (results_cell_row rfl _ _ (w.heap.size+1) 57 C (0,0) _ rfl (hp_3_1 _ _ _ _) underlying57 rfl (nV HC.out)) rfl ?_
   refine ⟨by rw [hB_ext HC.out (fun j h=>HJ.out j om)],?_⟩
   (exact bt)
theorem run_index_hash (A k:Nat) (hk:k<32) (w:World):(Instr.index 57 (.agg (hB A)) (.int .i64 k)).run prog w=.ok (.int .u8 (nR A k)) w:=by
 have h:=hB_get A k hk
 have h0:(0:Int)≤(k:Int)∧(k:Int)<32:=by omega
 simp [Instr.index,go_sem,part,h,h0,hk]
set_option maxHeartbeats 1000000 in
set_option maxRecDepth 100000 in
theorem frombytes_any (A : Nat) (w : World) :
 Calls prog 201 #[.agg (hB A)] w fun e w'=>e=.returned (U A)∧Below w.heap.size w w':=by
 go_enter func201,Tryz.ntmps201
 go_wp2_with (refine wl_load (w.heap.size) 57 (hB A) _ rfl (hp_3_0 _ _ _ _) underlying57 rfl (nV (yV A)) ?_)
 go_loopw [8] (fun i wr=>∃ (k:Nat),k≤32∧i=.int .i64 k∧wr=((w.alloc (.cells (hB A) 57)).alloc (.cells #[.int .u64 0,.int .u64 0,.int .u64 0,.int .u64 0] 64)).alloc (.cells #[.int .u64 (pre A 0 k),.int .u64 (pre A 1 k),.int .u64 (pre A 2 k),.int .u64 (pre A 3 k)] 64)) (fun i _=>32-(intOf i).toNat)
 case atStart=>exact ⟨0,by omega,rfl,by rw [xI A 0 0 om,xI A 1 0 om,xI A 2 0 om,xI A 3 0 om]⟩
 case round =>
  obtain ⟨k,hk,rfl,rfl⟩:=hrel
  by_cases hlt:k<32
  ·have hidx := run_index_hash A k hlt
   rcases (by omega:(k:Int) / 8=0∨(k:Int) / 8=1∨(k:Int) / 8=2∨(k:Int) / 8=3) with h8 | h8 | h8 | h8
   all_goals
    go_wp2
    go_roundw
    case rel =>
     refine ⟨k+1,by omega,by go_num,?_⟩
     first
      | rw [yZ A 3 k hlt om,iP A 0 k om om,iP A 1 k om om,iP A 2 k om om]
      | rw [yZ A 2 k hlt om,iP A 0 k om om,iP A 1 k om om,iP A 3 k om om]
      | rw [yZ A 1 k hlt om,iP A 0 k om om,iP A 2 k om om,iP A 3 k om om]
      | rw [yZ A 0 k hlt om,iP A 1 k om om,iP A 2 k om om,iP A 3 k om om]
    case measure=>simp [intOf];omega
  ·obtain rfl : k = 32 := by omega
   rw [pre_end A 0 om,pre_end A 1 om,pre_end A 2 om,pre_end A 3 om]
   go_wp2
   go_returns
   refine ⟨rfl,?_⟩
   (exact bt)
theorem setCell_drewN (w:World) (n:Nat) (a:Addr) (v:Value):(w.drewN n).setCell a v=(w.setCell a v).drewN n:=rfl
set_option maxHeartbeats 1000000 in
set_option maxRecDepth 100000 in
theorem rfrombytes_any (A : Nat) (w : World) :
 Calls prog 169 #[.agg (hB A)] w fun e w'=>e=.returned (U A)∧Below w.heap.size w w':=by
 go_enter func169,Tryz.ntmps169
 go_wp2
 go_loopw [6] (fun i wr=>∃ (k n:Nat),k≤32∧i=.int .i64 k∧wr=(((w.alloc (.cells (hB A) 57)).alloc (.cells #[.int .u64 0,.int .u64 0,.int .u64 0,.int .u64 0] 64)).alloc (.cells #[.int .u64 (top A 0 k),.int .u64 (top A 1 k),.int .u64 (top A 2 k),.int .u64 (top A 3 k)] 64)).drewN n) (fun i _=>32-(intOf i).toNat)
 case atStart=>exact ⟨0,0,by omega,rfl,by rw [World.drewN_zero,xC A 0 0 om,xC A 1 0 om,xC A 2 0 om,xC A 3 0 om]⟩
 case round =>
  obtain ⟨k,n,hk,rfl,rfl⟩:=hrel
  by_cases hlt:k<32
  ·have hcell := hB_get A k hlt
   rcases (by omega:(31-(k:Int)) / 8=0∨(31-(k:Int)) / 8=1∨(31-(k:Int)) / 8=2∨(31-(k:Int)) / 8=3) with h8 | h8 | h8 | h8
   all_goals
    go_wp2
    go_region
    go_wp2
    go_roundw
    case rel =>
     refine ⟨k+1,n+1,by omega,by go_num,?_⟩
     have e8:8*((31-k)%8)=56-k%8*8:=by omega
     rw [e8,xAB (qK A k) (by have:=byt_lt A k;omega),top_byte_in A k,setCell_drewN,World.setCell_alloc_at _ _ _ _ _ (by simp)]
     first
      | (rw [zF A 3 k hlt om,iO A 0 k om om,iO A 1 k om om,iO A 2 k om om];rfl)
      | (rw [zF A 2 k hlt om,iO A 0 k om om,iO A 1 k om om,iO A 3 k om om];rfl)
      | (rw [zF A 1 k hlt om,iO A 0 k om om,iO A 2 k om om,iO A 3 k om om];rfl)
      | (rw [zF A 0 k hlt om,iO A 1 k om om,iO A 2 k om om,iO A 3 k om om];rfl)
    case measure=>simp [intOf];omega
  ·obtain rfl : k = 32 := by omega
   rw [top_end A 0 om,top_end A 1 om,top_end A 2 om,top_end A 3 om]
   go_wp2
   go_returns
   refine ⟨rfl,?_⟩
   (exact bt)
set_option maxHeartbeats 1000000 in
set_option maxRecDepth 100000 in
theorem rbytes_any (A : Nat) (w : World) :
 Calls prog 122 #[U A] w fun e w'=>e=.returned (.agg (hB A))∧Below w.heap.size w w':=by
 go_enter func122,Tryz.ntmps122
 go_wp2
 obtain ⟨Z,hZ⟩:∃ Z:Array Value,Z= #[.int .u8 0,.int .u8 0,.int .u8 0,.int .u8 0,.int .u8 0,.int .u8 0,.int .u8 0,.int .u8 0,.int .u8 0,.int .u8 0,.int .u8 0,.int .u8 0,.int .u8 0,.int .u8 0,.int .u8 0,.int .u8 0,.int .u8 0,.int .u8 0,.int .u8 0,.int .u8 0,.int .u8 0,.int .u8 0,.int .u8 0,.int .u8 0,.int .u8 0,.int .u8 0,.int .u8 0,.int .u8 0,.int .u8 0,.int .u8 0,.int .u8 0,.int .u8 0]:=⟨_,rfl⟩
 rw [← hZ]
 have hz:Z.size=32:=by rw [hZ];rfl
 clear hZ
 go_loopw [6] (fun i wr=>∃ (k:Nat) (C:Array Value),k≤32∧i=.int .i64 k∧C.size=32∧(∀ j,j<k→C[j]? = some (.int .u8 (nR A j)))∧wr=((w.alloc (.cells #[.int .u64 (wd A 0),.int .u64 (wd A 1),.int .u64 (wd A 2),.int .u64 (wd A 3)] 64)).alloc (.cells Z 57)).alloc (.cells C 57)) (fun i _=>32-(intOf i).toNat)
 case atStart=>exact ⟨0,Z,by omega,rfl,hz,fun j hj=>by omega,rfl⟩
 case round =>
  obtain ⟨k,C,hk,rfl,hC,hj,rfl⟩:=hrel
  have HC:=Lib.hid hC;have HJ:=Lib.hid hj;have HZ:=Lib.hid hz
  clear hC hj hz
  by_cases hlt:k<32
  ·have hC2 : k < C.size := by have := HC.out; omega
   rcases (by omega:(31-(k:Int)) / 8=0∨(31-(k:Int)) / 8=1∨(31-(k:Int)) / 8=2∨(31-(k:Int)) / 8=3) with h8 | h8 | h8 | h8
   all_goals
    go_wp2
    go_roundw
    case rel =>
     first | (obtain ⟨g1,g2⟩:=qX HC.out hlt HJ.out (byt_wd' A 3 k hlt om);exact ⟨k+1,_,by omega,by go_num,g1,g2,rfl⟩) | (obtain ⟨g1,g2⟩:=qX HC.out hlt HJ.out (byt_wd' A 2 k hlt om);exact ⟨k+1,_,by omega,by go_num,g1,g2,rfl⟩) | (obtain ⟨g1,g2⟩:=qX HC.out hlt HJ.out (byt_wd' A 1 k hlt om);exact ⟨k+1,_,by omega,by go_num,g1,g2,rfl⟩) | (obtain ⟨g1,g2⟩:=qX HC.out hlt HJ.out (byt_wd' A 0 k hlt om);exact ⟨k+1,_,by omega,by go_num,g1,g2,rfl⟩)
    case measure=>simp [intOf];omega
  ·go_wp2_with (first | (refine wl_load (w.heap.size + 1 + 1) 57 C _ rfl (hp_3_2 _ _ _ _) underlying57 rfl (nV HC.out) ?_) | (refine wl_store (w.heap.size + 1) 57 Z C rfl rfl (hp_3_1 _ _ _ _) (nV HC.out) (HZ.out.trans HC.out.symm) (by rw [hB_ext HC.out (fun j h => HJ.out j om)]; exact hB_one A) ?_))
   rw [sr_3_1]
   refine bodyPost_ret (results_cell_row rfl _ _ (w.heap.size+1) 57 C (0,0) _ rfl (hp_3_1 _ _ _ _) underlying57 rfl (nV HC.out)) rfl ?_
   refine ⟨by rw [hB_ext HC.out (fun j h=>HJ.out j om)],?_⟩
   (exact bt)
theorem gmodulus_w  (w0:World):Calls prog 152 #[] w0 (jR (U pP) w0):=by
 refine Calls.cW 2 (fun _=>True) func152 rfl rfl rfl jT (sS f152 1 [0] [] (fun ρ=>[pt (nb ρ 0)]) (fun ρ=>[(0,(nw ρ 0 (cL (cU 0) 64)))]) (jX 1) (fun ρ1=>sS f152 2 [0] [] (fun _=>[U 115792089237316195423570985008687907853269984665640564039457584007913129603823,undef]) (fun _=>[(1,(bD 0 (nb ρ1 0) (cL (cU 115792089237316195423570985008687907853269984665640564039457584007913129603823) 64)))]) (jE [[],[0]]) (fun _=>aF ?_)))
 exact mR (v:=(U 115792089237316195423570985008687907853269984665640564039457584007913129603823)) (fun _ hS=>⟨congrArg (fun x=>Ending.returned (U x)) (by decide +kernel),hS.bel⟩)
theorem yY (w0:World)  : Calls prog 152 #[] w0 (jR (U pP) w0):=gmodulus_w  w0
theorem gorder_w  (w0:World):Calls prog 154 #[] w0 (jR (U qP) w0):=by
 refine Calls.cW 2 (fun _=>True) func154 rfl rfl rfl jT (sS f154 1 [0] [] (fun ρ=>[pt (nb ρ 0)]) (fun ρ=>[(0,(nw ρ 0 (cL (cU 0) 64)))]) (jX 1) (fun ρ1=>sS f154 2 [0] [] (fun _=>[U 57896044618658097711785492504343953926634992332820282019728792003956564801911,undef]) (fun _=>[(1,(bD 0 (nb ρ1 0) (cL (cU 57896044618658097711785492504343953926634992332820282019728792003956564801911) 64)))]) (jE [[],[0]]) (fun _=>aF ?_)))
 exact mR (v:=(U 57896044618658097711785492504343953926634992332820282019728792003956564801911)) (fun _ hS=>⟨congrArg (fun x=>Ending.returned (U x)) (by decide +kernel),hS.bel⟩)
theorem yC (w0:World)  : Calls prog 154 #[] w0 (jR (U qP) w0):=gorder_w  w0
theorem rgmodulus_w  (w0:World):Calls prog 163 #[] w0 (jR (U pP) w0):=by
 refine Calls.cW 10 (fun _=>True) func163 rfl rfl rfl jT (sS f163 1 [0] [] (fun ρ=>[pt (nb ρ 0)]) (fun ρ=>[(0,(nw ρ 0 (cL (cU 0) 64)))]) (jX 1) (fun ρ1=>sS f163 9 [0,1] [] (fun ρ=>let qa:Value:=.bool (decide (0<36113));[U 0,U 36113,.tuple #[U ((0+M-36113)%M),qa],.tuple #[U ((0+M-36113)%M),qa],U ((0+M-36113)%M),qa,pt (nb ρ 6),undef,qa]) (fun ρ=>[(6,(nw ρ 6 (cL (cU 0) 64))),(7,(bD 49 (nb ρ 6) (cL (cU ((0+M-36113)%M)) 64)))]) (jY 1<|cC (fun _ w=>iE 36113 w (by decide))<|cC (fun _ w=>zQ 0 36113 w (by decide +kernel) (by decide +kernel))<|jE [[],[],[],[],[49],[]]) (fun _=>sS f163 2 [0] [1,0] (fun _=>[U ((0+M-36113)%M),undef]) (fun _=>[(1,(bD 0 (nb ρ1 0) (cL (cU ((0+M-36113)%M)) 64)))]) (jE [[1],[0]]) (fun _=>aF ?_))))
 exact mR (v:=(U ((0+M-36113)%M))) (fun _ hS=>⟨congrArg (fun x=>Ending.returned (U x)) (by decide +kernel),hS.bel⟩)
theorem lW (w0:World)  : Calls prog 163 #[] w0 (jR (U pP) w0):=rgmodulus_w  w0
theorem rgorder_w  (w0:World):Calls prog 149 #[] w0 (jR (U qP) w0):=by
 refine Calls.cW 3 (fun _=>True) func149 rfl rfl rfl jT (sS f149 1 [0] [] (fun ρ=>[pt (nb ρ 0)]) (fun ρ=>[(0,(nw ρ 0 (cL (cU 0) 64)))]) (jX 1) (fun ρ1=>sS f149 3 [0] [] (fun _=>[U pP,U (shrZ pP 1),undef]) (fun _=>[(2,(bD 0 (nb ρ1 0) (cL (cU (shrZ pP 1)) 64)))]) (cC (fun _ w=>lW w)<|cC (fun _ w=>rshr_any pP 1 w oV)<|jE [[0]]) (fun _=>aF ?_)))
 exact mR (v:=(U (shrZ pP 1))) (fun _ hS=>⟨congrArg (fun x=>Ending.returned (U x)) (by decide +kernel),hS.bel⟩)
theorem wC (w0:World)  : Calls prog 149 #[] w0 (jR (U qP) w0):=rgorder_w  w0
theorem rgone_w  (w0:World):Calls prog 164 #[] w0 (jR (U 1) w0):=by
 refine Calls.cW 2 (fun _=>True) func164 rfl rfl rfl jT (sS f164 1 [0] [] (fun ρ=>[pt (nb ρ 0)]) (fun ρ=>[(0,(nw ρ 0 (cL (cU 0) 64)))]) (jX 1) (fun ρ1=>sS f164 2 [0] [] (fun _=>[U 1,undef]) (fun _=>[(1,(bD 0 (nb ρ1 0) (cL (cU 1) 64)))]) (cC (fun _ w=>iE 1 w (by decide))<|jE [[0]]) (fun _=>aF ?_)))
 exact mR (v:=(U 1)) (fun _ hS=>⟨rfl,hS.bel⟩)
theorem rgone_any (w0:World)  : Calls prog 164 #[] w0 (jR (U 1) w0):=rgone_w  w0
theorem gmul_w (a:Nat) (b:Nat) (ha:a<M) (hb:b<M) (w0:World):Calls prog 174 #[U a,U b] w0 (jR (U (bV a b pP)) w0):=by
 refine Calls.cW 9 (fun _=>True) func174 rfl rfl rfl jT (sS f174 3 [2,3,4] [] (fun ρ=>[pt (nb ρ 0),pt (nb ρ 1),pt (nb ρ 2)]) (fun ρ=>[(0,(nw ρ 0 (cL (cU a) 64))),(1,(nw ρ 1 (cL (cU b) 64))),(2,(nw ρ 2 (cL (cU 0) 64)))]) (jX 3) (fun ρ1=>sD f174 [0,0,0,7,15] 5 [4] [0,0,1] (fun _=>[U a,U b,U pP,U (bV a b pP),undef]) (fun _=>[(4,(bD 2 (nb ρ1 2) (cL (cU (bV a b pP)) 64)))]) (cR [[0],[1]]<|cC (fun _ w=>yY w)<|cC (fun _ w=>mulmod_any a b pP w ha hb oV)<|jE [[2]]) (fun _=>aF ?_)))
 exact mR (v:=(U (bV a b pP))) (fun _ hS=>⟨rfl,hS.bel⟩)
theorem gmul_any (a b:Nat) (w0:World) (ha:a<M) (hb:b<M):Calls prog 174 #[U a,U b] w0 (jR (U (bV a b pP)) w0):=gmul_w a b ha hb w0
theorem rgmul_w (a:Nat) (b:Nat) (ha:a<M) (hb:b<M) (w0:World):Calls prog 146 #[U a,U b] w0 (jR (U (bV a b pP)) w0):=by
 refine Calls.cW 9 (fun _=>True) func146 rfl rfl rfl jT (sS f146 3 [2,3,4] [] (fun ρ=>[pt (nb ρ 0),pt (nb ρ 1),pt (nb ρ 2)]) (fun ρ=>[(0,(nw ρ 0 (cL (cU a) 64))),(1,(nw ρ 1 (cL (cU b) 64))),(2,(nw ρ 2 (cL (cU 0) 64)))]) (jX 3) (fun ρ1=>sD f146 [0,0,0,7,15] 5 [4] [0,0,1] (fun _=>[U a,U b,U pP,U (bV a b pP),undef]) (fun _=>[(4,(bD 2 (nb ρ1 2) (cL (cU (bV a b pP)) 64)))]) (cR [[0],[1]]<|cC (fun _ w=>lW w)<|cC (fun _ w=>vU a b pP w ha hb oV)<|jE [[2]]) (fun _=>aF ?_)))
 exact mR (v:=(U (bV a b pP))) (fun _ hS=>⟨rfl,hS.bel⟩)
theorem rgmul_any (a b:Nat) (w0:World) (ha:a<M) (hb:b<M):Calls prog 146 #[U a,U b] w0 (jR (U (bV a b pP)) w0):=rgmul_w a b ha hb w0
theorem gexp_w (a:Nat) (e:Nat) (ha:a<M) (he:e<M) (w0:World):Calls prog 153 #[U a,U e] w0 (jR (U (bK a e pP)) w0):=by
 refine Calls.cW 37 (fun _=>True) func153 rfl rfl rfl jT (sS f153 3 [2,3,4] [] (fun ρ=>[pt (nb ρ 0),pt (nb ρ 1),pt (nb ρ 2)]) (fun ρ=>[(0,(nw ρ 0 (cL (cU a) 64))),(1,(nw ρ 1 (cL (cU e) 64))),(2,(nw ρ 2 (cL (cU 0) 64)))]) (jX 3) (fun ρ1=>sS f153 3 [2,3,4,5] [] (fun ρ=>[U 1,pt (nb ρ 1),undef]) (fun ρ=>[(1,(nw ρ 1 (cL (cU 0) 64))),(2,(bD 11 (nb ρ 1) (cL (cU 1) 64)))]) (cC (fun _ w=>lF 1 w (by decide))<|jE [[],[11]]) (fun ρ2=>sS f153 3 [2,3,4,5,6] [] (fun _=>[U e,vn (dG e),vn (dG e)]) (fun _=>[]) (cR [[1]]<|cC (fun _ w=>len_any e w he)<|jX 1) (fun _=>aB (jJ f153 2 [2,3,4,5,6,12,13] [vn (dG e),vi 0] (aI ?_))))))
 refine oL (σ:=Nat × Nat) (fun ⟨i,_⟩=>[(2,(pt (nb ρ1 0))),(3,(pt (nb ρ1 1))),(4,(pt (nb ρ1 2))),(5,(pt (nb ρ2 1))),(6,(vn (dG e))),(12,(vn (dG e))),(13,(vn i))]) (fun ⟨_,p⟩=>[(nb ρ1 0,(cL (cU a) 64)),(nb ρ1 1,(cL (cU e) 64)),(nb ρ1 2,(cL (cU 0) 64)),(nb ρ2 1,(cL (cU p) 64))]) (fun ⟨i,_⟩=>dG e-i)
  (fun ⟨i,p⟩=>(i≤dG e)∧(p=a^(e / 2^(dG e-i))%pP)) (0,1) (⟨Nat.zero_le _,exp_one a e⟩) [] ?_
 rintro ⟨i,p⟩ ⟨hi,hp⟩
 have hpM:p<M:=gexp_lt hp
 refine jJ f153 1 [2,3,4,5,6,12,13,14] [.bool (decide (((i:Nat):Int)<((dG e:Nat):Int)))] (aB (oC (decide (((i:Nat):Int)<((dG e:Nat):Int))) (fun hb1=>?_) (fun hb1=>?_)))
 ·rw [hb1]
  refine aG (aA (aB (aI (jJ f153 2 [2,3,4,5,6,7,12,13] [vn i,vn i] (sS f153 5 [2,3,4,5,6,8,12,13] [] (fun _=>[vn (dG e),vn (dG e-1),vn i,vn (dG e-1-i),vn (dG e-1-i)]) (fun _=>[]) (jY 1<|jW (fun ρ=>(((dG e:Nat):Int)-1)) (fun _=>(dG e-1)) (fun _=>(zY (dG e) 1 (by have h1:=yT hb1;have h2:=iJ e he;omega) (by have h1:=yT hb1;have h2:=iJ e he;omega)))<|jY 1<|jW (fun ρ=>(((dG e-1:Nat):Int)-((i:Nat):Int))) (fun _=>(dG e-1-i)) (fun _=>(zY (dG e-1) i (by have h1:=yT hb1;have h2:=iJ e he;omega) (by have h1:=yT hb1;have h2:=iJ e he;omega)))<|jX 1) (fun _=>sS f153 4 [2,3,4,5,6,8,12,13] [] (fun _=>[U p,U p,U (bV p p pP),undef]) (fun _=>[(3,(bD 3 (nb ρ2 1) (cL (cU (bV p p pP)) 64)))]) (cR [[3],[3]]<|cC (fun _ w=>gmul_any p p w hpM hpM)<|jE [[3]]) (fun _=>sS f153 9 [2,3,4,5,6,12,13,31] [] (fun _=>let qa:=shrW (wd e ((dG e-1-i) / 64)) ((dG e-1-i)%64);[vn (dG e-1-i),vn ((dG e-1-i) / 64),jp (nb ρ1 1) ((dG e-1-i) / 64),.int .u64 (wd e ((dG e-1-i) / 64)),vn (dG e-1-i),vn ((dG e-1-i)%64),.int .u64 qa,.int .u64 (bits .and .u64 qa 1),.bool (nJ e (dG e-1-i))]) (fun _=>[]) (jY 1<|cB (a:=fun ρ=>(vn (dG e-1-i))) (b:=fun ρ=>(vi 64)) (v:=fun ρ=>(vn ((dG e-1-i) / 64))) .quo 3 (fun _ w=>run_quo_nat (dG e-1-i) 64 ((dG e-1-i) / 64) (by decide) (by have h1:=yT hb1;have h2:=iJ e he;omega) rfl w)<|cX (jS (fun _=>Instr.indexAt 64 (pt (nb ρ1 1)) (vn ((dG e-1-i) / 64))) (fun _=>(jp (nb ρ1 1) ((dG e-1-i) / 64))) (fun _ w=>aX (n:=(((dG e-1-i) / 64:Nat):Int)) (i:=(dG e-1-i) / 64) underlying64 sizeOf62 (⟨rfl,(by have h1:=yT hb1;have h2:=iJ e he;omega)⟩) w))<|cX (kG _ 1 62 (fun _=>nb ρ1 1) (fun _=>(dG e-1-i) / 64) (fun _=>(cU e)) 64 (0,0) (fun _=>(.int .u64 (wd e ((dG e-1-i) / 64)))) (fun _=>by kernel_rfl) isAgg62 (fun _=>lL e ((dG e-1-i) / 64) (by have h1:=yT hb1;have h2:=iJ e he;omega)))<|jY 1<|cB (a:=fun ρ=>(vn (dG e-1-i))) (b:=fun ρ=>(vi 64)) (v:=fun ρ=>(vn ((dG e-1-i)%64))) .rem 3 (fun _ w=>run_rem_nat (dG e-1-i) 64 ((dG e-1-i)%64) (by decide) rfl w)<|cB (a:=fun ρ=>(.int .u64 (wd e ((dG e-1-i) / 64)))) (b:=fun ρ=>(vn ((dG e-1-i)%64))) (v:=fun ρ=>(.int .u64 (shrW (wd e ((dG e-1-i) / 64)) ((dG e-1-i)%64)))) .shr 62 (fun _ w=>run_shr (wd e ((dG e-1-i) / 64)) ((dG e-1-i)%64) w)<|jY 1<|cA (fun _=>(.bool (nJ e (dG e-1-i)))) (fun _=>jP (expbit e (dG e-1-i)))<|cN) (fun _=>oC (nJ e (dG e-1-i)) (fun hb2=>?_) (fun hb2=>?_)))))))))
  ·rw [hb2]
   refine rS f153 4 [2,3,4,5,6,12,13] [] (fun _=>[U (bV p p pP),U a,U (bV (bV p p pP) a pP),undef]) (fun _=>[(3,(bD 3 (nb ρ2 1) (cL (cU (bV (bV p p pP) a pP)) 64)))]) (cR [[3],[0]]<|cC (f:=174) (args:=fun ρ=> #[U (bV p p pP),U a]) (v:=fun ρ=>(U (bV (bV p p pP) a pP))) (fun _ w=>(fun w=>gmul_any (bV p p pP) a w (wE _ _ oV) ha) w)<|jE [[3]]) (fun _=>aJ (aA (rS f153 2 [2,3,4,5,6,12,13] [] (fun _=>[vn (i+1),vn (i+1)]) (fun _=>[]) (jW (fun ρ=>(((i:Nat):Int)+1)) (fun _=>(i+1)) (fun _=>(dX i 1 (by have h1:=yT hb1;have h2:=iJ e he;omega)))<|jX 1) (fun _=>?_))))
   exact mN (i+1,bV (bV p p pP) a pP) (by show dG e-(i+1)<dG e-i;have h1:=yT hb1;have h2:=iJ e he;omega) (⟨by have h1:=yT hb1;have h2:=iJ e he;omega,by rw [exp_step1 hp (Nat.lt_trans Nat.zero_lt_one pF),show dG e-(i+1)=(dG e-i)-1 by omega,← half_odd (by have h1:=yT hb1;have h2:=iJ e he;omega) (by rw [show dG e-i-1=dG e-1-i by omega];exact hb2)]⟩) []
  rw [hb2]
  refine aG (aJ (aA (rS f153 2 [2,3,4,5,6,12,13] [] (fun _=>[vn (i+1),vn (i+1)]) (fun _=>[]) (jW (fun ρ=>(((i:Nat):Int)+1)) (fun _=>(i+1)) (fun _=>(dX i 1 (by have h1:=yT hb1;have h2:=iJ e he;omega)))<|jX 1) (fun _=>?_))))
  exact mN (i+1,bV p p pP) (by show dG e-(i+1)<dG e-i;have h1:=yT hb1;have h2:=iJ e he;omega) (⟨by have h1:=yT hb1;have h2:=iJ e he;omega,by rw [exp_step hp (Nat.lt_trans Nat.zero_lt_one pF),show dG e-(i+1)=(dG e-i)-1 by omega,← half_even (by have h1:=yT hb1;have h2:=iJ e he;omega) (by rw [show dG e-i-1=dG e-1-i by omega];exact hb2)]⟩) []
 rw [hb1]
 refine bF (aN (aN (aT (aA (sS f153 2 [4] [0,0,1,0] (fun _=>[U p,undef]) (fun _=>[(1,(bD 2 (nb ρ1 2) (cL (cU p) 64)))]) (jE [[3],[2]]) (fun _=>aF ?_))))))
 exact mR (v:=(U p)) (fun _ hS=>⟨congrArg (fun x=>Ending.returned (U x)) (gexp_end (i:=i) (by have h1:=yF hb1;omega) hp),hS.bel⟩)
theorem gexp_any (a e:Nat) (w0:World) (ha:a<M) (he:e<M):Calls prog 153 #[U a,U e] w0 (jR (U (bK a e pP)) w0):=gexp_w a e ha he w0
theorem rgexp_w (a:Nat) (e:Nat) (ha:a<M) (he:e<M) (w0:World):Calls prog 150 #[U a,U e] w0 (jR (U (bK a e pP)) w0):=by
 refine Calls.cW 9 (fun _=>True) func150 rfl rfl rfl jT (sS f150 3 [2,3,4] [] (fun ρ=>[pt (nb ρ 0),pt (nb ρ 1),pt (nb ρ 2)]) (fun ρ=>[(0,(nw ρ 0 (cL (cU a) 64))),(1,(nw ρ 1 (cL (cU e) 64))),(2,(nw ρ 2 (cL (cU 0) 64)))]) (jX 3) (fun ρ1=>sD f150 [0,0,0,7,15] 5 [4] [0,0,1] (fun _=>[U a,U e,U pP,U (bK a e pP),undef]) (fun _=>[(4,(bD 2 (nb ρ1 2) (cL (cU (bK a e pP)) 64)))]) (cR [[0],[1]]<|cC (fun _ w=>lW w)<|cC (fun _ w=>rexpmod_any a e pP w ha he oV)<|jE [[2]]) (fun _=>aF ?_)))
 exact mR (v:=(U (bK a e pP))) (fun _ hS=>⟨rfl,hS.bel⟩)
theorem rgexp_any (a e:Nat) (w0:World) (ha:a<M) (he:e<M):Calls prog 150 #[U a,U e] w0 (jR (U (bK a e pP)) w0):=rgexp_w a e ha he w0
theorem gmember_w (a:Nat) (ha:a<M) (w0:World):Calls prog 132 #[U a] w0 (jR (.bool (mW a)) w0):=by
 refine Calls.cW 17 (fun _=>True) func132 rfl rfl rfl jT (sS f132 2 [1,2] [] (fun ρ=>[pt (nb ρ 0),vF]) (fun ρ=>[(0,(nw ρ 0 (cL (cU a) 64)))]) (jX 2) (fun _=>aB ?_))
 rcases Bool.eq_false_or_eq_true (decide (a=0)) with hb1 | hb1
 ·refine sD f132 [0,0,3,7,15,15,63,127,255] 9 [1,2,11] [] (fun _=>[U a,U 0,vT,vT,undef,undef,undef,undef,vT]) (fun _=>[]) (cR [[0],[]]<|cB (a:=fun ρ=>(U a)) (b:=fun ρ=>(U 0)) (v:=fun ρ=>vT) .eql 64 (fun _ _=>(eqlU a 0 ha (by decide +kernel) _).trans (by rw [hb1];try rfl))<|jX 6) (fun _=>oY (jJ f132 1 [1,2] [vF] (aF (aC ?_))))
  exact mR (v:=vF) (fun _ hS=>⟨jB (mem_no1 hb1),hS.bel⟩)
 refine sD f132 [0,0,3,7,15,15,63,127,255] 9 [1,2,11] [] (fun _=>let qa:Value:=.bool (decide (0≤(fJ a pP)));[U a,U 0,vF,vF,U a,U pP,vi (fJ a pP),qa,qa]) (fun _=>[]) (cR [[0],[]]<|cB (a:=fun ρ=>(U a)) (b:=fun ρ=>(U 0)) (v:=fun ρ=>vF) .eql 64 (fun _ _=>(eqlU a 0 ha (by decide +kernel) _).trans (by rw [hb1];try rfl))<|cR [[],[0]]<|cC (fun _ w=>yY w)<|cC (fun _ w=>uN a pP w ha oV)<|jX 2) (fun _=>oC (decide (0≤(fJ a pP))) (fun hb2=>?_) (fun hb2=>?_))
 ·rw [hb2]
  refine jJ f132 1 [1,2] [vF] (aF (aC ?_))
  exact mR (v:=vF) (fun _ hS=>⟨jB (mem_no2 hb2),hS.bel⟩)
 rw [hb2]
 refine aG (aA (sD f132 [0,0,3,7,15,31] 6 [2] [0] (fun _=>let qa:Value:=.bool (decide (bK a qP pP=1));[U a,U qP,U (bK a qP pP),U 1,qa,qa]) (fun _=>[]) (cR [[0]]<|cC (fun _ w=>yC w)<|cC (fun _ w=>gexp_any a qP w ha sW)<|cC (fun _ w=>lF 1 w (by decide))<|cB (a:=fun ρ=>(U (bK a qP pP))) (b:=fun ρ=>(U 1)) (v:=fun ρ=>(.bool (decide (bK a qP pP=1)))) .eql 64 (fun _ _=>eqlU (bK a qP pP) 1 (vZ _ _ oV) (by decide +kernel) _)<|jX 1) (fun _=>aF ?_)))
 exact mR (v:=(.bool (decide (bK a qP pP=1)))) (fun _ hS=>⟨jB (mem_yes hb1 (oA (yF hb2))),hS.bel⟩)
theorem gmember_any (a:Nat) (w0:World) (ha:a<M):Calls prog 132 #[U a] w0 (jR (.bool (mW a)) w0):=gmember_w a ha w0
theorem gpower_w (e:Nat) (he:e<M) (w0:World):Calls prog 134 #[U e] w0 (jR (U (bK 4 e pP)) w0):=by
 refine Calls.cW 6 (fun _=>True) func134 rfl rfl rfl jT (sS f134 2 [1,2] [] (fun ρ=>[pt (nb ρ 0),pt (nb ρ 1)]) (fun ρ=>[(0,(nw ρ 0 (cL (cU e) 64))),(1,(nw ρ 1 (cL (cU 0) 64)))]) (jX 2) (fun ρ1=>sD f134 [0,0,3,7] 4 [2] [0,1] (fun _=>[U 4,U e,U (bK 4 e pP),undef]) (fun _=>[(3,(bD 1 (nb ρ1 1) (cL (cU (bK 4 e pP)) 64)))]) (cC (fun _ w=>lF 4 w (by decide))<|cR [[0]]<|cC (fun _ w=>gexp_any 4 e w (by decide +kernel) he)<|jE [[1]]) (fun _=>aF ?_)))
 exact mR (v:=(U (bK 4 e pP))) (fun _ hS=>⟨rfl,hS.bel⟩)
theorem gpower_any (e:Nat) (w0:World) (he:e<M):Calls prog 134 #[U e] w0 (jR (U (bK 4 e pP)) w0):=gpower_w e he w0
theorem gaddscalar_w (a:Nat) (b:Nat) (ha:a<M) (hb:b<M) (w0:World):Calls prog 180 #[U a,U b] w0 (jR (U (bC a b qP)) w0):=by
 refine Calls.cW 9 (fun _=>True) func180 rfl rfl rfl jT (sS f180 3 [2,3,4] [] (fun ρ=>[pt (nb ρ 0),pt (nb ρ 1),pt (nb ρ 2)]) (fun ρ=>[(0,(nw ρ 0 (cL (cU a) 64))),(1,(nw ρ 1 (cL (cU b) 64))),(2,(nw ρ 2 (cL (cU 0) 64)))]) (jX 3) (fun ρ1=>sD f180 [0,0,0,7,15] 5 [4] [0,0,1] (fun _=>[U a,U b,U qP,U (bC a b qP),undef]) (fun _=>[(4,(bD 2 (nb ρ1 2) (cL (cU (bC a b qP)) 64)))]) (cR [[0],[1]]<|cC (fun _ w=>yC w)<|cC (fun _ w=>addmod_any a b qP w ha hb sW)<|jE [[2]]) (fun _=>aF ?_)))
 exact mR (v:=(U (bC a b qP))) (fun _ hS=>⟨rfl,hS.bel⟩)
theorem wH (a b:Nat) (w0:World) (ha:a<M) (hb:b<M):Calls prog 180 #[U a,U b] w0 (jR (U (bC a b qP)) w0):=gaddscalar_w a b ha hb w0
theorem gscalar_w (h:Nat) (hh:h<M) (w0:World):Calls prog 181 #[.agg (hB h)] w0 (jR (U (bC h 0 qP)) w0):=by
 refine Calls.cW 7 (fun _=>True) func181 rfl rfl rfl jT (sS f181 2 [1,2] [] (fun ρ=>[pt (nb ρ 0),pt (nb ρ 1)]) (fun ρ=>[(0,(nw ρ 0 (cL (hB h) 57))),(1,(nw ρ 1 (cL (cU 0) 64)))]) (jX 2) (fun ρ1=>sS f181 5 [2] [0,1] (fun _=>[.agg (hB h),U h,U 0,U (bC h 0 qP),undef]) (fun _=>[(4,(bD 1 (nb ρ1 1) (cL (cU (bC h 0 qP)) 64)))]) (cR [[0]]<|cC (fun _ w=>frombytes_any h w)<|jY 1<|cC (fun _ w=>wH h 0 w hh (by decide +kernel))<|jE [[1]]) (fun _=>aF ?_)))
 exact mR (v:=(U (bC h 0 qP))) (fun _ hS=>⟨rfl,hS.bel⟩)
theorem gscalar_any (h:Nat) (w0:World) (hh:h<M):Calls prog 181 #[.agg (hB h)] w0 (jR (U (bC h 0 qP)) w0):=gscalar_w h hh w0
theorem rgmember_w (a:Nat) (ha:a<M) (w0:World):Calls prog 141 #[U a] w0 (jR (.bool (mW a)) w0):=by
 refine Calls.cW 19 (fun _=>True) func141 rfl rfl rfl jT (sS f141 2 [1,2] [] (fun ρ=>[pt (nb ρ 0),vF]) (fun ρ=>[(0,(nw ρ 0 (cL (cU a) 64)))]) (jX 2) (fun _=>?_))
 rcases Bool.eq_false_or_eq_true (decide (a=0)) with hb1 | hb1
 ·refine sD f141 [0,1,3,7,15,15,63,127,255,511,1023,1023,4095,8191,16383,32767,65535] 17 [2] [0] (fun _=>[U a,vT,vF,vF,undef,undef,undef,undef,vF,vF,undef,undef,undef,undef,undef,vF,vF]) (fun _=>[]) (cR [[0]]<|cC (f:=83) (args:=fun ρ=> #[U a]) (v:=fun ρ=>vT) (fun _ w=>by as_aux_lemma=>(have hcall:=(fun w=>iI a w ha) w;rw [hb1] at hcall;exact hcall))<|jX 15) (fun _=>aF ?_)
  exact mR (v:=vF) (fun _ hS=>⟨jB (mem_no1 hb1),hS.bel⟩)
 rcases Bool.eq_false_or_eq_true (decide ((fJ a pP)<0)) with hb2 | hb2
 ·refine sD f141 [0,1,3,7,15,15,63,127,255,511,1023,1023,4095,8191,16383,32767,65535] 17 [2] [0] (fun _=>let qa:Value:=.bool (decide (bK a qP pP=1));[U a,vF,vT,vT,U a,U pP,vi (fJ a pP),vT,vT,vT,U a,U qP,U (bK a qP pP),U 1,qa,qa,qa]) (fun _=>[]) (cR [[0]]<|cC (f:=83) (args:=fun ρ=> #[U a]) (v:=fun ρ=>vF) (fun _ w=>by as_aux_lemma=>(have hcall:=(fun w=>iI a w ha) w;rw [hb1] at hcall;exact hcall))<|cR [[],[],[0]]<|cC (fun _ w=>lW w)<|cC (fun _ w=>xAI a pP w ha oV)<|cA (fun _=>vT) (fun _=>jP hb2)<|cR [[],[],[0]]<|cC (fun _ w=>wC w)<|cC (fun _ w=>rgexp_any a qP w ha sW)<|cC (fun _ w=>rgone_any w)<|cB (a:=fun ρ=>(U (bK a qP pP))) (b:=fun ρ=>(U 1)) (v:=fun ρ=>(.bool (decide (bK a qP pP=1)))) .eql 64 (fun _ _=>eqlU (bK a qP pP) 1 (vZ _ _ oV) (by decide +kernel) _)<|jX 2) (fun _=>aF ?_)
  exact mR (v:=(.bool (decide (bK a qP pP=1)))) (fun _ hS=>⟨jB (mem_yes hb1 (oA (yT hb2))),hS.bel⟩)
 refine sD f141 [0,1,3,7,15,15,63,127,255,511,1023,1023,4095,8191,16383,32767,65535] 17 [2] [0] (fun _=>[U a,vF,vT,vT,U a,U pP,vi (fJ a pP),vF,vF,vF,undef,undef,undef,undef,undef,vF,vF]) (fun _=>[]) (cR [[0]]<|cC (f:=83) (args:=fun ρ=> #[U a]) (v:=fun ρ=>vF) (fun _ w=>by as_aux_lemma=>(have hcall:=(fun w=>iI a w ha) w;rw [hb1] at hcall;exact hcall))<|cR [[],[],[0]]<|cC (fun _ w=>lW w)<|cC (fun _ w=>xAI a pP w ha oV)<|cA (fun _=>vF) (fun _=>jP hb2)<|jX 9) (fun _=>aF ?_)
 exact mR (v:=vF) (fun _ hS=>⟨jB (mem_no3 hb2),hS.bel⟩)
theorem rgmember_any (a:Nat) (w0:World) (ha:a<M):Calls prog 141 #[U a] w0 (jR (.bool (mW a)) w0):=rgmember_w a ha w0
theorem rgpower_w (e:Nat) (he:e<M) (w0:World):Calls prog 130 #[U e] w0 (jR (U (bK 4 e pP)) w0):=by
 refine Calls.cW 6 (fun _=>True) func130 rfl rfl rfl jT (sS f130 2 [1,2] [] (fun ρ=>[pt (nb ρ 0),pt (nb ρ 1)]) (fun ρ=>[(0,(nw ρ 0 (cL (cU e) 64))),(1,(nw ρ 1 (cL (cU 0) 64)))]) (jX 2) (fun ρ1=>sD f130 [0,0,3,7] 4 [2] [0,1] (fun _=>[U 4,U e,U (bK 4 e pP),undef]) (fun _=>[(3,(bD 1 (nb ρ1 1) (cL (cU (bK 4 e pP)) 64)))]) (cC (fun _ w=>iE 4 w (by decide))<|cR [[0]]<|cC (fun _ w=>rgexp_any 4 e w (by decide +kernel) he)<|jE [[1]]) (fun _=>aF ?_)))
 exact mR (v:=(U (bK 4 e pP))) (fun _ hS=>⟨rfl,hS.bel⟩)
theorem rgpower_any (e:Nat) (w0:World) (he:e<M):Calls prog 130 #[U e] w0 (jR (U (bK 4 e pP)) w0):=rgpower_w e he w0
theorem rgaddscalar_w (a:Nat) (b:Nat) (ha:a<M) (hb:b<M) (w0:World):Calls prog 144 #[U a,U b] w0 (jR (U (bC a b qP)) w0):=by
 refine Calls.cW 9 (fun _=>True) func144 rfl rfl rfl jT (sS f144 3 [2,3,4] [] (fun ρ=>[pt (nb ρ 0),pt (nb ρ 1),pt (nb ρ 2)]) (fun ρ=>[(0,(nw ρ 0 (cL (cU a) 64))),(1,(nw ρ 1 (cL (cU b) 64))),(2,(nw ρ 2 (cL (cU 0) 64)))]) (jX 3) (fun ρ1=>sD f144 [0,0,0,7,15] 5 [4] [0,0,1] (fun _=>[U a,U b,U qP,U (bC a b qP),undef]) (fun _=>[(4,(bD 2 (nb ρ1 2) (cL (cU (bC a b qP)) 64)))]) (cR [[0],[1]]<|cC (fun _ w=>wC w)<|cC (fun _ w=>raddmod_any a b qP w ha hb sW)<|jE [[2]]) (fun _=>aF ?_)))
 exact mR (v:=(U (bC a b qP))) (fun _ hS=>⟨rfl,hS.bel⟩)
theorem uP (a b:Nat) (w0:World) (ha:a<M) (hb:b<M):Calls prog 144 #[U a,U b] w0 (jR (U (bC a b qP)) w0):=rgaddscalar_w a b ha hb w0
theorem rgscalar_w (h:Nat) (hh:h<M) (w0:World):Calls prog 145 #[.agg (hB h)] w0 (jR (U (bC h 0 qP)) w0):=by
 refine Calls.cW 7 (fun _=>True) func145 rfl rfl rfl jT (sS f145 2 [1,2] [] (fun ρ=>[pt (nb ρ 0),pt (nb ρ 1)]) (fun ρ=>[(0,(nw ρ 0 (cL (hB h) 57))),(1,(nw ρ 1 (cL (cU 0) 64)))]) (jX 2) (fun ρ1=>sS f145 5 [2] [0,1] (fun _=>[.agg (hB h),U h,U 0,U (bC h 0 qP),undef]) (fun _=>[(4,(bD 1 (nb ρ1 1) (cL (cU (bC h 0 qP)) 64)))]) (cR [[0]]<|cC (fun _ w=>rfrombytes_any h w)<|jY 1<|cC (fun _ w=>uP h 0 w hh (by decide +kernel))<|jE [[1]]) (fun _=>aF ?_)))
 exact mR (v:=(U (bC h 0 qP))) (fun _ hS=>⟨rfl,hS.bel⟩)
theorem zA (h:Nat) (w0:World) (hh:h<M):Calls prog 145 #[.agg (hB h)] w0 (jR (U (bC h 0 qP)) w0):=rgscalar_w h hh w0
theorem scalarb_any (a:Nat) (ha:a<M) (w0:World):Calls prog 155 #[U a] w0 (jR (.bool (scB a)) w0):=by
 refine Calls.cW 7 (fun _=>True) func155 rfl rfl rfl jT (sS f155 2 [1,2] [] (fun ρ=>[pt (nb ρ 0),vF]) (fun ρ=>[(0,(nw ρ 0 (cL (cU a) 64)))]) (jX 2) (fun _=>sD f155 [0,0,3,7,15] 5 [2] [0] (fun _=>let qa:Value:=.bool (decide ((fJ a qP)<0));[U a,U qP,vi (fJ a qP),qa,qa]) (fun _=>[]) (cR [[0]]<|cC (fun _ w=>yC w)<|cC (fun _ w=>uN a qP w ha sW)<|jX 2) (fun _=>aF ?_)))
 exact mR (v:=(.bool (decide ((fJ a qP)<0)))) (fun _ hS=>⟨jB (sc_dec a),hS.bel⟩)
theorem secret_any (x:Nat) (hx:x<M) (w0:World):Calls prog 133 #[U x] w0 (jR (.bool (iM x)) w0):=by
 refine Calls.cW 10 (fun _=>True) func133 rfl rfl rfl jT (sS f133 2 [1,2] [] (fun ρ=>[pt (nb ρ 0),vF]) (fun ρ=>[(0,(nw ρ 0 (cL (cU x) 64)))]) (jX 2) (fun _=>?_))
 rcases Bool.eq_false_or_eq_true (decide (x=0)) with hb1 | hb1
 ·refine sS f133 8 [2] [0] (fun _=>[U x,U 0,vF,vF,undef,undef,vF,vF]) (fun _=>[]) (cR [[0],[]]<|cB (a:=fun ρ=>(U x)) (b:=fun ρ=>(U 0)) (v:=fun ρ=>vF) .neq 64 (fun _ _=>(neqU x 0 hx (by decide +kernel) _).trans (by rw [hb1];try rfl))<|jX 5) (fun _=>aF ?_)
  exact mR (v:=vF) (fun _ hS=>⟨jB (sec_0 hb1),hS.bel⟩)
 refine sS f133 8 [2] [0] (fun _=>[U x,U 0,vT,vT,U x,.bool (scB x),.bool (scB x),.bool (scB x)]) (fun _=>[]) (cR [[0],[]]<|cB (a:=fun ρ=>(U x)) (b:=fun ρ=>(U 0)) (v:=fun ρ=>vT) .neq 64 (fun _ _=>(neqU x 0 hx (by decide +kernel) _).trans (by rw [hb1];try rfl))<|cR [[],[0]]<|cC (fun _ w=>scalarb_any x hx w)<|jX 2) (fun _=>aF ?_)
 exact mR (v:=(.bool (scB x))) (fun _ hS=>⟨jB (sec_1 hb1),hS.bel⟩)
theorem rsecret_any (x:Nat) (hx:x<M) (w0:World):Calls prog 129 #[U x] w0 (jR (.bool (iM x)) w0):=by
 refine Calls.cW 12 (fun _=>True) func129 rfl rfl rfl jT (sS f129 2 [1,2] [] (fun ρ=>[pt (nb ρ 0),vF]) (fun ρ=>[(0,(nw ρ 0 (cL (cU x) 64)))]) (jX 2) (fun _=>?_))
 rcases Bool.eq_false_or_eq_true (decide (x=0)) with hb1 | hb1
 ·refine sD f129 [0,1,3,7,15,15,63,127,255,511] 10 [2] [0] (fun _=>[U x,vT,vF,vF,undef,undef,undef,undef,vF,vF]) (fun _=>[]) (cR [[0]]<|cC (f:=83) (args:=fun ρ=> #[U x]) (v:=fun ρ=>vT) (fun _ w=>by as_aux_lemma=>(have hcall:=(fun w=>iI x w hx) w;rw [hb1] at hcall;exact hcall))<|jX 8) (fun _=>aF ?_)
  exact mR (v:=vF) (fun _ hS=>⟨jB (sec_0 hb1),hS.bel⟩)
 refine sD f129 [0,1,3,7,15,15,63,127,255,511] 10 [2] [0] (fun _=>let qa:Value:=.bool (decide ((fJ x qP)<0));[U x,vF,vT,vT,U x,U qP,vi (fJ x qP),qa,qa,qa]) (fun _=>[]) (cR [[0]]<|cC (f:=83) (args:=fun ρ=> #[U x]) (v:=fun ρ=>vF) (fun _ w=>by as_aux_lemma=>(have hcall:=(fun w=>iI x w hx) w;rw [hb1] at hcall;exact hcall))<|cR [[],[],[0]]<|cC (fun _ w=>wC w)<|cC (fun _ w=>xAI x qP w hx sW)<|jX 3) (fun _=>aF ?_)
 exact mR (v:=(.bool (decide ((fJ x qP)<0)))) (fun _ hS=>⟨jB ((sc_dec x).trans (sec_1 hb1)),hS.bel⟩)
theorem yD (x:Nat) (hx:x<M) (w0:World):Calls prog 103 #[U x] w0 (jR (.tuple #[U (dK x),vi (iW x)]) w0):=by
 refine Calls.cW 10 (fun _=>True) func103 rfl rfl rfl jT (sS f103 3 [1,2,3] [] (fun ρ=>[pt (nb ρ 0),pt (nb ρ 1),vi 0]) (fun ρ=>[(0,(nw ρ 0 (cL (cU x) 64))),(1,(nw ρ 1 (cL (cU 0) 64)))]) (jX 3) (fun ρ1=>aB (sS f103 3 [1,2,3,6] [] (fun _=>[U x,.bool (iM x),.bool (!(iM x))]) (fun _=>[]) (cR [[0]]<|cC (fun _ w=>secret_any x hx w)<|jX 1) (fun _=>oC (!(iM x)) (fun hb1=>?_) (fun hb1=>?_)))))
 ·rw [hb1]
  refine sS f103 3 [1,2,3] [] (fun _=>[U 0,undef,vi 60]) (fun _=>[(1,(bD 1 (nb ρ1 1) (cL (cU 0) 64)))]) (jE [[],[1],[]]) (fun _=>aF (aC ?_))
  exact mR (v:=(.tuple #[U 0,vi 60])) (ps:=[1,1,1,1]) (fun _ hS=>⟨by rw [(pub_no (dF hb1)).1,(pub_no (dF hb1)).2],hS.bel⟩)
 rw [hb1]
 refine aG (aA (sS f103 4 [2,3] [0,1] (fun _=>[U x,U (bK 4 x pP),undef,vi 0]) (fun _=>[(2,(bD 1 (nb ρ1 1) (cL (cU (bK 4 x pP)) 64)))]) (cR [[0]]<|cC (fun _ w=>gpower_any x w hx)<|jE [[1],[]]) (fun _=>aF ?_)))
 exact mR (v:=(.tuple #[U (bK 4 x pP),vi 0])) (fun _ hS=>⟨by rw [(lZ (aV hb1)).1,(lZ (aV hb1)).2],hS.bel⟩)
theorem valid_any (p:Nat) (hp:p<M) (w0:World):Calls prog 102 #[U p] w0 (jR (.bool (iY p)) w0):=by
 refine Calls.cW 10 (fun _=>True) func102 rfl rfl rfl jT (sS f102 2 [1,2] [] (fun ρ=>[pt (nb ρ 0),vF]) (fun ρ=>[(0,(nw ρ 0 (cL (cU p) 64)))]) (jX 2) (fun _=>?_))
 rcases Bool.eq_false_or_eq_true (decide (p=1)) with hb1 | hb1
 ·refine sD f102 [0,0,3,7,15,31,63,127] 8 [2] [0] (fun _=>[U p,U 1,vF,vF,undef,undef,vF,vF]) (fun _=>[]) (cR [[0]]<|cC (fun _ w=>lF 1 w (by decide))<|cB (a:=fun ρ=>(U p)) (b:=fun ρ=>(U 1)) (v:=fun ρ=>vF) .neq 64 (fun _ _=>(neqU p 1 hp (by decide +kernel) _).trans (by rw [hb1];try rfl))<|jX 5) (fun _=>aF ?_)
  exact mR (v:=vF) (fun _ hS=>⟨jB (val_0 hb1),hS.bel⟩)
 refine sD f102 [0,0,3,7,15,31,63,127] 8 [2] [0] (fun _=>[U p,U 1,vT,vT,U p,.bool (mW p),.bool (mW p),.bool (mW p)]) (fun _=>[]) (cR [[0]]<|cC (fun _ w=>lF 1 w (by decide))<|cB (a:=fun ρ=>(U p)) (b:=fun ρ=>(U 1)) (v:=fun ρ=>vT) .neq 64 (fun _ _=>(neqU p 1 hp (by decide +kernel) _).trans (by rw [hb1];try rfl))<|cR [[],[0]]<|cC (fun _ w=>gmember_any p w hp)<|jX 2) (fun _=>aF ?_)
 exact mR (v:=(.bool (mW p))) (fun _ hS=>⟨jB (val_1 hb1),hS.bel⟩)
theorem tweak_any (p:Nat) (t:Nat) (hp:p<M) (ht:t<M) (w0:World):Calls prog 160 #[U p,.agg (hB t)] w0 (jR (.tuple #[U (yS p t),vi (wY p t)]) w0):=by
 refine Calls.cW 21 (fun _=>True) func160 rfl rfl rfl jT (sS f160 4 [2,3,4,5] [] (fun ρ=>[pt (nb ρ 0),pt (nb ρ 1),pt (nb ρ 2),vi 0]) (fun ρ=>[(0,(nw ρ 0 (cL (cU p) 64))),(1,(nw ρ 1 (cL (hB t) 57))),(2,(nw ρ 2 (cL (cU 0) 64)))]) (jX 4) (fun ρ1=>aB (sS f160 3 [2,3,4,5,9] [] (fun _=>[U p,.bool (iY p),.bool (!(iY p))]) (fun _=>[]) (cR [[0]]<|cC (fun _ w=>valid_any p hp w)<|jX 1) (fun _=>oC (!(iY p)) (fun hb1=>?_) (fun hb1=>?_)))))
 ·rw [hb1]
  refine sS f160 3 [2,3,4,5] [] (fun _=>[U 0,undef,vi 60]) (fun _=>[(1,(bD 2 (nb ρ1 2) (cL (cU 0) 64)))]) (jE [[],[2],[]]) (fun _=>aF (aC ?_))
  exact mR (v:=(.tuple #[U 0,vi 60])) (ps:=[2,2,2,2]) (fun _ hS=>⟨by rw [(tw_a (dF hb1)).1,(tw_a (dF hb1)).2],hS.bel⟩)
 rw [hb1]
 refine aG (aA (sD f160 [0,0,2,6,15,0,63] 7 [4,5,6] [0,0,1,1] (fun ρ=>[U p,.agg (hB t),U (bC t 0 qP),U (bK 4 (bC t 0 qP) pP),U (bV p (bK 4 (bC t 0 qP) pP) pP),pt (nb ρ 5),undef]) (fun ρ=>[(5,(nw ρ 5 (cL (cU 0) 64))),(6,(bD 43 (nb ρ 5) (cL (cU (bV p (bK 4 (bC t 0 qP) pP) pP)) 64)))]) (cR [[0],[1]]<|cC (fun _ w=>gscalar_any t w ht)<|cC (f:=134) (args:=fun ρ=> #[U (bC t 0 qP)]) (v:=fun ρ=>(U (bK 4 (bC t 0 qP) pP))) (fun _ w=>(fun w=>gpower_any (bC t 0 qP) w (qI _ _ sW)) w)<|cC (f:=174) (args:=fun ρ=> #[U p,U (bK 4 (bC t 0 qP) pP)]) (v:=fun ρ=>(U (bV p (bK 4 (bC t 0 qP) pP) pP))) (fun _ w=>(fun w=>gmul_any p (bK 4 (bC t 0 qP) pP) w hp (vZ _ _ oV)) w)<|jE [[],[43]]) (fun _=>aB (sD f160 [0,0,3] 3 [4,5,6,18] [] (fun _=>[U (bV p (bK 4 (bC t 0 qP) pP) pP),U 1,.bool (decide (bV p (bK 4 (bC t 0 qP) pP) pP=1))]) (fun _=>[]) (cR [[1]]<|cC (fun _ w=>lF 1 w (by decide))<|cB (a:=fun ρ=>(U (bV p (bK 4 (bC t 0 qP) pP) pP))) (b:=fun ρ=>(U 1)) (v:=fun ρ=>(.bool (decide (bV p (bK 4 (bC t 0 qP) pP) pP=1)))) .eql 64 (fun _ _=>eqlU (bV p (bK 4 (bC t 0 qP) pP) pP) 1 (wE _ _ oV) (by decide +kernel) _)<|cN) (fun _=>oC (decide (bV p (bK 4 (bC t 0 qP) pP) pP=1)) (fun hb2=>?_) (fun hb2=>?_))))))
 ·rw [hb2]
  refine sS f160 3 [4,5,6] [] (fun _=>[U 0,undef,vi 5]) (fun _=>[(1,(bD 0 (nb ρ1 2) (cL (cU 0) 64)))]) (jE [[],[0],[]]) (fun _=>aF (aC ?_))
  exact mR (v:=(.tuple #[U 0,vi 5])) (fun _ hS=>⟨by rw [(tw_b (t:=t) (aV hb1) (yT hb2)).1,(tw_b (t:=t) (aV hb1) (yT hb2)).2],hS.bel⟩)
 rw [hb2]
 refine aG (aA (sS f160 3 [4,5] [1,0] (fun _=>[U (bV p (bK 4 (bC t 0 qP) pP) pP),undef,vi 0]) (fun _=>[(1,(bD 0 (nb ρ1 2) (cL (cU (bV p (bK 4 (bC t 0 qP) pP) pP)) 64)))]) (jE [[1],[0],[]]) (fun _=>aF ?_)))
 exact mR (v:=(.tuple #[U (bV p (bK 4 (bC t 0 qP) pP) pP),vi 0])) (fun _ hS=>⟨by rw [(tw_c (t:=t) (aV hb1) (yF hb2)).1,(tw_c (t:=t) (aV hb1) (yF hb2)).2];rfl,hS.bel⟩)
theorem uQ (x:Nat) (t:Nat) (hx:x<M) (ht:t<M) (w0:World):Calls prog 159 #[U x,.agg (hB t)] w0 (jR (.tuple #[U (fO x t),vi (nY x t)]) w0):=by
 refine Calls.cW 20 (fun _=>True) func159 rfl rfl rfl jT (sS f159 4 [2,3,4,5] [] (fun ρ=>[pt (nb ρ 0),pt (nb ρ 1),pt (nb ρ 2),vi 0]) (fun ρ=>[(0,(nw ρ 0 (cL (cU x) 64))),(1,(nw ρ 1 (cL (hB t) 57))),(2,(nw ρ 2 (cL (cU 0) 64)))]) (jX 4) (fun ρ1=>aB (sS f159 3 [2,3,4,5,9] [] (fun _=>[U x,.bool (iM x),.bool (!(iM x))]) (fun _=>[]) (cR [[0]]<|cC (fun _ w=>secret_any x hx w)<|jX 1) (fun _=>oC (!(iM x)) (fun hb1=>?_) (fun hb1=>?_)))))
 ·rw [hb1]
  refine sS f159 3 [2,3,4,5] [] (fun _=>[U 0,undef,vi 60]) (fun _=>[(1,(bD 2 (nb ρ1 2) (cL (cU 0) 64)))]) (jE [[],[2],[]]) (fun _=>aF (aC ?_))
  exact mR (v:=(.tuple #[U 0,vi 60])) (ps:=[2,2,2,2]) (fun _ hS=>⟨by rw [(ts_a (dF hb1)).1,(ts_a (dF hb1)).2],hS.bel⟩)
 rw [hb1]
 refine aG (aA (sD f159 [0,0,2,7,0,31] 6 [4,5,6] [0,0,1,1] (fun ρ=>[U x,.agg (hB t),U (bC t 0 qP),U (bC x (bC t 0 qP) qP),pt (nb ρ 4),undef]) (fun ρ=>[(4,(nw ρ 4 (cL (cU 0) 64))),(5,(bD 35 (nb ρ 4) (cL (cU (bC x (bC t 0 qP) qP)) 64)))]) (cR [[0],[1]]<|cC (fun _ w=>gscalar_any t w ht)<|cC (f:=180) (args:=fun ρ=> #[U x,U (bC t 0 qP)]) (v:=fun ρ=>(U (bC x (bC t 0 qP) qP))) (fun _ w=>(fun w=>wH x (bC t 0 qP) w hx (qI _ _ sW)) w)<|jE [[],[35]]) (fun _=>aB (sS f159 3 [4,5,6,17] [] (fun _=>[U (bC x (bC t 0 qP) qP),U 0,.bool (decide (bC x (bC t 0 qP) qP=0))]) (fun _=>[]) (cR [[1],[]]<|cB (a:=fun ρ=>(U (bC x (bC t 0 qP) qP))) (b:=fun ρ=>(U 0)) (v:=fun ρ=>(.bool (decide (bC x (bC t 0 qP) qP=0)))) .eql 64 (fun _ _=>eqlU (bC x (bC t 0 qP) qP) 0 (qI _ _ sW) (by decide +kernel) _)<|cN) (fun _=>oC (decide (bC x (bC t 0 qP) qP=0)) (fun hb2=>?_) (fun hb2=>?_))))))
 ·rw [hb2]
  refine sS f159 3 [4,5,6] [] (fun _=>[U 0,undef,vi 5]) (fun _=>[(1,(bD 0 (nb ρ1 2) (cL (cU 0) 64)))]) (jE [[],[0],[]]) (fun _=>aF (aC ?_))
  exact mR (v:=(.tuple #[U 0,vi 5])) (fun _ hS=>⟨by rw [(ts_b (t:=t) (aV hb1) (yT hb2)).1,(ts_b (t:=t) (aV hb1) (yT hb2)).2],hS.bel⟩)
 rw [hb2]
 refine aG (aA (sS f159 3 [4,5] [1,0] (fun _=>[U (bC x (bC t 0 qP) qP),undef,vi 0]) (fun _=>[(1,(bD 0 (nb ρ1 2) (cL (cU (bC x (bC t 0 qP) qP)) 64)))]) (jE [[1],[0],[]]) (fun _=>aF ?_)))
 exact mR (v:=(.tuple #[U (bC x (bC t 0 qP) qP),vi 0])) (fun _ hS=>⟨by rw [(ts_c (t:=t) (aV hb1) (yF hb2)).1,(ts_c (t:=t) (aV hb1) (yF hb2)).2];rfl,hS.bel⟩)
theorem rE (x:Nat) (hx:x<M) (w0:World):Calls prog 101 #[U x] w0 (jR (.tuple #[U (dK x),vi (iW x)]) w0):=by
 refine Calls.cW 10 (fun _=>True) func101 rfl rfl rfl jT (sS f101 3 [1,2,3] [] (fun ρ=>[pt (nb ρ 0),pt (nb ρ 1),vi 0]) (fun ρ=>[(0,(nw ρ 0 (cL (cU x) 64))),(1,(nw ρ 1 (cL (cU 0) 64)))]) (jX 3) (fun ρ1=>aB (sS f101 3 [1,2,3,6] [] (fun _=>[U x,.bool (iM x),.bool (!(iM x))]) (fun _=>[]) (cR [[0]]<|cC (fun _ w=>rsecret_any x hx w)<|jX 1) (fun _=>oC (!(iM x)) (fun hb1=>?_) (fun hb1=>?_)))))
 ·rw [hb1]
  refine sS f101 3 [1,2,3] [] (fun _=>[U 0,undef,vi 60]) (fun _=>[(1,(bD 1 (nb ρ1 1) (cL (cU 0) 64)))]) (jE [[],[1],[]]) (fun _=>aF (aC ?_))
  exact mR (v:=(.tuple #[U 0,vi 60])) (ps:=[1,1,1,1]) (fun _ hS=>⟨by rw [(pub_no (dF hb1)).1,(pub_no (dF hb1)).2],hS.bel⟩)
 rw [hb1]
 refine aG (aA (sS f101 4 [2,3] [0,1] (fun _=>[U x,U (bK 4 x pP),undef,vi 0]) (fun _=>[(2,(bD 1 (nb ρ1 1) (cL (cU (bK 4 x pP)) 64)))]) (cR [[0]]<|cC (fun _ w=>rgpower_any x w hx)<|jE [[1],[]]) (fun _=>aF ?_)))
 exact mR (v:=(.tuple #[U (bK 4 x pP),vi 0])) (fun _ hS=>⟨by rw [(lZ (aV hb1)).1,(lZ (aV hb1)).2],hS.bel⟩)
theorem rvalid_any (p:Nat) (hp:p<M) (w0:World):Calls prog 112 #[U p] w0 (jR (.bool (iY p)) w0):=by
 refine Calls.cW 10 (fun _=>True) func112 rfl rfl rfl jT (sS f112 2 [1,2] [] (fun ρ=>[pt (nb ρ 0),vF]) (fun ρ=>[(0,(nw ρ 0 (cL (cU p) 64)))]) (jX 2) (fun _=>?_))
 rcases Bool.eq_false_or_eq_true (decide (p=1)) with hb1 | hb1
 ·refine sD f112 [0,0,3,7,15,31,63,127] 8 [2] [0] (fun _=>[U p,U 1,vF,vF,undef,undef,vF,vF]) (fun _=>[]) (cR [[0]]<|cC (fun _ w=>iE 1 w (by decide))<|cB (a:=fun ρ=>(U p)) (b:=fun ρ=>(U 1)) (v:=fun ρ=>vF) .neq 64 (fun _ _=>(neqU p 1 hp (by decide +kernel) _).trans (by rw [hb1];try rfl))<|jX 5) (fun _=>aF ?_)
  exact mR (v:=vF) (fun _ hS=>⟨jB (val_0 hb1),hS.bel⟩)
 refine sD f112 [0,0,3,7,15,31,63,127] 8 [2] [0] (fun _=>[U p,U 1,vT,vT,U p,.bool (mW p),.bool (mW p),.bool (mW p)]) (fun _=>[]) (cR [[0]]<|cC (fun _ w=>iE 1 w (by decide))<|cB (a:=fun ρ=>(U p)) (b:=fun ρ=>(U 1)) (v:=fun ρ=>vT) .neq 64 (fun _ _=>(neqU p 1 hp (by decide +kernel) _).trans (by rw [hb1];try rfl))<|cR [[],[0]]<|cC (fun _ w=>rgmember_any p w hp)<|jX 2) (fun _=>aF ?_)
 exact mR (v:=(.bool (mW p))) (fun _ hS=>⟨jB (val_1 hb1),hS.bel⟩)
theorem rtweak_any (p:Nat) (t:Nat) (hp:p<M) (ht:t<M) (w0:World):Calls prog 119 #[U p,.agg (hB t)] w0 (jR (.tuple #[U (yS p t),vi (wY p t)]) w0):=by
 refine Calls.cW 21 (fun _=>True) func119 rfl rfl rfl jT (sS f119 4 [2,3,4,5] [] (fun ρ=>[pt (nb ρ 0),pt (nb ρ 1),pt (nb ρ 2),vi 0]) (fun ρ=>[(0,(nw ρ 0 (cL (cU p) 64))),(1,(nw ρ 1 (cL (hB t) 57))),(2,(nw ρ 2 (cL (cU 0) 64)))]) (jX 4) (fun ρ1=>aB (sS f119 3 [2,3,4,5,9] [] (fun _=>[U p,.bool (iY p),.bool (!(iY p))]) (fun _=>[]) (cR [[0]]<|cC (fun _ w=>rvalid_any p hp w)<|jX 1) (fun _=>oC (!(iY p)) (fun hb1=>?_) (fun hb1=>?_)))))
 ·rw [hb1]
  refine sS f119 3 [2,3,4,5] [] (fun _=>[U 0,undef,vi 60]) (fun _=>[(1,(bD 2 (nb ρ1 2) (cL (cU 0) 64)))]) (jE [[],[2],[]]) (fun _=>aF (aC ?_))
  exact mR (v:=(.tuple #[U 0,vi 60])) (ps:=[2,2,2,2]) (fun _ hS=>⟨by rw [(tw_a (dF hb1)).1,(tw_a (dF hb1)).2],hS.bel⟩)
 rw [hb1]
 refine aG (aA (sD f119 [0,0,2,6,15,0,63] 7 [4,5,6] [0,0,1,1] (fun ρ=>[U p,.agg (hB t),U (bC t 0 qP),U (bK 4 (bC t 0 qP) pP),U (bV p (bK 4 (bC t 0 qP) pP) pP),pt (nb ρ 5),undef]) (fun ρ=>[(5,(nw ρ 5 (cL (cU 0) 64))),(6,(bD 43 (nb ρ 5) (cL (cU (bV p (bK 4 (bC t 0 qP) pP) pP)) 64)))]) (cR [[0],[1]]<|cC (fun _ w=>zA t w ht)<|cC (f:=130) (args:=fun ρ=> #[U (bC t 0 qP)]) (v:=fun ρ=>(U (bK 4 (bC t 0 qP) pP))) (fun _ w=>(fun w=>rgpower_any (bC t 0 qP) w (qI _ _ sW)) w)<|cC (f:=146) (args:=fun ρ=> #[U p,U (bK 4 (bC t 0 qP) pP)]) (v:=fun ρ=>(U (bV p (bK 4 (bC t 0 qP) pP) pP))) (fun _ w=>(fun w=>rgmul_any p (bK 4 (bC t 0 qP) pP) w hp (vZ _ _ oV)) w)<|jE [[],[43]]) (fun _=>aB (sD f119 [0,0,3] 3 [4,5,6,18] [] (fun _=>[U (bV p (bK 4 (bC t 0 qP) pP) pP),U 1,.bool (decide (bV p (bK 4 (bC t 0 qP) pP) pP=1))]) (fun _=>[]) (cR [[1]]<|cC (fun _ w=>iE 1 w (by decide))<|cB (a:=fun ρ=>(U (bV p (bK 4 (bC t 0 qP) pP) pP))) (b:=fun ρ=>(U 1)) (v:=fun ρ=>(.bool (decide (bV p (bK 4 (bC t 0 qP) pP) pP=1)))) .eql 64 (fun _ _=>eqlU (bV p (bK 4 (bC t 0 qP) pP) pP) 1 (wE _ _ oV) (by decide +kernel) _)<|cN) (fun _=>oC (decide (bV p (bK 4 (bC t 0 qP) pP) pP=1)) (fun hb2=>?_) (fun hb2=>?_))))))
 ·rw [hb2]
  refine sS f119 3 [4,5,6] [] (fun _=>[U 0,undef,vi 5]) (fun _=>[(1,(bD 0 (nb ρ1 2) (cL (cU 0) 64)))]) (jE [[],[0],[]]) (fun _=>aF (aC ?_))
  exact mR (v:=(.tuple #[U 0,vi 5])) (fun _ hS=>⟨by rw [(tw_b (t:=t) (aV hb1) (yT hb2)).1,(tw_b (t:=t) (aV hb1) (yT hb2)).2],hS.bel⟩)
 rw [hb2]
 refine aG (aA (sS f119 3 [4,5] [1,0] (fun _=>[U (bV p (bK 4 (bC t 0 qP) pP) pP),undef,vi 0]) (fun _=>[(1,(bD 0 (nb ρ1 2) (cL (cU (bV p (bK 4 (bC t 0 qP) pP) pP)) 64)))]) (jE [[1],[0],[]]) (fun _=>aF ?_)))
 exact mR (v:=(.tuple #[U (bV p (bK 4 (bC t 0 qP) pP) pP),vi 0])) (fun _ hS=>⟨by rw [(tw_c (t:=t) (aV hb1) (yF hb2)).1,(tw_c (t:=t) (aV hb1) (yF hb2)).2];rfl,hS.bel⟩)
theorem sJ (x:Nat) (t:Nat) (hx:x<M) (ht:t<M) (w0:World):Calls prog 118 #[U x,.agg (hB t)] w0 (jR (.tuple #[U (fO x t),vi (nY x t)]) w0):=by
 refine Calls.cW 19 (fun _=>True) func118 rfl rfl rfl jT (sS f118 4 [2,3,4,5] [] (fun ρ=>[pt (nb ρ 0),pt (nb ρ 1),pt (nb ρ 2),vi 0]) (fun ρ=>[(0,(nw ρ 0 (cL (cU x) 64))),(1,(nw ρ 1 (cL (hB t) 57))),(2,(nw ρ 2 (cL (cU 0) 64)))]) (jX 4) (fun ρ1=>aB (sS f118 3 [2,3,4,5,9] [] (fun _=>[U x,.bool (iM x),.bool (!(iM x))]) (fun _=>[]) (cR [[0]]<|cC (fun _ w=>rsecret_any x hx w)<|jX 1) (fun _=>oC (!(iM x)) (fun hb1=>?_) (fun hb1=>?_)))))
 ·rw [hb1]
  refine sS f118 3 [2,3,4,5] [] (fun _=>[U 0,undef,vi 60]) (fun _=>[(1,(bD 2 (nb ρ1 2) (cL (cU 0) 64)))]) (jE [[],[2],[]]) (fun _=>aF (aC ?_))
  exact mR (v:=(.tuple #[U 0,vi 60])) (ps:=[2,2,2,2]) (fun _ hS=>⟨by rw [(ts_a (dF hb1)).1,(ts_a (dF hb1)).2],hS.bel⟩)
 rw [hb1]
 refine aG (aA (sD f118 [0,0,2,7,0,31] 6 [4,5,6] [0,0,1,1] (fun ρ=>[U x,.agg (hB t),U (bC t 0 qP),U (bC x (bC t 0 qP) qP),pt (nb ρ 4),undef]) (fun ρ=>[(4,(nw ρ 4 (cL (cU 0) 64))),(5,(bD 35 (nb ρ 4) (cL (cU (bC x (bC t 0 qP) qP)) 64)))]) (cR [[0],[1]]<|cC (fun _ w=>zA t w ht)<|cC (f:=144) (args:=fun ρ=> #[U x,U (bC t 0 qP)]) (v:=fun ρ=>(U (bC x (bC t 0 qP) qP))) (fun _ w=>(fun w=>uP x (bC t 0 qP) w hx (qI _ _ sW)) w)<|jE [[],[35]]) (fun _=>aB (sS f118 2 [4,5,6,16] [] (fun _=>[U (bC x (bC t 0 qP) qP),.bool (decide (bC x (bC t 0 qP) qP=0))]) (fun _=>[]) (cR [[1]]<|cC (f:=83) (args:=fun ρ=> #[U (bC x (bC t 0 qP) qP)]) (v:=fun ρ=>(.bool (decide (bC x (bC t 0 qP) qP=0)))) (fun _ w=>(fun w=>iI (bC x (bC t 0 qP) qP) w (qI _ _ sW)) w)<|cN) (fun _=>oC (decide (bC x (bC t 0 qP) qP=0)) (fun hb2=>?_) (fun hb2=>?_))))))
 ·rw [hb2]
  refine sS f118 3 [4,5,6] [] (fun _=>[U 0,undef,vi 5]) (fun _=>[(1,(bD 0 (nb ρ1 2) (cL (cU 0) 64)))]) (jE [[],[0],[]]) (fun _=>aF (aC ?_))
  exact mR (v:=(.tuple #[U 0,vi 5])) (fun _ hS=>⟨by rw [(ts_b (t:=t) (aV hb1) (yT hb2)).1,(ts_b (t:=t) (aV hb1) (yT hb2)).2],hS.bel⟩)
 rw [hb2]
 refine aG (aA (sS f118 3 [4,5] [1,0] (fun _=>[U (bC x (bC t 0 qP) qP),undef,vi 0]) (fun _=>[(1,(bD 0 (nb ρ1 2) (cL (cU (bC x (bC t 0 qP) qP)) 64)))]) (jE [[1],[0],[]]) (fun _=>aF ?_)))
 exact mR (v:=(.tuple #[U (bC x (bC t 0 qP) qP),vi 0])) (fun _ hS=>⟨by rw [(ts_c (t:=t) (aV hb1) (yF hb2)).1,(ts_c (t:=t) (aV hb1) (yF hb2)).2];rfl,hS.bel⟩)
def aggD:TypeDesc→Bool
 | .struct _=>true
 | .array _ _=>true
 | _=>false
def xAZ (P:Program) (t:TypeId) (cs:Array Value) (off:Nat):Option Value :=
 match P.info? t,P.underlying t with
 | some i,some d=>if aggD d then some (.agg (cs.extract off (off+i.size))) else cs[off]?
 | _,_=>none
def eqStep (f:Value→Value→Option (List (Int × Int))) (a b:Option Value):Option (List (Int × Int)) :=
 match a,b with
 | some a,some b=>f a b
 | _,_=>none
def eqF (P : Program) : Nat → TypeId → Value → Value → Option (List (Int × Int))
 | 0,_,_,_=>none
 | d + 1, t, x, y => match P.underlying t, x, y with
   | some (.int _),.int k a,.int k' b=>if k=k' then some [(a,b)] else none
   | some (.array n e),.agg xs,.agg ys=>if (P.info? e).isSome then ((List.range n).mapM fun i=>eqStep (eqF P d e) (xAZ P e xs (i*P.cellsOf e)) (xAZ P e ys (i*P.cellsOf e))).map List.flatten else none
   | some (.struct fs),.agg xs,.agg ys=>if P.stoodInHeld t then none else (fs.toList.mapM fun f=>if f.name≠ "_" then eqStep (eqF P d f.type) (xAZ P f.type xs f.offset) (xAZ P f.type ys f.offset) else none).map List.flatten
   | _,_,_=>none
def eqB (l:List (Int × Int)):Bool:=l.all fun p=>p.1==p.2
theorem eqB_app (a b:List (Int × Int)):eqB (a++b)=(eqB a&&eqB b):=by simp [eqB]
section
variable {P:Program}
theorem xAV {t : TypeId} {cs : Array Value} {off : Nat} {v : Value} (h : xAZ P t cs off = some v) (w : World) : (part t cs off).run P w = .ok v w := by
 unfold xAZ at h
 cases hi:P.info? t with
 | none=>rw [hi] at h;simp at h
 | some i =>
   cases hk:P.underlying t with
   | none=>rw [hi,hk] at h;simp at h
   | some d =>
     rw [hi,hk] at h
     simp only at h
     have hag:(isAgg t).run P w=.ok (aggD d) w:=by
      unfold isAgg
      rw [Sem.run_bind,run_underlying hk w]
      cases d<;>simp [aggD]
     have hsz:(sizeOf t).run P w=.ok i.size w:=by simp [sizeOf,typeInfo,hi]
     unfold part
     rw [Sem.run_bind,hag]
     simp only [Result.andThen_ok]
     split at h
     ·rename_i hb
      rw [hb]
      simp only [if_true,Sem.run_bind,hsz,Result.andThen_ok,Sem.run_pure]
      rw [Option.some.inj h]
     ·rename_i hb
      simp only [hb,Bool.false_eq_true,if_false,h,Sem.run_pure]
theorem items_eq {d c:Nat} {e:TypeId} {xs ys:Array Value} (ih:∀ x y l w,eqF P d e x y=some l→(Op.equalIn d e x y).run P w=.ok (eqB l) w):∀ (is:List Nat) (ls:List (List (Int × Int))) (w:World),
 is.mapM (fun i=>eqStep (eqF P d e) (xAZ P e xs (i*c)) (xAZ P e ys (i*c)))=some ls→(Op.eqItems d e c xs ys is).run P w=.ok (eqB ls.flatten) w
 | [], ls, w, h => by
   simp at h
   subst h
   simp [Op.eqItems,eqB]
 | i :: is, ls, w, h => by
   rw [List.mapM_cons] at h
   simp only [bind,Option.bind_eq_some_iff,pure,Option.some.injEq] at h
   obtain ⟨l1,h1,ls',h2,rfl⟩:=h
   unfold eqStep at h1
   split at h1
   ·rename_i a b ha hb
    have h3:=items_eq (c:=c) (xs:=xs) (ys:=ys) ih is ls' w h2
    simp only [Op.eqItems,Sem.run_bind,xAV ha,xAV hb,Result.andThen_ok,ih a b l1 w h1]
    cases hq:eqB l1
    ·simp [List.flatten_cons,eqB_app,hq]
    ·simp [List.flatten_cons,eqB_app,hq,h3]
   ·exact absurd h1 (by simp)
theorem fields_eq {d : Nat} {xs ys : Array Value} (ih : ∀ t x y l w, eqF P d t x y = some l → (Op.equalIn d t x y).run P w = .ok (eqB l) w) : ∀ (fs : List Field) (ls : List (List (Int × Int))) (w : World),
 fs.mapM (fun f=>if f.name≠ "_" then eqStep (eqF P d f.type) (xAZ P f.type xs f.offset) (xAZ P f.type ys f.offset) else none)=some ls→(Op.eqFields d xs ys fs).run P w=.ok (eqB ls.flatten) w
 | [], ls, w, h => by
   simp at h
   subst h
   simp [Op.eqFields,eqB]
 | f :: fs, ls, w, h => by
   rw [List.mapM_cons] at h
   simp only [bind,Option.bind_eq_some_iff,pure,Option.some.injEq] at h
   obtain ⟨l1,h1,ls',h2,rfl⟩:=h
   split at h1
   ·rename_i hn
    unfold eqStep at h1
    split at h1
    ·rename_i a b ha hb
     have h3:=fields_eq (xs:=xs) (ys:=ys) ih fs ls' w h2
     simp only [Op.eqFields,hn,ne_eq,not_false_eq_true,if_true,Sem.run_bind,xAV ha,xAV hb,Result.andThen_ok,ih f.type a b l1 w h1]
     cases hq:eqB l1
     ·simp [List.flatten_cons,eqB_app,hq]
     ·simp [List.flatten_cons,eqB_app,hq,h3]
    ·exact absurd h1 (by simp)
   ·exact absurd h1 (by simp)
theorem run_eqF : ∀ (d : Nat) (t : TypeId) (x y : Value) (l : List (Int × Int)) (w : World), eqF P d t x y = some l → (Op.equalIn d t x y).run P w = .ok (eqB l) w
 | 0,_,_,_,_,_,h=>by simp [eqF] at h
 | d + 1, t, x, y, l, w, h => by
   unfold eqF at h
   split at h
   ·rename_i hu
    split at h
    ·rename_i hk
     subst hk
     simp only [Option.some.injEq] at h
     subst h
     simp [Op.equalIn,run_underlying hu,eqB]
    ·exact absurd h (by simp)
   ·rename_i n e xs ys hu
    split at h
    ·rename_i hi
     obtain ⟨i,hi⟩:=Option.isSome_iff_exists.1 hi
     rw [Option.map_eq_some_iff] at h
     obtain ⟨ls,h1,rfl⟩:=h
     rw [run_equalIn_array w d xs ys hu hi]
     exact items_eq (fun x y l w=>run_eqF d e x y l w) _ ls w h1
    ·exact absurd h (by simp)
   ·rename_i fs xs ys hu
    split at h
    ·exact absurd h (by simp)
    ·rename_i hp
     rw [Option.map_eq_some_iff] at h
     obtain ⟨ls,h1,rfl⟩:=h
     have hfs:P.fieldsOf t=fs:=by unfold Program.fieldsOf;rw [hu]
     rw [run_equalIn_struct w d t xs ys (by rw [hfs];exact hu) (by simpa using hp),hfs]
     exact fields_eq (fun t x y l w=>run_eqF d t x y l w) _ ls w h1
   ·exact absurd h (by simp)
def eqT (P:Program) (t:TypeId) (x y:Value):Option (List (Int × Int)):=eqF P 10000 t x y
theorem neq_any {t:TypeId} {x y:Array Value} {l:List (Int × Int)} (h:eqT P t (.agg x) (.agg y)=some l) (w:World):(binOp .neq t (.agg x) (.agg y)).run P w=.ok (.bool (!eqB l)) w:=by
 have h1:=run_eqF 10000 t (.agg x) (.agg y) l w h
 simp only [binOp]
 simp [Op.equal,Op.maxDepth,h1]
theorem eqB_same:∀ {l:List (Int × Int)},l.map (·.1)=l.map (·.2)→eqB l=true
 | [],_=>rfl
 | p :: l, h => by
   simp only [List.map_cons,List.cons.injEq] at h
   have:=eqB_same h.2
   unfold eqB at this ⊢
   simp only [List.all_cons,this,Bool.and_true,beq_iff_eq]
   exact h.1
theorem same_get {t:TypeId} {x y:Value} (h:(eqT P t x y).map (fun l=>l.map (·.1))=some (((eqT P t x y).map fun l=>l.map (·.2)).getD [])):∃ l,eqT P t x y=some l∧eqB l=true:=by
 rw [Option.map_eq_some_iff] at h
 obtain ⟨l,h1,h2⟩:=h
 rw [h1] at h2
 exact ⟨l,h1,eqB_same h2⟩
theorem neq_same {t:TypeId} {x y:Array Value} (w:World) (h:(eqT P t (.agg x) (.agg y)).map (fun l=>l.map (·.1))=some (((eqT P t (.agg x) (.agg y)).map fun l=>l.map (·.2)).getD []):=by kernel_rfl):(binOp .neq t (.agg x) (.agg y)).run P w=.ok (.bool false) w:=by
 obtain ⟨l,h1,h2⟩:=same_get h
 rw [neq_any h1,h2];rfl
theorem neq_eq {t:TypeId} {x y:Array Value} (e:x=y) (w:World) (h:(eqT P t (.agg x) (.agg x)).map (fun l=>l.map (·.1))=some (((eqT P t (.agg x) (.agg x)).map fun l=>l.map (·.2)).getD []):=by kernel_rfl):(binOp .neq t (.agg x) (.agg y)).run P w=.ok (.bool false) w:=by
 subst e;exact neq_same w h
end
theorem yN (k:Ky) (hk:k.Ok) (w0:World):Calls prog 76 #[.agg (kY k)] w0 (jR (.bool (fC k)) w0):=by
 refine Calls.cW 37 (fun _=>True) func76 rfl rfl rfl jT (sS f76 2 [1,2] [] (fun ρ=>[pt (nb ρ 0),vF]) (fun ρ=>[(0,(nw ρ 0 (cL (kY k) 66)))]) (jX 2) (fun ρ1=>aB ?_))
 rcases Bool.eq_false_or_eq_true (decide (k.d<0)) with hb1 | hb1
 ·refine sS f76 14 [1,2,18] [] (fun _=>[jp (nb ρ1 0) 40,vi k.d,vT,vT,undef,undef,undef,vT,vT,undef,undef,undef,undef,vT]) (fun _=>[]) (cR [[],[0]]<|cA (fun _=>vT) (fun _=>jP hb1)<|jX 11) (fun _=>oY (jJ f76 1 [1,2] [vF] (aF (aC ?_))))
  exact mR (v:=vF) (fun _ hS=>⟨jB (snd_end1 hb1),hS.bel⟩)
 rcases Bool.eq_false_or_eq_true (decide (8<k.d)) with hb2 | hb2
 ·refine sS f76 14 [1,2,18] [] (fun _=>[jp (nb ρ1 0) 40,vi k.d,vF,vF,jp (nb ρ1 0) 40,vi k.d,vT,vT,vT,undef,undef,undef,undef,vT]) (fun _=>[]) (cR [[],[0]]<|cA (fun _=>vF) (fun _=>jP hb1)<|cR [[],[],[0]]<|cA (fun _=>vT) (fun _=>jP hb2)<|jX 7) (fun _=>oY (jJ f76 1 [1,2] [vF] (aF (aC ?_))))
  exact mR (v:=vF) (fun _ hS=>⟨jB (snd_end2 hb1 hb2),hS.bel⟩)
 refine sS f76 14 [1,2,18] [] (fun _=>[jp (nb ρ1 0) 40,vi k.d,vF,vF,jp (nb ρ1 0) 40,vi k.d,vF,vF,vF,jp (nb ρ1 0) 4,U k.p,.bool (iY k.p),.bool (!(iY k.p)),.bool (!(iY k.p))]) (fun _=>[]) (cR [[],[0]]<|cA (fun _=>vF) (fun _=>jP hb1)<|cR [[],[],[0]]<|cA (fun _=>vF) (fun _=>jP hb2)<|cR [[],[],[],[0]]<|cC (fun _ w=>valid_any k.p hk.p w)<|jX 2) (fun _=>oC (!(iY k.p)) (fun hb3=>?_) (fun hb3=>?_))
 ·rw [hb3]
  refine jJ f76 1 [1,2] [vF] (aF (aC ?_))
  exact mR (v:=vF) (fun _ hS=>⟨jB (snd_end3 hb1 hb2 (dF hb3)),hS.bel⟩)
 rw [hb3]
 refine aG (aA (aB (sS f76 4 [1,2,22] [] (fun _=>[pt (nb ρ1 0),U k.s,U 0,.bool (decide (k.s=0))]) (fun _=>[]) (cR [[],[0],[]]<|cB (a:=fun ρ=>(U k.s)) (b:=fun ρ=>(U 0)) (v:=fun ρ=>(.bool (decide (k.s=0)))) .eql 64 (fun _ _=>eqlU k.s 0 hk.s (by decide +kernel) _)<|cN) (fun _=>oC (decide (k.s=0)) (fun hb4=>?_) (fun hb4=>?_)))))
 ·rw [hb4]
  refine jJ f76 1 [1,2] [vT] (aF (aC ?_))
  exact mR (v:=vT) (fun _ hS=>⟨jB (snd_ok4 hb1 hb2 (aV hb3) hb4),hS.bel⟩)
 rw [hb4]
 refine aG (aA (sS f76 9 [1,2,3,4] [] (fun ρ=>[pt (nb ρ1 0),U k.s,.tuple #[U (dK k.s),vi (iW k.s)],.tuple #[U (dK k.s),vi (iW k.s)],U (dK k.s),vi (iW k.s),pt (nb ρ 6),undef,vi (iW k.s)]) (fun ρ=>[(6,(nw ρ 6 (cL (cU 0) 64))),(7,(bD 49 (nb ρ 6) (cL (cU (dK k.s)) 64)))]) (cR [[],[0]]<|cC (fun _ w=>yD k.s hk.s w)<|jE [[],[],[],[],[49],[]]) (fun _=>?_)))
 rcases Bool.eq_false_or_eq_true ((iW k.s)==0) with hb5 | hb5
 ·refine sS f76 9 [2] [0,0] (fun _=>let qa:Value:=.bool (decide (dK k.s=k.p));[vi (iW k.s),vT,vT,U (dK k.s),jp (nb ρ1 0) 4,U k.p,qa,qa,qa]) (fun _=>[]) (jY 1<|cA (fun _=>vT) (fun _=>jP hb5)<|cR [[],[1],[],[0]]<|cB (a:=fun ρ=>(U (dK k.s))) (b:=fun ρ=>(U k.p)) (v:=fun ρ=>(.bool (decide (dK k.s=k.p)))) .eql 64 (fun _ _=>eqlU (dK k.s) k.p (pubV_lt _) hk.p _)<|jX 2) (fun _=>aF ?_)
  exact mR (v:=(.bool (decide (dK k.s=k.p)))) (fun _ hS=>⟨jB (snd_ok5 hb1 hb2 (aV hb3) hb4 hb5),hS.bel⟩)
 refine sS f76 9 [2] [0,0] (fun _=>[vi (iW k.s),vF,vF,undef,undef,undef,undef,vF,vF]) (fun _=>[]) (jY 1<|cA (fun _=>vF) (fun _=>jP hb5)<|jX 7) (fun _=>aF ?_)
 exact mR (v:=vF) (fun _ hS=>⟨jB (snd_end5 hb1 hb2 (aV hb3) hb4 hb5),hS.bel⟩)
theorem oQ (k:Ky) (hk:k.Ok) (w0:World):Calls prog 82 #[.agg (kY k)] w0 (jR (.bool (fC k)) w0):=by
 refine Calls.cW 36 (fun _=>True) func82 rfl rfl rfl jT (sS f82 2 [1,2] [] (fun ρ=>[pt (nb ρ 0),vF]) (fun ρ=>[(0,(nw ρ 0 (cL (kY k) 66)))]) (jX 2) (fun ρ1=>aB ?_))
 rcases Bool.eq_false_or_eq_true (decide (k.d<0)) with hb1 | hb1
 ·refine sS f82 14 [1,2,18] [] (fun _=>[jp (nb ρ1 0) 40,vi k.d,vT,vT,undef,undef,undef,vT,vT,undef,undef,undef,undef,vT]) (fun _=>[]) (cR [[],[0]]<|cA (fun _=>vT) (fun _=>jP hb1)<|jX 11) (fun _=>oY (jJ f82 1 [1,2] [vF] (aF (aC ?_))))
  exact mR (v:=vF) (fun _ hS=>⟨jB (snd_end1 hb1),hS.bel⟩)
 rcases Bool.eq_false_or_eq_true (decide (8<k.d)) with hb2 | hb2
 ·refine sS f82 14 [1,2,18] [] (fun _=>[jp (nb ρ1 0) 40,vi k.d,vF,vF,jp (nb ρ1 0) 40,vi k.d,vT,vT,vT,undef,undef,undef,undef,vT]) (fun _=>[]) (cR [[],[0]]<|cA (fun _=>vF) (fun _=>jP hb1)<|cR [[],[],[0]]<|cA (fun _=>vT) (fun _=>jP hb2)<|jX 7) (fun _=>oY (jJ f82 1 [1,2] [vF] (aF (aC ?_))))
  exact mR (v:=vF) (fun _ hS=>⟨jB (snd_end2 hb1 hb2),hS.bel⟩)
 refine sS f82 14 [1,2,18] [] (fun _=>[jp (nb ρ1 0) 40,vi k.d,vF,vF,jp (nb ρ1 0) 40,vi k.d,vF,vF,vF,jp (nb ρ1 0) 4,U k.p,.bool (iY k.p),.bool (!(iY k.p)),.bool (!(iY k.p))]) (fun _=>[]) (cR [[],[0]]<|cA (fun _=>vF) (fun _=>jP hb1)<|cR [[],[],[0]]<|cA (fun _=>vF) (fun _=>jP hb2)<|cR [[],[],[],[0]]<|cC (fun _ w=>rvalid_any k.p hk.p w)<|jX 2) (fun _=>oC (!(iY k.p)) (fun hb3=>?_) (fun hb3=>?_))
 ·rw [hb3]
  refine jJ f82 1 [1,2] [vF] (aF (aC ?_))
  exact mR (v:=vF) (fun _ hS=>⟨jB (snd_end3 hb1 hb2 (dF hb3)),hS.bel⟩)
 rw [hb3]
 refine aG (aA (aB (sS f82 3 [1,2,21] [] (fun _=>[pt (nb ρ1 0),U k.s,.bool (decide (k.s=0))]) (fun _=>[]) (cR [[],[0]]<|cC (fun _ w=>iI k.s w hk.s)<|cN) (fun _=>oC (decide (k.s=0)) (fun hb4=>?_) (fun hb4=>?_)))))
 ·rw [hb4]
  refine jJ f82 1 [1,2] [vT] (aF (aC ?_))
  exact mR (v:=vT) (fun _ hS=>⟨jB (snd_ok4 hb1 hb2 (aV hb3) hb4),hS.bel⟩)
 rw [hb4]
 refine aG (aA (sS f82 9 [1,2,3,4] [] (fun ρ=>[pt (nb ρ1 0),U k.s,.tuple #[U (dK k.s),vi (iW k.s)],.tuple #[U (dK k.s),vi (iW k.s)],U (dK k.s),vi (iW k.s),pt (nb ρ 6),undef,vi (iW k.s)]) (fun ρ=>[(6,(nw ρ 6 (cL (cU 0) 64))),(7,(bD 49 (nb ρ 6) (cL (cU (dK k.s)) 64)))]) (cR [[],[0]]<|cC (fun _ w=>rE k.s hk.s w)<|jE [[],[],[],[],[49],[]]) (fun _=>?_)))
 rcases Bool.eq_false_or_eq_true ((iW k.s)==0) with hb5 | hb5
 ·refine sS f82 9 [2] [0,0] (fun _=>let qa:Value:=.bool (decide (dK k.s=k.p));[vi (iW k.s),vT,vT,U (dK k.s),jp (nb ρ1 0) 4,U k.p,qa,qa,qa]) (fun _=>[]) (jY 1<|cA (fun _=>vT) (fun _=>jP hb5)<|cR [[],[1],[],[0]]<|cB (a:=fun ρ=>(U (dK k.s))) (b:=fun ρ=>(U k.p)) (v:=fun ρ=>(.bool (decide (dK k.s=k.p)))) .eql 64 (fun _ _=>eqlU (dK k.s) k.p (pubV_lt _) hk.p _)<|jX 2) (fun _=>aF ?_)
  exact mR (v:=(.bool (decide (dK k.s=k.p)))) (fun _ hS=>⟨jB (snd_ok5 hb1 hb2 (aV hb3) hb4 hb5),hS.bel⟩)
 refine sS f82 9 [2] [0,0] (fun _=>[vi (iW k.s),vF,vF,undef,undef,undef,undef,vF,vF]) (fun _=>[]) (jY 1<|cA (fun _=>vF) (fun _=>jP hb5)<|jX 7) (fun _=>aF ?_)
 exact mR (v:=vF) (fun _ hS=>⟨jB (snd_end5 hb1 hb2 (aV hb3) hb4 hb5),hS.bel⟩)
theorem yK (a:OA) (c:Nat) (ps:List Nat) (hn:a.isNone=true) (w0:World) (hf0:Is w0 .u32 a c (nI ps)):Calls prog 58 #[.slice a (nI ps).length c] w0 (jR vz w0):=by
 refine Calls.cW 8 (fun w=>Is w .u32 a c (nI ps)∧True) func58 rfl rfl rfl (hf0.pers0.and cO) (jJ f58 1 [0,2] [vz] (aB (sS f58 2 [0,2,4] [] (fun _=>[.slice a (nI ps).length c,vT]) (fun _=>[]) (jY 1<|cB (a:=fun ρ=>(.slice a (nI ps).length c)) (b:=fun ρ=>vz) (v:=fun ρ=>vT) .eql 67 (fun _ w=>(eql_nil32 a (nI ps).length c w).trans (by rw [show a.isNone=true from hn]))<|cN) (fun _=>oY (jJ f58 1 [0,2] [vz] (aF (aC ?_)))))))
 exact mR (v:=vz) (fun _ hS=>⟨rfl,hS.bel⟩)
theorem yP (a:OA) (c:Nat) (ps:List Nat) (hn:a.isNone=false) (_h8:ps.length≤8) (w0:World) (hf0:Is w0 .u32 a c (nI ps)):Calls prog 58 #[.slice a (nI ps).length c] w0 (fun ε w'=>∃ r:bH,ε=.returned (vs (r.n.headD 0) (nI ps).length (r.n.tail.headD 0))∧jG w0 w'∧w0.heap.size≤r.n.headD 0∧w'.heap[r.n.headD 0]? = some (cL (uG r) 55)∧kI.A (uG r) ps (r.n.tail.headD 0)):=by
 refine Calls.cW 8 (fun w=>Is w .u32 a c (nI ps)∧True) func58 rfl rfl rfl (hf0.pers0.and cO) (jJ f58 1 [0,2] [vz] (aB (sS f58 2 [0,2,4] [] (fun _=>[.slice a (nI ps).length c,vF]) (fun _=>[]) (jY 1<|cB (a:=fun ρ=>(.slice a (nI ps).length c)) (b:=fun ρ=>vz) (v:=fun ρ=>vF) .eql 67 (fun _ w=>(eql_nil32 a (nI ps).length c w).trans (by rw [show a.isNone=false from hn]))<|cN) (fun _=>oN (aG (aA (iZ f58 4 [2] [] (fun ρ=>let qa:=vs (nb ρ 2) (nI (([]:List Nat)++ps)).length (aZ ρ 2);[vs (nb ρ 0) 0 0,.slice a (nI ps).length c,qa,qa]) (fun ρ=>[(0,(nw ρ 0 (cL #[] 55))),(2,(bD 0 (nb ρ 2) (cL (oc ρ 2) 55)))]) (fun ρ=>[(2,fun w=>kI.A (oc ρ 2) (([]:List Nat)++ps) (aZ ρ 2))]) (fun _=>(fun w=>Is w .u32 a c (nI ps)∧True)) (fun ρ=>kI.A (oc ρ 2) (([]:List Nat)++ps) (aZ ρ 2)) (fun _ _ hF hf=>⟨hF,hf 2⟩) (jY 2<|cX (qM 0 (fun ρ _ _ hG hg=>lT (ty:=67) (g:=nb ρ 0) (ts:=([]:List Nat)) (us:=ps) underlying67 (dA (sz:=1) (b:=4) (z:=(.int .u32 0)) (by kernel_rfl) rfl) RowK.A.empty (src_is underlying67 hG.fn.1) (by rw [List.length_nil];omega) (by decide) hg))<|jX 1) (fun ρ3 ap3_2=>aF (mD [(2,(vs (nb ρ3 2) (nI (([]:List Nat)++ps)).length (aZ ρ3 2)))] [(nb ρ3 2,(cL (oc ρ3 2) 55))] ?_)))))))))
 exact mR (v:=(vs (nb ρ3 2) (nI (([]:List Nat)++ps)).length (aZ ρ3 2))) (fun _ hS=>⟨{ n:=[nb ρ3 2,aZ ρ3 2],o:=[.cells (oc ρ3 2) 0 (0,0)]},rfl,hS.bel,(hS.newb (.head _)).1,(hS.newb (.head _)).2,ap3_2⟩)
theorem clt1_any (a:OA) (c:Nat) (us:List bW) (hn:a.isNone=false) (_h8:us.length≤8) (w0:World) (hf0:bM w0 a c us):Calls prog 56 #[.slice a us.length c] w0 (fun ε w'=>∃ r:bH,ε=.returned (vs (r.n.headD 0) us.length (r.n.tail.headD 0))∧jG w0 w'∧w0.heap.size≤r.n.headD 0∧w'.heap[r.n.headD 0]? = some (cL (uG r) 60)∧kT.A (uG r) us (r.n.tail.headD 0)):=by
 refine Calls.cW 8 (fun w=>bM w a c us∧True) func56 rfl rfl rfl (hf0.pers0.and cO) (jJ f56 1 [0,2] [vz] (aB (sS f56 2 [0,2,4] [] (fun _=>[.slice a us.length c,vF]) (fun _=>[]) (jY 1<|cB (a:=fun ρ=>(.slice a us.length c)) (b:=fun ρ=>vz) (v:=fun ρ=>vF) .eql 24 (fun _ w=>(eql_nilT a us.length c w).trans (by rw [show a.isNone=false from hn]))<|cN) (fun _=>oN (aG (aA (iZ f56 4 [2] [] (fun ρ=>let qa:=vs (nb ρ 2) (([]:List bW)++us).length (aZ ρ 2);[vs (nb ρ 0) 0 0,.slice a us.length c,qa,qa]) (fun ρ=>[(0,(nw ρ 0 (cL #[] 60))),(2,(bD 0 (nb ρ 2) (cL (oc ρ 2) 60)))]) (fun ρ=>[(2,fun w=>kT.A (oc ρ 2) (([]:List bW)++us) (aZ ρ 2))]) (fun _=>(fun w=>bM w a c us∧True)) (fun ρ=>kT.A (oc ρ 2) (([]:List bW)++us) (aZ ρ 2)) (fun _ _ hF hf=>⟨hF,hf 2⟩) (jY 2<|cX (qM 0 (fun ρ _ _ hG hg=>wB (K:=kT) (ty:=24) (g:=nb ρ 0) (ts:=([]:List bW)) (us:=us) underlying24 (dA (sz:=36) (b:=80) (z:=rQ) (by kernel_rfl) rfl) RowK.A.empty (bM.srcT underlying24 hG.fn.1) (by rw [List.length_nil];omega) (by decide) hg))<|jX 1) (fun ρ3 ap3_2=>aF (mD [(2,(vs (nb ρ3 2) (([]:List bW)++us).length (aZ ρ3 2)))] [(nb ρ3 2,(cL (oc ρ3 2) 60))] ?_)))))))))
 exact mR (v:=(vs (nb ρ3 2) (([]:List bW)++us).length (aZ ρ3 2))) (fun _ hS=>⟨{ n:=[nb ρ3 2,aZ ρ3 2],o:=[.cells (oc ρ3 2) 0 (0,0)]},rfl,hS.bel,(hS.newb (.head _)).1,(hS.newb (.head _)).2,ap3_2⟩)
theorem clk1_any (a:OA) (c:Nat) (us:List dO) (hn:a.isNone=false) (_h8:us.length≤8) (w0:World) (hf0:oG w0 a c us):Calls prog 57 #[.slice a us.length c] w0 (fun ε w'=>∃ r:bH,ε=.returned (vs (r.n.headD 0) us.length (r.n.tail.headD 0))∧jG w0 w'∧w0.heap.size≤r.n.headD 0∧w'.heap[r.n.headD 0]? = some (cL (uG r) 69)∧kK.A (uG r) us (r.n.tail.headD 0)):=by
 refine Calls.cW 8 (fun w=>oG w a c us∧True) func57 rfl rfl rfl (hf0.pers0.and cO) (jJ f57 1 [0,2] [vz] (aB (sS f57 2 [0,2,4] [] (fun _=>[.slice a us.length c,vF]) (fun _=>[]) (jY 1<|cB (a:=fun ρ=>(.slice a us.length c)) (b:=fun ρ=>vz) (v:=fun ρ=>vF) .eql 58 (fun _ w=>(eql_nilK a us.length c w).trans (by rw [show a.isNone=false from hn]))<|cN) (fun _=>oN (aG (aA (iZ f57 4 [2] [] (fun ρ=>let qa:=vs (nb ρ 2) (([]:List dO)++us).length (aZ ρ 2);[vs (nb ρ 0) 0 0,.slice a us.length c,qa,qa]) (fun ρ=>[(0,(nw ρ 0 (cL #[] 69))),(2,(bD 0 (nb ρ 2) (cL (oc ρ 2) 69)))]) (fun ρ=>[(2,fun w=>kK.A (oc ρ 2) (([]:List dO)++us) (aZ ρ 2))]) (fun _=>(fun w=>oG w a c us∧True)) (fun ρ=>kK.A (oc ρ 2) (([]:List dO)++us) (aZ ρ 2)) (fun _ _ hF hf=>⟨hF,hf 2⟩) (jY 2<|cX (qM 0 (fun ρ _ _ hG hg=>wB (K:=kK) (ty:=58) (g:=nb ρ 0) (ts:=([]:List dO)) (us:=us) underlying58 (dA (sz:=45) (b:=144) (z:=zKp) (by kernel_rfl) rfl) RowK.A.empty (oG.src underlying58 hG.fn.1) (by rw [List.length_nil];omega) (by decide) hg))<|jX 1) (fun ρ3 ap3_2=>aF (mD [(2,(vs (nb ρ3 2) (([]:List dO)++us).length (aZ ρ3 2)))] [(nb ρ3 2,(cL (oc ρ3 2) 69))] ?_)))))))))
 exact mR (v:=(vs (nb ρ3 2) (([]:List dO)++us).length (aZ ρ3 2))) (fun _ hS=>⟨{ n:=[nb ρ3 2,aZ ρ3 2],o:=[.cells (oc ρ3 2) 0 (0,0)]},rfl,hS.bel,(hS.newb (.head _)).1,(hS.newb (.head _)).2,ap3_2⟩)
theorem clk0_any (a:OA) (c:Nat) (us:List dO) (hn:a.isNone=true) (w0:World) (hf0:oG w0 a c us):Calls prog 57 #[.slice a us.length c] w0 (jR vz w0):=by
 refine Calls.cW 8 (fun w=>oG w a c us∧True) func57 rfl rfl rfl (hf0.pers0.and cO) (jJ f57 1 [0,2] [vz] (aB (sS f57 2 [0,2,4] [] (fun _=>[.slice a us.length c,vT]) (fun _=>[]) (jY 1<|cB (a:=fun ρ=>(.slice a us.length c)) (b:=fun ρ=>vz) (v:=fun ρ=>vT) .eql 58 (fun _ w=>(eql_nilK a us.length c w).trans (by rw [show a.isNone=true from hn]))<|cN) (fun _=>oY (jJ f57 1 [0,2] [vz] (aF (aC ?_)))))))
 exact mR (v:=vz) (fun _ hS=>⟨rfl,hS.bel⟩)
theorem oG.isn {w:World} {a:OA} {c:Nat} {l:List dO} (h:oG w a c l) (hn:a.isNone=true):l=[]:=by
 rcases h.rows with h1 | ⟨p,h1,_⟩
 ·have e := congrArg List.length h1
  rw [yB dO.row_len] at e
  exact List.eq_nil_of_length_eq_zero (by simp only [List.length_nil] at e;omega)
 ·rw [h1] at hn;exact absurd hn (by simp)
theorem cloneJ_any (a : OA) (c : Nat) (ps : List Nat) (h8 : ps.length ≤ 8) (w0 : World) (_ : Knows [] w0) (_ : dL (fun b => b ∈ ([] : List (Nat × Obj)).map (·.1)) (fun _ => True) w0) (hf0 : Is w0 .u32 a c (nI ps)) : Calls prog 58 #[.slice a (nI ps).length c] w0 (fun ε w' => ∃ α κ, ε = .returned (.slice α (nI ps).length κ) ∧ nN (fun b => b ∈ ([] : List (Nat × Obj)).map (·.1)) w0 w' ∧ Knows [] w' ∧ Fi w0 w' .u32 α κ (nI ps)) := by
 have kn:∀ w:World,Knows [] w:=fun w x hx=>absurd hx (by simp)
 cases hn:a.isNone with
 | true =>
   have e':ps=[]:=by
    rcases hf0.rows with h0 | ⟨p,hp,_⟩
    ·have := congrArg List.length h0
     rw [kI_iv,kI.r_len] at this
     exact List.eq_nil_of_length_eq_zero (by simp only [List.length_nil] at this;omega)
    ·rw [hp] at hn;exact absurd hn (by simp)
   subst e'
   exact (yK a c [] hn w0 hf0).mono (fun _ w' h=>⟨none,0,h.1,nN.of_below h.2,kn w',Fi.nil⟩)
 | false =>
   refine (yP a c ps hn h8 w0 hf0).mono (fun ε w' h=>?_)
   obtain ⟨r,h1,h2,h3,h4,h5⟩:=h
   exact ⟨_,_,h1,nN.of_below h2,kn w',Is.of_kI h4 h5 om,fun p hp _=>by
    obtain rfl:(⟨r.n.headD 0,0,none⟩:Addr)=p:=by simpa using hp
    exact h3⟩
theorem bM.nnP {w:World} {a:OA} {c:Nat} {l:List bW} (h:bM w a c l) (h0:0<l.length):a.isNone=false:=by
 rcases h.rows with h1 | ⟨p,h1,_⟩
 ·have e := congrArg List.length h1
  rw [yB bW.row_len] at e
  simp only [List.length_nil] at e
  exact absurd e om
 ·rw [h1];rfl
theorem wcln_any (a:OA) (c:Nat) (ts:List bW) (hn0:0<ts.length) (h8:ts.length≤8) (hk8:∀ t∈ts,t.ks.length≤8) (hp8:∀ t∈ts,∀ p∈t.ks,p.ps.length≤8) (w0:World) (hf0:bM w0 a c ts) (T:Nat→Prop) (hT:∀ b,T b→b<w0.heap.size):Calls prog 34 #[.slice a ts.length c] w0 (fun ε w'=>jG w0 w'∧∃ r:bH,ε=.returned (.slice r.a r.t.length (r.n.headD 0))∧NwT w0.heap.size r.a r.t∧dL T (fun w=>bM w r.a (r.n.headD 0) r.t∧r.t.map bW.er=ts.map bW.er) w'):=by
 refine Calls.cW 48 (fun w=>bM w a c ts∧True) func34 rfl rfl rfl (hf0.pers0.and cO) ?_
 have ho:mP ts:=hf0.oks
 have hna:a.isNone=false:=hf0.nnP hn0
 refine jJ f34 1 [0,2] [vz] (iZ f34 3 [0,2] [] (fun ρ=>let qa:=vs (nb ρ 1) ts.length (aZ ρ 1);[.slice a ts.length c,qa,qa]) (fun ρ=>[(1,(nw ρ 1 (cL (oc ρ 1) 60)))]) (fun ρ=>[(1,fun w=>kT.A (oc ρ 1) ts (aZ ρ 1))]) (fun _=>(fun w=>bM w a c ts∧True)) (fun ρ=>kT.A (oc ρ 1) ts (aZ ρ 1)) (fun _ _ hF hf=>⟨hF,hf 1⟩) (jY 1<|cX (xAW _ 56 (fun _=> #[.slice a ts.length c]) (fun _ r=>(vs (r.n.headD 0) ts.length (r.n.tail.headD 0))) (fun _ r=>(cL (uG r) 60)) (fun _ r=>kT.A (uG r) ts (r.n.tail.headD 0)) (fun _ _=>(by kernel_rfl)) (fun _ _=>(by kernel_rfl)) (fun _ _=>(by kernel_rfl)) (fun _ _=>(by kernel_rfl)) (fun _ _ w hG=>clt1_any a c ts hna h8 w hG.fn.1))<|jX 1) (fun ρ2 ap2_1=>aB (jJ f34 3 [0,2,9,10] [vs (nb ρ2 1) ts.length (aZ ρ2 1),vn ts.length,vi 0] (aI ?_))))
 refine oLF (σ:=Nat × (Array Value) × (List bW)) (fun ⟨i,_,M⟩=>(fun w=>bM w a c ts∧TkN w0 w (M.take i)∧True)) (fun ⟨i,_,_⟩=>[(0,(vs (nb ρ2 1) ts.length (aZ ρ2 1))),(2,vz),(9,(vn ts.length)),(10,(vn i))]) (fun ⟨_,C,_⟩=>[(nb ρ2 1,(cL C 60))]) (fun ⟨i,_,_⟩=>ts.length-i)
  (fun ⟨i,C,M⟩=>(TCp ts M i)∧(kT.A C M (aZ ρ2 1))) (0,oc ρ2 1,ts) (⟨Cp0.start,ap2_1⟩) (fun w hF=>⟨hF.1,TkN.nil,trivial⟩) [] ?_
 rintro ⟨i,C,M⟩ ⟨hC,hA⟩
 refine jJ f34 1 [0,2,9,10,11] [.bool (decide (((i:Nat):Int)<((ts.length:Nat):Int)))] (aB (oC (decide (((i:Nat):Int)<((ts.length:Nat):Int))) (fun hb1=>?_) (fun hb1=>?_)))
 ·rw [hb1]
  have:=yT hb1
  refine aG (aA (aB (aI (jJ f34 2 [0,2,3,9,10] [vn i,vn i] ?_))))
  rcases Bool.eq_false_or_eq_true (gT ts i).ka.isNone with hb2 | hb2
  ·refine sS f34 11 [0,2,3,9,10] [] (fun _=>let qa:=vs (nb ρ2 1) ts.length (aZ ρ2 1);let qb:=jp (nb ρ2 1) (i*36+35);[qa,vn i,qa,vn i,jp (nb ρ2 1) (i*36),qb,.slice (gT ts i).ka (gT ts i).ks.length (gT ts i).kc,vz,jp (nb ρ2 1) (i*36),qb,undef]) (fun _=>[(10,(bD 0 (nb ρ2 1) (cL (C.setIfInBounds (i*36+35) vz) 60)))]) (jY 4<|cX (qS (fun _ w=>vP (g:=nb ρ2 1) (c:=aZ ρ2 1) (k:=.i64) underlying24 sizeOf60 (show ((i:Nat):Int)=((i:Nat):Int) from rfl) (show i<ts.length from (oA hC.le)) w))<|jY 1<|cX (kG _ 0 58 (fun _=>nb ρ2 1) (fun _=>i*36+35) (fun _=>C) 60 (0,0) (fun _=>(.slice (gT ts i).ka (gT ts i).ks.length (gT ts i).kc)) (fun _=>by kernel_rfl) isAgg58 (fun _=>kT_g hC (show i<ts.length from (oA hC.le)) hA))<|cX (qC (fun _ _ w hG=>clk0_any (gT ts i).ka (gT ts i).kc (gT ts i).ks hb2 w (hG.fn.1.sub _ (xAE (show i<ts.length from (oA hC.le))))))<|cX (qS (fun _ w=>vP (g:=nb ρ2 1) (c:=aZ ρ2 1) (k:=.i64) underlying24 sizeOf60 (show ((i:Nat):Int)=((i:Nat):Int) from rfl) (show i<ts.length from (oA hC.le)) w))<|jY 1<|cX (qG _ 0 58 (fun _=>nb ρ2 1) (fun _=>i*36+35) (fun _=>C) (fun _=>(C.setIfInBounds (i*36+35) vz)) 60 (fun _=>vz) (fun _=>by kernel_rfl) sizeOf58 (fun _=>rfl) (fun _=>kT_l hC (show i<ts.length from (oA hC.le)) hA) (fun _=>rfl))<|cN) (fun _=>xAN (p:=(gT ts i).ks=[]) (fun w hF=>(hF.1.sub _ (xAE (show i<ts.length from (oA hC.le)))).isn hb2) (fun hks0=>sS f34 7 [0,2,3,9,10,27,28,29] [] (fun _=>[vs (nb ρ2 1) ts.length (aZ ρ2 1),vn i,jp (nb ρ2 1) (i*36),jp (nb ρ2 1) (i*36+35),vz,vi 0,vi 0]) (fun _=>[]) (jY 2<|cX (qS (fun _ w=>vP (g:=nb ρ2 1) (c:=aZ ρ2 1) (k:=.i64) underlying24 sizeOf60 (show ((i:Nat):Int)=((i:Nat):Int) from rfl) (show i<ts.length from (oA hC.le)) w))<|jY 1<|cX (kG _ 0 58 (fun _=>nb ρ2 1) (fun _=>i*36+35) (fun _=>(C.setIfInBounds (i*36+35) vz)) 60 (0,0) (fun _=>vz) (fun _=>by kernel_rfl) isAgg58 (fun _=>kT_gs hC (show i<ts.length from (oA hC.le)) (kT_s hC (show i<ts.length from (oA hC.le)) [] none 0 rfl hA)))<|jX 2) (fun _=>aI (kX 1 (dI (jJ f34 1 [0,2,3,9,10,27,28,29,30] [vF] (aB (oN (bF (aN (aN (aT (aJ (aA (rS f34 2 [0,2,9,10] [] (fun _=>[vn (i+1),vn (i+1)]) (fun _=>[]) (jW (fun ρ=>(((i:Nat):Int)+1)) (fun _=>(i+1)) (fun _=>(aW i 1 (oA hC.le)))<|jX 1) (fun _=>mD [(0,(vs (nb ρ2 1) ts.length (aZ ρ2 1))),(2,vz),(9,(vn ts.length)),(10,(vn (i+1)))] [(nb ρ2 1,(cL (C.setIfInBounds (i*36+35) vz) 60))] ?_))))))))))))))))
   exact mNF (i+1,C.setIfInBounds (i*36+35) vz,M.set i ((gT ts i).wk [] none 0)) (by show ts.length-(i+1)<ts.length-i;have:=hC.le;omega) (⟨hC.next (show i<ts.length from (oA hC.le)) (by rw [hks0]),(kT_s hC (show i<ts.length from (oA hC.le)) [] none 0 rfl hA)⟩) (fun w hS=>hS.weaken (fun w hF=>⟨hF.1,hF.2.1.next (hC.lt (show i<ts.length from (oA hC.le))) KpN.nil,trivial⟩))
  refine iZ f34 11 [0,2,3,9,10] [] (fun ρ=>let qa:=vs (nb ρ2 1) ts.length (aZ ρ2 1);let qb:=jp (nb ρ2 1) (i*36+35);[qa,vn i,qa,vn i,jp (nb ρ2 1) (i*36),qb,.slice (gT ts i).ka (gT ts i).ks.length (gT ts i).kc,vs (nb ρ 7) (gT ts i).ks.length (aZ ρ 7),jp (nb ρ2 1) (i*36),qb,undef]) (fun ρ=>[(7,(nw ρ 7 (cL (oc ρ 7) 69))),(10,(bD 0 (nb ρ2 1) (cL (C.setIfInBounds (i*36+35) (vs (nb ρ 7) (gT ts i).ks.length (aZ ρ 7))) 60)))]) (fun ρ=>[(7,fun w=>kK.A (oc ρ 7) (gT ts i).ks (aZ ρ 7))]) (fun _=>(fun w=>bM w a c ts∧TkN w0 w (M.take i)∧True)) (fun ρ=>kK.A (oc ρ 7) (gT ts i).ks (aZ ρ 7)) (fun _ _ hF hf=>⟨hF,hf 7⟩) (jY 4<|cY (qS (fun _ w=>vP (g:=nb ρ2 1) (c:=aZ ρ2 1) (k:=.i64) underlying24 sizeOf60 (show ((i:Nat):Int)=((i:Nat):Int) from rfl) (show i<ts.length from (oA hC.le)) w))<|jY 1<|cY (kG _ 0 58 (fun _=>nb ρ2 1) (fun _=>i*36+35) (fun _=>C) 60 (0,0) (fun _=>(.slice (gT ts i).ka (gT ts i).ks.length (gT ts i).kc)) (fun _=>by kernel_rfl) isAgg58 (fun _=>kT_g hC (show i<ts.length from (oA hC.le)) hA))<|cX (xAW _ 57 (fun _=> #[.slice (gT ts i).ka (gT ts i).ks.length (gT ts i).kc]) (fun _ r=>(vs (r.n.headD 0) (gT ts i).ks.length (r.n.tail.headD 0))) (fun _ r=>(cL (uG r) 69)) (fun _ r=>kK.A (uG r) (gT ts i).ks (r.n.tail.headD 0)) (fun _ _=>(by kernel_rfl)) (fun _ _=>(by kernel_rfl)) (fun _ _=>(by kernel_rfl)) (fun _ _=>(by kernel_rfl)) (fun _ _ w hG=>clk1_any (gT ts i).ka (gT ts i).kc (gT ts i).ks hb2 (hk8 _ (xAE (show i<ts.length from (oA hC.le)))) w (hG.fn.1.sub _ (xAE (show i<ts.length from (oA hC.le))))))<|cY (qS (fun _ w=>vP (g:=nb ρ2 1) (c:=aZ ρ2 1) (k:=.i64) underlying24 sizeOf60 (show ((i:Nat):Int)=((i:Nat):Int) from rfl) (show i<ts.length from (oA hC.le)) w))<|jY 1<|cY (qG _ 0 58 (fun _=>nb ρ2 1) (fun _=>i*36+35) (fun _=>C) (fun ρ=>(C.setIfInBounds (i*36+35) (vs (nb ρ 7) (gT ts i).ks.length (aZ ρ 7)))) 60 (fun ρ=>(vs (nb ρ 7) (gT ts i).ks.length (aZ ρ 7))) (fun _=>by kernel_rfl) sizeOf58 (fun _=>rfl) (fun _=>kT_l hC (show i<ts.length from (oA hC.le)) hA) (fun _=>rfl))<|cN) (fun ρ10 ap10_7=>sS f34 7 [0,2,3,9,10,27,28,29] [] (fun _=>[vs (nb ρ2 1) ts.length (aZ ρ2 1),vn i,jp (nb ρ2 1) (i*36),jp (nb ρ2 1) (i*36+35),vs (nb ρ10 7) (gT ts i).ks.length (aZ ρ10 7),vn (gT ts i).ks.length,vi 0]) (fun _=>[]) (jY 2<|cX (qS (fun _ w=>vP (g:=nb ρ2 1) (c:=aZ ρ2 1) (k:=.i64) underlying24 sizeOf60 (show ((i:Nat):Int)=((i:Nat):Int) from rfl) (show i<ts.length from (oA hC.le)) w))<|jY 1<|cX (kG _ 0 58 (fun _=>nb ρ2 1) (fun _=>i*36+35) (fun _=>(C.setIfInBounds (i*36+35) (vs (nb ρ10 7) (gT ts i).ks.length (aZ ρ10 7)))) 60 (0,0) (fun _=>(vs (nb ρ10 7) (gT ts i).ks.length (aZ ρ10 7))) (fun _=>by kernel_rfl) isAgg58 (fun _=>kT_gs hC (show i<ts.length from (oA hC.le)) (kT_s hC (show i<ts.length from (oA hC.le)) (gT ts i).ks (some ⟨nb ρ10 7,0,none⟩) (aZ ρ10 7) rfl hA)))<|jX 2) (fun _=>aI ?_))
  refine oLF (σ:=Nat × (Array Value) × (List dO)) (fun ⟨j,_,N⟩=>(fun w=>bM w a c ts∧TkN w0 w (M.take i)∧KjF w0 w (N.take j)∧True)) (fun ⟨j,_,_⟩=>[(0,(vs (nb ρ2 1) ts.length (aZ ρ2 1))),(2,vz),(3,(vn i)),(9,(vn ts.length)),(10,(vn i)),(27,(vs (nb ρ10 7) (gT ts i).ks.length (aZ ρ10 7))),(28,(vn (gT ts i).ks.length)),(29,(vn j))]) (fun ⟨_,C2,_⟩=>[(nb ρ2 1,(cL (C.setIfInBounds (i*36+35) (vs (nb ρ10 7) (gT ts i).ks.length (aZ ρ10 7))) 60)),(nb ρ10 7,(cL C2 69))]) (fun ⟨j,_,_⟩=>(gT ts i).ks.length-j)
   (fun ⟨j,C2,N⟩=>(KCp (gT ts i).ks N j)∧(kK.A C2 N (aZ ρ10 7))) (0,oc ρ10 7,(gT ts i).ks) (⟨Cp0.start,ap10_7⟩) (fun w hF=>⟨hF.1,hF.2.1,KjF.nil,trivial⟩) [] ?_
  rintro ⟨j,C2,N⟩ ⟨hKc,hA2⟩
  have zh1:i<ts.length:=(oA hC.le)
  have hk9:(gT ts i).ks.length≤8:=hk8 _ (xAE zh1)
  refine jJ f34 1 [0,2,3,9,10,27,28,29,30] [.bool (decide (((j:Nat):Int)<(((gT ts i).ks.length:Nat):Int)))] (aB (oC (decide (((j:Nat):Int)<(((gT ts i).ks.length:Nat):Int))) (fun hb3=>?_) (fun hb3=>?_)))
  ·rw [hb3]
   have:=yT hb3
   have zh2:j<(gT ts i).ks.length:=(oB hC.le hKc.le)
   have zh3:i<ts.length:=(oB hC.le hKc.le)
   refine aG (aA (aB (aI (sS f34 6 [0,2,3,4,5,9,10,27,28,29] [] (fun ρ=>[vn j,jp (nb ρ10 7) (j*45),.agg (dO.row (gK (gT ts i).ks j)),pt (nb ρ 3),vn j,undef]) (fun ρ=>[(3,(nw ρ 3 (cL (kM 0 0 0 0 0 0 vz vF) 69))),(5,(bD 26 (nb ρ 3) (cL (dO.row (gK (gT ts i).ks j)) 69)))]) (jY 1<|cX (qS (fun _ w=>vP (g:=nb ρ10 7) (c:=aZ ρ10 7) (k:=.i64) underlying58 sizeOf69 (show ((j:Nat):Int)=((j:Nat):Int) from rfl) zh2 w))<|cX (qF (v:=fun ρ=>(.agg (dO.row (gK (gT ts i).ks j)))) (fun _ _ _ hG=>kK_ld hKc zh2 isAgg69 sizeOf69 (hG.kn (g:=nb ρ10 7) (o:=(cL C2 69)) 1) hA2))<|jE [[],[],[26]]) (fun ρ13=>rDf f34 [0,0,3,7,15,0,0,64,192,511,1023,2047] 12 [0,2,3,9,10,27,28,29] [1,1,0] (fun ρ=>[vs (nb ρ2 1) ts.length (aZ ρ2 1),vn i,jp (nb ρ2 1) (i*36),jp (nb ρ2 1) (i*36+35),vs (nb ρ10 7) (gT ts i).ks.length (aZ ρ10 7),vn j,jp (nb ρ13 3) 43,.slice (gK (gT ts i).ks j).pa (nI (gK (gT ts i).ks j).ps).length (gK (gT ts i).ks j).pc,.slice (oa ρ 8) (nI (gK (gT ts i).ks j).ps).length (nb ρ 8),jp (nb ρ10 7) (j*45),jp (nb ρ10 7) (j*45+43),undef]) (fun ρ=>[(8,{ puts:=[]}),(11,(bD 1 (nb ρ10 7) (cL (C2.setIfInBounds (j*45+43) (.slice (oa ρ 8) (nI (gK (gT ts i).ks j).ps).length (nb ρ 8))) 69)))]) (fun ρ=>[(8,fun w=>Fi w0 w .u32 (oa ρ 8) (nb ρ 8) (nI (gK (gT ts i).ks j).ps))]) (fun ρ=>(fun w=>bM w a c ts∧TkN w0 w (M.take i)∧KjF w0 w (N.take j)∧Fi w0 w .u32 (oa ρ 8) (nb ρ 8) (nI (gK (gT ts i).ks j).ps)∧True)) (fun _=>True) (fun _ _ hF hf=>⟨⟨hF.1,hF.2.1,hF.2.2.1,hf 8,trivial⟩,trivial⟩) (jY 2<|cY (qS (fun _ w=>vP (g:=nb ρ2 1) (c:=aZ ρ2 1) (k:=.i64) underlying24 sizeOf60 (show ((i:Nat):Int)=((i:Nat):Int) from rfl) zh3 w))<|jY 1<|cY (kG _ 0 58 (fun _=>nb ρ2 1) (fun _=>i*36+35) (fun _=>(C.setIfInBounds (i*36+35) (vs (nb ρ10 7) (gT ts i).ks.length (aZ ρ10 7)))) 60 (0,0) (fun _=>(vs (nb ρ10 7) (gT ts i).ks.length (aZ ρ10 7))) (fun _=>by kernel_rfl) isAgg58 (fun _=>kT_gs hC zh3 (kT_s hC zh1 (gT ts i).ks (some ⟨nb ρ10 7,0,none⟩) (aZ ρ10 7) rfl hA)))<|cR [[],[],[2]]<|cX (qWJ [] (fun _ _ w hG hK=>cloneJ_any (gK (gT ts i).ks j).pa (gK (gT ts i).ks j).pc (gK (gT ts i).ks j).ps (hp8 _ (xAE zh3) _ (nU zh2)) w hK (hG.pK [] (fun _ _=>trivial)) ((hG.fn.1.sub _ (xAE zh3)).sub _ (nU zh2))))<|cY (qS (fun _ w=>vP (g:=nb ρ10 7) (c:=aZ ρ10 7) (k:=.i64) underlying58 sizeOf69 (show ((j:Nat):Int)=((j:Nat):Int) from rfl) zh2 w))<|jY 1<|cY (qG _ 1 67 (fun _=>nb ρ10 7) (fun _=>j*45+43) (fun _=>C2) (fun ρ=>(C2.setIfInBounds (j*45+43) (.slice (oa ρ 8) (nI (gK (gT ts i).ks j).ps).length (nb ρ 8)))) 69 (fun ρ=>(.slice (oa ρ 8) (nI (gK (gT ts i).ks j).ps).length (nb ρ 8))) (fun _=>by kernel_rfl) sizeOf67 (fun _=>rfl) (fun _=>kK_l hKc zh2 hA2) (fun _=>rfl))<|cN) (fun ρ14 _=>aJ (aA (rS f34 2 [0,2,3,9,10,27,28,29] [] (fun _=>[vn (j+1),vn (j+1)]) (fun _=>[]) (jW (fun ρ=>(((j:Nat):Int)+1)) (fun _=>(j+1)) (fun _=>(aW j 1 (oB hC.le hKc.le)))<|jX 1) (fun _=>mD [(0,(vs (nb ρ2 1) ts.length (aZ ρ2 1))),(2,vz),(3,(vn i)),(9,(vn ts.length)),(10,(vn i)),(27,(vs (nb ρ10 7) (gT ts i).ks.length (aZ ρ10 7))),(28,(vn (gT ts i).ks.length)),(29,(vn (j+1)))] [(nb ρ2 1,(cL (C.setIfInBounds (i*36+35) (vs (nb ρ10 7) (gT ts i).ks.length (aZ ρ10 7))) 60)),(nb ρ10 7,(cL (C2.setIfInBounds (j*45+43) (.slice (oa ρ14 8) (nI (gK (gT ts i).ks j).ps).length (nb ρ14 8))) 69))] ?_)))))))))
   exact mNF (j+1,C2.setIfInBounds (j*45+43) (.slice (oa ρ14 8) (nI (gK (gT ts i).ks j).ps).length (nb ρ14 8)),N.set j ((gK (gT ts i).ks j).wp (oa ρ14 8) (nb ρ14 8))) (by show (gT ts i).ks.length-(j+1)<(gT ts i).ks.length-j;have:=hC.le;have:=hKc.le;omega) (⟨hKc.next zh2,kK_s hKc zh2 (oa ρ14 8) (nb ρ14 8) rfl hA2⟩) (fun w hS=>hS.weaken (fun w hF=>⟨hF.1,hF.2.1,hF.2.2.1.next (hKc.lt zh2) hF.2.2.2.1,trivial⟩))
  rw [hb3]
  have:=yF hb3
  have zh4:i<ts.length:=(oB hC.le hKc.le)
  refine bF (aN (aN (aT (aJ (aA (rS f34 2 [0,2,9,10] [] (fun _=>[vn (i+1),vn (i+1)]) (fun _=>[]) (jW (fun ρ=>(((i:Nat):Int)+1)) (fun _=>(i+1)) (fun _=>(aW i 1 (oB hC.le hKc.le)))<|jX 1) (fun _=>mD [(0,(vs (nb ρ2 1) ts.length (aZ ρ2 1))),(2,vz),(9,(vn ts.length)),(10,(vn (i+1)))] [(nb ρ2 1,(cL (C.setIfInBounds (i*36+35) (vs (nb ρ10 7) (gT ts i).ks.length (aZ ρ10 7))) 60)),(nb ρ10 7,(cL C2 69))] ?_)))))))
  exact mNF (i+1,C.setIfInBounds (i*36+35) (vs (nb ρ10 7) (gT ts i).ks.length (aZ ρ10 7)),M.set i ((gT ts i).wk N (some ⟨nb ρ10 7,0,none⟩) (aZ ρ10 7))) (by show ts.length-(i+1)<ts.length-i;have:=hC.le;have:=hKc.le;omega) (⟨hC.next zh4 hKc.er,kT_re hKc.len (kT_s hC zh1 (gT ts i).ks (some ⟨nb ρ10 7,0,none⟩) (aZ ρ10 7) rfl hA)⟩) (fun w hS=>(hS.frozKN (e:=69) (fr:=(0,0)) 1 hA2 (Nat.le_trans (by rw [hKc.len];exact hk8 _ (xAE zh4)) (by decide)) (okK_er hKc.er (fun p hp=>(ho _ (xAE zh4)).2 p hp)) (fun w hF=>by have h:=hF.2.2.1;rw [hKc.done (show (gT ts i).ks.length≤j from (oB hC.le hKc.le))] at h;exact h) (hS.newb (.tail _ (.head _))).1 []).weaken (fun w hF=>⟨hF.2.1,hF.2.2.1.next (hC.lt zh4) hF.1,trivial⟩))
 rw [hb1]
 have zh5:ts.length≤i:=(oB (yF hb1) hC.le)
 refine bF (aN (aN (aT (aA (jJ f34 2 [2] (let qa:=vs (nb ρ2 1) ts.length (aZ ρ2 1);[qa,qa]) (aF (mD [(2,(vs (nb ρ2 1) ts.length (aZ ρ2 1)))] [(nb ρ2 1,(cL C 60))] ?_)))))))
 exact mR (v:=(vs (nb ρ2 1) ts.length (aZ ρ2 1))) (fun _ hS=>⟨hS.bel,{ n:=[aZ ρ2 1],a:=some ⟨nb ρ2 1,0,none⟩,t:=M},congrArg (fun z=>Ending.returned (.slice _ z _)) hC.len.symm,TkN.nw (w:=_) (by have h:=hS.facts.now.2.1;rw [hC.done zh5] at h;exact h) (hS.newb (.head _)).1,termsN hT (hS.newb (.head _)) hA (by have h:=hS.facts.now.2.1;rw [hC.done zh5] at h;exact h) (by rw [hC.len];omega) hC.er ho⟩)
theorem bequal_any (a:OA) (c:Nat) (B:LU) (a2:OA) (c2:Nat) (S:LU) (w0:World) (hf0:Bs w0 a c B) (hf1:Bs w0 a2 c2 S):Calls prog 45 #[.slice a B.length c,.slice a2 S.length c2] w0 (jR (.bool (decide (B=S))) w0):=by
 refine Calls.cW 10 (fun w=>Bs w a c B∧Bs w a2 c2 S∧True) func45 rfl rfl rfl (hf0.pers0.and (hf1.pers0.and cO)) (jJ f45 1 [0,1,4] [vF] (sS f45 6 [4] [] (fun _=>[.slice a B.length c,.string (gY B),.slice a2 S.length c2,.string (gY S),.bool (decide (B=S)),.bool (decide (B=S))]) (fun _=>[]) (jY 1<|cX (jF (fun _=>convert 37 9 (.slice a B.length c)) (fun _=>(.string (gY B))) (fun _ _ _ hG=>xAX (xs:=B) underlying37 underlying5 underlying9 hG.fn.1 rfl) (fun _ _ _ _=>cO))<|jY 1<|cX (jF (fun _=>convert 37 9 (.slice a2 S.length c2)) (fun _=>(.string (gY S))) (fun _ _ _ hG=>xAX (xs:=S) underlying37 underlying5 underlying9 hG.fn.2.1 rfl) (fun _ _ _ _=>cO))<|cB .eql 9 (fun _ w=>eql_str B S w)<|jX 1) (fun _=>aF ?_)))
 exact mR (v:=(.bool (decide (B=S)))) (fun _ hS=>⟨rfl,hS.bel⟩)
theorem xBB (a:OA) (c:Nat) (B:LU) (w0:World) (hf0:Bs w0 a c B):Calls prog 42 #[.slice a B.length c] w0 (fun ε w'=>∃ α κ,ε=.returned (.slice α B.length κ)∧jG w0 w'∧Fs w0 w' α κ B):=by
 refine Calls.cW 8 (fun w=>Bs w a c B∧True) func42 rfl rfl rfl (hf0.pers0.and cO) (jJ f42 1 [0,2] [vz] (aB (sS f42 2 [0,2,4] [] (fun _=>[.slice a B.length c,.bool a.isNone]) (fun _=>[]) (jY 1<|cB .eql 37 (fun _ w=>eql_nil8 a B.length c w)<|cN) (fun _=>oC a.isNone (fun hb1=>?_) (fun hb1=>?_)))))
 ·rw [hb1]
  refine jJ f42 1 [0,2] [vz] (aF (aC (mD [(0,(.slice a B.length c)),(2,vz)] [] ?_)))
  exact mR (v:=vz) (fun _ hS=>⟨none,0,congrArg Ending.returned (by rw [Bs.isn hf0 hb1]<;>rfl),hS.bel,dU (Bs.isn hf0 hb1).symm Fs.nil⟩)
 rw [hb1]
 refine aG (aA (iZ f42 4 [2] [] (fun ρ=>let qa:=vs (nb ρ 2) (([]:LU)++B).length (aZ ρ 2);[vs (nb ρ 0) ([]:LU).length 0,.slice a B.length c,qa,qa]) (fun ρ=>[(0,(nw ρ 0 (cL #[] 5))),(2,(bD 0 (nb ρ 2) (cL (oc ρ 2) 5)))]) (fun ρ=>[(2,fun w=>Ap (oc ρ 2) (([]:LU)++B) (aZ ρ 2))]) (fun _=>(fun w=>Bs w a c B∧True)) (fun ρ=>Ap (oc ρ 2) (([]:LU)++B) (aZ ρ 2)) (fun _ _ hF hf=>⟨hF,hf 2⟩) (jY 2<|cX (qM 0 (fun ρ _ _ hG hg=>app_any (ty:=37) (g:=nb ρ 0) (C:= #[]) (c:=0) (xs:=([]:LU)) underlying37 nH (Ap.mk' (rfl:Hd #[] ([]:LU)) (Nat.le_refl 0) (Nat.le_of_ble_eq_true rfl) rfl) (Bs.src (tx:=37) underlying37 hG.fn.1) (by rw [List.length_nil,Nat.zero_add];exact hf0.max) hg))<|jX 1) (fun ρ4 ap4_2=>aF (mD [(2,(vs (nb ρ4 2) (([]:LU)++B).length (aZ ρ4 2)))] [(nb ρ4 2,(cL (oc ρ4 2) 5))] ?_))))
 exact mR (v:=(vs (nb ρ4 2) (([]:LU)++B).length (aZ ρ4 2))) (fun _ hS=>⟨some ⟨nb ρ4 2,0,none⟩,aZ ρ4 2,congrArg Ending.returned (rfl),hS.bel,dU (rfl) (hS.fresh (.head _) ap4_2.hd ap4_2.le ap4_2.max)⟩)
theorem wfind1_any (a:OA) (c:Nat) (B:LU) (a2:OA) (c2:Nat) (S:LU) (g:Nat) (w0:World) (hf0:Bs w0 a c B) (hf1:Bs w0 a2 c2 S) (hf2:Kb w0 g #[.slice a2 S.length c2]):Calls prog 44 #[.slice a B.length c,pt g] w0 (jR (.bool (decide (B=S))) w0):=by
 refine Calls.cW 7 (fun w=>Bs w a c B∧Bs w a2 c2 S∧Kb w g #[.slice a2 S.length c2]∧True) func44 rfl rfl rfl (hf0.pers0.and (hf1.pers0.and (hf2.pers0.and cO))) (jJ f44 1 [0,1,3] [vF] (sS f44 4 [3] [] (fun _=>[.slice a B.length c,.slice a2 S.length c2,.bool (decide (B=S)),.bool (decide (B=S))]) (fun _=>[]) (jY 1<|cX (qF (v:=fun ρ=>(.slice a2 S.length c2)) (fun _ _ _ hG=>mY (off:=0) isAgg37 hG.fn.2.2.1 (rfl)))<|cX (qC (fun _ _ w hG=>bequal_any a c B a2 c2 S w hG.fn.1 hG.fn.2.1))<|jX 1) (fun _=>aF ?_)))
 exact mR (v:=(.bool (decide (B=S)))) (fun _ hS=>⟨rfl,hS.bel⟩)
theorem windex_any (a:OA) (c:Nat) (l:List bU) (a2:OA) (c2:Nat) (S:LU) (g:Nat) (w0:World) (hf0:bI w0 a c l) (hf1:Bs w0 a2 c2 S) (hf2:Kb w0 g #[.slice a2 S.length c2]):Calls prog 43 #[.slice a l.length c,.func (.func 44) #[] #[pt g]] w0 (jR (vi (ixB S (sB l) 0)) w0):=by
 refine Calls.cW 19 (fun w=>bI w a c l∧Bs w a2 c2 S∧Kb w g #[.slice a2 S.length c2]∧True) func43 rfl rfl rfl (hf0.pers0.and (hf1.pers0.and (hf2.pers0.and cO))) ?_
 have hlen:l.length≤140737488351232:=hf0.max
 refine jJ f43 1 [0,1,4] [vi 0] (aB (jJ f43 3 [0,1,4,7,8] [.slice a l.length c,vn l.length,vi 0] (aI ?_)))
 refine oL (σ:=Nat) (fun i=>[(0,(.slice a l.length c)),(1,(.func (.func 44) #[] #[pt g])),(7,(vn l.length)),(8,(vn i))]) (fun _=>[]) (fun i=>l.length-i)
  (fun i=>(i≤l.length)∧(ixB S ((sB l).drop i) i=ixB S (sB l) 0)) 0 (⟨Nat.zero_le _,rfl⟩) [] ?_
 rintro i ⟨hi,hr⟩
 refine jJ f43 1 [0,1,7,8,9] [.bool (decide (((i:Nat):Int)<((l.length:Nat):Int)))] (aB (oC (decide (((i:Nat):Int)<((l.length:Nat):Int))) (fun hb1=>?_) (fun hb1=>?_)))
 ·rw [hb1]
  have:=yT hb1
  have zh1:i<l.length:=om
  refine aG (aA (aB (aI (jJ f43 2 [0,1,5,7,8] [vn i,vn i] (sS f43 6 [0,1,5,7,8,16] [] (fun _=>[.func (.func 44) #[] #[pt g],.slice a l.length c,vn i,.pointer (fK a i),.slice (gS l i).a (gS l i).b.length (gS l i).c,.bool (decide ((gS l i).b=S))]) (fun _=>[]) (jY 3<|cX (qF (fun _ _ _ hG=>bI.idx (k:=.i64) underlying29 sizeOf37 hG.fn.1 rfl (show ((i:Nat):Int)=((i:Nat):Int) from rfl) zh1))<|cX (qF (fun _ _ _ hG=>bI.ld isAgg37 hG.fn.1 zh1))<|cX (qC (fun _ _ w hG=>wfind1_any (gS l i).a (gS l i).c (gS l i).b a2 c2 S g w (hG.fn.1.sub _ (oH zh1)) hG.fn.2.1 hG.fn.2.2.1))<|cN) (fun _=>oC (decide ((gS l i).b=S)) (fun hb2=>?_) (fun hb2=>?_)))))))
  ·rw [hb2]
   refine jJ f43 2 [0,1,4,7,8] [vn i,vn i] (aF (aP (aC (aC (aP (aC ?_))))))
   exact mR (v:=(vn i)) (fun _ hS=>⟨congrArg (fun x=>Ending.returned (vi x)) (ixB_stop (oA (yT hb2)) hb2 hr),hS.bel⟩)
  rw [hb2]
  have:=yF hb2
  refine aG (aJ (aA (rS f43 2 [0,1,7,8] [] (fun _=>[vn (i+1),vn (i+1)]) (fun _=>[]) (jW (fun ρ=>(((i:Nat):Int)+1)) (fun _=>(i+1)) (fun _=>(aW i 1 om))<|jX 1) (fun _=>?_))))
  exact mN (i+1) (by show l.length-(i+1)<l.length-i;omega) (⟨om,ixB_next om hb2 hr⟩) []
 rw [hb1]
 refine bF (aN (aN (aT (aA (jJ f43 1 [4] [vi (-1)] (aF ?_))))))
 exact mR (v:=(vi (-1))) (fun _ hS=>⟨congrArg (fun x=>Ending.returned (vi x)) (ixB_end (oA (yF hb1)) hr),hS.bel⟩)
theorem xAG (x0:Value) (x1:Int) (x2:Int) (a:OA) (c:Nat) (l:List bU) (a2:OA) (c2:Nat) (S:LU) (w0:World) (hf0:bI w0 a c l) (hf1:Bs w0 a2 c2 S):Calls prog 21 #[.agg #[x0,vi x1,vi x2,.slice a l.length c],.slice a2 S.length c2] w0 (jR (vi (ixB S (sB l) 0)) w0):=by
 refine Calls.cW 9 (fun w=>bI w a c l∧Bs w a2 c2 S∧True) func21 rfl rfl rfl (hf0.pers0.and (hf1.pers0.and cO)) (sS f21 3 [2,3,4] [] (fun ρ=>[pt (nb ρ 0),pt (nb ρ 1),vi 0]) (fun ρ=>[(0,(nw ρ 0 (cL #[x0,vi x1,vi x2,.slice a l.length c] 31))),(1,(nw ρ 1 (cL #[.slice a2 S.length c2] 37)))]) (jX 3) (fun ρ1=>sS f21 5 [4] [0,0] (fun _=>[jp (nb ρ1 0) 3,.slice a l.length c,.func (.func 44) #[] #[pt (nb ρ1 1)],vi (ixB S (sB l) 0),vi (ixB S (sB l) 0)]) (fun _=>[]) (cR [[],[0],[]]<|cX (qC (fun _ _ w hG=>windex_any a c l a2 c2 S (nb ρ1 1) w hG.fn.1 hG.fn.2.1 (Kb.of_block (hG.kn (g:=nb ρ1 1) (o:=(cL #[.slice a2 S.length c2] 37)) 1))))<|jX 1) (fun _=>aF ?_)))
 exact mR (v:=(vi (ixB S (sB l) 0))) (fun _ hS=>⟨rfl,hS.bel⟩)
theorem eX {s:Mk} (h:s.can=true):0<s.ts.length:=by
 unfold Mk.can at h
 simp only [Bool.and_eq_true,decide_eq_true_eq] at h
 exact h.1
theorem vV {s:Mk} (h:s.can=true):o7 s.fst.kd s.fst.m s.fst.nu s.fst.h s.fst.ks.length:=by
 unfold Mk.can at h
 simp only [Bool.and_eq_true] at h
 exact (xAT _ _ _ _ _).1 h.2.1
theorem fE {s:Mk} (h:s.can=true):s.fst.ks.length≤s.ns.length:=by
 unfold Mk.can at h
 simp only [Bool.and_eq_true,decide_eq_true_eq] at h
 exact h.2.2
theorem gU_take {ns:List Nat} {n:Nat} (h:0<n):gU (ns.take n) 0=ns.getD 0 0:=by
 cases ns with
 | nil=>simp [gU]
 | cons x r => cases n with
   | zero=>omega
   | succ n=>rfl
theorem bM.go {w:World} {s:Mk} (hc:s.can=true) (h:bM w s.ta s.tc s.ts):bM w s.go.ta s.go.tc s.go.ts:=h.tail (eX hc)
theorem Us.go {w:World} {s:Mk} (hc:s.can=true) (h:Us w s.ka s.kc s.ns):Us w s.go.ka s.go.kc s.go.ns:=h.drop (fE hc)
structure Left (s s':Mk):Prop where
 t:∀ w,bM w s.ta s.tc s.ts→bM w s'.ta s'.tc s'.ts
 u:∀ w,Us w s.ka s.kc s.ns→Us w s'.ka s'.kc s'.ns
 m:∀ x∈s'.ts,x∈s.ts
theorem Left.go {s:Mk} (hc:s.can=true):Left s s.go:=⟨fun _=>bM.go hc,fun _=>Us.go hc,fun _ hx=>List.mem_of_mem_tail hx⟩
theorem Left.trans {a b c:Mk} (h:Left a b) (k:Left b c):Left a c:=⟨fun w x=>k.t w (h.t w x),fun w x=>k.u w (h.u w x),fun x hx=>h.m x (k.m x hx)⟩
theorem nx_left : ∀ (f : Nat) (s : Mk) (b : LU) (s' : Mk), nx f s = some (b, s') → Left s s'
 | 0,_,_,_,h=>by simp [nx] at h
 | f + 1, s, b, s', h => by
   unfold nx at h
   split at h
   ·exact absurd h (by simp)
   rename_i hc
   have hg:=Left.go (s:=s) (by simpa using hc)
   split at h
   ·simp only [Option.some.injEq,Prod.mk.injEq] at h;rw [← h.2];exact hg
   split at h
   ·simp only [Option.some.injEq,Prod.mk.injEq] at h;rw [← h.2];exact hg
   split at h
   ·exact absurd h (by simp)
   rename_i a s1 e1
   have h1:=hg.trans (nx_left f _ _ _ e1)
   split at h
   ·simp only [Option.some.injEq,Prod.mk.injEq] at h;rw [← h.2];exact h1
   split at h
   ·simp only [Option.some.injEq,Prod.mk.injEq] at h;rw [← h.2];exact h1
   split at h
   ·simp only [Option.some.injEq,Prod.mk.injEq] at h;rw [← h.2];exact h1
   split at h
   ·split at h
    ·exact absurd h (by simp)
    ·rename_i b2 s2 e2
     simp only [Option.some.injEq,Prod.mk.injEq] at h;rw [← h.2];exact h1.trans (nx_left f _ _ _ e2)
   ·exact absurd h (by simp)
def nxS (s:Mk):Mk:=((nx 8 s).map (·.2)).getD s
theorem nxS_eq {s:Mk} {b:LU} (h:∃ s',nx 8 s=some (b,s')):nx 8 s=some (b,nxS s):=by
 obtain ⟨s',h⟩:=h
 unfold nxS
 rw [h];rfl
section
variable {ts:List bW} {z:Int}
theorem ex_err (h:(kZ ts z != 0)=true):pX ts z=kZ ts z∧wG ts z=[]:=by
 have e:pX ts z=kZ ts z:=by unfold pX;rw [if_neg (iK h)]
 exact ⟨e,by unfold wG;rw [e,if_neg (iK h)]⟩
theorem wQ (h0:(kZ ts z != 0)=false) (h:decide (520<(((xP ts z).length:Nat):Int))=true):pX ts z=4∧wG ts z=[]:=by
 have:=of_decide_eq_true h
 have e:pX ts z=4:=by unfold pX;rw [if_pos (dD h0),if_pos om]
 exact ⟨e,by unfold wG;rw [e];rfl⟩
theorem ex_ok (h0:(kZ ts z != 0)=false) (h:decide (520<(((xP ts z).length:Nat):Int))=false):pX ts z=0∧wG ts z=xP ts z:=by
 have:=of_decide_eq_false h
 have e:pX ts z=0:=by unfold pX;rw [if_pos (dD h0),if_neg om]
 exact ⟨e,by unfold wG;rw [if_pos e]⟩
end
end Go.Proofs.YtahoheofpggopaaGreatDoor
