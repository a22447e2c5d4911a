/-
  What this statement needs, part 5: the texts of it, one behind the other.
-/
import Derived.Test.YtahoheofpggopaaGreatDoorBase4
set_option maxRecDepth 100000
namespace Go.Proofs.YtahoheofpggopaaGreatDoor
open Go Go.RowKit
theorem dkeys_any (a:Option Addr) (c:Nat) (ts:List bW) (z:Int) (w0:World) (hf0:bM w0 a c ts) (hf1:kJ w0) (hf2:fU w0):Calls Tryz.prog 79 #[.slice a ts.length c,vi z] w0 (fun ε w'=>∃ α κ,ε=.returned (.tuple #[.slice α (gV ts z).length κ,.int .i64 (kZ ts z)])∧jG w0 w'∧dL (fun b=>b<w0.heap.size) (fun w=>Us w α κ (gV ts z)) w'):=by
 refine Calls.of_ok (n:=64) (F:=(fun w=>bM w a c ts∧kJ w∧fU w∧True)) Tryz.func79 rfl rfl rfl (by simp) (hf0.pers0.and (hf1.pers0.and (hf2.pers0.and cO))) ?_
 have hlen:ts.length≤1000000:=hf0.max
 have ho:mP ts:=hf0.oks
 refine jJ Tryz.f79 2 [0,1,4,5] [vz,vi 0] (aB ?_)
 refine sS Tryz.f79 3 [0,1,4,5,16] [] (fun _=>[.slice a ts.length c,.bool (xW ts),.bool (!(xW ts))]) (fun _=>[]) (cR [[]]<|cX (qC (fun _ _ w hG=>dvalid_any a c ts w hG.fn.1))<|jE [[]]) (fun _=>?_)
 refine oC (!(xW ts)) (fun hb1=>?_) (fun hb1=>?_)
 ·
  rw [hb1]
  refine jJ Tryz.f79 2 [0,1,4,5] [vz,vi 260] (aF (aC (mD [(0,(.slice a ts.length c)),(1,(vi z)),(4,vz),(5,(vi 260))] [] ?_)))
  exact mR (v:=(.tuple #[vz,vi 260])) (fun _ hS=>(by rw [(ky_bad (z:=z) (dF hb1)).1,(ky_bad (z:=z) (dF hb1)).2];exact ⟨none,0,rfl,hS.bel,dB (fun _=>Us.nil)⟩))
 rw [hb1]
 refine aG (aA (aB ?_))
 rcases Bool.eq_false_or_eq_true (decide (z<0)) with hb2 | hb2
 ·
  refine sS Tryz.f79 6 [0,1,4,5,22] [] (fun _=>[vi z,vT,vT,undef,undef,vT]) (fun _=>[]) (cR [[]]<|cA (fun _=>vT) (fun _=>congrArg Value.bool hb2)<|jE [[],[],[],[]]) (fun _=>?_)
  refine oY ?_
  refine jJ Tryz.f79 2 [0,1,4,5] [vz,vi 5] (aF (aC (mD [(0,(.slice a ts.length c)),(1,(vi z)),(4,vz),(5,(vi 5))] [] ?_)))
  exact mR (v:=(.tuple #[vz,vi 5])) (fun _ hS=>(by rw [(vC (aV hb1) (by have:=yT hb2;omega)).1,(vC (aV hb1) (by have:=yT hb2;omega)).2];exact ⟨none,0,rfl,hS.bel,dB (fun _=>Us.nil)⟩))
 refine sS Tryz.f79 6 [0,1,4,5,22] [] (fun _=>let qa:Value:=.bool (decide (1000≤z));[vi z,vF,vF,vi z,qa,qa]) (fun _=>[]) (cR [[]]<|cA (fun _=>vF) (fun _=>congrArg Value.bool hb2)<|jE [[],[],[],[]]) (fun _=>?_)
 refine oC (decide (1000≤z)) (fun hb3=>?_) (fun hb3=>?_)
 ·
  rw [hb3]
  refine jJ Tryz.f79 2 [0,1,4,5] [vz,vi 5] (aF (aC (mD [(0,(.slice a ts.length c)),(1,(vi z)),(4,vz),(5,(vi 5))] [] ?_)))
  exact mR (v:=(.tuple #[vz,vi 5])) (fun _ hS=>(by rw [(vC (aV hb1) (by have:=yF hb2;have:=yT hb3;omega)).1,(vC (aV hb1) (by have:=yF hb2;have:=yT hb3;omega)).2];exact ⟨none,0,rfl,hS.bel,dB (fun _=>Us.nil)⟩))
 rw [hb3]
 have:=yF hb3
 refine aG (aA (jJ Tryz.f79 1 [0,1,4,5,6] [vz] (aB (jJ Tryz.f79 3 [1,4,5,6,23,24,25] [.slice a ts.length c,vn ts.length,vi 0] (aI ?_)))))
 refine oL (σ:=Nat ⊕ (Nat × Nat × (List Nat) × (Array Value) × Nat)) (fun s=>match s with | Sum.inl i=>[(1,(vi z)),(6,vz),(23,(.slice a ts.length c)),(24,(vn ts.length)),(25,(vn i))] | Sum.inr ⟨i,q,N,_,κ⟩=>[(1,(vi z)),(6,(vs q N.length κ)),(23,(.slice a ts.length c)),(24,(vn ts.length)),(25,(vn i))]) (fun s=>match s with | Sum.inl _=>[] | Sum.inr ⟨_,q,_,C,_⟩=>[(q,(cL C 64))]) (fun s=>match s with | Sum.inl i=>ts.length-i | Sum.inr ⟨i,_,_,_,_⟩=>ts.length-i)
   (fun s=>match s with | Sum.inl i=>(i≤ts.length)∧(([]:List Nat)++xE z.toNat (aK (ts.drop i))=xE z.toNat (aK ts))∧(uU z.toNat (aK (ts.drop i))=uU z.toNat (aK ts))∧True | Sum.inr ⟨i,_,N,C,κ⟩=>(i≤ts.length)∧(N++xE z.toNat (aK (ts.drop i))=xE z.toNat (aK ts))∧(uU z.toNat (aK (ts.drop i))=uU z.toNat (aK ts))∧(kU.A C N κ)∧(∀ n∈N,n<M)) (Sum.inl 0) (⟨Nat.zero_le _,rfl,rfl,trivial⟩) [] ?_
 rintro (i | ⟨i,q,N,C,κ⟩)
 ·
  rintro ⟨hi,hN0,hE0,hnil0⟩
  change Ok Tryz.prog _ _ 64 [(1,(vi z)),(6,vz),(23,(.slice a ts.length c)),(24,(vn ts.length)),(25,(vn i))] _ [] (fun w=>bM w a c ts∧kJ w∧fU w∧True)
  refine jJ Tryz.f79 1 [1,6,23,24,25,26] [.bool (decide (((i:Nat):Int)<((ts.length:Nat):Int)))] (aB ?_)
  refine oC (decide (((i:Nat):Int)<((ts.length:Nat):Int))) (fun hb4=>?_) (fun hb4=>?_)
  ·
   rw [hb4]
   have:=yT hb4
   have:=ho.klen hf0 i
   refine aG (aA (aB (aI ?_)))
   refine sS Tryz.f79 4 [1,6,8,23,24,25] [] (fun ρ=>[.pointer (fK a (i*36)),.agg (bW.row (gT ts i)),pt (nb ρ 2),undef]) (fun ρ=>[(2,(nw ρ 2 (cL (iC 0 0 0 0 vz) 60))),(3,(bD 16 (nb ρ 2) (cL (bW.row (gT ts i)) 60)))]) (cX (qF (fun _ _ _ hG=>bM.idx (k:=.i64) Tryz.underlying24 Tryz.sizeOf60 hG.fn.1 rfl (show ((i:Nat):Int)=((i:Nat):Int) from rfl) (show i<ts.length from (by have:=yF hb2;omega))))<|cX (qF (fun _ _ _ hG=>bM.ldA (i:=i) Tryz.isAgg60 Tryz.sizeOf60 hG.fn.1 (show i<ts.length from (by have:=yF hb2;omega))))<|jE [[],[16]]) (fun ρ11=>?_)
   refine jM Tryz.f79 4 [1,6,23,24,25,30,31,32] [0] [jp (nb ρ11 2) 35,.slice (gT ts i).ka (gT ts i).ks.length (gT ts i).kc,vn (gT ts i).ks.length,vi 0] [[],[0],[],[]] (aI ?_)
   refine oL (σ:=Nat ⊕ (Nat × Nat × (List Nat) × (Array Value) × Nat)) (fun s=>match s with | Sum.inl j=>[(1,(vi z)),(6,vz),(23,(.slice a ts.length c)),(24,(vn ts.length)),(25,(vn i)),(30,(.slice (gT ts i).ka (gT ts i).ks.length (gT ts i).kc)),(31,(vn (gT ts i).ks.length)),(32,(vn j))] | Sum.inr ⟨j,q,N,_,κ⟩=>[(1,(vi z)),(6,(vs q N.length κ)),(23,(.slice a ts.length c)),(24,(vn ts.length)),(25,(vn i)),(30,(.slice (gT ts i).ka (gT ts i).ks.length (gT ts i).kc)),(31,(vn (gT ts i).ks.length)),(32,(vn j))]) (fun s=>match s with | Sum.inl _=>[] | Sum.inr ⟨_,q,_,C,_⟩=>[(q,(cL C 64))]) (fun s=>match s with | Sum.inl j=>(gT ts i).ks.length-j | Sum.inr ⟨j,_,_,_,_⟩=>(gT ts i).ks.length-j)
     (fun s=>match s with | Sum.inl j=>(j≤(gT ts i).ks.length)∧(([]:List Nat)++xE z.toNat ((gT ts i).ks.drop j++aK (ts.drop (i+1)))=xE z.toNat (aK ts))∧(uU z.toNat ((gT ts i).ks.drop j++aK (ts.drop (i+1)))=uU z.toNat (aK ts))∧True | Sum.inr ⟨j,_,N,C,κ⟩=>(j≤(gT ts i).ks.length)∧(N++xE z.toNat ((gT ts i).ks.drop j++aK (ts.drop (i+1)))=xE z.toNat (aK ts))∧(uU z.toNat ((gT ts i).ks.drop j++aK (ts.drop (i+1)))=uU z.toNat (aK ts))∧(kU.A C N κ)∧(∀ n∈N,n<M)) (Sum.inl 0) (⟨Nat.zero_le _,kn_in (show i<ts.length from (by have:=yF hb2;omega)) hN0,ke_in (show i<ts.length from (by have:=yF hb2;omega)) hE0,trivial⟩) [] ?_
   rintro (j | ⟨j,q,N,C,κ⟩)
   ·
    rintro ⟨hj,hN,hE,hnil⟩
    change Ok Tryz.prog _ _ 64 [(1,(vi z)),(6,vz),(23,(.slice a ts.length c)),(24,(vn ts.length)),(25,(vn i)),(30,(.slice (gT ts i).ka (gT ts i).ks.length (gT ts i).kc)),(31,(vn (gT ts i).ks.length)),(32,(vn j))] _ [] (fun w=>bM w a c ts∧kJ w∧fU w∧True)
    refine jJ Tryz.f79 1 [1,6,23,24,25,30,31,32,33] [.bool (decide (((j:Nat):Int)<(((gT ts i).ks.length:Nat):Int)))] (aB ?_)
    refine oC (decide (((j:Nat):Int)<(((gT ts i).ks.length:Nat):Int))) (fun hb5=>?_) (fun hb5=>?_)
    ·
     rw [hb5]
     have:=yT hb5
     refine aG (aA (aB (aI ?_)))
     refine sS Tryz.f79 4 [1,6,10,23,24,25,30,31,32] [] (fun ρ=>[.pointer (fK (gT ts i).ka (j*45)),.agg (dO.row (gK (gT ts i).ks j)),pt (nb ρ 2),undef]) (fun ρ=>[(2,(nw ρ 2 (cL (kM 0 0 0 0 0 0 vz vF) 69))),(3,(bD 16 (nb ρ 2) (cL (dO.row (gK (gT ts i).ks j)) 69)))]) (cX (qF (fun _ _ _ hG=>oG.idx (k:=.i64) Tryz.underlying58 Tryz.sizeOf69 (hG.fn.1.sub _ (fA (show i<ts.length from (by have:=yF hb2;omega)))) rfl (show ((j:Nat):Int)=((j:Nat):Int) from rfl) (show j<(gT ts i).ks.length from (by have:=yF hb2;omega))))<|cX (qF (fun _ _ _ hG=>oG.ldA (i:=j) Tryz.isAgg69 Tryz.sizeOf69 (hG.fn.1.sub _ (fA (show i<ts.length from (by have:=yF hb2;omega)))) (show j<(gT ts i).ks.length from (by have:=yF hb2;omega))))<|jE [[],[16]]) (fun ρ14=>?_)
     refine okJ2 (σ:=(Option Addr) × Nat × (List Nat)) (fun ⟨pa,pc,pq⟩=>[(1,(vi z)),(6,vz),(10,(pt (nb ρ14 2))),(11,(.slice pa (nI pq).length pc)),(23,(.slice a ts.length c)),(24,(vn ts.length)),(25,(vn i)),(30,(.slice (gT ts i).ka (gT ts i).ks.length (gT ts i).kc)),(31,(vn (gT ts i).ks.length)),(32,(vn j))]) (fun ⟨_,_,_⟩=>[(nb ρ14 2,(cL (dO.row (gK (gT ts i).ks j)) 69))]) (fun ⟨pa,pc,pq⟩=>(fun w=>bM w a c ts∧kJ w∧fU w∧Is w .u32 pa pc (nI pq)∧True)) (fun ⟨_,_,pq⟩=>((gK (gT ts i).ks j).ix z.toNat=pq)∧(∀ x∈pq,x<4294967296)) ?_ ?_
     ·
      rintro ⟨pa,pc,pq⟩ ⟨hq,hq32⟩
      change Ok Tryz.prog _ _ 64 [(1,(vi z)),(6,vz),(10,(pt (nb ρ14 2))),(11,(.slice pa (nI pq).length pc)),(23,(.slice a ts.length c)),(24,(vn ts.length)),(25,(vn i)),(30,(.slice (gT ts i).ka (gT ts i).ks.length (gT ts i).kc)),(31,(vn (gT ts i).ks.length)),(32,(vn j))] _ [(nb ρ14 2,(cL (dO.row (gK (gT ts i).ks j)) 69))] (fun w=>bM w a c ts∧kJ w∧fU w∧Is w .u32 pa pc (nI pq)∧True)
      refine sS Tryz.f79 10 [1,6,12,13,23,24,25,30,31,32] [0,1] (fun ρ=>let qa:=vi (nM (gK (gT ts i).ks j).k pq);let qb:Value:=.agg (kY (iQ (gK (gT ts i).ks j).k pq));[pt (nb ρ14 2),.agg (kY (gK (gT ts i).ks j).k),.slice pa (nI pq).length pc,.tuple #[qb,qa],.tuple #[qb,qa],qb,qa,pt (nb ρ 7),undef,qa]) (fun ρ=>[(7,(nw ρ 7 (cL (kC 0 0 0 0 0 0) 66))),(8,(bD 57 (nb ρ 7) (cL (kY (iQ (gK (gT ts i).ks j).k pq)) 66)))]) (cR [[],[0],[]]<|cX (qC (fun _ _ w hG=>yH (gK (gT ts i).ks j).k pa pc pq (ho.gK i j).k hq32 w hG.fn.2.2.2.1 hG.fn.2.1 hG.fn.2.2.1))<|jE [[],[],[],[],[57],[]]) (fun ρ15=>?_)
      refine aB (jJ Tryz.f79 2 [1,6,12,13,23,24,25,30,31,32,54] [vi (nM (gK (gT ts i).ks j).k pq),.bool ((nM (gK (gT ts i).ks j).k pq) != 0)] ?_)
      refine oC ((nM (gK (gT ts i).ks j).k pq) != 0) (fun hb6=>?_) (fun hb6=>?_)
      ·
       rw [hb6]
       refine jJ Tryz.f79 3 [1,4,5,6,12,23,24,25,30,31,32] (let qa:=vi (nM (gK (gT ts i).ks j).k pq);[qa,vz,qa]) (aF (aC (aP (aC (aC (aP (aP (aC (aC (aP (aC (mD [(1,(vi z)),(4,vz),(5,(vi (nM (gK (gT ts i).ks j).k pq))),(6,vz),(12,(pt (nb ρ15 7))),(23,(.slice a ts.length c)),(24,(vn ts.length)),(25,(vn i)),(30,(.slice (gT ts i).ka (gT ts i).ks.length (gT ts i).kc)),(31,(vn (gT ts i).ks.length)),(32,(vn j))] [(nb ρ15 7,(cL (kY (iQ (gK (gT ts i).ks j).k pq)) 66))] ?_))))))))))))
       exact mR (v:=(.tuple #[vz,vi (nM (gK (gT ts i).ks j).k pq)])) (fun _ hS=>(by rw [(pI (aV hb1) hb2 hb3 (l7 (show j<(gT ts i).ks.length from (by have:=yF hb2;omega)) hq hb6 hE) hb6).1,(pI (aV hb1) hb2 hb3 (l7 (show j<(gT ts i).ks.length from (by have:=yF hb2;omega)) hq hb6 hE) hb6).2];exact ⟨none,0,rfl,hS.bel,dB (fun _=>Us.nil)⟩))
      rw [hb6]
      refine aG (aA ?_)
      refine rS Tryz.f79 6 [1,6,23,24,25,30,31,32] [0,0,1] (fun ρ=>let qa:=vs (nb ρ 4) ([(iQ (gK (gT ts i).ks j).k pq).p]).length (([(iQ (gK (gT ts i).ks j).k pq).p]).length+aZ ρ 4);[vz,jp (nb ρ15 7) 4,U (iQ (gK (gT ts i).ks j).k pq).p,vs (nb ρ 3) 1 1,qa,qa]) (fun ρ=>[(3,(nw ρ 3 (cL (cU (iQ (gK (gT ts i).ks j).k pq).p) 64))),(4,(nw ρ 4 (cL ((kU.r ([(iQ (gK (gT ts i).ks j).k pq).p])).toArray++Builtin.zeroCells (Value.cells (U 0)) (aZ ρ 4)) 64)))]) (cR [[],[],[0],[]]<|cX (qN (fun _ ζ=>(vs (ζ.headD 0) ([(iQ (gK (gT ts i).ks j).k pq).p]).length (([(iQ (gK (gT ts i).ks j).k pq).p]).length+ζ.tail.headD 0))) (fun _ ζ=>(cL ((kU.r ([(iQ (gK (gT ts i).ks j).k pq).p])).toArray++Builtin.zeroCells (Value.cells (U 0)) (ζ.tail.headD 0)) 64)) (fun ρ _ _ hG=>xAP (K:=kU) (ty:=80) (us:=[(iQ (gK (gT ts i).ks j).k pq).p]) Tryz.underlying80 (dA (sz:=4) (b:=32) (z:=(U 0)) (by kernel_rfl) rfl) (src_u1 Tryz.underlying80 (hG.kn (g:=nb ρ 3) (o:=(cL (cU (iQ (gK (gT ts i).ks j).k pq).p) 64)) 25)) (Nat.le_of_ble_eq_true rfl) (Nat.le_of_ble_eq_true rfl) (by decide)))<|jE [[]]) (fun ρ18=>?_)
      refine aJ (aA ?_)
      refine rS Tryz.f79 2 [1,6,23,24,25,30,31,32] [] (fun _=>[vn (j+1),vn (j+1)]) (fun _=>[]) (jW (fun ρ=>(((j:Nat):Int)+1)) (fun _=>(j+1)) (fun _=>(aW j 1 (by have:=yF hb2;omega)))<|jE [[]]) (fun _=>?_)
      refine nD (fun w=>bM w a c ts∧kJ w∧fU w∧True) (fun w hF=>⟨hF.1,hF.2.1,hF.2.2.1,trivial⟩) ?_
      exact mN (Sum.inr (j+1,nb ρ18 4,[(iQ (gK (gT ts i).ks j).k pq).p],(kU.r ([(iQ (gK (gT ts i).ks j).k pq).p])).toArray++Builtin.zeroCells (Value.cells (U 0)) (aZ ρ18 4),([(iQ (gK (gT ts i).ks j).k pq).p]).length+aZ ρ18 4)) (by show (gT ts i).ks.length-(j+1)<(gT ts i).ks.length-j;have:=yF hb2;omega) (⟨(by have:=yF hb2;omega),wV (show j<(gT ts i).ks.length from (by have:=yF hb2;omega)) hq hN,xJ (show j<(gT ts i).ks.length from (by have:=yF hb2;omega)) hq hb6 hE,RowK.A.fresh (K:=kU) (z:=(U 0)) rfl ([(iQ (gK (gT ts i).ks j).k pq).p]) (aZ ρ18 4),(fun n hn=>by rw [List.mem_singleton.1 hn];exact (yR (ho.gK i j).k hq32).p)⟩) []
     intro J1
     rcases Bool.eq_false_or_eq_true (gK (gT ts i).ks j).pa.isNone with hb7 | hb7
     ·
      refine sS Tryz.f79 4 [1,6,10,11,23,24,25,30,31,32] [] (fun _=>[jp (nb ρ14 2) 43,.slice (gK (gT ts i).ks j).pa (nI (gK (gT ts i).ks j).ps).length (gK (gT ts i).ks j).pc,vz,vz]) (fun _=>[]) (cR [[],[0]]<|cX (qC (fun _ _ w hG=>yK (gK (gT ts i).ks j).pa (gK (gT ts i).ks j).pc (gK (gT ts i).ks j).ps hb7 w ((hG.fn.1.sub _ (fA (show i<ts.length from (by have:=yF hb2;omega)))).sub _ (nU (show j<(gT ts i).ks.length from (by have:=yF hb2;omega))))))<|jE [[]]) (fun _=>?_)
      refine aB (jM Tryz.f79 2 [1,6,10,11,23,24,25,30,31,32,40] [] [jp (nb ρ14 2) 44,.bool (gK (gT ts i).ks j).wd] [[],[0]] ?_)
      refine oC (gK (gT ts i).ks j).wd (fun hb8=>?_) (fun hb8=>?_)
      ·
       rw [hb8]
       refine rS Tryz.f79 6 [1,6,10,11,23,24,25,30,31,32] [1,0,1] (fun ρ=>let qa:=vs (nb ρ 4) (nI ([z.toNat])).length ((nI ([z.toNat])).length+aZ ρ 4);[vz,vi z,vu z.toNat,vs (nb ρ 3) 1 1,qa,qa]) (fun ρ=>[(3,(nw ρ 3 (cL #[vu z.toNat] 55))),(4,(nw ρ 4 (cL ((kI.r ([z.toNat])).toArray++Builtin.zeroCells (Value.cells (.int .u32 0)) (aZ ρ 4)) 55)))]) (cR [[],[]]<|cA (fun _=>(vu z.toNat)) (fun _=>jN (u32Z hb2 hb3))<|cR [[]]<|cX (qN (fun _ ζ=>(vs (ζ.headD 0) (nI ([z.toNat])).length ((nI ([z.toNat])).length+ζ.tail.headD 0))) (fun _ ζ=>(cL ((kI.r ([z.toNat])).toArray++Builtin.zeroCells (Value.cells (.int .u32 0)) (ζ.tail.headD 0)) 55)) (fun ρ _ _ hG=>appI_nil (ty:=67) (us:=[z.toNat]) Tryz.underlying67 (dA (sz:=1) (b:=4) (z:=(.int .u32 0)) (by kernel_rfl) rfl) (tJ Tryz.underlying67 (hG.kn (g:=nb ρ 3) (o:=(cL #[vu z.toNat] 55)) 25)) (Nat.le_of_ble_eq_true rfl) (Nat.le_of_ble_eq_true rfl) (by decide)))<|jE [[]]) (fun ρ22=>?_)
       refine aA ?_
       refine lK [(1,(vi z)),(6,vz),(10,(pt (nb ρ14 2))),(11,(vs (nb ρ22 4) (nI ([z.toNat])).length ((nI ([z.toNat])).length+aZ ρ22 4))),(23,(.slice a ts.length c)),(24,(vn ts.length)),(25,(vn i)),(30,(.slice (gT ts i).ka (gT ts i).ks.length (gT ts i).kc)),(31,(vn (gT ts i).ks.length)),(32,(vn j))] [(nb ρ14 2,(cL (dO.row (gK (gT ts i).ks j)) 69)),(nb ρ22 4,(cL ((kI.r ([z.toNat])).toArray++Builtin.zeroCells (Value.cells (.int .u32 0)) (aZ ρ22 4)) 55))] ?_
       exact okE J1 (some ⟨nb ρ22 4,0,none⟩,(nI ([z.toNat])).length+aZ ρ22 4,[z.toNat]) (⟨(ix_b hb8 (hf0.pathN (show i<ts.length from (by have:=yF hb2;omega)) (show j<(gT ts i).ks.length from (by have:=yF hb2;omega)) hb7)),(fun x hx=>by rw [List.mem_singleton.1 hx];exact (z32n hb2 hb3))⟩) (fun w hS=>(hS.frozI (e:=55) (fr:=(0,0)) 1 (RowK.A.fresh (K:=kI) (z:=(.int .u32 0)) rfl ([z.toNat]) (aZ ρ22 4)) (by have:=jC (aV hb1) (show i<ts.length from (by have:=yF hb2;omega)) (show j<(gT ts i).ks.length from (by have:=yF hb2;omega));simp only [List.length_cons,List.length_nil];omega) []).weaken (fun w hF=>⟨hF.2.1,hF.2.2.1,hF.2.2.2.1,hF.1,trivial⟩))
      rw [hb8]
      refine aG (aA ?_)
      refine lK [(1,(vi z)),(6,vz),(10,(pt (nb ρ14 2))),(11,vz),(23,(.slice a ts.length c)),(24,(vn ts.length)),(25,(vn i)),(30,(.slice (gT ts i).ka (gT ts i).ks.length (gT ts i).kc)),(31,(vn (gT ts i).ks.length)),(32,(vn j)),(40,vF)] [(nb ρ14 2,(cL (dO.row (gK (gT ts i).ks j)) 69))] ?_
      exact okE J1 (none,0,[]) (⟨(ix_a hb8 (hf0.pathN (show i<ts.length from (by have:=yF hb2;omega)) (show j<(gT ts i).ks.length from (by have:=yF hb2;omega)) hb7)),(by simp)⟩) (fun w hS=>(hS.frozN (k:=.u32) (a:=none) (c:=0) []).weaken (fun w hF=>⟨hF.2.1,hF.2.2.1,hF.2.2.2.1,hF.1,trivial⟩))
     refine iZ Tryz.f79 4 [1,6,10,11,23,24,25,30,31,32] [] (fun ρ=>let qa:=vs (nb ρ 2) (nI (gK (gT ts i).ks j).ps).length (aZ ρ 2);[jp (nb ρ14 2) 43,.slice (gK (gT ts i).ks j).pa (nI (gK (gT ts i).ks j).ps).length (gK (gT ts i).ks j).pc,qa,qa]) (fun ρ=>[(2,(nw ρ 2 (cL (oc ρ 2) 55)))]) (fun ρ=>[(2,fun w=>kI.A (oc ρ 2) (gK (gT ts i).ks j).ps (aZ ρ 2))]) (fun _=>(fun w=>bM w a c ts∧kJ w∧fU w∧True)) (fun ρ=>kI.A (oc ρ 2) (gK (gT ts i).ks j).ps (aZ ρ 2)) (fun _ _ hF hf=>⟨hF,hf 2⟩) (cR [[],[0]]<|cX (xAW _ 58 (fun _=> #[.slice (gK (gT ts i).ks j).pa (nI (gK (gT ts i).ks j).ps).length (gK (gT ts i).ks j).pc]) (fun _ r=>(vs (r.n.headD 0) (nI (gK (gT ts i).ks j).ps).length (r.n.tail.headD 0))) (fun _ r=>(cL (uG r) 55)) (fun _ r=>kI.A (uG r) (gK (gT ts i).ks j).ps (r.n.tail.headD 0)) (fun _ _=>(by kernel_rfl)) (fun _ _=>(by kernel_rfl)) (fun _ _=>(by kernel_rfl)) (fun _ _=>(by kernel_rfl)) (fun _ _ w hG=>yP (gK (gT ts i).ks j).pa (gK (gT ts i).ks j).pc (gK (gT ts i).ks j).ps hb7 (jC (aV hb1) (show i<ts.length from (by have:=yF hb2;omega)) (show j<(gT ts i).ks.length from (by have:=yF hb2;omega))) w ((hG.fn.1.sub _ (fA (show i<ts.length from (by have:=yF hb2;omega)))).sub _ (nU (show j<(gT ts i).ks.length from (by have:=yF hb2;omega))))))<|jE [[]]) (fun ρ23 ap23_2=>?_)
     refine aB (jM Tryz.f79 2 [1,6,10,11,23,24,25,30,31,32,40] [] [jp (nb ρ14 2) 44,.bool (gK (gT ts i).ks j).wd] [[],[0]] ?_)
     refine oC (gK (gT ts i).ks j).wd (fun hb9=>?_) (fun hb9=>?_)
     ·
      rw [hb9]
      refine rSf Tryz.f79 6 [1,6,10,11,23,24,25,30,31,32] [1,1,0] (fun ρ=>let qa:=vs (nb ρ 4) (nI ((gK (gT ts i).ks j).ps++([z.toNat]))).length (aZ ρ 4);[vs (nb ρ23 2) (nI (gK (gT ts i).ks j).ps).length (aZ ρ23 2),vi z,vu z.toNat,vs (nb ρ 3) 1 1,qa,qa]) (fun ρ=>[(3,(nw ρ 3 (cL #[vu z.toNat] 55))),(4,(bD 1 (nb ρ 4) (cL (oc ρ 4) 55)))]) (fun ρ=>[(4,fun w=>kI.A (oc ρ 4) ((gK (gT ts i).ks j).ps++([z.toNat])) (aZ ρ 4))]) (fun _=>(fun w=>bM w a c ts∧kJ w∧fU w∧True)) (fun ρ=>kI.A (oc ρ 4) ((gK (gT ts i).ks j).ps++([z.toNat])) (aZ ρ 4)) (fun _ _ hF hf=>⟨hF,hf 4⟩) (cR [[],[]]<|cA (fun _=>(vu z.toNat)) (fun _=>jN (u32Z hb2 hb3))<|cR [[]]<|cX (qM 1 (fun ρ _ _ hG hg=>lT (ty:=67) (g:=nb ρ23 2) (ts:=(gK (gT ts i).ks j).ps) (us:=[z.toNat]) Tryz.underlying67 (dA (sz:=1) (b:=4) (z:=(.int .u32 0)) (by kernel_rfl) rfl) ap23_2 (tJ Tryz.underlying67 (hG.kn (g:=nb ρ 3) (o:=(cL #[vu z.toNat] 55)) 26)) (by have:=jC (aV hb1) (show i<ts.length from (by have:=yF hb2;omega)) (show j<(gT ts i).ks.length from (by have:=yF hb2;omega));simp only [List.length_cons,List.length_nil];omega) (by decide) hg))<|jE [[]]) (fun ρ25 ap25_4=>?_)
      refine aA ?_
      refine lK [(1,(vi z)),(6,vz),(10,(pt (nb ρ14 2))),(11,(vs (nb ρ25 4) (nI ((gK (gT ts i).ks j).ps++([z.toNat]))).length (aZ ρ25 4))),(23,(.slice a ts.length c)),(24,(vn ts.length)),(25,(vn i)),(30,(.slice (gT ts i).ka (gT ts i).ks.length (gT ts i).kc)),(31,(vn (gT ts i).ks.length)),(32,(vn j))] [(nb ρ14 2,(cL (dO.row (gK (gT ts i).ks j)) 69)),(nb ρ25 4,(cL (oc ρ25 4) 55))] ?_
      exact okE J1 (some ⟨nb ρ25 4,0,none⟩,aZ ρ25 4,(gK (gT ts i).ks j).ps++[z.toNat]) (⟨ix_d hb9,(fun x hx=>(List.mem_append.1 hx).elim ((ho.gK i j).ps x) (fun hx=>by rw [List.mem_singleton.1 hx];exact (z32n hb2 hb3)))⟩) (fun w hS=>(hS.frozI (e:=55) (fr:=(0,0)) 1 ap25_4 (by have:=jC (aV hb1) (show i<ts.length from (by have:=yF hb2;omega)) (show j<(gT ts i).ks.length from (by have:=yF hb2;omega));simp only [List.length_append,List.length_cons,List.length_nil];omega) []).weaken (fun w hF=>⟨hF.2.1,hF.2.2.1,hF.2.2.2.1,hF.1,trivial⟩))
     rw [hb9]
     refine aG (aA ?_)
     refine lK [(1,(vi z)),(6,vz),(10,(pt (nb ρ14 2))),(11,(vs (nb ρ23 2) (nI (gK (gT ts i).ks j).ps).length (aZ ρ23 2))),(23,(.slice a ts.length c)),(24,(vn ts.length)),(25,(vn i)),(30,(.slice (gT ts i).ka (gT ts i).ks.length (gT ts i).kc)),(31,(vn (gT ts i).ks.length)),(32,(vn j)),(40,vF)] [(nb ρ14 2,(cL (dO.row (gK (gT ts i).ks j)) 69)),(nb ρ23 2,(cL (oc ρ23 2) 55))] ?_
     exact okE J1 (some ⟨nb ρ23 2,0,none⟩,aZ ρ23 2,(gK (gT ts i).ks j).ps) (⟨ix_c hb9,(ho.gK i j).ps⟩) (fun w hS=>(hS.frozI (e:=55) (fr:=(0,0)) 1 ap23_2 (by have:=jC (aV hb1) (show i<ts.length from (by have:=yF hb2;omega)) (show j<(gT ts i).ks.length from (by have:=yF hb2;omega));omega) []).weaken (fun w hF=>⟨hF.2.1,hF.2.2.1,hF.2.2.2.1,hF.1,trivial⟩))
    rw [hb5]
    have:=yF hb5
    refine bF (aN (aN (aT (aJ (aA ?_)))))
    refine rS Tryz.f79 2 [1,6,23,24,25] [] (fun _=>[vn (i+1),vn (i+1)]) (fun _=>[]) (jW (fun ρ=>(((i:Nat):Int)+1)) (fun _=>(i+1)) (fun _=>(aW i 1 (by have:=yF hb2;omega)))<|jE [[]]) (fun _=>?_)
    exact mN (Sum.inl (i+1)) (by show ts.length-(i+1)<ts.length-i;have:=yF hb2;omega) (⟨(by have:=yF hb2;omega),kn_out (by have:=yF hb2;omega) hN,ke_out (by have:=yF hb2;omega) hE,trivial⟩) []
   rintro ⟨hj,hN,hE,hA,hM⟩
   change Ok Tryz.prog _ _ 64 [(1,(vi z)),(6,(vs q N.length κ)),(23,(.slice a ts.length c)),(24,(vn ts.length)),(25,(vn i)),(30,(.slice (gT ts i).ka (gT ts i).ks.length (gT ts i).kc)),(31,(vn (gT ts i).ks.length)),(32,(vn j))] _ [(q,(cL C 64))] (fun w=>bM w a c ts∧kJ w∧fU w∧True)
   refine jJ Tryz.f79 1 [1,6,23,24,25,30,31,32,33] [.bool (decide (((j:Nat):Int)<(((gT ts i).ks.length:Nat):Int)))] (aB ?_)
   refine oC (decide (((j:Nat):Int)<(((gT ts i).ks.length:Nat):Int))) (fun hb10=>?_) (fun hb10=>?_)
   ·
    rw [hb10]
    have:=yT hb10
    refine aG (aA (aB (aI ?_)))
    refine sS Tryz.f79 4 [1,6,10,23,24,25,30,31,32] [] (fun ρ=>[.pointer (fK (gT ts i).ka (j*45)),.agg (dO.row (gK (gT ts i).ks j)),pt (nb ρ 2),undef]) (fun ρ=>[(2,(nw ρ 2 (cL (kM 0 0 0 0 0 0 vz vF) 69))),(3,(bD 17 (nb ρ 2) (cL (dO.row (gK (gT ts i).ks j)) 69)))]) (cX (qF (fun _ _ _ hG=>oG.idx (k:=.i64) Tryz.underlying58 Tryz.sizeOf69 (hG.fn.1.sub _ (fA (show i<ts.length from (by have:=yF hb2;omega)))) rfl (show ((j:Nat):Int)=((j:Nat):Int) from rfl) (show j<(gT ts i).ks.length from (by have:=yF hb2;omega))))<|cX (qF (fun _ _ _ hG=>oG.ldA (i:=j) Tryz.isAgg69 Tryz.sizeOf69 (hG.fn.1.sub _ (fA (show i<ts.length from (by have:=yF hb2;omega)))) (show j<(gT ts i).ks.length from (by have:=yF hb2;omega))))<|jE [[],[17]]) (fun ρ28=>?_)
    refine okJ2 (σ:=(Option Addr) × Nat × (List Nat)) (fun ⟨pa,pc,pq⟩=>[(1,(vi z)),(6,(vs q N.length κ)),(10,(pt (nb ρ28 2))),(11,(.slice pa (nI pq).length pc)),(23,(.slice a ts.length c)),(24,(vn ts.length)),(25,(vn i)),(30,(.slice (gT ts i).ka (gT ts i).ks.length (gT ts i).kc)),(31,(vn (gT ts i).ks.length)),(32,(vn j))]) (fun ⟨_,_,_⟩=>[(q,(cL C 64)),(nb ρ28 2,(cL (dO.row (gK (gT ts i).ks j)) 69))]) (fun ⟨pa,pc,pq⟩=>(fun w=>bM w a c ts∧kJ w∧fU w∧Is w .u32 pa pc (nI pq)∧True)) (fun ⟨_,_,pq⟩=>((gK (gT ts i).ks j).ix z.toNat=pq)∧(∀ x∈pq,x<4294967296)) ?_ ?_
    ·
     rintro ⟨pa,pc,pq⟩ ⟨hq,hq32⟩
     change Ok Tryz.prog _ _ 64 [(1,(vi z)),(6,(vs q N.length κ)),(10,(pt (nb ρ28 2))),(11,(.slice pa (nI pq).length pc)),(23,(.slice a ts.length c)),(24,(vn ts.length)),(25,(vn i)),(30,(.slice (gT ts i).ka (gT ts i).ks.length (gT ts i).kc)),(31,(vn (gT ts i).ks.length)),(32,(vn j))] _ [(q,(cL C 64)),(nb ρ28 2,(cL (dO.row (gK (gT ts i).ks j)) 69))] (fun w=>bM w a c ts∧kJ w∧fU w∧Is w .u32 pa pc (nI pq)∧True)
     refine sS Tryz.f79 10 [1,6,12,13,23,24,25,30,31,32] [1,0,1] (fun ρ=>let qa:=vi (nM (gK (gT ts i).ks j).k pq);let qb:Value:=.agg (kY (iQ (gK (gT ts i).ks j).k pq));[pt (nb ρ28 2),.agg (kY (gK (gT ts i).ks j).k),.slice pa (nI pq).length pc,.tuple #[qb,qa],.tuple #[qb,qa],qb,qa,pt (nb ρ 7),undef,qa]) (fun ρ=>[(7,(nw ρ 7 (cL (kC 0 0 0 0 0 0) 66))),(8,(bD 58 (nb ρ 7) (cL (kY (iQ (gK (gT ts i).ks j).k pq)) 66)))]) (cR [[],[1],[]]<|cX (qC (fun _ _ w hG=>yH (gK (gT ts i).ks j).k pa pc pq (ho.gK i j).k hq32 w hG.fn.2.2.2.1 hG.fn.2.1 hG.fn.2.2.1))<|jE [[],[],[],[],[58],[]]) (fun ρ29=>?_)
     refine aB (jJ Tryz.f79 2 [1,6,12,13,23,24,25,30,31,32,54] [vi (nM (gK (gT ts i).ks j).k pq),.bool ((nM (gK (gT ts i).ks j).k pq) != 0)] ?_)
     refine oC ((nM (gK (gT ts i).ks j).k pq) != 0) (fun hb11=>?_) (fun hb11=>?_)
     ·
      rw [hb11]
      refine jJ Tryz.f79 3 [1,4,5,6,12,23,24,25,30,31,32] (let qa:=vi (nM (gK (gT ts i).ks j).k pq);[qa,vz,qa]) (aF (aC (aP (aC (aC (aP (aP (aC (aC (aP (aC (mD [(1,(vi z)),(4,vz),(5,(vi (nM (gK (gT ts i).ks j).k pq))),(6,(vs q N.length κ)),(12,(pt (nb ρ29 7))),(23,(.slice a ts.length c)),(24,(vn ts.length)),(25,(vn i)),(30,(.slice (gT ts i).ka (gT ts i).ks.length (gT ts i).kc)),(31,(vn (gT ts i).ks.length)),(32,(vn j))] [(q,(cL C 64)),(nb ρ29 7,(cL (kY (iQ (gK (gT ts i).ks j).k pq)) 66))] ?_))))))))))))
      exact mR (v:=(.tuple #[vz,vi (nM (gK (gT ts i).ks j).k pq)])) (fun _ hS=>(by rw [(pI (aV hb1) hb2 hb3 (l7 (show j<(gT ts i).ks.length from (by have:=yF hb2;omega)) hq hb11 hE) hb11).1,(pI (aV hb1) hb2 hb3 (l7 (show j<(gT ts i).ks.length from (by have:=yF hb2;omega)) hq hb11 hE) hb11).2];exact ⟨none,0,rfl,hS.bel,dB (fun _=>Us.nil)⟩))
     rw [hb11]
     refine aG (aA ?_)
     refine rSf Tryz.f79 6 [1,6,23,24,25,30,31,32] [1,0,0] (fun ρ=>let qa:=vs (nb ρ 4) (N++([(iQ (gK (gT ts i).ks j).k pq).p])).length (aZ ρ 4);[vs q N.length κ,jp (nb ρ29 7) 4,U (iQ (gK (gT ts i).ks j).k pq).p,vs (nb ρ 3) 1 1,qa,qa]) (fun ρ=>[(3,(nw ρ 3 (cL (cU (iQ (gK (gT ts i).ks j).k pq).p) 64))),(4,(bD 0 (nb ρ 4) (cL (oc ρ 4) 64)))]) (fun ρ=>[(4,fun w=>kU.A (oc ρ 4) (N++([(iQ (gK (gT ts i).ks j).k pq).p])) (aZ ρ 4))]) (fun _=>(fun w=>bM w a c ts∧kJ w∧fU w∧Is w .u32 pa pc (nI pq)∧True)) (fun ρ=>kU.A (oc ρ 4) (N++([(iQ (gK (gT ts i).ks j).k pq).p])) (aZ ρ 4)) (fun _ _ hF hf=>⟨hF,hf 4⟩) (cR [[],[],[1],[]]<|cX (qM 0 (fun ρ _ _ hG hg=>wB (K:=kU) (ty:=80) (g:=q) (ts:=N) (us:=[(iQ (gK (gT ts i).ks j).k pq).p]) Tryz.underlying80 (dA (sz:=4) (b:=32) (z:=(U 0)) (by kernel_rfl) rfl) hA (src_u1 Tryz.underlying80 (hG.kn (g:=nb ρ 3) (o:=(cL (cU (iQ (gK (gT ts i).ks j).k pq).p) 64)) 26)) (by have:=kn_len (aV hb1) hN;have:=zN (R:=aK (ts.drop (i+1))) (show j<(gT ts i).ks.length from (by have:=yF hb2;omega));simp only [List.length_cons,List.length_nil];omega) (by decide) hg))<|jE [[]]) (fun ρ32 ap32_4=>?_)
     refine aJ (aA ?_)
     refine rS Tryz.f79 2 [1,6,23,24,25,30,31,32] [] (fun _=>[vn (j+1),vn (j+1)]) (fun _=>[]) (jW (fun ρ=>(((j:Nat):Int)+1)) (fun _=>(j+1)) (fun _=>(aW j 1 (by have:=yF hb2;omega)))<|jE [[]]) (fun _=>?_)
     refine nD (fun w=>bM w a c ts∧kJ w∧fU w∧True) (fun w hF=>⟨hF.1,hF.2.1,hF.2.2.1,trivial⟩) ?_
     exact mN (Sum.inr (j+1,nb ρ32 4,N++([(iQ (gK (gT ts i).ks j).k pq).p]),oc ρ32 4,aZ ρ32 4)) (by show (gT ts i).ks.length-(j+1)<(gT ts i).ks.length-j;have:=yF hb2;omega) (⟨(by have:=yF hb2;omega),wV (show j<(gT ts i).ks.length from (by have:=yF hb2;omega)) hq hN,xJ (show j<(gT ts i).ks.length from (by have:=yF hb2;omega)) hq hb11 hE,ap32_4,(fun n hn=>(List.mem_append.1 hn).elim (hM n) (fun hn=>by rw [List.mem_singleton.1 hn];exact (yR (ho.gK i j).k hq32).p))⟩) []
    intro J2
    rcases Bool.eq_false_or_eq_true (gK (gT ts i).ks j).pa.isNone with hb12 | hb12
    ·
     refine sS Tryz.f79 4 [1,6,10,11,23,24,25,30,31,32] [] (fun _=>[jp (nb ρ28 2) 43,.slice (gK (gT ts i).ks j).pa (nI (gK (gT ts i).ks j).ps).length (gK (gT ts i).ks j).pc,vz,vz]) (fun _=>[]) (cR [[],[1]]<|cX (qC (fun _ _ w hG=>yK (gK (gT ts i).ks j).pa (gK (gT ts i).ks j).pc (gK (gT ts i).ks j).ps hb12 w ((hG.fn.1.sub _ (fA (show i<ts.length from (by have:=yF hb2;omega)))).sub _ (nU (show j<(gT ts i).ks.length from (by have:=yF hb2;omega))))))<|jE [[]]) (fun _=>?_)
     refine aB (jM Tryz.f79 2 [1,6,10,11,23,24,25,30,31,32,40] [] [jp (nb ρ28 2) 44,.bool (gK (gT ts i).ks j).wd] [[],[1]] ?_)
     refine oC (gK (gT ts i).ks j).wd (fun hb13=>?_) (fun hb13=>?_)
     ·
      rw [hb13]
      refine rS Tryz.f79 6 [1,6,10,11,23,24,25,30,31,32] [1,1,0,1] (fun ρ=>let qa:=vs (nb ρ 4) (nI ([z.toNat])).length ((nI ([z.toNat])).length+aZ ρ 4);[vz,vi z,vu z.toNat,vs (nb ρ 3) 1 1,qa,qa]) (fun ρ=>[(3,(nw ρ 3 (cL #[vu z.toNat] 55))),(4,(nw ρ 4 (cL ((kI.r ([z.toNat])).toArray++Builtin.zeroCells (Value.cells (.int .u32 0)) (aZ ρ 4)) 55)))]) (cR [[],[]]<|cA (fun _=>(vu z.toNat)) (fun _=>jN (u32Z hb2 hb3))<|cR [[]]<|cX (qN (fun _ ζ=>(vs (ζ.headD 0) (nI ([z.toNat])).length ((nI ([z.toNat])).length+ζ.tail.headD 0))) (fun _ ζ=>(cL ((kI.r ([z.toNat])).toArray++Builtin.zeroCells (Value.cells (.int .u32 0)) (ζ.tail.headD 0)) 55)) (fun ρ _ _ hG=>appI_nil (ty:=67) (us:=[z.toNat]) Tryz.underlying67 (dA (sz:=1) (b:=4) (z:=(.int .u32 0)) (by kernel_rfl) rfl) (tJ Tryz.underlying67 (hG.kn (g:=nb ρ 3) (o:=(cL #[vu z.toNat] 55)) 26)) (Nat.le_of_ble_eq_true rfl) (Nat.le_of_ble_eq_true rfl) (by decide)))<|jE [[]]) (fun ρ36=>?_)
      refine aA ?_
      refine lK [(1,(vi z)),(6,(vs q N.length κ)),(10,(pt (nb ρ28 2))),(11,(vs (nb ρ36 4) (nI ([z.toNat])).length ((nI ([z.toNat])).length+aZ ρ36 4))),(23,(.slice a ts.length c)),(24,(vn ts.length)),(25,(vn i)),(30,(.slice (gT ts i).ka (gT ts i).ks.length (gT ts i).kc)),(31,(vn (gT ts i).ks.length)),(32,(vn j))] [(q,(cL C 64)),(nb ρ28 2,(cL (dO.row (gK (gT ts i).ks j)) 69)),(nb ρ36 4,(cL ((kI.r ([z.toNat])).toArray++Builtin.zeroCells (Value.cells (.int .u32 0)) (aZ ρ36 4)) 55))] ?_
      exact okE J2 (some ⟨nb ρ36 4,0,none⟩,(nI ([z.toNat])).length+aZ ρ36 4,[z.toNat]) (⟨(ix_b hb13 (hf0.pathN (show i<ts.length from (by have:=yF hb2;omega)) (show j<(gT ts i).ks.length from (by have:=yF hb2;omega)) hb12)),(fun x hx=>by rw [List.mem_singleton.1 hx];exact (z32n hb2 hb3))⟩) (fun w hS=>(hS.frozI (e:=55) (fr:=(0,0)) 2 (RowK.A.fresh (K:=kI) (z:=(.int .u32 0)) rfl ([z.toNat]) (aZ ρ36 4)) (by have:=jC (aV hb1) (show i<ts.length from (by have:=yF hb2;omega)) (show j<(gT ts i).ks.length from (by have:=yF hb2;omega));simp only [List.length_cons,List.length_nil];omega) []).weaken (fun w hF=>⟨hF.2.1,hF.2.2.1,hF.2.2.2.1,hF.1,trivial⟩))
     rw [hb13]
     refine aG (aA ?_)
     refine lK [(1,(vi z)),(6,(vs q N.length κ)),(10,(pt (nb ρ28 2))),(11,vz),(23,(.slice a ts.length c)),(24,(vn ts.length)),(25,(vn i)),(30,(.slice (gT ts i).ka (gT ts i).ks.length (gT ts i).kc)),(31,(vn (gT ts i).ks.length)),(32,(vn j)),(40,vF)] [(q,(cL C 64)),(nb ρ28 2,(cL (dO.row (gK (gT ts i).ks j)) 69))] ?_
     exact okE J2 (none,0,[]) (⟨(ix_a hb13 (hf0.pathN (show i<ts.length from (by have:=yF hb2;omega)) (show j<(gT ts i).ks.length from (by have:=yF hb2;omega)) hb12)),(by simp)⟩) (fun w hS=>(hS.frozN (k:=.u32) (a:=none) (c:=0) []).weaken (fun w hF=>⟨hF.2.1,hF.2.2.1,hF.2.2.2.1,hF.1,trivial⟩))
    refine iZ Tryz.f79 4 [1,6,10,11,23,24,25,30,31,32] [] (fun ρ=>let qa:=vs (nb ρ 2) (nI (gK (gT ts i).ks j).ps).length (aZ ρ 2);[jp (nb ρ28 2) 43,.slice (gK (gT ts i).ks j).pa (nI (gK (gT ts i).ks j).ps).length (gK (gT ts i).ks j).pc,qa,qa]) (fun ρ=>[(2,(nw ρ 2 (cL (oc ρ 2) 55)))]) (fun ρ=>[(2,fun w=>kI.A (oc ρ 2) (gK (gT ts i).ks j).ps (aZ ρ 2))]) (fun _=>(fun w=>bM w a c ts∧kJ w∧fU w∧True)) (fun ρ=>kI.A (oc ρ 2) (gK (gT ts i).ks j).ps (aZ ρ 2)) (fun _ _ hF hf=>⟨hF,hf 2⟩) (cR [[],[1]]<|cX (xAW _ 58 (fun _=> #[.slice (gK (gT ts i).ks j).pa (nI (gK (gT ts i).ks j).ps).length (gK (gT ts i).ks j).pc]) (fun _ r=>(vs (r.n.headD 0) (nI (gK (gT ts i).ks j).ps).length (r.n.tail.headD 0))) (fun _ r=>(cL (uG r) 55)) (fun _ r=>kI.A (uG r) (gK (gT ts i).ks j).ps (r.n.tail.headD 0)) (fun _ _=>(by kernel_rfl)) (fun _ _=>(by kernel_rfl)) (fun _ _=>(by kernel_rfl)) (fun _ _=>(by kernel_rfl)) (fun _ _ w hG=>yP (gK (gT ts i).ks j).pa (gK (gT ts i).ks j).pc (gK (gT ts i).ks j).ps hb12 (jC (aV hb1) (show i<ts.length from (by have:=yF hb2;omega)) (show j<(gT ts i).ks.length from (by have:=yF hb2;omega))) w ((hG.fn.1.sub _ (fA (show i<ts.length from (by have:=yF hb2;omega)))).sub _ (nU (show j<(gT ts i).ks.length from (by have:=yF hb2;omega))))))<|jE [[]]) (fun ρ37 ap37_2=>?_)
    refine aB (jM Tryz.f79 2 [1,6,10,11,23,24,25,30,31,32,40] [] [jp (nb ρ28 2) 44,.bool (gK (gT ts i).ks j).wd] [[],[1]] ?_)
    refine oC (gK (gT ts i).ks j).wd (fun hb14=>?_) (fun hb14=>?_)
    ·
     rw [hb14]
     refine rSf Tryz.f79 6 [1,6,10,11,23,24,25,30,31,32] [1,1,1,0] (fun ρ=>let qa:=vs (nb ρ 4) (nI ((gK (gT ts i).ks j).ps++([z.toNat]))).length (aZ ρ 4);[vs (nb ρ37 2) (nI (gK (gT ts i).ks j).ps).length (aZ ρ37 2),vi z,vu z.toNat,vs (nb ρ 3) 1 1,qa,qa]) (fun ρ=>[(3,(nw ρ 3 (cL #[vu z.toNat] 55))),(4,(bD 2 (nb ρ 4) (cL (oc ρ 4) 55)))]) (fun ρ=>[(4,fun w=>kI.A (oc ρ 4) ((gK (gT ts i).ks j).ps++([z.toNat])) (aZ ρ 4))]) (fun _=>(fun w=>bM w a c ts∧kJ w∧fU w∧True)) (fun ρ=>kI.A (oc ρ 4) ((gK (gT ts i).ks j).ps++([z.toNat])) (aZ ρ 4)) (fun _ _ hF hf=>⟨hF,hf 4⟩) (cR [[],[]]<|cA (fun _=>(vu z.toNat)) (fun _=>jN (u32Z hb2 hb3))<|cR [[]]<|cX (qM 2 (fun ρ _ _ hG hg=>lT (ty:=67) (g:=nb ρ37 2) (ts:=(gK (gT ts i).ks j).ps) (us:=[z.toNat]) Tryz.underlying67 (dA (sz:=1) (b:=4) (z:=(.int .u32 0)) (by kernel_rfl) rfl) ap37_2 (tJ Tryz.underlying67 (hG.kn (g:=nb ρ 3) (o:=(cL #[vu z.toNat] 55)) 27)) (by have:=jC (aV hb1) (show i<ts.length from (by have:=yF hb2;omega)) (show j<(gT ts i).ks.length from (by have:=yF hb2;omega));simp only [List.length_cons,List.length_nil];omega) (by decide) hg))<|jE [[]]) (fun ρ39 ap39_4=>?_)
     refine aA ?_
     refine lK [(1,(vi z)),(6,(vs q N.length κ)),(10,(pt (nb ρ28 2))),(11,(vs (nb ρ39 4) (nI ((gK (gT ts i).ks j).ps++([z.toNat]))).length (aZ ρ39 4))),(23,(.slice a ts.length c)),(24,(vn ts.length)),(25,(vn i)),(30,(.slice (gT ts i).ka (gT ts i).ks.length (gT ts i).kc)),(31,(vn (gT ts i).ks.length)),(32,(vn j))] [(q,(cL C 64)),(nb ρ28 2,(cL (dO.row (gK (gT ts i).ks j)) 69)),(nb ρ39 4,(cL (oc ρ39 4) 55))] ?_
     exact okE J2 (some ⟨nb ρ39 4,0,none⟩,aZ ρ39 4,(gK (gT ts i).ks j).ps++[z.toNat]) (⟨ix_d hb14,(fun x hx=>(List.mem_append.1 hx).elim ((ho.gK i j).ps x) (fun hx=>by rw [List.mem_singleton.1 hx];exact (z32n hb2 hb3)))⟩) (fun w hS=>(hS.frozI (e:=55) (fr:=(0,0)) 2 ap39_4 (by have:=jC (aV hb1) (show i<ts.length from (by have:=yF hb2;omega)) (show j<(gT ts i).ks.length from (by have:=yF hb2;omega));simp only [List.length_append,List.length_cons,List.length_nil];omega) []).weaken (fun w hF=>⟨hF.2.1,hF.2.2.1,hF.2.2.2.1,hF.1,trivial⟩))
    rw [hb14]
    refine aG (aA ?_)
    refine lK [(1,(vi z)),(6,(vs q N.length κ)),(10,(pt (nb ρ28 2))),(11,(vs (nb ρ37 2) (nI (gK (gT ts i).ks j).ps).length (aZ ρ37 2))),(23,(.slice a ts.length c)),(24,(vn ts.length)),(25,(vn i)),(30,(.slice (gT ts i).ka (gT ts i).ks.length (gT ts i).kc)),(31,(vn (gT ts i).ks.length)),(32,(vn j)),(40,vF)] [(q,(cL C 64)),(nb ρ28 2,(cL (dO.row (gK (gT ts i).ks j)) 69)),(nb ρ37 2,(cL (oc ρ37 2) 55))] ?_
    exact okE J2 (some ⟨nb ρ37 2,0,none⟩,aZ ρ37 2,(gK (gT ts i).ks j).ps) (⟨ix_c hb14,(ho.gK i j).ps⟩) (fun w hS=>(hS.frozI (e:=55) (fr:=(0,0)) 2 ap37_2 (by have:=jC (aV hb1) (show i<ts.length from (by have:=yF hb2;omega)) (show j<(gT ts i).ks.length from (by have:=yF hb2;omega));omega) []).weaken (fun w hF=>⟨hF.2.1,hF.2.2.1,hF.2.2.2.1,hF.1,trivial⟩))
   rw [hb10]
   have:=yF hb10
   refine bF (aN (aN (aT (aJ (aA ?_)))))
   refine rS Tryz.f79 2 [1,6,23,24,25] [] (fun _=>[vn (i+1),vn (i+1)]) (fun _=>[]) (jW (fun ρ=>(((i:Nat):Int)+1)) (fun _=>(i+1)) (fun _=>(aW i 1 (by have:=yF hb2;omega)))<|jE [[]]) (fun _=>?_)
   exact mN (Sum.inr (i+1,q,N,C,κ)) (by show ts.length-(i+1)<ts.length-i;have:=yF hb2;omega) (⟨(by have:=yF hb2;omega),kn_out (by have:=yF hb2;omega) hN,ke_out (by have:=yF hb2;omega) hE,hA,hM⟩) []
  rw [hb4]
  have:=ho.klen hf0 i
  refine bF (aN (aN (aT (aA (jJ Tryz.f79 3 [4,5] [vz,vz,vi 0] (aF (mD [(4,vz),(5,(vi 0))] [] ?_)))))))
  exact mR (v:=(.tuple #[vz,vi 0])) (fun _ hS=>(by rw [(ky_ok (aV hb1) hb2 hb3 (by have:=yF hb2;have:=yF hb4;omega) hE0 hN0).1,(ky_ok (aV hb1) hb2 hb3 (by have:=yF hb2;have:=yF hb4;omega) hE0 hN0).2];exact ⟨none,0,rfl,hS.bel,dB (fun _=>Us.nil)⟩))
 rintro ⟨hi,hN0,hE0,hA,hM⟩
 change Ok Tryz.prog _ _ 64 [(1,(vi z)),(6,(vs q N.length κ)),(23,(.slice a ts.length c)),(24,(vn ts.length)),(25,(vn i))] _ [(q,(cL C 64))] (fun w=>bM w a c ts∧kJ w∧fU w∧True)
 refine jJ Tryz.f79 1 [1,6,23,24,25,26] [.bool (decide (((i:Nat):Int)<((ts.length:Nat):Int)))] (aB ?_)
 refine oC (decide (((i:Nat):Int)<((ts.length:Nat):Int))) (fun hb15=>?_) (fun hb15=>?_)
 ·
  rw [hb15]
  have:=yT hb15
  have:=ho.klen hf0 i
  refine aG (aA (aB (aI ?_)))
  refine sS Tryz.f79 4 [1,6,8,23,24,25] [] (fun ρ=>[.pointer (fK a (i*36)),.agg (bW.row (gT ts i)),pt (nb ρ 2),undef]) (fun ρ=>[(2,(nw ρ 2 (cL (iC 0 0 0 0 vz) 60))),(3,(bD 17 (nb ρ 2) (cL (bW.row (gT ts i)) 60)))]) (cX (qF (fun _ _ _ hG=>bM.idx (k:=.i64) Tryz.underlying24 Tryz.sizeOf60 hG.fn.1 rfl (show ((i:Nat):Int)=((i:Nat):Int) from rfl) (show i<ts.length from (by have:=yF hb2;omega))))<|cX (qF (fun _ _ _ hG=>bM.ldA (i:=i) Tryz.isAgg60 Tryz.sizeOf60 hG.fn.1 (show i<ts.length from (by have:=yF hb2;omega))))<|jE [[],[17]]) (fun ρ43=>?_)
  refine jM Tryz.f79 4 [1,6,23,24,25,30,31,32] [1,0] [jp (nb ρ43 2) 35,.slice (gT ts i).ka (gT ts i).ks.length (gT ts i).kc,vn (gT ts i).ks.length,vi 0] [[],[1],[],[]] (aI ?_)
  refine oL (σ:=(Nat × Nat × (List Nat) × (Array Value) × Nat)) (fun s=>match s with |  ⟨j,q,N,_,κ⟩=>[(1,(vi z)),(6,(vs q N.length κ)),(23,(.slice a ts.length c)),(24,(vn ts.length)),(25,(vn i)),(30,(.slice (gT ts i).ka (gT ts i).ks.length (gT ts i).kc)),(31,(vn (gT ts i).ks.length)),(32,(vn j))]) (fun s=>match s with |  ⟨_,q,_,C,_⟩=>[(q,(cL C 64))]) (fun s=>match s with |  ⟨j,_,_,_,_⟩=>(gT ts i).ks.length-j)
    (fun s=>match s with |  ⟨j,_,N,C,κ⟩=>(j≤(gT ts i).ks.length)∧(N++xE z.toNat ((gT ts i).ks.drop j++aK (ts.drop (i+1)))=xE z.toNat (aK ts))∧(uU z.toNat ((gT ts i).ks.drop j++aK (ts.drop (i+1)))=uU z.toNat (aK ts))∧(kU.A C N κ)∧(∀ n∈N,n<M)) ((0,q,N,C,κ)) (⟨Nat.zero_le _,kn_in (show i<ts.length from (by have:=yF hb2;omega)) hN0,ke_in (show i<ts.length from (by have:=yF hb2;omega)) hE0,hA,hM⟩) [] ?_
  rintro ⟨j,q,N,C,κ⟩
  rintro ⟨hj,hN,hE,hA,hM⟩
  change Ok Tryz.prog _ _ 64 [(1,(vi z)),(6,(vs q N.length κ)),(23,(.slice a ts.length c)),(24,(vn ts.length)),(25,(vn i)),(30,(.slice (gT ts i).ka (gT ts i).ks.length (gT ts i).kc)),(31,(vn (gT ts i).ks.length)),(32,(vn j))] _ [(q,(cL C 64))] (fun w=>bM w a c ts∧kJ w∧fU w∧True)
  refine jJ Tryz.f79 1 [1,6,23,24,25,30,31,32,33] [.bool (decide (((j:Nat):Int)<(((gT ts i).ks.length:Nat):Int)))] (aB ?_)
  refine oC (decide (((j:Nat):Int)<(((gT ts i).ks.length:Nat):Int))) (fun hb16=>?_) (fun hb16=>?_)
  ·
   rw [hb16]
   have:=yT hb16
   refine aG (aA (aB (aI ?_)))
   refine sS Tryz.f79 4 [1,6,10,23,24,25,30,31,32] [] (fun ρ=>[.pointer (fK (gT ts i).ka (j*45)),.agg (dO.row (gK (gT ts i).ks j)),pt (nb ρ 2),undef]) (fun ρ=>[(2,(nw ρ 2 (cL (kM 0 0 0 0 0 0 vz vF) 69))),(3,(bD 17 (nb ρ 2) (cL (dO.row (gK (gT ts i).ks j)) 69)))]) (cX (qF (fun _ _ _ hG=>oG.idx (k:=.i64) Tryz.underlying58 Tryz.sizeOf69 (hG.fn.1.sub _ (fA (show i<ts.length from (by have:=yF hb2;omega)))) rfl (show ((j:Nat):Int)=((j:Nat):Int) from rfl) (show j<(gT ts i).ks.length from (by have:=yF hb2;omega))))<|cX (qF (fun _ _ _ hG=>oG.ldA (i:=j) Tryz.isAgg69 Tryz.sizeOf69 (hG.fn.1.sub _ (fA (show i<ts.length from (by have:=yF hb2;omega)))) (show j<(gT ts i).ks.length from (by have:=yF hb2;omega))))<|jE [[],[17]]) (fun ρ46=>?_)
   refine okJ2 (σ:=(Option Addr) × Nat × (List Nat)) (fun ⟨pa,pc,pq⟩=>[(1,(vi z)),(6,(vs q N.length κ)),(10,(pt (nb ρ46 2))),(11,(.slice pa (nI pq).length pc)),(23,(.slice a ts.length c)),(24,(vn ts.length)),(25,(vn i)),(30,(.slice (gT ts i).ka (gT ts i).ks.length (gT ts i).kc)),(31,(vn (gT ts i).ks.length)),(32,(vn j))]) (fun ⟨_,_,_⟩=>[(q,(cL C 64)),(nb ρ46 2,(cL (dO.row (gK (gT ts i).ks j)) 69))]) (fun ⟨pa,pc,pq⟩=>(fun w=>bM w a c ts∧kJ w∧fU w∧Is w .u32 pa pc (nI pq)∧True)) (fun ⟨_,_,pq⟩=>((gK (gT ts i).ks j).ix z.toNat=pq)∧(∀ x∈pq,x<4294967296)) ?_ ?_
   ·
    rintro ⟨pa,pc,pq⟩ ⟨hq,hq32⟩
    change Ok Tryz.prog _ _ 64 [(1,(vi z)),(6,(vs q N.length κ)),(10,(pt (nb ρ46 2))),(11,(.slice pa (nI pq).length pc)),(23,(.slice a ts.length c)),(24,(vn ts.length)),(25,(vn i)),(30,(.slice (gT ts i).ka (gT ts i).ks.length (gT ts i).kc)),(31,(vn (gT ts i).ks.length)),(32,(vn j))] _ [(q,(cL C 64)),(nb ρ46 2,(cL (dO.row (gK (gT ts i).ks j)) 69))] (fun w=>bM w a c ts∧kJ w∧fU w∧Is w .u32 pa pc (nI pq)∧True)
    refine sS Tryz.f79 10 [1,6,12,13,23,24,25,30,31,32] [1,0,1] (fun ρ=>let qa:=vi (nM (gK (gT ts i).ks j).k pq);let qb:Value:=.agg (kY (iQ (gK (gT ts i).ks j).k pq));[pt (nb ρ46 2),.agg (kY (gK (gT ts i).ks j).k),.slice pa (nI pq).length pc,.tuple #[qb,qa],.tuple #[qb,qa],qb,qa,pt (nb ρ 7),undef,qa]) (fun ρ=>[(7,(nw ρ 7 (cL (kC 0 0 0 0 0 0) 66))),(8,(bD 58 (nb ρ 7) (cL (kY (iQ (gK (gT ts i).ks j).k pq)) 66)))]) (cR [[],[1],[]]<|cX (qC (fun _ _ w hG=>yH (gK (gT ts i).ks j).k pa pc pq (ho.gK i j).k hq32 w hG.fn.2.2.2.1 hG.fn.2.1 hG.fn.2.2.1))<|jE [[],[],[],[],[58],[]]) (fun ρ47=>?_)
    refine aB (jJ Tryz.f79 2 [1,6,12,13,23,24,25,30,31,32,54] [vi (nM (gK (gT ts i).ks j).k pq),.bool ((nM (gK (gT ts i).ks j).k pq) != 0)] ?_)
    refine oC ((nM (gK (gT ts i).ks j).k pq) != 0) (fun hb17=>?_) (fun hb17=>?_)
    ·
     rw [hb17]
     refine jJ Tryz.f79 3 [1,4,5,6,12,23,24,25,30,31,32] (let qa:=vi (nM (gK (gT ts i).ks j).k pq);[qa,vz,qa]) (aF (aC (aP (aC (aC (aP (aP (aC (aC (aP (aC (mD [(1,(vi z)),(4,vz),(5,(vi (nM (gK (gT ts i).ks j).k pq))),(6,(vs q N.length κ)),(12,(pt (nb ρ47 7))),(23,(.slice a ts.length c)),(24,(vn ts.length)),(25,(vn i)),(30,(.slice (gT ts i).ka (gT ts i).ks.length (gT ts i).kc)),(31,(vn (gT ts i).ks.length)),(32,(vn j))] [(q,(cL C 64)),(nb ρ47 7,(cL (kY (iQ (gK (gT ts i).ks j).k pq)) 66))] ?_))))))))))))
     exact mR (v:=(.tuple #[vz,vi (nM (gK (gT ts i).ks j).k pq)])) (fun _ hS=>(by rw [(pI (aV hb1) hb2 hb3 (l7 (show j<(gT ts i).ks.length from (by have:=yF hb2;omega)) hq hb17 hE) hb17).1,(pI (aV hb1) hb2 hb3 (l7 (show j<(gT ts i).ks.length from (by have:=yF hb2;omega)) hq hb17 hE) hb17).2];exact ⟨none,0,rfl,hS.bel,dB (fun _=>Us.nil)⟩))
    rw [hb17]
    refine aG (aA ?_)
    refine rSf Tryz.f79 6 [1,6,23,24,25,30,31,32] [1,0,0] (fun ρ=>let qa:=vs (nb ρ 4) (N++([(iQ (gK (gT ts i).ks j).k pq).p])).length (aZ ρ 4);[vs q N.length κ,jp (nb ρ47 7) 4,U (iQ (gK (gT ts i).ks j).k pq).p,vs (nb ρ 3) 1 1,qa,qa]) (fun ρ=>[(3,(nw ρ 3 (cL (cU (iQ (gK (gT ts i).ks j).k pq).p) 64))),(4,(bD 0 (nb ρ 4) (cL (oc ρ 4) 64)))]) (fun ρ=>[(4,fun w=>kU.A (oc ρ 4) (N++([(iQ (gK (gT ts i).ks j).k pq).p])) (aZ ρ 4))]) (fun _=>(fun w=>bM w a c ts∧kJ w∧fU w∧Is w .u32 pa pc (nI pq)∧True)) (fun ρ=>kU.A (oc ρ 4) (N++([(iQ (gK (gT ts i).ks j).k pq).p])) (aZ ρ 4)) (fun _ _ hF hf=>⟨hF,hf 4⟩) (cR [[],[],[1],[]]<|cX (qM 0 (fun ρ _ _ hG hg=>wB (K:=kU) (ty:=80) (g:=q) (ts:=N) (us:=[(iQ (gK (gT ts i).ks j).k pq).p]) Tryz.underlying80 (dA (sz:=4) (b:=32) (z:=(U 0)) (by kernel_rfl) rfl) hA (src_u1 Tryz.underlying80 (hG.kn (g:=nb ρ 3) (o:=(cL (cU (iQ (gK (gT ts i).ks j).k pq).p) 64)) 26)) (by have:=kn_len (aV hb1) hN;have:=zN (R:=aK (ts.drop (i+1))) (show j<(gT ts i).ks.length from (by have:=yF hb2;omega));simp only [List.length_cons,List.length_nil];omega) (by decide) hg))<|jE [[]]) (fun ρ50 ap50_4=>?_)
    refine aJ (aA ?_)
    refine rS Tryz.f79 2 [1,6,23,24,25,30,31,32] [] (fun _=>[vn (j+1),vn (j+1)]) (fun _=>[]) (jW (fun ρ=>(((j:Nat):Int)+1)) (fun _=>(j+1)) (fun _=>(aW j 1 (by have:=yF hb2;omega)))<|jE [[]]) (fun _=>?_)
    refine nD (fun w=>bM w a c ts∧kJ w∧fU w∧True) (fun w hF=>⟨hF.1,hF.2.1,hF.2.2.1,trivial⟩) ?_
    exact mN ((j+1,nb ρ50 4,N++([(iQ (gK (gT ts i).ks j).k pq).p]),oc ρ50 4,aZ ρ50 4)) (by show (gT ts i).ks.length-(j+1)<(gT ts i).ks.length-j;have:=yF hb2;omega) (⟨(by have:=yF hb2;omega),wV (show j<(gT ts i).ks.length from (by have:=yF hb2;omega)) hq hN,xJ (show j<(gT ts i).ks.length from (by have:=yF hb2;omega)) hq hb17 hE,ap50_4,(fun n hn=>(List.mem_append.1 hn).elim (hM n) (fun hn=>by rw [List.mem_singleton.1 hn];exact (yR (ho.gK i j).k hq32).p))⟩) []
   intro J3
   rcases Bool.eq_false_or_eq_true (gK (gT ts i).ks j).pa.isNone with hb18 | hb18
   ·
    refine sS Tryz.f79 4 [1,6,10,11,23,24,25,30,31,32] [] (fun _=>[jp (nb ρ46 2) 43,.slice (gK (gT ts i).ks j).pa (nI (gK (gT ts i).ks j).ps).length (gK (gT ts i).ks j).pc,vz,vz]) (fun _=>[]) (cR [[],[1]]<|cX (qC (fun _ _ w hG=>yK (gK (gT ts i).ks j).pa (gK (gT ts i).ks j).pc (gK (gT ts i).ks j).ps hb18 w ((hG.fn.1.sub _ (fA (show i<ts.length from (by have:=yF hb2;omega)))).sub _ (nU (show j<(gT ts i).ks.length from (by have:=yF hb2;omega))))))<|jE [[]]) (fun _=>?_)
    refine aB (jM Tryz.f79 2 [1,6,10,11,23,24,25,30,31,32,40] [] [jp (nb ρ46 2) 44,.bool (gK (gT ts i).ks j).wd] [[],[1]] ?_)
    refine oC (gK (gT ts i).ks j).wd (fun hb19=>?_) (fun hb19=>?_)
    ·
     rw [hb19]
     refine rS Tryz.f79 6 [1,6,10,11,23,24,25,30,31,32] [1,1,0,1] (fun ρ=>let qa:=vs (nb ρ 4) (nI ([z.toNat])).length ((nI ([z.toNat])).length+aZ ρ 4);[vz,vi z,vu z.toNat,vs (nb ρ 3) 1 1,qa,qa]) (fun ρ=>[(3,(nw ρ 3 (cL #[vu z.toNat] 55))),(4,(nw ρ 4 (cL ((kI.r ([z.toNat])).toArray++Builtin.zeroCells (Value.cells (.int .u32 0)) (aZ ρ 4)) 55)))]) (cR [[],[]]<|cA (fun _=>(vu z.toNat)) (fun _=>jN (u32Z hb2 hb3))<|cR [[]]<|cX (qN (fun _ ζ=>(vs (ζ.headD 0) (nI ([z.toNat])).length ((nI ([z.toNat])).length+ζ.tail.headD 0))) (fun _ ζ=>(cL ((kI.r ([z.toNat])).toArray++Builtin.zeroCells (Value.cells (.int .u32 0)) (ζ.tail.headD 0)) 55)) (fun ρ _ _ hG=>appI_nil (ty:=67) (us:=[z.toNat]) Tryz.underlying67 (dA (sz:=1) (b:=4) (z:=(.int .u32 0)) (by kernel_rfl) rfl) (tJ Tryz.underlying67 (hG.kn (g:=nb ρ 3) (o:=(cL #[vu z.toNat] 55)) 26)) (Nat.le_of_ble_eq_true rfl) (Nat.le_of_ble_eq_true rfl) (by decide)))<|jE [[]]) (fun ρ54=>?_)
     refine aA ?_
     refine lK [(1,(vi z)),(6,(vs q N.length κ)),(10,(pt (nb ρ46 2))),(11,(vs (nb ρ54 4) (nI ([z.toNat])).length ((nI ([z.toNat])).length+aZ ρ54 4))),(23,(.slice a ts.length c)),(24,(vn ts.length)),(25,(vn i)),(30,(.slice (gT ts i).ka (gT ts i).ks.length (gT ts i).kc)),(31,(vn (gT ts i).ks.length)),(32,(vn j))] [(q,(cL C 64)),(nb ρ46 2,(cL (dO.row (gK (gT ts i).ks j)) 69)),(nb ρ54 4,(cL ((kI.r ([z.toNat])).toArray++Builtin.zeroCells (Value.cells (.int .u32 0)) (aZ ρ54 4)) 55))] ?_
     exact okE J3 (some ⟨nb ρ54 4,0,none⟩,(nI ([z.toNat])).length+aZ ρ54 4,[z.toNat]) (⟨(ix_b hb19 (hf0.pathN (show i<ts.length from (by have:=yF hb2;omega)) (show j<(gT ts i).ks.length from (by have:=yF hb2;omega)) hb18)),(fun x hx=>by rw [List.mem_singleton.1 hx];exact (z32n hb2 hb3))⟩) (fun w hS=>(hS.frozI (e:=55) (fr:=(0,0)) 2 (RowK.A.fresh (K:=kI) (z:=(.int .u32 0)) rfl ([z.toNat]) (aZ ρ54 4)) (by have:=jC (aV hb1) (show i<ts.length from (by have:=yF hb2;omega)) (show j<(gT ts i).ks.length from (by have:=yF hb2;omega));simp only [List.length_cons,List.length_nil];omega) []).weaken (fun w hF=>⟨hF.2.1,hF.2.2.1,hF.2.2.2.1,hF.1,trivial⟩))
    rw [hb19]
    refine aG (aA ?_)
    refine lK [(1,(vi z)),(6,(vs q N.length κ)),(10,(pt (nb ρ46 2))),(11,vz),(23,(.slice a ts.length c)),(24,(vn ts.length)),(25,(vn i)),(30,(.slice (gT ts i).ka (gT ts i).ks.length (gT ts i).kc)),(31,(vn (gT ts i).ks.length)),(32,(vn j)),(40,vF)] [(q,(cL C 64)),(nb ρ46 2,(cL (dO.row (gK (gT ts i).ks j)) 69))] ?_
    exact okE J3 (none,0,[]) (⟨(ix_a hb19 (hf0.pathN (show i<ts.length from (by have:=yF hb2;omega)) (show j<(gT ts i).ks.length from (by have:=yF hb2;omega)) hb18)),(by simp)⟩) (fun w hS=>(hS.frozN (k:=.u32) (a:=none) (c:=0) []).weaken (fun w hF=>⟨hF.2.1,hF.2.2.1,hF.2.2.2.1,hF.1,trivial⟩))
   refine iZ Tryz.f79 4 [1,6,10,11,23,24,25,30,31,32] [] (fun ρ=>let qa:=vs (nb ρ 2) (nI (gK (gT ts i).ks j).ps).length (aZ ρ 2);[jp (nb ρ46 2) 43,.slice (gK (gT ts i).ks j).pa (nI (gK (gT ts i).ks j).ps).length (gK (gT ts i).ks j).pc,qa,qa]) (fun ρ=>[(2,(nw ρ 2 (cL (oc ρ 2) 55)))]) (fun ρ=>[(2,fun w=>kI.A (oc ρ 2) (gK (gT ts i).ks j).ps (aZ ρ 2))]) (fun _=>(fun w=>bM w a c ts∧kJ w∧fU w∧True)) (fun ρ=>kI.A (oc ρ 2) (gK (gT ts i).ks j).ps (aZ ρ 2)) (fun _ _ hF hf=>⟨hF,hf 2⟩) (cR [[],[1]]<|cX (xAW _ 58 (fun _=> #[.slice (gK (gT ts i).ks j).pa (nI (gK (gT ts i).ks j).ps).length (gK (gT ts i).ks j).pc]) (fun _ r=>(vs (r.n.headD 0) (nI (gK (gT ts i).ks j).ps).length (r.n.tail.headD 0))) (fun _ r=>(cL (uG r) 55)) (fun _ r=>kI.A (uG r) (gK (gT ts i).ks j).ps (r.n.tail.headD 0)) (fun _ _=>(by kernel_rfl)) (fun _ _=>(by kernel_rfl)) (fun _ _=>(by kernel_rfl)) (fun _ _=>(by kernel_rfl)) (fun _ _ w hG=>yP (gK (gT ts i).ks j).pa (gK (gT ts i).ks j).pc (gK (gT ts i).ks j).ps hb18 (jC (aV hb1) (show i<ts.length from (by have:=yF hb2;omega)) (show j<(gT ts i).ks.length from (by have:=yF hb2;omega))) w ((hG.fn.1.sub _ (fA (show i<ts.length from (by have:=yF hb2;omega)))).sub _ (nU (show j<(gT ts i).ks.length from (by have:=yF hb2;omega))))))<|jE [[]]) (fun ρ55 ap55_2=>?_)
   refine aB (jM Tryz.f79 2 [1,6,10,11,23,24,25,30,31,32,40] [] [jp (nb ρ46 2) 44,.bool (gK (gT ts i).ks j).wd] [[],[1]] ?_)
   refine oC (gK (gT ts i).ks j).wd (fun hb20=>?_) (fun hb20=>?_)
   ·
    rw [hb20]
    refine rSf Tryz.f79 6 [1,6,10,11,23,24,25,30,31,32] [1,1,1,0] (fun ρ=>let qa:=vs (nb ρ 4) (nI ((gK (gT ts i).ks j).ps++([z.toNat]))).length (aZ ρ 4);[vs (nb ρ55 2) (nI (gK (gT ts i).ks j).ps).length (aZ ρ55 2),vi z,vu z.toNat,vs (nb ρ 3) 1 1,qa,qa]) (fun ρ=>[(3,(nw ρ 3 (cL #[vu z.toNat] 55))),(4,(bD 2 (nb ρ 4) (cL (oc ρ 4) 55)))]) (fun ρ=>[(4,fun w=>kI.A (oc ρ 4) ((gK (gT ts i).ks j).ps++([z.toNat])) (aZ ρ 4))]) (fun _=>(fun w=>bM w a c ts∧kJ w∧fU w∧True)) (fun ρ=>kI.A (oc ρ 4) ((gK (gT ts i).ks j).ps++([z.toNat])) (aZ ρ 4)) (fun _ _ hF hf=>⟨hF,hf 4⟩) (cR [[],[]]<|cA (fun _=>(vu z.toNat)) (fun _=>jN (u32Z hb2 hb3))<|cR [[]]<|cX (qM 2 (fun ρ _ _ hG hg=>lT (ty:=67) (g:=nb ρ55 2) (ts:=(gK (gT ts i).ks j).ps) (us:=[z.toNat]) Tryz.underlying67 (dA (sz:=1) (b:=4) (z:=(.int .u32 0)) (by kernel_rfl) rfl) ap55_2 (tJ Tryz.underlying67 (hG.kn (g:=nb ρ 3) (o:=(cL #[vu z.toNat] 55)) 27)) (by have:=jC (aV hb1) (show i<ts.length from (by have:=yF hb2;omega)) (show j<(gT ts i).ks.length from (by have:=yF hb2;omega));simp only [List.length_cons,List.length_nil];omega) (by decide) hg))<|jE [[]]) (fun ρ57 ap57_4=>?_)
    refine aA ?_
    refine lK [(1,(vi z)),(6,(vs q N.length κ)),(10,(pt (nb ρ46 2))),(11,(vs (nb ρ57 4) (nI ((gK (gT ts i).ks j).ps++([z.toNat]))).length (aZ ρ57 4))),(23,(.slice a ts.length c)),(24,(vn ts.length)),(25,(vn i)),(30,(.slice (gT ts i).ka (gT ts i).ks.length (gT ts i).kc)),(31,(vn (gT ts i).ks.length)),(32,(vn j))] [(q,(cL C 64)),(nb ρ46 2,(cL (dO.row (gK (gT ts i).ks j)) 69)),(nb ρ57 4,(cL (oc ρ57 4) 55))] ?_
    exact okE J3 (some ⟨nb ρ57 4,0,none⟩,aZ ρ57 4,(gK (gT ts i).ks j).ps++[z.toNat]) (⟨ix_d hb20,(fun x hx=>(List.mem_append.1 hx).elim ((ho.gK i j).ps x) (fun hx=>by rw [List.mem_singleton.1 hx];exact (z32n hb2 hb3)))⟩) (fun w hS=>(hS.frozI (e:=55) (fr:=(0,0)) 2 ap57_4 (by have:=jC (aV hb1) (show i<ts.length from (by have:=yF hb2;omega)) (show j<(gT ts i).ks.length from (by have:=yF hb2;omega));simp only [List.length_append,List.length_cons,List.length_nil];omega) []).weaken (fun w hF=>⟨hF.2.1,hF.2.2.1,hF.2.2.2.1,hF.1,trivial⟩))
   rw [hb20]
   refine aG (aA ?_)
   refine lK [(1,(vi z)),(6,(vs q N.length κ)),(10,(pt (nb ρ46 2))),(11,(vs (nb ρ55 2) (nI (gK (gT ts i).ks j).ps).length (aZ ρ55 2))),(23,(.slice a ts.length c)),(24,(vn ts.length)),(25,(vn i)),(30,(.slice (gT ts i).ka (gT ts i).ks.length (gT ts i).kc)),(31,(vn (gT ts i).ks.length)),(32,(vn j)),(40,vF)] [(q,(cL C 64)),(nb ρ46 2,(cL (dO.row (gK (gT ts i).ks j)) 69)),(nb ρ55 2,(cL (oc ρ55 2) 55))] ?_
   exact okE J3 (some ⟨nb ρ55 2,0,none⟩,aZ ρ55 2,(gK (gT ts i).ks j).ps) (⟨ix_c hb20,(ho.gK i j).ps⟩) (fun w hS=>(hS.frozI (e:=55) (fr:=(0,0)) 2 ap55_2 (by have:=jC (aV hb1) (show i<ts.length from (by have:=yF hb2;omega)) (show j<(gT ts i).ks.length from (by have:=yF hb2;omega));omega) []).weaken (fun w hF=>⟨hF.2.1,hF.2.2.1,hF.2.2.2.1,hF.1,trivial⟩))
  rw [hb16]
  have:=yF hb16
  refine bF (aN (aN (aT (aJ (aA ?_)))))
  refine rS Tryz.f79 2 [1,6,23,24,25] [] (fun _=>[vn (i+1),vn (i+1)]) (fun _=>[]) (jW (fun ρ=>(((i:Nat):Int)+1)) (fun _=>(i+1)) (fun _=>(aW i 1 (by have:=yF hb2;omega)))<|jE [[]]) (fun _=>?_)
  exact mN (Sum.inr (i+1,q,N,C,κ)) (by show ts.length-(i+1)<ts.length-i;have:=yF hb2;omega) (⟨(by have:=yF hb2;omega),kn_out (by have:=yF hb2;omega) hN,ke_out (by have:=yF hb2;omega) hE,hA,hM⟩) []
 rw [hb15]
 have:=ho.klen hf0 i
 refine bF (aN (aN (aT (aA (jJ Tryz.f79 3 [4,5] [vs q N.length κ,vs q N.length κ,vi 0] (aF (mD [(4,(vs q N.length κ)),(5,(vi 0))] [(q,(cL C 64))] ?_)))))))
 exact mR (v:=(.tuple #[vs q N.length κ,vi 0])) (fun _ hS=>(by rw [(ky_ok (aV hb1) hb2 hb3 (by have:=yF hb2;have:=yF hb15;omega) hE0 hN0).1,(ky_ok (aV hb1) hb2 hb3 (by have:=yF hb2;have:=yF hb15;omega) hE0 hN0).2];exact ⟨some ⟨q,0,none⟩,κ,rfl,hS.bel,Us.new (hS.newb (.head _)) hA (by have:=kn_len (aV hb1) hN0;omega) hM⟩))
theorem xAL (a:Option Addr) (c:Nat) (ts:List bW) (z:Int) (h2:∀ t∈ts,t.kd=1) (w0:World) (hf0:bM w0 a c ts) (hf1:kJ w0) (hf2:fU w0):Calls Tryz.prog 55 #[.slice a ts.length c,vi z] w0 (fun ε w'=>∃ α κ,ε=.returned (.tuple #[.slice α (wG ts z).length κ,vi (pX ts z)])∧jG w0 w'∧Fs w0 w' α κ (wG ts z)):=by
 refine Calls.of_ok (n:=33) (F:=(fun w=>bM w a c ts∧kJ w∧fU w∧True)) Tryz.func55 rfl rfl rfl (by simp) (hf0.pers0.and (hf1.pers0.and (hf2.pers0.and cO))) ?_
 refine jJ Tryz.f55 2 [0,1,4,5] [vz,vi 0] ?_
 refine iZ Tryz.f55 8 [0,4,5,6,7] [] (fun ρ=>let qa:Value:=.slice (oa ρ 2) (gV ts z).length (nb ρ 2);[.slice a ts.length c,vi z,.tuple #[qa,vi (kZ ts z)],.tuple #[qa,vi (kZ ts z)],qa,vi (kZ ts z),qa,vi (kZ ts z)]) (fun _=>[]) (fun ρ=>[(2,fun w=>Us w (oa ρ 2) (nb ρ 2) (gV ts z))]) (fun ρ=>(fun w=>bM w a c ts∧kJ w∧fU w∧Us w (oa ρ 2) (nb ρ 2) (gV ts z)∧True)) (fun _=>True) (fun _ _ hF hf=>⟨⟨hF.1,hF.2.1,hF.2.2.1,hf 2,trivial⟩,trivial⟩) (cR [[],[]]<|cX (qV (fun _ _ w hG=>dkeys_any a c ts z w hG.fn.1 hG.fn.2.1 hG.fn.2.2.1))<|jE [[],[],[],[],[]]) (fun ρ2 _=>?_)
 refine aB (jJ Tryz.f55 2 [0,4,5,6,7,17] [vi (kZ ts z),.bool ((kZ ts z) != 0)] ?_)
 refine oC ((kZ ts z) != 0) (fun hb1=>?_) (fun hb1=>?_)
 ·
  rw [hb1]
  refine jJ Tryz.f55 3 [0,4,5,6,7] [vi (kZ ts z),vz,vi (kZ ts z)] (aF (aC (mD [(0,(.slice a ts.length c)),(4,vz),(5,(vi (kZ ts z))),(6,(.slice (oa ρ2 2) (gV ts z).length (nb ρ2 2))),(7,(vi (kZ ts z)))] [] ?_)))
  exact mR (v:=(.tuple #[vz,vi (kZ ts z)])) (fun _ hS=>⟨none,0,congrArg Ending.returned (by rw [(ex_err hb1).1,(ex_err hb1).2]<;>rfl),hS.bel,dU (ex_err hb1).2.symm Fs.nil⟩)
 rw [hb1]
 refine aG (aA ?_)
 refine sS Tryz.f55 5 [4,5,7,8] [] (fun ρ=>let qa:Value:=.slice (oa ρ2 2) (gV ts z).length (nb ρ2 2);[.slice a ts.length c,qa,.agg #[.slice a ts.length c,qa],pt (nb ρ 3),undef]) (fun ρ=>[(3,(nw ρ 3 (cL #[vz,vz] 113))),(4,(bD 24 (nb ρ 3) (cL #[.slice a ts.length c,.slice (oa ρ2 2) (gV ts z).length (nb ρ2 2)] 113)))]) (jE [[],[],[],[],[24]]) (fun ρ5=>?_)
 refine iZ Tryz.f55 6 [4,5,7,9] [0] (fun ρ=>let qa:Value:=.slice (oa ρ 0) (xP ts z).length (nb ρ 0);[.tuple #[qa,vi 0],.tuple #[qa,vi 0],qa,vi 0,qa,vi 0]) (fun _=>[(0,(bD 0 (nb ρ5 3) (cL #[.slice (nxS (Mk.mk a c ts (oa ρ2 2) (nb ρ2 2) (gV ts z))).ta (nxS (Mk.mk a c ts (oa ρ2 2) (nb ρ2 2) (gV ts z))).ts.length (nxS (Mk.mk a c ts (oa ρ2 2) (nb ρ2 2) (gV ts z))).tc,.slice (nxS (Mk.mk a c ts (oa ρ2 2) (nb ρ2 2) (gV ts z))).ka (nxS (Mk.mk a c ts (oa ρ2 2) (nb ρ2 2) (gV ts z))).ns.length (nxS (Mk.mk a c ts (oa ρ2 2) (nb ρ2 2) (gV ts z))).kc] 113)))]) (fun ρ=>[(0,fun w=>Fs w0 w (oa ρ 0) (nb ρ 0) (xP ts z))]) (fun ρ=>(fun w=>bM w a c ts∧kJ w∧fU w∧Us w (oa ρ2 2) (nb ρ2 2) (gV ts z)∧Fs w0 w (oa ρ 0) (nb ρ 0) (xP ts z)∧True)) (fun _=>True) (fun _ _ hF hf=>⟨⟨hF.1,hF.2.1,hF.2.2.1,hF.2.2.2.1,hf 0,trivial⟩,trivial⟩) (cX (qWB [0] (fun _ _ w hG hK=>nextx_any (g:=nb ρ5 3) (a:=a) (c:=c) (b:=(oa ρ2 2)) (d:=(nb ρ2 2)) hb1 h2 w hK (hG.pK [0] (fun _ hF=>⟨hF.1,hF.2.2.2.1,trivial⟩))))<|jE [[],[],[],[],[]]) (fun ρ6 _=>?_)
 refine aB (jJ Tryz.f55 2 [4,5,7,9,27] [vi 0,vF] ?_)
 refine oN ?_
 refine aG (aA (aB (jJ Tryz.f55 3 [4,5,9,31] [.slice (oa ρ6 0) (xP ts z).length (nb ρ6 0),vn (xP ts z).length,.bool (decide (520<(((xP ts z).length:Nat):Int)))] ?_)))
 refine lK [(4,vz),(5,(vi 0)),(9,(.slice (oa ρ6 0) (xP ts z).length (nb ρ6 0))),(31,(.bool (decide (520<(((xP ts z).length:Nat):Int)))))] [] ?_
 refine oC (decide (520<(((xP ts z).length:Nat):Int))) (fun hb2=>?_) (fun hb2=>?_)
 ·
  rw [hb2]
  refine jJ Tryz.f55 2 [4,5,9] [vz,vi 4] (aF (aC (mD [(4,vz),(5,(vi 4)),(9,(.slice (oa ρ6 0) (xP ts z).length (nb ρ6 0)))] [] ?_)))
  exact mR (v:=(.tuple #[vz,vi 4])) (fun _ hS=>⟨none,0,congrArg Ending.returned (by rw [(wQ hb1 hb2).1,(wQ hb1 hb2).2]<;>rfl),hS.bel,dU (wQ hb1 hb2).2.symm Fs.nil⟩)
 rw [hb2]
 refine aG (aA (jJ Tryz.f55 3 [4,5] (let qa:Value:=.slice (oa ρ6 0) (xP ts z).length (nb ρ6 0);[qa,qa,vi 0]) (aF (mD [(4,(.slice (oa ρ6 0) (xP ts z).length (nb ρ6 0))),(5,(vi 0))] [] ?_))))
 exact mR (v:=(.tuple #[.slice (oa ρ6 0) (xP ts z).length (nb ρ6 0),vi 0])) (fun _ hS=>⟨oa ρ6 0,nb ρ6 0,congrArg Ending.returned (by rw [(ex_ok hb1 hb2).1,(ex_ok hb1 hb2).2]<;>rfl),hS.bel,dU (ex_ok hb1 hb2).2.symm hS.facts.now.2.2.2.2.1⟩)
theorem wgrow_any (a:Option Addr) (c:Nat) (ts:List bW) (n:Nat) (h2:∀ t∈ts,t.kd=1) (hn:n≤40) (hE:∀ i,i<n→pX ts ((i:Nat):Int)=0) (w0:World) (hf0:bM w0 a c ts) (hf1:kJ w0) (hf2:fU w0) (T:Nat→Prop) (hT:∀ b,T b→b<w0.heap.size):Calls Tryz.prog 33 #[vz,.slice a ts.length c,vn n] w0 (fun ε w'=>jG w0 w'∧∃ a c s,ε=.returned (.tuple #[.slice a (List.length s) c,.int .i64 0])∧mX w0.heap.size a∧sK w0.heap.size s∧dL T (fun w=>bI w a c s∧sB s=gwB ts n) w'):=by
 refine Calls.of_ok (n:=29) (F:=(fun w=>bM w a c ts∧kJ w∧fU w∧True)) Tryz.func33 rfl rfl rfl (by simp) (hf0.pers0.and (hf1.pers0.and (hf2.pers0.and cO))) ?_
 refine jJ Tryz.f33 2 [0,1,2,6,7] [vz,vi 0] (aB (aI ?_))
 refine oLF (σ:=Nat ⊕ (Nat × (Array Value) × (List bU) × Nat)) (fun s=>match s with | Sum.inl _=>(fun w=>bM w a c ts∧kJ w∧fU w∧True) | Sum.inr ⟨_,_,M,_⟩=>(fun w=>bM w a c ts∧kJ w∧fU w∧dN w M∧True)) (fun s=>match s with | Sum.inl _=>[(0,vz),(1,(.slice a ts.length c)),(2,(vn n))] | Sum.inr ⟨q,_,M,κ⟩=>[(0,(vs q M.length κ)),(1,(.slice a ts.length c)),(2,(vn n))]) (fun s=>match s with | Sum.inl _=>[] | Sum.inr ⟨q,C,_,_⟩=>[(q,(cL C 37))]) (fun s=>match s with | Sum.inl z0=>n-z0 | Sum.inr ⟨_,_,M,_⟩=>n-M.length)
   (fun s=>match s with | Sum.inl z0=>(z0=0) | Sum.inr ⟨_,C,M,κ⟩=>(sB M=gwB ts M.length)∧(kW.A C M κ)∧(M.length≤n)∧(0<M.length)∧(sK w0.heap.size M)) (Sum.inl 0) (rfl) (fun w hF=>hF) [] ?_
 rintro (z0 | ⟨q,C,M,κ⟩)
 ·
  rintro hz
  change Ok Tryz.prog _ _ 29 [(0,vz),(1,(.slice a ts.length c)),(2,(vn n))] _ [] (fun w=>bM w a c ts∧kJ w∧fU w∧True)
  refine aB (jJ Tryz.f33 4 [0,1,2,13] [vz,vi 0,vn n,.bool (decide (0<((n:Nat):Int)))] ?_)
  refine oC (decide (0<((n:Nat):Int))) (fun hb1=>?_) (fun hb1=>?_)
  ·
   rw [hb1]
   have:=yT hb1
   refine aG (aA (aI ?_))
   refine iZ Tryz.f33 9 [0,1,2,8,9] [] (fun ρ=>let qa:Value:=.slice (oa ρ 3) (wG ts 0).length (nb ρ 3);[.slice a ts.length c,vz,vi 0,.tuple #[qa,vi (pX ts 0)],.tuple #[qa,vi (pX ts 0)],qa,vi (pX ts 0),qa,vi (pX ts 0)]) (fun _=>[]) (fun ρ=>[(3,fun w=>Fs w0 w (oa ρ 3) (nb ρ 3) (wG ts 0))]) (fun ρ=>(fun w=>bM w a c ts∧kJ w∧fU w∧Fs w0 w (oa ρ 3) (nb ρ 3) (wG ts 0)∧True)) (fun _=>True) (fun _ _ hF hf=>⟨⟨hF.1,hF.2.1,hF.2.2.1,hf 3,trivial⟩,trivial⟩) (cR [[],[],[]]<|cX (qB (fun _ _ w hG=>xAL a c ts 0 h2 w hG.fn.1 hG.fn.2.1 hG.fn.2.2.1))<|jE [[],[],[],[],[]]) (fun ρ3 _=>?_)
   refine aB ?_
   refine sS Tryz.f33 2 [0,1,2,8,9,22] [] (fun _=>[vi (pX ts 0),vF]) (fun _=>[]) (cR [[]]<|jQ (fun ρ=>((pX ts 0) != 0)) false (fun _=>(bne_f (hE 0 (by omega))))<|cN) (fun _=>?_)
   refine oN ?_
   refine aG (aA ?_)
   refine xAN (p:=sK w0.heap.size [⟨oa ρ3 3,nb ρ3 3,wG ts 0⟩]) (fun w hF=>sK.one hF.2.2.2.1) (fun hx=>?_)
   refine rS Tryz.f33 5 [0,1,2] [0,1] (fun ρ=>let qa:=[bU.mk (oa ρ3 3) (nb ρ3 3) (wG ts 0)];let qb:=vs (nb ρ 3) qa.length (qa.length+aZ ρ 3);[vz,.slice (oa ρ3 3) (wG ts 0).length (nb ρ3 3),vs (nb ρ 2) 1 1,qb,qb]) (fun ρ=>[(2,(nw ρ 2 (cL #[.slice (oa ρ3 3) (wG ts 0).length (nb ρ3 3)] 37))),(3,(nw ρ 3 (cL ((kW.r ([bU.mk (oa ρ3 3) (nb ρ3 3) (wG ts 0)])).toArray++Builtin.zeroCells (Value.cells vz) (aZ ρ 3)) 37)))]) (cR [[],[],[]]<|cX (qN (fun _ ζ=>(vs (ζ.headD 0) ([bU.mk (oa ρ3 3) (nb ρ3 3) (wG ts 0)]).length (([bU.mk (oa ρ3 3) (nb ρ3 3) (wG ts 0)]).length+ζ.tail.headD 0))) (fun _ ζ=>(cL ((kW.r ([bU.mk (oa ρ3 3) (nb ρ3 3) (wG ts 0)])).toArray++Builtin.zeroCells (Value.cells vz) (ζ.tail.headD 0)) 37)) (fun ρ _ _ hG=>xAP (K:=kW) (ty:=29) (us:=[bU.mk (oa ρ3 3) (nb ρ3 3) (wG ts 0)]) Tryz.underlying29 (dA (sz:=1) (b:=24) (z:=vz) (by kernel_rfl) rfl) (xAM Tryz.underlying29 rfl (hG.kn (g:=nb ρ 2) (o:=(cL #[.slice (oa ρ3 3) (wG ts 0).length (nb ρ3 3)] 37)) 16)) (Nat.le_of_ble_eq_true rfl) (Nat.le_of_ble_eq_true rfl) (by decide)))<|jE [[]]) (fun ρ5=>?_)
   refine aJ (mD [(0,(vs (nb ρ5 3) ([bU.mk (oa ρ3 3) (nb ρ3 3) (wG ts 0)]).length (([bU.mk (oa ρ3 3) (nb ρ3 3) (wG ts 0)]).length+aZ ρ5 3))),(1,(.slice a ts.length c)),(2,(vn n))] [(nb ρ5 3,(cL ((kW.r ([bU.mk (oa ρ3 3) (nb ρ3 3) (wG ts 0)])).toArray++Builtin.zeroCells (Value.cells vz) (aZ ρ5 3)) 37))] ?_)
   exact mNF (Sum.inr (nb ρ5 3,(kW.r ([bU.mk (oa ρ3 3) (nb ρ3 3) (wG ts 0)])).toArray++Builtin.zeroCells (Value.cells vz) (aZ ρ5 3),[bU.mk (oa ρ3 3) (nb ρ3 3) (wG ts 0)],([bU.mk (oa ρ3 3) (nb ρ3 3) (wG ts 0)]).length+aZ ρ5 3)) (by show n-([bU.mk (oa ρ3 3) (nb ρ3 3) (wG ts 0)]).length<n-z0;have:=hz;simp only [List.length_cons,List.length_nil];omega) (⟨(show [wG ts ((0:Nat):Int)]=gwB ts 1 from rfl),RowK.A.fresh (K:=kW) (z:=vz) rfl ([bU.mk (oa ρ3 3) (nb ρ3 3) (wG ts 0)]) (aZ ρ5 3),(by simp only [List.length_cons,List.length_nil];omega),Nat.le_of_ble_eq_true rfl,hx⟩) (fun w hS=>hS.weaken (fun w hF=>⟨hF.1,hF.2.1,hF.2.2.1,dN.one hF.2.2.2.1.1,trivial⟩))
  rw [hb1]
  refine bF (aN (aN (aT (aA (jJ Tryz.f33 3 [6,7] [vz,vz,vi 0] (aF (mD [(6,vz),(7,(vi 0))] [] ?_)))))))
  exact mR (v:=(.tuple #[vz,vi 0])) (fun _ hS=>⟨hS.bel,none,0,[],rfl,mX.none,tK.nil,dB (fun _=>⟨bI.nil,(by rw [show n=0 by have:=yF hb1;omega];rfl)⟩)⟩)
 rintro ⟨hM,hA,hm,h0,hN⟩
 change Ok Tryz.prog _ _ 29 [(0,(vs q M.length κ)),(1,(.slice a ts.length c)),(2,(vn n))] _ [(q,(cL C 37))] (fun w=>bM w a c ts∧kJ w∧fU w∧dN w M∧True)
 refine aB (jJ Tryz.f33 4 [0,1,2,13] [vs q M.length κ,vn M.length,vn n,.bool (decide (((M.length:Nat):Int)<((n:Nat):Int)))] ?_)
 refine oC (decide (((M.length:Nat):Int)<((n:Nat):Int))) (fun hb2=>?_) (fun hb2=>?_)
 ·
  rw [hb2]
  have:=yT hb2
  refine aG (aA (aI ?_))
  refine iZ Tryz.f33 9 [0,1,2,8,9] [] (fun ρ=>let qa:Value:=.slice (oa ρ 3) (wG ts ((M.length:Nat):Int)).length (nb ρ 3);let qb:=vi (pX ts ((M.length:Nat):Int));[.slice a ts.length c,vs q M.length κ,vn M.length,.tuple #[qa,qb],.tuple #[qa,qb],qa,qb,qa,qb]) (fun _=>[]) (fun ρ=>[(3,fun w=>Fs w0 w (oa ρ 3) (nb ρ 3) (wG ts ((M.length:Nat):Int)))]) (fun ρ=>(fun w=>bM w a c ts∧kJ w∧fU w∧dN w M∧Fs w0 w (oa ρ 3) (nb ρ 3) (wG ts ((M.length:Nat):Int))∧True)) (fun _=>True) (fun _ _ hF hf=>⟨⟨hF.1,hF.2.1,hF.2.2.1,hF.2.2.2.1,hf 3,trivial⟩,trivial⟩) (cR [[],[],[]]<|cX (qB (fun _ _ w hG=>xAL a c ts ((M.length:Nat):Int) h2 w hG.fn.1 hG.fn.2.1 hG.fn.2.2.1))<|jE [[],[],[],[],[]]) (fun ρ8 _=>?_)
  refine aB ?_
  refine sS Tryz.f33 2 [0,1,2,8,9,22] [] (fun _=>[vi (pX ts ((M.length:Nat):Int)),vF]) (fun _=>[]) (cR [[]]<|jQ (fun ρ=>((pX ts ((M.length:Nat):Int)) != 0)) false (fun _=>(bne_f (hE M.length (by omega))))<|cN) (fun _=>?_)
  refine oN ?_
  refine aG (aA ?_)
  refine xAN (p:=sK w0.heap.size [⟨oa ρ8 3,nb ρ8 3,wG ts ((M.length:Nat):Int)⟩]) (fun w hF=>sK.one hF.2.2.2.2.1) (fun hx=>?_)
  refine rSf Tryz.f33 5 [0,1,2] [1,0] (fun ρ=>let qa:=vs (nb ρ 3) (M++([bU.mk (oa ρ8 3) (nb ρ8 3) (wG ts ((M.length:Nat):Int))])).length (aZ ρ 3);[vs q M.length κ,.slice (oa ρ8 3) (wG ts ((M.length:Nat):Int)).length (nb ρ8 3),vs (nb ρ 2) 1 1,qa,qa]) (fun ρ=>[(2,(nw ρ 2 (cL #[.slice (oa ρ8 3) (wG ts ((M.length:Nat):Int)).length (nb ρ8 3)] 37))),(3,(bD 0 (nb ρ 3) (cL (oc ρ 3) 37)))]) (fun ρ=>[(3,fun w=>kW.A (oc ρ 3) (M++([bU.mk (oa ρ8 3) (nb ρ8 3) (wG ts ((M.length:Nat):Int))])) (aZ ρ 3))]) (fun _=>(fun w=>bM w a c ts∧kJ w∧fU w∧dN w M∧Fs w0 w (oa ρ8 3) (nb ρ8 3) (wG ts ((M.length:Nat):Int))∧True)) (fun ρ=>kW.A (oc ρ 3) (M++([bU.mk (oa ρ8 3) (nb ρ8 3) (wG ts ((M.length:Nat):Int))])) (aZ ρ 3)) (fun _ _ hF hf=>⟨hF,hf 3⟩) (cR [[],[],[]]<|cX (qM 0 (fun ρ _ _ hG hg=>wB (K:=kW) (ty:=29) (g:=q) (ts:=M) (us:=[bU.mk (oa ρ8 3) (nb ρ8 3) (wG ts ((M.length:Nat):Int))]) Tryz.underlying29 (dA (sz:=1) (b:=24) (z:=vz) (by kernel_rfl) rfl) hA (xAM Tryz.underlying29 rfl (hG.kn (g:=nb ρ 2) (o:=(cL #[.slice (oa ρ8 3) (wG ts ((M.length:Nat):Int)).length (nb ρ8 3)] 37)) 17)) (by simp only [List.length_cons,List.length_nil];omega) (by decide) hg))<|jE [[]]) (fun ρ10 ap10_3=>?_)
  refine aJ (mD [(0,(vs (nb ρ10 3) (M++([bU.mk (oa ρ8 3) (nb ρ8 3) (wG ts ((M.length:Nat):Int))])).length (aZ ρ10 3))),(1,(.slice a ts.length c)),(2,(vn n))] [(nb ρ10 3,(cL (oc ρ10 3) 37))] ?_)
  exact mNF (Sum.inr (nb ρ10 3,oc ρ10 3,M++([bU.mk (oa ρ8 3) (nb ρ8 3) (wG ts ((M.length:Nat):Int))]),aZ ρ10 3)) (by show n-(M++([bU.mk (oa ρ8 3) (nb ρ8 3) (wG ts ((M.length:Nat):Int))])).length<n-M.length;simp only [List.length_append,List.length_cons,List.length_nil];omega) (⟨(by unfold sB at hM ⊢;rw [List.map_append,hM,List.length_append];exact (xAS ts M.length).symm),ap10_3,(by simp only [List.length_append,List.length_cons,List.length_nil];omega),(by simp only [List.length_append,List.length_cons,List.length_nil];omega),tK.app hN hx⟩) (fun w hS=>hS.weaken (fun w hF=>⟨hF.1,hF.2.1,hF.2.2.1,dN.app hF.2.2.2.1 (dN.one hF.2.2.2.2.1.1),trivial⟩))
 rw [hb2]
 refine bF (aN (aN (aT (aA (jJ Tryz.f33 3 [6,7] [vs q M.length κ,vs q M.length κ,vi 0] (aF (mD [(6,(vs q M.length κ)),(7,(vi 0))] [(q,(cL C 37))] ?_)))))))
 exact mR (v:=(.tuple #[vs q M.length κ,vi 0])) (fun _ hS=>⟨hS.bel,_,_,M,rfl,mX.some (hS.newb (.head _)).1,hN,(bI.fin (hS.newb (.head _)).2 hA (by have:=yF hb2;omega) hT (hS.newb (.head _)).1 (dN.mkA hS.facts.now.2.2.2.1 (fun s hs=>(hN s hs).sub hT))).mono (fun _ h=>⟨h,by rw [hM,show M.length=n by have:=yF hb2;omega]⟩)⟩)
structure MvC (w w':World) (g g':Nat) (o:Obj):Prop where
  upd:nN (fun b=>b=g) w w'
  loc:g'=g∨w.heap.size≤g'
  here:w'.heap[g']? = some o
section
variable {P : Program} {ops : Array Oper} {D : List Nat} {l : List (Nat × Value)} {w0 : Base} {h : List (Nat × Obj)} {F0 : World → Prop}
variable {vals : (Nat → bH) → Nat → Value} {effs : (Nat → bH) → Nat → Eff} {fact : (Nat → bH) → Nat → World → Prop}
theorem qMv {i:Nat} (n:Nat) {f:FuncId} {args:(Nat→bH)→Array Value} {v:(Nat→bH)→bH→Value} {g:(Nat→bH)→Nat} {ob:(Nat→bH)→Obj} {ob':(Nat→bH)→bH→Obj} {Φ:(Nat→bH)→bH→World→Prop}
    (hf:∀ ρ T w,Given ops D w0 h F0 effs fact i ρ T w→w.heap[g ρ]? = some (ob ρ)→T (g ρ)→Calls P f (args ρ) w (fun e w'=>∃ r,e=.returned (v ρ r)∧MvC w w' (g ρ) (r.n.headD 0) (ob' ρ r)∧dL (fun b=>T b∨b=r.n.headD 0) (Φ ρ r) w'))
    (hc:∀ ρ z,eU P ops D l (vals ρ) i z=some (.enter f (args ρ),[],[]):=by intros;kernel_rfl)
    (hv:∀ ρ r,vals (upd ρ i r) i=v ρ r:=by intros;kernel_rfl) (he:∀ ρ r,effs (upd ρ i r) i={ puts:=[(n,r.n.headD 0,ob' ρ r)]}:=by intros;kernel_rfl)
    (hn:∀ ρ,dY ops D h (effs ρ) i [n]=true:=by intros;kernel_rfl) (hk:∀ ρ,known ops D h (effs ρ) i [n]=[(g ρ,ob ρ)]:=by intros;kernel_rfl)
    (ht:∀ ρ r,fact (upd ρ i r) i=Φ ρ r:=by intros;kernel_rfl):jV P ops D l w0 h F0 vals effs fact i:=by
  have key:∀ ρ z,((ops[i]?).isSome=true∧fM (vals ρ) (opAt ops i)=true)∧kH P (execOp (dC ops D l (vals ρ) i) (opAt ops i)) [] [] z=some (.enter f (args ρ),[],[]):=by
    intro ρ z
    have h1:=hc ρ z
    unfold eU at h1
    split at h1
    · rename_i hb
      simp only [Bool.and_eq_true] at hb
      exact ⟨hb,h1⟩
    · exact absurd h1 (by simp)
  intro o ho ρ T w hG
  have hoe:=eY (key ρ []).1.1
  rw [ho] at hoe
  obtain rfl:o=opAt ops i:=by simpa using hoe
  rw [if_pos (key ρ []).1.2]
  obtain ⟨w1,h1,_,_,h4,_,_⟩:=kF (P:=P) (execOp (dC ops D l (vals ρ) i) (opAt ops i)) [] [] w _ _ _ (by intro y hy;simp at hy) (by simp) ((key ρ _).2) trivial
  have hb:Below w.heap.size w w1:=⟨h4.os,h4.tape,h4.output,h4.size,fun k hk=>h4.block k hk (by simp)⟩
  have hheap:∀ b,b<w.heap.size→w1.heap[b]? = w.heap[b]? := fun b hb'=>hb.block b hb'
  have hG1:Given ops D w0 h F0 effs fact i ρ T w1:=by
    have tr:∀ {F:World→Prop},dL T F w→dL T F w1:=by
      rintro F ⟨S,s1,s2⟩
      refine ⟨S,fun b hb'=>⟨Nat.lt_of_lt_of_le (s1 b hb').1 hb.size,(s1 b hb').2⟩,fun w' hw=>s2 w' (fun b hb'=>?_)⟩
      rw [hw b hb',hheap b (s1 b hb').1]
    refine ⟨fun b hb'=>Nat.lt_of_lt_of_le (hG.lt b hb') hb.size,hG.below.trans (nN.of_below hb),fun n x hn hk=>?_,hG.ne,tr hG.facts0,fun j hj=>tr (hG.facts j hj)⟩
    have:=hG.block n x hn hk
    refine ⟨?_,this.2⟩
    rw [hheap _ (hG.lt _ this.2.1)]
    exact this.1
  have hn0:=hn ρ
  unfold dY at hn0
  rw [Bool.and_eq_true,List.all_eq_true] at hn0
  have hn1:=hn0.1 n (by simp)
  rw [Bool.and_eq_true] at hn1
  obtain ⟨q,hbq⟩:=Option.isSome_iff_exists.1 hn1.1
  have hbg:cur (effs ρ) ops.size (mV D i) n q=(g ρ,ob ρ):=by
    have:=hk ρ
    unfold known at this
    simp only [List.map_cons,List.map_nil,hbq,List.cons.injEq,and_true] at this
    exact this
  have hB:=hG1.block n q hbq hn1.2
  rw [hbg] at hB
  unfold opv
  rw [h1]
  refine (hf ρ T w1 hG1 hB.1 hB.2.1).mono (fun e w2 hew=>?_)
  obtain ⟨r,rfl,hm,hp⟩:=hew
  show After ops D h vals effs fact i ρ T w _ w2
  have he':=he ρ r
  have hU:nN (fun b=>b=g ρ) w w2:=(nN.of_below hb).trans hm.upd
  refine ⟨r,(hv ρ r).symm,⟨hU.os,hU.tape,hU.output,hU.size,fun k hk' hX=>hU.block k hk' (fun e=>hX ⟨n,_,q,by rw [he'];exact List.mem_cons_self,hbq,by rw [hbg];exact e⟩)⟩,?_,?_,?_,?_⟩
  · rw [he']
    intro n' o' hm'
    simp only [List.mem_singleton,Prod.mk.injEq] at hm'
    obtain ⟨rfl,rfl⟩:=hm'
    refine ⟨hn1.2,q,hbq,by simpa using hm.here,?_⟩
    rcases hm.loc with e | e
    · left;rw [hbg];simpa using e
    · right
      refine ⟨by simpa using Nat.le_trans hb.size e,?_,rfl⟩
      intro n2 y2 hm2
      simp only [List.mem_singleton,Prod.mk.injEq] at hm2
      exact hm2.1
  · rw [he'];intro k b' q' hk';simp at hk'
  · rw [he'];simp
  · rw [ht, he']
    exact hp.sub (fun b hbT=>by simpa using hbT)
end
section
variable {w0 w : World} {g q : Nat} {o : Obj} {h : List (Nat × Obj)} {F : World → Prop} {T : Nat → Prop} {l M : List bU}
theorem St.mv (hS:St ⟨w0,[g]⟩ h F w) (hm:(q,o)∈h):MvC w0 w g q o :=
  ⟨⟨hS.below.os,hS.below.tape,hS.below.output,hS.below.size,fun k hk hX=>hS.below.block k hk (fun e=>hX (List.mem_singleton.1 e))⟩,(hS.at_ _ hm).1.elim Or.inr (fun e=>Or.inl (List.mem_singleton.1 e)),(hS.at_ _ hm).2⟩
theorem St.mvS (hS:St ⟨w0,[g]⟩ h F w) (hm:(q,o)∈h) (hTg:T g) (hT:∀ b,T b→b<w0.heap.size) (hY:dL T (fun w=>dN w l) w0) (hF:∀ w,F w→dN w M) (hX:∀ s∈M,s∈l∨sK w0.heap.size [s]):dL (fun b=>T b∨b=q) (fun w=>dN w M) w:=by
  have h1:=hY.upd (T':=fun b=>T b∨b=q) (X:=fun b=>b∈[g]) hS.below (fun b hb=>by rw [List.mem_singleton.1 hb];exact hTg) (fun b hb=>hb.elim Or.inl (fun e=>by
    rcases (hS.at_ _ hm).1 with k | k
    · exact Or.inr (by rw [e];exact k)
    · exact Or.inl (by rw [e,show q=g from List.mem_singleton.1 k];exact hTg)))
  exact uT (fun s hs=>(hX s hs).elim (fun hl=>h1.mono (fun _ h=>h s hl)) (fun hN=>(hS.scs hm (L:=[s]) (fun w h=>dN.subl (hF w h) (fun x hx=>by rw [List.mem_singleton.1 hx];exact hs)) hN hT).mono (fun _ h=>h s List.mem_cons_self)))
end
theorem wgrowF_any (a:Option Addr) (c:Nat) (ts:List bW) (g:Nat) (κ:Nat) (C:Array Value) (l:List bU) (n:Nat) (h2:∀ t∈ts,t.kd=1) (hn:n≤40) (hA:kW.A C l κ) (hL:sB l=gwB ts l.length) (hl:l.length≤n) (hE:∀ i,i<n→pX ts ((i:Nat):Int)=0) (w0:World) (hK:Knows [(g,(cL C 37))] w0) (hP:dL (fun b=>b∈([(g,(cL C 37))]:List (Nat × Obj)).map (·.1)) (fun w=>bM w a c ts∧kJ w∧fU w∧dN w l∧True) w0) (T:Nat→Prop) (hTg:T g) (hT:∀ b,T b→b<w0.heap.size) (hY:dL T (fun w=>dN w l) w0):Calls Tryz.prog 33 #[vs g l.length κ,.slice a ts.length c,vn n] w0 (fun ε w'=>∃ r:bH,ε=.returned (.tuple #[.slice (some ⟨r.n.headD 0,0,none⟩) r.s.length (r.n.tail.headD 0),.int .i64 0])∧MvC w0 w' g (r.n.headD 0) (cL (uG r) 37)∧kW.A (uG r) r.s (r.n.tail.headD 0)∧sB r.s=gwB ts n∧(∀ s∈r.s,s∈l∨sK w0.heap.size [s])∧dL (fun b=>T b∨b=r.n.headD 0) (fun w=>dN w r.s) w'):=by
 refine Calls.of_okW (n:=29) (F:=(fun w=>bM w a c ts∧kJ w∧fU w∧dN w l∧True)) [(g,(cL C 37))] Tryz.func33 rfl rfl rfl (by simp) hK (by simp) hP ?_
 refine jJ Tryz.f33 2 [0,1,2,6,7] [vz,vi 0] (aB (aI ?_))
 refine oLF (σ:=(Nat × (Array Value) × (List bU) × Nat)) (fun s=>match s with |  ⟨_,_,M,_⟩=>(fun w=>bM w a c ts∧kJ w∧fU w∧dN w M∧True)) (fun s=>match s with |  ⟨q,_,M,κ2⟩=>[(0,(vs q M.length κ2)),(1,(.slice a ts.length c)),(2,(vn n))]) (fun s=>match s with |  ⟨q,C2,_,_⟩=>[(q,(cL C2 37))]) (fun s=>match s with |  ⟨_,_,M,_⟩=>n-M.length)
   (fun s=>match s with |  ⟨_,C2,M,κ2⟩=>(sB M=gwB ts M.length)∧(kW.A C2 M κ2)∧(M.length≤n)∧(∀ s∈M,s∈l∨sK w0.heap.size [s])) ((g,C,l,κ)) (⟨hL,hA,hl,fun s hs=>Or.inl hs⟩) (fun w hF=>hF) [] ?_
 rintro ⟨q,C2,M,κ2⟩
 rintro ⟨hM,hA2,hm,hX⟩
 change Ok Tryz.prog _ _ 29 [(0,(vs q M.length κ2)),(1,(.slice a ts.length c)),(2,(vn n))] _ [(q,(cL C2 37))] (fun w=>bM w a c ts∧kJ w∧fU w∧dN w M∧True)
 refine aB (jJ Tryz.f33 4 [0,1,2,13] [vs q M.length κ2,vn M.length,vn n,.bool (decide (((M.length:Nat):Int)<((n:Nat):Int)))] ?_)
 refine oC (decide (((M.length:Nat):Int)<((n:Nat):Int))) (fun hb1=>?_) (fun hb1=>?_)
 ·
  rw [hb1]
  have:=yT hb1
  refine aG (aA (aI ?_))
  refine iZ Tryz.f33 9 [0,1,2,8,9] [] (fun ρ=>let qa:Value:=.slice (oa ρ 3) (wG ts ((M.length:Nat):Int)).length (nb ρ 3);let qb:=vi (pX ts ((M.length:Nat):Int));[.slice a ts.length c,vs q M.length κ2,vn M.length,.tuple #[qa,qb],.tuple #[qa,qb],qa,qb,qa,qb]) (fun _=>[]) (fun ρ=>[(3,fun w=>Fs w0 w (oa ρ 3) (nb ρ 3) (wG ts ((M.length:Nat):Int)))]) (fun ρ=>(fun w=>bM w a c ts∧kJ w∧fU w∧dN w M∧Fs w0 w (oa ρ 3) (nb ρ 3) (wG ts ((M.length:Nat):Int))∧True)) (fun _=>True) (fun _ _ hF hf=>⟨⟨hF.1,hF.2.1,hF.2.2.1,hF.2.2.2.1,hf 3,trivial⟩,trivial⟩) (cR [[],[],[]]<|cX (qB (fun _ _ w hG=>xAL a c ts ((M.length:Nat):Int) h2 w hG.fn.1 hG.fn.2.1 hG.fn.2.2.1))<|jE [[],[],[],[],[]]) (fun ρ3 _=>?_)
  refine aB ?_
  refine sS Tryz.f33 2 [0,1,2,8,9,22] [] (fun _=>[vi (pX ts ((M.length:Nat):Int)),vF]) (fun _=>[]) (cR [[]]<|jQ (fun ρ=>((pX ts ((M.length:Nat):Int)) != 0)) false (fun _=>(bne_f (hE M.length (by omega))))<|cN) (fun _=>?_)
  refine oN ?_
  refine aG (aA ?_)
  refine xAN (p:=sK w0.heap.size [⟨oa ρ3 3,nb ρ3 3,wG ts ((M.length:Nat):Int)⟩]) (fun w hF=>sK.one hF.2.2.2.2.1) (fun hx=>?_)
  refine rSf Tryz.f33 5 [0,1,2] [1,0] (fun ρ=>let qa:=vs (nb ρ 3) (M++([bU.mk (oa ρ3 3) (nb ρ3 3) (wG ts ((M.length:Nat):Int))])).length (aZ ρ 3);[vs q M.length κ2,.slice (oa ρ3 3) (wG ts ((M.length:Nat):Int)).length (nb ρ3 3),vs (nb ρ 2) 1 1,qa,qa]) (fun ρ=>[(2,(nw ρ 2 (cL #[.slice (oa ρ3 3) (wG ts ((M.length:Nat):Int)).length (nb ρ3 3)] 37))),(3,(bD 0 (nb ρ 3) (cL (oc ρ 3) 37)))]) (fun ρ=>[(3,fun w=>kW.A (oc ρ 3) (M++([bU.mk (oa ρ3 3) (nb ρ3 3) (wG ts ((M.length:Nat):Int))])) (aZ ρ 3))]) (fun _=>(fun w=>bM w a c ts∧kJ w∧fU w∧dN w M∧Fs w0 w (oa ρ3 3) (nb ρ3 3) (wG ts ((M.length:Nat):Int))∧True)) (fun ρ=>kW.A (oc ρ 3) (M++([bU.mk (oa ρ3 3) (nb ρ3 3) (wG ts ((M.length:Nat):Int))])) (aZ ρ 3)) (fun _ _ hF hf=>⟨hF,hf 3⟩) (cR [[],[],[]]<|cX (qM 0 (fun ρ _ _ hG hg=>wB (K:=kW) (ty:=29) (g:=q) (ts:=M) (us:=[bU.mk (oa ρ3 3) (nb ρ3 3) (wG ts ((M.length:Nat):Int))]) Tryz.underlying29 (dA (sz:=1) (b:=24) (z:=vz) (by kernel_rfl) rfl) hA2 (xAM Tryz.underlying29 rfl (hG.kn (g:=nb ρ 2) (o:=(cL #[.slice (oa ρ3 3) (wG ts ((M.length:Nat):Int)).length (nb ρ3 3)] 37)) 17)) (by simp only [List.length_cons,List.length_nil];omega) (by decide) hg))<|jE [[]]) (fun ρ5 ap5_3=>?_)
  refine aJ (mD [(0,(vs (nb ρ5 3) (M++([bU.mk (oa ρ3 3) (nb ρ3 3) (wG ts ((M.length:Nat):Int))])).length (aZ ρ5 3))),(1,(.slice a ts.length c)),(2,(vn n))] [(nb ρ5 3,(cL (oc ρ5 3) 37))] ?_)
  exact mNF ((nb ρ5 3,oc ρ5 3,M++([bU.mk (oa ρ3 3) (nb ρ3 3) (wG ts ((M.length:Nat):Int))]),aZ ρ5 3)) (by show n-(M++([bU.mk (oa ρ3 3) (nb ρ3 3) (wG ts ((M.length:Nat):Int))])).length<n-M.length;simp only [List.length_append,List.length_cons,List.length_nil];omega) (⟨(by unfold sB at hM ⊢;rw [List.map_append,hM,List.length_append];exact (xAS ts M.length).symm),ap5_3,(by simp only [List.length_append,List.length_cons,List.length_nil];omega),(fun s hs=>(List.mem_append.1 hs).elim (hX s) (fun e=>Or.inr (by rw [List.mem_singleton.1 e];exact hx)))⟩) (fun w hS=>hS.weaken (fun w hF=>⟨hF.1,hF.2.1,hF.2.2.1,dN.app hF.2.2.2.1 (dN.one hF.2.2.2.2.1.1),trivial⟩))
 rw [hb1]
 refine bF (aN (aN (aT (aA (jJ Tryz.f33 3 [6,7] [vs q M.length κ2,vs q M.length κ2,vi 0] (aF (mD [(6,(vs q M.length κ2)),(7,(vi 0))] [(q,(cL C2 37))] ?_)))))))
 exact mR (v:=(.tuple #[vs q M.length κ2,vi 0])) (fun _ hS=>⟨{ n:=[q,κ2],o:=[.cells C2 0 (0,0)],s:=M},rfl,St.mv hS (.head _),hA2,(by rw [hM,show M.length=n by have:=yF hb1;omega]),hX,St.mvS hS (.head _) hTg hT hY (fun w hF=>hF.2.2.2.1) hX⟩)
theorem wgrowE_any (a:Option Addr) (c:Nat) (ts:List bW) (g:Nat) (κ:Nat) (C:Array Value) (l:List bU) (n:Nat) (j:Nat) (h2:∀ t∈ts,t.kd=1) (hn:n≤40) (hA:kW.A C l κ) (hL:sB l=gwB ts l.length) (hl:l.length≤j) (_hj:j<n) (hE:∀ i,i<j→pX ts ((i:Nat):Int)=0) (hEj:pX ts ((j:Nat):Int)≠0) (w0:World) (hK:Knows [(g,(cL C 37))] w0) (hP:dL (fun b=>b∈([(g,(cL C 37))]:List (Nat × Obj)).map (·.1)) (fun w=>bM w a c ts∧kJ w∧fU w∧dN w l∧True) w0) (T:Nat→Prop) (hTg:T g) (hT:∀ b,T b→b<w0.heap.size) (hY:dL T (fun w=>dN w l) w0):Calls Tryz.prog 33 #[vs g l.length κ,.slice a ts.length c,vn n] w0 (fun ε w'=>∃ r:bH,ε=.returned (.tuple #[.slice none 0 0,.int .i64 (pX ts ((j:Nat):Int))])∧MvC w0 w' g (r.n.headD 0) (cL (uG r) 37)∧dL (fun b=>T b∨b=r.n.headD 0) (fun w=>dN w r.s) w'):=by
 refine Calls.of_okW (n:=29) (F:=(fun w=>bM w a c ts∧kJ w∧fU w∧dN w l∧True)) [(g,(cL C 37))] Tryz.func33 rfl rfl rfl (by simp) hK (by simp) hP ?_
 refine jJ Tryz.f33 2 [0,1,2,6,7] [vz,vi 0] (aB (aI ?_))
 refine oLF (σ:=(Nat × (Array Value) × (List bU) × Nat)) (fun s=>match s with |  ⟨_,_,M,_⟩=>(fun w=>bM w a c ts∧kJ w∧fU w∧dN w M∧True)) (fun s=>match s with |  ⟨q,_,M,κ2⟩=>[(0,(vs q M.length κ2)),(1,(.slice a ts.length c)),(2,(vn n))]) (fun s=>match s with |  ⟨q,C2,_,_⟩=>[(q,(cL C2 37))]) (fun s=>match s with |  ⟨_,_,M,_⟩=>n-M.length)
   (fun s=>match s with |  ⟨_,C2,M,κ2⟩=>(sB M=gwB ts M.length)∧(kW.A C2 M κ2)∧(M.length≤j)∧(∀ s∈M,s∈l∨sK w0.heap.size [s])) ((g,C,l,κ)) (⟨hL,hA,hl,fun s hs=>Or.inl hs⟩) (fun w hF=>hF) [] ?_
 rintro ⟨q,C2,M,κ2⟩
 rintro ⟨hM,hA2,hm,hX⟩
 change Ok Tryz.prog _ _ 29 [(0,(vs q M.length κ2)),(1,(.slice a ts.length c)),(2,(vn n))] _ [(q,(cL C2 37))] (fun w=>bM w a c ts∧kJ w∧fU w∧dN w M∧True)
 refine aB ?_
 refine sS Tryz.f33 4 [0,1,2,13] [] (fun _=>[vs q M.length κ2,vn M.length,vn n,vT]) (fun _=>[]) (cR [[],[],[]]<|jQ (fun ρ=>(decide (((M.length:Nat):Int)<((n:Nat):Int)))) true (fun _=>(decide_eq_true (by omega)))<|cN) (fun _=>?_)
 refine oY ?_
 refine aG (aA (aI ?_))
 refine iZ Tryz.f33 9 [0,1,2,8,9] [] (fun ρ=>let qa:Value:=.slice (oa ρ 3) (wG ts ((M.length:Nat):Int)).length (nb ρ 3);let qb:=vi (pX ts ((M.length:Nat):Int));[.slice a ts.length c,vs q M.length κ2,vn M.length,.tuple #[qa,qb],.tuple #[qa,qb],qa,qb,qa,qb]) (fun _=>[]) (fun ρ=>[(3,fun w=>Fs w0 w (oa ρ 3) (nb ρ 3) (wG ts ((M.length:Nat):Int)))]) (fun ρ=>(fun w=>bM w a c ts∧kJ w∧fU w∧dN w M∧Fs w0 w (oa ρ 3) (nb ρ 3) (wG ts ((M.length:Nat):Int))∧True)) (fun _=>True) (fun _ _ hF hf=>⟨⟨hF.1,hF.2.1,hF.2.2.1,hF.2.2.2.1,hf 3,trivial⟩,trivial⟩) (cR [[],[],[]]<|cX (qB (fun _ _ w hG=>xAL a c ts ((M.length:Nat):Int) h2 w hG.fn.1 hG.fn.2.1 hG.fn.2.2.1))<|jE [[],[],[],[],[]]) (fun ρ3 _=>?_)
 refine aB (jJ Tryz.f33 2 [0,1,2,8,9,22] [vi (pX ts ((M.length:Nat):Int)),.bool ((pX ts ((M.length:Nat):Int)) != 0)] ?_)
 refine oC ((pX ts ((M.length:Nat):Int)) != 0) (fun hb1=>?_) (fun hb1=>?_)
 ·
  rw [hb1]
  refine jJ Tryz.f33 3 [0,1,2,6,7,8] (let qa:=vi (pX ts ((M.length:Nat):Int));[qa,vz,qa]) (aF (aC (aP (aC (aP (aC (mD [(0,(vs q M.length κ2)),(1,(.slice a ts.length c)),(2,(vn n)),(6,vz),(7,(vi (pX ts ((M.length:Nat):Int)))),(8,(.slice (oa ρ3 3) (wG ts ((M.length:Nat):Int)).length (nb ρ3 3)))] [(q,(cL C2 37))] ?_)))))))
  exact mR (v:=(.tuple #[vz,vi (pX ts ((M.length:Nat):Int))])) (fun _ hS=>⟨{ n:=[q,κ2],o:=[.cells C2 0 (0,0)],s:=M},(by rw [show M.length=j by have q:=(bne_iff_ne.1 hb1);have r: ¬ M.length<j:=fun h=>q (hE _ h);omega]),St.mv hS (.head _),St.mvS hS (.head _) hTg hT hY (fun w hF=>hF.2.2.2.1) hX⟩)
 rw [hb1]
 refine aG (aA ?_)
 refine xAN (p:=sK w0.heap.size [⟨oa ρ3 3,nb ρ3 3,wG ts ((M.length:Nat):Int)⟩]) (fun w hF=>sK.one hF.2.2.2.2.1) (fun hx=>?_)
 refine rSf Tryz.f33 5 [0,1,2] [1,0] (fun ρ=>let qa:=vs (nb ρ 3) (M++([bU.mk (oa ρ3 3) (nb ρ3 3) (wG ts ((M.length:Nat):Int))])).length (aZ ρ 3);[vs q M.length κ2,.slice (oa ρ3 3) (wG ts ((M.length:Nat):Int)).length (nb ρ3 3),vs (nb ρ 2) 1 1,qa,qa]) (fun ρ=>[(2,(nw ρ 2 (cL #[.slice (oa ρ3 3) (wG ts ((M.length:Nat):Int)).length (nb ρ3 3)] 37))),(3,(bD 0 (nb ρ 3) (cL (oc ρ 3) 37)))]) (fun ρ=>[(3,fun w=>kW.A (oc ρ 3) (M++([bU.mk (oa ρ3 3) (nb ρ3 3) (wG ts ((M.length:Nat):Int))])) (aZ ρ 3))]) (fun _=>(fun w=>bM w a c ts∧kJ w∧fU w∧dN w M∧Fs w0 w (oa ρ3 3) (nb ρ3 3) (wG ts ((M.length:Nat):Int))∧True)) (fun ρ=>kW.A (oc ρ 3) (M++([bU.mk (oa ρ3 3) (nb ρ3 3) (wG ts ((M.length:Nat):Int))])) (aZ ρ 3)) (fun _ _ hF hf=>⟨hF,hf 3⟩) (cR [[],[],[]]<|cX (qM 0 (fun ρ _ _ hG hg=>wB (K:=kW) (ty:=29) (g:=q) (ts:=M) (us:=[bU.mk (oa ρ3 3) (nb ρ3 3) (wG ts ((M.length:Nat):Int))]) Tryz.underlying29 (dA (sz:=1) (b:=24) (z:=vz) (by kernel_rfl) rfl) hA2 (xAM Tryz.underlying29 rfl (hG.kn (g:=nb ρ 2) (o:=(cL #[.slice (oa ρ3 3) (wG ts ((M.length:Nat):Int)).length (nb ρ3 3)] 37)) 17)) (by simp only [List.length_cons,List.length_nil];omega) (by decide) hg))<|jE [[]]) (fun ρ6 ap6_3=>?_)
 refine aJ (mD [(0,(vs (nb ρ6 3) (M++([bU.mk (oa ρ3 3) (nb ρ3 3) (wG ts ((M.length:Nat):Int))])).length (aZ ρ6 3))),(1,(.slice a ts.length c)),(2,(vn n))] [(nb ρ6 3,(cL (oc ρ6 3) 37))] ?_)
 exact mNF ((nb ρ6 3,oc ρ6 3,M++([bU.mk (oa ρ3 3) (nb ρ3 3) (wG ts ((M.length:Nat):Int))]),aZ ρ6 3)) (by show n-(M++([bU.mk (oa ρ3 3) (nb ρ3 3) (wG ts ((M.length:Nat):Int))])).length<n-M.length;simp only [List.length_append,List.length_cons,List.length_nil];omega) (⟨(by unfold sB at hM ⊢;rw [List.map_append,hM,List.length_append];exact (xAS ts M.length).symm),ap6_3,(by have q:M.length≠j:=fun e=>hEj (by rw [← e];exact (by simpa using hb1));simp only [List.length_append,List.length_cons,List.length_nil];omega),(fun s hs=>(List.mem_append.1 hs).elim (hX s) (fun e=>Or.inr (by rw [List.mem_singleton.1 e];exact hx)))⟩) (fun w hS=>hS.weaken (fun w hF=>⟨hF.1,hF.2.1,hF.2.2.1,dN.app hF.2.2.2.1 (dN.one hF.2.2.2.2.1.1),trivial⟩))
theorem bM.drop {w:World} {a:Option Addr} {c:Nat} {ts:List bW} (h:bM w a c ts) {k:Nat} (hk:k≤ts.length):bM w (if c=k then a else a.map (·.add (k*36))) (c-k) (ts.drop k):=by
  have hle:=h.le
  refine ⟨by rw [List.length_drop];omega,by rw [List.length_drop];have:=h.max;omega,?_,fun t ht=>h.sub t (List.mem_of_mem_drop ht),fun t ht=>h.ok t (List.mem_of_mem_drop ht)⟩
  by_cases hc:c=k
  · have : ts.drop k = [] := List.eq_nil_of_length_eq_zero (by rw [List.length_drop]; omega)
    rw [this];exact Or.inl rfl
  · rw [if_neg hc]
    have e:(ts.drop k).flatMap (fun t=>t.row.toList)=(ts.flatMap fun t=>t.row.toList).drop (k*36):=by
      have:=RowK.r_drop kT ts k
      rw [kT_r,kT_r] at this
      exact this
    rw [e]
    exact h.rows.drop _
theorem aK_oks {ts:List bW} (ho:mP ts):∀ p∈aK ts,p.Ok:=fun p hp=>by
  obtain ⟨t,ht,hp⟩:=List.mem_flatMap.1 hp
  exact (ho t ht).2 p hp
theorem kyN_ok {ts:List bW} (ho:mP ts) (z:Int):∀ n∈gV ts z,n<M:=by
  intro n hn
  unfold gV at hn
  by_cases h0:kZ ts z=0
  · rw [if_pos h0] at hn
    obtain ⟨p,hp,rfl⟩:=List.mem_map.1 hn
    have hz:z.toNat<1000:=by
      unfold kZ at h0
      rw [if_pos (ky_valid (z:=z) (show kZ ts z=0 from h0))] at h0
      by_cases q:0≤z∧z<1000
      · omega
      · rw [if_neg q] at h0;exact absurd h0 (by decide)
    have ok:=aK_oks ho p hp
    refine (yR ok.k fun i hi=>?_).p
    unfold dO.ix at hi
    split at hi
    · rcases List.mem_append.1 hi with q | q
      · exact ok.ps i q
      · rw [List.mem_singleton.1 q];omega
    · exact ok.ps i hi
  · rw [if_neg h0] at hn;simp at hn
theorem xN (g:Nat) (n:Nat) (pa:Nat→Option Addr) (pc:Nat→Nat) (pB:Nat→List UInt8) (hn:n≤16) (hl:(mZ pB n).length≤140737488351232) (w0:World) (hf0:Kb w0 g (xO n pa pc pB)) (hf1:rO w0 n pa pc pB):Calls Tryz.prog 85 #[vs g n n] w0 (fun ε w'=>∃ α κ,ε=.returned (.slice α (mZ pB n).length κ)∧jG w0 w'∧Fs w0 w' α κ (mZ pB n)):=by
 refine Calls.of_ok (n:=17) (F:=(fun w=>Kb w g (xO n pa pc pB)∧rO w n pa pc pB∧True)) Tryz.func85 rfl rfl rfl (by simp) (hf0.pers0.and (hf1.pers0.and cO)) ?_
 refine jJ Tryz.f85 1 [0,2] [vz] (jJ Tryz.f85 1 [0,2,3] [vz] (aB (jJ Tryz.f85 3 [2,3,6,7,8] [vs g n n,vn n,vi 0] (aI ?_))))
 refine oLF (σ:=Nat × (Option Addr) × Nat × (List UInt8)) (fun ⟨_,ja,jc,X⟩=>(fun w=>Kb w g (xO n pa pc pB)∧rO w n pa pc pB∧Fs w0 w ja jc X∧True)) (fun ⟨i,ja,jc,X⟩=>[(2,vz),(3,(.slice ja X.length jc)),(6,(vs g n n)),(7,(vn n)),(8,(vn i))]) (fun ⟨_,_,_,_⟩=>[]) (fun ⟨i,_,_,_⟩=>n-i)
   (fun ⟨i,_,_,X⟩=>(i≤n)∧(X=mZ pB i)) (0,none,0,[]) (⟨Nat.zero_le _,rfl⟩) (fun w hF=>⟨hF.1,hF.2.1,Fs.nil,trivial⟩) [] ?_
 rintro ⟨i,ja,jc,X⟩ ⟨hi,hX⟩
 change Ok Tryz.prog _ _ 17 [(2,vz),(3,(.slice ja X.length jc)),(6,(vs g n n)),(7,(vn n)),(8,(vn i))] _ [] (fun w=>Kb w g (xO n pa pc pB)∧rO w n pa pc pB∧Fs w0 w ja jc X∧True)
 refine jJ Tryz.f85 1 [2,3,6,7,8,9] [.bool (decide (((i:Nat):Int)<((n:Nat):Int)))] (aB ?_)
 refine oC (decide (((i:Nat):Int)<((n:Nat):Int))) (fun hb1=>?_) (fun hb1=>?_)
 ·
  rw [hb1]
  have:=yT hb1
  refine aG (aA (aB (aI ?_)))
  refine sS Tryz.f85 3 [2,3,5,6,7,8] [] (fun _=>let qa:Value:=.slice (pa i) (pB i).length (pc i);[jp g i,qa,qa]) (fun _=>[]) (cX (qS (fun _ w=>sO (g:=g) (c:=n) (k:=.i64) Tryz.underlying29 Tryz.sizeOf37 (show ((i:Nat):Int)=((i:Nat):Int) from rfl) (show i<n from (by omega)) w))<|cX (qF (v:=fun ρ=>(.slice (pa i) (pB i).length (pc i))) (fun _ _ _ hG=>mY (off:=i) Tryz.isAgg37 hG.fn.1 (uX (by omega))))<|jE [[]]) (fun _=>?_)
  refine rSf Tryz.f85 4 [2,3,6,7,8] [] (fun ρ=>let qa:Value:=.slice (oa ρ 2) (X++(pB i)).length (nb ρ 2);[.slice ja X.length jc,.slice (pa i) (pB i).length (pc i),qa,qa]) (fun _=>[]) (fun ρ=>[(2,fun w=>Fs w0 w (oa ρ 2) (nb ρ 2) (X++(pB i)))]) (fun ρ=>(fun w=>Kb w g (xO n pa pc pB)∧rO w n pa pc pB∧Fs w0 w ja jc X∧Fs w0 w (oa ρ 2) (nb ρ 2) (X++(pB i))∧True)) (fun _=>True) (fun _ _ hF hf=>⟨⟨hF.1,hF.2.1,hF.2.2.1,hf 2,trivial⟩,trivial⟩) (cR [[],[]]<|cX (qB (fun _ _ w hG=>tZ ja jc X (pa i) (pc i) (pB i) (by have h1:=sH pB (show i<n by omega);rw [← hX] at h1;exact Nat.le_trans h1 hl) w hG.fn.2.2.1.1 (hG.fn.2.1 i (by omega))))<|jE [[]]) (fun ρ6 _=>?_)
  refine aJ (aA ?_)
  refine rS Tryz.f85 2 [2,3,6,7,8] [] (fun _=>[vn (i+1),vn (i+1)]) (fun _=>[]) (jW (fun ρ=>(((i:Nat):Int)+1)) (fun _=>(i+1)) (fun _=>(aW i 1 (by omega)))<|jE [[]]) (fun _=>?_)
  refine mD [(2,vz),(3,(.slice (oa ρ6 2) (X++(pB i)).length (nb ρ6 2))),(6,(vs g n n)),(7,(vn n)),(8,(vn (i+1)))] [] ?_
  exact mNF (i+1,oa ρ6 2,nb ρ6 2,X++(pB i)) (by show n-(i+1)<n-i;omega) (⟨(by omega),by rw [hX];rfl⟩) (fun w hS=>(hS.weaken (fun w hF=>⟨hF.1,hF.2.1,hF.2.2.2.1,trivial⟩)))
 rw [hb1]
 refine bF (aN (aN (aT (aA (jJ Tryz.f85 2 [2] [.slice ja X.length jc,.slice ja X.length jc] (aF (mD [(2,(.slice ja X.length jc))] [] ?_)))))))
 exact mR (v:=(.slice ja X.length jc)) (fun _ hS=>⟨ja,jc,congrArg Ending.returned (by rw [← (show X=mZ pB n from hX.trans (by rw [show i=n by have:=yF hb1;omega]))]),hS.bel,dU (show X=mZ pB n from hX.trans (by rw [show i=n by have:=yF hb1;omega])) hS.facts.now.2.2.1⟩)
theorem jnrow2_any (g:Nat) (a0:Option Addr) (c0:Nat) (B0:List UInt8) (a1:Option Addr) (c1:Nat) (B1:List UInt8) (hl:B0.length+B1.length≤140737488351232) (_h0:0<B0.length) (w0:World) (hf0:Kb w0 g #[.slice a0 B0.length c0,.slice a1 B1.length c1]) (hf1:Bs w0 a0 c0 B0) (hf2:Bs w0 a1 c1 B1):Calls Tryz.prog 85 #[.slice (some ⟨g,0,none⟩) 2 2] w0 (fun ε w'=>∃ α κ,ε=.returned (.slice α (B0++B1).length κ)∧jG w0 w'∧Fs w0 w' α κ (B0++B1)):=xN g 2 (fun k=>[a0,a1].getD k none) (fun k=>[c0,c1].getD k 0) (fun k=>[B0,B1].getD k []) (by decide) (by show (([]++B0)++B1).length≤_;simp only [List.length_append,List.length_nil];omega) w0 hf0 (allB2 hf1 hf2)
theorem rkey_any (p:Nat) (_hp:p<M) (w0:World):Calls Tryz.prog 87 #[U p] w0 (fun ε w'=>∃ α κ,ε=.returned (.slice α (hL p).length κ)∧jG w0 w'∧Fs w0 w' α κ (hL p)):=by
 refine Calls.of_ok (n:=7) (F:=(fun _=>True)) Tryz.func87 rfl rfl rfl (by simp) jT ?_
 refine sS Tryz.f87 2 [1,2] [] (fun ρ=>[pt (nb ρ 0),vz]) (fun ρ=>[(0,(nw ρ 0 (cL (cU p) 64)))]) (jE [[],[]]) (fun _=>?_)
 refine sS Tryz.f87 4 [2,3] [0,1] (fun ρ=>[U p,.agg (hB p),pt (nb ρ 2),undef]) (fun ρ=>[(2,(nw ρ 2 (cL (hB 0) 57))),(3,(bD 17 (nb ρ 2) (cL (hB p) 57)))]) (cR [[0]]<|cC (fun _ w=>rbytes_any p w)<|jE [[],[17]]) (fun ρ2=>?_)
 refine jJ Tryz.f87 2 [2] (let qa:=vs (nb ρ2 2) (hL p).length 32;[qa,qa]) (aF (mD [(2,(vs (nb ρ2 2) (hL p).length 32))] [(nb ρ2 2,(cL (hB p) 57))] ?_))
 exact mR (v:=(vs (nb ρ2 2) (hL p).length 32)) (fun _ hS=>⟨some ⟨nb ρ2 2,0,none⟩,32,congrArg Ending.returned (rfl),hS.bel,dU (rfl) (hS.fresh (.head _) (tN _) (by rw [aO];decide) (by rw [aO];decide))⟩)
theorem tY (a:Option Addr) (c:Nat) (B:List UInt8) (hl:B.length≤255) (w0:World) (hf0:Bs w0 a c B):Calls Tryz.prog 121 #[.agg #[vi 1,.slice a B.length c,vi 0,vi 0]] w0 (fun ε w'=>∃ α κ,ε=.returned (.slice α (bQ B).length κ)∧jG w0 w'∧Fs w0 w' α κ (bQ B)):=by
 refine Calls.of_ok (n:=29) (F:=(fun w=>Bs w a c B∧True)) Tryz.func121 rfl rfl rfl (by simp) (hf0.pers0.and cO) ?_
 refine sS Tryz.f121 2 [1,2] [] (fun ρ=>[pt (nb ρ 0),vz]) (fun ρ=>[(0,(nw ρ 0 (cL #[vi 1,.slice a B.length c,vi 0,vi 0] 120)))]) (jE [[],[]]) (fun ρ1=>?_)
 refine aB (jM Tryz.f121 2 [1,2,4] [] [pt (nb ρ1 0),vi 1] [[],[0]] (aI (jJ Tryz.f121 2 [1,2,4,5] [vT,vT] ?_)))
 refine oY ?_
 refine iZ Tryz.f121 10 [1,2] [1,0,0] (fun ρ=>let qa:=([ob 1,ob ((B.length:Nat):Int)]:List UInt8);let qb:Value:=.slice (oa ρ 8) (qa++B).length (nb ρ 8);[jp (nb ρ1 0) 1,.slice a B.length c,vn B.length,vy B.length,vs (nb ρ 4) qa.length 2,jp (nb ρ1 0) 1,.slice a B.length c,vs (nb ρ 7) 2 2,qb,qb]) (fun ρ=>[(4,(nw ρ 4 (cL #[.int .u8 1,vy B.length] 5))),(7,(nw ρ 7 (cL #[vs (nb ρ 4) ([ob 1,ob ((B.length:Nat):Int)]:List UInt8).length 2,.slice a B.length c] 37)))]) (fun ρ=>[(8,fun w=>Fs w0 w (oa ρ 8) (nb ρ 8) (([ob 1,ob ((B.length:Nat):Int)]:List UInt8)++B))]) (fun ρ=>(fun w=>Bs w a c B∧Fs w0 w (oa ρ 8) (nb ρ 8) (([ob 1,ob ((B.length:Nat):Int)]:List UInt8)++B)∧True)) (fun _=>True) (fun _ _ hF hf=>⟨⟨hF.1,hf 8,trivial⟩,trivial⟩) (cR [[],[0],[]]<|cA (v:=fun ρ=>(.int .u8 (IntKind.u8.wrap ((B.length:Nat):Int)))) (fun _=>(vy B.length)) (fun _=>congrArg (Value.int .u8) (u8N (by omega)))<|cR [[],[],[0],[]]<|cX (qB (fun ρ _ w hG=>jnrow2_any (nb ρ 7) (some ⟨nb ρ 4,0,none⟩) 2 ([ob 1,ob ((B.length:Nat):Int)]:List UInt8) a c B (by simp only [List.length_cons,List.length_nil];omega) (Nat.zero_lt_succ _) w (Kb.of_block (hG.kn (g:=nb ρ 7) (o:=(cL #[vs (nb ρ 4) ([ob 1,ob ((B.length:Nat):Int)]:List UInt8).length 2,.slice a B.length c] 37)) 57)) (Bs.of_hd (hG.kn (g:=nb ρ 4) (o:=(cL #[.int .u8 1,vy B.length] 5)) 33) (hd2 (by decide) (by omega)) (Nat.le_refl 2) (Nat.le_of_ble_eq_true rfl)) hG.fn.1))<|jE [[]]) (fun ρ4 _=>?_)
 refine aF (aP (aC (mD [(1,(pt (nb ρ1 0))),(2,(.slice (oa ρ4 8) (([ob 1,ob ((B.length:Nat):Int)]:List UInt8)++B).length (nb ρ4 8)))] [(nb ρ1 0,(cL #[vi 1,.slice a B.length c,vi 0,vi 0] 120))] ?_)))
 exact mR (v:=(.slice (oa ρ4 8) (([ob 1,ob ((B.length:Nat):Int)]:List UInt8)++B).length (nb ρ4 8))) (fun _ hS=>⟨oa ρ4 8,nb ρ4 8,congrArg Ending.returned (rfl),hS.bel,dU (rfl) hS.facts.now.2.1⟩)
theorem wR (a:Option Addr) (c:Nat) (B:List UInt8) (hl:B.length≤255) (w0:World) (hf0:Bs w0 a c B):Calls Tryz.prog 86 #[.slice a B.length c] w0 (fun ε w'=>∃ α κ,ε=.returned (.slice α (bQ B).length κ)∧jG w0 w'∧Fs w0 w' α κ (bQ B)):=by
 refine Calls.of_ok (n:=6) (F:=(fun w=>Bs w a c B∧True)) Tryz.func86 rfl rfl rfl (by simp) (hf0.pers0.and cO) ?_
 refine jJ Tryz.f86 1 [0,2] [vz] ?_
 refine iZ Tryz.f86 4 [2] [] (fun ρ=>let qa:Value:=.slice (oa ρ 2) (bQ B).length (nb ρ 2);[.slice a B.length c,.agg #[vi 1,.slice a B.length c,vi 0,vi 0],qa,qa]) (fun _=>[]) (fun ρ=>[(2,fun w=>Fs w0 w (oa ρ 2) (nb ρ 2) (bQ B))]) (fun ρ=>(fun w=>Bs w a c B∧Fs w0 w (oa ρ 2) (nb ρ 2) (bQ B)∧True)) (fun _=>True) (fun _ _ hF hf=>⟨⟨hF.1,hf 2,trivial⟩,trivial⟩) (cR [[],[]]<|cX (qB (fun _ _ w hG=>tY a c B hl w hG.fn.1))<|jE [[]]) (fun ρ2 _=>?_)
 refine aF (mD [(2,(.slice (oa ρ2 2) (bQ B).length (nb ρ2 2)))] [] ?_)
 exact mR (v:=(.slice (oa ρ2 2) (bQ B).length (nb ρ2 2))) (fun _ hS=>⟨oa ρ2 2,nb ρ2 2,congrArg Ending.returned (rfl),hS.bel,dU (rfl) hS.facts.now.2.1⟩)
theorem rsingle_any (p:Nat) (hp:p<M) (w0:World):Calls Tryz.prog 63 #[U p] w0 (fun ε w'=>∃ α κ,ε=.returned (.slice α (sgB p).length κ)∧jG w0 w'∧Fs w0 w' α κ (sgB p)):=by
 refine Calls.of_ok (n:=9) (F:=(fun _=>True)) Tryz.func63 rfl rfl rfl (by simp) jT ?_
 refine sS Tryz.f63 2 [1,2] [] (fun ρ=>[pt (nb ρ 0),vz]) (fun ρ=>[(0,(nw ρ 0 (cL (cU p) 64)))]) (jE [[],[]]) (fun _=>?_)
 refine iZ Tryz.f63 7 [2] [0,0,0] (fun ρ=>let qa:Value:=.slice (oa ρ 5) ((bQ (hL p))++([10]:List UInt8)).length (nb ρ 5);[U p,.slice (oa ρ 1) (hL p).length (nb ρ 1),.slice (oa ρ 2) (bQ (hL p)).length (nb ρ 2),vs (nb ρ 3) ([10]:List UInt8).length 1,vs (nb ρ 4) 2 2,qa,qa]) (fun ρ=>[(3,(nw ρ 3 (cL #[.int .u8 10] 5))),(4,(nw ρ 4 (cL #[.slice (oa ρ 2) (bQ (hL p)).length (nb ρ 2),vs (nb ρ 3) ([10]:List UInt8).length 1] 37)))]) (fun ρ=>[(1,fun w=>Fs w0 w (oa ρ 1) (nb ρ 1) (hL p)),(2,fun w=>Fs w0 w (oa ρ 2) (nb ρ 2) (bQ (hL p))),(5,fun w=>Fs w0 w (oa ρ 5) (nb ρ 5) ((bQ (hL p))++([10]:List UInt8)))]) (fun ρ=>(fun w=>Fs w0 w (oa ρ 1) (nb ρ 1) (hL p)∧Fs w0 w (oa ρ 2) (nb ρ 2) (bQ (hL p))∧Fs w0 w (oa ρ 5) (nb ρ 5) ((bQ (hL p))++([10]:List UInt8))∧True)) (fun _=>True) (fun _ _ _ hf=>⟨⟨hf 1,hf 2,hf 5,trivial⟩,trivial⟩) (cR [[0]]<|cX (qB (fun _ _ w _=>rkey_any p hp w))<|cX (qB (fun ρ _ w hG=>wR (oa ρ 1) (nb ρ 1) (hL p) (by rw [aO];decide) w (show Fs w0 w (oa ρ 1) (nb ρ 1) (hL p) from (hG.facts 1 rfl).now).1))<|cR [[],[]]<|cX (qB (fun ρ _ w hG=>jnrow2_any (nb ρ 4) (oa ρ 2) (nb ρ 2) (bQ (hL p)) (some ⟨nb ρ 3,0,none⟩) 1 ([10]:List UInt8) (by simp only [List.length_cons,List.length_nil,eG,aO];omega) (qY _) w (Kb.of_block (hG.kn (g:=nb ρ 4) (o:=(cL #[.slice (oa ρ 2) (bQ (hL p)).length (nb ρ 2),vs (nb ρ 3) ([10]:List UInt8).length 1] 37)) 33)) (show Fs w0 w (oa ρ 2) (nb ρ 2) (bQ (hL p)) from (hG.facts 2 rfl).now).1 (Bs.of_hd (hG.kn (g:=nb ρ 3) (o:=(cL #[.int .u8 10] 5)) 25) (rfl:Hd #[.int .u8 10] ([10]:List UInt8)) (Nat.le_refl 1) (Nat.le_of_ble_eq_true rfl))))<|jE [[]]) (fun ρ2 _=>?_)
 refine aF (mD [(2,(.slice (oa ρ2 5) ((bQ (hL p))++([10]:List UInt8)).length (nb ρ2 5)))] [] ?_)
 exact mR (v:=(.slice (oa ρ2 5) ((bQ (hL p))++([10]:List UInt8)).length (nb ρ2 5))) (fun _ hS=>⟨oa ρ2 5,nb ρ2 5,congrArg Ending.returned (rfl),hS.bel,dU (rfl) hS.facts.now.2.2.1⟩)
def BlC (ts:List bW) (ns:List Nat) (x:List UInt8) (n m:Nat):Prop:=∀ (a b:Option Addr) (c d:Nat) (w0:World),bM w0 a c ts→Us w0 b d ns→Calls Tryz.prog 40 #[.slice a ts.length c,.slice b ns.length d] w0 (fun ε w'=>∃ α κ,ε=.returned (.tuple #[.slice α x.length κ,.int .i64 ((n:Nat):Int),.int .i64 ((m:Nat):Int)])∧jG w0 w'∧Fs w0 w' α κ x)
theorem build1_any (a:Option Addr) (c:Nat) (ts:List bW) (b:Option Addr) (d:Nat) (ns:List Nat) (hk:(gT ts 0).kd=1) (h0:0<ts.length) (hfd:(gT ts 0).fd=true) (hks:(gT ts 0).ks.length≤ns.length) (_ho:mP ts) (hU:∀ n∈ns,n<M) (w0:World) (hf0:bM w0 a c ts) (hf1:Us w0 b d ns):Calls Tryz.prog 40 #[.slice a ts.length c,.slice b ns.length d] w0 (fun ε w'=>∃ α κ,ε=.returned (.tuple #[.slice α (sgB (ns.getD 0 0)).length κ,vi 1,vi 1])∧jG w0 w'∧Fs w0 w' α κ (sgB (ns.getD 0 0))):=by
 refine Calls.of_ok (n:=103) (F:=(fun w=>bM w a c ts∧Us w b d ns∧True)) Tryz.func40 rfl rfl rfl (by simp) (hf0.pers0.and (hf1.pers0.and cO)) ?_
 refine jJ Tryz.f40 3 [0,1,4,5,6] [vz,vi 0,vi 0] ?_
 refine sS Tryz.f40 5 [0,1,4,5,6,7] [] (fun ρ=>[.slice a ts.length c,.pointer (fK a (0*36)),.agg (bW.row (gT ts 0)),pt (nb ρ 3),undef]) (fun ρ=>[(3,(nw ρ 3 (cL (iC 0 0 0 0 vz) 60))),(4,(bD 24 (nb ρ 3) (cL (bW.row (gT ts 0)) 60)))]) (cR [[]]<|cX (qF (fun _ _ _ hG=>bM.idx (k:=.i64) Tryz.underlying24 Tryz.sizeOf60 hG.fn.1 rfl (show (0:Int)=((0:Nat):Int) from rfl) (show 0<ts.length from h0)))<|cX (qF (fun _ _ _ hG=>bM.ldA (i:=0) Tryz.isAgg60 Tryz.sizeOf60 hG.fn.1 (show 0<ts.length from h0)))<|jE [[],[24]]) (fun ρ2=>?_)
 refine aB (jM Tryz.f40 2 [0,1,4,5,6,7,20] [] [pt (nb ρ2 3),vi (gT ts 0).kd] [[],[0]] (aI ?_))
 refine sS Tryz.f40 2 [0,1,4,5,6,7,20,21] [] (fun _=>[vT,vT]) (fun _=>[]) (jQ (fun ρ=>((gT ts 0).kd==1)) true (fun _=>(jK hk rfl))<|jE [[]]) (fun _=>?_)
 refine oY ?_
 refine iZ Tryz.f40 7 [0,1,4,5,6,7] [] (fun ρ=>let qa:Value:=.slice (oa ρ 3) (sgB (gU ns 0)).length (nb ρ 3);[.slice b ns.length d,.pointer (fK b (0*4)),U (gU ns 0),qa,qa,vi 1,vi 1]) (fun _=>[]) (fun ρ=>[(3,fun w=>Fs w0 w (oa ρ 3) (nb ρ 3) (sgB (gU ns 0)))]) (fun ρ=>(fun w=>bM w a c ts∧Us w b d ns∧Fs w0 w (oa ρ 3) (nb ρ 3) (sgB (gU ns 0))∧True)) (fun _=>True) (fun _ _ hF hf=>⟨⟨hF.1,hF.2.1,hf 3,trivial⟩,trivial⟩) (cR [[]]<|cX (qF (fun _ _ _ hG=>Us.idx (k:=.i64) Tryz.underlying80 Tryz.sizeOf64 hG.fn.2.1 rfl (show (0:Int)=((0:Nat):Int) from rfl) (show 0<ns.length from (by have:=hks;have h1:0<(gT ts 0).ks.length:=(by have:=(xAT _ _ _ _ _).1 hfd;unfold o7 at this;omega);omega))))<|cX (qF (fun _ _ _ hG=>Us.ldA Tryz.isAgg64 Tryz.sizeOf64 hG.fn.2.1 (show 0<ns.length from (by have:=hks;have h1:0<(gT ts 0).ks.length:=(by have:=(xAT _ _ _ _ _).1 hfd;unfold o7 at this;omega);omega))))<|cX (qB (fun _ _ w _=>rsingle_any (gU ns 0) (gU_ok hU 0) w))<|jE [[],[],[]]) (fun ρ5 _=>?_)
 refine aF (aP (aC (mD [(0,(.slice a ts.length c)),(1,(.slice b ns.length d)),(4,(.slice (oa ρ5 3) (sgB (gU ns 0)).length (nb ρ5 3))),(5,(vi 1)),(6,(vi 1)),(7,(pt (nb ρ2 3)))] [(nb ρ2 3,(cL (bW.row (gT ts 0)) 60))] ?_)))
 exact mR (v:=(.tuple #[.slice (oa ρ5 3) (sgB (gU ns 0)).length (nb ρ5 3),vi 1,vi 1])) (fun _ hS=>⟨oa ρ5 3,nb ρ5 3,congrArg Ending.returned (rfl),hS.bel,dU (rfl) hS.facts.now.2.2.1⟩)
theorem build_ex {ts:List bW} {z:Int} (h0:kZ ts z=0) (h2:∀ t∈ts,t.kd=1) (ho:mP ts) (hU:∀ n∈gV ts z,n<M):∃ n m,BlC ts (gV ts z) (xP ts z) n m:=by
  obtain ⟨s',h⟩:=nx_go h0 none 0 none 0
  unfold nx at h
  split at h
  · exact absurd h (by simp)
  rename_i hc
  have hc:(Mk.mk none 0 ts none 0 (gV ts z)).can=true:=by simpa using hc
  have hk:(Mk.mk none 0 ts none 0 (gV ts z)).fst.kd=1:=h2 _ (fA (eX hc))
  rw [if_pos hk] at h
  simp only [Option.some.injEq,Prod.mk.injEq] at h;rw [← h.1]
  exact ⟨1,1,fun a b c d w0 hT hV=>build1_any a c ts b d (gV ts z) hk (eX hc) ((xAT _ _ _ _ _).2 (vV hc)) (fE hc) ho hU w0 hT hV⟩
theorem rhmac_any (a:Option Addr) (c:Nat) (K:Nat) (a2:Option Addr) (c2:Nat) (S:List UInt8) (hl:S.length+200≤140737488351232) (w0:World) (hf0:Bs w0 a c (hL K)) (hf1:Bs w0 a2 c2 S):Calls Tryz.prog 116 #[.slice a (hL K).length c,.slice a2 S.length c2] w0 (jR (.agg (hB (hmN K S))) w0):=by
 refine Calls.of_ok (n:=51) (F:=(fun w=>Bs w a c (hL K)∧Bs w a2 c2 S∧True)) Tryz.func116 rfl rfl rfl (by simp) (hf0.pers0.and (hf1.pers0.and cO)) ?_
 refine sS Tryz.f116 1 [0,1,4] [] (fun ρ=>[pt (nb ρ 0)]) (fun ρ=>[(0,(nw ρ 0 (cL (hB 0) 57)))]) (jE [[]]) (fun ρ1=>?_)
 refine aB ?_
 refine sS Tryz.f116 3 [0,1,4,13] [] (fun _=>[.slice a (hL K).length c,vn (hL K).length,vF]) (fun _=>[]) (cR [[],[]]<|jQ (fun ρ=>(decide (64<(((hL K).length:Nat):Int)))) false (fun _=>(decide_eq_false (by rw [aO];decide)))<|cN) (fun _=>?_)
 refine oN ?_
 refine aG (aA ?_)
 refine sD Tryz.f116 [0,0,1,7] 4 [0,1,4,6,7] [] (fun ρ=>let qa:=vs (nb ρ 0) (List.replicate 64 (0:UInt8)).length 64;let qb:=vs (nb ρ 1) (List.replicate 64 (0:UInt8)).length 64;[qa,qb,qa,qb]) (fun ρ=>[(0,(nw ρ 0 (cL (zB 64) 5))),(1,(nw ρ 1 (cL (zB 64) 5)))]) (cX (uB _ (fun _=>do pure (Next.value (← Instr.makeSlice 37 (vi 64) (vi 64)))) (fun _ ζ=>(vs (ζ.headD 0) (List.replicate 64 (0:UInt8)).length 64)) (fun _ _=>(cL (zB 64) 5)) (fun _ _=>(by kernel_rfl)) (fun _=>(by kernel_rfl)) (fun _ _=>trivial) (fun _ _ w _=>mM Tryz.underlying37 nH (List.replicate 64 (0:UInt8)) (by rw [List.length_replicate];rfl) (rfl) (by rw [List.length_replicate];exact Nat.le_refl _) (by decide) w))<|cX (uB _ (fun _=>do pure (Next.value (← Instr.makeSlice 37 (vi 64) (vi 64)))) (fun _ ζ=>(vs (ζ.headD 0) (List.replicate 64 (0:UInt8)).length 64)) (fun _ _=>(cL (zB 64) 5)) (fun _ _=>(by kernel_rfl)) (fun _=>(by kernel_rfl)) (fun _ _=>trivial) (fun _ _ w _=>mM Tryz.underlying37 nH (List.replicate 64 (0:UInt8)) (by rw [List.length_replicate];rfl) (rfl) (by rw [List.length_replicate];exact Nat.le_refl _) (by decide) w))<|jE [[],[]]) (fun ρ3=>?_)
 refine aB (jJ Tryz.f116 3 [0,1,4,6,7,20,21] [vs (nb ρ3 0) (List.replicate 64 (0:UInt8)).length 64,vn (List.replicate 64 (0:UInt8)).length,vi 0] (aI ?_))
 refine oL (σ:=Nat × (Array Value) × (Array Value)) (fun ⟨m,_,_⟩=>[(0,(.slice a (hL K).length c)),(1,(.slice a2 S.length c2)),(4,(pt (nb ρ1 0))),(6,(vs (nb ρ3 0) (List.replicate 64 (0:UInt8)).length 64)),(7,(vs (nb ρ3 1) (List.replicate 64 (0:UInt8)).length 64)),(20,(vn (List.replicate 64 (0:UInt8)).length)),(21,(vn m))]) (fun ⟨_,C1,C2⟩=>[(nb ρ1 0,(cL (hB 0) 57)),(nb ρ3 0,(cL C1 5)),(nb ρ3 1,(cL C2 5))]) (fun ⟨m,_,_⟩=>64-m)
   (fun ⟨m,C1,C2⟩=>(m≤64)∧(C1=(bs (fl2 (xB 54 K) 64 m)).toArray)∧(C2=(bs (fl2 (xB 92 K) 64 m)).toArray)) (0,zB 64,zB 64) (⟨by decide,by rw [fl2_zero];rfl,by rw [fl2_zero];rfl⟩) [] ?_
 rintro ⟨m,C1,C2⟩ ⟨hm,hC1,hC2⟩
 change Ok Tryz.prog _ _ 51 [(0,(.slice a (hL K).length c)),(1,(.slice a2 S.length c2)),(4,(pt (nb ρ1 0))),(6,(vs (nb ρ3 0) (List.replicate 64 (0:UInt8)).length 64)),(7,(vs (nb ρ3 1) (List.replicate 64 (0:UInt8)).length 64)),(20,(vn (List.replicate 64 (0:UInt8)).length)),(21,(vn m))] _ [(nb ρ1 0,(cL (hB 0) 57)),(nb ρ3 0,(cL C1 5)),(nb ρ3 1,(cL C2 5))] (fun w=>Bs w a c (hL K)∧Bs w a2 c2 S∧True)
 refine jJ Tryz.f116 1 [0,1,4,6,7,20,21,22] [.bool (decide (((m:Nat):Int)<(((List.replicate 64 (0:UInt8)).length:Nat):Int)))] (aB ?_)
 refine oC (decide (((m:Nat):Int)<(((List.replicate 64 (0:UInt8)).length:Nat):Int))) (fun hb1=>?_) (fun hb1=>?_)
 ·
  rw [hb1]
  have:=yT hb1
  refine aG (aA (aB (aI (jJ Tryz.f116 2 [0,1,4,6,7,8,20,21] [vn m,vn m] (jJ Tryz.f116 1 [0,1,4,6,7,8,9,20,21] [.int .u8 0] (aB (jJ Tryz.f116 4 [0,1,4,6,7,8,9,20,21,27] [vn m,.slice a (hL K).length c,vn (hL K).length,.bool (decide (((m:Nat):Int)<(((hL K).length:Nat):Int)))] ?_)))))))
  refine oC (decide (((m:Nat):Int)<(((hL K).length:Nat):Int))) (fun hb2=>?_) (fun hb2=>?_)
  ·
   rw [hb2]
   have:=yT hb2
   refine rS Tryz.f116 5 [0,1,4,6,7,8,9,20,21] [] (fun _=>[.slice a (hL K).length c,vn m,.pointer (fK a m),vy (gB (hL K) m),vy (gB (hL K) m)]) (fun _=>[]) (cR [[],[]]<|cX (qF (fun _ _ _ hG=>idx_bytes (k:=.i64) Tryz.underlying37 nH hG.fn.1 rfl (show ((m:Nat):Int)=((m:Nat):Int) from rfl) (show m<(hL K).length from (by rw [aO];exact (by have h9:=yT hb2;rw [aO] at h9;omega)))))<|cX (qF (fun _ _ _ hG=>ld_bytes Tryz.isAgg5 hG.fn.1 (show m<(hL K).length from (by rw [aO];exact (by have h9:=yT hb2;rw [aO] at h9;omega)))))<|jE [[]]) (fun _=>?_)
   refine aA ?_
   refine rS Tryz.f116 12 [0,1,4,6,7,20,21] [] (fun _=>[vs (nb ρ3 0) (List.replicate 64 (0:UInt8)).length 64,vn m,vs (nb ρ3 1) (List.replicate 64 (0:UInt8)).length 64,vn m,vy (gB (hL K) m),vy (gB (xB 54 K) m),vy (gB (hL K) m),vy (gB (xB 92 K) m),jp (nb ρ3 0) m,undef,jp (nb ρ3 1) m,undef]) (fun _=>[(9,(bD 1 (nb ρ3 0) (cL (bs (fl2 (xB 54 K) 64 (m+1))).toArray 5))),(11,(bD 2 (nb ρ3 1) (cL (bs (fl2 (xB 92 K) 64 (m+1))).toArray 5)))]) (cR [[],[],[],[],[]]<|cA (v:=fun ρ=>(.int .u8 (bits .xor .u8 ((gB (hL K) m:Nat):Int) 54))) (fun _=>(vy (gB (xB 54 K) m))) (fun _=>congrArg (Value.int .u8) (hm_xorL54 (K:=K) (i:=m) (by have h9:=yT hb2;rw [aO] at h9;omega)))<|cR [[]]<|cA (v:=fun ρ=>(.int .u8 (bits .xor .u8 ((gB (hL K) m:Nat):Int) 92))) (fun _=>(vy (gB (xB 92 K) m))) (fun _=>congrArg (Value.int .u8) (hm_xorL92 (K:=K) (i:=m) (by have h9:=yT hb2;rw [aO] at h9;omega)))<|cX (qS (fun _ w=>uI (g:=nb ρ3 0) (c:=64) (k:=.i64) Tryz.underlying37 nH (show ((m:Nat):Int)=((m:Nat):Int) from rfl) (show m<(List.replicate 64 (0:UInt8)).length from (by rw [List.length_replicate];have:=List.length_replicate (n:=64) (a:=(0:UInt8));omega)) w))<|cX (qG _ 1 5 (fun _=>nb ρ3 0) (fun _=>m) (fun _=>C1) (fun _=>(bs (fl2 (xB 54 K) 64 (m+1))).toArray) 5 (fun _=>(vy (gB (xB 54 K) m))) (fun _=>by kernel_rfl) Tryz.sizeOf5 (fun _=>rfl) (fun _=>(by rw [hC1,List.size_toArray,dH,xM (eP _ _) hm];have:=List.length_replicate (n:=64) (a:=(0:UInt8));omega)) (fun _=>(by rw [hC1];exact fl2_set (eP _ _) (by have:=List.length_replicate (n:=64) (a:=(0:UInt8));omega) rfl)))<|cX (qS (fun _ w=>uI (g:=nb ρ3 1) (c:=64) (k:=.i64) Tryz.underlying37 nH (show ((m:Nat):Int)=((m:Nat):Int) from rfl) (show m<(List.replicate 64 (0:UInt8)).length from (by rw [List.length_replicate];have:=List.length_replicate (n:=64) (a:=(0:UInt8));omega)) w))<|cX (qG _ 2 5 (fun _=>nb ρ3 1) (fun _=>m) (fun _=>C2) (fun _=>(bs (fl2 (xB 92 K) 64 (m+1))).toArray) 5 (fun _=>(vy (gB (xB 92 K) m))) (fun _=>by kernel_rfl) Tryz.sizeOf5 (fun _=>rfl) (fun _=>(by rw [hC2,List.size_toArray,dH,xM (eP _ _) hm];have:=List.length_replicate (n:=64) (a:=(0:UInt8));omega)) (fun _=>(by rw [hC2];exact fl2_set (eP _ _) (by have:=List.length_replicate (n:=64) (a:=(0:UInt8));omega) rfl)))<|cN) (fun _=>?_)
   refine aJ (aA ?_)
   refine rS Tryz.f116 2 [0,1,4,6,7,20,21] [] (fun _=>[vn (m+1),vn (m+1)]) (fun _=>[]) (jW (fun ρ=>(((m:Nat):Int)+1)) (fun _=>(m+1)) (fun _=>(aW m 1 (by have:=List.length_replicate (n:=64) (a:=(0:UInt8));omega)))<|jE [[]]) (fun _=>?_)
   exact mN (m+1,(bs (fl2 (xB 54 K) 64 (m+1))).toArray,(bs (fl2 (xB 92 K) 64 (m+1))).toArray) (by show 64-(m+1)<64-m;have:=List.length_replicate (n:=64) (a:=(0:UInt8));omega) (⟨(by have:=List.length_replicate (n:=64) (a:=(0:UInt8));omega),rfl,rfl⟩) []
  rw [hb2]
  have:=yF hb2
  refine aG (aA ?_)
  refine rS Tryz.f116 12 [0,1,4,6,7,20,21] [] (fun _=>[vs (nb ρ3 0) (List.replicate 64 (0:UInt8)).length 64,vn m,vs (nb ρ3 1) (List.replicate 64 (0:UInt8)).length 64,vn m,.int .u8 0,.int .u8 54,.int .u8 0,.int .u8 92,jp (nb ρ3 0) m,undef,jp (nb ρ3 1) m,undef]) (fun _=>[(9,(bD 1 (nb ρ3 0) (cL (bs (fl2 (xB 54 K) 64 (m+1))).toArray 5))),(11,(bD 2 (nb ρ3 1) (cL (bs (fl2 (xB 92 K) 64 (m+1))).toArray 5)))]) (cR [[],[],[],[],[],[],[],[]]<|cX (qS (fun _ w=>uI (g:=nb ρ3 0) (c:=64) (k:=.i64) Tryz.underlying37 nH (show ((m:Nat):Int)=((m:Nat):Int) from rfl) (show m<(List.replicate 64 (0:UInt8)).length from (by rw [List.length_replicate];have:=List.length_replicate (n:=64) (a:=(0:UInt8));omega)) w))<|cX (qG _ 1 5 (fun _=>nb ρ3 0) (fun _=>m) (fun _=>C1) (fun _=>(bs (fl2 (xB 54 K) 64 (m+1))).toArray) 5 (fun _=>(.int .u8 54)) (fun _=>by kernel_rfl) Tryz.sizeOf5 (fun _=>rfl) (fun _=>(by rw [hC1,List.size_toArray,dH,xM (eP _ _) hm];have:=List.length_replicate (n:=64) (a:=(0:UInt8));omega)) (fun _=>(by rw [hC1];exact fl2_set (eP _ _) (by have:=List.length_replicate (n:=64) (a:=(0:UInt8));omega) (kx_out54 (by have h9:=yF hb2;rw [aO] at h9;omega) (by have:=List.length_replicate (n:=64) (a:=(0:UInt8));omega)))))<|cX (qS (fun _ w=>uI (g:=nb ρ3 1) (c:=64) (k:=.i64) Tryz.underlying37 nH (show ((m:Nat):Int)=((m:Nat):Int) from rfl) (show m<(List.replicate 64 (0:UInt8)).length from (by rw [List.length_replicate];have:=List.length_replicate (n:=64) (a:=(0:UInt8));omega)) w))<|cX (qG _ 2 5 (fun _=>nb ρ3 1) (fun _=>m) (fun _=>C2) (fun _=>(bs (fl2 (xB 92 K) 64 (m+1))).toArray) 5 (fun _=>(.int .u8 92)) (fun _=>by kernel_rfl) Tryz.sizeOf5 (fun _=>rfl) (fun _=>(by rw [hC2,List.size_toArray,dH,xM (eP _ _) hm];have:=List.length_replicate (n:=64) (a:=(0:UInt8));omega)) (fun _=>(by rw [hC2];exact fl2_set (eP _ _) (by have:=List.length_replicate (n:=64) (a:=(0:UInt8));omega) (kx_out92 (by have h9:=yF hb2;rw [aO] at h9;omega) (by have:=List.length_replicate (n:=64) (a:=(0:UInt8));omega)))))<|cN) (fun _=>?_)
  refine aJ (aA ?_)
  refine rS Tryz.f116 2 [0,1,4,6,7,20,21] [] (fun _=>[vn (m+1),vn (m+1)]) (fun _=>[]) (jW (fun ρ=>(((m:Nat):Int)+1)) (fun _=>(m+1)) (fun _=>(aW m 1 (by have:=List.length_replicate (n:=64) (a:=(0:UInt8));omega)))<|jE [[]]) (fun _=>?_)
  exact mN (m+1,(bs (fl2 (xB 54 K) 64 (m+1))).toArray,(bs (fl2 (xB 92 K) 64 (m+1))).toArray) (by show 64-(m+1)<64-m;have:=List.length_replicate (n:=64) (a:=(0:UInt8));omega) (⟨(by have:=List.length_replicate (n:=64) (a:=(0:UInt8));omega),rfl,rfl⟩) []
 rw [hb1]
 refine bF (aN (aN (aT ?_)))
 rw [(show C1=(bs (xB 54 K)).toArray from hC1.trans (by rw [fl2_end (eP _ _) (by have:=yF hb1;have:=List.length_replicate (n:=64) (a:=(0:UInt8));omega)]))]
 rw [(show C2=(bs (xB 92 K)).toArray from hC2.trans (by rw [fl2_end (eP _ _) (by have:=yF hb1;have:=List.length_replicate (n:=64) (a:=(0:UInt8));omega)]))]
 refine aA ?_
 refine iZ Tryz.f116 6 [4,7,10] [1,0,1,1] (fun ρ=>[vs (nb ρ3 0) (List.replicate 64 (0:UInt8)).length 64,.slice a2 S.length c2,vs (nb ρ 2) ((xB 54 K)++S).length (aZ ρ 2),.agg (hB (aU ((xB 54 K)++S))),pt (nb ρ 4),undef]) (fun ρ=>[(2,(bD 1 (nb ρ 2) (cL (oc ρ 2) 5))),(4,(nw ρ 4 (cL (hB 0) 57))),(5,(bD 35 (nb ρ 4) (cL (hB (aU ((xB 54 K)++S))) 57)))]) (fun ρ=>[(2,fun w=>Ap (oc ρ 2) ((xB 54 K)++S) (aZ ρ 2))]) (fun _=>(fun w=>Bs w a c (hL K)∧Bs w a2 c2 S∧True)) (fun ρ=>Ap (oc ρ 2) ((xB 54 K)++S) (aZ ρ 2)) (fun _ _ hF hf=>⟨hF,hf 2⟩) (cR [[],[]]<|cX (qM 1 (fun _ _ _ hG hg=>app_any (ty:=37) (g:=nb ρ3 0) (C:=(bs (xB 54 K)).toArray) (c:=64) (xs:=xB 54 K) Tryz.underlying37 nH (Ap.mk' (Hd.all _) (Nat.le_of_eq (eP _ _)) (by rw [eP];decide) (by rw [List.size_toArray,dH,eP])) (Bs.src (tx:=37) Tryz.underlying37 hG.fn.2.1) (by rw [eP];omega) hg))<|cX (qC (fun ρ _ w hG=>uY (some ⟨nb ρ 2,0,none⟩) (aZ ρ 2) ((xB 54 K)++S) (by simp only [List.length_append,eP];omega) (by simp only [List.length_append,eP];omega) w (Bs.of_hd (hG.kn (g:=nb ρ 2) (o:=(cL (oc ρ 2) 5)) 1) (show Ap (oc ρ 2) ((xB 54 K)++S) (aZ ρ 2) from (hG.facts 2 rfl).now).hd (show Ap (oc ρ 2) ((xB 54 K)++S) (aZ ρ 2) from (hG.facts 2 rfl).now).le (show Ap (oc ρ 2) ((xB 54 K)++S) (aZ ρ 2) from (hG.facts 2 rfl).now).max)))<|jE [[],[35]]) (fun ρ14 ap14_2=>?_)
 refine iZ Tryz.f116 5 [4] [1,0,0] (fun ρ=>[vs (nb ρ3 1) (List.replicate 64 (0:UInt8)).length 64,vs (nb ρ14 4) (hL (aU ((xB 54 K)++S))).length 32,vs (nb ρ 2) ((xB 92 K)++(hL (aU ((xB 54 K)++S)))).length (aZ ρ 2),.agg (hB (aU ((xB 92 K)++(hL (aU ((xB 54 K)++S)))))),undef]) (fun ρ=>[(2,(bD 1 (nb ρ 2) (cL (oc ρ 2) 5))),(4,(bD 0 (nb ρ1 0) (cL (hB (aU ((xB 92 K)++(hL (aU ((xB 54 K)++S)))))) 57)))]) (fun ρ=>[(2,fun w=>Ap (oc ρ 2) ((xB 92 K)++(hL (aU ((xB 54 K)++S)))) (aZ ρ 2))]) (fun _=>(fun w=>Bs w a c (hL K)∧Bs w a2 c2 S∧True)) (fun ρ=>Ap (oc ρ 2) ((xB 92 K)++(hL (aU ((xB 54 K)++S)))) (aZ ρ 2)) (fun _ _ hF hf=>⟨hF,hf 2⟩) (cR [[],[]]<|cX (qM 1 (fun _ _ _ hG hg=>app_any (ty:=37) (g:=nb ρ3 1) (C:=(bs (xB 92 K)).toArray) (c:=64) (xs:=xB 92 K) Tryz.underlying37 nH (Ap.mk' (Hd.all _) (Nat.le_of_eq (eP _ _)) (by rw [eP];decide) (by rw [List.size_toArray,dH,eP])) (Bs.src (tx:=37) Tryz.underlying37 (Bs.of_hd (c:=32) (hG.kn (g:=nb ρ14 4) (o:=(cL (hB (aU ((xB 54 K)++S))) 57)) 2) (tN _) (Nat.le_refl _) (Nat.le_of_ble_eq_true rfl))) (by simp only [eP,aO];omega) hg))<|cX (qC (fun ρ _ w hG=>uY (some ⟨nb ρ 2,0,none⟩) (aZ ρ 2) ((xB 92 K)++(hL (aU ((xB 54 K)++S)))) (by simp only [List.length_append,eP];omega) (by simp only [List.length_append,eP,aO];omega) w (Bs.of_hd (hG.kn (g:=nb ρ 2) (o:=(cL (oc ρ 2) 5)) 1) (show Ap (oc ρ 2) ((xB 92 K)++(hL (aU ((xB 54 K)++S)))) (aZ ρ 2) from (hG.facts 2 rfl).now).hd (show Ap (oc ρ 2) ((xB 92 K)++(hL (aU ((xB 54 K)++S)))) (aZ ρ 2) from (hG.facts 2 rfl).now).le (show Ap (oc ρ 2) ((xB 92 K)++(hL (aU ((xB 54 K)++S)))) (aZ ρ 2) from (hG.facts 2 rfl).now).max)))<|jE [[0]]) (fun _ ap15_2=>?_)
 refine aF ?_
 exact mR (v:=(.agg (hB (aU ((xB 92 K)++(hL (aU ((xB 54 K)++S)))))))) (fun _ hS=>⟨rfl,hS.bel⟩)
theorem rstep_any (k:Ky) (i:Nat) (hk:k.Ok) (hi:i<4294967296) (hsn:fC k=true) (w0:World):Calls Tryz.prog 84 #[.agg (kY k),vu i] w0 (jR (.tuple #[.agg (kY (chK k i)),vi (chE k i)]) w0):=by
 refine Calls.of_ok (n:=88) (F:=(fun _=>True)) Tryz.func84 rfl rfl rfl (by simp) jT ?_
 refine sS Tryz.f84 3 [1,2,4,5] [] (fun ρ=>[pt (nb ρ 0),pt (nb ρ 1),vi 0]) (fun ρ=>[(0,(nw ρ 0 (cL (kY k) 66))),(1,(nw ρ 1 (cL (kC 0 0 0 0 0 0) 66)))]) (jE [[],[],[]]) (fun ρ1=>?_)
 refine aB (jM Tryz.f84 3 [1,2,4,5,12] [] [jp (nb ρ1 0) 40,vi k.d,.bool (decide (8≤k.d))] [[],[0],[]] ?_)
 refine oC (decide (8≤k.d)) (fun hb1=>?_) (fun hb1=>?_)
 ·
  rw [hb1]
  refine sS Tryz.f84 3 [1,2,4,5] [] (fun _=>[.agg (kC 0 0 0 0 0 0),undef,vi 4]) (fun _=>[(1,(bD 1 (nb ρ1 1) (cL (kC 0 0 0 0 0 0) 66)))]) (jE [[],[1],[]]) (fun _=>?_)
  refine aF (aC ?_)
  exact mR (v:=(.tuple #[.agg (kC 0 0 0 0 0 0),vi 4])) (ps:=[1,1,1,1,1,1,1,1,1,1,1,1,1,1,1,1,1,1,1,1,1,1,1,1,1,1,1,1,1,1,1,1,1,1,1,1,1,1,1,1,1,1,1]) (fun _ hS=>⟨by rw [(ch_4 (i:=i) hsn (d8_t hsn hb1)).1,(ch_4 (i:=i) hsn (d8_t hsn hb1)).2];rfl,hS.bel⟩)
 rw [hb1]
 have:=yF hb1
 refine aG (aA ?_)
 refine sS Tryz.f84 5 [1,2,4,5,6] [] (fun _=>let qa:Value:=.bool (!(decide (k.s=0)));[pt (nb ρ1 0),U k.s,.bool (decide (k.s=0)),qa,qa]) (fun _=>[]) (cR [[],[0]]<|cC (fun _ w=>iI k.s w hk.s)<|jE [[],[]]) (fun _=>?_)
 refine aB ?_
 rcases Bool.eq_false_or_eq_true (decide (2147483648≤((i:Nat):Int))) with hb2 | hb2
 ·
  refine sS Tryz.f84 6 [1,2,4,5,6,23] [] (fun _=>let qa:Value:=.bool (!(!(decide (k.s=0))));[vu i,vT,vT,.bool (!(decide (k.s=0))),qa,qa]) (fun _=>[]) (cR [[]]<|cA (fun _=>vT) (fun _=>congrArg Value.bool hb2)<|jE [[],[],[],[]]) (fun _=>?_)
  refine oC (!(!(decide (k.s=0)))) (fun hb3=>?_) (fun hb3=>?_)
  ·
   rw [hb3]
   refine sS Tryz.f84 3 [1,2,4,5,6] [] (fun _=>[.agg (kC 0 0 0 0 0 0),undef,vi 250]) (fun _=>[(1,(bD 1 (nb ρ1 1) (cL (kC 0 0 0 0 0 0) 66)))]) (jE [[],[1],[]]) (fun _=>?_)
   refine aF (aC ?_)
   exact mR (v:=(.tuple #[.agg (kC 0 0 0 0 0 0),vi 250])) (ps:=[1,1,1,1,1,1,1,1,1,1,1,1,1,1,1,1,1,1,1,1,1,1,1,1,1,1,1,1,1,1,1,1,1,1,1,1,1,1,1,1,1,1,1]) (fun _ hS=>⟨by rw [(ch_250 hsn (zC hb1) (hd_t hb2) (yT (aV (dF hb3)))).1,(ch_250 hsn (zC hb1) (hd_t hb2) (yT (aV (dF hb3)))).2];rfl,hS.bel⟩)
  rw [hb3]
  refine aG (aA ?_)
  refine sDf Tryz.f84 [0,1,0,4,12,31,63,0,255,511,0,2047] 12 [1,2,4,5,6,7] [1,1,0,1] (fun ρ=>[jp (nb ρ1 0) 8,.slice (some ⟨nb ρ1 0,8,none⟩) (hL k.c).length 32,jp (nb ρ1 0) 4,U k.p,.slice (oa ρ 4) (hL k.p).length (nb ρ 4),vs (nb ρ 5) 2 2,.slice (oa ρ 6) ((hL k.c)++(hL k.p)).length (nb ρ 6),vu i,.slice (oa ρ 8) (((hL k.c)++(hL k.p))++leB i 4).length (nb ρ 8),.agg (hB (lV tgS (((hL k.c)++(hL k.p))++leB i 4))),pt (nb ρ 10),undef]) (fun ρ=>[(5,(nw ρ 5 (cL #[.slice (some ⟨nb ρ1 0,8,none⟩) (hL k.c).length 32,.slice (oa ρ 4) (hL k.p).length (nb ρ 4)] 37))),(10,(nw ρ 10 (cL (hB 0) 57))),(11,(bD 82 (nb ρ 10) (cL (hB (lV tgS (((hL k.c)++(hL k.p))++leB i 4))) 57)))]) (fun ρ=>[(4,fun w=>Fs w0 w (oa ρ 4) (nb ρ 4) (hL k.p)),(6,fun w=>Fs w0 w (oa ρ 6) (nb ρ 6) ((hL k.c)++(hL k.p))),(8,fun w=>Fs w0 w (oa ρ 8) (nb ρ 8) (((hL k.c)++(hL k.p))++leB i 4))]) (fun ρ=>(fun w=>Fs w0 w (oa ρ 4) (nb ρ 4) (hL k.p)∧Fs w0 w (oa ρ 6) (nb ρ 6) ((hL k.c)++(hL k.p))∧Fs w0 w (oa ρ 8) (nb ρ 8) (((hL k.c)++(hL k.p))++leB i 4)∧True)) (fun _=>True) (fun _ _ _ hf=>⟨⟨hf 4,hf 6,hf 8,trivial⟩,trivial⟩) (cR [[],[],[],[0]]<|cX (qB (fun _ _ w _=>oJ k.p hk.p w))<|cR [[]]<|cX (qB (fun ρ _ w hG=>join2_any (nb ρ 5) (some ⟨nb ρ1 0,8,none⟩) 32 (hL k.c) (oa ρ 4) (nb ρ 4) (hL k.p) (by simp only [aO];omega) (by rw [aO];decide) w (Kb.of_block (hG.kn (g:=nb ρ 5) (o:=(cL #[.slice (some ⟨nb ρ1 0,8,none⟩) (hL k.c).length 32,.slice (oa ρ 4) (hL k.p).length (nb ρ 4)] 37)) 42)) (Bs.of_key (hG.kn (g:=nb ρ1 0) (o:=(cL (kY k) 66)) 0)) (show Fs w0 w (oa ρ 4) (nb ρ 4) (hL k.p) from (hG.facts 4 rfl).now).1))<|cR [[]]<|cX (qB (fun ρ _ w hG=>rM (oa ρ 6) (nb ρ 6) ((hL k.c)++(hL k.p)) i (by have:=yT hb2;omega) (by simp only [List.length_append,aO];have:=yT hb2;omega) w (show Fs w0 w (oa ρ 6) (nb ρ 6) ((hL k.c)++(hL k.p)) from (hG.facts 6 rfl).now).1))<|cX (qC (fun ρ _ w hG=>wK tgS (oa ρ 8) (nb ρ 8) (((hL k.c)++(hL k.p))++leB i 4) (by decide) (by simp only [List.length_append,aO,eQ];omega) w (show Fs w0 w (oa ρ 8) (nb ρ 8) (((hL k.c)++(hL k.p))++leB i 4) from (hG.facts 8 rfl).now).1))<|jE [[],[82]]) (fun ρ7 _=>?_)
  refine aB ?_
  refine sS Tryz.f84 2 [1,2,4,5,6,7,36] [] (fun _=>[vu i,vT]) (fun _=>[]) (cR [[]]<|cA (fun _=>vT) (fun _=>congrArg Value.bool hb2)<|cN) (fun _=>?_)
  refine oY ?_
  refine rDf Tryz.f84 [0,1,0,4,12,31,63,0,255,511,1023] 11 [1,2,4,5,6,7] [1,1,1,0] (fun ρ=>[jp (nb ρ1 0) 8,.slice (some ⟨nb ρ1 0,8,none⟩) (hL k.c).length 32,pt (nb ρ1 0),U k.s,.slice (oa ρ 4) (hL k.s).length (nb ρ 4),vs (nb ρ 5) 2 2,.slice (oa ρ 6) ((hL k.c)++(hL k.s)).length (nb ρ 6),vu i,.slice (oa ρ 8) (((hL k.c)++(hL k.s))++leB i 4).length (nb ρ 8),.agg (hB (bT k i)),undef]) (fun ρ=>[(5,(nw ρ 5 (cL #[.slice (some ⟨nb ρ1 0,8,none⟩) (hL k.c).length 32,.slice (oa ρ 4) (hL k.s).length (nb ρ 4)] 37))),(10,(bD 2 (nb ρ7 10) (cL (hB (bT k i)) 57)))]) (fun ρ=>[(4,fun w=>Fs w0 w (oa ρ 4) (nb ρ 4) (hL k.s)),(6,fun w=>Fs w0 w (oa ρ 6) (nb ρ 6) ((hL k.c)++(hL k.s))),(8,fun w=>Fs w0 w (oa ρ 8) (nb ρ 8) (((hL k.c)++(hL k.s))++leB i 4))]) (fun ρ=>(fun w=>Fs w0 w (oa ρ7 4) (nb ρ7 4) (hL k.p)∧Fs w0 w (oa ρ7 6) (nb ρ7 6) ((hL k.c)++(hL k.p))∧Fs w0 w (oa ρ7 8) (nb ρ7 8) (((hL k.c)++(hL k.p))++leB i 4)∧Fs w0 w (oa ρ 4) (nb ρ 4) (hL k.s)∧Fs w0 w (oa ρ 6) (nb ρ 6) ((hL k.c)++(hL k.s))∧Fs w0 w (oa ρ 8) (nb ρ 8) (((hL k.c)++(hL k.s))++leB i 4)∧True)) (fun _=>True) (fun _ _ hF hf=>⟨⟨hF.1,hF.2.1,hF.2.2.1,hf 4,hf 6,hf 8,trivial⟩,trivial⟩) (cR [[],[],[],[0]]<|cX (qB (fun _ _ w _=>oJ k.s hk.s w))<|cR [[]]<|cX (qB (fun ρ _ w hG=>join2_any (nb ρ 5) (some ⟨nb ρ1 0,8,none⟩) 32 (hL k.c) (oa ρ 4) (nb ρ 4) (hL k.s) (by simp only [aO];omega) (by rw [aO];decide) w (Kb.of_block (hG.kn (g:=nb ρ 5) (o:=(cL #[.slice (some ⟨nb ρ1 0,8,none⟩) (hL k.c).length 32,.slice (oa ρ 4) (hL k.s).length (nb ρ 4)] 37)) 43)) (Bs.of_key (hG.kn (g:=nb ρ1 0) (o:=(cL (kY k) 66)) 0)) (show Fs w0 w (oa ρ 4) (nb ρ 4) (hL k.s) from (hG.facts 4 rfl).now).1))<|cR [[]]<|cX (qB (fun ρ _ w hG=>rM (oa ρ 6) (nb ρ 6) ((hL k.c)++(hL k.s)) i (by have:=yT hb2;omega) (by simp only [List.length_append,aO];have:=yT hb2;omega) w (show Fs w0 w (oa ρ 6) (nb ρ 6) ((hL k.c)++(hL k.s)) from (hG.facts 6 rfl).now).1))<|cX (lN _ 113 (fun ρ=> #[.string ⟨#[108,105,103,104,116,99,108,105,101,110,116,47,104,97,114,100]⟩,.slice (oa ρ 8) (((hL k.c)++(hL k.s))++leB i 4).length (nb ρ 8)]) (fun _=>(.agg (hB (bT k i)))) (fun _ _=>(by kernel_rfl)) (fun _=>(by kernel_rfl)) (fun _ _=>(by kernel_rfl)) (fun _ _=>trivial) (fun ρ _ w hG=>(by as_aux_lemma=>(have hcall:=wK tgH (oa ρ 8) (nb ρ 8) (((hL k.c)++(hL k.s))++leB i 4) (by decide) (by simp only [List.length_append,aO,eQ];omega) w (show Fs w0 w (oa ρ 8) (nb ρ 8) (((hL k.c)++(hL k.s))++leB i 4) from (hG.facts 8 rfl).now).1;rw [twk_1 (k:=k) hb2] at hcall;exact hcall))))<|jE [[2]]) (fun _ _=>?_)
  refine aA ?_
  refine sD Tryz.f84 [0,1,0,7,0,16,48,0,0,271,1023,0,4095] 13 [2,4,5,6,7,8] [] (fun ρ=>[jp (nb ρ1 0) 8,.slice (some ⟨nb ρ1 0,8,none⟩) (hL k.c).length 32,vs (nb ρ7 10) (hL (bT k i)).length 32,.agg (hB (hmN k.c (hL (bT k i)))),jp (nb ρ1 0) 40,vi k.d,vi (k.d+1),vu i,.agg (kY k),vu (o8 k.p),.agg (kC 0 0 (hmN k.c (hL (bT k i))) (k.d+1) ((i:Nat):Int) ((o8 k.p:Nat):Int)),pt (nb ρ 11),undef]) (fun ρ=>[(11,(nw ρ 11 (cL (kC 0 0 0 0 0 0) 66))),(12,(bD 91 (nb ρ 11) (cL (kC 0 0 (hmN k.c (hL (bT k i))) (k.d+1) ((i:Nat):Int) ((o8 k.p:Nat):Int)) 66)))]) (cR [[],[],[]]<|cX (qC (fun _ _ w hG=>rhmac_any (some ⟨nb ρ1 0,8,none⟩) 32 k.c (some ⟨nb ρ7 10,0,none⟩) 32 (hL (bT k i)) (by rw [aO];decide) w (Bs.of_key (hG.kn (g:=nb ρ1 0) (o:=(cL (kY k) 66)) 0)) (Bs.of_hd (c:=32) (hG.kn (g:=nb ρ7 10) (o:=(cL (hB (bT k i)) 57)) 2) (tN _) (Nat.le_refl _) (Nat.le_of_ble_eq_true rfl))))<|cR [[],[0]]<|jU (fun ρ=>(k.d+1)) (fun _=>(k.d+1)) (fun _=>(gZ (by have:=oI hsn;omega)))<|cR [[],[0]]<|cX (qC (fun _ _ w _=>rkprint_any k hk w))<|jE [[],[],[91]]) (fun ρ10=>?_)
  refine lK [(2,(pt (nb ρ1 0))),(4,(pt (nb ρ1 1))),(5,(vi 0)),(6,(.bool (!(decide (k.s=0))))),(7,(pt (nb ρ7 10))),(8,(pt (nb ρ10 11)))] [(nb ρ1 0,(cL (kY k) 66)),(nb ρ1 1,(cL (kC 0 0 0 0 0 0) 66)),(nb ρ7 10,(cL (hB (bT k i)) 57)),(nb ρ10 11,(cL (kC 0 0 (hmN k.c (hL (bT k i))) (k.d+1) ((i:Nat):Int) ((o8 k.p:Nat):Int)) 66))] ?_
  refine jJ Tryz.f84 1 [2,4,5,6,7,8,9] [vi 0] (aB (jJ Tryz.f84 1 [2,4,5,6,7,8,9,58] [.bool (!(decide (k.s=0)))] ?_))
  refine oC (!(decide (k.s=0))) (fun hb4=>?_) (fun hb4=>?_)
  ·
   rw [hb4]
   refine rS Tryz.f84 10 [4,5,6,8,9] [0,1,0,1] (fun _=>let qa:=vi (nY k.s (bT k i));[pt (nb ρ1 0),U k.s,.agg (hB (bT k i)),.tuple #[U (fO k.s (bT k i)),qa],.tuple #[U (fO k.s (bT k i)),qa],U (fO k.s (bT k i)),qa,pt (nb ρ10 11),undef,qa]) (fun _=>[(8,(bD 3 (nb ρ10 11) (cL (kC (fO k.s (bT k i)) 0 (hmN k.c (hL (bT k i))) (k.d+1) ((i:Nat):Int) ((o8 k.p:Nat):Int)) 66)))]) (cR [[],[0],[2]]<|cC (f:=118) (args:=fun ρ=> #[U k.s,.agg (hB (bT k i))]) (v:=fun ρ=>(.tuple #[U (fO k.s (bT k i)),vi (nY k.s (bT k i))])) (fun _ w=>(fun w=>sJ k.s (bT k i) hk.s (twk_lt _ _) w) w)<|jE [[],[],[],[],[3],[]]) (fun _=>?_)
   refine aA (aB (jJ Tryz.f84 2 [4,5,6,8,9,76] [vi (nY k.s (bT k i)),.bool ((nY k.s (bT k i)) != 0)] ?_))
   refine oC ((nY k.s (bT k i)) != 0) (fun hb5=>?_) (fun hb5=>?_)
   ·
    rw [hb5]
    refine sS Tryz.f84 4 [4,5,6,8] [] (fun _=>[.agg (kC 0 0 0 0 0 0),vi (nY k.s (bT k i)),undef,vi (nY k.s (bT k i))]) (fun _=>[(2,(bD 0 (nb ρ1 1) (cL (kC 0 0 0 0 0 0) 66)))]) (jE [[],[],[0],[]]) (fun _=>?_)
    refine aF (aC ?_)
    exact mR (v:=(.tuple #[.agg (kC 0 0 0 0 0 0),vi (nY k.s (bT k i))])) (fun _ hS=>⟨by rw [(ch_s1 hsn (zC hb1) (Or.inr (yF (dF hb4))) (yF (dF hb4)) (xAU hb5)).1,(ch_s1 hsn (zC hb1) (Or.inr (yF (dF hb4))) (yF (dF hb4)) (xAU hb5)).2]<;>rfl,hS.bel⟩)
   rw [hb5]
   refine aG (aA (aB (jJ Tryz.f84 1 [4,5,8,79] [vT] ?_)))
   refine oY ?_
   refine rS Tryz.f84 8 [4,5,8] [] (fun _=>let qa:=vi (iW (fO k.s (bT k i)));[pt (nb ρ10 11),U (fO k.s (bT k i)),.tuple #[U (dK (fO k.s (bT k i))),qa],.tuple #[U (dK (fO k.s (bT k i))),qa],U (dK (fO k.s (bT k i))),qa,jp (nb ρ10 11) 4,undef]) (fun _=>[(7,(bD 1 (nb ρ10 11) (cL (kC (fO k.s (bT k i)) (dK (fO k.s (bT k i))) (hmN k.c (hL (bT k i))) (k.d+1) ((i:Nat):Int) ((o8 k.p:Nat):Int)) 66)))]) (cR [[],[1]]<|cC (f:=101) (args:=fun ρ=> #[U (fO k.s (bT k i))]) (v:=fun ρ=>(.tuple #[U (dK (fO k.s (bT k i))),vi (iW (fO k.s (bT k i)))])) (fun _ w=>(fun w=>rE (fO k.s (bT k i)) (tsV_lt _ _) w) w)<|jE [[],[],[],[],[1]]) (fun _=>?_)
   refine aA ?_
   refine sS Tryz.f84 3 [4,5] [1,0] (fun _=>[.agg (kC (fO k.s (bT k i)) (dK (fO k.s (bT k i))) (hmN k.c (hL (bT k i))) (k.d+1) ((i:Nat):Int) ((o8 k.p:Nat):Int)),undef,vi 0]) (fun _=>[(1,(bD 0 (nb ρ1 1) (cL (kC (fO k.s (bT k i)) (dK (fO k.s (bT k i))) (hmN k.c (hL (bT k i))) (k.d+1) ((i:Nat):Int) ((o8 k.p:Nat):Int)) 66)))]) (jE [[1],[0],[]]) (fun _=>?_)
   refine aF ?_
   exact mR (v:=(.tuple #[.agg (kC (fO k.s (bT k i)) (dK (fO k.s (bT k i))) (hmN k.c (hL (bT k i))) (k.d+1) ((i:Nat):Int) ((o8 k.p:Nat):Int)),vi 0])) (fun _ hS=>⟨by rw [(ch_s0 hsn (zC hb1) (Or.inr (yF (dF hb4))) (yF (dF hb4)) (o5 hb5)).1,(ch_s0 hsn (zC hb1) (Or.inr (yF (dF hb4))) (yF (dF hb4)) (o5 hb5)).2]<;>rfl,hS.bel⟩)
  exact absurd ((show (!(decide (k.s=0)))=true from (aV hb3)).symm.trans hb4) (by decide)
 refine sS Tryz.f84 6 [1,2,4,5,6,23] [] (fun _=>[vu i,vF,vF,undef,undef,vF]) (fun _=>[]) (cR [[]]<|cA (fun _=>vF) (fun _=>congrArg Value.bool hb2)<|jE [[],[],[],[]]) (fun _=>?_)
 refine oN ?_
 refine aG (aA ?_)
 refine sDf Tryz.f84 [0,1,0,4,12,31,63,0,255,511,0,2047] 12 [1,2,4,5,6,7] [1,1,0,1] (fun ρ=>[jp (nb ρ1 0) 8,.slice (some ⟨nb ρ1 0,8,none⟩) (hL k.c).length 32,jp (nb ρ1 0) 4,U k.p,.slice (oa ρ 4) (hL k.p).length (nb ρ 4),vs (nb ρ 5) 2 2,.slice (oa ρ 6) ((hL k.c)++(hL k.p)).length (nb ρ 6),vu i,.slice (oa ρ 8) (((hL k.c)++(hL k.p))++leB i 4).length (nb ρ 8),.agg (hB (bT k i)),pt (nb ρ 10),undef]) (fun ρ=>[(5,(nw ρ 5 (cL #[.slice (some ⟨nb ρ1 0,8,none⟩) (hL k.c).length 32,.slice (oa ρ 4) (hL k.p).length (nb ρ 4)] 37))),(10,(nw ρ 10 (cL (hB 0) 57))),(11,(bD 82 (nb ρ 10) (cL (hB (bT k i)) 57)))]) (fun ρ=>[(4,fun w=>Fs w0 w (oa ρ 4) (nb ρ 4) (hL k.p)),(6,fun w=>Fs w0 w (oa ρ 6) (nb ρ 6) ((hL k.c)++(hL k.p))),(8,fun w=>Fs w0 w (oa ρ 8) (nb ρ 8) (((hL k.c)++(hL k.p))++leB i 4))]) (fun ρ=>(fun w=>Fs w0 w (oa ρ 4) (nb ρ 4) (hL k.p)∧Fs w0 w (oa ρ 6) (nb ρ 6) ((hL k.c)++(hL k.p))∧Fs w0 w (oa ρ 8) (nb ρ 8) (((hL k.c)++(hL k.p))++leB i 4)∧True)) (fun _=>True) (fun _ _ _ hf=>⟨⟨hf 4,hf 6,hf 8,trivial⟩,trivial⟩) (cR [[],[],[],[0]]<|cX (qB (fun _ _ w _=>oJ k.p hk.p w))<|cR [[]]<|cX (qB (fun ρ _ w hG=>join2_any (nb ρ 5) (some ⟨nb ρ1 0,8,none⟩) 32 (hL k.c) (oa ρ 4) (nb ρ 4) (hL k.p) (by simp only [aO];omega) (by rw [aO];decide) w (Kb.of_block (hG.kn (g:=nb ρ 5) (o:=(cL #[.slice (some ⟨nb ρ1 0,8,none⟩) (hL k.c).length 32,.slice (oa ρ 4) (hL k.p).length (nb ρ 4)] 37)) 42)) (Bs.of_key (hG.kn (g:=nb ρ1 0) (o:=(cL (kY k) 66)) 0)) (show Fs w0 w (oa ρ 4) (nb ρ 4) (hL k.p) from (hG.facts 4 rfl).now).1))<|cR [[]]<|cX (qB (fun ρ _ w hG=>rM (oa ρ 6) (nb ρ 6) ((hL k.c)++(hL k.p)) i (by have:=yF hb2;omega) (by simp only [List.length_append,aO];have:=yF hb2;omega) w (show Fs w0 w (oa ρ 6) (nb ρ 6) ((hL k.c)++(hL k.p)) from (hG.facts 6 rfl).now).1))<|cX (lN _ 113 (fun ρ=> #[.string ⟨#[108,105,103,104,116,99,108,105,101,110,116,47,115,111,102,116]⟩,.slice (oa ρ 8) (((hL k.c)++(hL k.p))++leB i 4).length (nb ρ 8)]) (fun _=>(.agg (hB (bT k i)))) (fun _ _=>(by kernel_rfl)) (fun _=>(by kernel_rfl)) (fun _ _=>(by kernel_rfl)) (fun _ _=>trivial) (fun ρ _ w hG=>(by as_aux_lemma=>(have hcall:=wK tgS (oa ρ 8) (nb ρ 8) (((hL k.c)++(hL k.p))++leB i 4) (by decide) (by simp only [List.length_append,aO,eQ];omega) w (show Fs w0 w (oa ρ 8) (nb ρ 8) (((hL k.c)++(hL k.p))++leB i 4) from (hG.facts 8 rfl).now).1;rw [twk_0 (k:=k) hb2] at hcall;exact hcall))))<|jE [[],[82]]) (fun ρ20 _=>?_)
 refine aB ?_
 refine sS Tryz.f84 2 [1,2,4,5,6,7,36] [] (fun _=>[vu i,vF]) (fun _=>[]) (cR [[]]<|cA (fun _=>vF) (fun _=>congrArg Value.bool hb2)<|cN) (fun _=>?_)
 refine oN ?_
 refine aG (aA ?_)
 refine sD Tryz.f84 [0,1,0,7,0,16,48,0,0,271,1023,0,4095] 13 [2,4,5,6,7,8] [] (fun ρ=>[jp (nb ρ1 0) 8,.slice (some ⟨nb ρ1 0,8,none⟩) (hL k.c).length 32,vs (nb ρ20 10) (hL (bT k i)).length 32,.agg (hB (hmN k.c (hL (bT k i)))),jp (nb ρ1 0) 40,vi k.d,vi (k.d+1),vu i,.agg (kY k),vu (o8 k.p),.agg (kC 0 0 (hmN k.c (hL (bT k i))) (k.d+1) ((i:Nat):Int) ((o8 k.p:Nat):Int)),pt (nb ρ 11),undef]) (fun ρ=>[(11,(nw ρ 11 (cL (kC 0 0 0 0 0 0) 66))),(12,(bD 91 (nb ρ 11) (cL (kC 0 0 (hmN k.c (hL (bT k i))) (k.d+1) ((i:Nat):Int) ((o8 k.p:Nat):Int)) 66)))]) (cR [[],[],[]]<|cX (qC (fun _ _ w hG=>rhmac_any (some ⟨nb ρ1 0,8,none⟩) 32 k.c (some ⟨nb ρ20 10,0,none⟩) 32 (hL (bT k i)) (by rw [aO];decide) w (Bs.of_key (hG.kn (g:=nb ρ1 0) (o:=(cL (kY k) 66)) 0)) (Bs.of_hd (c:=32) (hG.kn (g:=nb ρ20 10) (o:=(cL (hB (bT k i)) 57)) 2) (tN _) (Nat.le_refl _) (Nat.le_of_ble_eq_true rfl))))<|cR [[],[0]]<|jU (fun ρ=>(k.d+1)) (fun _=>(k.d+1)) (fun _=>(gZ (by have:=oI hsn;omega)))<|cR [[],[0]]<|cX (qC (fun _ _ w _=>rkprint_any k hk w))<|jE [[],[],[91]]) (fun ρ22=>?_)
 refine lK [(2,(pt (nb ρ1 0))),(4,(pt (nb ρ1 1))),(5,(vi 0)),(6,(.bool (!(decide (k.s=0))))),(7,(pt (nb ρ20 10))),(8,(pt (nb ρ22 11)))] [(nb ρ1 0,(cL (kY k) 66)),(nb ρ1 1,(cL (kC 0 0 0 0 0 0) 66)),(nb ρ20 10,(cL (hB (bT k i)) 57)),(nb ρ22 11,(cL (kC 0 0 (hmN k.c (hL (bT k i))) (k.d+1) ((i:Nat):Int) ((o8 k.p:Nat):Int)) 66))] ?_
 refine jJ Tryz.f84 1 [2,4,5,6,7,8,9] [vi 0] (aB (jJ Tryz.f84 1 [2,4,5,6,7,8,9,58] [.bool (!(decide (k.s=0)))] ?_))
 refine oC (!(decide (k.s=0))) (fun hb6=>?_) (fun hb6=>?_)
 ·
  rw [hb6]
  refine rS Tryz.f84 10 [4,5,6,8,9] [0,1,0,1] (fun _=>let qa:=vi (nY k.s (bT k i));[pt (nb ρ1 0),U k.s,.agg (hB (bT k i)),.tuple #[U (fO k.s (bT k i)),qa],.tuple #[U (fO k.s (bT k i)),qa],U (fO k.s (bT k i)),qa,pt (nb ρ22 11),undef,qa]) (fun _=>[(8,(bD 3 (nb ρ22 11) (cL (kC (fO k.s (bT k i)) 0 (hmN k.c (hL (bT k i))) (k.d+1) ((i:Nat):Int) ((o8 k.p:Nat):Int)) 66)))]) (cR [[],[0],[2]]<|cC (f:=118) (args:=fun ρ=> #[U k.s,.agg (hB (bT k i))]) (v:=fun ρ=>(.tuple #[U (fO k.s (bT k i)),vi (nY k.s (bT k i))])) (fun _ w=>(fun w=>sJ k.s (bT k i) hk.s (twk_lt _ _) w) w)<|jE [[],[],[],[],[3],[]]) (fun _=>?_)
  refine aA (aB (jJ Tryz.f84 2 [4,5,6,8,9,76] [vi (nY k.s (bT k i)),.bool ((nY k.s (bT k i)) != 0)] ?_))
  refine oC ((nY k.s (bT k i)) != 0) (fun hb7=>?_) (fun hb7=>?_)
  ·
   rw [hb7]
   refine sS Tryz.f84 4 [4,5,6,8] [] (fun _=>[.agg (kC 0 0 0 0 0 0),vi (nY k.s (bT k i)),undef,vi (nY k.s (bT k i))]) (fun _=>[(2,(bD 0 (nb ρ1 1) (cL (kC 0 0 0 0 0 0) 66)))]) (jE [[],[],[0],[]]) (fun _=>?_)
   refine aF (aC ?_)
   exact mR (v:=(.tuple #[.agg (kC 0 0 0 0 0 0),vi (nY k.s (bT k i))])) (fun _ hS=>⟨by rw [(ch_s1 hsn (zC hb1) (Or.inr (yF (dF hb6))) (yF (dF hb6)) (xAU hb7)).1,(ch_s1 hsn (zC hb1) (Or.inr (yF (dF hb6))) (yF (dF hb6)) (xAU hb7)).2]<;>rfl,hS.bel⟩)
  rw [hb7]
  refine aG (aA (aB (jJ Tryz.f84 1 [4,5,8,79] [vT] ?_)))
  refine oY ?_
  refine rS Tryz.f84 8 [4,5,8] [] (fun _=>let qa:=vi (iW (fO k.s (bT k i)));[pt (nb ρ22 11),U (fO k.s (bT k i)),.tuple #[U (dK (fO k.s (bT k i))),qa],.tuple #[U (dK (fO k.s (bT k i))),qa],U (dK (fO k.s (bT k i))),qa,jp (nb ρ22 11) 4,undef]) (fun _=>[(7,(bD 1 (nb ρ22 11) (cL (kC (fO k.s (bT k i)) (dK (fO k.s (bT k i))) (hmN k.c (hL (bT k i))) (k.d+1) ((i:Nat):Int) ((o8 k.p:Nat):Int)) 66)))]) (cR [[],[1]]<|cC (f:=101) (args:=fun ρ=> #[U (fO k.s (bT k i))]) (v:=fun ρ=>(.tuple #[U (dK (fO k.s (bT k i))),vi (iW (fO k.s (bT k i)))])) (fun _ w=>(fun w=>rE (fO k.s (bT k i)) (tsV_lt _ _) w) w)<|jE [[],[],[],[],[1]]) (fun _=>?_)
  refine aA ?_
  refine sS Tryz.f84 3 [4,5] [1,0] (fun _=>[.agg (kC (fO k.s (bT k i)) (dK (fO k.s (bT k i))) (hmN k.c (hL (bT k i))) (k.d+1) ((i:Nat):Int) ((o8 k.p:Nat):Int)),undef,vi 0]) (fun _=>[(1,(bD 0 (nb ρ1 1) (cL (kC (fO k.s (bT k i)) (dK (fO k.s (bT k i))) (hmN k.c (hL (bT k i))) (k.d+1) ((i:Nat):Int) ((o8 k.p:Nat):Int)) 66)))]) (jE [[1],[0],[]]) (fun _=>?_)
  refine aF ?_
  exact mR (v:=(.tuple #[.agg (kC (fO k.s (bT k i)) (dK (fO k.s (bT k i))) (hmN k.c (hL (bT k i))) (k.d+1) ((i:Nat):Int) ((o8 k.p:Nat):Int)),vi 0])) (fun _ hS=>⟨by rw [(ch_s0 hsn (zC hb1) (Or.inr (yF (dF hb6))) (yF (dF hb6)) (o5 hb7)).1,(ch_s0 hsn (zC hb1) (Or.inr (yF (dF hb6))) (yF (dF hb6)) (o5 hb7)).2]<;>rfl,hS.bel⟩)
 rw [hb6]
 refine rS Tryz.f84 10 [4,5,6,8,9] [0,1,0,1] (fun _=>let qa:=vi (wY k.p (bT k i));[jp (nb ρ1 0) 4,U k.p,.agg (hB (bT k i)),.tuple #[U (yS k.p (bT k i)),qa],.tuple #[U (yS k.p (bT k i)),qa],U (yS k.p (bT k i)),qa,jp (nb ρ22 11) 4,undef,qa]) (fun _=>[(8,(bD 3 (nb ρ22 11) (cL (kC 0 (yS k.p (bT k i)) (hmN k.c (hL (bT k i))) (k.d+1) ((i:Nat):Int) ((o8 k.p:Nat):Int)) 66)))]) (cR [[],[0],[2]]<|cC (f:=119) (args:=fun ρ=> #[U k.p,.agg (hB (bT k i))]) (v:=fun ρ=>(.tuple #[U (yS k.p (bT k i)),vi (wY k.p (bT k i))])) (fun _ w=>(fun w=>rtweak_any k.p (bT k i) hk.p (twk_lt _ _) w) w)<|jE [[],[],[],[],[3],[]]) (fun _=>?_)
 refine aA (aB (jJ Tryz.f84 2 [4,5,6,8,9,76] [vi (wY k.p (bT k i)),.bool ((wY k.p (bT k i)) != 0)] ?_))
 refine oC ((wY k.p (bT k i)) != 0) (fun hb8=>?_) (fun hb8=>?_)
 ·
  rw [hb8]
  refine sS Tryz.f84 4 [4,5,6,8] [] (fun _=>[.agg (kC 0 0 0 0 0 0),vi (wY k.p (bT k i)),undef,vi (wY k.p (bT k i))]) (fun _=>[(2,(bD 0 (nb ρ1 1) (cL (kC 0 0 0 0 0 0) 66)))]) (jE [[],[],[0],[]]) (fun _=>?_)
  refine aF (aC ?_)
  exact mR (v:=(.tuple #[.agg (kC 0 0 0 0 0 0),vi (wY k.p (bT k i))])) (fun _ hS=>⟨by rw [(ch_p1 hsn (zC hb1) (Or.inl (hd_f hb2)) (yT (aV hb6)) (xAU hb8)).1,(ch_p1 hsn (zC hb1) (Or.inl (hd_f hb2)) (yT (aV hb6)) (xAU hb8)).2]<;>rfl,hS.bel⟩)
 rw [hb8]
 refine aG (aA (aB (jJ Tryz.f84 1 [4,5,8,79] [vF] ?_)))
 refine oN ?_
 refine aG (aA ?_)
 refine sS Tryz.f84 3 [4,5] [1,0] (fun _=>[.agg (kC 0 (yS k.p (bT k i)) (hmN k.c (hL (bT k i))) (k.d+1) ((i:Nat):Int) ((o8 k.p:Nat):Int)),undef,vi 0]) (fun _=>[(1,(bD 0 (nb ρ1 1) (cL (kC 0 (yS k.p (bT k i)) (hmN k.c (hL (bT k i))) (k.d+1) ((i:Nat):Int) ((o8 k.p:Nat):Int)) 66)))]) (jE [[1],[0],[]]) (fun _=>?_)
 refine aF ?_
 exact mR (v:=(.tuple #[.agg (kC 0 (yS k.p (bT k i)) (hmN k.c (hL (bT k i))) (k.d+1) ((i:Nat):Int) ((o8 k.p:Nat):Int)),vi 0])) (fun _ hS=>⟨by rw [(ch_p0 hsn (zC hb1) (Or.inl (hd_f hb2)) (yT (aV hb6)) (o5 hb8)).1,(ch_p0 hsn (zC hb1) (Or.inl (hd_f hb2)) (yT (aV hb6)) (o5 hb8)).2]<;>rfl,hS.bel⟩)
theorem vJ (k:Ky) (a:Option Addr) (c:Nat) (ps:List Nat) (hk:k.Ok) (hp:∀ i∈ps,i<4294967296) (w0:World) (hf0:Is w0 .u32 a c (nI ps)):Calls Tryz.prog 62 #[.agg (kY k),.slice a (nI ps).length c] w0 (jR (.tuple #[.agg (kY (iQ k ps)),vi (nM k ps)]) w0):=by
 refine Calls.of_ok (n:=34) (F:=(fun w=>Is w .u32 a c (nI ps)∧True)) Tryz.func62 rfl rfl rfl (by simp) (hf0.pers0.and cO) ?_
 have hlen:(nI ps).length≤140737488351232:=hf0.max
 refine sS Tryz.f62 3 [1,2,4,5] [] (fun ρ=>[pt (nb ρ 0),pt (nb ρ 1),vi 0]) (fun ρ=>[(0,(nw ρ 0 (cL (kY k) 66))),(1,(nw ρ 1 (cL (kC 0 0 0 0 0 0) 66)))]) (jE [[],[],[]]) (fun ρ1=>?_)
 refine aB ?_
 refine sS Tryz.f62 3 [1,2,4,5,11] [] (fun _=>[.agg (kY k),.bool (fC k),.bool (!(fC k))]) (fun _=>[]) (cR [[0]]<|cC (fun _ w=>oQ k hk w)<|jE [[]]) (fun _=>?_)
 refine oC (!(fC k)) (fun hb1=>?_) (fun hb1=>?_)
 ·
  rw [hb1]
  refine sS Tryz.f62 3 [1,2,4,5] [] (fun _=>[.agg (kC 0 0 0 0 0 0),undef,vi 6]) (fun _=>[(1,(bD 1 (nb ρ1 1) (cL (kC 0 0 0 0 0 0) 66)))]) (jE [[],[1],[]]) (fun _=>?_)
  refine aF (aC ?_)
  exact mR (v:=(.tuple #[.agg (kC 0 0 0 0 0 0),vi 6])) (ps:=[1,1,1,1,1,1,1,1,1,1,1,1,1,1,1,1,1,1,1,1,1,1,1,1,1,1,1,1,1,1,1,1,1,1,1,1,1,1,1,1,1,1,1]) (fun _ hS=>⟨by rw [(dr_6 (dF hb1)).1,(dr_6 (dF hb1)).2];rfl,hS.bel⟩)
 rw [hb1]
 refine aG (aA (aB (jJ Tryz.f62 1 [1,2,4,5,6] [vi 0] (aI ?_))))
 refine oL (σ:=Nat × Ky) (fun ⟨j,_⟩=>[(1,(.slice a (nI ps).length c)),(2,(pt (nb ρ1 0))),(4,(pt (nb ρ1 1))),(6,(vn j))]) (fun ⟨_,x⟩=>[(nb ρ1 0,(cL (kY x) 66)),(nb ρ1 1,(cL (kC 0 0 0 0 0 0) 66))]) (fun ⟨j,_⟩=>(nI ps).length-j)
   (fun ⟨j,x⟩=>(j≤(nI ps).length)∧x.Ok∧(fC x=true)∧(dvE x (ps.drop j)=dvE k ps)∧(dvK x (ps.drop j)=dvK k ps)) (0,k) (⟨Nat.zero_le _,hk,aV hb1,rfl,rfl⟩) [] ?_
 rintro ⟨j,x⟩ ⟨hj,hx,hsx,hE,hK⟩
 change Ok Tryz.prog _ _ 34 [(1,(.slice a (nI ps).length c)),(2,(pt (nb ρ1 0))),(4,(pt (nb ρ1 1))),(6,(vn j))] _ [(nb ρ1 0,(cL (kY x) 66)),(nb ρ1 1,(cL (kC 0 0 0 0 0 0) 66))] (fun w=>Is w .u32 a c (nI ps)∧True)
 refine aB (jJ Tryz.f62 4 [1,2,4,6,16] [vn j,.slice a (nI ps).length c,vn (nI ps).length,.bool (decide (((j:Nat):Int)<(((nI ps).length:Nat):Int)))] ?_)
 refine oC (decide (((j:Nat):Int)<(((nI ps).length:Nat):Int))) (fun hb2=>?_) (fun hb2=>?_)
 ·
  rw [hb2]
  have:=yT hb2
  refine aG (aA (aB (aI ?_)))
  refine sD Tryz.f62 [0,0,0,6,14,31,63,127,127,0,767,2047] 12 [1,2,4,6,7,8] [] (fun ρ=>let qa:=vi (chE x (ps.getD j 0));let qb:Value:=.agg (kY (chK x (ps.getD j 0)));[.agg (kY x),.slice a (nI ps).length c,vn j,.pointer (fK a j),vu (ps.getD j 0),.tuple #[qb,qa],.tuple #[qb,qa],qb,qa,pt (nb ρ 9),undef,qa]) (fun ρ=>[(9,(nw ρ 9 (cL (kC 0 0 0 0 0 0) 66))),(10,(bD 74 (nb ρ 9) (cL (kY (chK x (ps.getD j 0))) 66)))]) (cR [[0],[],[]]<|cX (qF (fun _ _ _ hG=>o6 (k:=.i64) Tryz.underlying67 Tryz.sizeOf55 hG.fn.1 rfl (show ((j:Nat):Int)=((j:Nat):Int) from rfl) (show j<(nI ps).length from (by omega))))<|cX (qF (v:=fun ρ=>(vu (ps.getD j 0))) (fun _ _ _ hG=>(rG Tryz.isAgg55 hG.fn.1 (show j<(nI ps).length from (by omega))).trans (by rw [yQ])))<|cX (qC (fun _ _ w _=>rstep_any x (ps.getD j 0) hx (get_all hp (by decide) j) hsx w))<|jE [[],[],[],[],[74],[]]) (fun _=>?_)
  refine aB (jJ Tryz.f62 2 [1,2,4,6,7,8,29] [vi (chE x (ps.getD j 0)),.bool ((chE x (ps.getD j 0)) != 0)] ?_)
  refine oC ((chE x (ps.getD j 0)) != 0) (fun hb3=>?_) (fun hb3=>?_)
  ·
   rw [hb3]
   refine sS Tryz.f62 4 [1,2,4,5,6,7] [] (fun _=>let qa:=vi (chE x (ps.getD j 0));[.agg (kC 0 0 0 0 0 0),qa,undef,qa]) (fun _=>[(2,(bD 1 (nb ρ1 1) (cL (kC 0 0 0 0 0 0) 66)))]) (jE [[],[],[1],[]]) (fun _=>?_)
   refine aF (aC (aP (aC (aC (aP (aC ?_))))))
   exact mR (v:=(.tuple #[.agg (kC 0 0 0 0 0 0),vi (chE x (ps.getD j 0))])) (ps:=[1,1,1,1,1,1,1,1,1,1,1,1,1,1,1,1,1,1,1,1,1,1,1,1,1,1,1,1,1,1,1,1,1,1,1,1,1,1,1,1,1,1,1]) (fun _ hS=>⟨by rw [(dv_fail (aV hb1) hsx (by have:=fZ ps;omega) hE hK hb3).1,(dv_fail (aV hb1) hsx (by have:=fZ ps;omega) hE hK hb3).2];rfl,hS.bel⟩)
  rw [hb3]
  refine aG (aA ?_)
  refine rS Tryz.f62 2 [1,2,4,6] [1,1,0] (fun _=>[.agg (kY (chK x (ps.getD j 0))),undef]) (fun _=>[(1,(bD 0 (nb ρ1 0) (cL (kY (chK x (ps.getD j 0))) 66)))]) (jE [[2],[0]]) (fun _=>?_)
  refine aJ (aA ?_)
  refine rS Tryz.f62 3 [1,2,4,6] [] (fun _=>[vn j,vn (j+1),vn (j+1)]) (fun _=>[]) (cR [[]]<|jW (fun ρ=>(((j:Nat):Int)+1)) (fun _=>(j+1)) (fun _=>(aW j 1 (by omega)))<|jE [[]]) (fun _=>?_)
  exact mN (j+1,chK x (ps.getD j 0)) (by show (nI ps).length-(j+1)<(nI ps).length-j;omega) (⟨(by omega),chK_ok _ _ (get_all hp (by decide) j),(wU hsx (by have:=fZ ps;omega) hE hK hb3).1,(wU hsx (by have:=fZ ps;omega) hE hK hb3).2.1,(wU hsx (by have:=fZ ps;omega) hE hK hb3).2.2⟩) []
 rw [hb2]
 refine bF (aN (aN (aT (aA ?_))))
 refine sS Tryz.f62 3 [4,5] [0,1] (fun _=>[.agg (kY x),undef,vi 0]) (fun _=>[(1,(bD 1 (nb ρ1 1) (cL (kY x) 66)))]) (jE [[0],[1],[]]) (fun _=>?_)
 refine aF ?_
 exact mR (v:=(.tuple #[.agg (kY x),vi 0])) (fun _ hS=>⟨by rw [(dv_done (aV hb1) (by have:=fZ ps;have:=yF hb2;omega) hE hK).1,(dv_done (aV hb1) (by have:=fZ ps;have:=yF hb2;omega) hE hK).2]<;>rfl,hS.bel⟩)
theorem rdkeys_any (a:Option Addr) (c:Nat) (ts:List bW) (z:Int) (w0:World) (hf0:bM w0 a c ts):Calls Tryz.prog 39 #[.slice a ts.length c,vi z] w0 (fun ε w'=>∃ α κ,ε=.returned (.tuple #[.slice α (gV ts z).length κ,.int .i64 (kZ ts z)])∧jG w0 w'∧dL (fun b=>b<w0.heap.size) (fun w=>Us w α κ (gV ts z)) w'):=by
 refine Calls.of_ok (n:=73) (F:=(fun w=>bM w a c ts∧True)) Tryz.func39 rfl rfl rfl (by simp) (hf0.pers0.and cO) ?_
 have hlen:ts.length≤1000000:=hf0.max
 have ho:mP ts:=hf0.oks
 refine jJ Tryz.f39 2 [0,1,4,5] [vz,vi 0] (aB ?_)
 refine sS Tryz.f39 3 [0,1,4,5,15] [] (fun _=>[.slice a ts.length c,.bool (xW ts),.bool (!(xW ts))]) (fun _=>[]) (cR [[]]<|cX (qC (fun _ _ w hG=>rdvalid_any a c ts w hG.fn.1))<|jE [[]]) (fun _=>?_)
 refine oC (!(xW ts)) (fun hb1=>?_) (fun hb1=>?_)
 ·
  rw [hb1]
  refine jJ Tryz.f39 2 [0,1,4,5] [vz,vi 260] (aF (aC (mD [(0,(.slice a ts.length c)),(1,(vi z)),(4,vz),(5,(vi 260))] [] ?_)))
  exact mR (v:=(.tuple #[vz,vi 260])) (fun _ hS=>(by rw [(ky_bad (z:=z) (dF hb1)).1,(ky_bad (z:=z) (dF hb1)).2];exact ⟨none,0,rfl,hS.bel,dB (fun _=>Us.nil)⟩))
 rw [hb1]
 refine aG (aA (aB ?_))
 rcases Bool.eq_false_or_eq_true (decide (z<0)) with hb2 | hb2
 ·
  refine sS Tryz.f39 6 [0,1,4,5,21] [] (fun _=>[vi z,vT,vT,undef,undef,vT]) (fun _=>[]) (cR [[]]<|cA (fun _=>vT) (fun _=>congrArg Value.bool hb2)<|jE [[],[],[],[]]) (fun _=>?_)
  refine oY ?_
  refine jJ Tryz.f39 2 [0,1,4,5] [vz,vi 5] (aF (aC (mD [(0,(.slice a ts.length c)),(1,(vi z)),(4,vz),(5,(vi 5))] [] ?_)))
  exact mR (v:=(.tuple #[vz,vi 5])) (fun _ hS=>(by rw [(vC (aV hb1) (by have:=yT hb2;omega)).1,(vC (aV hb1) (by have:=yT hb2;omega)).2];exact ⟨none,0,rfl,hS.bel,dB (fun _=>Us.nil)⟩))
 refine sS Tryz.f39 6 [0,1,4,5,21] [] (fun _=>let qa:Value:=.bool (decide (1000≤z));[vi z,vF,vF,vi z,qa,qa]) (fun _=>[]) (cR [[]]<|cA (fun _=>vF) (fun _=>congrArg Value.bool hb2)<|jE [[],[],[],[]]) (fun _=>?_)
 refine oC (decide (1000≤z)) (fun hb3=>?_) (fun hb3=>?_)
 ·
  rw [hb3]
  refine jJ Tryz.f39 2 [0,1,4,5] [vz,vi 5] (aF (aC (mD [(0,(.slice a ts.length c)),(1,(vi z)),(4,vz),(5,(vi 5))] [] ?_)))
  exact mR (v:=(.tuple #[vz,vi 5])) (fun _ hS=>(by rw [(vC (aV hb1) (by have:=yF hb2;have:=yT hb3;omega)).1,(vC (aV hb1) (by have:=yF hb2;have:=yT hb3;omega)).2];exact ⟨none,0,rfl,hS.bel,dB (fun _=>Us.nil)⟩))
 rw [hb3]
 have:=yF hb3
 refine aG (aA (jJ Tryz.f39 1 [0,1,4,5,6] [vz] (aB (jJ Tryz.f39 1 [0,1,4,5,6,7] [vi 0] (aI ?_)))))
 refine oL (σ:=Nat ⊕ (Nat × Nat × (List Nat) × (Array Value) × Nat)) (fun s=>match s with | Sum.inl i=>[(0,(.slice a ts.length c)),(1,(vi z)),(6,vz),(7,(vn i))] | Sum.inr ⟨i,q,N,_,κ⟩=>[(0,(.slice a ts.length c)),(1,(vi z)),(6,(vs q N.length κ)),(7,(vn i))]) (fun s=>match s with | Sum.inl _=>[] | Sum.inr ⟨_,q,_,C,_⟩=>[(q,(cL C 64))]) (fun s=>match s with | Sum.inl i=>ts.length-i | Sum.inr ⟨i,_,_,_,_⟩=>ts.length-i)
   (fun s=>match s with | Sum.inl i=>(i≤ts.length)∧(([]:List Nat)++xE z.toNat (aK (ts.drop i))=xE z.toNat (aK ts))∧(uU z.toNat (aK (ts.drop i))=uU z.toNat (aK ts))∧True | Sum.inr ⟨i,_,N,C,κ⟩=>(i≤ts.length)∧(N++xE z.toNat (aK (ts.drop i))=xE z.toNat (aK ts))∧(uU z.toNat (aK (ts.drop i))=uU z.toNat (aK ts))∧(kU.A C N κ)∧(∀ n∈N,n<M)) (Sum.inl 0) (⟨Nat.zero_le _,rfl,rfl,trivial⟩) [] ?_
 rintro (i | ⟨i,q,N,C,κ⟩)
 ·
  rintro ⟨hi,hN0,hE0,hnil0⟩
  change Ok Tryz.prog _ _ 73 [(0,(.slice a ts.length c)),(1,(vi z)),(6,vz),(7,(vn i))] _ [] (fun w=>bM w a c ts∧True)
  refine aB (jJ Tryz.f39 4 [0,1,6,7,25] [vn i,.slice a ts.length c,vn ts.length,.bool (decide (((i:Nat):Int)<((ts.length:Nat):Int)))] ?_)
  refine oC (decide (((i:Nat):Int)<((ts.length:Nat):Int))) (fun hb4=>?_) (fun hb4=>?_)
  ·
   rw [hb4]
   have:=yT hb4
   have:=ho.klen hf0 i
   refine aG (aA (aB (aI (jJ Tryz.f39 1 [0,1,6,7,8] [vi 0] (aI ?_)))))
   refine oL (σ:=Nat ⊕ (Nat × Nat × (List Nat) × (Array Value) × Nat)) (fun s=>match s with | Sum.inl j=>[(0,(.slice a ts.length c)),(1,(vi z)),(6,vz),(7,(vn i)),(8,(vn j))] | Sum.inr ⟨j,q,N,_,κ⟩=>[(0,(.slice a ts.length c)),(1,(vi z)),(6,(vs q N.length κ)),(7,(vn i)),(8,(vn j))]) (fun s=>match s with | Sum.inl _=>[] | Sum.inr ⟨_,q,_,C,_⟩=>[(q,(cL C 64))]) (fun s=>match s with | Sum.inl j=>(gT ts i).ks.length-j | Sum.inr ⟨j,_,_,_,_⟩=>(gT ts i).ks.length-j)
     (fun s=>match s with | Sum.inl j=>(j≤(gT ts i).ks.length)∧(([]:List Nat)++xE z.toNat ((gT ts i).ks.drop j++aK (ts.drop (i+1)))=xE z.toNat (aK ts))∧(uU z.toNat ((gT ts i).ks.drop j++aK (ts.drop (i+1)))=uU z.toNat (aK ts))∧True | Sum.inr ⟨j,_,N,C,κ⟩=>(j≤(gT ts i).ks.length)∧(N++xE z.toNat ((gT ts i).ks.drop j++aK (ts.drop (i+1)))=xE z.toNat (aK ts))∧(uU z.toNat ((gT ts i).ks.drop j++aK (ts.drop (i+1)))=uU z.toNat (aK ts))∧(kU.A C N κ)∧(∀ n∈N,n<M)) (Sum.inl 0) (⟨Nat.zero_le _,kn_in (show i<ts.length from (by have:=yF hb2;omega)) hN0,ke_in (show i<ts.length from (by have:=yF hb2;omega)) hE0,trivial⟩) [] ?_
   rintro (j | ⟨j,q,N,C,κ⟩)
   ·
    rintro ⟨hj,hN,hE,hnil⟩
    change Ok Tryz.prog _ _ 73 [(0,(.slice a ts.length c)),(1,(vi z)),(6,vz),(7,(vn i)),(8,(vn j))] _ [] (fun w=>bM w a c ts∧True)
    refine aB ?_
    refine sS Tryz.f39 8 [0,1,6,7,8,35] [] (fun _=>[vn j,.slice a ts.length c,vn i,.pointer (fK a (i*36)),.pointer (fK a (i*36+35)),.slice (gT ts i).ka (gT ts i).ks.length (gT ts i).kc,vn (gT ts i).ks.length,.bool (decide (((j:Nat):Int)<(((gT ts i).ks.length:Nat):Int)))]) (fun _=>[]) (cR [[],[],[]]<|cX (qF (fun _ _ _ hG=>bM.idx (k:=.i64) Tryz.underlying24 Tryz.sizeOf60 hG.fn.1 rfl (show ((i:Nat):Int)=((i:Nat):Int) from rfl) (show i<ts.length from (by have:=yF hb2;omega))))<|cX (jF (fun _=>Instr.fieldAt 60 (.pointer (fK a (i*36))) 4) (fun _=>(.pointer (fK a (i*36+35)))) (fun _ _ _ hG=>uH (o:=35) (k:=i*36) Tryz.underlying60 rfl rfl rfl Tryz.sizeOf58 (hG.fn.1.pos (show i<ts.length from (by have:=yF hb2;omega))).1 (hG.fn.1.pos (show i<ts.length from (by have:=yF hb2;omega))).2) (fun _ _ _ _=>cO))<|cX (qF (fun _ _ _ hG=>bM.ld (v:=(.slice (gT ts i).ka (gT ts i).ks.length (gT ts i).kc)) (i:=i) (j:=35) Tryz.isAgg58 hG.fn.1 (show i<ts.length from (by have:=yF hb2;omega)) (by decide) (by kernel_rfl)))<|jE [[],[]]) (fun _=>?_)
    refine oC (decide (((j:Nat):Int)<(((gT ts i).ks.length:Nat):Int))) (fun hb5=>?_) (fun hb5=>?_)
    ·
     rw [hb5]
     have:=yT hb5
     refine aG (aA (aB (aI ?_)))
     refine sS Tryz.f39 10 [0,1,6,7,8,9] [] (fun ρ=>[.slice a ts.length c,vn i,.pointer (fK a (i*36)),.pointer (fK a (i*36+35)),.slice (gT ts i).ka (gT ts i).ks.length (gT ts i).kc,vn j,.pointer (fK (gT ts i).ka (j*45)),.agg (dO.row (gK (gT ts i).ks j)),pt (nb ρ 8),undef]) (fun ρ=>[(8,(nw ρ 8 (cL (kM 0 0 0 0 0 0 vz vF) 69))),(9,(bD 64 (nb ρ 8) (cL (dO.row (gK (gT ts i).ks j)) 69)))]) (cR [[],[]]<|cX (qF (fun _ _ _ hG=>bM.idx (k:=.i64) Tryz.underlying24 Tryz.sizeOf60 hG.fn.1 rfl (show ((i:Nat):Int)=((i:Nat):Int) from rfl) (show i<ts.length from (by have:=yF hb2;omega))))<|cX (jF (fun _=>Instr.fieldAt 60 (.pointer (fK a (i*36))) 4) (fun _=>(.pointer (fK a (i*36+35)))) (fun _ _ _ hG=>uH (o:=35) (k:=i*36) Tryz.underlying60 rfl rfl rfl Tryz.sizeOf58 (hG.fn.1.pos (show i<ts.length from (by have:=yF hb2;omega))).1 (hG.fn.1.pos (show i<ts.length from (by have:=yF hb2;omega))).2) (fun _ _ _ _=>cO))<|cX (qF (fun _ _ _ hG=>bM.ld (v:=(.slice (gT ts i).ka (gT ts i).ks.length (gT ts i).kc)) (i:=i) (j:=35) Tryz.isAgg58 hG.fn.1 (show i<ts.length from (by have:=yF hb2;omega)) (by decide) (by kernel_rfl)))<|cR [[]]<|cX (qF (fun _ _ _ hG=>oG.idx (k:=.i64) Tryz.underlying58 Tryz.sizeOf69 (hG.fn.1.sub _ (fA (show i<ts.length from (by have:=yF hb2;omega)))) rfl (show ((j:Nat):Int)=((j:Nat):Int) from rfl) (show j<(gT ts i).ks.length from (by have:=yF hb2;omega))))<|cX (qF (fun _ _ _ hG=>oG.ldA (i:=j) Tryz.isAgg69 Tryz.sizeOf69 (hG.fn.1.sub _ (fA (show i<ts.length from (by have:=yF hb2;omega)))) (show j<(gT ts i).ks.length from (by have:=yF hb2;omega))))<|jE [[],[64]]) (fun ρ13=>?_)
     refine okJ2 (σ:=(Option Addr) × Nat × (List Nat)) (fun ⟨pa,pc,pq⟩=>[(0,(.slice a ts.length c)),(1,(vi z)),(6,vz),(7,(vn i)),(8,(vn j)),(9,(pt (nb ρ13 8))),(10,(.slice pa (nI pq).length pc))]) (fun ⟨_,_,_⟩=>[(nb ρ13 8,(cL (dO.row (gK (gT ts i).ks j)) 69))]) (fun ⟨pa,pc,pq⟩=>(fun w=>bM w a c ts∧Is w .u32 pa pc (nI pq)∧True)) (fun ⟨_,_,pq⟩=>((gK (gT ts i).ks j).ix z.toNat=pq)∧(∀ x∈pq,x<4294967296)) ?_ ?_
     ·
      rintro ⟨pa,pc,pq⟩ ⟨hq,hq32⟩
      change Ok Tryz.prog _ _ 73 [(0,(.slice a ts.length c)),(1,(vi z)),(6,vz),(7,(vn i)),(8,(vn j)),(9,(pt (nb ρ13 8))),(10,(.slice pa (nI pq).length pc))] _ [(nb ρ13 8,(cL (dO.row (gK (gT ts i).ks j)) 69))] (fun w=>bM w a c ts∧Is w .u32 pa pc (nI pq)∧True)
      refine sS Tryz.f39 10 [0,1,6,7,8,11,12] [0,1] (fun ρ=>let qa:=vi (nM (gK (gT ts i).ks j).k pq);let qb:Value:=.agg (kY (iQ (gK (gT ts i).ks j).k pq));[pt (nb ρ13 8),.agg (kY (gK (gT ts i).ks j).k),.slice pa (nI pq).length pc,.tuple #[qb,qa],.tuple #[qb,qa],qb,qa,pt (nb ρ 7),undef,qa]) (fun ρ=>[(7,(nw ρ 7 (cL (kC 0 0 0 0 0 0) 66))),(8,(bD 57 (nb ρ 7) (cL (kY (iQ (gK (gT ts i).ks j).k pq)) 66)))]) (cR [[],[0],[]]<|cX (qC (fun _ _ w hG=>vJ (gK (gT ts i).ks j).k pa pc pq (ho.gK i j).k hq32 w hG.fn.2.1))<|jE [[],[],[],[],[57],[]]) (fun ρ14=>?_)
      refine aB (jJ Tryz.f39 2 [0,1,6,7,8,11,12,65] [vi (nM (gK (gT ts i).ks j).k pq),.bool ((nM (gK (gT ts i).ks j).k pq) != 0)] ?_)
      refine oC ((nM (gK (gT ts i).ks j).k pq) != 0) (fun hb6=>?_) (fun hb6=>?_)
      ·
       rw [hb6]
       refine jJ Tryz.f39 3 [0,1,4,5,6,7,8,11] (let qa:=vi (nM (gK (gT ts i).ks j).k pq);[qa,vz,qa]) (aF (aC (aP (aC (aC (aP (aP (aC (aC (aP (aC (mD [(0,(.slice a ts.length c)),(1,(vi z)),(4,vz),(5,(vi (nM (gK (gT ts i).ks j).k pq))),(6,vz),(7,(vn i)),(8,(vn j)),(11,(pt (nb ρ14 7)))] [(nb ρ14 7,(cL (kY (iQ (gK (gT ts i).ks j).k pq)) 66))] ?_))))))))))))
       exact mR (v:=(.tuple #[vz,vi (nM (gK (gT ts i).ks j).k pq)])) (fun _ hS=>(by rw [(pI (aV hb1) hb2 hb3 (l7 (show j<(gT ts i).ks.length from (by have:=yF hb2;omega)) hq hb6 hE) hb6).1,(pI (aV hb1) hb2 hb3 (l7 (show j<(gT ts i).ks.length from (by have:=yF hb2;omega)) hq hb6 hE) hb6).2];exact ⟨none,0,rfl,hS.bel,dB (fun _=>Us.nil)⟩))
      rw [hb6]
      refine aG (aA ?_)
      refine rS Tryz.f39 6 [0,1,6,7,8] [0,0,1] (fun ρ=>let qa:=vs (nb ρ 4) ([(iQ (gK (gT ts i).ks j).k pq).p]).length (([(iQ (gK (gT ts i).ks j).k pq).p]).length+aZ ρ 4);[vz,jp (nb ρ14 7) 4,U (iQ (gK (gT ts i).ks j).k pq).p,vs (nb ρ 3) 1 1,qa,qa]) (fun ρ=>[(3,(nw ρ 3 (cL (cU (iQ (gK (gT ts i).ks j).k pq).p) 64))),(4,(nw ρ 4 (cL ((kU.r ([(iQ (gK (gT ts i).ks j).k pq).p])).toArray++Builtin.zeroCells (Value.cells (U 0)) (aZ ρ 4)) 64)))]) (cR [[],[],[0],[]]<|cX (qN (fun _ ζ=>(vs (ζ.headD 0) ([(iQ (gK (gT ts i).ks j).k pq).p]).length (([(iQ (gK (gT ts i).ks j).k pq).p]).length+ζ.tail.headD 0))) (fun _ ζ=>(cL ((kU.r ([(iQ (gK (gT ts i).ks j).k pq).p])).toArray++Builtin.zeroCells (Value.cells (U 0)) (ζ.tail.headD 0)) 64)) (fun ρ _ _ hG=>xAP (K:=kU) (ty:=80) (us:=[(iQ (gK (gT ts i).ks j).k pq).p]) Tryz.underlying80 (dA (sz:=4) (b:=32) (z:=(U 0)) (by kernel_rfl) rfl) (src_u1 Tryz.underlying80 (hG.kn (g:=nb ρ 3) (o:=(cL (cU (iQ (gK (gT ts i).ks j).k pq).p) 64)) 25)) (Nat.le_of_ble_eq_true rfl) (Nat.le_of_ble_eq_true rfl) (by decide)))<|jE [[]]) (fun ρ17=>?_)
      refine aJ (aA ?_)
      refine rS Tryz.f39 3 [0,1,6,7,8] [] (fun _=>[vn j,vn (j+1),vn (j+1)]) (fun _=>[]) (cR [[]]<|jW (fun ρ=>(((j:Nat):Int)+1)) (fun _=>(j+1)) (fun _=>(aW j 1 (by have:=yF hb2;omega)))<|jE [[]]) (fun _=>?_)
      refine nD (fun w=>bM w a c ts∧True) (fun w hF=>⟨hF.1,trivial⟩) ?_
      exact mN (Sum.inr (j+1,nb ρ17 4,[(iQ (gK (gT ts i).ks j).k pq).p],(kU.r ([(iQ (gK (gT ts i).ks j).k pq).p])).toArray++Builtin.zeroCells (Value.cells (U 0)) (aZ ρ17 4),([(iQ (gK (gT ts i).ks j).k pq).p]).length+aZ ρ17 4)) (by show (gT ts i).ks.length-(j+1)<(gT ts i).ks.length-j;have:=yF hb2;omega) (⟨(by have:=yF hb2;omega),wV (show j<(gT ts i).ks.length from (by have:=yF hb2;omega)) hq hN,xJ (show j<(gT ts i).ks.length from (by have:=yF hb2;omega)) hq hb6 hE,RowK.A.fresh (K:=kU) (z:=(U 0)) rfl ([(iQ (gK (gT ts i).ks j).k pq).p]) (aZ ρ17 4),(fun n hn=>by rw [List.mem_singleton.1 hn];exact (yR (ho.gK i j).k hq32).p)⟩) []
     intro J1
     refine iZ Tryz.f39 5 [0,1,6,7,8,9,10] [] (fun ρ=>let qa:=vs (nb ρ 3) (nI (([]:List Nat)++(gK (gT ts i).ks j).ps)).length (aZ ρ 3);[vs (nb ρ 0) 0 0,jp (nb ρ13 8) 43,.slice (gK (gT ts i).ks j).pa (nI (gK (gT ts i).ks j).ps).length (gK (gT ts i).ks j).pc,qa,qa]) (fun ρ=>[(0,(nw ρ 0 (cL #[] 55))),(3,(bD 1 (nb ρ 3) (cL (oc ρ 3) 55)))]) (fun ρ=>[(3,fun w=>kI.A (oc ρ 3) (([]:List Nat)++(gK (gT ts i).ks j).ps) (aZ ρ 3))]) (fun _=>(fun w=>bM w a c ts∧True)) (fun ρ=>kI.A (oc ρ 3) (([]:List Nat)++(gK (gT ts i).ks j).ps) (aZ ρ 3)) (fun _ _ hF hf=>⟨hF,hf 3⟩) (cR [[],[],[0]]<|cX (qM 1 (fun ρ _ _ hG hg=>lT (ty:=67) (g:=nb ρ 0) (ts:=([]:List Nat)) (us:=(gK (gT ts i).ks j).ps) Tryz.underlying67 (dA (sz:=1) (b:=4) (z:=(.int .u32 0)) (by kernel_rfl) rfl) RowK.A.empty (src_is Tryz.underlying67 ((hG.fn.1.sub _ (fA (show i<ts.length from (by have:=yF hb2;omega)))).sub _ (nU (show j<(gT ts i).ks.length from (by have:=yF hb2;omega))))) (by have:=jC (aV hb1) (show i<ts.length from (by have:=yF hb2;omega)) (show j<(gT ts i).ks.length from (by have:=yF hb2;omega));simp only [List.length_nil];omega) (by decide) hg))<|jE [[]]) (fun ρ19 ap19_3=>?_)
     refine aB (jM Tryz.f39 2 [0,1,6,7,8,9,10,51] [] [jp (nb ρ13 8) 44,.bool (gK (gT ts i).ks j).wd] [[],[0]] ?_)
     refine oC (gK (gT ts i).ks j).wd (fun hb7=>?_) (fun hb7=>?_)
     ·
      rw [hb7]
      refine rSf Tryz.f39 6 [0,1,6,7,8,9,10] [1,1,0] (fun ρ=>let qa:=vs (nb ρ 4) (nI ((([]:List Nat)++(gK (gT ts i).ks j).ps)++([z.toNat]))).length (aZ ρ 4);[vs (nb ρ19 3) (nI (([]:List Nat)++(gK (gT ts i).ks j).ps)).length (aZ ρ19 3),vi z,vu z.toNat,vs (nb ρ 3) 1 1,qa,qa]) (fun ρ=>[(3,(nw ρ 3 (cL #[vu z.toNat] 55))),(4,(bD 1 (nb ρ 4) (cL (oc ρ 4) 55)))]) (fun ρ=>[(4,fun w=>kI.A (oc ρ 4) ((([]:List Nat)++(gK (gT ts i).ks j).ps)++([z.toNat])) (aZ ρ 4))]) (fun _=>(fun w=>bM w a c ts∧True)) (fun ρ=>kI.A (oc ρ 4) ((([]:List Nat)++(gK (gT ts i).ks j).ps)++([z.toNat])) (aZ ρ 4)) (fun _ _ hF hf=>⟨hF,hf 4⟩) (cR [[],[]]<|cA (fun _=>(vu z.toNat)) (fun _=>jN (u32Z hb2 hb3))<|cR [[]]<|cX (qM 1 (fun ρ _ _ hG hg=>lT (ty:=67) (g:=nb ρ19 3) (ts:=([]:List Nat)++(gK (gT ts i).ks j).ps) (us:=[z.toNat]) Tryz.underlying67 (dA (sz:=1) (b:=4) (z:=(.int .u32 0)) (by kernel_rfl) rfl) ap19_3 (tJ Tryz.underlying67 (hG.kn (g:=nb ρ 3) (o:=(cL #[vu z.toNat] 55)) 26)) (by have:=jC (aV hb1) (show i<ts.length from (by have:=yF hb2;omega)) (show j<(gT ts i).ks.length from (by have:=yF hb2;omega));simp only [List.length_append,List.length_cons,List.length_nil];omega) (by decide) hg))<|jE [[]]) (fun ρ21 ap21_4=>?_)
      refine aA ?_
      refine lK [(0,(.slice a ts.length c)),(1,(vi z)),(6,vz),(7,(vn i)),(8,(vn j)),(9,(pt (nb ρ13 8))),(10,(vs (nb ρ21 4) (nI ((([]:List Nat)++(gK (gT ts i).ks j).ps)++([z.toNat]))).length (aZ ρ21 4)))] [(nb ρ13 8,(cL (dO.row (gK (gT ts i).ks j)) 69)),(nb ρ21 4,(cL (oc ρ21 4) 55))] ?_
      exact okE J1 (some ⟨nb ρ21 4,0,none⟩,aZ ρ21 4,(([]:List Nat)++(gK (gT ts i).ks j).ps)++[z.toNat]) (⟨ix_d hb7,(fun x hx=>(List.mem_append.1 hx).elim ((ho.gK i j).ps x) (fun hx=>by rw [List.mem_singleton.1 hx];exact (z32n hb2 hb3)))⟩) (fun w hS=>(hS.frozI (e:=55) (fr:=(0,0)) 1 ap21_4 (by have:=jC (aV hb1) (show i<ts.length from (by have:=yF hb2;omega)) (show j<(gT ts i).ks.length from (by have:=yF hb2;omega));simp only [List.length_append,List.length_cons,List.length_nil];omega) []).weaken (fun w hF=>⟨hF.2.1,hF.1,trivial⟩))
     rw [hb7]
     refine aG (aA ?_)
     refine lK [(0,(.slice a ts.length c)),(1,(vi z)),(6,vz),(7,(vn i)),(8,(vn j)),(9,(pt (nb ρ13 8))),(10,(vs (nb ρ19 3) (nI (([]:List Nat)++(gK (gT ts i).ks j).ps)).length (aZ ρ19 3))),(51,vF)] [(nb ρ13 8,(cL (dO.row (gK (gT ts i).ks j)) 69)),(nb ρ19 3,(cL (oc ρ19 3) 55))] ?_
     exact okE J1 (some ⟨nb ρ19 3,0,none⟩,aZ ρ19 3,([]:List Nat)++(gK (gT ts i).ks j).ps) (⟨ix_c hb7,(ho.gK i j).ps⟩) (fun w hS=>(hS.frozI (e:=55) (fr:=(0,0)) 1 ap19_3 (by have:=jC (aV hb1) (show i<ts.length from (by have:=yF hb2;omega)) (show j<(gT ts i).ks.length from (by have:=yF hb2;omega));simp only [List.length_append,List.length_nil];omega) []).weaken (fun w hF=>⟨hF.2.1,hF.1,trivial⟩))
    rw [hb5]
    have:=yF hb5
    refine bF (aN (aN (aT (aJ (aA ?_)))))
    refine rS Tryz.f39 3 [0,1,6,7] [] (fun _=>[vn i,vn (i+1),vn (i+1)]) (fun _=>[]) (cR [[]]<|jW (fun ρ=>(((i:Nat):Int)+1)) (fun _=>(i+1)) (fun _=>(aW i 1 (by have:=yF hb2;omega)))<|jE [[]]) (fun _=>?_)
    exact mN (Sum.inl (i+1)) (by show ts.length-(i+1)<ts.length-i;have:=yF hb2;omega) (⟨(by have:=yF hb2;omega),kn_out (by have:=yF hb2;omega) hN,ke_out (by have:=yF hb2;omega) hE,trivial⟩) []
   rintro ⟨hj,hN,hE,hA,hM⟩
   change Ok Tryz.prog _ _ 73 [(0,(.slice a ts.length c)),(1,(vi z)),(6,(vs q N.length κ)),(7,(vn i)),(8,(vn j))] _ [(q,(cL C 64))] (fun w=>bM w a c ts∧True)
   refine aB ?_
   refine sS Tryz.f39 8 [0,1,6,7,8,35] [] (fun _=>[vn j,.slice a ts.length c,vn i,.pointer (fK a (i*36)),.pointer (fK a (i*36+35)),.slice (gT ts i).ka (gT ts i).ks.length (gT ts i).kc,vn (gT ts i).ks.length,.bool (decide (((j:Nat):Int)<(((gT ts i).ks.length:Nat):Int)))]) (fun _=>[]) (cR [[],[],[]]<|cX (qF (fun _ _ _ hG=>bM.idx (k:=.i64) Tryz.underlying24 Tryz.sizeOf60 hG.fn.1 rfl (show ((i:Nat):Int)=((i:Nat):Int) from rfl) (show i<ts.length from (by have:=yF hb2;omega))))<|cX (jF (fun _=>Instr.fieldAt 60 (.pointer (fK a (i*36))) 4) (fun _=>(.pointer (fK a (i*36+35)))) (fun _ _ _ hG=>uH (o:=35) (k:=i*36) Tryz.underlying60 rfl rfl rfl Tryz.sizeOf58 (hG.fn.1.pos (show i<ts.length from (by have:=yF hb2;omega))).1 (hG.fn.1.pos (show i<ts.length from (by have:=yF hb2;omega))).2) (fun _ _ _ _=>cO))<|cX (qF (fun _ _ _ hG=>bM.ld (v:=(.slice (gT ts i).ka (gT ts i).ks.length (gT ts i).kc)) (i:=i) (j:=35) Tryz.isAgg58 hG.fn.1 (show i<ts.length from (by have:=yF hb2;omega)) (by decide) (by kernel_rfl)))<|jE [[],[]]) (fun _=>?_)
   refine oC (decide (((j:Nat):Int)<(((gT ts i).ks.length:Nat):Int))) (fun hb8=>?_) (fun hb8=>?_)
   ·
    rw [hb8]
    have:=yT hb8
    refine aG (aA (aB (aI ?_)))
    refine sS Tryz.f39 10 [0,1,6,7,8,9] [] (fun ρ=>[.slice a ts.length c,vn i,.pointer (fK a (i*36)),.pointer (fK a (i*36+35)),.slice (gT ts i).ka (gT ts i).ks.length (gT ts i).kc,vn j,.pointer (fK (gT ts i).ka (j*45)),.agg (dO.row (gK (gT ts i).ks j)),pt (nb ρ 8),undef]) (fun ρ=>[(8,(nw ρ 8 (cL (kM 0 0 0 0 0 0 vz vF) 69))),(9,(bD 65 (nb ρ 8) (cL (dO.row (gK (gT ts i).ks j)) 69)))]) (cR [[],[]]<|cX (qF (fun _ _ _ hG=>bM.idx (k:=.i64) Tryz.underlying24 Tryz.sizeOf60 hG.fn.1 rfl (show ((i:Nat):Int)=((i:Nat):Int) from rfl) (show i<ts.length from (by have:=yF hb2;omega))))<|cX (jF (fun _=>Instr.fieldAt 60 (.pointer (fK a (i*36))) 4) (fun _=>(.pointer (fK a (i*36+35)))) (fun _ _ _ hG=>uH (o:=35) (k:=i*36) Tryz.underlying60 rfl rfl rfl Tryz.sizeOf58 (hG.fn.1.pos (show i<ts.length from (by have:=yF hb2;omega))).1 (hG.fn.1.pos (show i<ts.length from (by have:=yF hb2;omega))).2) (fun _ _ _ _=>cO))<|cX (qF (fun _ _ _ hG=>bM.ld (v:=(.slice (gT ts i).ka (gT ts i).ks.length (gT ts i).kc)) (i:=i) (j:=35) Tryz.isAgg58 hG.fn.1 (show i<ts.length from (by have:=yF hb2;omega)) (by decide) (by kernel_rfl)))<|cR [[]]<|cX (qF (fun _ _ _ hG=>oG.idx (k:=.i64) Tryz.underlying58 Tryz.sizeOf69 (hG.fn.1.sub _ (fA (show i<ts.length from (by have:=yF hb2;omega)))) rfl (show ((j:Nat):Int)=((j:Nat):Int) from rfl) (show j<(gT ts i).ks.length from (by have:=yF hb2;omega))))<|cX (qF (fun _ _ _ hG=>oG.ldA (i:=j) Tryz.isAgg69 Tryz.sizeOf69 (hG.fn.1.sub _ (fA (show i<ts.length from (by have:=yF hb2;omega)))) (show j<(gT ts i).ks.length from (by have:=yF hb2;omega))))<|jE [[],[65]]) (fun ρ24=>?_)
    refine okJ2 (σ:=(Option Addr) × Nat × (List Nat)) (fun ⟨pa,pc,pq⟩=>[(0,(.slice a ts.length c)),(1,(vi z)),(6,(vs q N.length κ)),(7,(vn i)),(8,(vn j)),(9,(pt (nb ρ24 8))),(10,(.slice pa (nI pq).length pc))]) (fun ⟨_,_,_⟩=>[(q,(cL C 64)),(nb ρ24 8,(cL (dO.row (gK (gT ts i).ks j)) 69))]) (fun ⟨pa,pc,pq⟩=>(fun w=>bM w a c ts∧Is w .u32 pa pc (nI pq)∧True)) (fun ⟨_,_,pq⟩=>((gK (gT ts i).ks j).ix z.toNat=pq)∧(∀ x∈pq,x<4294967296)) ?_ ?_
    ·
     rintro ⟨pa,pc,pq⟩ ⟨hq,hq32⟩
     change Ok Tryz.prog _ _ 73 [(0,(.slice a ts.length c)),(1,(vi z)),(6,(vs q N.length κ)),(7,(vn i)),(8,(vn j)),(9,(pt (nb ρ24 8))),(10,(.slice pa (nI pq).length pc))] _ [(q,(cL C 64)),(nb ρ24 8,(cL (dO.row (gK (gT ts i).ks j)) 69))] (fun w=>bM w a c ts∧Is w .u32 pa pc (nI pq)∧True)
     refine sS Tryz.f39 10 [0,1,6,7,8,11,12] [1,0,1] (fun ρ=>let qa:=vi (nM (gK (gT ts i).ks j).k pq);let qb:Value:=.agg (kY (iQ (gK (gT ts i).ks j).k pq));[pt (nb ρ24 8),.agg (kY (gK (gT ts i).ks j).k),.slice pa (nI pq).length pc,.tuple #[qb,qa],.tuple #[qb,qa],qb,qa,pt (nb ρ 7),undef,qa]) (fun ρ=>[(7,(nw ρ 7 (cL (kC 0 0 0 0 0 0) 66))),(8,(bD 58 (nb ρ 7) (cL (kY (iQ (gK (gT ts i).ks j).k pq)) 66)))]) (cR [[],[1],[]]<|cX (qC (fun _ _ w hG=>vJ (gK (gT ts i).ks j).k pa pc pq (ho.gK i j).k hq32 w hG.fn.2.1))<|jE [[],[],[],[],[58],[]]) (fun ρ25=>?_)
     refine aB (jJ Tryz.f39 2 [0,1,6,7,8,11,12,65] [vi (nM (gK (gT ts i).ks j).k pq),.bool ((nM (gK (gT ts i).ks j).k pq) != 0)] ?_)
     refine oC ((nM (gK (gT ts i).ks j).k pq) != 0) (fun hb9=>?_) (fun hb9=>?_)
     ·
      rw [hb9]
      refine jJ Tryz.f39 3 [0,1,4,5,6,7,8,11] (let qa:=vi (nM (gK (gT ts i).ks j).k pq);[qa,vz,qa]) (aF (aC (aP (aC (aC (aP (aP (aC (aC (aP (aC (mD [(0,(.slice a ts.length c)),(1,(vi z)),(4,vz),(5,(vi (nM (gK (gT ts i).ks j).k pq))),(6,(vs q N.length κ)),(7,(vn i)),(8,(vn j)),(11,(pt (nb ρ25 7)))] [(q,(cL C 64)),(nb ρ25 7,(cL (kY (iQ (gK (gT ts i).ks j).k pq)) 66))] ?_))))))))))))
      exact mR (v:=(.tuple #[vz,vi (nM (gK (gT ts i).ks j).k pq)])) (fun _ hS=>(by rw [(pI (aV hb1) hb2 hb3 (l7 (show j<(gT ts i).ks.length from (by have:=yF hb2;omega)) hq hb9 hE) hb9).1,(pI (aV hb1) hb2 hb3 (l7 (show j<(gT ts i).ks.length from (by have:=yF hb2;omega)) hq hb9 hE) hb9).2];exact ⟨none,0,rfl,hS.bel,dB (fun _=>Us.nil)⟩))
     rw [hb9]
     refine aG (aA ?_)
     refine rSf Tryz.f39 6 [0,1,6,7,8] [1,0,0] (fun ρ=>let qa:=vs (nb ρ 4) (N++([(iQ (gK (gT ts i).ks j).k pq).p])).length (aZ ρ 4);[vs q N.length κ,jp (nb ρ25 7) 4,U (iQ (gK (gT ts i).ks j).k pq).p,vs (nb ρ 3) 1 1,qa,qa]) (fun ρ=>[(3,(nw ρ 3 (cL (cU (iQ (gK (gT ts i).ks j).k pq).p) 64))),(4,(bD 0 (nb ρ 4) (cL (oc ρ 4) 64)))]) (fun ρ=>[(4,fun w=>kU.A (oc ρ 4) (N++([(iQ (gK (gT ts i).ks j).k pq).p])) (aZ ρ 4))]) (fun _=>(fun w=>bM w a c ts∧Is w .u32 pa pc (nI pq)∧True)) (fun ρ=>kU.A (oc ρ 4) (N++([(iQ (gK (gT ts i).ks j).k pq).p])) (aZ ρ 4)) (fun _ _ hF hf=>⟨hF,hf 4⟩) (cR [[],[],[1],[]]<|cX (qM 0 (fun ρ _ _ hG hg=>wB (K:=kU) (ty:=80) (g:=q) (ts:=N) (us:=[(iQ (gK (gT ts i).ks j).k pq).p]) Tryz.underlying80 (dA (sz:=4) (b:=32) (z:=(U 0)) (by kernel_rfl) rfl) hA (src_u1 Tryz.underlying80 (hG.kn (g:=nb ρ 3) (o:=(cL (cU (iQ (gK (gT ts i).ks j).k pq).p) 64)) 26)) (by have:=kn_len (aV hb1) hN;have:=zN (R:=aK (ts.drop (i+1))) (show j<(gT ts i).ks.length from (by have:=yF hb2;omega));simp only [List.length_cons,List.length_nil];omega) (by decide) hg))<|jE [[]]) (fun ρ28 ap28_4=>?_)
     refine aJ (aA ?_)
     refine rS Tryz.f39 3 [0,1,6,7,8] [] (fun _=>[vn j,vn (j+1),vn (j+1)]) (fun _=>[]) (cR [[]]<|jW (fun ρ=>(((j:Nat):Int)+1)) (fun _=>(j+1)) (fun _=>(aW j 1 (by have:=yF hb2;omega)))<|jE [[]]) (fun _=>?_)
     refine nD (fun w=>bM w a c ts∧True) (fun w hF=>⟨hF.1,trivial⟩) ?_
     exact mN (Sum.inr (j+1,nb ρ28 4,N++([(iQ (gK (gT ts i).ks j).k pq).p]),oc ρ28 4,aZ ρ28 4)) (by show (gT ts i).ks.length-(j+1)<(gT ts i).ks.length-j;have:=yF hb2;omega) (⟨(by have:=yF hb2;omega),wV (show j<(gT ts i).ks.length from (by have:=yF hb2;omega)) hq hN,xJ (show j<(gT ts i).ks.length from (by have:=yF hb2;omega)) hq hb9 hE,ap28_4,(fun n hn=>(List.mem_append.1 hn).elim (hM n) (fun hn=>by rw [List.mem_singleton.1 hn];exact (yR (ho.gK i j).k hq32).p))⟩) []
    intro J2
    refine iZ Tryz.f39 5 [0,1,6,7,8,9,10] [] (fun ρ=>let qa:=vs (nb ρ 3) (nI (([]:List Nat)++(gK (gT ts i).ks j).ps)).length (aZ ρ 3);[vs (nb ρ 0) 0 0,jp (nb ρ24 8) 43,.slice (gK (gT ts i).ks j).pa (nI (gK (gT ts i).ks j).ps).length (gK (gT ts i).ks j).pc,qa,qa]) (fun ρ=>[(0,(nw ρ 0 (cL #[] 55))),(3,(bD 2 (nb ρ 3) (cL (oc ρ 3) 55)))]) (fun ρ=>[(3,fun w=>kI.A (oc ρ 3) (([]:List Nat)++(gK (gT ts i).ks j).ps) (aZ ρ 3))]) (fun _=>(fun w=>bM w a c ts∧True)) (fun ρ=>kI.A (oc ρ 3) (([]:List Nat)++(gK (gT ts i).ks j).ps) (aZ ρ 3)) (fun _ _ hF hf=>⟨hF,hf 3⟩) (cR [[],[],[1]]<|cX (qM 2 (fun ρ _ _ hG hg=>lT (ty:=67) (g:=nb ρ 0) (ts:=([]:List Nat)) (us:=(gK (gT ts i).ks j).ps) Tryz.underlying67 (dA (sz:=1) (b:=4) (z:=(.int .u32 0)) (by kernel_rfl) rfl) RowK.A.empty (src_is Tryz.underlying67 ((hG.fn.1.sub _ (fA (show i<ts.length from (by have:=yF hb2;omega)))).sub _ (nU (show j<(gT ts i).ks.length from (by have:=yF hb2;omega))))) (by have:=jC (aV hb1) (show i<ts.length from (by have:=yF hb2;omega)) (show j<(gT ts i).ks.length from (by have:=yF hb2;omega));simp only [List.length_nil];omega) (by decide) hg))<|jE [[]]) (fun ρ30 ap30_3=>?_)
    refine aB (jM Tryz.f39 2 [0,1,6,7,8,9,10,51] [] [jp (nb ρ24 8) 44,.bool (gK (gT ts i).ks j).wd] [[],[1]] ?_)
    refine oC (gK (gT ts i).ks j).wd (fun hb10=>?_) (fun hb10=>?_)
    ·
     rw [hb10]
     refine rSf Tryz.f39 6 [0,1,6,7,8,9,10] [1,1,1,0] (fun ρ=>let qa:=vs (nb ρ 4) (nI ((([]:List Nat)++(gK (gT ts i).ks j).ps)++([z.toNat]))).length (aZ ρ 4);[vs (nb ρ30 3) (nI (([]:List Nat)++(gK (gT ts i).ks j).ps)).length (aZ ρ30 3),vi z,vu z.toNat,vs (nb ρ 3) 1 1,qa,qa]) (fun ρ=>[(3,(nw ρ 3 (cL #[vu z.toNat] 55))),(4,(bD 2 (nb ρ 4) (cL (oc ρ 4) 55)))]) (fun ρ=>[(4,fun w=>kI.A (oc ρ 4) ((([]:List Nat)++(gK (gT ts i).ks j).ps)++([z.toNat])) (aZ ρ 4))]) (fun _=>(fun w=>bM w a c ts∧True)) (fun ρ=>kI.A (oc ρ 4) ((([]:List Nat)++(gK (gT ts i).ks j).ps)++([z.toNat])) (aZ ρ 4)) (fun _ _ hF hf=>⟨hF,hf 4⟩) (cR [[],[]]<|cA (fun _=>(vu z.toNat)) (fun _=>jN (u32Z hb2 hb3))<|cR [[]]<|cX (qM 2 (fun ρ _ _ hG hg=>lT (ty:=67) (g:=nb ρ30 3) (ts:=([]:List Nat)++(gK (gT ts i).ks j).ps) (us:=[z.toNat]) Tryz.underlying67 (dA (sz:=1) (b:=4) (z:=(.int .u32 0)) (by kernel_rfl) rfl) ap30_3 (tJ Tryz.underlying67 (hG.kn (g:=nb ρ 3) (o:=(cL #[vu z.toNat] 55)) 27)) (by have:=jC (aV hb1) (show i<ts.length from (by have:=yF hb2;omega)) (show j<(gT ts i).ks.length from (by have:=yF hb2;omega));simp only [List.length_append,List.length_cons,List.length_nil];omega) (by decide) hg))<|jE [[]]) (fun ρ32 ap32_4=>?_)
     refine aA ?_
     refine lK [(0,(.slice a ts.length c)),(1,(vi z)),(6,(vs q N.length κ)),(7,(vn i)),(8,(vn j)),(9,(pt (nb ρ24 8))),(10,(vs (nb ρ32 4) (nI ((([]:List Nat)++(gK (gT ts i).ks j).ps)++([z.toNat]))).length (aZ ρ32 4)))] [(q,(cL C 64)),(nb ρ24 8,(cL (dO.row (gK (gT ts i).ks j)) 69)),(nb ρ32 4,(cL (oc ρ32 4) 55))] ?_
     exact okE J2 (some ⟨nb ρ32 4,0,none⟩,aZ ρ32 4,(([]:List Nat)++(gK (gT ts i).ks j).ps)++[z.toNat]) (⟨ix_d hb10,(fun x hx=>(List.mem_append.1 hx).elim ((ho.gK i j).ps x) (fun hx=>by rw [List.mem_singleton.1 hx];exact (z32n hb2 hb3)))⟩) (fun w hS=>(hS.frozI (e:=55) (fr:=(0,0)) 2 ap32_4 (by have:=jC (aV hb1) (show i<ts.length from (by have:=yF hb2;omega)) (show j<(gT ts i).ks.length from (by have:=yF hb2;omega));simp only [List.length_append,List.length_cons,List.length_nil];omega) []).weaken (fun w hF=>⟨hF.2.1,hF.1,trivial⟩))
    rw [hb10]
    refine aG (aA ?_)
    refine lK [(0,(.slice a ts.length c)),(1,(vi z)),(6,(vs q N.length κ)),(7,(vn i)),(8,(vn j)),(9,(pt (nb ρ24 8))),(10,(vs (nb ρ30 3) (nI (([]:List Nat)++(gK (gT ts i).ks j).ps)).length (aZ ρ30 3))),(51,vF)] [(q,(cL C 64)),(nb ρ24 8,(cL (dO.row (gK (gT ts i).ks j)) 69)),(nb ρ30 3,(cL (oc ρ30 3) 55))] ?_
    exact okE J2 (some ⟨nb ρ30 3,0,none⟩,aZ ρ30 3,([]:List Nat)++(gK (gT ts i).ks j).ps) (⟨ix_c hb10,(ho.gK i j).ps⟩) (fun w hS=>(hS.frozI (e:=55) (fr:=(0,0)) 2 ap30_3 (by have:=jC (aV hb1) (show i<ts.length from (by have:=yF hb2;omega)) (show j<(gT ts i).ks.length from (by have:=yF hb2;omega));simp only [List.length_append,List.length_nil];omega) []).weaken (fun w hF=>⟨hF.2.1,hF.1,trivial⟩))
   rw [hb8]
   have:=yF hb8
   refine bF (aN (aN (aT (aJ (aA ?_)))))
   refine rS Tryz.f39 3 [0,1,6,7] [] (fun _=>[vn i,vn (i+1),vn (i+1)]) (fun _=>[]) (cR [[]]<|jW (fun ρ=>(((i:Nat):Int)+1)) (fun _=>(i+1)) (fun _=>(aW i 1 (by have:=yF hb2;omega)))<|jE [[]]) (fun _=>?_)
   exact mN (Sum.inr (i+1,q,N,C,κ)) (by show ts.length-(i+1)<ts.length-i;have:=yF hb2;omega) (⟨(by have:=yF hb2;omega),kn_out (by have:=yF hb2;omega) hN,ke_out (by have:=yF hb2;omega) hE,hA,hM⟩) []
  rw [hb4]
  have:=ho.klen hf0 i
  refine bF (aN (aN (aT (aA (jJ Tryz.f39 3 [4,5] [vz,vz,vi 0] (aF (mD [(4,vz),(5,(vi 0))] [] ?_)))))))
  exact mR (v:=(.tuple #[vz,vi 0])) (fun _ hS=>(by rw [(ky_ok (aV hb1) hb2 hb3 (by have:=yF hb2;have:=yF hb4;omega) hE0 hN0).1,(ky_ok (aV hb1) hb2 hb3 (by have:=yF hb2;have:=yF hb4;omega) hE0 hN0).2];exact ⟨none,0,rfl,hS.bel,dB (fun _=>Us.nil)⟩))
 rintro ⟨hi,hN0,hE0,hA,hM⟩
 change Ok Tryz.prog _ _ 73 [(0,(.slice a ts.length c)),(1,(vi z)),(6,(vs q N.length κ)),(7,(vn i))] _ [(q,(cL C 64))] (fun w=>bM w a c ts∧True)
 refine aB (jJ Tryz.f39 4 [0,1,6,7,25] [vn i,.slice a ts.length c,vn ts.length,.bool (decide (((i:Nat):Int)<((ts.length:Nat):Int)))] ?_)
 refine oC (decide (((i:Nat):Int)<((ts.length:Nat):Int))) (fun hb11=>?_) (fun hb11=>?_)
 ·
  rw [hb11]
  have:=yT hb11
  have:=ho.klen hf0 i
  refine aG (aA (aB (aI (jJ Tryz.f39 1 [0,1,6,7,8] [vi 0] (aI ?_)))))
  refine oL (σ:=(Nat × Nat × (List Nat) × (Array Value) × Nat)) (fun s=>match s with |  ⟨j,q,N,_,κ⟩=>[(0,(.slice a ts.length c)),(1,(vi z)),(6,(vs q N.length κ)),(7,(vn i)),(8,(vn j))]) (fun s=>match s with |  ⟨_,q,_,C,_⟩=>[(q,(cL C 64))]) (fun s=>match s with |  ⟨j,_,_,_,_⟩=>(gT ts i).ks.length-j)
    (fun s=>match s with |  ⟨j,_,N,C,κ⟩=>(j≤(gT ts i).ks.length)∧(N++xE z.toNat ((gT ts i).ks.drop j++aK (ts.drop (i+1)))=xE z.toNat (aK ts))∧(uU z.toNat ((gT ts i).ks.drop j++aK (ts.drop (i+1)))=uU z.toNat (aK ts))∧(kU.A C N κ)∧(∀ n∈N,n<M)) ((0,q,N,C,κ)) (⟨Nat.zero_le _,kn_in (show i<ts.length from (by have:=yF hb2;omega)) hN0,ke_in (show i<ts.length from (by have:=yF hb2;omega)) hE0,hA,hM⟩) [] ?_
  rintro ⟨j,q,N,C,κ⟩
  rintro ⟨hj,hN,hE,hA,hM⟩
  change Ok Tryz.prog _ _ 73 [(0,(.slice a ts.length c)),(1,(vi z)),(6,(vs q N.length κ)),(7,(vn i)),(8,(vn j))] _ [(q,(cL C 64))] (fun w=>bM w a c ts∧True)
  refine aB ?_
  refine sS Tryz.f39 8 [0,1,6,7,8,35] [] (fun _=>[vn j,.slice a ts.length c,vn i,.pointer (fK a (i*36)),.pointer (fK a (i*36+35)),.slice (gT ts i).ka (gT ts i).ks.length (gT ts i).kc,vn (gT ts i).ks.length,.bool (decide (((j:Nat):Int)<(((gT ts i).ks.length:Nat):Int)))]) (fun _=>[]) (cR [[],[],[]]<|cX (qF (fun _ _ _ hG=>bM.idx (k:=.i64) Tryz.underlying24 Tryz.sizeOf60 hG.fn.1 rfl (show ((i:Nat):Int)=((i:Nat):Int) from rfl) (show i<ts.length from (by have:=yF hb2;omega))))<|cX (jF (fun _=>Instr.fieldAt 60 (.pointer (fK a (i*36))) 4) (fun _=>(.pointer (fK a (i*36+35)))) (fun _ _ _ hG=>uH (o:=35) (k:=i*36) Tryz.underlying60 rfl rfl rfl Tryz.sizeOf58 (hG.fn.1.pos (show i<ts.length from (by have:=yF hb2;omega))).1 (hG.fn.1.pos (show i<ts.length from (by have:=yF hb2;omega))).2) (fun _ _ _ _=>cO))<|cX (qF (fun _ _ _ hG=>bM.ld (v:=(.slice (gT ts i).ka (gT ts i).ks.length (gT ts i).kc)) (i:=i) (j:=35) Tryz.isAgg58 hG.fn.1 (show i<ts.length from (by have:=yF hb2;omega)) (by decide) (by kernel_rfl)))<|jE [[],[]]) (fun _=>?_)
  refine oC (decide (((j:Nat):Int)<(((gT ts i).ks.length:Nat):Int))) (fun hb12=>?_) (fun hb12=>?_)
  ·
   rw [hb12]
   have:=yT hb12
   refine aG (aA (aB (aI ?_)))
   refine sS Tryz.f39 10 [0,1,6,7,8,9] [] (fun ρ=>[.slice a ts.length c,vn i,.pointer (fK a (i*36)),.pointer (fK a (i*36+35)),.slice (gT ts i).ka (gT ts i).ks.length (gT ts i).kc,vn j,.pointer (fK (gT ts i).ka (j*45)),.agg (dO.row (gK (gT ts i).ks j)),pt (nb ρ 8),undef]) (fun ρ=>[(8,(nw ρ 8 (cL (kM 0 0 0 0 0 0 vz vF) 69))),(9,(bD 65 (nb ρ 8) (cL (dO.row (gK (gT ts i).ks j)) 69)))]) (cR [[],[]]<|cX (qF (fun _ _ _ hG=>bM.idx (k:=.i64) Tryz.underlying24 Tryz.sizeOf60 hG.fn.1 rfl (show ((i:Nat):Int)=((i:Nat):Int) from rfl) (show i<ts.length from (by have:=yF hb2;omega))))<|cX (jF (fun _=>Instr.fieldAt 60 (.pointer (fK a (i*36))) 4) (fun _=>(.pointer (fK a (i*36+35)))) (fun _ _ _ hG=>uH (o:=35) (k:=i*36) Tryz.underlying60 rfl rfl rfl Tryz.sizeOf58 (hG.fn.1.pos (show i<ts.length from (by have:=yF hb2;omega))).1 (hG.fn.1.pos (show i<ts.length from (by have:=yF hb2;omega))).2) (fun _ _ _ _=>cO))<|cX (qF (fun _ _ _ hG=>bM.ld (v:=(.slice (gT ts i).ka (gT ts i).ks.length (gT ts i).kc)) (i:=i) (j:=35) Tryz.isAgg58 hG.fn.1 (show i<ts.length from (by have:=yF hb2;omega)) (by decide) (by kernel_rfl)))<|cR [[]]<|cX (qF (fun _ _ _ hG=>oG.idx (k:=.i64) Tryz.underlying58 Tryz.sizeOf69 (hG.fn.1.sub _ (fA (show i<ts.length from (by have:=yF hb2;omega)))) rfl (show ((j:Nat):Int)=((j:Nat):Int) from rfl) (show j<(gT ts i).ks.length from (by have:=yF hb2;omega))))<|cX (qF (fun _ _ _ hG=>oG.ldA (i:=j) Tryz.isAgg69 Tryz.sizeOf69 (hG.fn.1.sub _ (fA (show i<ts.length from (by have:=yF hb2;omega)))) (show j<(gT ts i).ks.length from (by have:=yF hb2;omega))))<|jE [[],[65]]) (fun ρ38=>?_)
   refine okJ2 (σ:=(Option Addr) × Nat × (List Nat)) (fun ⟨pa,pc,pq⟩=>[(0,(.slice a ts.length c)),(1,(vi z)),(6,(vs q N.length κ)),(7,(vn i)),(8,(vn j)),(9,(pt (nb ρ38 8))),(10,(.slice pa (nI pq).length pc))]) (fun ⟨_,_,_⟩=>[(q,(cL C 64)),(nb ρ38 8,(cL (dO.row (gK (gT ts i).ks j)) 69))]) (fun ⟨pa,pc,pq⟩=>(fun w=>bM w a c ts∧Is w .u32 pa pc (nI pq)∧True)) (fun ⟨_,_,pq⟩=>((gK (gT ts i).ks j).ix z.toNat=pq)∧(∀ x∈pq,x<4294967296)) ?_ ?_
   ·
    rintro ⟨pa,pc,pq⟩ ⟨hq,hq32⟩
    change Ok Tryz.prog _ _ 73 [(0,(.slice a ts.length c)),(1,(vi z)),(6,(vs q N.length κ)),(7,(vn i)),(8,(vn j)),(9,(pt (nb ρ38 8))),(10,(.slice pa (nI pq).length pc))] _ [(q,(cL C 64)),(nb ρ38 8,(cL (dO.row (gK (gT ts i).ks j)) 69))] (fun w=>bM w a c ts∧Is w .u32 pa pc (nI pq)∧True)
    refine sS Tryz.f39 10 [0,1,6,7,8,11,12] [1,0,1] (fun ρ=>let qa:=vi (nM (gK (gT ts i).ks j).k pq);let qb:Value:=.agg (kY (iQ (gK (gT ts i).ks j).k pq));[pt (nb ρ38 8),.agg (kY (gK (gT ts i).ks j).k),.slice pa (nI pq).length pc,.tuple #[qb,qa],.tuple #[qb,qa],qb,qa,pt (nb ρ 7),undef,qa]) (fun ρ=>[(7,(nw ρ 7 (cL (kC 0 0 0 0 0 0) 66))),(8,(bD 58 (nb ρ 7) (cL (kY (iQ (gK (gT ts i).ks j).k pq)) 66)))]) (cR [[],[1],[]]<|cX (qC (fun _ _ w hG=>vJ (gK (gT ts i).ks j).k pa pc pq (ho.gK i j).k hq32 w hG.fn.2.1))<|jE [[],[],[],[],[58],[]]) (fun ρ39=>?_)
    refine aB (jJ Tryz.f39 2 [0,1,6,7,8,11,12,65] [vi (nM (gK (gT ts i).ks j).k pq),.bool ((nM (gK (gT ts i).ks j).k pq) != 0)] ?_)
    refine oC ((nM (gK (gT ts i).ks j).k pq) != 0) (fun hb13=>?_) (fun hb13=>?_)
    ·
     rw [hb13]
     refine jJ Tryz.f39 3 [0,1,4,5,6,7,8,11] (let qa:=vi (nM (gK (gT ts i).ks j).k pq);[qa,vz,qa]) (aF (aC (aP (aC (aC (aP (aP (aC (aC (aP (aC (mD [(0,(.slice a ts.length c)),(1,(vi z)),(4,vz),(5,(vi (nM (gK (gT ts i).ks j).k pq))),(6,(vs q N.length κ)),(7,(vn i)),(8,(vn j)),(11,(pt (nb ρ39 7)))] [(q,(cL C 64)),(nb ρ39 7,(cL (kY (iQ (gK (gT ts i).ks j).k pq)) 66))] ?_))))))))))))
     exact mR (v:=(.tuple #[vz,vi (nM (gK (gT ts i).ks j).k pq)])) (fun _ hS=>(by rw [(pI (aV hb1) hb2 hb3 (l7 (show j<(gT ts i).ks.length from (by have:=yF hb2;omega)) hq hb13 hE) hb13).1,(pI (aV hb1) hb2 hb3 (l7 (show j<(gT ts i).ks.length from (by have:=yF hb2;omega)) hq hb13 hE) hb13).2];exact ⟨none,0,rfl,hS.bel,dB (fun _=>Us.nil)⟩))
    rw [hb13]
    refine aG (aA ?_)
    refine rSf Tryz.f39 6 [0,1,6,7,8] [1,0,0] (fun ρ=>let qa:=vs (nb ρ 4) (N++([(iQ (gK (gT ts i).ks j).k pq).p])).length (aZ ρ 4);[vs q N.length κ,jp (nb ρ39 7) 4,U (iQ (gK (gT ts i).ks j).k pq).p,vs (nb ρ 3) 1 1,qa,qa]) (fun ρ=>[(3,(nw ρ 3 (cL (cU (iQ (gK (gT ts i).ks j).k pq).p) 64))),(4,(bD 0 (nb ρ 4) (cL (oc ρ 4) 64)))]) (fun ρ=>[(4,fun w=>kU.A (oc ρ 4) (N++([(iQ (gK (gT ts i).ks j).k pq).p])) (aZ ρ 4))]) (fun _=>(fun w=>bM w a c ts∧Is w .u32 pa pc (nI pq)∧True)) (fun ρ=>kU.A (oc ρ 4) (N++([(iQ (gK (gT ts i).ks j).k pq).p])) (aZ ρ 4)) (fun _ _ hF hf=>⟨hF,hf 4⟩) (cR [[],[],[1],[]]<|cX (qM 0 (fun ρ _ _ hG hg=>wB (K:=kU) (ty:=80) (g:=q) (ts:=N) (us:=[(iQ (gK (gT ts i).ks j).k pq).p]) Tryz.underlying80 (dA (sz:=4) (b:=32) (z:=(U 0)) (by kernel_rfl) rfl) hA (src_u1 Tryz.underlying80 (hG.kn (g:=nb ρ 3) (o:=(cL (cU (iQ (gK (gT ts i).ks j).k pq).p) 64)) 26)) (by have:=kn_len (aV hb1) hN;have:=zN (R:=aK (ts.drop (i+1))) (show j<(gT ts i).ks.length from (by have:=yF hb2;omega));simp only [List.length_cons,List.length_nil];omega) (by decide) hg))<|jE [[]]) (fun ρ42 ap42_4=>?_)
    refine aJ (aA ?_)
    refine rS Tryz.f39 3 [0,1,6,7,8] [] (fun _=>[vn j,vn (j+1),vn (j+1)]) (fun _=>[]) (cR [[]]<|jW (fun ρ=>(((j:Nat):Int)+1)) (fun _=>(j+1)) (fun _=>(aW j 1 (by have:=yF hb2;omega)))<|jE [[]]) (fun _=>?_)
    refine nD (fun w=>bM w a c ts∧True) (fun w hF=>⟨hF.1,trivial⟩) ?_
    exact mN ((j+1,nb ρ42 4,N++([(iQ (gK (gT ts i).ks j).k pq).p]),oc ρ42 4,aZ ρ42 4)) (by show (gT ts i).ks.length-(j+1)<(gT ts i).ks.length-j;have:=yF hb2;omega) (⟨(by have:=yF hb2;omega),wV (show j<(gT ts i).ks.length from (by have:=yF hb2;omega)) hq hN,xJ (show j<(gT ts i).ks.length from (by have:=yF hb2;omega)) hq hb13 hE,ap42_4,(fun n hn=>(List.mem_append.1 hn).elim (hM n) (fun hn=>by rw [List.mem_singleton.1 hn];exact (yR (ho.gK i j).k hq32).p))⟩) []
   intro J3
   refine iZ Tryz.f39 5 [0,1,6,7,8,9,10] [] (fun ρ=>let qa:=vs (nb ρ 3) (nI (([]:List Nat)++(gK (gT ts i).ks j).ps)).length (aZ ρ 3);[vs (nb ρ 0) 0 0,jp (nb ρ38 8) 43,.slice (gK (gT ts i).ks j).pa (nI (gK (gT ts i).ks j).ps).length (gK (gT ts i).ks j).pc,qa,qa]) (fun ρ=>[(0,(nw ρ 0 (cL #[] 55))),(3,(bD 2 (nb ρ 3) (cL (oc ρ 3) 55)))]) (fun ρ=>[(3,fun w=>kI.A (oc ρ 3) (([]:List Nat)++(gK (gT ts i).ks j).ps) (aZ ρ 3))]) (fun _=>(fun w=>bM w a c ts∧True)) (fun ρ=>kI.A (oc ρ 3) (([]:List Nat)++(gK (gT ts i).ks j).ps) (aZ ρ 3)) (fun _ _ hF hf=>⟨hF,hf 3⟩) (cR [[],[],[1]]<|cX (qM 2 (fun ρ _ _ hG hg=>lT (ty:=67) (g:=nb ρ 0) (ts:=([]:List Nat)) (us:=(gK (gT ts i).ks j).ps) Tryz.underlying67 (dA (sz:=1) (b:=4) (z:=(.int .u32 0)) (by kernel_rfl) rfl) RowK.A.empty (src_is Tryz.underlying67 ((hG.fn.1.sub _ (fA (show i<ts.length from (by have:=yF hb2;omega)))).sub _ (nU (show j<(gT ts i).ks.length from (by have:=yF hb2;omega))))) (by have:=jC (aV hb1) (show i<ts.length from (by have:=yF hb2;omega)) (show j<(gT ts i).ks.length from (by have:=yF hb2;omega));simp only [List.length_nil];omega) (by decide) hg))<|jE [[]]) (fun ρ44 ap44_3=>?_)
   refine aB (jM Tryz.f39 2 [0,1,6,7,8,9,10,51] [] [jp (nb ρ38 8) 44,.bool (gK (gT ts i).ks j).wd] [[],[1]] ?_)
   refine oC (gK (gT ts i).ks j).wd (fun hb14=>?_) (fun hb14=>?_)
   ·
    rw [hb14]
    refine rSf Tryz.f39 6 [0,1,6,7,8,9,10] [1,1,1,0] (fun ρ=>let qa:=vs (nb ρ 4) (nI ((([]:List Nat)++(gK (gT ts i).ks j).ps)++([z.toNat]))).length (aZ ρ 4);[vs (nb ρ44 3) (nI (([]:List Nat)++(gK (gT ts i).ks j).ps)).length (aZ ρ44 3),vi z,vu z.toNat,vs (nb ρ 3) 1 1,qa,qa]) (fun ρ=>[(3,(nw ρ 3 (cL #[vu z.toNat] 55))),(4,(bD 2 (nb ρ 4) (cL (oc ρ 4) 55)))]) (fun ρ=>[(4,fun w=>kI.A (oc ρ 4) ((([]:List Nat)++(gK (gT ts i).ks j).ps)++([z.toNat])) (aZ ρ 4))]) (fun _=>(fun w=>bM w a c ts∧True)) (fun ρ=>kI.A (oc ρ 4) ((([]:List Nat)++(gK (gT ts i).ks j).ps)++([z.toNat])) (aZ ρ 4)) (fun _ _ hF hf=>⟨hF,hf 4⟩) (cR [[],[]]<|cA (fun _=>(vu z.toNat)) (fun _=>jN (u32Z hb2 hb3))<|cR [[]]<|cX (qM 2 (fun ρ _ _ hG hg=>lT (ty:=67) (g:=nb ρ44 3) (ts:=([]:List Nat)++(gK (gT ts i).ks j).ps) (us:=[z.toNat]) Tryz.underlying67 (dA (sz:=1) (b:=4) (z:=(.int .u32 0)) (by kernel_rfl) rfl) ap44_3 (tJ Tryz.underlying67 (hG.kn (g:=nb ρ 3) (o:=(cL #[vu z.toNat] 55)) 27)) (by have:=jC (aV hb1) (show i<ts.length from (by have:=yF hb2;omega)) (show j<(gT ts i).ks.length from (by have:=yF hb2;omega));simp only [List.length_append,List.length_cons,List.length_nil];omega) (by decide) hg))<|jE [[]]) (fun ρ46 ap46_4=>?_)
    refine aA ?_
    refine lK [(0,(.slice a ts.length c)),(1,(vi z)),(6,(vs q N.length κ)),(7,(vn i)),(8,(vn j)),(9,(pt (nb ρ38 8))),(10,(vs (nb ρ46 4) (nI ((([]:List Nat)++(gK (gT ts i).ks j).ps)++([z.toNat]))).length (aZ ρ46 4)))] [(q,(cL C 64)),(nb ρ38 8,(cL (dO.row (gK (gT ts i).ks j)) 69)),(nb ρ46 4,(cL (oc ρ46 4) 55))] ?_
    exact okE J3 (some ⟨nb ρ46 4,0,none⟩,aZ ρ46 4,(([]:List Nat)++(gK (gT ts i).ks j).ps)++[z.toNat]) (⟨ix_d hb14,(fun x hx=>(List.mem_append.1 hx).elim ((ho.gK i j).ps x) (fun hx=>by rw [List.mem_singleton.1 hx];exact (z32n hb2 hb3)))⟩) (fun w hS=>(hS.frozI (e:=55) (fr:=(0,0)) 2 ap46_4 (by have:=jC (aV hb1) (show i<ts.length from (by have:=yF hb2;omega)) (show j<(gT ts i).ks.length from (by have:=yF hb2;omega));simp only [List.length_append,List.length_cons,List.length_nil];omega) []).weaken (fun w hF=>⟨hF.2.1,hF.1,trivial⟩))
   rw [hb14]
   refine aG (aA ?_)
   refine lK [(0,(.slice a ts.length c)),(1,(vi z)),(6,(vs q N.length κ)),(7,(vn i)),(8,(vn j)),(9,(pt (nb ρ38 8))),(10,(vs (nb ρ44 3) (nI (([]:List Nat)++(gK (gT ts i).ks j).ps)).length (aZ ρ44 3))),(51,vF)] [(q,(cL C 64)),(nb ρ38 8,(cL (dO.row (gK (gT ts i).ks j)) 69)),(nb ρ44 3,(cL (oc ρ44 3) 55))] ?_
   exact okE J3 (some ⟨nb ρ44 3,0,none⟩,aZ ρ44 3,([]:List Nat)++(gK (gT ts i).ks j).ps) (⟨ix_c hb14,(ho.gK i j).ps⟩) (fun w hS=>(hS.frozI (e:=55) (fr:=(0,0)) 2 ap44_3 (by have:=jC (aV hb1) (show i<ts.length from (by have:=yF hb2;omega)) (show j<(gT ts i).ks.length from (by have:=yF hb2;omega));simp only [List.length_append,List.length_nil];omega) []).weaken (fun w hF=>⟨hF.2.1,hF.1,trivial⟩))
  rw [hb12]
  have:=yF hb12
  refine bF (aN (aN (aT (aJ (aA ?_)))))
  refine rS Tryz.f39 3 [0,1,6,7] [] (fun _=>[vn i,vn (i+1),vn (i+1)]) (fun _=>[]) (cR [[]]<|jW (fun ρ=>(((i:Nat):Int)+1)) (fun _=>(i+1)) (fun _=>(aW i 1 (by have:=yF hb2;omega)))<|jE [[]]) (fun _=>?_)
  exact mN (Sum.inr (i+1,q,N,C,κ)) (by show ts.length-(i+1)<ts.length-i;have:=yF hb2;omega) (⟨(by have:=yF hb2;omega),kn_out (by have:=yF hb2;omega) hN,ke_out (by have:=yF hb2;omega) hE,hA,hM⟩) []
 rw [hb11]
 have:=ho.klen hf0 i
 refine bF (aN (aN (aT (aA (jJ Tryz.f39 3 [4,5] [vs q N.length κ,vs q N.length κ,vi 0] (aF (mD [(4,(vs q N.length κ)),(5,(vi 0))] [(q,(cL C 64))] ?_)))))))
 exact mR (v:=(.tuple #[vs q N.length κ,vi 0])) (fun _ hS=>(by rw [(ky_ok (aV hb1) hb2 hb3 (by have:=yF hb2;have:=yF hb11;omega) hE0 hN0).1,(ky_ok (aV hb1) hb2 hb3 (by have:=yF hb2;have:=yF hb11;omega) hE0 hN0).2];exact ⟨some ⟨q,0,none⟩,κ,rfl,hS.bel,Us.new (hS.newb (.head _)) hA (by have:=kn_len (aV hb1) hN0;omega) hM⟩))
theorem xU (a:Option Addr) (c:Nat) (ts:List bW) (z:Int) (n:Nat) (m:Nat) (hB:kZ ts z=0→BlC ts (gV ts z) (xP ts z) n m) (w0:World) (hf0:bM w0 a c ts):Calls Tryz.prog 15 #[.slice a ts.length c,vi z] w0 (fun ε w'=>∃ α κ,ε=.returned (.tuple #[.slice α (wG ts z).length κ,vi (pX ts z)])∧jG w0 w'∧Fs w0 w' α κ (wG ts z)):=by
 refine Calls.of_ok (n:=31) (F:=(fun w=>bM w a c ts∧True)) Tryz.func15 rfl rfl rfl (by simp) (hf0.pers0.and cO) ?_
 refine jJ Tryz.f15 2 [0,1,4,5] [vz,vi 0] ?_
 refine iZ Tryz.f15 8 [0,4,5,6,7] [] (fun ρ=>let qa:Value:=.slice (oa ρ 2) (gV ts z).length (nb ρ 2);[.slice a ts.length c,vi z,.tuple #[qa,vi (kZ ts z)],.tuple #[qa,vi (kZ ts z)],qa,vi (kZ ts z),qa,vi (kZ ts z)]) (fun _=>[]) (fun ρ=>[(2,fun w=>Us w (oa ρ 2) (nb ρ 2) (gV ts z))]) (fun ρ=>(fun w=>bM w a c ts∧Us w (oa ρ 2) (nb ρ 2) (gV ts z)∧True)) (fun _=>True) (fun _ _ hF hf=>⟨⟨hF.1,hf 2,trivial⟩,trivial⟩) (cR [[],[]]<|cX (qV (fun _ _ w hG=>rdkeys_any a c ts z w hG.fn.1))<|jE [[],[],[],[],[]]) (fun ρ2 _=>?_)
 refine aB (jJ Tryz.f15 2 [0,4,5,6,7,18] [vi (kZ ts z),.bool ((kZ ts z) != 0)] ?_)
 refine oC ((kZ ts z) != 0) (fun hb1=>?_) (fun hb1=>?_)
 ·
  rw [hb1]
  refine jJ Tryz.f15 3 [0,4,5,6] [vi (kZ ts z),vz,vi (kZ ts z)] (aF (aC (mD [(0,(.slice a ts.length c)),(4,vz),(5,(vi (kZ ts z))),(6,(.slice (oa ρ2 2) (gV ts z).length (nb ρ2 2)))] [] ?_)))
  exact mR (v:=(.tuple #[vz,vi (kZ ts z)])) (fun _ hS=>⟨none,0,congrArg Ending.returned (by rw [(ex_err hb1).1,(ex_err hb1).2]<;>rfl),hS.bel,dU (ex_err hb1).2.symm Fs.nil⟩)
 rw [hb1]
 refine aG (aA ?_)
 refine iZ Tryz.f15 10 [4,5,8] [] (fun ρ=>let qa:Value:=.slice (oa ρ 2) (xP ts z).length (nb ρ 2);[.slice a ts.length c,.slice (oa ρ2 2) (gV ts z).length (nb ρ2 2),.tuple #[qa,vn n,vn m],.tuple #[qa,vn n,vn m],qa,vn n,vn m,qa,vn n,vn m]) (fun _=>[]) (fun ρ=>[(2,fun w=>Fs w0 w (oa ρ 2) (nb ρ 2) (xP ts z))]) (fun ρ=>(fun w=>bM w a c ts∧Us w (oa ρ2 2) (nb ρ2 2) (gV ts z)∧Fs w0 w (oa ρ 2) (nb ρ 2) (xP ts z)∧True)) (fun _=>True) (fun _ _ hF hf=>⟨⟨hF.1,hF.2.1,hf 2,trivial⟩,trivial⟩) (cR [[],[]]<|cX (qB (fun _ _ w hG=>hB (dD hb1) a (oa ρ2 2) c (nb ρ2 2) w hG.fn.1 hG.fn.2.1))<|jE [[],[],[],[],[],[],[]]) (fun ρ5 _=>?_)
 refine aB (jJ Tryz.f15 3 [4,5,8,29] [.slice (oa ρ5 2) (xP ts z).length (nb ρ5 2),vn (xP ts z).length,.bool (decide (520<(((xP ts z).length:Nat):Int)))] ?_)
 refine oC (decide (520<(((xP ts z).length:Nat):Int))) (fun hb2=>?_) (fun hb2=>?_)
 ·
  rw [hb2]
  refine jJ Tryz.f15 2 [4,5,8] [vz,vi 4] (aF (aC (mD [(4,vz),(5,(vi 4)),(8,(.slice (oa ρ5 2) (xP ts z).length (nb ρ5 2)))] [] ?_)))
  exact mR (v:=(.tuple #[vz,vi 4])) (fun _ hS=>⟨none,0,congrArg Ending.returned (by rw [(wQ hb1 hb2).1,(wQ hb1 hb2).2]<;>rfl),hS.bel,dU (wQ hb1 hb2).2.symm Fs.nil⟩)
 rw [hb2]
 refine aG (aA (jJ Tryz.f15 3 [4,5] (let qa:Value:=.slice (oa ρ5 2) (xP ts z).length (nb ρ5 2);[qa,qa,vi 0]) (aF (mD [(4,(.slice (oa ρ5 2) (xP ts z).length (nb ρ5 2))),(5,(vi 0))] [] ?_))))
 exact mR (v:=(.tuple #[.slice (oa ρ5 2) (xP ts z).length (nb ρ5 2),vi 0])) (fun _ hS=>⟨oa ρ5 2,nb ρ5 2,congrArg Ending.returned (by rw [(ex_ok hb1 hb2).1,(ex_ok hb1 hb2).2]<;>rfl),hS.bel,dU (ex_ok hb1 hb2).2.symm hS.facts.now.2.2.1⟩)
theorem xAC (a:Option Addr) (c:Nat) (ts:List bW) (z:Int) (h2:∀ t∈ts,t.kd=1) (w0:World) (hf0:bM w0 a c ts):Calls Tryz.prog 15 #[.slice a ts.length c,.int .i64 z] w0 (fun ε w'=>∃ α κ,ε=.returned (.tuple #[.slice α (wG ts z).length κ,.int .i64 (pX ts z)])∧jG w0 w'∧Fs w0 w' α κ (wG ts z)):=by
  by_cases h0:kZ ts z=0
  · obtain ⟨n, m, hB⟩ := build_ex h0 h2 hf0.oks (kyN_ok hf0.oks z)
    exact xU a c ts z n m (fun _=>hB) w0 hf0
  · exact xU a c ts z 0 0 (fun h=>absurd h h0) w0 hf0
theorem rexpF_any (a:Option Addr) (c:Nat) (ts:List bW) (a2:Option Addr) (c2:Nat) (l:List bU) (n:Nat) (h2:∀ t∈ts,t.kd=1) (hn:n≤40) (hL:sB l=gwB ts l.length) (hl:l.length≤n) (hE:∀ i,i<n→pX ts ((i:Nat):Int)=0) (w0:World) (hf0:bM w0 a c ts) (hf1:kJ w0) (hf2:fU w0) (hf3:bI w0 a2 c2 l) (T:Nat→Prop) (hT:∀ b,T b→b<w0.heap.size) (hP:dL T (fun w=>bI w a2 c2 l) w0):Calls Tryz.prog 37 #[.slice a ts.length c,.slice a2 l.length c2,vn n] w0 (fun ε w'=>jG w0 w'∧∃ a c s,ε=.returned (.tuple #[.slice a (List.length s) c,.int .i64 0])∧mX w0.heap.size a∧(∀ x∈s,x∈l∨sK w0.heap.size [x])∧dL T (fun w=>bI w a c s∧sB s=gwB ts n) w'):=by
 refine Calls.of_ok (n:=36) (F:=(fun w=>bM w a c ts∧kJ w∧fU w∧bI w a2 c2 l∧True)) Tryz.func37 rfl rfl rfl (by simp) (hf0.pers0.and (hf1.pers0.and (hf2.pers0.and (hf3.pers0.and cO)))) ?_
 have hlm:l.length≤40:=(by omega)
 refine jJ Tryz.f37 2 [0,1,2,6,7] [vz,vi 0] ?_
 refine iZ Tryz.f37 4 [0,1,2,6,7,8] [] (fun ρ=>let qa:=vs (nb ρ 2) (([]:List bU)++l).length (aZ ρ 2);[vs (nb ρ 0) 0 0,.slice a2 l.length c2,qa,qa]) (fun ρ=>[(0,(nw ρ 0 (cL #[] 37))),(2,(bD 0 (nb ρ 2) (cL (oc ρ 2) 37)))]) (fun ρ=>[(2,fun w=>kW.A (oc ρ 2) (([]:List bU)++l) (aZ ρ 2))]) (fun _=>(fun w=>bM w a c ts∧kJ w∧fU w∧bI w a2 c2 l∧True)) (fun ρ=>kW.A (oc ρ 2) (([]:List bU)++l) (aZ ρ 2)) (fun _ _ hF hf=>⟨hF,hf 2⟩) (cR [[],[]]<|cX (qM 0 (fun ρ _ _ hG hg=>wB (K:=kW) (ty:=29) (g:=nb ρ 0) (ts:=([]:List bU)) (us:=l) Tryz.underlying29 (dA (sz:=1) (b:=24) (z:=vz) (by kernel_rfl) rfl) RowK.A.empty (bI.src Tryz.underlying29 hG.fn.2.2.2.1) (by simp only [List.length_nil];omega) (by decide) hg))<|jE [[]]) (fun ρ2 ap2_2=>?_)
 refine aB (jJ Tryz.f37 3 [0,2,6,7,8,9] [.slice a2 l.length c2,vn l.length,vn l.length] (aI ?_))
 refine oLF (σ:=(Nat × Nat × (Array Value) × (List bU) × Nat)) (fun s=>match s with |  ⟨_,_,_,M,_⟩=>(fun w=>bM w a c ts∧kJ w∧fU w∧bI w a2 c2 l∧dN w M∧True)) (fun s=>match s with |  ⟨i,q,_,M,κ2⟩=>[(0,(.slice a ts.length c)),(2,(vn n)),(8,(vs q M.length κ2)),(9,(vn i))]) (fun s=>match s with |  ⟨_,q,C2,_,_⟩=>[(q,(cL C2 37))]) (fun s=>match s with |  ⟨i,_,_,_,_⟩=>n-i)
   (fun s=>match s with |  ⟨i,_,C2,M,κ2⟩=>(i=M.length)∧(sB M=gwB ts M.length)∧(kW.A C2 M κ2)∧(M.length≤n)∧(∀ s∈M,s∈l∨sK w0.heap.size [s])) ((l.length,nb ρ2 2,oc ρ2 2,l,aZ ρ2 2)) (⟨rfl,hL,ap2_2,hl,fun s hs=>Or.inl hs⟩) (fun w hF=>⟨hF.1,hF.2.1,hF.2.2.1,hF.2.2.2.1,hF.2.2.2.1.sub,trivial⟩) [] ?_
 rintro ⟨i,q,C2,M,κ2⟩
 rintro ⟨hi,hM,hA2,hm,hX⟩
 change Ok Tryz.prog _ _ 36 [(0,(.slice a ts.length c)),(2,(vn n)),(8,(vs q M.length κ2)),(9,(vn i))] _ [(q,(cL C2 37))] (fun w=>bM w a c ts∧kJ w∧fU w∧bI w a2 c2 l∧dN w M∧True)
 refine aB (jJ Tryz.f37 3 [0,2,8,9,19] [vn i,vn n,.bool (decide (((i:Nat):Int)<((n:Nat):Int)))] ?_)
 refine oC (decide (((i:Nat):Int)<((n:Nat):Int))) (fun hb1=>?_) (fun hb1=>?_)
 ·
  rw [hb1]
  have:=yT hb1
  refine aG (aA (aB (aI ?_)))
  refine iZ Tryz.f37 8 [0,2,8,9,10,11] [] (fun ρ=>let qa:Value:=.slice (oa ρ 2) (wG ts ((i:Nat):Int)).length (nb ρ 2);let qb:=vi (pX ts ((i:Nat):Int));[.slice a ts.length c,vn i,.tuple #[qa,qb],.tuple #[qa,qb],qa,qb,qa,qb]) (fun _=>[]) (fun ρ=>[(2,fun w=>Fs w0 w (oa ρ 2) (nb ρ 2) (wG ts ((i:Nat):Int)))]) (fun ρ=>(fun w=>bM w a c ts∧kJ w∧fU w∧bI w a2 c2 l∧dN w M∧Fs w0 w (oa ρ 2) (nb ρ 2) (wG ts ((i:Nat):Int))∧True)) (fun _=>True) (fun _ _ hF hf=>⟨⟨hF.1,hF.2.1,hF.2.2.1,hF.2.2.2.1,hF.2.2.2.2.1,hf 2,trivial⟩,trivial⟩) (cR [[],[]]<|cX (qB (fun _ _ w hG=>xAC a c ts ((i:Nat):Int) h2 w hG.fn.1))<|jE [[],[],[],[],[]]) (fun ρ5 _=>?_)
  refine aB ?_
  refine sS Tryz.f37 2 [0,2,8,9,10,11,29] [] (fun _=>[vi (pX ts ((i:Nat):Int)),vF]) (fun _=>[]) (cR [[]]<|jQ (fun ρ=>((pX ts ((i:Nat):Int)) != 0)) false (fun _=>(bne_f (hE i (by omega))))<|cN) (fun _=>?_)
  refine oN ?_
  refine aG (aA ?_)
  refine xAN (p:=sK w0.heap.size [⟨oa ρ5 2,nb ρ5 2,wG ts ((i:Nat):Int)⟩]) (fun w hF=>sK.one hF.2.2.2.2.2.1) (fun hx=>?_)
  refine rSf Tryz.f37 5 [0,2,8,9] [1,0] (fun ρ=>let qa:=vs (nb ρ 3) (M++([bU.mk (oa ρ5 2) (nb ρ5 2) (wG ts ((i:Nat):Int))])).length (aZ ρ 3);[vs q M.length κ2,.slice (oa ρ5 2) (wG ts ((i:Nat):Int)).length (nb ρ5 2),vs (nb ρ 2) 1 1,qa,qa]) (fun ρ=>[(2,(nw ρ 2 (cL #[.slice (oa ρ5 2) (wG ts ((i:Nat):Int)).length (nb ρ5 2)] 37))),(3,(bD 0 (nb ρ 3) (cL (oc ρ 3) 37)))]) (fun ρ=>[(3,fun w=>kW.A (oc ρ 3) (M++([bU.mk (oa ρ5 2) (nb ρ5 2) (wG ts ((i:Nat):Int))])) (aZ ρ 3))]) (fun _=>(fun w=>bM w a c ts∧kJ w∧fU w∧bI w a2 c2 l∧dN w M∧Fs w0 w (oa ρ5 2) (nb ρ5 2) (wG ts ((i:Nat):Int))∧True)) (fun ρ=>kW.A (oc ρ 3) (M++([bU.mk (oa ρ5 2) (nb ρ5 2) (wG ts ((i:Nat):Int))])) (aZ ρ 3)) (fun _ _ hF hf=>⟨hF,hf 3⟩) (cR [[],[],[]]<|cX (qM 0 (fun ρ _ _ hG hg=>wB (K:=kW) (ty:=29) (g:=q) (ts:=M) (us:=[bU.mk (oa ρ5 2) (nb ρ5 2) (wG ts ((i:Nat):Int))]) Tryz.underlying29 (dA (sz:=1) (b:=24) (z:=vz) (by kernel_rfl) rfl) hA2 (xAM Tryz.underlying29 rfl (hG.kn (g:=nb ρ 2) (o:=(cL #[.slice (oa ρ5 2) (wG ts ((i:Nat):Int)).length (nb ρ5 2)] 37)) 17)) (by simp only [List.length_cons,List.length_nil];omega) (by decide) hg))<|jE [[]]) (fun ρ7 ap7_3=>?_)
  refine aJ (aA ?_)
  refine rS Tryz.f37 3 [0,2,8,9] [] (fun _=>[vn i,vn (i+1),vn (i+1)]) (fun _=>[]) (cR [[]]<|jW (fun ρ=>(((i:Nat):Int)+1)) (fun _=>(i+1)) (fun _=>(aW i 1 (by omega)))<|jE [[]]) (fun _=>?_)
  refine mD [(0,(.slice a ts.length c)),(2,(vn n)),(8,(vs (nb ρ7 3) (M++([bU.mk (oa ρ5 2) (nb ρ5 2) (wG ts ((i:Nat):Int))])).length (aZ ρ7 3))),(9,(vn (i+1)))] [(nb ρ7 3,(cL (oc ρ7 3) 37))] ?_
  exact mNF ((i+1,nb ρ7 3,oc ρ7 3,M++([bU.mk (oa ρ5 2) (nb ρ5 2) (wG ts ((i:Nat):Int))]),aZ ρ7 3)) (by show n-(i+1)<n-i;omega) (⟨(by simp only [List.length_append,List.length_cons,List.length_nil];omega),(by unfold sB at hM ⊢;rw [List.map_append,hM,List.length_append,hi];exact (xAS ts M.length).symm),ap7_3,(by simp only [List.length_append,List.length_cons,List.length_nil];omega),(fun s hs=>(List.mem_append.1 hs).elim (hX s) (fun e=>Or.inr (by rw [List.mem_singleton.1 e];exact hx)))⟩) (fun w hS=>hS.weaken (fun w hF=>⟨hF.1,hF.2.1,hF.2.2.1,hF.2.2.2.1,dN.app hF.2.2.2.2.1 (dN.one hF.2.2.2.2.2.1.1),trivial⟩))
 rw [hb1]
 refine bF (aN (aN (aT (aA (jJ Tryz.f37 3 [6,7] [vs q M.length κ2,vs q M.length κ2,vi 0] (aF (mD [(6,(vs q M.length κ2)),(7,(vi 0))] [(q,(cL C2 37))] ?_)))))))
 exact mR (v:=(.tuple #[vs q M.length κ2,vi 0])) (fun _ hS=>⟨hS.bel,_,_,M,rfl,mX.some (hS.newb (.head _)).1,hX,(bI.fin (hS.newb (.head _)).2 hA2 (by have:=yF hb1;omega) hT (hS.newb (.head _)).1 (uT (fun s hs=>(hX s hs).elim (fun hl=>(hP.upd (X:=fun _=>False) (nN.of_below hS.bel) (fun _ h=>h.elim) (fun b hb=>Or.inl hb)).mono (fun _ h=>h.sub s hl)) (fun hN=>((hS.scs (.head _) (L:=[s]) (fun w hF=>dN.subl hF.2.2.2.2.1 (fun x hx=>by rw [List.mem_singleton.1 hx];exact hs)) hN hT).mono (fun _ h=>h s List.mem_cons_self)).sub (fun b hb=>Or.inl hb))))).mono (fun _ h=>⟨h,by rw [hM,show M.length=n by have:=yF hb1;omega]⟩)⟩)
theorem rexpE_any (a:Option Addr) (c:Nat) (ts:List bW) (a2:Option Addr) (c2:Nat) (l:List bU) (n:Nat) (j:Nat) (h2:∀ t∈ts,t.kd=1) (hn:n≤40) (hL:sB l=gwB ts l.length) (hl:l.length≤j) (_hj:j<n) (hE:∀ i,i<j→pX ts ((i:Nat):Int)=0) (hEj:pX ts ((j:Nat):Int)≠0) (w0:World) (hf0:bM w0 a c ts) (hf1:kJ w0) (hf2:fU w0) (hf3:bI w0 a2 c2 l):Calls Tryz.prog 37 #[.slice a ts.length c,.slice a2 l.length c2,vn n] w0 (jR (.tuple #[.slice none 0 0,.int .i64 (pX ts ((j:Nat):Int))]) w0):=by
 refine Calls.of_ok (n:=36) (F:=(fun w=>bM w a c ts∧kJ w∧fU w∧bI w a2 c2 l∧True)) Tryz.func37 rfl rfl rfl (by simp) (hf0.pers0.and (hf1.pers0.and (hf2.pers0.and (hf3.pers0.and cO)))) ?_
 have hlm:l.length≤40:=(by omega)
 refine jJ Tryz.f37 2 [0,1,2,6,7] [vz,vi 0] ?_
 refine iZ Tryz.f37 4 [0,1,2,6,7,8] [] (fun ρ=>let qa:=vs (nb ρ 2) (([]:List bU)++l).length (aZ ρ 2);[vs (nb ρ 0) 0 0,.slice a2 l.length c2,qa,qa]) (fun ρ=>[(0,(nw ρ 0 (cL #[] 37))),(2,(bD 0 (nb ρ 2) (cL (oc ρ 2) 37)))]) (fun ρ=>[(2,fun w=>kW.A (oc ρ 2) (([]:List bU)++l) (aZ ρ 2))]) (fun _=>(fun w=>bM w a c ts∧kJ w∧fU w∧bI w a2 c2 l∧True)) (fun ρ=>kW.A (oc ρ 2) (([]:List bU)++l) (aZ ρ 2)) (fun _ _ hF hf=>⟨hF,hf 2⟩) (cR [[],[]]<|cX (qM 0 (fun ρ _ _ hG hg=>wB (K:=kW) (ty:=29) (g:=nb ρ 0) (ts:=([]:List bU)) (us:=l) Tryz.underlying29 (dA (sz:=1) (b:=24) (z:=vz) (by kernel_rfl) rfl) RowK.A.empty (bI.src Tryz.underlying29 hG.fn.2.2.2.1) (by simp only [List.length_nil];omega) (by decide) hg))<|jE [[]]) (fun ρ2 ap2_2=>?_)
 refine aB (jJ Tryz.f37 3 [0,2,6,7,8,9] [.slice a2 l.length c2,vn l.length,vn l.length] (aI ?_))
 refine oLF (σ:=(Nat × Nat × (Array Value) × (List bU) × Nat)) (fun s=>match s with |  ⟨_,_,_,M,_⟩=>(fun w=>bM w a c ts∧kJ w∧fU w∧bI w a2 c2 l∧dN w M∧True)) (fun s=>match s with |  ⟨i,q,_,M,κ2⟩=>[(0,(.slice a ts.length c)),(2,(vn n)),(8,(vs q M.length κ2)),(9,(vn i))]) (fun s=>match s with |  ⟨_,q,C2,_,_⟩=>[(q,(cL C2 37))]) (fun s=>match s with |  ⟨i,_,_,_,_⟩=>n-i)
   (fun s=>match s with |  ⟨i,_,C2,M,κ2⟩=>(i=M.length)∧(sB M=gwB ts M.length)∧(kW.A C2 M κ2)∧(M.length≤j)∧(∀ s∈M,s∈l∨sK w0.heap.size [s])) ((l.length,nb ρ2 2,oc ρ2 2,l,aZ ρ2 2)) (⟨rfl,hL,ap2_2,hl,fun s hs=>Or.inl hs⟩) (fun w hF=>⟨hF.1,hF.2.1,hF.2.2.1,hF.2.2.2.1,hF.2.2.2.1.sub,trivial⟩) [] ?_
 rintro ⟨i,q,C2,M,κ2⟩
 rintro ⟨hi,hM,hA2,hm,hX⟩
 change Ok Tryz.prog _ _ 36 [(0,(.slice a ts.length c)),(2,(vn n)),(8,(vs q M.length κ2)),(9,(vn i))] _ [(q,(cL C2 37))] (fun w=>bM w a c ts∧kJ w∧fU w∧bI w a2 c2 l∧dN w M∧True)
 refine aB ?_
 refine sS Tryz.f37 3 [0,2,8,9,19] [] (fun _=>[vn i,vn n,vT]) (fun _=>[]) (cR [[],[]]<|jQ (fun ρ=>(decide (((i:Nat):Int)<((n:Nat):Int)))) true (fun _=>(decide_eq_true (by omega)))<|cN) (fun _=>?_)
 refine oY ?_
 refine aG (aA (aB (aI ?_)))
 refine iZ Tryz.f37 8 [0,2,8,9,10,11] [] (fun ρ=>let qa:Value:=.slice (oa ρ 2) (wG ts ((i:Nat):Int)).length (nb ρ 2);let qb:=vi (pX ts ((i:Nat):Int));[.slice a ts.length c,vn i,.tuple #[qa,qb],.tuple #[qa,qb],qa,qb,qa,qb]) (fun _=>[]) (fun ρ=>[(2,fun w=>Fs w0 w (oa ρ 2) (nb ρ 2) (wG ts ((i:Nat):Int)))]) (fun ρ=>(fun w=>bM w a c ts∧kJ w∧fU w∧bI w a2 c2 l∧dN w M∧Fs w0 w (oa ρ 2) (nb ρ 2) (wG ts ((i:Nat):Int))∧True)) (fun _=>True) (fun _ _ hF hf=>⟨⟨hF.1,hF.2.1,hF.2.2.1,hF.2.2.2.1,hF.2.2.2.2.1,hf 2,trivial⟩,trivial⟩) (cR [[],[]]<|cX (qB (fun _ _ w hG=>xAC a c ts ((i:Nat):Int) h2 w hG.fn.1))<|jE [[],[],[],[],[]]) (fun ρ5 _=>?_)
 refine aB (jJ Tryz.f37 2 [0,2,8,9,10,11,29] [vi (pX ts ((i:Nat):Int)),.bool ((pX ts ((i:Nat):Int)) != 0)] ?_)
 refine oC ((pX ts ((i:Nat):Int)) != 0) (fun hb1=>?_) (fun hb1=>?_)
 ·
  rw [hb1]
  refine jJ Tryz.f37 3 [0,2,6,7,8,9,10] (let qa:=vi (pX ts ((i:Nat):Int));[qa,vz,qa]) (aF (aC (aP (aC (aC (aP (aC (mD [(0,(.slice a ts.length c)),(2,(vn n)),(6,vz),(7,(vi (pX ts ((i:Nat):Int)))),(8,(vs q M.length κ2)),(9,(vn i)),(10,(.slice (oa ρ5 2) (wG ts ((i:Nat):Int)).length (nb ρ5 2)))] [(q,(cL C2 37))] ?_))))))))
  exact mR (v:=(.tuple #[vz,vi (pX ts ((i:Nat):Int))])) (fun _ hS=>⟨(by rw [show i=j by have q:=bne_iff_ne.1 hb1;have r: ¬ i<j:=fun h=>q (hE _ h);omega]),hS.bel⟩)
 rw [hb1]
 refine aG (aA ?_)
 refine xAN (p:=sK w0.heap.size [⟨oa ρ5 2,nb ρ5 2,wG ts ((i:Nat):Int)⟩]) (fun w hF=>sK.one hF.2.2.2.2.2.1) (fun hx=>?_)
 refine rSf Tryz.f37 5 [0,2,8,9] [1,0] (fun ρ=>let qa:=vs (nb ρ 3) (M++([bU.mk (oa ρ5 2) (nb ρ5 2) (wG ts ((i:Nat):Int))])).length (aZ ρ 3);[vs q M.length κ2,.slice (oa ρ5 2) (wG ts ((i:Nat):Int)).length (nb ρ5 2),vs (nb ρ 2) 1 1,qa,qa]) (fun ρ=>[(2,(nw ρ 2 (cL #[.slice (oa ρ5 2) (wG ts ((i:Nat):Int)).length (nb ρ5 2)] 37))),(3,(bD 0 (nb ρ 3) (cL (oc ρ 3) 37)))]) (fun ρ=>[(3,fun w=>kW.A (oc ρ 3) (M++([bU.mk (oa ρ5 2) (nb ρ5 2) (wG ts ((i:Nat):Int))])) (aZ ρ 3))]) (fun _=>(fun w=>bM w a c ts∧kJ w∧fU w∧bI w a2 c2 l∧dN w M∧Fs w0 w (oa ρ5 2) (nb ρ5 2) (wG ts ((i:Nat):Int))∧True)) (fun ρ=>kW.A (oc ρ 3) (M++([bU.mk (oa ρ5 2) (nb ρ5 2) (wG ts ((i:Nat):Int))])) (aZ ρ 3)) (fun _ _ hF hf=>⟨hF,hf 3⟩) (cR [[],[],[]]<|cX (qM 0 (fun ρ _ _ hG hg=>wB (K:=kW) (ty:=29) (g:=q) (ts:=M) (us:=[bU.mk (oa ρ5 2) (nb ρ5 2) (wG ts ((i:Nat):Int))]) Tryz.underlying29 (dA (sz:=1) (b:=24) (z:=vz) (by kernel_rfl) rfl) hA2 (xAM Tryz.underlying29 rfl (hG.kn (g:=nb ρ 2) (o:=(cL #[.slice (oa ρ5 2) (wG ts ((i:Nat):Int)).length (nb ρ5 2)] 37)) 17)) (by simp only [List.length_cons,List.length_nil];omega) (by decide) hg))<|jE [[]]) (fun ρ8 ap8_3=>?_)
 refine aJ (aA ?_)
 refine rS Tryz.f37 3 [0,2,8,9] [] (fun _=>[vn i,vn (i+1),vn (i+1)]) (fun _=>[]) (cR [[]]<|jW (fun ρ=>(((i:Nat):Int)+1)) (fun _=>(i+1)) (fun _=>(aW i 1 (by omega)))<|jE [[]]) (fun _=>?_)
 refine mD [(0,(.slice a ts.length c)),(2,(vn n)),(8,(vs (nb ρ8 3) (M++([bU.mk (oa ρ5 2) (nb ρ5 2) (wG ts ((i:Nat):Int))])).length (aZ ρ8 3))),(9,(vn (i+1)))] [(nb ρ8 3,(cL (oc ρ8 3) 37))] ?_
 exact mNF ((i+1,nb ρ8 3,oc ρ8 3,M++([bU.mk (oa ρ5 2) (nb ρ5 2) (wG ts ((i:Nat):Int))]),aZ ρ8 3)) (by show n-(i+1)<n-i;omega) (⟨(by simp only [List.length_append,List.length_cons,List.length_nil];omega),(by unfold sB at hM ⊢;rw [List.map_append,hM,List.length_append,hi];exact (xAS ts M.length).symm),ap8_3,(by have q:i≠j:=fun e=>hEj (by rw [← e];exact (by simpa using hb1));simp only [List.length_append,List.length_cons,List.length_nil];omega),(fun s hs=>(List.mem_append.1 hs).elim (hX s) (fun e=>Or.inr (by rw [List.mem_singleton.1 e];exact hx)))⟩) (fun w hS=>hS.weaken (fun w hF=>⟨hF.1,hF.2.1,hF.2.2.1,hF.2.2.2.1,dN.app hF.2.2.2.2.1 (dN.one hF.2.2.2.2.2.1.1),trivial⟩))
theorem ixB_hi:∀ {S:List UInt8} {L:List (List UInt8)} {i:Nat},tH S L i<(i:Int)+L.length∨tH S L i= -1
  | _,[],_=>Or.inr rfl
  | S, x :: r, i => by
    unfold tH
    split
    · exact Or.inl (by simp only [List.length_cons];omega)
    · rcases @ixB_hi S r (i + 1) with h | h
      · exact Or.inl (by simp only [List.length_cons];omega)
      · exact Or.inr h
theorem ixB_app:∀ {S:List UInt8} {A B:List (List UInt8)} {i:Nat},tH S A i≠ -1→tH S (A++B) i=tH S A i
  | _,[],_,_,h=>absurd rfl h
  | S, x :: r, B, i, h => by
    rw [List.cons_append]
    unfold tH at h ⊢
    split
    · rfl
    · rename_i hx
      rw [if_neg hx] at h
      exact ixB_app h
theorem filter_lt {α : Type} {p q : α → Bool} : ∀ {l : List α}, (∀ x ∈ l, p x = true → q x = true) → (∃ x ∈ l, q x = true ∧ p x = false) → (l.filter p).length + 1 ≤ (l.filter q).length
  | [],_,⟨_,h,_⟩=>absurd h (by simp)
  | y :: r, hm, ⟨x, hx, hq, hp⟩ => by
    have le:∀ {l:List α},(∀ x∈l,p x=true→q x=true)→(l.filter p).length≤(l.filter q).length:=by
      intro l
      induction l with
      | nil=>intro _;simp
      | cons z t ih =>
        intro h
        have:=ih (fun x hx=>h x (List.mem_cons_of_mem _ hx))
        rw [List.filter_cons,List.filter_cons]
        cases hz:p z
        · cases q z<;>simp<;>omega
        · rw [h z List.mem_cons_self hz];simpa using this
    have hm':∀ x∈r,p x=true→q x=true:=fun x hx=>hm x (List.mem_cons_of_mem _ hx)
    rw [List.filter_cons,List.filter_cons]
    rcases List.mem_cons.1 hx with rfl | hr
    · rw [hq, hp]
      have:=le hm'
      simpa using this
    · have ih := filter_lt hm' ⟨x, hr, hq, hp⟩
      cases hy:p y
      · cases q y<;>simp<;>omega
      · rw [hm y List.mem_cons_self hy];simpa using ih
section
variable (X : Nat → List UInt8) (E : Nat → Int) (g : Nat) (l : List (List UInt8))
def gX (n:Nat):List (List UInt8):=(List.range n).map X
def fX (u:Nat) (s:List UInt8):Int:=tH s (gX X (u+g)) 0
def y8 (n:Nat):Prop:=∀ i,i<n→E i=0
def Cl (u:Nat):Prop:=∀ s∈l,fX X g u s<(u:Int)
def NtOk (u:Nat):Prop:=Cl X g l u∧y8 E (u+g)∧∀ U,Cl X g l U→u≤U
def NtEr (e:Int):Prop:=∃ j,y8 E j∧E j=e∧e≠0∧∀ U,Cl X g l U→¬ y8 E (U+g)
def usX (u:Nat):Nat:=(l.filter (fun s=>decide (0≤fX X g u s∧fX X g u s<(u:Int)))).length
structure NtS (u:Nat):Prop where
  ok:y8 E (u+g)
  lo:∀ U,Cl X g l U→u≤U
  bd:u≤g*usX X g l u
variable {X E g l}
theorem gX_ext {n m:Nat} (h:n≤m):∃ B,gX X m=gX X n++B:=by
  obtain ⟨d,rfl⟩:=Nat.exists_eq_add_of_le h
  induction d with
  | zero=>exact ⟨[],by simp⟩
  | succ d ih =>
    obtain ⟨B,hB⟩:=ih (by omega)
    refine ⟨B++[X (n+d)],?_⟩
    rw [← List.append_assoc,← hB]
    unfold gX
    rw [← Nat.add_assoc,List.range_succ,List.map_append];rfl
theorem xBG {u v:Nat} {s:List UInt8} (h:u≤v) (hs:0≤fX X g u s):fX X g v s=fX X g u s:=by
  obtain ⟨B,hB⟩:=gX_ext (X:=X) (show u+g≤v+g by omega)
  unfold fX at hs ⊢
  rw [hB]
  exact ixB_app (by omega)
theorem fX_lt {u:Nat} {s:List UInt8} (h:0≤fX X g u s):fX X g u s<(u+g:Nat):=by
  unfold fX at h ⊢
  rcases @ixB_hi s (gX X (u+g)) 0 with k | k
  · unfold gX at k ⊢
    rw [List.length_map,List.length_range] at k
    omega
  · omega
theorem usX_le (u:Nat):usX X g l u≤l.length:=List.length_filter_le _ _
theorem NtOk.uniq {u v:Nat} (h:NtOk X E g l u) (k:NtOk X E g l v):u=v:=Nat.le_antisymm (h.2.2 v k.1) (k.2.2 u h.1)
theorem NtOk.er {u:Nat} {e:Int} (h:NtOk X E g l u) (k:NtEr X E g l e):False:=by
  obtain ⟨_,_,_,_,h5⟩:=k
  exact h5 u h.1 h.2.1
theorem NtEr.uniq {e f:Int} (h:NtEr X E g l e) (k:NtEr X E g l f):e=f:=by
  obtain ⟨i,h1,h2,h3,_⟩:=h
  obtain ⟨j,k1,k2,k3,_⟩:=k
  rcases Nat.lt_trichotomy i j with q | q | q
  · exact absurd (h2.symm.trans (k1 i q)) h3
  · rw [← h2,← k2,q]
  · exact absurd (k2.symm.trans (h1 j q)) k3
theorem NtS.start (h:y8 E g):NtS X E g l 0:=⟨by rwa [Nat.zero_add],fun _ _=>Nat.zero_le _,Nat.zero_le _⟩
theorem NtS.ask {u k:Nat} {s:List UInt8} (h:NtS X E g l u) (hs:s∈l) (hf:fX X g u s=(k:Int)):∀ U,Cl X g l U→k+1≤U:=fun U hU=>by
  have h1:=h.lo U hU
  have h2:=hU s hs
  rw [xBG h1 (by omega),hf] at h2
  omega
theorem NtS.next {u k:Nat} {s:List UInt8} (h:NtS X E g l u) (hs:s∈l) (hf:fX X g u s=(k:Int)) (hu:u≤k) (ok:y8 E (k+1+g)):NtS X E g l (k+1):=by
  refine ⟨ok,h.ask hs hf,?_⟩
  have h1:=fX_lt (X:=X) (g:=g) (u:=u) (s:=s) (by omega)
  have h2:usX X g l u+1≤usX X g l (k+1):=filter_lt (fun x hx hp=>by
    have hp:=of_decide_eq_true hp
    rw [xBG (show u≤k+1 by omega) hp.1]
    exact decide_eq_true ⟨hp.1,by omega⟩) ⟨s,hs,by
      rw [xBG (show u≤k+1 by omega) (by omega)]
      exact decide_eq_true ⟨by omega,by omega⟩,decide_eq_false (by omega)⟩
  have h3:=h.bd
  have h4:=Nat.mul_le_mul_left g h2
  rw [Nat.mul_add,Nat.mul_one] at h4
  omega
theorem NtS.more {u k:Nat} {s:List UInt8} (hs:s∈l) (hf:fX X g u s=(k:Int)) (hu:u≤k):l.length-usX X g l (k+1)<l.length-usX X g l u:=by
  have h2:usX X g l u+1≤usX X g l (k+1):=filter_lt (fun x hx hp=>by
    have hp:=of_decide_eq_true hp
    rw [xBG (show u≤k+1 by omega) hp.1]
    exact decide_eq_true ⟨hp.1,by omega⟩) ⟨s,hs,by
      rw [xBG (show u≤k+1 by omega) (by omega)]
      exact decide_eq_true ⟨by omega,by omega⟩,decide_eq_false (by omega)⟩
  have:=usX_le (X:=X) (g:=g) (l:=l) (k+1)
  omega
theorem NtS.done {u:Nat} (h:NtS X E g l u) (hc:Cl X g l u):NtOk X E g l u:=⟨hc,h.ok,h.lo⟩
theorem NtS.fail {u k j:Nat} {s:List UInt8} (h:NtS X E g l u) (hs:s∈l) (hf:fX X g u s=(k:Int)) (hj:j<k+1+g) (ok:y8 E j) (he:E j≠0):NtEr X E g l (E j) :=
  ⟨j,ok,rfl,he,fun U hU hk=>he (hk j (by have:=h.ask hs hf U hU;omega))⟩
theorem NtS.le {u:Nat} (h:NtS X E g l u):u≤g*l.length:=Nat.le_trans h.bd (Nat.mul_le_mul_left g (usX_le u))
end
def qL (E:Nat→Int):Nat→Int
  | 0=>0
  | n+1=>if qL E n=0 then E n else qL E n
theorem xAH {E:Nat→Int}:∀ {n:Nat},qL E n=0↔y8 E n
  | 0=>⟨fun _ i hi=>absurd hi (Nat.not_lt_zero i),fun _=>rfl⟩
  | n + 1 => by
    have ih:= @xAH E n
    unfold qL
    split
    · rename_i h
      refine ⟨fun h2 i hi=>?_,fun h2=>h2 n (Nat.lt_succ_self n)⟩
      rcases Nat.lt_succ_iff_lt_or_eq.1 hi with h3 | rfl
      · exact ih.1 h i h3
      · exact h2
    · rename_i h
      exact ⟨fun h2=>absurd h2 h,fun h2=>absurd (ih.2 (fun i hi=>h2 i (Nat.lt_succ_of_lt hi))) h⟩
theorem frE_er {E:Nat→Int}:∀ {n:Nat},qL E n≠0→∃ j,j<n∧y8 E j∧E j=qL E n∧E j≠0
  | 0,h=>absurd rfl h
  | n + 1, h => by
    by_cases h1:qL E n=0
    · have e : qL E (n + 1) = E n := if_pos h1
      exact ⟨n,Nat.lt_succ_self n,xAH.1 h1,e.symm,by rw [← e];exact h⟩
    · have e : qL E (n + 1) = qL E n := if_neg h1
      obtain ⟨j,a,b,c,d⟩:=frE_er h1
      exact ⟨j,Nat.lt_succ_of_lt a,b,by rw [e];exact c,d⟩
theorem frE_le {E:Nat→Int} {m j:Nat} (hm:y8 E m) (hj:E j≠0):m≤j :=
  Nat.le_of_not_lt (fun h=>hj (hm j h))
theorem y8.le {E:Nat→Int} {m n:Nat} (h:y8 E n) (hm:m≤n):y8 E m:=fun i hi=>h i (Nat.lt_of_lt_of_le hi hm)
def mxI (x y:Int):Int:=if y>x then y else x
theorem mxI_l (x y:Int):x≤mxI x y:=by unfold mxI;split<;>omega
theorem mxI_r (x y:Int):y≤mxI x y:=by unfold mxI;split<;>omega
theorem mxI_or (x y:Int):mxI x y=x∨mxI x y=y:=by unfold mxI;split<;>simp
def mxL (L:List (List UInt8)):List (List UInt8)→Int
  | []=> -1
  | s::r=>mxI (mxL L r) (tH s L 0)
theorem mxL_ge {L:List (List UInt8)}:∀ {l:List (List UInt8)} {s:List UInt8},s∈l→tH s L 0≤mxL L l
  | x :: r, s, h => by
    unfold mxL
    rcases List.mem_cons.1 h with rfl | hr
    · exact mxI_r _ _
    · exact Int.le_trans (mxL_ge hr) (mxI_l _ _)
theorem mxL_mem {L:List (List UInt8)}:∀ {l:List (List UInt8)},mxL L l= -1∨∃ s∈l,tH s L 0=mxL L l
  | []=>Or.inl rfl
  | x :: r => by
    unfold mxL
    rcases mxI_or (mxL L r) (tH x L 0) with h | h
    · rw [h]
      exact (@mxL_mem L r).imp id (fun ⟨s,hs,e⟩=>⟨s,List.mem_cons_of_mem _ hs,e⟩)
    · exact Or.inr ⟨x,List.mem_cons_self,h.symm⟩
theorem mxL_app {L:List (List UInt8)} {s:List UInt8}:∀ {l:List (List UInt8)},mxL L (l++[s])=mxI (mxL L l) (tH s L 0)
  | []=>rfl
  | x :: r => by
    show mxI (mxL L (r++[s])) (tH x L 0)=mxI (mxI (mxL L r) (tH x L 0)) (tH s L 0)
    rw [mxL_app]
    unfold mxI
    repeat' split
    all_goals omega
theorem mxL_next {L:List (List UInt8)} {m:List bU} {i:Nat} (h:i<m.length):mxL L (sB (m.take (i+1)))=mxI (mxL L (sB (m.take i))) (tH (gS m i).b L 0):=by
  rw [List.take_add_one,List.getElem?_eq_getElem h]
  unfold sB
  rw [List.map_append]
  show mxL L (_++[(m[i]).b])=_
  rw [mxL_app]
  have:gS m i=m[i]:=by unfold gS;rw [List.getD_eq_getElem?_getD,List.getElem?_eq_getElem h];rfl
  rw [this]
section
variable (X : Nat → List UInt8) (E : Nat → Int) (g : Nat) (l : List (List UInt8))
def ntF : Nat → Nat → Nat × Int
  | 0,u=>(u,0)
  | n + 1, u =>
    match l.find? (fun s=>decide ((u:Int)≤fX X g u s)) with
    | none=>(u,0)
    | some s=>if qL E ((fX X g u s).toNat+1+g)=0 then ntF n ((fX X g u s).toNat+1) else (u,qL E ((fX X g u s).toNat+1+g))
def qW:Nat:=(ntF X E g l (l.length+1) 0).1
def ntE:Int:=(ntF X E g l (l.length+1) 0).2
variable {X E g l}
theorem ntF_spec : ∀ {n u : Nat}, NtS X E g l u → l.length - usX X g l u < n → ((ntF X E g l n u).2 = 0 ∧ NtOk X E g l (ntF X E g l n u).1) ∨ ((ntF X E g l n u).2 ≠ 0 ∧ NtEr X E g l (ntF X E g l n u).2)
  | 0,u,_,hn=>absurd hn (Nat.not_lt_zero _)
  | n + 1, u, h, hn => by
    unfold ntF
    split
    · rename_i hf
      refine Or.inl ⟨rfl,h.done (fun s hs=>?_)⟩
      have:=List.find?_eq_none.1 hf s hs
      simp only [decide_eq_true_eq] at this
      omega
    · rename_i s hf
      have hs:=List.mem_of_find?_eq_some hf
      have hu:(u:Int)≤fX X g u s:=by have:=List.find?_some hf;simpa using this
      have hk:fX X g u s=(((fX X g u s).toNat:Nat):Int):=by omega
      split
      · rename_i h0
        have hu':u≤(fX X g u s).toNat:=by omega
        exact ntF_spec (h.next hs hk hu' (xAH.1 h0)) (by have:=NtS.more (X:=X) (g:=g) (l:=l) hs hk hu';omega)
      · rename_i h0
        obtain ⟨j,h1,h2,h3,h4⟩:=frE_er h0
        exact Or.inr ⟨h0,by rw [← h3];exact h.fail hs hk h1 h2 h4⟩
theorem nt_spec (h:y8 E g):(ntE X E g l=0∧NtOk X E g l (qW X E g l))∨(ntE X E g l≠0∧NtEr X E g l (ntE X E g l)) :=
  ntF_spec (NtS.start h) (by omega)
theorem NtOk.is {u:Nat} (h:y8 E g) (k:NtOk X E g l u):ntE X E g l=0∧u=qW X E g l :=
  (nt_spec h).elim (fun ⟨a,b⟩=>⟨a,k.uniq b⟩) (fun ⟨_,b⟩=>(k.er b).elim)
theorem NtEr.is {e:Int} (h:y8 E g) (k:NtEr X E g l e):ntE X E g l≠0∧e=ntE X E g l :=
  (nt_spec h).elim (fun ⟨_,b⟩=>(b.er k).elim) (fun ⟨a,b⟩=>⟨a,k.uniq b⟩)
theorem NtS.mxDone {u:Nat} {z:Int} (h:NtS X E g l u) (hz:z=mxL (gX X (u+g)) l) (hu:z<(u:Int)):NtOk X E g l u :=
  h.done (fun _ hs=>Int.lt_of_le_of_lt (mxL_ge hs) (hz ▸ hu))
theorem NtS.mxGo {u:Nat} {z:Int} (hz:z=mxL (gX X (u+g)) l) (hu:(u:Int)≤z):∃ s∈l,fX X g u s=((z.toNat:Nat):Int)∧u≤z.toNat:=by
  rcases @mxL_mem (gX X (u+g)) l with h | ⟨s,hs,h⟩
  · omega
  · exact ⟨s,hs,by unfold fX;omega,by omega⟩
theorem NtS.mxNext {u:Nat} {z:Int} (h:NtS X E g l u) (hz:z=mxL (gX X (u+g)) l) (hu:(u:Int)≤z) (h0:qL E (z.toNat+1+g)=0):NtS X E g l (z.toNat+1):=by
  obtain ⟨s,hs,h1,h2⟩:=NtS.mxGo hz hu
  exact h.next hs h1 h2 (xAH.1 h0)
theorem NtS.mxMore {u:Nat} {z:Int} (hz:z=mxL (gX X (u+g)) l) (hu:(u:Int)≤z):l.length-usX X g l (z.toNat+1)<l.length-usX X g l u:=by
  obtain ⟨s,hs,h1,h2⟩:=NtS.mxGo hz hu
  exact NtS.more hs h1 h2
theorem NtS.mxFail {u:Nat} {z:Int} (h:NtS X E g l u) (hz:z=mxL (gX X (u+g)) l) (hu:(u:Int)≤z) (h0:qL E (z.toNat+1+g)≠0):NtEr X E g l (qL E (z.toNat+1+g)):=by
  obtain ⟨s,hs,h1,h2⟩:=NtS.mxGo hz hu
  obtain ⟨j,j1,j2,j3,j4⟩:=frE_er h0
  rw [← j3]
  exact h.fail hs h1 j1 j2 j4
theorem NtS.le10 {u:Nat} (h:NtS X E g l u) (hg:g≤2) (hl:l.length≤5):u≤10:=by
  have h1:=h.le
  have h2:=Nat.mul_le_mul hg hl
  omega
end
theorem mxL_lt {L l:List (List UInt8)}:mxL L l<(L.length:Int):=by
  rcases @mxL_mem L l with h | ⟨s,_,h⟩
  · omega
  · rcases @ixB_hi s L 0 with k | k<;>omega
theorem gX_len (X:Nat→List UInt8) (n:Nat):(gX X n).length=n:=by unfold gX;rw [List.length_map,List.length_range]
theorem sB_gX {X:Nat→List UInt8} {n:Nat} {M:List bU} (h:sB M=gX X n):M.length=n:=by
  have e:=congrArg List.length h
  rwa [xAQ,gX_len] at e
def oX (k:Ky) (i:Nat):List UInt8:=wG [oT k true none 0] ((i:Nat):Int)
def oE (k:Ky) (i:Nat):Int:=pX [oT k true none 0] ((i:Nat):Int)
section
variable {k : Ky} {wd : Bool} {ka kb : Option Addr} {kc kd : Nat} {z : Int}
theorem oT_kyE:kZ [oT k wd ka kc] z=kZ [oT k wd kb kd] z:=by
  have h1:xW [oT k wd ka kc]=xW [oT k wd kb kd]:=rfl
  have h2:aK [oT k wd ka kc]=aK [oT k wd kb kd]:=rfl
  unfold kZ
  rw [h1,h2]
theorem oT_exL:xP [oT k wd ka kc] z=xP [oT k wd kb kd] z:=by
  have h2:aK [oT k wd ka kc]=aK [oT k wd kb kd]:=rfl
  have h3:gV [oT k wd ka kc] z=gV [oT k wd kb kd] z:=by
    unfold gV
    rw [oT_kyE (kb:=kb) (kd:=kd),h2]
  unfold xP
  rw [h3]
  exact nxB_sim rfl
theorem oT_exE:pX [oT k wd ka kc] z=pX [oT k wd kb kd] z:=by
  unfold pX
  rw [oT_kyE (kb:=kb) (kd:=kd),oT_exL (kb:=kb) (kd:=kd)]
theorem oT_exB:wG [oT k wd ka kc] z=wG [oT k wd kb kd] z:=by
  unfold wG
  rw [oT_exE (kb:=kb) (kd:=kd),oT_exL (kb:=kb) (kd:=kd)]
theorem oT_gw (n:Nat):gwB [oT k true ka kc] n=gX (oX k) n:=by
  unfold gwB gX
  exact List.map_congr_left (fun i _=>oT_exB)
theorem oT_oE (i:Nat):pX [oT k true ka kc] ((i:Nat):Int)=oE k i:=oT_exE
end
theorem wgrow1_any (a:Option Addr) (c:Nat) (k:Ky) (ka:Option Addr) (kc:Nat) (g κ:Nat) (C:Array Value) (l:List bU) (n N:Nat) (hn:n≤40) (hA:kW.A C l κ) (hL:sB l=gX (oX k) l.length) (hl:l.length≤n) (h0:qL (oE k) n=0) (hN:sK N l) (w0:World) (hNw:N≤w0.heap.size) (hb:w0.heap[g]? = some (.cells C 37 (0,0))) (hP:dL (fun b=>b∈([(g,.cells C 37 (0,0))]:List (Nat × Obj)).map (·.1)) (fun w=>bM w a c ([oT k true ka kc])∧kJ w∧fU w∧dN w l∧True) w0) (T:Nat→Prop) (hTg:T g) (hT:∀ b,T b→b<w0.heap.size) (hY:dL T (fun w=>dN w l) w0):Calls Tryz.prog 33 #[.slice (some ⟨g,0,none⟩) l.length κ,.slice a ([oT k true ka kc]).length c,.int .i64 ((n:Nat):Int)] w0 (fun ε w'=>∃ r:bH,ε=.returned (.tuple #[.slice (some ⟨r.n.headD 0,0,none⟩) r.s.length (r.n.tail.headD 0),.int .i64 0])∧MvC w0 w' g (r.n.headD 0) (.cells (uG r) 37 (0,0))∧dL (fun b=>T b∨b=r.n.headD 0) (fun w=>dN w r.s∧kW.A (uG r) r.s (r.n.tail.headD 0)∧sB r.s=gX (oX k) n∧sK N r.s) w'):=by
  refine (wgrowF_any a c [oT k true ka kc] g κ C l n oT_kd hn hA (hL.trans (oT_gw _).symm) hl (fun i hi=>(oT_oE i).trans (xAH.1 h0 i hi)) w0 (fun x hx=>by rw [List.mem_singleton.1 hx];exact hb) hP T hTg hT hY).mono (fun ε w' h=>?_)
  obtain ⟨r,h1,h2,h3,h4,h5,h6⟩:=h
  exact ⟨r,h1,h2,h6.mono (fun _ h=>⟨h,h3,h4.trans (oT_gw n),fun s hs=>(h5 s hs).elim (hN s) (fun q=>(q s List.mem_cons_self).sub (fun _ hb=>Nat.lt_of_lt_of_le hb hNw))⟩)⟩
theorem wgrow1E_any (a:Option Addr) (c:Nat) (k:Ky) (ka:Option Addr) (kc:Nat) (g κ:Nat) (C:Array Value) (l:List bU) (n N:Nat) (hn:n≤40) (hA:kW.A C l κ) (hL:sB l=gX (oX k) l.length) (ho:y8 (oE k) l.length) (h0:qL (oE k) n≠0) (w0:World) (_hNw:N≤w0.heap.size) (hb:w0.heap[g]? = some (.cells C 37 (0,0))) (hP:dL (fun b=>b∈([(g,.cells C 37 (0,0))]:List (Nat × Obj)).map (·.1)) (fun w=>bM w a c ([oT k true ka kc])∧kJ w∧fU w∧dN w l∧True) w0) (T:Nat→Prop) (hTg:T g) (hT:∀ b,T b→b<w0.heap.size) (hY:dL T (fun w=>dN w l) w0):Calls Tryz.prog 33 #[.slice (some ⟨g,0,none⟩) l.length κ,.slice a ([oT k true ka kc]).length c,.int .i64 ((n:Nat):Int)] w0 (fun ε w'=>∃ r:bH,ε=.returned (.tuple #[.slice none 0 0,.int .i64 (qL (oE k) n)])∧MvC w0 w' g (r.n.headD 0) (.cells (uG r) 37 (0,0))∧dL (fun b=>T b∨b=r.n.headD 0) (fun w=>dN w r.s) w'):=by
  obtain ⟨j,j1,j2,j3,j4⟩:=frE_er h0
  refine (wgrowE_any a c [oT k true ka kc] g κ C l n j oT_kd hn hA (hL.trans (oT_gw _).symm) (frE_le ho j4) j1 (fun i hi=>(oT_oE i).trans (j2 i hi)) (by rw [oT_oE];exact j4) w0 (fun x hx=>by rw [List.mem_singleton.1 hx];exact hb) hP T hTg hT hY).mono (fun ε w' h=>?_)
  obtain ⟨r,h1,h2,h3⟩:=h
  rw [oT_oE,j3] at h1
  exact ⟨r,h1,h2,h3⟩
theorem rexp1_any (a:Option Addr) (c:Nat) (k:Ky) (ka:Option Addr) (kc:Nat) (a2:Option Addr) (c2:Nat) (l:List bU) (n:Nat) (hn:n≤40) (hL:sB l=gX (oX k) l.length) (hl:l.length≤n) (h0:qL (oE k) n=0) (w0:World) (hf0:bM w0 a c ([oT k true ka kc])) (hf1:kJ w0) (hf2:fU w0) (hf3:bI w0 a2 c2 l) (T:Nat→Prop) (hT:∀ b,T b→b<w0.heap.size) (hP:dL T (fun w=>bI w a2 c2 l) w0) (N:Nat) (hNw:N≤w0.heap.size) (m:List bU) (hQ:∀ x∈l,x∈m∨sK N [x]):Calls Tryz.prog 37 #[.slice a ([oT k true ka kc]).length c,.slice a2 l.length c2,.int .i64 ((n:Nat):Int)] w0 (fun ε w'=>jG w0 w'∧∃ a c s,ε=.returned (.tuple #[.slice a (List.length s) c,.int .i64 0])∧dL T (fun w=>bI w a c s∧sB s=gX (oX k) n∧mX N a∧∀ x∈s,x∈m∨sK N [x]) w'):=by
  refine (rexpF_any a c [oT k true ka kc] a2 c2 l n oT_kd hn (hL.trans (oT_gw _).symm) hl (fun i hi=>(oT_oE i).trans (xAH.1 h0 i hi)) w0 hf0 hf1 hf2 hf3 T hT hP).mono (fun ε w' h=>?_)
  obtain ⟨h1,b,d,s,h2,h3,h4,h5⟩:=h
  exact ⟨h1,b,d,s,h2,h5.mono (fun _ h=>⟨h.1,h.2.trans (oT_gw n),fun p hp=>Nat.le_trans hNw (h3 p hp),fun x hx=>(h4 x hx).elim (hQ x) (fun q=>Or.inr (fun y hy=>(q y hy).sub (fun _ hb=>Nat.lt_of_lt_of_le hb hNw)))⟩)⟩
theorem rexp1E_any (a:Option Addr) (c:Nat) (k:Ky) (ka:Option Addr) (kc:Nat) (a2:Option Addr) (c2:Nat) (l:List bU) (n:Nat) (hn:n≤40) (hL:sB l=gX (oX k) l.length) (ho:y8 (oE k) l.length) (h0:qL (oE k) n≠0) (w0:World) (hf0:bM w0 a c ([oT k true ka kc])) (hf1:kJ w0) (hf2:fU w0) (hf3:bI w0 a2 c2 l):Calls Tryz.prog 37 #[.slice a ([oT k true ka kc]).length c,.slice a2 l.length c2,.int .i64 ((n:Nat):Int)] w0 (jR (.tuple #[.slice none 0 0,.int .i64 (qL (oE k) n)]) w0):=by
  obtain ⟨j,j1,j2,j3,j4⟩:=frE_er h0
  refine (rexpE_any a c [oT k true ka kc] a2 c2 l n j oT_kd hn (hL.trans (oT_gw _).symm) (frE_le ho j4) j1 (fun i hi=>(oT_oE i).trans (j2 i hi)) (by rw [oT_oE];exact j4) w0 hf0 hf1 hf2 hf3).mono (fun ε w' h=>?_)
  rw [oT_oE,j3] at h
  exact h
theorem clsN_any (a:Option Addr) (c:Nat) (l:List bU) (N:Nat) (hn:a.isNone=false) (h9:l.length≤900) (w0:World) (hNw:N≤w0.heap.size) (T:Nat→Prop) (hT:∀ b,T b→b<w0.heap.size) (hf0:bI w0 a c l):Calls Tryz.prog 41 #[.slice a l.length c] w0 (fun ε w'=>∃ r:bH,ε=.returned (.slice (some ⟨r.n.headD 0,0,none⟩) r.s.length (r.n.tail.headD 0))∧jG w0 w'∧w0.heap.size≤r.n.headD 0∧w'.heap[r.n.headD 0]? = some (.cells (uG r) 37 (0,0))∧dL (fun b=>T b∨b=r.n.headD 0) (fun w=>dN w r.s∧kW.A (uG r) r.s (r.n.tail.headD 0)∧sB r.s=sB l∧sK N r.s) w') :=
  (cls1_any a c l hn h9 w0 hf0 T hT).mono (fun _ _ ⟨r,h1,h2,h3,h4,h5,h6⟩=>⟨r,h1,h2,h3,h4,h6.mono (fun _ h=>⟨h.1,h.2.1,h.2.2,fun s hs=>(h5 s hs).sub (fun _ hb=>Nat.lt_of_lt_of_le hb hNw)⟩)⟩)
theorem wnote_any (a:Option Addr) (c:Nat) (k:Ky) (ka:Option Addr) (kc:Nat) (g:Nat) (a2:Option Addr) (c2:Nat) (l:List bU) (a3:Option Addr) (c3:Nat) (m:List bU) (hk:k.Ok) (hd:rng k.d) (hg:1≤g∧g≤2) (h5:m.length≤5) (hl:sB l=gX (oX k) g) (ho:y8 (oE k) g) (w0:World) (hf0:bM w0 a c ([oT k true ka kc])) (hf1:kJ w0) (hf2:fU w0) (hf3:bI w0 a2 c2 l) (hf4:bI w0 a3 c3 m) (T:Nat→Prop) (hT:∀ b,T b→b<w0.heap.size):Calls Tryz.prog 16 #[.agg #[.slice a ([oT k true ka kc]).length c,vn g,vi 0,.slice a2 l.length c2],.slice a3 m.length c3] w0 (fun ε w'=>jG w0 w'∧((∃ (u:Nat) (r:bH),NtOk (oX k) (oE k) g (sB m) u∧ε=.returned (.tuple #[.agg #[.slice r.a 1 (r.n.headD 0),.int .i64 ((g:Nat):Int),.int .i64 ((u:Nat):Int),.slice r.d r.s.length (r.n.tail.tail.headD 0)],.int .i64 0])∧dL T (fun w=>bM w r.a (r.n.headD 0) [oT k true r.b (r.n.tail.headD 0)]∧bI w r.d (r.n.tail.tail.headD 0) r.s∧sB r.s=gX (oX k) (u+g)) w')∨(∃ e,NtEr (oX k) (oE k) g (sB m) e∧ε=.returned (.tuple #[.agg #[vz,vi 0,vi 0,vz],.int .i64 e])))):=by
 refine Calls.of_ok (n:=75) (F:=(fun w=>bM w a c ([oT k true ka kc])∧kJ w∧fU w∧bI w a2 c2 l∧bI w a3 c3 m∧True)) Tryz.func16 rfl rfl rfl (by simp) (hf0.pers0.and (hf1.pers0.and (hf2.pers0.and (hf3.pers0.and (hf4.pers0.and cO))))) ?_
 have hll:l.length=g:=sB_gX hl
 have hn2:a2.isNone=false:=(Bool.eq_false_iff.2 (fun hq=>by have e:=congrArg List.length (hf3.isn hq);rw [List.length_nil] at e;omega))
 refine sS Tryz.f16 3 [1,2,4,5] [] (fun ρ=>[pt (nb ρ 0),pt (nb ρ 1),vi 0]) (fun ρ=>[(0,(nw ρ 0 (cL #[.slice a ([oT k true ka kc]).length c,vn g,vi 0,.slice a2 l.length c2] 31))),(1,(nw ρ 1 (cL #[vz,vi 0,vi 0,vz] 31)))]) (jE [[],[],[]]) (fun ρ1=>?_)
 refine sDf Tryz.f16 [0,1,3,0,8,31,31,127,255,511] 10 [1,2,4,5] [] (fun ρ=>[pt (nb ρ1 0),.slice a ([oT k true ka kc]).length c,.slice (oa ρ 2) ([oT k true (fD ρ 2) (aZ ρ 2)]).length (nb ρ 2),jp (nb ρ1 0) 3,.slice a2 l.length c2,vs (nb ρ 5) (os ρ 5).length (aZ ρ 5),pt (nb ρ1 0),undef,jp (nb ρ1 0) 3,undef]) (fun ρ=>let qa:Value:=.slice (oa ρ 2) ([oT k true (fD ρ 2) (aZ ρ 2)]).length (nb ρ 2);[(5,(nw ρ 5 (cL (oc ρ 5) 37))),(7,(bD 0 (nb ρ1 0) (cL #[qa,vn g,vi 0,.slice a2 l.length c2] 31))),(9,(bD 0 (nb ρ1 0) (cL #[qa,vn g,vi 0,vs (nb ρ 5) (os ρ 5).length (aZ ρ 5)] 31)))]) (fun ρ=>[(2,fun w=>(bM w (oa ρ 2) (nb ρ 2) ([oT k true (fD ρ 2) (aZ ρ 2)])∧mX w0.heap.size (oa ρ 2)∧mX w0.heap.size (fD ρ 2))),(5,fun w=>(dN w (os ρ 5)∧kW.A (oc ρ 5) (os ρ 5) (aZ ρ 5)∧sB (os ρ 5)=sB l∧sK w0.heap.size (os ρ 5)))]) (fun ρ=>(fun w=>bM w a c ([oT k true ka kc])∧kJ w∧fU w∧bI w a2 c2 l∧bI w a3 c3 m∧bM w (oa ρ 2) (nb ρ 2) ([oT k true (fD ρ 2) (aZ ρ 2)])∧dN w (os ρ 5)∧True)) (fun ρ=>(mX w0.heap.size (oa ρ 2)∧mX w0.heap.size (fD ρ 2))∧(kW.A (oc ρ 5) (os ρ 5) (aZ ρ 5)∧sB (os ρ 5)=sB l∧sK w0.heap.size (os ρ 5))) (fun _ _ hF hf=>⟨⟨hF.1,hF.2.1,hF.2.2.1,hF.2.2.2.1,hF.2.2.2.2.1,(hf 2).1,(hf 5).1,trivial⟩,⟨(hf 2).2,(hf 5).2⟩⟩) (cR [[],[0]]<|cX (qT1 (fun _ τ w hG=>clterms_any a c k true ka kc hk hd w hG.fn.1 τ hG.lt))<|cR [[],[0]]<|cX (qSN (fun _ τ w hG=>clsN_any a2 c2 l w0.heap.size hn2 (by omega) w hG.below.size τ hG.lt hG.fn.2.2.2.1))<|jE [[],[0],[],[0]]) (fun ρ2 ⟨ap2_2,ap2_5⟩=>?_)
 refine sS Tryz.f16 4 [1,2,4,5,6] [] (fun _=>[pt (nb ρ1 0),.slice (oa ρ2 2) ([oT k true (fD ρ2 2) (aZ ρ2 2)]).length (nb ρ2 2),vT,vT]) (fun _=>[]) (cR [[],[0]]<|cX (lN _ 32 (fun _=> #[.slice (oa ρ2 2) ([oT k true (fD ρ2 2) (aZ ρ2 2)]).length (nb ρ2 2)]) (fun _=>vT) (fun _ _=>(by kernel_rfl)) (fun _=>(by kernel_rfl)) (fun _ _=>(by kernel_rfl)) (fun _ _=>trivial) (fun _ _ w hG=>(by as_aux_lemma=>(have hcall:=wO (oa ρ2 2) (nb ρ2 2) ([oT k true (fD ρ2 2) (aZ ρ2 2)]) w hG.fn.2.2.2.2.2.1;rw [oT_rg] at hcall;exact hcall))))<|jE [[]]) (fun _=>?_)
 refine aI ?_
 refine oLF (σ:=(Nat × Nat × (Array Value) × (List bU) × Nat)) (fun s=>match s with |  ⟨_,_,_,M,_⟩=>(fun w=>bM w (oa ρ2 2) (nb ρ2 2) ([oT k true (fD ρ2 2) (aZ ρ2 2)])∧kJ w∧fU w∧bI w a3 c3 m∧dN w M∧True)) (fun s=>match s with |  ⟨_,_,_,_,_⟩=>[(1,(.slice a3 m.length c3)),(2,(pt (nb ρ1 0))),(4,(pt (nb ρ1 1))),(6,vT)]) (fun s=>match s with |  ⟨u,q,C,M,κ⟩=>[(nb ρ1 0,(cL #[.slice (oa ρ2 2) ([oT k true (fD ρ2 2) (aZ ρ2 2)]).length (nb ρ2 2),vn g,vn u,vs q M.length κ] 31)),(nb ρ1 1,(cL #[vz,vi 0,vi 0,vz] 31)),(q,(cL C 37))]) (fun s=>match s with |  ⟨u,_,_,_,_⟩=>(sB m).length-usX (oX k) g (sB m) u)
   (fun s=>match s with |  ⟨u,_,C,M,κ⟩=>(NtS (oX k) (oE k) g (sB m) u)∧(sB M=gX (oX k) (u+g))∧(M.length=u+g)∧(kW.A C M κ)∧(sK w0.heap.size M)∧(u≤10)) ((0,nb ρ2 5,oc ρ2 5,os ρ2 5,aZ ρ2 5)) (⟨NtS.start ho,(ap2_5.2.1.trans hl).trans (by rw [Nat.zero_add]),(sB_gX (ap2_5.2.1.trans hl)).trans (Nat.zero_add g).symm,ap2_5.1,ap2_5.2.2,Nat.zero_le _⟩) (fun w hF=>⟨hF.2.2.2.2.2.1,hF.2.1,hF.2.2.1,hF.2.2.2.2.1,hF.2.2.2.2.2.2.1,trivial⟩) [] ?_
 rintro ⟨u,q,C,M,κ⟩
 rintro ⟨hNt,hM,hlm,hA,hN,hu⟩
 change Ok Tryz.prog _ _ 75 [(1,(.slice a3 m.length c3)),(2,(pt (nb ρ1 0))),(4,(pt (nb ρ1 1))),(6,vT)] _ [(nb ρ1 0,(cL #[.slice (oa ρ2 2) ([oT k true (fD ρ2 2) (aZ ρ2 2)]).length (nb ρ2 2),vn g,vn u,vs q M.length κ] 31)),(nb ρ1 1,(cL #[vz,vi 0,vi 0,vz] 31)),(q,(cL C 37))] (fun w=>bM w (oa ρ2 2) (nb ρ2 2) ([oT k true (fD ρ2 2) (aZ ρ2 2)])∧kJ w∧fU w∧bI w a3 c3 m∧dN w M∧True)
 refine aI (jJ Tryz.f16 1 [1,2,4,6,7] [vi (-1)] (aB (jJ Tryz.f16 3 [1,2,4,6,7,23,24,25] [.slice a3 m.length c3,vn m.length,vi 0] (aI ?_))))
 refine oL (σ:=Nat × Int) (fun ⟨i,z⟩=>[(1,(.slice a3 m.length c3)),(2,(pt (nb ρ1 0))),(4,(pt (nb ρ1 1))),(6,vT),(7,(vi z)),(23,(.slice a3 m.length c3)),(24,(vn m.length)),(25,(vn i))]) (fun ⟨_,_⟩=>[(nb ρ1 0,(cL #[.slice (oa ρ2 2) ([oT k true (fD ρ2 2) (aZ ρ2 2)]).length (nb ρ2 2),vn g,vn u,vs q M.length κ] 31)),(nb ρ1 1,(cL #[vz,vi 0,vi 0,vz] 31)),(q,(cL C 37))]) (fun ⟨i,_⟩=>m.length-i)
   (fun ⟨i,z⟩=>(i≤m.length)∧(z=mxL (sB M) (sB (m.take i)))) (0,-1) (⟨Nat.zero_le _,rfl⟩) [] ?_
 rintro ⟨i,z⟩ ⟨hi,hz⟩
 change Ok Tryz.prog _ _ 75 [(1,(.slice a3 m.length c3)),(2,(pt (nb ρ1 0))),(4,(pt (nb ρ1 1))),(6,vT),(7,(vi z)),(23,(.slice a3 m.length c3)),(24,(vn m.length)),(25,(vn i))] _ [(nb ρ1 0,(cL #[.slice (oa ρ2 2) ([oT k true (fD ρ2 2) (aZ ρ2 2)]).length (nb ρ2 2),vn g,vn u,vs q M.length κ] 31)),(nb ρ1 1,(cL #[vz,vi 0,vi 0,vz] 31)),(q,(cL C 37))] (fun w=>bM w (oa ρ2 2) (nb ρ2 2) ([oT k true (fD ρ2 2) (aZ ρ2 2)])∧kJ w∧fU w∧bI w a3 c3 m∧dN w M∧True)
 refine jJ Tryz.f16 1 [1,2,4,6,7,23,24,25,26] [.bool (decide (((i:Nat):Int)<((m.length:Nat):Int)))] (aB ?_)
 refine oC (decide (((i:Nat):Int)<((m.length:Nat):Int))) (fun hb1=>?_) (fun hb1=>?_)
 ·
  rw [hb1]
  have:=yT hb1
  refine aG (aA (aB (aI ?_)))
  refine sS Tryz.f16 3 [1,2,4,6,7,9,23,24,25] [] (fun _=>let qa:Value:=.slice (gS m i).a (gS m i).b.length (gS m i).c;[.pointer (fK a3 i),qa,qa]) (fun _=>[]) (cX (qF (fun _ _ _ hG=>bI.idx (k:=.i64) Tryz.underlying29 Tryz.sizeOf37 hG.fn.2.2.2.1 rfl (show ((i:Nat):Int)=((i:Nat):Int) from rfl) (show i<m.length from (by omega))))<|cX (qF (fun _ _ _ hG=>bI.ld Tryz.isAgg37 hG.fn.2.2.2.1 (show i<m.length from (by omega))))<|jE [[]]) (fun _=>?_)
  refine rS Tryz.f16 6 [1,2,4,6,7,23,24,25] [] (fun _=>let qa:=vi (mxI z (tH (gS m i).b (sB M) 0));[vi z,.agg #[.slice (oa ρ2 2) ([oT k true (fD ρ2 2) (aZ ρ2 2)]).length (nb ρ2 2),vn g,vn u,vs q M.length κ],.slice (gS m i).a (gS m i).b.length (gS m i).c,vi (tH (gS m i).b (sB M) 0),qa,qa]) (fun _=>[]) (cR [[],[0],[]]<|cX (qC (fun _ _ w hG=>xAG (.slice (oa ρ2 2) ([oT k true (fD ρ2 2) (aZ ρ2 2)]).length (nb ρ2 2)) ((g:Nat):Int) ((u:Nat):Int) (some ⟨q,0,none⟩) κ M (gS m i).a (gS m i).c (gS m i).b w (bI.of_A (hG.kn (g:=q) (o:=(cL C 37)) 2) hA (by omega) hG.fn.2.2.2.2.1) (hG.fn.2.2.2.1.sub _ (oH (show i<m.length from (by omega))))))<|jE [[],[]]) (fun _=>?_)
  refine aJ (aA ?_)
  refine rS Tryz.f16 2 [1,2,4,6,7,23,24,25] [] (fun _=>[vn (i+1),vn (i+1)]) (fun _=>[]) (jW (fun ρ=>(((i:Nat):Int)+1)) (fun _=>(i+1)) (fun _=>(aW i 1 (by omega)))<|jE [[]]) (fun _=>?_)
  exact mN (i+1,mxI z (tH (gS m i).b (sB M) 0)) (by show m.length-(i+1)<m.length-i;omega) (⟨(by omega),by rw [mxL_next (show i<m.length from (by omega)),← hz]⟩) []
 rw [hb1]
 have:=yF hb1
 refine bF (aN (aN (aT (aA (aB ?_)))))
 refine xAN (p:=z=mxL (gX (oX k) (u+g)) (sB m)) (fun w hF=>(by rw [hz,hM,List.take_of_length_le (show m.length≤i from (by omega))])) (fun hz2=>?_)
 refine xAN (p:=z<((u+g:Nat):Int)) (fun w hF=>(by have e:= @mxL_lt (gX (oX k) (u+g)) (sB (m.take i));rw [gX_len,← hM,← hz] at e;exact e)) (fun hz3=>?_)
 rcases Bool.eq_false_or_eq_true (decide (z<0)) with hb2 | hb2
 ·
  refine sS Tryz.f16 8 [1,2,4,6,7,42] [] (fun _=>[vi z,vT,vT,undef,undef,undef,undef,vT]) (fun _=>[]) (cR [[]]<|cA (fun _=>vT) (fun _=>congrArg Value.bool hb2)<|jE [[],[],[],[],[],[]]) (fun _=>?_)
  refine oY ?_
  refine sS Tryz.f16 3 [1,2,4,5,6,7] [] (fun _=>[.agg #[.slice (oa ρ2 2) ([oT k true (fD ρ2 2) (aZ ρ2 2)]).length (nb ρ2 2),vn g,vn u,vs q M.length κ],undef,vi 0]) (fun _=>[(1,(bD 1 (nb ρ1 1) (cL #[.slice (oa ρ2 2) ([oT k true (fD ρ2 2) (aZ ρ2 2)]).length (nb ρ2 2),vn g,vn u,vs q M.length κ] 31)))]) (jE [[0],[1],[]]) (fun _=>?_)
  refine aF (aC (aP (aC (aP (mD [(1,(.slice a3 m.length c3)),(2,(pt (nb ρ1 0))),(4,(pt (nb ρ1 1))),(5,(vi 0)),(6,vT),(7,(vi z))] [(nb ρ1 0,(cL #[.slice (oa ρ2 2) ([oT k true (fD ρ2 2) (aZ ρ2 2)]).length (nb ρ2 2),vn g,vn u,vs q M.length κ] 31)),(nb ρ1 1,(cL #[.slice (oa ρ2 2) ([oT k true (fD ρ2 2) (aZ ρ2 2)]).length (nb ρ2 2),vn g,vn u,vs q M.length κ] 31)),(q,(cL C 37))] ?_)))))
  exact mR (v:=(.tuple #[.agg #[.slice (oa ρ2 2) ([oT k true (fD ρ2 2) (aZ ρ2 2)]).length (nb ρ2 2),vn g,vn u,vs q M.length κ],vi 0])) (ps:=[1,1,1,1]) (fun _ hS=>⟨hS.bel,Or.inl ⟨u,{ n:=[nb ρ2 2,aZ ρ2 2,κ],a:=oa ρ2 2,b:=fD ρ2 2,d:=some ⟨q,0,none⟩,s:=M},hNt.mxDone hz2 (by have:=yT hb2;omega),rfl,((bM.oneP hS.facts.now.1 ap2_2.1 ap2_2.2 hT).and (bI.fin (hS.newb (.tail _ (.tail _ (.head _)))).2 hA (by have:=yT hb2;omega) hT (hS.newb (.tail _ (.tail _ (.head _)))).1 (dN.mkA hS.facts.now.2.2.2.2.1 (fun s hs=>(hN s hs).sub hT)))).mono (fun _ h=>⟨h.1,h.2,hM⟩)⟩⟩)
 refine sS Tryz.f16 8 [1,2,4,6,7,42] [] (fun _=>let qa:Value:=.bool (decide (z<((u:Nat):Int)));[vi z,vF,vF,vi z,jp (nb ρ1 0) 2,vn u,qa,qa]) (fun _=>[]) (cR [[]]<|cA (fun _=>vF) (fun _=>congrArg Value.bool hb2)<|jE [[],[],[],[0],[],[]]) (fun _=>?_)
 refine oC (decide (z<((u:Nat):Int))) (fun hb3=>?_) (fun hb3=>?_)
 ·
  rw [hb3]
  refine sS Tryz.f16 3 [1,2,4,5,6,7] [] (fun _=>[.agg #[.slice (oa ρ2 2) ([oT k true (fD ρ2 2) (aZ ρ2 2)]).length (nb ρ2 2),vn g,vn u,vs q M.length κ],undef,vi 0]) (fun _=>[(1,(bD 1 (nb ρ1 1) (cL #[.slice (oa ρ2 2) ([oT k true (fD ρ2 2) (aZ ρ2 2)]).length (nb ρ2 2),vn g,vn u,vs q M.length κ] 31)))]) (jE [[0],[1],[]]) (fun _=>?_)
  refine aF (aC (aP (aC (aP (mD [(1,(.slice a3 m.length c3)),(2,(pt (nb ρ1 0))),(4,(pt (nb ρ1 1))),(5,(vi 0)),(6,vT),(7,(vi z))] [(nb ρ1 0,(cL #[.slice (oa ρ2 2) ([oT k true (fD ρ2 2) (aZ ρ2 2)]).length (nb ρ2 2),vn g,vn u,vs q M.length κ] 31)),(nb ρ1 1,(cL #[.slice (oa ρ2 2) ([oT k true (fD ρ2 2) (aZ ρ2 2)]).length (nb ρ2 2),vn g,vn u,vs q M.length κ] 31)),(q,(cL C 37))] ?_)))))
  exact mR (v:=(.tuple #[.agg #[.slice (oa ρ2 2) ([oT k true (fD ρ2 2) (aZ ρ2 2)]).length (nb ρ2 2),vn g,vn u,vs q M.length κ],vi 0])) (ps:=[1,1,1,1]) (fun _ hS=>⟨hS.bel,Or.inl ⟨u,{ n:=[nb ρ2 2,aZ ρ2 2,κ],a:=oa ρ2 2,b:=fD ρ2 2,d:=some ⟨q,0,none⟩,s:=M},hNt.mxDone hz2 (by have:=yF hb2;have:=yT hb3;omega),rfl,((bM.oneP hS.facts.now.1 ap2_2.1 ap2_2.2 hT).and (bI.fin (hS.newb (.tail _ (.tail _ (.head _)))).2 hA (by have:=yF hb2;have:=yT hb3;omega) hT (hS.newb (.tail _ (.tail _ (.head _)))).1 (dN.mkA hS.facts.now.2.2.2.2.1 (fun s hs=>(hN s hs).sub hT)))).mono (fun _ h=>⟨h.1,h.2,hM⟩)⟩⟩)
 rw [hb3]
 have:=yF hb3
 refine aG (aA ?_)
 refine sS Tryz.f16 4 [1,2,4,6] [] (fun _=>[vi z,vn (z.toNat+1),jp (nb ρ1 0) 2,undef]) (fun _=>[(3,(bD 0 (nb ρ1 0) (cL #[.slice (oa ρ2 2) ([oT k true (fD ρ2 2) (aZ ρ2 2)]).length (nb ρ2 2),vn g,vn (z.toNat+1),vs q M.length κ] 31)))]) (cR [[]]<|jW (fun ρ=>(z+1)) (fun _=>(z.toNat+1)) (fun _=>((gZ (by have:=yF hb2;omega)).trans (by have:=yF hb2;omega)))<|jE [[],[0]]) (fun _=>?_)
 refine aB ?_
 refine sS Tryz.f16 6 [1,2,4,6,52] [] (fun _=>[jp (nb ρ1 0) 1,vn g,jp (nb ρ1 0) 2,vn (z.toNat+1),vi (1000-((z.toNat+1:Nat):Int)),vF]) (fun _=>[]) (cR [[],[0],[],[0]]<|jU (fun ρ=>(1000-((z.toNat+1:Nat):Int))) (fun _=>(1000-((z.toNat+1:Nat):Int))) (fun _=>(gZ (by have:=yF hb2;omega)))<|jQ (fun ρ=>(decide ((1000-((z.toNat+1:Nat):Int))<((g:Nat):Int)))) false (fun _=>(decide_eq_false (by have:=yF hb2;omega)))<|cN) (fun _=>?_)
 refine oN ?_
 refine aG (aA (aB (jJ Tryz.f16 2 [1,2,4,6,55] [vT,vF] ?_)))
 refine oN ?_
 refine aG (aA ?_)
 rcases Bool.eq_false_or_eq_true (qL (oE k) ((z.toNat+1)+g) != 0) with hb4 | hb4
 ·
  refine iZ Tryz.f16 15 [1,2,4,6,10,11] [1,1,0] (fun _=>let qa:=vi (qL (oE k) ((z.toNat+1)+g));[jp (nb ρ1 0) 3,vs q M.length κ,pt (nb ρ1 0),.slice (oa ρ2 2) ([oT k true (fD ρ2 2) (aZ ρ2 2)]).length (nb ρ2 2),jp (nb ρ1 0) 2,vn (z.toNat+1),jp (nb ρ1 0) 1,vn g,vn ((z.toNat+1)+g),.tuple #[vz,qa],.tuple #[vz,qa],vz,qa,vz,qa]) (fun ρ=>[(9,(bD 2 (nb ρ 9) (cL (oc ρ 9) 37)))]) (fun ρ=>[(9,fun w=>dN w (os ρ 9))]) (fun ρ=>(fun w=>bM w (oa ρ2 2) (nb ρ2 2) ([oT k true (fD ρ2 2) (aZ ρ2 2)])∧kJ w∧fU w∧bI w a3 c3 m∧dN w M∧dN w (os ρ 9)∧True)) (fun _=>True) (fun _ _ hF hf=>⟨⟨hF.1,hF.2.1,hF.2.2.1,hF.2.2.2.1,hF.2.2.2.2.1,hf 9,trivial⟩,trivial⟩) (cR [[],[0],[],[0],[],[0],[],[0]]<|jW (fun ρ=>(((z.toNat+1:Nat):Int)+((g:Nat):Int))) (fun _=>((z.toNat+1)+g)) (fun _=>(aW (z.toNat+1) g (by have:=yF hb2;omega)))<|cX (qMv 2 (fun _ τ w hG hg hTg=>wgrow1E_any (oa ρ2 2) (nb ρ2 2) k (fD ρ2 2) (aZ ρ2 2) q κ C M ((z.toNat+1)+g) w0.heap.size (by have:=yF hb2;omega) hA (by rw [hlm];exact hM) (by rw [hlm];exact hNt.ok) (xAU hb4) w hG.below.size hg (hG.pK [2] (fun _ hF=>⟨hF.1,hF.2.1,hF.2.2.1,hF.2.2.2.2.1,trivial⟩)) τ hTg hG.lt (hG.facts0.mono (fun _ hF=>hF.2.2.2.2.1))))<|jE [[],[],[],[],[]]) (fun _ _=>?_)
  refine aB ?_
  refine sS Tryz.f16 2 [1,2,4,6,10,11,70] [] (fun _=>[vi (qL (oE k) ((z.toNat+1)+g)),vT]) (fun _=>[]) (cR [[]]<|cA (fun _=>vT) (fun _=>congrArg Value.bool hb4)<|cN) (fun _=>?_)
  refine lK [(1,(.slice a3 m.length c3)),(2,(pt (nb ρ1 0))),(4,(pt (nb ρ1 1))),(6,vT),(10,vz),(11,(vi (qL (oE k) ((z.toNat+1)+g)))),(70,vT)] [(nb ρ1 0,(cL #[.slice (oa ρ2 2) ([oT k true (fD ρ2 2) (aZ ρ2 2)]).length (nb ρ2 2),vn g,vn (z.toNat+1),vs q M.length κ] 31)),(nb ρ1 1,(cL #[vz,vi 0,vi 0,vz] 31))] ?_
  refine oY ?_
  refine sS Tryz.f16 4 [1,2,4,5,6,10] [] (fun _=>let qa:=vi (qL (oE k) ((z.toNat+1)+g));[.agg #[vz,vi 0,vi 0,vz],qa,undef,qa]) (fun _=>[(2,(bD 1 (nb ρ1 1) (cL #[vz,vi 0,vi 0,vz] 31)))]) (jE [[],[],[1],[]]) (fun _=>?_)
  refine aF (aC (aP (aC (aP (mD [(1,(.slice a3 m.length c3)),(2,(pt (nb ρ1 0))),(4,(pt (nb ρ1 1))),(5,(vi (qL (oE k) ((z.toNat+1)+g)))),(6,vT),(10,vz)] [(nb ρ1 0,(cL #[.slice (oa ρ2 2) ([oT k true (fD ρ2 2) (aZ ρ2 2)]).length (nb ρ2 2),vn g,vn (z.toNat+1),vs q M.length κ] 31)),(nb ρ1 1,(cL #[vz,vi 0,vi 0,vz] 31))] ?_)))))
  exact mR (v:=(.tuple #[.agg #[vz,vi 0,vi 0,vz],vi (qL (oE k) ((z.toNat+1)+g))])) (ps:=[1,1,1,1]) (fun _ hS=>⟨hS.bel,Or.inr ⟨_,hNt.mxFail hz2 (by have:=yF hb2;omega) (xAU hb4),rfl⟩⟩)
 refine iZ Tryz.f16 15 [1,2,4,6,10,11] [] (fun ρ=>let qa:=vs (nb ρ 9) (os ρ 9).length (aZ ρ 9);[jp (nb ρ1 0) 3,vs q M.length κ,pt (nb ρ1 0),.slice (oa ρ2 2) ([oT k true (fD ρ2 2) (aZ ρ2 2)]).length (nb ρ2 2),jp (nb ρ1 0) 2,vn (z.toNat+1),jp (nb ρ1 0) 1,vn g,vn ((z.toNat+1)+g),.tuple #[qa,vi 0],.tuple #[qa,vi 0],qa,vi 0,qa,vi 0]) (fun ρ=>[(9,(bD 2 (nb ρ 9) (cL (oc ρ 9) 37)))]) (fun ρ=>[(9,fun w=>(dN w (os ρ 9)∧kW.A (oc ρ 9) (os ρ 9) (aZ ρ 9)∧sB (os ρ 9)=gX (oX k) ((z.toNat+1)+g)∧sK w0.heap.size (os ρ 9)))]) (fun ρ=>(fun w=>bM w (oa ρ2 2) (nb ρ2 2) ([oT k true (fD ρ2 2) (aZ ρ2 2)])∧kJ w∧fU w∧bI w a3 c3 m∧dN w M∧dN w (os ρ 9)∧True)) (fun ρ=>(kW.A (oc ρ 9) (os ρ 9) (aZ ρ 9)∧sB (os ρ 9)=gX (oX k) ((z.toNat+1)+g)∧sK w0.heap.size (os ρ 9))) (fun _ _ hF hf=>⟨⟨hF.1,hF.2.1,hF.2.2.1,hF.2.2.2.1,hF.2.2.2.2.1,(hf 9).1,trivial⟩,(hf 9).2⟩) (cR [[],[0],[],[0],[],[0],[],[0]]<|jW (fun ρ=>(((z.toNat+1:Nat):Int)+((g:Nat):Int))) (fun _=>((z.toNat+1)+g)) (fun _=>(aW (z.toNat+1) g (by have:=yF hb2;omega)))<|cX (qMv 2 (fun _ τ w hG hg hTg=>wgrow1_any (oa ρ2 2) (nb ρ2 2) k (fD ρ2 2) (aZ ρ2 2) q κ C M ((z.toNat+1)+g) w0.heap.size (by have:=yF hb2;omega) hA (by rw [hlm];exact hM) (by have:=yF hb2;omega) (o5 hb4) hN w hG.below.size hg (hG.pK [2] (fun _ hF=>⟨hF.1,hF.2.1,hF.2.2.1,hF.2.2.2.2.1,trivial⟩)) τ hTg hG.lt (hG.facts0.mono (fun _ hF=>hF.2.2.2.2.1))))<|jE [[],[],[],[],[]]) (fun ρ20 ap20_9=>?_)
 refine aB (jJ Tryz.f16 2 [1,2,4,6,10,11,70] [vi 0,vF] ?_)
 refine lK [(1,(.slice a3 m.length c3)),(2,(pt (nb ρ1 0))),(4,(pt (nb ρ1 1))),(6,vT),(10,(vs (nb ρ20 9) (os ρ20 9).length (aZ ρ20 9))),(11,(vi 0)),(70,vF)] [(nb ρ1 0,(cL #[.slice (oa ρ2 2) ([oT k true (fD ρ2 2) (aZ ρ2 2)]).length (nb ρ2 2),vn g,vn (z.toNat+1),vs q M.length κ] 31)),(nb ρ1 1,(cL #[vz,vi 0,vi 0,vz] 31)),(nb ρ20 9,(cL (oc ρ20 9) 37))] ?_
 refine oN ?_
 refine aG (aA ?_)
 refine rS Tryz.f16 3 [1,2,4,6] [] (fun _=>[vs (nb ρ20 9) (os ρ20 9).length (aZ ρ20 9),jp (nb ρ1 0) 3,undef]) (fun _=>[(2,(bD 0 (nb ρ1 0) (cL #[.slice (oa ρ2 2) ([oT k true (fD ρ2 2) (aZ ρ2 2)]).length (nb ρ2 2),vn g,vn (z.toNat+1),vs (nb ρ20 9) (os ρ20 9).length (aZ ρ20 9)] 31)))]) (jE [[],[],[0]]) (fun _=>?_)
 refine aJ (mD [(1,(.slice a3 m.length c3)),(2,(pt (nb ρ1 0))),(4,(pt (nb ρ1 1))),(6,vT)] [(nb ρ1 0,(cL #[.slice (oa ρ2 2) ([oT k true (fD ρ2 2) (aZ ρ2 2)]).length (nb ρ2 2),vn g,vn (z.toNat+1),vs (nb ρ20 9) (os ρ20 9).length (aZ ρ20 9)] 31)),(nb ρ1 1,(cL #[vz,vi 0,vi 0,vz] 31)),(nb ρ20 9,(cL (oc ρ20 9) 37))] ?_)
 exact mNF ((z.toNat+1,nb ρ20 9,oc ρ20 9,os ρ20 9,aZ ρ20 9)) (by exact NtS.mxMore hz2 (by have:=yF hb2;omega)) (⟨hNt.mxNext hz2 (by have:=yF hb2;omega) (o5 hb4),ap20_9.2.1,sB_gX ap20_9.2.1,ap20_9.1,ap20_9.2.2,NtS.le10 (hNt.mxNext hz2 (by have:=yF hb2;omega) (o5 hb4)) hg.2 (by rw [xAQ];exact h5)⟩) (fun w hS=>hS.weaken (fun w hF=>⟨hF.1,hF.2.1,hF.2.2.1,hF.2.2.2.1,hF.2.2.2.2.2.1,trivial⟩))
def fz (m:List bU) (i:Nat) (M:List bU):Int:=tH (gS m i).b (sB M) 0
section
variable {X : Nat → List UInt8} {E : Nat → Int} {g : Nat} {l : List (List UInt8)}
variable (X g l) in
def NtI (u v:Nat) (b:Bool) (p:List (List UInt8)):Prop:=(b=true∧l.length-usX X g l v<l.length-usX X g l u)∨(b=false∧v=u∧∀ s∈p,fX X g u s<(u:Int))
theorem NtI.start {u:Nat}:NtI X g l u u false []:=Or.inr ⟨rfl,rfl,fun _ h=>absurd h (by simp)⟩
theorem NtI.out {u v:Nat} {b:Bool} (h:NtI X g l u v b l):(b=false→Cl X g l v)∧2*(l.length-usX X g l v)+b.toNat<2*(l.length-usX X g l u)+1:=by
  rcases h with ⟨rfl,h⟩ | ⟨rfl,rfl,h⟩
  · exact ⟨fun h=>absurd h (by simp),by show _+1<_;omega⟩
  · exact ⟨fun _=>h,by show _+0<_;omega⟩
end
section
variable {X : Nat → List UInt8} {E : Nat → Int} {g : Nat} {m M : List bU} {i u v : Nat} {b : Bool}
theorem take_sB (h:i<m.length):sB (m.take (i+1))=sB (m.take i)++[(gS m i).b]:=by
  rw [List.take_add_one,List.getElem?_eq_getElem h]
  unfold sB
  rw [List.map_append]
  have:gS m i=m[i]:=by unfold gS;rw [List.getD_eq_getElem?_getD,List.getElem?_eq_getElem h];rfl
  rw [this];rfl
theorem gS_sB (h:i<m.length):(gS m i).b∈sB m:=List.mem_map.2 ⟨_,oH h,rfl⟩
theorem fz_eq (hM:sB M=gX X (v+g)):fX X g v (gS m i).b=fz m i M:=by unfold fX fz;rw [hM]
theorem NtI.stay (h:NtI X g (sB m) u v b (sB (m.take i))) (hi:i<m.length) (hM:sB M=gX X (v+g)) (hz:fz m i M<(v:Int)):NtI X g (sB m) u v b (sB (m.take (i+1))):=by
  rcases h with ⟨rfl,h⟩ | ⟨rfl,rfl,h⟩
  · exact Or.inl ⟨rfl,h⟩
  · refine Or.inr ⟨rfl, rfl, fun s hs => ?_⟩
    rw [take_sB hi] at hs
    rcases List.mem_append.1 hs with h1 | h1
    · exact h s h1
    · rw [List.mem_singleton.1 h1,fz_eq hM];exact hz
theorem fz_nat (hz:(v:Int)≤fz m i M):fz m i M=(((fz m i M).toNat:Nat):Int)∧v≤(fz m i M).toNat:=by omega
theorem NtI.go (h:NtI X g (sB m) u v b (sB (m.take i))) (hi:i<m.length) (hM:sB M=gX X (v+g)) (hz:(v:Int)≤fz m i M):NtI X g (sB m) u ((fz m i M).toNat+1) true (sB (m.take (i+1))):=by
  obtain ⟨h1,h2⟩:=fz_nat hz
  have h3:=NtS.more (l:=sB m) (gS_sB hi) ((fz_eq (i:=i) hM).trans h1) h2
  rcases h with ⟨rfl,h⟩ | ⟨rfl,rfl,h⟩
  · exact Or.inl ⟨rfl,Nat.lt_trans h3 h⟩
  · exact Or.inl ⟨rfl,h3⟩
theorem NtS.fzNext (h:NtS X E g (sB m) v) (hi:i<m.length) (hM:sB M=gX X (v+g)) (hz:(v:Int)≤fz m i M) (h0:qL E ((fz m i M).toNat+1+g)=0):NtS X E g (sB m) ((fz m i M).toNat+1):=by
  obtain ⟨h1,h2⟩:=fz_nat hz
  exact h.next (gS_sB hi) ((fz_eq hM).trans h1) h2 (xAH.1 h0)
theorem NtS.fzFail (h:NtS X E g (sB m) v) (hi:i<m.length) (hM:sB M=gX X (v+g)) (hz:(v:Int)≤fz m i M) (h0:qL E ((fz m i M).toNat+1+g)≠0):NtEr X E g (sB m) (qL E ((fz m i M).toNat+1+g)):=by
  obtain ⟨h1,h2⟩:=fz_nat hz
  obtain ⟨j,j1,j2,j3,j4⟩:=frE_er h0
  rw [← j3]
  exact h.fail (gS_sB hi) ((fz_eq hM).trans h1) j1 j2 j4
theorem fz_lt (hM:sB M=gX X (v+g)):fz m i M<((v+g:Nat):Int):=by
  have e:=sB_gX hM
  unfold fz
  rcases @ixB_hi (gS m i).b (sB M) 0 with k | k
  · rw [xAQ,e] at k;omega
  · omega
end
theorem bI.oldP {w:World} {n c c2:Nat} {a a2:Option Addr} {l M:List bU} {T:Nat→Prop} (h:bI w a c M) (ha:mX n a) (hX:∀ x∈M,x∈l∨sK n [x]) (hT:∀ b,T b→b<n) (hP:dL T (fun w=>bI w a2 c2 l) w):dL T (fun w=>bI w a c M) w :=
  bI.mkP h.le h.max (h.rows.pers (ha.ap hT)) (uT (fun s hs=>(hX s hs).elim (fun hl=>hP.mono (fun _ q=>q.sub s hl)) (fun hN=>(h.sub s hs).pers ((hN s List.mem_cons_self).sub hT))))
section
variable {B : Base} {w : World} {h : List (Nat × Obj)} {F : World → Prop} {g : Nat}
theorem St.frozW (hS:St B h F w) (k:Nat) {C:Array Value} {e:TypeId} {fr:Nat × Nat} {l:List bU} {c:Nat} (hA:kW.A C l c) (hm:l.length≤140737488351232) (hF:∀ w,F w→dN w l) (hg:B.w.heap.size≤g∨B.ws=[]) (ks:List Nat) {h':List (Nat × Obj)} (hk:h[k]? = some (g,.cells C e fr):=by kernel_rfl) (hh:oW ks (h.eraseIdx k)=h':=by kernel_rfl):St B h' (fun w=>(bI w (some ⟨g,0,none⟩) c l∧mX B.w.heap.size (some ⟨g,0,none⟩))∧F w) w:=by
  have hn0:B.w.heap.size≤g:=by
    rcases (hS.at_ _ (List.mem_of_getElem? hk)).1 with h1 | h1
    · exact h1
    · rcases hg with h2 | h2
      · exact h2
      · rw [h2] at h1;exact absurd h1 List.not_mem_nil
  refine hS.froz k hk ks hh (fun _ hg hn=>?_)
  have hsub:∀ b,b∈h'.map (·.1)→b∈h.map (·.1):=fun b hb=>((((hh ▸ jX ks _:List.Sublist h' (h.eraseIdx k)).trans (List.eraseIdx_sublist h k)).map _).subset hb)
  exact (bI.mkP hA.le hm ((Rs.of_av hg hA).pers (fun p hp _ hx=>by
    obtain rfl:(⟨g,0,none⟩:Addr)=p:=by simpa using hp
    exact hn hx)) ((hS.facts.sub hsub).mono hF)).mono (fun _ h=>⟨h,mX.some hn0⟩)
end
theorem termsT {w:World} {n g c c0 d:Nat} {C:Array Value} {e:TypeId} {fr:Nat × Nat} {a0 b:Option Addr} {k:Ky} {wd:Bool} {T:Nat→Prop} (hT:∀ b,T b→b<n) (hg:n≤g∧w.heap[g]? = some (.cells C e fr)) (hA:kT.A C [oT k wd b d] c) (hP:dL T (fun w=>bM w a0 c0 [oT k wd b d]) w):dL T (fun w=>bM w (some ⟨g,0,none⟩) c [oT k wd b d]) w:=by
  have r1:Rs w (some ⟨g,0,none⟩) (pV [oT k wd b d]):=by rw [← kT_r];exact Rs.of_av hg.2 hA
  refine bM.mkP (Av.le hA) (by show 1≤1000000;decide) (r1.pers (fun p hp _ ht=>?_)) (fun t ht=>hP.mono (fun _ h=>h.sub t ht)) (fun t ht=>?_)
  · obtain rfl : (⟨_, 0, none⟩ : Addr) = p := by simpa using hp
    have:=hT _ ht
    have:=hg.1
    simp only at *
    omega
  · rw [List.mem_singleton.1 ht];exact oT_ok
theorem oE_bad {k:Ky} (h:xW [oT k true none 0]=false) (i:Nat):oE k i=260:=by
  have e:kZ [oT k true none 0] ((i:Nat):Int)=260:=by unfold kZ;rw [h,if_neg (by decide)]
  unfold oE pX
  rw [e,if_neg (by decide)]
theorem frE_bad {k:Ky} (h:xW [oT k true none 0]=false):∀ {n:Nat},1≤n→qL (oE k) n=260
  | 0,hn=>absurd hn (by decide)
  | 1, _ => by
    show (if qL (oE k) 0=0 then oE k 0 else qL (oE k) 0)=260
    rw [if_pos (show qL (oE k) 0=0 from rfl)];exact oE_bad h 0
  | n + 2, _ => by
    show (if qL (oE k) (n+1)=0 then oE k (n+1) else qL (oE k) (n+1))=260
    rw [frE_bad h (Nat.succ_pos n),if_neg (by decide)]
theorem xAY (a:Option Addr) (c:Nat) (B:List UInt8) (a2:Option Addr) (c2:Nat) (S:List UInt8) (w0:World) (hf0:Bs w0 a c B) (hf1:Bs w0 a2 c2 S):Calls Tryz.prog 20 #[.slice a B.length c,.slice a2 S.length c2] w0 (jR (.bool (decide (B=S))) w0):=by
 refine Calls.of_ok (n:=10) (F:=(fun w=>Bs w a c B∧Bs w a2 c2 S∧True)) Tryz.func20 rfl rfl rfl (by simp) (hf0.pers0.and (hf1.pers0.and cO)) ?_
 refine jJ Tryz.f20 1 [0,1,4] [vF] ?_
 refine sS Tryz.f20 6 [4] [] (fun _=>[.slice a B.length c,.string (gY B),.slice a2 S.length c2,.string (gY S),.bool (decide (B=S)),.bool (decide (B=S))]) (fun _=>[]) (cR [[]]<|cX (jF (fun _=>convert 37 9 (.slice a B.length c)) (fun _=>(.string (gY B))) (fun _ _ _ hG=>xAX (xs:=B) Tryz.underlying37 Tryz.underlying5 Tryz.underlying9 hG.fn.1 rfl) (fun _ _ _ _=>cO))<|cR [[]]<|cX (jF (fun _=>convert 37 9 (.slice a2 S.length c2)) (fun _=>(.string (gY S))) (fun _ _ _ hG=>xAX (xs:=S) Tryz.underlying37 Tryz.underlying5 Tryz.underlying9 hG.fn.2.1 rfl) (fun _ _ _ _=>cO))<|cB .eql 9 (fun _ w=>eql_str B S w)<|jE [[]]) (fun _=>?_)
 refine aF ?_
 exact mR (v:=(.bool (decide (B=S)))) (fun _ hS=>⟨rfl,hS.bel⟩)
theorem xAO (x0:Value) (x1:Int) (x2:Int) (a:Option Addr) (c:Nat) (l:List bU) (a2:Option Addr) (c2:Nat) (S:List UInt8) (w0:World) (hf0:bI w0 a c l) (hf1:Bs w0 a2 c2 S):Calls Tryz.prog 22 #[.agg #[x0,vi x1,vi x2,.slice a l.length c],.slice a2 S.length c2] w0 (jR (vi (tH S (sB l) 0)) w0):=by
 refine Calls.of_ok (n:=21) (F:=(fun w=>bI w a c l∧Bs w a2 c2 S∧True)) Tryz.func22 rfl rfl rfl (by simp) (hf0.pers0.and (hf1.pers0.and cO)) ?_
 have hlen:l.length≤140737488351232:=hf0.max
 refine sS Tryz.f22 2 [1,2,4] [] (fun ρ=>[pt (nb ρ 0),vi 0]) (fun ρ=>[(0,(nw ρ 0 (cL #[x0,vi x1,vi x2,.slice a l.length c] 31)))]) (jE [[],[]]) (fun ρ1=>?_)
 refine aB (jJ Tryz.f22 1 [1,2,4,5] [vi 0] (aI ?_))
 refine oL (σ:=Nat) (fun i=>[(1,(.slice a2 S.length c2)),(2,(pt (nb ρ1 0))),(5,(vn i))]) (fun _=>[(nb ρ1 0,(cL #[x0,vi x1,vi x2,.slice a l.length c] 31))]) (fun i=>l.length-i)
   (fun i=>(i≤l.length)∧(tH S ((sB l).drop i) i=tH S (sB l) 0)) 0 (⟨Nat.zero_le _,rfl⟩) [] ?_
 rintro i ⟨hi,hr⟩
 change Ok Tryz.prog _ _ 21 [(1,(.slice a2 S.length c2)),(2,(pt (nb ρ1 0))),(5,(vn i))] _ [(nb ρ1 0,(cL #[x0,vi x1,vi x2,.slice a l.length c] 31))] (fun w=>bI w a c l∧Bs w a2 c2 S∧True)
 refine aB (jM Tryz.f22 5 [1,2,5,10] [] [vn i,jp (nb ρ1 0) 3,.slice a l.length c,vn l.length,.bool (decide (((i:Nat):Int)<((l.length:Nat):Int)))] [[],[],[0],[],[]] ?_)
 refine oC (decide (((i:Nat):Int)<((l.length:Nat):Int))) (fun hb1=>?_) (fun hb1=>?_)
 ·
  rw [hb1]
  have:=yT hb1
  refine aG (aA (aB (aI ?_)))
  refine sS Tryz.f22 7 [1,2,5,19] [] (fun _=>[jp (nb ρ1 0) 3,.slice a l.length c,vn i,.pointer (fK a i),.slice (gS l i).a (gS l i).b.length (gS l i).c,.slice a2 S.length c2,.bool (decide ((gS l i).b=S))]) (fun _=>[]) (cR [[],[0],[]]<|cX (qF (fun _ _ _ hG=>bI.idx (k:=.i64) Tryz.underlying29 Tryz.sizeOf37 hG.fn.1 rfl (show ((i:Nat):Int)=((i:Nat):Int) from rfl) (show i<l.length from (by omega))))<|cX (qF (fun _ _ _ hG=>bI.ld Tryz.isAgg37 hG.fn.1 (show i<l.length from (by omega))))<|cR [[]]<|cX (qC (fun _ _ w hG=>xAY (gS l i).a (gS l i).c (gS l i).b a2 c2 S w (hG.fn.1.sub _ (oH (show i<l.length from (by omega)))) hG.fn.2.1))<|cN) (fun _=>?_)
  refine oC (decide ((gS l i).b=S)) (fun hb2=>?_) (fun hb2=>?_)
  ·
   rw [hb2]
   refine jJ Tryz.f22 2 [1,2,4,5] [vn i,vn i] (aF (aP (aC (aC (aP (aC ?_))))))
   exact mR (v:=(vn i)) (fun _ hS=>⟨congrArg (fun x=>Ending.returned (vi x)) (ixB_stop (by have:=yT hb2;omega) hb2 hr),hS.bel⟩)
  rw [hb2]
  have:=yF hb2
  refine aG (aJ (aA ?_))
  refine rS Tryz.f22 3 [1,2,5] [] (fun _=>[vn i,vn (i+1),vn (i+1)]) (fun _=>[]) (cR [[]]<|jW (fun ρ=>(((i:Nat):Int)+1)) (fun _=>(i+1)) (fun _=>(aW i 1 (by omega)))<|jE [[]]) (fun _=>?_)
  exact mN (i+1) (by show l.length-(i+1)<l.length-i;omega) (⟨(by omega),ixB_next (by omega) hb2 hr⟩) []
 rw [hb1]
 refine bF (aN (aN (aT (aA (jM Tryz.f22 1 [4] [0] [vi (-1)] [[]] (aF ?_))))))
 exact mR (v:=(vi (-1))) (fun _ hS=>⟨congrArg (fun x=>Ending.returned (vi x)) (ixB_end (by have:=yF hb1;omega) hr),hS.bel⟩)
theorem rfresh_any (a:Option Addr) (c:Nat) (k:Ky) (ka:Option Addr) (kc:Nat) (x1:Int) (u:Nat) (a2:Option Addr) (c2:Nat) (l:List bU) (hu:u<l.length) (w0:World) (hf0:bM w0 a c ([oT k true ka kc])) (hf1:bI w0 a2 c2 l):Calls Tryz.prog 19 #[.agg #[.slice a ([oT k true ka kc]).length c,vi x1,vn u,.slice a2 l.length c2]] w0 (fun ε w'=>∃ α κ,ε=.returned (.tuple #[.slice α (gS l u).b.length κ,vn u])∧jG w0 w'∧Fs w0 w' α κ (gS l u).b):=by
 refine Calls.of_ok (n:=24) (F:=(fun w=>bM w a c ([oT k true ka kc])∧bI w a2 c2 l∧True)) Tryz.func19 rfl rfl rfl (by simp) (hf0.pers0.and (hf1.pers0.and cO)) ?_
 refine sS Tryz.f19 3 [1,2,3] [] (fun ρ=>[pt (nb ρ 0),vz,vi 0]) (fun ρ=>[(0,(nw ρ 0 (cL #[.slice a ([oT k true ka kc]).length c,vi x1,vn u,.slice a2 l.length c2] 31)))]) (jE [[],[],[]]) (fun ρ1=>?_)
 refine jM Tryz.f19 3 [1,2,3,4] [] [jp (nb ρ1 0) 2,vn u,vn u] [[],[0],[]] (aB ?_)
 refine sS Tryz.f19 4 [1,2,3,4,10] [] (fun _=>[pt (nb ρ1 0),.slice a ([oT k true ka kc]).length c,vT,vF]) (fun _=>[]) (cR [[],[0]]<|cX (lN _ 36 (fun _=> #[.slice a ([oT k true ka kc]).length c]) (fun _=>vT) (fun _ _=>(by kernel_rfl)) (fun _=>(by kernel_rfl)) (fun _ _=>(by kernel_rfl)) (fun _ _=>trivial) (fun _ _ w hG=>(by as_aux_lemma=>(have hcall:=xAE a c ([oT k true ka kc]) w hG.fn.1;rw [oT_rg] at hcall;exact hcall))))<|jE [[]]) (fun _=>?_)
 refine oN ?_
 refine aG (aA (aB ?_))
 refine sS Tryz.f19 5 [1,2,3,4,15] [] (fun _=>[vn u,jp (nb ρ1 0) 3,.slice a2 l.length c2,vn l.length,vF]) (fun _=>[]) (cR [[],[],[0],[]]<|jQ (fun ρ=>(decide (((l.length:Nat):Int)≤((u:Nat):Int)))) false (fun _=>(decide_eq_false (by omega)))<|cN) (fun _=>?_)
 refine oN ?_
 refine aG (aA ?_)
 refine iZ Tryz.f19 10 [2,3] [0,1] (fun ρ=>let qa:=vs (nb ρ 6) (([]:List UInt8)++(gS l u).b).length (aZ ρ 6);[vs (nb ρ 0) ([]:List UInt8).length 0,jp (nb ρ1 0) 3,.slice a2 l.length c2,vn u,.pointer (fK a2 u),.slice (gS l u).a (gS l u).b.length (gS l u).c,qa,vn u,qa,vn u]) (fun ρ=>[(0,(nw ρ 0 (cL #[] 5))),(6,(bD 1 (nb ρ 6) (cL (oc ρ 6) 5)))]) (fun ρ=>[(6,fun w=>Ap (oc ρ 6) (([]:List UInt8)++(gS l u).b) (aZ ρ 6))]) (fun _=>(fun w=>bM w a c ([oT k true ka kc])∧bI w a2 c2 l∧True)) (fun ρ=>Ap (oc ρ 6) (([]:List UInt8)++(gS l u).b) (aZ ρ 6)) (fun _ _ hF hf=>⟨hF,hf 6⟩) (cR [[],[],[0],[]]<|cX (qF (fun _ _ _ hG=>bI.idx (k:=.i64) Tryz.underlying29 Tryz.sizeOf37 hG.fn.2.1 rfl (show (((u:Nat):Int):Int)=((u:Nat):Int) from rfl) (show u<l.length from hu)))<|cX (qF (fun _ _ _ hG=>bI.ld Tryz.isAgg37 hG.fn.2.1 (show u<l.length from hu)))<|cX (qM 1 (fun ρ _ _ hG hg=>app_any (ty:=37) (g:=nb ρ 0) (C:= #[]) (c:=0) (xs:=([]:List UInt8)) Tryz.underlying37 nH (Ap.mk' (rfl:Hd #[] ([]:List UInt8)) (Nat.le_refl 0) (Nat.le_of_ble_eq_true rfl) rfl) (Bs.src (tx:=37) Tryz.underlying37 (hG.fn.2.1.sub _ (oH (show u<l.length from hu)))) (by rw [List.length_nil,Nat.zero_add];exact (hf1.sub _ (oH hu)).max) hg))<|jE [[],[],[]]) (fun ρ5 ap5_6=>?_)
 refine aF (mD [(2,(vs (nb ρ5 6) (([]:List UInt8)++(gS l u).b).length (aZ ρ5 6))),(3,(vn u))] [(nb ρ5 6,(cL (oc ρ5 6) 5))] ?_)
 exact mR (v:=(.tuple #[vs (nb ρ5 6) (([]:List UInt8)++(gS l u).b).length (aZ ρ5 6),vn u])) (fun _ hS=>⟨some ⟨nb ρ5 6,0,none⟩,aZ ρ5 6,congrArg Ending.returned (rfl),hS.bel,dU (rfl) (hS.fresh (.head _) ap5_6.hd ap5_6.le ap5_6.max)⟩)
theorem wfreshW_any (a:Option Addr) (c:Nat) (k:Ky) (ka:Option Addr) (kc:Nat) (x1:Int) (u:Nat) (a2:Option Addr) (c2:Nat) (l:List bU) (hu:u<l.length) (w0:World) (hf0:bM w0 a c ([oT k true ka kc])) (hf1:bI w0 a2 c2 l):Calls Tryz.prog 18 #[.agg #[.slice a ([oT k true ka kc]).length c,vi x1,vn u,.slice a2 l.length c2]] w0 (fun ε w'=>∃ α κ,ε=.returned (.tuple #[.slice α (gS l u).b.length κ,vn u])∧jG w0 w'∧Fs w0 w' α κ (gS l u).b):=by
 refine Calls.of_ok (n:=26) (F:=(fun w=>bM w a c ([oT k true ka kc])∧bI w a2 c2 l∧True)) Tryz.func18 rfl rfl rfl (by simp) (hf0.pers0.and (hf1.pers0.and cO)) ?_
 refine sS Tryz.f18 3 [1,2,3] [] (fun ρ=>[pt (nb ρ 0),vz,vi 0]) (fun ρ=>[(0,(nw ρ 0 (cL #[.slice a ([oT k true ka kc]).length c,vi x1,vn u,.slice a2 l.length c2] 31)))]) (jE [[],[],[]]) (fun ρ1=>?_)
 refine jJ Tryz.f18 1 [1,2,3,4] [vi 0] (aB ?_)
 refine sS Tryz.f18 3 [1,2,3,4,7] [] (fun _=>[pt (nb ρ1 0),.slice a ([oT k true ka kc]).length c,vT]) (fun _=>[]) (cR [[],[0]]<|cX (lN _ 32 (fun _=> #[.slice a ([oT k true ka kc]).length c]) (fun _=>vT) (fun _ _=>(by kernel_rfl)) (fun _=>(by kernel_rfl)) (fun _ _=>(by kernel_rfl)) (fun _ _=>trivial) (fun _ _ w hG=>(by as_aux_lemma=>(have hcall:=wO a c ([oT k true ka kc]) w hG.fn.1;rw [oT_rg] at hcall;exact hcall))))<|cN) (fun _=>?_)
 refine oY ?_
 refine jL Tryz.f18 3 [1,2,3,4] [] [jp (nb ρ1 0) 2,vn u,vn u] [[],[0],[]] (aA (aB ?_))
 refine sS Tryz.f18 9 [1,2,3,4,18] [] (fun _=>[vn u,vF,vF,vn u,jp (nb ρ1 0) 3,.slice a2 l.length c2,vn l.length,vF,vF]) (fun _=>[]) (cR [[]]<|jQ (fun ρ=>(decide (((u:Nat):Int)<0))) false (fun _=>(decide_eq_false (by omega)))<|cR [[],[],[],[0],[]]<|jQ (fun ρ=>(decide (((l.length:Nat):Int)≤((u:Nat):Int)))) false (fun _=>(decide_eq_false (by omega)))<|jE [[]]) (fun _=>?_)
 refine oN ?_
 refine aG (aA ?_)
 refine iZ Tryz.f18 9 [2,3] [0] (fun ρ=>let qa:Value:=.slice (oa ρ 5) (gS l u).b.length (nb ρ 5);[jp (nb ρ1 0) 3,.slice a2 l.length c2,vn u,.pointer (fK a2 u),.slice (gS l u).a (gS l u).b.length (gS l u).c,qa,vn u,qa,vn u]) (fun _=>[]) (fun ρ=>[(5,fun w=>Fs w0 w (oa ρ 5) (nb ρ 5) (gS l u).b)]) (fun ρ=>(fun w=>bM w a c ([oT k true ka kc])∧bI w a2 c2 l∧Fs w0 w (oa ρ 5) (nb ρ 5) (gS l u).b∧True)) (fun _=>True) (fun _ _ hF hf=>⟨⟨hF.1,hF.2.1,hf 5,trivial⟩,trivial⟩) (cR [[],[0],[]]<|cX (qF (fun _ _ _ hG=>bI.idx (k:=.i64) Tryz.underlying29 Tryz.sizeOf37 hG.fn.2.1 rfl (show (((u:Nat):Int):Int)=((u:Nat):Int) from rfl) (show u<l.length from hu)))<|cX (qF (fun _ _ _ hG=>bI.ld Tryz.isAgg37 hG.fn.2.1 (show u<l.length from hu)))<|cX (qB (fun _ _ w hG=>xBB (gS l u).a (gS l u).c (gS l u).b w (hG.fn.2.1.sub _ (oH (show u<l.length from hu)))))<|jE [[],[],[]]) (fun ρ6 _=>?_)
 refine aF (mD [(2,(.slice (oa ρ6 5) (gS l u).b.length (nb ρ6 5))),(3,(vn u))] [] ?_)
 exact mR (v:=(.tuple #[.slice (oa ρ6 5) (gS l u).b.length (nb ρ6 5),vn u])) (fun _ hS=>⟨oa ρ6 5,nb ρ6 5,congrArg Ending.returned (rfl),hS.bel,dU (rfl) hS.facts.now.2.2.1⟩)
set_option maxHeartbeats 800000 in
theorem rsameT_any (a:Option Addr) (c:Nat) (k:Ky) (wd:Bool) (ka:Option Addr) (kc:Nat) (a2:Option Addr) (c2:Nat) (kb:Option Addr) (kd:Nat) (_hk:k.Ok) (_hd:rng k.d) (w0:World) (hf0:bM w0 a c ([oT k wd ka kc])) (hf1:bM w0 a2 c2 ([oT k wd kb kd])):Calls Tryz.prog 38 #[.slice a ([oT k wd ka kc]).length c,.slice a2 ([oT k wd kb kd]).length c2] w0 (jR vT w0):=by
 refine Calls.of_ok (n:=122) (F:=(fun w=>bM w a c ([oT k wd ka kc])∧bM w a2 c2 ([oT k wd kb kd])∧True)) Tryz.func38 rfl rfl rfl (by simp) (hf0.pers0.and (hf1.pers0.and cO)) ?_
 have ho:mP ([oT k wd ka kc]):=hf0.oks
 refine jJ Tryz.f38 1 [0,1,4] [vF] (aB (jJ Tryz.f38 5 [0,1,4,16] [.slice a ([oT k wd ka kc]).length c,vi 1,.slice a2 ([oT k wd kb kd]).length c2,vi 1,vF] ?_))
 refine oN ?_
 refine aG (aA (aB (jJ Tryz.f38 1 [0,1,4,5] [vi 0] (aI ?_))))
 refine jY 2 ?_
 refine dI ?_
 refine aB (jJ Tryz.f38 4 [0,1,4,5,17,18,19,20] [vi 0,.slice a ([oT k wd ka kc]).length c,vi 1,vT] ?_)
 refine oY ?_
 refine aG (aA (aB (aI ?_)))
 refine sD Tryz.f38 [0,0,3,7,0,0,48,112,0,0,783,2047] 12 [0,1,4,5,6,7,17,18,19,20,23,24,25,26,27,28,29,30] [] (fun ρ=>[.slice a ([oT k wd ka kc]).length c,vi 0,.pointer (fK a (0*36)),.agg (bW.row (gT ([oT k wd ka kc]) 0)),.slice a2 ([oT k wd kb kd]).length c2,vi 0,.pointer (fK a2 (0*36)),.agg (bW.row (gT ([oT k wd kb kd]) 0)),pt (nb ρ 8),pt (nb ρ 9),undef,undef]) (fun ρ=>[(8,(nw ρ 8 (cL (iC 0 0 0 0 vz) 60))),(9,(nw ρ 9 (cL (iC 0 0 0 0 vz) 60))),(10,(bD 64 (nb ρ 8) (cL (bW.row (gT ([oT k wd ka kc]) 0)) 60))),(11,(bD 72 (nb ρ 9) (cL (bW.row (gT ([oT k wd kb kd]) 0)) 60)))]) (cR [[],[]]<|cX (qF (fun _ _ _ hG=>bM.idx (k:=.i64) Tryz.underlying24 Tryz.sizeOf60 hG.fn.1 rfl (show (0:Int)=((0:Nat):Int) from rfl) (show 0<([oT k wd ka kc]).length from Nat.le_of_ble_eq_true rfl)))<|cX (qF (fun _ _ _ hG=>bM.ldA (i:=0) Tryz.isAgg60 Tryz.sizeOf60 hG.fn.1 (show 0<([oT k wd ka kc]).length from Nat.le_of_ble_eq_true rfl)))<|cR [[],[]]<|cX (qF (fun _ _ _ hG=>bM.idx (k:=.i64) Tryz.underlying24 Tryz.sizeOf60 hG.fn.2.1 rfl (show (0:Int)=((0:Nat):Int) from rfl) (show 0<([oT k wd kb kd]).length from Nat.le_of_ble_eq_true rfl)))<|cX (qF (fun _ _ _ hG=>bM.ldA (i:=0) Tryz.isAgg60 Tryz.sizeOf60 hG.fn.2.1 (show 0<([oT k wd kb kd]).length from Nat.le_of_ble_eq_true rfl)))<|jE [[],[],[64],[72]]) (fun ρ5=>?_)
 refine aB ?_
 refine sS Tryz.f38 35 [0,1,4,5,6,7,17,18,19,20,23,24,25,26,27,28,29,30,31,32,33,34,35,36,37,38,39,40,41,42,43,44,45,46,47,48,49,50,51,52,53,54,55,56,57,58,59,60,61,62,63,64,65] [] (fun _=>[pt (nb ρ5 8),vi (gT ([oT k wd ka kc]) 0).kd,pt (nb ρ5 9),vi (gT ([oT k wd kb kd]) 0).kd,vF,vF,jp (nb ρ5 8) 1,vi (gT ([oT k wd ka kc]) 0).m,jp (nb ρ5 9) 1,vi (gT ([oT k wd kb kd]) 0).m,vF,vF,vF,jp (nb ρ5 8) 2,vu ((gT ([oT k wd ka kc]) 0).nu),jp (nb ρ5 9) 2,vu ((gT ([oT k wd kb kd]) 0).nu),vF,vF,vF,jp (nb ρ5 8) 3,.agg (hB (gT ([oT k wd ka kc]) 0).h),jp (nb ρ5 9) 3,.agg (hB (gT ([oT k wd kb kd]) 0).h),vF,vF,vF,jp (nb ρ5 8) 35,.slice (gT ([oT k wd ka kc]) 0).ka (gT ([oT k wd ka kc]) 0).ks.length (gT ([oT k wd ka kc]) 0).kc,vn (gT ([oT k wd ka kc]) 0).ks.length,jp (nb ρ5 9) 35,.slice (gT ([oT k wd kb kd]) 0).ka (gT ([oT k wd kb kd]) 0).ks.length (gT ([oT k wd kb kd]) 0).kc,vn (gT ([oT k wd kb kd]) 0).ks.length,vF,vF]) (fun _=>[]) (cR [[],[0],[],[1]]<|jQ (fun ρ=>((gT ([oT k wd ka kc]) 0).kd != (gT ([oT k wd kb kd]) 0).kd)) false (fun _=>(by simp [oT,pT,gT]))<|cR [[],[],[0],[],[1]]<|jQ (fun ρ=>((gT ([oT k wd ka kc]) 0).m != (gT ([oT k wd kb kd]) 0).m)) false (fun _=>(by simp [oT,pT,gT]))<|cR [[],[],[],[0],[],[1]]<|jQ (fun ρ=>((((gT ([oT k wd ka kc]) 0).nu:Nat):Int) != (((gT ([oT k wd kb kd]) 0).nu:Nat):Int))) false (fun _=>(by simp [oT,pT,gT]))<|cR [[],[],[],[0],[],[1]]<|cB (a:=fun ρ=>(.agg (hB (gT ([oT k wd ka kc]) 0).h))) (b:=fun ρ=>(.agg (hB (gT ([oT k wd kb kd]) 0).h))) (v:=fun ρ=>vF) .neq 57 (fun _ _=>(neqH (gT ([oT k wd ka kc]) 0).h (gT ([oT k wd kb kd]) 0).h (ho.gT 0).h (ho.gT 0).h _).trans (by rw [(decide_eq_true (show (gT ([oT k wd ka kc]) 0).h=(gT ([oT k wd kb kd]) 0).h from rfl))];try rfl))<|cR [[],[],[],[0],[],[],[1],[]]<|jQ (fun ρ=>((((gT ([oT k wd ka kc]) 0).ks.length:Nat):Int) != (((gT ([oT k wd kb kd]) 0).ks.length:Nat):Int))) false (fun _=>(by simp [oT,pT,gT]))<|jE [[]]) (fun _=>?_)
 refine oN ?_
 refine aG (aA (jJ Tryz.f38 1 [0,1,4,5,6,7,8,17,18,19,20,23,24,25,26,27,28,29,30,31,32,33,34,35,36,37,38,39,40,41,42,43,44,45,46,47,48,49,50,51,52,53,54,55,56,57,58,59,60,61,62,63,64,65] [vi 0] ?_))
 refine lK [(0,(.slice a ([oT k wd ka kc]).length c)),(1,(.slice a2 ([oT k wd kb kd]).length c2)),(4,vF),(5,(vi 0)),(6,(pt (nb ρ5 8))),(7,(pt (nb ρ5 9))),(8,(vi 0)),(17,(vi 0)),(18,(.slice a ([oT k wd ka kc]).length c)),(19,(vi 1)),(20,vT),(23,(.slice a ([oT k wd ka kc]).length c)),(24,(vi 0)),(25,(.pointer (fK a (0*36)))),(26,(.agg (bW.row (gT ([oT k wd ka kc]) 0)))),(27,(.slice a2 ([oT k wd kb kd]).length c2)),(28,(vi 0)),(29,(.pointer (fK a2 (0*36)))),(30,(.agg (bW.row (gT ([oT k wd kb kd]) 0)))),(31,(pt (nb ρ5 8))),(32,(vi (gT ([oT k wd ka kc]) 0).kd)),(33,(pt (nb ρ5 9))),(34,(vi (gT ([oT k wd kb kd]) 0).kd)),(35,vF),(36,vF),(37,(jp (nb ρ5 8) 1)),(38,(vi (gT ([oT k wd ka kc]) 0).m)),(39,(jp (nb ρ5 9) 1)),(40,(vi (gT ([oT k wd kb kd]) 0).m)),(41,vF),(42,vF),(43,vF),(44,(jp (nb ρ5 8) 2)),(45,(vu ((gT ([oT k wd ka kc]) 0).nu))),(46,(jp (nb ρ5 9) 2)),(47,(vu ((gT ([oT k wd kb kd]) 0).nu))),(48,vF),(49,vF),(50,vF),(51,(jp (nb ρ5 8) 3)),(52,(.agg (hB (gT ([oT k wd ka kc]) 0).h))),(53,(jp (nb ρ5 9) 3)),(54,(.agg (hB (gT ([oT k wd kb kd]) 0).h))),(55,vF),(56,vF),(57,vF),(58,(jp (nb ρ5 8) 35)),(59,(.slice (gT ([oT k wd ka kc]) 0).ka (gT ([oT k wd ka kc]) 0).ks.length (gT ([oT k wd ka kc]) 0).kc)),(60,(vn (gT ([oT k wd ka kc]) 0).ks.length)),(61,(jp (nb ρ5 9) 35)),(62,(.slice (gT ([oT k wd kb kd]) 0).ka (gT ([oT k wd kb kd]) 0).ks.length (gT ([oT k wd kb kd]) 0).kc)),(63,(vn (gT ([oT k wd kb kd]) 0).ks.length)),(64,vF),(65,vF)] [(nb ρ5 8,(cL (bW.row (gT ([oT k wd ka kc]) 0)) 60)),(nb ρ5 9,(cL (bW.row (gT ([oT k wd kb kd]) 0)) 60))] ?_
 refine aI ?_
 refine jY 2 ?_
 refine dI ?_
 refine aB ?_
 refine sS Tryz.f38 5 [0,1,4,5,6,7,8,17,18,19,20,23,24,25,26,27,28,29,30,31,32,33,34,35,36,37,38,39,40,41,42,43,44,45,46,47,48,49,50,51,52,53,54,55,56,57,58,59,60,61,62,63,64,65,66,67,68,69,70] [] (fun _=>[vi 0,jp (nb ρ5 8) 35,.slice (gT ([oT k wd ka kc]) 0).ka (gT ([oT k wd ka kc]) 0).ks.length (gT ([oT k wd ka kc]) 0).kc,vn (gT ([oT k wd ka kc]) 0).ks.length,vT]) (fun _=>[]) (cR [[],[],[0],[]]<|jQ (fun ρ=>(decide (0<(((gT ([oT k wd ka kc]) 0).ks.length:Nat):Int)))) true (fun _=>(by simp [oT,pT,gT]))<|cN) (fun _=>?_)
 refine oY ?_
 refine aG (aA (aB (aI ?_)))
 refine sD Tryz.f38 [0,1,0,7,15,0,32,0,224,480,0,0,3103,8191] 14 [0,1,4,5,6,7,8,9,10,17,18,19,20,23,24,25,26,27,28,29,30,31,32,33,34,35,36,37,38,39,40,41,42,43,44,45,46,47,48,49,50,51,52,53,54,55,56,57,58,59,60,61,62,63,64,65,66,67,68,69,70,73,74,75,76,77,78,79,80,81,82] [] (fun ρ=>[jp (nb ρ5 8) 35,.slice (gT ([oT k wd ka kc]) 0).ka (gT ([oT k wd ka kc]) 0).ks.length (gT ([oT k wd ka kc]) 0).kc,vi 0,.pointer (fK (gT ([oT k wd ka kc]) 0).ka (0*45)),.agg (dO.row (gK (gT ([oT k wd ka kc]) 0).ks 0)),jp (nb ρ5 9) 35,.slice (gT ([oT k wd kb kd]) 0).ka (gT ([oT k wd kb kd]) 0).ks.length (gT ([oT k wd kb kd]) 0).kc,vi 0,.pointer (fK (gT ([oT k wd kb kd]) 0).ka (0*45)),.agg (dO.row (gK (gT ([oT k wd kb kd]) 0).ks 0)),pt (nb ρ 10),pt (nb ρ 11),undef,undef]) (fun ρ=>[(10,(nw ρ 10 (cL (kM 0 0 0 0 0 0 vz vF) 69))),(11,(nw ρ 11 (cL (kM 0 0 0 0 0 0 vz vF) 69))),(12,(bD 82 (nb ρ 10) (cL (dO.row (gK (gT ([oT k wd ka kc]) 0).ks 0)) 69))),(13,(bD 90 (nb ρ 11) (cL (dO.row (gK (gT ([oT k wd kb kd]) 0).ks 0)) 69)))]) (cR [[],[0],[]]<|cX (qF (fun _ _ _ hG=>oG.idx (k:=.i64) Tryz.underlying58 Tryz.sizeOf69 (hG.fn.1.sub _ (fA (show 0<([oT k wd ka kc]).length from Nat.le_of_ble_eq_true rfl))) rfl (show (0:Int)=((0:Nat):Int) from rfl) (show 0<(gT ([oT k wd ka kc]) 0).ks.length from Nat.le_of_ble_eq_true rfl)))<|cX (qF (fun _ _ _ hG=>oG.ldA (i:=0) Tryz.isAgg69 Tryz.sizeOf69 (hG.fn.1.sub _ (fA (show 0<([oT k wd ka kc]).length from Nat.le_of_ble_eq_true rfl))) (show 0<(gT ([oT k wd ka kc]) 0).ks.length from Nat.le_of_ble_eq_true rfl)))<|cR [[],[1],[]]<|cX (qF (fun _ _ _ hG=>oG.idx (k:=.i64) Tryz.underlying58 Tryz.sizeOf69 (hG.fn.2.1.sub _ (fA (show 0<([oT k wd kb kd]).length from Nat.le_of_ble_eq_true rfl))) rfl (show (0:Int)=((0:Nat):Int) from rfl) (show 0<(gT ([oT k wd kb kd]) 0).ks.length from Nat.le_of_ble_eq_true rfl)))<|cX (qF (fun _ _ _ hG=>oG.ldA (i:=0) Tryz.isAgg69 Tryz.sizeOf69 (hG.fn.2.1.sub _ (fA (show 0<([oT k wd kb kd]).length from Nat.le_of_ble_eq_true rfl))) (show 0<(gT ([oT k wd kb kd]) 0).ks.length from Nat.le_of_ble_eq_true rfl)))<|jE [[],[],[82],[90]]) (fun ρ9=>?_)
 refine aB ?_
 refine sS Tryz.f38 21 [0,1,4,5,6,7,8,9,10,17,18,19,20,23,24,25,26,27,28,29,30,31,32,33,34,35,36,37,38,39,40,41,42,43,44,45,46,47,48,49,50,51,52,53,54,55,56,57,58,59,60,61,62,63,64,65,66,67,68,69,70,73,74,75,76,77,78,79,80,81,82,83,84,85,86,87,88,89,90,91,92,93,94,95,96,97,98,99,100,101,102,103] [] (fun _=>[pt (nb ρ9 10),.agg (kY (gK (gT ([oT k wd ka kc]) 0).ks 0).k),pt (nb ρ9 11),.agg (kY (gK (gT ([oT k wd kb kd]) 0).ks 0).k),vF,vF,jp (nb ρ9 10) 44,.bool (gK (gT ([oT k wd ka kc]) 0).ks 0).wd,jp (nb ρ9 11) 44,.bool (gK (gT ([oT k wd kb kd]) 0).ks 0).wd,vF,vF,vF,jp (nb ρ9 10) 43,.slice (gK (gT ([oT k wd ka kc]) 0).ks 0).pa (nI (gK (gT ([oT k wd ka kc]) 0).ks 0).ps).length (gK (gT ([oT k wd ka kc]) 0).ks 0).pc,vn (nI (gK (gT ([oT k wd ka kc]) 0).ks 0).ps).length,jp (nb ρ9 11) 43,.slice (gK (gT ([oT k wd kb kd]) 0).ks 0).pa (nI (gK (gT ([oT k wd kb kd]) 0).ks 0).ps).length (gK (gT ([oT k wd kb kd]) 0).ks 0).pc,vn (nI (gK (gT ([oT k wd kb kd]) 0).ks 0).ps).length,vF,vF]) (fun _=>[]) (cR [[],[2],[],[3]]<|cB (a:=fun ρ=>(.agg (kY (gK (gT ([oT k wd ka kc]) 0).ks 0).k))) (b:=fun ρ=>(.agg (kY (gK (gT ([oT k wd kb kd]) 0).ks 0).k))) (v:=fun ρ=>vF) .neq 66 (fun _ w=>neq_eq (rfl) w)<|cR [[],[],[2],[],[3]]<|jQ (fun ρ=>((gK (gT ([oT k wd ka kc]) 0).ks 0).wd != (gK (gT ([oT k wd kb kd]) 0).ks 0).wd)) false (fun _=>(by simp [oT,pT,gT,gK]))<|cR [[],[],[],[2],[],[],[3],[]]<|jQ (fun ρ=>((((nI (gK (gT ([oT k wd ka kc]) 0).ks 0).ps).length:Nat):Int) != (((nI (gK (gT ([oT k wd kb kd]) 0).ks 0).ps).length:Nat):Int))) false (fun _=>(by simp [oT,pT,gT,gK,nI]))<|jE [[]]) (fun _=>?_)
 refine oN ?_
 refine aG (aA (jJ Tryz.f38 1 [0,1,4,5,6,7,8,9,10,11,17,18,19,20,23,24,25,26,27,28,29,30,31,32,33,34,35,36,37,38,39,40,41,42,43,44,45,46,47,48,49,50,51,52,53,54,55,56,57,58,59,60,61,62,63,64,65,66,67,68,69,70,73,74,75,76,77,78,79,80,81,82,83,84,85,86,87,88,89,90,91,92,93,94,95,96,97,98,99,100,101,102,103] [vi 0] (aI ?_)))
 refine jY 1 ?_
 refine dI ?_
 refine aB ?_
 refine sS Tryz.f38 5 [0,1,4,5,6,7,8,9,10,11,17,18,19,20,23,24,25,26,27,28,29,30,31,32,33,34,35,36,37,38,39,40,41,42,43,44,45,46,47,48,49,50,51,52,53,54,55,56,57,58,59,60,61,62,63,64,65,66,67,68,69,70,73,74,75,76,77,78,79,80,81,82,83,84,85,86,87,88,89,90,91,92,93,94,95,96,97,98,99,100,101,102,103,104,105,106,107,108] [] (fun _=>[vi 0,jp (nb ρ9 10) 43,.slice (gK (gT ([oT k wd ka kc]) 0).ks 0).pa (nI (gK (gT ([oT k wd ka kc]) 0).ks 0).ps).length (gK (gT ([oT k wd ka kc]) 0).ks 0).pc,vn (nI (gK (gT ([oT k wd ka kc]) 0).ks 0).ps).length,vF]) (fun _=>[]) (cR [[],[],[2],[]]<|jQ (fun ρ=>(decide (0<(((nI (gK (gT ([oT k wd ka kc]) 0).ks 0).ps).length:Nat):Int)))) false (fun _=>(by simp [oT,pT,gT,gK,nI]))<|cN) (fun _=>?_)
 refine oN ?_
 refine bF (aN (aN (aT (aJ (aA (jL Tryz.f38 3 [0,1,4,5,6,7,8,9,10,11,17,18,19,20,23,24,25,26,27,28,29,30,31,32,33,34,35,36,37,38,39,40,41,42,43,44,45,46,47,48,49,50,51,52,53,54,55,56,57,58,59,60,61,62,63,64,65,66,67,68,69,70,71,72,73,74,75,76,77,78,79,80,81,82,83,84,85,86,87,88,89,90,91,92,93,94,95,96,97,98,99,100,101,102,103,104,105,106,107,108] [] [vi 0,vi 1,vi 1] [[],[],[]] (dV ?_)))))))
 refine dI ?_
 refine aB ?_
 refine sS Tryz.f38 5 [0,1,4,5,6,7,8,9,10,11,17,18,19,20,23,24,25,26,27,28,29,30,31,32,33,34,35,36,37,38,39,40,41,42,43,44,45,46,47,48,49,50,51,52,53,54,55,56,57,58,59,60,61,62,63,64,65,66,67,68,69,70,71,72,73,74,75,76,77,78,79,80,81,82,83,84,85,86,87,88,89,90,91,92,93,94,95,96,97,98,99,100,101,102,103,104,105,106,107,108] [] (fun _=>[vi 1,jp (nb ρ5 8) 35,.slice (gT ([oT k wd ka kc]) 0).ka (gT ([oT k wd ka kc]) 0).ks.length (gT ([oT k wd ka kc]) 0).kc,vn (gT ([oT k wd ka kc]) 0).ks.length,vF]) (fun _=>[]) (cR [[],[],[0],[]]<|jQ (fun ρ=>(decide (1<(((gT ([oT k wd ka kc]) 0).ks.length:Nat):Int)))) false (fun _=>(by simp [oT,pT,gT]))<|cN) (fun _=>?_)
 refine lK [(0,(.slice a ([oT k wd ka kc]).length c)),(1,(.slice a2 ([oT k wd kb kd]).length c2)),(4,vF),(5,(vi 0)),(6,(pt (nb ρ5 8))),(7,(pt (nb ρ5 9))),(8,(vi 1)),(9,(pt (nb ρ9 10))),(10,(pt (nb ρ9 11))),(11,(vi 0)),(17,(vi 0)),(18,(.slice a ([oT k wd ka kc]).length c)),(19,(vi 1)),(20,vT),(23,(.slice a ([oT k wd ka kc]).length c)),(24,(vi 0)),(25,(.pointer (fK a (0*36)))),(26,(.agg (bW.row (gT ([oT k wd ka kc]) 0)))),(27,(.slice a2 ([oT k wd kb kd]).length c2)),(28,(vi 0)),(29,(.pointer (fK a2 (0*36)))),(30,(.agg (bW.row (gT ([oT k wd kb kd]) 0)))),(31,(pt (nb ρ5 8))),(32,(vi (gT ([oT k wd ka kc]) 0).kd)),(33,(pt (nb ρ5 9))),(34,(vi (gT ([oT k wd kb kd]) 0).kd)),(35,vF),(36,vF),(37,(jp (nb ρ5 8) 1)),(38,(vi (gT ([oT k wd ka kc]) 0).m)),(39,(jp (nb ρ5 9) 1)),(40,(vi (gT ([oT k wd kb kd]) 0).m)),(41,vF),(42,vF),(43,vF),(44,(jp (nb ρ5 8) 2)),(45,(vu ((gT ([oT k wd ka kc]) 0).nu))),(46,(jp (nb ρ5 9) 2)),(47,(vu ((gT ([oT k wd kb kd]) 0).nu))),(48,vF),(49,vF),(50,vF),(51,(jp (nb ρ5 8) 3)),(52,(.agg (hB (gT ([oT k wd ka kc]) 0).h))),(53,(jp (nb ρ5 9) 3)),(54,(.agg (hB (gT ([oT k wd kb kd]) 0).h))),(55,vF),(56,vF),(57,vF),(58,(jp (nb ρ5 8) 35)),(59,(.slice (gT ([oT k wd ka kc]) 0).ka (gT ([oT k wd ka kc]) 0).ks.length (gT ([oT k wd ka kc]) 0).kc)),(60,(vn (gT ([oT k wd ka kc]) 0).ks.length)),(61,(jp (nb ρ5 9) 35)),(62,(.slice (gT ([oT k wd kb kd]) 0).ka (gT ([oT k wd kb kd]) 0).ks.length (gT ([oT k wd kb kd]) 0).kc)),(63,(vn (gT ([oT k wd kb kd]) 0).ks.length)),(64,vF),(65,vF),(66,(vi 1)),(67,(jp (nb ρ5 8) 35)),(68,(.slice (gT ([oT k wd ka kc]) 0).ka (gT ([oT k wd ka kc]) 0).ks.length (gT ([oT k wd ka kc]) 0).kc)),(69,(vn (gT ([oT k wd ka kc]) 0).ks.length)),(70,vF),(71,(vi 0)),(72,(vi 1)),(73,(jp (nb ρ5 8) 35)),(74,(.slice (gT ([oT k wd ka kc]) 0).ka (gT ([oT k wd ka kc]) 0).ks.length (gT ([oT k wd ka kc]) 0).kc)),(75,(vi 0)),(76,(.pointer (fK (gT ([oT k wd ka kc]) 0).ka (0*45)))),(77,(.agg (dO.row (gK (gT ([oT k wd ka kc]) 0).ks 0)))),(78,(jp (nb ρ5 9) 35)),(79,(.slice (gT ([oT k wd kb kd]) 0).ka (gT ([oT k wd kb kd]) 0).ks.length (gT ([oT k wd kb kd]) 0).kc)),(80,(vi 0)),(81,(.pointer (fK (gT ([oT k wd kb kd]) 0).ka (0*45)))),(82,(.agg (dO.row (gK (gT ([oT k wd kb kd]) 0).ks 0)))),(83,(pt (nb ρ9 10))),(84,(.agg (kY (gK (gT ([oT k wd ka kc]) 0).ks 0).k))),(85,(pt (nb ρ9 11))),(86,(.agg (kY (gK (gT ([oT k wd kb kd]) 0).ks 0).k))),(87,vF),(88,vF),(89,(jp (nb ρ9 10) 44)),(90,(.bool (gK (gT ([oT k wd ka kc]) 0).ks 0).wd)),(91,(jp (nb ρ9 11) 44)),(92,(.bool (gK (gT ([oT k wd kb kd]) 0).ks 0).wd)),(93,vF),(94,vF),(95,vF),(96,(jp (nb ρ9 10) 43)),(97,(.slice (gK (gT ([oT k wd ka kc]) 0).ks 0).pa (nI (gK (gT ([oT k wd ka kc]) 0).ks 0).ps).length (gK (gT ([oT k wd ka kc]) 0).ks 0).pc)),(98,(vn (nI (gK (gT ([oT k wd ka kc]) 0).ks 0).ps).length)),(99,(jp (nb ρ9 11) 43)),(100,(.slice (gK (gT ([oT k wd kb kd]) 0).ks 0).pa (nI (gK (gT ([oT k wd kb kd]) 0).ks 0).ps).length (gK (gT ([oT k wd kb kd]) 0).ks 0).pc)),(101,(vn (nI (gK (gT ([oT k wd kb kd]) 0).ks 0).ps).length)),(102,vF),(103,vF),(104,(vi 0)),(105,(jp (nb ρ9 10) 43)),(106,(.slice (gK (gT ([oT k wd ka kc]) 0).ks 0).pa (nI (gK (gT ([oT k wd ka kc]) 0).ks 0).ps).length (gK (gT ([oT k wd ka kc]) 0).ks 0).pc)),(107,(vn (nI (gK (gT ([oT k wd ka kc]) 0).ks 0).ps).length)),(108,vF)] [(nb ρ5 8,(cL (bW.row (gT ([oT k wd ka kc]) 0)) 60)),(nb ρ5 9,(cL (bW.row (gT ([oT k wd kb kd]) 0)) 60)),(nb ρ9 10,(cL (dO.row (gK (gT ([oT k wd ka kc]) 0).ks 0)) 69)),(nb ρ9 11,(cL (dO.row (gK (gT ([oT k wd kb kd]) 0).ks 0)) 69))] ?_
 refine oN ?_
 refine bF (aN (aN (aT (aJ (aA (jL Tryz.f38 3 [0,1,4,5,6,7,8,9,10,11,17,18,19,20,21,22,23,24,25,26,27,28,29,30,31,32,33,34,35,36,37,38,39,40,41,42,43,44,45,46,47,48,49,50,51,52,53,54,55,56,57,58,59,60,61,62,63,64,65,66,67,68,69,70,71,72,73,74,75,76,77,78,79,80,81,82,83,84,85,86,87,88,89,90,91,92,93,94,95,96,97,98,99,100,101,102,103,104,105,106,107,108] [] [vi 0,vi 1,vi 1] [[],[],[]] (dV ?_)))))))
 refine dI ?_
 refine aB (jJ Tryz.f38 4 [0,1,4,5,6,7,8,9,10,11,17,18,19,20,21,22,23,24,25,26,27,28,29,30,31,32,33,34,35,36,37,38,39,40,41,42,43,44,45,46,47,48,49,50,51,52,53,54,55,56,57,58,59,60,61,62,63,64,65,66,67,68,69,70,71,72,73,74,75,76,77,78,79,80,81,82,83,84,85,86,87,88,89,90,91,92,93,94,95,96,97,98,99,100,101,102,103,104,105,106,107,108] [vi 1,.slice a ([oT k wd ka kc]).length c,vi 1,vF] ?_)
 refine oN ?_
 refine bF (aN (aN (aT (aA (jM Tryz.f38 1 [4] [0,0,0,0] [vT] [[]] (aF ?_))))))
 exact mR (v:=vT) (fun _ hS=>⟨rfl,hS.bel⟩)
theorem wsame_any (a:Option Addr) (c:Nat) (l:List bU) (a2:Option Addr) (c2:Nat) (m:List bU) (he:sB l=sB m) (w0:World) (hf0:bI w0 a c l) (hf1:bI w0 a2 c2 m):Calls Tryz.prog 23 #[.slice a l.length c,.slice a2 m.length c2] w0 (jR vT w0):=by
 refine Calls.of_ok (n:=27) (F:=(fun w=>bI w a c l∧bI w a2 c2 m∧True)) Tryz.func23 rfl rfl rfl (by simp) (hf0.pers0.and (hf1.pers0.and cO)) ?_
 have hlen:l.length≤140737488351232:=hf0.max
 have hle:l.length=m.length:=sB_eqlen he
 refine jJ Tryz.f23 1 [0,1,4] [vF] (aB ?_)
 refine sS Tryz.f23 5 [0,1,4,10] [] (fun _=>[.slice a l.length c,vn l.length,.slice a2 m.length c2,vn m.length,vF]) (fun _=>[]) (cR [[],[],[],[]]<|jQ (fun ρ=>(((l.length:Nat):Int) != ((m.length:Nat):Int))) false (fun _=>(bne_f (by have:=sB_eqlen he;omega)))<|cN) (fun _=>?_)
 refine oN ?_
 refine aG (aA (aB (jJ Tryz.f23 1 [0,1,4,5] [vi 0] (aI ?_))))
 refine oL (σ:=Nat) (fun i=>[(0,(.slice a l.length c)),(1,(.slice a2 m.length c2)),(5,(vn i))]) (fun _=>[]) (fun i=>l.length-i)
   (fun i=>(i≤l.length)) 0 (Nat.zero_le _) [] ?_
 rintro i hi
 change Ok Tryz.prog _ _ 27 [(0,(.slice a l.length c)),(1,(.slice a2 m.length c2)),(5,(vn i))] _ [] (fun w=>bI w a c l∧bI w a2 c2 m∧True)
 refine aB (jJ Tryz.f23 4 [0,1,5,14] [vn i,.slice a l.length c,vn l.length,.bool (decide (((i:Nat):Int)<((l.length:Nat):Int)))] ?_)
 refine oC (decide (((i:Nat):Int)<((l.length:Nat):Int))) (fun hb1=>?_) (fun hb1=>?_)
 ·
  rw [hb1]
  have:=yT hb1
  refine aG (aA (aB (aI ?_)))
  refine sD Tryz.f23 [0,0,3,7,0,0,48,112,255,511] 10 [0,1,5,26] [] (fun _=>[.slice a l.length c,vn i,.pointer (fK a i),.slice (gS l i).a (gS l i).b.length (gS l i).c,.slice a2 m.length c2,vn i,.pointer (fK a2 i),.slice (gS m i).a (gS m i).b.length (gS m i).c,vT,vF]) (fun _=>[]) (cR [[],[]]<|cX (qF (fun _ _ _ hG=>bI.idx (k:=.i64) Tryz.underlying29 Tryz.sizeOf37 hG.fn.1 rfl (show ((i:Nat):Int)=((i:Nat):Int) from rfl) (show i<l.length from (by omega))))<|cX (qF (fun _ _ _ hG=>bI.ld Tryz.isAgg37 hG.fn.1 (show i<l.length from (by omega))))<|cR [[],[]]<|cX (qF (fun _ _ _ hG=>bI.idx (k:=.i64) Tryz.underlying29 Tryz.sizeOf37 hG.fn.2.1 rfl (show ((i:Nat):Int)=((i:Nat):Int) from rfl) (show i<m.length from (by omega))))<|cX (qF (fun _ _ _ hG=>bI.ld Tryz.isAgg37 hG.fn.2.1 (show i<m.length from (by omega))))<|cX (lN _ 20 (fun _=> #[.slice (gS l i).a (gS l i).b.length (gS l i).c,.slice (gS m i).a (gS m i).b.length (gS m i).c]) (fun _=>vT) (fun _ _=>(by kernel_rfl)) (fun _=>(by kernel_rfl)) (fun _ _=>(by kernel_rfl)) (fun _ _=>trivial) (fun _ _ w hG=>(by as_aux_lemma=>(have hcall:=xAY (gS l i).a (gS l i).c (gS l i).b (gS m i).a (gS m i).c (gS m i).b w (hG.fn.1.sub _ (oH (show i<l.length from (by omega)))) (hG.fn.2.1.sub _ (oH (show i<m.length from (by omega))));rw [(decide_eq_true (same_len he i))] at hcall;exact hcall))))<|jE [[]]) (fun _=>?_)
  refine oN ?_
  refine aG (aJ (aA ?_))
  refine rS Tryz.f23 3 [0,1,5] [] (fun _=>[vn i,vn (i+1),vn (i+1)]) (fun _=>[]) (cR [[]]<|jW (fun ρ=>(((i:Nat):Int)+1)) (fun _=>(i+1)) (fun _=>(aW i 1 (by omega)))<|jE [[]]) (fun _=>?_)
  exact mN (i+1) (by show l.length-(i+1)<l.length-i;omega) (by omega) []
 rw [hb1]
 refine bF (aN (aN (aT (aA (jJ Tryz.f23 1 [4] [vT] (aF ?_))))))
 exact mR (v:=vT) (fun _ hS=>⟨rfl,hS.bel⟩)
end Go.Proofs.YtahoheofpggopaaGreatDoor
