/-
  What this statement needs, part 5: the texts of it, one behind the other.
-/
import Derived.Test.YtaebcmpbbamfpaaGreatDoorBase4
set_option maxRecDepth 100000
namespace Go.Proofs.YtaebcmpbbamfpaaGreatDoor
open Go Go.RowKit
theorem dvalid_any (a:Option Addr) (c:Nat) (ts:List bW) (w0:World) (hf0:bM w0 a c ts):Calls Tryz.prog 21 #[.slice a ts.length c] w0 (jR (.bool (xW ts)) w0):=by
 refine Calls.of_ok (n:=50) (F:=(fun w=>bM w a c ts∧True)) Tryz.func21 rfl rfl rfl (by simp) (hf0.pers0.and cO) ?_
 have hlen:ts.length≤1000000:=hf0.max
 have ho:mP ts:=hf0.oks
 refine jJ Tryz.f21 1 [0,2] [vF] (aB ?_)
 rcases Bool.eq_false_or_eq_true (decide (((ts.length:Nat):Int)<1)) with hb1 | hb1
 ·
  refine sS Tryz.f21 13 [0,2,21] [] (fun _=>[.slice a ts.length c,vn ts.length,vT,vT,undef,undef,undef,vT,vT,undef,undef,undef,vT]) (fun _=>[]) (cR [[],[]]<|cA (fun _=>vT) (fun _=>congrArg Value.bool hb1)<|jE [[],[],[],[],[],[],[],[],[],[]]) (fun _=>?_)
  refine oY ?_
  refine jJ Tryz.f21 1 [0,2] [vF] (aF (aC ?_))
  exact mR (v:=vF) (fun _ hS=>⟨jB (vl_a (by have:=yT hb1;omega)),hS.bel⟩)
 rcases Bool.eq_false_or_eq_true (decide (8<((ts.length:Nat):Int))) with hb2 | hb2
 ·
  refine sS Tryz.f21 13 [0,2,21] [] (fun _=>[.slice a ts.length c,vn ts.length,vF,vF,.slice a ts.length c,vn ts.length,vT,vT,vT,undef,undef,undef,vT]) (fun _=>[]) (cR [[],[]]<|cA (fun _=>vF) (fun _=>congrArg Value.bool hb1)<|cR [[],[],[]]<|cA (fun _=>vT) (fun _=>congrArg Value.bool hb2)<|jE [[],[],[],[],[],[]]) (fun _=>?_)
  refine oY ?_
  refine jJ Tryz.f21 1 [0,2] [vF] (aF (aC ?_))
  exact mR (v:=vF) (fun _ hS=>⟨jB (vl_a (by have:=yF hb1;have:=yT hb2;omega)),hS.bel⟩)
 refine sS Tryz.f21 13 [0,2,21] [] (fun _=>[.slice a ts.length c,vn ts.length,vF,vF,.slice a ts.length c,vn ts.length,vF,vF,vF,.slice a ts.length c,.bool (vG 1 ts),.bool (!(vG 1 ts)),.bool (!(vG 1 ts))]) (fun _=>[]) (cR [[],[]]<|cA (fun _=>vF) (fun _=>congrArg Value.bool hb1)<|cR [[],[],[]]<|cA (fun _=>vF) (fun _=>congrArg Value.bool hb2)<|cR [[],[],[]]<|cX (qC (fun _ _ w hG=>dwhole_any a c ts w hG.fn.1))<|jE [[],[]]) (fun _=>?_)
 refine oC (!(vG 1 ts)) (fun hb3=>?_) (fun hb3=>?_)
 ·
  rw [hb3]
  refine jJ Tryz.f21 1 [0,2] [vF] (aF (aC ?_))
  exact mR (v:=vF) (fun _ hS=>⟨jB (vl_b (dF hb3)),hS.bel⟩)
 rw [hb3]
 refine aG (aA (aB (jJ Tryz.f21 3 [0,2,22,23,24] [.slice a ts.length c,vn ts.length,vi 0] (aI ?_))))
 refine oL (σ:=Nat) (fun i=>[(0,(.slice a ts.length c)),(22,(.slice a ts.length c)),(23,(vn ts.length)),(24,(vn i))]) (fun _=>[]) (fun i=>ts.length-i)
   (fun i=>(i≤ts.length)∧((ts.drop i).all bW.fd=ts.all bW.fd)) 0 (⟨Nat.zero_le _,rfl⟩) [] ?_
 rintro i ⟨hi,hA⟩
 change Ok Tryz.prog _ _ 50 [(0,(.slice a ts.length c)),(22,(.slice a ts.length c)),(23,(vn ts.length)),(24,(vn i))] _ [] (fun w=>bM w a c ts∧True)
 refine jJ Tryz.f21 1 [0,22,23,24,25] [.bool (decide (((i:Nat):Int)<((ts.length:Nat):Int)))] (aB ?_)
 refine oC (decide (((i:Nat):Int)<((ts.length:Nat):Int))) (fun hb4=>?_) (fun hb4=>?_)
 ·
  rw [hb4]
  have:=yT hb4
  refine aG (aA (aB (aI ?_)))
  refine sS Tryz.f21 4 [0,4,22,23,24] [] (fun ρ=>[.pointer (fK a (i*36)),.agg (bW.row (gT ts i)),pt (nb ρ 2),undef]) (fun ρ=>[(2,(nw ρ 2 (cL (iC 0 0 0 0 vz) 46))),(3,(bD 16 (nb ρ 2) (cL (bW.row (gT ts i)) 46)))]) (cX (qF (fun _ _ _ hG=>bM.idx (k:=.i64) Tryz.underlying24 Tryz.sizeOf46 hG.fn.1 rfl (show ((i:Nat):Int)=((i:Nat):Int) from rfl) (show i<ts.length from (by have:=yF hb1;have:=yF hb2;omega))))<|cX (qF (fun _ _ _ hG=>bM.ldA (i:=i) Tryz.isAgg46 Tryz.sizeOf46 hG.fn.1 (show i<ts.length from (by have:=yF hb1;have:=yF hb2;omega))))<|jE [[],[16]]) (fun _=>?_)
  refine sS Tryz.f21 3 [0,22,23,24,30] [0] (fun _=>[.agg (bW.row (gT ts i)),.bool (fdN (gT ts i).kd (gT ts i).m (gT ts i).nu (gT ts i).h (gT ts i).ks.length),.bool (!(fdN (gT ts i).kd (gT ts i).m (gT ts i).nu (gT ts i).h (gT ts i).ks.length))]) (fun _=>[]) (cR [[0]]<|cC (fun _ w=>dfields_any (gT ts i).kd (gT ts i).m (gT ts i).nu (gT ts i).h (gT ts i).ka (gT ts i).kc (gT ts i).ks (ho.gT i).h w)<|jE [[]]) (fun _=>?_)
  refine oC (!(fdN (gT ts i).kd (gT ts i).m (gT ts i).nu (gT ts i).h (gT ts i).ks.length)) (fun hb5=>?_) (fun hb5=>?_)
  ·
   rw [hb5]
   refine jJ Tryz.f21 1 [0,2,22,23,24] [vF] (aF (aP (aC (aC (aP (aC ?_))))))
   exact mR (v:=vF) (fun _ hS=>⟨jB (vl_c (sZ (f:=bW.fd) (l:=ts) (by have:=yF hb1;have:=yF hb2;omega) (dF hb5) hA)),hS.bel⟩)
  rw [hb5]
  refine aG (aJ (aA ?_))
  refine rS Tryz.f21 2 [0,22,23,24] [] (fun _=>[vn (i+1),vn (i+1)]) (fun _=>[]) (jW (fun ρ=>(((i:Nat):Int)+1)) (fun _=>(i+1)) (fun _=>(aW i 1 (by have:=yF hb1;have:=yF hb2;omega)))<|jE [[]]) (fun _=>?_)
  exact mN (i+1) (by show ts.length-(i+1)<ts.length-i;have:=yF hb1;have:=yF hb2;omega) (⟨(by have:=yF hb1;have:=yF hb2;omega),sF (f:=bW.fd) (l:=ts) (by have:=yF hb1;have:=yF hb2;omega) (aV hb5) hA⟩) []
 rw [hb4]
 have:=yF hb4
 refine bF (aN (aN (aT (aA (aB (jJ Tryz.f21 3 [32,33,34] [.slice a ts.length c,vn ts.length,vi 0] (aI ?_)))))))
 refine oL (σ:=Nat) (fun i2=>[(32,(.slice a ts.length c)),(33,(vn ts.length)),(34,(vn i2))]) (fun _=>[]) (fun i2=>ts.length-i2)
   (fun i2=>(i2≤ts.length)∧((ts.drop i2).all bW.vk=ts.all bW.vk)) 0 (⟨Nat.zero_le _,rfl⟩) [] ?_
 rintro i2 ⟨hi2,hB⟩
 change Ok Tryz.prog _ _ 50 [(32,(.slice a ts.length c)),(33,(vn ts.length)),(34,(vn i2))] _ [] (fun w=>bM w a c ts∧True)
 refine jJ Tryz.f21 1 [32,33,34,35] [.bool (decide (((i2:Nat):Int)<((ts.length:Nat):Int)))] (aB ?_)
 refine oC (decide (((i2:Nat):Int)<((ts.length:Nat):Int))) (fun hb6=>?_) (fun hb6=>?_)
 ·
  rw [hb6]
  have:=yT hb6
  refine aG (aA (aB (aI ?_)))
  refine sS Tryz.f21 4 [6,32,33,34] [] (fun ρ=>[.pointer (fK a (i2*36)),.agg (bW.row (gT ts i2)),pt (nb ρ 2),undef]) (fun ρ=>[(2,(nw ρ 2 (cL (iC 0 0 0 0 vz) 46))),(3,(bD 16 (nb ρ 2) (cL (bW.row (gT ts i2)) 46)))]) (cX (qF (fun _ _ _ hG=>bM.idx (k:=.i64) Tryz.underlying24 Tryz.sizeOf46 hG.fn.1 rfl (show ((i2:Nat):Int)=((i2:Nat):Int) from rfl) (show i2<ts.length from (by have:=yF hb1;have:=yF hb2;omega))))<|cX (qF (fun _ _ _ hG=>bM.ldA (i:=i2) Tryz.isAgg46 Tryz.sizeOf46 hG.fn.1 (show i2<ts.length from (by have:=yF hb1;have:=yF hb2;omega))))<|jE [[],[16]]) (fun ρ16=>?_)
  refine jM Tryz.f21 4 [32,33,34,39,40,41] [0] [jp (nb ρ16 2) 35,.slice (gT ts i2).ka (gT ts i2).ks.length (gT ts i2).kc,vn (gT ts i2).ks.length,vi 0] [[],[0],[],[]] (aI ?_)
  refine oL (σ:=Nat) (fun k=>[(32,(.slice a ts.length c)),(33,(vn ts.length)),(34,(vn i2)),(39,(.slice (gT ts i2).ka (gT ts i2).ks.length (gT ts i2).kc)),(40,(vn (gT ts i2).ks.length)),(41,(vn k))]) (fun _=>[]) (fun k=>(gT ts i2).ks.length-k)
    (fun k=>(k≤(gT ts i2).ks.length)∧(((gT ts i2).ks.drop k).all dO.vp=(gT ts i2).ks.all dO.vp)) 0 (⟨Nat.zero_le _,rfl⟩) [] ?_
  rintro k ⟨hk,hC⟩
  change Ok Tryz.prog _ _ 50 [(32,(.slice a ts.length c)),(33,(vn ts.length)),(34,(vn i2)),(39,(.slice (gT ts i2).ka (gT ts i2).ks.length (gT ts i2).kc)),(40,(vn (gT ts i2).ks.length)),(41,(vn k))] _ [] (fun w=>bM w a c ts∧True)
  have hkl:(gT ts i2).ks.length≤1000000:=ho.klen hf0 i2
  refine jJ Tryz.f21 1 [32,33,34,39,40,41,42] [.bool (decide (((k:Nat):Int)<(((gT ts i2).ks.length:Nat):Int)))] (aB ?_)
  refine oC (decide (((k:Nat):Int)<(((gT ts i2).ks.length:Nat):Int))) (fun hb7=>?_) (fun hb7=>?_)
  ·
   rw [hb7]
   have:=yT hb7
   refine aG (aA (aB (aI ?_)))
   refine sS Tryz.f21 4 [8,32,33,34,39,40,41] [] (fun ρ=>[.pointer (fK (gT ts i2).ka (k*45)),.agg (dO.row (gK (gT ts i2).ks k)),pt (nb ρ 2),undef]) (fun ρ=>[(2,(nw ρ 2 (cL (kM 0 0 0 0 0 0 vz vF) 51))),(3,(bD 16 (nb ρ 2) (cL (dO.row (gK (gT ts i2).ks k)) 51)))]) (cX (qF (fun _ _ _ hG=>oG.idx (k:=.i64) Tryz.underlying44 Tryz.sizeOf51 (hG.fn.1.sub _ (fA (show i2<ts.length from (by have:=yF hb1;have:=yF hb2;omega)))) rfl (show ((k:Nat):Int)=((k:Nat):Int) from rfl) (show k<(gT ts i2).ks.length from (by have:=yF hb1;have:=yF hb2;omega))))<|cX (qF (fun _ _ _ hG=>oG.ldA (i:=k) Tryz.isAgg51 Tryz.sizeOf51 (hG.fn.1.sub _ (fA (show i2<ts.length from (by have:=yF hb1;have:=yF hb2;omega)))) (show k<(gT ts i2).ks.length from (by have:=yF hb1;have:=yF hb2;omega))))<|jE [[],[16]]) (fun _=>?_)
   refine sS Tryz.f21 3 [32,33,34,39,40,41,47] [0] (fun _=>[.agg (dO.row (gK (gT ts i2).ks k)),.bool (dO.vp (gK (gT ts i2).ks k)),.bool (!(dO.vp (gK (gT ts i2).ks k)))]) (fun _=>[]) (cR [[0]]<|cX (qC (fun _ _ w hG=>dvpath_any (gK (gT ts i2).ks k) (ho.gK i2 k) w ((hG.fn.1.sub _ (fA (show i2<ts.length from (by have:=yF hb1;have:=yF hb2;omega)))).sub _ (nU (show k<(gT ts i2).ks.length from (by have:=yF hb1;have:=yF hb2;omega))))))<|jE [[]]) (fun _=>?_)
   refine oC (!(dO.vp (gK (gT ts i2).ks k))) (fun hb8=>?_) (fun hb8=>?_)
   ·
    rw [hb8]
    refine jJ Tryz.f21 1 [2,32,33,34,39,40,41] [vF] (aF (aP (aC (aC (aP (aP (aC (aC (aP (aC ?_))))))))))
    exact mR (v:=vF) (fun _ hS=>⟨jB (vl_d (sZ (f:=bW.vk) (l:=ts) (by have:=yF hb1;have:=yF hb2;omega) (sZ (f:=dO.vp) (l:=(gT ts i2).ks) (by have:=yF hb1;have:=yF hb2;omega) (dF hb8) hC) hB)),hS.bel⟩)
   rw [hb8]
   refine aG (aJ (aA ?_))
   refine rS Tryz.f21 2 [32,33,34,39,40,41] [] (fun _=>[vn (k+1),vn (k+1)]) (fun _=>[]) (jW (fun ρ=>(((k:Nat):Int)+1)) (fun _=>(k+1)) (fun _=>(aW k 1 (by have:=yF hb1;have:=yF hb2;omega)))<|jE [[]]) (fun _=>?_)
   exact mN (k+1) (by show (gT ts i2).ks.length-(k+1)<(gT ts i2).ks.length-k;have:=yF hb1;have:=yF hb2;omega) (⟨(by have:=yF hb1;have:=yF hb2;omega),sF (f:=dO.vp) (l:=(gT ts i2).ks) (by have:=yF hb1;have:=yF hb2;omega) (aV hb8) hC⟩) []
  rw [hb7]
  have:=yF hb7
  refine bF (aN (aN (aT (aJ (aA ?_)))))
  refine rS Tryz.f21 2 [32,33,34] [] (fun _=>[vn (i2+1),vn (i2+1)]) (fun _=>[]) (jW (fun ρ=>(((i2:Nat):Int)+1)) (fun _=>(i2+1)) (fun _=>(aW i2 1 (by have:=yF hb1;have:=yF hb2;omega)))<|jE [[]]) (fun _=>?_)
  exact mN (i2+1) (by show ts.length-(i2+1)<ts.length-i2;have:=yF hb1;have:=yF hb2;omega) (⟨(by have:=yF hb1;have:=yF hb2;omega),sF (f:=bW.vk) (l:=ts) (by have:=yF hb1;have:=yF hb2;omega) (xH (f:=dO.vp) (l:=(gT ts i2).ks) (by have:=yF hb1;have:=yF hb2;omega) hC) hB⟩) []
 rw [hb6]
 have:=yF hb6
 refine bF (aN (aN (aT (aA (jJ Tryz.f21 1 [2] [vT] (aF ?_))))))
 exact mR (v:=vT) (fun _ hS=>⟨jB (vl_e (by have:=yF hb1;have:=yF hb2;omega) (aV hb3) (xH (f:=bW.fd) (l:=ts) (by have:=yF hb1;have:=yF hb2;omega) hA) (xH (f:=bW.vk) (l:=ts) (by have:=yF hb1;have:=yF hb2;omega) hB)),hS.bel⟩)
theorem rdvalid_any (a:Option Addr) (c:Nat) (ts:List bW) (w0:World) (hf0:bM w0 a c ts):Calls Tryz.prog 24 #[.slice a ts.length c] w0 (jR (.bool (xW ts)) w0):=by
 refine Calls.of_ok (n:=47) (F:=(fun w=>bM w a c ts∧True)) Tryz.func24 rfl rfl rfl (by simp) (hf0.pers0.and cO) ?_
 have hlen:ts.length≤1000000:=hf0.max
 have ho:mP ts:=hf0.oks
 refine jJ Tryz.f24 1 [0,2] [vF] (aB ?_)
 refine sS Tryz.f24 3 [0,2,8] [] (fun _=>[.slice a ts.length c,.bool (shB ts),.bool (!(shB ts))]) (fun _=>[]) (cR [[]]<|cX (qC (fun _ _ w hG=>rdshaped_any a c ts w hG.fn.1))<|jE [[]]) (fun _=>?_)
 refine oC (!(shB ts)) (fun hb1=>?_) (fun hb1=>?_)
 ·
  rw [hb1]
  refine jJ Tryz.f24 1 [0,2] [vF] (aF (aC ?_))
  exact mR (v:=vF) (fun _ hS=>⟨jB (sh_no (dF hb1)),hS.bel⟩)
 rw [hb1]
 refine aG (aA (aB (jJ Tryz.f24 1 [0,2,3] [vi 0] (aI ?_))))
 refine oL (σ:=Nat) (fun i=>[(0,(.slice a ts.length c)),(3,(vn i))]) (fun _=>[]) (fun i=>ts.length-i)
   (fun i=>(i≤ts.length)∧((ts.drop i).all bW.fd=ts.all bW.fd)) 0 (⟨Nat.zero_le _,rfl⟩) [] ?_
 rintro i ⟨hi,hA⟩
 change Ok Tryz.prog _ _ 47 [(0,(.slice a ts.length c)),(3,(vn i))] _ [] (fun w=>bM w a c ts∧True)
 refine aB (jJ Tryz.f24 4 [0,3,12] [vn i,.slice a ts.length c,vn ts.length,.bool (decide (((i:Nat):Int)<((ts.length:Nat):Int)))] ?_)
 refine oC (decide (((i:Nat):Int)<((ts.length:Nat):Int))) (fun hb2=>?_) (fun hb2=>?_)
 ·
  rw [hb2]
  have:=yT hb2
  refine aG (aA (aB (aI ?_)))
  refine sS Tryz.f24 6 [0,3,20] [] (fun _=>[.slice a ts.length c,vn i,.pointer (fK a (i*36)),.agg (bW.row (gT ts i)),.bool (fdN (gT ts i).kd (gT ts i).m (gT ts i).nu (gT ts i).h (gT ts i).ks.length),.bool (!(fdN (gT ts i).kd (gT ts i).m (gT ts i).nu (gT ts i).h (gT ts i).ks.length))]) (fun _=>[]) (cR [[],[]]<|cX (qF (fun _ _ _ hG=>bM.idx (k:=.i64) Tryz.underlying24 Tryz.sizeOf46 hG.fn.1 rfl (show ((i:Nat):Int)=((i:Nat):Int) from rfl) (show i<ts.length from (by omega))))<|cX (qF (fun _ _ _ hG=>bM.ldA (i:=i) Tryz.isAgg46 Tryz.sizeOf46 hG.fn.1 (show i<ts.length from (by omega))))<|cC (fun _ w=>rdfields_any (gT ts i).kd (gT ts i).m (gT ts i).nu (gT ts i).h (gT ts i).ka (gT ts i).kc (gT ts i).ks (ho.gT i).h w)<|jE [[]]) (fun _=>?_)
  refine oC (!(fdN (gT ts i).kd (gT ts i).m (gT ts i).nu (gT ts i).h (gT ts i).ks.length)) (fun hb3=>?_) (fun hb3=>?_)
  ·
   rw [hb3]
   refine jJ Tryz.f24 1 [0,2,3] [vF] (aF (aP (aC (aC (aP (aC ?_))))))
   exact mR (v:=vF) (fun _ hS=>⟨jB (vl_c (sZ (f:=bW.fd) (l:=ts) (by omega) (dF hb3) hA)),hS.bel⟩)
  rw [hb3]
  refine aG (aJ (aA ?_))
  refine rS Tryz.f24 3 [0,3] [] (fun _=>[vn i,vn (i+1),vn (i+1)]) (fun _=>[]) (cR [[]]<|jW (fun ρ=>(((i:Nat):Int)+1)) (fun _=>(i+1)) (fun _=>(aW i 1 (by omega)))<|jE [[]]) (fun _=>?_)
  exact mN (i+1) (by show ts.length-(i+1)<ts.length-i;omega) (⟨(by omega),sF (f:=bW.fd) (l:=ts) (by omega) (aV hb3) hA⟩) []
 rw [hb2]
 have:=yF hb2
 refine bF (aN (aN (aT (aA (aB (jJ Tryz.f24 1 [0,4] [vi 0] (aI ?_)))))))
 refine oL (σ:=Nat) (fun i2=>[(0,(.slice a ts.length c)),(4,(vn i2))]) (fun _=>[]) (fun i2=>ts.length-i2)
   (fun i2=>(i2≤ts.length)∧((ts.drop i2).all bW.vk=ts.all bW.vk)) 0 (⟨Nat.zero_le _,rfl⟩) [] ?_
 rintro i2 ⟨hi2,hB⟩
 change Ok Tryz.prog _ _ 47 [(0,(.slice a ts.length c)),(4,(vn i2))] _ [] (fun w=>bM w a c ts∧True)
 refine aB (jJ Tryz.f24 4 [0,4,24] [vn i2,.slice a ts.length c,vn ts.length,.bool (decide (((i2:Nat):Int)<((ts.length:Nat):Int)))] ?_)
 refine oC (decide (((i2:Nat):Int)<((ts.length:Nat):Int))) (fun hb4=>?_) (fun hb4=>?_)
 ·
  rw [hb4]
  have:=yT hb4
  refine aG (aA (aB (aI (jJ Tryz.f24 1 [0,4,5] [vi 0] (aI ?_)))))
  refine oL (σ:=Nat) (fun k=>[(0,(.slice a ts.length c)),(4,(vn i2)),(5,(vn k))]) (fun _=>[]) (fun k=>(gT ts i2).ks.length-k)
    (fun k=>(k≤(gT ts i2).ks.length)∧(((gT ts i2).ks.drop k).all dO.vp=(gT ts i2).ks.all dO.vp)) 0 (⟨Nat.zero_le _,rfl⟩) [] ?_
  rintro k ⟨hk,hC⟩
  change Ok Tryz.prog _ _ 47 [(0,(.slice a ts.length c)),(4,(vn i2)),(5,(vn k))] _ [] (fun w=>bM w a c ts∧True)
  have hkl:(gT ts i2).ks.length≤1000000:=ho.klen hf0 i2
  refine aB ?_
  refine sS Tryz.f24 8 [0,4,5,34] [] (fun _=>[vn k,.slice a ts.length c,vn i2,.pointer (fK a (i2*36)),.pointer (fK a (i2*36+35)),.slice (gT ts i2).ka (gT ts i2).ks.length (gT ts i2).kc,vn (gT ts i2).ks.length,.bool (decide (((k:Nat):Int)<(((gT ts i2).ks.length:Nat):Int)))]) (fun _=>[]) (cR [[],[],[]]<|cX (qF (fun _ _ _ hG=>bM.idx (k:=.i64) Tryz.underlying24 Tryz.sizeOf46 hG.fn.1 rfl (show ((i2:Nat):Int)=((i2:Nat):Int) from rfl) (show i2<ts.length from (by omega))))<|cX (jF (fun _=>Instr.fieldAt 46 (.pointer (fK a (i2*36))) 4) (fun _=>(.pointer (fK a (i2*36+35)))) (fun _ _ _ hG=>uH (o:=35) (k:=i2*36) Tryz.underlying46 rfl rfl rfl Tryz.sizeOf44 (hG.fn.1.pos (show i2<ts.length from (by omega))).1 (hG.fn.1.pos (show i2<ts.length from (by omega))).2) (fun _ _ _ _=>cO))<|cX (qF (fun _ _ _ hG=>bM.ld (v:=(.slice (gT ts i2).ka (gT ts i2).ks.length (gT ts i2).kc)) (i:=i2) (j:=35) Tryz.isAgg44 hG.fn.1 (show i2<ts.length from (by omega)) (by decide) (by kernel_rfl)))<|jE [[],[]]) (fun _=>?_)
  refine oC (decide (((k:Nat):Int)<(((gT ts i2).ks.length:Nat):Int))) (fun hb5=>?_) (fun hb5=>?_)
  ·
   rw [hb5]
   have:=yT hb5
   refine aG (aA (aB (aI ?_)))
   refine sS Tryz.f24 10 [0,4,5,46] [] (fun _=>[.slice a ts.length c,vn i2,.pointer (fK a (i2*36)),.pointer (fK a (i2*36+35)),.slice (gT ts i2).ka (gT ts i2).ks.length (gT ts i2).kc,vn k,.pointer (fK (gT ts i2).ka (k*45)),.agg (dO.row (gK (gT ts i2).ks k)),.bool (dO.vp (gK (gT ts i2).ks k)),.bool (!(dO.vp (gK (gT ts i2).ks k)))]) (fun _=>[]) (cR [[],[]]<|cX (qF (fun _ _ _ hG=>bM.idx (k:=.i64) Tryz.underlying24 Tryz.sizeOf46 hG.fn.1 rfl (show ((i2:Nat):Int)=((i2:Nat):Int) from rfl) (show i2<ts.length from (by omega))))<|cX (jF (fun _=>Instr.fieldAt 46 (.pointer (fK a (i2*36))) 4) (fun _=>(.pointer (fK a (i2*36+35)))) (fun _ _ _ hG=>uH (o:=35) (k:=i2*36) Tryz.underlying46 rfl rfl rfl Tryz.sizeOf44 (hG.fn.1.pos (show i2<ts.length from (by omega))).1 (hG.fn.1.pos (show i2<ts.length from (by omega))).2) (fun _ _ _ _=>cO))<|cX (qF (fun _ _ _ hG=>bM.ld (v:=(.slice (gT ts i2).ka (gT ts i2).ks.length (gT ts i2).kc)) (i:=i2) (j:=35) Tryz.isAgg44 hG.fn.1 (show i2<ts.length from (by omega)) (by decide) (by kernel_rfl)))<|cR [[]]<|cX (qF (fun _ _ _ hG=>oG.idx (k:=.i64) Tryz.underlying44 Tryz.sizeOf51 (hG.fn.1.sub _ (fA (show i2<ts.length from (by omega)))) rfl (show ((k:Nat):Int)=((k:Nat):Int) from rfl) (show k<(gT ts i2).ks.length from (by omega))))<|cX (qF (fun _ _ _ hG=>oG.ldA (i:=k) Tryz.isAgg51 Tryz.sizeOf51 (hG.fn.1.sub _ (fA (show i2<ts.length from (by omega)))) (show k<(gT ts i2).ks.length from (by omega))))<|cX (qC (fun _ _ w hG=>rdvpath_any (gK (gT ts i2).ks k) (ho.gK i2 k) w ((hG.fn.1.sub _ (fA (show i2<ts.length from (by omega)))).sub _ (nU (show k<(gT ts i2).ks.length from (by omega))))))<|jE [[]]) (fun _=>?_)
   refine oC (!(dO.vp (gK (gT ts i2).ks k))) (fun hb6=>?_) (fun hb6=>?_)
   ·
    rw [hb6]
    refine jJ Tryz.f24 1 [0,2,4,5] [vF] (aF (aP (aC (aC (aP (aP (aC (aC (aP (aC ?_))))))))))
    exact mR (v:=vF) (fun _ hS=>⟨jB (vl_d (sZ (f:=bW.vk) (l:=ts) (by omega) (sZ (f:=dO.vp) (l:=(gT ts i2).ks) (by omega) (dF hb6) hC) hB)),hS.bel⟩)
   rw [hb6]
   refine aG (aJ (aA ?_))
   refine rS Tryz.f24 3 [0,4,5] [] (fun _=>[vn k,vn (k+1),vn (k+1)]) (fun _=>[]) (cR [[]]<|jW (fun ρ=>(((k:Nat):Int)+1)) (fun _=>(k+1)) (fun _=>(aW k 1 (by omega)))<|jE [[]]) (fun _=>?_)
   exact mN (k+1) (by show (gT ts i2).ks.length-(k+1)<(gT ts i2).ks.length-k;omega) (⟨(by omega),sF (f:=dO.vp) (l:=(gT ts i2).ks) (by omega) (aV hb6) hC⟩) []
  rw [hb5]
  have:=yF hb5
  refine bF (aN (aN (aT (aJ (aA ?_)))))
  refine rS Tryz.f24 3 [0,4] [] (fun _=>[vn i2,vn (i2+1),vn (i2+1)]) (fun _=>[]) (cR [[]]<|jW (fun ρ=>(((i2:Nat):Int)+1)) (fun _=>(i2+1)) (fun _=>(aW i2 1 (by omega)))<|jE [[]]) (fun _=>?_)
  exact mN (i2+1) (by show ts.length-(i2+1)<ts.length-i2;omega) (⟨(by omega),sF (f:=bW.vk) (l:=ts) (by omega) (xH (f:=dO.vp) (l:=(gT ts i2).ks) (by omega) hC) hB⟩) []
 rw [hb4]
 refine bF (aN (aN (aT (aA (jJ Tryz.f24 1 [2] [vT] (aF ?_))))))
 exact mR (v:=vT) (fun _ hS=>⟨jB (vl_e (sh_yes (aV hb1)).1 (sh_yes (aV hb1)).2 (xH (f:=bW.fd) (l:=ts) (by have:=yF hb4;omega) hA) (xH (f:=bW.vk) (l:=ts) (by have:=yF hb4;omega) hB)),hS.bel⟩)
theorem eql_nil32 (a:Option Addr) (n c:Nat) (w:World):(binOp .eql 49 (.slice a n c) (.slice none 0 0)).run Tryz.prog w=.ok (.bool a.isNone) w:=by cases a<;>kernel_rfl
theorem yK (a:Option Addr) (c:Nat) (ps:List Nat) (hn:a.isNone=true) (w0:World) (hf0:Is w0 .u32 a c (nI ps)):Calls Tryz.prog 22 #[.slice a (nI ps).length c] w0 (jR vz w0):=by
 refine Calls.of_ok (n:=8) (F:=(fun w=>Is w .u32 a c (nI ps)∧True)) Tryz.func22 rfl rfl rfl (by simp) (hf0.pers0.and cO) ?_
 refine jJ Tryz.f22 1 [0,2] [vz] (aB ?_)
 refine sS Tryz.f22 2 [0,2,4] [] (fun _=>[.slice a (nI ps).length c,vT]) (fun _=>[]) (cR [[]]<|cB (a:=fun ρ=>(.slice a (nI ps).length c)) (b:=fun ρ=>vz) (v:=fun ρ=>vT) .eql 49 (fun _ w=>(eql_nil32 a (nI ps).length c w).trans (by rw [show a.isNone=true from hn]))<|cN) (fun _=>?_)
 refine oY ?_
 refine jJ Tryz.f22 1 [0,2] [vz] (aF (aC ?_))
 exact mR (v:=vz) (fun _ hS=>⟨rfl,hS.bel⟩)
theorem yP (a:Option Addr) (c:Nat) (ps:List Nat) (hn:a.isNone=false) (_h8:ps.length≤8) (w0:World) (hf0:Is w0 .u32 a c (nI ps)):Calls Tryz.prog 22 #[.slice a (nI ps).length c] w0 (fun ε w'=>∃ r:bH,ε=.returned (vs (r.n.headD 0) (nI ps).length (r.n.tail.headD 0))∧jG w0 w'∧w0.heap.size≤r.n.headD 0∧w'.heap[r.n.headD 0]? = some (cL (uG r) 41)∧kI.A (uG r) ps (r.n.tail.headD 0)):=by
 refine Calls.of_ok (n:=8) (F:=(fun w=>Is w .u32 a c (nI ps)∧True)) Tryz.func22 rfl rfl rfl (by simp) (hf0.pers0.and cO) ?_
 refine jJ Tryz.f22 1 [0,2] [vz] (aB ?_)
 refine sS Tryz.f22 2 [0,2,4] [] (fun _=>[.slice a (nI ps).length c,vF]) (fun _=>[]) (cR [[]]<|cB (a:=fun ρ=>(.slice a (nI ps).length c)) (b:=fun ρ=>vz) (v:=fun ρ=>vF) .eql 49 (fun _ w=>(eql_nil32 a (nI ps).length c w).trans (by rw [show a.isNone=false from hn]))<|cN) (fun _=>?_)
 refine oN ?_
 refine aG (aA ?_)
 refine iZ Tryz.f22 4 [2] [] (fun ρ=>let qa:=vs (nb ρ 2) (nI (([]:List Nat)++ps)).length (aZ ρ 2);[vs (nb ρ 0) 0 0,.slice a (nI ps).length c,qa,qa]) (fun ρ=>[(0,(nw ρ 0 (cL #[] 41))),(2,(bD 0 (nb ρ 2) (cL (oc ρ 2) 41)))]) (fun ρ=>[(2,fun w=>kI.A (oc ρ 2) (([]:List Nat)++ps) (aZ ρ 2))]) (fun _=>(fun w=>Is w .u32 a c (nI ps)∧True)) (fun ρ=>kI.A (oc ρ 2) (([]:List Nat)++ps) (aZ ρ 2)) (fun _ _ hF hf=>⟨hF,hf 2⟩) (cR [[],[]]<|cX (qM 0 (fun ρ _ _ hG hg=>lT (ty:=49) (g:=nb ρ 0) (ts:=([]:List Nat)) (us:=ps) Tryz.underlying49 (dA (sz:=1) (b:=4) (z:=(.int .u32 0)) (by kernel_rfl) rfl) RowK.A.empty (src_is Tryz.underlying49 hG.fn.1) (by rw [List.length_nil];omega) (by decide) hg))<|jE [[]]) (fun ρ3 ap3_2=>?_)
 refine aF (mD [(2,(vs (nb ρ3 2) (nI (([]:List Nat)++ps)).length (aZ ρ3 2)))] [(nb ρ3 2,(cL (oc ρ3 2) 41))] ?_)
 exact mR (v:=(vs (nb ρ3 2) (nI (([]:List Nat)++ps)).length (aZ ρ3 2))) (fun _ hS=>⟨{ n:=[nb ρ3 2,aZ ρ3 2],o:=[.cells (oc ρ3 2) 0 (0,0)]},rfl,hS.bel,(hS.newb (.head _)).1,(hS.newb (.head _)).2,ap3_2⟩)
theorem rpad_any (n:Nat) (hn:n≤140737488351232) (w0:World):Calls Tryz.prog 133 #[vx n] w0 (fun ε w'=>∃ α κ,ε=.returned (.slice α (aY n).length κ)∧jG w0 w'∧Fs w0 w' α κ (aY n)):=by
 refine Calls.of_ok (n:=31) (F:=(fun _=>True)) Tryz.func133 rfl rfl rfl (by simp) jT ?_
 refine jJ Tryz.f133 1 [0,2] [vz] ?_
 refine sS Tryz.f133 2 [0,2,3] [] (fun ρ=>let qa:=vs (nb ρ 0) ([128]:List UInt8).length 1;[qa,qa]) (fun ρ=>[(0,(nw ρ 0 (cL #[.int .u8 128] 5)))]) (jE [[],[]]) (fun ρ2=>?_)
 refine aB (aI ?_)
 refine oL (σ:=(Nat × Nat × (List UInt8) × (Array Value) × Nat)) (fun s=>match s with |  ⟨_,g,X,_,κ⟩=>[(0,(vx n)),(2,vz),(3,(vs g X.length κ))]) (fun s=>match s with |  ⟨_,g,_,C,_⟩=>[(g,(cL C 5))]) (fun s=>match s with |  ⟨j,_,_,_,_⟩=>zeros n-j)
   (fun s=>match s with |  ⟨j,_,X,C,κ⟩=>(j≤zeros n)∧(X=128::List.replicate j 0)∧(Hd C X)∧(C.size=κ)∧(X.length≤κ)) ((0,nb ρ2 0,([128]:List UInt8),#[.int .u8 128],1)) (⟨Nat.zero_le _,rfl,(rfl:Hd #[.int .u8 128] ([128]:List UInt8)),rfl,Nat.le_refl 1⟩) [] ?_
 rintro ⟨j,g,X,C,κ⟩
 rintro ⟨hj,hX,hC,hs,hle⟩
 change Ok Tryz.prog _ _ 31 [(0,(vx n)),(2,vz),(3,(vs g X.length κ))] _ [(g,(cL C 5))] (fun _=>True)
 refine aB ?_
 refine sS Tryz.f133 8 [0,2,3,13] [] (fun _=>[vx n,vs g X.length κ,vn X.length,vx X.length,vx (n+X.length),vx ((n+X.length)+8),vx (((n+X.length)+8)%64),.bool (((((n+X.length)+8)%64:Nat):Int) != 0)]) (fun _=>[]) (cR [[],[],[]]<|cA (v:=fun ρ=>(.int .u64 (IntKind.u64.wrap ((X.length:Nat):Int)))) (fun _=>(vx X.length)) (fun _=>congrArg (Value.int .u64) (u64N (by have:=aS n;have:=nZ hX;omega)))<|cA (v:=fun ρ=>(.int .u64 (IntKind.u64.wrap (((n:Nat):Int)+((X.length:Nat):Int))))) (fun _=>(vx (n+X.length))) (fun _=>congrArg (Value.int .u64) (vW n X.length (by have:=aS n;have:=nZ hX;omega)))<|cA (v:=fun ρ=>(.int .u64 (IntKind.u64.wrap (((n+X.length:Nat):Int)+8)))) (fun _=>(vx ((n+X.length)+8))) (fun _=>congrArg (Value.int .u64) (vW (n+X.length) 8 (by have:=aS n;have:=nZ hX;omega)))<|cB (a:=fun ρ=>(vx ((n+X.length)+8))) (b:=fun ρ=>(.int .u64 64)) (v:=fun ρ=>(vx (((n+X.length)+8)%64))) .rem 37 (fun _ w=>zT (k:=.u64) (n:=((n+X.length)+8)) (d:=64) (by decide) w)<|jE [[]]) (fun _=>?_)
 refine oC (((((n+X.length)+8)%64:Nat):Int) != 0) (fun hb1=>?_) (fun hb1=>?_)
 ·
  rw [hb1]
  refine aG (aA (aI ?_))
  rcases Bool.eq_false_or_eq_true (decide (X.length+([0]:List UInt8).length≤κ)) with hb2 | hb2
  ·
   refine rS Tryz.f133 4 [0,2,3] [1,0] (fun ρ=>let qa:=vs g (X++([0]:List UInt8)).length κ;[vs g X.length κ,vs (nb ρ 1) ([0]:List UInt8).length 1,qa,qa]) (fun ρ=>[(1,(nw ρ 1 (cL #[.int .u8 0] 5))),(2,(bD 0 g (cL (inpl C X.length (bs ([0]:List UInt8))) 5)))]) (cR [[],[]]<|cX (o9 _ 0 (fun ρ=>do pure (Next.value (← Builtin.append_ #[33,33] 33 #[vs g X.length κ,vs (nb ρ 1) ([0]:List UInt8).length 1]))) (fun _=>g) (fun _=>(cL C 5)) (fun _=>(cL (inpl C X.length (bs ([0]:List UInt8))) 5)) (fun _=>(vs g (X++([0]:List UInt8)).length κ)) (fun _=>(by kernel_rfl)) (fun _=>(by kernel_rfl)) (fun _=>(by kernel_rfl)) (fun _=>(by kernel_rfl)) (fun _ _=>trivial) (fun ρ _ _ hG hg=>kD Tryz.underlying33 nH hg (Bs.src (tx:=33) Tryz.underlying33 (Bs.of_hd (hG.kn (g:=nb ρ 1) (o:=(cL #[.int .u8 0] 5)) 9) (rfl:Hd #[.int .u8 0] ([0]:List UInt8)) (Nat.le_refl 1) (Nat.le_of_ble_eq_true rfl))) hs (yT hb2)))<|jE [[]]) (fun _=>?_)
   refine aJ ?_
   exact mN ((j+1,g,X++([0]:List UInt8),inpl C X.length (bs ([0]:List UInt8)),κ)) (by show zeros n-(j+1)<zeros n-j;have:=(xAA hj (by have h1:=bne0N hb1;rw [nZ hX] at h1;exact h1));omega) (⟨xAA hj (by have h1:=bne0N hb1;rw [nZ hX] at h1;exact h1),zer_next hX,Hd.inpl hC rfl,(lG _ _ _ (room_le hs (yT hb2))).trans hs,oK (yT hb2)⟩) []
  refine rS Tryz.f133 4 [0,2,3] [0,0,1] (fun ρ=>let qa:=vs (nb ρ 2) (X++([0]:List UInt8)).length ((X++([0]:List UInt8)).length+aZ ρ 2);[vs g X.length κ,vs (nb ρ 1) ([0]:List UInt8).length 1,qa,qa]) (fun ρ=>[(1,(nw ρ 1 (cL #[.int .u8 0] 5))),(2,(nw ρ 2 (cL (grow C X.length (bs ([0]:List UInt8)) (aZ ρ 2)) 5)))]) (cR [[],[]]<|cX (qN (fun _ ζ=>(vs (ζ.headD 0) (X++([0]:List UInt8)).length ((X++([0]:List UInt8)).length+ζ.tail.headD 0))) (fun _ ζ=>(cL (grow C X.length (bs ([0]:List UInt8)) (ζ.tail.headD 0)) 5)) (fun ρ _ _ hG=>xG (ty:=33) Tryz.underlying33 nH (hG.kn (g:=g) (o:=(cL C 5)) 0) (Bs.src (tx:=33) Tryz.underlying33 (Bs.of_hd (hG.kn (g:=nb ρ 1) (o:=(cL #[.int .u8 0] 5)) 9) (rfl:Hd #[.int .u8 0] ([0]:List UInt8)) (Nat.le_refl 1) (Nat.le_of_ble_eq_true rfl))) hs hle (Nat.lt_of_not_le (yF hb2)) (by have:=yF hb2;have:=hn;have:=aS n;have:=hj;have:=nZ hX;simp only [List.length_cons,List.length_nil];omega)))<|jE [[]]) (fun ρ5=>?_)
  refine aJ ?_
  exact mN ((j+1,nb ρ5 2,X++([0]:List UInt8),grow C X.length (bs ([0]:List UInt8)) (aZ ρ5 2),(X++([0]:List UInt8)).length+aZ ρ5 2)) (by show zeros n-(j+1)<zeros n-j;have:=(xAA hj (by have h1:=bne0N hb1;rw [nZ hX] at h1;exact h1));omega) (⟨xAA hj (by have h1:=bne0N hb1;rw [nZ hX] at h1;exact h1),zer_next hX,Hd.grow hC rfl,tX hC,Nat.le_add_right _ _⟩) []
 rw [hb1]
 refine bF (aN (aN (aT (aA (aB (jJ Tryz.f133 1 [0,2,3,4] [vi 7] (aI ?_)))))))
 refine oL (σ:=(Nat × Nat × (List UInt8) × (Array Value) × Nat)) (fun s=>match s with |  ⟨k,g2,X2,_,κ2⟩=>[(0,(vx n)),(2,vz),(3,(vs g2 X2.length κ2)),(4,(vi (7-((k:Nat):Int))))]) (fun s=>match s with |  ⟨_,g2,_,C2,_⟩=>[(g2,(cL C2 5))]) (fun s=>match s with |  ⟨k,_,_,_,_⟩=>8-k)
   (fun s=>match s with |  ⟨k,_,X2,C2,κ2⟩=>(k≤8)∧(X2=128::(List.replicate (zeros n) 0++be8 (8*n) k))∧(Hd C2 X2)∧(C2.size=κ2)∧(X2.length≤κ2)) ((0,g,X,C,κ)) (⟨by decide,zer_be hX (zer_end hj (by have h1:=bne0N' hb1;rw [nZ hX] at h1;exact h1)),hC,hs,hle⟩) [] ?_
 rintro ⟨k,g2,X2,C2,κ2⟩
 rintro ⟨hk,hX2,hC2,hs2,hle2⟩
 change Ok Tryz.prog _ _ 31 [(0,(vx n)),(2,vz),(3,(vs g2 X2.length κ2)),(4,(vi (7-((k:Nat):Int))))] _ [(g2,(cL C2 5))] (fun _=>True)
 refine aB (jJ Tryz.f133 2 [0,2,3,4,18] [vi (7-((k:Nat):Int)),.bool (decide (0≤(7-((k:Nat):Int))))] ?_)
 refine oC (decide (0≤(7-((k:Nat):Int)))) (fun hb3=>?_) (fun hb3=>?_)
 ·
  rw [hb3]
  have:=yT hb3
  refine aG (aA (aB (aI ?_)))
  rcases Bool.eq_false_or_eq_true (decide (X2.length+([ob ((8*n / 2^(56-8*k)%256:Nat):Int)]:List UInt8).length≤κ2)) with hb4 | hb4
  ·
   refine rS Tryz.f133 10 [0,2,3,4] [1,0] (fun ρ=>let qa:=([ob ((8*n / 2^(56-8*k)%256:Nat):Int)]:List UInt8);let qb:=vs g2 (X2++qa).length κ2;[vs g2 X2.length κ2,vx n,vx (8*n),vi (7-((k:Nat):Int)),vn (56-8*k),vx (8*n / 2^(56-8*k)),vy (8*n / 2^(56-8*k)%256),vs (nb ρ 7) qa.length 1,qb,qb]) (fun ρ=>[(7,(nw ρ 7 (cL #[vy (8*n / 2^(56-8*k)%256)] 5))),(8,(bD 0 g2 (cL (inpl C2 X2.length (bs ([ob ((8*n / 2^(56-8*k)%256:Nat):Int)]:List UInt8))) 5)))]) (cR [[],[]]<|cA (v:=fun ρ=>(.int .u64 (IntKind.u64.wrap (8*((n:Nat):Int))))) (fun _=>(vx (8*n))) (fun _=>congrArg (Value.int .u64) (u64_mulN 8 n (by have:=yT hb4;have:=aS n;have:=dZ hX2;omega)))<|cR [[]]<|jW (fun ρ=>(8*(7-((k:Nat):Int)))) (fun _=>(56-8*k)) (fun _=>((gZ (by have:=yT hb4;have:=aS n;have:=dZ hX2;omega)).trans (by have:=yT hb4;have:=aS n;have:=dZ hX2;omega)))<|cB (a:=fun ρ=>(vx (8*n))) (b:=fun ρ=>(vn (56-8*k))) (v:=fun ρ=>(vx (8*n / 2^(56-8*k)))) .shr 37 (fun _ w=>gG (k:=.u64) (x:=8*n) (c:=56-8*k) (by have:=yT hb4;have:=hn;have:=aS n;have:=hj;have:=hk;have:=dZ hX2;show 8*n<18446744073709551616;omega) w)<|cA (fun _=>(vy (8*n / 2^(56-8*k)%256))) (fun _=>congrArg (Value.int .u8) (u8M (8*n / 2^(56-8*k))))<|cR [[]]<|cX (o9 _ 0 (fun ρ=>do pure (Next.value (← Builtin.append_ #[33,33] 33 #[vs g2 X2.length κ2,vs (nb ρ 7) ([ob ((8*n / 2^(56-8*k)%256:Nat):Int)]:List UInt8).length 1]))) (fun _=>g2) (fun _=>(cL C2 5)) (fun _=>(cL (inpl C2 X2.length (bs ([ob ((8*n / 2^(56-8*k)%256:Nat):Int)]:List UInt8))) 5)) (fun _=>(vs g2 (X2++([ob ((8*n / 2^(56-8*k)%256:Nat):Int)]:List UInt8)).length κ2)) (fun _=>(by kernel_rfl)) (fun _=>(by kernel_rfl)) (fun _=>(by kernel_rfl)) (fun _=>(by kernel_rfl)) (fun _ _=>trivial) (fun ρ _ _ hG hg=>kD Tryz.underlying33 nH hg (Bs.src (tx:=33) Tryz.underlying33 (Bs.of_hd (hG.kn (g:=nb ρ 7) (o:=(cL #[vy (8*n / 2^(56-8*k)%256)] 5)) 57) (hd1 (by omega)) (Nat.le_refl 1) (Nat.le_of_ble_eq_true rfl))) hs2 (yT hb4)))<|jE [[]]) (fun _=>?_)
   refine aJ (aA ?_)
   refine rS Tryz.f133 3 [0,2,3,4] [] (fun _=>let qa:=vi (7-((k+1:Nat):Int));[vi (7-((k:Nat):Int)),qa,qa]) (fun _=>[]) (cR [[]]<|jU (fun ρ=>((7-((k:Nat):Int))-1)) (fun _=>(7-((k+1:Nat):Int))) (fun _=>((gZ (by have:=yT hb4;have:=aS n;have:=dZ hX2;omega)).trans (by omega)))<|jE [[]]) (fun _=>?_)
   exact mN ((k+1,g2,X2++([ob ((8*n / 2^(56-8*k)%256:Nat):Int)]:List UInt8),inpl C2 X2.length (bs ([ob ((8*n / 2^(56-8*k)%256:Nat):Int)]:List UInt8)),κ2)) (by show 8-(k+1)<8-k;have:=yT hb4;have:=aS n;have:=dZ hX2;omega) (⟨(by have:=yT hb4;have:=aS n;have:=dZ hX2;omega),pad_next hX2,Hd.inpl hC2 rfl,(lG _ _ _ (room_le hs2 (yT hb4))).trans hs2,oK (yT hb4)⟩) []
  refine rS Tryz.f133 10 [0,2,3,4] [0,0,1] (fun ρ=>let qa:=([ob ((8*n / 2^(56-8*k)%256:Nat):Int)]:List UInt8);let qb:=vs (nb ρ 8) (X2++qa).length ((X2++qa).length+aZ ρ 8);[vs g2 X2.length κ2,vx n,vx (8*n),vi (7-((k:Nat):Int)),vn (56-8*k),vx (8*n / 2^(56-8*k)),vy (8*n / 2^(56-8*k)%256),vs (nb ρ 7) qa.length 1,qb,qb]) (fun ρ=>[(7,(nw ρ 7 (cL #[vy (8*n / 2^(56-8*k)%256)] 5))),(8,(nw ρ 8 (cL (grow C2 X2.length (bs ([ob ((8*n / 2^(56-8*k)%256:Nat):Int)]:List UInt8)) (aZ ρ 8)) 5)))]) (cR [[],[]]<|cA (v:=fun ρ=>(.int .u64 (IntKind.u64.wrap (8*((n:Nat):Int))))) (fun _=>(vx (8*n))) (fun _=>congrArg (Value.int .u64) (u64_mulN 8 n (by have:=yF hb4;have:=aS n;have:=dZ hX2;omega)))<|cR [[]]<|jW (fun ρ=>(8*(7-((k:Nat):Int)))) (fun _=>(56-8*k)) (fun _=>((gZ (by have:=yF hb4;have:=aS n;have:=dZ hX2;omega)).trans (by have:=yF hb4;have:=aS n;have:=dZ hX2;omega)))<|cB (a:=fun ρ=>(vx (8*n))) (b:=fun ρ=>(vn (56-8*k))) (v:=fun ρ=>(vx (8*n / 2^(56-8*k)))) .shr 37 (fun _ w=>gG (k:=.u64) (x:=8*n) (c:=56-8*k) (by have:=yF hb4;have:=hn;have:=aS n;have:=hj;have:=hk;have:=dZ hX2;show 8*n<18446744073709551616;omega) w)<|cA (fun _=>(vy (8*n / 2^(56-8*k)%256))) (fun _=>congrArg (Value.int .u8) (u8M (8*n / 2^(56-8*k))))<|cR [[]]<|cX (qN (fun _ ζ=>(vs (ζ.headD 0) (X2++([ob ((8*n / 2^(56-8*k)%256:Nat):Int)]:List UInt8)).length ((X2++([ob ((8*n / 2^(56-8*k)%256:Nat):Int)]:List UInt8)).length+ζ.tail.headD 0))) (fun _ ζ=>(cL (grow C2 X2.length (bs ([ob ((8*n / 2^(56-8*k)%256:Nat):Int)]:List UInt8)) (ζ.tail.headD 0)) 5)) (fun ρ _ _ hG=>xG (ty:=33) Tryz.underlying33 nH (hG.kn (g:=g2) (o:=(cL C2 5)) 0) (Bs.src (tx:=33) Tryz.underlying33 (Bs.of_hd (hG.kn (g:=nb ρ 7) (o:=(cL #[vy (8*n / 2^(56-8*k)%256)] 5)) 57) (hd1 (by omega)) (Nat.le_refl 1) (Nat.le_of_ble_eq_true rfl))) hs2 hle2 (Nat.lt_of_not_le (yF hb4)) (by have:=yF hb4;have:=hn;have:=aS n;have:=hj;have:=hk;have:=dZ hX2;simp only [List.length_cons,List.length_nil];omega)))<|jE [[]]) (fun ρ10=>?_)
  refine aJ (aA ?_)
  refine rS Tryz.f133 3 [0,2,3,4] [] (fun _=>let qa:=vi (7-((k+1:Nat):Int));[vi (7-((k:Nat):Int)),qa,qa]) (fun _=>[]) (cR [[]]<|jU (fun ρ=>((7-((k:Nat):Int))-1)) (fun _=>(7-((k+1:Nat):Int))) (fun _=>((gZ (by have:=yF hb4;have:=aS n;have:=dZ hX2;omega)).trans (by omega)))<|jE [[]]) (fun _=>?_)
  exact mN ((k+1,nb ρ10 8,X2++([ob ((8*n / 2^(56-8*k)%256:Nat):Int)]:List UInt8),grow C2 X2.length (bs ([ob ((8*n / 2^(56-8*k)%256:Nat):Int)]:List UInt8)) (aZ ρ10 8),(X2++([ob ((8*n / 2^(56-8*k)%256:Nat):Int)]:List UInt8)).length+aZ ρ10 8)) (by show 8-(k+1)<8-k;have:=yF hb4;have:=aS n;have:=dZ hX2;omega) (⟨(by have:=yF hb4;have:=aS n;have:=dZ hX2;omega),pad_next hX2,Hd.grow hC2 rfl,tX hC2,Nat.le_add_right _ _⟩) []
 rw [hb3]
 refine bF (aN (aN (aT (aA (jJ Tryz.f133 2 [2] [vs g2 X2.length κ2,vs g2 X2.length κ2] (aF (mD [(2,(vs g2 X2.length κ2))] [(g2,(cL C2 5))] ?_)))))))
 exact mR (v:=(vs g2 X2.length κ2)) (fun _ hS=>⟨some ⟨g2,0,none⟩,κ2,congrArg Ending.returned (by rw [(pad_end hX2 (by have:=yF hb3;have:=aS n;have:=dZ hX2;omega))]),hS.bel,dU (pad_end hX2 (by have:=yF hb3;have:=aS n;have:=dZ hX2;omega)) (hS.fresh (.head _) hC2 hle2 (by have:=aS n;have:=nZ hX;have:=dZ hX2;omega))⟩)
theorem tZ (a:Option Addr) (c:Nat) (B:List UInt8) (a2:Option Addr) (c2:Nat) (S:List UInt8) (hl:B.length+S.length≤140737488351232) (w0:World) (hf0:Bs w0 a c B) (hf1:Bs w0 a2 c2 S):Calls Tryz.prog 105 #[.slice a B.length c,.slice a2 S.length c2] w0 (fun ε w'=>∃ α κ,ε=.returned (.slice α (B++S).length κ)∧jG w0 w'∧Fs w0 w' α κ (B++S)):=by
 refine Calls.of_ok (n:=17) (F:=(fun w=>Bs w a c B∧Bs w a2 c2 S∧True)) Tryz.func105 rfl rfl rfl (by simp) (hf0.pers0.and (hf1.pers0.and cO)) ?_
 refine jJ Tryz.f105 1 [0,1,4] [vz] ?_
 refine sS Tryz.f105 7 [0,1,4,5] [] (fun ρ=>let qa:=vs (nb ρ 5) ([]:List UInt8).length (B.length+S.length);[.slice a B.length c,vn B.length,.slice a2 S.length c2,vn S.length,vn (B.length+S.length),qa,qa]) (fun ρ=>[(5,(nw ρ 5 (cL (zB (B.length+S.length)) 5)))]) (cR [[],[],[],[]]<|jW (fun ρ=>(((B.length:Nat):Int)+((S.length:Nat):Int))) (fun _=>(B.length+S.length)) (fun _=>(aW B.length S.length (by omega)))<|cX (uB _ (fun _=>do pure (Next.value (← Instr.makeSlice 33 (vi 0) (vn (B.length+S.length))))) (fun _ ζ=>(vs (ζ.headD 0) ([]:List UInt8).length (B.length+S.length))) (fun _ _=>(cL (zB (B.length+S.length)) 5)) (fun _ _=>(by kernel_rfl)) (fun _=>(by kernel_rfl)) (fun _ _=>trivial) (fun _ _ w _=>mM Tryz.underlying33 nH ([]:List UInt8) (rfl) (rfl) (Nat.zero_le _) hl w))<|jE [[]]) (fun ρ2=>?_)
 refine sS Tryz.f105 6 [4] [] (fun _=>let qa:=vs (nb ρ2 5) ((([]:List UInt8)++B)++S).length (B.length+S.length);[vs (nb ρ2 5) ([]:List UInt8).length (B.length+S.length),.slice a B.length c,vs (nb ρ2 5) (([]:List UInt8)++B).length (B.length+S.length),.slice a2 S.length c2,qa,qa]) (fun _=>[(2,(bD 0 (nb ρ2 5) (cL (inpl (zB (B.length+S.length)) ([]:List UInt8).length (bs B)) 5))),(4,(bD 0 (nb ρ2 5) (cL (inpl (inpl (zB (B.length+S.length)) ([]:List UInt8).length (bs B)) (([]:List UInt8)++B).length (bs S)) 5)))]) (cR [[],[]]<|cX (o9 _ 0 (fun _=>do pure (Next.value (← Builtin.append_ #[33,33] 33 #[vs (nb ρ2 5) ([]:List UInt8).length (B.length+S.length),.slice a B.length c]))) (fun _=>nb ρ2 5) (fun _=>(cL (zB (B.length+S.length)) 5)) (fun _=>(cL (inpl (zB (B.length+S.length)) ([]:List UInt8).length (bs B)) 5)) (fun _=>(vs (nb ρ2 5) (([]:List UInt8)++B).length (B.length+S.length))) (fun _=>(by kernel_rfl)) (fun _=>(by kernel_rfl)) (fun _=>(by kernel_rfl)) (fun _=>(by kernel_rfl)) (fun _ _=>trivial) (fun _ _ _ hG hg=>kD Tryz.underlying33 nH hg (Bs.src (tx:=33) Tryz.underlying33 hG.fn.1) (oD _) (by simp only [List.length_nil];omega)))<|cR [[]]<|cX (o9 _ 0 (fun _=>do pure (Next.value (← Builtin.append_ #[33,33] 33 #[vs (nb ρ2 5) (([]:List UInt8)++B).length (B.length+S.length),.slice a2 S.length c2]))) (fun _=>nb ρ2 5) (fun _=>(cL (inpl (zB (B.length+S.length)) ([]:List UInt8).length (bs B)) 5)) (fun _=>(cL (inpl (inpl (zB (B.length+S.length)) ([]:List UInt8).length (bs B)) (([]:List UInt8)++B).length (bs S)) 5)) (fun _=>(vs (nb ρ2 5) ((([]:List UInt8)++B)++S).length (B.length+S.length))) (fun _=>(by kernel_rfl)) (fun _=>(by kernel_rfl)) (fun _=>(by kernel_rfl)) (fun _=>(by kernel_rfl)) (fun _ _=>trivial) (fun _ _ _ hG hg=>kD Tryz.underlying33 nH hg (Bs.src (tx:=33) Tryz.underlying33 hG.fn.2.1) ((lG _ _ _ (room_le (oD _) (by simp only [List.length_nil];omega))).trans (oD _)) (Nat.le_refl _)))<|jE [[]]) (fun _=>?_)
 refine aF (mD [(4,(vs (nb ρ2 5) ((([]:List UInt8)++B)++S).length (B.length+S.length)))] [(nb ρ2 5,(cL (inpl (inpl (zB (B.length+S.length)) ([]:List UInt8).length (bs B)) (([]:List UInt8)++B).length (bs S)) 5))] ?_)
 exact mR (v:=(vs (nb ρ2 5) ((([]:List UInt8)++B)++S).length (B.length+S.length))) (fun _ hS=>⟨some ⟨nb ρ2 5,0,none⟩,B.length+S.length,congrArg Ending.returned (rfl),hS.bel,dU (rfl) (hS.fresh (.head _) (Hd.inpl (Hd.inpl (Hd.nil _) rfl) rfl) (oK (Nat.le_refl _)) (oK hl))⟩)
theorem join2_any (g:Nat) (a0:Option Addr) (c0:Nat) (B0:List UInt8) (a1:Option Addr) (c1:Nat) (B1:List UInt8) (hl:B0.length+B1.length≤140737488351232) (__h0:0<B0.length) (w0:World) (hf0:Kb w0 g #[.slice a0 B0.length c0,.slice a1 B1.length c1]) (hf1:Bs w0 a0 c0 B0) (hf2:Bs w0 a1 c1 B1):Calls Tryz.prog 73 #[vs g 2 2] w0 (fun ε w'=>∃ α κ,ε=.returned (.slice α (B0++B1).length κ)∧jG w0 w'∧Fs w0 w' α κ (B0++B1)):=by
 refine Calls.of_ok (n:=17) (F:=(fun w=>Kb w g #[.slice a0 B0.length c0,.slice a1 B1.length c1]∧Bs w a0 c0 B0∧Bs w a1 c1 B1∧True)) Tryz.func73 rfl rfl rfl (by simp) (hf0.pers0.and (hf1.pers0.and (hf2.pers0.and cO))) ?_
 refine jJ Tryz.f73 1 [0,2] [vz] (jJ Tryz.f73 1 [0,2,3] [vz] (aB (jJ Tryz.f73 3 [2,3,6,7,8] [vs g 2 2,vi 2,vi 0] (aI ?_))))
 refine jY 3 ?_
 refine dI ?_
 refine jJ Tryz.f73 1 [2,3,6,7,8,9] [vT] (aB ?_)
 refine oY ?_
 refine aG (aA (aB (aI ?_)))
 refine sS Tryz.f73 3 [2,3,5,6,7,8,9,10,11] [] (fun _=>[pt g,.slice a0 B0.length c0,.slice a0 B0.length c0]) (fun _=>[]) (cR [[]]<|cX (qF (v:=fun ρ=>(.slice a0 B0.length c0)) (fun _ _ _ hG=>mY (off:=0) Tryz.isAgg33 hG.fn.1 (rfl)))<|jE [[]]) (fun _=>?_)
 refine rSf Tryz.f73 4 [2,3,5,6,7,8,9,10,11,12,13,14] [] (fun ρ=>let qa:Value:=.slice (oa ρ 2) (([]:List UInt8)++B0).length (nb ρ 2);[vz,.slice a0 B0.length c0,qa,qa]) (fun _=>[]) (fun ρ=>[(2,fun w=>Fs w0 w (oa ρ 2) (nb ρ 2) (([]:List UInt8)++B0))]) (fun ρ=>(fun w=>Kb w g #[.slice a0 B0.length c0,.slice a1 B1.length c1]∧Bs w a0 c0 B0∧Bs w a1 c1 B1∧Fs w0 w (oa ρ 2) (nb ρ 2) (([]:List UInt8)++B0)∧True)) (fun _=>True) (fun _ _ hF hf=>⟨⟨hF.1,hF.2.1,hF.2.2.1,hf 2,trivial⟩,trivial⟩) (cR [[],[]]<|cX (qB (fun _ _ w hG=>tZ none 0 ([]:List UInt8) a0 c0 B0 (by (try simp only [List.length_nil])<;>(omega)) w Bs.nil hG.fn.2.1))<|jE [[]]) (fun ρ6 _=>?_)
 refine aJ (aA (jL Tryz.f73 2 [2,3,5,6,7,8,9,10,11,12,13,14,15] [] [vi 1,vi 1] [[],[]] (dV ?_)))
 refine dI ?_
 refine jJ Tryz.f73 1 [2,3,5,6,7,8,9,10,11,12,13,14,15] [vT] ?_
 refine lK [(2,vz),(3,(.slice (oa ρ6 2) (([]:List UInt8)++B0).length (nb ρ6 2))),(5,(.slice a0 B0.length c0)),(6,(vs g 2 2)),(7,(vi 2)),(8,(vi 1)),(9,vT),(10,(pt g)),(11,(.slice a0 B0.length c0)),(12,vz),(13,(.slice a0 B0.length c0)),(14,(.slice (oa ρ6 2) (([]:List UInt8)++B0).length (nb ρ6 2))),(15,(vi 1))] [] ?_
 refine aB ?_
 refine oY ?_
 refine aG (aA (aB (aI ?_)))
 refine sS Tryz.f73 3 [2,3,5,6,7,8,9,10,11,12,13,14,15] [] (fun _=>[jp g 1,.slice a1 B1.length c1,.slice a1 B1.length c1]) (fun _=>[]) (cR [[]]<|cX (qF (v:=fun ρ=>(.slice a1 B1.length c1)) (fun _ _ _ hG=>mY (off:=1) Tryz.isAgg33 hG.fn.1 (rfl)))<|jE [[]]) (fun _=>?_)
 refine rSf Tryz.f73 4 [2,3,5,6,7,8,9,10,11,12,13,14,15] [] (fun ρ=>let qa:Value:=.slice (oa ρ 2) ((([]:List UInt8)++B0)++B1).length (nb ρ 2);[.slice (oa ρ6 2) (([]:List UInt8)++B0).length (nb ρ6 2),.slice a1 B1.length c1,qa,qa]) (fun _=>[]) (fun ρ=>[(2,fun w=>Fs w0 w (oa ρ 2) (nb ρ 2) ((([]:List UInt8)++B0)++B1))]) (fun ρ=>(fun w=>Kb w g #[.slice a0 B0.length c0,.slice a1 B1.length c1]∧Bs w a0 c0 B0∧Bs w a1 c1 B1∧Fs w0 w (oa ρ6 2) (nb ρ6 2) (([]:List UInt8)++B0)∧Fs w0 w (oa ρ 2) (nb ρ 2) ((([]:List UInt8)++B0)++B1)∧True)) (fun _=>True) (fun _ _ hF hf=>⟨⟨hF.1,hF.2.1,hF.2.2.1,hF.2.2.2.1,hf 2,trivial⟩,trivial⟩) (cR [[],[]]<|cX (qB (fun _ _ w hG=>tZ (oa ρ6 2) (nb ρ6 2) (([]:List UInt8)++B0) a1 c1 B1 (by (try simp only [List.length_append,List.length_nil])<;>(omega)) w hG.fn.2.2.2.1.1 hG.fn.2.2.1))<|jE [[]]) (fun ρ10 _=>?_)
 refine aJ (aA (jL Tryz.f73 2 [2,3,5,6,7,8,9,10,11,12,13,14,15] [] [vi 2,vi 2] [[],[]] (dV ?_)))
 refine dI ?_
 refine jJ Tryz.f73 1 [2,3,5,6,7,8,9,10,11,12,13,14,15] [vF] (aB ?_)
 refine oN ?_
 refine bF (aN (aN (aT (aA (jJ Tryz.f73 2 [2] (let qa:Value:=.slice (oa ρ10 2) ((([]:List UInt8)++B0)++B1).length (nb ρ10 2);[qa,qa]) (aF (mD [(2,(.slice (oa ρ10 2) ((([]:List UInt8)++B0)++B1).length (nb ρ10 2)))] [] ?_)))))))
 exact mR (v:=(.slice (oa ρ10 2) ((([]:List UInt8)++B0)++B1).length (nb ρ10 2))) (fun _ hS=>⟨oa ρ10 2,nb ρ10 2,congrArg Ending.returned (rfl),hS.bel,dU (rfl) hS.facts.now.2.2.2.2.1⟩)
theorem kE (x:Nat) (n:Nat) (hx:x<4294967296) (hn:0<n∧n<32) (w0:World):Calls Tryz.prog 153 #[vu x,vn n] w0 (jR (vu (aH x n)) w0):=by
 refine Calls.of_ok (n:=9) (F:=(fun _=>True)) Tryz.func153 rfl rfl rfl (by simp) jT ?_
 refine jJ Tryz.f153 1 [0,1,4] [.int .u32 0] ?_
 refine sS Tryz.f153 5 [4] [] (fun _=>[vu x,vn n,vi (0-((n:Nat):Int)),vu (aH x n),vu (aH x n)]) (fun _=>[]) (cR [[],[]]<|jU (fun ρ=>(0-((n:Nat):Int))) (fun _=>(0-((n:Nat):Int))) (fun _=>(gZ (by omega)))<|cC (fun _ w=>rotl_any x n hx hn w)<|jE [[]]) (fun _=>?_)
 refine aF ?_
 exact mR (v:=(vu (aH x n))) (fun _ hS=>⟨rfl,hS.bel⟩)
theorem rsched_any (X:List UInt8) (hX:X.length=64) (w0:World):Calls Tryz.prog 151 #[.agg (bs X).toArray] w0 (jR (.agg (bY .u32 64 (wN X))) w0):=by
 refine Calls.of_ok (n:=97) (F:=(fun _=>True)) Tryz.func151 rfl rfl rfl (by simp) jT ?_
 refine sS Tryz.f151 2 [1,2] [] (fun ρ=>[pt (nb ρ 0),pt (nb ρ 1)]) (fun ρ=>[(0,(nw ρ 0 (cL (bs X).toArray 106))),(1,(nw ρ 1 (cL (bY .u32 64 (fun _=>0)) 115)))]) (jE [[],[]]) (fun ρ1=>?_)
 refine sS Tryz.f151 1 [1,2,3] [] (fun ρ=>[pt (nb ρ 0)]) (fun ρ=>[(0,(nw ρ 0 (cL (bY .u32 64 (fun _=>0)) 115)))]) (jE [[]]) (fun ρ2=>?_)
 refine aB (jJ Tryz.f151 1 [1,2,3,4] [vi 0] (aI ?_))
 refine oL (σ:=Nat × (Array Value)) (fun ⟨i,_⟩=>[(1,(pt (nb ρ1 0))),(2,(pt (nb ρ1 1))),(3,(pt (nb ρ2 0))),(4,(vn i))]) (fun ⟨_,C⟩=>[(nb ρ1 0,(cL (bs X).toArray 106)),(nb ρ1 1,(cL (bY .u32 64 (fun _=>0)) 115)),(nb ρ2 0,(cL C 115))]) (fun ⟨i,_⟩=>16-i)
   (fun ⟨i,C⟩=>(i≤16)∧(C=bY .u32 64 (sc X i 0))) (0,bY .u32 64 (fun _=>0)) (⟨by decide,zrow_sc X⟩) [] ?_
 rintro ⟨i,C⟩ ⟨hi,hC⟩
 change Ok Tryz.prog _ _ 97 [(1,(pt (nb ρ1 0))),(2,(pt (nb ρ1 1))),(3,(pt (nb ρ2 0))),(4,(vn i))] _ [(nb ρ1 0,(cL (bs X).toArray 106)),(nb ρ1 1,(cL (bY .u32 64 (fun _=>0)) 115)),(nb ρ2 0,(cL C 115))] (fun _=>True)
 refine aB (jJ Tryz.f151 2 [1,2,3,4,9] [vn i,.bool (decide (((i:Nat):Int)<16))] ?_)
 refine oC (decide (((i:Nat):Int)<16)) (fun hb1=>?_) (fun hb1=>?_)
 ·
  rw [hb1]
  have:=yT hb1
  refine aG (aA (aB (aI ?_)))
  refine rD Tryz.f151 [0,0,2,6,14,30,62,0,128,384,896,1920,3968,8064,16382,0,32768,98304,229376,491520,1015808,2064384,4194302,0,8388608,25165824,58720256,125829120,260046848,536870910,1073741823,2147483647] 32 [1,2,3,4] [] (fun _=>[vn i,vn i,vn (4*i),jp (nb ρ1 0) (4*i),vy (gB X (4*i)),vu (gB X (4*i)),vu (gB X (4*i)*16777216),vn i,vn (4*i),vn ((4*i)+1),jp (nb ρ1 0) ((4*i)+1),vy (gB X ((4*i)+1)),vu (gB X ((4*i)+1)),vu (gB X ((4*i)+1)*65536),vu ((gB X (4*i)*256+gB X ((4*i)+1))*65536),vn i,vn (4*i),vn ((4*i)+2),jp (nb ρ1 0) ((4*i)+2),vy (gB X ((4*i)+2)),vu (gB X ((4*i)+2)),vu (gB X ((4*i)+2)*256),vu (((gB X (4*i)*256+gB X ((4*i)+1))*256+gB X ((4*i)+2))*256),vn i,vn (4*i),vn ((4*i)+3),jp (nb ρ1 0) ((4*i)+3),vy (gB X ((4*i)+3)),vu (gB X ((4*i)+3)),vu (word X i),jp (nb ρ2 0) i,undef]) (fun _=>[(31,(bD 2 (nb ρ2 0) (cL (C.setIfInBounds i (vu (word X i))) 115)))]) (cR [[],[]]<|jW (fun ρ=>(4*((i:Nat):Int))) (fun _=>(4*i)) (fun _=>(fQ 4 i (by omega)))<|cX (jS (fun _=>Instr.indexAt 106 (pt (nb ρ1 0)) (vn (4*i))) (fun _=>(jp (nb ρ1 0) (4*i))) (fun _ w=>aX (n:=((4*i:Nat):Int)) (i:=4*i) Tryz.underlying106 Tryz.sizeOf5 (by omega) w))<|cX (kG _ 0 5 (fun _=>nb ρ1 0) (fun _=>4*i) (fun _=>(bs X).toArray) 106 (0,0) (fun _=>(vy (gB X (4*i)))) (fun _=>by kernel_rfl) Tryz.isAgg5 (fun _=>(zG (by rw [hX];omega))))<|cA (v:=fun ρ=>(.int .u32 (IntKind.u32.wrap ((gB X (4*i):Nat):Int)))) (fun _=>(vu (gB X (4*i)))) (fun _=>jN (u32N (Nat.lt_of_lt_of_le (iD _ _) (by decide))))<|cB (a:=fun ρ=>(vu (gB X (4*i)))) (b:=fun ρ=>(.int .u64 24)) (v:=fun ρ=>(vu (gB X (4*i)*16777216))) .shl 41 (fun _ w=>sV (k:=.u32) (yk:=.u64) (x:=gB X (4*i)) (c:=24) rfl (by have:=iD X (4*i);show _*16777216<4294967296;omega) (fun _=>by decide) w)<|cR [[]]<|jW (fun ρ=>(4*((i:Nat):Int))) (fun _=>(4*i)) (fun _=>(fQ 4 i (by omega)))<|jW (fun ρ=>(((4*i:Nat):Int)+1)) (fun _=>((4*i)+1)) (fun _=>(aW (4*i) 1 (by omega)))<|cX (jS (fun _=>Instr.indexAt 106 (pt (nb ρ1 0)) (vn ((4*i)+1))) (fun _=>(jp (nb ρ1 0) ((4*i)+1))) (fun _ w=>aX (n:=(((4*i)+1:Nat):Int)) (i:=(4*i)+1) Tryz.underlying106 Tryz.sizeOf5 (by omega) w))<|cX (kG _ 0 5 (fun _=>nb ρ1 0) (fun _=>(4*i)+1) (fun _=>(bs X).toArray) 106 (0,0) (fun _=>(vy (gB X ((4*i)+1)))) (fun _=>by kernel_rfl) Tryz.isAgg5 (fun _=>(zG (by rw [hX];omega))))<|cA (v:=fun ρ=>(.int .u32 (IntKind.u32.wrap ((gB X ((4*i)+1):Nat):Int)))) (fun _=>(vu (gB X ((4*i)+1)))) (fun _=>jN (u32N (Nat.lt_of_lt_of_le (iD _ _) (by decide))))<|cB (a:=fun ρ=>(vu (gB X ((4*i)+1)))) (b:=fun ρ=>(.int .u64 16)) (v:=fun ρ=>(vu (gB X ((4*i)+1)*65536))) .shl 41 (fun _ w=>sV (k:=.u32) (yk:=.u64) (x:=gB X ((4*i)+1)) (c:=16) rfl (by have:=iD X ((4*i)+1);show _*65536<4294967296;omega) (fun _=>by decide) w)<|cA (v:=fun ρ=>(.int .u32 (bits .or .u32 ((gB X (4*i)*16777216:Nat):Int) ((gB X ((4*i)+1)*65536:Nat):Int)))) (fun _=>(vu ((gB X (4*i)*256+gB X ((4*i)+1))*65536))) (fun _=>jN (or_w1 (iD _ _) (iD _ _)))<|cR [[]]<|jW (fun ρ=>(4*((i:Nat):Int))) (fun _=>(4*i)) (fun _=>(fQ 4 i (by omega)))<|jW (fun ρ=>(((4*i:Nat):Int)+2)) (fun _=>((4*i)+2)) (fun _=>(aW (4*i) 2 (by omega)))<|cX (jS (fun _=>Instr.indexAt 106 (pt (nb ρ1 0)) (vn ((4*i)+2))) (fun _=>(jp (nb ρ1 0) ((4*i)+2))) (fun _ w=>aX (n:=(((4*i)+2:Nat):Int)) (i:=(4*i)+2) Tryz.underlying106 Tryz.sizeOf5 (by omega) w))<|cX (kG _ 0 5 (fun _=>nb ρ1 0) (fun _=>(4*i)+2) (fun _=>(bs X).toArray) 106 (0,0) (fun _=>(vy (gB X ((4*i)+2)))) (fun _=>by kernel_rfl) Tryz.isAgg5 (fun _=>(zG (by rw [hX];omega))))<|cA (v:=fun ρ=>(.int .u32 (IntKind.u32.wrap ((gB X ((4*i)+2):Nat):Int)))) (fun _=>(vu (gB X ((4*i)+2)))) (fun _=>jN (u32N (Nat.lt_of_lt_of_le (iD _ _) (by decide))))<|cB (a:=fun ρ=>(vu (gB X ((4*i)+2)))) (b:=fun ρ=>(.int .u64 8)) (v:=fun ρ=>(vu (gB X ((4*i)+2)*256))) .shl 41 (fun _ w=>sV (k:=.u32) (yk:=.u64) (x:=gB X ((4*i)+2)) (c:=8) rfl (by have:=iD X ((4*i)+2);show _*256<4294967296;omega) (fun _=>by decide) w)<|cA (v:=fun ρ=>(.int .u32 (bits .or .u32 (((gB X (4*i)*256+gB X ((4*i)+1))*65536:Nat):Int) ((gB X ((4*i)+2)*256:Nat):Int)))) (fun _=>(vu (((gB X (4*i)*256+gB X ((4*i)+1))*256+gB X ((4*i)+2))*256))) (fun _=>jN (or_w2 (iD _ _) (iD _ _) (iD _ _)))<|cR [[]]<|jW (fun ρ=>(4*((i:Nat):Int))) (fun _=>(4*i)) (fun _=>(fQ 4 i (by omega)))<|jW (fun ρ=>(((4*i:Nat):Int)+3)) (fun _=>((4*i)+3)) (fun _=>(aW (4*i) 3 (by omega)))<|cX (jS (fun _=>Instr.indexAt 106 (pt (nb ρ1 0)) (vn ((4*i)+3))) (fun _=>(jp (nb ρ1 0) ((4*i)+3))) (fun _ w=>aX (n:=(((4*i)+3:Nat):Int)) (i:=(4*i)+3) Tryz.underlying106 Tryz.sizeOf5 (by omega) w))<|cX (kG _ 0 5 (fun _=>nb ρ1 0) (fun _=>(4*i)+3) (fun _=>(bs X).toArray) 106 (0,0) (fun _=>(vy (gB X ((4*i)+3)))) (fun _=>by kernel_rfl) Tryz.isAgg5 (fun _=>(zG (by rw [hX];omega))))<|cA (v:=fun ρ=>(.int .u32 (IntKind.u32.wrap ((gB X ((4*i)+3):Nat):Int)))) (fun _=>(vu (gB X ((4*i)+3)))) (fun _=>jN (u32N (Nat.lt_of_lt_of_le (iD _ _) (by decide))))<|cA (fun _=>(vu (word X i))) (fun _=>jN or_w3)<|cX (jS (fun _=>Instr.indexAt 115 (pt (nb ρ2 0)) (vn i)) (fun _=>(jp (nb ρ2 0) i)) (fun _ w=>aX (n:=((i:Nat):Int)) (i:=i) Tryz.underlying115 Tryz.sizeOf41 (by omega) w))<|cX (qG _ 2 41 (fun _=>nb ρ2 0) (fun _=>i) (fun _=>C) (fun _=>(C.setIfInBounds i (vu (word X i)))) 115 (fun _=>(vu (word X i))) (fun _=>by kernel_rfl) Tryz.sizeOf41 (fun _=>rfl) (fun _=>(by rw [hC,eH];omega)) (fun _=>rfl))<|cN) (fun _=>?_)
  refine aJ (aA ?_)
  refine rS Tryz.f151 3 [1,2,3,4] [] (fun _=>[vn i,vn (i+1),vn (i+1)]) (fun _=>[]) (cR [[]]<|jW (fun ρ=>(((i:Nat):Int)+1)) (fun _=>(i+1)) (fun _=>(aW i 1 (by omega)))<|jE [[]]) (fun _=>?_)
  exact mN (i+1,C.setIfInBounds i (vu (word X i))) (by show 16-(i+1)<16-i;omega) (⟨(by omega),by rw [hC];exact sc_word⟩) []
 rw [hb1]
 have:=yF hb1
 refine bF (aN (aN (aT (aA (aB (jM Tryz.f151 1 [2,3,5] [0,1,1] [vi 16] [[]] (aI ?_)))))))
 refine oL (σ:=Nat × (Array Value)) (fun ⟨k,_⟩=>[(2,(pt (nb ρ1 1))),(3,(pt (nb ρ2 0))),(5,(vn k))]) (fun ⟨_,C3⟩=>[(nb ρ1 1,(cL (bY .u32 64 (fun _=>0)) 115)),(nb ρ2 0,(cL C3 115))]) (fun ⟨k,_⟩=>64-k)
   (fun ⟨k,C3⟩=>(16≤k∧k≤64)∧(C3=bY .u32 64 (tc X k))) (16,C) (⟨by decide,hC.trans (by rw [show i=16 by omega];exact sc_tc X)⟩) [] ?_
 rintro ⟨k,C3⟩ ⟨hk,hC3⟩
 change Ok Tryz.prog _ _ 97 [(2,(pt (nb ρ1 1))),(3,(pt (nb ρ2 0))),(5,(vn k))] _ [(nb ρ1 1,(cL (bY .u32 64 (fun _=>0)) 115)),(nb ρ2 0,(cL C3 115))] (fun _=>True)
 refine aB (jJ Tryz.f151 2 [2,3,5,44] [vn k,.bool (decide (((k:Nat):Int)<64))] ?_)
 refine oC (decide (((k:Nat):Int)<64)) (fun hb2=>?_) (fun hb2=>?_)
 ·
  rw [hb2]
  have:=yT hb2
  refine aG (aA (aB (aI ?_)))
  refine sD Tryz.f151 [0,1,3,7,15,0,32,96,224,511,1023,0,2048,6144,14336,30720,65535,131071] 18 [2,3,5,6] [] (fun _=>let qa:=vu (((aH (wN X (k-15)) 7)^^^(aH (wN X (k-15)) 18))^^^((wN X (k-15)) / 2^3));let qb:=vi (((k:Nat):Int)-15);[vn k,qb,jp (nb ρ2 0) (k-15),vu (wN X (k-15)),vu (aH (wN X (k-15)) 7),vn k,qb,jp (nb ρ2 0) (k-15),vu (wN X (k-15)),vu (aH (wN X (k-15)) 18),vu ((aH (wN X (k-15)) 7)^^^(aH (wN X (k-15)) 18)),vn k,qb,jp (nb ρ2 0) (k-15),vu (wN X (k-15)),vu ((wN X (k-15)) / 2^3),qa,qa]) (fun _=>[]) (cR [[]]<|jU (fun ρ=>(((k:Nat):Int)-15)) (fun _=>(((k:Nat):Int)-15)) (fun _=>(gZ (by omega)))<|cX (jS (fun _=>Instr.indexAt 115 (pt (nb ρ2 0)) (vi (((k:Nat):Int)-15))) (fun _=>(jp (nb ρ2 0) (k-15))) (fun _ w=>aX (n:=((k:Nat):Int)-15) (i:=k-15) Tryz.underlying115 Tryz.sizeOf41 (by omega) w))<|cX (kG _ 1 41 (fun _=>nb ρ2 0) (fun _=>k-15) (fun _=>C3) 115 (0,0) (fun _=>(vu (wN X (k-15)))) (fun _=>by kernel_rfl) Tryz.isAgg41 (fun _=>(by rw [hC3];exact lM (by omega) (by omega))))<|cC (f:=153) (args:=fun ρ=> #[vu (wN X (k-15)),vi 7]) (v:=fun ρ=>(vu (aH (wN X (k-15)) 7))) (fun _ w=>(fun w=>kE (wN X (k-15)) 7 (iF _ _) (by decide) w) w)<|cR [[]]<|jU (fun ρ=>(((k:Nat):Int)-15)) (fun _=>(((k:Nat):Int)-15)) (fun _=>(gZ (by omega)))<|cX (jS (fun _=>Instr.indexAt 115 (pt (nb ρ2 0)) (vi (((k:Nat):Int)-15))) (fun _=>(jp (nb ρ2 0) (k-15))) (fun _ w=>aX (n:=((k:Nat):Int)-15) (i:=k-15) Tryz.underlying115 Tryz.sizeOf41 (by omega) w))<|cX (kG _ 1 41 (fun _=>nb ρ2 0) (fun _=>k-15) (fun _=>C3) 115 (0,0) (fun _=>(vu (wN X (k-15)))) (fun _=>by kernel_rfl) Tryz.isAgg41 (fun _=>(by rw [hC3];exact lM (by omega) (by omega))))<|cC (f:=153) (args:=fun ρ=> #[vu (wN X (k-15)),vi 18]) (v:=fun ρ=>(vu (aH (wN X (k-15)) 18))) (fun _ w=>(fun w=>kE (wN X (k-15)) 18 (iF _ _) (by decide) w) w)<|cA (v:=fun ρ=>(.int .u32 (bits .xor .u32 ((aH (wN X (k-15)) 7:Nat):Int) ((aH (wN X (k-15)) 18:Nat):Int)))) (fun _=>(vu ((aH (wN X (k-15)) 7)^^^(aH (wN X (k-15)) 18)))) (fun _=>jN (lH (dE _ (iF _ _)) (dE _ (iF _ _))))<|cR [[]]<|jU (fun ρ=>(((k:Nat):Int)-15)) (fun _=>(((k:Nat):Int)-15)) (fun _=>(gZ (by omega)))<|cX (jS (fun _=>Instr.indexAt 115 (pt (nb ρ2 0)) (vi (((k:Nat):Int)-15))) (fun _=>(jp (nb ρ2 0) (k-15))) (fun _ w=>aX (n:=((k:Nat):Int)-15) (i:=k-15) Tryz.underlying115 Tryz.sizeOf41 (by omega) w))<|cX (kG _ 1 41 (fun _=>nb ρ2 0) (fun _=>k-15) (fun _=>C3) 115 (0,0) (fun _=>(vu (wN X (k-15)))) (fun _=>by kernel_rfl) Tryz.isAgg41 (fun _=>(by rw [hC3];exact lM (by omega) (by omega))))<|cB (a:=fun ρ=>(vu (wN X (k-15)))) (b:=fun ρ=>(.int .u64 3)) (v:=fun ρ=>(vu ((wN X (k-15)) / 2^3))) .shr 41 (fun _ w=>gG (k:=.u32) (x:=(wN X (k-15))) (c:=3) (iF _ _) w)<|cA (v:=fun ρ=>(.int .u32 (bits .xor .u32 (((aH (wN X (k-15)) 7)^^^(aH (wN X (k-15)) 18):Nat):Int) (((wN X (k-15)) / 2^3:Nat):Int)))) (fun _=>(vu (((aH (wN X (k-15)) 7)^^^(aH (wN X (k-15)) 18))^^^((wN X (k-15)) / 2^3)))) (fun _=>jN (lH (lU (dE _ (iF _ _)) (dE _ (iF _ _))) (rV _ (iF _ _))))<|jE [[]]) (fun _=>?_)
  refine sD Tryz.f151 [0,1,3,7,15,0,32,96,224,511,1023,0,2048,6144,14336,30720,65535,131071] 18 [2,3,5,6,7] [] (fun _=>let qa:=vu (((aH (wN X (k-2)) 17)^^^(aH (wN X (k-2)) 19))^^^((wN X (k-2)) / 2^10));let qb:=vi (((k:Nat):Int)-2);[vn k,qb,jp (nb ρ2 0) (k-2),vu (wN X (k-2)),vu (aH (wN X (k-2)) 17),vn k,qb,jp (nb ρ2 0) (k-2),vu (wN X (k-2)),vu (aH (wN X (k-2)) 19),vu ((aH (wN X (k-2)) 17)^^^(aH (wN X (k-2)) 19)),vn k,qb,jp (nb ρ2 0) (k-2),vu (wN X (k-2)),vu ((wN X (k-2)) / 2^10),qa,qa]) (fun _=>[]) (cR [[]]<|jU (fun ρ=>(((k:Nat):Int)-2)) (fun _=>(((k:Nat):Int)-2)) (fun _=>(gZ (by omega)))<|cX (jS (fun _=>Instr.indexAt 115 (pt (nb ρ2 0)) (vi (((k:Nat):Int)-2))) (fun _=>(jp (nb ρ2 0) (k-2))) (fun _ w=>aX (n:=((k:Nat):Int)-2) (i:=k-2) Tryz.underlying115 Tryz.sizeOf41 (by omega) w))<|cX (kG _ 1 41 (fun _=>nb ρ2 0) (fun _=>k-2) (fun _=>C3) 115 (0,0) (fun _=>(vu (wN X (k-2)))) (fun _=>by kernel_rfl) Tryz.isAgg41 (fun _=>(by rw [hC3];exact lM (by omega) (by omega))))<|cC (f:=153) (args:=fun ρ=> #[vu (wN X (k-2)),vi 17]) (v:=fun ρ=>(vu (aH (wN X (k-2)) 17))) (fun _ w=>(fun w=>kE (wN X (k-2)) 17 (iF _ _) (by decide) w) w)<|cR [[]]<|jU (fun ρ=>(((k:Nat):Int)-2)) (fun _=>(((k:Nat):Int)-2)) (fun _=>(gZ (by omega)))<|cX (jS (fun _=>Instr.indexAt 115 (pt (nb ρ2 0)) (vi (((k:Nat):Int)-2))) (fun _=>(jp (nb ρ2 0) (k-2))) (fun _ w=>aX (n:=((k:Nat):Int)-2) (i:=k-2) Tryz.underlying115 Tryz.sizeOf41 (by omega) w))<|cX (kG _ 1 41 (fun _=>nb ρ2 0) (fun _=>k-2) (fun _=>C3) 115 (0,0) (fun _=>(vu (wN X (k-2)))) (fun _=>by kernel_rfl) Tryz.isAgg41 (fun _=>(by rw [hC3];exact lM (by omega) (by omega))))<|cC (f:=153) (args:=fun ρ=> #[vu (wN X (k-2)),vi 19]) (v:=fun ρ=>(vu (aH (wN X (k-2)) 19))) (fun _ w=>(fun w=>kE (wN X (k-2)) 19 (iF _ _) (by decide) w) w)<|cA (v:=fun ρ=>(.int .u32 (bits .xor .u32 ((aH (wN X (k-2)) 17:Nat):Int) ((aH (wN X (k-2)) 19:Nat):Int)))) (fun _=>(vu ((aH (wN X (k-2)) 17)^^^(aH (wN X (k-2)) 19)))) (fun _=>jN (lH (dE _ (iF _ _)) (dE _ (iF _ _))))<|cR [[]]<|jU (fun ρ=>(((k:Nat):Int)-2)) (fun _=>(((k:Nat):Int)-2)) (fun _=>(gZ (by omega)))<|cX (jS (fun _=>Instr.indexAt 115 (pt (nb ρ2 0)) (vi (((k:Nat):Int)-2))) (fun _=>(jp (nb ρ2 0) (k-2))) (fun _ w=>aX (n:=((k:Nat):Int)-2) (i:=k-2) Tryz.underlying115 Tryz.sizeOf41 (by omega) w))<|cX (kG _ 1 41 (fun _=>nb ρ2 0) (fun _=>k-2) (fun _=>C3) 115 (0,0) (fun _=>(vu (wN X (k-2)))) (fun _=>by kernel_rfl) Tryz.isAgg41 (fun _=>(by rw [hC3];exact lM (by omega) (by omega))))<|cB (a:=fun ρ=>(vu (wN X (k-2)))) (b:=fun ρ=>(.int .u64 10)) (v:=fun ρ=>(vu ((wN X (k-2)) / 2^10))) .shr 41 (fun _ w=>gG (k:=.u32) (x:=(wN X (k-2))) (c:=10) (iF _ _) w)<|cA (v:=fun ρ=>(.int .u32 (bits .xor .u32 (((aH (wN X (k-2)) 17)^^^(aH (wN X (k-2)) 19):Nat):Int) (((wN X (k-2)) / 2^10:Nat):Int)))) (fun _=>(vu (((aH (wN X (k-2)) 17)^^^(aH (wN X (k-2)) 19))^^^((wN X (k-2)) / 2^10)))) (fun _=>jN (lH (lU (dE _ (iF _ _)) (dE _ (iF _ _))) (rV _ (iF _ _))))<|jE [[]]) (fun _=>?_)
  refine rD Tryz.f151 [0,0,2,6,14,0,62,0,128,384,896,2046,0,8190,16383,32767] 16 [2,3,5] [] (fun _=>[vn k,vn k,vi (((k:Nat):Int)-16),jp (nb ρ2 0) (k-16),vu (wN X (k-16)),vu (((aH (wN X (k-15)) 7)^^^(aH (wN X (k-15)) 18))^^^((wN X (k-15)) / 2^3)),vu (add32 (wN X (k-16)) (((aH (wN X (k-15)) 7)^^^(aH (wN X (k-15)) 18))^^^((wN X (k-15)) / 2^3))),vn k,vi (((k:Nat):Int)-7),jp (nb ρ2 0) (k-7),vu (wN X (k-7)),vu (add32 (add32 (wN X (k-16)) (((aH (wN X (k-15)) 7)^^^(aH (wN X (k-15)) 18))^^^((wN X (k-15)) / 2^3))) (wN X (k-7))),vu (((aH (wN X (k-2)) 17)^^^(aH (wN X (k-2)) 19))^^^((wN X (k-2)) / 2^10)),vu (add32 (add32 (add32 (wN X (k-16)) (((aH (wN X (k-15)) 7)^^^(aH (wN X (k-15)) 18))^^^((wN X (k-15)) / 2^3))) (wN X (k-7))) (((aH (wN X (k-2)) 17)^^^(aH (wN X (k-2)) 19))^^^((wN X (k-2)) / 2^10))),jp (nb ρ2 0) k,undef]) (fun _=>[(15,(bD 1 (nb ρ2 0) (cL (C3.setIfInBounds k (vu (add32 (add32 (add32 (wN X (k-16)) (((aH (wN X (k-15)) 7)^^^(aH (wN X (k-15)) 18))^^^((wN X (k-15)) / 2^3))) (wN X (k-7))) (((aH (wN X (k-2)) 17)^^^(aH (wN X (k-2)) 19))^^^((wN X (k-2)) / 2^10))))) 115)))]) (cR [[],[]]<|jU (fun ρ=>(((k:Nat):Int)-16)) (fun _=>(((k:Nat):Int)-16)) (fun _=>(gZ (by omega)))<|cX (jS (fun _=>Instr.indexAt 115 (pt (nb ρ2 0)) (vi (((k:Nat):Int)-16))) (fun _=>(jp (nb ρ2 0) (k-16))) (fun _ w=>aX (n:=((k:Nat):Int)-16) (i:=k-16) Tryz.underlying115 Tryz.sizeOf41 (by omega) w))<|cX (kG _ 1 41 (fun _=>nb ρ2 0) (fun _=>k-16) (fun _=>C3) 115 (0,0) (fun _=>(vu (wN X (k-16)))) (fun _=>by kernel_rfl) Tryz.isAgg41 (fun _=>(by rw [hC3];exact lM (by omega) (by omega))))<|cR [[]]<|cA (fun _=>(vu (add32 (wN X (k-16)) (((aH (wN X (k-15)) 7)^^^(aH (wN X (k-15)) 18))^^^((wN X (k-15)) / 2^3))))) (fun _=>jN (bP (wN X (k-16)) (((aH (wN X (k-15)) 7)^^^(aH (wN X (k-15)) 18))^^^((wN X (k-15)) / 2^3))))<|cR [[]]<|jU (fun ρ=>(((k:Nat):Int)-7)) (fun _=>(((k:Nat):Int)-7)) (fun _=>(gZ (by omega)))<|cX (jS (fun _=>Instr.indexAt 115 (pt (nb ρ2 0)) (vi (((k:Nat):Int)-7))) (fun _=>(jp (nb ρ2 0) (k-7))) (fun _ w=>aX (n:=((k:Nat):Int)-7) (i:=k-7) Tryz.underlying115 Tryz.sizeOf41 (by omega) w))<|cX (kG _ 1 41 (fun _=>nb ρ2 0) (fun _=>k-7) (fun _=>C3) 115 (0,0) (fun _=>(vu (wN X (k-7)))) (fun _=>by kernel_rfl) Tryz.isAgg41 (fun _=>(by rw [hC3];exact lM (by omega) (by omega))))<|cA (fun _=>(vu (add32 (add32 (wN X (k-16)) (((aH (wN X (k-15)) 7)^^^(aH (wN X (k-15)) 18))^^^((wN X (k-15)) / 2^3))) (wN X (k-7))))) (fun _=>jN (bP (add32 (wN X (k-16)) (((aH (wN X (k-15)) 7)^^^(aH (wN X (k-15)) 18))^^^((wN X (k-15)) / 2^3))) (wN X (k-7))))<|cR [[]]<|cA (fun _=>(vu (add32 (add32 (add32 (wN X (k-16)) (((aH (wN X (k-15)) 7)^^^(aH (wN X (k-15)) 18))^^^((wN X (k-15)) / 2^3))) (wN X (k-7))) (((aH (wN X (k-2)) 17)^^^(aH (wN X (k-2)) 19))^^^((wN X (k-2)) / 2^10))))) (fun _=>jN (bP (add32 (add32 (wN X (k-16)) (((aH (wN X (k-15)) 7)^^^(aH (wN X (k-15)) 18))^^^((wN X (k-15)) / 2^3))) (wN X (k-7))) (((aH (wN X (k-2)) 17)^^^(aH (wN X (k-2)) 19))^^^((wN X (k-2)) / 2^10))))<|cX (jS (fun _=>Instr.indexAt 115 (pt (nb ρ2 0)) (vn k)) (fun _=>(jp (nb ρ2 0) k)) (fun _ w=>aX (n:=((k:Nat):Int)) (i:=k) Tryz.underlying115 Tryz.sizeOf41 (by omega) w))<|cX (qG _ 1 41 (fun _=>nb ρ2 0) (fun _=>k) (fun _=>C3) (fun _=>(C3.setIfInBounds k (vu (add32 (add32 (add32 (wN X (k-16)) (((aH (wN X (k-15)) 7)^^^(aH (wN X (k-15)) 18))^^^((wN X (k-15)) / 2^3))) (wN X (k-7))) (((aH (wN X (k-2)) 17)^^^(aH (wN X (k-2)) 19))^^^((wN X (k-2)) / 2^10)))))) 115 (fun _=>(vu (add32 (add32 (add32 (wN X (k-16)) (((aH (wN X (k-15)) 7)^^^(aH (wN X (k-15)) 18))^^^((wN X (k-15)) / 2^3))) (wN X (k-7))) (((aH (wN X (k-2)) 17)^^^(aH (wN X (k-2)) 19))^^^((wN X (k-2)) / 2^10))))) (fun _=>by kernel_rfl) Tryz.sizeOf41 (fun _=>rfl) (fun _=>(by rw [hC3,eH];omega)) (fun _=>rfl))<|cN) (fun _=>?_)
  refine aJ (aA ?_)
  refine rS Tryz.f151 3 [2,3,5] [] (fun _=>[vn k,vn (k+1),vn (k+1)]) (fun _=>[]) (cR [[]]<|jW (fun ρ=>(((k:Nat):Int)+1)) (fun _=>(k+1)) (fun _=>(aW k 1 (by omega)))<|jE [[]]) (fun _=>?_)
  exact mN (k+1,C3.setIfInBounds k (vu (add32 (add32 (add32 (wN X (k-16)) (((aH (wN X (k-15)) 7)^^^(aH (wN X (k-15)) 18))^^^((wN X (k-15)) / 2^3))) (wN X (k-7))) (((aH (wN X (k-2)) 17)^^^(aH (wN X (k-2)) 19))^^^((wN X (k-2)) / 2^10))))) (by show 64-(k+1)<64-k;omega) (⟨(by omega),by rw [hC3];exact tc_set (wN_more hk.1).symm⟩) []
 rw [hb2]
 refine bF (aN (aN (aT ?_)))
 rw [hC3]
 refine aA ?_
 refine sS Tryz.f151 2 [2] [1,0] (fun _=>[.agg (bY .u32 64 (tc X k)),undef]) (fun _=>[(1,(bD 0 (nb ρ1 1) (cL (bY .u32 64 (tc X k)) 115)))]) (jE [[1],[0]]) (fun _=>?_)
 refine aF ?_
 exact mR (v:=(.agg (bY .u32 64 (tc X k)))) (fun _ hS=>⟨congrArg Ending.returned (congrArg Value.agg (tc_end (by have:=yF hb2;omega))),hS.bel⟩)
theorem rconst_any  (w0:World):Calls Tryz.prog 152 #[] w0 (jR (.agg (bY .u32 64 kN)) w0):=by
 refine Calls.of_ok (n:=2) (F:=(fun _=>True)) Tryz.func152 rfl rfl rfl (by simp) jT ?_
 refine sS Tryz.f152 1 [0] [] (fun ρ=>[pt (nb ρ 0)]) (fun ρ=>[(0,(nw ρ 0 (cL (bY .u32 64 (fun _=>0)) 115)))]) (jE [[]]) (fun ρ1=>?_)
 refine sS Tryz.f152 2 [0] [] (fun _=>[.agg #[.int .u32 1116352408,.int .u32 1899447441,.int .u32 3049323471,.int .u32 3921009573,.int .u32 961987163,.int .u32 1508970993,.int .u32 2453635748,.int .u32 2870763221,.int .u32 3624381080,.int .u32 310598401,.int .u32 607225278,.int .u32 1426881987,.int .u32 1925078388,.int .u32 2162078206,.int .u32 2614888103,.int .u32 3248222580,.int .u32 3835390401,.int .u32 4022224774,.int .u32 264347078,.int .u32 604807628,.int .u32 770255983,.int .u32 1249150122,.int .u32 1555081692,.int .u32 1996064986,.int .u32 2554220882,.int .u32 2821834349,.int .u32 2952996808,.int .u32 3210313671,.int .u32 3336571891,.int .u32 3584528711,.int .u32 113926993,.int .u32 338241895,.int .u32 666307205,.int .u32 773529912,.int .u32 1294757372,.int .u32 1396182291,.int .u32 1695183700,.int .u32 1986661051,.int .u32 2177026350,.int .u32 2456956037,.int .u32 2730485921,.int .u32 2820302411,.int .u32 3259730800,.int .u32 3345764771,.int .u32 3516065817,.int .u32 3600352804,.int .u32 4094571909,.int .u32 275423344,.int .u32 430227734,.int .u32 506948616,.int .u32 659060556,.int .u32 883997877,.int .u32 958139571,.int .u32 1322822218,.int .u32 1537002063,.int .u32 1747873779,.int .u32 1955562222,.int .u32 2024104815,.int .u32 2227730452,.int .u32 2361852424,.int .u32 2428436474,.int .u32 2756734187,.int .u32 3204031479,.int .u32 3329325298],undef]) (fun _=>[(1,(bD 0 (nb ρ1 0) (cL #[.int .u32 1116352408,.int .u32 1899447441,.int .u32 3049323471,.int .u32 3921009573,.int .u32 961987163,.int .u32 1508970993,.int .u32 2453635748,.int .u32 2870763221,.int .u32 3624381080,.int .u32 310598401,.int .u32 607225278,.int .u32 1426881987,.int .u32 1925078388,.int .u32 2162078206,.int .u32 2614888103,.int .u32 3248222580,.int .u32 3835390401,.int .u32 4022224774,.int .u32 264347078,.int .u32 604807628,.int .u32 770255983,.int .u32 1249150122,.int .u32 1555081692,.int .u32 1996064986,.int .u32 2554220882,.int .u32 2821834349,.int .u32 2952996808,.int .u32 3210313671,.int .u32 3336571891,.int .u32 3584528711,.int .u32 113926993,.int .u32 338241895,.int .u32 666307205,.int .u32 773529912,.int .u32 1294757372,.int .u32 1396182291,.int .u32 1695183700,.int .u32 1986661051,.int .u32 2177026350,.int .u32 2456956037,.int .u32 2730485921,.int .u32 2820302411,.int .u32 3259730800,.int .u32 3345764771,.int .u32 3516065817,.int .u32 3600352804,.int .u32 4094571909,.int .u32 275423344,.int .u32 430227734,.int .u32 506948616,.int .u32 659060556,.int .u32 883997877,.int .u32 958139571,.int .u32 1322822218,.int .u32 1537002063,.int .u32 1747873779,.int .u32 1955562222,.int .u32 2024104815,.int .u32 2227730452,.int .u32 2361852424,.int .u32 2428436474,.int .u32 2756734187,.int .u32 3204031479,.int .u32 3329325298] 115)))]) (jE [[],[0]]) (fun _=>?_)
 refine aF ?_
 exact mR (v:=(.agg #[.int .u32 1116352408,.int .u32 1899447441,.int .u32 3049323471,.int .u32 3921009573,.int .u32 961987163,.int .u32 1508970993,.int .u32 2453635748,.int .u32 2870763221,.int .u32 3624381080,.int .u32 310598401,.int .u32 607225278,.int .u32 1426881987,.int .u32 1925078388,.int .u32 2162078206,.int .u32 2614888103,.int .u32 3248222580,.int .u32 3835390401,.int .u32 4022224774,.int .u32 264347078,.int .u32 604807628,.int .u32 770255983,.int .u32 1249150122,.int .u32 1555081692,.int .u32 1996064986,.int .u32 2554220882,.int .u32 2821834349,.int .u32 2952996808,.int .u32 3210313671,.int .u32 3336571891,.int .u32 3584528711,.int .u32 113926993,.int .u32 338241895,.int .u32 666307205,.int .u32 773529912,.int .u32 1294757372,.int .u32 1396182291,.int .u32 1695183700,.int .u32 1986661051,.int .u32 2177026350,.int .u32 2456956037,.int .u32 2730485921,.int .u32 2820302411,.int .u32 3259730800,.int .u32 3345764771,.int .u32 3516065817,.int .u32 3600352804,.int .u32 4094571909,.int .u32 275423344,.int .u32 430227734,.int .u32 506948616,.int .u32 659060556,.int .u32 883997877,.int .u32 958139571,.int .u32 1322822218,.int .u32 1537002063,.int .u32 1747873779,.int .u32 1955562222,.int .u32 2024104815,.int .u32 2227730452,.int .u32 2361852424,.int .u32 2428436474,.int .u32 2756734187,.int .u32 3204031479,.int .u32 3329325298])) (fun _ hS=>⟨by kernel_rfl,hS.bel⟩)
theorem rcompress_any (s0:Nat) (s1:Nat) (s2:Nat) (s3:Nat) (s4:Nat) (s5:Nat) (s6:Nat) (s7:Nat) (X:List UInt8) (hs:ok8 (s0,s1,s2,s3,s4,s5,s6,s7)) (hX:X.length=64) (w0:World):Calls Tryz.prog 135 #[.agg #[vu s0,vu s1,vu s2,vu s3,vu s4,vu s5,vu s6,vu s7],.agg (bs X).toArray] w0 (jR (.agg #[vu ((eF (s0,s1,s2,s3,s4,s5,s6,s7) X).1),vu ((eF (s0,s1,s2,s3,s4,s5,s6,s7) X).2.1),vu ((eF (s0,s1,s2,s3,s4,s5,s6,s7) X).2.2.1),vu ((eF (s0,s1,s2,s3,s4,s5,s6,s7) X).2.2.2.1),vu ((eF (s0,s1,s2,s3,s4,s5,s6,s7) X).2.2.2.2.1),vu ((eF (s0,s1,s2,s3,s4,s5,s6,s7) X).2.2.2.2.2.1),vu ((eF (s0,s1,s2,s3,s4,s5,s6,s7) X).2.2.2.2.2.2.1),vu ((eF (s0,s1,s2,s3,s4,s5,s6,s7) X).2.2.2.2.2.2.2)]) w0):=by
 refine Calls.of_ok (n:=133) (F:=(fun _=>True)) Tryz.func135 rfl rfl rfl (by simp) jT ?_
 refine sS Tryz.f135 3 [2,3,4] [] (fun ρ=>[pt (nb ρ 0),pt (nb ρ 1),pt (nb ρ 2)]) (fun ρ=>[(0,(nw ρ 0 (cL #[vu s0,vu s1,vu s2,vu s3,vu s4,vu s5,vu s6,vu s7] 104))),(1,(nw ρ 1 (cL (bs X).toArray 106))),(2,(nw ρ 2 (cL #[.int .u32 0,.int .u32 0,.int .u32 0,.int .u32 0,.int .u32 0,.int .u32 0,.int .u32 0,.int .u32 0] 104)))]) (jE [[],[],[]]) (fun ρ1=>?_)
 refine sS Tryz.f135 7 [2,4,5,6] [1,0,1,1,1] (fun ρ=>[.agg (bs X).toArray,.agg (bY .u32 64 (wN X)),.agg (bY .u32 64 kN),pt (nb ρ 3),pt (nb ρ 4),undef,undef]) (fun ρ=>[(3,(nw ρ 3 (cL (bY .u32 64 (fun _=>0)) 115))),(4,(nw ρ 4 (cL (bY .u32 64 (fun _=>0)) 115))),(5,(bD 27 (nb ρ 3) (cL (bY .u32 64 (wN X)) 115))),(6,(bD 35 (nb ρ 4) (cL (bY .u32 64 kN) 115)))]) (cX (qF (fun _ _ _ hG=>vS Tryz.isAgg106 Tryz.sizeOf106 (hG.kn (g:=nb ρ1 1) (o:=(cL (bs X).toArray 106)) 1) (by simp [bs,hX])))<|cC (fun _ w=>rsched_any X hX w)<|cC (fun _ w=>rconst_any w)<|jE [[],[],[27],[35]]) (fun ρ2=>?_)
 refine sD Tryz.f135 [0,1,0,4,0,16,0,64,0,256,0,1024,0,4096,0,16384,3,65551,196671,459007,984063,2035711,4145151,8388607] 24 [2,4,5,6,7,8,9,10,11,12,13,14] [] (fun _=>[pt (nb ρ1 0),vu s0,jp (nb ρ1 0) 1,vu s1,jp (nb ρ1 0) 2,vu s2,jp (nb ρ1 0) 3,vu s3,jp (nb ρ1 0) 4,vu s4,jp (nb ρ1 0) 5,vu s5,jp (nb ρ1 0) 6,vu s6,jp (nb ρ1 0) 7,vu s7,vu s0,vu s1,vu s2,vu s3,vu s4,vu s5,vu s6,vu s7]) (fun _=>[]) (jE [[],[0],[],[0],[],[0],[],[0],[],[0],[],[0],[],[0],[],[0],[],[],[],[],[],[],[],[]]) (fun _=>?_)
 refine aB (jJ Tryz.f135 1 [2,4,5,6,7,8,9,10,11,12,13,14,15] [vi 0] (aI ?_))
 refine oL (σ:=Nat × Nat × Nat × Nat × Nat × Nat × Nat × Nat × Nat) (fun ⟨i,ra,rb,rc,rd,re,rf,rg,rh⟩=>[(2,(pt (nb ρ1 0))),(4,(pt (nb ρ1 2))),(5,(pt (nb ρ2 3))),(6,(pt (nb ρ2 4))),(7,(vu ra)),(8,(vu rb)),(9,(vu rc)),(10,(vu rd)),(11,(vu re)),(12,(vu rf)),(13,(vu rg)),(14,(vu rh)),(15,(vn i))]) (fun ⟨_,_,_,_,_,_,_,_,_⟩=>[(nb ρ1 0,(cL #[vu s0,vu s1,vu s2,vu s3,vu s4,vu s5,vu s6,vu s7] 104)),(nb ρ1 2,(cL #[.int .u32 0,.int .u32 0,.int .u32 0,.int .u32 0,.int .u32 0,.int .u32 0,.int .u32 0,.int .u32 0] 104)),(nb ρ2 3,(cL (bY .u32 64 (wN X)) 115)),(nb ρ2 4,(cL (bY .u32 64 kN) 115))]) (fun ⟨i,_,_,_,_,_,_,_,_⟩=>64-i)
   (fun ⟨i,ra,rb,rc,rd,re,rf,rg,rh⟩=>(i≤64)∧(rnds X (s0,s1,s2,s3,s4,s5,s6,s7) i=(ra,rb,rc,rd,re,rf,rg,rh))) (0,s0,s1,s2,s3,s4,s5,s6,s7) (⟨by decide,rfl⟩) [] ?_
 rintro ⟨i,ra,rb,rc,rd,re,rf,rg,rh⟩ ⟨hi,hr⟩
 change Ok Tryz.prog _ _ 133 [(2,(pt (nb ρ1 0))),(4,(pt (nb ρ1 2))),(5,(pt (nb ρ2 3))),(6,(pt (nb ρ2 4))),(7,(vu ra)),(8,(vu rb)),(9,(vu rc)),(10,(vu rd)),(11,(vu re)),(12,(vu rf)),(13,(vu rg)),(14,(vu rh)),(15,(vn i))] _ [(nb ρ1 0,(cL #[vu s0,vu s1,vu s2,vu s3,vu s4,vu s5,vu s6,vu s7] 104)),(nb ρ1 2,(cL #[.int .u32 0,.int .u32 0,.int .u32 0,.int .u32 0,.int .u32 0,.int .u32 0,.int .u32 0,.int .u32 0] 104)),(nb ρ2 3,(cL (bY .u32 64 (wN X)) 115)),(nb ρ2 4,(cL (bY .u32 64 kN) 115))] (fun _=>True)
 have ho:ok8 (ra,rb,rc,rd,re,rf,rg,rh):=hr ▸ rnds_ok hs i
 refine aB (jJ Tryz.f135 2 [2,4,5,6,7,8,9,10,11,12,13,14,15,38] [vn i,.bool (decide (((i:Nat):Int)<64))] ?_)
 refine oC (decide (((i:Nat):Int)<64)) (fun hb1=>?_) (fun hb1=>?_)
 ·
  rw [hb1]
  have:=yT hb1
  refine aG (aA (aB (aI ?_)))
  refine sD Tryz.f135 [0,0,2,0,14,30,0,94,254,511,0,0,3072,0,8192,0,57344,130048,262143,0,524288,1572864,4194303,0,8388608,25165824,67108863,134217727] 28 [2,4,5,6,7,8,9,10,11,12,13,14,15,16] [] (fun _=>let qa:=vu (add32 (add32 (add32 (add32 rh (((aH re 6)^^^(aH re 11))^^^(aH re 25))) ((re&&&rf)^^^((dW re)&&&rg))) (kN i)) (wN X i));[vu rh,vu re,vu (aH re 6),vu re,vu (aH re 11),vu ((aH re 6)^^^(aH re 11)),vu re,vu (aH re 25),vu (((aH re 6)^^^(aH re 11))^^^(aH re 25)),vu (add32 rh (((aH re 6)^^^(aH re 11))^^^(aH re 25))),vu re,vu rf,vu (re&&&rf),vu re,vu (dW re),vu rg,vu ((dW re)&&&rg),vu ((re&&&rf)^^^((dW re)&&&rg)),vu (add32 (add32 rh (((aH re 6)^^^(aH re 11))^^^(aH re 25))) ((re&&&rf)^^^((dW re)&&&rg))),vn i,jp (nb ρ2 4) i,vu (kN i),vu (add32 (add32 (add32 rh (((aH re 6)^^^(aH re 11))^^^(aH re 25))) ((re&&&rf)^^^((dW re)&&&rg))) (kN i)),vn i,jp (nb ρ2 3) i,vu (wN X i),qa,qa]) (fun _=>[]) (cR [[],[]]<|cC (fun _ w=>kE re 6 ho.2.2.2.2.1 (by decide) w)<|cR [[]]<|cC (fun _ w=>kE re 11 ho.2.2.2.2.1 (by decide) w)<|cA (v:=fun ρ=>(.int .u32 (bits .xor .u32 ((aH re 6:Nat):Int) ((aH re 11:Nat):Int)))) (fun _=>(vu ((aH re 6)^^^(aH re 11)))) (fun _=>jN (lH (dE _ ho.2.2.2.2.1) (dE _ ho.2.2.2.2.1)))<|cR [[]]<|cC (fun _ w=>kE re 25 ho.2.2.2.2.1 (by decide) w)<|cA (v:=fun ρ=>(.int .u32 (bits .xor .u32 (((aH re 6)^^^(aH re 11):Nat):Int) ((aH re 25:Nat):Int)))) (fun _=>(vu (((aH re 6)^^^(aH re 11))^^^(aH re 25)))) (fun _=>jN (lH (lU (dE _ ho.2.2.2.2.1) (dE _ ho.2.2.2.2.1)) (dE _ ho.2.2.2.2.1)))<|cA (fun _=>(vu (add32 rh (((aH re 6)^^^(aH re 11))^^^(aH re 25))))) (fun _=>jN (bP rh (((aH re 6)^^^(aH re 11))^^^(aH re 25))))<|cR [[],[]]<|cA (fun _=>(vu (re&&&rf))) (fun _=>jN (xR ho.2.2.2.2.1 ho.2.2.2.2.2.1))<|cR [[]]<|cA (fun _=>(vu (dW re))) (fun _=>jN (not_xor32 ho.2.2.2.2.1))<|cR [[]]<|cA (v:=fun ρ=>(.int .u32 (bits .and .u32 ((dW re:Nat):Int) ((rg:Nat):Int)))) (fun _=>(vu ((dW re)&&&rg))) (fun _=>jN (xR (y9 _) ho.2.2.2.2.2.2.1))<|cA (v:=fun ρ=>(.int .u32 (bits .xor .u32 ((re&&&rf:Nat):Int) (((dW re)&&&rg:Nat):Int)))) (fun _=>(vu ((re&&&rf)^^^((dW re)&&&rg)))) (fun _=>jN (lH (iR _ ho.2.2.2.2.1) (iR _ (y9 _))))<|cA (fun _=>(vu (add32 (add32 rh (((aH re 6)^^^(aH re 11))^^^(aH re 25))) ((re&&&rf)^^^((dW re)&&&rg))))) (fun _=>jN (bP (add32 rh (((aH re 6)^^^(aH re 11))^^^(aH re 25))) ((re&&&rf)^^^((dW re)&&&rg))))<|cR [[]]<|cX (jS (fun _=>Instr.indexAt 115 (pt (nb ρ2 4)) (vn i)) (fun _=>(jp (nb ρ2 4) i)) (fun _ w=>aX (n:=((i:Nat):Int)) (i:=i) Tryz.underlying115 Tryz.sizeOf41 (by omega) w))<|cX (kG _ 3 41 (fun _=>nb ρ2 4) (fun _=>i) (fun _=>(bY .u32 64 kN)) 115 (0,0) (fun _=>(vu (kN i))) (fun _=>by kernel_rfl) Tryz.isAgg41 (fun _=>(kC_get (by omega))))<|cA (fun _=>(vu (add32 (add32 (add32 rh (((aH re 6)^^^(aH re 11))^^^(aH re 25))) ((re&&&rf)^^^((dW re)&&&rg))) (kN i)))) (fun _=>jN (bP (add32 (add32 rh (((aH re 6)^^^(aH re 11))^^^(aH re 25))) ((re&&&rf)^^^((dW re)&&&rg))) (kN i)))<|cR [[]]<|cX (jS (fun _=>Instr.indexAt 115 (pt (nb ρ2 3)) (vn i)) (fun _=>(jp (nb ρ2 3) i)) (fun _ w=>aX (n:=((i:Nat):Int)) (i:=i) Tryz.underlying115 Tryz.sizeOf41 (by omega) w))<|cX (kG _ 2 41 (fun _=>nb ρ2 3) (fun _=>i) (fun _=>(bY .u32 64 (wN X))) 115 (0,0) (fun _=>(vu (wN X i))) (fun _=>by kernel_rfl) Tryz.isAgg41 (fun _=>(nG (by omega))))<|cA (fun _=>(vu (add32 (add32 (add32 (add32 rh (((aH re 6)^^^(aH re 11))^^^(aH re 25))) ((re&&&rf)^^^((dW re)&&&rg))) (kN i)) (wN X i)))) (fun _=>jN (bP (add32 (add32 (add32 rh (((aH re 6)^^^(aH re 11))^^^(aH re 25))) ((re&&&rf)^^^((dW re)&&&rg))) (kN i)) (wN X i)))<|jE [[]]) (fun _=>?_)
  refine sS Tryz.f135 21 [2,4,5,6,7,8,9,10,11,12,13,14,15,16,17] [] (fun _=>let qa:=vu (add32 (((aH ra 2)^^^(aH ra 13))^^^(aH ra 22)) (((ra&&&rb)^^^(ra&&&rc))^^^(rb&&&rc)));[vu ra,vu (aH ra 2),vu ra,vu (aH ra 13),vu ((aH ra 2)^^^(aH ra 13)),vu ra,vu (aH ra 22),vu (((aH ra 2)^^^(aH ra 13))^^^(aH ra 22)),vu ra,vu rb,vu (ra&&&rb),vu ra,vu rc,vu (ra&&&rc),vu ((ra&&&rb)^^^(ra&&&rc)),vu rb,vu rc,vu (rb&&&rc),vu (((ra&&&rb)^^^(ra&&&rc))^^^(rb&&&rc)),qa,qa]) (fun _=>[]) (cR [[]]<|cC (fun _ w=>kE ra 2 ho.1 (by decide) w)<|cR [[]]<|cC (fun _ w=>kE ra 13 ho.1 (by decide) w)<|cA (v:=fun ρ=>(.int .u32 (bits .xor .u32 ((aH ra 2:Nat):Int) ((aH ra 13:Nat):Int)))) (fun _=>(vu ((aH ra 2)^^^(aH ra 13)))) (fun _=>jN (lH (dE _ ho.1) (dE _ ho.1)))<|cR [[]]<|cC (fun _ w=>kE ra 22 ho.1 (by decide) w)<|cA (v:=fun ρ=>(.int .u32 (bits .xor .u32 (((aH ra 2)^^^(aH ra 13):Nat):Int) ((aH ra 22:Nat):Int)))) (fun _=>(vu (((aH ra 2)^^^(aH ra 13))^^^(aH ra 22)))) (fun _=>jN (lH (lU (dE _ ho.1) (dE _ ho.1)) (dE _ ho.1)))<|cR [[],[]]<|cA (fun _=>(vu (ra&&&rb))) (fun _=>jN (xR ho.1 ho.2.1))<|cR [[],[]]<|cA (fun _=>(vu (ra&&&rc))) (fun _=>jN (xR ho.1 ho.2.2.1))<|cA (v:=fun ρ=>(.int .u32 (bits .xor .u32 ((ra&&&rb:Nat):Int) ((ra&&&rc:Nat):Int)))) (fun _=>(vu ((ra&&&rb)^^^(ra&&&rc)))) (fun _=>jN (lH (iR _ ho.1) (iR _ ho.1)))<|cR [[],[]]<|cA (fun _=>(vu (rb&&&rc))) (fun _=>jN (xR ho.2.1 ho.2.2.1))<|cA (v:=fun ρ=>(.int .u32 (bits .xor .u32 (((ra&&&rb)^^^(ra&&&rc):Nat):Int) ((rb&&&rc:Nat):Int)))) (fun _=>(vu (((ra&&&rb)^^^(ra&&&rc))^^^(rb&&&rc)))) (fun _=>jN (lH (lU (iR _ ho.1) (iR _ ho.1)) (iR _ ho.2.1)))<|cA (fun _=>(vu (add32 (((aH ra 2)^^^(aH ra 13))^^^(aH ra 22)) (((ra&&&rb)^^^(ra&&&rc))^^^(rb&&&rc))))) (fun _=>jN (bP (((aH ra 2)^^^(aH ra 13))^^^(aH ra 22)) (((ra&&&rb)^^^(ra&&&rc))^^^(rb&&&rc))))<|jE [[]]) (fun _=>?_)
  refine rS Tryz.f135 20 [2,4,5,6,7,8,9,10,11,12,13,14,15] [] (fun _=>let qa:=vu (add32 (add32 (add32 (add32 (add32 rh (((aH re 6)^^^(aH re 11))^^^(aH re 25))) ((re&&&rf)^^^((dW re)&&&rg))) (kN i)) (wN X i)) (add32 (((aH ra 2)^^^(aH ra 13))^^^(aH ra 22)) (((ra&&&rb)^^^(ra&&&rc))^^^(rb&&&rc))));let qb:=vu (add32 rd (add32 (add32 (add32 (add32 rh (((aH re 6)^^^(aH re 11))^^^(aH re 25))) ((re&&&rf)^^^((dW re)&&&rg))) (kN i)) (wN X i)));let qc:=vu (add32 (add32 (add32 (add32 rh (((aH re 6)^^^(aH re 11))^^^(aH re 25))) ((re&&&rf)^^^((dW re)&&&rg))) (kN i)) (wN X i));[vu rg,vu rf,vu re,vu rd,qc,qb,vu rc,vu rb,vu ra,qc,vu (add32 (((aH ra 2)^^^(aH ra 13))^^^(aH ra 22)) (((ra&&&rb)^^^(ra&&&rc))^^^(rb&&&rc))),qa,vu rg,vu rf,vu re,qb,vu rc,vu rb,vu ra,qa]) (fun _=>[]) (cR [[],[],[],[],[]]<|cA (fun _=>(vu (add32 rd (add32 (add32 (add32 (add32 rh (((aH re 6)^^^(aH re 11))^^^(aH re 25))) ((re&&&rf)^^^((dW re)&&&rg))) (kN i)) (wN X i))))) (fun _=>jN (bP rd (add32 (add32 (add32 (add32 rh (((aH re 6)^^^(aH re 11))^^^(aH re 25))) ((re&&&rf)^^^((dW re)&&&rg))) (kN i)) (wN X i))))<|cR [[],[],[],[],[]]<|cA (fun _=>(vu (add32 (add32 (add32 (add32 (add32 rh (((aH re 6)^^^(aH re 11))^^^(aH re 25))) ((re&&&rf)^^^((dW re)&&&rg))) (kN i)) (wN X i)) (add32 (((aH ra 2)^^^(aH ra 13))^^^(aH ra 22)) (((ra&&&rb)^^^(ra&&&rc))^^^(rb&&&rc)))))) (fun _=>jN (bP (add32 (add32 (add32 (add32 rh (((aH re 6)^^^(aH re 11))^^^(aH re 25))) ((re&&&rf)^^^((dW re)&&&rg))) (kN i)) (wN X i)) (add32 (((aH ra 2)^^^(aH ra 13))^^^(aH ra 22)) (((ra&&&rb)^^^(ra&&&rc))^^^(rb&&&rc)))))<|jE [[],[],[],[],[],[],[],[]]) (fun _=>?_)
  refine aJ (aA ?_)
  refine rS Tryz.f135 3 [2,4,5,6,7,8,9,10,11,12,13,14,15] [] (fun _=>[vn i,vn (i+1),vn (i+1)]) (fun _=>[]) (cR [[]]<|jW (fun ρ=>(((i:Nat):Int)+1)) (fun _=>(i+1)) (fun _=>(aW i 1 (by omega)))<|jE [[]]) (fun _=>?_)
  exact mN (i+1,add32 (add32 (add32 (add32 (add32 rh (((aH re 6)^^^(aH re 11))^^^(aH re 25))) ((re&&&rf)^^^((dW re)&&&rg))) (kN i)) (wN X i)) (add32 (((aH ra 2)^^^(aH ra 13))^^^(aH ra 22)) (((ra&&&rb)^^^(ra&&&rc))^^^(rb&&&rc))),ra,rb,rc,add32 rd (add32 (add32 (add32 (add32 rh (((aH re 6)^^^(aH re 11))^^^(aH re 25))) ((re&&&rf)^^^((dW re)&&&rg))) (kN i)) (wN X i)),re,rf,rg) (by show 64-(i+1)<64-i;omega) (⟨(by omega),rnds_next hr⟩) []
 rw [hb1]
 refine bF (aN (aN (aT (aA ?_))))
 refine sS Tryz.f135 34 [4] [0,1,0,0] (fun _=>[pt (nb ρ1 0),vu s0,vu ra,vu (add32 s0 ra),jp (nb ρ1 0) 1,vu s1,vu rb,vu (add32 s1 rb),jp (nb ρ1 0) 2,vu s2,vu rc,vu (add32 s2 rc),jp (nb ρ1 0) 3,vu s3,vu rd,vu (add32 s3 rd),jp (nb ρ1 0) 4,vu s4,vu re,vu (add32 s4 re),jp (nb ρ1 0) 5,vu s5,vu rf,vu (add32 s5 rf),jp (nb ρ1 0) 6,vu s6,vu rg,vu (add32 s6 rg),jp (nb ρ1 0) 7,vu s7,vu rh,vu (add32 s7 rh),.agg #[vu (add32 s0 ra),vu (add32 s1 rb),vu (add32 s2 rc),vu (add32 s3 rd),vu (add32 s4 re),vu (add32 s5 rf),vu (add32 s6 rg),vu (add32 s7 rh)],undef]) (fun _=>[(33,(bD 1 (nb ρ1 2) (cL #[vu (add32 s0 ra),vu (add32 s1 rb),vu (add32 s2 rc),vu (add32 s3 rd),vu (add32 s4 re),vu (add32 s5 rf),vu (add32 s6 rg),vu (add32 s7 rh)] 104)))]) (cR [[],[0],[]]<|cA (fun _=>(vu (add32 s0 ra))) (fun _=>jN (bP s0 ra))<|cR [[],[0],[]]<|cA (fun _=>(vu (add32 s1 rb))) (fun _=>jN (bP s1 rb))<|cR [[],[0],[]]<|cA (fun _=>(vu (add32 s2 rc))) (fun _=>jN (bP s2 rc))<|cR [[],[0],[]]<|cA (fun _=>(vu (add32 s3 rd))) (fun _=>jN (bP s3 rd))<|cR [[],[0],[]]<|cA (fun _=>(vu (add32 s4 re))) (fun _=>jN (bP s4 re))<|cR [[],[0],[]]<|cA (fun _=>(vu (add32 s5 rf))) (fun _=>jN (bP s5 rf))<|cR [[],[0],[]]<|cA (fun _=>(vu (add32 s6 rg))) (fun _=>jN (bP s6 rg))<|cR [[],[0],[]]<|cA (fun _=>(vu (add32 s7 rh))) (fun _=>jN (bP s7 rh))<|jE [[],[1]]) (fun _=>?_)
 refine aF ?_
 exact mR (v:=(.agg #[vu (add32 s0 ra),vu (add32 s1 rb),vu (add32 s2 rc),vu (add32 s3 rd),vu (add32 s4 re),vu (add32 s5 rf),vu (add32 s6 rg),vu (add32 s7 rh)])) (fun _ hS=>⟨congrArg Ending.returned (by rw [cmp_end hr (show i=64 by have:=yF hb1;omega)]),hS.bel⟩)
theorem rinitial_any  (w0:World):Calls Tryz.prog 134 #[] w0 (jR (.agg #[.int .u32 1779033703,.int .u32 3144134277,.int .u32 1013904242,.int .u32 2773480762,.int .u32 1359893119,.int .u32 2600822924,.int .u32 528734635,.int .u32 1541459225]) w0):=by
 refine Calls.of_ok (n:=2) (F:=(fun _=>True)) Tryz.func134 rfl rfl rfl (by simp) jT ?_
 refine sS Tryz.f134 1 [0] [] (fun ρ=>[pt (nb ρ 0)]) (fun ρ=>[(0,(nw ρ 0 (cL #[.int .u32 0,.int .u32 0,.int .u32 0,.int .u32 0,.int .u32 0,.int .u32 0,.int .u32 0,.int .u32 0] 104)))]) (jE [[]]) (fun ρ1=>?_)
 refine sS Tryz.f134 2 [0] [] (fun _=>[.agg #[.int .u32 1779033703,.int .u32 3144134277,.int .u32 1013904242,.int .u32 2773480762,.int .u32 1359893119,.int .u32 2600822924,.int .u32 528734635,.int .u32 1541459225],undef]) (fun _=>[(1,(bD 0 (nb ρ1 0) (cL #[.int .u32 1779033703,.int .u32 3144134277,.int .u32 1013904242,.int .u32 2773480762,.int .u32 1359893119,.int .u32 2600822924,.int .u32 528734635,.int .u32 1541459225] 104)))]) (jE [[],[0]]) (fun _=>?_)
 refine aF ?_
 exact mR (v:=(.agg #[.int .u32 1779033703,.int .u32 3144134277,.int .u32 1013904242,.int .u32 2773480762,.int .u32 1359893119,.int .u32 2600822924,.int .u32 528734635,.int .u32 1541459225])) (fun _ hS=>⟨rfl,hS.bel⟩)
theorem uY (a:Option Addr) (c:Nat) (B:List UInt8) (h0:0<B.length) (hl:B.length+73≤140737488351232) (w0:World) (hf0:Bs w0 a c B):Calls Tryz.prog 104 #[.slice a B.length c] w0 (jR (.agg (hB (aU B))) w0):=by
 refine Calls.of_ok (n:=66) (F:=(fun w=>Bs w a c B∧True)) Tryz.func104 rfl rfl rfl (by simp) (hf0.pers0.and cO) ?_
 refine sS Tryz.f104 1 [0,2] [] (fun ρ=>[pt (nb ρ 0)]) (fun ρ=>[(0,(nw ρ 0 (cL (hB 0) 43)))]) (jE [[]]) (fun ρ1=>?_)
 refine iZ Tryz.f104 8 [2,3] [] (fun ρ=>let qa:=vs (nb ρ 6) (B++(aY B.length)).length (aZ ρ 6);[.slice a B.length c,vs (nb ρ 1) B.length (B.length+aZ ρ 1),.slice a B.length c,vn B.length,vx B.length,.slice (oa ρ 5) (aY B.length).length (nb ρ 5),qa,qa]) (fun ρ=>[(1,(nw ρ 1 (cL ((bs B).toArray++zB (aZ ρ 1)) 5))),(6,(bD 9 (nb ρ 6) (cL (oc ρ 6) 5)))]) (fun ρ=>[(5,fun w=>Fs w0 w (oa ρ 5) (nb ρ 5) (aY B.length)),(6,fun w=>Ap (oc ρ 6) (B++(aY B.length)) (aZ ρ 6))]) (fun ρ=>(fun w=>Bs w a c B∧Fs w0 w (oa ρ 5) (nb ρ 5) (aY B.length)∧True)) (fun ρ=>Ap (oc ρ 6) (B++(aY B.length)) (aZ ρ 6)) (fun _ _ hF hf=>⟨⟨hF.1,hf 5,trivial⟩,hf 6⟩) (cR [[]]<|cX (qN (fun _ ζ=>(vs (ζ.headD 0) B.length (B.length+ζ.tail.headD 0))) (fun _ ζ=>(cL ((bs B).toArray++zB (ζ.tail.headD 0)) 5)) (fun _ _ _ hG=>oU (ty:=33) Tryz.underlying33 nH (Bs.src (tx:=33) Tryz.underlying33 hG.fn.1) h0 (by have:=bJ B;have:=aS B.length;omega)))<|cR [[],[]]<|cA (v:=fun ρ=>(.int .u64 (IntKind.u64.wrap ((B.length:Nat):Int)))) (fun _=>(vx B.length)) (fun _=>congrArg (Value.int .u64) (u64N (by have:=bJ B;have:=aS B.length;omega)))<|cX (qB (fun _ _ w _=>rpad_any B.length (by have:=bJ B;have:=aS B.length;omega) w))<|cX (qM 9 (fun ρ _ w hG hg=>app_any (ty:=33) (g:=nb ρ 1) (C:=((bs B).toArray++zB (aZ ρ 1))) (c:=B.length+aZ ρ 1) (xs:=B) Tryz.underlying33 nH (Ap.mk' (Hd.fresh _ _) (Nat.le_add_right _ _) (by have:=bJ B;have:=aS B.length;omega) (kV _ _)) (Bs.src (tx:=33) Tryz.underlying33 (show Fs w0 w (oa ρ 5) (nb ρ 5) (aY B.length) from (hG.facts 5 rfl).now).1) (by have:=yG B.length;have:=aS B.length;omega) hg))<|jE [[]]) (fun ρ2 ap2_6=>?_)
 refine sS Tryz.f104 3 [2,3,4] [] (fun ρ=>[.agg #[.int .u32 1779033703,.int .u32 3144134277,.int .u32 1013904242,.int .u32 2773480762,.int .u32 1359893119,.int .u32 2600822924,.int .u32 528734635,.int .u32 1541459225],pt (nb ρ 1),undef]) (fun ρ=>[(1,(nw ρ 1 (cL #[.int .u32 0,.int .u32 0,.int .u32 0,.int .u32 0,.int .u32 0,.int .u32 0,.int .u32 0,.int .u32 0] 104))),(2,(bD 10 (nb ρ 1) (cL #[.int .u32 1779033703,.int .u32 3144134277,.int .u32 1013904242,.int .u32 2773480762,.int .u32 1359893119,.int .u32 2600822924,.int .u32 528734635,.int .u32 1541459225] 104)))]) (cC (fun _ w=>rinitial_any w)<|jE [[],[10]]) (fun ρ3=>?_)
 refine aB (jJ Tryz.f104 1 [2,3,4,5] [vi 0] (aI ?_))
 refine oL (σ:=Nat × Nat × Nat × Nat × Nat × Nat × Nat × Nat × Nat) (fun ⟨i,_,_,_,_,_,_,_,_⟩=>[(2,(pt (nb ρ1 0))),(3,(vs (nb ρ2 6) (B++(aY B.length)).length (aZ ρ2 6))),(4,(pt (nb ρ3 1))),(5,(vn (64*i)))]) (fun ⟨_,t0,t1,t2,t3,t4,t5,t6,t7⟩=>[(nb ρ1 0,(cL (hB 0) 43)),(nb ρ2 6,(cL (oc ρ2 6) 5)),(nb ρ3 1,(cL #[vu t0,vu t1,vu t2,vu t3,vu t4,vu t5,vu t6,vu t7] 104))]) (fun ⟨i,_,_,_,_,_,_,_,_⟩=>(B++(aY B.length)).length / 64-i)
   (fun ⟨i,t0,t1,t2,t3,t4,t5,t6,t7⟩=>(i≤(B++(aY B.length)).length / 64)∧(shaS (B++(aY B.length)) i=(t0,t1,t2,t3,t4,t5,t6,t7))) (0,1779033703,3144134277,1013904242,2773480762,1359893119,2600822924,528734635,1541459225) (⟨Nat.zero_le _,rfl⟩) [] ?_
 rintro ⟨i,t0,t1,t2,t3,t4,t5,t6,t7⟩ ⟨hi,hQ⟩
 change Ok Tryz.prog _ _ 66 [(2,(pt (nb ρ1 0))),(3,(vs (nb ρ2 6) (B++(aY B.length)).length (aZ ρ2 6))),(4,(pt (nb ρ3 1))),(5,(vn (64*i)))] _ [(nb ρ1 0,(cL (hB 0) 43)),(nb ρ2 6,(cL (oc ρ2 6) 5)),(nb ρ3 1,(cL #[vu t0,vu t1,vu t2,vu t3,vu t4,vu t5,vu t6,vu t7] 104))] (fun w=>Bs w a c B∧Fs w0 w (oa ρ2 5) (nb ρ2 5) (aY B.length)∧True)
 refine aB ?_
 refine sS Tryz.f104 5 [2,3,4,5,22] [] (fun _=>[vn (64*i),vn (64*(i+1)),vs (nb ρ2 6) (B++(aY B.length)).length (aZ ρ2 6),vn (B++(aY B.length)).length,.bool (decide (((64*(i+1):Nat):Int)≤(((B++(aY B.length)).length:Nat):Int)))]) (fun _=>[]) (cR [[]]<|jW (fun ρ=>(((64*i:Nat):Int)+64)) (fun _=>(64*(i+1))) (fun _=>((gZ (by have:=bJ B;have:=aS B.length;omega)).trans (by omega)))<|jE [[],[],[]]) (fun _=>?_)
 refine oC (decide (((64*(i+1):Nat):Int)≤(((B++(aY B.length)).length:Nat):Int))) (fun hb1=>?_) (fun hb1=>?_)
 ·
  rw [hb1]
  have:=yT hb1
  refine aG (aA (aB (aI ?_)))
  refine sS Tryz.f104 1 [2,3,4,5,6] [] (fun ρ=>[pt (nb ρ 0)]) (fun ρ=>[(0,(nw ρ 0 (cL (bY .u8 64 (fun _=>0)) 106)))]) (jE [[]]) (fun ρ6=>?_)
  refine sD Tryz.f104 [0,0,0,6,15] 5 [2,3,4,5,6] [] (fun _=>[vs (nb ρ6 0) 64 64,vs (nb ρ2 6) (B++(aY B.length)).length (aZ ρ2 6),vn (64*i),.slice (uF (some ⟨nb ρ2 6,0,none⟩) (64*i) (aZ ρ2 6)) (mid (B++(aY B.length)) (64*i) (B++(aY B.length)).length).length ((aZ ρ2 6)-(64*i)),vn (Nat.min (mid (B++(aY B.length)) (64*i) (B++(aY B.length)).length).length 64)]) (fun _=>[(4,(bD 3 (nb ρ6 0) (cL (bs ((mid (B++(aY B.length)) (64*i) (B++(aY B.length)).length).take 64)).toArray 106)))]) (cR [[],[],[]]<|cX (jF (fun _=>Instr.sliceAt 33 (vs (nb ρ2 6) (B++(aY B.length)).length (aZ ρ2 6)) (some (vn (64*i))) none none) (fun _=>(.slice (uF (some ⟨nb ρ2 6,0,none⟩) (64*i) (aZ ρ2 6)) (mid (B++(aY B.length)) (64*i) (B++(aY B.length)).length).length ((aZ ρ2 6)-(64*i)))) (fun _ _ _ hG=>vH (l:=64*i) (k:=(B++(aY B.length)).length) Tryz.underlying33 nH (Bs.of_hd (hG.kn (g:=nb ρ2 6) (o:=(cL (oc ρ2 6) 5)) 1) ap2_6.hd ap2_6.le ap2_6.max) rfl (Or.inr (congrArg (fun z=>some (Value.int .i64 z)) (rfl))) (Or.inl ⟨rfl,rfl⟩) (by have:=bJ B;have:=aS B.length;omega) (Nat.le_refl _)) (fun _ _ _ _=>cO))<|cX (o9 _ 3 (fun _=>do pure (Next.value (← Builtin.copy_ #[33,33] 3 #[vs (nb ρ6 0) 64 64,.slice (uF (some ⟨nb ρ2 6,0,none⟩) (64*i) (aZ ρ2 6)) (mid (B++(aY B.length)) (64*i) (B++(aY B.length)).length).length ((aZ ρ2 6)-(64*i))]))) (fun _=>nb ρ6 0) (fun _=>(cL (bY .u8 64 (fun _=>0)) 106)) (fun _=>(cL (bs ((mid (B++(aY B.length)) (64*i) (B++(aY B.length)).length).take 64)).toArray 106)) (fun _=>(vn (Nat.min (mid (B++(aY B.length)) (64*i) (B++(aY B.length)).length).length 64))) (fun _=>(by kernel_rfl)) (fun _=>(by kernel_rfl)) (fun _=>(by kernel_rfl)) (fun _=>(by kernel_rfl)) (fun _ _=>trivial) (fun _ _ _ hG hg=>(by as_aux_lemma=>(rw [← copy_arr (C:=(bY .u8 64 (fun _=>0))) (eH _ _ _) (by rw [kS _ _ _ (Nat.le_refl _)];have:=bJ B;have:=aS B.length;omega)];exact copy_row Tryz.underlying33 nH hg ((Bs.of_hd (hG.kn (g:=nb ρ2 6) (o:=(cL (oc ρ2 6) 5)) 1) ap2_6.hd ap2_6.le ap2_6.max).mid (by have:=bJ B;have:=aS B.length;omega) (Nat.le_refl _)) rfl (Nat.le_of_eq (eH _ 64 _).symm)))))<|cN) (fun _=>?_)
  refine rS Tryz.f104 4 [2,3,4,5] [1,1,1,0] (fun _=>[.agg #[vu t0,vu t1,vu t2,vu t3,vu t4,vu t5,vu t6,vu t7],.agg (bs ((mid (B++(aY B.length)) (64*i) (B++(aY B.length)).length).take 64)).toArray,.agg #[vu ((eF (t0,t1,t2,t3,t4,t5,t6,t7) ((mid (B++(aY B.length)) (64*i) (B++(aY B.length)).length).take 64)).1),vu ((eF (t0,t1,t2,t3,t4,t5,t6,t7) ((mid (B++(aY B.length)) (64*i) (B++(aY B.length)).length).take 64)).2.1),vu ((eF (t0,t1,t2,t3,t4,t5,t6,t7) ((mid (B++(aY B.length)) (64*i) (B++(aY B.length)).length).take 64)).2.2.1),vu ((eF (t0,t1,t2,t3,t4,t5,t6,t7) ((mid (B++(aY B.length)) (64*i) (B++(aY B.length)).length).take 64)).2.2.2.1),vu ((eF (t0,t1,t2,t3,t4,t5,t6,t7) ((mid (B++(aY B.length)) (64*i) (B++(aY B.length)).length).take 64)).2.2.2.2.1),vu ((eF (t0,t1,t2,t3,t4,t5,t6,t7) ((mid (B++(aY B.length)) (64*i) (B++(aY B.length)).length).take 64)).2.2.2.2.2.1),vu ((eF (t0,t1,t2,t3,t4,t5,t6,t7) ((mid (B++(aY B.length)) (64*i) (B++(aY B.length)).length).take 64)).2.2.2.2.2.2.1),vu ((eF (t0,t1,t2,t3,t4,t5,t6,t7) ((mid (B++(aY B.length)) (64*i) (B++(aY B.length)).length).take 64)).2.2.2.2.2.2.2)],undef]) (fun _=>[(3,(bD 2 (nb ρ3 1) (cL #[vu ((eF (t0,t1,t2,t3,t4,t5,t6,t7) ((mid (B++(aY B.length)) (64*i) (B++(aY B.length)).length).take 64)).1),vu ((eF (t0,t1,t2,t3,t4,t5,t6,t7) ((mid (B++(aY B.length)) (64*i) (B++(aY B.length)).length).take 64)).2.1),vu ((eF (t0,t1,t2,t3,t4,t5,t6,t7) ((mid (B++(aY B.length)) (64*i) (B++(aY B.length)).length).take 64)).2.2.1),vu ((eF (t0,t1,t2,t3,t4,t5,t6,t7) ((mid (B++(aY B.length)) (64*i) (B++(aY B.length)).length).take 64)).2.2.2.1),vu ((eF (t0,t1,t2,t3,t4,t5,t6,t7) ((mid (B++(aY B.length)) (64*i) (B++(aY B.length)).length).take 64)).2.2.2.2.1),vu ((eF (t0,t1,t2,t3,t4,t5,t6,t7) ((mid (B++(aY B.length)) (64*i) (B++(aY B.length)).length).take 64)).2.2.2.2.2.1),vu ((eF (t0,t1,t2,t3,t4,t5,t6,t7) ((mid (B++(aY B.length)) (64*i) (B++(aY B.length)).length).take 64)).2.2.2.2.2.2.1),vu ((eF (t0,t1,t2,t3,t4,t5,t6,t7) ((mid (B++(aY B.length)) (64*i) (B++(aY B.length)).length).take 64)).2.2.2.2.2.2.2)] 104)))]) (cR [[2]]<|cX (qF (fun _ _ _ hG=>vS Tryz.isAgg106 Tryz.sizeOf106 (hG.kn (g:=nb ρ6 0) (o:=(cL (bs ((mid (B++(aY B.length)) (64*i) (B++(aY B.length)).length).take 64)).toArray 106)) 3) (by rw [List.size_toArray,dH,List.length_take,kS _ _ _ (Nat.le_refl _)];have:=bJ B;have:=aS B.length;omega)))<|cC (f:=135) (args:=fun ρ=> #[.agg #[vu t0,vu t1,vu t2,vu t3,vu t4,vu t5,vu t6,vu t7],.agg (bs ((mid (B++(aY B.length)) (64*i) (B++(aY B.length)).length).take 64)).toArray]) (v:=fun ρ=>(.agg #[vu ((eF (t0,t1,t2,t3,t4,t5,t6,t7) ((mid (B++(aY B.length)) (64*i) (B++(aY B.length)).length).take 64)).1),vu ((eF (t0,t1,t2,t3,t4,t5,t6,t7) ((mid (B++(aY B.length)) (64*i) (B++(aY B.length)).length).take 64)).2.1),vu ((eF (t0,t1,t2,t3,t4,t5,t6,t7) ((mid (B++(aY B.length)) (64*i) (B++(aY B.length)).length).take 64)).2.2.1),vu ((eF (t0,t1,t2,t3,t4,t5,t6,t7) ((mid (B++(aY B.length)) (64*i) (B++(aY B.length)).length).take 64)).2.2.2.1),vu ((eF (t0,t1,t2,t3,t4,t5,t6,t7) ((mid (B++(aY B.length)) (64*i) (B++(aY B.length)).length).take 64)).2.2.2.2.1),vu ((eF (t0,t1,t2,t3,t4,t5,t6,t7) ((mid (B++(aY B.length)) (64*i) (B++(aY B.length)).length).take 64)).2.2.2.2.2.1),vu ((eF (t0,t1,t2,t3,t4,t5,t6,t7) ((mid (B++(aY B.length)) (64*i) (B++(aY B.length)).length).take 64)).2.2.2.2.2.2.1),vu ((eF (t0,t1,t2,t3,t4,t5,t6,t7) ((mid (B++(aY B.length)) (64*i) (B++(aY B.length)).length).take 64)).2.2.2.2.2.2.2)])) (fun _ w=>(fun w=>rcompress_any t0 t1 t2 t3 t4 t5 t6 t7 ((mid (B++(aY B.length)) (64*i) (B++(aY B.length)).length).take 64) (hQ ▸ xA (B++(aY B.length)) i) (by rw [List.length_take,kS _ _ _ (Nat.le_refl _)];have:=bJ B;have:=aS B.length;omega) w) w)<|jE [[2]]) (fun _=>?_)
  refine aJ (aA ?_)
  refine rS Tryz.f104 3 [2,3,4,5] [] (fun _=>[vn (64*i),vn (64*(i+1)),vn (64*(i+1))]) (fun _=>[]) (cR [[]]<|jW (fun ρ=>(((64*i:Nat):Int)+64)) (fun _=>(64*(i+1))) (fun _=>((gZ (by have:=bJ B;have:=aS B.length;omega)).trans (by omega)))<|jE [[]]) (fun _=>?_)
  exact mN (i+1,(eF (t0,t1,t2,t3,t4,t5,t6,t7) ((mid (B++(aY B.length)) (64*i) (B++(aY B.length)).length).take 64)).1,(eF (t0,t1,t2,t3,t4,t5,t6,t7) ((mid (B++(aY B.length)) (64*i) (B++(aY B.length)).length).take 64)).2.1,(eF (t0,t1,t2,t3,t4,t5,t6,t7) ((mid (B++(aY B.length)) (64*i) (B++(aY B.length)).length).take 64)).2.2.1,(eF (t0,t1,t2,t3,t4,t5,t6,t7) ((mid (B++(aY B.length)) (64*i) (B++(aY B.length)).length).take 64)).2.2.2.1,(eF (t0,t1,t2,t3,t4,t5,t6,t7) ((mid (B++(aY B.length)) (64*i) (B++(aY B.length)).length).take 64)).2.2.2.2.1,(eF (t0,t1,t2,t3,t4,t5,t6,t7) ((mid (B++(aY B.length)) (64*i) (B++(aY B.length)).length).take 64)).2.2.2.2.2.1,(eF (t0,t1,t2,t3,t4,t5,t6,t7) ((mid (B++(aY B.length)) (64*i) (B++(aY B.length)).length).take 64)).2.2.2.2.2.2.1,(eF (t0,t1,t2,t3,t4,t5,t6,t7) ((mid (B++(aY B.length)) (64*i) (B++(aY B.length)).length).take 64)).2.2.2.2.2.2.2) (by show (B++(aY B.length)).length / 64-(i+1)<(B++(aY B.length)).length / 64-i;have:=bJ B;have:=aS B.length;omega) (⟨(by have:=bJ B;have:=aS B.length;omega),sha_next hQ (by have:=bJ B;have:=aS B.length;omega)⟩) []
 rw [hb1]
 have:=yF hb1
 refine bF (aN (aN (aT (aA ?_))))
 refine sS Tryz.f104 1 [2,4,7] [1,0,1,1] (fun ρ=>[pt (nb ρ 0)]) (fun ρ=>[(0,(nw ρ 0 (cL (hB 0) 43)))]) (jE [[]]) (fun ρ10=>?_)
 refine aB (jM Tryz.f104 2 [2,7,33,34] [1,0,1] [.agg #[vu t0,vu t1,vu t2,vu t3,vu t4,vu t5,vu t6,vu t7],vi 0] [[1],[]] (aI ?_))
 refine oL (σ:=Nat × (Array Value)) (fun ⟨m,_⟩=>[(2,(pt (nb ρ1 0))),(7,(pt (nb ρ10 0))),(33,(.agg #[vu t0,vu t1,vu t2,vu t3,vu t4,vu t5,vu t6,vu t7])),(34,(vn m))]) (fun ⟨_,C⟩=>[(nb ρ1 0,(cL (hB 0) 43)),(nb ρ10 0,(cL C 43))]) (fun ⟨m,_⟩=>8-m)
   (fun ⟨m,C⟩=>(m≤8)∧(C=bY .u8 32 (yU (t0,t1,t2,t3,t4,t5,t6,t7) (4*m)))) (0,hB 0) (⟨by decide,hB0_row (t0,t1,t2,t3,t4,t5,t6,t7)⟩) [] ?_
 rintro ⟨m,C⟩ ⟨hm,hC⟩
 change Ok Tryz.prog _ _ 66 [(2,(pt (nb ρ1 0))),(7,(pt (nb ρ10 0))),(33,(.agg #[vu t0,vu t1,vu t2,vu t3,vu t4,vu t5,vu t6,vu t7])),(34,(vn m))] _ [(nb ρ1 0,(cL (hB 0) 43)),(nb ρ10 0,(cL C 43))] (fun w=>Bs w a c B∧Fs w0 w (oa ρ2 5) (nb ρ2 5) (aY B.length)∧True)
 refine jJ Tryz.f104 1 [2,7,33,34,35] [.bool (decide (((m:Nat):Int)<8))] (aB ?_)
 refine oC (decide (((m:Nat):Int)<8)) (fun hb2=>?_) (fun hb2=>?_)
 ·
  rw [hb2]
  have:=yT hb2
  refine aG (aA (aB (aI ?_)))
  refine sS Tryz.f104 4 [2,7,8,9,33,34] [] (fun _=>let qa:=vu (gW (t0,t1,t2,t3,t4,t5,t6,t7) m);[vn m,qa,vn m,qa]) (fun _=>[]) (cR [[]]<|cX (jS (fun _=>Instr.index 104 (.agg #[vu t0,vu t1,vu t2,vu t3,vu t4,vu t5,vu t6,vu t7]) (vn m)) (fun _=>(vu (gW (t0,t1,t2,t3,t4,t5,t6,t7) m))) (fun _ w=>idx_arr8 Tryz.underlying104 Tryz.underlying41 Tryz.sizeOf41 (by have:=bJ B;have:=aS B.length;omega) w))<|jE [[],[]]) (fun _=>?_)
  refine rS Tryz.f104 30 [2,7,33,34] [] (fun _=>let qa:=vu (gW (t0,t1,t2,t3,t4,t5,t6,t7) m);[vn m,vn (4*m),vn m,vn (4*m),vn ((4*m)+1),vn m,vn (4*m),vn ((4*m)+2),vn m,vn (4*m),vn ((4*m)+3),qa,vu (gW (t0,t1,t2,t3,t4,t5,t6,t7) m / 2^24),vy (gW (t0,t1,t2,t3,t4,t5,t6,t7) m / 2^24%256),qa,vu (gW (t0,t1,t2,t3,t4,t5,t6,t7) m / 2^16),vy (gW (t0,t1,t2,t3,t4,t5,t6,t7) m / 2^16%256),qa,vu (gW (t0,t1,t2,t3,t4,t5,t6,t7) m / 2^8),vy (gW (t0,t1,t2,t3,t4,t5,t6,t7) m / 2^8%256),qa,vy (gW (t0,t1,t2,t3,t4,t5,t6,t7) m%256),jp (nb ρ10 0) (4*m),undef,jp (nb ρ10 0) ((4*m)+1),undef,jp (nb ρ10 0) ((4*m)+2),undef,jp (nb ρ10 0) ((4*m)+3),undef]) (fun _=>[(23,(bD 1 (nb ρ10 0) (cL (bY .u8 32 (yU (t0,t1,t2,t3,t4,t5,t6,t7) (4*m+1))) 43))),(25,(bD 1 (nb ρ10 0) (cL (bY .u8 32 (yU (t0,t1,t2,t3,t4,t5,t6,t7) (4*m+2))) 43))),(27,(bD 1 (nb ρ10 0) (cL (bY .u8 32 (yU (t0,t1,t2,t3,t4,t5,t6,t7) (4*m+3))) 43))),(29,(bD 1 (nb ρ10 0) (cL (bY .u8 32 (yU (t0,t1,t2,t3,t4,t5,t6,t7) (4*(m+1)))) 43)))]) (cR [[]]<|jW (fun ρ=>(4*((m:Nat):Int))) (fun _=>(4*m)) (fun _=>(fQ 4 m (by have:=bJ B;have:=aS B.length;omega)))<|cR [[]]<|jW (fun ρ=>(4*((m:Nat):Int))) (fun _=>(4*m)) (fun _=>(fQ 4 m (by have:=bJ B;have:=aS B.length;omega)))<|jW (fun ρ=>(((4*m:Nat):Int)+1)) (fun _=>((4*m)+1)) (fun _=>(aW (4*m) 1 (by have:=bJ B;have:=aS B.length;omega)))<|cR [[]]<|jW (fun ρ=>(4*((m:Nat):Int))) (fun _=>(4*m)) (fun _=>(fQ 4 m (by have:=bJ B;have:=aS B.length;omega)))<|jW (fun ρ=>(((4*m:Nat):Int)+2)) (fun _=>((4*m)+2)) (fun _=>(aW (4*m) 2 (by have:=bJ B;have:=aS B.length;omega)))<|cR [[]]<|jW (fun ρ=>(4*((m:Nat):Int))) (fun _=>(4*m)) (fun _=>(fQ 4 m (by have:=bJ B;have:=aS B.length;omega)))<|jW (fun ρ=>(((4*m:Nat):Int)+3)) (fun _=>((4*m)+3)) (fun _=>(aW (4*m) 3 (by have:=bJ B;have:=aS B.length;omega)))<|cR [[]]<|cB (a:=fun ρ=>(vu (gW (t0,t1,t2,t3,t4,t5,t6,t7) m))) (b:=fun ρ=>(.int .u64 24)) (v:=fun ρ=>(vu (gW (t0,t1,t2,t3,t4,t5,t6,t7) m / 2^24))) .shr 41 (fun _ w=>gG (k:=.u32) (x:=gW (t0,t1,t2,t3,t4,t5,t6,t7) m) (c:=24) (sel8_lt (hQ ▸ xA _ i) _) w)<|cA (fun _=>(vy (gW (t0,t1,t2,t3,t4,t5,t6,t7) m / 2^24%256))) (fun _=>congrArg (Value.int .u8) (u8M (gW (t0,t1,t2,t3,t4,t5,t6,t7) m / 2^24)))<|cR [[]]<|cB (a:=fun ρ=>(vu (gW (t0,t1,t2,t3,t4,t5,t6,t7) m))) (b:=fun ρ=>(.int .u64 16)) (v:=fun ρ=>(vu (gW (t0,t1,t2,t3,t4,t5,t6,t7) m / 2^16))) .shr 41 (fun _ w=>gG (k:=.u32) (x:=gW (t0,t1,t2,t3,t4,t5,t6,t7) m) (c:=16) (sel8_lt (hQ ▸ xA _ i) _) w)<|cA (fun _=>(vy (gW (t0,t1,t2,t3,t4,t5,t6,t7) m / 2^16%256))) (fun _=>congrArg (Value.int .u8) (u8M (gW (t0,t1,t2,t3,t4,t5,t6,t7) m / 2^16)))<|cR [[]]<|cB (a:=fun ρ=>(vu (gW (t0,t1,t2,t3,t4,t5,t6,t7) m))) (b:=fun ρ=>(.int .u64 8)) (v:=fun ρ=>(vu (gW (t0,t1,t2,t3,t4,t5,t6,t7) m / 2^8))) .shr 41 (fun _ w=>gG (k:=.u32) (x:=gW (t0,t1,t2,t3,t4,t5,t6,t7) m) (c:=8) (sel8_lt (hQ ▸ xA _ i) _) w)<|cA (fun _=>(vy (gW (t0,t1,t2,t3,t4,t5,t6,t7) m / 2^8%256))) (fun _=>congrArg (Value.int .u8) (u8M (gW (t0,t1,t2,t3,t4,t5,t6,t7) m / 2^8)))<|cR [[]]<|cA (fun _=>(vy (gW (t0,t1,t2,t3,t4,t5,t6,t7) m%256))) (fun _=>congrArg (Value.int .u8) (u8M (gW (t0,t1,t2,t3,t4,t5,t6,t7) m)))<|cX (jS (fun _=>Instr.indexAt 43 (pt (nb ρ10 0)) (vn (4*m))) (fun _=>(jp (nb ρ10 0) (4*m))) (fun _ w=>aX (n:=((4*m:Nat):Int)) (i:=4*m) Tryz.underlying43 Tryz.sizeOf5 (by have:=bJ B;have:=aS B.length;omega) w))<|cX (qG _ 1 5 (fun _=>nb ρ10 0) (fun _=>4*m) (fun _=>C) (fun _=>(bY .u8 32 (yU (t0,t1,t2,t3,t4,t5,t6,t7) (4*m+1)))) 43 (fun _=>(vy (gW (t0,t1,t2,t3,t4,t5,t6,t7) m / 2^24%256))) (fun _=>by kernel_rfl) Tryz.sizeOf5 (fun _=>rfl) (fun _=>(by rw [hC,eH];have:=bJ B;have:=aS B.length;omega)) (fun _=>(by rw [hC];exact zI (m:=4*m) (by rw [show 4*m / 4=m by omega,show 24-4*m%4*8=24 by omega]))))<|cX (jS (fun _=>Instr.indexAt 43 (pt (nb ρ10 0)) (vn ((4*m)+1))) (fun _=>(jp (nb ρ10 0) ((4*m)+1))) (fun _ w=>aX (n:=(((4*m)+1:Nat):Int)) (i:=(4*m)+1) Tryz.underlying43 Tryz.sizeOf5 (by have:=bJ B;have:=aS B.length;omega) w))<|cX (qG _ 1 5 (fun _=>nb ρ10 0) (fun _=>(4*m)+1) (fun _=>(bY .u8 32 (yU (t0,t1,t2,t3,t4,t5,t6,t7) (4*m+1)))) (fun _=>(bY .u8 32 (yU (t0,t1,t2,t3,t4,t5,t6,t7) (4*m+2)))) 43 (fun _=>(vy (gW (t0,t1,t2,t3,t4,t5,t6,t7) m / 2^16%256))) (fun _=>by kernel_rfl) Tryz.sizeOf5 (fun _=>rfl) (fun _=>(by rw [eH];have:=bJ B;have:=aS B.length;omega)) (fun _=>(by exact zI (m:=4*m+1) (by rw [show (4*m+1) / 4=m by omega,show 24-(4*m+1)%4*8=16 by omega]))))<|cX (jS (fun _=>Instr.indexAt 43 (pt (nb ρ10 0)) (vn ((4*m)+2))) (fun _=>(jp (nb ρ10 0) ((4*m)+2))) (fun _ w=>aX (n:=(((4*m)+2:Nat):Int)) (i:=(4*m)+2) Tryz.underlying43 Tryz.sizeOf5 (by have:=bJ B;have:=aS B.length;omega) w))<|cX (qG _ 1 5 (fun _=>nb ρ10 0) (fun _=>(4*m)+2) (fun _=>(bY .u8 32 (yU (t0,t1,t2,t3,t4,t5,t6,t7) (4*m+2)))) (fun _=>(bY .u8 32 (yU (t0,t1,t2,t3,t4,t5,t6,t7) (4*m+3)))) 43 (fun _=>(vy (gW (t0,t1,t2,t3,t4,t5,t6,t7) m / 2^8%256))) (fun _=>by kernel_rfl) Tryz.sizeOf5 (fun _=>rfl) (fun _=>(by rw [eH];have:=bJ B;have:=aS B.length;omega)) (fun _=>(by exact zI (m:=4*m+2) (by rw [show (4*m+2) / 4=m by omega,show 24-(4*m+2)%4*8=8 by omega]))))<|cX (jS (fun _=>Instr.indexAt 43 (pt (nb ρ10 0)) (vn ((4*m)+3))) (fun _=>(jp (nb ρ10 0) ((4*m)+3))) (fun _ w=>aX (n:=(((4*m)+3:Nat):Int)) (i:=(4*m)+3) Tryz.underlying43 Tryz.sizeOf5 (by have:=bJ B;have:=aS B.length;omega) w))<|cX (qG _ 1 5 (fun _=>nb ρ10 0) (fun _=>(4*m)+3) (fun _=>(bY .u8 32 (yU (t0,t1,t2,t3,t4,t5,t6,t7) (4*m+3)))) (fun _=>(bY .u8 32 (yU (t0,t1,t2,t3,t4,t5,t6,t7) (4*(m+1))))) 43 (fun _=>(vy (gW (t0,t1,t2,t3,t4,t5,t6,t7) m%256))) (fun _=>by kernel_rfl) Tryz.sizeOf5 (fun _=>rfl) (fun _=>(by rw [eH];have:=bJ B;have:=aS B.length;omega)) (fun _=>(by exact zI (m:=4*m+3) (by rw [show (4*m+3) / 4=m by omega,show 24-(4*m+3)%4*8=0 by omega];simp))))<|cN) (fun _=>?_)
  refine aJ (aA ?_)
  refine rS Tryz.f104 2 [2,7,33,34] [] (fun _=>[vn (m+1),vn (m+1)]) (fun _=>[]) (jW (fun ρ=>(((m:Nat):Int)+1)) (fun _=>(m+1)) (fun _=>(aW m 1 (by have:=bJ B;have:=aS B.length;omega)))<|jE [[]]) (fun _=>?_)
  exact mN (m+1,bY .u8 32 (yU (t0,t1,t2,t3,t4,t5,t6,t7) (4*(m+1)))) (by show 8-(m+1)<8-m;have:=bJ B;have:=aS B.length;omega) (⟨(by have:=bJ B;have:=aS B.length;omega),rfl⟩) []
 rw [hb2]
 refine bF (aN (aN (aT ?_)))
 rw [hC]
 refine aA ?_
 refine sS Tryz.f104 2 [2] [1,0] (fun _=>[.agg (bY .u8 32 (yU (t0,t1,t2,t3,t4,t5,t6,t7) (4*m))),undef]) (fun _=>[(1,(bD 0 (nb ρ1 0) (cL (bY .u8 32 (yU (t0,t1,t2,t3,t4,t5,t6,t7) (4*m))) 43)))]) (cX (qF (fun _ _ _ hG=>vS Tryz.isAgg43 Tryz.sizeOf43 (hG.kn (g:=nb ρ10 0) (o:=(cL (bY .u8 32 (yU (t0,t1,t2,t3,t4,t5,t6,t7) (4*m))) 43)) 1) (eH _ _ _)))<|jE [[0]]) (fun _=>?_)
 refine aF ?_
 exact mR (v:=(.agg (bY .u8 32 (yU (t0,t1,t2,t3,t4,t5,t6,t7) (4*m))))) (fun _ hS=>⟨congrArg Ending.returned (congrArg Value.agg ((dgf_end (by have:=yF hb2;have:=bJ B;have:=aS B.length;omega)).trans (congrArg hB (sha_end hQ (by have:=yF hb2;have:=bJ B;have:=aS B.length;omega))))),hS.bel⟩)
theorem wK (T:List UInt8) (a:Option Addr) (c:Nat) (B:List UInt8) (hT:0<T.length∧T.length≤1000) (hl:B.length+200≤140737488351232) (w0:World) (hf0:Bs w0 a c B):Calls Tryz.prog 71 #[.string (gY T),.slice a B.length c] w0 (jR (.agg (hB (lV T B))) w0):=by
 refine Calls.of_ok (n:=16) (F:=(fun w=>Bs w a c B∧True)) Tryz.func71 rfl rfl rfl (by simp) (hf0.pers0.and cO) ?_
 refine sS Tryz.f71 1 [0,1,4] [] (fun ρ=>[pt (nb ρ 0)]) (fun ρ=>[(0,(nw ρ 0 (cL (hB 0) 43)))]) (jE [[]]) (fun ρ1=>?_)
 refine iZ Tryz.f71 5 [1,4,5] [] (fun ρ=>[.string (gY T),.slice (oa ρ 1) T.length (nb ρ 1),.agg (hB (aU T)),pt (nb ρ 3),undef]) (fun ρ=>[(3,(nw ρ 3 (cL (hB 0) 43))),(4,(bD 25 (nb ρ 3) (cL (hB (aU T)) 43)))]) (fun ρ=>[(1,fun w=>Fs w0 w (oa ρ 1) (nb ρ 1) T)]) (fun ρ=>(fun w=>Bs w a c B∧Fs w0 w (oa ρ 1) (nb ρ 1) T∧True)) (fun _=>True) (fun _ _ hF hf=>⟨⟨hF.1,hf 1,trivial⟩,trivial⟩) (cR [[]]<|cX (o_newF _ (fun _=>do pure (Next.value (← convert 9 33 (.string (gY T))))) (fun _ α κ=>(.slice α T.length κ)) (fun _=>T) (fun _ _=>(by kernel_rfl)) (fun _=>(by kernel_rfl)) (fun _ _=>(by kernel_rfl)) (fun _ _ w _=>bytes_str Tryz.underlying9 Tryz.underlying33 Tryz.underlying5 T (by omega) w))<|cX (qC (fun ρ _ w hG=>uY (oa ρ 1) (nb ρ 1) T hT.1 (by omega) w (show Fs w0 w (oa ρ 1) (nb ρ 1) T from (hG.facts 1 rfl).now).1))<|jE [[],[25]]) (fun ρ2 _=>?_)
 refine sDf Tryz.f71 [0,1,0,7,0,31,63,127] 8 [4] [1,0,0] (fun ρ=>let qa:=vs (nb ρ2 3) (hL (aU T)).length 32;[qa,vs (nb ρ 1) (hL (aU T)).length ((hL (aU T)).length+aZ ρ 1),qa,vs (nb ρ 3) ((hL (aU T))++(hL (aU T))).length (aZ ρ 3),.slice a B.length c,vs (nb ρ 5) (((hL (aU T))++(hL (aU T)))++B).length (aZ ρ 5),.agg (hB (aU (((hL (aU T))++(hL (aU T)))++B))),undef]) (fun ρ=>[(1,(nw ρ 1 (cL ((bs (hL (aU T))).toArray++zB (aZ ρ 1)) 5))),(3,(bD 10 (nb ρ 3) (cL (oc ρ 3) 5))),(5,(bD 10 (nb ρ 5) (cL (oc ρ 5) 5))),(7,(bD 0 (nb ρ1 0) (cL (hB (aU (((hL (aU T))++(hL (aU T)))++B))) 43)))]) (fun ρ=>[(3,fun w=>Ap (oc ρ 3) ((hL (aU T))++(hL (aU T))) (aZ ρ 3)),(5,fun w=>Ap (oc ρ 5) (((hL (aU T))++(hL (aU T)))++B) (aZ ρ 5))]) (fun _=>(fun w=>Bs w a c B∧Fs w0 w (oa ρ2 1) (nb ρ2 1) T∧True)) (fun ρ=>Ap (oc ρ 3) ((hL (aU T))++(hL (aU T))) (aZ ρ 3)∧Ap (oc ρ 5) (((hL (aU T))++(hL (aU T)))++B) (aZ ρ 5)) (fun _ _ hF hf=>⟨hF,⟨hf 3,hf 5⟩⟩) (cR [[]]<|cX (qN (fun _ ζ=>(vs (ζ.headD 0) (hL (aU T)).length ((hL (aU T)).length+ζ.tail.headD 0))) (fun _ ζ=>(cL ((bs (hL (aU T))).toArray++zB (ζ.tail.headD 0)) 5)) (fun _ _ _ hG=>oU (ty:=33) Tryz.underlying33 nH (Bs.src (tx:=33) Tryz.underlying33 (Bs.of_hd (c:=32) (hG.kn (g:=nb ρ2 3) (o:=(cL (hB (aU T)) 43)) 1) (kP _) (Nat.le_refl _) (Nat.le_of_ble_eq_true rfl))) (by rw [aO];decide) (by rw [aO];decide)))<|cR [[]]<|cX (qM 10 (fun ρ _ _ hG hg=>app_any (ty:=33) (g:=nb ρ 1) (C:=((bs (hL (aU T))).toArray++zB (aZ ρ 1))) (c:=(hL (aU T)).length+aZ ρ 1) (xs:=hL (aU T)) Tryz.underlying33 nH (Ap.mk' (Hd.fresh _ _) (Nat.le_add_right _ _) (by rw [aO];decide) (kV _ _)) (Bs.src (tx:=33) Tryz.underlying33 (Bs.of_hd (c:=32) (hG.kn (g:=nb ρ2 3) (o:=(cL (hB (aU T)) 43)) 1) (kP _) (Nat.le_refl _) (Nat.le_of_ble_eq_true rfl))) (by simp only [aO];omega) hg))<|cR [[]]<|cX (qM 10 (fun ρ _ _ hG hg=>app_any (ty:=33) (g:=nb ρ 3) (C:=(oc ρ 3)) (c:=aZ ρ 3) (xs:=(hL (aU T))++(hL (aU T))) Tryz.underlying33 nH (Ap.mk' (show Ap (oc ρ 3) ((hL (aU T))++(hL (aU T))) (aZ ρ 3) from (hG.facts 3 rfl).now).hd (show Ap (oc ρ 3) ((hL (aU T))++(hL (aU T))) (aZ ρ 3) from (hG.facts 3 rfl).now).le (show Ap (oc ρ 3) ((hL (aU T))++(hL (aU T))) (aZ ρ 3) from (hG.facts 3 rfl).now).max (show Ap (oc ρ 3) ((hL (aU T))++(hL (aU T))) (aZ ρ 3) from (hG.facts 3 rfl).now).size) (Bs.src (tx:=33) Tryz.underlying33 hG.fn.1) (by simp only [List.length_append,aO];omega) hg))<|cX (qC (fun ρ _ w hG=>uY (some ⟨nb ρ 5,0,none⟩) (aZ ρ 5) (((hL (aU T))++(hL (aU T)))++B) (by simp only [List.length_append,aO];omega) (by simp only [List.length_append,aO];omega) w (Bs.of_hd (hG.kn (g:=nb ρ 5) (o:=(cL (oc ρ 5) 5)) 10) (show Ap (oc ρ 5) (((hL (aU T))++(hL (aU T)))++B) (aZ ρ 5) from (hG.facts 5 rfl).now).hd (show Ap (oc ρ 5) (((hL (aU T))++(hL (aU T)))++B) (aZ ρ 5) from (hG.facts 5 rfl).now).le (show Ap (oc ρ 5) (((hL (aU T))++(hL (aU T)))++B) (aZ ρ 5) from (hG.facts 5 rfl).now).max)))<|jE [[0]]) (fun _ ⟨ap3_3,ap3_5⟩=>?_)
 refine aF ?_
 exact mR (v:=(.agg (hB (aU (((hL (aU T))++(hL (aU T)))++B))))) (fun _ hS=>⟨congrArg Ending.returned (congrArg (fun z=>Value.agg (hB z)) (by rw [lV,hL_sha])),hS.bel⟩)
theorem kprint_any (k:Ky) (_hk:k.Ok) (w0:World) (hf0:kJ w0) (hf1:kX w0):Calls Tryz.prog 64 #[.agg (kY k)] w0 (jR (vu (o8 k.p)) w0):=by
 refine Calls.of_ok (n:=26) (F:=(fun w=>kJ w∧kX w∧True)) Tryz.func64 rfl rfl rfl (by simp) (hf0.pers0.and (hf1.pers0.and cO)) ?_
 refine sS Tryz.f64 2 [1,2] [] (fun ρ=>[pt (nb ρ 0),.int .u32 0]) (fun ρ=>[(0,(nw ρ 0 (cL (kY k) 48)))]) (jE [[],[]]) (fun ρ1=>?_)
 refine sS Tryz.f64 5 [2,3] [0,1] (fun ρ=>[jp (nb ρ1 0) 4,U k.p,.agg (hB k.p),pt (nb ρ 3),undef]) (fun ρ=>[(3,(nw ρ 3 (cL (hB 0) 43))),(4,(bD 25 (nb ρ 3) (cL (hB k.p) 43)))]) (cR [[],[0]]<|cC (fun _ w=>pW k.p w)<|jE [[],[25]]) (fun ρ2=>?_)
 refine jJ Tryz.f64 1 [2,3,4] [.int .u32 0] ?_
 refine sS Tryz.f64 4 [2,4,5] [0,1] (fun ρ=>[vs (nb ρ2 3) (hL k.p).length 32,.agg (hB (aU (hL k.p))),pt (nb ρ 2),undef]) (fun ρ=>[(2,(nw ρ 2 (cL (hB 0) 43))),(3,(bD 17 (nb ρ 2) (cL (hB (aU (hL k.p))) 43)))]) (cR [[]]<|cX (qC (fun _ _ w hG=>sum_any (some ⟨nb ρ2 3,0,none⟩) 32 (hL k.p) (by rw [aO];decide) (by rw [aO];decide) w (Bs.of_hd (c:=32) (hG.kn (g:=nb ρ2 3) (o:=(cL (hB k.p) 43)) 0) (kP _) (Nat.le_refl _) (Nat.le_of_ble_eq_true rfl)) hG.fn.1 hG.fn.2.1))<|jE [[],[17]]) (fun ρ4=>?_)
 refine aB (jJ Tryz.f64 3 [2,4,13,14,15] [vs (nb ρ4 2) 4 32,vi 4,vi 0] (aI ?_))
 refine jY 5 ?_
 refine dI ?_
 refine jJ Tryz.f64 1 [2,4,13,14,15,16] [vT] (aB ?_)
 refine oY ?_
 refine aG (aA (aB (aI (jM Tryz.f64 3 [2,4,7,13,14,15,16,17,18] [] (let qa:Value:=.int .u8 (nR (aU (hL k.p)) 0);[pt (nb ρ4 2),qa,qa]) [[],[0],[]] ?_))))
 refine lK [(2,(.int .u32 0)),(4,(.int .u32 0)),(7,(.int .u8 (nR (aU (hL k.p)) 0))),(13,(vs (nb ρ4 2) 4 32)),(14,(vi 4)),(15,(vi 0)),(16,vT),(17,(pt (nb ρ4 2))),(18,(.int .u8 (nR (aU (hL k.p)) 0)))] [(nb ρ4 2,(cL (hB (aU (hL k.p))) 43))] ?_
 refine rS Tryz.f64 6 [2,4,7,13,14,15,16,17,18,19,20,21,22,23] [] (fun _=>let qa:=vu (hiN (aU (hL k.p)) 1);[.int .u32 0,.int .u32 0,.int .u8 (nR (aU (hL k.p)) 0),vu (bN (aU (hL k.p)) 0),qa,qa]) (fun _=>[]) (cR [[],[],[]]<|cA (fun _=>(vu (bN (aU (hL k.p)) 0))) (fun _=>jN (vI (aU (hL k.p)) 0))<|cA (v:=fun ρ=>(.int .u32 (bits .or .u32 0 ((bN (aU (hL k.p)) 0:Nat):Int)))) (fun _=>(vu (hiN (aU (hL k.p)) 1))) (fun _=>jN (or_hi (D:=(aU (hL k.p))) (j:=0) (by decide)))<|jE [[]]) (fun _=>?_)
 refine aJ (aA (jL Tryz.f64 2 [2,4,7,13,14,15,16,17,18,19,20,21,22,23,24] [] [vi 1,vi 1] [[],[]] (dV ?_)))
 refine dI ?_
 refine jJ Tryz.f64 1 [2,4,7,13,14,15,16,17,18,19,20,21,22,23,24] [vT] (aB ?_)
 refine oY ?_
 refine aG (aA (aB (aI (jM Tryz.f64 3 [2,4,7,13,14,15,16,17,18,19,20,21,22,23,24] [] (let qa:Value:=.int .u8 (nR (aU (hL k.p)) 1);[jp (nb ρ4 2) 1,qa,qa]) [[],[0],[]] ?_))))
 refine rS Tryz.f64 6 [2,4,7,13,14,15,16,17,18,19,20,21,22,23,24] [] (fun _=>let qa:=vu (hiN (aU (hL k.p)) 2);[vu (hiN (aU (hL k.p)) 1),vu (hiN (aU (hL k.p)) 1*256),.int .u8 (nR (aU (hL k.p)) 1),vu (bN (aU (hL k.p)) 1),qa,qa]) (fun _=>[]) (cR [[]]<|cB (a:=fun ρ=>(vu (hiN (aU (hL k.p)) 1))) (b:=fun ρ=>(.int .u64 8)) (v:=fun ρ=>(vu (hiN (aU (hL k.p)) 1*256))) .shl 41 (fun _ w=>run_hi8 (D:=(aU (hL k.p))) (j:=1) (by decide) w)<|cR [[]]<|cA (fun _=>(vu (bN (aU (hL k.p)) 1))) (fun _=>jN (vI (aU (hL k.p)) 1))<|cA (v:=fun ρ=>(.int .u32 (bits .or .u32 ((hiN (aU (hL k.p)) 1*256:Nat):Int) ((bN (aU (hL k.p)) 1:Nat):Int)))) (fun _=>(vu (hiN (aU (hL k.p)) 2))) (fun _=>jN (or_hi (D:=(aU (hL k.p))) (j:=1) (by decide)))<|jE [[]]) (fun _=>?_)
 refine aJ (aA (jL Tryz.f64 2 [2,4,7,13,14,15,16,17,18,19,20,21,22,23,24] [] [vi 2,vi 2] [[],[]] (dV ?_)))
 refine dI ?_
 refine jJ Tryz.f64 1 [2,4,7,13,14,15,16,17,18,19,20,21,22,23,24] [vT] ?_
 refine lK [(2,(.int .u32 0)),(4,(vu (hiN (aU (hL k.p)) 2))),(7,(.int .u8 (nR (aU (hL k.p)) 1))),(13,(vs (nb ρ4 2) 4 32)),(14,(vi 4)),(15,(vi 2)),(16,vT),(17,(jp (nb ρ4 2) 1)),(18,(.int .u8 (nR (aU (hL k.p)) 1))),(19,(vu (hiN (aU (hL k.p)) 1))),(20,(vu (hiN (aU (hL k.p)) 1*256))),(21,(.int .u8 (nR (aU (hL k.p)) 1))),(22,(vu (bN (aU (hL k.p)) 1))),(23,(vu (hiN (aU (hL k.p)) 2))),(24,(vi 2))] [(nb ρ4 2,(cL (hB (aU (hL k.p))) 43))] ?_
 refine aB ?_
 refine oY ?_
 refine aG (aA (aB (aI (jM Tryz.f64 3 [2,4,7,13,14,15,16,17,18,19,20,21,22,23,24] [] (let qa:Value:=.int .u8 (nR (aU (hL k.p)) 2);[jp (nb ρ4 2) 2,qa,qa]) [[],[0],[]] ?_))))
 refine rS Tryz.f64 6 [2,4,7,13,14,15,16,17,18,19,20,21,22,23,24] [] (fun _=>let qa:=vu (hiN (aU (hL k.p)) 3);[vu (hiN (aU (hL k.p)) 2),vu (hiN (aU (hL k.p)) 2*256),.int .u8 (nR (aU (hL k.p)) 2),vu (bN (aU (hL k.p)) 2),qa,qa]) (fun _=>[]) (cR [[]]<|cB (a:=fun ρ=>(vu (hiN (aU (hL k.p)) 2))) (b:=fun ρ=>(.int .u64 8)) (v:=fun ρ=>(vu (hiN (aU (hL k.p)) 2*256))) .shl 41 (fun _ w=>run_hi8 (D:=(aU (hL k.p))) (j:=2) (by decide) w)<|cR [[]]<|cA (fun _=>(vu (bN (aU (hL k.p)) 2))) (fun _=>jN (vI (aU (hL k.p)) 2))<|cA (v:=fun ρ=>(.int .u32 (bits .or .u32 ((hiN (aU (hL k.p)) 2*256:Nat):Int) ((bN (aU (hL k.p)) 2:Nat):Int)))) (fun _=>(vu (hiN (aU (hL k.p)) 3))) (fun _=>jN (or_hi (D:=(aU (hL k.p))) (j:=2) (by decide)))<|jE [[]]) (fun _=>?_)
 refine aJ (aA (jL Tryz.f64 2 [2,4,7,13,14,15,16,17,18,19,20,21,22,23,24] [] [vi 3,vi 3] [[],[]] (dV ?_)))
 refine dI ?_
 refine jJ Tryz.f64 1 [2,4,7,13,14,15,16,17,18,19,20,21,22,23,24] [vT] (aB ?_)
 refine oY ?_
 refine aG (aA (aB (aI (jM Tryz.f64 3 [2,4,7,13,14,15,16,17,18,19,20,21,22,23,24] [] (let qa:Value:=.int .u8 (nR (aU (hL k.p)) 3);[jp (nb ρ4 2) 3,qa,qa]) [[],[0],[]] ?_))))
 refine rS Tryz.f64 6 [2,4,7,13,14,15,16,17,18,19,20,21,22,23,24] [] (fun _=>let qa:=vu (hiN (aU (hL k.p)) 4);[vu (hiN (aU (hL k.p)) 3),vu (hiN (aU (hL k.p)) 3*256),.int .u8 (nR (aU (hL k.p)) 3),vu (bN (aU (hL k.p)) 3),qa,qa]) (fun _=>[]) (cR [[]]<|cB (a:=fun ρ=>(vu (hiN (aU (hL k.p)) 3))) (b:=fun ρ=>(.int .u64 8)) (v:=fun ρ=>(vu (hiN (aU (hL k.p)) 3*256))) .shl 41 (fun _ w=>run_hi8 (D:=(aU (hL k.p))) (j:=3) (by decide) w)<|cR [[]]<|cA (fun _=>(vu (bN (aU (hL k.p)) 3))) (fun _=>jN (vI (aU (hL k.p)) 3))<|cA (v:=fun ρ=>(.int .u32 (bits .or .u32 ((hiN (aU (hL k.p)) 3*256:Nat):Int) ((bN (aU (hL k.p)) 3:Nat):Int)))) (fun _=>(vu (hiN (aU (hL k.p)) 4))) (fun _=>jN (or_hi (D:=(aU (hL k.p))) (j:=3) (by decide)))<|jE [[]]) (fun _=>?_)
 refine aJ (aA (jL Tryz.f64 2 [2,4,7,13,14,15,16,17,18,19,20,21,22,23,24] [] [vi 4,vi 4] [[],[]] (dV ?_)))
 refine dI ?_
 refine jJ Tryz.f64 1 [2,4,7,13,14,15,16,17,18,19,20,21,22,23,24] [vF] ?_
 refine lK [(2,(.int .u32 0)),(4,(vu (hiN (aU (hL k.p)) 4))),(7,(.int .u8 (nR (aU (hL k.p)) 3))),(13,(vs (nb ρ4 2) 4 32)),(14,(vi 4)),(15,(vi 4)),(16,vF),(17,(jp (nb ρ4 2) 3)),(18,(.int .u8 (nR (aU (hL k.p)) 3))),(19,(vu (hiN (aU (hL k.p)) 3))),(20,(vu (hiN (aU (hL k.p)) 3*256))),(21,(.int .u8 (nR (aU (hL k.p)) 3))),(22,(vu (bN (aU (hL k.p)) 3))),(23,(vu (hiN (aU (hL k.p)) 4))),(24,(vi 4))] [(nb ρ4 2,(cL (hB (aU (hL k.p))) 43))] ?_
 refine aB ?_
 refine oN ?_
 refine bF (aN (aN (aT (aA (jM Tryz.f64 2 [2] [0] [vu (hiN (aU (hL k.p)) 4),vu (hiN (aU (hL k.p)) 4)] [[],[]] (aF ?_))))))
 exact mR (v:=(vu (hiN (aU (hL k.p)) 4))) (fun _ hS=>⟨rfl,hS.bel⟩)
theorem oJ (a:Nat) (_ha:a<M) (w0:World):Calls Tryz.prog 74 #[U a] w0 (fun ε w'=>∃ α κ,ε=.returned (.slice α (hL a).length κ)∧jG w0 w'∧Fs w0 w' α κ (hL a)):=by
 refine Calls.of_ok (n:=9) (F:=(fun _=>True)) Tryz.func74 rfl rfl rfl (by simp) jT ?_
 refine sS Tryz.f74 2 [1,2] [] (fun ρ=>[pt (nb ρ 0),vz]) (fun ρ=>[(0,(nw ρ 0 (cL (cU a) 39)))]) (jE [[],[]]) (fun _=>?_)
 refine sS Tryz.f74 4 [2,3] [0,1] (fun ρ=>[U a,.agg (hB a),pt (nb ρ 2),undef]) (fun ρ=>[(2,(nw ρ 2 (cL (hB 0) 43))),(3,(bD 17 (nb ρ 2) (cL (hB a) 43)))]) (cR [[0]]<|cC (fun _ w=>rbytes_any a w)<|jE [[],[17]]) (fun ρ2=>?_)
 refine iZ Tryz.f74 4 [2] [0,1] (fun ρ=>let qa:=vs (nb ρ 2) (([]:List UInt8)++(hL a)).length (aZ ρ 2);[vs (nb ρ 0) ([]:List UInt8).length 0,vs (nb ρ2 2) (hL a).length 32,qa,qa]) (fun ρ=>[(0,(nw ρ 0 (cL #[] 5))),(2,(bD 1 (nb ρ 2) (cL (oc ρ 2) 5)))]) (fun ρ=>[(2,fun w=>Ap (oc ρ 2) (([]:List UInt8)++(hL a)) (aZ ρ 2))]) (fun _=>(fun _=>True)) (fun ρ=>Ap (oc ρ 2) (([]:List UInt8)++(hL a)) (aZ ρ 2)) (fun _ _ hF hf=>⟨hF,hf 2⟩) (cR [[],[]]<|cX (qM 1 (fun ρ _ _ hG hg=>app_any (ty:=33) (g:=nb ρ 0) (C:= #[]) (c:=0) (xs:=([]:List UInt8)) Tryz.underlying33 nH (Ap.mk' (rfl:Hd #[] ([]:List UInt8)) (Nat.le_refl 0) (Nat.le_of_ble_eq_true rfl) rfl) (Bs.src (tx:=33) Tryz.underlying33 (Bs.of_hd (c:=32) (hG.kn (g:=nb ρ2 2) (o:=(cL (hB a) 43)) 0) (kP _) (Nat.le_refl _) (Nat.le_of_ble_eq_true rfl))) (by rw [aO];decide) hg))<|jE [[]]) (fun ρ3 ap3_2=>?_)
 refine aF (mD [(2,(vs (nb ρ3 2) (([]:List UInt8)++(hL a)).length (aZ ρ3 2)))] [(nb ρ3 2,(cL (oc ρ3 2) 5))] ?_)
 exact mR (v:=(vs (nb ρ3 2) (([]:List UInt8)++(hL a)).length (aZ ρ3 2))) (fun _ hS=>⟨some ⟨nb ρ3 2,0,none⟩,aZ ρ3 2,congrArg Ending.returned (by rw [List.nil_append]),hS.bel,dU (List.nil_append _) (hS.fresh (.head _) ap3_2.hd ap3_2.le ap3_2.max)⟩)
theorem rkprint_any (k:Ky) (hk:k.Ok) (w0:World):Calls Tryz.prog 76 #[.agg (kY k)] w0 (jR (vu (o8 k.p)) w0):=by
 refine Calls.of_ok (n:=26) (F:=(fun _=>True)) Tryz.func76 rfl rfl rfl (by simp) jT ?_
 refine sS Tryz.f76 2 [1,2] [] (fun ρ=>[pt (nb ρ 0),.int .u32 0]) (fun ρ=>[(0,(nw ρ 0 (cL (kY k) 48)))]) (jE [[],[]]) (fun ρ1=>?_)
 refine iZ Tryz.f76 6 [2,3] [0,1] (fun ρ=>[jp (nb ρ1 0) 4,U k.p,.slice (oa ρ 2) (hL k.p).length (nb ρ 2),.agg (hB (aU (hL k.p))),pt (nb ρ 4),undef]) (fun ρ=>[(4,(nw ρ 4 (cL (hB 0) 43))),(5,(bD 33 (nb ρ 4) (cL (hB (aU (hL k.p))) 43)))]) (fun ρ=>[(2,fun w=>Fs w0 w (oa ρ 2) (nb ρ 2) (hL k.p))]) (fun ρ=>(fun w=>Fs w0 w (oa ρ 2) (nb ρ 2) (hL k.p)∧True)) (fun _=>True) (fun _ _ _ hf=>⟨⟨hf 2,trivial⟩,trivial⟩) (cR [[],[0]]<|cX (qB (fun _ _ w _=>oJ k.p hk.p w))<|cX (qC (fun ρ _ w hG=>uY (oa ρ 2) (nb ρ 2) (hL k.p) (by rw [aO];decide) (by rw [aO];decide) w (show Fs w0 w (oa ρ 2) (nb ρ 2) (hL k.p) from (hG.facts 2 rfl).now).1))<|jE [[],[33]]) (fun ρ2 _=>?_)
 refine sS Tryz.f76 19 [2] [0] (fun _=>let qa:=vu (hiN (aU (hL k.p)) 4);[pt (nb ρ2 4),.int .u8 (nR (aU (hL k.p)) 0),vu (bN (aU (hL k.p)) 0),vu (bN (aU (hL k.p)) 0*2^24),jp (nb ρ2 4) 1,.int .u8 (nR (aU (hL k.p)) 1),vu (bN (aU (hL k.p)) 1),vu (bN (aU (hL k.p)) 1*2^16),vu ((bN (aU (hL k.p)) 0*256+bN (aU (hL k.p)) 1)*65536),jp (nb ρ2 4) 2,.int .u8 (nR (aU (hL k.p)) 2),vu (bN (aU (hL k.p)) 2),vu (bN (aU (hL k.p)) 2*2^8),vu (((bN (aU (hL k.p)) 0*256+bN (aU (hL k.p)) 1)*256+bN (aU (hL k.p)) 2)*256),jp (nb ρ2 4) 3,.int .u8 (nR (aU (hL k.p)) 3),vu (bN (aU (hL k.p)) 3),qa,qa]) (fun _=>[]) (cR [[],[0]]<|cA (fun _=>(vu (bN (aU (hL k.p)) 0))) (fun _=>jN (vI (aU (hL k.p)) 0))<|cB (a:=fun ρ=>(vu (bN (aU (hL k.p)) 0))) (b:=fun ρ=>(.int .u64 24)) (v:=fun ρ=>(vu (bN (aU (hL k.p)) 0*2^24))) .shl 41 (fun _ w=>run_bN (D:=(aU (hL k.p))) (j:=0) (c:=24) (by decide) w)<|cR [[],[0]]<|cA (fun _=>(vu (bN (aU (hL k.p)) 1))) (fun _=>jN (vI (aU (hL k.p)) 1))<|cB (a:=fun ρ=>(vu (bN (aU (hL k.p)) 1))) (b:=fun ρ=>(.int .u64 16)) (v:=fun ρ=>(vu (bN (aU (hL k.p)) 1*2^16))) .shl 41 (fun _ w=>run_bN (D:=(aU (hL k.p))) (j:=1) (c:=16) (by decide) w)<|cA (fun _=>(vu ((bN (aU (hL k.p)) 0*256+bN (aU (hL k.p)) 1)*65536))) (fun _=>jN (or_p1 (aU (hL k.p))))<|cR [[],[0]]<|cA (fun _=>(vu (bN (aU (hL k.p)) 2))) (fun _=>jN (vI (aU (hL k.p)) 2))<|cB (a:=fun ρ=>(vu (bN (aU (hL k.p)) 2))) (b:=fun ρ=>(.int .u64 8)) (v:=fun ρ=>(vu (bN (aU (hL k.p)) 2*2^8))) .shl 41 (fun _ w=>run_bN (D:=(aU (hL k.p))) (j:=2) (c:=8) (by decide) w)<|cA (fun _=>(vu (((bN (aU (hL k.p)) 0*256+bN (aU (hL k.p)) 1)*256+bN (aU (hL k.p)) 2)*256))) (fun _=>jN (or_p2 (aU (hL k.p))))<|cR [[],[0]]<|cA (fun _=>(vu (bN (aU (hL k.p)) 3))) (fun _=>jN (vI (aU (hL k.p)) 3))<|cA (fun _=>(vu (hiN (aU (hL k.p)) 4))) (fun _=>jN (or_p3 (aU (hL k.p))))<|jE [[]]) (fun _=>?_)
 refine aF ?_
 exact mR (v:=(vu (hiN (aU (hL k.p)) 4))) (fun _ hS=>⟨rfl,hS.bel⟩)
def kpL (K:Nat):List UInt8:=hL K++List.replicate 32 0
theorem kpL_len (K:Nat):(kpL K).length=64:=by simp [kpL,aO]
theorem eP (v:UInt8) (K:Nat):(xB v K).length=64:=by simp [xB,aO]
theorem xB_get (v:UInt8) (K:Nat) {i:Nat} (h:i<64):gB (xB v K) i=gB (kpL K) i^^^v.toNat:=by
  have hk:i<(kpL K).length:=by rw [kpL_len];exact h
  unfold gB xB
  rw [show hL K++List.replicate 32 0=kpL K from rfl,List.getD_eq_getElem?_getD,List.getD_eq_getElem?_getD,List.getElem?_map,List.getElem?_eq_getElem hk]
  simp
def hmf (v:UInt8) (K m i:Nat):Nat:=if i<m then gB (xB v K) i else gB (kpL K) i
theorem hmf_at {v:UInt8} {K i:Nat}:hmf v K i i=gB (kpL K) i:=by unfold hmf;rw [if_neg (by omega)]
theorem xor8 {a b:Nat} (ha:a<256) (hb:b<256):bits .xor .u8 (a:Int) (b:Int)=((a^^^b:Nat):Int):=bits_xorU rfl ha hb
theorem hm_xor {v:UInt8} {K i:Nat} (h:i<64):bits .xor .u8 ((gB (kpL K) i:Nat):Int) ((v.toNat:Nat):Int)=((gB (xB v K) i:Nat):Int):=by
  rw [xor8 (iD _ _) (UInt8.toNat_lt v),xB_get v K h]
theorem hmf_set {v:UInt8} {K m:Nat}:(bY .u8 64 (hmf v K m)).setIfInBounds m (.int .u8 ((gB (xB v K) m:Nat):Int))=bY .u8 64 (hmf v K (m+1)):=by
  rw [wI]
  refine fG fun i _=>?_
  unfold hmf
  by_cases h:i=m
  · subst h;rw [if_pos rfl,if_pos (by omega)]
  · rw [if_neg h]
    by_cases h2:i<m
    · rw [if_pos h2,if_pos (by omega)]
    · rw [if_neg h2,if_neg (by omega)]
theorem rowK_bs {xs:List UInt8} {n:Nat} (h:xs.length=n):bY .u8 n (gB xs)=(bs xs).toArray:=by
  subst h
  unfold bY bs
  congr 1
  apply List.ext_getElem
  · simp
  · intro i h1 h2
    have hi:i<xs.length:=by simpa using h1
    simp [gB,bv,List.getD_eq_getElem?_getD,List.getElem?_eq_getElem hi]
theorem hmf_end {v:UInt8} {K m:Nat} (h:64≤m):bY .u8 64 (hmf v K m)=(bs (xB v K)).toArray:=by
  rw [← rowK_bs (eP v K)]
  exact fG fun i hi=>by unfold hmf;rw [if_pos (by omega)]
theorem hmf_zero (v:UInt8) (K:Nat):(bs (kpL K)).toArray=bY .u8 64 (hmf v K 0):=by
  rw [← rowK_bs (kpL_len K)]
  exact fG fun i hi=>by unfold hmf;rw [if_neg (by omega)]
theorem hm_copy (K:Nat):inpl (bY .u8 64 (fun _=>0)) 0 (bs ((hL K).take 64))=(bs (kpL K)).toArray:=by
  rw [List.take_of_length_le (by rw [aO];decide)]
  have e:bY .u8 64 (fun _=>0)=(bs (List.replicate 64 0)).toArray:=by
    rw [← rowK_bs (List.length_replicate ..)]
    exact fG fun i hi=>by unfold gB;rw [List.getD_eq_getElem?_getD,List.getElem?_replicate,if_pos hi];rfl
  rw [e]
  unfold inpl kpL bs
  simp [aO]
def fl2 (X:List UInt8) (n i:Nat):List UInt8:=X.take i++List.replicate (n-i) 0
theorem xM {X:List UInt8} {n i:Nat} (hX:X.length=n) (hi:i≤n):(fl2 X n i).length=n:=by simp [fl2];omega
theorem fl2_zero (X:List UInt8) (n:Nat):fl2 X n 0=List.replicate n 0:=by simp [fl2]
theorem fl2_end {X:List UInt8} {n i:Nat} (hX:X.length=n) (h:n≤i):fl2 X n i=X:=by
  unfold fl2
  rw [List.take_of_length_le (by omega),show n-i=0 by omega];simp
theorem fl2_set {X : List UInt8} {n i x : Nat} (hX : X.length = n) (hi : i < n) (hx : x = gB X i) : (bs (fl2 X n i)).toArray.setIfInBounds i (.int .u8 ((x : Nat) : Int)) = (bs (fl2 X n (i + 1))).toArray := by
  subst hx
  apply Array.ext
  · simp [dH,fl2];omega
  · intro j h1 h2
    have hj:j<n:=by simpa [dH,xM hX (show i+1≤n by omega)] using h2
    have hij:i<X.length:=by omega
    have hjx:j<X.length:=by omega
    rw [Array.getElem_setIfInBounds]
    split
    · rename_i e
      subst e
      simp only [bs,List.getElem_toArray,List.getElem_map,fl2]
      rw [List.getElem_append_left (by rw [List.length_take];omega)]
      simp [gB,bv,List.getD_eq_getElem?_getD,List.getElem?_eq_getElem hij]
    · rename_i e
      simp only [bs,List.getElem_toArray,List.getElem_map,fl2]
      by_cases hlt:j<i
      · rw [List.getElem_append_left (by rw [List.length_take]; omega), List.getElem_append_left (by rw [List.length_take]; omega)]
        simp
      · rw [List.getElem_append_right (by rw [List.length_take]; omega), List.getElem_append_right (by rw [List.length_take]; omega)]
        simp
    · rw [List.size_toArray,dH,xM hX (by omega)];exact hj
theorem kp_in {K i:Nat} (h:i<32):gB (hL K) i=gB (kpL K) i:=by
  unfold gB kpL
  rw [List.getD_eq_getElem?_getD,List.getD_eq_getElem?_getD,List.getElem?_append_left (by rw [aO];exact h)]
theorem kp_out {K i:Nat} (h: ¬ i<32):gB (kpL K) i=0:=by
  unfold gB kpL
  rw [List.getD_eq_getElem?_getD,List.getElem?_append_right (by rw [aO];omega)]
  rw [List.getElem?_replicate]
  split<;>rfl
theorem hm_xorL54 {K i:Nat} (h:i<32):bits .xor .u8 ((gB (hL K) i:Nat):Int) 54=((gB (xB 54 K) i:Nat):Int):=by rw [kp_in h];exact hm_xor (v:=54) (by omega)
theorem hm_xorL92 {K i:Nat} (h:i<32):bits .xor .u8 ((gB (hL K) i:Nat):Int) 92=((gB (xB 92 K) i:Nat):Int):=by rw [kp_in h];exact hm_xor (v:=92) (by omega)
theorem kx_out54 {K i:Nat} (h: ¬ i<32) (h2:i<64):54=gB (xB 54 K) i:=by rw [xB_get _ _ h2,kp_out h];rfl
theorem kx_out92 {K i:Nat} (h: ¬ i<32) (h2:i<64):92=gB (xB 92 K) i:=by rw [xB_get _ _ h2,kp_out h];rfl
theorem kC_chain (s p c:Nat) (d i n:Int) (j:Nat) (hj:j<32):(kC s p c d i n)[8+j]? = (hB c)[j]? := by
  unfold kC
  rw [Array.getElem?_append_left (by simp [cU,yV];omega),Array.getElem?_append_right (by simp [cU]),show 8+j-(cU s++cU p).size=j by simp [cU]]
theorem Bs.of_key {w:World} {g s p c:Nat} {d i n:Int} {T:TypeId} {fr:Nat × Nat} (hb:w.heap[g]? = some (.cells (kC s p c d i n) T fr)):Bs w (some ⟨g,8,none⟩) 32 (hL c):=by
  refine ⟨by rw [aO];exact Nat.le_refl _,by rw [aO];decide,Or.inr ⟨_,rfl,fun j v hv=>?_⟩⟩
  have hj:j<32:=by
    have:=(List.getElem?_eq_some_iff.1 hv).1
    rw [dH,aO] at this;exact this
  have h1:(hB c)[j]? = some v:=by
    have hh:=kP c
    unfold Hd at hh
    rw [← hh,List.getElem?_take,if_pos (by rw [aO];exact hj)] at hv
    simpa using hv
  rw [show (⟨g,8,none⟩:Addr).add j=⟨g,8+j,none⟩ by simp [Addr.add]]
  unfold World.cell?
  simp only [hb]
  rw [← h1,← kC_chain s p c d i n j hj]
  simp
theorem hmac_any (a:Option Addr) (c:Nat) (K:Nat) (a2:Option Addr) (c2:Nat) (S:List UInt8) (hl:S.length+200≤140737488351232) (w0:World) (hf0:Bs w0 a c (hL K)) (hf1:Bs w0 a2 c2 S) (hf2:kJ w0) (hf3:kX w0):Calls Tryz.prog 63 #[.slice a (hL K).length c,.slice a2 S.length c2] w0 (jR (.agg (hB (hmN K S))) w0):=by
 refine Calls.of_ok (n:=46) (F:=(fun w=>Bs w a c (hL K)∧Bs w a2 c2 S∧kJ w∧kX w∧True)) Tryz.func63 rfl rfl rfl (by simp) (hf0.pers0.and (hf1.pers0.and (hf2.pers0.and (hf3.pers0.and cO)))) ?_
 refine sS Tryz.f63 1 [0,1,4] [] (fun ρ=>[pt (nb ρ 0)]) (fun ρ=>[(0,(nw ρ 0 (cL (hB 0) 43)))]) (jE [[]]) (fun ρ1=>?_)
 refine aB ?_
 refine sS Tryz.f63 3 [0,1,4,12] [] (fun _=>[.slice a (hL K).length c,vn (hL K).length,vF]) (fun _=>[]) (cR [[],[]]<|jQ (fun ρ=>(decide (64<(((hL K).length:Nat):Int)))) false (fun _=>(decide_eq_false (by rw [aO];decide)))<|cN) (fun _=>?_)
 refine oN ?_
 refine aG (aA ?_)
 refine sS Tryz.f63 2 [0,1,4,6,7] [] (fun ρ=>[pt (nb ρ 0),pt (nb ρ 1)]) (fun ρ=>[(0,(nw ρ 0 (cL (bY .u8 64 (fun _=>0)) 106))),(1,(nw ρ 1 (cL (bY .u8 64 (fun _=>0)) 106)))]) (jE [[],[]]) (fun ρ3=>?_)
 refine sS Tryz.f63 3 [0,1,4,6,7] [] (fun _=>[vs (nb ρ3 0) 64 64,.slice a (hL K).length c,vn (Nat.min (hL K).length 64)]) (fun _=>[(2,(bD 1 (nb ρ3 0) (cL (bs (kpL K)).toArray 106)))]) (cR [[],[]]<|cX (o9 _ 1 (fun _=>do pure (Next.value (← Builtin.copy_ #[33,33] 3 #[vs (nb ρ3 0) 64 64,.slice a (hL K).length c]))) (fun _=>nb ρ3 0) (fun _=>(cL (bY .u8 64 (fun _=>0)) 106)) (fun _=>(cL (bs (kpL K)).toArray 106)) (fun _=>(vn (Nat.min (hL K).length 64))) (fun _=>(by kernel_rfl)) (fun _=>(by kernel_rfl)) (fun _=>(by kernel_rfl)) (fun _=>(by kernel_rfl)) (fun _ _=>trivial) (fun _ _ _ hG hg=>(by as_aux_lemma=>(rw [← hm_copy K];exact copy_row Tryz.underlying33 nH hg hG.fn.1 rfl (Nat.le_of_eq (eH _ 64 _).symm)))))<|cN) (fun _=>?_)
 refine sS Tryz.f63 3 [1,4,6,7] [] (fun _=>[vs (nb ρ3 1) 64 64,.slice a (hL K).length c,vn (Nat.min (hL K).length 64)]) (fun _=>[(2,(bD 2 (nb ρ3 1) (cL (bs (kpL K)).toArray 106)))]) (cR [[],[]]<|cX (o9 _ 2 (fun _=>do pure (Next.value (← Builtin.copy_ #[33,33] 3 #[vs (nb ρ3 1) 64 64,.slice a (hL K).length c]))) (fun _=>nb ρ3 1) (fun _=>(cL (bY .u8 64 (fun _=>0)) 106)) (fun _=>(cL (bs (kpL K)).toArray 106)) (fun _=>(vn (Nat.min (hL K).length 64))) (fun _=>(by kernel_rfl)) (fun _=>(by kernel_rfl)) (fun _=>(by kernel_rfl)) (fun _=>(by kernel_rfl)) (fun _ _=>trivial) (fun _ _ _ hG hg=>(by as_aux_lemma=>(rw [← hm_copy K];exact copy_row Tryz.underlying33 nH hg hG.fn.1 rfl (Nat.le_of_eq (eH _ 64 _).symm)))))<|cN) (fun _=>?_)
 refine aB (jJ Tryz.f63 1 [1,4,6,7,22] [vi 0] (aI ?_))
 refine oL (σ:=Nat × (Array Value) × (Array Value)) (fun ⟨m,_,_⟩=>[(1,(.slice a2 S.length c2)),(4,(pt (nb ρ1 0))),(6,(pt (nb ρ3 0))),(7,(pt (nb ρ3 1))),(22,(vn m))]) (fun ⟨_,C1,C2⟩=>[(nb ρ1 0,(cL (hB 0) 43)),(nb ρ3 0,(cL C1 106)),(nb ρ3 1,(cL C2 106))]) (fun ⟨m,_,_⟩=>64-m)
   (fun ⟨m,C1,C2⟩=>(m≤64)∧(C1=bY .u8 64 (hmf 54 K m))∧(C2=bY .u8 64 (hmf 92 K m))) (0,(bs (kpL K)).toArray,(bs (kpL K)).toArray) (⟨by decide,hmf_zero 54 K,hmf_zero 92 K⟩) [] ?_
 rintro ⟨m,C1,C2⟩ ⟨hm,hC1,hC2⟩
 change Ok Tryz.prog _ _ 46 [(1,(.slice a2 S.length c2)),(4,(pt (nb ρ1 0))),(6,(pt (nb ρ3 0))),(7,(pt (nb ρ3 1))),(22,(vn m))] _ [(nb ρ1 0,(cL (hB 0) 43)),(nb ρ3 0,(cL C1 106)),(nb ρ3 1,(cL C2 106))] (fun w=>Bs w a c (hL K)∧Bs w a2 c2 S∧kJ w∧kX w∧True)
 refine jJ Tryz.f63 1 [1,4,6,7,22,23] [.bool (decide (((m:Nat):Int)<64))] (aB ?_)
 refine oC (decide (((m:Nat):Int)<64)) (fun hb1=>?_) (fun hb1=>?_)
 ·
  rw [hb1]
  have:=yT hb1
  refine aG (aA (aB (aI (jJ Tryz.f63 2 [1,4,6,7,8,22] [vn m,vn m] ?_))))
  refine sS Tryz.f63 6 [1,4,6,7,8,22] [] (fun _=>[vn m,jp (nb ρ3 0) m,vy (gB (kpL K) m),vy (gB (xB 54 K) m),jp (nb ρ3 0) m,undef]) (fun _=>[(5,(bD 1 (nb ρ3 0) (cL (bY .u8 64 (hmf 54 K (m+1))) 106)))]) (cR [[]]<|cX (jS (fun _=>Instr.indexAt 106 (pt (nb ρ3 0)) (vn m)) (fun _=>(jp (nb ρ3 0) m)) (fun _ w=>aX (n:=((m:Nat):Int)) (i:=m) Tryz.underlying106 Tryz.sizeOf5 (by omega) w))<|cX (kG _ 1 5 (fun _=>nb ρ3 0) (fun _=>m) (fun _=>C1) 106 (0,0) (fun _=>(vy (gB (kpL K) m))) (fun _=>by kernel_rfl) Tryz.isAgg5 (fun _=>(by rw [hC1,nG (by omega),hmf_at])))<|cA (v:=fun ρ=>(.int .u8 (bits .xor .u8 ((gB (kpL K) m:Nat):Int) 54))) (fun _=>(vy (gB (xB 54 K) m))) (fun _=>congrArg (Value.int .u8) (hm_xor (v:=54) (K:=K) (i:=m) (by omega)))<|cX (jS (fun _=>Instr.indexAt 106 (pt (nb ρ3 0)) (vn m)) (fun _=>(jp (nb ρ3 0) m)) (fun _ w=>aX (n:=((m:Nat):Int)) (i:=m) Tryz.underlying106 Tryz.sizeOf5 (by omega) w))<|cX (qG _ 1 5 (fun _=>nb ρ3 0) (fun _=>m) (fun _=>C1) (fun _=>(bY .u8 64 (hmf 54 K (m+1)))) 106 (fun _=>(vy (gB (xB 54 K) m))) (fun _=>by kernel_rfl) Tryz.sizeOf5 (fun _=>rfl) (fun _=>(by rw [hC1,eH];omega)) (fun _=>(by rw [hC1];exact hmf_set)))<|cN) (fun _=>?_)
  refine rS Tryz.f63 6 [1,4,6,7,22] [] (fun _=>[vn m,jp (nb ρ3 1) m,vy (gB (kpL K) m),vy (gB (xB 92 K) m),jp (nb ρ3 1) m,undef]) (fun _=>[(5,(bD 2 (nb ρ3 1) (cL (bY .u8 64 (hmf 92 K (m+1))) 106)))]) (cR [[]]<|cX (jS (fun _=>Instr.indexAt 106 (pt (nb ρ3 1)) (vn m)) (fun _=>(jp (nb ρ3 1) m)) (fun _ w=>aX (n:=((m:Nat):Int)) (i:=m) Tryz.underlying106 Tryz.sizeOf5 (by omega) w))<|cX (kG _ 2 5 (fun _=>nb ρ3 1) (fun _=>m) (fun _=>C2) 106 (0,0) (fun _=>(vy (gB (kpL K) m))) (fun _=>by kernel_rfl) Tryz.isAgg5 (fun _=>(by rw [hC2,nG (by omega),hmf_at])))<|cA (v:=fun ρ=>(.int .u8 (bits .xor .u8 ((gB (kpL K) m:Nat):Int) 92))) (fun _=>(vy (gB (xB 92 K) m))) (fun _=>congrArg (Value.int .u8) (hm_xor (v:=92) (K:=K) (i:=m) (by omega)))<|cX (jS (fun _=>Instr.indexAt 106 (pt (nb ρ3 1)) (vn m)) (fun _=>(jp (nb ρ3 1) m)) (fun _ w=>aX (n:=((m:Nat):Int)) (i:=m) Tryz.underlying106 Tryz.sizeOf5 (by omega) w))<|cX (qG _ 2 5 (fun _=>nb ρ3 1) (fun _=>m) (fun _=>C2) (fun _=>(bY .u8 64 (hmf 92 K (m+1)))) 106 (fun _=>(vy (gB (xB 92 K) m))) (fun _=>by kernel_rfl) Tryz.sizeOf5 (fun _=>rfl) (fun _=>(by rw [hC2,eH];omega)) (fun _=>(by rw [hC2];exact hmf_set)))<|cN) (fun _=>?_)
  refine aJ (aA ?_)
  refine rS Tryz.f63 2 [1,4,6,7,22] [] (fun _=>[vn (m+1),vn (m+1)]) (fun _=>[]) (jW (fun ρ=>(((m:Nat):Int)+1)) (fun _=>(m+1)) (fun _=>(aW m 1 (by omega)))<|jE [[]]) (fun _=>?_)
  exact mN (m+1,bY .u8 64 (hmf 54 K (m+1)),bY .u8 64 (hmf 92 K (m+1))) (by show 64-(m+1)<64-m;omega) (⟨(by omega),rfl,rfl⟩) []
 rw [hb1]
 refine bF (aN (aN (aT ?_)))
 rw [hC1]
 rw [hC2]
 refine aA ?_
 refine iZ Tryz.f63 7 [4,7,9] [1,0,1,0,1] (fun ρ=>[vs (nb ρ3 0) (xB 54 K).length 64,.slice a2 S.length c2,vs (nb ρ 2) 2 2,.slice (oa ρ 3) ((xB 54 K)++S).length (nb ρ 3),.agg (hB (aU ((xB 54 K)++S))),pt (nb ρ 5),undef]) (fun ρ=>[(2,(nw ρ 2 (cL #[vs (nb ρ3 0) (xB 54 K).length 64,.slice a2 S.length c2] 33))),(5,(nw ρ 5 (cL (hB 0) 43))),(6,(bD 43 (nb ρ 5) (cL (hB (aU ((xB 54 K)++S))) 43)))]) (fun ρ=>[(3,fun w=>Fs w0 w (oa ρ 3) (nb ρ 3) ((xB 54 K)++S))]) (fun ρ=>(fun w=>Bs w a c (hL K)∧Bs w a2 c2 S∧kJ w∧kX w∧Fs w0 w (oa ρ 3) (nb ρ 3) ((xB 54 K)++S)∧True)) (fun _=>True) (fun _ _ hF hf=>⟨⟨hF.1,hF.2.1,hF.2.2.1,hF.2.2.2.1,hf 3,trivial⟩,trivial⟩) (cR [[],[],[]]<|cX (qB (fun ρ _ w hG=>yA (nb ρ 2) (some ⟨nb ρ3 0,0,none⟩) 64 (xB 54 K) a2 c2 S (by simp only [eP];omega) (by rw [eP];decide) w (Kb.of_block (hG.kn (g:=nb ρ 2) (o:=(cL #[vs (nb ρ3 0) (xB 54 K).length 64,.slice a2 S.length c2] 33)) 19)) (Bs.of_hd (c:=64) (hG.kn (g:=nb ρ3 0) (o:=(cL (bY .u8 64 (hmf 54 K m)) 106)) 1) (by rw [hmf_end (by have:=yF hb1;omega)];exact Hd.all _) (Nat.le_of_eq (eP _ _)) (by rw [eP];decide)) hG.fn.2.1))<|cX (qC (fun ρ _ w hG=>sum_any (oa ρ 3) (nb ρ 3) ((xB 54 K)++S) (by simp only [List.length_append,eP];omega) (by simp only [List.length_append,eP];omega) w (show Fs w0 w (oa ρ 3) (nb ρ 3) ((xB 54 K)++S) from (hG.facts 3 rfl).now).1 hG.fn.2.2.1 hG.fn.2.2.2.1))<|jE [[],[43]]) (fun ρ12 _=>?_)
 refine sDf Tryz.f63 [0,0,3,7,15,31] 6 [4] [1,0,0,0] (fun ρ=>[vs (nb ρ3 1) (xB 92 K).length 64,vs (nb ρ12 5) (hL (aU ((xB 54 K)++S))).length 32,vs (nb ρ 2) 2 2,.slice (oa ρ 3) ((xB 92 K)++(hL (aU ((xB 54 K)++S)))).length (nb ρ 3),.agg (hB (aU ((xB 92 K)++(hL (aU ((xB 54 K)++S)))))),undef]) (fun ρ=>[(2,(nw ρ 2 (cL #[vs (nb ρ3 1) (xB 92 K).length 64,vs (nb ρ12 5) (hL (aU ((xB 54 K)++S))).length 32] 33))),(5,(bD 0 (nb ρ1 0) (cL (hB (aU ((xB 92 K)++(hL (aU ((xB 54 K)++S)))))) 43)))]) (fun ρ=>[(3,fun w=>Fs w0 w (oa ρ 3) (nb ρ 3) ((xB 92 K)++(hL (aU ((xB 54 K)++S)))))]) (fun ρ=>(fun w=>Bs w a c (hL K)∧Bs w a2 c2 S∧kJ w∧kX w∧Fs w0 w (oa ρ12 3) (nb ρ12 3) ((xB 54 K)++S)∧Fs w0 w (oa ρ 3) (nb ρ 3) ((xB 92 K)++(hL (aU ((xB 54 K)++S))))∧True)) (fun _=>True) (fun _ _ hF hf=>⟨⟨hF.1,hF.2.1,hF.2.2.1,hF.2.2.2.1,hF.2.2.2.2.1,hf 3,trivial⟩,trivial⟩) (cR [[],[],[]]<|cX (qB (fun ρ _ w hG=>yA (nb ρ 2) (some ⟨nb ρ3 1,0,none⟩) 64 (xB 92 K) (some ⟨nb ρ12 5,0,none⟩) 32 (hL (aU ((xB 54 K)++S))) (by simp only [eP,aO];omega) (by rw [eP];decide) w (Kb.of_block (hG.kn (g:=nb ρ 2) (o:=(cL #[vs (nb ρ3 1) (xB 92 K).length 64,vs (nb ρ12 5) (hL (aU ((xB 54 K)++S))).length 32] 33)) 19)) (Bs.of_hd (c:=64) (hG.kn (g:=nb ρ3 1) (o:=(cL (bY .u8 64 (hmf 92 K m)) 106)) 1) (by rw [hmf_end (by have:=yF hb1;omega)];exact Hd.all _) (Nat.le_of_eq (eP _ _)) (by rw [eP];decide)) (Bs.of_hd (c:=32) (hG.kn (g:=nb ρ12 5) (o:=(cL (hB (aU ((xB 54 K)++S))) 43)) 2) (kP _) (Nat.le_refl _) (Nat.le_of_ble_eq_true rfl))))<|cX (qC (fun ρ _ w hG=>sum_any (oa ρ 3) (nb ρ 3) ((xB 92 K)++(hL (aU ((xB 54 K)++S)))) (by simp only [List.length_append,eP];omega) (by simp only [List.length_append,eP,aO];omega) w (show Fs w0 w (oa ρ 3) (nb ρ 3) ((xB 92 K)++(hL (aU ((xB 54 K)++S)))) from (hG.facts 3 rfl).now).1 hG.fn.2.2.1 hG.fn.2.2.2.1))<|jE [[0]]) (fun _ _=>?_)
 refine aF ?_
 exact mR (v:=(.agg (hB (aU ((xB 92 K)++(hL (aU ((xB 54 K)++S)))))))) (fun _ hS=>⟨rfl,hS.bel⟩)
theorem grow0_any (n:Nat) (hn:0<n∧n≤140737488351232) (w0:World):Calls Tryz.prog 124 #[vz,vn n] w0 (fun ε w'=>∃ z:List Nat,ε=.returned (vs (z.headD 0) 0 (z.tail.headD 0))∧jG w0 w'∧w0.heap.size≤z.headD 0∧w'.heap[z.headD 0]? = some (cL (zB (z.tail.headD 0)) 5)):=by
 refine Calls.of_ok (n:=27) (F:=(fun _=>True)) Tryz.func124 rfl rfl rfl (by simp) jT ?_
 refine jJ Tryz.f124 1 [0,1,4] [vz] (aB ?_)
 refine sS Tryz.f124 2 [0,1,4,6] [] (fun _=>[vn n,vF]) (fun _=>[]) (cR [[]]<|jQ (fun ρ=>(decide (((n:Nat):Int)<0))) false (fun _=>(decide_eq_false (Int.not_lt.2 (Int.natCast_nonneg _))))<|cN) (fun _=>?_)
 refine oN ?_
 refine aG (aA (aB ?_))
 refine sS Tryz.f124 8 [0,1,4] [] (fun _=>[vn n,vz,vi 0,vz,vi 0,vi 0,vn n,vn n]) (fun _=>[]) (cR [[],[],[],[],[],[]]<|jW (fun ρ=>(((n:Nat):Int)-0)) (fun _=>n) (fun _=>((gZ (by omega)).trans (by omega)))<|jE [[]]) (fun _=>?_)
 refine sS Tryz.f124 2 [0,1,4,16] [] (fun _=>[vn n,vT]) (fun _=>[]) (cR [[]]<|jQ (fun ρ=>(decide (0<((n:Nat):Int)))) true (fun _=>(decide_eq_true (by omega)))<|cN) (fun _=>?_)
 refine oY ?_
 refine rS Tryz.f124 10 [0,4] [] (fun ρ=>let qa:=vs (nb ρ 5) (mid (List.replicate n (0:UInt8)) 0 0).length (n+aZ ρ 5);[vz,vz,vi 0,vz,vn n,vs (nb ρ 5) (List.replicate n (0:UInt8)).length (n+aZ ρ 5),vz,vi 0,qa,qa]) (fun ρ=>[(5,(nw ρ 5 (cL (zB (n+aZ ρ 5)) 5)))]) (cR [[],[],[],[],[]]<|cX (qN (fun _ ζ=>(vs (ζ.headD 0) (List.replicate n (0:UInt8)).length (n+ζ.tail.headD 0))) (fun _ ζ=>(cL (zB (n+ζ.tail.headD 0)) 5)) (fun _ _ _ _=>app_zeros (ty:=33) Tryz.underlying33 nH Tryz.underlying3 hn.1 hn.2))<|cR [[],[]]<|cX (o_semF _ (fun ρ=>do pure (Next.value (← Instr.sliceAt 33 (vs (nb ρ 5) (List.replicate n (0:UInt8)).length (n+aZ ρ 5)) none (some (vi 0)) none))) (fun ρ=>(vs (nb ρ 5) (mid (List.replicate n (0:UInt8)) 0 0).length (n+aZ ρ 5))) (fun _=>(by kernel_rfl)) (fun _=>(by kernel_rfl)) (fun ρ _ _ hG=>(vH (l:=0) (k:=0) Tryz.underlying33 nH (Bs.of_hd (hG.kn (g:=nb ρ 5) (o:=(cL (zB (n+aZ ρ 5)) 5)) 40) (hdz_le _ _) (by rw [List.length_replicate];exact Nat.le_add_right _ _) (by rw [List.length_replicate];exact hn.2)) rfl (Or.inl ⟨rfl,rfl⟩) (Or.inr (congrArg (fun z=>some (Value.int .i64 z)) (rfl))) (Nat.le_refl _) (Nat.zero_le _)).trans (by rw [sadr_zero,Nat.sub_zero])) (fun _ _ _ _=>cO))<|jE [[]]) (fun ρ5=>?_)
 refine aA (jJ Tryz.f124 2 [4] (let qa:=vs (nb ρ5 5) (mid (List.replicate n (0:UInt8)) 0 0).length (n+aZ ρ5 5);[qa,qa]) (aF ?_))
 exact mR (v:=(vs (nb ρ5 5) (mid (List.replicate n (0:UInt8)) 0 0).length (n+aZ ρ5 5))) (fun _ hS=>⟨[nb ρ5 5,n+aZ ρ5 5],rfl,hS.bel,(hS.newb (.head _)).1,(hS.newb (.head _)).2⟩)
theorem concat2_any (g:Nat) (a0:Option Addr) (c0:Nat) (B0:List UInt8) (a1:Option Addr) (c1:Nat) (B1:List UInt8) (hl:B0.length+B1.length≤140737488351232) (h0:0<B0.length) (w0:World) (hf0:Kb w0 g #[.slice a0 B0.length c0,.slice a1 B1.length c1]) (hf1:Bs w0 a0 c0 B0) (hf2:Bs w0 a1 c1 B1):Calls Tryz.prog 97 #[vs g 2 2] w0 (fun ε w'=>∃ α κ,ε=.returned (.slice α (B0++B1).length κ)∧jG w0 w'∧Fs w0 w' α κ (B0++B1)):=by
 refine Calls.of_ok (n:=36) (F:=(fun w=>Kb w g #[.slice a0 B0.length c0,.slice a1 B1.length c1]∧Bs w a0 c0 B0∧Bs w a1 c1 B1∧True)) Tryz.func97 rfl rfl rfl (by simp) (hf0.pers0.and (hf1.pers0.and (hf2.pers0.and cO))) ?_
 refine jJ Tryz.f97 1 [0,2] [vz] (jJ Tryz.f97 1 [0,2,3] [vi 0] (aB (jJ Tryz.f97 3 [0,2,3,9,10,11] [vs g 2 2,vi 2,vi 0] (aI ?_))))
 refine jY 3 ?_
 refine dI ?_
 refine jJ Tryz.f97 1 [0,2,3,9,10,11,12] [vT] (aB ?_)
 refine oY ?_
 refine aG (aA (aB (aI ?_)))
 refine sS Tryz.f97 3 [0,2,3,5,9,10,11,12,13,14] [] (fun _=>[pt g,.slice a0 B0.length c0,.slice a0 B0.length c0]) (fun _=>[]) (cR [[]]<|cX (qF (v:=fun ρ=>(.slice a0 B0.length c0)) (fun _ _ _ hG=>mY (off:=0) Tryz.isAgg33 hG.fn.1 (rfl)))<|jE [[]]) (fun _=>?_)
 refine sS Tryz.f97 5 [0,2,3,5,9,10,11,12,13,14,15,16,17,18] [] (fun _=>[vi 0,.slice a0 B0.length c0,vn B0.length,vn B0.length,vn B0.length]) (fun _=>[]) (cR [[],[],[]]<|jW (fun ρ=>(0+((B0.length:Nat):Int))) (fun _=>B0.length) (fun _=>((gZ (by omega)).trans (by omega)))<|jE [[]]) (fun _=>?_)
 refine sS Tryz.f97 2 [0,2,3,5,9,10,11,12,13,14,15,16,17,18,19,20] [] (fun _=>[vn B0.length,vF]) (fun _=>[]) (cR [[]]<|jQ (fun ρ=>(decide (((B0.length:Nat):Int)<0))) false (fun _=>(decide_eq_false (Int.not_lt.2 (Int.natCast_nonneg _))))<|cN) (fun _=>?_)
 refine lK [(0,(vs g 2 2)),(2,vz),(3,(vn B0.length)),(5,(.slice a0 B0.length c0)),(9,(vs g 2 2)),(10,(vi 2)),(11,(vi 0)),(12,vT),(13,(pt g)),(14,(.slice a0 B0.length c0)),(15,(vi 0)),(16,(.slice a0 B0.length c0)),(17,(vn B0.length)),(18,(vn B0.length)),(19,(vn B0.length)),(20,vF)] [] ?_
 refine oN ?_
 refine aG (aJ (aA (jL Tryz.f97 2 [0,2,3,5,9,10,11,12,13,14,15,16,17,18,19,20,22] [] [vi 1,vi 1] [[],[]] (dV ?_))))
 refine dI ?_
 refine jJ Tryz.f97 1 [0,2,3,5,9,10,11,12,13,14,15,16,17,18,19,20,22] [vT] (aB ?_)
 refine oY ?_
 refine aG (aA (aB (aI ?_)))
 refine sS Tryz.f97 3 [0,2,3,5,9,10,11,12,13,14,15,16,17,18,19,20,22] [] (fun _=>[jp g 1,.slice a1 B1.length c1,.slice a1 B1.length c1]) (fun _=>[]) (cR [[]]<|cX (qF (v:=fun ρ=>(.slice a1 B1.length c1)) (fun _ _ _ hG=>mY (off:=1) Tryz.isAgg33 hG.fn.1 (rfl)))<|jE [[]]) (fun _=>?_)
 refine sS Tryz.f97 5 [0,2,3,5,9,10,11,12,13,14,15,16,17,18,19,20,22] [] (fun _=>let qa:=vn (B0.length+B1.length);[vn B0.length,.slice a1 B1.length c1,vn B1.length,qa,qa]) (fun _=>[]) (cR [[],[],[]]<|jW (fun ρ=>(((B0.length:Nat):Int)+((B1.length:Nat):Int))) (fun _=>(B0.length+B1.length)) (fun _=>(aW B0.length B1.length (by omega)))<|jE [[]]) (fun _=>?_)
 refine sS Tryz.f97 2 [0,2,3,5,9,10,11,12,13,14,15,16,17,18,19,20,22] [] (fun _=>[vn (B0.length+B1.length),vF]) (fun _=>[]) (cR [[]]<|jQ (fun ρ=>(decide (((B0.length+B1.length:Nat):Int)<0))) false (fun _=>(decide_eq_false (Int.not_lt.2 (Int.natCast_nonneg _))))<|cN) (fun _=>?_)
 refine oN ?_
 refine aG (aJ (aA (jL Tryz.f97 2 [0,2,3,5,9,10,11,12,13,14,15,16,17,18,19,20,22] [] [vi 2,vi 2] [[],[]] (dV ?_))))
 refine dI ?_
 refine jJ Tryz.f97 1 [0,2,3,5,9,10,11,12,13,14,15,16,17,18,19,20,22] [vF] ?_
 refine lK [(0,(vs g 2 2)),(2,vz),(3,(vn (B0.length+B1.length))),(5,(.slice a1 B1.length c1)),(9,(vs g 2 2)),(10,(vi 2)),(11,(vi 2)),(12,vF),(13,(jp g 1)),(14,(.slice a1 B1.length c1)),(15,(vn B0.length)),(16,(.slice a1 B1.length c1)),(17,(vn B1.length)),(18,(vn (B0.length+B1.length))),(19,(vn (B0.length+B1.length))),(20,vF),(22,(vi 2))] [] ?_
 refine aB ?_
 refine oN ?_
 refine bF (aN (aN (aT (aA ?_))))
 refine sS Tryz.f97 3 [0,2,6] [] (fun ρ=>let qa:=vs (nb ρ 1) ([]:List UInt8).length (aZ ρ 1);[vn (B0.length+B1.length),qa,qa]) (fun ρ=>[(1,(nw ρ 1 (cL (zB (aZ ρ 1)) 5)))]) (cR [[]]<|cX (o_callM _ 124 (fun _=> #[vz,vn (B0.length+B1.length)]) (fun _ ζ=>(vs (ζ.headD 0) ([]:List UInt8).length (ζ.tail.headD 0))) (fun _ ζ=>(cL (zB (ζ.tail.headD 0)) 5)) (fun _ _=>(by kernel_rfl)) (fun _ _=>(by kernel_rfl)) (fun _ _=>(by kernel_rfl)) (fun _ _=>trivial) (fun _ _ w _=>grow0_any (B0.length+B1.length) (by omega) w))<|jE [[]]) (fun ρ15=>?_)
 refine aB (jJ Tryz.f97 3 [2,6,25,26,27] [vs g 2 2,vi 2,vi 0] (aI ?_))
 refine jY 3 ?_
 refine dI ?_
 refine jJ Tryz.f97 1 [2,6,25,26,27,28] [vT] (aB ?_)
 refine oY ?_
 refine aG (aA (aB (aI ?_)))
 refine sS Tryz.f97 3 [2,6,8,25,26,27,28,29,30] [] (fun _=>[pt g,.slice a0 B0.length c0,.slice a0 B0.length c0]) (fun _=>[]) (cR [[]]<|cX (qF (v:=fun ρ=>(.slice a0 B0.length c0)) (fun _ _ _ hG=>mY (off:=0) Tryz.isAgg33 hG.fn.1 (rfl)))<|jE [[]]) (fun _=>?_)
 refine rSf Tryz.f97 4 [2,6,8,25,26,27,28,29,30,31,32,33] [] (fun ρ=>let qa:=vs (nb ρ 2) (([]:List UInt8)++B0).length (aZ ρ 2);[vs (nb ρ15 1) ([]:List UInt8).length (aZ ρ15 1),.slice a0 B0.length c0,qa,qa]) (fun ρ=>[(2,(bD 0 (nb ρ 2) (cL (oc ρ 2) 5)))]) (fun ρ=>[(2,fun w=>Ap (oc ρ 2) (([]:List UInt8)++B0) (aZ ρ 2))]) (fun _=>(fun w=>Kb w g #[.slice a0 B0.length c0,.slice a1 B1.length c1]∧Bs w a0 c0 B0∧Bs w a1 c1 B1∧True)) (fun ρ=>Ap (oc ρ 2) (([]:List UInt8)++B0) (aZ ρ 2)) (fun _ _ hF hf=>⟨hF,hf 2⟩) (cR [[],[]]<|cX (qM 0 (fun _ _ _ hG hg=>app_any (ty:=33) (g:=nb ρ15 1) (C:=(zB (aZ ρ15 1))) (c:=aZ ρ15 1) (xs:=([]:List UInt8)) Tryz.underlying33 nH (Ap.mk' (Hd.nil _) (Nat.zero_le _) (Nat.zero_le _) (oD _)) (Bs.src (tx:=33) Tryz.underlying33 hG.fn.2.1) (by simp only [List.length_nil];omega) hg))<|jE [[]]) (fun ρ19 ap19_2=>?_)
 refine aJ (aA (jL Tryz.f97 2 [2,6,8,25,26,27,28,29,30,31,32,33,34] [] [vi 1,vi 1] [[],[]] (dV ?_)))
 refine dI ?_
 refine jJ Tryz.f97 1 [2,6,8,25,26,27,28,29,30,31,32,33,34] [vT] ?_
 refine lK [(2,vz),(6,(vs (nb ρ19 2) (([]:List UInt8)++B0).length (aZ ρ19 2))),(8,(.slice a0 B0.length c0)),(25,(vs g 2 2)),(26,(vi 2)),(27,(vi 1)),(28,vT),(29,(pt g)),(30,(.slice a0 B0.length c0)),(31,(vs (nb ρ15 1) ([]:List UInt8).length (aZ ρ15 1))),(32,(.slice a0 B0.length c0)),(33,(vs (nb ρ19 2) (([]:List UInt8)++B0).length (aZ ρ19 2))),(34,(vi 1))] [(nb ρ19 2,(cL (oc ρ19 2) 5))] ?_
 refine aB ?_
 refine oY ?_
 refine aG (aA (aB (aI ?_)))
 refine sS Tryz.f97 3 [2,6,8,25,26,27,28,29,30,31,32,33,34] [] (fun _=>[jp g 1,.slice a1 B1.length c1,.slice a1 B1.length c1]) (fun _=>[]) (cR [[]]<|cX (qF (v:=fun ρ=>(.slice a1 B1.length c1)) (fun _ _ _ hG=>mY (off:=1) Tryz.isAgg33 hG.fn.1 (rfl)))<|jE [[]]) (fun _=>?_)
 refine rSf Tryz.f97 4 [2,6,8,25,26,27,28,29,30,31,32,33,34] [] (fun ρ=>let qa:=vs (nb ρ 2) ((([]:List UInt8)++B0)++B1).length (aZ ρ 2);[vs (nb ρ19 2) (([]:List UInt8)++B0).length (aZ ρ19 2),.slice a1 B1.length c1,qa,qa]) (fun ρ=>[(2,(bD 0 (nb ρ 2) (cL (oc ρ 2) 5)))]) (fun ρ=>[(2,fun w=>Ap (oc ρ 2) ((([]:List UInt8)++B0)++B1) (aZ ρ 2))]) (fun _=>(fun w=>Kb w g #[.slice a0 B0.length c0,.slice a1 B1.length c1]∧Bs w a0 c0 B0∧Bs w a1 c1 B1∧True)) (fun ρ=>Ap (oc ρ 2) ((([]:List UInt8)++B0)++B1) (aZ ρ 2)) (fun _ _ hF hf=>⟨hF,hf 2⟩) (cR [[],[]]<|cX (qM 0 (fun _ _ _ hG hg=>app_any (ty:=33) (g:=nb ρ19 2) (C:=(oc ρ19 2)) (c:=aZ ρ19 2) (xs:=([]:List UInt8)++B0) Tryz.underlying33 nH (Ap.mk' ap19_2.hd ap19_2.le ap19_2.max ap19_2.size) (Bs.src (tx:=33) Tryz.underlying33 hG.fn.2.2.1) (by simp only [List.length_append,List.length_nil];omega) hg))<|jE [[]]) (fun ρ23 ap23_2=>?_)
 refine aJ (aA (jL Tryz.f97 2 [2,6,8,25,26,27,28,29,30,31,32,33,34] [] [vi 2,vi 2] [[],[]] (dV ?_)))
 refine dI ?_
 refine jJ Tryz.f97 1 [2,6,8,25,26,27,28,29,30,31,32,33,34] [vF] (aB ?_)
 refine oN ?_
 refine bF (aN (aN (aT (aA (jJ Tryz.f97 2 [2] (let qa:=vs (nb ρ23 2) ((([]:List UInt8)++B0)++B1).length (aZ ρ23 2);[qa,qa]) (aF (mD [(2,(vs (nb ρ23 2) ((([]:List UInt8)++B0)++B1).length (aZ ρ23 2)))] [(nb ρ23 2,(cL (oc ρ23 2) 5))] ?_)))))))
 exact mR (v:=(vs (nb ρ23 2) ((([]:List UInt8)++B0)++B1).length (aZ ρ23 2))) (fun _ hS=>⟨some ⟨nb ρ23 2,0,none⟩,aZ ρ23 2,congrArg Ending.returned (by rw [List.nil_append]),hS.bel,dU (by rw [List.nil_append]) (hS.fresh (.head _) ap23_2.hd ap23_2.le ap23_2.max)⟩)
theorem extend_any (a:Option Addr) (c:Nat) (B:List UInt8) (a2:Option Addr) (c2:Nat) (S:List UInt8) (hl:B.length+S.length≤140737488351232) (w0:World) (hf0:Bs w0 a c B) (hf1:Bs w0 a2 c2 S):Calls Tryz.prog 122 #[.slice a B.length c,.slice a2 S.length c2] w0 (fun ε w'=>∃ α κ,ε=.returned (.slice α (B++S).length κ)∧jG w0 w'∧Fs w0 w' α κ (B++S)):=by
 refine Calls.of_ok (n:=18) (F:=(fun w=>Bs w a c B∧Bs w a2 c2 S∧True)) Tryz.func122 rfl rfl rfl (by simp) (hf0.pers0.and (hf1.pers0.and cO)) ?_
 refine jJ Tryz.f122 1 [0,1,4] [vz] ?_
 refine sS Tryz.f122 7 [0,1,4,5] [] (fun ρ=>let qa:=vs (nb ρ 5) ([]:List UInt8).length (B.length+S.length);[.slice a B.length c,vn B.length,.slice a2 S.length c2,vn S.length,vn (B.length+S.length),qa,qa]) (fun ρ=>[(5,(nw ρ 5 (cL (zB (B.length+S.length)) 5)))]) (cR [[],[],[],[]]<|jW (fun ρ=>(((B.length:Nat):Int)+((S.length:Nat):Int))) (fun _=>(B.length+S.length)) (fun _=>(aW B.length S.length (by omega)))<|cX (uB _ (fun _=>do pure (Next.value (← Instr.makeSlice 33 (vi 0) (vn (B.length+S.length))))) (fun _ ζ=>(vs (ζ.headD 0) ([]:List UInt8).length (B.length+S.length))) (fun _ _=>(cL (zB (B.length+S.length)) 5)) (fun _ _=>(by kernel_rfl)) (fun _=>(by kernel_rfl)) (fun _ _=>trivial) (fun _ _ w _=>mM Tryz.underlying33 nH ([]:List UInt8) (rfl) (rfl) (Nat.zero_le _) hl w))<|jE [[]]) (fun ρ2=>?_)
 refine sS Tryz.f122 4 [1,4,5] [] (fun _=>let qa:=vs (nb ρ2 5) (([]:List UInt8)++B).length (B.length+S.length);[vs (nb ρ2 5) ([]:List UInt8).length (B.length+S.length),.slice a B.length c,qa,qa]) (fun _=>[(2,(bD 0 (nb ρ2 5) (cL (inpl (zB (B.length+S.length)) ([]:List UInt8).length (bs B)) 5)))]) (cR [[],[]]<|cX (o9 _ 0 (fun _=>do pure (Next.value (← Builtin.append_ #[33,33] 33 #[vs (nb ρ2 5) ([]:List UInt8).length (B.length+S.length),.slice a B.length c]))) (fun _=>nb ρ2 5) (fun _=>(cL (zB (B.length+S.length)) 5)) (fun _=>(cL (inpl (zB (B.length+S.length)) ([]:List UInt8).length (bs B)) 5)) (fun _=>(vs (nb ρ2 5) (([]:List UInt8)++B).length (B.length+S.length))) (fun _=>(by kernel_rfl)) (fun _=>(by kernel_rfl)) (fun _=>(by kernel_rfl)) (fun _=>(by kernel_rfl)) (fun _ _=>trivial) (fun _ _ _ hG hg=>kD Tryz.underlying33 nH hg (Bs.src (tx:=33) Tryz.underlying33 hG.fn.1) (oD _) (by simp only [List.length_nil];omega)))<|jE [[]]) (fun _=>?_)
 refine sS Tryz.f122 4 [4] [] (fun _=>let qa:=vs (nb ρ2 5) ((([]:List UInt8)++B)++S).length (B.length+S.length);[vs (nb ρ2 5) (([]:List UInt8)++B).length (B.length+S.length),.slice a2 S.length c2,qa,qa]) (fun _=>[(2,(bD 0 (nb ρ2 5) (cL (inpl (inpl (zB (B.length+S.length)) ([]:List UInt8).length (bs B)) (([]:List UInt8)++B).length (bs S)) 5)))]) (cR [[],[]]<|cX (o9 _ 0 (fun _=>do pure (Next.value (← Builtin.append_ #[33,33] 33 #[vs (nb ρ2 5) (([]:List UInt8)++B).length (B.length+S.length),.slice a2 S.length c2]))) (fun _=>nb ρ2 5) (fun _=>(cL (inpl (zB (B.length+S.length)) ([]:List UInt8).length (bs B)) 5)) (fun _=>(cL (inpl (inpl (zB (B.length+S.length)) ([]:List UInt8).length (bs B)) (([]:List UInt8)++B).length (bs S)) 5)) (fun _=>(vs (nb ρ2 5) ((([]:List UInt8)++B)++S).length (B.length+S.length))) (fun _=>(by kernel_rfl)) (fun _=>(by kernel_rfl)) (fun _=>(by kernel_rfl)) (fun _=>(by kernel_rfl)) (fun _ _=>trivial) (fun _ _ _ hG hg=>kD Tryz.underlying33 nH hg (Bs.src (tx:=33) Tryz.underlying33 hG.fn.2.1) ((lG _ _ _ (room_le (oD _) (by simp only [List.length_nil];omega))).trans (oD _)) (Nat.le_refl _)))<|jE [[]]) (fun _=>?_)
 refine aF (mD [(4,(vs (nb ρ2 5) ((([]:List UInt8)++B)++S).length (B.length+S.length)))] [(nb ρ2 5,(cL (inpl (inpl (zB (B.length+S.length)) ([]:List UInt8).length (bs B)) (([]:List UInt8)++B).length (bs S)) 5))] ?_)
 exact mR (v:=(vs (nb ρ2 5) ((([]:List UInt8)++B)++S).length (B.length+S.length))) (fun _ hS=>⟨some ⟨nb ρ2 5,0,none⟩,B.length+S.length,congrArg Ending.returned (rfl),hS.bel,dU (rfl) (hS.fresh (.head _) (Hd.inpl (Hd.inpl (Hd.nil _) rfl) rfl) (oK (Nat.le_refl _)) (oK hl))⟩)
theorem lowest_any (n:Nat) (m:Nat) (hn:n<18446744073709551616) (hm:m≤8) (w0:World):Calls Tryz.prog 123 #[vx n,vn m] w0 (fun ε w'=>∃ α κ,ε=.returned (.slice α (leB n m).length κ)∧jG w0 w'∧Fs w0 w' α κ (leB n m)):=by
 refine Calls.of_ok (n:=23) (F:=(fun _=>True)) Tryz.func123 rfl rfl rfl (by simp) jT ?_
 refine jJ Tryz.f123 1 [0,1,4] [vz] ?_
 refine sS Tryz.f123 3 [0,1,4,5] [] (fun ρ=>let qa:=vs (nb ρ 1) (List.replicate m (0:UInt8)).length m;[vn m,qa,qa]) (fun ρ=>[(1,(nw ρ 1 (cL (zB m) 5)))]) (cR [[]]<|cX (uB _ (fun _=>do pure (Next.value (← Instr.makeSlice 33 (vn m) (vn m)))) (fun _ ζ=>(vs (ζ.headD 0) (List.replicate m (0:UInt8)).length m)) (fun _ _=>(cL (zB m) 5)) (fun _ _=>(by kernel_rfl)) (fun _=>(by kernel_rfl)) (fun _ _=>trivial) (fun _ _ w _=>mM Tryz.underlying33 nH (List.replicate m (0:UInt8)) ((rfl).trans (by rw [List.length_replicate])) (rfl) (by rw [List.length_replicate];exact Nat.le_refl _) (by omega) w))<|jE [[]]) (fun ρ2=>?_)
 refine aB (jJ Tryz.f123 2 [0,4,5,9,10] [vn m,vi 0] (aI ?_))
 refine oL (σ:=Nat) (fun i=>[(0,(vx n)),(4,vz),(5,(vs (nb ρ2 1) (List.replicate m (0:UInt8)).length m)),(9,(vn m)),(10,(vn i))]) (fun i=>[(nb ρ2 1,(cL (oZ n m i) 5))]) (fun i=>m-i)
   (fun i=>(i≤m)) 0 (Nat.zero_le m) [] ?_
 rintro i hi
 change Ok Tryz.prog _ _ 23 [(0,(vx n)),(4,vz),(5,(vs (nb ρ2 1) (List.replicate m (0:UInt8)).length m)),(9,(vn m)),(10,(vn i))] _ [(nb ρ2 1,(cL (oZ n m i) 5))] (fun _=>True)
 refine jJ Tryz.f123 1 [0,4,5,9,10,11] [.bool (decide (((i:Nat):Int)<((m:Nat):Int)))] (aB ?_)
 refine oC (decide (((i:Nat):Int)<((m:Nat):Int))) (fun hb1=>?_) (fun hb1=>?_)
 ·
  rw [hb1]
  have:=yT hb1
  refine aG (aA (aB (aI (jJ Tryz.f123 2 [0,4,5,6,9,10] [vn i,vn i] ?_))))
  refine rS Tryz.f123 9 [0,4,5,9,10] [] (fun _=>[vs (nb ρ2 1) (List.replicate m (0:UInt8)).length m,vn i,vx n,vn i,vn (8*i),vx (n / 2^(8*i)),vy (n / 256^i%256),jp (nb ρ2 1) i,undef]) (fun _=>[(8,(bD 0 (nb ρ2 1) (cL (oZ n m (i+1)) 5)))]) (cR [[],[],[],[]]<|jW (fun ρ=>(8*((i:Nat):Int))) (fun _=>(8*i)) (fun _=>(fQ 8 i (by have:=List.length_replicate (n:=m) (a:=(0:UInt8));omega)))<|cB (a:=fun ρ=>(vx n)) (b:=fun ρ=>(vn (8*i))) (v:=fun ρ=>(vx (n / 2^(8*i)))) .shr 37 (fun _ w=>gG (k:=.u64) hn w)<|cA (fun _=>(vy (n / 256^i%256))) (fun _=>congrArg (Value.int .u8) (low_byte n i))<|cX (qS (fun _ w=>uI (g:=nb ρ2 1) (c:=m) (k:=.i64) Tryz.underlying33 nH (show ((i:Nat):Int)=((i:Nat):Int) from rfl) (show i<(List.replicate m (0:UInt8)).length from (by rw [List.length_replicate];have:=List.length_replicate (n:=m) (a:=(0:UInt8));omega)) w))<|cX (qG _ 0 5 (fun _=>nb ρ2 1) (fun _=>i) (fun _=>(oZ n m i)) (fun _=>(oZ n m (i+1))) 5 (fun _=>(vy (n / 256^i%256))) (fun _=>by kernel_rfl) Tryz.sizeOf5 (fun _=>rfl) (fun _=>(by rw [fill_size hi];have:=List.length_replicate (n:=m) (a:=(0:UInt8));omega)) (fun _=>(fill_set (by have:=List.length_replicate (n:=m) (a:=(0:UInt8));omega))))<|cN) (fun _=>?_)
  refine aJ (aA ?_)
  refine rS Tryz.f123 2 [0,4,5,9,10] [] (fun _=>[vn (i+1),vn (i+1)]) (fun _=>[]) (jW (fun ρ=>(((i:Nat):Int)+1)) (fun _=>(i+1)) (fun _=>(aW i 1 (by have:=List.length_replicate (n:=m) (a:=(0:UInt8));omega)))<|jE [[]]) (fun _=>?_)
  exact mN (i+1) (by show m-(i+1)<m-i;have:=List.length_replicate (n:=m) (a:=(0:UInt8));omega) (by show i+1≤m;have:=List.length_replicate (n:=m) (a:=(0:UInt8));omega) []
 rw [hb1]
 refine bF (aN (aN (aT (aA (jJ Tryz.f123 2 [4] (let qa:=vs (nb ρ2 1) (List.replicate m (0:UInt8)).length m;[qa,qa]) (aF (mD [(4,(vs (nb ρ2 1) (List.replicate m (0:UInt8)).length m))] [(nb ρ2 1,(cL (oZ n m i) 5))] ?_)))))))
 exact mR (v:=(vs (nb ρ2 1) (List.replicate m (0:UInt8)).length m)) (fun _ hS=>⟨some ⟨nb ρ2 1,0,none⟩,m,congrArg Ending.returned (by rw [List.length_replicate,eQ]),hS.bel,dU (fill_end (by have:=yF hb1;have:=List.length_replicate (n:=m) (a:=(0:UInt8));omega)) (hS.fresh (.head _) (Hd.all _) (Nat.le_of_eq (zX hi)) (by rw [zX hi];omega))⟩)
theorem little_any (n:Nat) (m:Nat) (hn:n<18446744073709551616) (hm:m≤8) (w0:World):Calls Tryz.prog 106 #[vx n,vn m] w0 (fun ε w'=>∃ α κ,ε=.returned (.slice α (leB n m).length κ)∧jG w0 w'∧Fs w0 w' α κ (leB n m)):=by
 refine Calls.of_ok (n:=24) (F:=(fun _=>True)) Tryz.func106 rfl rfl rfl (by simp) jT ?_
 refine jJ Tryz.f106 1 [0,1,4] [vz] ?_
 refine sS Tryz.f106 3 [0,4,5] [] (fun ρ=>let qa:=vs (nb ρ 1) (List.replicate m (0:UInt8)).length m;[vn m,qa,qa]) (fun ρ=>[(1,(nw ρ 1 (cL (zB m) 5)))]) (cR [[]]<|cX (uB _ (fun _=>do pure (Next.value (← Instr.makeSlice 33 (vn m) (vn m)))) (fun _ ζ=>(vs (ζ.headD 0) (List.replicate m (0:UInt8)).length m)) (fun _ _=>(cL (zB m) 5)) (fun _ _=>(by kernel_rfl)) (fun _=>(by kernel_rfl)) (fun _ _=>trivial) (fun _ _ w _=>mM Tryz.underlying33 nH (List.replicate m (0:UInt8)) ((rfl).trans (by rw [List.length_replicate])) (rfl) (by rw [List.length_replicate];exact Nat.le_refl _) (by omega) w))<|jE [[]]) (fun ρ2=>?_)
 refine aB (jJ Tryz.f106 3 [0,4,5,10,11] [vs (nb ρ2 1) (List.replicate m (0:UInt8)).length m,vn (List.replicate m (0:UInt8)).length,vi 0] (aI ?_))
 refine oL (σ:=Nat) (fun i=>[(0,(vx n)),(4,vz),(5,(vs (nb ρ2 1) (List.replicate m (0:UInt8)).length m)),(10,(vn (List.replicate m (0:UInt8)).length)),(11,(vn i))]) (fun i=>[(nb ρ2 1,(cL (oZ n m i) 5))]) (fun i=>m-i)
   (fun i=>(i≤m)) 0 (Nat.zero_le m) [] ?_
 rintro i hi
 change Ok Tryz.prog _ _ 24 [(0,(vx n)),(4,vz),(5,(vs (nb ρ2 1) (List.replicate m (0:UInt8)).length m)),(10,(vn (List.replicate m (0:UInt8)).length)),(11,(vn i))] _ [(nb ρ2 1,(cL (oZ n m i) 5))] (fun _=>True)
 refine jJ Tryz.f106 1 [0,4,5,10,11,12] [.bool (decide (((i:Nat):Int)<(((List.replicate m (0:UInt8)).length:Nat):Int)))] (aB ?_)
 refine oC (decide (((i:Nat):Int)<(((List.replicate m (0:UInt8)).length:Nat):Int))) (fun hb1=>?_) (fun hb1=>?_)
 ·
  rw [hb1]
  have:=yT hb1
  refine aG (aA (aB (aI (jJ Tryz.f106 2 [0,4,5,6,10,11] [vn i,vn i] ?_))))
  refine rS Tryz.f106 9 [0,4,5,10,11] [] (fun _=>[vs (nb ρ2 1) (List.replicate m (0:UInt8)).length m,vn i,vx n,vn i,vn (8*i),vx (n / 2^(8*i)),vy (n / 256^i%256),jp (nb ρ2 1) i,undef]) (fun _=>[(8,(bD 0 (nb ρ2 1) (cL (oZ n m (i+1)) 5)))]) (cR [[],[],[],[]]<|jW (fun ρ=>(8*((i:Nat):Int))) (fun _=>(8*i)) (fun _=>(fQ 8 i (by have:=List.length_replicate (n:=m) (a:=(0:UInt8));omega)))<|cB (a:=fun ρ=>(vx n)) (b:=fun ρ=>(vn (8*i))) (v:=fun ρ=>(vx (n / 2^(8*i)))) .shr 37 (fun _ w=>gG (k:=.u64) hn w)<|cA (fun _=>(vy (n / 256^i%256))) (fun _=>congrArg (Value.int .u8) (low_byte n i))<|cX (qS (fun _ w=>uI (g:=nb ρ2 1) (c:=m) (k:=.i64) Tryz.underlying33 nH (show ((i:Nat):Int)=((i:Nat):Int) from rfl) (show i<(List.replicate m (0:UInt8)).length from (by rw [List.length_replicate];have:=List.length_replicate (n:=m) (a:=(0:UInt8));omega)) w))<|cX (qG _ 0 5 (fun _=>nb ρ2 1) (fun _=>i) (fun _=>(oZ n m i)) (fun _=>(oZ n m (i+1))) 5 (fun _=>(vy (n / 256^i%256))) (fun _=>by kernel_rfl) Tryz.sizeOf5 (fun _=>rfl) (fun _=>(by rw [fill_size hi];have:=List.length_replicate (n:=m) (a:=(0:UInt8));omega)) (fun _=>(fill_set (by have:=List.length_replicate (n:=m) (a:=(0:UInt8));omega))))<|cN) (fun _=>?_)
  refine aJ (aA ?_)
  refine rS Tryz.f106 2 [0,4,5,10,11] [] (fun _=>[vn (i+1),vn (i+1)]) (fun _=>[]) (jW (fun ρ=>(((i:Nat):Int)+1)) (fun _=>(i+1)) (fun _=>(aW i 1 (by have:=List.length_replicate (n:=m) (a:=(0:UInt8));omega)))<|jE [[]]) (fun _=>?_)
  exact mN (i+1) (by show m-(i+1)<m-i;have:=List.length_replicate (n:=m) (a:=(0:UInt8));omega) (by show i+1≤m;have:=List.length_replicate (n:=m) (a:=(0:UInt8));omega) []
 rw [hb1]
 refine bF (aN (aN (aT (aA (jJ Tryz.f106 2 [4] (let qa:=vs (nb ρ2 1) (List.replicate m (0:UInt8)).length m;[qa,qa]) (aF (mD [(4,(vs (nb ρ2 1) (List.replicate m (0:UInt8)).length m))] [(nb ρ2 1,(cL (oZ n m i) 5))] ?_)))))))
 exact mR (v:=(vs (nb ρ2 1) (List.replicate m (0:UInt8)).length m)) (fun _ hS=>⟨some ⟨nb ρ2 1,0,none⟩,m,congrArg Ending.returned (by rw [List.length_replicate,eQ]),hS.bel,dU (fill_end (by have:=yF hb1;have:=List.length_replicate (n:=m) (a:=(0:UInt8));omega)) (hS.fresh (.head _) (Hd.all _) (Nat.le_of_eq (zX hi)) (by rw [zX hi];omega))⟩)
theorem yX (a:Option Addr) (c:Nat) (B:List UInt8) (n:Nat) (hn:n<4294967296) (hl:B.length+8≤140737488351232) (w0:World) (hf0:Bs w0 a c B):Calls Tryz.prog 96 #[.slice a B.length c,vu n] w0 (fun ε w'=>∃ α κ,ε=.returned (.slice α (B++leB n 4).length κ)∧jG w0 w'∧Fs w0 w' α κ (B++leB n 4)):=by
 refine Calls.of_ok (n:=10) (F:=(fun w=>Bs w a c B∧True)) Tryz.func96 rfl rfl rfl (by simp) (hf0.pers0.and cO) ?_
 refine jJ Tryz.f96 1 [0,1,4] [vz] ?_
 refine iZ Tryz.f96 6 [4] [] (fun ρ=>let qa:Value:=.slice (oa ρ 4) (B++(leB n 4)).length (nb ρ 4);[.slice a B.length c,vu n,vx n,.slice (oa ρ 3) (leB n 4).length (nb ρ 3),qa,qa]) (fun _=>[]) (fun ρ=>[(3,fun w=>Fs w0 w (oa ρ 3) (nb ρ 3) (leB n 4)),(4,fun w=>Fs w0 w (oa ρ 4) (nb ρ 4) (B++(leB n 4)))]) (fun ρ=>(fun w=>Bs w a c B∧Fs w0 w (oa ρ 3) (nb ρ 3) (leB n 4)∧Fs w0 w (oa ρ 4) (nb ρ 4) (B++(leB n 4))∧True)) (fun _=>True) (fun _ _ hF hf=>⟨⟨hF.1,hf 3,hf 4,trivial⟩,trivial⟩) (cR [[],[]]<|cA (v:=fun ρ=>(.int .u64 (IntKind.u64.wrap ((n:Nat):Int)))) (fun _=>(vx n)) (fun _=>congrArg (Value.int .u64) (u64N (by omega)))<|cX (qB (fun _ _ w _=>lowest_any n 4 (by omega) (by omega) w))<|cX (qB (fun ρ _ w hG=>extend_any a c B (oa ρ 3) (nb ρ 3) (leB n 4) (by simp only [eQ];omega) w hG.fn.1 (show Fs w0 w (oa ρ 3) (nb ρ 3) (leB n 4) from (hG.facts 3 rfl).now).1))<|jE [[]]) (fun ρ2 _=>?_)
 refine aF (mD [(4,(.slice (oa ρ2 4) (B++(leB n 4)).length (nb ρ2 4)))] [] ?_)
 exact mR (v:=(.slice (oa ρ2 4) (B++(leB n 4)).length (nb ρ2 4))) (fun _ hS=>⟨oa ρ2 4,nb ρ2 4,congrArg Ending.returned (rfl),hS.bel,dU (rfl) hS.facts.now.2.2.1⟩)
theorem rM (a:Option Addr) (c:Nat) (B:List UInt8) (n:Nat) (hn:n<4294967296) (hl:B.length+8≤140737488351232) (w0:World) (hf0:Bs w0 a c B):Calls Tryz.prog 72 #[.slice a B.length c,vu n] w0 (fun ε w'=>∃ α κ,ε=.returned (.slice α (B++leB n 4).length κ)∧jG w0 w'∧Fs w0 w' α κ (B++leB n 4)):=by
 refine Calls.of_ok (n:=10) (F:=(fun w=>Bs w a c B∧True)) Tryz.func72 rfl rfl rfl (by simp) (hf0.pers0.and cO) ?_
 refine jJ Tryz.f72 1 [0,1,4] [vz] ?_
 refine iZ Tryz.f72 6 [4] [] (fun ρ=>let qa:Value:=.slice (oa ρ 4) (B++(leB n 4)).length (nb ρ 4);[.slice a B.length c,vu n,vx n,.slice (oa ρ 3) (leB n 4).length (nb ρ 3),qa,qa]) (fun _=>[]) (fun ρ=>[(3,fun w=>Fs w0 w (oa ρ 3) (nb ρ 3) (leB n 4)),(4,fun w=>Fs w0 w (oa ρ 4) (nb ρ 4) (B++(leB n 4)))]) (fun ρ=>(fun w=>Bs w a c B∧Fs w0 w (oa ρ 3) (nb ρ 3) (leB n 4)∧Fs w0 w (oa ρ 4) (nb ρ 4) (B++(leB n 4))∧True)) (fun _=>True) (fun _ _ hF hf=>⟨⟨hF.1,hf 3,hf 4,trivial⟩,trivial⟩) (cR [[],[]]<|cA (v:=fun ρ=>(.int .u64 (IntKind.u64.wrap ((n:Nat):Int)))) (fun _=>(vx n)) (fun _=>congrArg (Value.int .u64) (u64N (by omega)))<|cX (qB (fun _ _ w _=>little_any n 4 (by omega) (by omega) w))<|cX (qB (fun ρ _ w hG=>tZ a c B (oa ρ 3) (nb ρ 3) (leB n 4) (by simp only [eQ];omega) w hG.fn.1 (show Fs w0 w (oa ρ 3) (nb ρ 3) (leB n 4) from (hG.facts 3 rfl).now).1))<|jE [[]]) (fun ρ2 _=>?_)
 refine aF (mD [(4,(.slice (oa ρ2 4) (B++(leB n 4)).length (nb ρ2 4)))] [] ?_)
 exact mR (v:=(.slice (oa ρ2 4) (B++(leB n 4)).length (nb ρ2 4))) (fun _ hS=>⟨oa ρ2 4,nb ρ2 4,congrArg Ending.returned (rfl),hS.bel,dU (rfl) hS.facts.now.2.2.1⟩)
theorem twk_any (k:Ky) (i:Nat) (_hk:k.Ok) (hi:i<4294967296) (w0:World) (hf0:kJ w0) (hf1:kX w0):Calls Tryz.prog 62 #[.agg (kY k),vu i] w0 (jR (.agg (hB (bT k i))) w0):=by
 refine Calls.of_ok (n:=24) (F:=(fun w=>kJ w∧kX w∧True)) Tryz.func62 rfl rfl rfl (by simp) (hf0.pers0.and (hf1.pers0.and cO)) ?_
 refine sS Tryz.f62 2 [1,2,4] [] (fun ρ=>[pt (nb ρ 0),pt (nb ρ 1)]) (fun ρ=>[(0,(nw ρ 0 (cL (kY k) 48))),(1,(nw ρ 1 (cL (hB 0) 43)))]) (jE [[],[]]) (fun ρ1=>?_)
 refine sS Tryz.f62 6 [1,2,4,5,6] [] (fun ρ=>[jp (nb ρ1 0) 4,U k.p,.agg (hB k.p),pt (nb ρ 3),.string ⟨#[108,105,103,104,116,99,108,105,101,110,116,47,115,111,102,116]⟩,undef]) (fun ρ=>[(3,(nw ρ 3 (cL (hB 0) 43))),(5,(bD 26 (nb ρ 3) (cL (hB k.p) 43)))]) (cR [[],[0]]<|cC (fun _ w=>pW k.p w)<|jE [[],[],[26]]) (fun ρ2=>?_)
 refine aB (jJ Tryz.f62 2 [1,2,4,5,6,11] [vu i,.bool (decide (2147483648≤((i:Nat):Int)))] ?_)
 refine oC (decide (2147483648≤((i:Nat):Int))) (fun hb1=>?_) (fun hb1=>?_)
 ·
  rw [hb1]
  refine rS Tryz.f62 5 [1,2,4,5,6] [] (fun _=>[pt (nb ρ1 0),U k.s,.agg (hB k.s),.string ⟨#[108,105,103,104,116,99,108,105,101,110,116,47,104,97,114,100]⟩,undef]) (fun _=>[(4,(bD 2 (nb ρ2 3) (cL (hB k.s) 43)))]) (cR [[],[0]]<|cC (fun _ w=>pW k.s w)<|jE [[],[2]]) (fun _=>?_)
  refine aA ?_
  refine sDf Tryz.f62 [0,0,2,0,14,30,0,126,255,511] 10 [4] [0,1,0,0] (fun ρ=>[.string ⟨#[108,105,103,104,116,99,108,105,101,110,116,47,104,97,114,100]⟩,jp (nb ρ1 0) 8,.slice (some ⟨nb ρ1 0,8,none⟩) (hL k.c).length 32,vs (nb ρ2 3) (hL k.s).length 32,vs (nb ρ 4) 2 2,.slice (oa ρ 5) ((hL k.c)++(hL k.s)).length (nb ρ 5),vu i,.slice (oa ρ 7) (((hL k.c)++(hL k.s))++leB i 4).length (nb ρ 7),.agg (hB (lV tgH (((hL k.c)++(hL k.s))++leB i 4))),undef]) (fun ρ=>[(4,(nw ρ 4 (cL #[.slice (some ⟨nb ρ1 0,8,none⟩) (hL k.c).length 32,vs (nb ρ2 3) (hL k.s).length 32] 33))),(9,(bD 1 (nb ρ1 1) (cL (hB (lV tgH (((hL k.c)++(hL k.s))++leB i 4))) 43)))]) (fun ρ=>[(5,fun w=>Fs w0 w (oa ρ 5) (nb ρ 5) ((hL k.c)++(hL k.s))),(7,fun w=>Fs w0 w (oa ρ 7) (nb ρ 7) (((hL k.c)++(hL k.s))++leB i 4))]) (fun ρ=>(fun w=>kJ w∧kX w∧Fs w0 w (oa ρ 5) (nb ρ 5) ((hL k.c)++(hL k.s))∧Fs w0 w (oa ρ 7) (nb ρ 7) (((hL k.c)++(hL k.s))++leB i 4)∧True)) (fun _=>True) (fun _ _ hF hf=>⟨⟨hF.1,hF.2.1,hf 5,hf 7,trivial⟩,trivial⟩) (cR [[],[],[],[],[]]<|cX (qB (fun ρ _ w hG=>concat2_any (nb ρ 4) (some ⟨nb ρ1 0,8,none⟩) 32 (hL k.c) (some ⟨nb ρ2 3,0,none⟩) 32 (hL k.s) (by simp only [aO];omega) (by rw [aO];decide) w (Kb.of_block (hG.kn (g:=nb ρ 4) (o:=(cL #[.slice (some ⟨nb ρ1 0,8,none⟩) (hL k.c).length 32,vs (nb ρ2 3) (hL k.s).length 32] 33)) 35)) (Bs.of_key (hG.kn (g:=nb ρ1 0) (o:=(cL (kY k) 48)) 0)) (Bs.of_hd (c:=32) (hG.kn (g:=nb ρ2 3) (o:=(cL (hB k.s) 43)) 2) (kP _) (Nat.le_refl _) (Nat.le_of_ble_eq_true rfl))))<|cR [[]]<|cX (qB (fun ρ _ w hG=>yX (oa ρ 5) (nb ρ 5) ((hL k.c)++(hL k.s)) i (by have:=yT hb1;omega) (by simp only [List.length_append,aO];have:=yT hb1;omega) w (show Fs w0 w (oa ρ 5) (nb ρ 5) ((hL k.c)++(hL k.s)) from (hG.facts 5 rfl).now).1))<|cX (qC (fun ρ _ w hG=>yM tgH (oa ρ 7) (nb ρ 7) (((hL k.c)++(hL k.s))++leB i 4) (by decide) (by simp only [List.length_append,aO,eQ];omega) w (show Fs w0 w (oa ρ 7) (nb ρ 7) (((hL k.c)++(hL k.s))++leB i 4) from (hG.facts 7 rfl).now).1 hG.fn.1 hG.fn.2.1))<|jE [[1]]) (fun _ _=>?_)
  refine aF ?_
  exact mR (v:=(.agg (hB (lV tgH (((hL k.c)++(hL k.s))++leB i 4))))) (fun _ hS=>⟨congrArg Ending.returned (congrArg (fun z=>Value.agg (hB z)) (twk_1 hb1)),hS.bel⟩)
 rw [hb1]
 refine aG (aA ?_)
 refine sDf Tryz.f62 [0,0,2,0,14,30,0,126,255,511] 10 [4] [0,1,0,0] (fun ρ=>[.string ⟨#[108,105,103,104,116,99,108,105,101,110,116,47,115,111,102,116]⟩,jp (nb ρ1 0) 8,.slice (some ⟨nb ρ1 0,8,none⟩) (hL k.c).length 32,vs (nb ρ2 3) (hL k.p).length 32,vs (nb ρ 4) 2 2,.slice (oa ρ 5) ((hL k.c)++(hL k.p)).length (nb ρ 5),vu i,.slice (oa ρ 7) (((hL k.c)++(hL k.p))++leB i 4).length (nb ρ 7),.agg (hB (lV tgS (((hL k.c)++(hL k.p))++leB i 4))),undef]) (fun ρ=>[(4,(nw ρ 4 (cL #[.slice (some ⟨nb ρ1 0,8,none⟩) (hL k.c).length 32,vs (nb ρ2 3) (hL k.p).length 32] 33))),(9,(bD 1 (nb ρ1 1) (cL (hB (lV tgS (((hL k.c)++(hL k.p))++leB i 4))) 43)))]) (fun ρ=>[(5,fun w=>Fs w0 w (oa ρ 5) (nb ρ 5) ((hL k.c)++(hL k.p))),(7,fun w=>Fs w0 w (oa ρ 7) (nb ρ 7) (((hL k.c)++(hL k.p))++leB i 4))]) (fun ρ=>(fun w=>kJ w∧kX w∧Fs w0 w (oa ρ 5) (nb ρ 5) ((hL k.c)++(hL k.p))∧Fs w0 w (oa ρ 7) (nb ρ 7) (((hL k.c)++(hL k.p))++leB i 4)∧True)) (fun _=>True) (fun _ _ hF hf=>⟨⟨hF.1,hF.2.1,hf 5,hf 7,trivial⟩,trivial⟩) (cR [[],[],[],[],[]]<|cX (qB (fun ρ _ w hG=>concat2_any (nb ρ 4) (some ⟨nb ρ1 0,8,none⟩) 32 (hL k.c) (some ⟨nb ρ2 3,0,none⟩) 32 (hL k.p) (by simp only [aO];omega) (by rw [aO];decide) w (Kb.of_block (hG.kn (g:=nb ρ 4) (o:=(cL #[.slice (some ⟨nb ρ1 0,8,none⟩) (hL k.c).length 32,vs (nb ρ2 3) (hL k.p).length 32] 33)) 35)) (Bs.of_key (hG.kn (g:=nb ρ1 0) (o:=(cL (kY k) 48)) 0)) (Bs.of_hd (c:=32) (hG.kn (g:=nb ρ2 3) (o:=(cL (hB k.p) 43)) 2) (kP _) (Nat.le_refl _) (Nat.le_of_ble_eq_true rfl))))<|cR [[]]<|cX (qB (fun ρ _ w hG=>yX (oa ρ 5) (nb ρ 5) ((hL k.c)++(hL k.p)) i (by have:=yF hb1;omega) (by simp only [List.length_append,aO];have:=yF hb1;omega) w (show Fs w0 w (oa ρ 5) (nb ρ 5) ((hL k.c)++(hL k.p)) from (hG.facts 5 rfl).now).1))<|cX (qC (fun ρ _ w hG=>yM tgS (oa ρ 7) (nb ρ 7) (((hL k.c)++(hL k.p))++leB i 4) (by decide) (by simp only [List.length_append,aO,eQ];omega) w (show Fs w0 w (oa ρ 7) (nb ρ 7) (((hL k.c)++(hL k.p))++leB i 4) from (hG.facts 7 rfl).now).1 hG.fn.1 hG.fn.2.1))<|jE [[1]]) (fun _ _=>?_)
 refine aF ?_
 exact mR (v:=(.agg (hB (lV tgS (((hL k.c)++(hL k.p))++leB i 4))))) (fun _ hS=>⟨congrArg Ending.returned (congrArg (fun z=>Value.agg (hB z)) (twk_0 hb1)),hS.bel⟩)
theorem child_any (k:Ky) (i:Nat) (hk:k.Ok) (hi:i<4294967296) (w0:World) (hf0:kJ w0) (hf1:kX w0):Calls Tryz.prog 36 #[.agg (kY k),vu i] w0 (jR (.tuple #[.agg (kY (chK k i)),vi (chE k i)]) w0):=by
 refine Calls.of_ok (n:=77) (F:=(fun w=>kJ w∧kX w∧True)) Tryz.func36 rfl rfl rfl (by simp) (hf0.pers0.and (hf1.pers0.and cO)) ?_
 refine sS Tryz.f36 3 [1,2,4,5] [] (fun ρ=>[pt (nb ρ 0),pt (nb ρ 1),vi 0]) (fun ρ=>[(0,(nw ρ 0 (cL (kY k) 48))),(1,(nw ρ 1 (cL (kC 0 0 0 0 0 0) 48)))]) (jE [[],[],[]]) (fun ρ1=>?_)
 refine sS Tryz.f36 5 [1,2,4,5,6] [] (fun _=>let qa:Value:=.bool (!decide (k.s=0));[pt (nb ρ1 0),U k.s,U 0,qa,qa]) (fun _=>[]) (cR [[],[0],[]]<|cB (a:=fun ρ=>(U k.s)) (b:=fun ρ=>(U 0)) (v:=fun ρ=>(.bool (!decide (k.s=0)))) .neq 39 (fun _ _=>neqU k.s 0 hk.s (by decide +kernel) _)<|jE [[]]) (fun _=>?_)
 refine aB (aI ?_)
 refine sS Tryz.f36 4 [1,2,4,5,6,14] [] (fun _=>[.agg (kY k),.bool (fC k),.bool (!(fC k)),.bool (!(fC k))]) (fun _=>[]) (cR [[0]]<|cC (fun _ w=>yN k hk w)<|jE [[],[]]) (fun _=>?_)
 refine oC (!(fC k)) (fun hb1=>?_) (fun hb1=>?_)
 ·
  rw [hb1]
  refine sS Tryz.f36 3 [1,2,4,5,6] [] (fun _=>[.agg (kC 0 0 0 0 0 0),undef,vi 6]) (fun _=>[(1,(bD 1 (nb ρ1 1) (cL (kC 0 0 0 0 0 0) 48)))]) (jE [[],[1],[]]) (fun _=>?_)
  refine aF (aP (aC ?_))
  exact mR (v:=(.tuple #[.agg (kC 0 0 0 0 0 0),vi 6])) (ps:=[1,1,1,1,1,1,1,1,1,1,1,1,1,1,1,1,1,1,1,1,1,1,1,1,1,1,1,1,1,1,1,1,1,1,1,1,1,1,1,1,1,1,1]) (fun _ hS=>⟨by rw [(ch_6 (dF hb1)).1,(ch_6 (dF hb1)).2];rfl,hS.bel⟩)
 rw [hb1]
 refine jM Tryz.f36 4 [1,2,4,5,6,19] [] [jp (nb ρ1 0) 40,vi k.d,.bool (k.d==8),.bool (k.d==8)] [[],[0],[],[]] ?_
 refine oC (k.d==8) (fun hb2=>?_) (fun hb2=>?_)
 ·
  rw [hb2]
  refine sS Tryz.f36 3 [1,2,4,5,6] [] (fun _=>[.agg (kC 0 0 0 0 0 0),undef,vi 4]) (fun _=>[(1,(bD 1 (nb ρ1 1) (cL (kC 0 0 0 0 0 0) 48)))]) (jE [[],[1],[]]) (fun _=>?_)
  refine aF (aP (aC ?_))
  exact mR (v:=(.tuple #[.agg (kC 0 0 0 0 0 0),vi 4])) (ps:=[1,1,1,1,1,1,1,1,1,1,1,1,1,1,1,1,1,1,1,1,1,1,1,1,1,1,1,1,1,1,1,1,1,1,1,1,1,1,1,1,1,1,1]) (fun _ hS=>⟨by rw [(ch_4 (i:=i) (aV hb1) (xQ hb2)).1,(ch_4 (i:=i) (aV hb1) (xQ hb2)).2];rfl,hS.bel⟩)
 rw [hb2]
 rcases Bool.eq_false_or_eq_true (decide (2147483648≤((i:Nat):Int))) with hb3 | hb3
 ·
  refine sS Tryz.f36 7 [1,2,4,5,6,24] [] (fun _=>let qa:Value:=.bool (!(!decide (k.s=0)));[vu i,vT,vT,.bool (!decide (k.s=0)),qa,qa,qa]) (fun _=>[]) (cR [[]]<|cA (fun _=>vT) (fun _=>congrArg Value.bool hb3)<|jE [[],[],[],[],[]]) (fun _=>?_)
  refine oC (!(!decide (k.s=0))) (fun hb4=>?_) (fun hb4=>?_)
  ·
   rw [hb4]
   refine sS Tryz.f36 3 [1,2,4,5,6] [] (fun _=>[.agg (kC 0 0 0 0 0 0),undef,vi 250]) (fun _=>[(1,(bD 1 (nb ρ1 1) (cL (kC 0 0 0 0 0 0) 48)))]) (jE [[],[1],[]]) (fun _=>?_)
   refine aF (aP (aC ?_))
   exact mR (v:=(.tuple #[.agg (kC 0 0 0 0 0 0),vi 250])) (ps:=[1,1,1,1,1,1,1,1,1,1,1,1,1,1,1,1,1,1,1,1,1,1,1,1,1,1,1,1,1,1,1,1,1,1,1,1,1,1,1,1,1,1,1]) (fun _ hS=>⟨by rw [(ch_250 (aV hb1) (jP hb2) (hd_t hb3) (yT (aV (dF hb4)))).1,(ch_250 (aV hb1) (jP hb2) (hd_t hb3) (yT (aV (dF hb4)))).2];rfl,hS.bel⟩)
  rw [hb4]
  refine aG (aJ (aA ?_))
  refine sS Tryz.f36 5 [1,2,4,5,6,7] [] (fun ρ=>[.agg (kY k),vu i,.agg (hB (bT k i)),pt (nb ρ 3),undef]) (fun ρ=>[(3,(nw ρ 3 (cL (hB 0) 43))),(4,(bD 26 (nb ρ 3) (cL (hB (bT k i)) 43)))]) (cR [[0],[]]<|cX (qC (fun _ _ w hG=>twk_any k i hk hi w hG.fn.1 hG.fn.2.1))<|jE [[],[26]]) (fun ρ9=>?_)
  refine sD Tryz.f36 [0,1,0,7,0,16,48,0,0,271,1023,0,4095] 13 [2,4,5,6,7,8] [] (fun ρ=>[jp (nb ρ1 0) 8,.slice (some ⟨nb ρ1 0,8,none⟩) (hL k.c).length 32,vs (nb ρ9 3) (hL (bT k i)).length 32,.agg (hB (hmN k.c (hL (bT k i)))),jp (nb ρ1 0) 40,vi k.d,vi (k.d+1),vu i,.agg (kY k),vu (o8 k.p),.agg (kC 0 0 (hmN k.c (hL (bT k i))) (k.d+1) ((i:Nat):Int) ((o8 k.p:Nat):Int)),pt (nb ρ 11),undef]) (fun ρ=>[(11,(nw ρ 11 (cL (kC 0 0 0 0 0 0) 48))),(12,(bD 91 (nb ρ 11) (cL (kC 0 0 (hmN k.c (hL (bT k i))) (k.d+1) ((i:Nat):Int) ((o8 k.p:Nat):Int)) 48)))]) (cR [[],[],[]]<|cX (qC (fun _ _ w hG=>hmac_any (some ⟨nb ρ1 0,8,none⟩) 32 k.c (some ⟨nb ρ9 3,0,none⟩) 32 (hL (bT k i)) (by rw [aO];decide) w (Bs.of_key (hG.kn (g:=nb ρ1 0) (o:=(cL (kY k) 48)) 0)) (Bs.of_hd (c:=32) (hG.kn (g:=nb ρ9 3) (o:=(cL (hB (bT k i)) 43)) 2) (kP _) (Nat.le_refl _) (Nat.le_of_ble_eq_true rfl)) hG.fn.1 hG.fn.2.1))<|cR [[],[0]]<|jU (fun ρ=>(k.d+1)) (fun _=>(k.d+1)) (fun _=>(gZ (by have:=oI (aV hb1);omega)))<|cR [[],[0]]<|cX (qC (fun _ _ w hG=>kprint_any k hk w hG.fn.1 hG.fn.2.1))<|jE [[],[],[91]]) (fun ρ10=>?_)
  refine lK [(2,(pt (nb ρ1 0))),(4,(pt (nb ρ1 1))),(5,(vi 0)),(6,(.bool (!decide (k.s=0)))),(7,(pt (nb ρ9 3))),(8,(pt (nb ρ10 11)))] [(nb ρ1 0,(cL (kY k) 48)),(nb ρ1 1,(cL (kC 0 0 0 0 0 0) 48)),(nb ρ9 3,(cL (hB (bT k i)) 43)),(nb ρ10 11,(cL (kC 0 0 (hmN k.c (hL (bT k i))) (k.d+1) ((i:Nat):Int) ((o8 k.p:Nat):Int)) 48))] ?_
  refine jJ Tryz.f36 1 [2,4,5,6,7,8,9] [vi 0] (aB (jJ Tryz.f36 1 [2,4,5,7,8,9,46] [.bool (!decide (k.s=0))] ?_))
  refine oC (!decide (k.s=0)) (fun hb5=>?_) (fun hb5=>?_)
  ·
   rw [hb5]
   refine sS Tryz.f36 10 [4,5,8,9] [0,1,0,1] (fun _=>let qa:=vi (nY k.s (bT k i));[pt (nb ρ1 0),U k.s,.agg (hB (bT k i)),.tuple #[U (fO k.s (bT k i)),qa],.tuple #[U (fO k.s (bT k i)),qa],U (fO k.s (bT k i)),qa,pt (nb ρ10 11),undef,qa]) (fun _=>[(8,(bD 3 (nb ρ10 11) (cL (kC (fO k.s (bT k i)) 0 (hmN k.c (hL (bT k i))) (k.d+1) ((i:Nat):Int) ((o8 k.p:Nat):Int)) 48)))]) (cR [[],[0],[2]]<|cC (f:=65) (args:=fun ρ=> #[U k.s,.agg (hB (bT k i))]) (v:=fun ρ=>(.tuple #[U (fO k.s (bT k i)),vi (nY k.s (bT k i))])) (fun _ w=>(fun w=>uQ k.s (bT k i) hk.s (twk_lt _ _) w) w)<|jE [[],[],[],[],[3],[]]) (fun _=>?_)
   refine jJ Tryz.f36 2 [4,5,8,9,56] [vi (nY k.s (bT k i)),.bool ((nY k.s (bT k i))==0)] ?_
   refine oC ((nY k.s (bT k i))==0) (fun hb6=>?_) (fun hb6=>?_)
   ·
    rw [hb6]
    refine rS Tryz.f36 9 [4,5,8,9] [] (fun _=>let qa:=vi (iW (fO k.s (bT k i)));[pt (nb ρ10 11),U (fO k.s (bT k i)),.tuple #[U (dK (fO k.s (bT k i))),qa],.tuple #[U (dK (fO k.s (bT k i))),qa],U (dK (fO k.s (bT k i))),qa,jp (nb ρ10 11) 4,undef,qa]) (fun _=>[(7,(bD 1 (nb ρ10 11) (cL (kC (fO k.s (bT k i)) (dK (fO k.s (bT k i))) (hmN k.c (hL (bT k i))) (k.d+1) ((i:Nat):Int) ((o8 k.p:Nat):Int)) 48)))]) (cR [[],[1]]<|cC (f:=61) (args:=fun ρ=> #[U (fO k.s (bT k i))]) (v:=fun ρ=>(.tuple #[U (dK (fO k.s (bT k i))),vi (iW (fO k.s (bT k i)))])) (fun _ w=>(fun w=>yD (fO k.s (bT k i)) (tsV_lt _ _) w) w)<|jE [[],[],[],[],[1],[]]) (fun _=>?_)
    refine aA (aB ?_)
    refine sS Tryz.f36 2 [4,5,8,9,73] [] (fun _=>[vi (iW (fO k.s (bT k i))),vF]) (fun _=>[]) (cR [[]]<|cA (fun _=>vF) (fun _=>congrArg Value.bool (pub_ts (bnI hb6)))<|cN) (fun _=>?_)
    refine oN ?_
    refine aG (aA ?_)
    refine sS Tryz.f36 3 [4,5] [1,0] (fun _=>[.agg (kC (fO k.s (bT k i)) (dK (fO k.s (bT k i))) (hmN k.c (hL (bT k i))) (k.d+1) ((i:Nat):Int) ((o8 k.p:Nat):Int)),undef,vi 0]) (fun _=>[(1,(bD 0 (nb ρ1 1) (cL (kC (fO k.s (bT k i)) (dK (fO k.s (bT k i))) (hmN k.c (hL (bT k i))) (k.d+1) ((i:Nat):Int) ((o8 k.p:Nat):Int)) 48)))]) (jE [[1],[0],[]]) (fun _=>?_)
    refine aF ?_
    exact mR (v:=(.tuple #[.agg (kC (fO k.s (bT k i)) (dK (fO k.s (bT k i))) (hmN k.c (hL (bT k i))) (k.d+1) ((i:Nat):Int) ((o8 k.p:Nat):Int)),vi 0])) (fun _ hS=>⟨by rw [(ch_s0 (aV hb1) (jP hb2) (Or.inr (yF (dF (aV hb4)))) (yF (dF (aV hb4))) (xQ hb6)).1,(ch_s0 (aV hb1) (jP hb2) (Or.inr (yF (dF (aV hb4)))) (yF (dF (aV hb4))) (xQ hb6)).2]<;>rfl,hS.bel⟩)
   rw [hb6]
   refine aG (aA (aB ?_))
   refine sS Tryz.f36 2 [4,5,8,9,73] [] (fun _=>[vi (nY k.s (bT k i)),vT]) (fun _=>[]) (cR [[]]<|cA (fun _=>vT) (fun _=>congrArg Value.bool (bn_n hb6))<|cN) (fun _=>?_)
   refine oY ?_
   refine sS Tryz.f36 4 [4,5,8] [] (fun _=>[.agg (kC 0 0 0 0 0 0),vi (nY k.s (bT k i)),undef,vi (nY k.s (bT k i))]) (fun _=>[(2,(bD 0 (nb ρ1 1) (cL (kC 0 0 0 0 0 0) 48)))]) (jE [[],[],[0],[]]) (fun _=>?_)
   refine aF (aC ?_)
   exact mR (v:=(.tuple #[.agg (kC 0 0 0 0 0 0),vi (nY k.s (bT k i))])) (fun _ hS=>⟨by rw [(ch_s1 (aV hb1) (jP hb2) (Or.inr (yF (dF (aV hb4)))) (yF (dF (aV hb4))) (jP hb6)).1,(ch_s1 (aV hb1) (jP hb2) (Or.inr (yF (dF (aV hb4)))) (yF (dF (aV hb4))) (jP hb6)).2]<;>rfl,hS.bel⟩)
  exact absurd ((show (!decide (k.s=0))=true from (aV hb4)).symm.trans hb5) (by decide)
 refine sS Tryz.f36 7 [1,2,4,5,6,24] [] (fun _=>[vu i,vF,vF,undef,undef,vF,vF]) (fun _=>[]) (cR [[]]<|cA (fun _=>vF) (fun _=>congrArg Value.bool hb3)<|jE [[],[],[],[],[]]) (fun _=>?_)
 refine oN ?_
 refine aG (aJ (aA ?_))
 refine sS Tryz.f36 5 [1,2,4,5,6,7] [] (fun ρ=>[.agg (kY k),vu i,.agg (hB (bT k i)),pt (nb ρ 3),undef]) (fun ρ=>[(3,(nw ρ 3 (cL (hB 0) 43))),(4,(bD 26 (nb ρ 3) (cL (hB (bT k i)) 43)))]) (cR [[0],[]]<|cX (qC (fun _ _ w hG=>twk_any k i hk hi w hG.fn.1 hG.fn.2.1))<|jE [[],[26]]) (fun ρ21=>?_)
 refine sD Tryz.f36 [0,1,0,7,0,16,48,0,0,271,1023,0,4095] 13 [2,4,5,6,7,8] [] (fun ρ=>[jp (nb ρ1 0) 8,.slice (some ⟨nb ρ1 0,8,none⟩) (hL k.c).length 32,vs (nb ρ21 3) (hL (bT k i)).length 32,.agg (hB (hmN k.c (hL (bT k i)))),jp (nb ρ1 0) 40,vi k.d,vi (k.d+1),vu i,.agg (kY k),vu (o8 k.p),.agg (kC 0 0 (hmN k.c (hL (bT k i))) (k.d+1) ((i:Nat):Int) ((o8 k.p:Nat):Int)),pt (nb ρ 11),undef]) (fun ρ=>[(11,(nw ρ 11 (cL (kC 0 0 0 0 0 0) 48))),(12,(bD 91 (nb ρ 11) (cL (kC 0 0 (hmN k.c (hL (bT k i))) (k.d+1) ((i:Nat):Int) ((o8 k.p:Nat):Int)) 48)))]) (cR [[],[],[]]<|cX (qC (fun _ _ w hG=>hmac_any (some ⟨nb ρ1 0,8,none⟩) 32 k.c (some ⟨nb ρ21 3,0,none⟩) 32 (hL (bT k i)) (by rw [aO];decide) w (Bs.of_key (hG.kn (g:=nb ρ1 0) (o:=(cL (kY k) 48)) 0)) (Bs.of_hd (c:=32) (hG.kn (g:=nb ρ21 3) (o:=(cL (hB (bT k i)) 43)) 2) (kP _) (Nat.le_refl _) (Nat.le_of_ble_eq_true rfl)) hG.fn.1 hG.fn.2.1))<|cR [[],[0]]<|jU (fun ρ=>(k.d+1)) (fun _=>(k.d+1)) (fun _=>(gZ (by have:=oI (aV hb1);omega)))<|cR [[],[0]]<|cX (qC (fun _ _ w hG=>kprint_any k hk w hG.fn.1 hG.fn.2.1))<|jE [[],[],[91]]) (fun ρ22=>?_)
 refine lK [(2,(pt (nb ρ1 0))),(4,(pt (nb ρ1 1))),(5,(vi 0)),(6,(.bool (!decide (k.s=0)))),(7,(pt (nb ρ21 3))),(8,(pt (nb ρ22 11)))] [(nb ρ1 0,(cL (kY k) 48)),(nb ρ1 1,(cL (kC 0 0 0 0 0 0) 48)),(nb ρ21 3,(cL (hB (bT k i)) 43)),(nb ρ22 11,(cL (kC 0 0 (hmN k.c (hL (bT k i))) (k.d+1) ((i:Nat):Int) ((o8 k.p:Nat):Int)) 48))] ?_
 refine jJ Tryz.f36 1 [2,4,5,6,7,8,9] [vi 0] (aB (jJ Tryz.f36 1 [2,4,5,7,8,9,46] [.bool (!decide (k.s=0))] ?_))
 refine oC (!decide (k.s=0)) (fun hb7=>?_) (fun hb7=>?_)
 ·
  rw [hb7]
  refine sS Tryz.f36 10 [4,5,8,9] [0,1,0,1] (fun _=>let qa:=vi (nY k.s (bT k i));[pt (nb ρ1 0),U k.s,.agg (hB (bT k i)),.tuple #[U (fO k.s (bT k i)),qa],.tuple #[U (fO k.s (bT k i)),qa],U (fO k.s (bT k i)),qa,pt (nb ρ22 11),undef,qa]) (fun _=>[(8,(bD 3 (nb ρ22 11) (cL (kC (fO k.s (bT k i)) 0 (hmN k.c (hL (bT k i))) (k.d+1) ((i:Nat):Int) ((o8 k.p:Nat):Int)) 48)))]) (cR [[],[0],[2]]<|cC (f:=65) (args:=fun ρ=> #[U k.s,.agg (hB (bT k i))]) (v:=fun ρ=>(.tuple #[U (fO k.s (bT k i)),vi (nY k.s (bT k i))])) (fun _ w=>(fun w=>uQ k.s (bT k i) hk.s (twk_lt _ _) w) w)<|jE [[],[],[],[],[3],[]]) (fun _=>?_)
  refine jJ Tryz.f36 2 [4,5,8,9,56] [vi (nY k.s (bT k i)),.bool ((nY k.s (bT k i))==0)] ?_
  refine oC ((nY k.s (bT k i))==0) (fun hb8=>?_) (fun hb8=>?_)
  ·
   rw [hb8]
   refine rS Tryz.f36 9 [4,5,8,9] [] (fun _=>let qa:=vi (iW (fO k.s (bT k i)));[pt (nb ρ22 11),U (fO k.s (bT k i)),.tuple #[U (dK (fO k.s (bT k i))),qa],.tuple #[U (dK (fO k.s (bT k i))),qa],U (dK (fO k.s (bT k i))),qa,jp (nb ρ22 11) 4,undef,qa]) (fun _=>[(7,(bD 1 (nb ρ22 11) (cL (kC (fO k.s (bT k i)) (dK (fO k.s (bT k i))) (hmN k.c (hL (bT k i))) (k.d+1) ((i:Nat):Int) ((o8 k.p:Nat):Int)) 48)))]) (cR [[],[1]]<|cC (f:=61) (args:=fun ρ=> #[U (fO k.s (bT k i))]) (v:=fun ρ=>(.tuple #[U (dK (fO k.s (bT k i))),vi (iW (fO k.s (bT k i)))])) (fun _ w=>(fun w=>yD (fO k.s (bT k i)) (tsV_lt _ _) w) w)<|jE [[],[],[],[],[1],[]]) (fun _=>?_)
   refine aA (aB ?_)
   refine sS Tryz.f36 2 [4,5,8,9,73] [] (fun _=>[vi (iW (fO k.s (bT k i))),vF]) (fun _=>[]) (cR [[]]<|cA (fun _=>vF) (fun _=>congrArg Value.bool (pub_ts (bnI hb8)))<|cN) (fun _=>?_)
   refine oN ?_
   refine aG (aA ?_)
   refine sS Tryz.f36 3 [4,5] [1,0] (fun _=>[.agg (kC (fO k.s (bT k i)) (dK (fO k.s (bT k i))) (hmN k.c (hL (bT k i))) (k.d+1) ((i:Nat):Int) ((o8 k.p:Nat):Int)),undef,vi 0]) (fun _=>[(1,(bD 0 (nb ρ1 1) (cL (kC (fO k.s (bT k i)) (dK (fO k.s (bT k i))) (hmN k.c (hL (bT k i))) (k.d+1) ((i:Nat):Int) ((o8 k.p:Nat):Int)) 48)))]) (jE [[1],[0],[]]) (fun _=>?_)
   refine aF ?_
   exact mR (v:=(.tuple #[.agg (kC (fO k.s (bT k i)) (dK (fO k.s (bT k i))) (hmN k.c (hL (bT k i))) (k.d+1) ((i:Nat):Int) ((o8 k.p:Nat):Int)),vi 0])) (fun _ hS=>⟨by rw [(ch_s0 (aV hb1) (jP hb2) (Or.inr (yF (dF hb7))) (yF (dF hb7)) (xQ hb8)).1,(ch_s0 (aV hb1) (jP hb2) (Or.inr (yF (dF hb7))) (yF (dF hb7)) (xQ hb8)).2]<;>rfl,hS.bel⟩)
  rw [hb8]
  refine aG (aA (aB ?_))
  refine sS Tryz.f36 2 [4,5,8,9,73] [] (fun _=>[vi (nY k.s (bT k i)),vT]) (fun _=>[]) (cR [[]]<|cA (fun _=>vT) (fun _=>congrArg Value.bool (bn_n hb8))<|cN) (fun _=>?_)
  refine oY ?_
  refine sS Tryz.f36 4 [4,5,8] [] (fun _=>[.agg (kC 0 0 0 0 0 0),vi (nY k.s (bT k i)),undef,vi (nY k.s (bT k i))]) (fun _=>[(2,(bD 0 (nb ρ1 1) (cL (kC 0 0 0 0 0 0) 48)))]) (jE [[],[],[0],[]]) (fun _=>?_)
  refine aF (aC ?_)
  exact mR (v:=(.tuple #[.agg (kC 0 0 0 0 0 0),vi (nY k.s (bT k i))])) (fun _ hS=>⟨by rw [(ch_s1 (aV hb1) (jP hb2) (Or.inr (yF (dF hb7))) (yF (dF hb7)) (jP hb8)).1,(ch_s1 (aV hb1) (jP hb2) (Or.inr (yF (dF hb7))) (yF (dF hb7)) (jP hb8)).2]<;>rfl,hS.bel⟩)
 rw [hb7]
 refine rS Tryz.f36 10 [4,5,8,9] [0,1,0,1] (fun _=>let qa:=vi (wY k.p (bT k i));[jp (nb ρ1 0) 4,U k.p,.agg (hB (bT k i)),.tuple #[U (yS k.p (bT k i)),qa],.tuple #[U (yS k.p (bT k i)),qa],U (yS k.p (bT k i)),qa,jp (nb ρ22 11) 4,undef,qa]) (fun _=>[(8,(bD 3 (nb ρ22 11) (cL (kC 0 (yS k.p (bT k i)) (hmN k.c (hL (bT k i))) (k.d+1) ((i:Nat):Int) ((o8 k.p:Nat):Int)) 48)))]) (cR [[],[0],[2]]<|cC (f:=66) (args:=fun ρ=> #[U k.p,.agg (hB (bT k i))]) (v:=fun ρ=>(.tuple #[U (yS k.p (bT k i)),vi (wY k.p (bT k i))])) (fun _ w=>(fun w=>tweak_any k.p (bT k i) hk.p (twk_lt _ _) w) w)<|jE [[],[],[],[],[3],[]]) (fun _=>?_)
 refine aA (aB (jJ Tryz.f36 2 [4,5,8,9,73] [vi (wY k.p (bT k i)),.bool ((wY k.p (bT k i)) != 0)] ?_))
 refine oC ((wY k.p (bT k i)) != 0) (fun hb9=>?_) (fun hb9=>?_)
 ·
  rw [hb9]
  refine sS Tryz.f36 4 [4,5,8] [] (fun _=>[.agg (kC 0 0 0 0 0 0),vi (wY k.p (bT k i)),undef,vi (wY k.p (bT k i))]) (fun _=>[(2,(bD 0 (nb ρ1 1) (cL (kC 0 0 0 0 0 0) 48)))]) (jE [[],[],[0],[]]) (fun _=>?_)
  refine aF (aC ?_)
  exact mR (v:=(.tuple #[.agg (kC 0 0 0 0 0 0),vi (wY k.p (bT k i))])) (fun _ hS=>⟨by rw [(ch_p1 (aV hb1) (jP hb2) (Or.inl (hd_f hb3)) (yT (aV hb7)) (bne0 hb9)).1,(ch_p1 (aV hb1) (jP hb2) (Or.inl (hd_f hb3)) (yT (aV hb7)) (bne0 hb9)).2]<;>rfl,hS.bel⟩)
 rw [hb9]
 refine aG (aA ?_)
 refine sS Tryz.f36 3 [4,5] [1,0] (fun _=>[.agg (kC 0 (yS k.p (bT k i)) (hmN k.c (hL (bT k i))) (k.d+1) ((i:Nat):Int) ((o8 k.p:Nat):Int)),undef,vi 0]) (fun _=>[(1,(bD 0 (nb ρ1 1) (cL (kC 0 (yS k.p (bT k i)) (hmN k.c (hL (bT k i))) (k.d+1) ((i:Nat):Int) ((o8 k.p:Nat):Int)) 48)))]) (jE [[1],[0],[]]) (fun _=>?_)
 refine aF ?_
 exact mR (v:=(.tuple #[.agg (kC 0 (yS k.p (bT k i)) (hmN k.c (hL (bT k i))) (k.d+1) ((i:Nat):Int) ((o8 k.p:Nat):Int)),vi 0])) (fun _ hS=>⟨by rw [(ch_p0 (aV hb1) (jP hb2) (Or.inl (hd_f hb3)) (yT (aV hb7)) (bne0' hb9)).1,(ch_p0 (aV hb1) (jP hb2) (Or.inl (hd_f hb3)) (yT (aV hb7)) (bne0' hb9)).2]<;>rfl,hS.bel⟩)
theorem yH (k:Ky) (a:Option Addr) (c:Nat) (ps:List Nat) (hk:k.Ok) (hp:∀ i∈ps,i<4294967296) (w0:World) (hf0:Is w0 .u32 a c (nI ps)) (hf1:kJ w0) (hf2:kX w0):Calls Tryz.prog 23 #[.agg (kY k),.slice a (nI ps).length c] w0 (jR (.tuple #[.agg (kY (iQ k ps)),vi (nM k ps)]) w0):=by
 refine Calls.of_ok (n:=33) (F:=(fun w=>Is w .u32 a c (nI ps)∧kJ w∧kX w∧True)) Tryz.func23 rfl rfl rfl (by simp) (hf0.pers0.and (hf1.pers0.and (hf2.pers0.and cO))) ?_
 have hlen:(nI ps).length≤140737488351232:=hf0.max
 refine sS Tryz.f23 3 [1,2,4,5] [] (fun ρ=>[pt (nb ρ 0),pt (nb ρ 1),vi 0]) (fun ρ=>[(0,(nw ρ 0 (cL (kY k) 48))),(1,(nw ρ 1 (cL (kC 0 0 0 0 0 0) 48)))]) (jE [[],[],[]]) (fun ρ1=>?_)
 refine aB ?_
 refine sS Tryz.f23 3 [1,2,4,5,12] [] (fun _=>[.agg (kY k),.bool (fC k),.bool (!(fC k))]) (fun _=>[]) (cR [[0]]<|cC (fun _ w=>yN k hk w)<|jE [[]]) (fun _=>?_)
 refine oC (!(fC k)) (fun hb1=>?_) (fun hb1=>?_)
 ·
  rw [hb1]
  refine sS Tryz.f23 3 [1,2,4,5] [] (fun _=>[.agg (kC 0 0 0 0 0 0),undef,vi 6]) (fun _=>[(1,(bD 1 (nb ρ1 1) (cL (kC 0 0 0 0 0 0) 48)))]) (jE [[],[1],[]]) (fun _=>?_)
  refine aF (aC ?_)
  exact mR (v:=(.tuple #[.agg (kC 0 0 0 0 0 0),vi 6])) (ps:=[1,1,1,1,1,1,1,1,1,1,1,1,1,1,1,1,1,1,1,1,1,1,1,1,1,1,1,1,1,1,1,1,1,1,1,1,1,1,1,1,1,1,1]) (fun _ hS=>⟨by rw [(dr_6 (dF hb1)).1,(dr_6 (dF hb1)).2];rfl,hS.bel⟩)
 rw [hb1]
 refine aG (aA (aB (jJ Tryz.f23 3 [2,4,5,14,15,16] [.slice a (nI ps).length c,vn (nI ps).length,vi 0] (aI ?_))))
 refine oL (σ:=Nat × Ky) (fun ⟨j,_⟩=>[(2,(pt (nb ρ1 0))),(4,(pt (nb ρ1 1))),(14,(.slice a (nI ps).length c)),(15,(vn (nI ps).length)),(16,(vn j))]) (fun ⟨_,x⟩=>[(nb ρ1 0,(cL (kY x) 48)),(nb ρ1 1,(cL (kC 0 0 0 0 0 0) 48))]) (fun ⟨j,_⟩=>(nI ps).length-j)
   (fun ⟨j,x⟩=>(j≤(nI ps).length)∧x.Ok∧(fC x=true)∧(dvE x (ps.drop j)=dvE k ps)∧(dvK x (ps.drop j)=dvK k ps)) (0,k) (⟨Nat.zero_le _,hk,aV hb1,rfl,rfl⟩) [] ?_
 rintro ⟨j,x⟩ ⟨hj,hx,hsx,hE,hK⟩
 change Ok Tryz.prog _ _ 33 [(2,(pt (nb ρ1 0))),(4,(pt (nb ρ1 1))),(14,(.slice a (nI ps).length c)),(15,(vn (nI ps).length)),(16,(vn j))] _ [(nb ρ1 0,(cL (kY x) 48)),(nb ρ1 1,(cL (kC 0 0 0 0 0 0) 48))] (fun w=>Is w .u32 a c (nI ps)∧kJ w∧kX w∧True)
 refine jJ Tryz.f23 1 [2,4,14,15,16,17] [.bool (decide (((j:Nat):Int)<(((nI ps).length:Nat):Int)))] (aB ?_)
 refine oC (decide (((j:Nat):Int)<(((nI ps).length:Nat):Int))) (fun hb2=>?_) (fun hb2=>?_)
 ·
  rw [hb2]
  have:=yT hb2
  refine aG (aA (aB (aI ?_)))
  refine sS Tryz.f23 3 [2,4,7,14,15,16] [] (fun _=>[.pointer (fK a j),vu (ps.getD j 0),vu (ps.getD j 0)]) (fun _=>[]) (cX (qF (fun _ _ _ hG=>o6 (k:=.i64) Tryz.underlying49 Tryz.sizeOf41 hG.fn.1 rfl (show ((j:Nat):Int)=((j:Nat):Int) from rfl) (show j<(nI ps).length from (by omega))))<|cX (qF (v:=fun ρ=>(vu (ps.getD j 0))) (fun _ _ _ hG=>(rG Tryz.isAgg41 hG.fn.1 (show j<(nI ps).length from (by omega))).trans (by rw [yQ])))<|jE [[]]) (fun _=>?_)
  refine sS Tryz.f23 9 [2,4,8,9,14,15,16] [] (fun ρ=>let qa:=vi (chE x (ps.getD j 0));let qb:Value:=.agg (kY (chK x (ps.getD j 0)));[.agg (kY x),vu (ps.getD j 0),.tuple #[qb,qa],.tuple #[qb,qa],qb,qa,pt (nb ρ 6),undef,qa]) (fun ρ=>[(6,(nw ρ 6 (cL (kC 0 0 0 0 0 0) 48))),(7,(bD 50 (nb ρ 6) (cL (kY (chK x (ps.getD j 0))) 48)))]) (cR [[0],[]]<|cX (qC (fun _ _ w hG=>child_any x (ps.getD j 0) hx (get_all hp (by decide) j) w hG.fn.2.1 hG.fn.2.2.1))<|jE [[],[],[],[],[50],[]]) (fun _=>?_)
  refine aB (jJ Tryz.f23 2 [2,4,8,9,14,15,16,27] [vi (chE x (ps.getD j 0)),.bool ((chE x (ps.getD j 0)) != 0)] ?_)
  refine oC ((chE x (ps.getD j 0)) != 0) (fun hb3=>?_) (fun hb3=>?_)
  ·
   rw [hb3]
   refine sS Tryz.f23 4 [2,4,5,8,14,15,16] [] (fun _=>let qa:=vi (chE x (ps.getD j 0));[.agg (kC 0 0 0 0 0 0),qa,undef,qa]) (fun _=>[(2,(bD 1 (nb ρ1 1) (cL (kC 0 0 0 0 0 0) 48)))]) (jE [[],[],[1],[]]) (fun _=>?_)
   refine aF (aC (aP (aC (aC (aP (aC ?_))))))
   exact mR (v:=(.tuple #[.agg (kC 0 0 0 0 0 0),vi (chE x (ps.getD j 0))])) (ps:=[1,1,1,1,1,1,1,1,1,1,1,1,1,1,1,1,1,1,1,1,1,1,1,1,1,1,1,1,1,1,1,1,1,1,1,1,1,1,1,1,1,1,1]) (fun _ hS=>⟨by rw [(dv_fail (aV hb1) hsx (by have:=fZ ps;omega) hE hK hb3).1,(dv_fail (aV hb1) hsx (by have:=fZ ps;omega) hE hK hb3).2];rfl,hS.bel⟩)
  rw [hb3]
  refine aG (aA ?_)
  refine rS Tryz.f23 2 [2,4,14,15,16] [1,1,0] (fun _=>[.agg (kY (chK x (ps.getD j 0))),undef]) (fun _=>[(1,(bD 0 (nb ρ1 0) (cL (kY (chK x (ps.getD j 0))) 48)))]) (jE [[2],[0]]) (fun _=>?_)
  refine aJ (aA ?_)
  refine rS Tryz.f23 2 [2,4,14,15,16] [] (fun _=>[vn (j+1),vn (j+1)]) (fun _=>[]) (jW (fun ρ=>(((j:Nat):Int)+1)) (fun _=>(j+1)) (fun _=>(aW j 1 (by omega)))<|jE [[]]) (fun _=>?_)
  exact mN (j+1,chK x (ps.getD j 0)) (by show (nI ps).length-(j+1)<(nI ps).length-j;omega) (⟨(by omega),chK_ok _ _ (get_all hp (by decide) j),(wU hsx (by have:=fZ ps;omega) hE hK hb3).1,(wU hsx (by have:=fZ ps;omega) hE hK hb3).2.1,(wU hsx (by have:=fZ ps;omega) hE hK hb3).2.2⟩) []
 rw [hb2]
 refine bF (aN (aN (aT (aA ?_))))
 refine sS Tryz.f23 3 [4,5] [0,1] (fun _=>[.agg (kY x),undef,vi 0]) (fun _=>[(1,(bD 1 (nb ρ1 1) (cL (kY x) 48)))]) (jE [[0],[1],[]]) (fun _=>?_)
 refine aF ?_
 exact mR (v:=(.tuple #[.agg (kY x),vi 0])) (fun _ hS=>⟨by rw [(dv_done (aV hb1) (by have:=fZ ps;have:=yF hb2;omega) hE hK).1,(dv_done (aV hb1) (by have:=fZ ps;have:=yF hb2;omega) hE hK).2]<;>rfl,hS.bel⟩)
theorem dkeys_any (a:Option Addr) (c:Nat) (ts:List bW) (z:Int) (w0:World) (hf0:bM w0 a c ts) (hf1:kJ w0) (hf2:kX w0):Calls Tryz.prog 9 #[.slice a ts.length c,vi z] w0 (fun ε w'=>∃ α κ,ε=.returned (.tuple #[.slice α (gV ts z).length κ,.int .i64 (kZ ts z)])∧jG w0 w'∧dL (fun b=>b<w0.heap.size) (fun w=>Us w α κ (gV ts z)) w'):=by
 refine Calls.of_ok (n:=64) (F:=(fun w=>bM w a c ts∧kJ w∧kX w∧True)) Tryz.func9 rfl rfl rfl (by simp) (hf0.pers0.and (hf1.pers0.and (hf2.pers0.and cO))) ?_
 have hlen:ts.length≤1000000:=hf0.max
 have ho:mP ts:=hf0.oks
 refine jJ Tryz.f9 2 [0,1,4,5] [vz,vi 0] (aB ?_)
 refine sS Tryz.f9 3 [0,1,4,5,16] [] (fun _=>[.slice a ts.length c,.bool (xW ts),.bool (!(xW ts))]) (fun _=>[]) (cR [[]]<|cX (qC (fun _ _ w hG=>dvalid_any a c ts w hG.fn.1))<|jE [[]]) (fun _=>?_)
 refine oC (!(xW ts)) (fun hb1=>?_) (fun hb1=>?_)
 ·
  rw [hb1]
  refine jJ Tryz.f9 2 [0,1,4,5] [vz,vi 260] (aF (aC (mD [(0,(.slice a ts.length c)),(1,(vi z)),(4,vz),(5,(vi 260))] [] ?_)))
  exact mR (v:=(.tuple #[vz,vi 260])) (fun _ hS=>(by rw [(ky_bad (z:=z) (dF hb1)).1,(ky_bad (z:=z) (dF hb1)).2];exact ⟨none,0,rfl,hS.bel,dB (fun _=>Us.nil)⟩))
 rw [hb1]
 refine aG (aA (aB ?_))
 rcases Bool.eq_false_or_eq_true (decide (z<0)) with hb2 | hb2
 ·
  refine sS Tryz.f9 6 [0,1,4,5,22] [] (fun _=>[vi z,vT,vT,undef,undef,vT]) (fun _=>[]) (cR [[]]<|cA (fun _=>vT) (fun _=>congrArg Value.bool hb2)<|jE [[],[],[],[]]) (fun _=>?_)
  refine oY ?_
  refine jJ Tryz.f9 2 [0,1,4,5] [vz,vi 5] (aF (aC (mD [(0,(.slice a ts.length c)),(1,(vi z)),(4,vz),(5,(vi 5))] [] ?_)))
  exact mR (v:=(.tuple #[vz,vi 5])) (fun _ hS=>(by rw [(vC (aV hb1) (by have:=yT hb2;omega)).1,(vC (aV hb1) (by have:=yT hb2;omega)).2];exact ⟨none,0,rfl,hS.bel,dB (fun _=>Us.nil)⟩))
 refine sS Tryz.f9 6 [0,1,4,5,22] [] (fun _=>let qa:Value:=.bool (decide (1000≤z));[vi z,vF,vF,vi z,qa,qa]) (fun _=>[]) (cR [[]]<|cA (fun _=>vF) (fun _=>congrArg Value.bool hb2)<|jE [[],[],[],[]]) (fun _=>?_)
 refine oC (decide (1000≤z)) (fun hb3=>?_) (fun hb3=>?_)
 ·
  rw [hb3]
  refine jJ Tryz.f9 2 [0,1,4,5] [vz,vi 5] (aF (aC (mD [(0,(.slice a ts.length c)),(1,(vi z)),(4,vz),(5,(vi 5))] [] ?_)))
  exact mR (v:=(.tuple #[vz,vi 5])) (fun _ hS=>(by rw [(vC (aV hb1) (by have:=yF hb2;have:=yT hb3;omega)).1,(vC (aV hb1) (by have:=yF hb2;have:=yT hb3;omega)).2];exact ⟨none,0,rfl,hS.bel,dB (fun _=>Us.nil)⟩))
 rw [hb3]
 have:=yF hb3
 refine aG (aA (jJ Tryz.f9 1 [0,1,4,5,6] [vz] (aB (jJ Tryz.f9 3 [1,4,5,6,23,24,25] [.slice a ts.length c,vn ts.length,vi 0] (aI ?_)))))
 refine oL (σ:=Nat ⊕ (Nat × Nat × (List Nat) × (Array Value) × Nat)) (fun s=>match s with | Sum.inl i=>[(1,(vi z)),(6,vz),(23,(.slice a ts.length c)),(24,(vn ts.length)),(25,(vn i))] | Sum.inr ⟨i,q,N,_,κ⟩=>[(1,(vi z)),(6,(vs q N.length κ)),(23,(.slice a ts.length c)),(24,(vn ts.length)),(25,(vn i))]) (fun s=>match s with | Sum.inl _=>[] | Sum.inr ⟨_,q,_,C,_⟩=>[(q,(cL C 39))]) (fun s=>match s with | Sum.inl i=>ts.length-i | Sum.inr ⟨i,_,_,_,_⟩=>ts.length-i)
   (fun s=>match s with | Sum.inl i=>(i≤ts.length)∧(([]:List Nat)++xE z.toNat (aK (ts.drop i))=xE z.toNat (aK ts))∧(uU z.toNat (aK (ts.drop i))=uU z.toNat (aK ts))∧True | Sum.inr ⟨i,_,N,C,κ⟩=>(i≤ts.length)∧(N++xE z.toNat (aK (ts.drop i))=xE z.toNat (aK ts))∧(uU z.toNat (aK (ts.drop i))=uU z.toNat (aK ts))∧(kU.A C N κ)∧(∀ n∈N,n<M)) (Sum.inl 0) (⟨Nat.zero_le _,rfl,rfl,trivial⟩) [] ?_
 rintro (i | ⟨i,q,N,C,κ⟩)
 ·
  rintro ⟨hi,hN0,hE0,hnil0⟩
  change Ok Tryz.prog _ _ 64 [(1,(vi z)),(6,vz),(23,(.slice a ts.length c)),(24,(vn ts.length)),(25,(vn i))] _ [] (fun w=>bM w a c ts∧kJ w∧kX w∧True)
  refine jJ Tryz.f9 1 [1,6,23,24,25,26] [.bool (decide (((i:Nat):Int)<((ts.length:Nat):Int)))] (aB ?_)
  refine oC (decide (((i:Nat):Int)<((ts.length:Nat):Int))) (fun hb4=>?_) (fun hb4=>?_)
  ·
   rw [hb4]
   have:=yT hb4
   have:=ho.klen hf0 i
   refine aG (aA (aB (aI ?_)))
   refine sS Tryz.f9 4 [1,6,8,23,24,25] [] (fun ρ=>[.pointer (fK a (i*36)),.agg (bW.row (gT ts i)),pt (nb ρ 2),undef]) (fun ρ=>[(2,(nw ρ 2 (cL (iC 0 0 0 0 vz) 46))),(3,(bD 16 (nb ρ 2) (cL (bW.row (gT ts i)) 46)))]) (cX (qF (fun _ _ _ hG=>bM.idx (k:=.i64) Tryz.underlying24 Tryz.sizeOf46 hG.fn.1 rfl (show ((i:Nat):Int)=((i:Nat):Int) from rfl) (show i<ts.length from (by have:=yF hb2;omega))))<|cX (qF (fun _ _ _ hG=>bM.ldA (i:=i) Tryz.isAgg46 Tryz.sizeOf46 hG.fn.1 (show i<ts.length from (by have:=yF hb2;omega))))<|jE [[],[16]]) (fun ρ11=>?_)
   refine jM Tryz.f9 4 [1,6,23,24,25,30,31,32] [0] [jp (nb ρ11 2) 35,.slice (gT ts i).ka (gT ts i).ks.length (gT ts i).kc,vn (gT ts i).ks.length,vi 0] [[],[0],[],[]] (aI ?_)
   refine oL (σ:=Nat ⊕ (Nat × Nat × (List Nat) × (Array Value) × Nat)) (fun s=>match s with | Sum.inl j=>[(1,(vi z)),(6,vz),(23,(.slice a ts.length c)),(24,(vn ts.length)),(25,(vn i)),(30,(.slice (gT ts i).ka (gT ts i).ks.length (gT ts i).kc)),(31,(vn (gT ts i).ks.length)),(32,(vn j))] | Sum.inr ⟨j,q,N,_,κ⟩=>[(1,(vi z)),(6,(vs q N.length κ)),(23,(.slice a ts.length c)),(24,(vn ts.length)),(25,(vn i)),(30,(.slice (gT ts i).ka (gT ts i).ks.length (gT ts i).kc)),(31,(vn (gT ts i).ks.length)),(32,(vn j))]) (fun s=>match s with | Sum.inl _=>[] | Sum.inr ⟨_,q,_,C,_⟩=>[(q,(cL C 39))]) (fun s=>match s with | Sum.inl j=>(gT ts i).ks.length-j | Sum.inr ⟨j,_,_,_,_⟩=>(gT ts i).ks.length-j)
     (fun s=>match s with | Sum.inl j=>(j≤(gT ts i).ks.length)∧(([]:List Nat)++xE z.toNat ((gT ts i).ks.drop j++aK (ts.drop (i+1)))=xE z.toNat (aK ts))∧(uU z.toNat ((gT ts i).ks.drop j++aK (ts.drop (i+1)))=uU z.toNat (aK ts))∧True | Sum.inr ⟨j,_,N,C,κ⟩=>(j≤(gT ts i).ks.length)∧(N++xE z.toNat ((gT ts i).ks.drop j++aK (ts.drop (i+1)))=xE z.toNat (aK ts))∧(uU z.toNat ((gT ts i).ks.drop j++aK (ts.drop (i+1)))=uU z.toNat (aK ts))∧(kU.A C N κ)∧(∀ n∈N,n<M)) (Sum.inl 0) (⟨Nat.zero_le _,kn_in (show i<ts.length from (by have:=yF hb2;omega)) hN0,ke_in (show i<ts.length from (by have:=yF hb2;omega)) hE0,trivial⟩) [] ?_
   rintro (j | ⟨j,q,N,C,κ⟩)
   ·
    rintro ⟨hj,hN,hE,hnil⟩
    change Ok Tryz.prog _ _ 64 [(1,(vi z)),(6,vz),(23,(.slice a ts.length c)),(24,(vn ts.length)),(25,(vn i)),(30,(.slice (gT ts i).ka (gT ts i).ks.length (gT ts i).kc)),(31,(vn (gT ts i).ks.length)),(32,(vn j))] _ [] (fun w=>bM w a c ts∧kJ w∧kX w∧True)
    refine jJ Tryz.f9 1 [1,6,23,24,25,30,31,32,33] [.bool (decide (((j:Nat):Int)<(((gT ts i).ks.length:Nat):Int)))] (aB ?_)
    refine oC (decide (((j:Nat):Int)<(((gT ts i).ks.length:Nat):Int))) (fun hb5=>?_) (fun hb5=>?_)
    ·
     rw [hb5]
     have:=yT hb5
     refine aG (aA (aB (aI ?_)))
     refine sS Tryz.f9 4 [1,6,10,23,24,25,30,31,32] [] (fun ρ=>[.pointer (fK (gT ts i).ka (j*45)),.agg (dO.row (gK (gT ts i).ks j)),pt (nb ρ 2),undef]) (fun ρ=>[(2,(nw ρ 2 (cL (kM 0 0 0 0 0 0 vz vF) 51))),(3,(bD 16 (nb ρ 2) (cL (dO.row (gK (gT ts i).ks j)) 51)))]) (cX (qF (fun _ _ _ hG=>oG.idx (k:=.i64) Tryz.underlying44 Tryz.sizeOf51 (hG.fn.1.sub _ (fA (show i<ts.length from (by have:=yF hb2;omega)))) rfl (show ((j:Nat):Int)=((j:Nat):Int) from rfl) (show j<(gT ts i).ks.length from (by have:=yF hb2;omega))))<|cX (qF (fun _ _ _ hG=>oG.ldA (i:=j) Tryz.isAgg51 Tryz.sizeOf51 (hG.fn.1.sub _ (fA (show i<ts.length from (by have:=yF hb2;omega)))) (show j<(gT ts i).ks.length from (by have:=yF hb2;omega))))<|jE [[],[16]]) (fun ρ14=>?_)
     refine okJ2 (σ:=(Option Addr) × Nat × (List Nat)) (fun ⟨pa,pc,pq⟩=>[(1,(vi z)),(6,vz),(10,(pt (nb ρ14 2))),(11,(.slice pa (nI pq).length pc)),(23,(.slice a ts.length c)),(24,(vn ts.length)),(25,(vn i)),(30,(.slice (gT ts i).ka (gT ts i).ks.length (gT ts i).kc)),(31,(vn (gT ts i).ks.length)),(32,(vn j))]) (fun ⟨_,_,_⟩=>[(nb ρ14 2,(cL (dO.row (gK (gT ts i).ks j)) 51))]) (fun ⟨pa,pc,pq⟩=>(fun w=>bM w a c ts∧kJ w∧kX w∧Is w .u32 pa pc (nI pq)∧True)) (fun ⟨_,_,pq⟩=>((gK (gT ts i).ks j).ix z.toNat=pq)∧(∀ x∈pq,x<4294967296)) ?_ ?_
     ·
      rintro ⟨pa,pc,pq⟩ ⟨hq,hq32⟩
      change Ok Tryz.prog _ _ 64 [(1,(vi z)),(6,vz),(10,(pt (nb ρ14 2))),(11,(.slice pa (nI pq).length pc)),(23,(.slice a ts.length c)),(24,(vn ts.length)),(25,(vn i)),(30,(.slice (gT ts i).ka (gT ts i).ks.length (gT ts i).kc)),(31,(vn (gT ts i).ks.length)),(32,(vn j))] _ [(nb ρ14 2,(cL (dO.row (gK (gT ts i).ks j)) 51))] (fun w=>bM w a c ts∧kJ w∧kX w∧Is w .u32 pa pc (nI pq)∧True)
      refine sS Tryz.f9 10 [1,6,12,13,23,24,25,30,31,32] [0,1] (fun ρ=>let qa:=vi (nM (gK (gT ts i).ks j).k pq);let qb:Value:=.agg (kY (iQ (gK (gT ts i).ks j).k pq));[pt (nb ρ14 2),.agg (kY (gK (gT ts i).ks j).k),.slice pa (nI pq).length pc,.tuple #[qb,qa],.tuple #[qb,qa],qb,qa,pt (nb ρ 7),undef,qa]) (fun ρ=>[(7,(nw ρ 7 (cL (kC 0 0 0 0 0 0) 48))),(8,(bD 57 (nb ρ 7) (cL (kY (iQ (gK (gT ts i).ks j).k pq)) 48)))]) (cR [[],[0],[]]<|cX (qC (fun _ _ w hG=>yH (gK (gT ts i).ks j).k pa pc pq (ho.gK i j).k hq32 w hG.fn.2.2.2.1 hG.fn.2.1 hG.fn.2.2.1))<|jE [[],[],[],[],[57],[]]) (fun ρ15=>?_)
      refine aB (jJ Tryz.f9 2 [1,6,12,13,23,24,25,30,31,32,54] [vi (nM (gK (gT ts i).ks j).k pq),.bool ((nM (gK (gT ts i).ks j).k pq) != 0)] ?_)
      refine oC ((nM (gK (gT ts i).ks j).k pq) != 0) (fun hb6=>?_) (fun hb6=>?_)
      ·
       rw [hb6]
       refine jJ Tryz.f9 3 [1,4,5,6,12,23,24,25,30,31,32] (let qa:=vi (nM (gK (gT ts i).ks j).k pq);[qa,vz,qa]) (aF (aC (aP (aC (aC (aP (aP (aC (aC (aP (aC (mD [(1,(vi z)),(4,vz),(5,(vi (nM (gK (gT ts i).ks j).k pq))),(6,vz),(12,(pt (nb ρ15 7))),(23,(.slice a ts.length c)),(24,(vn ts.length)),(25,(vn i)),(30,(.slice (gT ts i).ka (gT ts i).ks.length (gT ts i).kc)),(31,(vn (gT ts i).ks.length)),(32,(vn j))] [(nb ρ15 7,(cL (kY (iQ (gK (gT ts i).ks j).k pq)) 48))] ?_))))))))))))
       exact mR (v:=(.tuple #[vz,vi (nM (gK (gT ts i).ks j).k pq)])) (fun _ hS=>(by rw [(pI (aV hb1) hb2 hb3 (l7 (show j<(gT ts i).ks.length from (by have:=yF hb2;omega)) hq hb6 hE) hb6).1,(pI (aV hb1) hb2 hb3 (l7 (show j<(gT ts i).ks.length from (by have:=yF hb2;omega)) hq hb6 hE) hb6).2];exact ⟨none,0,rfl,hS.bel,dB (fun _=>Us.nil)⟩))
      rw [hb6]
      refine aG (aA ?_)
      refine rS Tryz.f9 6 [1,6,23,24,25,30,31,32] [0,0,1] (fun ρ=>let qa:=vs (nb ρ 4) ([(iQ (gK (gT ts i).ks j).k pq).p]).length (([(iQ (gK (gT ts i).ks j).k pq).p]).length+aZ ρ 4);[vz,jp (nb ρ15 7) 4,U (iQ (gK (gT ts i).ks j).k pq).p,vs (nb ρ 3) 1 1,qa,qa]) (fun ρ=>[(3,(nw ρ 3 (cL (cU (iQ (gK (gT ts i).ks j).k pq).p) 39))),(4,(nw ρ 4 (cL ((kU.r ([(iQ (gK (gT ts i).ks j).k pq).p])).toArray++Builtin.zeroCells (Value.cells (U 0)) (aZ ρ 4)) 39)))]) (cR [[],[],[0],[]]<|cX (qN (fun _ ζ=>(vs (ζ.headD 0) ([(iQ (gK (gT ts i).ks j).k pq).p]).length (([(iQ (gK (gT ts i).ks j).k pq).p]).length+ζ.tail.headD 0))) (fun _ ζ=>(cL ((kU.r ([(iQ (gK (gT ts i).ks j).k pq).p])).toArray++Builtin.zeroCells (Value.cells (U 0)) (ζ.tail.headD 0)) 39)) (fun ρ _ _ hG=>appG_nil (K:=kU) (ty:=29) (us:=[(iQ (gK (gT ts i).ks j).k pq).p]) Tryz.underlying29 (dA (sz:=4) (b:=32) (z:=(U 0)) (by kernel_rfl) rfl) (src_u1 Tryz.underlying29 (hG.kn (g:=nb ρ 3) (o:=(cL (cU (iQ (gK (gT ts i).ks j).k pq).p) 39)) 25)) (Nat.le_of_ble_eq_true rfl) (Nat.le_of_ble_eq_true rfl) (by decide)))<|jE [[]]) (fun ρ18=>?_)
      refine aJ (aA ?_)
      refine rS Tryz.f9 2 [1,6,23,24,25,30,31,32] [] (fun _=>[vn (j+1),vn (j+1)]) (fun _=>[]) (jW (fun ρ=>(((j:Nat):Int)+1)) (fun _=>(j+1)) (fun _=>(aW j 1 (by have:=yF hb2;omega)))<|jE [[]]) (fun _=>?_)
      refine nD (fun w=>bM w a c ts∧kJ w∧kX w∧True) (fun w hF=>⟨hF.1,hF.2.1,hF.2.2.1,trivial⟩) ?_
      exact mN (Sum.inr (j+1,nb ρ18 4,[(iQ (gK (gT ts i).ks j).k pq).p],(kU.r ([(iQ (gK (gT ts i).ks j).k pq).p])).toArray++Builtin.zeroCells (Value.cells (U 0)) (aZ ρ18 4),([(iQ (gK (gT ts i).ks j).k pq).p]).length+aZ ρ18 4)) (by show (gT ts i).ks.length-(j+1)<(gT ts i).ks.length-j;have:=yF hb2;omega) (⟨(by have:=yF hb2;omega),wV (show j<(gT ts i).ks.length from (by have:=yF hb2;omega)) hq hN,xJ (show j<(gT ts i).ks.length from (by have:=yF hb2;omega)) hq hb6 hE,RowK.A.fresh (K:=kU) (z:=(U 0)) rfl ([(iQ (gK (gT ts i).ks j).k pq).p]) (aZ ρ18 4),(fun n hn=>by rw [List.mem_singleton.1 hn];exact (yR (ho.gK i j).k hq32).p)⟩) []
     intro J1
     rcases Bool.eq_false_or_eq_true (gK (gT ts i).ks j).pa.isNone with hb7 | hb7
     ·
      refine sS Tryz.f9 4 [1,6,10,11,23,24,25,30,31,32] [] (fun _=>[jp (nb ρ14 2) 43,.slice (gK (gT ts i).ks j).pa (nI (gK (gT ts i).ks j).ps).length (gK (gT ts i).ks j).pc,vz,vz]) (fun _=>[]) (cR [[],[0]]<|cX (qC (fun _ _ w hG=>yK (gK (gT ts i).ks j).pa (gK (gT ts i).ks j).pc (gK (gT ts i).ks j).ps hb7 w ((hG.fn.1.sub _ (fA (show i<ts.length from (by have:=yF hb2;omega)))).sub _ (nU (show j<(gT ts i).ks.length from (by have:=yF hb2;omega))))))<|jE [[]]) (fun _=>?_)
      refine aB (jM Tryz.f9 2 [1,6,10,11,23,24,25,30,31,32,40] [] [jp (nb ρ14 2) 44,.bool (gK (gT ts i).ks j).wd] [[],[0]] ?_)
      refine oC (gK (gT ts i).ks j).wd (fun hb8=>?_) (fun hb8=>?_)
      ·
       rw [hb8]
       refine rS Tryz.f9 6 [1,6,10,11,23,24,25,30,31,32] [1,0,1] (fun ρ=>let qa:=vs (nb ρ 4) (nI ([z.toNat])).length ((nI ([z.toNat])).length+aZ ρ 4);[vz,vi z,vu z.toNat,vs (nb ρ 3) 1 1,qa,qa]) (fun ρ=>[(3,(nw ρ 3 (cL #[vu z.toNat] 41))),(4,(nw ρ 4 (cL ((kI.r ([z.toNat])).toArray++Builtin.zeroCells (Value.cells (.int .u32 0)) (aZ ρ 4)) 41)))]) (cR [[],[]]<|cA (fun _=>(vu z.toNat)) (fun _=>jN (u32Z hb2 hb3))<|cR [[]]<|cX (qN (fun _ ζ=>(vs (ζ.headD 0) (nI ([z.toNat])).length ((nI ([z.toNat])).length+ζ.tail.headD 0))) (fun _ ζ=>(cL ((kI.r ([z.toNat])).toArray++Builtin.zeroCells (Value.cells (.int .u32 0)) (ζ.tail.headD 0)) 41)) (fun ρ _ _ hG=>appI_nil (ty:=49) (us:=[z.toNat]) Tryz.underlying49 (dA (sz:=1) (b:=4) (z:=(.int .u32 0)) (by kernel_rfl) rfl) (tJ Tryz.underlying49 (hG.kn (g:=nb ρ 3) (o:=(cL #[vu z.toNat] 41)) 25)) (Nat.le_of_ble_eq_true rfl) (Nat.le_of_ble_eq_true rfl) (by decide)))<|jE [[]]) (fun ρ22=>?_)
       refine aA ?_
       refine lK [(1,(vi z)),(6,vz),(10,(pt (nb ρ14 2))),(11,(vs (nb ρ22 4) (nI ([z.toNat])).length ((nI ([z.toNat])).length+aZ ρ22 4))),(23,(.slice a ts.length c)),(24,(vn ts.length)),(25,(vn i)),(30,(.slice (gT ts i).ka (gT ts i).ks.length (gT ts i).kc)),(31,(vn (gT ts i).ks.length)),(32,(vn j))] [(nb ρ14 2,(cL (dO.row (gK (gT ts i).ks j)) 51)),(nb ρ22 4,(cL ((kI.r ([z.toNat])).toArray++Builtin.zeroCells (Value.cells (.int .u32 0)) (aZ ρ22 4)) 41))] ?_
       exact okE J1 (some ⟨nb ρ22 4,0,none⟩,(nI ([z.toNat])).length+aZ ρ22 4,[z.toNat]) (⟨(ix_b hb8 (hf0.pathN (show i<ts.length from (by have:=yF hb2;omega)) (show j<(gT ts i).ks.length from (by have:=yF hb2;omega)) hb7)),(fun x hx=>by rw [List.mem_singleton.1 hx];exact (z32n hb2 hb3))⟩) (fun w hS=>(hS.frozI (e:=41) (fr:=(0,0)) 1 (RowK.A.fresh (K:=kI) (z:=(.int .u32 0)) rfl ([z.toNat]) (aZ ρ22 4)) (by have:=jC (aV hb1) (show i<ts.length from (by have:=yF hb2;omega)) (show j<(gT ts i).ks.length from (by have:=yF hb2;omega));simp only [List.length_cons,List.length_nil];omega) []).weaken (fun w hF=>⟨hF.2.1,hF.2.2.1,hF.2.2.2.1,hF.1,trivial⟩))
      rw [hb8]
      refine aG (aA ?_)
      refine lK [(1,(vi z)),(6,vz),(10,(pt (nb ρ14 2))),(11,vz),(23,(.slice a ts.length c)),(24,(vn ts.length)),(25,(vn i)),(30,(.slice (gT ts i).ka (gT ts i).ks.length (gT ts i).kc)),(31,(vn (gT ts i).ks.length)),(32,(vn j)),(40,vF)] [(nb ρ14 2,(cL (dO.row (gK (gT ts i).ks j)) 51))] ?_
      exact okE J1 (none,0,[]) (⟨(ix_a hb8 (hf0.pathN (show i<ts.length from (by have:=yF hb2;omega)) (show j<(gT ts i).ks.length from (by have:=yF hb2;omega)) hb7)),(by simp)⟩) (fun w hS=>(hS.frozN (k:=.u32) (a:=none) (c:=0) []).weaken (fun w hF=>⟨hF.2.1,hF.2.2.1,hF.2.2.2.1,hF.1,trivial⟩))
     refine iZ Tryz.f9 4 [1,6,10,11,23,24,25,30,31,32] [] (fun ρ=>let qa:=vs (nb ρ 2) (nI (gK (gT ts i).ks j).ps).length (aZ ρ 2);[jp (nb ρ14 2) 43,.slice (gK (gT ts i).ks j).pa (nI (gK (gT ts i).ks j).ps).length (gK (gT ts i).ks j).pc,qa,qa]) (fun ρ=>[(2,(nw ρ 2 (cL (oc ρ 2) 41)))]) (fun ρ=>[(2,fun w=>kI.A (oc ρ 2) (gK (gT ts i).ks j).ps (aZ ρ 2))]) (fun _=>(fun w=>bM w a c ts∧kJ w∧kX w∧True)) (fun ρ=>kI.A (oc ρ 2) (gK (gT ts i).ks j).ps (aZ ρ 2)) (fun _ _ hF hf=>⟨hF,hf 2⟩) (cR [[],[0]]<|cX (o_callR _ 22 (fun _=> #[.slice (gK (gT ts i).ks j).pa (nI (gK (gT ts i).ks j).ps).length (gK (gT ts i).ks j).pc]) (fun _ r=>(vs (r.n.headD 0) (nI (gK (gT ts i).ks j).ps).length (r.n.tail.headD 0))) (fun _ r=>(cL (uG r) 41)) (fun _ r=>kI.A (uG r) (gK (gT ts i).ks j).ps (r.n.tail.headD 0)) (fun _ _=>(by kernel_rfl)) (fun _ _=>(by kernel_rfl)) (fun _ _=>(by kernel_rfl)) (fun _ _=>(by kernel_rfl)) (fun _ _ w hG=>yP (gK (gT ts i).ks j).pa (gK (gT ts i).ks j).pc (gK (gT ts i).ks j).ps hb7 (jC (aV hb1) (show i<ts.length from (by have:=yF hb2;omega)) (show j<(gT ts i).ks.length from (by have:=yF hb2;omega))) w ((hG.fn.1.sub _ (fA (show i<ts.length from (by have:=yF hb2;omega)))).sub _ (nU (show j<(gT ts i).ks.length from (by have:=yF hb2;omega))))))<|jE [[]]) (fun ρ23 ap23_2=>?_)
     refine aB (jM Tryz.f9 2 [1,6,10,11,23,24,25,30,31,32,40] [] [jp (nb ρ14 2) 44,.bool (gK (gT ts i).ks j).wd] [[],[0]] ?_)
     refine oC (gK (gT ts i).ks j).wd (fun hb9=>?_) (fun hb9=>?_)
     ·
      rw [hb9]
      refine rSf Tryz.f9 6 [1,6,10,11,23,24,25,30,31,32] [1,1,0] (fun ρ=>let qa:=vs (nb ρ 4) (nI ((gK (gT ts i).ks j).ps++([z.toNat]))).length (aZ ρ 4);[vs (nb ρ23 2) (nI (gK (gT ts i).ks j).ps).length (aZ ρ23 2),vi z,vu z.toNat,vs (nb ρ 3) 1 1,qa,qa]) (fun ρ=>[(3,(nw ρ 3 (cL #[vu z.toNat] 41))),(4,(bD 1 (nb ρ 4) (cL (oc ρ 4) 41)))]) (fun ρ=>[(4,fun w=>kI.A (oc ρ 4) ((gK (gT ts i).ks j).ps++([z.toNat])) (aZ ρ 4))]) (fun _=>(fun w=>bM w a c ts∧kJ w∧kX w∧True)) (fun ρ=>kI.A (oc ρ 4) ((gK (gT ts i).ks j).ps++([z.toNat])) (aZ ρ 4)) (fun _ _ hF hf=>⟨hF,hf 4⟩) (cR [[],[]]<|cA (fun _=>(vu z.toNat)) (fun _=>jN (u32Z hb2 hb3))<|cR [[]]<|cX (qM 1 (fun ρ _ _ hG hg=>lT (ty:=49) (g:=nb ρ23 2) (ts:=(gK (gT ts i).ks j).ps) (us:=[z.toNat]) Tryz.underlying49 (dA (sz:=1) (b:=4) (z:=(.int .u32 0)) (by kernel_rfl) rfl) ap23_2 (tJ Tryz.underlying49 (hG.kn (g:=nb ρ 3) (o:=(cL #[vu z.toNat] 41)) 26)) (by have:=jC (aV hb1) (show i<ts.length from (by have:=yF hb2;omega)) (show j<(gT ts i).ks.length from (by have:=yF hb2;omega));simp only [List.length_cons,List.length_nil];omega) (by decide) hg))<|jE [[]]) (fun ρ25 ap25_4=>?_)
      refine aA ?_
      refine lK [(1,(vi z)),(6,vz),(10,(pt (nb ρ14 2))),(11,(vs (nb ρ25 4) (nI ((gK (gT ts i).ks j).ps++([z.toNat]))).length (aZ ρ25 4))),(23,(.slice a ts.length c)),(24,(vn ts.length)),(25,(vn i)),(30,(.slice (gT ts i).ka (gT ts i).ks.length (gT ts i).kc)),(31,(vn (gT ts i).ks.length)),(32,(vn j))] [(nb ρ14 2,(cL (dO.row (gK (gT ts i).ks j)) 51)),(nb ρ25 4,(cL (oc ρ25 4) 41))] ?_
      exact okE J1 (some ⟨nb ρ25 4,0,none⟩,aZ ρ25 4,(gK (gT ts i).ks j).ps++[z.toNat]) (⟨ix_d hb9,(fun x hx=>(List.mem_append.1 hx).elim ((ho.gK i j).ps x) (fun hx=>by rw [List.mem_singleton.1 hx];exact (z32n hb2 hb3)))⟩) (fun w hS=>(hS.frozI (e:=41) (fr:=(0,0)) 1 ap25_4 (by have:=jC (aV hb1) (show i<ts.length from (by have:=yF hb2;omega)) (show j<(gT ts i).ks.length from (by have:=yF hb2;omega));simp only [List.length_append,List.length_cons,List.length_nil];omega) []).weaken (fun w hF=>⟨hF.2.1,hF.2.2.1,hF.2.2.2.1,hF.1,trivial⟩))
     rw [hb9]
     refine aG (aA ?_)
     refine lK [(1,(vi z)),(6,vz),(10,(pt (nb ρ14 2))),(11,(vs (nb ρ23 2) (nI (gK (gT ts i).ks j).ps).length (aZ ρ23 2))),(23,(.slice a ts.length c)),(24,(vn ts.length)),(25,(vn i)),(30,(.slice (gT ts i).ka (gT ts i).ks.length (gT ts i).kc)),(31,(vn (gT ts i).ks.length)),(32,(vn j)),(40,vF)] [(nb ρ14 2,(cL (dO.row (gK (gT ts i).ks j)) 51)),(nb ρ23 2,(cL (oc ρ23 2) 41))] ?_
     exact okE J1 (some ⟨nb ρ23 2,0,none⟩,aZ ρ23 2,(gK (gT ts i).ks j).ps) (⟨ix_c hb9,(ho.gK i j).ps⟩) (fun w hS=>(hS.frozI (e:=41) (fr:=(0,0)) 1 ap23_2 (by have:=jC (aV hb1) (show i<ts.length from (by have:=yF hb2;omega)) (show j<(gT ts i).ks.length from (by have:=yF hb2;omega));omega) []).weaken (fun w hF=>⟨hF.2.1,hF.2.2.1,hF.2.2.2.1,hF.1,trivial⟩))
    rw [hb5]
    have:=yF hb5
    refine bF (aN (aN (aT (aJ (aA ?_)))))
    refine rS Tryz.f9 2 [1,6,23,24,25] [] (fun _=>[vn (i+1),vn (i+1)]) (fun _=>[]) (jW (fun ρ=>(((i:Nat):Int)+1)) (fun _=>(i+1)) (fun _=>(aW i 1 (by have:=yF hb2;omega)))<|jE [[]]) (fun _=>?_)
    exact mN (Sum.inl (i+1)) (by show ts.length-(i+1)<ts.length-i;have:=yF hb2;omega) (⟨(by have:=yF hb2;omega),kn_out (by have:=yF hb2;omega) hN,ke_out (by have:=yF hb2;omega) hE,trivial⟩) []
   rintro ⟨hj,hN,hE,hA,hM⟩
   change Ok Tryz.prog _ _ 64 [(1,(vi z)),(6,(vs q N.length κ)),(23,(.slice a ts.length c)),(24,(vn ts.length)),(25,(vn i)),(30,(.slice (gT ts i).ka (gT ts i).ks.length (gT ts i).kc)),(31,(vn (gT ts i).ks.length)),(32,(vn j))] _ [(q,(cL C 39))] (fun w=>bM w a c ts∧kJ w∧kX w∧True)
   refine jJ Tryz.f9 1 [1,6,23,24,25,30,31,32,33] [.bool (decide (((j:Nat):Int)<(((gT ts i).ks.length:Nat):Int)))] (aB ?_)
   refine oC (decide (((j:Nat):Int)<(((gT ts i).ks.length:Nat):Int))) (fun hb10=>?_) (fun hb10=>?_)
   ·
    rw [hb10]
    have:=yT hb10
    refine aG (aA (aB (aI ?_)))
    refine sS Tryz.f9 4 [1,6,10,23,24,25,30,31,32] [] (fun ρ=>[.pointer (fK (gT ts i).ka (j*45)),.agg (dO.row (gK (gT ts i).ks j)),pt (nb ρ 2),undef]) (fun ρ=>[(2,(nw ρ 2 (cL (kM 0 0 0 0 0 0 vz vF) 51))),(3,(bD 17 (nb ρ 2) (cL (dO.row (gK (gT ts i).ks j)) 51)))]) (cX (qF (fun _ _ _ hG=>oG.idx (k:=.i64) Tryz.underlying44 Tryz.sizeOf51 (hG.fn.1.sub _ (fA (show i<ts.length from (by have:=yF hb2;omega)))) rfl (show ((j:Nat):Int)=((j:Nat):Int) from rfl) (show j<(gT ts i).ks.length from (by have:=yF hb2;omega))))<|cX (qF (fun _ _ _ hG=>oG.ldA (i:=j) Tryz.isAgg51 Tryz.sizeOf51 (hG.fn.1.sub _ (fA (show i<ts.length from (by have:=yF hb2;omega)))) (show j<(gT ts i).ks.length from (by have:=yF hb2;omega))))<|jE [[],[17]]) (fun ρ28=>?_)
    refine okJ2 (σ:=(Option Addr) × Nat × (List Nat)) (fun ⟨pa,pc,pq⟩=>[(1,(vi z)),(6,(vs q N.length κ)),(10,(pt (nb ρ28 2))),(11,(.slice pa (nI pq).length pc)),(23,(.slice a ts.length c)),(24,(vn ts.length)),(25,(vn i)),(30,(.slice (gT ts i).ka (gT ts i).ks.length (gT ts i).kc)),(31,(vn (gT ts i).ks.length)),(32,(vn j))]) (fun ⟨_,_,_⟩=>[(q,(cL C 39)),(nb ρ28 2,(cL (dO.row (gK (gT ts i).ks j)) 51))]) (fun ⟨pa,pc,pq⟩=>(fun w=>bM w a c ts∧kJ w∧kX w∧Is w .u32 pa pc (nI pq)∧True)) (fun ⟨_,_,pq⟩=>((gK (gT ts i).ks j).ix z.toNat=pq)∧(∀ x∈pq,x<4294967296)) ?_ ?_
    ·
     rintro ⟨pa,pc,pq⟩ ⟨hq,hq32⟩
     change Ok Tryz.prog _ _ 64 [(1,(vi z)),(6,(vs q N.length κ)),(10,(pt (nb ρ28 2))),(11,(.slice pa (nI pq).length pc)),(23,(.slice a ts.length c)),(24,(vn ts.length)),(25,(vn i)),(30,(.slice (gT ts i).ka (gT ts i).ks.length (gT ts i).kc)),(31,(vn (gT ts i).ks.length)),(32,(vn j))] _ [(q,(cL C 39)),(nb ρ28 2,(cL (dO.row (gK (gT ts i).ks j)) 51))] (fun w=>bM w a c ts∧kJ w∧kX w∧Is w .u32 pa pc (nI pq)∧True)
     refine sS Tryz.f9 10 [1,6,12,13,23,24,25,30,31,32] [1,0,1] (fun ρ=>let qa:=vi (nM (gK (gT ts i).ks j).k pq);let qb:Value:=.agg (kY (iQ (gK (gT ts i).ks j).k pq));[pt (nb ρ28 2),.agg (kY (gK (gT ts i).ks j).k),.slice pa (nI pq).length pc,.tuple #[qb,qa],.tuple #[qb,qa],qb,qa,pt (nb ρ 7),undef,qa]) (fun ρ=>[(7,(nw ρ 7 (cL (kC 0 0 0 0 0 0) 48))),(8,(bD 58 (nb ρ 7) (cL (kY (iQ (gK (gT ts i).ks j).k pq)) 48)))]) (cR [[],[1],[]]<|cX (qC (fun _ _ w hG=>yH (gK (gT ts i).ks j).k pa pc pq (ho.gK i j).k hq32 w hG.fn.2.2.2.1 hG.fn.2.1 hG.fn.2.2.1))<|jE [[],[],[],[],[58],[]]) (fun ρ29=>?_)
     refine aB (jJ Tryz.f9 2 [1,6,12,13,23,24,25,30,31,32,54] [vi (nM (gK (gT ts i).ks j).k pq),.bool ((nM (gK (gT ts i).ks j).k pq) != 0)] ?_)
     refine oC ((nM (gK (gT ts i).ks j).k pq) != 0) (fun hb11=>?_) (fun hb11=>?_)
     ·
      rw [hb11]
      refine jJ Tryz.f9 3 [1,4,5,6,12,23,24,25,30,31,32] (let qa:=vi (nM (gK (gT ts i).ks j).k pq);[qa,vz,qa]) (aF (aC (aP (aC (aC (aP (aP (aC (aC (aP (aC (mD [(1,(vi z)),(4,vz),(5,(vi (nM (gK (gT ts i).ks j).k pq))),(6,(vs q N.length κ)),(12,(pt (nb ρ29 7))),(23,(.slice a ts.length c)),(24,(vn ts.length)),(25,(vn i)),(30,(.slice (gT ts i).ka (gT ts i).ks.length (gT ts i).kc)),(31,(vn (gT ts i).ks.length)),(32,(vn j))] [(q,(cL C 39)),(nb ρ29 7,(cL (kY (iQ (gK (gT ts i).ks j).k pq)) 48))] ?_))))))))))))
      exact mR (v:=(.tuple #[vz,vi (nM (gK (gT ts i).ks j).k pq)])) (fun _ hS=>(by rw [(pI (aV hb1) hb2 hb3 (l7 (show j<(gT ts i).ks.length from (by have:=yF hb2;omega)) hq hb11 hE) hb11).1,(pI (aV hb1) hb2 hb3 (l7 (show j<(gT ts i).ks.length from (by have:=yF hb2;omega)) hq hb11 hE) hb11).2];exact ⟨none,0,rfl,hS.bel,dB (fun _=>Us.nil)⟩))
     rw [hb11]
     refine aG (aA ?_)
     refine rSf Tryz.f9 6 [1,6,23,24,25,30,31,32] [1,0,0] (fun ρ=>let qa:=vs (nb ρ 4) (N++([(iQ (gK (gT ts i).ks j).k pq).p])).length (aZ ρ 4);[vs q N.length κ,jp (nb ρ29 7) 4,U (iQ (gK (gT ts i).ks j).k pq).p,vs (nb ρ 3) 1 1,qa,qa]) (fun ρ=>[(3,(nw ρ 3 (cL (cU (iQ (gK (gT ts i).ks j).k pq).p) 39))),(4,(bD 0 (nb ρ 4) (cL (oc ρ 4) 39)))]) (fun ρ=>[(4,fun w=>kU.A (oc ρ 4) (N++([(iQ (gK (gT ts i).ks j).k pq).p])) (aZ ρ 4))]) (fun _=>(fun w=>bM w a c ts∧kJ w∧kX w∧Is w .u32 pa pc (nI pq)∧True)) (fun ρ=>kU.A (oc ρ 4) (N++([(iQ (gK (gT ts i).ks j).k pq).p])) (aZ ρ 4)) (fun _ _ hF hf=>⟨hF,hf 4⟩) (cR [[],[],[1],[]]<|cX (qM 0 (fun ρ _ _ hG hg=>wB (K:=kU) (ty:=29) (g:=q) (ts:=N) (us:=[(iQ (gK (gT ts i).ks j).k pq).p]) Tryz.underlying29 (dA (sz:=4) (b:=32) (z:=(U 0)) (by kernel_rfl) rfl) hA (src_u1 Tryz.underlying29 (hG.kn (g:=nb ρ 3) (o:=(cL (cU (iQ (gK (gT ts i).ks j).k pq).p) 39)) 26)) (by have:=kn_len (aV hb1) hN;have:=zN (R:=aK (ts.drop (i+1))) (show j<(gT ts i).ks.length from (by have:=yF hb2;omega));simp only [List.length_cons,List.length_nil];omega) (by decide) hg))<|jE [[]]) (fun ρ32 ap32_4=>?_)
     refine aJ (aA ?_)
     refine rS Tryz.f9 2 [1,6,23,24,25,30,31,32] [] (fun _=>[vn (j+1),vn (j+1)]) (fun _=>[]) (jW (fun ρ=>(((j:Nat):Int)+1)) (fun _=>(j+1)) (fun _=>(aW j 1 (by have:=yF hb2;omega)))<|jE [[]]) (fun _=>?_)
     refine nD (fun w=>bM w a c ts∧kJ w∧kX w∧True) (fun w hF=>⟨hF.1,hF.2.1,hF.2.2.1,trivial⟩) ?_
     exact mN (Sum.inr (j+1,nb ρ32 4,N++([(iQ (gK (gT ts i).ks j).k pq).p]),oc ρ32 4,aZ ρ32 4)) (by show (gT ts i).ks.length-(j+1)<(gT ts i).ks.length-j;have:=yF hb2;omega) (⟨(by have:=yF hb2;omega),wV (show j<(gT ts i).ks.length from (by have:=yF hb2;omega)) hq hN,xJ (show j<(gT ts i).ks.length from (by have:=yF hb2;omega)) hq hb11 hE,ap32_4,(fun n hn=>(List.mem_append.1 hn).elim (hM n) (fun hn=>by rw [List.mem_singleton.1 hn];exact (yR (ho.gK i j).k hq32).p))⟩) []
    intro J2
    rcases Bool.eq_false_or_eq_true (gK (gT ts i).ks j).pa.isNone with hb12 | hb12
    ·
     refine sS Tryz.f9 4 [1,6,10,11,23,24,25,30,31,32] [] (fun _=>[jp (nb ρ28 2) 43,.slice (gK (gT ts i).ks j).pa (nI (gK (gT ts i).ks j).ps).length (gK (gT ts i).ks j).pc,vz,vz]) (fun _=>[]) (cR [[],[1]]<|cX (qC (fun _ _ w hG=>yK (gK (gT ts i).ks j).pa (gK (gT ts i).ks j).pc (gK (gT ts i).ks j).ps hb12 w ((hG.fn.1.sub _ (fA (show i<ts.length from (by have:=yF hb2;omega)))).sub _ (nU (show j<(gT ts i).ks.length from (by have:=yF hb2;omega))))))<|jE [[]]) (fun _=>?_)
     refine aB (jM Tryz.f9 2 [1,6,10,11,23,24,25,30,31,32,40] [] [jp (nb ρ28 2) 44,.bool (gK (gT ts i).ks j).wd] [[],[1]] ?_)
     refine oC (gK (gT ts i).ks j).wd (fun hb13=>?_) (fun hb13=>?_)
     ·
      rw [hb13]
      refine rS Tryz.f9 6 [1,6,10,11,23,24,25,30,31,32] [1,1,0,1] (fun ρ=>let qa:=vs (nb ρ 4) (nI ([z.toNat])).length ((nI ([z.toNat])).length+aZ ρ 4);[vz,vi z,vu z.toNat,vs (nb ρ 3) 1 1,qa,qa]) (fun ρ=>[(3,(nw ρ 3 (cL #[vu z.toNat] 41))),(4,(nw ρ 4 (cL ((kI.r ([z.toNat])).toArray++Builtin.zeroCells (Value.cells (.int .u32 0)) (aZ ρ 4)) 41)))]) (cR [[],[]]<|cA (fun _=>(vu z.toNat)) (fun _=>jN (u32Z hb2 hb3))<|cR [[]]<|cX (qN (fun _ ζ=>(vs (ζ.headD 0) (nI ([z.toNat])).length ((nI ([z.toNat])).length+ζ.tail.headD 0))) (fun _ ζ=>(cL ((kI.r ([z.toNat])).toArray++Builtin.zeroCells (Value.cells (.int .u32 0)) (ζ.tail.headD 0)) 41)) (fun ρ _ _ hG=>appI_nil (ty:=49) (us:=[z.toNat]) Tryz.underlying49 (dA (sz:=1) (b:=4) (z:=(.int .u32 0)) (by kernel_rfl) rfl) (tJ Tryz.underlying49 (hG.kn (g:=nb ρ 3) (o:=(cL #[vu z.toNat] 41)) 26)) (Nat.le_of_ble_eq_true rfl) (Nat.le_of_ble_eq_true rfl) (by decide)))<|jE [[]]) (fun ρ36=>?_)
      refine aA ?_
      refine lK [(1,(vi z)),(6,(vs q N.length κ)),(10,(pt (nb ρ28 2))),(11,(vs (nb ρ36 4) (nI ([z.toNat])).length ((nI ([z.toNat])).length+aZ ρ36 4))),(23,(.slice a ts.length c)),(24,(vn ts.length)),(25,(vn i)),(30,(.slice (gT ts i).ka (gT ts i).ks.length (gT ts i).kc)),(31,(vn (gT ts i).ks.length)),(32,(vn j))] [(q,(cL C 39)),(nb ρ28 2,(cL (dO.row (gK (gT ts i).ks j)) 51)),(nb ρ36 4,(cL ((kI.r ([z.toNat])).toArray++Builtin.zeroCells (Value.cells (.int .u32 0)) (aZ ρ36 4)) 41))] ?_
      exact okE J2 (some ⟨nb ρ36 4,0,none⟩,(nI ([z.toNat])).length+aZ ρ36 4,[z.toNat]) (⟨(ix_b hb13 (hf0.pathN (show i<ts.length from (by have:=yF hb2;omega)) (show j<(gT ts i).ks.length from (by have:=yF hb2;omega)) hb12)),(fun x hx=>by rw [List.mem_singleton.1 hx];exact (z32n hb2 hb3))⟩) (fun w hS=>(hS.frozI (e:=41) (fr:=(0,0)) 2 (RowK.A.fresh (K:=kI) (z:=(.int .u32 0)) rfl ([z.toNat]) (aZ ρ36 4)) (by have:=jC (aV hb1) (show i<ts.length from (by have:=yF hb2;omega)) (show j<(gT ts i).ks.length from (by have:=yF hb2;omega));simp only [List.length_cons,List.length_nil];omega) []).weaken (fun w hF=>⟨hF.2.1,hF.2.2.1,hF.2.2.2.1,hF.1,trivial⟩))
     rw [hb13]
     refine aG (aA ?_)
     refine lK [(1,(vi z)),(6,(vs q N.length κ)),(10,(pt (nb ρ28 2))),(11,vz),(23,(.slice a ts.length c)),(24,(vn ts.length)),(25,(vn i)),(30,(.slice (gT ts i).ka (gT ts i).ks.length (gT ts i).kc)),(31,(vn (gT ts i).ks.length)),(32,(vn j)),(40,vF)] [(q,(cL C 39)),(nb ρ28 2,(cL (dO.row (gK (gT ts i).ks j)) 51))] ?_
     exact okE J2 (none,0,[]) (⟨(ix_a hb13 (hf0.pathN (show i<ts.length from (by have:=yF hb2;omega)) (show j<(gT ts i).ks.length from (by have:=yF hb2;omega)) hb12)),(by simp)⟩) (fun w hS=>(hS.frozN (k:=.u32) (a:=none) (c:=0) []).weaken (fun w hF=>⟨hF.2.1,hF.2.2.1,hF.2.2.2.1,hF.1,trivial⟩))
    refine iZ Tryz.f9 4 [1,6,10,11,23,24,25,30,31,32] [] (fun ρ=>let qa:=vs (nb ρ 2) (nI (gK (gT ts i).ks j).ps).length (aZ ρ 2);[jp (nb ρ28 2) 43,.slice (gK (gT ts i).ks j).pa (nI (gK (gT ts i).ks j).ps).length (gK (gT ts i).ks j).pc,qa,qa]) (fun ρ=>[(2,(nw ρ 2 (cL (oc ρ 2) 41)))]) (fun ρ=>[(2,fun w=>kI.A (oc ρ 2) (gK (gT ts i).ks j).ps (aZ ρ 2))]) (fun _=>(fun w=>bM w a c ts∧kJ w∧kX w∧True)) (fun ρ=>kI.A (oc ρ 2) (gK (gT ts i).ks j).ps (aZ ρ 2)) (fun _ _ hF hf=>⟨hF,hf 2⟩) (cR [[],[1]]<|cX (o_callR _ 22 (fun _=> #[.slice (gK (gT ts i).ks j).pa (nI (gK (gT ts i).ks j).ps).length (gK (gT ts i).ks j).pc]) (fun _ r=>(vs (r.n.headD 0) (nI (gK (gT ts i).ks j).ps).length (r.n.tail.headD 0))) (fun _ r=>(cL (uG r) 41)) (fun _ r=>kI.A (uG r) (gK (gT ts i).ks j).ps (r.n.tail.headD 0)) (fun _ _=>(by kernel_rfl)) (fun _ _=>(by kernel_rfl)) (fun _ _=>(by kernel_rfl)) (fun _ _=>(by kernel_rfl)) (fun _ _ w hG=>yP (gK (gT ts i).ks j).pa (gK (gT ts i).ks j).pc (gK (gT ts i).ks j).ps hb12 (jC (aV hb1) (show i<ts.length from (by have:=yF hb2;omega)) (show j<(gT ts i).ks.length from (by have:=yF hb2;omega))) w ((hG.fn.1.sub _ (fA (show i<ts.length from (by have:=yF hb2;omega)))).sub _ (nU (show j<(gT ts i).ks.length from (by have:=yF hb2;omega))))))<|jE [[]]) (fun ρ37 ap37_2=>?_)
    refine aB (jM Tryz.f9 2 [1,6,10,11,23,24,25,30,31,32,40] [] [jp (nb ρ28 2) 44,.bool (gK (gT ts i).ks j).wd] [[],[1]] ?_)
    refine oC (gK (gT ts i).ks j).wd (fun hb14=>?_) (fun hb14=>?_)
    ·
     rw [hb14]
     refine rSf Tryz.f9 6 [1,6,10,11,23,24,25,30,31,32] [1,1,1,0] (fun ρ=>let qa:=vs (nb ρ 4) (nI ((gK (gT ts i).ks j).ps++([z.toNat]))).length (aZ ρ 4);[vs (nb ρ37 2) (nI (gK (gT ts i).ks j).ps).length (aZ ρ37 2),vi z,vu z.toNat,vs (nb ρ 3) 1 1,qa,qa]) (fun ρ=>[(3,(nw ρ 3 (cL #[vu z.toNat] 41))),(4,(bD 2 (nb ρ 4) (cL (oc ρ 4) 41)))]) (fun ρ=>[(4,fun w=>kI.A (oc ρ 4) ((gK (gT ts i).ks j).ps++([z.toNat])) (aZ ρ 4))]) (fun _=>(fun w=>bM w a c ts∧kJ w∧kX w∧True)) (fun ρ=>kI.A (oc ρ 4) ((gK (gT ts i).ks j).ps++([z.toNat])) (aZ ρ 4)) (fun _ _ hF hf=>⟨hF,hf 4⟩) (cR [[],[]]<|cA (fun _=>(vu z.toNat)) (fun _=>jN (u32Z hb2 hb3))<|cR [[]]<|cX (qM 2 (fun ρ _ _ hG hg=>lT (ty:=49) (g:=nb ρ37 2) (ts:=(gK (gT ts i).ks j).ps) (us:=[z.toNat]) Tryz.underlying49 (dA (sz:=1) (b:=4) (z:=(.int .u32 0)) (by kernel_rfl) rfl) ap37_2 (tJ Tryz.underlying49 (hG.kn (g:=nb ρ 3) (o:=(cL #[vu z.toNat] 41)) 27)) (by have:=jC (aV hb1) (show i<ts.length from (by have:=yF hb2;omega)) (show j<(gT ts i).ks.length from (by have:=yF hb2;omega));simp only [List.length_cons,List.length_nil];omega) (by decide) hg))<|jE [[]]) (fun ρ39 ap39_4=>?_)
     refine aA ?_
     refine lK [(1,(vi z)),(6,(vs q N.length κ)),(10,(pt (nb ρ28 2))),(11,(vs (nb ρ39 4) (nI ((gK (gT ts i).ks j).ps++([z.toNat]))).length (aZ ρ39 4))),(23,(.slice a ts.length c)),(24,(vn ts.length)),(25,(vn i)),(30,(.slice (gT ts i).ka (gT ts i).ks.length (gT ts i).kc)),(31,(vn (gT ts i).ks.length)),(32,(vn j))] [(q,(cL C 39)),(nb ρ28 2,(cL (dO.row (gK (gT ts i).ks j)) 51)),(nb ρ39 4,(cL (oc ρ39 4) 41))] ?_
     exact okE J2 (some ⟨nb ρ39 4,0,none⟩,aZ ρ39 4,(gK (gT ts i).ks j).ps++[z.toNat]) (⟨ix_d hb14,(fun x hx=>(List.mem_append.1 hx).elim ((ho.gK i j).ps x) (fun hx=>by rw [List.mem_singleton.1 hx];exact (z32n hb2 hb3)))⟩) (fun w hS=>(hS.frozI (e:=41) (fr:=(0,0)) 2 ap39_4 (by have:=jC (aV hb1) (show i<ts.length from (by have:=yF hb2;omega)) (show j<(gT ts i).ks.length from (by have:=yF hb2;omega));simp only [List.length_append,List.length_cons,List.length_nil];omega) []).weaken (fun w hF=>⟨hF.2.1,hF.2.2.1,hF.2.2.2.1,hF.1,trivial⟩))
    rw [hb14]
    refine aG (aA ?_)
    refine lK [(1,(vi z)),(6,(vs q N.length κ)),(10,(pt (nb ρ28 2))),(11,(vs (nb ρ37 2) (nI (gK (gT ts i).ks j).ps).length (aZ ρ37 2))),(23,(.slice a ts.length c)),(24,(vn ts.length)),(25,(vn i)),(30,(.slice (gT ts i).ka (gT ts i).ks.length (gT ts i).kc)),(31,(vn (gT ts i).ks.length)),(32,(vn j)),(40,vF)] [(q,(cL C 39)),(nb ρ28 2,(cL (dO.row (gK (gT ts i).ks j)) 51)),(nb ρ37 2,(cL (oc ρ37 2) 41))] ?_
    exact okE J2 (some ⟨nb ρ37 2,0,none⟩,aZ ρ37 2,(gK (gT ts i).ks j).ps) (⟨ix_c hb14,(ho.gK i j).ps⟩) (fun w hS=>(hS.frozI (e:=41) (fr:=(0,0)) 2 ap37_2 (by have:=jC (aV hb1) (show i<ts.length from (by have:=yF hb2;omega)) (show j<(gT ts i).ks.length from (by have:=yF hb2;omega));omega) []).weaken (fun w hF=>⟨hF.2.1,hF.2.2.1,hF.2.2.2.1,hF.1,trivial⟩))
   rw [hb10]
   have:=yF hb10
   refine bF (aN (aN (aT (aJ (aA ?_)))))
   refine rS Tryz.f9 2 [1,6,23,24,25] [] (fun _=>[vn (i+1),vn (i+1)]) (fun _=>[]) (jW (fun ρ=>(((i:Nat):Int)+1)) (fun _=>(i+1)) (fun _=>(aW i 1 (by have:=yF hb2;omega)))<|jE [[]]) (fun _=>?_)
   exact mN (Sum.inr (i+1,q,N,C,κ)) (by show ts.length-(i+1)<ts.length-i;have:=yF hb2;omega) (⟨(by have:=yF hb2;omega),kn_out (by have:=yF hb2;omega) hN,ke_out (by have:=yF hb2;omega) hE,hA,hM⟩) []
  rw [hb4]
  have:=ho.klen hf0 i
  refine bF (aN (aN (aT (aA (jJ Tryz.f9 3 [4,5] [vz,vz,vi 0] (aF (mD [(4,vz),(5,(vi 0))] [] ?_)))))))
  exact mR (v:=(.tuple #[vz,vi 0])) (fun _ hS=>(by rw [(ky_ok (aV hb1) hb2 hb3 (by have:=yF hb2;have:=yF hb4;omega) hE0 hN0).1,(ky_ok (aV hb1) hb2 hb3 (by have:=yF hb2;have:=yF hb4;omega) hE0 hN0).2];exact ⟨none,0,rfl,hS.bel,dB (fun _=>Us.nil)⟩))
 rintro ⟨hi,hN0,hE0,hA,hM⟩
 change Ok Tryz.prog _ _ 64 [(1,(vi z)),(6,(vs q N.length κ)),(23,(.slice a ts.length c)),(24,(vn ts.length)),(25,(vn i))] _ [(q,(cL C 39))] (fun w=>bM w a c ts∧kJ w∧kX w∧True)
 refine jJ Tryz.f9 1 [1,6,23,24,25,26] [.bool (decide (((i:Nat):Int)<((ts.length:Nat):Int)))] (aB ?_)
 refine oC (decide (((i:Nat):Int)<((ts.length:Nat):Int))) (fun hb15=>?_) (fun hb15=>?_)
 ·
  rw [hb15]
  have:=yT hb15
  have:=ho.klen hf0 i
  refine aG (aA (aB (aI ?_)))
  refine sS Tryz.f9 4 [1,6,8,23,24,25] [] (fun ρ=>[.pointer (fK a (i*36)),.agg (bW.row (gT ts i)),pt (nb ρ 2),undef]) (fun ρ=>[(2,(nw ρ 2 (cL (iC 0 0 0 0 vz) 46))),(3,(bD 17 (nb ρ 2) (cL (bW.row (gT ts i)) 46)))]) (cX (qF (fun _ _ _ hG=>bM.idx (k:=.i64) Tryz.underlying24 Tryz.sizeOf46 hG.fn.1 rfl (show ((i:Nat):Int)=((i:Nat):Int) from rfl) (show i<ts.length from (by have:=yF hb2;omega))))<|cX (qF (fun _ _ _ hG=>bM.ldA (i:=i) Tryz.isAgg46 Tryz.sizeOf46 hG.fn.1 (show i<ts.length from (by have:=yF hb2;omega))))<|jE [[],[17]]) (fun ρ43=>?_)
  refine jM Tryz.f9 4 [1,6,23,24,25,30,31,32] [1,0] [jp (nb ρ43 2) 35,.slice (gT ts i).ka (gT ts i).ks.length (gT ts i).kc,vn (gT ts i).ks.length,vi 0] [[],[1],[],[]] (aI ?_)
  refine oL (σ:=(Nat × Nat × (List Nat) × (Array Value) × Nat)) (fun s=>match s with |  ⟨j,q,N,_,κ⟩=>[(1,(vi z)),(6,(vs q N.length κ)),(23,(.slice a ts.length c)),(24,(vn ts.length)),(25,(vn i)),(30,(.slice (gT ts i).ka (gT ts i).ks.length (gT ts i).kc)),(31,(vn (gT ts i).ks.length)),(32,(vn j))]) (fun s=>match s with |  ⟨_,q,_,C,_⟩=>[(q,(cL C 39))]) (fun s=>match s with |  ⟨j,_,_,_,_⟩=>(gT ts i).ks.length-j)
    (fun s=>match s with |  ⟨j,_,N,C,κ⟩=>(j≤(gT ts i).ks.length)∧(N++xE z.toNat ((gT ts i).ks.drop j++aK (ts.drop (i+1)))=xE z.toNat (aK ts))∧(uU z.toNat ((gT ts i).ks.drop j++aK (ts.drop (i+1)))=uU z.toNat (aK ts))∧(kU.A C N κ)∧(∀ n∈N,n<M)) ((0,q,N,C,κ)) (⟨Nat.zero_le _,kn_in (show i<ts.length from (by have:=yF hb2;omega)) hN0,ke_in (show i<ts.length from (by have:=yF hb2;omega)) hE0,hA,hM⟩) [] ?_
  rintro ⟨j,q,N,C,κ⟩
  rintro ⟨hj,hN,hE,hA,hM⟩
  change Ok Tryz.prog _ _ 64 [(1,(vi z)),(6,(vs q N.length κ)),(23,(.slice a ts.length c)),(24,(vn ts.length)),(25,(vn i)),(30,(.slice (gT ts i).ka (gT ts i).ks.length (gT ts i).kc)),(31,(vn (gT ts i).ks.length)),(32,(vn j))] _ [(q,(cL C 39))] (fun w=>bM w a c ts∧kJ w∧kX w∧True)
  refine jJ Tryz.f9 1 [1,6,23,24,25,30,31,32,33] [.bool (decide (((j:Nat):Int)<(((gT ts i).ks.length:Nat):Int)))] (aB ?_)
  refine oC (decide (((j:Nat):Int)<(((gT ts i).ks.length:Nat):Int))) (fun hb16=>?_) (fun hb16=>?_)
  ·
   rw [hb16]
   have:=yT hb16
   refine aG (aA (aB (aI ?_)))
   refine sS Tryz.f9 4 [1,6,10,23,24,25,30,31,32] [] (fun ρ=>[.pointer (fK (gT ts i).ka (j*45)),.agg (dO.row (gK (gT ts i).ks j)),pt (nb ρ 2),undef]) (fun ρ=>[(2,(nw ρ 2 (cL (kM 0 0 0 0 0 0 vz vF) 51))),(3,(bD 17 (nb ρ 2) (cL (dO.row (gK (gT ts i).ks j)) 51)))]) (cX (qF (fun _ _ _ hG=>oG.idx (k:=.i64) Tryz.underlying44 Tryz.sizeOf51 (hG.fn.1.sub _ (fA (show i<ts.length from (by have:=yF hb2;omega)))) rfl (show ((j:Nat):Int)=((j:Nat):Int) from rfl) (show j<(gT ts i).ks.length from (by have:=yF hb2;omega))))<|cX (qF (fun _ _ _ hG=>oG.ldA (i:=j) Tryz.isAgg51 Tryz.sizeOf51 (hG.fn.1.sub _ (fA (show i<ts.length from (by have:=yF hb2;omega)))) (show j<(gT ts i).ks.length from (by have:=yF hb2;omega))))<|jE [[],[17]]) (fun ρ46=>?_)
   refine okJ2 (σ:=(Option Addr) × Nat × (List Nat)) (fun ⟨pa,pc,pq⟩=>[(1,(vi z)),(6,(vs q N.length κ)),(10,(pt (nb ρ46 2))),(11,(.slice pa (nI pq).length pc)),(23,(.slice a ts.length c)),(24,(vn ts.length)),(25,(vn i)),(30,(.slice (gT ts i).ka (gT ts i).ks.length (gT ts i).kc)),(31,(vn (gT ts i).ks.length)),(32,(vn j))]) (fun ⟨_,_,_⟩=>[(q,(cL C 39)),(nb ρ46 2,(cL (dO.row (gK (gT ts i).ks j)) 51))]) (fun ⟨pa,pc,pq⟩=>(fun w=>bM w a c ts∧kJ w∧kX w∧Is w .u32 pa pc (nI pq)∧True)) (fun ⟨_,_,pq⟩=>((gK (gT ts i).ks j).ix z.toNat=pq)∧(∀ x∈pq,x<4294967296)) ?_ ?_
   ·
    rintro ⟨pa,pc,pq⟩ ⟨hq,hq32⟩
    change Ok Tryz.prog _ _ 64 [(1,(vi z)),(6,(vs q N.length κ)),(10,(pt (nb ρ46 2))),(11,(.slice pa (nI pq).length pc)),(23,(.slice a ts.length c)),(24,(vn ts.length)),(25,(vn i)),(30,(.slice (gT ts i).ka (gT ts i).ks.length (gT ts i).kc)),(31,(vn (gT ts i).ks.length)),(32,(vn j))] _ [(q,(cL C 39)),(nb ρ46 2,(cL (dO.row (gK (gT ts i).ks j)) 51))] (fun w=>bM w a c ts∧kJ w∧kX w∧Is w .u32 pa pc (nI pq)∧True)
    refine sS Tryz.f9 10 [1,6,12,13,23,24,25,30,31,32] [1,0,1] (fun ρ=>let qa:=vi (nM (gK (gT ts i).ks j).k pq);let qb:Value:=.agg (kY (iQ (gK (gT ts i).ks j).k pq));[pt (nb ρ46 2),.agg (kY (gK (gT ts i).ks j).k),.slice pa (nI pq).length pc,.tuple #[qb,qa],.tuple #[qb,qa],qb,qa,pt (nb ρ 7),undef,qa]) (fun ρ=>[(7,(nw ρ 7 (cL (kC 0 0 0 0 0 0) 48))),(8,(bD 58 (nb ρ 7) (cL (kY (iQ (gK (gT ts i).ks j).k pq)) 48)))]) (cR [[],[1],[]]<|cX (qC (fun _ _ w hG=>yH (gK (gT ts i).ks j).k pa pc pq (ho.gK i j).k hq32 w hG.fn.2.2.2.1 hG.fn.2.1 hG.fn.2.2.1))<|jE [[],[],[],[],[58],[]]) (fun ρ47=>?_)
    refine aB (jJ Tryz.f9 2 [1,6,12,13,23,24,25,30,31,32,54] [vi (nM (gK (gT ts i).ks j).k pq),.bool ((nM (gK (gT ts i).ks j).k pq) != 0)] ?_)
    refine oC ((nM (gK (gT ts i).ks j).k pq) != 0) (fun hb17=>?_) (fun hb17=>?_)
    ·
     rw [hb17]
     refine jJ Tryz.f9 3 [1,4,5,6,12,23,24,25,30,31,32] (let qa:=vi (nM (gK (gT ts i).ks j).k pq);[qa,vz,qa]) (aF (aC (aP (aC (aC (aP (aP (aC (aC (aP (aC (mD [(1,(vi z)),(4,vz),(5,(vi (nM (gK (gT ts i).ks j).k pq))),(6,(vs q N.length κ)),(12,(pt (nb ρ47 7))),(23,(.slice a ts.length c)),(24,(vn ts.length)),(25,(vn i)),(30,(.slice (gT ts i).ka (gT ts i).ks.length (gT ts i).kc)),(31,(vn (gT ts i).ks.length)),(32,(vn j))] [(q,(cL C 39)),(nb ρ47 7,(cL (kY (iQ (gK (gT ts i).ks j).k pq)) 48))] ?_))))))))))))
     exact mR (v:=(.tuple #[vz,vi (nM (gK (gT ts i).ks j).k pq)])) (fun _ hS=>(by rw [(pI (aV hb1) hb2 hb3 (l7 (show j<(gT ts i).ks.length from (by have:=yF hb2;omega)) hq hb17 hE) hb17).1,(pI (aV hb1) hb2 hb3 (l7 (show j<(gT ts i).ks.length from (by have:=yF hb2;omega)) hq hb17 hE) hb17).2];exact ⟨none,0,rfl,hS.bel,dB (fun _=>Us.nil)⟩))
    rw [hb17]
    refine aG (aA ?_)
    refine rSf Tryz.f9 6 [1,6,23,24,25,30,31,32] [1,0,0] (fun ρ=>let qa:=vs (nb ρ 4) (N++([(iQ (gK (gT ts i).ks j).k pq).p])).length (aZ ρ 4);[vs q N.length κ,jp (nb ρ47 7) 4,U (iQ (gK (gT ts i).ks j).k pq).p,vs (nb ρ 3) 1 1,qa,qa]) (fun ρ=>[(3,(nw ρ 3 (cL (cU (iQ (gK (gT ts i).ks j).k pq).p) 39))),(4,(bD 0 (nb ρ 4) (cL (oc ρ 4) 39)))]) (fun ρ=>[(4,fun w=>kU.A (oc ρ 4) (N++([(iQ (gK (gT ts i).ks j).k pq).p])) (aZ ρ 4))]) (fun _=>(fun w=>bM w a c ts∧kJ w∧kX w∧Is w .u32 pa pc (nI pq)∧True)) (fun ρ=>kU.A (oc ρ 4) (N++([(iQ (gK (gT ts i).ks j).k pq).p])) (aZ ρ 4)) (fun _ _ hF hf=>⟨hF,hf 4⟩) (cR [[],[],[1],[]]<|cX (qM 0 (fun ρ _ _ hG hg=>wB (K:=kU) (ty:=29) (g:=q) (ts:=N) (us:=[(iQ (gK (gT ts i).ks j).k pq).p]) Tryz.underlying29 (dA (sz:=4) (b:=32) (z:=(U 0)) (by kernel_rfl) rfl) hA (src_u1 Tryz.underlying29 (hG.kn (g:=nb ρ 3) (o:=(cL (cU (iQ (gK (gT ts i).ks j).k pq).p) 39)) 26)) (by have:=kn_len (aV hb1) hN;have:=zN (R:=aK (ts.drop (i+1))) (show j<(gT ts i).ks.length from (by have:=yF hb2;omega));simp only [List.length_cons,List.length_nil];omega) (by decide) hg))<|jE [[]]) (fun ρ50 ap50_4=>?_)
    refine aJ (aA ?_)
    refine rS Tryz.f9 2 [1,6,23,24,25,30,31,32] [] (fun _=>[vn (j+1),vn (j+1)]) (fun _=>[]) (jW (fun ρ=>(((j:Nat):Int)+1)) (fun _=>(j+1)) (fun _=>(aW j 1 (by have:=yF hb2;omega)))<|jE [[]]) (fun _=>?_)
    refine nD (fun w=>bM w a c ts∧kJ w∧kX w∧True) (fun w hF=>⟨hF.1,hF.2.1,hF.2.2.1,trivial⟩) ?_
    exact mN ((j+1,nb ρ50 4,N++([(iQ (gK (gT ts i).ks j).k pq).p]),oc ρ50 4,aZ ρ50 4)) (by show (gT ts i).ks.length-(j+1)<(gT ts i).ks.length-j;have:=yF hb2;omega) (⟨(by have:=yF hb2;omega),wV (show j<(gT ts i).ks.length from (by have:=yF hb2;omega)) hq hN,xJ (show j<(gT ts i).ks.length from (by have:=yF hb2;omega)) hq hb17 hE,ap50_4,(fun n hn=>(List.mem_append.1 hn).elim (hM n) (fun hn=>by rw [List.mem_singleton.1 hn];exact (yR (ho.gK i j).k hq32).p))⟩) []
   intro J3
   rcases Bool.eq_false_or_eq_true (gK (gT ts i).ks j).pa.isNone with hb18 | hb18
   ·
    refine sS Tryz.f9 4 [1,6,10,11,23,24,25,30,31,32] [] (fun _=>[jp (nb ρ46 2) 43,.slice (gK (gT ts i).ks j).pa (nI (gK (gT ts i).ks j).ps).length (gK (gT ts i).ks j).pc,vz,vz]) (fun _=>[]) (cR [[],[1]]<|cX (qC (fun _ _ w hG=>yK (gK (gT ts i).ks j).pa (gK (gT ts i).ks j).pc (gK (gT ts i).ks j).ps hb18 w ((hG.fn.1.sub _ (fA (show i<ts.length from (by have:=yF hb2;omega)))).sub _ (nU (show j<(gT ts i).ks.length from (by have:=yF hb2;omega))))))<|jE [[]]) (fun _=>?_)
    refine aB (jM Tryz.f9 2 [1,6,10,11,23,24,25,30,31,32,40] [] [jp (nb ρ46 2) 44,.bool (gK (gT ts i).ks j).wd] [[],[1]] ?_)
    refine oC (gK (gT ts i).ks j).wd (fun hb19=>?_) (fun hb19=>?_)
    ·
     rw [hb19]
     refine rS Tryz.f9 6 [1,6,10,11,23,24,25,30,31,32] [1,1,0,1] (fun ρ=>let qa:=vs (nb ρ 4) (nI ([z.toNat])).length ((nI ([z.toNat])).length+aZ ρ 4);[vz,vi z,vu z.toNat,vs (nb ρ 3) 1 1,qa,qa]) (fun ρ=>[(3,(nw ρ 3 (cL #[vu z.toNat] 41))),(4,(nw ρ 4 (cL ((kI.r ([z.toNat])).toArray++Builtin.zeroCells (Value.cells (.int .u32 0)) (aZ ρ 4)) 41)))]) (cR [[],[]]<|cA (fun _=>(vu z.toNat)) (fun _=>jN (u32Z hb2 hb3))<|cR [[]]<|cX (qN (fun _ ζ=>(vs (ζ.headD 0) (nI ([z.toNat])).length ((nI ([z.toNat])).length+ζ.tail.headD 0))) (fun _ ζ=>(cL ((kI.r ([z.toNat])).toArray++Builtin.zeroCells (Value.cells (.int .u32 0)) (ζ.tail.headD 0)) 41)) (fun ρ _ _ hG=>appI_nil (ty:=49) (us:=[z.toNat]) Tryz.underlying49 (dA (sz:=1) (b:=4) (z:=(.int .u32 0)) (by kernel_rfl) rfl) (tJ Tryz.underlying49 (hG.kn (g:=nb ρ 3) (o:=(cL #[vu z.toNat] 41)) 26)) (Nat.le_of_ble_eq_true rfl) (Nat.le_of_ble_eq_true rfl) (by decide)))<|jE [[]]) (fun ρ54=>?_)
     refine aA ?_
     refine lK [(1,(vi z)),(6,(vs q N.length κ)),(10,(pt (nb ρ46 2))),(11,(vs (nb ρ54 4) (nI ([z.toNat])).length ((nI ([z.toNat])).length+aZ ρ54 4))),(23,(.slice a ts.length c)),(24,(vn ts.length)),(25,(vn i)),(30,(.slice (gT ts i).ka (gT ts i).ks.length (gT ts i).kc)),(31,(vn (gT ts i).ks.length)),(32,(vn j))] [(q,(cL C 39)),(nb ρ46 2,(cL (dO.row (gK (gT ts i).ks j)) 51)),(nb ρ54 4,(cL ((kI.r ([z.toNat])).toArray++Builtin.zeroCells (Value.cells (.int .u32 0)) (aZ ρ54 4)) 41))] ?_
     exact okE J3 (some ⟨nb ρ54 4,0,none⟩,(nI ([z.toNat])).length+aZ ρ54 4,[z.toNat]) (⟨(ix_b hb19 (hf0.pathN (show i<ts.length from (by have:=yF hb2;omega)) (show j<(gT ts i).ks.length from (by have:=yF hb2;omega)) hb18)),(fun x hx=>by rw [List.mem_singleton.1 hx];exact (z32n hb2 hb3))⟩) (fun w hS=>(hS.frozI (e:=41) (fr:=(0,0)) 2 (RowK.A.fresh (K:=kI) (z:=(.int .u32 0)) rfl ([z.toNat]) (aZ ρ54 4)) (by have:=jC (aV hb1) (show i<ts.length from (by have:=yF hb2;omega)) (show j<(gT ts i).ks.length from (by have:=yF hb2;omega));simp only [List.length_cons,List.length_nil];omega) []).weaken (fun w hF=>⟨hF.2.1,hF.2.2.1,hF.2.2.2.1,hF.1,trivial⟩))
    rw [hb19]
    refine aG (aA ?_)
    refine lK [(1,(vi z)),(6,(vs q N.length κ)),(10,(pt (nb ρ46 2))),(11,vz),(23,(.slice a ts.length c)),(24,(vn ts.length)),(25,(vn i)),(30,(.slice (gT ts i).ka (gT ts i).ks.length (gT ts i).kc)),(31,(vn (gT ts i).ks.length)),(32,(vn j)),(40,vF)] [(q,(cL C 39)),(nb ρ46 2,(cL (dO.row (gK (gT ts i).ks j)) 51))] ?_
    exact okE J3 (none,0,[]) (⟨(ix_a hb19 (hf0.pathN (show i<ts.length from (by have:=yF hb2;omega)) (show j<(gT ts i).ks.length from (by have:=yF hb2;omega)) hb18)),(by simp)⟩) (fun w hS=>(hS.frozN (k:=.u32) (a:=none) (c:=0) []).weaken (fun w hF=>⟨hF.2.1,hF.2.2.1,hF.2.2.2.1,hF.1,trivial⟩))
   refine iZ Tryz.f9 4 [1,6,10,11,23,24,25,30,31,32] [] (fun ρ=>let qa:=vs (nb ρ 2) (nI (gK (gT ts i).ks j).ps).length (aZ ρ 2);[jp (nb ρ46 2) 43,.slice (gK (gT ts i).ks j).pa (nI (gK (gT ts i).ks j).ps).length (gK (gT ts i).ks j).pc,qa,qa]) (fun ρ=>[(2,(nw ρ 2 (cL (oc ρ 2) 41)))]) (fun ρ=>[(2,fun w=>kI.A (oc ρ 2) (gK (gT ts i).ks j).ps (aZ ρ 2))]) (fun _=>(fun w=>bM w a c ts∧kJ w∧kX w∧True)) (fun ρ=>kI.A (oc ρ 2) (gK (gT ts i).ks j).ps (aZ ρ 2)) (fun _ _ hF hf=>⟨hF,hf 2⟩) (cR [[],[1]]<|cX (o_callR _ 22 (fun _=> #[.slice (gK (gT ts i).ks j).pa (nI (gK (gT ts i).ks j).ps).length (gK (gT ts i).ks j).pc]) (fun _ r=>(vs (r.n.headD 0) (nI (gK (gT ts i).ks j).ps).length (r.n.tail.headD 0))) (fun _ r=>(cL (uG r) 41)) (fun _ r=>kI.A (uG r) (gK (gT ts i).ks j).ps (r.n.tail.headD 0)) (fun _ _=>(by kernel_rfl)) (fun _ _=>(by kernel_rfl)) (fun _ _=>(by kernel_rfl)) (fun _ _=>(by kernel_rfl)) (fun _ _ w hG=>yP (gK (gT ts i).ks j).pa (gK (gT ts i).ks j).pc (gK (gT ts i).ks j).ps hb18 (jC (aV hb1) (show i<ts.length from (by have:=yF hb2;omega)) (show j<(gT ts i).ks.length from (by have:=yF hb2;omega))) w ((hG.fn.1.sub _ (fA (show i<ts.length from (by have:=yF hb2;omega)))).sub _ (nU (show j<(gT ts i).ks.length from (by have:=yF hb2;omega))))))<|jE [[]]) (fun ρ55 ap55_2=>?_)
   refine aB (jM Tryz.f9 2 [1,6,10,11,23,24,25,30,31,32,40] [] [jp (nb ρ46 2) 44,.bool (gK (gT ts i).ks j).wd] [[],[1]] ?_)
   refine oC (gK (gT ts i).ks j).wd (fun hb20=>?_) (fun hb20=>?_)
   ·
    rw [hb20]
    refine rSf Tryz.f9 6 [1,6,10,11,23,24,25,30,31,32] [1,1,1,0] (fun ρ=>let qa:=vs (nb ρ 4) (nI ((gK (gT ts i).ks j).ps++([z.toNat]))).length (aZ ρ 4);[vs (nb ρ55 2) (nI (gK (gT ts i).ks j).ps).length (aZ ρ55 2),vi z,vu z.toNat,vs (nb ρ 3) 1 1,qa,qa]) (fun ρ=>[(3,(nw ρ 3 (cL #[vu z.toNat] 41))),(4,(bD 2 (nb ρ 4) (cL (oc ρ 4) 41)))]) (fun ρ=>[(4,fun w=>kI.A (oc ρ 4) ((gK (gT ts i).ks j).ps++([z.toNat])) (aZ ρ 4))]) (fun _=>(fun w=>bM w a c ts∧kJ w∧kX w∧True)) (fun ρ=>kI.A (oc ρ 4) ((gK (gT ts i).ks j).ps++([z.toNat])) (aZ ρ 4)) (fun _ _ hF hf=>⟨hF,hf 4⟩) (cR [[],[]]<|cA (fun _=>(vu z.toNat)) (fun _=>jN (u32Z hb2 hb3))<|cR [[]]<|cX (qM 2 (fun ρ _ _ hG hg=>lT (ty:=49) (g:=nb ρ55 2) (ts:=(gK (gT ts i).ks j).ps) (us:=[z.toNat]) Tryz.underlying49 (dA (sz:=1) (b:=4) (z:=(.int .u32 0)) (by kernel_rfl) rfl) ap55_2 (tJ Tryz.underlying49 (hG.kn (g:=nb ρ 3) (o:=(cL #[vu z.toNat] 41)) 27)) (by have:=jC (aV hb1) (show i<ts.length from (by have:=yF hb2;omega)) (show j<(gT ts i).ks.length from (by have:=yF hb2;omega));simp only [List.length_cons,List.length_nil];omega) (by decide) hg))<|jE [[]]) (fun ρ57 ap57_4=>?_)
    refine aA ?_
    refine lK [(1,(vi z)),(6,(vs q N.length κ)),(10,(pt (nb ρ46 2))),(11,(vs (nb ρ57 4) (nI ((gK (gT ts i).ks j).ps++([z.toNat]))).length (aZ ρ57 4))),(23,(.slice a ts.length c)),(24,(vn ts.length)),(25,(vn i)),(30,(.slice (gT ts i).ka (gT ts i).ks.length (gT ts i).kc)),(31,(vn (gT ts i).ks.length)),(32,(vn j))] [(q,(cL C 39)),(nb ρ46 2,(cL (dO.row (gK (gT ts i).ks j)) 51)),(nb ρ57 4,(cL (oc ρ57 4) 41))] ?_
    exact okE J3 (some ⟨nb ρ57 4,0,none⟩,aZ ρ57 4,(gK (gT ts i).ks j).ps++[z.toNat]) (⟨ix_d hb20,(fun x hx=>(List.mem_append.1 hx).elim ((ho.gK i j).ps x) (fun hx=>by rw [List.mem_singleton.1 hx];exact (z32n hb2 hb3)))⟩) (fun w hS=>(hS.frozI (e:=41) (fr:=(0,0)) 2 ap57_4 (by have:=jC (aV hb1) (show i<ts.length from (by have:=yF hb2;omega)) (show j<(gT ts i).ks.length from (by have:=yF hb2;omega));simp only [List.length_append,List.length_cons,List.length_nil];omega) []).weaken (fun w hF=>⟨hF.2.1,hF.2.2.1,hF.2.2.2.1,hF.1,trivial⟩))
   rw [hb20]
   refine aG (aA ?_)
   refine lK [(1,(vi z)),(6,(vs q N.length κ)),(10,(pt (nb ρ46 2))),(11,(vs (nb ρ55 2) (nI (gK (gT ts i).ks j).ps).length (aZ ρ55 2))),(23,(.slice a ts.length c)),(24,(vn ts.length)),(25,(vn i)),(30,(.slice (gT ts i).ka (gT ts i).ks.length (gT ts i).kc)),(31,(vn (gT ts i).ks.length)),(32,(vn j)),(40,vF)] [(q,(cL C 39)),(nb ρ46 2,(cL (dO.row (gK (gT ts i).ks j)) 51)),(nb ρ55 2,(cL (oc ρ55 2) 41))] ?_
   exact okE J3 (some ⟨nb ρ55 2,0,none⟩,aZ ρ55 2,(gK (gT ts i).ks j).ps) (⟨ix_c hb20,(ho.gK i j).ps⟩) (fun w hS=>(hS.frozI (e:=41) (fr:=(0,0)) 2 ap55_2 (by have:=jC (aV hb1) (show i<ts.length from (by have:=yF hb2;omega)) (show j<(gT ts i).ks.length from (by have:=yF hb2;omega));omega) []).weaken (fun w hF=>⟨hF.2.1,hF.2.2.1,hF.2.2.2.1,hF.1,trivial⟩))
  rw [hb16]
  have:=yF hb16
  refine bF (aN (aN (aT (aJ (aA ?_)))))
  refine rS Tryz.f9 2 [1,6,23,24,25] [] (fun _=>[vn (i+1),vn (i+1)]) (fun _=>[]) (jW (fun ρ=>(((i:Nat):Int)+1)) (fun _=>(i+1)) (fun _=>(aW i 1 (by have:=yF hb2;omega)))<|jE [[]]) (fun _=>?_)
  exact mN (Sum.inr (i+1,q,N,C,κ)) (by show ts.length-(i+1)<ts.length-i;have:=yF hb2;omega) (⟨(by have:=yF hb2;omega),kn_out (by have:=yF hb2;omega) hN,ke_out (by have:=yF hb2;omega) hE,hA,hM⟩) []
 rw [hb15]
 have:=ho.klen hf0 i
 refine bF (aN (aN (aT (aA (jJ Tryz.f9 3 [4,5] [vs q N.length κ,vs q N.length κ,vi 0] (aF (mD [(4,(vs q N.length κ)),(5,(vi 0))] [(q,(cL C 39))] ?_)))))))
 exact mR (v:=(.tuple #[vs q N.length κ,vi 0])) (fun _ hS=>(by rw [(ky_ok (aV hb1) hb2 hb3 (by have:=yF hb2;have:=yF hb15;omega) hE0 hN0).1,(ky_ok (aV hb1) hb2 hb3 (by have:=yF hb2;have:=yF hb15;omega) hE0 hN0).2];exact ⟨some ⟨q,0,none⟩,κ,rfl,hS.bel,Us.new (hS.newb (.head _)) hA (by have:=kn_len (aV hb1) hN0;omega) hM⟩))
theorem dexpand_any (a:Option Addr) (c:Nat) (ts:List bW) (z:Int) (h2:∀ t∈ts,t.kd=2→t.ks.length=2) (w0:World) (hf0:bM w0 a c ts) (hf1:kJ w0) (hf2:kX w0):Calls Tryz.prog 11 #[.slice a ts.length c,vi z] w0 (fun ε w'=>∃ α κ,ε=.returned (.tuple #[.slice α (wG ts z).length κ,vi (exE ts z)])∧jG w0 w'∧Fs w0 w' α κ (wG ts z)):=by
 refine Calls.of_ok (n:=33) (F:=(fun w=>bM w a c ts∧kJ w∧kX w∧True)) Tryz.func11 rfl rfl rfl (by simp) (hf0.pers0.and (hf1.pers0.and (hf2.pers0.and cO))) ?_
 refine jJ Tryz.f11 2 [0,1,4,5] [vz,vi 0] ?_
 refine iZ Tryz.f11 8 [0,4,5,6,7] [] (fun ρ=>let qa:Value:=.slice (oa ρ 2) (gV ts z).length (nb ρ 2);[.slice a ts.length c,vi z,.tuple #[qa,vi (kZ ts z)],.tuple #[qa,vi (kZ ts z)],qa,vi (kZ ts z),qa,vi (kZ ts z)]) (fun _=>[]) (fun ρ=>[(2,fun w=>Us w (oa ρ 2) (nb ρ 2) (gV ts z))]) (fun ρ=>(fun w=>bM w a c ts∧kJ w∧kX w∧Us w (oa ρ 2) (nb ρ 2) (gV ts z)∧True)) (fun _=>True) (fun _ _ hF hf=>⟨⟨hF.1,hF.2.1,hF.2.2.1,hf 2,trivial⟩,trivial⟩) (cR [[],[]]<|cX (qV (fun _ _ w hG=>dkeys_any a c ts z w hG.fn.1 hG.fn.2.1 hG.fn.2.2.1))<|jE [[],[],[],[],[]]) (fun ρ2 _=>?_)
 refine aB (jJ Tryz.f11 2 [0,4,5,6,7,17] [vi (kZ ts z),.bool ((kZ ts z) != 0)] ?_)
 refine oC ((kZ ts z) != 0) (fun hb1=>?_) (fun hb1=>?_)
 ·
  rw [hb1]
  refine jJ Tryz.f11 3 [0,4,5,6,7] [vi (kZ ts z),vz,vi (kZ ts z)] (aF (aC (mD [(0,(.slice a ts.length c)),(4,vz),(5,(vi (kZ ts z))),(6,(.slice (oa ρ2 2) (gV ts z).length (nb ρ2 2))),(7,(vi (kZ ts z)))] [] ?_)))
  exact mR (v:=(.tuple #[vz,vi (kZ ts z)])) (fun _ hS=>⟨none,0,congrArg Ending.returned (by rw [(ex_err hb1).1,(ex_err hb1).2]<;>rfl),hS.bel,dU (ex_err hb1).2.symm Fs.nil⟩)
 rw [hb1]
 refine aG (aA ?_)
 refine sS Tryz.f11 5 [4,5,7,8] [] (fun ρ=>let qa:Value:=.slice (oa ρ2 2) (gV ts z).length (nb ρ2 2);[.slice a ts.length c,qa,.agg #[.slice a ts.length c,qa],pt (nb ρ 3),undef]) (fun ρ=>[(3,(nw ρ 3 (cL #[vz,vz] 64))),(4,(bD 24 (nb ρ 3) (cL #[.slice a ts.length c,.slice (oa ρ2 2) (gV ts z).length (nb ρ2 2)] 64)))]) (jE [[],[],[],[],[24]]) (fun ρ5=>?_)
 refine iZ Tryz.f11 6 [4,5,7,9] [0] (fun ρ=>let qa:Value:=.slice (oa ρ 0) (xP ts z).length (nb ρ 0);[.tuple #[qa,vi 0],.tuple #[qa,vi 0],qa,vi 0,qa,vi 0]) (fun _=>[(0,(bD 0 (nb ρ5 3) (cL #[.slice (nxS (Mk.mk a c ts (oa ρ2 2) (nb ρ2 2) (gV ts z))).ta (nxS (Mk.mk a c ts (oa ρ2 2) (nb ρ2 2) (gV ts z))).ts.length (nxS (Mk.mk a c ts (oa ρ2 2) (nb ρ2 2) (gV ts z))).tc,.slice (nxS (Mk.mk a c ts (oa ρ2 2) (nb ρ2 2) (gV ts z))).ka (nxS (Mk.mk a c ts (oa ρ2 2) (nb ρ2 2) (gV ts z))).ns.length (nxS (Mk.mk a c ts (oa ρ2 2) (nb ρ2 2) (gV ts z))).kc] 64)))]) (fun ρ=>[(0,fun w=>Fs w0 w (oa ρ 0) (nb ρ 0) (xP ts z))]) (fun ρ=>(fun w=>bM w a c ts∧kJ w∧kX w∧Us w (oa ρ2 2) (nb ρ2 2) (gV ts z)∧Fs w0 w (oa ρ 0) (nb ρ 0) (xP ts z)∧True)) (fun _=>True) (fun _ _ hF hf=>⟨⟨hF.1,hF.2.1,hF.2.2.1,hF.2.2.2.1,hf 0,trivial⟩,trivial⟩) (cX (qWB [0] (fun _ _ w hG hK=>nextx_any (g:=nb ρ5 3) (a:=a) (c:=c) (b:=(oa ρ2 2)) (d:=(nb ρ2 2)) hb1 h2 w hK (hG.pK [0] (fun _ hF=>⟨hF.1,hF.2.2.2.1,trivial⟩))))<|jE [[],[],[],[],[]]) (fun ρ6 _=>?_)
 refine aB (jJ Tryz.f11 2 [4,5,7,9,27] [vi 0,vF] ?_)
 refine oN ?_
 refine aG (aA (aB (jJ Tryz.f11 3 [4,5,9,31] [.slice (oa ρ6 0) (xP ts z).length (nb ρ6 0),vn (xP ts z).length,.bool (decide (520<(((xP ts z).length:Nat):Int)))] ?_)))
 refine lK [(4,vz),(5,(vi 0)),(9,(.slice (oa ρ6 0) (xP ts z).length (nb ρ6 0))),(31,(.bool (decide (520<(((xP ts z).length:Nat):Int)))))] [] ?_
 refine oC (decide (520<(((xP ts z).length:Nat):Int))) (fun hb2=>?_) (fun hb2=>?_)
 ·
  rw [hb2]
  refine jJ Tryz.f11 2 [4,5,9] [vz,vi 4] (aF (aC (mD [(4,vz),(5,(vi 4)),(9,(.slice (oa ρ6 0) (xP ts z).length (nb ρ6 0)))] [] ?_)))
  exact mR (v:=(.tuple #[vz,vi 4])) (fun _ hS=>⟨none,0,congrArg Ending.returned (by rw [(wQ hb1 hb2).1,(wQ hb1 hb2).2]<;>rfl),hS.bel,dU (wQ hb1 hb2).2.symm Fs.nil⟩)
 rw [hb2]
 refine aG (aA (jJ Tryz.f11 3 [4,5] (let qa:Value:=.slice (oa ρ6 0) (xP ts z).length (nb ρ6 0);[qa,qa,vi 0]) (aF (mD [(4,(.slice (oa ρ6 0) (xP ts z).length (nb ρ6 0))),(5,(vi 0))] [] ?_))))
 exact mR (v:=(.tuple #[.slice (oa ρ6 0) (xP ts z).length (nb ρ6 0),vi 0])) (fun _ hS=>⟨oa ρ6 0,nb ρ6 0,congrArg Ending.returned (by rw [(ex_ok hb1 hb2).1,(ex_ok hb1 hb2).2]<;>rfl),hS.bel,dU (ex_ok hb1 hb2).2.symm hS.facts.now.2.2.2.2.1⟩)
theorem dexpandN_any (a:Option Addr) (c:Nat) (ts:List bW) (z:Int) (w0:World) (hf0:TmN w0 a c ts) (hf1:kJ w0) (hf2:kX w0):Calls Tryz.prog 11 #[.slice a ts.length c,.int .i64 z] w0 (fun ε w'=>∃ α κ,ε=.returned (.tuple #[.slice α (wG ts z).length κ,.int .i64 (exE ts z)])∧jG w0 w'∧Fs w0 w' α κ (wG ts z)):=dexpand_any a c ts z (fun t ht=>(hf0.2.2.2 t ht).2.1) w0 hf0.1 hf1 hf2
def kK:RowK dO 45:=⟨fun p=>p.row.toList,dO.row_len,kp_one⟩
def kT:RowK bW 36:=⟨fun t=>t.row.toList,bW.row_len,bW.row_one⟩
theorem kpR_one (ks:List dO):∀ u∈kpR ks,u.oneCell'=true:=by
  intro u hu
  obtain ⟨p,_,hu⟩:=List.mem_flatMap.1 hu
  exact kp_one p u hu
theorem oG.srcR {P : Program} {w : World} {a : Option Addr} {c : Nat} {ks : List dO} {tx e' : TypeId} (hk : P.underlying tx = some (.slice e')) (h : oG w a c ks) : Src P 45 tx (.slice a ks.length c) ks.length (kpR ks) w := by
  have hr:Rs w a (kpR ks):=h.rows
  cases a with
  | none =>
    have h0:ks=[]:=by
      rcases hr with h0 | ⟨p,hp,_⟩
      · have := congrArg List.length h0
        rw [kpR_len] at this
        exact List.eq_nil_of_length_eq_zero (by simp only [List.length_nil] at this;omega)
      · exact absurd hp (by simp)
    subst h0
    exact Src.ofNil w hk c
  | some p =>
    refine Src.ofSlice w hk p ks.length c (kpR ks) (kpR_len ks) ?_ (kpR_one ks)
    intro j u hu
    rcases hr with h0 | ⟨p',hp,hh⟩
    · rw [h0] at hu;simp at hu
    · obtain rfl : p = p' := by simpa using hp
      exact hh j u hu
theorem kK_r (ks:List dO):kK.r ks=kpR ks:=by simp only [RowK.r,kpR,kK]
theorem kT_r (ts:List bW):kT.r ts=pV ts:=by simp only [RowK.r,pV,kT]
theorem oG.src {P:Program} {w:World} {a:Option Addr} {c:Nat} {ks:List dO} {tx e':TypeId} (hk:P.underlying tx=some (.slice e')) (h:oG w a c ks):Src P 45 tx (.slice a ks.length c) ks.length (kK.r ks) w:=by
  rw [kK_r];exact h.srcR hk
section
variable {P : Program} {ops : Array Oper} {D : List Nat} {l : List (Nat × Value)} {w0 : Base} {h : List (Nat × Obj)} {F0 : World → Prop}
variable {vals : (Nat → bH) → Nat → Value} {effs : (Nat → bH) → Nat → Eff} {fact : (Nat → bH) → Nat → World → Prop}
end
def KpFs (w:World) (us:List bW):Prop:=∀ t∈us,oG w t.ka t.kc t.ks
theorem KpFs.nil {w:World}:KpFs w []:=fun t ht=>absurd ht (by simp)
section
variable {B : Base} {w : World} {h : List (Nat × Obj)} {F : World → Prop} {g : Nat}
end
theorem okPure {P:Program} {Q:Exit→Act→World→Prop} {n:Nat} {l:List (Nat × Value)} {w0:Base} {h:List (Nat × Obj)} {F:World→Prop} {c:Code} {p:Prop} (hp:∀ w,F w→p) (hk:p→Ok P c Q n l w0 h F):Ok P c Q n l w0 h F :=
  fun A w hf hs=>hk (hp w hs.facts.now) A w hf hs
structure Cpy (ts us:List bW) (i:Nat):Prop where
  e:us.map bW.er=(ts.take i).map bW.neu
  ok:∀ t∈us,t.Ok
  k2:∀ t∈us,t.kd=2→t.ks.length=2
theorem Cpy.nil (ts:List bW):Cpy ts [] 0:=⟨rfl,by simp,by simp⟩
theorem Cpy.len {ts us:List bW} {i:Nat} (h:Cpy ts us i):us.length≤i:=by
  have:=congrArg List.length h.e
  rw [List.length_map,List.length_map,List.length_take] at this
  omega
theorem Cpy.done {ts us:List bW} {i:Nat} (h:Cpy ts us i) (hi:ts.length≤i):Neu ts us:=by
  unfold Neu
  rw [h.e,List.take_of_length_le hi]
theorem bM.drop {w:World} {a:Option Addr} {c:Nat} {ts:List bW} (h:bM w a c ts) {k:Nat} (hk:k≤ts.length):bM w (if c=k then a else a.map (·.add (k*36))) (c-k) (ts.drop k):=by
  have hle:=h.le
  refine ⟨by rw [List.length_drop];omega,by rw [List.length_drop];have:=h.max;omega,?_,fun t ht=>h.sub t (List.mem_of_mem_drop ht),fun t ht=>h.ok t (List.mem_of_mem_drop ht)⟩
  by_cases hc:c=k
  · have : ts.drop k = [] := List.eq_nil_of_length_eq_zero (by rw [List.length_drop]; omega)
    rw [this];exact Or.inl rfl
  · rw [if_neg hc]
    have e:(ts.drop k).flatMap (fun t=>t.row.toList)=(ts.flatMap fun t=>t.row.toList).drop (k*36):=by
      have:=RowK.r_drop kT ts k
      rw [kT_r,kT_r] at this
      exact this
    rw [e]
    exact h.rows.drop _
theorem fd_ks0 {t:bW} (h:t.fd=true) (h1:t.kd≠1) (h2:t.kd≠2):t.ks.length=0:=by
  have:=(qO _ _ _ _ _).1 h
  unfold o7 at this
  omega
theorem aK_oks {ts:List bW} (ho:mP ts):∀ p∈aK ts,p.Ok:=fun p hp=>by
  obtain ⟨t,ht,hp⟩:=List.mem_flatMap.1 hp
  exact (ho t ht).2 p hp
theorem kyN_ok {ts:List bW} (ho:mP ts) (z:Int):∀ n∈gV ts z,n<M:=by
  intro n hn
  unfold gV at hn
  by_cases h0:kZ ts z=0
  · rw [if_pos h0] at hn
    obtain ⟨p,hp,rfl⟩:=List.mem_map.1 hn
    have hz:z.toNat<1000:=by
      unfold kZ at h0
      rw [if_pos (ky_valid (z:=z) (show kZ ts z=0 from h0))] at h0
      by_cases q:0≤z∧z<1000
      · omega
      · rw [if_neg q] at h0;exact absurd h0 (by decide)
    have ok:=aK_oks ho p hp
    refine (yR ok.k fun i hi=>?_).p
    unfold dO.ix at hi
    split at hi
    · rcases List.mem_append.1 hi with q | q
      · exact ok.ps i q
      · rw [List.mem_singleton.1 q];omega
    · exact ok.ps i hi
  · rw [if_neg h0] at hn;simp at hn
theorem oH (ts:List bW) (z:Int):(gV ts z).length≤120:=by
  unfold gV
  by_cases h0:kZ ts z=0
  · rw [if_pos h0];unfold xE;rw [List.length_map];exact vl_aK (ky_valid h0)
  · rw [if_neg h0];exact Nat.zero_le _
def fD (z:Int):Int:=if dm z 2=0 then ((dm z 5:Nat):Int) else ((dm z 1002:Nat):Int)-1
theorem exI_get (z:Int):(#[.int .i64 ((dm z 5:Nat):Int),.int .i64 (((dm z 1002:Nat):Int)-1)]:Array Value)[dm z 2]? = some (.int .i64 (fD z)):=by
  have h:=dm_lt z (n:=2) (by decide)
  unfold fD
  rcases (by omega:dm z 2=0∨dm z 2=1) with e | e
  · rw [e];rfl
  · rw [e];rfl
end Go.Proofs.YtaebcmpbbamfpaaGreatDoor
