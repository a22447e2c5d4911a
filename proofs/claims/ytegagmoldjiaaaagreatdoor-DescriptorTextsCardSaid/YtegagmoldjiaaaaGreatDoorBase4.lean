/-
  What this statement needs, part 4: the texts of it, one behind the other.
-/
import Derived.Test.YtegagmoldjiaaaaGreatDoorBase3
set_option maxRecDepth 100000
namespace Go.Proofs.YtegagmoldjiaaaaGreatDoor
open Go Go.RowKit
theorem jC (z:Int) (w0:World):Calls Tryz.prog 19 #[vi z] w0 (jR (vi (nO z)) w0):=by
 refine Calls.of_ok (n:=13) (F:=(fun _=>True)) Tryz.func19 rfl rfl rfl (by simp) jT ?_
 refine jJ Tryz.f19 1 [0,2] [vi 0] (aB (jJ Tryz.f19 1 [2,3] [vi z] (aI (aB (jJ Tryz.f19 2 [2,3,4] [.bool (z==1),.bool (z==1)] ?_)))))
 refine oC (z==1) (fun hb1=>?_) (fun hb1=>?_)
 ·
  rw [hb1]
  refine aG (aA ?_)
  refine oY ?_
  refine jJ Tryz.f19 1 [2] [vi 0] (aF (aP (aC ?_)))
  exact mR (v:=(vi 0)) (fun _ hS=>⟨congrArg (fun x=>Ending.returned (vi x)) (kd_1 (by have:=xQ hb1;omega)),hS.bel⟩)
 rw [hb1]
 refine jL Tryz.f19 2 [2,3,4] [] [.bool (z==2),.bool (z==2)] [[],[]] (aA ?_)
 refine oC (z==2) (fun hb2=>?_) (fun hb2=>?_)
 ·
  rw [hb2]
  refine jJ Tryz.f19 1 [2] [vi 0] (aF (aP (aC ?_)))
  exact mR (v:=(vi 0)) (fun _ hS=>⟨congrArg (fun x=>Ending.returned (vi x)) (kd_1 (by have:=jP hb1;have:=xQ hb2;omega)),hS.bel⟩)
 rw [hb2]
 refine aB (jJ Tryz.f19 2 [2,3,7] [.bool (z==3),.bool (z==3)] ?_)
 refine oC (z==3) (fun hb3=>?_) (fun hb3=>?_)
 ·
  rw [hb3]
  refine aG (aA ?_)
  refine oY ?_
  refine jJ Tryz.f19 1 [2] [vi 1] (aF (aP (aC ?_)))
  exact mR (v:=(vi 1)) (fun _ hS=>⟨congrArg (fun x=>Ending.returned (vi x)) (kd_3 (by have:=jP hb1;have:=jP hb2;have:=xQ hb3;omega)),hS.bel⟩)
 rw [hb3]
 refine jJ Tryz.f19 2 [2,3,7] [.bool (z==4),.bool (z==4)] ?_
 refine oC (z==4) (fun hb4=>?_) (fun hb4=>?_)
 ·
  rw [hb4]
  refine aG (aA ?_)
  refine oY ?_
  refine jJ Tryz.f19 1 [2] [vi 1] (aF (aP (aC ?_)))
  exact mR (v:=(vi 1)) (fun _ hS=>⟨congrArg (fun x=>Ending.returned (vi x)) (kd_3 (by have:=jP hb1;have:=jP hb2;have:=jP hb3;have:=xQ hb4;omega)),hS.bel⟩)
 rw [hb4]
 refine jL Tryz.f19 2 [2,3,7] [] [.bool (z==5),.bool (z==5)] [[],[]] (aA ?_)
 refine oC (z==5) (fun hb5=>?_) (fun hb5=>?_)
 ·
  rw [hb5]
  refine jJ Tryz.f19 1 [2] [vi 1] (aF (aP (aC ?_)))
  exact mR (v:=(vi 1)) (fun _ hS=>⟨congrArg (fun x=>Ending.returned (vi x)) (kd_3 (by have:=jP hb1;have:=jP hb2;have:=jP hb3;have:=jP hb4;have:=xQ hb5;omega)),hS.bel⟩)
 rw [hb5]
 refine jJ Tryz.f19 2 [2,11] [.bool (z==6),.bool (z==6)] ?_
 refine lK [(2,(vi 0)),(11,(.bool (z==6)))] [] ?_
 refine oC (z==6) (fun hb6=>?_) (fun hb6=>?_)
 ·
  rw [hb6]
  refine jJ Tryz.f19 1 [2] [vi 2] (aF (aP (aC ?_)))
  exact mR (v:=(vi 2)) (fun _ hS=>⟨congrArg (fun x=>Ending.returned (vi x)) (kd_6 (by have:=jP hb1;have:=jP hb2;have:=jP hb3;have:=jP hb4;have:=jP hb5;have:=xQ hb6;omega)),hS.bel⟩)
 rw [hb6]
 refine aG (aJ (aA (jJ Tryz.f19 1 [2] [vi (-1)] (aF ?_))))
 exact mR (v:=(vi (-1))) (fun _ hS=>⟨congrArg (fun x=>Ending.returned (vi x)) (kd_0 (by have:=jP hb1;have:=jP hb2;have:=jP hb3;have:=jP hb4;have:=jP hb5;have:=jP hb6;omega)),hS.bel⟩)
theorem rdkids_any (z:Int) (w0:World):Calls Tryz.prog 62 #[vi z] w0 (jR (vi (nO z)) w0):=by
 refine Calls.of_ok (n:=13) (F:=(fun _=>True)) Tryz.func62 rfl rfl rfl (by simp) jT ?_
 refine jJ Tryz.f62 1 [0,2] [vi 0] (aB (jJ Tryz.f62 1 [2,3] [vi z] (aI (aB (jJ Tryz.f62 2 [2,3,4] [.bool (z==1),.bool (z==1)] ?_)))))
 refine oC (z==1) (fun hb1=>?_) (fun hb1=>?_)
 ·
  rw [hb1]
  refine aG (aA ?_)
  refine oY ?_
  refine jJ Tryz.f62 1 [2] [vi 0] (aF (aP (aC ?_)))
  exact mR (v:=(vi 0)) (fun _ hS=>⟨congrArg (fun x=>Ending.returned (vi x)) (kd_1 (by have:=xQ hb1;omega)),hS.bel⟩)
 rw [hb1]
 refine jL Tryz.f62 2 [2,3,4] [] [.bool (z==2),.bool (z==2)] [[],[]] (aA ?_)
 refine oC (z==2) (fun hb2=>?_) (fun hb2=>?_)
 ·
  rw [hb2]
  refine jJ Tryz.f62 1 [2] [vi 0] (aF (aP (aC ?_)))
  exact mR (v:=(vi 0)) (fun _ hS=>⟨congrArg (fun x=>Ending.returned (vi x)) (kd_1 (by have:=jP hb1;have:=xQ hb2;omega)),hS.bel⟩)
 rw [hb2]
 refine aB (jJ Tryz.f62 2 [2,3,7] [.bool (z==3),.bool (z==3)] ?_)
 refine oC (z==3) (fun hb3=>?_) (fun hb3=>?_)
 ·
  rw [hb3]
  refine aG (aA ?_)
  refine oY ?_
  refine jJ Tryz.f62 1 [2] [vi 1] (aF (aP (aC ?_)))
  exact mR (v:=(vi 1)) (fun _ hS=>⟨congrArg (fun x=>Ending.returned (vi x)) (kd_3 (by have:=jP hb1;have:=jP hb2;have:=xQ hb3;omega)),hS.bel⟩)
 rw [hb3]
 refine jJ Tryz.f62 2 [2,3,7] [.bool (z==4),.bool (z==4)] ?_
 refine oC (z==4) (fun hb4=>?_) (fun hb4=>?_)
 ·
  rw [hb4]
  refine aG (aA ?_)
  refine oY ?_
  refine jJ Tryz.f62 1 [2] [vi 1] (aF (aP (aC ?_)))
  exact mR (v:=(vi 1)) (fun _ hS=>⟨congrArg (fun x=>Ending.returned (vi x)) (kd_3 (by have:=jP hb1;have:=jP hb2;have:=jP hb3;have:=xQ hb4;omega)),hS.bel⟩)
 rw [hb4]
 refine jL Tryz.f62 2 [2,3,7] [] [.bool (z==5),.bool (z==5)] [[],[]] (aA ?_)
 refine oC (z==5) (fun hb5=>?_) (fun hb5=>?_)
 ·
  rw [hb5]
  refine jJ Tryz.f62 1 [2] [vi 1] (aF (aP (aC ?_)))
  exact mR (v:=(vi 1)) (fun _ hS=>⟨congrArg (fun x=>Ending.returned (vi x)) (kd_3 (by have:=jP hb1;have:=jP hb2;have:=jP hb3;have:=jP hb4;have:=xQ hb5;omega)),hS.bel⟩)
 rw [hb5]
 refine jJ Tryz.f62 2 [2,11] [.bool (z==6),.bool (z==6)] ?_
 refine lK [(2,(vi 0)),(11,(.bool (z==6)))] [] ?_
 refine oC (z==6) (fun hb6=>?_) (fun hb6=>?_)
 ·
  rw [hb6]
  refine jJ Tryz.f62 1 [2] [vi 2] (aF (aP (aC ?_)))
  exact mR (v:=(vi 2)) (fun _ hS=>⟨congrArg (fun x=>Ending.returned (vi x)) (kd_6 (by have:=jP hb1;have:=jP hb2;have:=jP hb3;have:=jP hb4;have:=jP hb5;have:=xQ hb6;omega)),hS.bel⟩)
 rw [hb6]
 refine aG (aJ (aA (jJ Tryz.f62 1 [2] [vi (-1)] (aF ?_))))
 exact mR (v:=(vi (-1))) (fun _ hS=>⟨congrArg (fun x=>Ending.returned (vi x)) (kd_0 (by have:=jP hb1;have:=jP hb2;have:=jP hb3;have:=jP hb4;have:=jP hb5;have:=jP hb6;omega)),hS.bel⟩)
theorem dwhole_any (a:Option Addr) (c:Nat) (ts:List bW) (w0:World) (hf0:bM w0 a c ts):Calls Tryz.prog 38 #[.slice a ts.length c] w0 (jR (.bool (vG 1 ts)) w0):=by
 refine Calls.of_ok (n:=29) (F:=(fun w=>bM w a c ts∧True)) Tryz.func38 rfl rfl rfl (by simp) (hf0.pers0.and cO) ?_
 have hlen:ts.length≤1000000:=hf0.max
 have ho:mP ts:=hf0.oks
 refine jJ Tryz.f38 1 [0,2] [vF] (jJ Tryz.f38 1 [0,2,3] [vi 1] (aB (jJ Tryz.f38 3 [2,3,7,8,9] [.slice a ts.length c,vn ts.length,vi 0] (aI ?_))))
 refine oL (σ:=Nat × Int) (fun ⟨i,m⟩=>[(3,(vi m)),(7,(.slice a ts.length c)),(8,(vn ts.length)),(9,(vn i))]) (fun ⟨_,_⟩=>[]) (fun ⟨i,_⟩=>ts.length-i)
   (fun ⟨i,m⟩=>(i≤ts.length)∧(0≤m∧m≤1+(i:Int))∧(vG m (ts.drop i)=vG 1 ts)) (0,1) (⟨Nat.zero_le _,by decide,rfl⟩) [] ?_
 rintro ⟨i,m⟩ ⟨hi,hm,hr⟩
 change Ok Tryz.prog _ _ 29 [(3,(vi m)),(7,(.slice a ts.length c)),(8,(vn ts.length)),(9,(vn i))] _ [] (fun w=>bM w a c ts∧True)
 refine jJ Tryz.f38 1 [3,7,8,9,10] [.bool (decide (((i:Nat):Int)<((ts.length:Nat):Int)))] (aB ?_)
 refine oC (decide (((i:Nat):Int)<((ts.length:Nat):Int))) (fun hb1=>?_) (fun hb1=>?_)
 ·
  rw [hb1]
  have:=yT hb1
  refine aG (aA (aB (aI ?_)))
  refine sS Tryz.f38 4 [3,5,7,8,9] [] (fun ρ=>[.pointer (fK a (i*36)),.agg (bW.row (gT ts i)),pt (nb ρ 2),undef]) (fun ρ=>[(2,(nw ρ 2 (cL (iC 0 0 0 0 vz) 50))),(3,(bD 16 (nb ρ 2) (cL (bW.row (gT ts i)) 50)))]) (cX (qF (fun _ _ _ hG=>bM.idx (k:=.i64) Tryz.underlying24 Tryz.sizeOf50 hG.fn.1 rfl (show ((i:Nat):Int)=((i:Nat):Int) from rfl) (show i<ts.length from (by omega))))<|cX (qF (fun _ _ _ hG=>bM.ldA (i:=i) Tryz.isAgg50 Tryz.sizeOf50 hG.fn.1 (show i<ts.length from (by omega))))<|jE [[],[16]]) (fun ρ5=>?_)
  refine sS Tryz.f38 4 [3,6,7,8,9] [0] (fun _=>[pt (nb ρ5 2),vi (gT ts i).kd,vi (nO (gT ts i).kd),vi (nO (gT ts i).kd)]) (fun _=>[]) (cR [[],[0]]<|cC (fun _ w=>jC (gT ts i).kd w)<|jE [[]]) (fun _=>?_)
  refine aB ?_
  rcases Bool.eq_false_or_eq_true (m==0) with hb2 | hb2
  ·
   refine sS Tryz.f38 6 [3,6,7,8,9,21] [] (fun _=>[vi m,vT,vT,undef,undef,vT]) (fun _=>[]) (cR [[]]<|cA (fun _=>vT) (fun _=>congrArg Value.bool hb2)<|jE [[],[],[],[]]) (fun _=>?_)
   refine oY ?_
   refine jJ Tryz.f38 1 [2,3,6,7,8,9] [vF] (aF (aC (aP (aC (aC (aP (aC ?_)))))))
   exact mR (v:=vF) (fun _ hS=>⟨jB (wh_stop (by omega) (Or.inl (xQ hb2)) hr).symm,hS.bel⟩)
  refine sS Tryz.f38 6 [3,6,7,8,9,21] [] (fun _=>let qa:Value:=.bool (decide ((nO (gT ts i).kd)<0));[vi m,vF,vF,vi (nO (gT ts i).kd),qa,qa]) (fun _=>[]) (cR [[]]<|cA (fun _=>vF) (fun _=>congrArg Value.bool hb2)<|jE [[],[],[],[]]) (fun _=>?_)
  refine oC (decide ((nO (gT ts i).kd)<0)) (fun hb3=>?_) (fun hb3=>?_)
  ·
   rw [hb3]
   refine jJ Tryz.f38 1 [2,3,6,7,8,9] [vF] (aF (aC (aP (aC (aC (aP (aC ?_)))))))
   exact mR (v:=vF) (fun _ hS=>⟨jB (wh_stop (by have:=yT hb3;omega) (Or.inr (yT hb3)) hr).symm,hS.bel⟩)
  rw [hb3]
  have:=yF hb3
  refine aG (aA ?_)
  refine rS Tryz.f38 5 [3,7,8,9] [] (fun _=>let qa:=vi (m+(nO (gT ts i).kd-1));[vi m,vi (nO (gT ts i).kd),vi (nO (gT ts i).kd-1),qa,qa]) (fun _=>[]) (cR [[],[]]<|jU (fun ρ=>((nO (gT ts i).kd)-1)) (fun _=>(nO (gT ts i).kd-1)) (fun _=>(gZ (by have:=zM (gT ts i).kd;omega)))<|jU (fun ρ=>(m+(nO (gT ts i).kd-1))) (fun _=>(m+(nO (gT ts i).kd-1))) (fun _=>(gZ (by have:=zM (gT ts i).kd;omega)))<|jE [[]]) (fun _=>?_)
  refine aJ (aA ?_)
  refine rS Tryz.f38 2 [3,7,8,9] [] (fun _=>[vn (i+1),vn (i+1)]) (fun _=>[]) (jW (fun ρ=>(((i:Nat):Int)+1)) (fun _=>(i+1)) (fun _=>(aW i 1 (by omega)))<|jE [[]]) (fun _=>?_)
  exact mN (i+1,m+(nO (gT ts i).kd-1)) (by show ts.length-(i+1)<ts.length-i;omega) (⟨(by omega),by have:=zM (gT ts i).kd;have:=jP hb2;omega,wh_next (by omega) (jP hb2) (yF hb3) hr⟩) []
 rw [hb1]
 refine bF (aN (aN (aT (aA (jJ Tryz.f38 3 [2] [vi m,.bool (m==0),.bool (m==0)] (aF ?_))))))
 exact mR (v:=(.bool (m==0))) (fun _ hS=>⟨jB ((beq_dec m).trans (wh_end (by have:=yF hb1;omega) hr)),hS.bel⟩)
theorem rdshaped_any (a:Option Addr) (c:Nat) (ts:List bW) (w0:World) (hf0:bM w0 a c ts):Calls Tryz.prog 33 #[.slice a ts.length c] w0 (jR (.bool (shB ts)) w0):=by
 refine Calls.of_ok (n:=40) (F:=(fun w=>bM w a c ts∧True)) Tryz.func33 rfl rfl rfl (by simp) (hf0.pers0.and cO) ?_
 have hlen:ts.length≤1000000:=hf0.max
 have ho:mP ts:=hf0.oks
 refine jJ Tryz.f33 1 [0,2] [vF] (jJ Tryz.f33 1 [0,2,3] [vi 1] (aB (jJ Tryz.f33 1 [0,2,3,4] [vi 0] (aI ?_))))
 refine oL (σ:=Nat × Int) (fun ⟨i,m⟩=>[(0,(.slice a ts.length c)),(3,(vi m)),(4,(vn i))]) (fun ⟨_,_⟩=>[]) (fun ⟨i,_⟩=>ts.length-i)
   (fun ⟨i,m⟩=>(i≤ts.length)∧(0≤m∧m≤1+(i:Int))∧(vG m (ts.drop i)=vG 1 ts)) (0,1) (⟨Nat.zero_le _,by decide,rfl⟩) [] ?_
 rintro ⟨i,m⟩ ⟨hi,hm,hr⟩
 change Ok Tryz.prog _ _ 40 [(0,(.slice a ts.length c)),(3,(vi m)),(4,(vn i))] _ [] (fun w=>bM w a c ts∧True)
 refine aB (jJ Tryz.f33 4 [0,3,4,9] [vn i,.slice a ts.length c,vn ts.length,.bool (decide (((i:Nat):Int)<((ts.length:Nat):Int)))] ?_)
 refine oC (decide (((i:Nat):Int)<((ts.length:Nat):Int))) (fun hb1=>?_) (fun hb1=>?_)
 ·
  rw [hb1]
  have:=yT hb1
  refine aG (aA (aB (aI ?_)))
  refine sS Tryz.f33 7 [0,3,4,5] [] (fun _=>let qa:Value:=.pointer (fK a (i*36));[.slice a ts.length c,vn i,qa,qa,vi (gT ts i).kd,vi (nO (gT ts i).kd),vi (nO (gT ts i).kd)]) (fun _=>[]) (cR [[],[]]<|cX (qF (fun _ _ _ hG=>bM.idx (k:=.i64) Tryz.underlying24 Tryz.sizeOf50 hG.fn.1 rfl (show ((i:Nat):Int)=((i:Nat):Int) from rfl) (show i<ts.length from (by omega))))<|cX (jF (fun _=>Instr.fieldAt 50 (.pointer (fK a (i*36))) 0) (fun _=>(.pointer (fK a (i*36)))) (fun _ _ _ hG=>uH (o:=0) (k:=i*36) Tryz.underlying50 rfl rfl rfl Tryz.sizeOf3 (hG.fn.1.pos (show i<ts.length from (by omega))).1 (hG.fn.1.pos (show i<ts.length from (by omega))).2) (fun _ _ _ _=>cO))<|cX (qF (fun _ _ _ hG=>bM.ld (v:=(vi (gT ts i).kd)) (i:=i) (j:=0) Tryz.isAgg3 hG.fn.1 (show i<ts.length from (by omega)) (by decide) (by kernel_rfl)))<|cC (fun _ w=>rdkids_any (gT ts i).kd w)<|jE [[]]) (fun _=>?_)
  refine aB ?_
  rcases Bool.eq_false_or_eq_true (decide ((nO (gT ts i).kd)<0)) with hb2 | hb2
  ·
   refine sS Tryz.f33 6 [0,3,4,5,23] [] (fun _=>[vi (nO (gT ts i).kd),vT,vT,undef,undef,vT]) (fun _=>[]) (cR [[]]<|cA (fun _=>vT) (fun _=>congrArg Value.bool hb2)<|jE [[],[],[],[]]) (fun _=>?_)
   refine oY ?_
   refine jJ Tryz.f33 1 [0,2,3,4,5] [vF] (aF (aC (aP (aC (aC (aP (aC ?_)))))))
   exact mR (v:=vF) (fun _ hS=>⟨jB (show false=shB ts by unfold shB;rw [wh_stop (by have:=yT hb2;omega) (Or.inr (yT hb2)) hr];rfl),hS.bel⟩)
  refine sS Tryz.f33 6 [0,3,4,5,23] [] (fun _=>[vi (nO (gT ts i).kd),vF,vF,vi m,.bool (m==0),.bool (m==0)]) (fun _=>[]) (cR [[]]<|cA (fun _=>vF) (fun _=>congrArg Value.bool hb2)<|jE [[],[],[],[]]) (fun _=>?_)
  refine oC (m==0) (fun hb3=>?_) (fun hb3=>?_)
  ·
   rw [hb3]
   refine jJ Tryz.f33 1 [0,2,3,4,5] [vF] (aF (aC (aP (aC (aC (aP (aC ?_)))))))
   exact mR (v:=vF) (fun _ hS=>⟨jB (show false=shB ts by unfold shB;rw [wh_stop (by have:=yF hb2;omega) (Or.inl (xQ hb3)) hr];rfl),hS.bel⟩)
  rw [hb3]
  refine aG (aA ?_)
  refine rS Tryz.f33 5 [0,3,4] [] (fun _=>let qa:=vi (m+(nO (gT ts i).kd-1));[vi m,vi (m-1),vi (nO (gT ts i).kd),qa,qa]) (fun _=>[]) (cR [[]]<|jU (fun ρ=>(m-1)) (fun _=>(m-1)) (fun _=>(gZ (by omega)))<|cR [[]]<|jU (fun ρ=>((m-1)+(nO (gT ts i).kd))) (fun _=>(m+(nO (gT ts i).kd-1))) (fun _=>((gZ (by have:=zM (gT ts i).kd;omega)).trans (by omega)))<|jE [[]]) (fun _=>?_)
  refine aJ (aA ?_)
  refine rS Tryz.f33 3 [0,3,4] [] (fun _=>[vn i,vn (i+1),vn (i+1)]) (fun _=>[]) (cR [[]]<|jW (fun ρ=>(((i:Nat):Int)+1)) (fun _=>(i+1)) (fun _=>(aW i 1 (by have:=yF hb2;omega)))<|jE [[]]) (fun _=>?_)
  exact mN (i+1,m+(nO (gT ts i).kd-1)) (by show ts.length-(i+1)<ts.length-i;have:=yF hb2;omega) (⟨(by have:=yF hb2;omega),by have:=zM (gT ts i).kd;have:=jP hb3;have:=yF hb2;omega,wh_next (by have:=yF hb2;omega) (jP hb3) (yF hb2) hr⟩) []
 rw [hb1]
 have:=yF hb1
 refine bF (aN (aN (aT (aA ?_))))
 rcases Bool.eq_false_or_eq_true (m==0) with hb4 | hb4
 ·
  rcases Bool.eq_false_or_eq_true (decide (1≤((ts.length:Nat):Int))) with hb5 | hb5
  ·
   refine sS Tryz.f33 13 [2] [] (fun _=>let qa:Value:=.bool (decide (((ts.length:Nat):Int)≤8));[vi m,vT,vT,.slice a ts.length c,vn ts.length,vT,vT,vT,.slice a ts.length c,vn ts.length,qa,qa,qa]) (fun _=>[]) (cR [[]]<|cA (fun _=>vT) (fun _=>congrArg Value.bool hb4)<|cR [[],[],[]]<|cA (fun _=>vT) (fun _=>congrArg Value.bool hb5)<|jE [[],[],[],[],[],[],[]]) (fun _=>?_)
   refine aF ?_
   exact mR (v:=(.bool (decide (((ts.length:Nat):Int)≤8)))) (fun _ hS=>⟨jB (sh_2 (wh_end (by have:=yT hb5;omega) hr) hb4 hb5),hS.bel⟩)
  refine sS Tryz.f33 13 [2] [] (fun _=>[vi m,vT,vT,.slice a ts.length c,vn ts.length,vF,vF,vF,undef,undef,undef,vF,vF]) (fun _=>[]) (cR [[]]<|cA (fun _=>vT) (fun _=>congrArg Value.bool hb4)<|cR [[],[],[]]<|cA (fun _=>vF) (fun _=>congrArg Value.bool hb5)<|jE [[],[],[],[],[],[],[]]) (fun _=>?_)
  refine aF ?_
  exact mR (v:=vF) (fun _ hS=>⟨jB (sh_1 (wh_end (by have:=yF hb5;omega) hr) hb4 hb5),hS.bel⟩)
 refine sS Tryz.f33 13 [2] [] (fun _=>[vi m,vF,vF,undef,undef,undef,vF,vF,undef,undef,undef,vF,vF]) (fun _=>[]) (cR [[]]<|cA (fun _=>vF) (fun _=>congrArg Value.bool hb4)<|jE [[],[],[],[],[],[],[],[],[],[],[]]) (fun _=>?_)
 refine aF ?_
 exact mR (v:=vF) (fun _ hS=>⟨jB (sh_0 (wh_end (by omega) hr) hb4),hS.bel⟩)
theorem dfields_any (kd : Int) (m : Int) (nu : Nat) (h : Nat) (ka : Option Addr) (kc : Nat) (ks : List dO) (hh : h < M) (w0 : World) : Calls Tryz.prog 39 #[.agg (iC kd m ((nu : Nat) : Int) h (.slice ka ks.length kc))] w0 (jR (.bool (fdN kd m nu h ks.length)) w0) := by
 refine Calls.of_ok (n:=70) (F:=(fun _=>True)) Tryz.func39 rfl rfl rfl (by simp) jT ?_
 refine sS Tryz.f39 2 [1,2] [] (fun ρ=>[pt (nb ρ 0),vF]) (fun ρ=>[(0,(nw ρ 0 (cL (iC kd m ((nu:Nat):Int) h (.slice ka ks.length kc)) 50)))]) (jE [[],[]]) (fun ρ1=>?_)
 refine okJ1 (σ:=Unit) (fun _=>[(1,(pt (nb ρ1 0)))]) (fun _=>[(nb ρ1 0,(cL (iC kd m ((nu:Nat):Int) h (.slice ka ks.length kc)) 50))]) (fun _=>(fun _=>True)) (fun _=>(kd=2∨m=0)) ?_ ?_
 ·
  rintro _u hj1
  change Ok Tryz.prog _ _ 70 [(1,(pt (nb ρ1 0)))] _ [(nb ρ1 0,(cL (iC kd m ((nu:Nat):Int) h (.slice ka ks.length kc)) 50))] (fun _=>True)
  refine okJ1 (σ:=Unit) (fun _=>[(1,(pt (nb ρ1 0)))]) (fun _=>[(nb ρ1 0,(cL (iC kd m ((nu:Nat):Int) h (.slice ka ks.length kc)) 50))]) (fun _=>(fun _=>True)) (fun _=>(kd=3∨kd=4∨nu=0)) ?_ ?_
  ·
   rintro _u hj2
   change Ok Tryz.prog _ _ 70 [(1,(pt (nb ρ1 0)))] _ [(nb ρ1 0,(cL (iC kd m ((nu:Nat):Int) h (.slice ka ks.length kc)) 50))] (fun _=>True)
   refine okJ1 (σ:=Unit) (fun _=>[(1,(pt (nb ρ1 0)))]) (fun _=>[(nb ρ1 0,(cL (iC kd m ((nu:Nat):Int) h (.slice ka ks.length kc)) 50))]) (fun _=>(fun _=>True)) (fun _=>(kd=5∨h=0)) ?_ ?_
   ·
    rintro _u hj3
    change Ok Tryz.prog _ _ 70 [(1,(pt (nb ρ1 0)))] _ [(nb ρ1 0,(cL (iC kd m ((nu:Nat):Int) h (.slice ka ks.length kc)) 50))] (fun _=>True)
    refine aB (jM Tryz.f39 2 [1,34] [] [pt (nb ρ1 0),vi kd] [[],[0]] (aI (jJ Tryz.f39 2 [1,34,35] [.bool (kd==1),.bool (kd==1)] ?_)))
    refine oC (kd==1) (fun hb1=>?_) (fun hb1=>?_)
    ·
     rw [hb1]
     refine jM Tryz.f39 5 [1,2] [] (let qa:Value:=.bool (((ks.length:Nat):Int)==1);[jp (nb ρ1 0) 35,.slice ka ks.length kc,vn ks.length,qa,qa]) [[],[0],[],[],[]] (aF (aP (aC ?_)))
     exact mR (v:=(.bool (((ks.length:Nat):Int)==1))) (fun _ hS=>⟨jB (fd_b (by have:=xQ hb1;have:=hj1;have:=hj2;have:=hj3;unfold o7;omega)),hS.bel⟩)
    rw [hb1]
    refine jJ Tryz.f39 2 [1,41] [.bool (kd==2),.bool (kd==2)] ?_
    refine oC (kd==2) (fun hb2=>?_) (fun hb2=>?_)
    ·
     rw [hb2]
     rcases Bool.eq_false_or_eq_true (decide (1≤((ks.length:Nat):Int))) with hb3 | hb3
     ·
      rcases Bool.eq_false_or_eq_true (decide (((ks.length:Nat):Int)≤15)) with hb4 | hb4
      ·
       rcases Bool.eq_false_or_eq_true (decide (1≤m)) with hb5 | hb5
       ·
        refine sS Tryz.f39 24 [1,2] [] (fun _=>let qa:Value:=.bool (decide (m≤((ks.length:Nat):Int)));let qb:Value:=.slice ka ks.length kc;[jp (nb ρ1 0) 35,qb,vn ks.length,vT,vT,jp (nb ρ1 0) 35,qb,vn ks.length,vT,vT,vT,jp (nb ρ1 0) 1,vi m,vT,vT,vT,jp (nb ρ1 0) 1,vi m,jp (nb ρ1 0) 35,qb,vn ks.length,qa,qa,qa]) (fun _=>[]) (cR [[],[0],[]]<|cA (fun _=>vT) (fun _=>congrArg Value.bool hb3)<|cR [[],[],[0],[]]<|cA (fun _=>vT) (fun _=>congrArg Value.bool hb4)<|cR [[],[],[],[0]]<|cA (fun _=>vT) (fun _=>congrArg Value.bool hb5)<|jE [[],[],[],[0],[],[0],[],[],[],[]]) (fun _=>?_)
        refine aF (aP (aC ?_))
        exact mR (v:=(.bool (decide (m≤((ks.length:Nat):Int))))) (fun _ hS=>⟨jB (fd_d (by have:=jP hb1;have:=xQ hb2;have:=yT hb3;have:=yT hb4;have:=yT hb5;have:=hj1;have:=hj2;have:=hj3;unfold o7;omega)),hS.bel⟩)
       refine sS Tryz.f39 24 [1,2] [] (fun _=>[jp (nb ρ1 0) 35,.slice ka ks.length kc,vn ks.length,vT,vT,jp (nb ρ1 0) 35,.slice ka ks.length kc,vn ks.length,vT,vT,vT,jp (nb ρ1 0) 1,vi m,vF,vF,vF,undef,undef,undef,undef,undef,undef,vF,vF]) (fun _=>[]) (cR [[],[0],[]]<|cA (fun _=>vT) (fun _=>congrArg Value.bool hb3)<|cR [[],[],[0],[]]<|cA (fun _=>vT) (fun _=>congrArg Value.bool hb4)<|cR [[],[],[],[0]]<|cA (fun _=>vF) (fun _=>congrArg Value.bool hb5)<|jE [[],[],[],[],[],[],[],[],[],[]]) (fun _=>?_)
       refine aF (aP (aC ?_))
       exact mR (v:=vF) (fun _ hS=>⟨jB (qU (by have:=jP hb1;have:=xQ hb2;have:=yT hb3;have:=yT hb4;have:=yF hb5;have:=hj1;have:=hj2;have:=hj3;unfold o7;omega)),hS.bel⟩)
      refine sS Tryz.f39 24 [1,2] [] (fun _=>[jp (nb ρ1 0) 35,.slice ka ks.length kc,vn ks.length,vT,vT,jp (nb ρ1 0) 35,.slice ka ks.length kc,vn ks.length,vF,vF,vF,undef,undef,undef,vF,vF,undef,undef,undef,undef,undef,undef,vF,vF]) (fun _=>[]) (cR [[],[0],[]]<|cA (fun _=>vT) (fun _=>congrArg Value.bool hb3)<|cR [[],[],[0],[]]<|cA (fun _=>vF) (fun _=>congrArg Value.bool hb4)<|jE [[],[],[],[],[],[],[],[],[],[],[],[],[],[],[]]) (fun _=>?_)
      refine aF (aP (aC ?_))
      exact mR (v:=vF) (fun _ hS=>⟨jB (qU (by have:=jP hb1;have:=xQ hb2;have:=yT hb3;have:=yF hb4;have:=hj1;have:=hj2;have:=hj3;unfold o7;omega)),hS.bel⟩)
     refine sS Tryz.f39 24 [1,2] [] (fun _=>[jp (nb ρ1 0) 35,.slice ka ks.length kc,vn ks.length,vF,vF,undef,undef,undef,undef,vF,vF,undef,undef,undef,vF,vF,undef,undef,undef,undef,undef,undef,vF,vF]) (fun _=>[]) (cR [[],[0],[]]<|cA (fun _=>vF) (fun _=>congrArg Value.bool hb3)<|jE [[],[],[],[],[],[],[],[],[],[],[],[],[],[],[],[],[],[],[],[]]) (fun _=>?_)
     refine aF (aP (aC ?_))
     exact mR (v:=vF) (fun _ hS=>⟨jB (qU (by have:=jP hb1;have:=xQ hb2;have:=yF hb3;have:=hj1;have:=hj2;have:=hj3;unfold o7;omega)),hS.bel⟩)
    rw [hb2]
    refine aG (aJ (aA (jM Tryz.f39 5 [2] [0] (let qa:Value:=.bool (((ks.length:Nat):Int)==0);[jp (nb ρ1 0) 35,.slice ka ks.length kc,vn ks.length,qa,qa]) [[],[0],[],[],[]] (aF ?_))))
    exact mR (v:=(.bool (((ks.length:Nat):Int)==0))) (fun _ hS=>⟨jB (fd_b (by have:=jP hb1;have:=jP hb2;have:=hj1;have:=hj2;have:=hj3;unfold o7;omega)),hS.bel⟩)
   intro J1
   refine aB ?_
   rcases Bool.eq_false_or_eq_true (kd != 5) with hb6 | hb6
   ·
    refine sS Tryz.f39 9 [1,32] [] (fun _=>[pt (nb ρ1 0),vi kd,vT,vT,jp (nb ρ1 0) 3,.agg (hB h),.agg (hB 0),.bool (!decide (h=0)),.bool (!decide (h=0))]) (fun _=>[]) (cR [[],[0]]<|cA (fun _=>vT) (fun _=>congrArg Value.bool hb6)<|cR [[],[],[0],[]]<|cB (a:=fun ρ=>(.agg (hB h))) (b:=fun ρ=>(.agg (hB 0))) (v:=fun ρ=>(.bool (!decide (h=0)))) .neq 47 (fun _ _=>neqH h 0 hh (by decide +kernel) _)<|jE [[]]) (fun _=>?_)
    refine oC (!decide (h=0)) (fun hb7=>?_) (fun hb7=>?_)
    ·
     rw [hb7]
     refine jJ Tryz.f39 1 [1,2] [vF] (aF (aC ?_))
     exact mR (v:=vF) (fun _ hS=>⟨jB (qU (by have:=iK hb6;have:=yF (dF hb7);have:=hj1;have:=hj2;unfold o7;omega)),hS.bel⟩)
    rw [hb7]
    refine aG (aA ?_)
    refine lK [(1,(pt (nb ρ1 0))),(32,vF)] [(nb ρ1 0,(cL (iC kd m ((nu:Nat):Int) h (.slice ka ks.length kc)) 50))] ?_
    exact okE J1 () (by have:=iK hb6;have:=yT (aV hb7);omega) (fun w hS=>hS)
   refine sS Tryz.f39 9 [1,32] [] (fun _=>[pt (nb ρ1 0),vi kd,vF,vF,undef,undef,undef,undef,vF]) (fun _=>[]) (cR [[],[0]]<|cA (fun _=>vF) (fun _=>congrArg Value.bool hb6)<|jE [[],[],[],[],[],[]]) (fun _=>?_)
   refine oN ?_
   refine aG (aA ?_)
   refine lK [(1,(pt (nb ρ1 0))),(32,vF)] [(nb ρ1 0,(cL (iC kd m ((nu:Nat):Int) h (.slice ka ks.length kc)) 50))] ?_
   exact okE J1 () (by have:=dD hb6;omega) (fun w hS=>hS)
  intro J2
  refine aB ?_
  rcases Bool.eq_false_or_eq_true (kd != 3) with hb8 | hb8
  ·
   rcases Bool.eq_false_or_eq_true (kd != 4) with hb9 | hb9
   ·
    refine sS Tryz.f39 13 [1,23] [] (fun _=>let qa:Value:=.bool (((nu:Nat):Int) != 0);[pt (nb ρ1 0),vi kd,vT,vT,pt (nb ρ1 0),vi kd,vT,vT,vT,jp (nb ρ1 0) 2,vu nu,qa,qa]) (fun _=>[]) (cR [[],[0]]<|cA (fun _=>vT) (fun _=>congrArg Value.bool hb8)<|cR [[],[],[0]]<|cA (fun _=>vT) (fun _=>congrArg Value.bool hb9)<|jE [[],[],[],[0],[],[]]) (fun _=>?_)
    refine oC (((nu:Nat):Int) != 0) (fun hb10=>?_) (fun hb10=>?_)
    ·
     rw [hb10]
     refine jJ Tryz.f39 1 [1,2] [vF] (aF (aC ?_))
     exact mR (v:=vF) (fun _ hS=>⟨jB (qU (by have:=iK hb8;have:=iK hb9;have:=iK hb10;have:=hj1;unfold o7;omega)),hS.bel⟩)
    rw [hb10]
    refine aG (aA ?_)
    refine lK [(1,(pt (nb ρ1 0))),(23,vF)] [(nb ρ1 0,(cL (iC kd m ((nu:Nat):Int) h (.slice ka ks.length kc)) 50))] ?_
    exact okE J2 () (by have:=iK hb8;have:=iK hb9;have:=dD hb10;omega) (fun w hS=>hS)
   refine sS Tryz.f39 13 [1,23] [] (fun _=>[pt (nb ρ1 0),vi kd,vT,vT,pt (nb ρ1 0),vi kd,vF,vF,vF,undef,undef,undef,vF]) (fun _=>[]) (cR [[],[0]]<|cA (fun _=>vT) (fun _=>congrArg Value.bool hb8)<|cR [[],[],[0]]<|cA (fun _=>vF) (fun _=>congrArg Value.bool hb9)<|jE [[],[],[],[],[],[]]) (fun _=>?_)
   refine oN ?_
   refine aG (aA ?_)
   refine lK [(1,(pt (nb ρ1 0))),(23,vF)] [(nb ρ1 0,(cL (iC kd m ((nu:Nat):Int) h (.slice ka ks.length kc)) 50))] ?_
   exact okE J2 () (by have:=iK hb8;have:=dD hb9;omega) (fun w hS=>hS)
  refine sS Tryz.f39 13 [1,23] [] (fun _=>[pt (nb ρ1 0),vi kd,vF,vF,undef,undef,undef,vF,vF,undef,undef,undef,vF]) (fun _=>[]) (cR [[],[0]]<|cA (fun _=>vF) (fun _=>congrArg Value.bool hb8)<|jE [[],[],[],[],[],[],[],[],[],[]]) (fun _=>?_)
  refine oN ?_
  refine aG (aA ?_)
  refine lK [(1,(pt (nb ρ1 0))),(23,vF)] [(nb ρ1 0,(cL (iC kd m ((nu:Nat):Int) h (.slice ka ks.length kc)) 50))] ?_
  exact okE J2 () (by have:=dD hb8;omega) (fun w hS=>hS)
 intro J3
 refine aB ?_
 rcases Bool.eq_false_or_eq_true (kd != 2) with hb11 | hb11
 ·
  refine sS Tryz.f39 8 [1,2,10] [] (fun _=>[pt (nb ρ1 0),vi kd,vT,vT,jp (nb ρ1 0) 1,vi m,.bool (m != 0),.bool (m != 0)]) (fun _=>[]) (cR [[],[0]]<|cA (fun _=>vT) (fun _=>congrArg Value.bool hb11)<|jE [[],[],[0],[],[]]) (fun _=>?_)
  refine oC (m != 0) (fun hb12=>?_) (fun hb12=>?_)
  ·
   rw [hb12]
   refine jJ Tryz.f39 1 [1,2] [vF] (aF (aC ?_))
   exact mR (v:=vF) (fun _ hS=>⟨jB (qU (by have:=iK hb11;have:=iK hb12;unfold o7;omega)),hS.bel⟩)
  rw [hb12]
  refine aG (aA ?_)
  refine lK [(1,(pt (nb ρ1 0))),(2,vF),(10,vF)] [(nb ρ1 0,(cL (iC kd m ((nu:Nat):Int) h (.slice ka ks.length kc)) 50))] ?_
  exact okE J3 () (by have:=iK hb11;have:=dD hb12;omega) (fun w hS=>hS)
 refine sS Tryz.f39 8 [1,2,10] [] (fun _=>[pt (nb ρ1 0),vi kd,vF,vF,undef,undef,undef,vF]) (fun _=>[]) (cR [[],[0]]<|cA (fun _=>vF) (fun _=>congrArg Value.bool hb11)<|jE [[],[],[],[],[]]) (fun _=>?_)
 refine oN ?_
 refine aG (aA ?_)
 refine lK [(1,(pt (nb ρ1 0))),(2,vF),(10,vF)] [(nb ρ1 0,(cL (iC kd m ((nu:Nat):Int) h (.slice ka ks.length kc)) 50))] ?_
 exact okE J3 () (by have:=dD hb11;omega) (fun w hS=>hS)
theorem rdfields_any (kd:Int) (m:Int) (nu:Nat) (h:Nat) (ka:Option Addr) (kc:Nat) (ks:List dO) (hh:h<M) (w0:World):Calls Tryz.prog 34 #[.agg (iC kd m ((nu:Nat):Int) h (.slice ka ks.length kc))] w0 (jR (.bool (fdN kd m nu h ks.length)) w0):=by
 refine Calls.of_ok (n:=68) (F:=(fun _=>True)) Tryz.func34 rfl rfl rfl (by simp) jT ?_
 refine sS Tryz.f34 2 [1,2] [] (fun ρ=>[pt (nb ρ 0),vF]) (fun ρ=>[(0,(nw ρ 0 (cL (iC kd m ((nu:Nat):Int) h (.slice ka ks.length kc)) 50)))]) (jE [[],[]]) (fun ρ1=>?_)
 refine jM Tryz.f34 4 [1,2,3] [] [jp (nb ρ1 0) 35,.slice ka ks.length kc,vn ks.length,vn ks.length] [[],[0],[],[]] ?_
 refine okJ1 (σ:=Unit) (fun _=>[(1,(pt (nb ρ1 0))),(3,(vn ks.length))]) (fun _=>[(nb ρ1 0,(cL (iC kd m ((nu:Nat):Int) h (.slice ka ks.length kc)) 50))]) (fun _=>(fun _=>True)) (fun _=>(kd=3∨kd=4∨nu=0)∧(kd=5∨h=0)) ?_ ?_
 ·
  rintro _u ⟨hj2,hj3⟩
  change Ok Tryz.prog _ _ 68 [(1,(pt (nb ρ1 0))),(3,(vn ks.length))] _ [(nb ρ1 0,(cL (iC kd m ((nu:Nat):Int) h (.slice ka ks.length kc)) 50))] (fun _=>True)
  refine aB (jM Tryz.f34 2 [1,3,32] [] [pt (nb ρ1 0),vi kd] [[],[0]] (aI (jJ Tryz.f34 2 [1,3,32,33] [.bool (kd==1),.bool (kd==1)] ?_)))
  refine oC (kd==1) (fun hb1=>?_) (fun hb1=>?_)
  ·
   rw [hb1]
   rcases Bool.eq_false_or_eq_true (((ks.length:Nat):Int)==1) with hb2 | hb2
   ·
    refine sS Tryz.f34 8 [1,2,3] [] (fun _=>[vn ks.length,vT,vT,jp (nb ρ1 0) 1,vi m,.bool (m==0),.bool (m==0),.bool (m==0)]) (fun _=>[]) (cR [[]]<|cA (fun _=>vT) (fun _=>congrArg Value.bool hb2)<|jE [[],[],[0],[],[],[]]) (fun _=>?_)
    refine aF (aP (aC ?_))
    exact mR (v:=(.bool (m==0))) (fun _ hS=>⟨jB (fd_b (by have:=xQ hb1;have:=xQ hb2;have:=hj2;have:=hj3;unfold o7;omega)),hS.bel⟩)
   refine sS Tryz.f34 8 [1,2,3] [] (fun _=>[vn ks.length,vF,vF,undef,undef,undef,vF,vF]) (fun _=>[]) (cR [[]]<|cA (fun _=>vF) (fun _=>congrArg Value.bool hb2)<|jE [[],[],[],[],[],[]]) (fun _=>?_)
   refine aF (aP (aC ?_))
   exact mR (v:=vF) (fun _ hS=>⟨jB (qU (by have:=xQ hb1;have:=jP hb2;have:=hj2;have:=hj3;unfold o7;omega)),hS.bel⟩)
  rw [hb1]
  refine jJ Tryz.f34 2 [1,3,42] [.bool (kd==2),.bool (kd==2)] ?_
  refine oC (kd==2) (fun hb3=>?_) (fun hb3=>?_)
  ·
   rw [hb3]
   rcases Bool.eq_false_or_eq_true (decide (1≤((ks.length:Nat):Int))) with hb4 | hb4
   ·
    rcases Bool.eq_false_or_eq_true (decide (((ks.length:Nat):Int)≤15)) with hb5 | hb5
    ·
     rcases Bool.eq_false_or_eq_true (decide (1≤m)) with hb6 | hb6
     ·
      refine sS Tryz.f34 18 [1,2,3] [] (fun _=>let qa:Value:=.bool (decide (m≤((ks.length:Nat):Int)));[vn ks.length,vT,vT,vn ks.length,vT,vT,vT,jp (nb ρ1 0) 1,vi m,vT,vT,vT,jp (nb ρ1 0) 1,vi m,vn ks.length,qa,qa,qa]) (fun _=>[]) (cR [[]]<|cA (fun _=>vT) (fun _=>congrArg Value.bool hb4)<|cR [[],[]]<|cA (fun _=>vT) (fun _=>congrArg Value.bool hb5)<|cR [[],[],[],[0]]<|cA (fun _=>vT) (fun _=>congrArg Value.bool hb6)<|jE [[],[],[],[0],[],[],[],[]]) (fun _=>?_)
      refine aF (aP (aC ?_))
      exact mR (v:=(.bool (decide (m≤((ks.length:Nat):Int))))) (fun _ hS=>⟨jB (fd_d (by have:=jP hb1;have:=xQ hb3;have:=yT hb4;have:=yT hb5;have:=yT hb6;have:=hj2;have:=hj3;unfold o7;omega)),hS.bel⟩)
     refine sS Tryz.f34 18 [1,2,3] [] (fun _=>[vn ks.length,vT,vT,vn ks.length,vT,vT,vT,jp (nb ρ1 0) 1,vi m,vF,vF,vF,undef,undef,undef,undef,vF,vF]) (fun _=>[]) (cR [[]]<|cA (fun _=>vT) (fun _=>congrArg Value.bool hb4)<|cR [[],[]]<|cA (fun _=>vT) (fun _=>congrArg Value.bool hb5)<|cR [[],[],[],[0]]<|cA (fun _=>vF) (fun _=>congrArg Value.bool hb6)<|jE [[],[],[],[],[],[],[],[]]) (fun _=>?_)
     refine aF (aP (aC ?_))
     exact mR (v:=vF) (fun _ hS=>⟨jB (qU (by have:=jP hb1;have:=xQ hb3;have:=yT hb4;have:=yT hb5;have:=yF hb6;have:=hj2;have:=hj3;unfold o7;omega)),hS.bel⟩)
    refine sS Tryz.f34 18 [1,2,3] [] (fun _=>[vn ks.length,vT,vT,vn ks.length,vF,vF,vF,undef,undef,undef,vF,vF,undef,undef,undef,undef,vF,vF]) (fun _=>[]) (cR [[]]<|cA (fun _=>vT) (fun _=>congrArg Value.bool hb4)<|cR [[],[]]<|cA (fun _=>vF) (fun _=>congrArg Value.bool hb5)<|jE [[],[],[],[],[],[],[],[],[],[],[],[],[]]) (fun _=>?_)
    refine aF (aP (aC ?_))
    exact mR (v:=vF) (fun _ hS=>⟨jB (qU (by have:=jP hb1;have:=xQ hb3;have:=yT hb4;have:=yF hb5;have:=hj2;have:=hj3;unfold o7;omega)),hS.bel⟩)
   refine sS Tryz.f34 18 [1,2,3] [] (fun _=>[vn ks.length,vF,vF,undef,undef,vF,vF,undef,undef,undef,vF,vF,undef,undef,undef,undef,vF,vF]) (fun _=>[]) (cR [[]]<|cA (fun _=>vF) (fun _=>congrArg Value.bool hb4)<|jE [[],[],[],[],[],[],[],[],[],[],[],[],[],[],[],[]]) (fun _=>?_)
   refine aF (aP (aC ?_))
   exact mR (v:=vF) (fun _ hS=>⟨jB (qU (by have:=jP hb1;have:=xQ hb3;have:=yF hb4;have:=hj2;have:=hj3;unfold o7;omega)),hS.bel⟩)
  rw [hb3]
  refine aG (aJ (aA ?_))
  rcases Bool.eq_false_or_eq_true (((ks.length:Nat):Int)==0) with hb7 | hb7
  ·
   refine sS Tryz.f34 8 [2] [0] (fun _=>[vn ks.length,vT,vT,jp (nb ρ1 0) 1,vi m,.bool (m==0),.bool (m==0),.bool (m==0)]) (fun _=>[]) (cR [[]]<|cA (fun _=>vT) (fun _=>congrArg Value.bool hb7)<|jE [[],[],[0],[],[],[]]) (fun _=>?_)
   refine aF ?_
   exact mR (v:=(.bool (m==0))) (fun _ hS=>⟨jB (fd_b (by have:=jP hb1;have:=jP hb3;have:=xQ hb7;have:=hj2;have:=hj3;unfold o7;omega)),hS.bel⟩)
  refine sS Tryz.f34 8 [2] [0] (fun _=>[vn ks.length,vF,vF,undef,undef,undef,vF,vF]) (fun _=>[]) (cR [[]]<|cA (fun _=>vF) (fun _=>congrArg Value.bool hb7)<|jE [[],[],[],[],[],[]]) (fun _=>?_)
  refine aF ?_
  exact mR (v:=vF) (fun _ hS=>⟨jB (qU (by have:=jP hb1;have:=jP hb3;have:=jP hb7;have:=hj2;have:=hj3;unfold o7;omega)),hS.bel⟩)
 intro J1
 refine aB ?_
 rcases Bool.eq_false_or_eq_true (((nu:Nat):Int) != 0) with hb8 | hb8
 ·
  rcases Bool.eq_false_or_eq_true (kd != 3) with hb9 | hb9
  ·
   rcases Bool.eq_false_or_eq_true (kd != 4) with hb10 | hb10
   ·
    refine sS Tryz.f34 24 [1,2,3,30] [] (fun _=>[jp (nb ρ1 0) 2,vu nu,vT,vT,pt (nb ρ1 0),vi kd,vT,vT,vT,pt (nb ρ1 0),vi kd,vT,vT,vT,undef,undef,undef,undef,undef,undef,undef,undef,undef,vT]) (fun _=>[]) (cR [[],[0]]<|cA (fun _=>vT) (fun _=>congrArg Value.bool hb8)<|cR [[],[],[0]]<|cA (fun _=>vT) (fun _=>congrArg Value.bool hb9)<|cR [[],[],[],[0]]<|cA (fun _=>vT) (fun _=>congrArg Value.bool hb10)<|jE [[],[],[],[],[],[],[],[],[],[],[],[]]) (fun _=>?_)
    refine oY ?_
    refine jJ Tryz.f34 1 [1,2,3] [vF] (aF (aC ?_))
    exact mR (v:=vF) (fun _ hS=>⟨jB (qU (by have:=iK hb8;have:=iK hb9;have:=iK hb10;unfold o7;omega)),hS.bel⟩)
   rcases Bool.eq_false_or_eq_true (decide (h=0)) with hb11 | hb11
   ·
    refine sS Tryz.f34 24 [1,2,3,30] [] (fun _=>[jp (nb ρ1 0) 2,vu nu,vT,vT,pt (nb ρ1 0),vi kd,vT,vT,vT,pt (nb ρ1 0),vi kd,vF,vF,vF,jp (nb ρ1 0) 3,.agg (hB h),.agg (hB 0),vF,vF,undef,undef,undef,vF,vF]) (fun _=>[]) (cR [[],[0]]<|cA (fun _=>vT) (fun _=>congrArg Value.bool hb8)<|cR [[],[],[0]]<|cA (fun _=>vT) (fun _=>congrArg Value.bool hb9)<|cR [[],[],[],[0]]<|cA (fun _=>vF) (fun _=>congrArg Value.bool hb10)<|cR [[],[],[],[0],[]]<|cB (a:=fun ρ=>(.agg (hB h))) (b:=fun ρ=>(.agg (hB 0))) (v:=fun ρ=>vF) .neq 47 (fun _ _=>(neqH h 0 hh (by decide +kernel) _).trans (by rw [hb11];try rfl))<|jE [[],[],[],[],[],[]]) (fun _=>?_)
    refine oN ?_
    refine aG (aA ?_)
    refine lK [(1,(pt (nb ρ1 0))),(2,vF),(3,(vn ks.length)),(30,vF)] [(nb ρ1 0,(cL (iC kd m ((nu:Nat):Int) h (.slice ka ks.length kc)) 50))] ?_
    exact okE J1 () (⟨(by have:=iK hb8;have:=iK hb9;have:=dD hb10;have:=yT hb11;omega),(by have:=iK hb8;have:=iK hb9;have:=dD hb10;have:=yT hb11;omega)⟩) (fun w hS=>hS)
   refine sS Tryz.f34 24 [1,2,3,30] [] (fun _=>[jp (nb ρ1 0) 2,vu nu,vT,vT,pt (nb ρ1 0),vi kd,vT,vT,vT,pt (nb ρ1 0),vi kd,vF,vF,vF,jp (nb ρ1 0) 3,.agg (hB h),.agg (hB 0),vT,vT,pt (nb ρ1 0),vi kd,vT,vT,vT]) (fun _=>[]) (cR [[],[0]]<|cA (fun _=>vT) (fun _=>congrArg Value.bool hb8)<|cR [[],[],[0]]<|cA (fun _=>vT) (fun _=>congrArg Value.bool hb9)<|cR [[],[],[],[0]]<|cA (fun _=>vF) (fun _=>congrArg Value.bool hb10)<|cR [[],[],[],[0],[]]<|cB (a:=fun ρ=>(.agg (hB h))) (b:=fun ρ=>(.agg (hB 0))) (v:=fun ρ=>vT) .neq 47 (fun _ _=>(neqH h 0 hh (by decide +kernel) _).trans (by rw [hb11];try rfl))<|cR [[],[],[0]]<|jQ (fun ρ=>(kd != 5)) true (fun _=>(show (kd != 5)=true by rw [dD hb10];rfl))<|jE [[],[]]) (fun _=>?_)
   refine oY ?_
   refine jJ Tryz.f34 1 [1,2,3] [vF] (aF (aC ?_))
   exact mR (v:=vF) (fun _ hS=>⟨jB (qU (by have:=iK hb8;have:=iK hb9;have:=dD hb10;have:=yF hb11;unfold o7;omega)),hS.bel⟩)
  rcases Bool.eq_false_or_eq_true (decide (h=0)) with hb12 | hb12
  ·
   refine sS Tryz.f34 24 [1,2,3,30] [] (fun _=>[jp (nb ρ1 0) 2,vu nu,vT,vT,pt (nb ρ1 0),vi kd,vF,vF,vF,undef,undef,undef,vF,vF,jp (nb ρ1 0) 3,.agg (hB h),.agg (hB 0),vF,vF,undef,undef,undef,vF,vF]) (fun _=>[]) (cR [[],[0]]<|cA (fun _=>vT) (fun _=>congrArg Value.bool hb8)<|cR [[],[],[0]]<|cA (fun _=>vF) (fun _=>congrArg Value.bool hb9)<|cR [[],[],[],[],[],[],[],[],[0],[]]<|cB (a:=fun ρ=>(.agg (hB h))) (b:=fun ρ=>(.agg (hB 0))) (v:=fun ρ=>vF) .neq 47 (fun _ _=>(neqH h 0 hh (by decide +kernel) _).trans (by rw [hb12];try rfl))<|jE [[],[],[],[],[],[]]) (fun _=>?_)
   refine oN ?_
   refine aG (aA ?_)
   refine lK [(1,(pt (nb ρ1 0))),(2,vF),(3,(vn ks.length)),(30,vF)] [(nb ρ1 0,(cL (iC kd m ((nu:Nat):Int) h (.slice ka ks.length kc)) 50))] ?_
   exact okE J1 () (⟨(by have:=iK hb8;have:=dD hb9;have:=yT hb12;omega),(by have:=iK hb8;have:=dD hb9;have:=yT hb12;omega)⟩) (fun w hS=>hS)
  refine sS Tryz.f34 24 [1,2,3,30] [] (fun _=>[jp (nb ρ1 0) 2,vu nu,vT,vT,pt (nb ρ1 0),vi kd,vF,vF,vF,undef,undef,undef,vF,vF,jp (nb ρ1 0) 3,.agg (hB h),.agg (hB 0),vT,vT,pt (nb ρ1 0),vi kd,vT,vT,vT]) (fun _=>[]) (cR [[],[0]]<|cA (fun _=>vT) (fun _=>congrArg Value.bool hb8)<|cR [[],[],[0]]<|cA (fun _=>vF) (fun _=>congrArg Value.bool hb9)<|cR [[],[],[],[],[],[],[],[],[0],[]]<|cB (a:=fun ρ=>(.agg (hB h))) (b:=fun ρ=>(.agg (hB 0))) (v:=fun ρ=>vT) .neq 47 (fun _ _=>(neqH h 0 hh (by decide +kernel) _).trans (by rw [hb12];try rfl))<|cR [[],[],[0]]<|jQ (fun ρ=>(kd != 5)) true (fun _=>(show (kd != 5)=true by rw [dD hb9];rfl))<|jE [[],[]]) (fun _=>?_)
  refine oY ?_
  refine jJ Tryz.f34 1 [1,2,3] [vF] (aF (aC ?_))
  exact mR (v:=vF) (fun _ hS=>⟨jB (qU (by have:=iK hb8;have:=dD hb9;have:=yF hb12;unfold o7;omega)),hS.bel⟩)
 rcases Bool.eq_false_or_eq_true (decide (h=0)) with hb13 | hb13
 ·
  refine sS Tryz.f34 24 [1,2,3,30] [] (fun _=>[jp (nb ρ1 0) 2,vu nu,vF,vF,undef,undef,undef,vF,vF,undef,undef,undef,vF,vF,jp (nb ρ1 0) 3,.agg (hB h),.agg (hB 0),vF,vF,undef,undef,undef,vF,vF]) (fun _=>[]) (cR [[],[0]]<|cA (fun _=>vF) (fun _=>congrArg Value.bool hb8)<|cR [[],[],[],[],[],[],[],[],[],[],[],[],[0],[]]<|cB (a:=fun ρ=>(.agg (hB h))) (b:=fun ρ=>(.agg (hB 0))) (v:=fun ρ=>vF) .neq 47 (fun _ _=>(neqH h 0 hh (by decide +kernel) _).trans (by rw [hb13];try rfl))<|jE [[],[],[],[],[],[]]) (fun _=>?_)
  refine oN ?_
  refine aG (aA ?_)
  refine lK [(1,(pt (nb ρ1 0))),(2,vF),(3,(vn ks.length)),(30,vF)] [(nb ρ1 0,(cL (iC kd m ((nu:Nat):Int) h (.slice ka ks.length kc)) 50))] ?_
  exact okE J1 () (⟨(by have:=dD hb8;have:=yT hb13;omega),(by have:=dD hb8;have:=yT hb13;omega)⟩) (fun w hS=>hS)
 refine sS Tryz.f34 24 [1,2,3,30] [] (fun _=>[jp (nb ρ1 0) 2,vu nu,vF,vF,undef,undef,undef,vF,vF,undef,undef,undef,vF,vF,jp (nb ρ1 0) 3,.agg (hB h),.agg (hB 0),vT,vT,pt (nb ρ1 0),vi kd,.bool (kd != 5),.bool (kd != 5),.bool (kd != 5)]) (fun _=>[]) (cR [[],[0]]<|cA (fun _=>vF) (fun _=>congrArg Value.bool hb8)<|cR [[],[],[],[],[],[],[],[],[],[],[],[],[0],[]]<|cB (a:=fun ρ=>(.agg (hB h))) (b:=fun ρ=>(.agg (hB 0))) (v:=fun ρ=>vT) .neq 47 (fun _ _=>(neqH h 0 hh (by decide +kernel) _).trans (by rw [hb13];try rfl))<|jE [[],[],[0],[],[],[]]) (fun _=>?_)
 refine oC (kd != 5) (fun hb14=>?_) (fun hb14=>?_)
 ·
  rw [hb14]
  refine jJ Tryz.f34 1 [1,2,3] [vF] (aF (aC ?_))
  exact mR (v:=vF) (fun _ hS=>⟨jB (qU (by have:=dD hb8;have:=yF hb13;have:=iK hb14;unfold o7;omega)),hS.bel⟩)
 rw [hb14]
 refine aG (aA ?_)
 refine lK [(1,(pt (nb ρ1 0))),(2,vF),(3,(vn ks.length)),(30,vF)] [(nb ρ1 0,(cL (iC kd m ((nu:Nat):Int) h (.slice ka ks.length kc)) 50))] ?_
 exact okE J1 () (⟨(by have:=dD hb8;have:=yF hb13;have:=dD hb14;omega),(by have:=dD hb8;have:=yF hb13;have:=dD hb14;omega)⟩) (fun w hS=>hS)
def kX:List UInt8:=[108,105,103,104,116,99,108,105,101,110,116,47,100,101,115,99,114,105,112,116,111,114]
theorem sum_8 (d:Nat):((((gX ((hL d).take 4)).length:Nat):Int)==8)=true:=by
  have h:(gX ((hL d).take 4)).length=8:=by rw [aK,List.length_take,aO];rfl
  rw [h];rfl
theorem kR (n:Nat) (hn:n<16) (w0:World):Calls Tryz.prog 51 #[vy n] w0 (jR (vy (hexD n)) w0):=by
 refine Calls.of_ok (n:=10) (F:=(fun _=>True)) Tryz.func51 rfl rfl rfl (by simp) jT ?_
 refine jJ Tryz.f51 1 [0,2] [.int .u8 0] (aB (jJ Tryz.f51 2 [0,2,4] [vy n,.bool (decide (((n:Nat):Int)<10))] ?_))
 refine oC (decide (((n:Nat):Int)<10)) (fun hb1=>?_) (fun hb1=>?_)
 ·
  rw [hb1]
  refine sS Tryz.f51 3 [0,2] [] (fun _=>let qa:Value:=.int .u8 (48+((n:Nat):Int));[vy n,qa,qa]) (fun _=>[]) (cR [[]]<|cA (v:=fun ρ=>(.int .u8 (IntKind.u8.wrap (48+((n:Nat):Int))))) (fun _=>(.int .u8 (48+((n:Nat):Int)))) (fun _=>congrArg (Value.int .u8) (u8I (by have:=yT hb1;omega)))<|jE [[]]) (fun _=>?_)
  refine aF (aC ?_)
  exact mR (v:=(.int .u8 (48+((n:Nat):Int)))) (fun _ hS=>⟨congrArg (fun x=>Ending.returned (.int .u8 x)) (by unfold hexD;rw [if_pos (by have:=yT hb1;omega)];omega),hS.bel⟩)
 rw [hb1]
 have:=yF hb1
 refine aG (aA ?_)
 refine sS Tryz.f51 4 [2] [] (fun _=>let qa:Value:=.int .u8 ((97+((n:Nat):Int))-10);[vy n,.int .u8 (97+((n:Nat):Int)),qa,qa]) (fun _=>[]) (cR [[]]<|cA (v:=fun ρ=>(.int .u8 (IntKind.u8.wrap (97+((n:Nat):Int))))) (fun _=>(.int .u8 (97+((n:Nat):Int)))) (fun _=>congrArg (Value.int .u8) (u8I (by omega)))<|cA (v:=fun ρ=>(.int .u8 (IntKind.u8.wrap ((97+((n:Nat):Int))-10)))) (fun _=>(.int .u8 ((97+((n:Nat):Int))-10))) (fun _=>congrArg (Value.int .u8) (u8I (by omega)))<|jE [[]]) (fun _=>?_)
 refine aF ?_
 exact mR (v:=(.int .u8 ((97+((n:Nat):Int))-10))) (fun _ hS=>⟨congrArg (fun x=>Ending.returned (.int .u8 x)) (by unfold hexD;rw [if_neg (by omega)];omega),hS.bel⟩)
theorem hex_any (a:Option Addr) (c:Nat) (B:List UInt8) (h46:B.length≤70368744175616) (w0:World) (hf0:Bs w0 a c B):Calls Tryz.prog 28 #[.slice a B.length c] w0 (jR (.string (gY (gX B))) w0):=by
 refine Calls.of_ok (n:=28) (F:=(fun w=>Bs w a c B∧True)) Tryz.func28 rfl rfl rfl (by simp) (hf0.pers0.and cO) ?_
 refine jJ Tryz.f28 1 [0,2] [.string ⟨#[]⟩] ?_
 refine sS Tryz.f28 5 [0,2,3] [] (fun ρ=>let qa:=vs (nb ρ 3) ([]:List UInt8).length (2*B.length);[.slice a B.length c,vn B.length,vn (2*B.length),qa,qa]) (fun ρ=>[(3,(nw ρ 3 (cL (zB (2*B.length)) 5)))]) (cR [[],[]]<|jW (fun ρ=>(2*((B.length:Nat):Int))) (fun _=>(2*B.length)) (fun _=>(fQ 2 B.length (by omega)))<|cX (uB _ (fun _=>do pure (Next.value (← Instr.makeSlice 35 (vi 0) (vn (2*B.length))))) (fun _ ζ=>(vs (ζ.headD 0) ([]:List UInt8).length (2*B.length))) (fun _ _=>(cL (zB (2*B.length)) 5)) (fun _ _=>(by kernel_rfl)) (fun _=>(by kernel_rfl)) (fun _ _=>trivial) (fun _ _ w _=>mM Tryz.underlying35 nH ([]:List UInt8) (rfl) (rfl) (Nat.zero_le _) (by omega) w))<|jE [[]]) (fun ρ2=>?_)
 refine aB (jJ Tryz.f28 3 [2,3,10,11,12] [.slice a B.length c,vn B.length,vi 0] (aI ?_))
 refine oL (σ:=Nat × (List UInt8) × (Array Value)) (fun ⟨i,X,_⟩=>[(2,(.string ⟨#[]⟩)),(3,(vs (nb ρ2 3) X.length (2*B.length))),(10,(.slice a B.length c)),(11,(vn B.length)),(12,(vn i))]) (fun ⟨_,_,C⟩=>[(nb ρ2 3,(cL C 5))]) (fun ⟨i,_,_⟩=>B.length-i)
   (fun ⟨i,X,C⟩=>(i≤B.length)∧(X=gX (B.take i))∧(Hd C X)∧(C.size=2*B.length)) (0,([]:List UInt8),zB (2*B.length)) (⟨Nat.zero_le _,rfl,Hd.nil _,oD _⟩) [] ?_
 rintro ⟨i,X,C⟩ ⟨hi,hX,hC,hs⟩
 change Ok Tryz.prog _ _ 28 [(2,(.string ⟨#[]⟩)),(3,(vs (nb ρ2 3) X.length (2*B.length))),(10,(.slice a B.length c)),(11,(vn B.length)),(12,(vn i))] _ [(nb ρ2 3,(cL C 5))] (fun w=>Bs w a c B∧True)
 refine jJ Tryz.f28 1 [2,3,10,11,12,13] [.bool (decide (((i:Nat):Int)<((B.length:Nat):Int)))] (aB ?_)
 refine oC (decide (((i:Nat):Int)<((B.length:Nat):Int))) (fun hb1=>?_) (fun hb1=>?_)
 ·
  rw [hb1]
  have:=yT hb1
  refine aG (aA (aB (aI ?_)))
  refine sS Tryz.f28 3 [2,3,5,10,11,12] [] (fun _=>[.pointer (fK a i),vy (gB B i),vy (gB B i)]) (fun _=>[]) (cX (qF (fun _ _ _ hG=>idx_bytes (k:=.i64) Tryz.underlying35 nH hG.fn.1 rfl (show ((i:Nat):Int)=((i:Nat):Int) from rfl) (show i<B.length from (by have:=gV hi hX;omega))))<|cX (qF (fun _ _ _ hG=>ld_bytes Tryz.isAgg5 hG.fn.1 (show i<B.length from (by have:=gV hi hX;omega))))<|jE [[]]) (fun _=>?_)
  refine rD Tryz.f28 [0,0,2,6,0,16,48,126,255,511] 10 [2,3,10,11,12] [1,0] (fun ρ=>let qa:=([ob ((hexD (gB B i / 16):Nat):Int),ob ((hexD (gB B i%16):Nat):Int)]:List UInt8);let qb:=vs (nb ρ2 3) (X++qa).length (2*B.length);[vs (nb ρ2 3) X.length (2*B.length),vy (gB B i),vy (gB B i / 16),vy (hexD (gB B i / 16)),vy (gB B i),vy (gB B i%16),vy (hexD (gB B i%16)),vs (nb ρ 7) qa.length 2,qb,qb]) (fun ρ=>[(7,(nw ρ 7 (cL #[vy (hexD (gB B i / 16)),vy (hexD (gB B i%16))] 5))),(8,(bD 0 (nb ρ2 3) (cL (inpl C X.length (bs ([ob ((hexD (gB B i / 16):Nat):Int),ob ((hexD (gB B i%16):Nat):Int)]:List UInt8))) 5)))]) (cR [[],[]]<|cB (a:=fun ρ=>(vy (gB B i))) (b:=fun ρ=>(.int .u64 4)) (v:=fun ρ=>(vy (gB B i / 16))) .shr 5 (fun _ w=>gG (k:=.u8) (x:=gB B i) (c:=4) (iD B i) w)<|cX (jS (fun _=>Instr.index 9 (.string (gY ([48,49,50,51,52,53,54,55,56,57,97,98,99,100,101,102]:List UInt8))) (vy (gB B i / 16))) (fun _=>(vy (hexD (gB B i / 16)))) (fun _ w=>(idx_str (S:=([48,49,50,51,52,53,54,55,56,57,97,98,99,100,101,102]:List UInt8)) Tryz.underlying9 (show ((gB B i / 16:Nat):Int)=(((gB B i / 16):Nat):Int) from rfl) (show (gB B i / 16)<([48,49,50,51,52,53,54,55,56,57,97,98,99,100,101,102]:List UInt8).length from (by have:=iD B i;show gB B i / 16<16;omega)) w).trans (by rw [gB_dig (show gB B i / 16<16 by have:=iD B i;omega)])))<|cR [[]]<|cA (fun _=>(vy (gB B i%16))) (fun _=>congrArg (Value.int .u8) (and15 (iD B i)))<|cX (jS (fun _=>Instr.index 9 (.string (gY ([48,49,50,51,52,53,54,55,56,57,97,98,99,100,101,102]:List UInt8))) (vy (gB B i%16))) (fun _=>(vy (hexD (gB B i%16)))) (fun _ w=>(idx_str (S:=([48,49,50,51,52,53,54,55,56,57,97,98,99,100,101,102]:List UInt8)) Tryz.underlying9 (show ((gB B i%16:Nat):Int)=(((gB B i%16):Nat):Int) from rfl) (show (gB B i%16)<([48,49,50,51,52,53,54,55,56,57,97,98,99,100,101,102]:List UInt8).length from (by have:=iD B i;show gB B i%16<16;omega)) w).trans (by rw [gB_dig (show gB B i%16<16 by have:=iD B i;omega)])))<|cR [[]]<|cX (o9 _ 0 (fun ρ=>do pure (Next.value (← Builtin.append_ #[35,35] 35 #[vs (nb ρ2 3) X.length (2*B.length),vs (nb ρ 7) ([ob ((hexD (gB B i / 16):Nat):Int),ob ((hexD (gB B i%16):Nat):Int)]:List UInt8).length 2]))) (fun _=>nb ρ2 3) (fun _=>(cL C 5)) (fun _=>(cL (inpl C X.length (bs ([ob ((hexD (gB B i / 16):Nat):Int),ob ((hexD (gB B i%16):Nat):Int)]:List UInt8))) 5)) (fun _=>(vs (nb ρ2 3) (X++([ob ((hexD (gB B i / 16):Nat):Int),ob ((hexD (gB B i%16):Nat):Int)]:List UInt8)).length (2*B.length))) (fun _=>(by kernel_rfl)) (fun _=>(by kernel_rfl)) (fun _=>(by kernel_rfl)) (fun _=>(by kernel_rfl)) (fun _ _=>trivial) (fun ρ _ _ hG hg=>kD Tryz.underlying35 nH hg (Bs.src (tx:=35) Tryz.underlying35 (Bs.of_hd (hG.kn (g:=nb ρ 7) (o:=(cL #[vy (hexD (gB B i / 16)),vy (hexD (gB B i%16))] 5)) 57) (hd2 (kV (by have:=iD B i;omega)) (kV (by have:=iD B i;omega))) (Nat.le_refl 2) (Nat.le_of_ble_eq_true rfl))) hs (by simp only [List.length_cons,List.length_nil];have:=gV hi hX;omega)))<|jE [[]]) (fun _=>?_)
  refine aJ (aA ?_)
  refine rS Tryz.f28 2 [2,3,10,11,12] [] (fun _=>[vn (i+1),vn (i+1)]) (fun _=>[]) (jW (fun ρ=>(((i:Nat):Int)+1)) (fun _=>(i+1)) (fun _=>(aW i 1 (by have:=gV hi hX;omega)))<|jE [[]]) (fun _=>?_)
  exact mN (i+1,X++([ob ((hexD (gB B i / 16):Nat):Int),ob ((hexD (gB B i%16):Nat):Int)]:List UInt8),inpl C X.length (bs ([ob ((hexD (gB B i / 16):Nat):Int),ob ((hexD (gB B i%16):Nat):Int)]:List UInt8))) (by show B.length-(i+1)<B.length-i;have:=gV hi hX;omega) (⟨(by have:=gV hi hX;omega),hx_next (by have:=gV hi hX;omega) hX,Hd.inpl hC rfl,(lG _ _ _ (room_le hs (by simp only [List.length_cons,List.length_nil];have:=gV hi hX;omega))).trans hs⟩) []
 rw [hb1]
 refine bF (aN (aN (aT (aA ?_))))
 refine sS Tryz.f28 3 [2] [0] (fun _=>[vs (nb ρ2 3) X.length (2*B.length),.string (gY X),.string (gY X)]) (fun _=>[]) (cR [[]]<|cX (jF (fun _=>convert 35 9 (vs (nb ρ2 3) X.length (2*B.length))) (fun _=>(.string (gY X))) (fun _ _ _ hG=>xAX (xs:=X) Tryz.underlying35 Tryz.underlying5 Tryz.underlying9 (Bs.of_hd (hG.kn (g:=nb ρ2 3) (o:=(cL C 5)) 0) hC (by have:=gV hi hX;omega) (by have:=gV hi hX;omega)) rfl) (fun _ _ _ _=>cO))<|jE [[]]) (fun _=>?_)
 refine aF ?_
 exact mR (v:=(.string (gY X))) (fun _ hS=>⟨congrArg (fun x=>Ending.returned (.string (gY x))) (hx_end (by have:=yF hb1;have:=gV hi hX;omega) hX),hS.bel⟩)
theorem rhex_any (a:Option Addr) (c:Nat) (B:List UInt8) (h46:B.length≤70368744175616) (w0:World) (hf0:Bs w0 a c B):Calls Tryz.prog 30 #[.slice a B.length c] w0 (jR (.string (gY (gX B))) w0):=by
 refine Calls.of_ok (n:=24) (F:=(fun w=>Bs w a c B∧True)) Tryz.func30 rfl rfl rfl (by simp) (hf0.pers0.and cO) ?_
 refine jJ Tryz.f30 1 [0,2] [.string ⟨#[]⟩] (jJ Tryz.f30 1 [0,2,3] [vz] (aB (jJ Tryz.f30 3 [2,3,6,7,8] [.slice a B.length c,vn B.length,vi 0] (aI ?_))))
 refine oL (σ:=Nat ⊕ (Nat × Nat × (List UInt8) × (Array Value) × Nat)) (fun s=>match s with | Sum.inl i=>[(2,(.string ⟨#[]⟩)),(3,vz),(6,(.slice a B.length c)),(7,(vn B.length)),(8,(vn i))] | Sum.inr ⟨i,g,X,_,κ⟩=>[(2,(.string ⟨#[]⟩)),(3,(vs g X.length κ)),(6,(.slice a B.length c)),(7,(vn B.length)),(8,(vn i))]) (fun s=>match s with | Sum.inl _=>[] | Sum.inr ⟨_,g,_,C,_⟩=>[(g,(cL C 5))]) (fun s=>match s with | Sum.inl i=>B.length-i | Sum.inr ⟨i,_,_,_,_⟩=>B.length-i)
   (fun s=>match s with | Sum.inl i=>(i≤B.length)∧(i=0) | Sum.inr ⟨i,_,X,C,κ⟩=>(i≤B.length)∧(X=gX (B.take i))∧(Hd C X)∧(C.size=κ)∧(X.length≤κ)) (Sum.inl 0) (⟨Nat.zero_le _,rfl⟩) [] ?_
 rintro (i | ⟨i,g,X,C,κ⟩)
 ·
  rintro ⟨hi,h0⟩
  change Ok Tryz.prog _ _ 24 [(2,(.string ⟨#[]⟩)),(3,vz),(6,(.slice a B.length c)),(7,(vn B.length)),(8,(vn i))] _ [] (fun w=>Bs w a c B∧True)
  refine jJ Tryz.f30 1 [2,3,6,7,8,9] [.bool (decide (((i:Nat):Int)<((B.length:Nat):Int)))] (aB ?_)
  refine oC (decide (((i:Nat):Int)<((B.length:Nat):Int))) (fun hb1=>?_) (fun hb1=>?_)
  ·
   rw [hb1]
   have:=yT hb1
   refine aG (aA (aB (aI ?_)))
   refine sS Tryz.f30 3 [2,3,5,6,7,8] [] (fun _=>[.pointer (fK a i),vy (gB B i),vy (gB B i)]) (fun _=>[]) (cX (qF (fun _ _ _ hG=>idx_bytes (k:=.i64) Tryz.underlying35 nH hG.fn.1 rfl (show ((i:Nat):Int)=((i:Nat):Int) from rfl) (show i<B.length from (by omega))))<|cX (qF (fun _ _ _ hG=>ld_bytes Tryz.isAgg5 hG.fn.1 (show i<B.length from (by omega))))<|jE [[]]) (fun _=>?_)
   refine rS Tryz.f30 10 [2,3,6,7,8] [0,1] (fun ρ=>let qa:=([ob ((hexD (gB B i / 16):Nat):Int),ob ((hexD (gB B i%16):Nat):Int)]:List UInt8);let qb:=vs (nb ρ 8) qa.length (qa.length+aZ ρ 8);[vz,vy (gB B i),vy (gB B i / 16),vy (hexD (gB B i / 16)),vy (gB B i),vy (gB B i%16),vy (hexD (gB B i%16)),vs (nb ρ 7) qa.length 2,qb,qb]) (fun ρ=>[(7,(nw ρ 7 (cL #[vy (hexD (gB B i / 16)),vy (hexD (gB B i%16))] 5))),(8,(nw ρ 8 (cL ((bs ([ob ((hexD (gB B i / 16):Nat):Int),ob ((hexD (gB B i%16):Nat):Int)]:List UInt8)).toArray++zB (aZ ρ 8)) 5)))]) (cR [[],[]]<|cB (a:=fun ρ=>(vy (gB B i))) (b:=fun ρ=>(.int .u8 16)) (v:=fun ρ=>(vy (gB B i / 16))) .quo 5 (fun _ w=>run_quoU (k:=.u8) (n:=gB B i) (d:=16) rfl (by decide) (iD B i) w)<|cC (fun _ w=>kR (gB B i / 16) (by have:=iD B i;omega) w)<|cR [[]]<|cB (a:=fun ρ=>(vy (gB B i))) (b:=fun ρ=>(.int .u8 16)) (v:=fun ρ=>(vy (gB B i%16))) .rem 5 (fun _ w=>zT (k:=.u8) (n:=gB B i) (d:=16) (by decide) w)<|cC (fun _ w=>kR (gB B i%16) (by have:=iD B i;omega) w)<|cR [[]]<|cX (qN (fun _ ζ=>(vs (ζ.headD 0) ([ob ((hexD (gB B i / 16):Nat):Int),ob ((hexD (gB B i%16):Nat):Int)]:List UInt8).length (([ob ((hexD (gB B i / 16):Nat):Int),ob ((hexD (gB B i%16):Nat):Int)]:List UInt8).length+ζ.tail.headD 0))) (fun _ ζ=>(cL ((bs ([ob ((hexD (gB B i / 16):Nat):Int),ob ((hexD (gB B i%16):Nat):Int)]:List UInt8)).toArray++zB (ζ.tail.headD 0)) 5)) (fun ρ _ _ hG=>oU (ty:=35) Tryz.underlying35 nH (Bs.src (tx:=35) Tryz.underlying35 (Bs.of_hd (hG.kn (g:=nb ρ 7) (o:=(cL #[vy (hexD (gB B i / 16)),vy (hexD (gB B i%16))] 5)) 56) (hd2 (kV (by have:=iD B i;omega)) (kV (by have:=iD B i;omega))) (Nat.le_refl 2) (Nat.le_of_ble_eq_true rfl))) (Nat.zero_lt_succ _) (Nat.le_of_ble_eq_true rfl)))<|jE [[]]) (fun ρ6=>?_)
   refine aJ (aA ?_)
   refine rS Tryz.f30 2 [2,3,6,7,8] [] (fun _=>[vn (i+1),vn (i+1)]) (fun _=>[]) (jW (fun ρ=>(((i:Nat):Int)+1)) (fun _=>(i+1)) (fun _=>(aW i 1 (by omega)))<|jE [[]]) (fun _=>?_)
   exact mN (Sum.inr (i+1,nb ρ6 8,([ob ((hexD (gB B i / 16):Nat):Int),ob ((hexD (gB B i%16):Nat):Int)]:List UInt8),(bs ([ob ((hexD (gB B i / 16):Nat):Int),ob ((hexD (gB B i%16):Nat):Int)]:List UInt8)).toArray++zB (aZ ρ6 8),([ob ((hexD (gB B i / 16):Nat):Int),ob ((hexD (gB B i%16):Nat):Int)]:List UInt8).length+aZ ρ6 8)) (by show B.length-(i+1)<B.length-i;omega) (⟨(by omega),hx_next (by omega) (by rw [h0];rfl:([]:List UInt8)=gX (B.take i)),Hd.fresh _ _,xAR _ _,Nat.le_add_right _ _⟩) []
  rw [hb1]
  refine bF (aN (aN (aT (aA ?_))))
  refine sS Tryz.f30 3 [2] [] (fun _=>[vz,.string (gY ([]:List UInt8)),.string (gY ([]:List UInt8))]) (fun _=>[]) (cR [[]]<|cX (jF (fun _=>convert 35 9 vz) (fun _=>(.string (gY ([]:List UInt8)))) (fun _ _ _ _=>xAX (xs:=([]:List UInt8)) Tryz.underlying35 Tryz.underlying5 Tryz.underlying9 Bs.nil rfl) (fun _ _ _ _=>cO))<|jE [[]]) (fun _=>?_)
  refine aF ?_
  exact mR (v:=(.string (gY ([]:List UInt8)))) (fun _ hS=>⟨congrArg (fun x=>Ending.returned (.string (gY x))) (hx_end (by have:=yF hb1;omega) (by rw [h0];rfl:([]:List UInt8)=gX (B.take i))),hS.bel⟩)
 rintro ⟨hi,hX,hC,hs,hle⟩
 change Ok Tryz.prog _ _ 24 [(2,(.string ⟨#[]⟩)),(3,(vs g X.length κ)),(6,(.slice a B.length c)),(7,(vn B.length)),(8,(vn i))] _ [(g,(cL C 5))] (fun w=>Bs w a c B∧True)
 refine jJ Tryz.f30 1 [2,3,6,7,8,9] [.bool (decide (((i:Nat):Int)<((B.length:Nat):Int)))] (aB ?_)
 refine oC (decide (((i:Nat):Int)<((B.length:Nat):Int))) (fun hb2=>?_) (fun hb2=>?_)
 ·
  rw [hb2]
  have:=yT hb2
  refine aG (aA (aB (aI ?_)))
  refine sS Tryz.f30 3 [2,3,5,6,7,8] [] (fun _=>[.pointer (fK a i),vy (gB B i),vy (gB B i)]) (fun _=>[]) (cX (qF (fun _ _ _ hG=>idx_bytes (k:=.i64) Tryz.underlying35 nH hG.fn.1 rfl (show ((i:Nat):Int)=((i:Nat):Int) from rfl) (show i<B.length from (by have:=gV hi hX;omega))))<|cX (qF (fun _ _ _ hG=>ld_bytes Tryz.isAgg5 hG.fn.1 (show i<B.length from (by have:=gV hi hX;omega))))<|jE [[]]) (fun _=>?_)
  rcases Bool.eq_false_or_eq_true (decide (X.length+([ob ((hexD (gB B i / 16):Nat):Int),ob ((hexD (gB B i%16):Nat):Int)]:List UInt8).length≤κ)) with hb3 | hb3
  ·
   refine rS Tryz.f30 10 [2,3,6,7,8] [1,0] (fun ρ=>let qa:=([ob ((hexD (gB B i / 16):Nat):Int),ob ((hexD (gB B i%16):Nat):Int)]:List UInt8);let qb:=vs g (X++qa).length κ;[vs g X.length κ,vy (gB B i),vy (gB B i / 16),vy (hexD (gB B i / 16)),vy (gB B i),vy (gB B i%16),vy (hexD (gB B i%16)),vs (nb ρ 7) qa.length 2,qb,qb]) (fun ρ=>[(7,(nw ρ 7 (cL #[vy (hexD (gB B i / 16)),vy (hexD (gB B i%16))] 5))),(8,(bD 0 g (cL (inpl C X.length (bs ([ob ((hexD (gB B i / 16):Nat):Int),ob ((hexD (gB B i%16):Nat):Int)]:List UInt8))) 5)))]) (cR [[],[]]<|cB (a:=fun ρ=>(vy (gB B i))) (b:=fun ρ=>(.int .u8 16)) (v:=fun ρ=>(vy (gB B i / 16))) .quo 5 (fun _ w=>run_quoU (k:=.u8) (n:=gB B i) (d:=16) rfl (by decide) (iD B i) w)<|cC (fun _ w=>kR (gB B i / 16) (by have:=yT hb3;have:=gV hi hX;have:=iD B i;omega) w)<|cR [[]]<|cB (a:=fun ρ=>(vy (gB B i))) (b:=fun ρ=>(.int .u8 16)) (v:=fun ρ=>(vy (gB B i%16))) .rem 5 (fun _ w=>zT (k:=.u8) (n:=gB B i) (d:=16) (by decide) w)<|cC (fun _ w=>kR (gB B i%16) (by have:=yT hb3;have:=gV hi hX;have:=iD B i;omega) w)<|cR [[]]<|cX (o9 _ 0 (fun ρ=>do pure (Next.value (← Builtin.append_ #[35,35] 35 #[vs g X.length κ,vs (nb ρ 7) ([ob ((hexD (gB B i / 16):Nat):Int),ob ((hexD (gB B i%16):Nat):Int)]:List UInt8).length 2]))) (fun _=>g) (fun _=>(cL C 5)) (fun _=>(cL (inpl C X.length (bs ([ob ((hexD (gB B i / 16):Nat):Int),ob ((hexD (gB B i%16):Nat):Int)]:List UInt8))) 5)) (fun _=>(vs g (X++([ob ((hexD (gB B i / 16):Nat):Int),ob ((hexD (gB B i%16):Nat):Int)]:List UInt8)).length κ)) (fun _=>(by kernel_rfl)) (fun _=>(by kernel_rfl)) (fun _=>(by kernel_rfl)) (fun _=>(by kernel_rfl)) (fun _ _=>trivial) (fun ρ _ _ hG hg=>kD Tryz.underlying35 nH hg (Bs.src (tx:=35) Tryz.underlying35 (Bs.of_hd (hG.kn (g:=nb ρ 7) (o:=(cL #[vy (hexD (gB B i / 16)),vy (hexD (gB B i%16))] 5)) 57) (hd2 (kV (by have:=iD B i;omega)) (kV (by have:=iD B i;omega))) (Nat.le_refl 2) (Nat.le_of_ble_eq_true rfl))) hs (yT hb3)))<|jE [[]]) (fun _=>?_)
   refine aJ (aA ?_)
   refine rS Tryz.f30 2 [2,3,6,7,8] [] (fun _=>[vn (i+1),vn (i+1)]) (fun _=>[]) (jW (fun ρ=>(((i:Nat):Int)+1)) (fun _=>(i+1)) (fun _=>(aW i 1 (by have:=yT hb3;have:=gV hi hX;omega)))<|jE [[]]) (fun _=>?_)
   exact mN (Sum.inr (i+1,g,X++([ob ((hexD (gB B i / 16):Nat):Int),ob ((hexD (gB B i%16):Nat):Int)]:List UInt8),inpl C X.length (bs ([ob ((hexD (gB B i / 16):Nat):Int),ob ((hexD (gB B i%16):Nat):Int)]:List UInt8)),κ)) (by show B.length-(i+1)<B.length-i;have:=yT hb3;have:=gV hi hX;omega) (⟨(by have:=yT hb3;have:=gV hi hX;omega),hx_next (by have:=yT hb3;have:=gV hi hX;omega) hX,Hd.inpl hC rfl,(lG _ _ _ (room_le hs (yT hb3))).trans hs,oK (yT hb3)⟩) []
  refine rS Tryz.f30 10 [2,3,6,7,8] [0,0,1] (fun ρ=>let qa:=([ob ((hexD (gB B i / 16):Nat):Int),ob ((hexD (gB B i%16):Nat):Int)]:List UInt8);let qb:=vs (nb ρ 8) (X++qa).length ((X++qa).length+aZ ρ 8);[vs g X.length κ,vy (gB B i),vy (gB B i / 16),vy (hexD (gB B i / 16)),vy (gB B i),vy (gB B i%16),vy (hexD (gB B i%16)),vs (nb ρ 7) qa.length 2,qb,qb]) (fun ρ=>[(7,(nw ρ 7 (cL #[vy (hexD (gB B i / 16)),vy (hexD (gB B i%16))] 5))),(8,(nw ρ 8 (cL (grow C X.length (bs ([ob ((hexD (gB B i / 16):Nat):Int),ob ((hexD (gB B i%16):Nat):Int)]:List UInt8)) (aZ ρ 8)) 5)))]) (cR [[],[]]<|cB (a:=fun ρ=>(vy (gB B i))) (b:=fun ρ=>(.int .u8 16)) (v:=fun ρ=>(vy (gB B i / 16))) .quo 5 (fun _ w=>run_quoU (k:=.u8) (n:=gB B i) (d:=16) rfl (by decide) (iD B i) w)<|cC (fun _ w=>kR (gB B i / 16) (by have:=yF hb3;have:=gV hi hX;have:=iD B i;omega) w)<|cR [[]]<|cB (a:=fun ρ=>(vy (gB B i))) (b:=fun ρ=>(.int .u8 16)) (v:=fun ρ=>(vy (gB B i%16))) .rem 5 (fun _ w=>zT (k:=.u8) (n:=gB B i) (d:=16) (by decide) w)<|cC (fun _ w=>kR (gB B i%16) (by have:=yF hb3;have:=gV hi hX;have:=iD B i;omega) w)<|cR [[]]<|cX (qN (fun _ ζ=>(vs (ζ.headD 0) (X++([ob ((hexD (gB B i / 16):Nat):Int),ob ((hexD (gB B i%16):Nat):Int)]:List UInt8)).length ((X++([ob ((hexD (gB B i / 16):Nat):Int),ob ((hexD (gB B i%16):Nat):Int)]:List UInt8)).length+ζ.tail.headD 0))) (fun _ ζ=>(cL (grow C X.length (bs ([ob ((hexD (gB B i / 16):Nat):Int),ob ((hexD (gB B i%16):Nat):Int)]:List UInt8)) (ζ.tail.headD 0)) 5)) (fun ρ _ _ hG=>xG (ty:=35) Tryz.underlying35 nH (hG.kn (g:=g) (o:=(cL C 5)) 0) (Bs.src (tx:=35) Tryz.underlying35 (Bs.of_hd (hG.kn (g:=nb ρ 7) (o:=(cL #[vy (hexD (gB B i / 16)),vy (hexD (gB B i%16))] 5)) 57) (hd2 (kV (by have:=iD B i;omega)) (kV (by have:=iD B i;omega))) (Nat.le_refl 2) (Nat.le_of_ble_eq_true rfl))) hs hle (Nat.lt_of_not_le (yF hb3)) (by simp only [List.length_cons,List.length_nil];have:=yF hb3;have:=gV hi hX;omega)))<|jE [[]]) (fun ρ13=>?_)
  refine aJ (aA ?_)
  refine rS Tryz.f30 2 [2,3,6,7,8] [] (fun _=>[vn (i+1),vn (i+1)]) (fun _=>[]) (jW (fun ρ=>(((i:Nat):Int)+1)) (fun _=>(i+1)) (fun _=>(aW i 1 (by have:=yF hb3;have:=gV hi hX;omega)))<|jE [[]]) (fun _=>?_)
  exact mN (Sum.inr (i+1,nb ρ13 8,X++([ob ((hexD (gB B i / 16):Nat):Int),ob ((hexD (gB B i%16):Nat):Int)]:List UInt8),grow C X.length (bs ([ob ((hexD (gB B i / 16):Nat):Int),ob ((hexD (gB B i%16):Nat):Int)]:List UInt8)) (aZ ρ13 8),(X++([ob ((hexD (gB B i / 16):Nat):Int),ob ((hexD (gB B i%16):Nat):Int)]:List UInt8)).length+aZ ρ13 8)) (by show B.length-(i+1)<B.length-i;have:=yF hb3;have:=gV hi hX;omega) (⟨(by have:=yF hb3;have:=gV hi hX;omega),hx_next (by have:=yF hb3;have:=gV hi hX;omega) hX,Hd.grow hC rfl,tX hC,Nat.le_add_right _ _⟩) []
 rw [hb2]
 refine bF (aN (aN (aT (aA ?_))))
 refine sS Tryz.f30 3 [2] [0] (fun _=>[vs g X.length κ,.string (gY X),.string (gY X)]) (fun _=>[]) (cR [[]]<|cX (jF (fun _=>convert 35 9 (vs g X.length κ)) (fun _=>(.string (gY X))) (fun _ _ _ hG=>xAX (xs:=X) Tryz.underlying35 Tryz.underlying5 Tryz.underlying9 (Bs.of_hd (hG.kn (g:=g) (o:=(cL C 5)) 0) hC hle (by have:=gV hi hX;omega)) rfl) (fun _ _ _ _=>cO))<|jE [[]]) (fun _=>?_)
 refine aF ?_
 exact mR (v:=(.string (gY X))) (fun _ hS=>⟨congrArg (fun x=>Ending.returned (.string (gY x))) (hx_end (by have:=yF hb2;have:=gV hi hX;omega) hX),hS.bel⟩)
theorem dsum_any (S:List UInt8) (hS:S.length+1000≤140737488351232) (w0:World) (hf0:kJ w0) (hf1:fU w0):Calls Tryz.prog 12 #[.string (gY S)] w0 (jR (.string (gY (gX ((hL (lV kX S)).take 4)))) w0):=by
 refine Calls.of_ok (n:=9) (F:=(fun w=>kJ w∧fU w∧True)) Tryz.func12 rfl rfl rfl (by simp) (hf0.pers0.and (hf1.pers0.and cO)) ?_
 refine jJ Tryz.f12 1 [0,2] [.string ⟨#[]⟩] ?_
 refine iZ Tryz.f12 5 [2,3] [] (fun ρ=>[.string (gY S),.slice (oa ρ 1) S.length (nb ρ 1),.agg (hB (lV kX S)),pt (nb ρ 3),undef]) (fun ρ=>[(3,(nw ρ 3 (cL (hB 0) 47))),(4,(bD 24 (nb ρ 3) (cL (hB (lV kX S)) 47)))]) (fun ρ=>[(1,fun w=>Fs w0 w (oa ρ 1) (nb ρ 1) S)]) (fun ρ=>(fun w=>kJ w∧fU w∧Fs w0 w (oa ρ 1) (nb ρ 1) S∧True)) (fun _=>True) (fun _ _ hF hf=>⟨⟨hF.1,hF.2.1,hf 1,trivial⟩,trivial⟩) (cR [[]]<|cX (o_newF _ (fun _=>do pure (Next.value (← convert 9 35 (.string (gY S))))) (fun _ α κ=>(.slice α S.length κ)) (fun _=>S) (fun _ _=>(by kernel_rfl)) (fun _=>(by kernel_rfl)) (fun _ _=>(by kernel_rfl)) (fun _ _ w _=>qE Tryz.underlying9 Tryz.underlying35 Tryz.underlying5 S (by omega) w))<|cX (qC (fun ρ _ w hG=>yM kX (oa ρ 1) (nb ρ 1) S (by decide) (by omega) w (show Fs w0 w (oa ρ 1) (nb ρ 1) S from (hG.facts 1 rfl).now).1 hG.fn.1 hG.fn.2.1))<|jE [[],[24]]) (fun ρ2 _=>?_)
 refine sS Tryz.f12 3 [2] [0] (fun _=>[vs (nb ρ2 3) ((hL (lV kX S)).take 4).length 32,.string (gY (gX ((hL (lV kX S)).take 4))),.string (gY (gX ((hL (lV kX S)).take 4)))]) (fun _=>[]) (cR [[]]<|cX (qC (fun _ _ w hG=>hex_any (some ⟨nb ρ2 3,0,none⟩) 32 ((hL (lV kX S)).take 4) (by rw [List.length_take,aO];decide) w (Bs.of_hd (c:=32) (hG.kn (g:=nb ρ2 3) (o:=(cL (hB (lV kX S)) 47)) 0) (Hd.take (oH _) _) (Nat.le_of_ble_eq_true rfl) (Nat.le_of_ble_eq_true rfl))))<|jE [[]]) (fun _=>?_)
 refine aF ?_
 exact mR (v:=(.string (gY (gX ((hL (lV kX S)).take 4))))) (fun _ hS=>⟨rfl,hS.bel⟩)
theorem dsanew_any (dd:Nat) (edd:lV kX ([]:List UInt8)=dd) (w0:World) (hf0:kJ w0) (hf1:fU w0):Calls Tryz.prog 6 #[] w0 (jR vT w0):=by
 refine Calls.of_ok (n:=12) (F:=(fun w=>kJ w∧fU w∧True)) Tryz.func6 rfl rfl rfl (by simp) (hf0.pers0.and (hf1.pers0.and cO)) ?_
 refine jJ Tryz.f6 1 [0] [vF] ?_
 refine sS Tryz.f6 12 [0] [] (fun _=>[vi (nO 6),vT,vT,vi (nO 9),vT,vT,vT,.string (gY (gX ((hL dd).take 4))),vn (gX ((hL dd).take 4)).length,vT,vT,vT]) (fun _=>[]) (cC (fun _ w=>jC 6 w)<|jQ (fun ρ=>((nO 6)==2)) true (fun _=>(show ((nO 6)==2)=true from rfl))<|cR [[]]<|cC (fun _ w=>jC 9 w)<|jQ (fun ρ=>((nO 9)==(-1))) true (fun _=>(show ((nO 9)==(-1))=true from rfl))<|cR [[],[]]<|cX (lN _ 12 (fun _=> #[.string ⟨#[]⟩]) (fun _=>(.string (gY (gX ((hL dd).take 4))))) (fun _ _=>(by kernel_rfl)) (fun _=>(by kernel_rfl)) (fun _ _=>(by kernel_rfl)) (fun _ _=>trivial) (fun _ _ w hG=>(by as_aux_lemma=>(have hcall:=dsum_any ([]:List UInt8) (by decide) w hG.fn.1 hG.fn.2.1;rw [edd] at hcall;exact hcall))))<|cR [[]]<|cA (fun _=>vT) (fun _=>congrArg Value.bool (sum_8 dd))<|jE [[],[]]) (fun _=>?_)
 refine aF ?_
 exact mR (v:=vT) (fun _ hS=>⟨rfl,hS.bel⟩)
theorem dsane_any (w0:World) (hf0:kJ w0) (hf1:fU w0):Calls Tryz.prog 6 #[] w0 (jR vT w0):=dsanew_any _ rfl w0 hf0 hf1
def qI (w:World):Prop:=Lib.TabIs Tryz.prog w "internal/strconv.uint64pow10" .u64 Lib.pow10Tab
theorem qI.pers0 {w:World} (h:qI w):dL (fun _=>False) (fun w=>qI w) w:=by
  have hg:Tryz.prog.globalNamed "internal/strconv.uint64pow10" = some 2:=by kernel_rfl
  unfold qI Lib.TabIs World.var? at h
  simp only [hg,Option.bind_some] at h
  refine ⟨fun b=>b=2,fun b hb=>⟨?_,id⟩,fun w' hw=>?_⟩
  · rw [hb]
    rcases Nat.lt_or_ge 2 w.heap.size with h' | h'
    · exact h'
    · rw [Array.getElem?_eq_none h'] at h;simp at h
  · unfold qI Lib.TabIs World.var?
    simp only [hg,Option.bind_some,hw _ rfl]
    exact h
theorem rU (u:Nat) (hu:u<18446744073709551616) (w:World) (h:qI w):Calls Tryz.prog 44 #[.int .u64 u,.int .i64 10] w fun e w'=>e=.returned (.string (gY (dS u)))∧Below w.heap.size w w':=fmt_any u hu w h
theorem kQ (n:Nat) (hn:n<4294967296) (w0:World):Calls Tryz.prog 47 #[vu n] w0 (jR (.string (gY (dS n))) w0):=by
 refine Calls.of_ok (n:=7) (F:=(fun _=>True)) Tryz.func47 rfl rfl rfl (by simp) jT ?_
 refine jJ Tryz.f47 1 [0,2] [.string ⟨#[]⟩] ?_
 refine sS Tryz.f47 5 [2] [] (fun _=>[vu n,vx n,U n,.string (gY (dS n)),.string (gY (dS n))]) (fun _=>[]) (cR [[]]<|cA (fun _=>(vx n)) (fun _=>congrArg (Value.int .u64) (txU hn))<|cC (fun _ w=>iE n w (Nat.lt_trans hn (by decide +kernel:4294967296<18446744073709551616)))<|cC (fun _ w=>rtext_any n (Nat.lt_trans hn (by decide +kernel:4294967296<M)) w)<|jE [[]]) (fun _=>?_)
 refine aF ?_
 exact mR (v:=(.string (gY (dS n)))) (fun _ hS=>⟨rfl,hS.bel⟩)
theorem sJ (p:dO) (hp:p.Ok) (w0:World) (hf0:Is w0 .u32 p.pa p.pc (nI p.ps)) (hf1:qI w0):Calls Tryz.prog 45 #[.agg (dO.row p)] w0 (jR (.string (gY p.tx)) w0):=by
 refine Calls.of_ok (n:=39) (F:=(fun w=>Is w .u32 p.pa p.pc (nI p.ps)∧qI w∧True)) Tryz.func45 rfl rfl rfl (by simp) (hf0.pers0.and (hf1.pers0.and cO)) ?_
 have hlen:(nI p.ps).length≤140737488351232:=hf0.max
 have hnl:(nI p.ps).length=p.ps.length:=fZ p.ps
 refine sS Tryz.f45 2 [1,2] [] (fun ρ=>[pt (nb ρ 0),.string ⟨#[]⟩]) (fun ρ=>[(0,(nw ρ 0 (cL (dO.row p) 59)))]) (jE [[],[]]) (fun ρ1=>?_)
 refine iZ Tryz.f45 5 [1,2,3] [] (fun ρ=>[pt (nb ρ1 0),.agg (kY p.k),.slice (oa ρ 2) (pY p.k).length (nb ρ 2),.string (gY (gX (pY p.k))),.string (gY (gX (pY p.k)))]) (fun _=>[]) (fun ρ=>[(2,fun w=>Fs w0 w (oa ρ 2) (nb ρ 2) (pY p.k))]) (fun ρ=>(fun w=>Is w .u32 p.pa p.pc (nI p.ps)∧qI w∧Fs w0 w (oa ρ 2) (nb ρ 2) (pY p.k)∧True)) (fun _=>True) (fun _ _ hF hf=>⟨⟨hF.1,hF.2.1,hf 2,trivial⟩,trivial⟩) (cR [[],[0]]<|cX (qB (fun _ _ w _=>kencode_any p.k hp.k w))<|cX (qC (fun ρ _ w hG=>hex_any (oa ρ 2) (nb ρ 2) (pY p.k) (by rw [enB_len];decide) w (show Fs w0 w (oa ρ 2) (nb ρ 2) (pY p.k) from (hG.facts 2 rfl).now).1))<|jE [[]]) (fun ρ2 _=>?_)
 refine aB (jM Tryz.f45 4 [1,2,3,11,12,13] [] [jp (nb ρ1 0) 43,.slice p.pa (nI p.ps).length p.pc,vn (nI p.ps).length,vi 0] [[],[0],[],[]] (aI ?_))
 refine oL (σ:=Nat × (List UInt8)) (fun ⟨i,X⟩=>[(1,(pt (nb ρ1 0))),(2,(.string ⟨#[]⟩)),(3,(.string (gY X))),(11,(.slice p.pa (nI p.ps).length p.pc)),(12,(vn (nI p.ps).length)),(13,(vn i))]) (fun ⟨_,_⟩=>[(nb ρ1 0,(cL (dO.row p) 59))]) (fun ⟨i,_⟩=>(nI p.ps).length-i)
   (fun ⟨i,X⟩=>(i≤(nI p.ps).length)∧(X=gX (pY p.k)++paT (p.ps.take i))) (0,gX (pY p.k)) (⟨Nat.zero_le _,(List.append_nil _).symm⟩) [] ?_
 rintro ⟨i,X⟩ ⟨hi,hX⟩
 change Ok Tryz.prog _ _ 39 [(1,(pt (nb ρ1 0))),(2,(.string ⟨#[]⟩)),(3,(.string (gY X))),(11,(.slice p.pa (nI p.ps).length p.pc)),(12,(vn (nI p.ps).length)),(13,(vn i))] _ [(nb ρ1 0,(cL (dO.row p) 59))] (fun w=>Is w .u32 p.pa p.pc (nI p.ps)∧qI w∧Fs w0 w (oa ρ2 2) (nb ρ2 2) (pY p.k)∧True)
 refine jJ Tryz.f45 1 [1,2,3,11,12,13,14] [.bool (decide (((i:Nat):Int)<(((nI p.ps).length:Nat):Int)))] (aB ?_)
 refine oC (decide (((i:Nat):Int)<(((nI p.ps).length:Nat):Int))) (fun hb1=>?_) (fun hb1=>?_)
 ·
  rw [hb1]
  have:=yT hb1
  refine aG (aA (aB (aI ?_)))
  refine sS Tryz.f45 3 [1,2,3,5,11,12,13] [] (fun _=>[.pointer (fK p.pa i),vu (p.ps.getD i 0),vu (p.ps.getD i 0)]) (fun _=>[]) (cX (qF (fun _ _ _ hG=>o6 (k:=.i64) Tryz.underlying57 Tryz.sizeOf45 hG.fn.1 rfl (show ((i:Nat):Int)=((i:Nat):Int) from rfl) (show i<(nI p.ps).length from (by omega))))<|cX (qF (v:=fun ρ=>(vu (p.ps.getD i 0))) (fun _ _ _ hG=>(rG Tryz.isAgg45 hG.fn.1 (show i<(nI p.ps).length from (by omega))).trans (by rw [yQ])))<|jE [[]]) (fun _=>?_)
  refine jJ Tryz.f45 2 [1,2,3,5,11,12,13,18] [vu (p.ps.getD i 0),.bool (decide (2147483648≤((p.ps.getD i 0:Nat):Int)))] ?_
  refine oC (decide (2147483648≤((p.ps.getD i 0:Nat):Int))) (fun hb2=>?_) (fun hb2=>?_)
  ·
   rw [hb2]
   have:=yT hb2
   refine rS Tryz.f45 9 [1,2,3,11,12,13] [] (fun _=>[.string (gY X),vu (p.ps.getD i 0),vu (p.ps.getD i 0-2147483648),vx (p.ps.getD i 0-2147483648),.string (gY (dS (p.ps.getD i 0-2147483648))),.string (gY (([47]:List UInt8)++(dS (p.ps.getD i 0-2147483648)))),.string (gY ((([47]:List UInt8)++(dS (p.ps.getD i 0-2147483648)))++([104]:List UInt8))),.string (gY (X++((([47]:List UInt8)++(dS (p.ps.getD i 0-2147483648)))++([104]:List UInt8)))),.string (gY (X++((([47]:List UInt8)++(dS (p.ps.getD i 0-2147483648)))++([104]:List UInt8))))]) (fun _=>[]) (cR [[],[]]<|cA (fun _=>(vu (p.ps.getD i 0-2147483648))) (fun _=>jN (txS (txG hp.ps i) hb2))<|cA (v:=fun ρ=>(.int .u64 (IntKind.u64.wrap ((p.ps.getD i 0-2147483648:Nat):Int)))) (fun _=>(vx (p.ps.getD i 0-2147483648))) (fun _=>congrArg (Value.int .u64) (txU (by have:=txG hp.ps i;omega)))<|cX (qC (fun _ _ w hG=>rU (p.ps.getD i 0-2147483648) (by have:=txG hp.ps i;omega) w hG.fn.2.1))<|cB (a:=fun ρ=>(.string (gY ([47]:List UInt8)))) (b:=fun ρ=>(.string (gY (dS (p.ps.getD i 0-2147483648))))) (v:=fun ρ=>(.string (gY (([47]:List UInt8)++(dS (p.ps.getD i 0-2147483648)))))) .add 9 (fun _ w=>bI ([47]:List UInt8) (dS (p.ps.getD i 0-2147483648)) (by have q0:=txG hp.ps i;have q1:=bQ (n:=p.ps.getD i 0) (by omega);have q2:=bQ (n:=p.ps.getD i 0-2147483648) (by omega);have q3:=lC hX hp.ps;simp only [List.length_cons,List.length_nil];omega) w)<|cB (a:=fun ρ=>(.string (gY (([47]:List UInt8)++(dS (p.ps.getD i 0-2147483648)))))) (b:=fun ρ=>(.string (gY ([104]:List UInt8)))) (v:=fun ρ=>(.string (gY ((([47]:List UInt8)++(dS (p.ps.getD i 0-2147483648)))++([104]:List UInt8))))) .add 9 (fun _ w=>bI (([47]:List UInt8)++(dS (p.ps.getD i 0-2147483648))) ([104]:List UInt8) (by have q0:=txG hp.ps i;have q1:=bQ (n:=p.ps.getD i 0) (by omega);have q2:=bQ (n:=p.ps.getD i 0-2147483648) (by omega);have q3:=lC hX hp.ps;simp only [List.length_append,List.length_cons,List.length_nil];omega) w)<|cB (a:=fun ρ=>(.string (gY X))) (b:=fun ρ=>(.string (gY ((([47]:List UInt8)++(dS (p.ps.getD i 0-2147483648)))++([104]:List UInt8))))) (v:=fun ρ=>(.string (gY (X++((([47]:List UInt8)++(dS (p.ps.getD i 0-2147483648)))++([104]:List UInt8)))))) .add 9 (fun _ w=>bI X ((([47]:List UInt8)++(dS (p.ps.getD i 0-2147483648)))++([104]:List UInt8)) (by have q0:=txG hp.ps i;have q1:=bQ (n:=p.ps.getD i 0) (by omega);have q2:=bQ (n:=p.ps.getD i 0-2147483648) (by omega);have q3:=lC hX hp.ps;simp only [List.length_append,List.length_cons,List.length_nil];omega) w)<|jE [[]]) (fun _=>?_)
   refine aJ (aA ?_)
   refine rS Tryz.f45 2 [1,2,3,11,12,13] [] (fun _=>[vn (i+1),vn (i+1)]) (fun _=>[]) (jW (fun ρ=>(((i:Nat):Int)+1)) (fun _=>(i+1)) (fun _=>(aW i 1 (by omega)))<|jE [[]]) (fun _=>?_)
   exact mN (i+1,X++((([47]:List UInt8)++(dS (p.ps.getD i 0-2147483648)))++([104]:List UInt8))) (by show (nI p.ps).length-(i+1)<(nI p.ps).length-i;omega) (⟨(by omega),tx_next (by omega) hX (sg_h hb2)⟩) []
  rw [hb2]
  have:=yF hb2
  refine rS Tryz.f45 7 [1,2,3,11,12,13] [] (fun _=>[.string (gY X),vu (p.ps.getD i 0),vx (p.ps.getD i 0),.string (gY (dS (p.ps.getD i 0))),.string (gY (([47]:List UInt8)++(dS (p.ps.getD i 0)))),.string (gY (X++(([47]:List UInt8)++(dS (p.ps.getD i 0))))),.string (gY (X++(([47]:List UInt8)++(dS (p.ps.getD i 0)))))]) (fun _=>[]) (cR [[],[]]<|cA (v:=fun ρ=>(.int .u64 (IntKind.u64.wrap ((p.ps.getD i 0:Nat):Int)))) (fun _=>(vx (p.ps.getD i 0))) (fun _=>congrArg (Value.int .u64) (txU (by have:=txG hp.ps i;omega)))<|cX (qC (fun _ _ w hG=>rU (p.ps.getD i 0) (by have:=txG hp.ps i;omega) w hG.fn.2.1))<|cB (a:=fun ρ=>(.string (gY ([47]:List UInt8)))) (b:=fun ρ=>(.string (gY (dS (p.ps.getD i 0))))) (v:=fun ρ=>(.string (gY (([47]:List UInt8)++(dS (p.ps.getD i 0)))))) .add 9 (fun _ w=>bI ([47]:List UInt8) (dS (p.ps.getD i 0)) (by have q0:=txG hp.ps i;have q1:=bQ (n:=p.ps.getD i 0) (by omega);have q2:=bQ (n:=p.ps.getD i 0-2147483648) (by omega);have q3:=lC hX hp.ps;simp only [List.length_cons,List.length_nil];omega) w)<|cB (a:=fun ρ=>(.string (gY X))) (b:=fun ρ=>(.string (gY (([47]:List UInt8)++(dS (p.ps.getD i 0)))))) (v:=fun ρ=>(.string (gY (X++(([47]:List UInt8)++(dS (p.ps.getD i 0))))))) .add 9 (fun _ w=>bI X (([47]:List UInt8)++(dS (p.ps.getD i 0))) (by have q0:=txG hp.ps i;have q1:=bQ (n:=p.ps.getD i 0) (by omega);have q2:=bQ (n:=p.ps.getD i 0-2147483648) (by omega);have q3:=lC hX hp.ps;simp only [List.length_append,List.length_cons,List.length_nil];omega) w)<|jE [[]]) (fun _=>?_)
  refine aJ (aA ?_)
  refine rS Tryz.f45 2 [1,2,3,11,12,13] [] (fun _=>[vn (i+1),vn (i+1)]) (fun _=>[]) (jW (fun ρ=>(((i:Nat):Int)+1)) (fun _=>(i+1)) (fun _=>(aW i 1 (by omega)))<|jE [[]]) (fun _=>?_)
  exact mN (i+1,X++(([47]:List UInt8)++(dS (p.ps.getD i 0)))) (by show (nI p.ps).length-(i+1)<(nI p.ps).length-i;omega) (⟨(by omega),tx_next (by omega) hX (sg_n hb2)⟩) []
 rw [hb1]
 refine bF (aN (aN (aT (aA (aB (jM Tryz.f45 2 [2,3,35] [0] [jp (nb ρ1 0) 44,.bool p.wd] [[],[0]] ?_))))))
 refine oC p.wd (fun hb3=>?_) (fun hb3=>?_)
 ·
  rw [hb3]
  refine rS Tryz.f45 3 [2,3] [] (fun _=>[.string (gY X),.string (gY (X++([47,42]:List UInt8))),.string (gY (X++([47,42]:List UInt8)))]) (fun _=>[]) (cR [[]]<|cB (a:=fun ρ=>(.string (gY X))) (b:=fun ρ=>(.string (gY ([47,42]:List UInt8)))) (v:=fun ρ=>(.string (gY (X++([47,42]:List UInt8))))) .add 9 (fun _ w=>bI X ([47,42]:List UInt8) (by have q3:=lC hX hp.ps;simp only [List.length_cons,List.length_nil];omega) w)<|jE [[]]) (fun _=>?_)
  refine aA (jJ Tryz.f45 2 [2] [.string (gY (X++([47,42]:List UInt8))),.string (gY (X++([47,42]:List UInt8)))] (aF ?_))
  exact mR (v:=(.string (gY (X++([47,42]:List UInt8))))) (fun _ hS=>⟨congrArg (fun x=>Ending.returned (.string (gY x))) (tx_w1 (by have:=yF hb1;omega) hX hb3),hS.bel⟩)
 rw [hb3]
 refine aG (aA (jJ Tryz.f45 2 [2] [.string (gY X),.string (gY X)] (aF ?_)))
 exact mR (v:=(.string (gY X))) (fun _ hS=>⟨congrArg (fun x=>Ending.returned (.string (gY x))) (tx_w0 (by have:=yF hb1;omega) hX hb3),hS.bel⟩)
theorem qO (p:dO) (hp:p.Ok) (w0:World) (hf0:Is w0 .u32 p.pa p.pc (nI p.ps)):Calls Tryz.prog 46 #[.agg (dO.row p)] w0 (jR (.string (gY p.tx)) w0):=by
 refine Calls.of_ok (n:=41) (F:=(fun w=>Is w .u32 p.pa p.pc (nI p.ps)∧True)) Tryz.func46 rfl rfl rfl (by simp) (hf0.pers0.and cO) ?_
 have hlen:(nI p.ps).length≤140737488351232:=hf0.max
 have hnl:(nI p.ps).length=p.ps.length:=fZ p.ps
 refine sS Tryz.f46 2 [1,2] [] (fun ρ=>[pt (nb ρ 0),.string ⟨#[]⟩]) (fun ρ=>[(0,(nw ρ 0 (cL (dO.row p) 59)))]) (jE [[],[]]) (fun ρ1=>?_)
 refine iZ Tryz.f46 5 [1,2,3] [] (fun ρ=>[pt (nb ρ1 0),.agg (kY p.k),.slice (oa ρ 2) (pY p.k).length (nb ρ 2),.string (gY (gX (pY p.k))),.string (gY (gX (pY p.k)))]) (fun _=>[]) (fun ρ=>[(2,fun w=>Fs w0 w (oa ρ 2) (nb ρ 2) (pY p.k))]) (fun ρ=>(fun w=>Is w .u32 p.pa p.pc (nI p.ps)∧Fs w0 w (oa ρ 2) (nb ρ 2) (pY p.k)∧True)) (fun _=>True) (fun _ _ hF hf=>⟨⟨hF.1,hf 2,trivial⟩,trivial⟩) (cR [[],[0]]<|cX (qB (fun _ _ w _=>rkencode_any p.k hp.k w))<|cX (qC (fun ρ _ w hG=>rhex_any (oa ρ 2) (nb ρ 2) (pY p.k) (by rw [enB_len];decide) w (show Fs w0 w (oa ρ 2) (nb ρ 2) (pY p.k) from (hG.facts 2 rfl).now).1))<|jE [[]]) (fun ρ2 _=>?_)
 refine aB (jJ Tryz.f46 1 [1,2,3,4] [vi 0] (aI ?_))
 refine oL (σ:=Nat × (List UInt8)) (fun ⟨i,X⟩=>[(1,(pt (nb ρ1 0))),(2,(.string ⟨#[]⟩)),(3,(.string (gY X))),(4,(vn i))]) (fun ⟨_,_⟩=>[(nb ρ1 0,(cL (dO.row p) 59))]) (fun ⟨i,_⟩=>(nI p.ps).length-i)
   (fun ⟨i,X⟩=>(i≤(nI p.ps).length)∧(X=gX (pY p.k)++paT (p.ps.take i))) (0,gX (pY p.k)) (⟨Nat.zero_le _,(List.append_nil _).symm⟩) [] ?_
 rintro ⟨i,X⟩ ⟨hi,hX⟩
 change Ok Tryz.prog _ _ 41 [(1,(pt (nb ρ1 0))),(2,(.string ⟨#[]⟩)),(3,(.string (gY X))),(4,(vn i))] _ [(nb ρ1 0,(cL (dO.row p) 59))] (fun w=>Is w .u32 p.pa p.pc (nI p.ps)∧Fs w0 w (oa ρ2 2) (nb ρ2 2) (pY p.k)∧True)
 refine aB (jM Tryz.f46 5 [1,2,3,4,14] [] [vn i,jp (nb ρ1 0) 43,.slice p.pa (nI p.ps).length p.pc,vn (nI p.ps).length,.bool (decide (((i:Nat):Int)<(((nI p.ps).length:Nat):Int)))] [[],[],[0],[],[]] ?_)
 refine oC (decide (((i:Nat):Int)<(((nI p.ps).length:Nat):Int))) (fun hb1=>?_) (fun hb1=>?_)
 ·
  rw [hb1]
  have:=yT hb1
  refine aG (aA (aB (aI ?_)))
  refine sS Tryz.f46 6 [1,2,3,4,5] [] (fun _=>[jp (nb ρ1 0) 43,.slice p.pa (nI p.ps).length p.pc,vn i,.pointer (fK p.pa i),vu (p.ps.getD i 0),vu (p.ps.getD i 0)]) (fun _=>[]) (cR [[],[0],[]]<|cX (qF (fun _ _ _ hG=>o6 (k:=.i64) Tryz.underlying57 Tryz.sizeOf45 hG.fn.1 rfl (show ((i:Nat):Int)=((i:Nat):Int) from rfl) (show i<(nI p.ps).length from (by omega))))<|cX (qF (v:=fun ρ=>(vu (p.ps.getD i 0))) (fun _ _ _ hG=>(rG Tryz.isAgg45 hG.fn.1 (show i<(nI p.ps).length from (by omega))).trans (by rw [yQ])))<|jE [[]]) (fun _=>?_)
  refine jJ Tryz.f46 2 [1,2,3,4,5,23] [vu (p.ps.getD i 0),.bool (decide (2147483648≤((p.ps.getD i 0:Nat):Int)))] ?_
  refine oC (decide (2147483648≤((p.ps.getD i 0:Nat):Int))) (fun hb2=>?_) (fun hb2=>?_)
  ·
   rw [hb2]
   have:=yT hb2
   refine rS Tryz.f46 8 [1,2,3,4] [] (fun _=>[.string (gY X),.string (gY (X++([47]:List UInt8))),vu (p.ps.getD i 0),vu (p.ps.getD i 0-2147483648),.string (gY (dS (p.ps.getD i 0-2147483648))),.string (gY ((X++([47]:List UInt8))++(dS (p.ps.getD i 0-2147483648)))),.string (gY (((X++([47]:List UInt8))++(dS (p.ps.getD i 0-2147483648)))++([104]:List UInt8))),.string (gY (((X++([47]:List UInt8))++(dS (p.ps.getD i 0-2147483648)))++([104]:List UInt8)))]) (fun _=>[]) (cR [[]]<|cB (a:=fun ρ=>(.string (gY X))) (b:=fun ρ=>(.string (gY ([47]:List UInt8)))) (v:=fun ρ=>(.string (gY (X++([47]:List UInt8))))) .add 9 (fun _ w=>bI X ([47]:List UInt8) (by have q3:=lC hX hp.ps;simp only [List.length_cons,List.length_nil];omega) w)<|cR [[]]<|cA (fun _=>(vu (p.ps.getD i 0-2147483648))) (fun _=>jN (txS (txG hp.ps i) hb2))<|cC (fun _ w=>kQ (p.ps.getD i 0-2147483648) (by have:=txG hp.ps i;omega) w)<|cB (a:=fun ρ=>(.string (gY (X++([47]:List UInt8))))) (b:=fun ρ=>(.string (gY (dS (p.ps.getD i 0-2147483648))))) (v:=fun ρ=>(.string (gY ((X++([47]:List UInt8))++(dS (p.ps.getD i 0-2147483648)))))) .add 9 (fun _ w=>bI (X++([47]:List UInt8)) (dS (p.ps.getD i 0-2147483648)) (by have q0:=txG hp.ps i;have q1:=bQ (n:=p.ps.getD i 0) (by omega);have q2:=bQ (n:=p.ps.getD i 0-2147483648) (by omega);have q3:=lC hX hp.ps;simp only [List.length_append,List.length_cons,List.length_nil];omega) w)<|cB (a:=fun ρ=>(.string (gY ((X++([47]:List UInt8))++(dS (p.ps.getD i 0-2147483648)))))) (b:=fun ρ=>(.string (gY ([104]:List UInt8)))) (v:=fun ρ=>(.string (gY (((X++([47]:List UInt8))++(dS (p.ps.getD i 0-2147483648)))++([104]:List UInt8))))) .add 9 (fun _ w=>bI ((X++([47]:List UInt8))++(dS (p.ps.getD i 0-2147483648))) ([104]:List UInt8) (by have q0:=txG hp.ps i;have q1:=bQ (n:=p.ps.getD i 0) (by omega);have q2:=bQ (n:=p.ps.getD i 0-2147483648) (by omega);have q3:=lC hX hp.ps;simp only [List.length_append,List.length_cons,List.length_nil];omega) w)<|jE [[]]) (fun _=>?_)
   refine aJ (aA ?_)
   refine rS Tryz.f46 3 [1,2,3,4] [] (fun _=>[vn i,vn (i+1),vn (i+1)]) (fun _=>[]) (cR [[]]<|jW (fun ρ=>(((i:Nat):Int)+1)) (fun _=>(i+1)) (fun _=>(aW i 1 (by omega)))<|jE [[]]) (fun _=>?_)
   exact mN (i+1,((X++([47]:List UInt8))++(dS (p.ps.getD i 0-2147483648)))++([104]:List UInt8)) (by show (nI p.ps).length-(i+1)<(nI p.ps).length-i;omega) (⟨(by omega),tx_rh (by omega) hX hb2⟩) []
  rw [hb2]
  have:=yF hb2
  refine rS Tryz.f46 6 [1,2,3,4] [] (fun _=>[.string (gY X),.string (gY (X++([47]:List UInt8))),vu (p.ps.getD i 0),.string (gY (dS (p.ps.getD i 0))),.string (gY ((X++([47]:List UInt8))++(dS (p.ps.getD i 0)))),.string (gY ((X++([47]:List UInt8))++(dS (p.ps.getD i 0))))]) (fun _=>[]) (cR [[]]<|cB (a:=fun ρ=>(.string (gY X))) (b:=fun ρ=>(.string (gY ([47]:List UInt8)))) (v:=fun ρ=>(.string (gY (X++([47]:List UInt8))))) .add 9 (fun _ w=>bI X ([47]:List UInt8) (by have q3:=lC hX hp.ps;simp only [List.length_cons,List.length_nil];omega) w)<|cR [[]]<|cC (fun _ w=>kQ (p.ps.getD i 0) (by have:=txG hp.ps i;omega) w)<|cB (a:=fun ρ=>(.string (gY (X++([47]:List UInt8))))) (b:=fun ρ=>(.string (gY (dS (p.ps.getD i 0))))) (v:=fun ρ=>(.string (gY ((X++([47]:List UInt8))++(dS (p.ps.getD i 0)))))) .add 9 (fun _ w=>bI (X++([47]:List UInt8)) (dS (p.ps.getD i 0)) (by have q0:=txG hp.ps i;have q1:=bQ (n:=p.ps.getD i 0) (by omega);have q2:=bQ (n:=p.ps.getD i 0-2147483648) (by omega);have q3:=lC hX hp.ps;simp only [List.length_append,List.length_cons,List.length_nil];omega) w)<|jE [[]]) (fun _=>?_)
  refine aJ (aA ?_)
  refine rS Tryz.f46 3 [1,2,3,4] [] (fun _=>[vn i,vn (i+1),vn (i+1)]) (fun _=>[]) (cR [[]]<|jW (fun ρ=>(((i:Nat):Int)+1)) (fun _=>(i+1)) (fun _=>(aW i 1 (by omega)))<|jE [[]]) (fun _=>?_)
  exact mN (i+1,(X++([47]:List UInt8))++(dS (p.ps.getD i 0))) (by show (nI p.ps).length-(i+1)<(nI p.ps).length-i;omega) (⟨(by omega),tx_rn (by omega) hX hb2⟩) []
 rw [hb1]
 refine bF (aN (aN (aT (aA (aB (jM Tryz.f46 2 [2,3,37] [0] [jp (nb ρ1 0) 44,.bool p.wd] [[],[0]] ?_))))))
 refine oC p.wd (fun hb3=>?_) (fun hb3=>?_)
 ·
  rw [hb3]
  refine rS Tryz.f46 3 [2,3] [] (fun _=>[.string (gY X),.string (gY (X++([47,42]:List UInt8))),.string (gY (X++([47,42]:List UInt8)))]) (fun _=>[]) (cR [[]]<|cB (a:=fun ρ=>(.string (gY X))) (b:=fun ρ=>(.string (gY ([47,42]:List UInt8)))) (v:=fun ρ=>(.string (gY (X++([47,42]:List UInt8))))) .add 9 (fun _ w=>bI X ([47,42]:List UInt8) (by have q3:=lC hX hp.ps;simp only [List.length_cons,List.length_nil];omega) w)<|jE [[]]) (fun _=>?_)
  refine aA (jJ Tryz.f46 2 [2] [.string (gY (X++([47,42]:List UInt8))),.string (gY (X++([47,42]:List UInt8)))] (aF ?_))
  exact mR (v:=(.string (gY (X++([47,42]:List UInt8))))) (fun _ hS=>⟨congrArg (fun x=>Ending.returned (.string (gY x))) (tx_w1 (by have:=yF hb1;omega) hX hb3),hS.bel⟩)
 rw [hb3]
 refine aG (aA (jJ Tryz.f46 2 [2] [.string (gY X),.string (gY X)] (aF ?_)))
 exact mR (v:=(.string (gY X))) (fun _ hS=>⟨congrArg (fun x=>Ending.returned (.string (gY x))) (tx_w0 (by have:=yF hb1;omega) hX hb3),hS.bel⟩)
theorem rdsum_any (S:List UInt8) (hS:S.length+1000≤140737488351232) (w0:World):Calls Tryz.prog 13 #[.string (gY S)] w0 (jR (.string (gY (gX ((hL (lV kX S)).take 4)))) w0):=by
 refine Calls.of_ok (n:=9) (F:=(fun _=>True)) Tryz.func13 rfl rfl rfl (by simp) jT ?_
 refine jJ Tryz.f13 1 [0,2] [.string ⟨#[]⟩] ?_
 refine iZ Tryz.f13 5 [2,3] [] (fun ρ=>[.string (gY S),.slice (oa ρ 1) S.length (nb ρ 1),.agg (hB (lV kX S)),pt (nb ρ 3),undef]) (fun ρ=>[(3,(nw ρ 3 (cL (hB 0) 47))),(4,(bD 24 (nb ρ 3) (cL (hB (lV kX S)) 47)))]) (fun ρ=>[(1,fun w=>Fs w0 w (oa ρ 1) (nb ρ 1) S)]) (fun ρ=>(fun w=>Fs w0 w (oa ρ 1) (nb ρ 1) S∧True)) (fun _=>True) (fun _ _ _ hf=>⟨⟨hf 1,trivial⟩,trivial⟩) (cR [[]]<|cX (o_newF _ (fun _=>do pure (Next.value (← convert 9 35 (.string (gY S))))) (fun _ α κ=>(.slice α S.length κ)) (fun _=>S) (fun _ _=>(by kernel_rfl)) (fun _=>(by kernel_rfl)) (fun _ _=>(by kernel_rfl)) (fun _ _ w _=>qE Tryz.underlying9 Tryz.underlying35 Tryz.underlying5 S (by omega) w))<|cX (qC (fun ρ _ w hG=>wK kX (oa ρ 1) (nb ρ 1) S (by decide) (by omega) w (show Fs w0 w (oa ρ 1) (nb ρ 1) S from (hG.facts 1 rfl).now).1))<|jE [[],[24]]) (fun ρ2 _=>?_)
 refine sS Tryz.f13 3 [2] [0] (fun _=>[vs (nb ρ2 3) ((hL (lV kX S)).take 4).length 32,.string (gY (gX ((hL (lV kX S)).take 4))),.string (gY (gX ((hL (lV kX S)).take 4)))]) (fun _=>[]) (cR [[]]<|cX (qC (fun _ _ w hG=>rhex_any (some ⟨nb ρ2 3,0,none⟩) 32 ((hL (lV kX S)).take 4) (by rw [List.length_take,aO];decide) w (Bs.of_hd (c:=32) (hG.kn (g:=nb ρ2 3) (o:=(cL (hB (lV kX S)) 47)) 0) (Hd.take (oH _) _) (Nat.le_of_ble_eq_true rfl) (Nat.le_of_ble_eq_true rfl))))<|jE [[]]) (fun _=>?_)
 refine aF ?_
 exact mR (v:=(.string (gY (gX ((hL (lV kX S)).take 4))))) (fun _ hS=>⟨rfl,hS.bel⟩)
theorem tadd_any (X:List UInt8) (g:Nat) (h:Nat) (S:List UInt8) (C:List UInt8) (hgh:g≠h) (hl:S.length+(C.length+X.length)≤9223372036854775807) (w0:World) (hK:Knows [(g,(cL #[.string (gY S)] 9)),(h,(cL #[.string (gY C)] 9))] w0) (hP:dL (fun b=>b∈([(g,(cL #[.string (gY S)] 9)),(h,(cL #[.string (gY C)] 9))]:List (Nat × Obj)).map (·.1)) (fun _=>True) w0):Calls Tryz.prog 42 #[.string (gY X),pt g,pt h] w0 (fun ε w'=>ε=.returned (.tuple #[])∧nN (fun b=>b∈([(g,(cL #[.string (gY S)] 9)),(h,(cL #[.string (gY C)] 9))]:List (Nat × Obj)).map (·.1)) w0 w'∧Knows [(g,(cL #[.string (gY (S++(C++X)))] 9)),(h,(cL #[.string ⟨#[44]⟩] 9))] w'):=by
 refine Calls.of_okW (n:=9) (F:=(fun _=>True)) [(g,(cL #[.string (gY S)] 9)),(h,(cL #[.string (gY C)] 9))] Tryz.func42 rfl rfl rfl (by simp) hK (by simp [hgh]) hP ?_
 have hgn:g≠h:=hgh
 refine sS Tryz.f42 6 [2] [] (fun _=>[.string (gY S),.string (gY C),.string (gY X),.string (gY (C++X)),.string (gY (S++(C++X))),undef]) (fun _=>[(5,(bD 0 g (cL #[.string (gY (S++(C++X)))] 9)))]) (cR [[0],[1],[]]<|cB (a:=fun ρ=>(.string (gY C))) (b:=fun ρ=>(.string (gY X))) (v:=fun ρ=>(.string (gY (C++X)))) .add 9 (fun _ w=>bI C X (by omega) w)<|cB (a:=fun ρ=>(.string (gY S))) (b:=fun ρ=>(.string (gY (C++X)))) (v:=fun ρ=>(.string (gY (S++(C++X))))) .add 9 (fun _ w=>bI S (C++X) (by have:=hl;simp only [List.length_append];omega) w)<|jE [[0]]) (fun _=>?_)
 refine rS Tryz.f42 1 [] [] (fun _=>[undef]) (fun _=>[(0,(bD 1 h (cL #[.string ⟨#[44]⟩] 9)))]) (jE [[1]]) (fun _=>?_)
 refine mt_end ?_
 exact mR (v:=(.tuple #[])) (fun _ hS=>⟨rfl,hS.below,hS.knows [1,1]⟩)
theorem iU (X:List UInt8) (g h:Nat) (S C:List UInt8) (h2:2≤S.length) (h1:C.length≤1) (hl:S.length+(C.length+X.length)≤9223372036854775807) (w0:World) (hK:Knows [(g,cL #[.string (gY S)] 9),(h,cL #[.string (gY C)] 9)] w0) (hP:dL (fun b=>b∈([(g,cL #[.string (gY S)] 9),(h,cL #[.string (gY C)] 9)]:List (Nat × Obj)).map (·.1)) (fun _=>True) w0) :
    Calls Tryz.prog 42 #[.string (gY X),pt g,pt h] w0 (fun ε w'=>ε=.returned (.tuple #[])∧nN (fun b=>b∈([(g,cL #[.string (gY S)] 9),(h,cL #[.string (gY C)] 9)]:List (Nat × Obj)).map (·.1)) w0 w'∧Knows [(g,cL #[.string (gY (S++(C++X)))] 9),(h,cL #[.string ⟨#[44]⟩] 9)] w'):=by
  refine tadd_any X g h S C (fun e=>?_) hl w0 hK hP
  have a:=hK _ (List.mem_cons_self ..)
  have b:=hK _ (List.mem_cons_of_mem _ (List.mem_cons_self ..))
  rw [show ((h,cL #[.string (gY C)] 9):Nat × Obj).1=g from e.symm,a] at b
  have c:S=C:=by simpa [gY] using b
  rw [c] at h2;omega
theorem dhard_any (x:Nat) (w0:World):Calls Tryz.prog 69 #[vu x] w0 (jR (.bool (hdB x)) w0):=by
 refine Calls.of_ok (n:=5) (F:=(fun _=>True)) Tryz.func69 rfl rfl rfl (by simp) jT ?_
 refine jJ Tryz.f69 1 [0,2] [vF] (jJ Tryz.f69 3 [2] (let qa:Value:=.bool (decide (2147483648≤((x:Nat):Int)));[vu x,qa,qa]) (aF ?_))
 exact mR (v:=(.bool (decide (2147483648≤((x:Nat):Int))))) (fun _ hS=>⟨jB (hd_dec x),hS.bel⟩)
theorem ixfunc_any (a:Option Addr) (c:Nat) (ps:List Nat) (w0:World) (hf0:Is w0 .u32 a c (nI ps)):Calls Tryz.prog 93 #[.slice a (nI ps).length c,.func (.func 69) #[] #[]] w0 (jR (vi (ixA ps 0)) w0):=by
 refine Calls.of_ok (n:=19) (F:=(fun w=>Is w .u32 a c (nI ps)∧True)) Tryz.func93 rfl rfl rfl (by simp) (hf0.pers0.and cO) ?_
 have hlen:(nI ps).length≤140737488351232:=hf0.max
 refine jJ Tryz.f93 1 [0,1,4] [vi 0] (aB (jJ Tryz.f93 3 [0,1,4,7,8] [.slice a (nI ps).length c,vn (nI ps).length,vi 0] (aI ?_)))
 refine oL (σ:=Nat) (fun i=>[(0,(.slice a (nI ps).length c)),(1,(.func (.func 69) #[] #[])),(7,(vn (nI ps).length)),(8,(vn i))]) (fun _=>[]) (fun i=>(nI ps).length-i)
   (fun i=>(i≤(nI ps).length)∧(ixA (ps.drop i) i=ixA ps 0)) 0 (⟨Nat.zero_le _,rfl⟩) [] ?_
 rintro i ⟨hi,hr⟩
 change Ok Tryz.prog _ _ 19 [(0,(.slice a (nI ps).length c)),(1,(.func (.func 69) #[] #[])),(7,(vn (nI ps).length)),(8,(vn i))] _ [] (fun w=>Is w .u32 a c (nI ps)∧True)
 refine jJ Tryz.f93 1 [0,1,7,8,9] [.bool (decide (((i:Nat):Int)<(((nI ps).length:Nat):Int)))] (aB ?_)
 refine oC (decide (((i:Nat):Int)<(((nI ps).length:Nat):Int))) (fun hb1=>?_) (fun hb1=>?_)
 ·
  rw [hb1]
  have:=yT hb1
  refine aG (aA (aB (aI (jJ Tryz.f93 2 [0,1,5,7,8] [vn i,vn i] ?_))))
  refine sS Tryz.f93 6 [0,1,5,7,8,16] [] (fun _=>[.func (.func 69) #[] #[],.slice a (nI ps).length c,vn i,.pointer (fK a i),vu (ps.getD i 0),.bool (hdB (ps.getD i 0))]) (fun _=>[]) (cR [[],[],[]]<|cX (qF (fun _ _ _ hG=>o6 (k:=.i64) Tryz.underlying57 Tryz.sizeOf45 hG.fn.1 rfl (show ((i:Nat):Int)=((i:Nat):Int) from rfl) (show i<(nI ps).length from (by omega))))<|cX (qF (v:=fun ρ=>(vu (ps.getD i 0))) (fun _ _ _ hG=>(rG Tryz.isAgg45 hG.fn.1 (show i<(nI ps).length from (by omega))).trans (by rw [yQ])))<|cC (fun _ w=>dhard_any (ps.getD i 0) w)<|cN) (fun _=>?_)
  refine oC (hdB (ps.getD i 0)) (fun hb2=>?_) (fun hb2=>?_)
  ·
   rw [hb2]
   refine jJ Tryz.f93 2 [0,1,4,7,8] [vn i,vn i] (aF (aP (aC (aC (aP (aC ?_))))))
   exact mR (v:=(vn i)) (fun _ hS=>⟨congrArg (fun x=>Ending.returned (vi x)) (ix_stop (by have:=fZ ps;omega) hb2 hr),hS.bel⟩)
  rw [hb2]
  refine aG (aJ (aA ?_))
  refine rS Tryz.f93 2 [0,1,7,8] [] (fun _=>[vn (i+1),vn (i+1)]) (fun _=>[]) (jW (fun ρ=>(((i:Nat):Int)+1)) (fun _=>(i+1)) (fun _=>(aW i 1 (by omega)))<|jE [[]]) (fun _=>?_)
  exact mN (i+1) (by show (nI ps).length-(i+1)<(nI ps).length-i;omega) (⟨(by omega),ix_next (by have:=fZ ps;omega) hb2 hr⟩) []
 rw [hb1]
 refine bF (aN (aN (aT (aA (jJ Tryz.f93 1 [4] [vi (-1)] (aF ?_))))))
 exact mR (v:=(vi (-1))) (fun _ hS=>⟨congrArg (fun x=>Ending.returned (vi x)) (ix_end (by have:=fZ ps;have:=yF hb1;omega) hr),hS.bel⟩)
theorem cofunc_any (a:Option Addr) (c:Nat) (ps:List Nat) (w0:World) (hf0:Is w0 .u32 a c (nI ps)):Calls Tryz.prog 68 #[.slice a (nI ps).length c,.func (.func 69) #[] #[]] w0 (jR (.bool (ps.any hdB)) w0):=by
 refine Calls.of_ok (n:=9) (F:=(fun w=>Is w .u32 a c (nI ps)∧True)) Tryz.func68 rfl rfl rfl (by simp) (hf0.pers0.and cO) ?_
 refine jJ Tryz.f68 1 [0,1,4] [vF] ?_
 refine sS Tryz.f68 5 [4] [] (fun _=>let qa:Value:=.bool (decide (0≤(ixA ps 0)));[.slice a (nI ps).length c,.func (.func 69) #[] #[],vi (ixA ps 0),qa,qa]) (fun _=>[]) (cR [[],[]]<|cX (qC (fun _ _ w hG=>ixfunc_any a c ps w hG.fn.1))<|jE [[],[]]) (fun _=>?_)
 refine aF ?_
 exact mR (v:=(.bool (decide (0≤(ixA ps 0))))) (fun _ hS=>⟨jB (ixA_any ps 0),hS.bel⟩)
theorem dvpath_any (p:dO) (hp:p.Ok) (w0:World) (hf0:Is w0 .u32 p.pa p.pc (nI p.ps)):Calls Tryz.prog 40 #[.agg (dO.row p)] w0 (jR (.bool (dO.vp p)) w0):=by
 refine Calls.of_ok (n:=40) (F:=(fun w=>Is w .u32 p.pa p.pc (nI p.ps)∧True)) Tryz.func40 rfl rfl rfl (by simp) (hf0.pers0.and cO) ?_
 have hlen:(nI p.ps).length≤140737488351232:=hf0.max
 have hnl:(nI p.ps).length=p.ps.length:=fZ p.ps
 refine sS Tryz.f40 2 [1,2] [] (fun ρ=>[pt (nb ρ 0),vF]) (fun ρ=>[(0,(nw ρ 0 (cL (dO.row p) 59)))]) (jE [[],[]]) (fun ρ1=>?_)
 refine aB ?_
 rcases Bool.eq_false_or_eq_true (decide (8<(((nI p.ps).length:Nat):Int))) with hb1 | hb1
 ·
  refine sS Tryz.f40 10 [1,2,14] [] (fun _=>[jp (nb ρ1 0) 43,.slice p.pa (nI p.ps).length p.pc,vn (nI p.ps).length,vT,vT,undef,undef,undef,undef,vT]) (fun _=>[]) (cR [[],[0],[]]<|cA (fun _=>vT) (fun _=>congrArg Value.bool hb1)<|jE [[],[],[],[],[],[]]) (fun _=>?_)
  refine oY ?_
  refine jJ Tryz.f40 1 [1,2] [vF] (aF (aC ?_))
  exact mR (v:=vF) (fun _ hS=>⟨jB (vp_1 (by have:=yT hb1;omega)),hS.bel⟩)
 refine sS Tryz.f40 10 [1,2,14] [] (fun _=>[jp (nb ρ1 0) 43,.slice p.pa (nI p.ps).length p.pc,vn (nI p.ps).length,vF,vF,pt (nb ρ1 0),.agg (kY p.k),.bool (fC p.k),.bool (!(fC p.k)),.bool (!(fC p.k))]) (fun _=>[]) (cR [[],[0],[]]<|cA (fun _=>vF) (fun _=>congrArg Value.bool hb1)<|cR [[],[],[0]]<|cC (fun _ w=>yN p.k hp.k w)<|jE [[],[]]) (fun _=>?_)
 refine oC (!(fC p.k)) (fun hb2=>?_) (fun hb2=>?_)
 ·
  rw [hb2]
  refine jJ Tryz.f40 1 [1,2] [vF] (aF (aC ?_))
  exact mR (v:=vF) (fun _ hS=>⟨jB (vp_2 (dF hb2)),hS.bel⟩)
 rw [hb2]
 refine aG (aA ?_)
 refine sS Tryz.f40 8 [1,2,3] [] (fun _=>let qa:=vi (p.k.d+(((nI p.ps).length:Nat):Int));[pt (nb ρ1 0),jp (nb ρ1 0) 40,vi p.k.d,jp (nb ρ1 0) 43,.slice p.pa (nI p.ps).length p.pc,vn (nI p.ps).length,qa,qa]) (fun _=>[]) (cR [[],[],[0],[],[0],[]]<|jU (fun ρ=>(p.k.d+(((nI p.ps).length:Nat):Int))) (fun _=>(p.k.d+(((nI p.ps).length:Nat):Int))) (fun _=>(gZ (by have:=oI (aV hb2);have:=yF hb1;omega)))<|jE [[]]) (fun _=>?_)
 refine aB (jM Tryz.f40 2 [1,2,3,23] [] [jp (nb ρ1 0) 44,.bool p.wd] [[],[0]] ?_)
 refine oC p.wd (fun hb3=>?_) (fun hb3=>?_)
 ·
  rw [hb3]
  refine rS Tryz.f40 3 [1,2,3] [] (fun _=>let qa:=vi (p.k.d+(((nI p.ps).length:Nat):Int)+1);[vi (p.k.d+(((nI p.ps).length:Nat):Int)),qa,qa]) (fun _=>[]) (cR [[]]<|jU (fun ρ=>((p.k.d+(((nI p.ps).length:Nat):Int))+1)) (fun _=>(p.k.d+(((nI p.ps).length:Nat):Int)+1)) (fun _=>(gZ (by have:=oI (aV hb2);have:=yF hb1;omega)))<|jE [[]]) (fun _=>?_)
  refine aA (aB (jJ Tryz.f40 2 [1,2,27] [vi (p.k.d+(((nI p.ps).length:Nat):Int)+1),.bool (decide (8<(p.k.d+(((nI p.ps).length:Nat):Int)+1)))] ?_))
  refine oC (decide (8<(p.k.d+(((nI p.ps).length:Nat):Int)+1))) (fun hb4=>?_) (fun hb4=>?_)
  ·
   rw [hb4]
   refine jJ Tryz.f40 1 [1,2] [vF] (aF (aC ?_))
   exact mR (v:=vF) (fun _ hS=>⟨jB (vp_3 (by have:=w1_t hb3;have:=yF hb1;have:=yT hb4;omega)),hS.bel⟩)
  rw [hb4]
  have:=yF hb4
  refine aG (aA ?_)
  refine sS Tryz.f40 4 [1,2,4] [] (fun _=>[jp (nb ρ1 0) 43,.slice p.pa (nI p.ps).length p.pc,.bool (p.ps.any hdB),.bool (p.ps.any hdB)]) (fun _=>[]) (cR [[],[0]]<|cX (qC (fun _ _ w hG=>cofunc_any p.pa p.pc p.ps w hG.fn.1))<|jE [[]]) (fun _=>?_)
  refine lK [(1,(pt (nb ρ1 0))),(2,vF),(4,(.bool (p.ps.any hdB)))] [(nb ρ1 0,(cL (dO.row p) 59))] ?_
  rcases Bool.eq_false_or_eq_true (p.ps.any hdB) with hb5 | hb5
  ·
   rw [hb5]
   refine sS Tryz.f40 10 [2] [0] (fun _=>let qa:Value:=.bool (!decide (p.k.s=0));[vT,vF,vF,pt (nb ρ1 0),pt (nb ρ1 0),U p.k.s,U 0,qa,qa,qa]) (fun _=>[]) (cR [[],[],[],[],[],[0],[]]<|cB (a:=fun ρ=>(U p.k.s)) (b:=fun ρ=>(U 0)) (v:=fun ρ=>(.bool (!decide (p.k.s=0)))) .neq 54 (fun _ _=>neqU p.k.s 0 hp.k.s (by decide +kernel) _)<|jE [[],[]]) (fun _=>?_)
   refine aF ?_
   exact mR (v:=(.bool (!decide (p.k.s=0)))) (fun _ hS=>⟨jB (show (!decide (p.k.s=0))=dO.vp p from (Decidable.em (p.k.s=0)).elim (fun h0=>by rw [decide_eq_true h0];exact vp_4 hb5 h0) (fun h0=>by rw [decide_eq_false h0];exact vp_5 (by have:=yF hb1;omega) (aV hb2) (by have:=w1_t hb3;have:=yF hb1;omega) (Or.inr h0))),hS.bel⟩)
  rw [hb5]
  refine jM Tryz.f40 10 [2] [0] [vF,vT,vT,undef,undef,undef,undef,undef,vT,vT] [[],[],[],[],[],[],[],[],[],[]] (aF ?_)
  exact mR (v:=vT) (fun _ hS=>⟨jB (vp_5 (by have:=yF hb1;omega) (aV hb2) (by have:=w1_t hb3;have:=yF hb1;omega) (Or.inl hb5)),hS.bel⟩)
 rw [hb3]
 refine aG (aA (aB (jJ Tryz.f40 2 [1,2,27] [vi (p.k.d+(((nI p.ps).length:Nat):Int)),.bool (decide (8<(p.k.d+(((nI p.ps).length:Nat):Int))))] ?_)))
 refine oC (decide (8<(p.k.d+(((nI p.ps).length:Nat):Int)))) (fun hb6=>?_) (fun hb6=>?_)
 ·
  rw [hb6]
  refine jJ Tryz.f40 1 [1,2] [vF] (aF (aC ?_))
  exact mR (v:=vF) (fun _ hS=>⟨jB (vp_3 (by have:=w1_f hb3;have:=yF hb1;have:=yT hb6;omega)),hS.bel⟩)
 rw [hb6]
 have:=yF hb6
 refine aG (aA ?_)
 refine sS Tryz.f40 4 [1,2,4] [] (fun _=>[jp (nb ρ1 0) 43,.slice p.pa (nI p.ps).length p.pc,.bool (p.ps.any hdB),.bool (p.ps.any hdB)]) (fun _=>[]) (cR [[],[0]]<|cX (qC (fun _ _ w hG=>cofunc_any p.pa p.pc p.ps w hG.fn.1))<|jE [[]]) (fun _=>?_)
 rcases Bool.eq_false_or_eq_true (p.ps.any hdB) with hb7 | hb7
 ·
  rw [hb7]
  refine sS Tryz.f40 10 [2] [0] (fun _=>let qa:Value:=.bool (!decide (p.k.s=0));[vT,vF,vF,pt (nb ρ1 0),pt (nb ρ1 0),U p.k.s,U 0,qa,qa,qa]) (fun _=>[]) (cR [[],[],[],[],[],[0],[]]<|cB (a:=fun ρ=>(U p.k.s)) (b:=fun ρ=>(U 0)) (v:=fun ρ=>(.bool (!decide (p.k.s=0)))) .neq 54 (fun _ _=>neqU p.k.s 0 hp.k.s (by decide +kernel) _)<|jE [[],[]]) (fun _=>?_)
  refine aF ?_
  exact mR (v:=(.bool (!decide (p.k.s=0)))) (fun _ hS=>⟨jB (show (!decide (p.k.s=0))=dO.vp p from (Decidable.em (p.k.s=0)).elim (fun h0=>by rw [decide_eq_true h0];exact vp_4 hb7 h0) (fun h0=>by rw [decide_eq_false h0];exact vp_5 (by have:=yF hb1;omega) (aV hb2) (by have:=w1_f hb3;have:=yF hb1;omega) (Or.inr h0))),hS.bel⟩)
 rw [hb7]
 refine jM Tryz.f40 10 [2] [0] [vF,vT,vT,undef,undef,undef,undef,undef,vT,vT] [[],[],[],[],[],[],[],[],[],[]] (aF ?_)
 exact mR (v:=vT) (fun _ hS=>⟨jB (vp_5 (by have:=yF hb1;omega) (aV hb2) (by have:=w1_f hb3;have:=yF hb1;omega) (Or.inl hb7)),hS.bel⟩)
theorem rdvpath_any (p:dO) (hp:p.Ok) (w0:World) (hf0:Is w0 .u32 p.pa p.pc (nI p.ps)):Calls Tryz.prog 35 #[.agg (dO.row p)] w0 (jR (.bool (dO.vp p)) w0):=by
 refine Calls.of_ok (n:=49) (F:=(fun w=>Is w .u32 p.pa p.pc (nI p.ps)∧True)) Tryz.func35 rfl rfl rfl (by simp) (hf0.pers0.and cO) ?_
 have hlen:(nI p.ps).length≤140737488351232:=hf0.max
 have hnl:(nI p.ps).length=p.ps.length:=fZ p.ps
 refine sS Tryz.f35 2 [1,2] [] (fun ρ=>[pt (nb ρ 0),vF]) (fun ρ=>[(0,(nw ρ 0 (cL (dO.row p) 59)))]) (jE [[],[]]) (fun ρ1=>?_)
 refine jM Tryz.f35 4 [1,2,3] [] [jp (nb ρ1 0) 43,.slice p.pa (nI p.ps).length p.pc,vn (nI p.ps).length,vn (nI p.ps).length] [[],[0],[],[]] (aB (jM Tryz.f35 2 [1,2,3,9] [] [jp (nb ρ1 0) 44,.bool p.wd] [[],[0]] ?_))
 refine oC p.wd (fun hb1=>?_) (fun hb1=>?_)
 ·
  rw [hb1]
  refine rS Tryz.f35 3 [1,2,3] [] (fun _=>let qa:=vn ((nI p.ps).length+1);[vn (nI p.ps).length,qa,qa]) (fun _=>[]) (cR [[]]<|jW (fun ρ=>((((nI p.ps).length:Nat):Int)+1)) (fun _=>((nI p.ps).length+1)) (fun _=>(aW (nI p.ps).length 1 (by omega)))<|jE [[]]) (fun _=>?_)
  refine aA (aB ?_)
  rcases Bool.eq_false_or_eq_true (decide (8<(((nI p.ps).length:Nat):Int))) with hb2 | hb2
  ·
   refine sS Tryz.f35 18 [1,2,29] [] (fun _=>[jp (nb ρ1 0) 43,.slice p.pa (nI p.ps).length p.pc,vn (nI p.ps).length,vT,vT,undef,undef,undef,undef,vT,vT,undef,undef,undef,undef,undef,undef,vT]) (fun _=>[]) (cR [[],[0],[]]<|cA (fun _=>vT) (fun _=>congrArg Value.bool hb2)<|jE [[],[],[],[],[],[],[],[],[],[],[],[],[],[]]) (fun _=>?_)
   refine oY ?_
   refine jJ Tryz.f35 1 [1,2] [vF] (aF (aC ?_))
   exact mR (v:=vF) (fun _ hS=>⟨jB (vp_1 (by have:=yT hb2;omega)),hS.bel⟩)
  rcases Bool.eq_false_or_eq_true (fC p.k) with hb3 | hb3
  ·
   refine sS Tryz.f35 18 [1,2,29] [] (fun _=>let qa:Value:=.bool (decide (8<(p.k.d+(((nI p.ps).length+1:Nat):Int))));[jp (nb ρ1 0) 43,.slice p.pa (nI p.ps).length p.pc,vn (nI p.ps).length,vF,vF,pt (nb ρ1 0),.agg (kY p.k),vT,vF,vF,vF,pt (nb ρ1 0),jp (nb ρ1 0) 40,vi p.k.d,vn ((nI p.ps).length+1),vi (p.k.d+(((nI p.ps).length+1:Nat):Int)),qa,qa]) (fun _=>[]) (cR [[],[0],[]]<|cA (fun _=>vF) (fun _=>congrArg Value.bool hb2)<|cR [[],[],[0]]<|cC (f:=63) (args:=fun ρ=> #[.agg (kY p.k)]) (v:=fun ρ=>vT) (fun _ w=>by as_aux_lemma=>(have hcall:=(fun w=>oQ p.k hp.k w) w;rw [hb3] at hcall;exact hcall))<|cR [[],[],[],[],[],[0],[]]<|jU (fun ρ=>(p.k.d+(((nI p.ps).length+1:Nat):Int))) (fun _=>(p.k.d+(((nI p.ps).length+1:Nat):Int))) (fun _=>(gZ (by have:=oI hb3;have:=yF hb2;omega)))<|jE [[],[]]) (fun _=>?_)
   refine oC (decide (8<(p.k.d+(((nI p.ps).length+1:Nat):Int)))) (fun hb4=>?_) (fun hb4=>?_)
   ·
    rw [hb4]
    refine jJ Tryz.f35 1 [1,2] [vF] (aF (aC ?_))
    exact mR (v:=vF) (fun _ hS=>⟨jB (vp_3 (by have:=w1_t hb1;have:=yF hb2;have:=yT hb4;omega)),hS.bel⟩)
   rw [hb4]
   have:=yF hb4
   refine aG (aA (aB (jJ Tryz.f35 1 [1,2,4] [vi 0] (aI ?_))))
   refine oL (σ:=Nat) (fun i=>[(1,(pt (nb ρ1 0))),(4,(vn i))]) (fun _=>[(nb ρ1 0,(cL (dO.row p) 59))]) (fun i=>(nI p.ps).length-i)
     (fun i=>(i≤(nI p.ps).length)∧((p.ps.drop i).any p.hf=p.ps.any p.hf)) 0 (⟨Nat.zero_le _,rfl⟩) [] ?_
   rintro i ⟨hi,hr⟩
   change Ok Tryz.prog _ _ 49 [(1,(pt (nb ρ1 0))),(4,(vn i))] _ [(nb ρ1 0,(cL (dO.row p) 59))] (fun w=>Is w .u32 p.pa p.pc (nI p.ps)∧True)
   refine aB (jM Tryz.f35 5 [1,4,34] [] [vn i,jp (nb ρ1 0) 43,.slice p.pa (nI p.ps).length p.pc,vn (nI p.ps).length,.bool (decide (((i:Nat):Int)<(((nI p.ps).length:Nat):Int)))] [[],[],[0],[],[]] ?_)
   refine oC (decide (((i:Nat):Int)<(((nI p.ps).length:Nat):Int))) (fun hb5=>?_) (fun hb5=>?_)
   ·
    rw [hb5]
    have:=yT hb5
    refine aG (aA (aB (aI ?_)))
    rcases Bool.eq_false_or_eq_true (decide (2147483648≤((p.ps.getD i 0:Nat):Int))) with hb6 | hb6
    ·
     refine sS Tryz.f35 12 [1,4,48] [] (fun _=>let qa:Value:=.bool (decide (p.k.s=0));[jp (nb ρ1 0) 43,.slice p.pa (nI p.ps).length p.pc,vn i,.pointer (fK p.pa i),vu (p.ps.getD i 0),vT,vT,pt (nb ρ1 0),pt (nb ρ1 0),U p.k.s,qa,qa]) (fun _=>[]) (cR [[],[0],[]]<|cX (qF (fun _ _ _ hG=>o6 (k:=.i64) Tryz.underlying57 Tryz.sizeOf45 hG.fn.1 rfl (show ((i:Nat):Int)=((i:Nat):Int) from rfl) (show i<(nI p.ps).length from (by have:=yF hb2;have:=yT hb6;omega))))<|cX (qF (v:=fun ρ=>(vu (p.ps.getD i 0))) (fun _ _ _ hG=>(rG Tryz.isAgg45 hG.fn.1 (show i<(nI p.ps).length from (by have:=yF hb2;have:=yT hb6;omega))).trans (by rw [yQ])))<|cA (fun _=>vT) (fun _=>congrArg Value.bool hb6)<|cR [[],[],[],[0]]<|cC (fun _ w=>iI p.k.s w hp.k.s)<|jE [[]]) (fun _=>?_)
     refine oC (decide (p.k.s=0)) (fun hb7=>?_) (fun hb7=>?_)
     ·
      rw [hb7]
      refine jJ Tryz.f35 1 [1,2,4] [vF] (aF (aP (aC (aC (aP (aC ?_))))))
      exact mR (v:=vF) (fun _ hS=>⟨jB (vp_6 (pa_stop (f:=p.hf) (by have:=yF hb2;have:=yT hb6;have:=yT hb7;omega) (hf_c hb6 hb7) hr)),hS.bel⟩)
     rw [hb7]
     have:=yF hb7
     refine aG (aJ (aA ?_))
     refine rS Tryz.f35 3 [1,4] [] (fun _=>[vn i,vn (i+1),vn (i+1)]) (fun _=>[]) (cR [[]]<|jW (fun ρ=>(((i:Nat):Int)+1)) (fun _=>(i+1)) (fun _=>(aW i 1 (by have:=yF hb2;have:=yT hb6;omega)))<|jE [[]]) (fun _=>?_)
     exact mN (i+1) (by show (nI p.ps).length-(i+1)<(nI p.ps).length-i;have:=yF hb2;have:=yT hb6;omega) (⟨(by have:=yF hb2;have:=yT hb6;omega),pa_next (f:=p.hf) (by have:=yF hb2;have:=yT hb6;omega) (hf_b hb7) hr⟩) []
    refine sS Tryz.f35 12 [1,4,48] [] (fun _=>[jp (nb ρ1 0) 43,.slice p.pa (nI p.ps).length p.pc,vn i,.pointer (fK p.pa i),vu (p.ps.getD i 0),vF,vF,undef,undef,undef,undef,vF]) (fun _=>[]) (cR [[],[0],[]]<|cX (qF (fun _ _ _ hG=>o6 (k:=.i64) Tryz.underlying57 Tryz.sizeOf45 hG.fn.1 rfl (show ((i:Nat):Int)=((i:Nat):Int) from rfl) (show i<(nI p.ps).length from (by have:=yF hb2;have:=yF hb6;omega))))<|cX (qF (v:=fun ρ=>(vu (p.ps.getD i 0))) (fun _ _ _ hG=>(rG Tryz.isAgg45 hG.fn.1 (show i<(nI p.ps).length from (by have:=yF hb2;have:=yF hb6;omega))).trans (by rw [yQ])))<|cA (fun _=>vF) (fun _=>congrArg Value.bool hb6)<|jE [[],[],[],[],[],[]]) (fun _=>?_)
    refine oN ?_
    refine aG (aJ (aA ?_))
    refine rS Tryz.f35 3 [1,4] [] (fun _=>[vn i,vn (i+1),vn (i+1)]) (fun _=>[]) (cR [[]]<|jW (fun ρ=>(((i:Nat):Int)+1)) (fun _=>(i+1)) (fun _=>(aW i 1 (by have:=yF hb2;have:=yF hb6;omega)))<|jE [[]]) (fun _=>?_)
    exact mN (i+1) (by show (nI p.ps).length-(i+1)<(nI p.ps).length-i;have:=yF hb2;have:=yF hb6;omega) (⟨(by have:=yF hb2;have:=yF hb6;omega),pa_next (f:=p.hf) (by have:=yF hb2;have:=yF hb6;omega) (hf_a hb6) hr⟩) []
   rw [hb5]
   have:=yF hb5
   refine bF (aN (aN (aT (aA (jM Tryz.f35 1 [2] [0] [vT] [[]] (aF ?_))))))
   exact mR (v:=vT) (fun _ hS=>⟨jB (vp_5 (by have:=yF hb2;omega) hb3 (by have:=w1_t hb1;have:=yF hb2;omega) (vp_7 (all_endN (by have:=yF hb2;omega) hr))),hS.bel⟩)
  refine sS Tryz.f35 18 [1,2,29] [] (fun _=>[jp (nb ρ1 0) 43,.slice p.pa (nI p.ps).length p.pc,vn (nI p.ps).length,vF,vF,pt (nb ρ1 0),.agg (kY p.k),vF,vT,vT,vT,undef,undef,undef,undef,undef,undef,vT]) (fun _=>[]) (cR [[],[0],[]]<|cA (fun _=>vF) (fun _=>congrArg Value.bool hb2)<|cR [[],[],[0]]<|cC (f:=63) (args:=fun ρ=> #[.agg (kY p.k)]) (v:=fun ρ=>vF) (fun _ w=>by as_aux_lemma=>(have hcall:=(fun w=>oQ p.k hp.k w) w;rw [hb3] at hcall;exact hcall))<|jE [[],[],[],[],[],[],[],[],[],[]]) (fun _=>?_)
  refine oY ?_
  refine jJ Tryz.f35 1 [1,2] [vF] (aF (aC ?_))
  exact mR (v:=vF) (fun _ hS=>⟨jB (vp_2 hb3),hS.bel⟩)
 rw [hb1]
 refine aG (aA (aB ?_))
 rcases Bool.eq_false_or_eq_true (decide (8<(((nI p.ps).length:Nat):Int))) with hb8 | hb8
 ·
  refine sS Tryz.f35 18 [1,2,29] [] (fun _=>[jp (nb ρ1 0) 43,.slice p.pa (nI p.ps).length p.pc,vn (nI p.ps).length,vT,vT,undef,undef,undef,undef,vT,vT,undef,undef,undef,undef,undef,undef,vT]) (fun _=>[]) (cR [[],[0],[]]<|cA (fun _=>vT) (fun _=>congrArg Value.bool hb8)<|jE [[],[],[],[],[],[],[],[],[],[],[],[],[],[]]) (fun _=>?_)
  refine oY ?_
  refine jJ Tryz.f35 1 [1,2] [vF] (aF (aC ?_))
  exact mR (v:=vF) (fun _ hS=>⟨jB (vp_1 (by have:=yT hb8;omega)),hS.bel⟩)
 rcases Bool.eq_false_or_eq_true (fC p.k) with hb9 | hb9
 ·
  refine sS Tryz.f35 18 [1,2,29] [] (fun _=>let qa:Value:=.bool (decide (8<(p.k.d+(((nI p.ps).length:Nat):Int))));[jp (nb ρ1 0) 43,.slice p.pa (nI p.ps).length p.pc,vn (nI p.ps).length,vF,vF,pt (nb ρ1 0),.agg (kY p.k),vT,vF,vF,vF,pt (nb ρ1 0),jp (nb ρ1 0) 40,vi p.k.d,vn (nI p.ps).length,vi (p.k.d+(((nI p.ps).length:Nat):Int)),qa,qa]) (fun _=>[]) (cR [[],[0],[]]<|cA (fun _=>vF) (fun _=>congrArg Value.bool hb8)<|cR [[],[],[0]]<|cC (f:=63) (args:=fun ρ=> #[.agg (kY p.k)]) (v:=fun ρ=>vT) (fun _ w=>by as_aux_lemma=>(have hcall:=(fun w=>oQ p.k hp.k w) w;rw [hb9] at hcall;exact hcall))<|cR [[],[],[],[],[],[0],[]]<|jU (fun ρ=>(p.k.d+(((nI p.ps).length:Nat):Int))) (fun _=>(p.k.d+(((nI p.ps).length:Nat):Int))) (fun _=>(gZ (by have:=oI hb9;have:=yF hb8;omega)))<|jE [[],[]]) (fun _=>?_)
  refine oC (decide (8<(p.k.d+(((nI p.ps).length:Nat):Int)))) (fun hb10=>?_) (fun hb10=>?_)
  ·
   rw [hb10]
   refine jJ Tryz.f35 1 [1,2] [vF] (aF (aC ?_))
   exact mR (v:=vF) (fun _ hS=>⟨jB (vp_3 (by have:=w1_f hb1;have:=yF hb8;have:=yT hb10;omega)),hS.bel⟩)
  rw [hb10]
  have:=yF hb10
  refine aG (aA (aB (jJ Tryz.f35 1 [1,2,4] [vi 0] (aI ?_))))
  refine oL (σ:=Nat) (fun i=>[(1,(pt (nb ρ1 0))),(4,(vn i))]) (fun _=>[(nb ρ1 0,(cL (dO.row p) 59))]) (fun i=>(nI p.ps).length-i)
    (fun i=>(i≤(nI p.ps).length)∧((p.ps.drop i).any p.hf=p.ps.any p.hf)) 0 (⟨Nat.zero_le _,rfl⟩) [] ?_
  rintro i ⟨hi,hr⟩
  change Ok Tryz.prog _ _ 49 [(1,(pt (nb ρ1 0))),(4,(vn i))] _ [(nb ρ1 0,(cL (dO.row p) 59))] (fun w=>Is w .u32 p.pa p.pc (nI p.ps)∧True)
  refine aB (jM Tryz.f35 5 [1,4,34] [] [vn i,jp (nb ρ1 0) 43,.slice p.pa (nI p.ps).length p.pc,vn (nI p.ps).length,.bool (decide (((i:Nat):Int)<(((nI p.ps).length:Nat):Int)))] [[],[],[0],[],[]] ?_)
  refine oC (decide (((i:Nat):Int)<(((nI p.ps).length:Nat):Int))) (fun hb11=>?_) (fun hb11=>?_)
  ·
   rw [hb11]
   have:=yT hb11
   refine aG (aA (aB (aI ?_)))
   rcases Bool.eq_false_or_eq_true (decide (2147483648≤((p.ps.getD i 0:Nat):Int))) with hb12 | hb12
   ·
    refine sS Tryz.f35 12 [1,4,48] [] (fun _=>let qa:Value:=.bool (decide (p.k.s=0));[jp (nb ρ1 0) 43,.slice p.pa (nI p.ps).length p.pc,vn i,.pointer (fK p.pa i),vu (p.ps.getD i 0),vT,vT,pt (nb ρ1 0),pt (nb ρ1 0),U p.k.s,qa,qa]) (fun _=>[]) (cR [[],[0],[]]<|cX (qF (fun _ _ _ hG=>o6 (k:=.i64) Tryz.underlying57 Tryz.sizeOf45 hG.fn.1 rfl (show ((i:Nat):Int)=((i:Nat):Int) from rfl) (show i<(nI p.ps).length from (by have:=yF hb8;have:=yT hb12;omega))))<|cX (qF (v:=fun ρ=>(vu (p.ps.getD i 0))) (fun _ _ _ hG=>(rG Tryz.isAgg45 hG.fn.1 (show i<(nI p.ps).length from (by have:=yF hb8;have:=yT hb12;omega))).trans (by rw [yQ])))<|cA (fun _=>vT) (fun _=>congrArg Value.bool hb12)<|cR [[],[],[],[0]]<|cC (fun _ w=>iI p.k.s w hp.k.s)<|jE [[]]) (fun _=>?_)
    refine oC (decide (p.k.s=0)) (fun hb13=>?_) (fun hb13=>?_)
    ·
     rw [hb13]
     refine jJ Tryz.f35 1 [1,2,4] [vF] (aF (aP (aC (aC (aP (aC ?_))))))
     exact mR (v:=vF) (fun _ hS=>⟨jB (vp_6 (pa_stop (f:=p.hf) (by have:=yF hb8;have:=yT hb12;have:=yT hb13;omega) (hf_c hb12 hb13) hr)),hS.bel⟩)
    rw [hb13]
    have:=yF hb13
    refine aG (aJ (aA ?_))
    refine rS Tryz.f35 3 [1,4] [] (fun _=>[vn i,vn (i+1),vn (i+1)]) (fun _=>[]) (cR [[]]<|jW (fun ρ=>(((i:Nat):Int)+1)) (fun _=>(i+1)) (fun _=>(aW i 1 (by have:=yF hb8;have:=yT hb12;omega)))<|jE [[]]) (fun _=>?_)
    exact mN (i+1) (by show (nI p.ps).length-(i+1)<(nI p.ps).length-i;have:=yF hb8;have:=yT hb12;omega) (⟨(by have:=yF hb8;have:=yT hb12;omega),pa_next (f:=p.hf) (by have:=yF hb8;have:=yT hb12;omega) (hf_b hb13) hr⟩) []
   refine sS Tryz.f35 12 [1,4,48] [] (fun _=>[jp (nb ρ1 0) 43,.slice p.pa (nI p.ps).length p.pc,vn i,.pointer (fK p.pa i),vu (p.ps.getD i 0),vF,vF,undef,undef,undef,undef,vF]) (fun _=>[]) (cR [[],[0],[]]<|cX (qF (fun _ _ _ hG=>o6 (k:=.i64) Tryz.underlying57 Tryz.sizeOf45 hG.fn.1 rfl (show ((i:Nat):Int)=((i:Nat):Int) from rfl) (show i<(nI p.ps).length from (by have:=yF hb8;have:=yF hb12;omega))))<|cX (qF (v:=fun ρ=>(vu (p.ps.getD i 0))) (fun _ _ _ hG=>(rG Tryz.isAgg45 hG.fn.1 (show i<(nI p.ps).length from (by have:=yF hb8;have:=yF hb12;omega))).trans (by rw [yQ])))<|cA (fun _=>vF) (fun _=>congrArg Value.bool hb12)<|jE [[],[],[],[],[],[]]) (fun _=>?_)
   refine oN ?_
   refine aG (aJ (aA ?_))
   refine rS Tryz.f35 3 [1,4] [] (fun _=>[vn i,vn (i+1),vn (i+1)]) (fun _=>[]) (cR [[]]<|jW (fun ρ=>(((i:Nat):Int)+1)) (fun _=>(i+1)) (fun _=>(aW i 1 (by have:=yF hb8;have:=yF hb12;omega)))<|jE [[]]) (fun _=>?_)
   exact mN (i+1) (by show (nI p.ps).length-(i+1)<(nI p.ps).length-i;have:=yF hb8;have:=yF hb12;omega) (⟨(by have:=yF hb8;have:=yF hb12;omega),pa_next (f:=p.hf) (by have:=yF hb8;have:=yF hb12;omega) (hf_a hb12) hr⟩) []
  rw [hb11]
  have:=yF hb11
  refine bF (aN (aN (aT (aA (jM Tryz.f35 1 [2] [0] [vT] [[]] (aF ?_))))))
  exact mR (v:=vT) (fun _ hS=>⟨jB (vp_5 (by have:=yF hb8;omega) hb9 (by have:=w1_f hb1;have:=yF hb8;omega) (vp_7 (all_endN (by have:=yF hb8;omega) hr))),hS.bel⟩)
 refine sS Tryz.f35 18 [1,2,29] [] (fun _=>[jp (nb ρ1 0) 43,.slice p.pa (nI p.ps).length p.pc,vn (nI p.ps).length,vF,vF,pt (nb ρ1 0),.agg (kY p.k),vF,vT,vT,vT,undef,undef,undef,undef,undef,undef,vT]) (fun _=>[]) (cR [[],[0],[]]<|cA (fun _=>vF) (fun _=>congrArg Value.bool hb8)<|cR [[],[],[0]]<|cC (f:=63) (args:=fun ρ=> #[.agg (kY p.k)]) (v:=fun ρ=>vF) (fun _ w=>by as_aux_lemma=>(have hcall:=(fun w=>oQ p.k hp.k w) w;rw [hb9] at hcall;exact hcall))<|jE [[],[],[],[],[],[],[],[],[],[]]) (fun _=>?_)
 refine oY ?_
 refine jJ Tryz.f35 1 [1,2] [vF] (aF (aC ?_))
 exact mR (v:=vF) (fun _ hS=>⟨jB (vp_2 hb9),hS.bel⟩)
theorem xBT (a:Option Addr) (c:Nat) (ts:List bW) (w0:World) (hf0:bM w0 a c ts):Calls Tryz.prog 24 #[.slice a ts.length c] w0 (jR (.bool (xW ts)) w0):=by
 refine Calls.of_ok (n:=50) (F:=(fun w=>bM w a c ts∧True)) Tryz.func24 rfl rfl rfl (by simp) (hf0.pers0.and cO) ?_
 have hlen:ts.length≤1000000:=hf0.max
 have ho:mP ts:=hf0.oks
 refine jJ Tryz.f24 1 [0,2] [vF] (aB ?_)
 rcases Bool.eq_false_or_eq_true (decide (((ts.length:Nat):Int)<1)) with hb1 | hb1
 ·
  refine sS Tryz.f24 13 [0,2,21] [] (fun _=>[.slice a ts.length c,vn ts.length,vT,vT,undef,undef,undef,vT,vT,undef,undef,undef,vT]) (fun _=>[]) (cR [[],[]]<|cA (fun _=>vT) (fun _=>congrArg Value.bool hb1)<|jE [[],[],[],[],[],[],[],[],[],[]]) (fun _=>?_)
  refine oY ?_
  refine jJ Tryz.f24 1 [0,2] [vF] (aF (aC ?_))
  exact mR (v:=vF) (fun _ hS=>⟨jB (vl_a (by have:=yT hb1;omega)),hS.bel⟩)
 rcases Bool.eq_false_or_eq_true (decide (8<((ts.length:Nat):Int))) with hb2 | hb2
 ·
  refine sS Tryz.f24 13 [0,2,21] [] (fun _=>[.slice a ts.length c,vn ts.length,vF,vF,.slice a ts.length c,vn ts.length,vT,vT,vT,undef,undef,undef,vT]) (fun _=>[]) (cR [[],[]]<|cA (fun _=>vF) (fun _=>congrArg Value.bool hb1)<|cR [[],[],[]]<|cA (fun _=>vT) (fun _=>congrArg Value.bool hb2)<|jE [[],[],[],[],[],[]]) (fun _=>?_)
  refine oY ?_
  refine jJ Tryz.f24 1 [0,2] [vF] (aF (aC ?_))
  exact mR (v:=vF) (fun _ hS=>⟨jB (vl_a (by have:=yF hb1;have:=yT hb2;omega)),hS.bel⟩)
 refine sS Tryz.f24 13 [0,2,21] [] (fun _=>[.slice a ts.length c,vn ts.length,vF,vF,.slice a ts.length c,vn ts.length,vF,vF,vF,.slice a ts.length c,.bool (vG 1 ts),.bool (!(vG 1 ts)),.bool (!(vG 1 ts))]) (fun _=>[]) (cR [[],[]]<|cA (fun _=>vF) (fun _=>congrArg Value.bool hb1)<|cR [[],[],[]]<|cA (fun _=>vF) (fun _=>congrArg Value.bool hb2)<|cR [[],[],[]]<|cX (qC (fun _ _ w hG=>dwhole_any a c ts w hG.fn.1))<|jE [[],[]]) (fun _=>?_)
 refine oC (!(vG 1 ts)) (fun hb3=>?_) (fun hb3=>?_)
 ·
  rw [hb3]
  refine jJ Tryz.f24 1 [0,2] [vF] (aF (aC ?_))
  exact mR (v:=vF) (fun _ hS=>⟨jB (vl_b (dF hb3)),hS.bel⟩)
 rw [hb3]
 refine aG (aA (aB (jJ Tryz.f24 3 [0,2,22,23,24] [.slice a ts.length c,vn ts.length,vi 0] (aI ?_))))
 refine oL (σ:=Nat) (fun i=>[(0,(.slice a ts.length c)),(22,(.slice a ts.length c)),(23,(vn ts.length)),(24,(vn i))]) (fun _=>[]) (fun i=>ts.length-i)
   (fun i=>(i≤ts.length)∧((ts.drop i).all bW.fd=ts.all bW.fd)) 0 (⟨Nat.zero_le _,rfl⟩) [] ?_
 rintro i ⟨hi,hA⟩
 change Ok Tryz.prog _ _ 50 [(0,(.slice a ts.length c)),(22,(.slice a ts.length c)),(23,(vn ts.length)),(24,(vn i))] _ [] (fun w=>bM w a c ts∧True)
 refine jJ Tryz.f24 1 [0,22,23,24,25] [.bool (decide (((i:Nat):Int)<((ts.length:Nat):Int)))] (aB ?_)
 refine oC (decide (((i:Nat):Int)<((ts.length:Nat):Int))) (fun hb4=>?_) (fun hb4=>?_)
 ·
  rw [hb4]
  have:=yT hb4
  refine aG (aA (aB (aI ?_)))
  refine sS Tryz.f24 4 [0,4,22,23,24] [] (fun ρ=>[.pointer (fK a (i*36)),.agg (bW.row (gT ts i)),pt (nb ρ 2),undef]) (fun ρ=>[(2,(nw ρ 2 (cL (iC 0 0 0 0 vz) 50))),(3,(bD 16 (nb ρ 2) (cL (bW.row (gT ts i)) 50)))]) (cX (qF (fun _ _ _ hG=>bM.idx (k:=.i64) Tryz.underlying24 Tryz.sizeOf50 hG.fn.1 rfl (show ((i:Nat):Int)=((i:Nat):Int) from rfl) (show i<ts.length from (by have:=yF hb1;have:=yF hb2;omega))))<|cX (qF (fun _ _ _ hG=>bM.ldA (i:=i) Tryz.isAgg50 Tryz.sizeOf50 hG.fn.1 (show i<ts.length from (by have:=yF hb1;have:=yF hb2;omega))))<|jE [[],[16]]) (fun _=>?_)
  refine sS Tryz.f24 3 [0,22,23,24,30] [0] (fun _=>[.agg (bW.row (gT ts i)),.bool (fdN (gT ts i).kd (gT ts i).m (gT ts i).nu (gT ts i).h (gT ts i).ks.length),.bool (!(fdN (gT ts i).kd (gT ts i).m (gT ts i).nu (gT ts i).h (gT ts i).ks.length))]) (fun _=>[]) (cR [[0]]<|cC (fun _ w=>dfields_any (gT ts i).kd (gT ts i).m (gT ts i).nu (gT ts i).h (gT ts i).ka (gT ts i).kc (gT ts i).ks (ho.gT i).h w)<|jE [[]]) (fun _=>?_)
  refine oC (!(fdN (gT ts i).kd (gT ts i).m (gT ts i).nu (gT ts i).h (gT ts i).ks.length)) (fun hb5=>?_) (fun hb5=>?_)
  ·
   rw [hb5]
   refine jJ Tryz.f24 1 [0,2,22,23,24] [vF] (aF (aP (aC (aC (aP (aC ?_))))))
   exact mR (v:=vF) (fun _ hS=>⟨jB (vl_c (sZ (f:=bW.fd) (l:=ts) (by have:=yF hb1;have:=yF hb2;omega) (dF hb5) hA)),hS.bel⟩)
  rw [hb5]
  refine aG (aJ (aA ?_))
  refine rS Tryz.f24 2 [0,22,23,24] [] (fun _=>[vn (i+1),vn (i+1)]) (fun _=>[]) (jW (fun ρ=>(((i:Nat):Int)+1)) (fun _=>(i+1)) (fun _=>(aW i 1 (by have:=yF hb1;have:=yF hb2;omega)))<|jE [[]]) (fun _=>?_)
  exact mN (i+1) (by show ts.length-(i+1)<ts.length-i;have:=yF hb1;have:=yF hb2;omega) (⟨(by have:=yF hb1;have:=yF hb2;omega),sF (f:=bW.fd) (l:=ts) (by have:=yF hb1;have:=yF hb2;omega) (aV hb5) hA⟩) []
 rw [hb4]
 have:=yF hb4
 refine bF (aN (aN (aT (aA (aB (jJ Tryz.f24 3 [32,33,34] [.slice a ts.length c,vn ts.length,vi 0] (aI ?_)))))))
 refine oL (σ:=Nat) (fun i2=>[(32,(.slice a ts.length c)),(33,(vn ts.length)),(34,(vn i2))]) (fun _=>[]) (fun i2=>ts.length-i2)
   (fun i2=>(i2≤ts.length)∧((ts.drop i2).all bW.vk=ts.all bW.vk)) 0 (⟨Nat.zero_le _,rfl⟩) [] ?_
 rintro i2 ⟨hi2,hB⟩
 change Ok Tryz.prog _ _ 50 [(32,(.slice a ts.length c)),(33,(vn ts.length)),(34,(vn i2))] _ [] (fun w=>bM w a c ts∧True)
 refine jJ Tryz.f24 1 [32,33,34,35] [.bool (decide (((i2:Nat):Int)<((ts.length:Nat):Int)))] (aB ?_)
 refine oC (decide (((i2:Nat):Int)<((ts.length:Nat):Int))) (fun hb6=>?_) (fun hb6=>?_)
 ·
  rw [hb6]
  have:=yT hb6
  refine aG (aA (aB (aI ?_)))
  refine sS Tryz.f24 4 [6,32,33,34] [] (fun ρ=>[.pointer (fK a (i2*36)),.agg (bW.row (gT ts i2)),pt (nb ρ 2),undef]) (fun ρ=>[(2,(nw ρ 2 (cL (iC 0 0 0 0 vz) 50))),(3,(bD 16 (nb ρ 2) (cL (bW.row (gT ts i2)) 50)))]) (cX (qF (fun _ _ _ hG=>bM.idx (k:=.i64) Tryz.underlying24 Tryz.sizeOf50 hG.fn.1 rfl (show ((i2:Nat):Int)=((i2:Nat):Int) from rfl) (show i2<ts.length from (by have:=yF hb1;have:=yF hb2;omega))))<|cX (qF (fun _ _ _ hG=>bM.ldA (i:=i2) Tryz.isAgg50 Tryz.sizeOf50 hG.fn.1 (show i2<ts.length from (by have:=yF hb1;have:=yF hb2;omega))))<|jE [[],[16]]) (fun ρ16=>?_)
  refine jM Tryz.f24 4 [32,33,34,39,40,41] [0] [jp (nb ρ16 2) 35,.slice (gT ts i2).ka (gT ts i2).ks.length (gT ts i2).kc,vn (gT ts i2).ks.length,vi 0] [[],[0],[],[]] (aI ?_)
  refine oL (σ:=Nat) (fun k=>[(32,(.slice a ts.length c)),(33,(vn ts.length)),(34,(vn i2)),(39,(.slice (gT ts i2).ka (gT ts i2).ks.length (gT ts i2).kc)),(40,(vn (gT ts i2).ks.length)),(41,(vn k))]) (fun _=>[]) (fun k=>(gT ts i2).ks.length-k)
    (fun k=>(k≤(gT ts i2).ks.length)∧(((gT ts i2).ks.drop k).all dO.vp=(gT ts i2).ks.all dO.vp)) 0 (⟨Nat.zero_le _,rfl⟩) [] ?_
  rintro k ⟨hk,hC⟩
  change Ok Tryz.prog _ _ 50 [(32,(.slice a ts.length c)),(33,(vn ts.length)),(34,(vn i2)),(39,(.slice (gT ts i2).ka (gT ts i2).ks.length (gT ts i2).kc)),(40,(vn (gT ts i2).ks.length)),(41,(vn k))] _ [] (fun w=>bM w a c ts∧True)
  have hkl:(gT ts i2).ks.length≤1000000:=ho.klen hf0 i2
  refine jJ Tryz.f24 1 [32,33,34,39,40,41,42] [.bool (decide (((k:Nat):Int)<(((gT ts i2).ks.length:Nat):Int)))] (aB ?_)
  refine oC (decide (((k:Nat):Int)<(((gT ts i2).ks.length:Nat):Int))) (fun hb7=>?_) (fun hb7=>?_)
  ·
   rw [hb7]
   have:=yT hb7
   refine aG (aA (aB (aI ?_)))
   refine sS Tryz.f24 4 [8,32,33,34,39,40,41] [] (fun ρ=>[.pointer (fK (gT ts i2).ka (k*45)),.agg (dO.row (gK (gT ts i2).ks k)),pt (nb ρ 2),undef]) (fun ρ=>[(2,(nw ρ 2 (cL (kM 0 0 0 0 0 0 vz vF) 59))),(3,(bD 16 (nb ρ 2) (cL (dO.row (gK (gT ts i2).ks k)) 59)))]) (cX (qF (fun _ _ _ hG=>oG.idx (k:=.i64) Tryz.underlying48 Tryz.sizeOf59 (hG.fn.1.sub _ (xAE (show i2<ts.length from (by have:=yF hb1;have:=yF hb2;omega)))) rfl (show ((k:Nat):Int)=((k:Nat):Int) from rfl) (show k<(gT ts i2).ks.length from (by have:=yF hb1;have:=yF hb2;omega))))<|cX (qF (fun _ _ _ hG=>oG.ldA (i:=k) Tryz.isAgg59 Tryz.sizeOf59 (hG.fn.1.sub _ (xAE (show i2<ts.length from (by have:=yF hb1;have:=yF hb2;omega)))) (show k<(gT ts i2).ks.length from (by have:=yF hb1;have:=yF hb2;omega))))<|jE [[],[16]]) (fun _=>?_)
   refine sS Tryz.f24 3 [32,33,34,39,40,41,47] [0] (fun _=>[.agg (dO.row (gK (gT ts i2).ks k)),.bool (dO.vp (gK (gT ts i2).ks k)),.bool (!(dO.vp (gK (gT ts i2).ks k)))]) (fun _=>[]) (cR [[0]]<|cX (qC (fun _ _ w hG=>dvpath_any (gK (gT ts i2).ks k) (ho.gK i2 k) w ((hG.fn.1.sub _ (xAE (show i2<ts.length from (by have:=yF hb1;have:=yF hb2;omega)))).sub _ (nU (show k<(gT ts i2).ks.length from (by have:=yF hb1;have:=yF hb2;omega))))))<|jE [[]]) (fun _=>?_)
   refine oC (!(dO.vp (gK (gT ts i2).ks k))) (fun hb8=>?_) (fun hb8=>?_)
   ·
    rw [hb8]
    refine jJ Tryz.f24 1 [2,32,33,34,39,40,41] [vF] (aF (aP (aC (aC (aP (aP (aC (aC (aP (aC ?_))))))))))
    exact mR (v:=vF) (fun _ hS=>⟨jB (vl_d (sZ (f:=bW.vk) (l:=ts) (by have:=yF hb1;have:=yF hb2;omega) (sZ (f:=dO.vp) (l:=(gT ts i2).ks) (by have:=yF hb1;have:=yF hb2;omega) (dF hb8) hC) hB)),hS.bel⟩)
   rw [hb8]
   refine aG (aJ (aA ?_))
   refine rS Tryz.f24 2 [32,33,34,39,40,41] [] (fun _=>[vn (k+1),vn (k+1)]) (fun _=>[]) (jW (fun ρ=>(((k:Nat):Int)+1)) (fun _=>(k+1)) (fun _=>(aW k 1 (by have:=yF hb1;have:=yF hb2;omega)))<|jE [[]]) (fun _=>?_)
   exact mN (k+1) (by show (gT ts i2).ks.length-(k+1)<(gT ts i2).ks.length-k;have:=yF hb1;have:=yF hb2;omega) (⟨(by have:=yF hb1;have:=yF hb2;omega),sF (f:=dO.vp) (l:=(gT ts i2).ks) (by have:=yF hb1;have:=yF hb2;omega) (aV hb8) hC⟩) []
  rw [hb7]
  have:=yF hb7
  refine bF (aN (aN (aT (aJ (aA ?_)))))
  refine rS Tryz.f24 2 [32,33,34] [] (fun _=>[vn (i2+1),vn (i2+1)]) (fun _=>[]) (jW (fun ρ=>(((i2:Nat):Int)+1)) (fun _=>(i2+1)) (fun _=>(aW i2 1 (by have:=yF hb1;have:=yF hb2;omega)))<|jE [[]]) (fun _=>?_)
  exact mN (i2+1) (by show ts.length-(i2+1)<ts.length-i2;have:=yF hb1;have:=yF hb2;omega) (⟨(by have:=yF hb1;have:=yF hb2;omega),sF (f:=bW.vk) (l:=ts) (by have:=yF hb1;have:=yF hb2;omega) (xH (f:=dO.vp) (l:=(gT ts i2).ks) (by have:=yF hb1;have:=yF hb2;omega) hC) hB⟩) []
 rw [hb6]
 have:=yF hb6
 refine bF (aN (aN (aT (aA (jJ Tryz.f24 1 [2] [vT] (aF ?_))))))
 exact mR (v:=vT) (fun _ hS=>⟨jB (vl_e (by have:=yF hb1;have:=yF hb2;omega) (aV hb3) (xH (f:=bW.fd) (l:=ts) (by have:=yF hb1;have:=yF hb2;omega) hA) (xH (f:=bW.vk) (l:=ts) (by have:=yF hb1;have:=yF hb2;omega) hB)),hS.bel⟩)
theorem rdvalid_any (a:Option Addr) (c:Nat) (ts:List bW) (w0:World) (hf0:bM w0 a c ts):Calls Tryz.prog 18 #[.slice a ts.length c] w0 (jR (.bool (xW ts)) w0):=by
 refine Calls.of_ok (n:=47) (F:=(fun w=>bM w a c ts∧True)) Tryz.func18 rfl rfl rfl (by simp) (hf0.pers0.and cO) ?_
 have hlen:ts.length≤1000000:=hf0.max
 have ho:mP ts:=hf0.oks
 refine jJ Tryz.f18 1 [0,2] [vF] (aB ?_)
 refine sS Tryz.f18 3 [0,2,8] [] (fun _=>[.slice a ts.length c,.bool (shB ts),.bool (!(shB ts))]) (fun _=>[]) (cR [[]]<|cX (qC (fun _ _ w hG=>rdshaped_any a c ts w hG.fn.1))<|jE [[]]) (fun _=>?_)
 refine oC (!(shB ts)) (fun hb1=>?_) (fun hb1=>?_)
 ·
  rw [hb1]
  refine jJ Tryz.f18 1 [0,2] [vF] (aF (aC ?_))
  exact mR (v:=vF) (fun _ hS=>⟨jB (sh_no (dF hb1)),hS.bel⟩)
 rw [hb1]
 refine aG (aA (aB (jJ Tryz.f18 1 [0,2,3] [vi 0] (aI ?_))))
 refine oL (σ:=Nat) (fun i=>[(0,(.slice a ts.length c)),(3,(vn i))]) (fun _=>[]) (fun i=>ts.length-i)
   (fun i=>(i≤ts.length)∧((ts.drop i).all bW.fd=ts.all bW.fd)) 0 (⟨Nat.zero_le _,rfl⟩) [] ?_
 rintro i ⟨hi,hA⟩
 change Ok Tryz.prog _ _ 47 [(0,(.slice a ts.length c)),(3,(vn i))] _ [] (fun w=>bM w a c ts∧True)
 refine aB (jJ Tryz.f18 4 [0,3,12] [vn i,.slice a ts.length c,vn ts.length,.bool (decide (((i:Nat):Int)<((ts.length:Nat):Int)))] ?_)
 refine oC (decide (((i:Nat):Int)<((ts.length:Nat):Int))) (fun hb2=>?_) (fun hb2=>?_)
 ·
  rw [hb2]
  have:=yT hb2
  refine aG (aA (aB (aI ?_)))
  refine sS Tryz.f18 6 [0,3,20] [] (fun _=>[.slice a ts.length c,vn i,.pointer (fK a (i*36)),.agg (bW.row (gT ts i)),.bool (fdN (gT ts i).kd (gT ts i).m (gT ts i).nu (gT ts i).h (gT ts i).ks.length),.bool (!(fdN (gT ts i).kd (gT ts i).m (gT ts i).nu (gT ts i).h (gT ts i).ks.length))]) (fun _=>[]) (cR [[],[]]<|cX (qF (fun _ _ _ hG=>bM.idx (k:=.i64) Tryz.underlying24 Tryz.sizeOf50 hG.fn.1 rfl (show ((i:Nat):Int)=((i:Nat):Int) from rfl) (show i<ts.length from (by omega))))<|cX (qF (fun _ _ _ hG=>bM.ldA (i:=i) Tryz.isAgg50 Tryz.sizeOf50 hG.fn.1 (show i<ts.length from (by omega))))<|cC (fun _ w=>rdfields_any (gT ts i).kd (gT ts i).m (gT ts i).nu (gT ts i).h (gT ts i).ka (gT ts i).kc (gT ts i).ks (ho.gT i).h w)<|jE [[]]) (fun _=>?_)
  refine oC (!(fdN (gT ts i).kd (gT ts i).m (gT ts i).nu (gT ts i).h (gT ts i).ks.length)) (fun hb3=>?_) (fun hb3=>?_)
  ·
   rw [hb3]
   refine jJ Tryz.f18 1 [0,2,3] [vF] (aF (aP (aC (aC (aP (aC ?_))))))
   exact mR (v:=vF) (fun _ hS=>⟨jB (vl_c (sZ (f:=bW.fd) (l:=ts) (by omega) (dF hb3) hA)),hS.bel⟩)
  rw [hb3]
  refine aG (aJ (aA ?_))
  refine rS Tryz.f18 3 [0,3] [] (fun _=>[vn i,vn (i+1),vn (i+1)]) (fun _=>[]) (cR [[]]<|jW (fun ρ=>(((i:Nat):Int)+1)) (fun _=>(i+1)) (fun _=>(aW i 1 (by omega)))<|jE [[]]) (fun _=>?_)
  exact mN (i+1) (by show ts.length-(i+1)<ts.length-i;omega) (⟨(by omega),sF (f:=bW.fd) (l:=ts) (by omega) (aV hb3) hA⟩) []
 rw [hb2]
 have:=yF hb2
 refine bF (aN (aN (aT (aA (aB (jJ Tryz.f18 1 [0,4] [vi 0] (aI ?_)))))))
 refine oL (σ:=Nat) (fun i2=>[(0,(.slice a ts.length c)),(4,(vn i2))]) (fun _=>[]) (fun i2=>ts.length-i2)
   (fun i2=>(i2≤ts.length)∧((ts.drop i2).all bW.vk=ts.all bW.vk)) 0 (⟨Nat.zero_le _,rfl⟩) [] ?_
 rintro i2 ⟨hi2,hB⟩
 change Ok Tryz.prog _ _ 47 [(0,(.slice a ts.length c)),(4,(vn i2))] _ [] (fun w=>bM w a c ts∧True)
 refine aB (jJ Tryz.f18 4 [0,4,24] [vn i2,.slice a ts.length c,vn ts.length,.bool (decide (((i2:Nat):Int)<((ts.length:Nat):Int)))] ?_)
 refine oC (decide (((i2:Nat):Int)<((ts.length:Nat):Int))) (fun hb4=>?_) (fun hb4=>?_)
 ·
  rw [hb4]
  have:=yT hb4
  refine aG (aA (aB (aI (jJ Tryz.f18 1 [0,4,5] [vi 0] (aI ?_)))))
  refine oL (σ:=Nat) (fun k=>[(0,(.slice a ts.length c)),(4,(vn i2)),(5,(vn k))]) (fun _=>[]) (fun k=>(gT ts i2).ks.length-k)
    (fun k=>(k≤(gT ts i2).ks.length)∧(((gT ts i2).ks.drop k).all dO.vp=(gT ts i2).ks.all dO.vp)) 0 (⟨Nat.zero_le _,rfl⟩) [] ?_
  rintro k ⟨hk,hC⟩
  change Ok Tryz.prog _ _ 47 [(0,(.slice a ts.length c)),(4,(vn i2)),(5,(vn k))] _ [] (fun w=>bM w a c ts∧True)
  have hkl:(gT ts i2).ks.length≤1000000:=ho.klen hf0 i2
  refine aB ?_
  refine sS Tryz.f18 8 [0,4,5,34] [] (fun _=>[vn k,.slice a ts.length c,vn i2,.pointer (fK a (i2*36)),.pointer (fK a (i2*36+35)),.slice (gT ts i2).ka (gT ts i2).ks.length (gT ts i2).kc,vn (gT ts i2).ks.length,.bool (decide (((k:Nat):Int)<(((gT ts i2).ks.length:Nat):Int)))]) (fun _=>[]) (cR [[],[],[]]<|cX (qF (fun _ _ _ hG=>bM.idx (k:=.i64) Tryz.underlying24 Tryz.sizeOf50 hG.fn.1 rfl (show ((i2:Nat):Int)=((i2:Nat):Int) from rfl) (show i2<ts.length from (by omega))))<|cX (jF (fun _=>Instr.fieldAt 50 (.pointer (fK a (i2*36))) 4) (fun _=>(.pointer (fK a (i2*36+35)))) (fun _ _ _ hG=>uH (o:=35) (k:=i2*36) Tryz.underlying50 rfl rfl rfl Tryz.sizeOf48 (hG.fn.1.pos (show i2<ts.length from (by omega))).1 (hG.fn.1.pos (show i2<ts.length from (by omega))).2) (fun _ _ _ _=>cO))<|cX (qF (fun _ _ _ hG=>bM.ld (v:=(.slice (gT ts i2).ka (gT ts i2).ks.length (gT ts i2).kc)) (i:=i2) (j:=35) Tryz.isAgg48 hG.fn.1 (show i2<ts.length from (by omega)) (by decide) (by kernel_rfl)))<|jE [[],[]]) (fun _=>?_)
  refine oC (decide (((k:Nat):Int)<(((gT ts i2).ks.length:Nat):Int))) (fun hb5=>?_) (fun hb5=>?_)
  ·
   rw [hb5]
   have:=yT hb5
   refine aG (aA (aB (aI ?_)))
   refine sS Tryz.f18 10 [0,4,5,46] [] (fun _=>[.slice a ts.length c,vn i2,.pointer (fK a (i2*36)),.pointer (fK a (i2*36+35)),.slice (gT ts i2).ka (gT ts i2).ks.length (gT ts i2).kc,vn k,.pointer (fK (gT ts i2).ka (k*45)),.agg (dO.row (gK (gT ts i2).ks k)),.bool (dO.vp (gK (gT ts i2).ks k)),.bool (!(dO.vp (gK (gT ts i2).ks k)))]) (fun _=>[]) (cR [[],[]]<|cX (qF (fun _ _ _ hG=>bM.idx (k:=.i64) Tryz.underlying24 Tryz.sizeOf50 hG.fn.1 rfl (show ((i2:Nat):Int)=((i2:Nat):Int) from rfl) (show i2<ts.length from (by omega))))<|cX (jF (fun _=>Instr.fieldAt 50 (.pointer (fK a (i2*36))) 4) (fun _=>(.pointer (fK a (i2*36+35)))) (fun _ _ _ hG=>uH (o:=35) (k:=i2*36) Tryz.underlying50 rfl rfl rfl Tryz.sizeOf48 (hG.fn.1.pos (show i2<ts.length from (by omega))).1 (hG.fn.1.pos (show i2<ts.length from (by omega))).2) (fun _ _ _ _=>cO))<|cX (qF (fun _ _ _ hG=>bM.ld (v:=(.slice (gT ts i2).ka (gT ts i2).ks.length (gT ts i2).kc)) (i:=i2) (j:=35) Tryz.isAgg48 hG.fn.1 (show i2<ts.length from (by omega)) (by decide) (by kernel_rfl)))<|cR [[]]<|cX (qF (fun _ _ _ hG=>oG.idx (k:=.i64) Tryz.underlying48 Tryz.sizeOf59 (hG.fn.1.sub _ (xAE (show i2<ts.length from (by omega)))) rfl (show ((k:Nat):Int)=((k:Nat):Int) from rfl) (show k<(gT ts i2).ks.length from (by omega))))<|cX (qF (fun _ _ _ hG=>oG.ldA (i:=k) Tryz.isAgg59 Tryz.sizeOf59 (hG.fn.1.sub _ (xAE (show i2<ts.length from (by omega)))) (show k<(gT ts i2).ks.length from (by omega))))<|cX (qC (fun _ _ w hG=>rdvpath_any (gK (gT ts i2).ks k) (ho.gK i2 k) w ((hG.fn.1.sub _ (xAE (show i2<ts.length from (by omega)))).sub _ (nU (show k<(gT ts i2).ks.length from (by omega))))))<|jE [[]]) (fun _=>?_)
   refine oC (!(dO.vp (gK (gT ts i2).ks k))) (fun hb6=>?_) (fun hb6=>?_)
   ·
    rw [hb6]
    refine jJ Tryz.f18 1 [0,2,4,5] [vF] (aF (aP (aC (aC (aP (aP (aC (aC (aP (aC ?_))))))))))
    exact mR (v:=vF) (fun _ hS=>⟨jB (vl_d (sZ (f:=bW.vk) (l:=ts) (by omega) (sZ (f:=dO.vp) (l:=(gT ts i2).ks) (by omega) (dF hb6) hC) hB)),hS.bel⟩)
   rw [hb6]
   refine aG (aJ (aA ?_))
   refine rS Tryz.f18 3 [0,4,5] [] (fun _=>[vn k,vn (k+1),vn (k+1)]) (fun _=>[]) (cR [[]]<|jW (fun ρ=>(((k:Nat):Int)+1)) (fun _=>(k+1)) (fun _=>(aW k 1 (by omega)))<|jE [[]]) (fun _=>?_)
   exact mN (k+1) (by show (gT ts i2).ks.length-(k+1)<(gT ts i2).ks.length-k;omega) (⟨(by omega),sF (f:=dO.vp) (l:=(gT ts i2).ks) (by omega) (aV hb6) hC⟩) []
  rw [hb5]
  have:=yF hb5
  refine bF (aN (aN (aT (aJ (aA ?_)))))
  refine rS Tryz.f18 3 [0,4] [] (fun _=>[vn i2,vn (i2+1),vn (i2+1)]) (fun _=>[]) (cR [[]]<|jW (fun ρ=>(((i2:Nat):Int)+1)) (fun _=>(i2+1)) (fun _=>(aW i2 1 (by omega)))<|jE [[]]) (fun _=>?_)
  exact mN (i2+1) (by show ts.length-(i2+1)<ts.length-i2;omega) (⟨(by omega),sF (f:=bW.vk) (l:=ts) (by omega) (xH (f:=dO.vp) (l:=(gT ts i2).ks) (by omega) hC) hB⟩) []
 rw [hb4]
 refine bF (aN (aN (aT (aA (jJ Tryz.f18 1 [2] [vT] (aF ?_))))))
 exact mR (v:=vT) (fun _ hS=>⟨jB (vl_e (sh_yes (aV hb1)).1 (sh_yes (aV hb1)).2 (xH (f:=bW.fd) (l:=ts) (by have:=yF hb4;omega) hA) (xH (f:=bW.vk) (l:=ts) (by have:=yF hb4;omega) hB)),hS.bel⟩)
theorem nm_at (kd:Int) (h:1≤kd∧kd≤6) (w:World):(do pure (Next.value (← Instr.index 78 (.agg #[.string ⟨#[]⟩,.string ⟨#[107,101,121]⟩,.string ⟨#[109,117,108,116,105]⟩,.string ⟨#[97,102,116,101,114]⟩,.string ⟨#[111,108,100,101,114]⟩,.string ⟨#[104,97,115,104]⟩,.string ⟨#[101,105,116,104,101,114]⟩]) (.int .i64 kd))):Sem Next).run Tryz.prog w=.ok (.value (.string (gY (gW kd)))) w:=by
  rcases (by omega:kd=1∨kd=2∨kd=3∨kd=4∨kd=5∨kd=6) with rfl | rfl | rfl | rfl | rfl | rfl<;>kernel_rfl
theorem itoa_any (m:Int) (h:1≤m∧m≤15) (w:World):Calls Tryz.prog 43 #[.int .i64 m] w (fun ε w'=>ε=.returned (.string (gY (dS m.toNat)))∧Below w.heap.size w w'):=by
  have e:m=((m.toNat:Nat):Int):=by omega
  have k:=itoaS m.toNat (by omega) w
  rw [← e] at k
  exact k.mono (fun ε w' hw=>⟨hw.1,by rw [hw.2];exact Below.refl _ _⟩)
theorem slT_q {x y:Int} (h:x=y):(x==y)=true:=by rw [h];exact beq_self_eq_true y
def BdC (s:Tq) (x:List UInt8) (s':Tq):Prop:=∀ w0:World,bM w0 s.ta s.tc s.ts→qI w0→Calls Tryz.prog 25 #[.slice s.ta s.ts.length s.tc] w0 (jR (.tuple #[.string (gY x),.slice s'.ta s'.ts.length s'.tc]) w0)
theorem nY  (w0:World):Calls Tryz.prog 41 #[] w0 (jR (.agg #[.string ⟨#[]⟩,.string ⟨#[107,101,121]⟩,.string ⟨#[109,117,108,116,105]⟩,.string ⟨#[97,102,116,101,114]⟩,.string ⟨#[111,108,100,101,114]⟩,.string ⟨#[104,97,115,104]⟩,.string ⟨#[101,105,116,104,101,114]⟩]) w0):=by
 refine Calls.of_ok (n:=2) (F:=(fun _=>True)) Tryz.func41 rfl rfl rfl (by simp) jT ?_
 refine sS Tryz.f41 1 [0] [] (fun ρ=>[pt (nb ρ 0)]) (fun ρ=>[(0,(nw ρ 0 (cL #[.string ⟨#[]⟩,.string ⟨#[]⟩,.string ⟨#[]⟩,.string ⟨#[]⟩,.string ⟨#[]⟩,.string ⟨#[]⟩,.string ⟨#[]⟩] 78)))]) (jE [[]]) (fun ρ1=>?_)
 refine sS Tryz.f41 2 [0] [] (fun _=>[.agg #[.string ⟨#[]⟩,.string ⟨#[107,101,121]⟩,.string ⟨#[109,117,108,116,105]⟩,.string ⟨#[97,102,116,101,114]⟩,.string ⟨#[111,108,100,101,114]⟩,.string ⟨#[104,97,115,104]⟩,.string ⟨#[101,105,116,104,101,114]⟩],undef]) (fun _=>[(1,(bD 0 (nb ρ1 0) (cL #[.string ⟨#[]⟩,.string ⟨#[107,101,121]⟩,.string ⟨#[109,117,108,116,105]⟩,.string ⟨#[97,102,116,101,114]⟩,.string ⟨#[111,108,100,101,114]⟩,.string ⟨#[104,97,115,104]⟩,.string ⟨#[101,105,116,104,101,114]⟩] 78)))]) (jE [[],[0]]) (fun _=>?_)
 refine aF ?_
 exact mR (v:=(.agg #[.string ⟨#[]⟩,.string ⟨#[107,101,121]⟩,.string ⟨#[109,117,108,116,105]⟩,.string ⟨#[97,102,116,101,114]⟩,.string ⟨#[111,108,100,101,114]⟩,.string ⟨#[104,97,115,104]⟩,.string ⟨#[101,105,116,104,101,114]⟩])) (fun _ hS=>⟨rfl,hS.bel⟩)
theorem body1_any (s:Tq) (hk:(gT s.ts 0).kd=1) (h0:0<s.ts.length) (hfd:(gT s.ts 0).fd=true) (ho:mP s.ts) (hq:TxS s.ts) (w0:World) (hf0:bM w0 s.ta s.tc s.ts) (hf1:qI w0):Calls Tryz.prog 25 #[.slice s.ta s.ts.length s.tc] w0 (jR (.tuple #[.string (gY (fD (gK (gT s.ts 0).ks 0))),.slice s.go.ta s.go.ts.length s.go.tc]) w0):=by
 refine Calls.of_ok (n:=76) (F:=(fun w=>bM w s.ta s.tc s.ts∧qI w∧True)) Tryz.func25 rfl rfl rfl (by simp) (hf0.pers0.and (hf1.pers0.and cO)) ?_
 have hkl:(gT s.ts 0).ks.length=1:=(by have:=(xAT _ _ _ _ _).1 hfd;unfold o7 at this;omega)
 have hlen:s.ts.length≤1000000:=hf0.max
 refine jJ Tryz.f25 2 [0,2,3] [.string ⟨#[]⟩,vz] ?_
 refine sDf Tryz.f25 [0,1,3,0,8,0,39,127] 8 [0,2,3,4] [] (fun ρ=>let qa:Value:=.slice (jA s.ta s.tc 1 36) s.ts.tail.length (s.tc-1);let qb:Value:=.slice s.ta s.ts.length s.tc;[qb,.pointer (fK s.ta (0*36)),.agg (bW.row (gT s.ts 0)),qb,qa,pt (nb ρ 5),undef,qa]) (fun ρ=>[(5,(nw ρ 5 (cL (iC 0 0 0 0 vz) 50))),(6,(bD 40 (nb ρ 5) (cL (bW.row (gT s.ts 0)) 50)))]) (fun _=>[(4,fun w=>bM w (jA s.ta s.tc 1 36) (s.tc-1) s.ts.tail)]) (fun _=>(fun w=>bM w s.ta s.tc s.ts∧qI w∧bM w (jA s.ta s.tc 1 36) (s.tc-1) s.ts.tail∧True)) (fun _=>True) (fun _ _ hF hf=>⟨⟨hF.1,hF.2.1,hf 4,trivial⟩,trivial⟩) (cR [[]]<|cX (qF (fun _ _ _ hG=>bM.idx (k:=.i64) Tryz.underlying24 Tryz.sizeOf50 hG.fn.1 rfl (show 0=((0:Nat):Int) from rfl) (show 0<s.ts.length from h0)))<|cX (qF (fun _ _ _ hG=>bM.ldA (i:=0) Tryz.isAgg50 Tryz.sizeOf50 hG.fn.1 (show 0<s.ts.length from h0)))<|cR [[]]<|cX (jF (fun _=>Instr.sliceAt 24 (.slice s.ta s.ts.length s.tc) (some (vi 1)) none none) (fun _=>(.slice (jA s.ta s.tc 1 36) s.ts.tail.length (s.tc-1))) (fun _ _ _ hG=>fP (k:=1) Tryz.underlying24 Tryz.sizeOf50 rfl (jI (rfl)) h0 hG.fn.1.le (by rw [List.length_tail])) (fun _ _ w hG=>hG.facts0.mono (fun _ hF=>hF.1.tail h0)))<|jE [[],[40],[]]) (fun ρ2 _=>?_)
 refine sD Tryz.f25 [0,0,2,7,15,0,63] 7 [0,2,3,4,5] [] (fun ρ=>[.agg #[.string ⟨#[]⟩,.string ⟨#[107,101,121]⟩,.string ⟨#[109,117,108,116,105]⟩,.string ⟨#[97,102,116,101,114]⟩,.string ⟨#[111,108,100,101,114]⟩,.string ⟨#[104,97,115,104]⟩,.string ⟨#[101,105,116,104,101,114]⟩],pt (nb ρ2 5),vi (gT s.ts 0).kd,.string (gY (gW (gT s.ts 0).kd)),.string (gY ((gW (gT s.ts 0).kd)++([40]:List UInt8))),pt (nb ρ 5),undef]) (fun ρ=>[(5,(nw ρ 5 (cL #[.string ⟨#[]⟩] 9))),(6,(bD 41 (nb ρ 5) (cL #[.string (gY ((gW (gT s.ts 0).kd)++([40]:List UInt8)))] 9)))]) (cC (fun _ w=>nY w)<|cR [[],[0]]<|cX (jS (fun _=>Instr.index 78 (.agg #[.string ⟨#[]⟩,.string ⟨#[107,101,121]⟩,.string ⟨#[109,117,108,116,105]⟩,.string ⟨#[97,102,116,101,114]⟩,.string ⟨#[111,108,100,101,114]⟩,.string ⟨#[104,97,115,104]⟩,.string ⟨#[101,105,116,104,101,114]⟩]) (vi (gT s.ts 0).kd)) (fun _=>(.string (gY (gW (gT s.ts 0).kd)))) (fun _ w=>nm_at _ (by omega) w))<|cB (a:=fun ρ=>(.string (gY (gW (gT s.ts 0).kd)))) (b:=fun ρ=>(.string (gY ([40]:List UInt8)))) (v:=fun ρ=>(.string (gY ((gW (gT s.ts 0).kd)++([40]:List UInt8))))) .add 9 (fun _ w=>bI (gW (gT s.ts 0).kd) ([40]:List UInt8) (by have q1:=bT (gT s.ts 0).kd;have q2:=hq _ (xAE h0) _ (nU (show 0<(gT s.ts 0).ks.length by rw [hkl];decide));simp only [List.length_cons,List.length_nil] at *;omega) w)<|jE [[],[41]]) (fun ρ3=>?_)
 refine sS Tryz.f25 2 [0,2,3,4,5,6] [] (fun ρ=>[pt (nb ρ 0),undef]) (fun ρ=>[(0,(nw ρ 0 (cL #[.string ⟨#[]⟩] 9))),(1,(bD 2 (nb ρ 0) (cL #[.string ⟨#[]⟩] 9)))]) (jE [[],[2]]) (fun ρ4=>?_)
 refine jJ Tryz.f25 2 [0,2,3,4,5,7] [.func (.func 42) #[] #[pt (nb ρ3 5),pt (nb ρ4 0)],.func (.func 42) #[] #[pt (nb ρ3 5),pt (nb ρ4 0)]] (aB (jM Tryz.f25 2 [0,2,3,4,5,7,23] [] [pt (nb ρ2 5),vi (gT s.ts 0).kd] [[],[0]] (aI ?_)))
 refine sS Tryz.f25 2 [0,2,3,4,5,7,23,24] [] (fun _=>[vF,vF]) (fun _=>[]) (jQ (fun ρ=>((gT s.ts 0).kd==2)) false (fun _=>(jK hk rfl))<|jE [[]]) (fun _=>?_)
 refine lK [(0,(.slice (jA s.ta s.tc 1 36) s.ts.tail.length (s.tc-1))),(2,(.string ⟨#[]⟩)),(3,vz),(4,(pt (nb ρ2 5))),(5,(pt (nb ρ3 5))),(7,(.func (.func 42) #[] #[pt (nb ρ3 5),pt (nb ρ4 0)])),(23,(vi (gT s.ts 0).kd)),(24,vF)] [(nb ρ2 5,(cL (bW.row (gT s.ts 0)) 50)),(nb ρ3 5,(cL #[.string (gY ((gW (gT s.ts 0).kd)++([40]:List UInt8)))] 9)),(nb ρ4 0,(cL #[.string ⟨#[]⟩] 9))] ?_
 refine oN ?_
 refine aB ?_
 refine sS Tryz.f25 2 [0,2,3,4,5,7,23,31] [] (fun _=>[vF,vF]) (fun _=>[]) (jQ (fun ρ=>((gT s.ts 0).kd==3)) false (fun _=>(jK hk rfl))<|jE [[]]) (fun _=>?_)
 refine oN ?_
 refine rS Tryz.f25 2 [0,2,3,4,5,7,23,31] [] (fun _=>[vF,vF]) (fun _=>[]) (jQ (fun ρ=>((gT s.ts 0).kd==4)) false (fun _=>(jK hk rfl))<|jE [[]]) (fun _=>?_)
 refine aA ?_
 refine oN ?_
 refine sS Tryz.f25 2 [0,2,3,4,5,7,40] [] (fun _=>[vF,vF]) (fun _=>[]) (jQ (fun ρ=>((gT s.ts 0).kd==5)) false (fun _=>(jK hk rfl))<|jE [[]]) (fun _=>?_)
 refine oN ?_
 refine aG (aJ (aA (aB (jM Tryz.f25 4 [0,2,3,4,5,7,48,49,50] [] [jp (nb ρ2 5) 35,.slice (gT s.ts 0).ka (gT s.ts 0).ks.length (gT s.ts 0).kc,vn (gT s.ts 0).ks.length,vi 0] [[],[0],[],[]] (aI ?_)))))
 refine jY 2 ?_
 refine dI ?_
 refine sS Tryz.f25 1 [0,2,3,4,5,7,48,49,50,51] [] (fun _=>[vT]) (fun _=>[]) (jQ (fun ρ=>(decide (0<(((gT s.ts 0).ks.length:Nat):Int)))) true (fun _=>(by rw [hkl];rfl))<|cN) (fun _=>?_)
 refine aB ?_
 refine oY ?_
 refine aG (aA (aB (aI ?_)))
 refine sS Tryz.f25 4 [0,2,3,4,5,7,9,48,49,50,51,52,53] [] (fun ρ=>[.pointer (fK (gT s.ts 0).ka (0*45)),.agg (dO.row (gK (gT s.ts 0).ks 0)),pt (nb ρ 2),undef]) (fun ρ=>[(2,(nw ρ 2 (cL (kM 0 0 0 0 0 0 vz vF) 59))),(3,(bD 19 (nb ρ 2) (cL (dO.row (gK (gT s.ts 0).ks 0)) 59)))]) (cX (qF (fun _ _ _ hG=>oG.idx (k:=.i64) Tryz.underlying48 Tryz.sizeOf59 (hG.fn.1.sub _ (xAE (show 0<s.ts.length from h0))) rfl (show 0=((0:Nat):Int) from rfl) (show 0<(gT s.ts 0).ks.length from (by rw [hkl];decide))))<|cX (qF (fun _ _ _ hG=>oG.ldA (i:=0) Tryz.isAgg59 Tryz.sizeOf59 (hG.fn.1.sub _ (xAE (show 0<s.ts.length from h0))) (show 0<(gT s.ts 0).ks.length from (by rw [hkl];decide))))<|jE [[],[19]]) (fun ρ13=>?_)
 refine rS Tryz.f25 4 [0,2,3,4,5,7,9,48,49,50,51,52,53,54,55,56] [] (fun _=>[.func (.func 42) #[] #[pt (nb ρ3 5),pt (nb ρ4 0)],.agg (dO.row (gK (gT s.ts 0).ks 0)),.string (gY (gK (gT s.ts 0).ks 0).tx),.tuple #[]]) (fun _=>[(3,{ puts:=[(1,nb ρ3 5,(cL #[.string (gY (((gW (gT s.ts 0).kd)++([40]:List UInt8))++(([]:List UInt8)++(gK (gT s.ts 0).ks 0).tx)))] 9)),(2,nb ρ4 0,(cL #[.string ⟨#[44]⟩] 9))]})]) (cR [[],[3]]<|cX (qC (fun _ _ w hG=>sJ (gK (gT s.ts 0).ks 0) (ho.gK 0 0) w ((hG.fn.1.sub _ (xAE (show 0<s.ts.length from h0))).sub _ (nU (show 0<(gT s.ts 0).ks.length from (by rw [hkl];decide)))) hG.fn.2.1))<|cX (qW [1,2] (fun _ _ w hG hK=>iU (gK (gT s.ts 0).ks 0).tx (nb ρ3 5) (nb ρ4 0) ((gW (gT s.ts 0).kd)++([40]:List UInt8)) ([]:List UInt8) (by have q1:=bT (gT s.ts 0).kd;have q2:=hq _ (xAE h0) _ (nU (show 0<(gT s.ts 0).ks.length by rw [hkl];decide));simp only [List.length_append,List.length_cons,List.length_nil] at *;omega) (by decide) (by have q1:=bT (gT s.ts 0).kd;have q2:=hq _ (xAE h0) _ (nU (show 0<(gT s.ts 0).ks.length by rw [hkl];decide));simp only [List.length_append,List.length_cons,List.length_nil] at *;omega) w hK (hG.pK [1,2] (fun _ _=>trivial))))<|cN) (fun _=>?_)
 refine aJ (aA (jL Tryz.f25 2 [0,2,3,4,5,7,9,48,49,50,51,52,53,54,55,56,58] [] [vi 1,vi 1] [[],[]] (dV ?_)))
 refine dI ?_
 refine sS Tryz.f25 1 [0,2,3,4,5,7,9,48,49,50,51,52,53,54,55,56,58] [] (fun _=>[vF]) (fun _=>[]) (jQ (fun ρ=>(decide (1<(((gT s.ts 0).ks.length:Nat):Int)))) false (fun _=>(by rw [hkl];rfl))<|cN) (fun _=>?_)
 refine lK [(0,(.slice (jA s.ta s.tc 1 36) s.ts.tail.length (s.tc-1))),(2,(.string ⟨#[]⟩)),(3,vz),(4,(pt (nb ρ2 5))),(5,(pt (nb ρ3 5))),(7,(.func (.func 42) #[] #[pt (nb ρ3 5),pt (nb ρ4 0)])),(9,(pt (nb ρ13 2))),(48,(.slice (gT s.ts 0).ka (gT s.ts 0).ks.length (gT s.ts 0).kc)),(49,(vn (gT s.ts 0).ks.length)),(50,(vi 1)),(51,vF),(52,(.pointer (fK (gT s.ts 0).ka (0*45)))),(53,(.agg (dO.row (gK (gT s.ts 0).ks 0)))),(54,(.func (.func 42) #[] #[pt (nb ρ3 5),pt (nb ρ4 0)])),(55,(.agg (dO.row (gK (gT s.ts 0).ks 0)))),(56,(.string (gY (gK (gT s.ts 0).ks 0).tx))),(58,(vi 1))] [(nb ρ2 5,(cL (bW.row (gT s.ts 0)) 50)),(nb ρ3 5,(cL #[.string (gY (((gW (gT s.ts 0).kd)++([40]:List UInt8))++(([]:List UInt8)++(gK (gT s.ts 0).ks 0).tx)))] 9)),(nb ρ4 0,(cL #[.string ⟨#[44]⟩] 9)),(nb ρ13 2,(cL (dO.row (gK (gT s.ts 0).ks 0)) 59))] ?_
 refine aB ?_
 refine oN ?_
 refine bF (aN (aN (aT (aA (aB ?_)))))
 refine sS Tryz.f25 4 [0,2,3,5,7,61,62] [0,1,1,0] (fun _=>[pt (nb ρ2 5),vi (gT s.ts 0).kd,vi (nO (gT s.ts 0).kd),vi 0]) (fun _=>[]) (cR [[],[0]]<|cC (fun _ w=>jC (gT s.ts 0).kd w)<|jE [[]]) (fun _=>?_)
 refine aI ?_
 refine jY 1 ?_
 refine dI ?_
 refine sS Tryz.f25 1 [0,2,3,5,7,61,62,63] [] (fun _=>[vF]) (fun _=>[]) (jQ (fun ρ=>(decide (0<(nO (gT s.ts 0).kd)))) false (fun _=>(show (decide (0<(nO (gT s.ts 0).kd)))=false by rw [show nO (gT s.ts 0).kd=0 from by rw [show (gT s.ts 0).kd=1 from hk];rfl];rfl))<|cN) (fun _=>?_)
 refine aB ?_
 refine oN ?_
 refine bF (aN (aN (aT (aA ?_))))
 refine sS Tryz.f25 5 [2,3] [0,0] (fun _=>let qa:Value:=.slice (jA s.ta s.tc 1 36) s.ts.tail.length (s.tc-1);[.string (gY (((gW (gT s.ts 0).kd)++([40]:List UInt8))++(([]:List UInt8)++(gK (gT s.ts 0).ks 0).tx))),.string (gY ((((gW (gT s.ts 0).kd)++([40]:List UInt8))++(([]:List UInt8)++(gK (gT s.ts 0).ks 0).tx))++([41]:List UInt8))),qa,.string (gY ((((gW (gT s.ts 0).kd)++([40]:List UInt8))++(([]:List UInt8)++(gK (gT s.ts 0).ks 0).tx))++([41]:List UInt8))),qa]) (fun _=>[]) (cR [[0]]<|cB (a:=fun ρ=>(.string (gY (((gW (gT s.ts 0).kd)++([40]:List UInt8))++(([]:List UInt8)++(gK (gT s.ts 0).ks 0).tx))))) (b:=fun ρ=>(.string (gY ([41]:List UInt8)))) (v:=fun ρ=>(.string (gY ((((gW (gT s.ts 0).kd)++([40]:List UInt8))++(([]:List UInt8)++(gK (gT s.ts 0).ks 0).tx))++([41]:List UInt8))))) .add 9 (fun _ w=>bI (((gW (gT s.ts 0).kd)++([40]:List UInt8))++(([]:List UInt8)++(gK (gT s.ts 0).ks 0).tx)) ([41]:List UInt8) (by have q1:=bT (gT s.ts 0).kd;have q2:=hq _ (xAE h0) _ (nU (show 0<(gT s.ts 0).ks.length by rw [hkl];decide));simp only [List.length_append,List.length_cons,List.length_nil] at *;omega) w)<|jE [[],[],[]]) (fun _=>?_)
 refine aF ?_
 exact mR (v:=(.tuple #[.string (gY ((((gW (gT s.ts 0).kd)++([40]:List UInt8))++(([]:List UInt8)++(gK (gT s.ts 0).ks 0).tx))++([41]:List UInt8))),.slice (jA s.ta s.tc 1 36) s.ts.tail.length (s.tc-1)])) (fun _ hS=>⟨congrArg (fun z=>Ending.returned (.tuple #[.string (gY z),.slice s.go.ta s.go.ts.length s.go.tc])) (kb1 hk),hS.bel⟩)
theorem body2_any (s:Tq) (hk:(gT s.ts 0).kd=2) (h0:0<s.ts.length) (hfd:(gT s.ts 0).fd=true) (ho:mP s.ts) (hq:TxS s.ts) (w0:World) (hf0:bM w0 s.ta s.tc s.ts) (hf1:qI w0):Calls Tryz.prog 25 #[.slice s.ta s.ts.length s.tc] w0 (jR (.tuple #[.string (gY (eP (gT s.ts 0).m (gT s.ts 0).ks)),.slice s.go.ta s.go.ts.length s.go.tc]) w0):=by
 refine Calls.of_ok (n:=76) (F:=(fun w=>bM w s.ta s.tc s.ts∧qI w∧True)) Tryz.func25 rfl rfl rfl (by simp) (hf0.pers0.and (hf1.pers0.and cO)) ?_
 have hkl:1≤(gT s.ts 0).ks.length∧(gT s.ts 0).ks.length≤15∧1≤(gT s.ts 0).m∧(gT s.ts 0).m≤15:=(by have:=(xAT _ _ _ _ _).1 hfd;unfold o7 at this;omega)
 have hlen:s.ts.length≤1000000:=hf0.max
 refine jJ Tryz.f25 2 [0,2,3] [.string ⟨#[]⟩,vz] ?_
 refine sDf Tryz.f25 [0,1,3,0,8,0,39,127] 8 [0,2,3,4] [] (fun ρ=>let qa:Value:=.slice (jA s.ta s.tc 1 36) s.ts.tail.length (s.tc-1);let qb:Value:=.slice s.ta s.ts.length s.tc;[qb,.pointer (fK s.ta (0*36)),.agg (bW.row (gT s.ts 0)),qb,qa,pt (nb ρ 5),undef,qa]) (fun ρ=>[(5,(nw ρ 5 (cL (iC 0 0 0 0 vz) 50))),(6,(bD 40 (nb ρ 5) (cL (bW.row (gT s.ts 0)) 50)))]) (fun _=>[(4,fun w=>bM w (jA s.ta s.tc 1 36) (s.tc-1) s.ts.tail)]) (fun _=>(fun w=>bM w s.ta s.tc s.ts∧qI w∧bM w (jA s.ta s.tc 1 36) (s.tc-1) s.ts.tail∧True)) (fun _=>True) (fun _ _ hF hf=>⟨⟨hF.1,hF.2.1,hf 4,trivial⟩,trivial⟩) (cR [[]]<|cX (qF (fun _ _ _ hG=>bM.idx (k:=.i64) Tryz.underlying24 Tryz.sizeOf50 hG.fn.1 rfl (show 0=((0:Nat):Int) from rfl) (show 0<s.ts.length from h0)))<|cX (qF (fun _ _ _ hG=>bM.ldA (i:=0) Tryz.isAgg50 Tryz.sizeOf50 hG.fn.1 (show 0<s.ts.length from h0)))<|cR [[]]<|cX (jF (fun _=>Instr.sliceAt 24 (.slice s.ta s.ts.length s.tc) (some (vi 1)) none none) (fun _=>(.slice (jA s.ta s.tc 1 36) s.ts.tail.length (s.tc-1))) (fun _ _ _ hG=>fP (k:=1) Tryz.underlying24 Tryz.sizeOf50 rfl (jI (rfl)) h0 hG.fn.1.le (by rw [List.length_tail])) (fun _ _ w hG=>hG.facts0.mono (fun _ hF=>hF.1.tail h0)))<|jE [[],[40],[]]) (fun ρ2 _=>?_)
 refine sD Tryz.f25 [0,0,2,7,15,0,63] 7 [0,2,3,4,5] [] (fun ρ=>[.agg #[.string ⟨#[]⟩,.string ⟨#[107,101,121]⟩,.string ⟨#[109,117,108,116,105]⟩,.string ⟨#[97,102,116,101,114]⟩,.string ⟨#[111,108,100,101,114]⟩,.string ⟨#[104,97,115,104]⟩,.string ⟨#[101,105,116,104,101,114]⟩],pt (nb ρ2 5),vi (gT s.ts 0).kd,.string (gY (gW (gT s.ts 0).kd)),.string (gY ((gW (gT s.ts 0).kd)++([40]:List UInt8))),pt (nb ρ 5),undef]) (fun ρ=>[(5,(nw ρ 5 (cL #[.string ⟨#[]⟩] 9))),(6,(bD 41 (nb ρ 5) (cL #[.string (gY ((gW (gT s.ts 0).kd)++([40]:List UInt8)))] 9)))]) (cC (fun _ w=>nY w)<|cR [[],[0]]<|cX (jS (fun _=>Instr.index 78 (.agg #[.string ⟨#[]⟩,.string ⟨#[107,101,121]⟩,.string ⟨#[109,117,108,116,105]⟩,.string ⟨#[97,102,116,101,114]⟩,.string ⟨#[111,108,100,101,114]⟩,.string ⟨#[104,97,115,104]⟩,.string ⟨#[101,105,116,104,101,114]⟩]) (vi (gT s.ts 0).kd)) (fun _=>(.string (gY (gW (gT s.ts 0).kd)))) (fun _ w=>nm_at _ (by omega) w))<|cB (a:=fun ρ=>(.string (gY (gW (gT s.ts 0).kd)))) (b:=fun ρ=>(.string (gY ([40]:List UInt8)))) (v:=fun ρ=>(.string (gY ((gW (gT s.ts 0).kd)++([40]:List UInt8))))) .add 9 (fun _ w=>bI (gW (gT s.ts 0).kd) ([40]:List UInt8) (by have q1:=bT (gT s.ts 0).kd;have q2:=bQ (n:=(gT s.ts 0).m.toNat) (by omega);have q5:=hkl;simp only [List.length_cons,List.length_nil] at *;omega) w)<|jE [[],[41]]) (fun ρ3=>?_)
 refine sS Tryz.f25 2 [0,2,3,4,5,6] [] (fun ρ=>[pt (nb ρ 0),undef]) (fun ρ=>[(0,(nw ρ 0 (cL #[.string ⟨#[]⟩] 9))),(1,(bD 2 (nb ρ 0) (cL #[.string ⟨#[]⟩] 9)))]) (jE [[],[2]]) (fun ρ4=>?_)
 refine jJ Tryz.f25 2 [0,2,3,4,5,7] [.func (.func 42) #[] #[pt (nb ρ3 5),pt (nb ρ4 0)],.func (.func 42) #[] #[pt (nb ρ3 5),pt (nb ρ4 0)]] (aB (jM Tryz.f25 2 [0,2,3,4,5,7,23] [] [pt (nb ρ2 5),vi (gT s.ts 0).kd] [[],[0]] (aI ?_)))
 refine sS Tryz.f25 2 [0,2,3,4,5,7,23,24] [] (fun _=>[vT,vT]) (fun _=>[]) (jQ (fun ρ=>((gT s.ts 0).kd==2)) true (fun _=>(jK hk rfl))<|jE [[]]) (fun _=>?_)
 refine lK [(0,(.slice (jA s.ta s.tc 1 36) s.ts.tail.length (s.tc-1))),(2,(.string ⟨#[]⟩)),(3,vz),(4,(pt (nb ρ2 5))),(5,(pt (nb ρ3 5))),(7,(.func (.func 42) #[] #[pt (nb ρ3 5),pt (nb ρ4 0)])),(23,(vi (gT s.ts 0).kd)),(24,vT)] [(nb ρ2 5,(cL (bW.row (gT s.ts 0)) 50)),(nb ρ3 5,(cL #[.string (gY ((gW (gT s.ts 0).kd)++([40]:List UInt8)))] 9)),(nb ρ4 0,(cL #[.string ⟨#[]⟩] 9))] ?_
 refine oY ?_
 refine rS Tryz.f25 5 [0,2,3,4,5,7] [] (fun _=>[.func (.func 42) #[] #[pt (nb ρ3 5),pt (nb ρ4 0)],jp (nb ρ2 5) 1,vi (gT s.ts 0).m,.string (gY (dS (gT s.ts 0).m.toNat)),.tuple #[]]) (fun _=>[(4,{ puts:=[(1,nb ρ3 5,(cL #[.string (gY (((gW (gT s.ts 0).kd)++([40]:List UInt8))++(([]:List UInt8)++(dS (gT s.ts 0).m.toNat))))] 9)),(2,nb ρ4 0,(cL #[.string ⟨#[44]⟩] 9))]})]) (cR [[],[],[0]]<|cC (f:=43) (args:=fun ρ=> #[vi (gT s.ts 0).m]) (v:=fun ρ=>(.string (gY (dS (gT s.ts 0).m.toNat)))) (fun _ w=>(fun w=>itoa_any _ (by omega) w) w)<|cX (qW [1,2] (fun _ _ w hG hK=>iU (dS (gT s.ts 0).m.toNat) (nb ρ3 5) (nb ρ4 0) ((gW (gT s.ts 0).kd)++([40]:List UInt8)) ([]:List UInt8) (by have q1:=bT (gT s.ts 0).kd;have q2:=bQ (n:=(gT s.ts 0).m.toNat) (by omega);have q5:=hkl;simp only [List.length_append,List.length_cons,List.length_nil] at *;omega) (by decide) (by have q1:=bT (gT s.ts 0).kd;have q2:=bQ (n:=(gT s.ts 0).m.toNat) (by omega);have q5:=hkl;simp only [List.length_append,List.length_cons,List.length_nil] at *;omega) w hK (hG.pK [1,2] (fun _ _=>trivial))))<|cN) (fun _=>?_)
 refine aJ (aA (aB (jM Tryz.f25 4 [0,2,3,4,5,7,48,49,50] [] [jp (nb ρ2 5) 35,.slice (gT s.ts 0).ka (gT s.ts 0).ks.length (gT s.ts 0).kc,vn (gT s.ts 0).ks.length,vi 0] [[],[0],[],[]] (aI ?_))))
 refine oL (σ:=Nat × (List UInt8)) (fun ⟨i,_⟩=>[(0,(.slice (jA s.ta s.tc 1 36) s.ts.tail.length (s.tc-1))),(2,(.string ⟨#[]⟩)),(3,vz),(4,(pt (nb ρ2 5))),(5,(pt (nb ρ3 5))),(7,(.func (.func 42) #[] #[pt (nb ρ3 5),pt (nb ρ4 0)])),(48,(.slice (gT s.ts 0).ka (gT s.ts 0).ks.length (gT s.ts 0).kc)),(49,(vn (gT s.ts 0).ks.length)),(50,(vn i))]) (fun ⟨_,S⟩=>[(nb ρ2 5,(cL (bW.row (gT s.ts 0)) 50)),(nb ρ3 5,(cL #[.string (gY S)] 9)),(nb ρ4 0,(cL #[.string ⟨#[44]⟩] 9))]) (fun ⟨i,_⟩=>(gT s.ts 0).ks.length-i)
   (fun ⟨i,S⟩=>(i≤(gT s.ts 0).ks.length)∧(S=((gW (gT s.ts 0).kd++[40])++([]++dS (gT s.ts 0).m.toNat))++ksT ((gT s.ts 0).ks.take i))) (0,((gW (gT s.ts 0).kd++[40])++([]++dS (gT s.ts 0).m.toNat))) (⟨Nat.zero_le _,(List.append_nil _).symm⟩) [] ?_
 rintro ⟨i,S⟩ ⟨hi,hZ⟩
 change Ok Tryz.prog _ _ 76 [(0,(.slice (jA s.ta s.tc 1 36) s.ts.tail.length (s.tc-1))),(2,(.string ⟨#[]⟩)),(3,vz),(4,(pt (nb ρ2 5))),(5,(pt (nb ρ3 5))),(7,(.func (.func 42) #[] #[pt (nb ρ3 5),pt (nb ρ4 0)])),(48,(.slice (gT s.ts 0).ka (gT s.ts 0).ks.length (gT s.ts 0).kc)),(49,(vn (gT s.ts 0).ks.length)),(50,(vn i))] _ [(nb ρ2 5,(cL (bW.row (gT s.ts 0)) 50)),(nb ρ3 5,(cL #[.string (gY S)] 9)),(nb ρ4 0,(cL #[.string ⟨#[44]⟩] 9))] (fun w=>bM w s.ta s.tc s.ts∧qI w∧bM w (jA s.ta s.tc 1 36) (s.tc-1) s.ts.tail∧True)
 refine jJ Tryz.f25 1 [0,2,3,4,5,7,48,49,50,51] [.bool (decide (((i:Nat):Int)<(((gT s.ts 0).ks.length:Nat):Int)))] (aB ?_)
 refine oC (decide (((i:Nat):Int)<(((gT s.ts 0).ks.length:Nat):Int))) (fun hb1=>?_) (fun hb1=>?_)
 ·
  rw [hb1]
  have:=yT hb1
  refine aG (aA (aB (aI ?_)))
  refine sS Tryz.f25 4 [0,2,3,4,5,7,9,48,49,50] [] (fun ρ=>[.pointer (fK (gT s.ts 0).ka (i*45)),.agg (dO.row (gK (gT s.ts 0).ks i)),pt (nb ρ 2),undef]) (fun ρ=>[(2,(nw ρ 2 (cL (kM 0 0 0 0 0 0 vz vF) 59))),(3,(bD 19 (nb ρ 2) (cL (dO.row (gK (gT s.ts 0).ks i)) 59)))]) (cX (qF (fun _ _ _ hG=>oG.idx (k:=.i64) Tryz.underlying48 Tryz.sizeOf59 (hG.fn.1.sub _ (xAE (show 0<s.ts.length from h0))) rfl (show ((i:Nat):Int)=((i:Nat):Int) from rfl) (show i<(gT s.ts 0).ks.length from (by omega))))<|cX (qF (fun _ _ _ hG=>oG.ldA (i:=i) Tryz.isAgg59 Tryz.sizeOf59 (hG.fn.1.sub _ (xAE (show 0<s.ts.length from h0))) (show i<(gT s.ts 0).ks.length from (by omega))))<|jE [[],[19]]) (fun _=>?_)
  refine rS Tryz.f25 4 [0,2,3,4,5,7,48,49,50] [1,1,1,0] (fun _=>[.func (.func 42) #[] #[pt (nb ρ3 5),pt (nb ρ4 0)],.agg (dO.row (gK (gT s.ts 0).ks i)),.string (gY (gK (gT s.ts 0).ks i).tx),.tuple #[]]) (fun _=>[(3,{ puts:=[(1,nb ρ3 5,(cL #[.string (gY (S++(([44]:List UInt8)++(gK (gT s.ts 0).ks i).tx)))] 9)),(2,nb ρ4 0,(cL #[.string ⟨#[44]⟩] 9))]})]) (cR [[],[3]]<|cX (qC (fun _ _ w hG=>sJ (gK (gT s.ts 0).ks i) (ho.gK 0 i) w ((hG.fn.1.sub _ (xAE (show 0<s.ts.length from h0))).sub _ (nU (show i<(gT s.ts 0).ks.length from (by omega)))) hG.fn.2.1))<|cX (qW [1,2] (fun _ _ w hG hK=>iU (gK (gT s.ts 0).ks i).tx (nb ρ3 5) (nb ρ4 0) S ([44]:List UInt8) (by have q1:=bT (gT s.ts 0).kd;have q2:=bQ (n:=(gT s.ts 0).m.toNat) (by omega);have q5:=hkl;have q3:=kb_len hZ (hq _ (xAE h0));have q7:=kb_ge hZ;have q6:=hq _ (xAE h0) _ (nU (show i<(gT s.ts 0).ks.length from (by omega)));simp only [List.length_append,List.length_cons,List.length_nil] at *;omega) (by decide) (by have q1:=bT (gT s.ts 0).kd;have q2:=bQ (n:=(gT s.ts 0).m.toNat) (by omega);have q5:=hkl;have q3:=kb_len hZ (hq _ (xAE h0));have q7:=kb_ge hZ;have q6:=hq _ (xAE h0) _ (nU (show i<(gT s.ts 0).ks.length from (by omega)));simp only [List.length_append,List.length_cons,List.length_nil] at *;omega) w hK (hG.pK [1,2] (fun _ _=>trivial))))<|cN) (fun _=>?_)
  refine aJ (aA ?_)
  refine rS Tryz.f25 2 [0,2,3,4,5,7,48,49,50] [] (fun _=>[vn (i+1),vn (i+1)]) (fun _=>[]) (jW (fun ρ=>(((i:Nat):Int)+1)) (fun _=>(i+1)) (fun _=>(aW i 1 (by omega)))<|jE [[]]) (fun _=>?_)
  exact mN (i+1,S++(([44]:List UInt8)++(gK (gT s.ts 0).ks i).tx)) (by show (gT s.ts 0).ks.length-(i+1)<(gT s.ts 0).ks.length-i;omega) (⟨(by omega),kb_n (by omega) hZ⟩) []
 rw [hb1]
 refine bF (aN (aN (aT (aA (aB ?_)))))
 refine sS Tryz.f25 4 [0,2,3,5,7,61,62] [0,1,1] (fun _=>[pt (nb ρ2 5),vi (gT s.ts 0).kd,vi (nO (gT s.ts 0).kd),vi 0]) (fun _=>[]) (cR [[],[0]]<|cC (fun _ w=>jC (gT s.ts 0).kd w)<|jE [[]]) (fun _=>?_)
 refine aI ?_
 refine jY 1 ?_
 refine dI ?_
 refine sS Tryz.f25 1 [0,2,3,5,7,61,62,63] [] (fun _=>[vF]) (fun _=>[]) (jQ (fun ρ=>(decide (0<(nO (gT s.ts 0).kd)))) false (fun _=>(show (decide (0<(nO (gT s.ts 0).kd)))=false by rw [show nO (gT s.ts 0).kd=0 from by rw [show (gT s.ts 0).kd=2 from hk];rfl];rfl))<|cN) (fun _=>?_)
 refine aB ?_
 refine oN ?_
 refine bF (aN (aN (aT (aA ?_))))
 refine sS Tryz.f25 5 [2,3] [0,0] (fun _=>let qa:Value:=.slice (jA s.ta s.tc 1 36) s.ts.tail.length (s.tc-1);[.string (gY S),.string (gY (S++([41]:List UInt8))),qa,.string (gY (S++([41]:List UInt8))),qa]) (fun _=>[]) (cR [[0]]<|cB (a:=fun ρ=>(.string (gY S))) (b:=fun ρ=>(.string (gY ([41]:List UInt8)))) (v:=fun ρ=>(.string (gY (S++([41]:List UInt8))))) .add 9 (fun _ w=>bI S ([41]:List UInt8) (by have q1:=bT (gT s.ts 0).kd;have q2:=bQ (n:=(gT s.ts 0).m.toNat) (by omega);have q5:=hkl;have q3:=kb_len hZ (hq _ (xAE h0));have q7:=kb_ge hZ;simp only [List.length_append,List.length_cons,List.length_nil] at *;omega) w)<|jE [[],[],[]]) (fun _=>?_)
 refine aF ?_
 exact mR (v:=(.tuple #[.string (gY (S++([41]:List UInt8))),.slice (jA s.ta s.tc 1 36) s.ts.tail.length (s.tc-1)])) (fun _ hS=>⟨congrArg (fun z=>Ending.returned (.tuple #[.string (gY z),.slice s.go.ta s.go.ts.length s.go.tc])) (kb2 hk (by have:=yF hb1;omega) hZ),hS.bel⟩)
theorem body3_any (s:Tq) (x:List UInt8) (s1:Tq) (hk:(gT s.ts 0).kd=3∨(gT s.ts 0).kd=4∨(gT s.ts 0).kd=5) (h0:0<s.ts.length) (hfd:(gT s.ts 0).fd=true) (ho:mP s.ts) (_hq:TxS s.ts) (hx:x.length≤4000000) (ih:BdC s.go x s1) (w0:World) (hf0:bM w0 s.ta s.tc s.ts) (hf1:qI w0):Calls Tryz.prog 25 #[.slice s.ta s.ts.length s.tc] w0 (jR (.tuple #[.string (gY (slT (gT s.ts 0).kd (gT s.ts 0).nu (gT s.ts 0).h x)),.slice s1.ta s1.ts.length s1.tc]) w0):=by
 refine Calls.of_ok (n:=76) (F:=(fun w=>bM w s.ta s.tc s.ts∧qI w∧True)) Tryz.func25 rfl rfl rfl (by simp) (hf0.pers0.and (hf1.pers0.and cO)) ?_
 have hkl:(gT s.ts 0).ks.length=0:=(by have:=(xAT _ _ _ _ _).1 hfd;unfold o7 at this;omega)
 have hlen:s.ts.length≤1000000:=hf0.max
 refine jJ Tryz.f25 2 [0,2,3] [.string ⟨#[]⟩,vz] ?_
 refine sDf Tryz.f25 [0,1,3,0,8,0,39,127] 8 [0,2,3,4] [] (fun ρ=>let qa:Value:=.slice (jA s.ta s.tc 1 36) s.ts.tail.length (s.tc-1);let qb:Value:=.slice s.ta s.ts.length s.tc;[qb,.pointer (fK s.ta (0*36)),.agg (bW.row (gT s.ts 0)),qb,qa,pt (nb ρ 5),undef,qa]) (fun ρ=>[(5,(nw ρ 5 (cL (iC 0 0 0 0 vz) 50))),(6,(bD 40 (nb ρ 5) (cL (bW.row (gT s.ts 0)) 50)))]) (fun _=>[(4,fun w=>bM w (jA s.ta s.tc 1 36) (s.tc-1) s.ts.tail)]) (fun _=>(fun w=>bM w s.ta s.tc s.ts∧qI w∧bM w (jA s.ta s.tc 1 36) (s.tc-1) s.ts.tail∧True)) (fun _=>True) (fun _ _ hF hf=>⟨⟨hF.1,hF.2.1,hf 4,trivial⟩,trivial⟩) (cR [[]]<|cX (qF (fun _ _ _ hG=>bM.idx (k:=.i64) Tryz.underlying24 Tryz.sizeOf50 hG.fn.1 rfl (show 0=((0:Nat):Int) from rfl) (show 0<s.ts.length from h0)))<|cX (qF (fun _ _ _ hG=>bM.ldA (i:=0) Tryz.isAgg50 Tryz.sizeOf50 hG.fn.1 (show 0<s.ts.length from h0)))<|cR [[]]<|cX (jF (fun _=>Instr.sliceAt 24 (.slice s.ta s.ts.length s.tc) (some (vi 1)) none none) (fun _=>(.slice (jA s.ta s.tc 1 36) s.ts.tail.length (s.tc-1))) (fun _ _ _ hG=>fP (k:=1) Tryz.underlying24 Tryz.sizeOf50 rfl (jI (rfl)) h0 hG.fn.1.le (by rw [List.length_tail])) (fun _ _ w hG=>hG.facts0.mono (fun _ hF=>hF.1.tail h0)))<|jE [[],[40],[]]) (fun ρ2 _=>?_)
 refine sD Tryz.f25 [0,0,2,7,15,0,63] 7 [0,2,3,4,5] [] (fun ρ=>[.agg #[.string ⟨#[]⟩,.string ⟨#[107,101,121]⟩,.string ⟨#[109,117,108,116,105]⟩,.string ⟨#[97,102,116,101,114]⟩,.string ⟨#[111,108,100,101,114]⟩,.string ⟨#[104,97,115,104]⟩,.string ⟨#[101,105,116,104,101,114]⟩],pt (nb ρ2 5),vi (gT s.ts 0).kd,.string (gY (gW (gT s.ts 0).kd)),.string (gY ((gW (gT s.ts 0).kd)++([40]:List UInt8))),pt (nb ρ 5),undef]) (fun ρ=>[(5,(nw ρ 5 (cL #[.string ⟨#[]⟩] 9))),(6,(bD 41 (nb ρ 5) (cL #[.string (gY ((gW (gT s.ts 0).kd)++([40]:List UInt8)))] 9)))]) (cC (fun _ w=>nY w)<|cR [[],[0]]<|cX (jS (fun _=>Instr.index 78 (.agg #[.string ⟨#[]⟩,.string ⟨#[107,101,121]⟩,.string ⟨#[109,117,108,116,105]⟩,.string ⟨#[97,102,116,101,114]⟩,.string ⟨#[111,108,100,101,114]⟩,.string ⟨#[104,97,115,104]⟩,.string ⟨#[101,105,116,104,101,114]⟩]) (vi (gT s.ts 0).kd)) (fun _=>(.string (gY (gW (gT s.ts 0).kd)))) (fun _ w=>nm_at _ (by omega) w))<|cB (a:=fun ρ=>(.string (gY (gW (gT s.ts 0).kd)))) (b:=fun ρ=>(.string (gY ([40]:List UInt8)))) (v:=fun ρ=>(.string (gY ((gW (gT s.ts 0).kd)++([40]:List UInt8))))) .add 9 (fun _ w=>bI (gW (gT s.ts 0).kd) ([40]:List UInt8) (by have q1:=bT (gT s.ts 0).kd;have q2:=bQ (n:=(gT s.ts 0).nu) (by have:=(ho.gT 0).nu;omega);have q3:=hx;simp only [List.length_cons,List.length_nil] at *;omega) w)<|jE [[],[41]]) (fun ρ3=>?_)
 refine sS Tryz.f25 2 [0,2,3,4,5,6] [] (fun ρ=>[pt (nb ρ 0),undef]) (fun ρ=>[(0,(nw ρ 0 (cL #[.string ⟨#[]⟩] 9))),(1,(bD 2 (nb ρ 0) (cL #[.string ⟨#[]⟩] 9)))]) (jE [[],[2]]) (fun ρ4=>?_)
 refine jJ Tryz.f25 2 [0,2,3,4,5,7] [.func (.func 42) #[] #[pt (nb ρ3 5),pt (nb ρ4 0)],.func (.func 42) #[] #[pt (nb ρ3 5),pt (nb ρ4 0)]] (aB (jM Tryz.f25 2 [0,2,3,4,5,7,23] [] [pt (nb ρ2 5),vi (gT s.ts 0).kd] [[],[0]] (aI ?_)))
 refine sS Tryz.f25 2 [0,2,3,4,5,7,23,24] [] (fun _=>[vF,vF]) (fun _=>[]) (jQ (fun ρ=>((gT s.ts 0).kd==2)) false (fun _=>(beq_f (show (gT s.ts 0).kd≠2 by have e:(gT s.ts 0).kd=(gT s.ts 0).kd:=rfl;omega)))<|jE [[]]) (fun _=>?_)
 refine lK [(0,(.slice (jA s.ta s.tc 1 36) s.ts.tail.length (s.tc-1))),(2,(.string ⟨#[]⟩)),(3,vz),(4,(pt (nb ρ2 5))),(5,(pt (nb ρ3 5))),(7,(.func (.func 42) #[] #[pt (nb ρ3 5),pt (nb ρ4 0)])),(23,(vi (gT s.ts 0).kd)),(24,vF)] [(nb ρ2 5,(cL (bW.row (gT s.ts 0)) 50)),(nb ρ3 5,(cL #[.string (gY ((gW (gT s.ts 0).kd)++([40]:List UInt8)))] 9)),(nb ρ4 0,(cL #[.string ⟨#[]⟩] 9))] ?_
 refine oN ?_
 refine aB (jJ Tryz.f25 2 [0,2,3,4,5,7,23,31] (let qa:Value:=.bool ((gT s.ts 0).kd==3);[qa,qa]) ?_)
 refine oC ((gT s.ts 0).kd==3) (fun hb1=>?_) (fun hb1=>?_)
 ·
  rw [hb1]
  refine aG (aA ?_)
  refine oY ?_
  refine rS Tryz.f25 6 [0,2,3,4,5,7] [] (fun _=>[.func (.func 42) #[] #[pt (nb ρ3 5),pt (nb ρ4 0)],jp (nb ρ2 5) 2,vu ((gT s.ts 0).nu),vx ((gT s.ts 0).nu),.string (gY (dS (gT s.ts 0).nu)),.tuple #[]]) (fun _=>[(5,{ puts:=[(1,nb ρ3 5,(cL #[.string (gY (((gW (gT s.ts 0).kd)++([40]:List UInt8))++(([]:List UInt8)++(dS (gT s.ts 0).nu))))] 9)),(2,nb ρ4 0,(cL #[.string ⟨#[44]⟩] 9))]})]) (cR [[],[],[0]]<|cA (fun _=>(vx ((gT s.ts 0).nu))) (fun _=>congrArg (Value.int .u64) (txU (ho.gT 0).nu))<|cX (qC (fun _ _ w hG=>rU (gT s.ts 0).nu (by have:=(ho.gT 0).nu;omega) w hG.fn.2.1))<|cX (qW [1,2] (fun _ _ w hG hK=>iU (dS (gT s.ts 0).nu) (nb ρ3 5) (nb ρ4 0) ((gW (gT s.ts 0).kd)++([40]:List UInt8)) ([]:List UInt8) (by have q1:=bT (gT s.ts 0).kd;have q2:=bQ (n:=(gT s.ts 0).nu) (by have:=(ho.gT 0).nu;omega);have q3:=hx;simp only [List.length_append,List.length_cons,List.length_nil] at *;omega) (by decide) (by have q1:=bT (gT s.ts 0).kd;have q2:=bQ (n:=(gT s.ts 0).nu) (by have:=(ho.gT 0).nu;omega);have q3:=hx;simp only [List.length_append,List.length_cons,List.length_nil] at *;omega) w hK (hG.pK [1,2] (fun _ _=>trivial))))<|cN) (fun _=>?_)
  refine aJ (aA (aB (jM Tryz.f25 4 [0,2,3,4,5,7,48,49,50] [] [jp (nb ρ2 5) 35,.slice (gT s.ts 0).ka (gT s.ts 0).ks.length (gT s.ts 0).kc,vn (gT s.ts 0).ks.length,vi 0] [[],[0],[],[]] (aI ?_))))
  refine jY 1 ?_
  refine dI ?_
  refine sS Tryz.f25 1 [0,2,3,4,5,7,48,49,50,51] [] (fun _=>[vF]) (fun _=>[]) (jQ (fun ρ=>(decide (0<(((gT s.ts 0).ks.length:Nat):Int)))) false (fun _=>(by rw [hkl];rfl))<|cN) (fun _=>?_)
  refine aB ?_
  refine oN ?_
  refine bF (aN (aN (aT (aA (aB ?_)))))
  refine sS Tryz.f25 4 [0,2,3,5,7,61,62] [0,1,1] (fun _=>[pt (nb ρ2 5),vi (gT s.ts 0).kd,vi (nO (gT s.ts 0).kd),vi 0]) (fun _=>[]) (cR [[],[0]]<|cC (fun _ w=>jC (gT s.ts 0).kd w)<|jE [[]]) (fun _=>?_)
  refine aI ?_
  refine jY 2 ?_
  refine dI ?_
  refine sS Tryz.f25 1 [0,2,3,5,7,61,62,63] [] (fun _=>[vT]) (fun _=>[]) (jQ (fun ρ=>(decide (0<(nO (gT s.ts 0).kd)))) true (fun _=>(show (decide (0<(nO (gT s.ts 0).kd)))=true by rw [show nO (gT s.ts 0).kd=1 from (kd_3 hk).symm];rfl))<|cN) (fun _=>?_)
  refine aB ?_
  refine oY ?_
  refine aG (aA (aB (aI (jJ Tryz.f25 1 [0,2,3,5,7,10,61,62,63] [.string ⟨#[]⟩] ?_))))
  refine lK [(0,(.slice (jA s.ta s.tc 1 36) s.ts.tail.length (s.tc-1))),(2,(.string ⟨#[]⟩)),(3,vz),(5,(pt (nb ρ3 5))),(7,(.func (.func 42) #[] #[pt (nb ρ3 5),pt (nb ρ4 0)])),(10,(.string ⟨#[]⟩)),(61,(vi (nO (gT s.ts 0).kd))),(62,(vi 0)),(63,vT)] [(nb ρ3 5,(cL #[.string (gY (((gW (gT s.ts 0).kd)++([40]:List UInt8))++(([]:List UInt8)++(dS (gT s.ts 0).nu))))] 9)),(nb ρ4 0,(cL #[.string ⟨#[44]⟩] 9))] ?_
  refine sS Tryz.f25 7 [0,2,3,5,7,10,61,62,63,64,65,66,67,68] [] (fun _=>let qa:Value:=.slice s1.ta s1.ts.length s1.tc;[.slice (jA s.ta s.tc 1 36) s.ts.tail.length (s.tc-1),.tuple #[.string (gY x),qa],.tuple #[.string (gY x),qa],.string (gY x),qa,.string (gY x),qa]) (fun _=>[]) (cR [[]]<|cX (qC (fun _ _ w hG=>ih w hG.fn.2.2.1 hG.fn.2.1))<|jE [[],[],[],[],[]]) (fun _=>?_)
  refine rS Tryz.f25 3 [0,2,3,5,7,10,61,62,63,64,65,66,67,68,69,70] [] (fun _=>[.func (.func 42) #[] #[pt (nb ρ3 5),pt (nb ρ4 0)],.string (gY x),.tuple #[]]) (fun _=>[(2,{ puts:=[(0,nb ρ3 5,(cL #[.string (gY ((((gW (gT s.ts 0).kd)++([40]:List UInt8))++(([]:List UInt8)++(dS (gT s.ts 0).nu)))++(([44]:List UInt8)++x)))] 9)),(1,nb ρ4 0,(cL #[.string ⟨#[44]⟩] 9))]})]) (cR [[],[]]<|cX (qW [0,1] (fun _ _ w hG hK=>iU x (nb ρ3 5) (nb ρ4 0) (((gW (gT s.ts 0).kd)++([40]:List UInt8))++(([]:List UInt8)++(dS (gT s.ts 0).nu))) ([44]:List UInt8) (by have q1:=bT (gT s.ts 0).kd;have q2:=bQ (n:=(gT s.ts 0).nu) (by have:=(ho.gT 0).nu;omega);have q3:=hx;simp only [List.length_append,List.length_cons,List.length_nil] at *;omega) (by decide) (by have q1:=bT (gT s.ts 0).kd;have q2:=bQ (n:=(gT s.ts 0).nu) (by have:=(ho.gT 0).nu;omega);have q3:=hx;simp only [List.length_append,List.length_cons,List.length_nil] at *;omega) w hK (hG.pK [0,1] (fun _ _=>trivial))))<|cN) (fun _=>?_)
  refine aJ (aA (jL Tryz.f25 2 [0,2,3,5,7,10,61,62,63,64,65,66,67,68,69,70,72] [] [vi 1,vi 1] [[],[]] (dV ?_)))
  refine dI ?_
  refine sS Tryz.f25 1 [0,2,3,5,7,10,61,62,63,64,65,66,67,68,69,70,72] [] (fun _=>[vF]) (fun _=>[]) (jQ (fun ρ=>(decide (1<(nO (gT s.ts 0).kd)))) false (fun _=>(show (decide (1<(nO (gT s.ts 0).kd)))=false by rw [show nO (gT s.ts 0).kd=1 from (kd_3 hk).symm];rfl))<|cN) (fun _=>?_)
  refine aB ?_
  refine oN ?_
  refine bF (aN (aN (aT (aA ?_))))
  refine sS Tryz.f25 5 [2,3] [0,0] (fun _=>let qa:Value:=.slice s1.ta s1.ts.length s1.tc;[.string (gY ((((gW (gT s.ts 0).kd)++([40]:List UInt8))++(([]:List UInt8)++(dS (gT s.ts 0).nu)))++(([44]:List UInt8)++x))),.string (gY (((((gW (gT s.ts 0).kd)++([40]:List UInt8))++(([]:List UInt8)++(dS (gT s.ts 0).nu)))++(([44]:List UInt8)++x))++([41]:List UInt8))),qa,.string (gY (((((gW (gT s.ts 0).kd)++([40]:List UInt8))++(([]:List UInt8)++(dS (gT s.ts 0).nu)))++(([44]:List UInt8)++x))++([41]:List UInt8))),qa]) (fun _=>[]) (cR [[0]]<|cB (a:=fun ρ=>(.string (gY ((((gW (gT s.ts 0).kd)++([40]:List UInt8))++(([]:List UInt8)++(dS (gT s.ts 0).nu)))++(([44]:List UInt8)++x))))) (b:=fun ρ=>(.string (gY ([41]:List UInt8)))) (v:=fun ρ=>(.string (gY (((((gW (gT s.ts 0).kd)++([40]:List UInt8))++(([]:List UInt8)++(dS (gT s.ts 0).nu)))++(([44]:List UInt8)++x))++([41]:List UInt8))))) .add 9 (fun _ w=>bI ((((gW (gT s.ts 0).kd)++([40]:List UInt8))++(([]:List UInt8)++(dS (gT s.ts 0).nu)))++(([44]:List UInt8)++x)) ([41]:List UInt8) (by have q1:=bT (gT s.ts 0).kd;have q2:=bQ (n:=(gT s.ts 0).nu) (by have:=(ho.gT 0).nu;omega);have q3:=hx;simp only [List.length_append,List.length_cons,List.length_nil] at *;omega) w)<|jE [[],[],[]]) (fun _=>?_)
  refine aF ?_
  exact mR (v:=(.tuple #[.string (gY (((((gW (gT s.ts 0).kd)++([40]:List UInt8))++(([]:List UInt8)++(dS (gT s.ts 0).nu)))++(([44]:List UInt8)++x))++([41]:List UInt8))),.slice s1.ta s1.ts.length s1.tc])) (fun _ hS=>⟨congrArg (fun z=>Ending.returned (.tuple #[.string (gY z),.slice s1.ta s1.ts.length s1.tc])) (sl3 (by have:=xQ hb1;omega)),hS.bel⟩)
 rw [hb1]
 refine jL Tryz.f25 2 [0,2,3,4,5,7,23,31] [] (let qa:Value:=.bool ((gT s.ts 0).kd==4);[qa,qa]) [[],[]] (aA ?_)
 refine oC ((gT s.ts 0).kd==4) (fun hb2=>?_) (fun hb2=>?_)
 ·
  rw [hb2]
  refine rS Tryz.f25 6 [0,2,3,4,5,7] [] (fun _=>[.func (.func 42) #[] #[pt (nb ρ3 5),pt (nb ρ4 0)],jp (nb ρ2 5) 2,vu ((gT s.ts 0).nu),vx ((gT s.ts 0).nu),.string (gY (dS (gT s.ts 0).nu)),.tuple #[]]) (fun _=>[(5,{ puts:=[(1,nb ρ3 5,(cL #[.string (gY (((gW (gT s.ts 0).kd)++([40]:List UInt8))++(([]:List UInt8)++(dS (gT s.ts 0).nu))))] 9)),(2,nb ρ4 0,(cL #[.string ⟨#[44]⟩] 9))]})]) (cR [[],[],[0]]<|cA (fun _=>(vx ((gT s.ts 0).nu))) (fun _=>congrArg (Value.int .u64) (txU (ho.gT 0).nu))<|cX (qC (fun _ _ w hG=>rU (gT s.ts 0).nu (by have:=(ho.gT 0).nu;omega) w hG.fn.2.1))<|cX (qW [1,2] (fun _ _ w hG hK=>iU (dS (gT s.ts 0).nu) (nb ρ3 5) (nb ρ4 0) ((gW (gT s.ts 0).kd)++([40]:List UInt8)) ([]:List UInt8) (by have q1:=bT (gT s.ts 0).kd;have q2:=bQ (n:=(gT s.ts 0).nu) (by have:=(ho.gT 0).nu;omega);have q3:=hx;simp only [List.length_append,List.length_cons,List.length_nil] at *;omega) (by decide) (by have q1:=bT (gT s.ts 0).kd;have q2:=bQ (n:=(gT s.ts 0).nu) (by have:=(ho.gT 0).nu;omega);have q3:=hx;simp only [List.length_append,List.length_cons,List.length_nil] at *;omega) w hK (hG.pK [1,2] (fun _ _=>trivial))))<|cN) (fun _=>?_)
  refine aJ (aA (aB (jM Tryz.f25 4 [0,2,3,4,5,7,48,49,50] [] [jp (nb ρ2 5) 35,.slice (gT s.ts 0).ka (gT s.ts 0).ks.length (gT s.ts 0).kc,vn (gT s.ts 0).ks.length,vi 0] [[],[0],[],[]] (aI ?_))))
  refine jY 1 ?_
  refine dI ?_
  refine sS Tryz.f25 1 [0,2,3,4,5,7,48,49,50,51] [] (fun _=>[vF]) (fun _=>[]) (jQ (fun ρ=>(decide (0<(((gT s.ts 0).ks.length:Nat):Int)))) false (fun _=>(by rw [hkl];rfl))<|cN) (fun _=>?_)
  refine aB ?_
  refine oN ?_
  refine bF (aN (aN (aT (aA (aB ?_)))))
  refine sS Tryz.f25 4 [0,2,3,5,7,61,62] [0,1,1] (fun _=>[pt (nb ρ2 5),vi (gT s.ts 0).kd,vi (nO (gT s.ts 0).kd),vi 0]) (fun _=>[]) (cR [[],[0]]<|cC (fun _ w=>jC (gT s.ts 0).kd w)<|jE [[]]) (fun _=>?_)
  refine aI ?_
  refine jY 2 ?_
  refine dI ?_
  refine sS Tryz.f25 1 [0,2,3,5,7,61,62,63] [] (fun _=>[vT]) (fun _=>[]) (jQ (fun ρ=>(decide (0<(nO (gT s.ts 0).kd)))) true (fun _=>(show (decide (0<(nO (gT s.ts 0).kd)))=true by rw [show nO (gT s.ts 0).kd=1 from (kd_3 hk).symm];rfl))<|cN) (fun _=>?_)
  refine lK [(0,(.slice (jA s.ta s.tc 1 36) s.ts.tail.length (s.tc-1))),(2,(.string ⟨#[]⟩)),(3,vz),(5,(pt (nb ρ3 5))),(7,(.func (.func 42) #[] #[pt (nb ρ3 5),pt (nb ρ4 0)])),(61,(vi (nO (gT s.ts 0).kd))),(62,(vi 0)),(63,vT)] [(nb ρ3 5,(cL #[.string (gY (((gW (gT s.ts 0).kd)++([40]:List UInt8))++(([]:List UInt8)++(dS (gT s.ts 0).nu))))] 9)),(nb ρ4 0,(cL #[.string ⟨#[44]⟩] 9))] ?_
  refine aB ?_
  refine oY ?_
  refine aG (aA (aB (aI (jJ Tryz.f25 1 [0,2,3,5,7,10,61,62,63] [.string ⟨#[]⟩] ?_))))
  refine sS Tryz.f25 7 [0,2,3,5,7,10,61,62,63,64,65,66,67,68] [] (fun _=>let qa:Value:=.slice s1.ta s1.ts.length s1.tc;[.slice (jA s.ta s.tc 1 36) s.ts.tail.length (s.tc-1),.tuple #[.string (gY x),qa],.tuple #[.string (gY x),qa],.string (gY x),qa,.string (gY x),qa]) (fun _=>[]) (cR [[]]<|cX (qC (fun _ _ w hG=>ih w hG.fn.2.2.1 hG.fn.2.1))<|jE [[],[],[],[],[]]) (fun _=>?_)
  refine rS Tryz.f25 3 [0,2,3,5,7,10,61,62,63,64,65,66,67,68,69,70] [] (fun _=>[.func (.func 42) #[] #[pt (nb ρ3 5),pt (nb ρ4 0)],.string (gY x),.tuple #[]]) (fun _=>[(2,{ puts:=[(0,nb ρ3 5,(cL #[.string (gY ((((gW (gT s.ts 0).kd)++([40]:List UInt8))++(([]:List UInt8)++(dS (gT s.ts 0).nu)))++(([44]:List UInt8)++x)))] 9)),(1,nb ρ4 0,(cL #[.string ⟨#[44]⟩] 9))]})]) (cR [[],[]]<|cX (qW [0,1] (fun _ _ w hG hK=>iU x (nb ρ3 5) (nb ρ4 0) (((gW (gT s.ts 0).kd)++([40]:List UInt8))++(([]:List UInt8)++(dS (gT s.ts 0).nu))) ([44]:List UInt8) (by have q1:=bT (gT s.ts 0).kd;have q2:=bQ (n:=(gT s.ts 0).nu) (by have:=(ho.gT 0).nu;omega);have q3:=hx;simp only [List.length_append,List.length_cons,List.length_nil] at *;omega) (by decide) (by have q1:=bT (gT s.ts 0).kd;have q2:=bQ (n:=(gT s.ts 0).nu) (by have:=(ho.gT 0).nu;omega);have q3:=hx;simp only [List.length_append,List.length_cons,List.length_nil] at *;omega) w hK (hG.pK [0,1] (fun _ _=>trivial))))<|cN) (fun _=>?_)
  refine aJ (aA (jL Tryz.f25 2 [0,2,3,5,7,10,61,62,63,64,65,66,67,68,69,70,72] [] [vi 1,vi 1] [[],[]] (dV ?_)))
  refine dI ?_
  refine sS Tryz.f25 1 [0,2,3,5,7,10,61,62,63,64,65,66,67,68,69,70,72] [] (fun _=>[vF]) (fun _=>[]) (jQ (fun ρ=>(decide (1<(nO (gT s.ts 0).kd)))) false (fun _=>(show (decide (1<(nO (gT s.ts 0).kd)))=false by rw [show nO (gT s.ts 0).kd=1 from (kd_3 hk).symm];rfl))<|cN) (fun _=>?_)
  refine aB ?_
  refine oN ?_
  refine bF (aN (aN (aT (aA ?_))))
  refine sS Tryz.f25 5 [2,3] [0,0] (fun _=>let qa:Value:=.slice s1.ta s1.ts.length s1.tc;[.string (gY ((((gW (gT s.ts 0).kd)++([40]:List UInt8))++(([]:List UInt8)++(dS (gT s.ts 0).nu)))++(([44]:List UInt8)++x))),.string (gY (((((gW (gT s.ts 0).kd)++([40]:List UInt8))++(([]:List UInt8)++(dS (gT s.ts 0).nu)))++(([44]:List UInt8)++x))++([41]:List UInt8))),qa,.string (gY (((((gW (gT s.ts 0).kd)++([40]:List UInt8))++(([]:List UInt8)++(dS (gT s.ts 0).nu)))++(([44]:List UInt8)++x))++([41]:List UInt8))),qa]) (fun _=>[]) (cR [[0]]<|cB (a:=fun ρ=>(.string (gY ((((gW (gT s.ts 0).kd)++([40]:List UInt8))++(([]:List UInt8)++(dS (gT s.ts 0).nu)))++(([44]:List UInt8)++x))))) (b:=fun ρ=>(.string (gY ([41]:List UInt8)))) (v:=fun ρ=>(.string (gY (((((gW (gT s.ts 0).kd)++([40]:List UInt8))++(([]:List UInt8)++(dS (gT s.ts 0).nu)))++(([44]:List UInt8)++x))++([41]:List UInt8))))) .add 9 (fun _ w=>bI ((((gW (gT s.ts 0).kd)++([40]:List UInt8))++(([]:List UInt8)++(dS (gT s.ts 0).nu)))++(([44]:List UInt8)++x)) ([41]:List UInt8) (by have q1:=bT (gT s.ts 0).kd;have q2:=bQ (n:=(gT s.ts 0).nu) (by have:=(ho.gT 0).nu;omega);have q3:=hx;simp only [List.length_append,List.length_cons,List.length_nil] at *;omega) w)<|jE [[],[],[]]) (fun _=>?_)
  refine aF ?_
  exact mR (v:=(.tuple #[.string (gY (((((gW (gT s.ts 0).kd)++([40]:List UInt8))++(([]:List UInt8)++(dS (gT s.ts 0).nu)))++(([44]:List UInt8)++x))++([41]:List UInt8))),.slice s1.ta s1.ts.length s1.tc])) (fun _ hS=>⟨congrArg (fun z=>Ending.returned (.tuple #[.string (gY z),.slice s1.ta s1.ts.length s1.tc])) (sl4 (by have:=jP hb1;have:=xQ hb2;omega)),hS.bel⟩)
 rw [hb2]
 refine sS Tryz.f25 2 [0,2,3,4,5,7,40] [] (fun _=>[vT,vT]) (fun _=>[]) (jQ (fun ρ=>((gT s.ts 0).kd==5)) true (fun _=>(slT_q (show (gT s.ts 0).kd=5 by have e:(gT s.ts 0).kd=(gT s.ts 0).kd:=rfl;have:=jP hb1;have:=jP hb2;omega)))<|jE [[]]) (fun _=>?_)
 refine oY ?_
 refine rS Tryz.f25 5 [0,2,3,4,5,7] [] (fun _=>[.func (.func 42) #[] #[pt (nb ρ3 5),pt (nb ρ4 0)],jp (nb ρ2 5) 3,.slice (some ⟨nb ρ2 5,3,none⟩) (hL (gT s.ts 0).h).length 32,.string (gY (gX (hL (gT s.ts 0).h))),.tuple #[]]) (fun _=>[(4,{ puts:=[(1,nb ρ3 5,(cL #[.string (gY (((gW (gT s.ts 0).kd)++([40]:List UInt8))++(([]:List UInt8)++(gX (hL (gT s.ts 0).h)))))] 9)),(2,nb ρ4 0,(cL #[.string ⟨#[44]⟩] 9))]})]) (cR [[],[],[]]<|cX (qC (fun _ _ w hG=>hex_any (some ⟨nb ρ2 5,3,none⟩) 32 (hL (gT s.ts 0).h) (by rw [aO];decide) w (Bs.of_term (hG.kn (g:=nb ρ2 5) (o:=(cL (bW.row (gT s.ts 0)) 50)) 0))))<|cX (qW [1,2] (fun _ _ w hG hK=>iU (gX (hL (gT s.ts 0).h)) (nb ρ3 5) (nb ρ4 0) ((gW (gT s.ts 0).kd)++([40]:List UInt8)) ([]:List UInt8) (by have q1:=bT (gT s.ts 0).kd;have q2:=bQ (n:=(gT s.ts 0).nu) (by have:=(ho.gT 0).nu;omega);have q3:=hx;simp only [List.length_append,List.length_cons,List.length_nil] at *;omega) (by decide) (by have q1:=bT (gT s.ts 0).kd;have q2:=bQ (n:=(gT s.ts 0).nu) (by have:=(ho.gT 0).nu;omega);have q3:=hx;simp only [List.length_append,List.length_cons,List.length_nil,aK,aO] at *;omega) w hK (hG.pK [1,2] (fun _ _=>trivial))))<|cN) (fun _=>?_)
 refine aJ (aA (aB (jM Tryz.f25 4 [0,2,3,4,5,7,48,49,50] [] [jp (nb ρ2 5) 35,.slice (gT s.ts 0).ka (gT s.ts 0).ks.length (gT s.ts 0).kc,vn (gT s.ts 0).ks.length,vi 0] [[],[0],[],[]] (aI ?_))))
 refine jY 1 ?_
 refine dI ?_
 refine sS Tryz.f25 1 [0,2,3,4,5,7,48,49,50,51] [] (fun _=>[vF]) (fun _=>[]) (jQ (fun ρ=>(decide (0<(((gT s.ts 0).ks.length:Nat):Int)))) false (fun _=>(by rw [hkl];rfl))<|cN) (fun _=>?_)
 refine aB ?_
 refine oN ?_
 refine bF (aN (aN (aT (aA (aB ?_)))))
 refine sS Tryz.f25 4 [0,2,3,5,7,61,62] [0,1,1] (fun _=>[pt (nb ρ2 5),vi (gT s.ts 0).kd,vi (nO (gT s.ts 0).kd),vi 0]) (fun _=>[]) (cR [[],[0]]<|cC (fun _ w=>jC (gT s.ts 0).kd w)<|jE [[]]) (fun _=>?_)
 refine lK [(0,(.slice (jA s.ta s.tc 1 36) s.ts.tail.length (s.tc-1))),(2,(.string ⟨#[]⟩)),(3,vz),(5,(pt (nb ρ3 5))),(7,(.func (.func 42) #[] #[pt (nb ρ3 5),pt (nb ρ4 0)])),(61,(vi (nO (gT s.ts 0).kd))),(62,(vi 0))] [(nb ρ3 5,(cL #[.string (gY (((gW (gT s.ts 0).kd)++([40]:List UInt8))++(([]:List UInt8)++(gX (hL (gT s.ts 0).h)))))] 9)),(nb ρ4 0,(cL #[.string ⟨#[44]⟩] 9))] ?_
 refine aI ?_
 refine jY 2 ?_
 refine dI ?_
 refine sS Tryz.f25 1 [0,2,3,5,7,61,62,63] [] (fun _=>[vT]) (fun _=>[]) (jQ (fun ρ=>(decide (0<(nO (gT s.ts 0).kd)))) true (fun _=>(show (decide (0<(nO (gT s.ts 0).kd)))=true by rw [show nO (gT s.ts 0).kd=1 from (kd_3 hk).symm];rfl))<|cN) (fun _=>?_)
 refine aB ?_
 refine oY ?_
 refine aG (aA (aB (aI (jJ Tryz.f25 1 [0,2,3,5,7,10,61,62,63] [.string ⟨#[]⟩] ?_))))
 refine sS Tryz.f25 7 [0,2,3,5,7,10,61,62,63,64,65,66,67,68] [] (fun _=>let qa:Value:=.slice s1.ta s1.ts.length s1.tc;[.slice (jA s.ta s.tc 1 36) s.ts.tail.length (s.tc-1),.tuple #[.string (gY x),qa],.tuple #[.string (gY x),qa],.string (gY x),qa,.string (gY x),qa]) (fun _=>[]) (cR [[]]<|cX (qC (fun _ _ w hG=>ih w hG.fn.2.2.1 hG.fn.2.1))<|jE [[],[],[],[],[]]) (fun _=>?_)
 refine rS Tryz.f25 3 [0,2,3,5,7,10,61,62,63,64,65,66,67,68,69,70] [] (fun _=>[.func (.func 42) #[] #[pt (nb ρ3 5),pt (nb ρ4 0)],.string (gY x),.tuple #[]]) (fun _=>[(2,{ puts:=[(0,nb ρ3 5,(cL #[.string (gY ((((gW (gT s.ts 0).kd)++([40]:List UInt8))++(([]:List UInt8)++(gX (hL (gT s.ts 0).h))))++(([44]:List UInt8)++x)))] 9)),(1,nb ρ4 0,(cL #[.string ⟨#[44]⟩] 9))]})]) (cR [[],[]]<|cX (qW [0,1] (fun _ _ w hG hK=>iU x (nb ρ3 5) (nb ρ4 0) (((gW (gT s.ts 0).kd)++([40]:List UInt8))++(([]:List UInt8)++(gX (hL (gT s.ts 0).h)))) ([44]:List UInt8) (by have q1:=bT (gT s.ts 0).kd;have q2:=bQ (n:=(gT s.ts 0).nu) (by have:=(ho.gT 0).nu;omega);have q3:=hx;simp only [List.length_append,List.length_cons,List.length_nil,aK,aO] at *;omega) (by decide) (by have q1:=bT (gT s.ts 0).kd;have q2:=bQ (n:=(gT s.ts 0).nu) (by have:=(ho.gT 0).nu;omega);have q3:=hx;simp only [List.length_append,List.length_cons,List.length_nil,aK,aO] at *;omega) w hK (hG.pK [0,1] (fun _ _=>trivial))))<|cN) (fun _=>?_)
 refine aJ (aA (jL Tryz.f25 2 [0,2,3,5,7,10,61,62,63,64,65,66,67,68,69,70,72] [] [vi 1,vi 1] [[],[]] (dV ?_)))
 refine dI ?_
 refine sS Tryz.f25 1 [0,2,3,5,7,10,61,62,63,64,65,66,67,68,69,70,72] [] (fun _=>[vF]) (fun _=>[]) (jQ (fun ρ=>(decide (1<(nO (gT s.ts 0).kd)))) false (fun _=>(show (decide (1<(nO (gT s.ts 0).kd)))=false by rw [show nO (gT s.ts 0).kd=1 from (kd_3 hk).symm];rfl))<|cN) (fun _=>?_)
 refine aB ?_
 refine oN ?_
 refine bF (aN (aN (aT (aA ?_))))
 refine sS Tryz.f25 5 [2,3] [0,0] (fun _=>let qa:Value:=.slice s1.ta s1.ts.length s1.tc;[.string (gY ((((gW (gT s.ts 0).kd)++([40]:List UInt8))++(([]:List UInt8)++(gX (hL (gT s.ts 0).h))))++(([44]:List UInt8)++x))),.string (gY (((((gW (gT s.ts 0).kd)++([40]:List UInt8))++(([]:List UInt8)++(gX (hL (gT s.ts 0).h))))++(([44]:List UInt8)++x))++([41]:List UInt8))),qa,.string (gY (((((gW (gT s.ts 0).kd)++([40]:List UInt8))++(([]:List UInt8)++(gX (hL (gT s.ts 0).h))))++(([44]:List UInt8)++x))++([41]:List UInt8))),qa]) (fun _=>[]) (cR [[0]]<|cB (a:=fun ρ=>(.string (gY ((((gW (gT s.ts 0).kd)++([40]:List UInt8))++(([]:List UInt8)++(gX (hL (gT s.ts 0).h))))++(([44]:List UInt8)++x))))) (b:=fun ρ=>(.string (gY ([41]:List UInt8)))) (v:=fun ρ=>(.string (gY (((((gW (gT s.ts 0).kd)++([40]:List UInt8))++(([]:List UInt8)++(gX (hL (gT s.ts 0).h))))++(([44]:List UInt8)++x))++([41]:List UInt8))))) .add 9 (fun _ w=>bI ((((gW (gT s.ts 0).kd)++([40]:List UInt8))++(([]:List UInt8)++(gX (hL (gT s.ts 0).h))))++(([44]:List UInt8)++x)) ([41]:List UInt8) (by have q1:=bT (gT s.ts 0).kd;have q2:=bQ (n:=(gT s.ts 0).nu) (by have:=(ho.gT 0).nu;omega);have q3:=hx;simp only [List.length_append,List.length_cons,List.length_nil,aK,aO] at *;omega) w)<|jE [[],[],[]]) (fun _=>?_)
 refine aF ?_
 exact mR (v:=(.tuple #[.string (gY (((((gW (gT s.ts 0).kd)++([40]:List UInt8))++(([]:List UInt8)++(gX (hL (gT s.ts 0).h))))++(([44]:List UInt8)++x))++([41]:List UInt8))),.slice s1.ta s1.ts.length s1.tc])) (fun _ hS=>⟨congrArg (fun z=>Ending.returned (.tuple #[.string (gY z),.slice s1.ta s1.ts.length s1.tc])) (sl5 (by have:=jP hb1;have:=jP hb2;omega)),hS.bel⟩)
theorem body6_any (s:Tq) (x:List UInt8) (s1:Tq) (y:List UInt8) (s2:Tq) (hk:(gT s.ts 0).kd=6) (h0:0<s.ts.length) (hfd:(gT s.ts 0).fd=true) (_ho:mP s.ts) (_hq:TxS s.ts) (hx:x.length≤4000000) (ih:BdC s.go x s1) (hy:y.length≤4000000) (ih2:BdC s1 y s2) (w0:World) (hf0:bM w0 s.ta s.tc s.ts) (hf1:qI w0) (hf2:bM w0 s1.ta s1.tc s1.ts):Calls Tryz.prog 25 #[.slice s.ta s.ts.length s.tc] w0 (jR (.tuple #[.string (gY (eiT x y)),.slice s2.ta s2.ts.length s2.tc]) w0):=by
 refine Calls.of_ok (n:=76) (F:=(fun w=>bM w s.ta s.tc s.ts∧qI w∧bM w s1.ta s1.tc s1.ts∧True)) Tryz.func25 rfl rfl rfl (by simp) (hf0.pers0.and (hf1.pers0.and (hf2.pers0.and cO))) ?_
 have hkl:(gT s.ts 0).ks.length=0:=(by have:=(xAT _ _ _ _ _).1 hfd;unfold o7 at this;omega)
 have hlen:s.ts.length≤1000000:=hf0.max
 refine jJ Tryz.f25 2 [0,2,3] [.string ⟨#[]⟩,vz] ?_
 refine sDf Tryz.f25 [0,1,3,0,8,0,39,127] 8 [0,2,3,4] [] (fun ρ=>let qa:Value:=.slice (jA s.ta s.tc 1 36) s.ts.tail.length (s.tc-1);let qb:Value:=.slice s.ta s.ts.length s.tc;[qb,.pointer (fK s.ta (0*36)),.agg (bW.row (gT s.ts 0)),qb,qa,pt (nb ρ 5),undef,qa]) (fun ρ=>[(5,(nw ρ 5 (cL (iC 0 0 0 0 vz) 50))),(6,(bD 40 (nb ρ 5) (cL (bW.row (gT s.ts 0)) 50)))]) (fun _=>[(4,fun w=>bM w (jA s.ta s.tc 1 36) (s.tc-1) s.ts.tail)]) (fun _=>(fun w=>bM w s.ta s.tc s.ts∧qI w∧bM w s1.ta s1.tc s1.ts∧bM w (jA s.ta s.tc 1 36) (s.tc-1) s.ts.tail∧True)) (fun _=>True) (fun _ _ hF hf=>⟨⟨hF.1,hF.2.1,hF.2.2.1,hf 4,trivial⟩,trivial⟩) (cR [[]]<|cX (qF (fun _ _ _ hG=>bM.idx (k:=.i64) Tryz.underlying24 Tryz.sizeOf50 hG.fn.1 rfl (show 0=((0:Nat):Int) from rfl) (show 0<s.ts.length from h0)))<|cX (qF (fun _ _ _ hG=>bM.ldA (i:=0) Tryz.isAgg50 Tryz.sizeOf50 hG.fn.1 (show 0<s.ts.length from h0)))<|cR [[]]<|cX (jF (fun _=>Instr.sliceAt 24 (.slice s.ta s.ts.length s.tc) (some (vi 1)) none none) (fun _=>(.slice (jA s.ta s.tc 1 36) s.ts.tail.length (s.tc-1))) (fun _ _ _ hG=>fP (k:=1) Tryz.underlying24 Tryz.sizeOf50 rfl (jI (rfl)) h0 hG.fn.1.le (by rw [List.length_tail])) (fun _ _ w hG=>hG.facts0.mono (fun _ hF=>hF.1.tail h0)))<|jE [[],[40],[]]) (fun ρ2 _=>?_)
 refine sD Tryz.f25 [0,0,2,7,15,0,63] 7 [0,2,3,4,5] [] (fun ρ=>[.agg #[.string ⟨#[]⟩,.string ⟨#[107,101,121]⟩,.string ⟨#[109,117,108,116,105]⟩,.string ⟨#[97,102,116,101,114]⟩,.string ⟨#[111,108,100,101,114]⟩,.string ⟨#[104,97,115,104]⟩,.string ⟨#[101,105,116,104,101,114]⟩],pt (nb ρ2 5),vi (gT s.ts 0).kd,.string (gY (gW (gT s.ts 0).kd)),.string (gY ((gW (gT s.ts 0).kd)++([40]:List UInt8))),pt (nb ρ 5),undef]) (fun ρ=>[(5,(nw ρ 5 (cL #[.string ⟨#[]⟩] 9))),(6,(bD 41 (nb ρ 5) (cL #[.string (gY ((gW (gT s.ts 0).kd)++([40]:List UInt8)))] 9)))]) (cC (fun _ w=>nY w)<|cR [[],[0]]<|cX (jS (fun _=>Instr.index 78 (.agg #[.string ⟨#[]⟩,.string ⟨#[107,101,121]⟩,.string ⟨#[109,117,108,116,105]⟩,.string ⟨#[97,102,116,101,114]⟩,.string ⟨#[111,108,100,101,114]⟩,.string ⟨#[104,97,115,104]⟩,.string ⟨#[101,105,116,104,101,114]⟩]) (vi (gT s.ts 0).kd)) (fun _=>(.string (gY (gW (gT s.ts 0).kd)))) (fun _ w=>nm_at _ (by omega) w))<|cB (a:=fun ρ=>(.string (gY (gW (gT s.ts 0).kd)))) (b:=fun ρ=>(.string (gY ([40]:List UInt8)))) (v:=fun ρ=>(.string (gY ((gW (gT s.ts 0).kd)++([40]:List UInt8))))) .add 9 (fun _ w=>bI (gW (gT s.ts 0).kd) ([40]:List UInt8) (by have q1:=bT (gT s.ts 0).kd;have q3:=hx;have q4:=hy;simp only [List.length_cons,List.length_nil] at *;omega) w)<|jE [[],[41]]) (fun ρ3=>?_)
 refine sS Tryz.f25 2 [0,2,3,4,5,6] [] (fun ρ=>[pt (nb ρ 0),undef]) (fun ρ=>[(0,(nw ρ 0 (cL #[.string ⟨#[]⟩] 9))),(1,(bD 2 (nb ρ 0) (cL #[.string ⟨#[]⟩] 9)))]) (jE [[],[2]]) (fun ρ4=>?_)
 refine jJ Tryz.f25 2 [0,2,3,4,5,7] [.func (.func 42) #[] #[pt (nb ρ3 5),pt (nb ρ4 0)],.func (.func 42) #[] #[pt (nb ρ3 5),pt (nb ρ4 0)]] (aB (jM Tryz.f25 2 [0,2,3,4,5,7,23] [] [pt (nb ρ2 5),vi (gT s.ts 0).kd] [[],[0]] (aI ?_)))
 refine sS Tryz.f25 2 [0,2,3,4,5,7,23,24] [] (fun _=>[vF,vF]) (fun _=>[]) (jQ (fun ρ=>((gT s.ts 0).kd==2)) false (fun _=>(jK hk rfl))<|jE [[]]) (fun _=>?_)
 refine lK [(0,(.slice (jA s.ta s.tc 1 36) s.ts.tail.length (s.tc-1))),(2,(.string ⟨#[]⟩)),(3,vz),(4,(pt (nb ρ2 5))),(5,(pt (nb ρ3 5))),(7,(.func (.func 42) #[] #[pt (nb ρ3 5),pt (nb ρ4 0)])),(23,(vi (gT s.ts 0).kd)),(24,vF)] [(nb ρ2 5,(cL (bW.row (gT s.ts 0)) 50)),(nb ρ3 5,(cL #[.string (gY ((gW (gT s.ts 0).kd)++([40]:List UInt8)))] 9)),(nb ρ4 0,(cL #[.string ⟨#[]⟩] 9))] ?_
 refine oN ?_
 refine aB ?_
 refine sS Tryz.f25 2 [0,2,3,4,5,7,23,31] [] (fun _=>[vF,vF]) (fun _=>[]) (jQ (fun ρ=>((gT s.ts 0).kd==3)) false (fun _=>(jK hk rfl))<|jE [[]]) (fun _=>?_)
 refine oN ?_
 refine rS Tryz.f25 2 [0,2,3,4,5,7,23,31] [] (fun _=>[vF,vF]) (fun _=>[]) (jQ (fun ρ=>((gT s.ts 0).kd==4)) false (fun _=>(jK hk rfl))<|jE [[]]) (fun _=>?_)
 refine aA ?_
 refine oN ?_
 refine sS Tryz.f25 2 [0,2,3,4,5,7,40] [] (fun _=>[vF,vF]) (fun _=>[]) (jQ (fun ρ=>((gT s.ts 0).kd==5)) false (fun _=>(jK hk rfl))<|jE [[]]) (fun _=>?_)
 refine oN ?_
 refine aG (aJ (aA (aB (jM Tryz.f25 4 [0,2,3,4,5,7,48,49,50] [] [jp (nb ρ2 5) 35,.slice (gT s.ts 0).ka (gT s.ts 0).ks.length (gT s.ts 0).kc,vn (gT s.ts 0).ks.length,vi 0] [[],[0],[],[]] (aI ?_)))))
 refine jY 1 ?_
 refine dI ?_
 refine sS Tryz.f25 1 [0,2,3,4,5,7,48,49,50,51] [] (fun _=>[vF]) (fun _=>[]) (jQ (fun ρ=>(decide (0<(((gT s.ts 0).ks.length:Nat):Int)))) false (fun _=>(by rw [hkl];rfl))<|cN) (fun _=>?_)
 refine aB ?_
 refine oN ?_
 refine bF (aN (aN (aT (aA (aB ?_)))))
 refine sS Tryz.f25 4 [0,2,3,5,7,61,62] [0,1,1] (fun _=>[pt (nb ρ2 5),vi (gT s.ts 0).kd,vi (nO (gT s.ts 0).kd),vi 0]) (fun _=>[]) (cR [[],[0]]<|cC (fun _ w=>jC (gT s.ts 0).kd w)<|jE [[]]) (fun _=>?_)
 refine aI ?_
 refine jY 3 ?_
 refine dI ?_
 refine sS Tryz.f25 1 [0,2,3,5,7,61,62,63] [] (fun _=>[vT]) (fun _=>[]) (jQ (fun ρ=>(decide (0<(nO (gT s.ts 0).kd)))) true (fun _=>(show (decide (0<(nO (gT s.ts 0).kd)))=true by rw [show nO (gT s.ts 0).kd=2 from by rw [show (gT s.ts 0).kd=6 from hk];rfl];rfl))<|cN) (fun _=>?_)
 refine lK [(0,(.slice (jA s.ta s.tc 1 36) s.ts.tail.length (s.tc-1))),(2,(.string ⟨#[]⟩)),(3,vz),(5,(pt (nb ρ3 5))),(7,(.func (.func 42) #[] #[pt (nb ρ3 5),pt (nb ρ4 0)])),(61,(vi (nO (gT s.ts 0).kd))),(62,(vi 0)),(63,vT)] [(nb ρ3 5,(cL #[.string (gY ((gW (gT s.ts 0).kd)++([40]:List UInt8)))] 9)),(nb ρ4 0,(cL #[.string ⟨#[]⟩] 9))] ?_
 refine aB ?_
 refine oY ?_
 refine aG (aA (aB (aI (jJ Tryz.f25 1 [0,2,3,5,7,10,61,62,63] [.string ⟨#[]⟩] ?_))))
 refine sS Tryz.f25 7 [0,2,3,5,7,10,61,62,63,64,65,66,67,68] [] (fun _=>let qa:Value:=.slice s1.ta s1.ts.length s1.tc;[.slice (jA s.ta s.tc 1 36) s.ts.tail.length (s.tc-1),.tuple #[.string (gY x),qa],.tuple #[.string (gY x),qa],.string (gY x),qa,.string (gY x),qa]) (fun _=>[]) (cR [[]]<|cX (qC (fun _ _ w hG=>ih w hG.fn.2.2.2.1 hG.fn.2.1))<|jE [[],[],[],[],[]]) (fun _=>?_)
 refine rS Tryz.f25 3 [0,2,3,5,7,10,61,62,63,64,65,66,67,68,69,70] [] (fun _=>[.func (.func 42) #[] #[pt (nb ρ3 5),pt (nb ρ4 0)],.string (gY x),.tuple #[]]) (fun _=>[(2,{ puts:=[(0,nb ρ3 5,(cL #[.string (gY (((gW (gT s.ts 0).kd)++([40]:List UInt8))++(([]:List UInt8)++x)))] 9)),(1,nb ρ4 0,(cL #[.string ⟨#[44]⟩] 9))]})]) (cR [[],[]]<|cX (qW [0,1] (fun _ _ w hG hK=>iU x (nb ρ3 5) (nb ρ4 0) ((gW (gT s.ts 0).kd)++([40]:List UInt8)) ([]:List UInt8) (by have q1:=bT (gT s.ts 0).kd;have q3:=hx;have q4:=hy;simp only [List.length_append,List.length_cons,List.length_nil] at *;omega) (by decide) (by have q1:=bT (gT s.ts 0).kd;have q3:=hx;have q4:=hy;simp only [List.length_append,List.length_cons,List.length_nil] at *;omega) w hK (hG.pK [0,1] (fun _ _=>trivial))))<|cN) (fun _=>?_)
 refine aJ (aA (jL Tryz.f25 2 [0,2,3,5,7,10,61,62,63,64,65,66,67,68,69,70,72] [] [vi 1,vi 1] [[],[]] (dV ?_)))
 refine dI ?_
 refine sS Tryz.f25 1 [0,2,3,5,7,10,61,62,63,64,65,66,67,68,69,70,72] [] (fun _=>[vT]) (fun _=>[]) (jQ (fun ρ=>(decide (1<(nO (gT s.ts 0).kd)))) true (fun _=>(show (decide (1<(nO (gT s.ts 0).kd)))=true by rw [show nO (gT s.ts 0).kd=2 from by rw [show (gT s.ts 0).kd=6 from hk];rfl];rfl))<|cN) (fun _=>?_)
 refine aB ?_
 refine oY ?_
 refine aG (aA (aB (aI (jJ Tryz.f25 1 [0,2,3,5,7,10,61,62,63,64,65,66,67,68,69,70,72] [.string ⟨#[]⟩] ?_))))
 refine sS Tryz.f25 7 [0,2,3,5,7,10,61,62,63,64,65,66,67,68,69,70,72] [] (fun _=>let qa:Value:=.slice s2.ta s2.ts.length s2.tc;[.slice s1.ta s1.ts.length s1.tc,.tuple #[.string (gY y),qa],.tuple #[.string (gY y),qa],.string (gY y),qa,.string (gY y),qa]) (fun _=>[]) (cR [[]]<|cX (qC (fun _ _ w hG=>ih2 w hG.fn.2.2.1 hG.fn.2.1))<|jE [[],[],[],[],[]]) (fun _=>?_)
 refine lK [(0,(.slice s2.ta s2.ts.length s2.tc)),(2,(.string ⟨#[]⟩)),(3,vz),(5,(pt (nb ρ3 5))),(7,(.func (.func 42) #[] #[pt (nb ρ3 5),pt (nb ρ4 0)])),(10,(.string (gY y))),(61,(vi (nO (gT s.ts 0).kd))),(62,(vi 1)),(63,vT),(64,(.tuple #[.string (gY y),.slice s2.ta s2.ts.length s2.tc])),(65,(.slice s1.ta s1.ts.length s1.tc)),(66,(.tuple #[.string (gY y),.slice s2.ta s2.ts.length s2.tc])),(67,(.string (gY y))),(68,(.slice s2.ta s2.ts.length s2.tc)),(69,(.func (.func 42) #[] #[pt (nb ρ3 5),pt (nb ρ4 0)])),(70,(.string (gY x))),(72,(vi 1))] [(nb ρ3 5,(cL #[.string (gY (((gW (gT s.ts 0).kd)++([40]:List UInt8))++(([]:List UInt8)++x)))] 9)),(nb ρ4 0,(cL #[.string ⟨#[44]⟩] 9))] ?_
 refine rS Tryz.f25 3 [0,2,3,5,7,10,61,62,63,64,65,66,67,68,69,70,72] [] (fun _=>[.func (.func 42) #[] #[pt (nb ρ3 5),pt (nb ρ4 0)],.string (gY y),.tuple #[]]) (fun _=>[(2,{ puts:=[(0,nb ρ3 5,(cL #[.string (gY ((((gW (gT s.ts 0).kd)++([40]:List UInt8))++(([]:List UInt8)++x))++(([44]:List UInt8)++y)))] 9)),(1,nb ρ4 0,(cL #[.string ⟨#[44]⟩] 9))]})]) (cR [[],[]]<|cX (qW [0,1] (fun _ _ w hG hK=>iU y (nb ρ3 5) (nb ρ4 0) (((gW (gT s.ts 0).kd)++([40]:List UInt8))++(([]:List UInt8)++x)) ([44]:List UInt8) (by have q1:=bT (gT s.ts 0).kd;have q3:=hx;have q4:=hy;simp only [List.length_append,List.length_cons,List.length_nil] at *;omega) (by decide) (by have q1:=bT (gT s.ts 0).kd;have q3:=hx;have q4:=hy;simp only [List.length_append,List.length_cons,List.length_nil] at *;omega) w hK (hG.pK [0,1] (fun _ _=>trivial))))<|cN) (fun _=>?_)
 refine aJ (aA (jL Tryz.f25 2 [0,2,3,5,7,10,61,62,63,64,65,66,67,68,69,70,72] [] [vi 2,vi 2] [[],[]] (dV ?_)))
 refine dI ?_
 refine sS Tryz.f25 1 [0,2,3,5,7,10,61,62,63,64,65,66,67,68,69,70,72] [] (fun _=>[vF]) (fun _=>[]) (jQ (fun ρ=>(decide (2<(nO (gT s.ts 0).kd)))) false (fun _=>(show (decide (2<(nO (gT s.ts 0).kd)))=false by rw [show nO (gT s.ts 0).kd=2 from by rw [show (gT s.ts 0).kd=6 from hk];rfl];rfl))<|cN) (fun _=>?_)
 refine aB ?_
 refine oN ?_
 refine bF (aN (aN (aT (aA ?_))))
 refine sS Tryz.f25 5 [2,3] [0,0] (fun _=>let qa:Value:=.slice s2.ta s2.ts.length s2.tc;[.string (gY ((((gW (gT s.ts 0).kd)++([40]:List UInt8))++(([]:List UInt8)++x))++(([44]:List UInt8)++y))),.string (gY (((((gW (gT s.ts 0).kd)++([40]:List UInt8))++(([]:List UInt8)++x))++(([44]:List UInt8)++y))++([41]:List UInt8))),qa,.string (gY (((((gW (gT s.ts 0).kd)++([40]:List UInt8))++(([]:List UInt8)++x))++(([44]:List UInt8)++y))++([41]:List UInt8))),qa]) (fun _=>[]) (cR [[0]]<|cB (a:=fun ρ=>(.string (gY ((((gW (gT s.ts 0).kd)++([40]:List UInt8))++(([]:List UInt8)++x))++(([44]:List UInt8)++y))))) (b:=fun ρ=>(.string (gY ([41]:List UInt8)))) (v:=fun ρ=>(.string (gY (((((gW (gT s.ts 0).kd)++([40]:List UInt8))++(([]:List UInt8)++x))++(([44]:List UInt8)++y))++([41]:List UInt8))))) .add 9 (fun _ w=>bI ((((gW (gT s.ts 0).kd)++([40]:List UInt8))++(([]:List UInt8)++x))++(([44]:List UInt8)++y)) ([41]:List UInt8) (by have q1:=bT (gT s.ts 0).kd;have q3:=hx;have q4:=hy;simp only [List.length_append,List.length_cons,List.length_nil] at *;omega) w)<|jE [[],[],[]]) (fun _=>?_)
 refine aF ?_
 exact mR (v:=(.tuple #[.string (gY (((((gW (gT s.ts 0).kd)++([40]:List UInt8))++(([]:List UInt8)++x))++(([44]:List UInt8)++y))++([41]:List UInt8))),.slice s2.ta s2.ts.length s2.tc])) (fun _ hS=>⟨congrArg (fun z=>Ending.returned (.tuple #[.string (gY z),.slice s2.ta s2.ts.length s2.tc])) (kb6 hk),hS.bel⟩)
theorem body_all : ∀ (f : Nat) (s : Tq) (x : List UInt8) (s' : Tq), f ≤ 8 → bx f s = some (x, s') → TxS s.ts → mP s.ts → BdC s x s'
  | 0,_,_,_,_,h,_,_=>by simp [bx] at h
  | f + 1, s, x, s', hf, h, hq, ho => by
    have hp:2^f≤2^7:=Nat.pow_le_pow_right (by decide) (by omega)
    have big:∀ {x:List UInt8} {s s1:Tq},TxS s.ts→mP s.ts→bx f s=some (x,s1)→x.length≤4000000:=fun a b h=>by have:=bx_len f _ _ _ a b h;omega
    unfold bx at h
    split at h
    · exact absurd h (by simp)
    rename_i hc
    have h0:0<s.ts.length:=by omega
    have hfd:s.fst.fd=true:=by
      cases e:s.fst.fd with
      | true=>rfl
      | false=>exact absurd (Or.inr e) hc
    have hg:TqL s s.go:=TqL.go h0
    split at h
    · rename_i hk
      simp only [Option.some.injEq,Prod.mk.injEq] at h;rw [← h.1,← h.2]
      exact fun w0 hT hP=>body1_any s hk h0 hfd ho hq w0 hT hP
    split at h
    · rename_i hk
      simp only [Option.some.injEq,Prod.mk.injEq] at h;rw [← h.1,← h.2]
      exact fun w0 hT hP=>body2_any s hk h0 hfd ho hq w0 hT hP
    split at h
    · exact absurd h (by simp)
    rename_i k1 k2 _ a s1 e1
    have gq:TxS s.go.ts:=fun t ht=>hq t (hg.m t ht)
    have go:mP s.go.ts:=fun t ht=>ho t (hg.m t ht)
    have i1:=body_all f _ _ _ (by omega) e1 gq go
    split at h
    · rename_i hk
      split at h
      · exact absurd h (by simp)
      rename_i b2 s2 e2
      have l1:=hg.trans (qL f _ _ _ e1)
      have g2:TxS s1.ts:=fun t ht=>hq t (l1.m t ht)
      have o2:mP s1.ts:=fun t ht=>ho t (l1.m t ht)
      have i2:=body_all f _ _ _ (by omega) e2 g2 o2
      simp only [Option.some.injEq,Prod.mk.injEq] at h;rw [← h.1,← h.2]
      exact fun w0 hT hP=>body6_any s a s1 b2 s2 hk h0 hfd ho hq (big gq go e1) i1 (big g2 o2 e2) i2 w0 hT hP (l1.t w0 hT)
    · split at h
      · rename_i hk
        have hk:s.fst.kd=3∨s.fst.kd=4∨s.fst.kd=5:=by omega
        simp only [Option.some.injEq,Prod.mk.injEq] at h;rw [← h.1,← h.2]
        exact fun w0 hT hP=>body3_any s a s1 hk h0 hfd ho hq (big gq go e1) i1 w0 hT hP
      · exact absurd h (by simp)
def BrC (ts:List bW) (x:List UInt8) (n:Nat):Prop:=∀ (a:Option Addr) (c:Nat) (w0:World),bM w0 a c ts→Calls Tryz.prog 26 #[.slice a ts.length c] w0 (jR (.tuple #[.string (gY x),.int .i64 ((n:Nat):Int)]) w0)
theorem rbody1_any (a:Option Addr) (c:Nat) (ts:List bW) (hk:(gT ts 0).kd=1) (h0:0<ts.length) (hfd:(gT ts 0).fd=true) (ho:mP ts) (hq:TxS ts) (w0:World) (hf0:bM w0 a c ts):Calls Tryz.prog 26 #[.slice a ts.length c] w0 (jR (.tuple #[.string (gY (fD (gK (gT ts 0).ks 0))),vi 1]) w0):=by
 refine Calls.of_ok (n:=112) (F:=(fun w=>bM w a c ts∧True)) Tryz.func26 rfl rfl rfl (by simp) (hf0.pers0.and cO) ?_
 have hkl:(gT ts 0).ks.length=1:=(by have:=(xAT _ _ _ _ _).1 hfd;unfold o7 at this;omega)
 have hlen:ts.length≤1000000:=hf0.max
 refine jJ Tryz.f26 2 [0,2,3] [.string ⟨#[]⟩,vi 0] ?_
 refine sS Tryz.f26 5 [0,2,3,4] [] (fun ρ=>[.slice a ts.length c,.pointer (fK a (0*36)),.agg (bW.row (gT ts 0)),pt (nb ρ 3),undef]) (fun ρ=>[(3,(nw ρ 3 (cL (iC 0 0 0 0 vz) 50))),(4,(bD 24 (nb ρ 3) (cL (bW.row (gT ts 0)) 50)))]) (cR [[]]<|cX (qF (fun _ _ _ hG=>bM.idx (k:=.i64) Tryz.underlying24 Tryz.sizeOf50 hG.fn.1 rfl (show 0=((0:Nat):Int) from rfl) (show 0<ts.length from h0)))<|cX (qF (fun _ _ _ hG=>bM.ldA (i:=0) Tryz.isAgg50 Tryz.sizeOf50 hG.fn.1 (show 0<ts.length from h0)))<|jE [[],[24]]) (fun ρ2=>?_)
 refine aB (jM Tryz.f26 2 [0,2,3,4,15] [] [pt (nb ρ2 3),vi (gT ts 0).kd] [[],[0]] (aI ?_))
 refine sS Tryz.f26 2 [0,2,3,4,15,16] [] (fun _=>[vT,vT]) (fun _=>[]) (jQ (fun ρ=>((gT ts 0).kd==1)) true (fun _=>(jK hk rfl))<|jE [[]]) (fun _=>?_)
 refine oY ?_
 refine sS Tryz.f26 9 [0,2,3,4] [] (fun _=>let qa:=([107,101,121,40]:List UInt8);[jp (nb ρ2 3) 35,.slice (gT ts 0).ka (gT ts 0).ks.length (gT ts 0).kc,.pointer (fK (gT ts 0).ka (0*45)),.agg (dO.row (gK (gT ts 0).ks 0)),.string (gY (gK (gT ts 0).ks 0).tx),.string (gY (qa++(gK (gT ts 0).ks 0).tx)),.string (gY ((qa++(gK (gT ts 0).ks 0).tx)++([41]:List UInt8))),.string (gY ((qa++(gK (gT ts 0).ks 0).tx)++([41]:List UInt8))),vi 1]) (fun _=>[]) (cR [[],[0]]<|cX (qF (fun _ _ _ hG=>oG.idx (k:=.i64) Tryz.underlying48 Tryz.sizeOf59 (hG.fn.1.sub _ (xAE (show 0<ts.length from h0))) rfl (show 0=((0:Nat):Int) from rfl) (show 0<(gT ts 0).ks.length from (by rw [hkl];decide))))<|cX (qF (fun _ _ _ hG=>oG.ldA (i:=0) Tryz.isAgg59 Tryz.sizeOf59 (hG.fn.1.sub _ (xAE (show 0<ts.length from h0))) (show 0<(gT ts 0).ks.length from (by rw [hkl];decide))))<|cX (qC (fun _ _ w hG=>qO (gK (gT ts 0).ks 0) (ho.gK 0 0) w ((hG.fn.1.sub _ (xAE (show 0<ts.length from h0))).sub _ (nU (show 0<(gT ts 0).ks.length from (by rw [hkl];decide))))))<|cB (a:=fun ρ=>(.string (gY ([107,101,121,40]:List UInt8)))) (b:=fun ρ=>(.string (gY (gK (gT ts 0).ks 0).tx))) (v:=fun ρ=>(.string (gY (([107,101,121,40]:List UInt8)++(gK (gT ts 0).ks 0).tx)))) .add 9 (fun _ w=>bI ([107,101,121,40]:List UInt8) (gK (gT ts 0).ks 0).tx (by have q2:=hq _ (xAE h0) _ (nU (show 0<(gT ts 0).ks.length by rw [hkl];decide));simp only [List.length_cons,List.length_nil] at *;omega) w)<|cB (a:=fun ρ=>(.string (gY (([107,101,121,40]:List UInt8)++(gK (gT ts 0).ks 0).tx)))) (b:=fun ρ=>(.string (gY ([41]:List UInt8)))) (v:=fun ρ=>(.string (gY ((([107,101,121,40]:List UInt8)++(gK (gT ts 0).ks 0).tx)++([41]:List UInt8))))) .add 9 (fun _ w=>bI (([107,101,121,40]:List UInt8)++(gK (gT ts 0).ks 0).tx) ([41]:List UInt8) (by have q2:=hq _ (xAE h0) _ (nU (show 0<(gT ts 0).ks.length by rw [hkl];decide));simp only [List.length_append,List.length_cons,List.length_nil] at *;omega) w)<|jE [[],[]]) (fun _=>?_)
 refine aF (aP (aC ?_))
 exact mR (v:=(.tuple #[.string (gY ((([107,101,121,40]:List UInt8)++(gK (gT ts 0).ks 0).tx)++([41]:List UInt8))),vi 1])) (fun _ hS=>⟨congrArg (fun z=>Ending.returned (.tuple #[.string (gY z),vi 1])) (rfl),hS.bel⟩)
theorem rbody2_any (a:Option Addr) (c:Nat) (ts:List bW) (hk:(gT ts 0).kd=2) (h0:0<ts.length) (hfd:(gT ts 0).fd=true) (ho:mP ts) (hq:TxS ts) (w0:World) (hf0:bM w0 a c ts):Calls Tryz.prog 26 #[.slice a ts.length c] w0 (jR (.tuple #[.string (gY (eP (gT ts 0).m (gT ts 0).ks)),vi 1]) w0):=by
 refine Calls.of_ok (n:=112) (F:=(fun w=>bM w a c ts∧True)) Tryz.func26 rfl rfl rfl (by simp) (hf0.pers0.and cO) ?_
 have hkl:1≤(gT ts 0).ks.length∧(gT ts 0).ks.length≤15∧1≤(gT ts 0).m∧(gT ts 0).m≤15:=(by have:=(xAT _ _ _ _ _).1 hfd;unfold o7 at this;omega)
 have hlen:ts.length≤1000000:=hf0.max
 refine jJ Tryz.f26 2 [0,2,3] [.string ⟨#[]⟩,vi 0] ?_
 refine sS Tryz.f26 5 [0,2,3,4] [] (fun ρ=>[.slice a ts.length c,.pointer (fK a (0*36)),.agg (bW.row (gT ts 0)),pt (nb ρ 3),undef]) (fun ρ=>[(3,(nw ρ 3 (cL (iC 0 0 0 0 vz) 50))),(4,(bD 24 (nb ρ 3) (cL (bW.row (gT ts 0)) 50)))]) (cR [[]]<|cX (qF (fun _ _ _ hG=>bM.idx (k:=.i64) Tryz.underlying24 Tryz.sizeOf50 hG.fn.1 rfl (show 0=((0:Nat):Int) from rfl) (show 0<ts.length from h0)))<|cX (qF (fun _ _ _ hG=>bM.ldA (i:=0) Tryz.isAgg50 Tryz.sizeOf50 hG.fn.1 (show 0<ts.length from h0)))<|jE [[],[24]]) (fun ρ2=>?_)
 refine aB (jM Tryz.f26 2 [0,2,3,4,15] [] [pt (nb ρ2 3),vi (gT ts 0).kd] [[],[0]] (aI ?_))
 refine sS Tryz.f26 2 [0,2,3,4,15,16] [] (fun _=>[vF,vF]) (fun _=>[]) (jQ (fun ρ=>((gT ts 0).kd==1)) false (fun _=>(jK hk rfl))<|jE [[]]) (fun _=>?_)
 refine oN ?_
 refine sS Tryz.f26 2 [0,2,3,4,25] [] (fun _=>[vT,vT]) (fun _=>[]) (jQ (fun ρ=>((gT ts 0).kd==2)) true (fun _=>(jK hk rfl))<|jE [[]]) (fun _=>?_)
 refine oY ?_
 refine sS Tryz.f26 6 [0,2,3,4,5] [] (fun _=>let qa:=([109,117,108,116,105,40]:List UInt8);[jp (nb ρ2 3) 1,vi (gT ts 0).m,vu ((gT ts 0).m.toNat),.string (gY (dS (gT ts 0).m.toNat)),.string (gY (qa++(dS (gT ts 0).m.toNat))),.string (gY (qa++(dS (gT ts 0).m.toNat)))]) (fun _=>[]) (cR [[],[0]]<|cA (v:=fun ρ=>(.int .u32 (IntKind.u32.wrap (gT ts 0).m))) (fun _=>(vu ((gT ts 0).m.toNat))) (fun _=>jN (txM (by omega)))<|cC (fun _ w=>kQ (gT ts 0).m.toNat (by omega) w)<|cB (a:=fun ρ=>(.string (gY ([109,117,108,116,105,40]:List UInt8)))) (b:=fun ρ=>(.string (gY (dS (gT ts 0).m.toNat)))) (v:=fun ρ=>(.string (gY (([109,117,108,116,105,40]:List UInt8)++(dS (gT ts 0).m.toNat))))) .add 9 (fun _ w=>bI ([109,117,108,116,105,40]:List UInt8) (dS (gT ts 0).m.toNat) (by have q2:=bQ (n:=(gT ts 0).m.toNat) (by omega);have q5:=hkl;simp only [List.length_cons,List.length_nil] at *;omega) w)<|jE [[]]) (fun _=>?_)
 refine aB (jJ Tryz.f26 1 [0,2,3,4,5,6] [vi 0] ?_)
 refine lK [(0,(.slice a ts.length c)),(2,(.string ⟨#[]⟩)),(3,(vi 0)),(4,(pt (nb ρ2 3))),(5,(.string (gY (([109,117,108,116,105,40]:List UInt8)++(dS (gT ts 0).m.toNat))))),(6,(vi 0))] [(nb ρ2 3,(cL (bW.row (gT ts 0)) 50))] ?_
 refine aI ?_
 refine oL (σ:=Nat × (List UInt8)) (fun ⟨j,S⟩=>[(0,(.slice a ts.length c)),(2,(.string ⟨#[]⟩)),(3,(vi 0)),(4,(pt (nb ρ2 3))),(5,(.string (gY S))),(6,(vn j))]) (fun ⟨_,_⟩=>[(nb ρ2 3,(cL (bW.row (gT ts 0)) 50))]) (fun ⟨j,_⟩=>(gT ts 0).ks.length-j)
   (fun ⟨j,S⟩=>(j≤(gT ts 0).ks.length)∧(S=([109,117,108,116,105,40]++dS (gT ts 0).m.toNat)++ksT ((gT ts 0).ks.take j))) (0,([109,117,108,116,105,40]++dS (gT ts 0).m.toNat)) (⟨Nat.zero_le _,(List.append_nil _).symm⟩) [] ?_
 rintro ⟨j,S⟩ ⟨hj,hZ⟩
 change Ok Tryz.prog _ _ 112 [(0,(.slice a ts.length c)),(2,(.string ⟨#[]⟩)),(3,(vi 0)),(4,(pt (nb ρ2 3))),(5,(.string (gY S))),(6,(vn j))] _ [(nb ρ2 3,(cL (bW.row (gT ts 0)) 50))] (fun w=>bM w a c ts∧True)
 refine aB (jM Tryz.f26 5 [0,2,3,4,5,6,36] [] [vn j,jp (nb ρ2 3) 35,.slice (gT ts 0).ka (gT ts 0).ks.length (gT ts 0).kc,vn (gT ts 0).ks.length,.bool (decide (((j:Nat):Int)<(((gT ts 0).ks.length:Nat):Int)))] [[],[],[0],[],[]] ?_)
 refine oC (decide (((j:Nat):Int)<(((gT ts 0).ks.length:Nat):Int))) (fun hb1=>?_) (fun hb1=>?_)
 ·
  rw [hb1]
  have:=yT hb1
  refine aG (aA (aB (aI ?_)))
  refine rS Tryz.f26 10 [0,2,3,4,5,6] [] (fun _=>[.string (gY S),.string (gY (S++([44]:List UInt8))),jp (nb ρ2 3) 35,.slice (gT ts 0).ka (gT ts 0).ks.length (gT ts 0).kc,vn j,.pointer (fK (gT ts 0).ka (j*45)),.agg (dO.row (gK (gT ts 0).ks j)),.string (gY (gK (gT ts 0).ks j).tx),.string (gY ((S++([44]:List UInt8))++(gK (gT ts 0).ks j).tx)),.string (gY ((S++([44]:List UInt8))++(gK (gT ts 0).ks j).tx))]) (fun _=>[]) (cR [[]]<|cB (a:=fun ρ=>(.string (gY S))) (b:=fun ρ=>(.string (gY ([44]:List UInt8)))) (v:=fun ρ=>(.string (gY (S++([44]:List UInt8))))) .add 9 (fun _ w=>bI S ([44]:List UInt8) (by have q2:=bQ (n:=(gT ts 0).m.toNat) (by omega);have q5:=hkl;have q3:=kb_len hZ (hq _ (xAE h0));have q7:=kb_ge hZ;simp only [List.length_append,List.length_cons,List.length_nil] at *;omega) w)<|cR [[],[0],[]]<|cX (qF (fun _ _ _ hG=>oG.idx (k:=.i64) Tryz.underlying48 Tryz.sizeOf59 (hG.fn.1.sub _ (xAE (show 0<ts.length from h0))) rfl (show ((j:Nat):Int)=((j:Nat):Int) from rfl) (show j<(gT ts 0).ks.length from (by omega))))<|cX (qF (fun _ _ _ hG=>oG.ldA (i:=j) Tryz.isAgg59 Tryz.sizeOf59 (hG.fn.1.sub _ (xAE (show 0<ts.length from h0))) (show j<(gT ts 0).ks.length from (by omega))))<|cX (qC (fun _ _ w hG=>qO (gK (gT ts 0).ks j) (ho.gK 0 j) w ((hG.fn.1.sub _ (xAE (show 0<ts.length from h0))).sub _ (nU (show j<(gT ts 0).ks.length from (by omega))))))<|cB (a:=fun ρ=>(.string (gY (S++([44]:List UInt8))))) (b:=fun ρ=>(.string (gY (gK (gT ts 0).ks j).tx))) (v:=fun ρ=>(.string (gY ((S++([44]:List UInt8))++(gK (gT ts 0).ks j).tx)))) .add 9 (fun _ w=>bI (S++([44]:List UInt8)) (gK (gT ts 0).ks j).tx (by have q2:=bQ (n:=(gT ts 0).m.toNat) (by omega);have q5:=hkl;have q3:=kb_len hZ (hq _ (xAE h0));have q7:=kb_ge hZ;have q6:=hq _ (xAE h0) _ (nU (show j<(gT ts 0).ks.length from (by omega)));simp only [List.length_append,List.length_cons,List.length_nil] at *;omega) w)<|jE [[]]) (fun _=>?_)
  refine aJ (aA ?_)
  refine rS Tryz.f26 3 [0,2,3,4,5,6] [] (fun _=>[vn j,vn (j+1),vn (j+1)]) (fun _=>[]) (cR [[]]<|jW (fun ρ=>(((j:Nat):Int)+1)) (fun _=>(j+1)) (fun _=>(aW j 1 (by omega)))<|jE [[]]) (fun _=>?_)
  exact mN (j+1,(S++([44]:List UInt8))++(gK (gT ts 0).ks j).tx) (by show (gT ts 0).ks.length-(j+1)<(gT ts 0).ks.length-j;omega) (⟨(by omega),kb_r (by omega) hZ⟩) []
 rw [hb1]
 refine bF (aN (aN (aT (aA ?_))))
 refine sS Tryz.f26 4 [0,2,3,4] [] (fun _=>[.string (gY S),.string (gY (S++([41]:List UInt8))),.string (gY (S++([41]:List UInt8))),vi 1]) (fun _=>[]) (cR [[]]<|cB (a:=fun ρ=>(.string (gY S))) (b:=fun ρ=>(.string (gY ([41]:List UInt8)))) (v:=fun ρ=>(.string (gY (S++([41]:List UInt8))))) .add 9 (fun _ w=>bI S ([41]:List UInt8) (by have q2:=bQ (n:=(gT ts 0).m.toNat) (by omega);have q5:=hkl;have q3:=kb_len hZ (hq _ (xAE h0));have q7:=kb_ge hZ;simp only [List.length_append,List.length_cons,List.length_nil] at *;omega) w)<|jE [[],[]]) (fun _=>?_)
 refine aF (aP (aC ?_))
 exact mR (v:=(.tuple #[.string (gY (S++([41]:List UInt8))),vi 1])) (fun _ hS=>⟨congrArg (fun z=>Ending.returned (.tuple #[.string (gY z),vi 1])) (kb_e (by have:=yF hb1;omega) hZ),hS.bel⟩)
theorem rbody3_any (a:Option Addr) (c:Nat) (ts:List bW) (x:List UInt8) (n:Nat) (hk:(gT ts 0).kd=3∨(gT ts 0).kd=4∨(gT ts 0).kd=5) (h0:0<ts.length) (hfd:(gT ts 0).fd=true) (ho:mP ts) (_hq:TxS ts) (hx:x.length≤4000000) (hn9:n≤1000000) (ih:BrC ts.tail x n) (w0:World) (hf0:bM w0 a c ts):Calls Tryz.prog 26 #[.slice a ts.length c] w0 (jR (.tuple #[.string (gY (slT (gT ts 0).kd (gT ts 0).nu (gT ts 0).h x)),vn (n+1)]) w0):=by
 refine Calls.of_ok (n:=112) (F:=(fun w=>bM w a c ts∧True)) Tryz.func26 rfl rfl rfl (by simp) (hf0.pers0.and cO) ?_
 have hkl:(gT ts 0).ks.length=0:=(by have:=(xAT _ _ _ _ _).1 hfd;unfold o7 at this;omega)
 have hlen:ts.length≤1000000:=hf0.max
 refine jJ Tryz.f26 2 [0,2,3] [.string ⟨#[]⟩,vi 0] ?_
 refine sS Tryz.f26 5 [0,2,3,4] [] (fun ρ=>[.slice a ts.length c,.pointer (fK a (0*36)),.agg (bW.row (gT ts 0)),pt (nb ρ 3),undef]) (fun ρ=>[(3,(nw ρ 3 (cL (iC 0 0 0 0 vz) 50))),(4,(bD 24 (nb ρ 3) (cL (bW.row (gT ts 0)) 50)))]) (cR [[]]<|cX (qF (fun _ _ _ hG=>bM.idx (k:=.i64) Tryz.underlying24 Tryz.sizeOf50 hG.fn.1 rfl (show 0=((0:Nat):Int) from rfl) (show 0<ts.length from h0)))<|cX (qF (fun _ _ _ hG=>bM.ldA (i:=0) Tryz.isAgg50 Tryz.sizeOf50 hG.fn.1 (show 0<ts.length from h0)))<|jE [[],[24]]) (fun ρ2=>?_)
 refine aB (jM Tryz.f26 2 [0,2,3,4,15] [] [pt (nb ρ2 3),vi (gT ts 0).kd] [[],[0]] (aI ?_))
 refine sS Tryz.f26 2 [0,2,3,4,15,16] [] (fun _=>[vF,vF]) (fun _=>[]) (jQ (fun ρ=>((gT ts 0).kd==1)) false (fun _=>(beq_f (show (gT ts 0).kd≠1 by have e:(gT ts 0).kd=(gT ts 0).kd:=rfl;omega)))<|jE [[]]) (fun _=>?_)
 refine oN ?_
 refine sS Tryz.f26 2 [0,2,3,4,25] [] (fun _=>[vF,vF]) (fun _=>[]) (jQ (fun ρ=>((gT ts 0).kd==2)) false (fun _=>(beq_f (show (gT ts 0).kd≠2 by have e:(gT ts 0).kd=(gT ts 0).kd:=rfl;omega)))<|jE [[]]) (fun _=>?_)
 refine oN ?_
 refine aG (aJ (aA ?_))
 refine iZ Tryz.f26 8 [0,2,3,4,7,8] [] (fun _=>[.slice a ts.length c,.slice (jA a c 1 36) ts.tail.length (c-1),.tuple #[.string (gY x),vn n],.tuple #[.string (gY x),vn n],.string (gY x),vn n,.string (gY x),vn n]) (fun _=>[]) (fun _=>[(1,fun w=>bM w (jA a c 1 36) (c-1) ts.tail)]) (fun _=>(fun w=>bM w a c ts∧bM w (jA a c 1 36) (c-1) ts.tail∧True)) (fun _=>True) (fun _ _ hF hf=>⟨⟨hF.1,hf 1,trivial⟩,trivial⟩) (cR [[]]<|cX (jF (fun _=>Instr.sliceAt 24 (.slice a ts.length c) (some (vi 1)) none none) (fun _=>(.slice (jA a c 1 36) ts.tail.length (c-1))) (fun _ _ _ hG=>fP (k:=1) Tryz.underlying24 Tryz.sizeOf50 rfl (jI (rfl)) h0 hG.fn.1.le (by rw [List.length_tail])) (fun _ _ w hG=>hG.facts0.mono (fun _ hF=>hF.1.tail h0)))<|cX (qC (fun _ _ w hG=>ih (jA a c 1 36) (c-1) w (show bM w (jA a c 1 36) (c-1) ts.tail from (hG.facts 1 rfl).now)))<|jE [[],[],[],[],[]]) (fun _ _=>?_)
 refine aB (jM Tryz.f26 2 [0,2,3,4,7,8,57] [] [pt (nb ρ2 3),vi (gT ts 0).kd] [[],[0]] ?_)
 refine lK [(0,(.slice a ts.length c)),(2,(.string ⟨#[]⟩)),(3,(vi 0)),(4,(pt (nb ρ2 3))),(7,(.string (gY x))),(8,(vn n)),(57,(vi (gT ts 0).kd))] [(nb ρ2 3,(cL (bW.row (gT ts 0)) 50))] ?_
 refine aI (jJ Tryz.f26 2 [0,2,3,4,7,8,57,58] [.bool ((gT ts 0).kd==3),.bool ((gT ts 0).kd==3)] ?_)
 refine oC ((gT ts 0).kd==3) (fun hb1=>?_) (fun hb1=>?_)
 ·
  rw [hb1]
  refine sS Tryz.f26 12 [0,2,3,7,8] [0] (fun _=>let qa:=([97,102,116,101,114,40]:List UInt8);[jp (nb ρ2 3) 2,vu ((gT ts 0).nu),.string (gY (dS (gT ts 0).nu)),.string (gY (qa++(dS (gT ts 0).nu))),.string (gY ((qa++(dS (gT ts 0).nu))++([44]:List UInt8))),.string (gY x),.string (gY (((qa++(dS (gT ts 0).nu))++([44]:List UInt8))++x)),.string (gY ((((qa++(dS (gT ts 0).nu))++([44]:List UInt8))++x)++([41]:List UInt8))),vn n,vn (n+1),.string (gY ((((qa++(dS (gT ts 0).nu))++([44]:List UInt8))++x)++([41]:List UInt8))),vn (n+1)]) (fun _=>[]) (cR [[],[0]]<|cC (fun _ w=>kQ (gT ts 0).nu (ho.gT 0).nu w)<|cB (a:=fun ρ=>(.string (gY ([97,102,116,101,114,40]:List UInt8)))) (b:=fun ρ=>(.string (gY (dS (gT ts 0).nu)))) (v:=fun ρ=>(.string (gY (([97,102,116,101,114,40]:List UInt8)++(dS (gT ts 0).nu))))) .add 9 (fun _ w=>bI ([97,102,116,101,114,40]:List UInt8) (dS (gT ts 0).nu) (by have q2:=bQ (n:=(gT ts 0).nu) (by have:=(ho.gT 0).nu;omega);have q3:=hx;simp only [List.length_cons,List.length_nil] at *;omega) w)<|cB (a:=fun ρ=>(.string (gY (([97,102,116,101,114,40]:List UInt8)++(dS (gT ts 0).nu))))) (b:=fun ρ=>(.string (gY ([44]:List UInt8)))) (v:=fun ρ=>(.string (gY ((([97,102,116,101,114,40]:List UInt8)++(dS (gT ts 0).nu))++([44]:List UInt8))))) .add 9 (fun _ w=>bI (([97,102,116,101,114,40]:List UInt8)++(dS (gT ts 0).nu)) ([44]:List UInt8) (by have q2:=bQ (n:=(gT ts 0).nu) (by have:=(ho.gT 0).nu;omega);have q3:=hx;simp only [List.length_append,List.length_cons,List.length_nil] at *;omega) w)<|cR [[]]<|cB (a:=fun ρ=>(.string (gY ((([97,102,116,101,114,40]:List UInt8)++(dS (gT ts 0).nu))++([44]:List UInt8))))) (b:=fun ρ=>(.string (gY x))) (v:=fun ρ=>(.string (gY (((([97,102,116,101,114,40]:List UInt8)++(dS (gT ts 0).nu))++([44]:List UInt8))++x)))) .add 9 (fun _ w=>bI ((([97,102,116,101,114,40]:List UInt8)++(dS (gT ts 0).nu))++([44]:List UInt8)) x (by have q2:=bQ (n:=(gT ts 0).nu) (by have:=(ho.gT 0).nu;omega);have q3:=hx;simp only [List.length_append,List.length_cons,List.length_nil] at *;omega) w)<|cB (a:=fun ρ=>(.string (gY (((([97,102,116,101,114,40]:List UInt8)++(dS (gT ts 0).nu))++([44]:List UInt8))++x)))) (b:=fun ρ=>(.string (gY ([41]:List UInt8)))) (v:=fun ρ=>(.string (gY ((((([97,102,116,101,114,40]:List UInt8)++(dS (gT ts 0).nu))++([44]:List UInt8))++x)++([41]:List UInt8))))) .add 9 (fun _ w=>bI (((([97,102,116,101,114,40]:List UInt8)++(dS (gT ts 0).nu))++([44]:List UInt8))++x) ([41]:List UInt8) (by have q2:=bQ (n:=(gT ts 0).nu) (by have:=(ho.gT 0).nu;omega);have q3:=hx;simp only [List.length_append,List.length_cons,List.length_nil] at *;omega) w)<|cR [[]]<|jW (fun ρ=>(((n:Nat):Int)+1)) (fun _=>(n+1)) (fun _=>(aW n 1 (by omega)))<|jE [[],[]]) (fun _=>?_)
  refine aF (aP (aC ?_))
  exact mR (v:=(.tuple #[.string (gY ((((([97,102,116,101,114,40]:List UInt8)++(dS (gT ts 0).nu))++([44]:List UInt8))++x)++([41]:List UInt8))),vn (n+1)])) (fun _ hS=>⟨congrArg (fun z=>Ending.returned (.tuple #[.string (gY z),vn (n+1)])) (rl3 (by have:=xQ hb1;omega)),hS.bel⟩)
 rw [hb1]
 refine jJ Tryz.f26 2 [0,2,3,4,7,8,57,70] [.bool ((gT ts 0).kd==4),.bool ((gT ts 0).kd==4)] ?_
 refine oC ((gT ts 0).kd==4) (fun hb2=>?_) (fun hb2=>?_)
 ·
  rw [hb2]
  refine sS Tryz.f26 12 [0,2,3,7,8] [0] (fun _=>let qa:=([111,108,100,101,114,40]:List UInt8);[jp (nb ρ2 3) 2,vu ((gT ts 0).nu),.string (gY (dS (gT ts 0).nu)),.string (gY (qa++(dS (gT ts 0).nu))),.string (gY ((qa++(dS (gT ts 0).nu))++([44]:List UInt8))),.string (gY x),.string (gY (((qa++(dS (gT ts 0).nu))++([44]:List UInt8))++x)),.string (gY ((((qa++(dS (gT ts 0).nu))++([44]:List UInt8))++x)++([41]:List UInt8))),vn n,vn (n+1),.string (gY ((((qa++(dS (gT ts 0).nu))++([44]:List UInt8))++x)++([41]:List UInt8))),vn (n+1)]) (fun _=>[]) (cR [[],[0]]<|cC (fun _ w=>kQ (gT ts 0).nu (ho.gT 0).nu w)<|cB (a:=fun ρ=>(.string (gY ([111,108,100,101,114,40]:List UInt8)))) (b:=fun ρ=>(.string (gY (dS (gT ts 0).nu)))) (v:=fun ρ=>(.string (gY (([111,108,100,101,114,40]:List UInt8)++(dS (gT ts 0).nu))))) .add 9 (fun _ w=>bI ([111,108,100,101,114,40]:List UInt8) (dS (gT ts 0).nu) (by have q2:=bQ (n:=(gT ts 0).nu) (by have:=(ho.gT 0).nu;omega);have q3:=hx;simp only [List.length_cons,List.length_nil] at *;omega) w)<|cB (a:=fun ρ=>(.string (gY (([111,108,100,101,114,40]:List UInt8)++(dS (gT ts 0).nu))))) (b:=fun ρ=>(.string (gY ([44]:List UInt8)))) (v:=fun ρ=>(.string (gY ((([111,108,100,101,114,40]:List UInt8)++(dS (gT ts 0).nu))++([44]:List UInt8))))) .add 9 (fun _ w=>bI (([111,108,100,101,114,40]:List UInt8)++(dS (gT ts 0).nu)) ([44]:List UInt8) (by have q2:=bQ (n:=(gT ts 0).nu) (by have:=(ho.gT 0).nu;omega);have q3:=hx;simp only [List.length_append,List.length_cons,List.length_nil] at *;omega) w)<|cR [[]]<|cB (a:=fun ρ=>(.string (gY ((([111,108,100,101,114,40]:List UInt8)++(dS (gT ts 0).nu))++([44]:List UInt8))))) (b:=fun ρ=>(.string (gY x))) (v:=fun ρ=>(.string (gY (((([111,108,100,101,114,40]:List UInt8)++(dS (gT ts 0).nu))++([44]:List UInt8))++x)))) .add 9 (fun _ w=>bI ((([111,108,100,101,114,40]:List UInt8)++(dS (gT ts 0).nu))++([44]:List UInt8)) x (by have q2:=bQ (n:=(gT ts 0).nu) (by have:=(ho.gT 0).nu;omega);have q3:=hx;simp only [List.length_append,List.length_cons,List.length_nil] at *;omega) w)<|cB (a:=fun ρ=>(.string (gY (((([111,108,100,101,114,40]:List UInt8)++(dS (gT ts 0).nu))++([44]:List UInt8))++x)))) (b:=fun ρ=>(.string (gY ([41]:List UInt8)))) (v:=fun ρ=>(.string (gY ((((([111,108,100,101,114,40]:List UInt8)++(dS (gT ts 0).nu))++([44]:List UInt8))++x)++([41]:List UInt8))))) .add 9 (fun _ w=>bI (((([111,108,100,101,114,40]:List UInt8)++(dS (gT ts 0).nu))++([44]:List UInt8))++x) ([41]:List UInt8) (by have q2:=bQ (n:=(gT ts 0).nu) (by have:=(ho.gT 0).nu;omega);have q3:=hx;simp only [List.length_append,List.length_cons,List.length_nil] at *;omega) w)<|cR [[]]<|jW (fun ρ=>(((n:Nat):Int)+1)) (fun _=>(n+1)) (fun _=>(aW n 1 (by omega)))<|jE [[],[]]) (fun _=>?_)
  refine aF (aP (aC ?_))
  exact mR (v:=(.tuple #[.string (gY ((((([111,108,100,101,114,40]:List UInt8)++(dS (gT ts 0).nu))++([44]:List UInt8))++x)++([41]:List UInt8))),vn (n+1)])) (fun _ hS=>⟨congrArg (fun z=>Ending.returned (.tuple #[.string (gY z),vn (n+1)])) (rl4 (by have:=jP hb1;have:=xQ hb2;omega)),hS.bel⟩)
 rw [hb2]
 refine sS Tryz.f26 2 [0,2,3,4,7,8,82] [] (fun _=>[vT,vT]) (fun _=>[]) (jQ (fun ρ=>((gT ts 0).kd==5)) true (fun _=>(slT_q (show (gT ts 0).kd=5 by have e:(gT ts 0).kd=(gT ts 0).kd:=rfl;have:=jP hb1;have:=jP hb2;omega)))<|jE [[]]) (fun _=>?_)
 refine oY ?_
 refine sS Tryz.f26 12 [0,2,3,7,8] [0] (fun _=>let qa:=([104,97,115,104,40]:List UInt8);[jp (nb ρ2 3) 3,.slice (some ⟨nb ρ2 3,3,none⟩) (hL (gT ts 0).h).length 32,.string (gY (gX (hL (gT ts 0).h))),.string (gY (qa++(gX (hL (gT ts 0).h)))),.string (gY ((qa++(gX (hL (gT ts 0).h)))++([44]:List UInt8))),.string (gY x),.string (gY (((qa++(gX (hL (gT ts 0).h)))++([44]:List UInt8))++x)),.string (gY ((((qa++(gX (hL (gT ts 0).h)))++([44]:List UInt8))++x)++([41]:List UInt8))),vn n,vn (n+1),.string (gY ((((qa++(gX (hL (gT ts 0).h)))++([44]:List UInt8))++x)++([41]:List UInt8))),vn (n+1)]) (fun _=>[]) (cR [[],[]]<|cX (qC (fun _ _ w hG=>rhex_any (some ⟨nb ρ2 3,3,none⟩) 32 (hL (gT ts 0).h) (by rw [aO];decide) w (Bs.of_term (hG.kn (g:=nb ρ2 3) (o:=(cL (bW.row (gT ts 0)) 50)) 0))))<|cB (a:=fun ρ=>(.string (gY ([104,97,115,104,40]:List UInt8)))) (b:=fun ρ=>(.string (gY (gX (hL (gT ts 0).h))))) (v:=fun ρ=>(.string (gY (([104,97,115,104,40]:List UInt8)++(gX (hL (gT ts 0).h)))))) .add 9 (fun _ w=>bI ([104,97,115,104,40]:List UInt8) (gX (hL (gT ts 0).h)) (by have q2:=bQ (n:=(gT ts 0).nu) (by have:=(ho.gT 0).nu;omega);have q3:=hx;simp only [List.length_cons,List.length_nil,aK,aO] at *;omega) w)<|cB (a:=fun ρ=>(.string (gY (([104,97,115,104,40]:List UInt8)++(gX (hL (gT ts 0).h)))))) (b:=fun ρ=>(.string (gY ([44]:List UInt8)))) (v:=fun ρ=>(.string (gY ((([104,97,115,104,40]:List UInt8)++(gX (hL (gT ts 0).h)))++([44]:List UInt8))))) .add 9 (fun _ w=>bI (([104,97,115,104,40]:List UInt8)++(gX (hL (gT ts 0).h))) ([44]:List UInt8) (by have q2:=bQ (n:=(gT ts 0).nu) (by have:=(ho.gT 0).nu;omega);have q3:=hx;simp only [List.length_append,List.length_cons,List.length_nil,aK,aO] at *;omega) w)<|cR [[]]<|cB (a:=fun ρ=>(.string (gY ((([104,97,115,104,40]:List UInt8)++(gX (hL (gT ts 0).h)))++([44]:List UInt8))))) (b:=fun ρ=>(.string (gY x))) (v:=fun ρ=>(.string (gY (((([104,97,115,104,40]:List UInt8)++(gX (hL (gT ts 0).h)))++([44]:List UInt8))++x)))) .add 9 (fun _ w=>bI ((([104,97,115,104,40]:List UInt8)++(gX (hL (gT ts 0).h)))++([44]:List UInt8)) x (by have q2:=bQ (n:=(gT ts 0).nu) (by have:=(ho.gT 0).nu;omega);have q3:=hx;simp only [List.length_append,List.length_cons,List.length_nil,aK,aO] at *;omega) w)<|cB (a:=fun ρ=>(.string (gY (((([104,97,115,104,40]:List UInt8)++(gX (hL (gT ts 0).h)))++([44]:List UInt8))++x)))) (b:=fun ρ=>(.string (gY ([41]:List UInt8)))) (v:=fun ρ=>(.string (gY ((((([104,97,115,104,40]:List UInt8)++(gX (hL (gT ts 0).h)))++([44]:List UInt8))++x)++([41]:List UInt8))))) .add 9 (fun _ w=>bI (((([104,97,115,104,40]:List UInt8)++(gX (hL (gT ts 0).h)))++([44]:List UInt8))++x) ([41]:List UInt8) (by have q2:=bQ (n:=(gT ts 0).nu) (by have:=(ho.gT 0).nu;omega);have q3:=hx;simp only [List.length_append,List.length_cons,List.length_nil,aK,aO] at *;omega) w)<|cR [[]]<|jW (fun ρ=>(((n:Nat):Int)+1)) (fun _=>(n+1)) (fun _=>(aW n 1 (by omega)))<|jE [[],[]]) (fun _=>?_)
 refine aF (aP (aC ?_))
 exact mR (v:=(.tuple #[.string (gY ((((([104,97,115,104,40]:List UInt8)++(gX (hL (gT ts 0).h)))++([44]:List UInt8))++x)++([41]:List UInt8))),vn (n+1)])) (fun _ hS=>⟨congrArg (fun z=>Ending.returned (.tuple #[.string (gY z),vn (n+1)])) (rl5 (by have:=jP hb1;have:=jP hb2;omega)),hS.bel⟩)
theorem rbody6_any (a:Option Addr) (c:Nat) (ts:List bW) (x:List UInt8) (n:Nat) (y:List UInt8) (i:Nat) (hk:(gT ts 0).kd=6) (h0:0<ts.length) (hfd:(gT ts 0).fd=true) (_ho:mP ts) (_hq:TxS ts) (hx:x.length≤4000000) (hn9:n≤1000000) (ih:BrC ts.tail x n) (hy:y.length≤4000000) (hi9:i≤1000000) (hn:1+n≤ts.length) (ih2:BrC (ts.drop (1+n)) y i) (w0:World) (hf0:bM w0 a c ts):Calls Tryz.prog 26 #[.slice a ts.length c] w0 (jR (.tuple #[.string (gY (eiT x y)),vn (n+i+1)]) w0):=by
 refine Calls.of_ok (n:=112) (F:=(fun w=>bM w a c ts∧True)) Tryz.func26 rfl rfl rfl (by simp) (hf0.pers0.and cO) ?_
 have hkl:(gT ts 0).ks.length=0:=(by have:=(xAT _ _ _ _ _).1 hfd;unfold o7 at this;omega)
 have hlen:ts.length≤1000000:=hf0.max
 refine jJ Tryz.f26 2 [0,2,3] [.string ⟨#[]⟩,vi 0] ?_
 refine sS Tryz.f26 5 [0,2,3,4] [] (fun ρ=>[.slice a ts.length c,.pointer (fK a (0*36)),.agg (bW.row (gT ts 0)),pt (nb ρ 3),undef]) (fun ρ=>[(3,(nw ρ 3 (cL (iC 0 0 0 0 vz) 50))),(4,(bD 24 (nb ρ 3) (cL (bW.row (gT ts 0)) 50)))]) (cR [[]]<|cX (qF (fun _ _ _ hG=>bM.idx (k:=.i64) Tryz.underlying24 Tryz.sizeOf50 hG.fn.1 rfl (show 0=((0:Nat):Int) from rfl) (show 0<ts.length from h0)))<|cX (qF (fun _ _ _ hG=>bM.ldA (i:=0) Tryz.isAgg50 Tryz.sizeOf50 hG.fn.1 (show 0<ts.length from h0)))<|jE [[],[24]]) (fun ρ2=>?_)
 refine aB (jM Tryz.f26 2 [0,2,3,4,15] [] [pt (nb ρ2 3),vi (gT ts 0).kd] [[],[0]] (aI ?_))
 refine sS Tryz.f26 2 [0,2,3,4,15,16] [] (fun _=>[vF,vF]) (fun _=>[]) (jQ (fun ρ=>((gT ts 0).kd==1)) false (fun _=>(jK hk rfl))<|jE [[]]) (fun _=>?_)
 refine oN ?_
 refine sS Tryz.f26 2 [0,2,3,4,25] [] (fun _=>[vF,vF]) (fun _=>[]) (jQ (fun ρ=>((gT ts 0).kd==2)) false (fun _=>(jK hk rfl))<|jE [[]]) (fun _=>?_)
 refine oN ?_
 refine aG (aJ (aA ?_))
 refine iZ Tryz.f26 8 [0,2,3,4,7,8] [] (fun _=>[.slice a ts.length c,.slice (jA a c 1 36) ts.tail.length (c-1),.tuple #[.string (gY x),vn n],.tuple #[.string (gY x),vn n],.string (gY x),vn n,.string (gY x),vn n]) (fun _=>[]) (fun _=>[(1,fun w=>bM w (jA a c 1 36) (c-1) ts.tail)]) (fun _=>(fun w=>bM w a c ts∧bM w (jA a c 1 36) (c-1) ts.tail∧True)) (fun _=>True) (fun _ _ hF hf=>⟨⟨hF.1,hf 1,trivial⟩,trivial⟩) (cR [[]]<|cX (jF (fun _=>Instr.sliceAt 24 (.slice a ts.length c) (some (vi 1)) none none) (fun _=>(.slice (jA a c 1 36) ts.tail.length (c-1))) (fun _ _ _ hG=>fP (k:=1) Tryz.underlying24 Tryz.sizeOf50 rfl (jI (rfl)) h0 hG.fn.1.le (by rw [List.length_tail])) (fun _ _ w hG=>hG.facts0.mono (fun _ hF=>hF.1.tail h0)))<|cX (qC (fun _ _ w hG=>ih (jA a c 1 36) (c-1) w (show bM w (jA a c 1 36) (c-1) ts.tail from (hG.facts 1 rfl).now)))<|jE [[],[],[],[],[]]) (fun _ _=>?_)
 refine aB (jM Tryz.f26 2 [0,2,3,4,7,8,57] [] [pt (nb ρ2 3),vi (gT ts 0).kd] [[],[0]] ?_)
 refine lK [(0,(.slice a ts.length c)),(2,(.string ⟨#[]⟩)),(3,(vi 0)),(4,(pt (nb ρ2 3))),(7,(.string (gY x))),(8,(vn n)),(57,(vi (gT ts 0).kd))] [(nb ρ2 3,(cL (bW.row (gT ts 0)) 50))] ?_
 refine aI ?_
 refine sS Tryz.f26 2 [0,2,3,4,7,8,57,58] [] (fun _=>[vF,vF]) (fun _=>[]) (jQ (fun ρ=>((gT ts 0).kd==3)) false (fun _=>(jK hk rfl))<|jE [[]]) (fun _=>?_)
 refine oN ?_
 refine sS Tryz.f26 2 [0,2,3,4,7,8,57,70] [] (fun _=>[vF,vF]) (fun _=>[]) (jQ (fun ρ=>((gT ts 0).kd==4)) false (fun _=>(jK hk rfl))<|jE [[]]) (fun _=>?_)
 refine oN ?_
 refine sS Tryz.f26 2 [0,2,3,4,7,8,82] [] (fun _=>[vF,vF]) (fun _=>[]) (jQ (fun ρ=>((gT ts 0).kd==5)) false (fun _=>(jK hk rfl))<|jE [[]]) (fun _=>?_)
 refine oN ?_
 refine aG (aJ (aA ?_))
 refine iZ Tryz.f26 10 [2,3,7,8,9,10] [0] (fun _=>[.slice a ts.length c,vn n,vn (1+n),.slice (jA a c (1+n) 36) (ts.drop (1+n)).length (c-(1+n)),.tuple #[.string (gY y),vn i],.tuple #[.string (gY y),vn i],.string (gY y),vn i,.string (gY y),vn i]) (fun _=>[]) (fun _=>[(3,fun w=>bM w (jA a c (1+n) 36) (c-(1+n)) (ts.drop (1+n)))]) (fun _=>(fun w=>bM w a c ts∧bM w (jA a c 1 36) (c-1) ts.tail∧bM w (jA a c (1+n) 36) (c-(1+n)) (ts.drop (1+n))∧True)) (fun _=>True) (fun _ _ hF hf=>⟨⟨hF.1,hF.2.1,hf 3,trivial⟩,trivial⟩) (cR [[],[]]<|jW (fun ρ=>(1+((n:Nat):Int))) (fun _=>(1+n)) (fun _=>(aW 1 n (by omega)))<|cX (jF (fun _=>Instr.sliceAt 24 (.slice a ts.length c) (some (vn (1+n))) none none) (fun _=>(.slice (jA a c (1+n) 36) (ts.drop (1+n)).length (c-(1+n)))) (fun _ _ _ hG=>fP (k:=1+n) Tryz.underlying24 Tryz.sizeOf50 rfl (jI (rfl)) hn hG.fn.1.le (by rw [List.length_drop])) (fun _ _ w hG=>hG.facts0.mono (fun _ hF=>hF.1.drop hn)))<|cX (qC (fun _ _ w hG=>ih2 (jA a c (1+n) 36) (c-(1+n)) w (show bM w (jA a c (1+n) 36) (c-(1+n)) (ts.drop (1+n)) from (hG.facts 3 rfl).now)))<|jE [[],[],[],[],[]]) (fun _ _=>?_)
 refine sS Tryz.f26 12 [2,3] [] (fun _=>let qa:=([101,105,116,104,101,114,40]:List UInt8);[.string (gY x),.string (gY (qa++x)),.string (gY ((qa++x)++([44]:List UInt8))),.string (gY y),.string (gY (((qa++x)++([44]:List UInt8))++y)),.string (gY ((((qa++x)++([44]:List UInt8))++y)++([41]:List UInt8))),vn n,vn i,vn (n+i),vn ((n+i)+1),.string (gY ((((qa++x)++([44]:List UInt8))++y)++([41]:List UInt8))),vn ((n+i)+1)]) (fun _=>[]) (cR [[]]<|cB (a:=fun ρ=>(.string (gY ([101,105,116,104,101,114,40]:List UInt8)))) (b:=fun ρ=>(.string (gY x))) (v:=fun ρ=>(.string (gY (([101,105,116,104,101,114,40]:List UInt8)++x)))) .add 9 (fun _ w=>bI ([101,105,116,104,101,114,40]:List UInt8) x (by have q3:=hx;have q4:=hy;simp only [List.length_cons,List.length_nil] at *;omega) w)<|cB (a:=fun ρ=>(.string (gY (([101,105,116,104,101,114,40]:List UInt8)++x)))) (b:=fun ρ=>(.string (gY ([44]:List UInt8)))) (v:=fun ρ=>(.string (gY ((([101,105,116,104,101,114,40]:List UInt8)++x)++([44]:List UInt8))))) .add 9 (fun _ w=>bI (([101,105,116,104,101,114,40]:List UInt8)++x) ([44]:List UInt8) (by have q3:=hx;have q4:=hy;simp only [List.length_append,List.length_cons,List.length_nil] at *;omega) w)<|cR [[]]<|cB (a:=fun ρ=>(.string (gY ((([101,105,116,104,101,114,40]:List UInt8)++x)++([44]:List UInt8))))) (b:=fun ρ=>(.string (gY y))) (v:=fun ρ=>(.string (gY (((([101,105,116,104,101,114,40]:List UInt8)++x)++([44]:List UInt8))++y)))) .add 9 (fun _ w=>bI ((([101,105,116,104,101,114,40]:List UInt8)++x)++([44]:List UInt8)) y (by have q3:=hx;have q4:=hy;simp only [List.length_append,List.length_cons,List.length_nil] at *;omega) w)<|cB (a:=fun ρ=>(.string (gY (((([101,105,116,104,101,114,40]:List UInt8)++x)++([44]:List UInt8))++y)))) (b:=fun ρ=>(.string (gY ([41]:List UInt8)))) (v:=fun ρ=>(.string (gY ((((([101,105,116,104,101,114,40]:List UInt8)++x)++([44]:List UInt8))++y)++([41]:List UInt8))))) .add 9 (fun _ w=>bI (((([101,105,116,104,101,114,40]:List UInt8)++x)++([44]:List UInt8))++y) ([41]:List UInt8) (by have q3:=hx;have q4:=hy;simp only [List.length_append,List.length_cons,List.length_nil] at *;omega) w)<|cR [[],[]]<|jW (fun ρ=>(((n:Nat):Int)+((i:Nat):Int))) (fun _=>(n+i)) (fun _=>(aW n i (by omega)))<|jW (fun ρ=>(((n+i:Nat):Int)+1)) (fun _=>((n+i)+1)) (fun _=>(aW (n+i) 1 (by omega)))<|jE [[],[]]) (fun _=>?_)
 refine aF ?_
 exact mR (v:=(.tuple #[.string (gY ((((([101,105,116,104,101,114,40]:List UInt8)++x)++([44]:List UInt8))++y)++([41]:List UInt8))),vn ((n+i)+1)])) (fun _ hS=>⟨congrArg (fun z=>Ending.returned (.tuple #[.string (gY z),vn (n+i+1)])) (rfl),hS.bel⟩)
theorem rbody_all : ∀ (f : Nat) (s : Tq) (x : List UInt8) (s' : Tq), f ≤ 8 → bx f s = some (x, s') → TxS s.ts → mP s.ts → s.ts.length ≤ 1000000 → ∃ n, BrC s.ts x n ∧ s'.ts = s.ts.drop n ∧ n ≤ s.ts.length
  | 0,_,_,_,_,h,_,_,_=>by simp [bx] at h
  | f + 1, s, x, s', hf, h, hq, ho, hl => by
    have hp:2^f≤2^7:=Nat.pow_le_pow_right (by decide) (by omega)
    have big:∀ {x:List UInt8} {s s1:Tq},TxS s.ts→mP s.ts→bx f s=some (x,s1)→x.length≤4000000:=fun a b h=>by have:=bx_len f _ _ _ a b h;omega
    unfold bx at h
    split at h
    · exact absurd h (by simp)
    rename_i hc
    have h0:0<s.ts.length:=by omega
    have hfd:s.fst.fd=true:=by
      cases e:s.fst.fd with
      | true=>rfl
      | false=>exact absurd (Or.inr e) hc
    have hg:TqL s s.go:=TqL.go h0
    split at h
    · rename_i hk
      simp only [Option.some.injEq,Prod.mk.injEq] at h;rw [← h.1,← h.2]
      exact ⟨1,fun a c w0 hT=>rbody1_any a c s.ts hk h0 hfd ho hq w0 hT,List.drop_one.symm,h0⟩
    split at h
    · rename_i hk
      simp only [Option.some.injEq,Prod.mk.injEq] at h;rw [← h.1,← h.2]
      exact ⟨1,fun a c w0 hT=>rbody2_any a c s.ts hk h0 hfd ho hq w0 hT,List.drop_one.symm,h0⟩
    split at h
    · exact absurd h (by simp)
    rename_i k1 k2 _ a s1 e1
    have gq:TxS s.go.ts:=fun t ht=>hq t (hg.m t ht)
    have go:mP s.go.ts:=fun t ht=>ho t (hg.m t ht)
    have et:s.go.ts=s.ts.tail:=rfl
    obtain ⟨n,i1,q1,q3⟩:=rbody_all f _ _ _ (by omega) e1 gq go (by rw [et,List.length_tail];omega)
    rw [et] at i1 q1 q3
    rw [List.length_tail] at q3
    have d1:s.ts.tail.drop n=s.ts.drop (n+1):=by rw [← List.drop_one,List.drop_drop,Nat.add_comm]
    split at h
    · rename_i hk
      split at h
      · exact absurd h (by simp)
      rename_i b2 s2 e2
      have l1:=hg.trans (qL f _ _ _ e1)
      have g2:TxS s1.ts:=fun t ht=>hq t (l1.m t ht)
      have o2:mP s1.ts:=fun t ht=>ho t (l1.m t ht)
      have t1:s1.ts=s.ts.drop (1+n):=by rw [q1,d1,Nat.add_comm]
      obtain ⟨i,i2,r1,r3⟩:=rbody_all f _ _ _ (by omega) e2 g2 o2 (by rw [t1,List.length_drop];omega)
      have big2:=big g2 o2 e2
      rw [t1] at i2 r1 r3
      rw [List.length_drop] at r3
      simp only [Option.some.injEq,Prod.mk.injEq] at h;rw [← h.1,← h.2]
      refine ⟨n+i+1,fun a' c w0 hT=>rbody6_any a' c s.ts a n b2 i hk h0 hfd ho hq (big gq go e1) (by omega) i1 big2 (by omega) (by omega) i2 w0 hT,?_,by omega⟩
      rw [r1,List.drop_drop];congr 1;omega
    · split at h
      · rename_i hk
        have hk:s.fst.kd=3∨s.fst.kd=4∨s.fst.kd=5:=by omega
        simp only [Option.some.injEq,Prod.mk.injEq] at h;rw [← h.1,← h.2]
        exact ⟨n+1,fun a' c w0 hT=>rbody3_any a' c s.ts a n hk h0 hfd ho hq (big gq go e1) (by omega) i1 w0 hT,q1.trans d1,by omega⟩
      · exact absurd h (by simp)
def lX (ts:List bW):Int:=if xW ts=true then (if 16384<(bxB ts).length+9 then 4 else 0) else 260
def l7 (ts:List bW):List UInt8:=if lX ts=0 then bxB ts++([35]++gX ((hL (lV kX (bxB ts))).take 4)) else []
theorem kZ (S:List UInt8):(gX ((hL (lV kX S)).take 4)).length=8:=by rw [aK,List.length_take,aO];decide
section
variable {ts : List bW}
theorem tx_bad (h:xW ts=false):lX ts=260∧l7 ts=[]:=by
  have e:lX ts=260:=by unfold lX;rw [h];rfl
  exact ⟨e,by unfold l7;rw [e];rfl⟩
theorem tx_long (h:xW ts=true) (h1:16384<(bxB ts).length+9):lX ts=4∧l7 ts=[]:=by
  have e:lX ts=4:=by unfold lX;rw [if_pos h,if_pos h1]
  exact ⟨e,by unfold l7;rw [e];rfl⟩
theorem tx_ok (h:xW ts=true) (h1: ¬ 16384<(bxB ts).length+9):lX ts=0∧l7 ts=bxB ts++([35]++gX ((hL (lV kX (bxB ts))).take 4)):=by
  have e:lX ts=0:=by unfold lX;rw [if_pos h,if_neg h1]
  exact ⟨e,by unfold l7;rw [if_pos e]⟩
end
theorem dtextw_any (a:Option Addr) (c:Nat) (ts:List bW) (s1:Tq) (hB:xW ts=true→BdC ⟨a,c,ts⟩ (bxB ts) s1) (w0:World) (hf0:bM w0 a c ts) (hf1:qI w0) (hf2:kJ w0) (hf3:fU w0):Calls Tryz.prog 10 #[.slice a ts.length c] w0 (jR (.tuple #[.string (gY (l7 ts)),vi (lX ts)]) w0):=by
 refine Calls.of_ok (n:=23) (F:=(fun w=>bM w a c ts∧qI w∧kJ w∧fU w∧True)) Tryz.func10 rfl rfl rfl (by simp) (hf0.pers0.and (hf1.pers0.and (hf2.pers0.and (hf3.pers0.and cO)))) ?_
 refine jJ Tryz.f10 2 [0,2,3] [.string ⟨#[]⟩,vi 0] (aB ?_)
 refine sS Tryz.f10 3 [0,2,3,8] [] (fun _=>[.slice a ts.length c,.bool (xW ts),.bool (!(xW ts))]) (fun _=>[]) (cR [[]]<|cX (qC (fun _ _ w hG=>xBT a c ts w hG.fn.1))<|jE [[]]) (fun _=>?_)
 refine oC (!(xW ts)) (fun hb1=>?_) (fun hb1=>?_)
 ·
  rw [hb1]
  refine jJ Tryz.f10 2 [0,2,3] [.string ⟨#[]⟩,vi 260] (aF (aC ?_))
  exact mR (v:=(.tuple #[.string ⟨#[]⟩,vi 260])) (fun _ hS=>⟨by rw [(tx_bad (dF hb1)).1,(tx_bad (dF hb1)).2]<;>rfl,hS.bel⟩)
 rw [hb1]
 refine aG (aA ?_)
 refine sS Tryz.f10 7 [2,3,4] [] (fun _=>let qa:Value:=.slice s1.ta s1.ts.length s1.tc;[.slice a ts.length c,.tuple #[.string (gY (bxB ts)),qa],.tuple #[.string (gY (bxB ts)),qa],.string (gY (bxB ts)),qa,.string (gY (bxB ts)),qa]) (fun _=>[]) (cR [[]]<|cX (qC (fun _ _ w hG=>hB (aV hb1) w hG.fn.1 hG.fn.2.1))<|jE [[],[],[],[],[]]) (fun _=>?_)
 refine sS Tryz.f10 6 [2,3,4] [] (fun _=>[.string (gY (bxB ts)),.string (gY (bxB ts)),.string (gY (gX ((hL (lV kX (bxB ts))).take 4))),.string (gY (([35]:List UInt8)++(gX ((hL (lV kX (bxB ts))).take 4)))),.string (gY ((bxB ts)++(([35]:List UInt8)++(gX ((hL (lV kX (bxB ts))).take 4))))),.string (gY ((bxB ts)++(([35]:List UInt8)++(gX ((hL (lV kX (bxB ts))).take 4)))))]) (fun _=>[]) (cR [[],[]]<|cX (qC (fun _ _ w hG=>dsum_any (bxB ts) (by have q:=(lQ (aV hb1) hf0.oks).2;omega) w hG.fn.2.2.1 hG.fn.2.2.2.1))<|cB (a:=fun ρ=>(.string (gY ([35]:List UInt8)))) (b:=fun ρ=>(.string (gY (gX ((hL (lV kX (bxB ts))).take 4))))) (v:=fun ρ=>(.string (gY (([35]:List UInt8)++(gX ((hL (lV kX (bxB ts))).take 4)))))) .add 9 (fun _ w=>bI ([35]:List UInt8) (gX ((hL (lV kX (bxB ts))).take 4)) (by have q:=(lQ (aV hb1) hf0.oks).2;have q2:=kZ (bxB ts);simp only [List.length_cons,List.length_nil] at *;omega) w)<|cB (a:=fun ρ=>(.string (gY (bxB ts)))) (b:=fun ρ=>(.string (gY (([35]:List UInt8)++(gX ((hL (lV kX (bxB ts))).take 4)))))) (v:=fun ρ=>(.string (gY ((bxB ts)++(([35]:List UInt8)++(gX ((hL (lV kX (bxB ts))).take 4))))))) .add 9 (fun _ w=>bI (bxB ts) (([35]:List UInt8)++(gX ((hL (lV kX (bxB ts))).take 4))) (by have q:=(lQ (aV hb1) hf0.oks).2;have q2:=kZ (bxB ts);simp only [List.length_append,List.length_cons,List.length_nil] at *;omega) w)<|jE [[]]) (fun _=>?_)
 refine aB (jJ Tryz.f10 3 [2,3,4,21] [.string (gY ((bxB ts)++(([35]:List UInt8)++(gX ((hL (lV kX (bxB ts))).take 4))))),vn ((bxB ts)++(([35]:List UInt8)++(gX ((hL (lV kX (bxB ts))).take 4)))).length,.bool (decide (16384<((((bxB ts)++(([35]:List UInt8)++(gX ((hL (lV kX (bxB ts))).take 4)))).length:Nat):Int)))] ?_)
 refine oC (decide (16384<((((bxB ts)++(([35]:List UInt8)++(gX ((hL (lV kX (bxB ts))).take 4)))).length:Nat):Int))) (fun hb2=>?_) (fun hb2=>?_)
 ·
  rw [hb2]
  refine jJ Tryz.f10 2 [2,3,4] [.string ⟨#[]⟩,vi 4] (aF (aC ?_))
  exact mR (v:=(.tuple #[.string ⟨#[]⟩,vi 4])) (fun _ hS=>⟨by rw [(tx_long (aV hb1) (by have q1:=yT hb2;have q2:=kZ (bxB ts);simp only [List.length_append,List.length_cons,List.length_nil] at *;omega)).1,(tx_long (aV hb1) (by have q1:=yT hb2;have q2:=kZ (bxB ts);simp only [List.length_append,List.length_cons,List.length_nil] at *;omega)).2]<;>rfl,hS.bel⟩)
 rw [hb2]
 refine aG (aA (jJ Tryz.f10 3 [2,3] [.string (gY ((bxB ts)++(([35]:List UInt8)++(gX ((hL (lV kX (bxB ts))).take 4))))),.string (gY ((bxB ts)++(([35]:List UInt8)++(gX ((hL (lV kX (bxB ts))).take 4))))),vi 0] (aF ?_)))
 exact mR (v:=(.tuple #[.string (gY ((bxB ts)++(([35]:List UInt8)++(gX ((hL (lV kX (bxB ts))).take 4))))),vi 0])) (fun _ hS=>⟨by rw [(tx_ok (aV hb1) (by have q1:=yF hb2;have q2:=kZ (bxB ts);simp only [List.length_append,List.length_cons,List.length_nil] at *;omega)).1,(tx_ok (aV hb1) (by have q1:=yF hb2;have q2:=kZ (bxB ts);simp only [List.length_append,List.length_cons,List.length_nil] at *;omega)).2]<;>rfl,hS.bel⟩)
theorem rdtextw_any (a:Option Addr) (c:Nat) (ts:List bW) (n:Nat) (hB:xW ts=true→BrC ts (bxB ts) n) (w0:World) (hf0:bM w0 a c ts):Calls Tryz.prog 11 #[.slice a ts.length c] w0 (jR (.tuple #[.string (gY (l7 ts)),vi (lX ts)]) w0):=by
 refine Calls.of_ok (n:=23) (F:=(fun w=>bM w a c ts∧True)) Tryz.func11 rfl rfl rfl (by simp) (hf0.pers0.and cO) ?_
 refine jJ Tryz.f11 2 [0,2,3] [.string ⟨#[]⟩,vi 0] (aB ?_)
 refine sS Tryz.f11 3 [0,2,3,8] [] (fun _=>[.slice a ts.length c,.bool (xW ts),.bool (!(xW ts))]) (fun _=>[]) (cR [[]]<|cX (qC (fun _ _ w hG=>rdvalid_any a c ts w hG.fn.1))<|jE [[]]) (fun _=>?_)
 refine oC (!(xW ts)) (fun hb1=>?_) (fun hb1=>?_)
 ·
  rw [hb1]
  refine jJ Tryz.f11 2 [0,2,3] [.string ⟨#[]⟩,vi 260] (aF (aC ?_))
  exact mR (v:=(.tuple #[.string ⟨#[]⟩,vi 260])) (fun _ hS=>⟨by rw [(tx_bad (dF hb1)).1,(tx_bad (dF hb1)).2]<;>rfl,hS.bel⟩)
 rw [hb1]
 refine aG (aA ?_)
 refine sS Tryz.f11 7 [2,3,4] [] (fun _=>[.slice a ts.length c,.tuple #[.string (gY (bxB ts)),vn n],.tuple #[.string (gY (bxB ts)),vn n],.string (gY (bxB ts)),vn n,.string (gY (bxB ts)),vn n]) (fun _=>[]) (cR [[]]<|cX (qC (fun _ _ w hG=>hB (aV hb1) a c w hG.fn.1))<|jE [[],[],[],[],[]]) (fun _=>?_)
 refine aB ?_
 refine sS Tryz.f11 4 [2,3,4,17] [] (fun _=>[.string (gY (bxB ts)),vn (bxB ts).length,vi ((((bxB ts).length:Nat):Int)+9),.bool (decide (16384<((((bxB ts).length:Nat):Int)+9)))]) (fun _=>[]) (cR [[],[]]<|jU (fun ρ=>((((bxB ts).length:Nat):Int)+9)) (fun _=>((((bxB ts).length:Nat):Int)+9)) (fun _=>(gZ (by have q:=(lQ (aV hb1) hf0.oks).2;omega)))<|jE [[]]) (fun _=>?_)
 refine oC (decide (16384<((((bxB ts).length:Nat):Int)+9))) (fun hb2=>?_) (fun hb2=>?_)
 ·
  rw [hb2]
  refine jJ Tryz.f11 2 [2,3,4] [.string ⟨#[]⟩,vi 4] (aF (aC ?_))
  exact mR (v:=(.tuple #[.string ⟨#[]⟩,vi 4])) (fun _ hS=>⟨by rw [(tx_long (aV hb1) (by have q1:=yT hb2;have q2:=kZ (bxB ts);simp at *;omega)).1,(tx_long (aV hb1) (by have q1:=yT hb2;have q2:=kZ (bxB ts);simp at *;omega)).2]<;>rfl,hS.bel⟩)
 rw [hb2]
 refine aG (aA ?_)
 refine sS Tryz.f11 7 [2,3] [] (fun _=>[.string (gY (bxB ts)),.string (gY ((bxB ts)++([35]:List UInt8))),.string (gY (bxB ts)),.string (gY (gX ((hL (lV kX (bxB ts))).take 4))),.string (gY (((bxB ts)++([35]:List UInt8))++(gX ((hL (lV kX (bxB ts))).take 4)))),.string (gY (((bxB ts)++([35]:List UInt8))++(gX ((hL (lV kX (bxB ts))).take 4)))),vi 0]) (fun _=>[]) (cR [[]]<|cB (a:=fun ρ=>(.string (gY (bxB ts)))) (b:=fun ρ=>(.string (gY ([35]:List UInt8)))) (v:=fun ρ=>(.string (gY ((bxB ts)++([35]:List UInt8))))) .add 9 (fun _ w=>bI (bxB ts) ([35]:List UInt8) (by have q:=(lQ (aV hb1) hf0.oks).2;have q2:=kZ (bxB ts);simp only [List.length_cons,List.length_nil] at *;omega) w)<|cR [[]]<|cC (fun _ w=>rdsum_any (bxB ts) (by have q:=(lQ (aV hb1) hf0.oks).2;omega) w)<|cB (a:=fun ρ=>(.string (gY ((bxB ts)++([35]:List UInt8))))) (b:=fun ρ=>(.string (gY (gX ((hL (lV kX (bxB ts))).take 4))))) (v:=fun ρ=>(.string (gY (((bxB ts)++([35]:List UInt8))++(gX ((hL (lV kX (bxB ts))).take 4)))))) .add 9 (fun _ w=>bI ((bxB ts)++([35]:List UInt8)) (gX ((hL (lV kX (bxB ts))).take 4)) (by have q:=(lQ (aV hb1) hf0.oks).2;have q2:=kZ (bxB ts);simp only [List.length_append,List.length_cons,List.length_nil] at *;omega) w)<|jE [[],[]]) (fun _=>?_)
 refine aF ?_
 exact mR (v:=(.tuple #[.string (gY (((bxB ts)++([35]:List UInt8))++(gX ((hL (lV kX (bxB ts))).take 4)))),vi 0])) (fun _ hS=>⟨by rw [(tx_ok (aV hb1) (by have q1:=yF hb2;have q2:=kZ (bxB ts);simp at *;omega)).1,(tx_ok (aV hb1) (by have q1:=yF hb2;have q2:=kZ (bxB ts);simp at *;omega)).2];simp only [List.append_assoc],hS.bel⟩)
theorem dtext_any (a:Option Addr) (c:Nat) (ts:List bW) (w0:World) (hf0:bM w0 a c ts) (hf1:qI w0) (hf2:kJ w0) (hf3:fU w0):Calls Tryz.prog 10 #[.slice a ts.length c] w0 (jR (.tuple #[.string (gY (l7 ts)),.int .i64 (lX ts)]) w0):=by
  by_cases hv:xW ts=true
  · obtain ⟨s1, h⟩ := bx_go hv a c
    exact dtextw_any a c ts s1 (fun _=>body_all 8 _ _ _ (Nat.le_refl 8) h (lQ hv hf0.oks).1 hf0.oks) w0 hf0 hf1 hf2 hf3
  · exact dtextw_any a c ts ⟨a,c,ts⟩ (fun h=>absurd h hv) w0 hf0 hf1 hf2 hf3
theorem rdtext_any (a:Option Addr) (c:Nat) (ts:List bW) (w0:World) (hf0:bM w0 a c ts):Calls Tryz.prog 11 #[.slice a ts.length c] w0 (jR (.tuple #[.string (gY (l7 ts)),.int .i64 (lX ts)]) w0):=by
  by_cases hv:xW ts=true
  · obtain ⟨s', h⟩ := bx_go hv none 0
    obtain ⟨n,h1,_⟩:=rbody_all 8 _ _ _ (Nat.le_refl 8) h (lQ hv hf0.oks).1 hf0.oks hf0.max
    exact rdtextw_any a c ts n (fun _=>h1) w0 hf0
  · exact rdtextw_any a c ts 0 (fun h=>absurd h hv) w0 hf0
def fA (zs:List Int) (j:Nat):Nat:=dN zs (j+8) 2
def lT (zs:List Int) (j:Nat):List Nat:=(List.range (fA zs j)).map fun m=>dN zs (j+9+m) 4
theorem ptn_0 {zs:List Int} {j:Nat} (h:decide (0<((dN zs (j+8) 2:Nat):Int))=false):fA zs j=0:=by have:=of_decide_eq_false h;unfold fA;omega
theorem ptn_1 {zs:List Int} {j:Nat} (h:decide (0<((dN zs (j+8) 2:Nat):Int))=true):fA zs j=1:=by
  have:=of_decide_eq_true h;have:=iQ zs (j+8) (n:=2) (by decide);unfold fA;omega
theorem ptP_0 {zs:List Int} {j:Nat} (h:fA zs j=0):nI (lT zs j)=[]:=by unfold lT;rw [h];rfl
theorem ptP_1 {zs:List Int} {j:Nat} (h:fA zs j=1):nI (lT zs j)=[((dN zs (j+9) 4:Nat):Int)]:=by unfold lT;rw [h];rfl
theorem ptP_32 (zs:List Int) (j:Nat):∀ i∈lT zs j,i<4294967296:=by
  intro i hi
  obtain ⟨m,_,rfl⟩:=List.mem_map.1 hi
  exact Nat.lt_of_lt_of_le (iQ _ _ (by decide)) (by decide)
def ptB (zs:List Int) (j:Nat):Bool:=((dN zs (j+7) 2:Nat):Int)==0
def eG (zs:List Int) (j:Nat):Ky:=mkK zs (j+1) (((dN zs j 3:Nat):Int)==0)
theorem ptK_ok (zs:List Int) (j:Nat):(eG zs j).Ok:=mkK_ok _ _ _
def ptA (zs:List Int) (j:Nat) (a:Option Addr) (c:Nat):dO:=⟨eG zs j,lT zs j,ptB zs j,a,c⟩
theorem pX (zs:List Int) (j:Nat) (a:Option Addr) (c:Nat):(ptA zs j a c).Ok:=⟨ptK_ok zs j,by
  have:=iQ zs (j+1+3) (n:=3) (by decide)
  show rng ((dN zs (j+1+3) 3:Nat):Int)
  unfold rng;omega,ptP_32 zs j⟩
theorem kW (zs:List Int) (j:Nat) (a:Option Addr) (c:Nat):SoftK (ptA zs j a c):=⟨mkK_snd _ _ _,fun i hi=>by
  obtain ⟨m,_,rfl⟩:=List.mem_map.1 hi
  have:=iQ zs (j+9+m) (n:=4) (by decide)
  exact decide_eq_false (by omega)⟩
def tN (kd:Int) (n:Nat):bW:=⟨kd,0,n,0,[],none,0⟩
def tH (h:Nat):bW:=⟨5,0,0,h,[],none,0⟩
def tE:bW:=⟨6,0,0,0,[],none,0⟩
def tK (zs:List Int) (j:Nat) (a:Option Addr) (c g:Nat):bW:=⟨1,0,0,0,[ptA zs j a c],some ⟨g,0,none⟩,1⟩
def tM (m:Nat) (zs:List Int) (j:Nat) (a:Option Addr) (c:Nat) (j2:Nat) (a2:Option Addr) (c2 g:Nat):bW:=⟨2,(m:Int),0,0,[ptA zs j a c,ptA zs j2 a2 c2],some ⟨g,0,none⟩,2⟩
def mX (n:Nat) (a:Option Addr):Prop:=∀ p,a=some p→n≤p.block
theorem mX.some {n g:Nat} (h:n≤g):mX n (some ⟨g,0,none⟩):=fun p hp=>by
  obtain rfl:(⟨g,0,none⟩:Addr)=p:=by simpa using hp
  exact h
theorem mX.ap {n m:Nat} {a:Option Addr} (h:mX n a) {T:Nat→Prop} (hT:∀ b,T b→b<n):Apart T a m:=fun p hp _ ht=>by
  have h1:=h p hp
  have h2:=hT _ ht
  omega
theorem mX.none {n:Nat}:mX n none:=fun _ h=>absurd h (by simp)
def KjF (w0 w:World) (ks:List dO):Prop:=∀ p∈ks,Fi w0 w .u32 p.pa p.pc (nI p.ps)
structure KpN (w0 w:World) (a:Option Addr) (c:Nat) (ks:List dO):Prop where
  f:oG w a c ks
  n:mX w0.heap.size a
  p:KjF w0 w ks
theorem KjF.nil {w0 w:World}:KjF w0 w []:=fun _ h=>absurd h (by simp)
theorem KpN.nil {w0 w:World}:KpN w0 w none 0 []:=⟨oG.nil,mX.none,KjF.nil⟩
theorem KpN.pers {w0 w:World} {a:Option Addr} {c:Nat} {ks:List dO} (h:KpN w0 w a c ks) {T:Nat→Prop} (hT:∀ b,T b→b<w0.heap.size):dL T (fun w=>oG w a c ks) w :=
  oG.mkP h.f.le h.f.max (h.f.rows.pers (h.n.ap hT)) (fun p hp=>(h.p p hp).pers hT) h.f.ok
theorem kK_one (p:dO):kK.A p.row [p] 1:=⟨by show p.row.toList.take _=_;rw [kK_r];simp only [kpR,List.flatMap_cons,List.flatMap_nil,List.append_nil,List.take_length],kK.r_len _,Nat.le_refl _,by have:=dO.row_len p;rw [Array.length_toList] at this;rw [this]⟩
section
variable {B : Base} {w : World} {h : List (Nat × Obj)} {F : World → Prop} {g : Nat}
theorem St.frozKN (hS:St B h F w) (k:Nat) {C:Array Value} {e:TypeId} {fr:Nat × Nat} {N:List dO} {c:Nat} (hA:kK.A C N c) (hm:N.length≤1000000) (hok:∀ p∈N,p.Ok) (hF:∀ w,F w→KjF B.w w N) (hn0:B.w.heap.size≤g) (ks':List Nat) {h':List (Nat × Obj)}
    (hk:h[k]? = some (g,.cells C e fr):=by kernel_rfl) (hh:oW ks' (h.eraseIdx k)=h':=by kernel_rfl):St B h' (fun w=>KpN B.w w (some ⟨g,0,none⟩) c N∧F w) w:=by
  refine hS.froz k hk ks' hh (fun _ hg hn=>?_)
  have hsub:∀ b,b∈h'.map (·.1)→b∈h.map (·.1):=fun b hb=>((((hh ▸ jX ks' _:List.Sublist h' (h.eraseIdx k)).trans (List.eraseIdx_sublist h k)).map _).subset hb)
  have hP:dL (fun b=>b∈h'.map (·.1)) (fun w=>KjF B.w w N) w:=(hS.facts.sub hsub).mono hF
  have hrow:Rs w (some ⟨g,0,none⟩) (kpR N):=by rw [← kK_r];exact Rs.of_av hg hA
  exact ((oG.mkP hA.le hm (hrow.pers (fun p hp _ hx=>by
      obtain rfl:(⟨g,0,none⟩:Addr)=p:=by simpa using hp
      exact hn hx)) (fun p hp=>hP.mono (fun w hw=>(hw p hp).1)) hok).and hP).mono (fun _ hw=>⟨hw.1,mX.some hn0,hw.2⟩)
end
theorem St.subM {B:Base} {w:World} {h:List (Nat × Obj)} {F:World→Prop} (hS:St B h F w) (ks:List Nat) {h':List (Nat × Obj)} (hh:oW ks h=h':=by kernel_rfl):St B h' F w:=hS.sub (hh ▸ jX ks h)
def MdF (w0 w:World) (us:List bW):Prop:=∀ t∈us,t.Ok∧KpN w0 w t.ka t.kc t.ks∧SoftL t
theorem MdF.one {w0 w:World} {t:bW} (h:t.Ok) (k:KpN w0 w t.ka t.kc t.ks) (s:SoftL t):MdF w0 w [t]:=fun x hx=>by rw [List.mem_singleton.1 hx];exact ⟨h,k,s⟩
theorem MdF.two {w0 w:World} {t u:bW} (h:MdF w0 w [t]) (k:MdF w0 w [u]):MdF w0 w [t,u]:=fun x hx=>(List.mem_cons.1 hx).elim (fun e=>h x (List.mem_singleton.2 e)) (k x)
theorem MdF.made {w0 w:World} {us:List bW} (h:MdF w0 w us) {T:Nat→Prop} (hT:∀ b,T b→b<w0.heap.size):∀ t∈us,MadeT T w t:=fun t ht=>⟨(h t ht).1,(h t ht).2.1.pers hT,(h t ht).2.2⟩
theorem KjF.one {w0 w:World} {p:dO} (h:Fi w0 w .u32 p.pa p.pc (nI p.ps)):KjF w0 w [p]:=fun x hx=>by rw [List.mem_singleton.1 hx];exact h
end Go.Proofs.YtegagmoldjiaaaaGreatDoor
