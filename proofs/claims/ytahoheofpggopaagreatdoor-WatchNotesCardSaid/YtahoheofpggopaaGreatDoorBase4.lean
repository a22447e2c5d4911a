/-
  What this statement needs, part 4: the texts of it, one behind the other.
-/
import Derived.Test.YtahoheofpggopaaGreatDoorBase3
set_option maxRecDepth 100000
namespace Go.Proofs.YtahoheofpggopaaGreatDoor
open Go Go.RowKit
theorem dkids_any (z:Int) (w0:World):Calls Tryz.prog 75 #[vi z] w0 (jR (vi (nO z)) w0):=by
 refine Calls.of_ok (n:=13) (F:=(fun _=>True)) Tryz.func75 rfl rfl rfl (by simp) jT ?_
 refine jJ Tryz.f75 1 [0,2] [vi 0] (aB (jJ Tryz.f75 1 [2,3] [vi z] (aI (aB (jJ Tryz.f75 2 [2,3,4] [.bool (z==1),.bool (z==1)] ?_)))))
 refine oC (z==1) (fun hb1=>?_) (fun hb1=>?_)
 ·
  rw [hb1]
  refine aG (aA ?_)
  refine oY ?_
  refine jJ Tryz.f75 1 [2] [vi 0] (aF (aP (aC ?_)))
  exact mR (v:=(vi 0)) (fun _ hS=>⟨congrArg (fun x=>Ending.returned (vi x)) (kd_1 (by have:=xQ hb1;omega)),hS.bel⟩)
 rw [hb1]
 refine jL Tryz.f75 2 [2,3,4] [] [.bool (z==2),.bool (z==2)] [[],[]] (aA ?_)
 refine oC (z==2) (fun hb2=>?_) (fun hb2=>?_)
 ·
  rw [hb2]
  refine jJ Tryz.f75 1 [2] [vi 0] (aF (aP (aC ?_)))
  exact mR (v:=(vi 0)) (fun _ hS=>⟨congrArg (fun x=>Ending.returned (vi x)) (kd_1 (by have:=jP hb1;have:=xQ hb2;omega)),hS.bel⟩)
 rw [hb2]
 refine aB (jJ Tryz.f75 2 [2,3,7] [.bool (z==3),.bool (z==3)] ?_)
 refine oC (z==3) (fun hb3=>?_) (fun hb3=>?_)
 ·
  rw [hb3]
  refine aG (aA ?_)
  refine oY ?_
  refine jJ Tryz.f75 1 [2] [vi 1] (aF (aP (aC ?_)))
  exact mR (v:=(vi 1)) (fun _ hS=>⟨congrArg (fun x=>Ending.returned (vi x)) (kd_3 (by have:=jP hb1;have:=jP hb2;have:=xQ hb3;omega)),hS.bel⟩)
 rw [hb3]
 refine jJ Tryz.f75 2 [2,3,7] [.bool (z==4),.bool (z==4)] ?_
 refine oC (z==4) (fun hb4=>?_) (fun hb4=>?_)
 ·
  rw [hb4]
  refine aG (aA ?_)
  refine oY ?_
  refine jJ Tryz.f75 1 [2] [vi 1] (aF (aP (aC ?_)))
  exact mR (v:=(vi 1)) (fun _ hS=>⟨congrArg (fun x=>Ending.returned (vi x)) (kd_3 (by have:=jP hb1;have:=jP hb2;have:=jP hb3;have:=xQ hb4;omega)),hS.bel⟩)
 rw [hb4]
 refine jL Tryz.f75 2 [2,3,7] [] [.bool (z==5),.bool (z==5)] [[],[]] (aA ?_)
 refine oC (z==5) (fun hb5=>?_) (fun hb5=>?_)
 ·
  rw [hb5]
  refine jJ Tryz.f75 1 [2] [vi 1] (aF (aP (aC ?_)))
  exact mR (v:=(vi 1)) (fun _ hS=>⟨congrArg (fun x=>Ending.returned (vi x)) (kd_3 (by have:=jP hb1;have:=jP hb2;have:=jP hb3;have:=jP hb4;have:=xQ hb5;omega)),hS.bel⟩)
 rw [hb5]
 refine jJ Tryz.f75 2 [2,11] [.bool (z==6),.bool (z==6)] ?_
 refine lK [(2,(vi 0)),(11,(.bool (z==6)))] [] ?_
 refine oC (z==6) (fun hb6=>?_) (fun hb6=>?_)
 ·
  rw [hb6]
  refine jJ Tryz.f75 1 [2] [vi 2] (aF (aP (aC ?_)))
  exact mR (v:=(vi 2)) (fun _ hS=>⟨congrArg (fun x=>Ending.returned (vi x)) (kd_6 (by have:=jP hb1;have:=jP hb2;have:=jP hb3;have:=jP hb4;have:=jP hb5;have:=xQ hb6;omega)),hS.bel⟩)
 rw [hb6]
 refine aG (aJ (aA (jJ Tryz.f75 1 [2] [vi (-1)] (aF ?_))))
 exact mR (v:=(vi (-1))) (fun _ hS=>⟨congrArg (fun x=>Ending.returned (vi x)) (kd_0 (by have:=jP hb1;have:=jP hb2;have:=jP hb3;have:=jP hb4;have:=jP hb5;have:=jP hb6;omega)),hS.bel⟩)
theorem rdkids_any (z:Int) (w0:World):Calls Tryz.prog 81 #[vi z] w0 (jR (vi (nO z)) w0):=by
 refine Calls.of_ok (n:=13) (F:=(fun _=>True)) Tryz.func81 rfl rfl rfl (by simp) jT ?_
 refine jJ Tryz.f81 1 [0,2] [vi 0] (aB (jJ Tryz.f81 1 [2,3] [vi z] (aI (aB (jJ Tryz.f81 2 [2,3,4] [.bool (z==1),.bool (z==1)] ?_)))))
 refine oC (z==1) (fun hb1=>?_) (fun hb1=>?_)
 ·
  rw [hb1]
  refine aG (aA ?_)
  refine oY ?_
  refine jJ Tryz.f81 1 [2] [vi 0] (aF (aP (aC ?_)))
  exact mR (v:=(vi 0)) (fun _ hS=>⟨congrArg (fun x=>Ending.returned (vi x)) (kd_1 (by have:=xQ hb1;omega)),hS.bel⟩)
 rw [hb1]
 refine jL Tryz.f81 2 [2,3,4] [] [.bool (z==2),.bool (z==2)] [[],[]] (aA ?_)
 refine oC (z==2) (fun hb2=>?_) (fun hb2=>?_)
 ·
  rw [hb2]
  refine jJ Tryz.f81 1 [2] [vi 0] (aF (aP (aC ?_)))
  exact mR (v:=(vi 0)) (fun _ hS=>⟨congrArg (fun x=>Ending.returned (vi x)) (kd_1 (by have:=jP hb1;have:=xQ hb2;omega)),hS.bel⟩)
 rw [hb2]
 refine aB (jJ Tryz.f81 2 [2,3,7] [.bool (z==3),.bool (z==3)] ?_)
 refine oC (z==3) (fun hb3=>?_) (fun hb3=>?_)
 ·
  rw [hb3]
  refine aG (aA ?_)
  refine oY ?_
  refine jJ Tryz.f81 1 [2] [vi 1] (aF (aP (aC ?_)))
  exact mR (v:=(vi 1)) (fun _ hS=>⟨congrArg (fun x=>Ending.returned (vi x)) (kd_3 (by have:=jP hb1;have:=jP hb2;have:=xQ hb3;omega)),hS.bel⟩)
 rw [hb3]
 refine jJ Tryz.f81 2 [2,3,7] [.bool (z==4),.bool (z==4)] ?_
 refine oC (z==4) (fun hb4=>?_) (fun hb4=>?_)
 ·
  rw [hb4]
  refine aG (aA ?_)
  refine oY ?_
  refine jJ Tryz.f81 1 [2] [vi 1] (aF (aP (aC ?_)))
  exact mR (v:=(vi 1)) (fun _ hS=>⟨congrArg (fun x=>Ending.returned (vi x)) (kd_3 (by have:=jP hb1;have:=jP hb2;have:=jP hb3;have:=xQ hb4;omega)),hS.bel⟩)
 rw [hb4]
 refine jL Tryz.f81 2 [2,3,7] [] [.bool (z==5),.bool (z==5)] [[],[]] (aA ?_)
 refine oC (z==5) (fun hb5=>?_) (fun hb5=>?_)
 ·
  rw [hb5]
  refine jJ Tryz.f81 1 [2] [vi 1] (aF (aP (aC ?_)))
  exact mR (v:=(vi 1)) (fun _ hS=>⟨congrArg (fun x=>Ending.returned (vi x)) (kd_3 (by have:=jP hb1;have:=jP hb2;have:=jP hb3;have:=jP hb4;have:=xQ hb5;omega)),hS.bel⟩)
 rw [hb5]
 refine jJ Tryz.f81 2 [2,11] [.bool (z==6),.bool (z==6)] ?_
 refine lK [(2,(vi 0)),(11,(.bool (z==6)))] [] ?_
 refine oC (z==6) (fun hb6=>?_) (fun hb6=>?_)
 ·
  rw [hb6]
  refine jJ Tryz.f81 1 [2] [vi 2] (aF (aP (aC ?_)))
  exact mR (v:=(vi 2)) (fun _ hS=>⟨congrArg (fun x=>Ending.returned (vi x)) (kd_6 (by have:=jP hb1;have:=jP hb2;have:=jP hb3;have:=jP hb4;have:=jP hb5;have:=xQ hb6;omega)),hS.bel⟩)
 rw [hb6]
 refine aG (aJ (aA (jJ Tryz.f81 1 [2] [vi (-1)] (aF ?_))))
 exact mR (v:=(vi (-1))) (fun _ hS=>⟨congrArg (fun x=>Ending.returned (vi x)) (kd_0 (by have:=jP hb1;have:=jP hb2;have:=jP hb3;have:=jP hb4;have:=jP hb5;have:=jP hb6;omega)),hS.bel⟩)
theorem dwhole_any (a:Option Addr) (c:Nat) (ts:List bW) (w0:World) (hf0:bM w0 a c ts):Calls Tryz.prog 52 #[.slice a ts.length c] w0 (jR (.bool (vG 1 ts)) w0):=by
 refine Calls.of_ok (n:=29) (F:=(fun w=>bM w a c ts∧True)) Tryz.func52 rfl rfl rfl (by simp) (hf0.pers0.and cO) ?_
 have hlen:ts.length≤1000000:=hf0.max
 have ho:mP ts:=hf0.oks
 refine jJ Tryz.f52 1 [0,2] [vF] (jJ Tryz.f52 1 [0,2,3] [vi 1] (aB (jJ Tryz.f52 3 [2,3,7,8,9] [.slice a ts.length c,vn ts.length,vi 0] (aI ?_))))
 refine oL (σ:=Nat × Int) (fun ⟨i,m⟩=>[(3,(vi m)),(7,(.slice a ts.length c)),(8,(vn ts.length)),(9,(vn i))]) (fun ⟨_,_⟩=>[]) (fun ⟨i,_⟩=>ts.length-i)
   (fun ⟨i,m⟩=>(i≤ts.length)∧(0≤m∧m≤1+(i:Int))∧(vG m (ts.drop i)=vG 1 ts)) (0,1) (⟨Nat.zero_le _,by decide,rfl⟩) [] ?_
 rintro ⟨i,m⟩ ⟨hi,hm,hr⟩
 change Ok Tryz.prog _ _ 29 [(3,(vi m)),(7,(.slice a ts.length c)),(8,(vn ts.length)),(9,(vn i))] _ [] (fun w=>bM w a c ts∧True)
 refine jJ Tryz.f52 1 [3,7,8,9,10] [.bool (decide (((i:Nat):Int)<((ts.length:Nat):Int)))] (aB ?_)
 refine oC (decide (((i:Nat):Int)<((ts.length:Nat):Int))) (fun hb1=>?_) (fun hb1=>?_)
 ·
  rw [hb1]
  have:=yT hb1
  refine aG (aA (aB (aI ?_)))
  refine sS Tryz.f52 4 [3,5,7,8,9] [] (fun ρ=>[.pointer (fK a (i*36)),.agg (bW.row (gT ts i)),pt (nb ρ 2),undef]) (fun ρ=>[(2,(nw ρ 2 (cL (iC 0 0 0 0 vz) 60))),(3,(bD 16 (nb ρ 2) (cL (bW.row (gT ts i)) 60)))]) (cX (qF (fun _ _ _ hG=>bM.idx (k:=.i64) Tryz.underlying24 Tryz.sizeOf60 hG.fn.1 rfl (show ((i:Nat):Int)=((i:Nat):Int) from rfl) (show i<ts.length from (by omega))))<|cX (qF (fun _ _ _ hG=>bM.ldA (i:=i) Tryz.isAgg60 Tryz.sizeOf60 hG.fn.1 (show i<ts.length from (by omega))))<|jE [[],[16]]) (fun ρ5=>?_)
  refine sS Tryz.f52 4 [3,6,7,8,9] [0] (fun _=>[pt (nb ρ5 2),vi (gT ts i).kd,vi (nO (gT ts i).kd),vi (nO (gT ts i).kd)]) (fun _=>[]) (cR [[],[0]]<|cC (fun _ w=>dkids_any (gT ts i).kd w)<|jE [[]]) (fun _=>?_)
  refine aB ?_
  rcases Bool.eq_false_or_eq_true (m==0) with hb2 | hb2
  ·
   refine sS Tryz.f52 6 [3,6,7,8,9,21] [] (fun _=>[vi m,vT,vT,undef,undef,vT]) (fun _=>[]) (cR [[]]<|cA (fun _=>vT) (fun _=>congrArg Value.bool hb2)<|jE [[],[],[],[]]) (fun _=>?_)
   refine oY ?_
   refine jJ Tryz.f52 1 [2,3,6,7,8,9] [vF] (aF (aC (aP (aC (aC (aP (aC ?_)))))))
   exact mR (v:=vF) (fun _ hS=>⟨jB (wh_stop (by omega) (Or.inl (xQ hb2)) hr).symm,hS.bel⟩)
  refine sS Tryz.f52 6 [3,6,7,8,9,21] [] (fun _=>let qa:Value:=.bool (decide ((nO (gT ts i).kd)<0));[vi m,vF,vF,vi (nO (gT ts i).kd),qa,qa]) (fun _=>[]) (cR [[]]<|cA (fun _=>vF) (fun _=>congrArg Value.bool hb2)<|jE [[],[],[],[]]) (fun _=>?_)
  refine oC (decide ((nO (gT ts i).kd)<0)) (fun hb3=>?_) (fun hb3=>?_)
  ·
   rw [hb3]
   refine jJ Tryz.f52 1 [2,3,6,7,8,9] [vF] (aF (aC (aP (aC (aC (aP (aC ?_)))))))
   exact mR (v:=vF) (fun _ hS=>⟨jB (wh_stop (by have:=yT hb3;omega) (Or.inr (yT hb3)) hr).symm,hS.bel⟩)
  rw [hb3]
  have:=yF hb3
  refine aG (aA ?_)
  refine rS Tryz.f52 5 [3,7,8,9] [] (fun _=>let qa:=vi (m+(nO (gT ts i).kd-1));[vi m,vi (nO (gT ts i).kd),vi (nO (gT ts i).kd-1),qa,qa]) (fun _=>[]) (cR [[],[]]<|jU (fun ρ=>((nO (gT ts i).kd)-1)) (fun _=>(nO (gT ts i).kd-1)) (fun _=>(gZ (by have:=zM (gT ts i).kd;omega)))<|jU (fun ρ=>(m+(nO (gT ts i).kd-1))) (fun _=>(m+(nO (gT ts i).kd-1))) (fun _=>(gZ (by have:=zM (gT ts i).kd;omega)))<|jE [[]]) (fun _=>?_)
  refine aJ (aA ?_)
  refine rS Tryz.f52 2 [3,7,8,9] [] (fun _=>[vn (i+1),vn (i+1)]) (fun _=>[]) (jW (fun ρ=>(((i:Nat):Int)+1)) (fun _=>(i+1)) (fun _=>(aW i 1 (by omega)))<|jE [[]]) (fun _=>?_)
  exact mN (i+1,m+(nO (gT ts i).kd-1)) (by show ts.length-(i+1)<ts.length-i;omega) (⟨(by omega),by have:=zM (gT ts i).kd;have:=jP hb2;omega,wh_next (by omega) (jP hb2) (yF hb3) hr⟩) []
 rw [hb1]
 refine bF (aN (aN (aT (aA (jJ Tryz.f52 3 [2] [vi m,.bool (m==0),.bool (m==0)] (aF ?_))))))
 exact mR (v:=(.bool (m==0))) (fun _ hS=>⟨jB ((beq_dec m).trans (wh_end (by have:=yF hb1;omega) hr)),hS.bel⟩)
theorem rdshaped_any (a:Option Addr) (c:Nat) (ts:List bW) (w0:World) (hf0:bM w0 a c ts):Calls Tryz.prog 59 #[.slice a ts.length c] w0 (jR (.bool (shB ts)) w0):=by
 refine Calls.of_ok (n:=40) (F:=(fun w=>bM w a c ts∧True)) Tryz.func59 rfl rfl rfl (by simp) (hf0.pers0.and cO) ?_
 have hlen:ts.length≤1000000:=hf0.max
 have ho:mP ts:=hf0.oks
 refine jJ Tryz.f59 1 [0,2] [vF] (jJ Tryz.f59 1 [0,2,3] [vi 1] (aB (jJ Tryz.f59 1 [0,2,3,4] [vi 0] (aI ?_))))
 refine oL (σ:=Nat × Int) (fun ⟨i,m⟩=>[(0,(.slice a ts.length c)),(3,(vi m)),(4,(vn i))]) (fun ⟨_,_⟩=>[]) (fun ⟨i,_⟩=>ts.length-i)
   (fun ⟨i,m⟩=>(i≤ts.length)∧(0≤m∧m≤1+(i:Int))∧(vG m (ts.drop i)=vG 1 ts)) (0,1) (⟨Nat.zero_le _,by decide,rfl⟩) [] ?_
 rintro ⟨i,m⟩ ⟨hi,hm,hr⟩
 change Ok Tryz.prog _ _ 40 [(0,(.slice a ts.length c)),(3,(vi m)),(4,(vn i))] _ [] (fun w=>bM w a c ts∧True)
 refine aB (jJ Tryz.f59 4 [0,3,4,9] [vn i,.slice a ts.length c,vn ts.length,.bool (decide (((i:Nat):Int)<((ts.length:Nat):Int)))] ?_)
 refine oC (decide (((i:Nat):Int)<((ts.length:Nat):Int))) (fun hb1=>?_) (fun hb1=>?_)
 ·
  rw [hb1]
  have:=yT hb1
  refine aG (aA (aB (aI ?_)))
  refine sS Tryz.f59 7 [0,3,4,5] [] (fun _=>let qa:Value:=.pointer (fK a (i*36));[.slice a ts.length c,vn i,qa,qa,vi (gT ts i).kd,vi (nO (gT ts i).kd),vi (nO (gT ts i).kd)]) (fun _=>[]) (cR [[],[]]<|cX (qF (fun _ _ _ hG=>bM.idx (k:=.i64) Tryz.underlying24 Tryz.sizeOf60 hG.fn.1 rfl (show ((i:Nat):Int)=((i:Nat):Int) from rfl) (show i<ts.length from (by omega))))<|cX (jF (fun _=>Instr.fieldAt 60 (.pointer (fK a (i*36))) 0) (fun _=>(.pointer (fK a (i*36)))) (fun _ _ _ hG=>uH (o:=0) (k:=i*36) Tryz.underlying60 rfl rfl rfl Tryz.sizeOf3 (hG.fn.1.pos (show i<ts.length from (by omega))).1 (hG.fn.1.pos (show i<ts.length from (by omega))).2) (fun _ _ _ _=>cO))<|cX (qF (fun _ _ _ hG=>bM.ld (v:=(vi (gT ts i).kd)) (i:=i) (j:=0) Tryz.isAgg3 hG.fn.1 (show i<ts.length from (by omega)) (by decide) (by kernel_rfl)))<|cC (fun _ w=>rdkids_any (gT ts i).kd w)<|jE [[]]) (fun _=>?_)
  refine aB ?_
  rcases Bool.eq_false_or_eq_true (decide ((nO (gT ts i).kd)<0)) with hb2 | hb2
  ·
   refine sS Tryz.f59 6 [0,3,4,5,23] [] (fun _=>[vi (nO (gT ts i).kd),vT,vT,undef,undef,vT]) (fun _=>[]) (cR [[]]<|cA (fun _=>vT) (fun _=>congrArg Value.bool hb2)<|jE [[],[],[],[]]) (fun _=>?_)
   refine oY ?_
   refine jJ Tryz.f59 1 [0,2,3,4,5] [vF] (aF (aC (aP (aC (aC (aP (aC ?_)))))))
   exact mR (v:=vF) (fun _ hS=>⟨jB (show false=shB ts by unfold shB;rw [wh_stop (by have:=yT hb2;omega) (Or.inr (yT hb2)) hr];rfl),hS.bel⟩)
  refine sS Tryz.f59 6 [0,3,4,5,23] [] (fun _=>[vi (nO (gT ts i).kd),vF,vF,vi m,.bool (m==0),.bool (m==0)]) (fun _=>[]) (cR [[]]<|cA (fun _=>vF) (fun _=>congrArg Value.bool hb2)<|jE [[],[],[],[]]) (fun _=>?_)
  refine oC (m==0) (fun hb3=>?_) (fun hb3=>?_)
  ·
   rw [hb3]
   refine jJ Tryz.f59 1 [0,2,3,4,5] [vF] (aF (aC (aP (aC (aC (aP (aC ?_)))))))
   exact mR (v:=vF) (fun _ hS=>⟨jB (show false=shB ts by unfold shB;rw [wh_stop (by have:=yF hb2;omega) (Or.inl (xQ hb3)) hr];rfl),hS.bel⟩)
  rw [hb3]
  refine aG (aA ?_)
  refine rS Tryz.f59 5 [0,3,4] [] (fun _=>let qa:=vi (m+(nO (gT ts i).kd-1));[vi m,vi (m-1),vi (nO (gT ts i).kd),qa,qa]) (fun _=>[]) (cR [[]]<|jU (fun ρ=>(m-1)) (fun _=>(m-1)) (fun _=>(gZ (by omega)))<|cR [[]]<|jU (fun ρ=>((m-1)+(nO (gT ts i).kd))) (fun _=>(m+(nO (gT ts i).kd-1))) (fun _=>((gZ (by have:=zM (gT ts i).kd;omega)).trans (by omega)))<|jE [[]]) (fun _=>?_)
  refine aJ (aA ?_)
  refine rS Tryz.f59 3 [0,3,4] [] (fun _=>[vn i,vn (i+1),vn (i+1)]) (fun _=>[]) (cR [[]]<|jW (fun ρ=>(((i:Nat):Int)+1)) (fun _=>(i+1)) (fun _=>(aW i 1 (by have:=yF hb2;omega)))<|jE [[]]) (fun _=>?_)
  exact mN (i+1,m+(nO (gT ts i).kd-1)) (by show ts.length-(i+1)<ts.length-i;have:=yF hb2;omega) (⟨(by have:=yF hb2;omega),by have:=zM (gT ts i).kd;have:=jP hb3;have:=yF hb2;omega,wh_next (by have:=yF hb2;omega) (jP hb3) (yF hb2) hr⟩) []
 rw [hb1]
 have:=yF hb1
 refine bF (aN (aN (aT (aA ?_))))
 rcases Bool.eq_false_or_eq_true (m==0) with hb4 | hb4
 ·
  rcases Bool.eq_false_or_eq_true (decide (1≤((ts.length:Nat):Int))) with hb5 | hb5
  ·
   refine sS Tryz.f59 13 [2] [] (fun _=>let qa:Value:=.bool (decide (((ts.length:Nat):Int)≤8));[vi m,vT,vT,.slice a ts.length c,vn ts.length,vT,vT,vT,.slice a ts.length c,vn ts.length,qa,qa,qa]) (fun _=>[]) (cR [[]]<|cA (fun _=>vT) (fun _=>congrArg Value.bool hb4)<|cR [[],[],[]]<|cA (fun _=>vT) (fun _=>congrArg Value.bool hb5)<|jE [[],[],[],[],[],[],[]]) (fun _=>?_)
   refine aF ?_
   exact mR (v:=(.bool (decide (((ts.length:Nat):Int)≤8)))) (fun _ hS=>⟨jB (sh_2 (wh_end (by have:=yT hb5;omega) hr) hb4 hb5),hS.bel⟩)
  refine sS Tryz.f59 13 [2] [] (fun _=>[vi m,vT,vT,.slice a ts.length c,vn ts.length,vF,vF,vF,undef,undef,undef,vF,vF]) (fun _=>[]) (cR [[]]<|cA (fun _=>vT) (fun _=>congrArg Value.bool hb4)<|cR [[],[],[]]<|cA (fun _=>vF) (fun _=>congrArg Value.bool hb5)<|jE [[],[],[],[],[],[],[]]) (fun _=>?_)
  refine aF ?_
  exact mR (v:=vF) (fun _ hS=>⟨jB (sh_1 (wh_end (by have:=yF hb5;omega) hr) hb4 hb5),hS.bel⟩)
 refine sS Tryz.f59 13 [2] [] (fun _=>[vi m,vF,vF,undef,undef,undef,vF,vF,undef,undef,undef,vF,vF]) (fun _=>[]) (cR [[]]<|cA (fun _=>vF) (fun _=>congrArg Value.bool hb4)<|jE [[],[],[],[],[],[],[],[],[],[],[]]) (fun _=>?_)
 refine aF ?_
 exact mR (v:=vF) (fun _ hS=>⟨jB (sh_0 (wh_end (by omega) hr) hb4),hS.bel⟩)
theorem dfields_any (kd:Int) (m:Int) (nu:Nat) (h:Nat) (ka:Option Addr) (kc:Nat) (ks:List dO) (hh:h<M) (w0:World):Calls Tryz.prog 53 #[.agg (iC kd m ((nu:Nat):Int) h (.slice ka ks.length kc))] w0 (jR (.bool (fdN kd m nu h ks.length)) w0):=by
 refine Calls.of_ok (n:=70) (F:=(fun _=>True)) Tryz.func53 rfl rfl rfl (by simp) jT ?_
 refine sS Tryz.f53 2 [1,2] [] (fun ρ=>[pt (nb ρ 0),vF]) (fun ρ=>[(0,(nw ρ 0 (cL (iC kd m ((nu:Nat):Int) h (.slice ka ks.length kc)) 60)))]) (jE [[],[]]) (fun ρ1=>?_)
 refine aB ?_
 rcases Bool.eq_false_or_eq_true (kd != 2) with hb1 | hb1
 ·
  refine sS Tryz.f53 8 [1,2,10] [] (fun _=>[pt (nb ρ1 0),vi kd,vT,vT,jp (nb ρ1 0) 1,vi m,.bool (m != 0),.bool (m != 0)]) (fun _=>[]) (cR [[],[0]]<|cA (fun _=>vT) (fun _=>congrArg Value.bool hb1)<|jE [[],[],[0],[],[]]) (fun _=>?_)
  refine oC (m != 0) (fun hb2=>?_) (fun hb2=>?_)
  ·
   rw [hb2]
   refine jJ Tryz.f53 1 [1,2] [vF] (aF (aC ?_))
   exact mR (v:=vF) (fun _ hS=>⟨jB (qU (by have:=iK hb1;have:=iK hb2;unfold o7;omega)),hS.bel⟩)
  rw [hb2]
  refine aG (aA (aB ?_))
  rcases Bool.eq_false_or_eq_true (kd != 3) with hb3 | hb3
  ·
   rcases Bool.eq_false_or_eq_true (kd != 4) with hb4 | hb4
   ·
    refine sS Tryz.f53 13 [1,2,23] [] (fun _=>let qa:Value:=.bool (((nu:Nat):Int) != 0);[pt (nb ρ1 0),vi kd,vT,vT,pt (nb ρ1 0),vi kd,vT,vT,vT,jp (nb ρ1 0) 2,vu nu,qa,qa]) (fun _=>[]) (cR [[],[0]]<|cA (fun _=>vT) (fun _=>congrArg Value.bool hb3)<|cR [[],[],[0]]<|cA (fun _=>vT) (fun _=>congrArg Value.bool hb4)<|jE [[],[],[],[0],[],[]]) (fun _=>?_)
    refine oC (((nu:Nat):Int) != 0) (fun hb5=>?_) (fun hb5=>?_)
    ·
     rw [hb5]
     refine jJ Tryz.f53 1 [1,2] [vF] (aF (aC ?_))
     exact mR (v:=vF) (fun _ hS=>⟨jB (qU (by have:=iK hb1;have:=dD hb2;have:=iK hb3;have:=iK hb4;have:=iK hb5;unfold o7;omega)),hS.bel⟩)
    rw [hb5]
    refine aG (aA (aB ?_))
    rcases Bool.eq_false_or_eq_true (kd != 5) with hb6 | hb6
    ·
     refine sS Tryz.f53 9 [1,2,32] [] (fun _=>[pt (nb ρ1 0),vi kd,vT,vT,jp (nb ρ1 0) 3,.agg (hB h),.agg (hB 0),.bool (!decide (h=0)),.bool (!decide (h=0))]) (fun _=>[]) (cR [[],[0]]<|cA (fun _=>vT) (fun _=>congrArg Value.bool hb6)<|cR [[],[],[0],[]]<|cB (a:=fun ρ=>(.agg (hB h))) (b:=fun ρ=>(.agg (hB 0))) (v:=fun ρ=>(.bool (!decide (h=0)))) .neq 57 (fun _ _=>neqH h 0 hh (by decide +kernel) _)<|jE [[]]) (fun _=>?_)
     refine oC (!decide (h=0)) (fun hb7=>?_) (fun hb7=>?_)
     ·
      rw [hb7]
      refine jJ Tryz.f53 1 [1,2] [vF] (aF (aC ?_))
      exact mR (v:=vF) (fun _ hS=>⟨jB (qU (by have:=iK hb1;have:=dD hb2;have:=iK hb3;have:=iK hb4;have:=dD hb5;have:=iK hb6;have:=yF (dF hb7);unfold o7;omega)),hS.bel⟩)
     rw [hb7]
     refine aG (aA (aB (jM Tryz.f53 2 [1,2,34] [] [pt (nb ρ1 0),vi kd] [[],[0]] (aI (jJ Tryz.f53 2 [1,2,34,35] [.bool (kd==1),.bool (kd==1)] ?_)))))
     refine oC (kd==1) (fun hb8=>?_) (fun hb8=>?_)
     ·
      rw [hb8]
      refine jM Tryz.f53 5 [1,2] [] (let qa:Value:=.bool (((ks.length:Nat):Int)==1);[jp (nb ρ1 0) 35,.slice ka ks.length kc,vn ks.length,qa,qa]) [[],[0],[],[],[]] (aF (aP (aC ?_)))
      exact mR (v:=(.bool (((ks.length:Nat):Int)==1))) (fun _ hS=>⟨jB (fd_b (by have:=iK hb1;have:=dD hb2;have:=iK hb3;have:=iK hb4;have:=dD hb5;have:=iK hb6;have:=yT (aV hb7);have:=xQ hb8;unfold o7;omega)),hS.bel⟩)
     rw [hb8]
     refine sS Tryz.f53 2 [1,2,41] [] (fun _=>[vF,vF]) (fun _=>[]) (cA (fun _=>vF) (fun _=>congrArg Value.bool (beq_f (iK hb1)))<|jE [[]]) (fun _=>?_)
     refine lK [(1,(pt (nb ρ1 0))),(2,vF),(41,vF)] [(nb ρ1 0,(cL (iC kd m ((nu:Nat):Int) h (.slice ka ks.length kc)) 60))] ?_
     refine oN ?_
     refine aG (aJ (aA (jM Tryz.f53 5 [2] [0] (let qa:Value:=.bool (((ks.length:Nat):Int)==0);[jp (nb ρ1 0) 35,.slice ka ks.length kc,vn ks.length,qa,qa]) [[],[0],[],[],[]] (aF ?_))))
     exact mR (v:=(.bool (((ks.length:Nat):Int)==0))) (fun _ hS=>⟨jB (fd_b (by have:=iK hb1;have:=dD hb2;have:=iK hb3;have:=iK hb4;have:=dD hb5;have:=iK hb6;have:=yT (aV hb7);have:=jP hb8;unfold o7;omega)),hS.bel⟩)
    refine sS Tryz.f53 9 [1,2,32] [] (fun _=>[pt (nb ρ1 0),vi kd,vF,vF,undef,undef,undef,undef,vF]) (fun _=>[]) (cR [[],[0]]<|cA (fun _=>vF) (fun _=>congrArg Value.bool hb6)<|jE [[],[],[],[],[],[]]) (fun _=>?_)
    refine oN ?_
    refine aG (aA (aB (jM Tryz.f53 2 [1,2,34] [] [pt (nb ρ1 0),vi kd] [[],[0]] (aI ?_))))
    refine sS Tryz.f53 2 [1,2,34,35] [] (fun _=>[vF,vF]) (fun _=>[]) (jQ (fun ρ=>(kd==1)) false (fun _=>(show (kd==1)=false by rw [dD hb6];rfl))<|jE [[]]) (fun _=>?_)
    refine oN ?_
    refine sS Tryz.f53 2 [1,2,41] [] (fun _=>[vF,vF]) (fun _=>[]) (jQ (fun ρ=>(kd==2)) false (fun _=>(show (kd==2)=false by rw [dD hb6];rfl))<|jE [[]]) (fun _=>?_)
    refine lK [(1,(pt (nb ρ1 0))),(2,vF),(41,vF)] [(nb ρ1 0,(cL (iC kd m ((nu:Nat):Int) h (.slice ka ks.length kc)) 60))] ?_
    refine oN ?_
    refine aG (aJ (aA (jM Tryz.f53 5 [2] [0] (let qa:Value:=.bool (((ks.length:Nat):Int)==0);[jp (nb ρ1 0) 35,.slice ka ks.length kc,vn ks.length,qa,qa]) [[],[0],[],[],[]] (aF ?_))))
    exact mR (v:=(.bool (((ks.length:Nat):Int)==0))) (fun _ hS=>⟨jB (fd_b (by have:=iK hb1;have:=dD hb2;have:=iK hb3;have:=iK hb4;have:=dD hb5;have:=dD hb6;unfold o7;omega)),hS.bel⟩)
   refine sS Tryz.f53 13 [1,2,23] [] (fun _=>[pt (nb ρ1 0),vi kd,vT,vT,pt (nb ρ1 0),vi kd,vF,vF,vF,undef,undef,undef,vF]) (fun _=>[]) (cR [[],[0]]<|cA (fun _=>vT) (fun _=>congrArg Value.bool hb3)<|cR [[],[],[0]]<|cA (fun _=>vF) (fun _=>congrArg Value.bool hb4)<|jE [[],[],[],[],[],[]]) (fun _=>?_)
   refine oN ?_
   refine aG (aA (aB ?_))
   refine sS Tryz.f53 9 [1,2,32] [] (fun _=>[pt (nb ρ1 0),vi kd,vT,vT,jp (nb ρ1 0) 3,.agg (hB h),.agg (hB 0),.bool (!decide (h=0)),.bool (!decide (h=0))]) (fun _=>[]) (cR [[],[0]]<|jQ (fun ρ=>(kd != 5)) true (fun _=>(show (kd != 5)=true by rw [dD hb4];rfl))<|cR [[],[],[0],[]]<|cB (a:=fun ρ=>(.agg (hB h))) (b:=fun ρ=>(.agg (hB 0))) (v:=fun ρ=>(.bool (!decide (h=0)))) .neq 57 (fun _ _=>neqH h 0 hh (by decide +kernel) _)<|jE [[]]) (fun _=>?_)
   refine oC (!decide (h=0)) (fun hb9=>?_) (fun hb9=>?_)
   ·
    rw [hb9]
    refine jJ Tryz.f53 1 [1,2] [vF] (aF (aC ?_))
    exact mR (v:=vF) (fun _ hS=>⟨jB (qU (by have:=iK hb1;have:=dD hb2;have:=iK hb3;have:=dD hb4;have:=yF (dF hb9);unfold o7;omega)),hS.bel⟩)
   rw [hb9]
   refine aG (aA (aB (jM Tryz.f53 2 [1,2,34] [] [pt (nb ρ1 0),vi kd] [[],[0]] (aI ?_))))
   refine sS Tryz.f53 2 [1,2,34,35] [] (fun _=>[vF,vF]) (fun _=>[]) (jQ (fun ρ=>(kd==1)) false (fun _=>(show (kd==1)=false by rw [dD hb4];rfl))<|jE [[]]) (fun _=>?_)
   refine oN ?_
   refine sS Tryz.f53 2 [1,2,41] [] (fun _=>[vF,vF]) (fun _=>[]) (jQ (fun ρ=>(kd==2)) false (fun _=>(show (kd==2)=false by rw [dD hb4];rfl))<|jE [[]]) (fun _=>?_)
   refine lK [(1,(pt (nb ρ1 0))),(2,vF),(41,vF)] [(nb ρ1 0,(cL (iC kd m ((nu:Nat):Int) h (.slice ka ks.length kc)) 60))] ?_
   refine oN ?_
   refine aG (aJ (aA (jM Tryz.f53 5 [2] [0] (let qa:Value:=.bool (((ks.length:Nat):Int)==0);[jp (nb ρ1 0) 35,.slice ka ks.length kc,vn ks.length,qa,qa]) [[],[0],[],[],[]] (aF ?_))))
   exact mR (v:=(.bool (((ks.length:Nat):Int)==0))) (fun _ hS=>⟨jB (fd_b (by have:=iK hb1;have:=dD hb2;have:=iK hb3;have:=dD hb4;have:=yT (aV hb9);unfold o7;omega)),hS.bel⟩)
  refine sS Tryz.f53 13 [1,2,23] [] (fun _=>[pt (nb ρ1 0),vi kd,vF,vF,undef,undef,undef,vF,vF,undef,undef,undef,vF]) (fun _=>[]) (cR [[],[0]]<|cA (fun _=>vF) (fun _=>congrArg Value.bool hb3)<|jE [[],[],[],[],[],[],[],[],[],[]]) (fun _=>?_)
  refine oN ?_
  refine aG (aA (aB ?_))
  refine sS Tryz.f53 9 [1,2,32] [] (fun _=>[pt (nb ρ1 0),vi kd,vT,vT,jp (nb ρ1 0) 3,.agg (hB h),.agg (hB 0),.bool (!decide (h=0)),.bool (!decide (h=0))]) (fun _=>[]) (cR [[],[0]]<|jQ (fun ρ=>(kd != 5)) true (fun _=>(show (kd != 5)=true by rw [dD hb3];rfl))<|cR [[],[],[0],[]]<|cB (a:=fun ρ=>(.agg (hB h))) (b:=fun ρ=>(.agg (hB 0))) (v:=fun ρ=>(.bool (!decide (h=0)))) .neq 57 (fun _ _=>neqH h 0 hh (by decide +kernel) _)<|jE [[]]) (fun _=>?_)
  refine oC (!decide (h=0)) (fun hb10=>?_) (fun hb10=>?_)
  ·
   rw [hb10]
   refine jJ Tryz.f53 1 [1,2] [vF] (aF (aC ?_))
   exact mR (v:=vF) (fun _ hS=>⟨jB (qU (by have:=iK hb1;have:=dD hb2;have:=dD hb3;have:=yF (dF hb10);unfold o7;omega)),hS.bel⟩)
  rw [hb10]
  refine aG (aA (aB (jM Tryz.f53 2 [1,2,34] [] [pt (nb ρ1 0),vi kd] [[],[0]] (aI ?_))))
  refine sS Tryz.f53 2 [1,2,34,35] [] (fun _=>[vF,vF]) (fun _=>[]) (jQ (fun ρ=>(kd==1)) false (fun _=>(show (kd==1)=false by rw [dD hb3];rfl))<|jE [[]]) (fun _=>?_)
  refine oN ?_
  refine sS Tryz.f53 2 [1,2,41] [] (fun _=>[vF,vF]) (fun _=>[]) (jQ (fun ρ=>(kd==2)) false (fun _=>(show (kd==2)=false by rw [dD hb3];rfl))<|jE [[]]) (fun _=>?_)
  refine lK [(1,(pt (nb ρ1 0))),(2,vF),(41,vF)] [(nb ρ1 0,(cL (iC kd m ((nu:Nat):Int) h (.slice ka ks.length kc)) 60))] ?_
  refine oN ?_
  refine aG (aJ (aA (jM Tryz.f53 5 [2] [0] (let qa:Value:=.bool (((ks.length:Nat):Int)==0);[jp (nb ρ1 0) 35,.slice ka ks.length kc,vn ks.length,qa,qa]) [[],[0],[],[],[]] (aF ?_))))
  exact mR (v:=(.bool (((ks.length:Nat):Int)==0))) (fun _ hS=>⟨jB (fd_b (by have:=iK hb1;have:=dD hb2;have:=dD hb3;have:=yT (aV hb10);unfold o7;omega)),hS.bel⟩)
 refine sS Tryz.f53 8 [1,2,10] [] (fun _=>[pt (nb ρ1 0),vi kd,vF,vF,undef,undef,undef,vF]) (fun _=>[]) (cR [[],[0]]<|cA (fun _=>vF) (fun _=>congrArg Value.bool hb1)<|jE [[],[],[],[],[]]) (fun _=>?_)
 refine oN ?_
 refine aG (aA (aB ?_))
 refine sS Tryz.f53 13 [1,2,23] [] (fun _=>let qa:Value:=.bool (((nu:Nat):Int) != 0);[pt (nb ρ1 0),vi kd,vT,vT,pt (nb ρ1 0),vi kd,vT,vT,vT,jp (nb ρ1 0) 2,vu nu,qa,qa]) (fun _=>[]) (cR [[],[0]]<|jQ (fun ρ=>(kd != 3)) true (fun _=>(show (kd != 3)=true by rw [dD hb1];rfl))<|cR [[],[],[0]]<|jQ (fun ρ=>(kd != 4)) true (fun _=>(show (kd != 4)=true by rw [dD hb1];rfl))<|jE [[],[],[],[0],[],[]]) (fun _=>?_)
 refine oC (((nu:Nat):Int) != 0) (fun hb11=>?_) (fun hb11=>?_)
 ·
  rw [hb11]
  refine jJ Tryz.f53 1 [1,2] [vF] (aF (aC ?_))
  exact mR (v:=vF) (fun _ hS=>⟨jB (qU (by have:=dD hb1;have:=iK hb11;unfold o7;omega)),hS.bel⟩)
 rw [hb11]
 refine aG (aA (aB ?_))
 refine sS Tryz.f53 9 [1,2,32] [] (fun _=>[pt (nb ρ1 0),vi kd,vT,vT,jp (nb ρ1 0) 3,.agg (hB h),.agg (hB 0),.bool (!decide (h=0)),.bool (!decide (h=0))]) (fun _=>[]) (cR [[],[0]]<|jQ (fun ρ=>(kd != 5)) true (fun _=>(show (kd != 5)=true by rw [dD hb1];rfl))<|cR [[],[],[0],[]]<|cB (a:=fun ρ=>(.agg (hB h))) (b:=fun ρ=>(.agg (hB 0))) (v:=fun ρ=>(.bool (!decide (h=0)))) .neq 57 (fun _ _=>neqH h 0 hh (by decide +kernel) _)<|jE [[]]) (fun _=>?_)
 refine oC (!decide (h=0)) (fun hb12=>?_) (fun hb12=>?_)
 ·
  rw [hb12]
  refine jJ Tryz.f53 1 [1,2] [vF] (aF (aC ?_))
  exact mR (v:=vF) (fun _ hS=>⟨jB (qU (by have:=dD hb1;have:=dD hb11;have:=yF (dF hb12);unfold o7;omega)),hS.bel⟩)
 rw [hb12]
 refine aG (aA (aB (jM Tryz.f53 2 [1,2,34] [] [pt (nb ρ1 0),vi kd] [[],[0]] (aI ?_))))
 refine sS Tryz.f53 2 [1,2,34,35] [] (fun _=>[vF,vF]) (fun _=>[]) (jQ (fun ρ=>(kd==1)) false (fun _=>(show (kd==1)=false by rw [dD hb1];rfl))<|jE [[]]) (fun _=>?_)
 refine oN ?_
 refine sS Tryz.f53 2 [1,2,41] [] (fun _=>[vT,vT]) (fun _=>[]) (jQ (fun ρ=>(kd==2)) true (fun _=>(show (kd==2)=true by rw [dD hb1];rfl))<|jE [[]]) (fun _=>?_)
 refine lK [(1,(pt (nb ρ1 0))),(2,vF),(41,vT)] [(nb ρ1 0,(cL (iC kd m ((nu:Nat):Int) h (.slice ka ks.length kc)) 60))] ?_
 refine oY ?_
 rcases Bool.eq_false_or_eq_true (decide (1≤((ks.length:Nat):Int))) with hb13 | hb13
 ·
  rcases Bool.eq_false_or_eq_true (decide (((ks.length:Nat):Int)≤15)) with hb14 | hb14
  ·
   rcases Bool.eq_false_or_eq_true (decide (1≤m)) with hb15 | hb15
   ·
    refine sS Tryz.f53 24 [1,2] [] (fun _=>let qa:Value:=.bool (decide (m≤((ks.length:Nat):Int)));let qb:Value:=.slice ka ks.length kc;[jp (nb ρ1 0) 35,qb,vn ks.length,vT,vT,jp (nb ρ1 0) 35,qb,vn ks.length,vT,vT,vT,jp (nb ρ1 0) 1,vi m,vT,vT,vT,jp (nb ρ1 0) 1,vi m,jp (nb ρ1 0) 35,qb,vn ks.length,qa,qa,qa]) (fun _=>[]) (cR [[],[0],[]]<|cA (fun _=>vT) (fun _=>congrArg Value.bool hb13)<|cR [[],[],[0],[]]<|cA (fun _=>vT) (fun _=>congrArg Value.bool hb14)<|cR [[],[],[],[0]]<|cA (fun _=>vT) (fun _=>congrArg Value.bool hb15)<|jE [[],[],[],[0],[],[0],[],[],[],[]]) (fun _=>?_)
    refine aF (aP (aC ?_))
    exact mR (v:=(.bool (decide (m≤((ks.length:Nat):Int))))) (fun _ hS=>⟨jB (fd_d (by have:=dD hb1;have:=dD hb11;have:=yT (aV hb12);have:=yT hb13;have:=yT hb14;have:=yT hb15;unfold o7;omega)),hS.bel⟩)
   refine sS Tryz.f53 24 [1,2] [] (fun _=>[jp (nb ρ1 0) 35,.slice ka ks.length kc,vn ks.length,vT,vT,jp (nb ρ1 0) 35,.slice ka ks.length kc,vn ks.length,vT,vT,vT,jp (nb ρ1 0) 1,vi m,vF,vF,vF,undef,undef,undef,undef,undef,undef,vF,vF]) (fun _=>[]) (cR [[],[0],[]]<|cA (fun _=>vT) (fun _=>congrArg Value.bool hb13)<|cR [[],[],[0],[]]<|cA (fun _=>vT) (fun _=>congrArg Value.bool hb14)<|cR [[],[],[],[0]]<|cA (fun _=>vF) (fun _=>congrArg Value.bool hb15)<|jE [[],[],[],[],[],[],[],[],[],[]]) (fun _=>?_)
   refine aF (aP (aC ?_))
   exact mR (v:=vF) (fun _ hS=>⟨jB (qU (by have:=dD hb1;have:=dD hb11;have:=yT (aV hb12);have:=yT hb13;have:=yT hb14;have:=yF hb15;unfold o7;omega)),hS.bel⟩)
  refine sS Tryz.f53 24 [1,2] [] (fun _=>[jp (nb ρ1 0) 35,.slice ka ks.length kc,vn ks.length,vT,vT,jp (nb ρ1 0) 35,.slice ka ks.length kc,vn ks.length,vF,vF,vF,undef,undef,undef,vF,vF,undef,undef,undef,undef,undef,undef,vF,vF]) (fun _=>[]) (cR [[],[0],[]]<|cA (fun _=>vT) (fun _=>congrArg Value.bool hb13)<|cR [[],[],[0],[]]<|cA (fun _=>vF) (fun _=>congrArg Value.bool hb14)<|jE [[],[],[],[],[],[],[],[],[],[],[],[],[],[],[]]) (fun _=>?_)
  refine aF (aP (aC ?_))
  exact mR (v:=vF) (fun _ hS=>⟨jB (qU (by have:=dD hb1;have:=dD hb11;have:=yT (aV hb12);have:=yT hb13;have:=yF hb14;unfold o7;omega)),hS.bel⟩)
 refine sS Tryz.f53 24 [1,2] [] (fun _=>[jp (nb ρ1 0) 35,.slice ka ks.length kc,vn ks.length,vF,vF,undef,undef,undef,undef,vF,vF,undef,undef,undef,vF,vF,undef,undef,undef,undef,undef,undef,vF,vF]) (fun _=>[]) (cR [[],[0],[]]<|cA (fun _=>vF) (fun _=>congrArg Value.bool hb13)<|jE [[],[],[],[],[],[],[],[],[],[],[],[],[],[],[],[],[],[],[],[]]) (fun _=>?_)
 refine aF (aP (aC ?_))
 exact mR (v:=vF) (fun _ hS=>⟨jB (qU (by have:=dD hb1;have:=dD hb11;have:=yT (aV hb12);have:=yF hb13;unfold o7;omega)),hS.bel⟩)
theorem rdfields_any (kd:Int) (m:Int) (nu:Nat) (h:Nat) (ka:Option Addr) (kc:Nat) (ks:List dO) (hh:h<M) (w0:World):Calls Tryz.prog 60 #[.agg (iC kd m ((nu:Nat):Int) h (.slice ka ks.length kc))] w0 (jR (.bool (fdN kd m nu h ks.length)) w0):=by
 refine Calls.of_ok (n:=68) (F:=(fun _=>True)) Tryz.func60 rfl rfl rfl (by simp) jT ?_
 refine sS Tryz.f60 2 [1,2] [] (fun ρ=>[pt (nb ρ 0),vF]) (fun ρ=>[(0,(nw ρ 0 (cL (iC kd m ((nu:Nat):Int) h (.slice ka ks.length kc)) 60)))]) (jE [[],[]]) (fun ρ1=>?_)
 refine jM Tryz.f60 4 [1,2,3] [] [jp (nb ρ1 0) 35,.slice ka ks.length kc,vn ks.length,vn ks.length] [[],[0],[],[]] (aB ?_)
 rcases Bool.eq_false_or_eq_true (((nu:Nat):Int) != 0) with hb1 | hb1
 ·
  rcases Bool.eq_false_or_eq_true (kd != 3) with hb2 | hb2
  ·
   rcases Bool.eq_false_or_eq_true (kd != 4) with hb3 | hb3
   ·
    refine sS Tryz.f60 24 [1,2,3,30] [] (fun _=>[jp (nb ρ1 0) 2,vu nu,vT,vT,pt (nb ρ1 0),vi kd,vT,vT,vT,pt (nb ρ1 0),vi kd,vT,vT,vT,undef,undef,undef,undef,undef,undef,undef,undef,undef,vT]) (fun _=>[]) (cR [[],[0]]<|cA (fun _=>vT) (fun _=>congrArg Value.bool hb1)<|cR [[],[],[0]]<|cA (fun _=>vT) (fun _=>congrArg Value.bool hb2)<|cR [[],[],[],[0]]<|cA (fun _=>vT) (fun _=>congrArg Value.bool hb3)<|jE [[],[],[],[],[],[],[],[],[],[],[],[]]) (fun _=>?_)
    refine oY ?_
    refine jJ Tryz.f60 1 [1,2,3] [vF] (aF (aC ?_))
    exact mR (v:=vF) (fun _ hS=>⟨jB (qU (by have:=iK hb1;have:=iK hb2;have:=iK hb3;unfold o7;omega)),hS.bel⟩)
   rcases Bool.eq_false_or_eq_true (decide (h=0)) with hb4 | hb4
   ·
    refine sS Tryz.f60 24 [1,2,3,30] [] (fun _=>[jp (nb ρ1 0) 2,vu nu,vT,vT,pt (nb ρ1 0),vi kd,vT,vT,vT,pt (nb ρ1 0),vi kd,vF,vF,vF,jp (nb ρ1 0) 3,.agg (hB h),.agg (hB 0),vF,vF,undef,undef,undef,vF,vF]) (fun _=>[]) (cR [[],[0]]<|cA (fun _=>vT) (fun _=>congrArg Value.bool hb1)<|cR [[],[],[0]]<|cA (fun _=>vT) (fun _=>congrArg Value.bool hb2)<|cR [[],[],[],[0]]<|cA (fun _=>vF) (fun _=>congrArg Value.bool hb3)<|cR [[],[],[],[0],[]]<|cB (a:=fun ρ=>(.agg (hB h))) (b:=fun ρ=>(.agg (hB 0))) (v:=fun ρ=>vF) .neq 57 (fun _ _=>(neqH h 0 hh (by decide +kernel) _).trans (by rw [hb4];try rfl))<|jE [[],[],[],[],[],[]]) (fun _=>?_)
    refine oN ?_
    refine aG (aA (aB (jM Tryz.f60 2 [1,2,3,32] [] [pt (nb ρ1 0),vi kd] [[],[0]] (aI ?_))))
    refine sS Tryz.f60 2 [1,2,3,32,33] [] (fun _=>[vF,vF]) (fun _=>[]) (jQ (fun ρ=>(kd==1)) false (fun _=>(show (kd==1)=false by rw [dD hb3];rfl))<|jE [[]]) (fun _=>?_)
    refine oN ?_
    refine sS Tryz.f60 2 [1,2,3,42] [] (fun _=>[vF,vF]) (fun _=>[]) (jQ (fun ρ=>(kd==2)) false (fun _=>(show (kd==2)=false by rw [dD hb3];rfl))<|jE [[]]) (fun _=>?_)
    refine oN ?_
    refine aG (aJ (aA ?_))
    rcases Bool.eq_false_or_eq_true (((ks.length:Nat):Int)==0) with hb5 | hb5
    ·
     refine sS Tryz.f60 8 [2] [0] (fun _=>[vn ks.length,vT,vT,jp (nb ρ1 0) 1,vi m,.bool (m==0),.bool (m==0),.bool (m==0)]) (fun _=>[]) (cR [[]]<|cA (fun _=>vT) (fun _=>congrArg Value.bool hb5)<|jE [[],[],[0],[],[],[]]) (fun _=>?_)
     refine aF ?_
     exact mR (v:=(.bool (m==0))) (fun _ hS=>⟨jB (fd_b (by have:=iK hb1;have:=iK hb2;have:=dD hb3;have:=yT hb4;have:=xQ hb5;unfold o7;omega)),hS.bel⟩)
    refine sS Tryz.f60 8 [2] [0] (fun _=>[vn ks.length,vF,vF,undef,undef,undef,vF,vF]) (fun _=>[]) (cR [[]]<|cA (fun _=>vF) (fun _=>congrArg Value.bool hb5)<|jE [[],[],[],[],[],[]]) (fun _=>?_)
    refine aF ?_
    exact mR (v:=vF) (fun _ hS=>⟨jB (qU (by have:=iK hb1;have:=iK hb2;have:=dD hb3;have:=yT hb4;have:=jP hb5;unfold o7;omega)),hS.bel⟩)
   refine sS Tryz.f60 24 [1,2,3,30] [] (fun _=>[jp (nb ρ1 0) 2,vu nu,vT,vT,pt (nb ρ1 0),vi kd,vT,vT,vT,pt (nb ρ1 0),vi kd,vF,vF,vF,jp (nb ρ1 0) 3,.agg (hB h),.agg (hB 0),vT,vT,pt (nb ρ1 0),vi kd,vT,vT,vT]) (fun _=>[]) (cR [[],[0]]<|cA (fun _=>vT) (fun _=>congrArg Value.bool hb1)<|cR [[],[],[0]]<|cA (fun _=>vT) (fun _=>congrArg Value.bool hb2)<|cR [[],[],[],[0]]<|cA (fun _=>vF) (fun _=>congrArg Value.bool hb3)<|cR [[],[],[],[0],[]]<|cB (a:=fun ρ=>(.agg (hB h))) (b:=fun ρ=>(.agg (hB 0))) (v:=fun ρ=>vT) .neq 57 (fun _ _=>(neqH h 0 hh (by decide +kernel) _).trans (by rw [hb4];try rfl))<|cR [[],[],[0]]<|jQ (fun ρ=>(kd != 5)) true (fun _=>(show (kd != 5)=true by rw [dD hb3];rfl))<|jE [[],[]]) (fun _=>?_)
   refine oY ?_
   refine jJ Tryz.f60 1 [1,2,3] [vF] (aF (aC ?_))
   exact mR (v:=vF) (fun _ hS=>⟨jB (qU (by have:=iK hb1;have:=iK hb2;have:=dD hb3;have:=yF hb4;unfold o7;omega)),hS.bel⟩)
  rcases Bool.eq_false_or_eq_true (decide (h=0)) with hb6 | hb6
  ·
   refine sS Tryz.f60 24 [1,2,3,30] [] (fun _=>[jp (nb ρ1 0) 2,vu nu,vT,vT,pt (nb ρ1 0),vi kd,vF,vF,vF,undef,undef,undef,vF,vF,jp (nb ρ1 0) 3,.agg (hB h),.agg (hB 0),vF,vF,undef,undef,undef,vF,vF]) (fun _=>[]) (cR [[],[0]]<|cA (fun _=>vT) (fun _=>congrArg Value.bool hb1)<|cR [[],[],[0]]<|cA (fun _=>vF) (fun _=>congrArg Value.bool hb2)<|cR [[],[],[],[],[],[],[],[],[0],[]]<|cB (a:=fun ρ=>(.agg (hB h))) (b:=fun ρ=>(.agg (hB 0))) (v:=fun ρ=>vF) .neq 57 (fun _ _=>(neqH h 0 hh (by decide +kernel) _).trans (by rw [hb6];try rfl))<|jE [[],[],[],[],[],[]]) (fun _=>?_)
   refine oN ?_
   refine aG (aA (aB (jM Tryz.f60 2 [1,2,3,32] [] [pt (nb ρ1 0),vi kd] [[],[0]] (aI ?_))))
   refine sS Tryz.f60 2 [1,2,3,32,33] [] (fun _=>[vF,vF]) (fun _=>[]) (jQ (fun ρ=>(kd==1)) false (fun _=>(show (kd==1)=false by rw [dD hb2];rfl))<|jE [[]]) (fun _=>?_)
   refine oN ?_
   refine sS Tryz.f60 2 [1,2,3,42] [] (fun _=>[vF,vF]) (fun _=>[]) (jQ (fun ρ=>(kd==2)) false (fun _=>(show (kd==2)=false by rw [dD hb2];rfl))<|jE [[]]) (fun _=>?_)
   refine oN ?_
   refine aG (aJ (aA ?_))
   rcases Bool.eq_false_or_eq_true (((ks.length:Nat):Int)==0) with hb7 | hb7
   ·
    refine sS Tryz.f60 8 [2] [0] (fun _=>[vn ks.length,vT,vT,jp (nb ρ1 0) 1,vi m,.bool (m==0),.bool (m==0),.bool (m==0)]) (fun _=>[]) (cR [[]]<|cA (fun _=>vT) (fun _=>congrArg Value.bool hb7)<|jE [[],[],[0],[],[],[]]) (fun _=>?_)
    refine aF ?_
    exact mR (v:=(.bool (m==0))) (fun _ hS=>⟨jB (fd_b (by have:=iK hb1;have:=dD hb2;have:=yT hb6;have:=xQ hb7;unfold o7;omega)),hS.bel⟩)
   refine sS Tryz.f60 8 [2] [0] (fun _=>[vn ks.length,vF,vF,undef,undef,undef,vF,vF]) (fun _=>[]) (cR [[]]<|cA (fun _=>vF) (fun _=>congrArg Value.bool hb7)<|jE [[],[],[],[],[],[]]) (fun _=>?_)
   refine aF ?_
   exact mR (v:=vF) (fun _ hS=>⟨jB (qU (by have:=iK hb1;have:=dD hb2;have:=yT hb6;have:=jP hb7;unfold o7;omega)),hS.bel⟩)
  refine sS Tryz.f60 24 [1,2,3,30] [] (fun _=>[jp (nb ρ1 0) 2,vu nu,vT,vT,pt (nb ρ1 0),vi kd,vF,vF,vF,undef,undef,undef,vF,vF,jp (nb ρ1 0) 3,.agg (hB h),.agg (hB 0),vT,vT,pt (nb ρ1 0),vi kd,vT,vT,vT]) (fun _=>[]) (cR [[],[0]]<|cA (fun _=>vT) (fun _=>congrArg Value.bool hb1)<|cR [[],[],[0]]<|cA (fun _=>vF) (fun _=>congrArg Value.bool hb2)<|cR [[],[],[],[],[],[],[],[],[0],[]]<|cB (a:=fun ρ=>(.agg (hB h))) (b:=fun ρ=>(.agg (hB 0))) (v:=fun ρ=>vT) .neq 57 (fun _ _=>(neqH h 0 hh (by decide +kernel) _).trans (by rw [hb6];try rfl))<|cR [[],[],[0]]<|jQ (fun ρ=>(kd != 5)) true (fun _=>(show (kd != 5)=true by rw [dD hb2];rfl))<|jE [[],[]]) (fun _=>?_)
  refine oY ?_
  refine jJ Tryz.f60 1 [1,2,3] [vF] (aF (aC ?_))
  exact mR (v:=vF) (fun _ hS=>⟨jB (qU (by have:=iK hb1;have:=dD hb2;have:=yF hb6;unfold o7;omega)),hS.bel⟩)
 rcases Bool.eq_false_or_eq_true (decide (h=0)) with hb8 | hb8
 ·
  refine sS Tryz.f60 24 [1,2,3,30] [] (fun _=>[jp (nb ρ1 0) 2,vu nu,vF,vF,undef,undef,undef,vF,vF,undef,undef,undef,vF,vF,jp (nb ρ1 0) 3,.agg (hB h),.agg (hB 0),vF,vF,undef,undef,undef,vF,vF]) (fun _=>[]) (cR [[],[0]]<|cA (fun _=>vF) (fun _=>congrArg Value.bool hb1)<|cR [[],[],[],[],[],[],[],[],[],[],[],[],[0],[]]<|cB (a:=fun ρ=>(.agg (hB h))) (b:=fun ρ=>(.agg (hB 0))) (v:=fun ρ=>vF) .neq 57 (fun _ _=>(neqH h 0 hh (by decide +kernel) _).trans (by rw [hb8];try rfl))<|jE [[],[],[],[],[],[]]) (fun _=>?_)
  refine oN ?_
  refine aG (aA (aB (jM Tryz.f60 2 [1,2,3,32] [] [pt (nb ρ1 0),vi kd] [[],[0]] (aI (jJ Tryz.f60 2 [1,2,3,32,33] [.bool (kd==1),.bool (kd==1)] ?_)))))
  refine oC (kd==1) (fun hb9=>?_) (fun hb9=>?_)
  ·
   rw [hb9]
   rcases Bool.eq_false_or_eq_true (((ks.length:Nat):Int)==1) with hb10 | hb10
   ·
    refine sS Tryz.f60 8 [1,2,3] [] (fun _=>[vn ks.length,vT,vT,jp (nb ρ1 0) 1,vi m,.bool (m==0),.bool (m==0),.bool (m==0)]) (fun _=>[]) (cR [[]]<|cA (fun _=>vT) (fun _=>congrArg Value.bool hb10)<|jE [[],[],[0],[],[],[]]) (fun _=>?_)
    refine aF (aP (aC ?_))
    exact mR (v:=(.bool (m==0))) (fun _ hS=>⟨jB (fd_b (by have:=dD hb1;have:=yT hb8;have:=xQ hb9;have:=xQ hb10;unfold o7;omega)),hS.bel⟩)
   refine sS Tryz.f60 8 [1,2,3] [] (fun _=>[vn ks.length,vF,vF,undef,undef,undef,vF,vF]) (fun _=>[]) (cR [[]]<|cA (fun _=>vF) (fun _=>congrArg Value.bool hb10)<|jE [[],[],[],[],[],[]]) (fun _=>?_)
   refine aF (aP (aC ?_))
   exact mR (v:=vF) (fun _ hS=>⟨jB (qU (by have:=dD hb1;have:=yT hb8;have:=xQ hb9;have:=jP hb10;unfold o7;omega)),hS.bel⟩)
  rw [hb9]
  refine jJ Tryz.f60 2 [1,2,3,42] [.bool (kd==2),.bool (kd==2)] ?_
  refine oC (kd==2) (fun hb11=>?_) (fun hb11=>?_)
  ·
   rw [hb11]
   rcases Bool.eq_false_or_eq_true (decide (1≤((ks.length:Nat):Int))) with hb12 | hb12
   ·
    rcases Bool.eq_false_or_eq_true (decide (((ks.length:Nat):Int)≤15)) with hb13 | hb13
    ·
     rcases Bool.eq_false_or_eq_true (decide (1≤m)) with hb14 | hb14
     ·
      refine sS Tryz.f60 18 [1,2,3] [] (fun _=>let qa:Value:=.bool (decide (m≤((ks.length:Nat):Int)));[vn ks.length,vT,vT,vn ks.length,vT,vT,vT,jp (nb ρ1 0) 1,vi m,vT,vT,vT,jp (nb ρ1 0) 1,vi m,vn ks.length,qa,qa,qa]) (fun _=>[]) (cR [[]]<|cA (fun _=>vT) (fun _=>congrArg Value.bool hb12)<|cR [[],[]]<|cA (fun _=>vT) (fun _=>congrArg Value.bool hb13)<|cR [[],[],[],[0]]<|cA (fun _=>vT) (fun _=>congrArg Value.bool hb14)<|jE [[],[],[],[0],[],[],[],[]]) (fun _=>?_)
      refine aF (aP (aC ?_))
      exact mR (v:=(.bool (decide (m≤((ks.length:Nat):Int))))) (fun _ hS=>⟨jB (fd_d (by have:=dD hb1;have:=yT hb8;have:=jP hb9;have:=xQ hb11;have:=yT hb12;have:=yT hb13;have:=yT hb14;unfold o7;omega)),hS.bel⟩)
     refine sS Tryz.f60 18 [1,2,3] [] (fun _=>[vn ks.length,vT,vT,vn ks.length,vT,vT,vT,jp (nb ρ1 0) 1,vi m,vF,vF,vF,undef,undef,undef,undef,vF,vF]) (fun _=>[]) (cR [[]]<|cA (fun _=>vT) (fun _=>congrArg Value.bool hb12)<|cR [[],[]]<|cA (fun _=>vT) (fun _=>congrArg Value.bool hb13)<|cR [[],[],[],[0]]<|cA (fun _=>vF) (fun _=>congrArg Value.bool hb14)<|jE [[],[],[],[],[],[],[],[]]) (fun _=>?_)
     refine aF (aP (aC ?_))
     exact mR (v:=vF) (fun _ hS=>⟨jB (qU (by have:=dD hb1;have:=yT hb8;have:=jP hb9;have:=xQ hb11;have:=yT hb12;have:=yT hb13;have:=yF hb14;unfold o7;omega)),hS.bel⟩)
    refine sS Tryz.f60 18 [1,2,3] [] (fun _=>[vn ks.length,vT,vT,vn ks.length,vF,vF,vF,undef,undef,undef,vF,vF,undef,undef,undef,undef,vF,vF]) (fun _=>[]) (cR [[]]<|cA (fun _=>vT) (fun _=>congrArg Value.bool hb12)<|cR [[],[]]<|cA (fun _=>vF) (fun _=>congrArg Value.bool hb13)<|jE [[],[],[],[],[],[],[],[],[],[],[],[],[]]) (fun _=>?_)
    refine aF (aP (aC ?_))
    exact mR (v:=vF) (fun _ hS=>⟨jB (qU (by have:=dD hb1;have:=yT hb8;have:=jP hb9;have:=xQ hb11;have:=yT hb12;have:=yF hb13;unfold o7;omega)),hS.bel⟩)
   refine sS Tryz.f60 18 [1,2,3] [] (fun _=>[vn ks.length,vF,vF,undef,undef,vF,vF,undef,undef,undef,vF,vF,undef,undef,undef,undef,vF,vF]) (fun _=>[]) (cR [[]]<|cA (fun _=>vF) (fun _=>congrArg Value.bool hb12)<|jE [[],[],[],[],[],[],[],[],[],[],[],[],[],[],[],[]]) (fun _=>?_)
   refine aF (aP (aC ?_))
   exact mR (v:=vF) (fun _ hS=>⟨jB (qU (by have:=dD hb1;have:=yT hb8;have:=jP hb9;have:=xQ hb11;have:=yF hb12;unfold o7;omega)),hS.bel⟩)
  rw [hb11]
  refine aG (aJ (aA ?_))
  rcases Bool.eq_false_or_eq_true (((ks.length:Nat):Int)==0) with hb15 | hb15
  ·
   refine sS Tryz.f60 8 [2] [0] (fun _=>[vn ks.length,vT,vT,jp (nb ρ1 0) 1,vi m,.bool (m==0),.bool (m==0),.bool (m==0)]) (fun _=>[]) (cR [[]]<|cA (fun _=>vT) (fun _=>congrArg Value.bool hb15)<|jE [[],[],[0],[],[],[]]) (fun _=>?_)
   refine aF ?_
   exact mR (v:=(.bool (m==0))) (fun _ hS=>⟨jB (fd_b (by have:=dD hb1;have:=yT hb8;have:=jP hb9;have:=jP hb11;have:=xQ hb15;unfold o7;omega)),hS.bel⟩)
  refine sS Tryz.f60 8 [2] [0] (fun _=>[vn ks.length,vF,vF,undef,undef,undef,vF,vF]) (fun _=>[]) (cR [[]]<|cA (fun _=>vF) (fun _=>congrArg Value.bool hb15)<|jE [[],[],[],[],[],[]]) (fun _=>?_)
  refine aF ?_
  exact mR (v:=vF) (fun _ hS=>⟨jB (qU (by have:=dD hb1;have:=yT hb8;have:=jP hb9;have:=jP hb11;have:=jP hb15;unfold o7;omega)),hS.bel⟩)
 refine sS Tryz.f60 24 [1,2,3,30] [] (fun _=>[jp (nb ρ1 0) 2,vu nu,vF,vF,undef,undef,undef,vF,vF,undef,undef,undef,vF,vF,jp (nb ρ1 0) 3,.agg (hB h),.agg (hB 0),vT,vT,pt (nb ρ1 0),vi kd,.bool (kd != 5),.bool (kd != 5),.bool (kd != 5)]) (fun _=>[]) (cR [[],[0]]<|cA (fun _=>vF) (fun _=>congrArg Value.bool hb1)<|cR [[],[],[],[],[],[],[],[],[],[],[],[],[0],[]]<|cB (a:=fun ρ=>(.agg (hB h))) (b:=fun ρ=>(.agg (hB 0))) (v:=fun ρ=>vT) .neq 57 (fun _ _=>(neqH h 0 hh (by decide +kernel) _).trans (by rw [hb8];try rfl))<|jE [[],[],[0],[],[],[]]) (fun _=>?_)
 refine oC (kd != 5) (fun hb16=>?_) (fun hb16=>?_)
 ·
  rw [hb16]
  refine jJ Tryz.f60 1 [1,2,3] [vF] (aF (aC ?_))
  exact mR (v:=vF) (fun _ hS=>⟨jB (qU (by have:=dD hb1;have:=yF hb8;have:=iK hb16;unfold o7;omega)),hS.bel⟩)
 rw [hb16]
 refine aG (aA (aB (jM Tryz.f60 2 [1,2,3,32] [] [pt (nb ρ1 0),vi kd] [[],[0]] (aI ?_))))
 refine sS Tryz.f60 2 [1,2,3,32,33] [] (fun _=>[vF,vF]) (fun _=>[]) (jQ (fun ρ=>(kd==1)) false (fun _=>(show (kd==1)=false by rw [dD hb16];rfl))<|jE [[]]) (fun _=>?_)
 refine oN ?_
 refine sS Tryz.f60 2 [1,2,3,42] [] (fun _=>[vF,vF]) (fun _=>[]) (jQ (fun ρ=>(kd==2)) false (fun _=>(show (kd==2)=false by rw [dD hb16];rfl))<|jE [[]]) (fun _=>?_)
 refine oN ?_
 refine aG (aJ (aA ?_))
 rcases Bool.eq_false_or_eq_true (((ks.length:Nat):Int)==0) with hb17 | hb17
 ·
  refine sS Tryz.f60 8 [2] [0] (fun _=>[vn ks.length,vT,vT,jp (nb ρ1 0) 1,vi m,.bool (m==0),.bool (m==0),.bool (m==0)]) (fun _=>[]) (cR [[]]<|cA (fun _=>vT) (fun _=>congrArg Value.bool hb17)<|jE [[],[],[0],[],[],[]]) (fun _=>?_)
  refine aF ?_
  exact mR (v:=(.bool (m==0))) (fun _ hS=>⟨jB (fd_b (by have:=dD hb1;have:=yF hb8;have:=dD hb16;have:=xQ hb17;unfold o7;omega)),hS.bel⟩)
 refine sS Tryz.f60 8 [2] [0] (fun _=>[vn ks.length,vF,vF,undef,undef,undef,vF,vF]) (fun _=>[]) (cR [[]]<|cA (fun _=>vF) (fun _=>congrArg Value.bool hb17)<|jE [[],[],[],[],[],[]]) (fun _=>?_)
 refine aF ?_
 exact mR (v:=vF) (fun _ hS=>⟨jB (qU (by have:=dD hb1;have:=yF hb8;have:=dD hb16;have:=jP hb17;unfold o7;omega)),hS.bel⟩)
theorem dhard_any (x:Nat) (w0:World):Calls Tryz.prog 78 #[vu x] w0 (jR (.bool (hdB x)) w0):=by
 refine Calls.of_ok (n:=5) (F:=(fun _=>True)) Tryz.func78 rfl rfl rfl (by simp) jT ?_
 refine jJ Tryz.f78 1 [0,2] [vF] (jJ Tryz.f78 3 [2] (let qa:Value:=.bool (decide (2147483648≤((x:Nat):Int)));[vu x,qa,qa]) (aF ?_))
 exact mR (v:=(.bool (decide (2147483648≤((x:Nat):Int))))) (fun _ hS=>⟨jB (hd_dec x),hS.bel⟩)
theorem ixfunc_any (a:Option Addr) (c:Nat) (ps:List Nat) (w0:World) (hf0:Is w0 .u32 a c (nI ps)):Calls Tryz.prog 104 #[.slice a (nI ps).length c,.func (.func 78) #[] #[]] w0 (jR (vi (ixA ps 0)) w0):=by
 refine Calls.of_ok (n:=19) (F:=(fun w=>Is w .u32 a c (nI ps)∧True)) Tryz.func104 rfl rfl rfl (by simp) (hf0.pers0.and cO) ?_
 have hlen:(nI ps).length≤140737488351232:=hf0.max
 refine jJ Tryz.f104 1 [0,1,4] [vi 0] (aB (jJ Tryz.f104 3 [0,1,4,7,8] [.slice a (nI ps).length c,vn (nI ps).length,vi 0] (aI ?_)))
 refine oL (σ:=Nat) (fun i=>[(0,(.slice a (nI ps).length c)),(1,(.func (.func 78) #[] #[])),(7,(vn (nI ps).length)),(8,(vn i))]) (fun _=>[]) (fun i=>(nI ps).length-i)
   (fun i=>(i≤(nI ps).length)∧(ixA (ps.drop i) i=ixA ps 0)) 0 (⟨Nat.zero_le _,rfl⟩) [] ?_
 rintro i ⟨hi,hr⟩
 change Ok Tryz.prog _ _ 19 [(0,(.slice a (nI ps).length c)),(1,(.func (.func 78) #[] #[])),(7,(vn (nI ps).length)),(8,(vn i))] _ [] (fun w=>Is w .u32 a c (nI ps)∧True)
 refine jJ Tryz.f104 1 [0,1,7,8,9] [.bool (decide (((i:Nat):Int)<(((nI ps).length:Nat):Int)))] (aB ?_)
 refine oC (decide (((i:Nat):Int)<(((nI ps).length:Nat):Int))) (fun hb1=>?_) (fun hb1=>?_)
 ·
  rw [hb1]
  have:=yT hb1
  refine aG (aA (aB (aI (jJ Tryz.f104 2 [0,1,5,7,8] [vn i,vn i] ?_))))
  refine sS Tryz.f104 6 [0,1,5,7,8,16] [] (fun _=>[.func (.func 78) #[] #[],.slice a (nI ps).length c,vn i,.pointer (fK a i),vu (ps.getD i 0),.bool (hdB (ps.getD i 0))]) (fun _=>[]) (cR [[],[],[]]<|cX (qF (fun _ _ _ hG=>o6 (k:=.i64) Tryz.underlying67 Tryz.sizeOf55 hG.fn.1 rfl (show ((i:Nat):Int)=((i:Nat):Int) from rfl) (show i<(nI ps).length from (by omega))))<|cX (qF (v:=fun ρ=>(vu (ps.getD i 0))) (fun _ _ _ hG=>(rG Tryz.isAgg55 hG.fn.1 (show i<(nI ps).length from (by omega))).trans (by rw [yQ])))<|cC (fun _ w=>dhard_any (ps.getD i 0) w)<|cN) (fun _=>?_)
  refine oC (hdB (ps.getD i 0)) (fun hb2=>?_) (fun hb2=>?_)
  ·
   rw [hb2]
   refine jJ Tryz.f104 2 [0,1,4,7,8] [vn i,vn i] (aF (aP (aC (aC (aP (aC ?_))))))
   exact mR (v:=(vn i)) (fun _ hS=>⟨congrArg (fun x=>Ending.returned (vi x)) (ix_stop (by have:=fZ ps;omega) hb2 hr),hS.bel⟩)
  rw [hb2]
  refine aG (aJ (aA ?_))
  refine rS Tryz.f104 2 [0,1,7,8] [] (fun _=>[vn (i+1),vn (i+1)]) (fun _=>[]) (jW (fun ρ=>(((i:Nat):Int)+1)) (fun _=>(i+1)) (fun _=>(aW i 1 (by omega)))<|jE [[]]) (fun _=>?_)
  exact mN (i+1) (by show (nI ps).length-(i+1)<(nI ps).length-i;omega) (⟨(by omega),ix_next (by have:=fZ ps;omega) hb2 hr⟩) []
 rw [hb1]
 refine bF (aN (aN (aT (aA (jJ Tryz.f104 1 [4] [vi (-1)] (aF ?_))))))
 exact mR (v:=(vi (-1))) (fun _ hS=>⟨congrArg (fun x=>Ending.returned (vi x)) (ix_end (by have:=fZ ps;have:=yF hb1;omega) hr),hS.bel⟩)
theorem cofunc_any (a:Option Addr) (c:Nat) (ps:List Nat) (w0:World) (hf0:Is w0 .u32 a c (nI ps)):Calls Tryz.prog 77 #[.slice a (nI ps).length c,.func (.func 78) #[] #[]] w0 (jR (.bool (ps.any hdB)) w0):=by
 refine Calls.of_ok (n:=9) (F:=(fun w=>Is w .u32 a c (nI ps)∧True)) Tryz.func77 rfl rfl rfl (by simp) (hf0.pers0.and cO) ?_
 refine jJ Tryz.f77 1 [0,1,4] [vF] ?_
 refine sS Tryz.f77 5 [4] [] (fun _=>let qa:Value:=.bool (decide (0≤(ixA ps 0)));[.slice a (nI ps).length c,.func (.func 78) #[] #[],vi (ixA ps 0),qa,qa]) (fun _=>[]) (cR [[],[]]<|cX (qC (fun _ _ w hG=>ixfunc_any a c ps w hG.fn.1))<|jE [[],[]]) (fun _=>?_)
 refine aF ?_
 exact mR (v:=(.bool (decide (0≤(ixA ps 0))))) (fun _ hS=>⟨jB (ixA_any ps 0),hS.bel⟩)
theorem dvpath_any (p:dO) (hp:p.Ok) (w0:World) (hf0:Is w0 .u32 p.pa p.pc (nI p.ps)):Calls Tryz.prog 54 #[.agg (dO.row p)] w0 (jR (.bool (dO.vp p)) w0):=by
 refine Calls.of_ok (n:=40) (F:=(fun w=>Is w .u32 p.pa p.pc (nI p.ps)∧True)) Tryz.func54 rfl rfl rfl (by simp) (hf0.pers0.and cO) ?_
 have hlen:(nI p.ps).length≤140737488351232:=hf0.max
 have hnl:(nI p.ps).length=p.ps.length:=fZ p.ps
 refine sS Tryz.f54 2 [1,2] [] (fun ρ=>[pt (nb ρ 0),vF]) (fun ρ=>[(0,(nw ρ 0 (cL (dO.row p) 69)))]) (jE [[],[]]) (fun ρ1=>?_)
 refine aB ?_
 rcases Bool.eq_false_or_eq_true (decide (8<(((nI p.ps).length:Nat):Int))) with hb1 | hb1
 ·
  refine sS Tryz.f54 10 [1,2,14] [] (fun _=>[jp (nb ρ1 0) 43,.slice p.pa (nI p.ps).length p.pc,vn (nI p.ps).length,vT,vT,undef,undef,undef,undef,vT]) (fun _=>[]) (cR [[],[0],[]]<|cA (fun _=>vT) (fun _=>congrArg Value.bool hb1)<|jE [[],[],[],[],[],[]]) (fun _=>?_)
  refine oY ?_
  refine jJ Tryz.f54 1 [1,2] [vF] (aF (aC ?_))
  exact mR (v:=vF) (fun _ hS=>⟨jB (vp_1 (by have:=yT hb1;omega)),hS.bel⟩)
 refine sS Tryz.f54 10 [1,2,14] [] (fun _=>[jp (nb ρ1 0) 43,.slice p.pa (nI p.ps).length p.pc,vn (nI p.ps).length,vF,vF,pt (nb ρ1 0),.agg (kY p.k),.bool (fC p.k),.bool (!(fC p.k)),.bool (!(fC p.k))]) (fun _=>[]) (cR [[],[0],[]]<|cA (fun _=>vF) (fun _=>congrArg Value.bool hb1)<|cR [[],[],[0]]<|cC (fun _ w=>yN p.k hp.k w)<|jE [[],[]]) (fun _=>?_)
 refine oC (!(fC p.k)) (fun hb2=>?_) (fun hb2=>?_)
 ·
  rw [hb2]
  refine jJ Tryz.f54 1 [1,2] [vF] (aF (aC ?_))
  exact mR (v:=vF) (fun _ hS=>⟨jB (vp_2 (dF hb2)),hS.bel⟩)
 rw [hb2]
 refine aG (aA ?_)
 refine sS Tryz.f54 8 [1,2,3] [] (fun _=>let qa:=vi (p.k.d+(((nI p.ps).length:Nat):Int));[pt (nb ρ1 0),jp (nb ρ1 0) 40,vi p.k.d,jp (nb ρ1 0) 43,.slice p.pa (nI p.ps).length p.pc,vn (nI p.ps).length,qa,qa]) (fun _=>[]) (cR [[],[],[0],[],[0],[]]<|jU (fun ρ=>(p.k.d+(((nI p.ps).length:Nat):Int))) (fun _=>(p.k.d+(((nI p.ps).length:Nat):Int))) (fun _=>(gZ (by have:=oI (aV hb2);have:=yF hb1;omega)))<|jE [[]]) (fun _=>?_)
 refine aB (jM Tryz.f54 2 [1,2,3,23] [] [jp (nb ρ1 0) 44,.bool p.wd] [[],[0]] ?_)
 refine oC p.wd (fun hb3=>?_) (fun hb3=>?_)
 ·
  rw [hb3]
  refine rS Tryz.f54 3 [1,2,3] [] (fun _=>let qa:=vi (p.k.d+(((nI p.ps).length:Nat):Int)+1);[vi (p.k.d+(((nI p.ps).length:Nat):Int)),qa,qa]) (fun _=>[]) (cR [[]]<|jU (fun ρ=>((p.k.d+(((nI p.ps).length:Nat):Int))+1)) (fun _=>(p.k.d+(((nI p.ps).length:Nat):Int)+1)) (fun _=>(gZ (by have:=oI (aV hb2);have:=yF hb1;omega)))<|jE [[]]) (fun _=>?_)
  refine aA (aB (jJ Tryz.f54 2 [1,2,27] [vi (p.k.d+(((nI p.ps).length:Nat):Int)+1),.bool (decide (8<(p.k.d+(((nI p.ps).length:Nat):Int)+1)))] ?_))
  refine oC (decide (8<(p.k.d+(((nI p.ps).length:Nat):Int)+1))) (fun hb4=>?_) (fun hb4=>?_)
  ·
   rw [hb4]
   refine jJ Tryz.f54 1 [1,2] [vF] (aF (aC ?_))
   exact mR (v:=vF) (fun _ hS=>⟨jB (vp_3 (by have:=w1_t hb3;have:=yF hb1;have:=yT hb4;omega)),hS.bel⟩)
  rw [hb4]
  have:=yF hb4
  refine aG (aA ?_)
  refine sS Tryz.f54 4 [1,2,4] [] (fun _=>[jp (nb ρ1 0) 43,.slice p.pa (nI p.ps).length p.pc,.bool (p.ps.any hdB),.bool (p.ps.any hdB)]) (fun _=>[]) (cR [[],[0]]<|cX (qC (fun _ _ w hG=>cofunc_any p.pa p.pc p.ps w hG.fn.1))<|jE [[]]) (fun _=>?_)
  refine lK [(1,(pt (nb ρ1 0))),(2,vF),(4,(.bool (p.ps.any hdB)))] [(nb ρ1 0,(cL (dO.row p) 69))] ?_
  rcases Bool.eq_false_or_eq_true (p.ps.any hdB) with hb5 | hb5
  ·
   rw [hb5]
   refine sS Tryz.f54 10 [2] [0] (fun _=>let qa:Value:=.bool (!decide (p.k.s=0));[vT,vF,vF,pt (nb ρ1 0),pt (nb ρ1 0),U p.k.s,U 0,qa,qa,qa]) (fun _=>[]) (cR [[],[],[],[],[],[0],[]]<|cB (a:=fun ρ=>(U p.k.s)) (b:=fun ρ=>(U 0)) (v:=fun ρ=>(.bool (!decide (p.k.s=0)))) .neq 64 (fun _ _=>neqU p.k.s 0 hp.k.s (by decide +kernel) _)<|jE [[],[]]) (fun _=>?_)
   refine aF ?_
   exact mR (v:=(.bool (!decide (p.k.s=0)))) (fun _ hS=>⟨jB (show (!decide (p.k.s=0))=dO.vp p from (Decidable.em (p.k.s=0)).elim (fun h0=>by rw [decide_eq_true h0];exact vp_4 hb5 h0) (fun h0=>by rw [decide_eq_false h0];exact vp_5 (by have:=yF hb1;omega) (aV hb2) (by have:=w1_t hb3;have:=yF hb1;omega) (Or.inr h0))),hS.bel⟩)
  rw [hb5]
  refine jM Tryz.f54 10 [2] [0] [vF,vT,vT,undef,undef,undef,undef,undef,vT,vT] [[],[],[],[],[],[],[],[],[],[]] (aF ?_)
  exact mR (v:=vT) (fun _ hS=>⟨jB (vp_5 (by have:=yF hb1;omega) (aV hb2) (by have:=w1_t hb3;have:=yF hb1;omega) (Or.inl hb5)),hS.bel⟩)
 rw [hb3]
 refine aG (aA (aB (jJ Tryz.f54 2 [1,2,27] [vi (p.k.d+(((nI p.ps).length:Nat):Int)),.bool (decide (8<(p.k.d+(((nI p.ps).length:Nat):Int))))] ?_)))
 refine oC (decide (8<(p.k.d+(((nI p.ps).length:Nat):Int)))) (fun hb6=>?_) (fun hb6=>?_)
 ·
  rw [hb6]
  refine jJ Tryz.f54 1 [1,2] [vF] (aF (aC ?_))
  exact mR (v:=vF) (fun _ hS=>⟨jB (vp_3 (by have:=w1_f hb3;have:=yF hb1;have:=yT hb6;omega)),hS.bel⟩)
 rw [hb6]
 have:=yF hb6
 refine aG (aA ?_)
 refine sS Tryz.f54 4 [1,2,4] [] (fun _=>[jp (nb ρ1 0) 43,.slice p.pa (nI p.ps).length p.pc,.bool (p.ps.any hdB),.bool (p.ps.any hdB)]) (fun _=>[]) (cR [[],[0]]<|cX (qC (fun _ _ w hG=>cofunc_any p.pa p.pc p.ps w hG.fn.1))<|jE [[]]) (fun _=>?_)
 rcases Bool.eq_false_or_eq_true (p.ps.any hdB) with hb7 | hb7
 ·
  rw [hb7]
  refine sS Tryz.f54 10 [2] [0] (fun _=>let qa:Value:=.bool (!decide (p.k.s=0));[vT,vF,vF,pt (nb ρ1 0),pt (nb ρ1 0),U p.k.s,U 0,qa,qa,qa]) (fun _=>[]) (cR [[],[],[],[],[],[0],[]]<|cB (a:=fun ρ=>(U p.k.s)) (b:=fun ρ=>(U 0)) (v:=fun ρ=>(.bool (!decide (p.k.s=0)))) .neq 64 (fun _ _=>neqU p.k.s 0 hp.k.s (by decide +kernel) _)<|jE [[],[]]) (fun _=>?_)
  refine aF ?_
  exact mR (v:=(.bool (!decide (p.k.s=0)))) (fun _ hS=>⟨jB (show (!decide (p.k.s=0))=dO.vp p from (Decidable.em (p.k.s=0)).elim (fun h0=>by rw [decide_eq_true h0];exact vp_4 hb7 h0) (fun h0=>by rw [decide_eq_false h0];exact vp_5 (by have:=yF hb1;omega) (aV hb2) (by have:=w1_f hb3;have:=yF hb1;omega) (Or.inr h0))),hS.bel⟩)
 rw [hb7]
 refine jM Tryz.f54 10 [2] [0] [vF,vT,vT,undef,undef,undef,undef,undef,vT,vT] [[],[],[],[],[],[],[],[],[],[]] (aF ?_)
 exact mR (v:=vT) (fun _ hS=>⟨jB (vp_5 (by have:=yF hb1;omega) (aV hb2) (by have:=w1_f hb3;have:=yF hb1;omega) (Or.inl hb7)),hS.bel⟩)
theorem rdvpath_any (p:dO) (hp:p.Ok) (w0:World) (hf0:Is w0 .u32 p.pa p.pc (nI p.ps)):Calls Tryz.prog 61 #[.agg (dO.row p)] w0 (jR (.bool (dO.vp p)) w0):=by
 refine Calls.of_ok (n:=49) (F:=(fun w=>Is w .u32 p.pa p.pc (nI p.ps)∧True)) Tryz.func61 rfl rfl rfl (by simp) (hf0.pers0.and cO) ?_
 have hlen:(nI p.ps).length≤140737488351232:=hf0.max
 have hnl:(nI p.ps).length=p.ps.length:=fZ p.ps
 refine sS Tryz.f61 2 [1,2] [] (fun ρ=>[pt (nb ρ 0),vF]) (fun ρ=>[(0,(nw ρ 0 (cL (dO.row p) 69)))]) (jE [[],[]]) (fun ρ1=>?_)
 refine jM Tryz.f61 4 [1,2,3] [] [jp (nb ρ1 0) 43,.slice p.pa (nI p.ps).length p.pc,vn (nI p.ps).length,vn (nI p.ps).length] [[],[0],[],[]] (aB (jM Tryz.f61 2 [1,2,3,9] [] [jp (nb ρ1 0) 44,.bool p.wd] [[],[0]] ?_))
 refine oC p.wd (fun hb1=>?_) (fun hb1=>?_)
 ·
  rw [hb1]
  refine rS Tryz.f61 3 [1,2,3] [] (fun _=>let qa:=vn ((nI p.ps).length+1);[vn (nI p.ps).length,qa,qa]) (fun _=>[]) (cR [[]]<|jW (fun ρ=>((((nI p.ps).length:Nat):Int)+1)) (fun _=>((nI p.ps).length+1)) (fun _=>(aW (nI p.ps).length 1 (by omega)))<|jE [[]]) (fun _=>?_)
  refine aA (aB ?_)
  rcases Bool.eq_false_or_eq_true (decide (8<(((nI p.ps).length:Nat):Int))) with hb2 | hb2
  ·
   refine sS Tryz.f61 18 [1,2,29] [] (fun _=>[jp (nb ρ1 0) 43,.slice p.pa (nI p.ps).length p.pc,vn (nI p.ps).length,vT,vT,undef,undef,undef,undef,vT,vT,undef,undef,undef,undef,undef,undef,vT]) (fun _=>[]) (cR [[],[0],[]]<|cA (fun _=>vT) (fun _=>congrArg Value.bool hb2)<|jE [[],[],[],[],[],[],[],[],[],[],[],[],[],[]]) (fun _=>?_)
   refine oY ?_
   refine jJ Tryz.f61 1 [1,2] [vF] (aF (aC ?_))
   exact mR (v:=vF) (fun _ hS=>⟨jB (vp_1 (by have:=yT hb2;omega)),hS.bel⟩)
  rcases Bool.eq_false_or_eq_true (fC p.k) with hb3 | hb3
  ·
   refine sS Tryz.f61 18 [1,2,29] [] (fun _=>let qa:Value:=.bool (decide (8<(p.k.d+(((nI p.ps).length+1:Nat):Int))));[jp (nb ρ1 0) 43,.slice p.pa (nI p.ps).length p.pc,vn (nI p.ps).length,vF,vF,pt (nb ρ1 0),.agg (kY p.k),vT,vF,vF,vF,pt (nb ρ1 0),jp (nb ρ1 0) 40,vi p.k.d,vn ((nI p.ps).length+1),vi (p.k.d+(((nI p.ps).length+1:Nat):Int)),qa,qa]) (fun _=>[]) (cR [[],[0],[]]<|cA (fun _=>vF) (fun _=>congrArg Value.bool hb2)<|cR [[],[],[0]]<|cC (f:=82) (args:=fun ρ=> #[.agg (kY p.k)]) (v:=fun ρ=>vT) (fun _ w=>by as_aux_lemma=>(have hcall:=(fun w=>oQ p.k hp.k w) w;rw [hb3] at hcall;exact hcall))<|cR [[],[],[],[],[],[0],[]]<|jU (fun ρ=>(p.k.d+(((nI p.ps).length+1:Nat):Int))) (fun _=>(p.k.d+(((nI p.ps).length+1:Nat):Int))) (fun _=>(gZ (by have:=oI hb3;have:=yF hb2;omega)))<|jE [[],[]]) (fun _=>?_)
   refine oC (decide (8<(p.k.d+(((nI p.ps).length+1:Nat):Int)))) (fun hb4=>?_) (fun hb4=>?_)
   ·
    rw [hb4]
    refine jJ Tryz.f61 1 [1,2] [vF] (aF (aC ?_))
    exact mR (v:=vF) (fun _ hS=>⟨jB (vp_3 (by have:=w1_t hb1;have:=yF hb2;have:=yT hb4;omega)),hS.bel⟩)
   rw [hb4]
   have:=yF hb4
   refine aG (aA (aB (jJ Tryz.f61 1 [1,2,4] [vi 0] (aI ?_))))
   refine oL (σ:=Nat) (fun i=>[(1,(pt (nb ρ1 0))),(4,(vn i))]) (fun _=>[(nb ρ1 0,(cL (dO.row p) 69))]) (fun i=>(nI p.ps).length-i)
     (fun i=>(i≤(nI p.ps).length)∧((p.ps.drop i).any p.hf=p.ps.any p.hf)) 0 (⟨Nat.zero_le _,rfl⟩) [] ?_
   rintro i ⟨hi,hr⟩
   change Ok Tryz.prog _ _ 49 [(1,(pt (nb ρ1 0))),(4,(vn i))] _ [(nb ρ1 0,(cL (dO.row p) 69))] (fun w=>Is w .u32 p.pa p.pc (nI p.ps)∧True)
   refine aB (jM Tryz.f61 5 [1,4,34] [] [vn i,jp (nb ρ1 0) 43,.slice p.pa (nI p.ps).length p.pc,vn (nI p.ps).length,.bool (decide (((i:Nat):Int)<(((nI p.ps).length:Nat):Int)))] [[],[],[0],[],[]] ?_)
   refine oC (decide (((i:Nat):Int)<(((nI p.ps).length:Nat):Int))) (fun hb5=>?_) (fun hb5=>?_)
   ·
    rw [hb5]
    have:=yT hb5
    refine aG (aA (aB (aI ?_)))
    rcases Bool.eq_false_or_eq_true (decide (2147483648≤((p.ps.getD i 0:Nat):Int))) with hb6 | hb6
    ·
     refine sS Tryz.f61 12 [1,4,48] [] (fun _=>let qa:Value:=.bool (decide (p.k.s=0));[jp (nb ρ1 0) 43,.slice p.pa (nI p.ps).length p.pc,vn i,.pointer (fK p.pa i),vu (p.ps.getD i 0),vT,vT,pt (nb ρ1 0),pt (nb ρ1 0),U p.k.s,qa,qa]) (fun _=>[]) (cR [[],[0],[]]<|cX (qF (fun _ _ _ hG=>o6 (k:=.i64) Tryz.underlying67 Tryz.sizeOf55 hG.fn.1 rfl (show ((i:Nat):Int)=((i:Nat):Int) from rfl) (show i<(nI p.ps).length from (by have:=yF hb2;have:=yT hb6;omega))))<|cX (qF (v:=fun ρ=>(vu (p.ps.getD i 0))) (fun _ _ _ hG=>(rG Tryz.isAgg55 hG.fn.1 (show i<(nI p.ps).length from (by have:=yF hb2;have:=yT hb6;omega))).trans (by rw [yQ])))<|cA (fun _=>vT) (fun _=>congrArg Value.bool hb6)<|cR [[],[],[],[0]]<|cC (fun _ w=>iI p.k.s w hp.k.s)<|jE [[]]) (fun _=>?_)
     refine oC (decide (p.k.s=0)) (fun hb7=>?_) (fun hb7=>?_)
     ·
      rw [hb7]
      refine jJ Tryz.f61 1 [1,2,4] [vF] (aF (aP (aC (aC (aP (aC ?_))))))
      exact mR (v:=vF) (fun _ hS=>⟨jB (vp_6 (pa_stop (f:=p.hf) (by have:=yF hb2;have:=yT hb6;have:=yT hb7;omega) (hf_c hb6 hb7) hr)),hS.bel⟩)
     rw [hb7]
     have:=yF hb7
     refine aG (aJ (aA ?_))
     refine rS Tryz.f61 3 [1,4] [] (fun _=>[vn i,vn (i+1),vn (i+1)]) (fun _=>[]) (cR [[]]<|jW (fun ρ=>(((i:Nat):Int)+1)) (fun _=>(i+1)) (fun _=>(aW i 1 (by have:=yF hb2;have:=yT hb6;omega)))<|jE [[]]) (fun _=>?_)
     exact mN (i+1) (by show (nI p.ps).length-(i+1)<(nI p.ps).length-i;have:=yF hb2;have:=yT hb6;omega) (⟨(by have:=yF hb2;have:=yT hb6;omega),pa_next (f:=p.hf) (by have:=yF hb2;have:=yT hb6;omega) (hf_b hb7) hr⟩) []
    refine sS Tryz.f61 12 [1,4,48] [] (fun _=>[jp (nb ρ1 0) 43,.slice p.pa (nI p.ps).length p.pc,vn i,.pointer (fK p.pa i),vu (p.ps.getD i 0),vF,vF,undef,undef,undef,undef,vF]) (fun _=>[]) (cR [[],[0],[]]<|cX (qF (fun _ _ _ hG=>o6 (k:=.i64) Tryz.underlying67 Tryz.sizeOf55 hG.fn.1 rfl (show ((i:Nat):Int)=((i:Nat):Int) from rfl) (show i<(nI p.ps).length from (by have:=yF hb2;have:=yF hb6;omega))))<|cX (qF (v:=fun ρ=>(vu (p.ps.getD i 0))) (fun _ _ _ hG=>(rG Tryz.isAgg55 hG.fn.1 (show i<(nI p.ps).length from (by have:=yF hb2;have:=yF hb6;omega))).trans (by rw [yQ])))<|cA (fun _=>vF) (fun _=>congrArg Value.bool hb6)<|jE [[],[],[],[],[],[]]) (fun _=>?_)
    refine oN ?_
    refine aG (aJ (aA ?_))
    refine rS Tryz.f61 3 [1,4] [] (fun _=>[vn i,vn (i+1),vn (i+1)]) (fun _=>[]) (cR [[]]<|jW (fun ρ=>(((i:Nat):Int)+1)) (fun _=>(i+1)) (fun _=>(aW i 1 (by have:=yF hb2;have:=yF hb6;omega)))<|jE [[]]) (fun _=>?_)
    exact mN (i+1) (by show (nI p.ps).length-(i+1)<(nI p.ps).length-i;have:=yF hb2;have:=yF hb6;omega) (⟨(by have:=yF hb2;have:=yF hb6;omega),pa_next (f:=p.hf) (by have:=yF hb2;have:=yF hb6;omega) (hf_a hb6) hr⟩) []
   rw [hb5]
   have:=yF hb5
   refine bF (aN (aN (aT (aA (jM Tryz.f61 1 [2] [0] [vT] [[]] (aF ?_))))))
   exact mR (v:=vT) (fun _ hS=>⟨jB (vp_5 (by have:=yF hb2;omega) hb3 (by have:=w1_t hb1;have:=yF hb2;omega) (vp_7 (all_endN (by have:=yF hb2;omega) hr))),hS.bel⟩)
  refine sS Tryz.f61 18 [1,2,29] [] (fun _=>[jp (nb ρ1 0) 43,.slice p.pa (nI p.ps).length p.pc,vn (nI p.ps).length,vF,vF,pt (nb ρ1 0),.agg (kY p.k),vF,vT,vT,vT,undef,undef,undef,undef,undef,undef,vT]) (fun _=>[]) (cR [[],[0],[]]<|cA (fun _=>vF) (fun _=>congrArg Value.bool hb2)<|cR [[],[],[0]]<|cC (f:=82) (args:=fun ρ=> #[.agg (kY p.k)]) (v:=fun ρ=>vF) (fun _ w=>by as_aux_lemma=>(have hcall:=(fun w=>oQ p.k hp.k w) w;rw [hb3] at hcall;exact hcall))<|jE [[],[],[],[],[],[],[],[],[],[]]) (fun _=>?_)
  refine oY ?_
  refine jJ Tryz.f61 1 [1,2] [vF] (aF (aC ?_))
  exact mR (v:=vF) (fun _ hS=>⟨jB (vp_2 hb3),hS.bel⟩)
 rw [hb1]
 refine aG (aA (aB ?_))
 rcases Bool.eq_false_or_eq_true (decide (8<(((nI p.ps).length:Nat):Int))) with hb8 | hb8
 ·
  refine sS Tryz.f61 18 [1,2,29] [] (fun _=>[jp (nb ρ1 0) 43,.slice p.pa (nI p.ps).length p.pc,vn (nI p.ps).length,vT,vT,undef,undef,undef,undef,vT,vT,undef,undef,undef,undef,undef,undef,vT]) (fun _=>[]) (cR [[],[0],[]]<|cA (fun _=>vT) (fun _=>congrArg Value.bool hb8)<|jE [[],[],[],[],[],[],[],[],[],[],[],[],[],[]]) (fun _=>?_)
  refine oY ?_
  refine jJ Tryz.f61 1 [1,2] [vF] (aF (aC ?_))
  exact mR (v:=vF) (fun _ hS=>⟨jB (vp_1 (by have:=yT hb8;omega)),hS.bel⟩)
 rcases Bool.eq_false_or_eq_true (fC p.k) with hb9 | hb9
 ·
  refine sS Tryz.f61 18 [1,2,29] [] (fun _=>let qa:Value:=.bool (decide (8<(p.k.d+(((nI p.ps).length:Nat):Int))));[jp (nb ρ1 0) 43,.slice p.pa (nI p.ps).length p.pc,vn (nI p.ps).length,vF,vF,pt (nb ρ1 0),.agg (kY p.k),vT,vF,vF,vF,pt (nb ρ1 0),jp (nb ρ1 0) 40,vi p.k.d,vn (nI p.ps).length,vi (p.k.d+(((nI p.ps).length:Nat):Int)),qa,qa]) (fun _=>[]) (cR [[],[0],[]]<|cA (fun _=>vF) (fun _=>congrArg Value.bool hb8)<|cR [[],[],[0]]<|cC (f:=82) (args:=fun ρ=> #[.agg (kY p.k)]) (v:=fun ρ=>vT) (fun _ w=>by as_aux_lemma=>(have hcall:=(fun w=>oQ p.k hp.k w) w;rw [hb9] at hcall;exact hcall))<|cR [[],[],[],[],[],[0],[]]<|jU (fun ρ=>(p.k.d+(((nI p.ps).length:Nat):Int))) (fun _=>(p.k.d+(((nI p.ps).length:Nat):Int))) (fun _=>(gZ (by have:=oI hb9;have:=yF hb8;omega)))<|jE [[],[]]) (fun _=>?_)
  refine oC (decide (8<(p.k.d+(((nI p.ps).length:Nat):Int)))) (fun hb10=>?_) (fun hb10=>?_)
  ·
   rw [hb10]
   refine jJ Tryz.f61 1 [1,2] [vF] (aF (aC ?_))
   exact mR (v:=vF) (fun _ hS=>⟨jB (vp_3 (by have:=w1_f hb1;have:=yF hb8;have:=yT hb10;omega)),hS.bel⟩)
  rw [hb10]
  have:=yF hb10
  refine aG (aA (aB (jJ Tryz.f61 1 [1,2,4] [vi 0] (aI ?_))))
  refine oL (σ:=Nat) (fun i=>[(1,(pt (nb ρ1 0))),(4,(vn i))]) (fun _=>[(nb ρ1 0,(cL (dO.row p) 69))]) (fun i=>(nI p.ps).length-i)
    (fun i=>(i≤(nI p.ps).length)∧((p.ps.drop i).any p.hf=p.ps.any p.hf)) 0 (⟨Nat.zero_le _,rfl⟩) [] ?_
  rintro i ⟨hi,hr⟩
  change Ok Tryz.prog _ _ 49 [(1,(pt (nb ρ1 0))),(4,(vn i))] _ [(nb ρ1 0,(cL (dO.row p) 69))] (fun w=>Is w .u32 p.pa p.pc (nI p.ps)∧True)
  refine aB (jM Tryz.f61 5 [1,4,34] [] [vn i,jp (nb ρ1 0) 43,.slice p.pa (nI p.ps).length p.pc,vn (nI p.ps).length,.bool (decide (((i:Nat):Int)<(((nI p.ps).length:Nat):Int)))] [[],[],[0],[],[]] ?_)
  refine oC (decide (((i:Nat):Int)<(((nI p.ps).length:Nat):Int))) (fun hb11=>?_) (fun hb11=>?_)
  ·
   rw [hb11]
   have:=yT hb11
   refine aG (aA (aB (aI ?_)))
   rcases Bool.eq_false_or_eq_true (decide (2147483648≤((p.ps.getD i 0:Nat):Int))) with hb12 | hb12
   ·
    refine sS Tryz.f61 12 [1,4,48] [] (fun _=>let qa:Value:=.bool (decide (p.k.s=0));[jp (nb ρ1 0) 43,.slice p.pa (nI p.ps).length p.pc,vn i,.pointer (fK p.pa i),vu (p.ps.getD i 0),vT,vT,pt (nb ρ1 0),pt (nb ρ1 0),U p.k.s,qa,qa]) (fun _=>[]) (cR [[],[0],[]]<|cX (qF (fun _ _ _ hG=>o6 (k:=.i64) Tryz.underlying67 Tryz.sizeOf55 hG.fn.1 rfl (show ((i:Nat):Int)=((i:Nat):Int) from rfl) (show i<(nI p.ps).length from (by have:=yF hb8;have:=yT hb12;omega))))<|cX (qF (v:=fun ρ=>(vu (p.ps.getD i 0))) (fun _ _ _ hG=>(rG Tryz.isAgg55 hG.fn.1 (show i<(nI p.ps).length from (by have:=yF hb8;have:=yT hb12;omega))).trans (by rw [yQ])))<|cA (fun _=>vT) (fun _=>congrArg Value.bool hb12)<|cR [[],[],[],[0]]<|cC (fun _ w=>iI p.k.s w hp.k.s)<|jE [[]]) (fun _=>?_)
    refine oC (decide (p.k.s=0)) (fun hb13=>?_) (fun hb13=>?_)
    ·
     rw [hb13]
     refine jJ Tryz.f61 1 [1,2,4] [vF] (aF (aP (aC (aC (aP (aC ?_))))))
     exact mR (v:=vF) (fun _ hS=>⟨jB (vp_6 (pa_stop (f:=p.hf) (by have:=yF hb8;have:=yT hb12;have:=yT hb13;omega) (hf_c hb12 hb13) hr)),hS.bel⟩)
    rw [hb13]
    have:=yF hb13
    refine aG (aJ (aA ?_))
    refine rS Tryz.f61 3 [1,4] [] (fun _=>[vn i,vn (i+1),vn (i+1)]) (fun _=>[]) (cR [[]]<|jW (fun ρ=>(((i:Nat):Int)+1)) (fun _=>(i+1)) (fun _=>(aW i 1 (by have:=yF hb8;have:=yT hb12;omega)))<|jE [[]]) (fun _=>?_)
    exact mN (i+1) (by show (nI p.ps).length-(i+1)<(nI p.ps).length-i;have:=yF hb8;have:=yT hb12;omega) (⟨(by have:=yF hb8;have:=yT hb12;omega),pa_next (f:=p.hf) (by have:=yF hb8;have:=yT hb12;omega) (hf_b hb13) hr⟩) []
   refine sS Tryz.f61 12 [1,4,48] [] (fun _=>[jp (nb ρ1 0) 43,.slice p.pa (nI p.ps).length p.pc,vn i,.pointer (fK p.pa i),vu (p.ps.getD i 0),vF,vF,undef,undef,undef,undef,vF]) (fun _=>[]) (cR [[],[0],[]]<|cX (qF (fun _ _ _ hG=>o6 (k:=.i64) Tryz.underlying67 Tryz.sizeOf55 hG.fn.1 rfl (show ((i:Nat):Int)=((i:Nat):Int) from rfl) (show i<(nI p.ps).length from (by have:=yF hb8;have:=yF hb12;omega))))<|cX (qF (v:=fun ρ=>(vu (p.ps.getD i 0))) (fun _ _ _ hG=>(rG Tryz.isAgg55 hG.fn.1 (show i<(nI p.ps).length from (by have:=yF hb8;have:=yF hb12;omega))).trans (by rw [yQ])))<|cA (fun _=>vF) (fun _=>congrArg Value.bool hb12)<|jE [[],[],[],[],[],[]]) (fun _=>?_)
   refine oN ?_
   refine aG (aJ (aA ?_))
   refine rS Tryz.f61 3 [1,4] [] (fun _=>[vn i,vn (i+1),vn (i+1)]) (fun _=>[]) (cR [[]]<|jW (fun ρ=>(((i:Nat):Int)+1)) (fun _=>(i+1)) (fun _=>(aW i 1 (by have:=yF hb8;have:=yF hb12;omega)))<|jE [[]]) (fun _=>?_)
   exact mN (i+1) (by show (nI p.ps).length-(i+1)<(nI p.ps).length-i;have:=yF hb8;have:=yF hb12;omega) (⟨(by have:=yF hb8;have:=yF hb12;omega),pa_next (f:=p.hf) (by have:=yF hb8;have:=yF hb12;omega) (hf_a hb12) hr⟩) []
  rw [hb11]
  have:=yF hb11
  refine bF (aN (aN (aT (aA (jM Tryz.f61 1 [2] [0] [vT] [[]] (aF ?_))))))
  exact mR (v:=vT) (fun _ hS=>⟨jB (vp_5 (by have:=yF hb8;omega) hb9 (by have:=w1_f hb1;have:=yF hb8;omega) (vp_7 (all_endN (by have:=yF hb8;omega) hr))),hS.bel⟩)
 refine sS Tryz.f61 18 [1,2,29] [] (fun _=>[jp (nb ρ1 0) 43,.slice p.pa (nI p.ps).length p.pc,vn (nI p.ps).length,vF,vF,pt (nb ρ1 0),.agg (kY p.k),vF,vT,vT,vT,undef,undef,undef,undef,undef,undef,vT]) (fun _=>[]) (cR [[],[0],[]]<|cA (fun _=>vF) (fun _=>congrArg Value.bool hb8)<|cR [[],[],[0]]<|cC (f:=82) (args:=fun ρ=> #[.agg (kY p.k)]) (v:=fun ρ=>vF) (fun _ w=>by as_aux_lemma=>(have hcall:=(fun w=>oQ p.k hp.k w) w;rw [hb9] at hcall;exact hcall))<|jE [[],[],[],[],[],[],[],[],[],[]]) (fun _=>?_)
 refine oY ?_
 refine jJ Tryz.f61 1 [1,2] [vF] (aF (aC ?_))
 exact mR (v:=vF) (fun _ hS=>⟨jB (vp_2 hb9),hS.bel⟩)
theorem dvalid_any (a:Option Addr) (c:Nat) (ts:List bW) (w0:World) (hf0:bM w0 a c ts):Calls Tryz.prog 31 #[.slice a ts.length c] w0 (jR (.bool (xW ts)) w0):=by
 refine Calls.of_ok (n:=50) (F:=(fun w=>bM w a c ts∧True)) Tryz.func31 rfl rfl rfl (by simp) (hf0.pers0.and cO) ?_
 have hlen:ts.length≤1000000:=hf0.max
 have ho:mP ts:=hf0.oks
 refine jJ Tryz.f31 1 [0,2] [vF] (aB ?_)
 rcases Bool.eq_false_or_eq_true (decide (((ts.length:Nat):Int)<1)) with hb1 | hb1
 ·
  refine sS Tryz.f31 13 [0,2,21] [] (fun _=>[.slice a ts.length c,vn ts.length,vT,vT,undef,undef,undef,vT,vT,undef,undef,undef,vT]) (fun _=>[]) (cR [[],[]]<|cA (fun _=>vT) (fun _=>congrArg Value.bool hb1)<|jE [[],[],[],[],[],[],[],[],[],[]]) (fun _=>?_)
  refine oY ?_
  refine jJ Tryz.f31 1 [0,2] [vF] (aF (aC ?_))
  exact mR (v:=vF) (fun _ hS=>⟨jB (vl_a (by have:=yT hb1;omega)),hS.bel⟩)
 rcases Bool.eq_false_or_eq_true (decide (8<((ts.length:Nat):Int))) with hb2 | hb2
 ·
  refine sS Tryz.f31 13 [0,2,21] [] (fun _=>[.slice a ts.length c,vn ts.length,vF,vF,.slice a ts.length c,vn ts.length,vT,vT,vT,undef,undef,undef,vT]) (fun _=>[]) (cR [[],[]]<|cA (fun _=>vF) (fun _=>congrArg Value.bool hb1)<|cR [[],[],[]]<|cA (fun _=>vT) (fun _=>congrArg Value.bool hb2)<|jE [[],[],[],[],[],[]]) (fun _=>?_)
  refine oY ?_
  refine jJ Tryz.f31 1 [0,2] [vF] (aF (aC ?_))
  exact mR (v:=vF) (fun _ hS=>⟨jB (vl_a (by have:=yF hb1;have:=yT hb2;omega)),hS.bel⟩)
 refine sS Tryz.f31 13 [0,2,21] [] (fun _=>[.slice a ts.length c,vn ts.length,vF,vF,.slice a ts.length c,vn ts.length,vF,vF,vF,.slice a ts.length c,.bool (vG 1 ts),.bool (!(vG 1 ts)),.bool (!(vG 1 ts))]) (fun _=>[]) (cR [[],[]]<|cA (fun _=>vF) (fun _=>congrArg Value.bool hb1)<|cR [[],[],[]]<|cA (fun _=>vF) (fun _=>congrArg Value.bool hb2)<|cR [[],[],[]]<|cX (qC (fun _ _ w hG=>dwhole_any a c ts w hG.fn.1))<|jE [[],[]]) (fun _=>?_)
 refine oC (!(vG 1 ts)) (fun hb3=>?_) (fun hb3=>?_)
 ·
  rw [hb3]
  refine jJ Tryz.f31 1 [0,2] [vF] (aF (aC ?_))
  exact mR (v:=vF) (fun _ hS=>⟨jB (vl_b (dF hb3)),hS.bel⟩)
 rw [hb3]
 refine aG (aA (aB (jJ Tryz.f31 3 [0,2,22,23,24] [.slice a ts.length c,vn ts.length,vi 0] (aI ?_))))
 refine oL (σ:=Nat) (fun i=>[(0,(.slice a ts.length c)),(22,(.slice a ts.length c)),(23,(vn ts.length)),(24,(vn i))]) (fun _=>[]) (fun i=>ts.length-i)
   (fun i=>(i≤ts.length)∧((ts.drop i).all bW.fd=ts.all bW.fd)) 0 (⟨Nat.zero_le _,rfl⟩) [] ?_
 rintro i ⟨hi,hA⟩
 change Ok Tryz.prog _ _ 50 [(0,(.slice a ts.length c)),(22,(.slice a ts.length c)),(23,(vn ts.length)),(24,(vn i))] _ [] (fun w=>bM w a c ts∧True)
 refine jJ Tryz.f31 1 [0,22,23,24,25] [.bool (decide (((i:Nat):Int)<((ts.length:Nat):Int)))] (aB ?_)
 refine oC (decide (((i:Nat):Int)<((ts.length:Nat):Int))) (fun hb4=>?_) (fun hb4=>?_)
 ·
  rw [hb4]
  have:=yT hb4
  refine aG (aA (aB (aI ?_)))
  refine sS Tryz.f31 4 [0,4,22,23,24] [] (fun ρ=>[.pointer (fK a (i*36)),.agg (bW.row (gT ts i)),pt (nb ρ 2),undef]) (fun ρ=>[(2,(nw ρ 2 (cL (iC 0 0 0 0 vz) 60))),(3,(bD 16 (nb ρ 2) (cL (bW.row (gT ts i)) 60)))]) (cX (qF (fun _ _ _ hG=>bM.idx (k:=.i64) Tryz.underlying24 Tryz.sizeOf60 hG.fn.1 rfl (show ((i:Nat):Int)=((i:Nat):Int) from rfl) (show i<ts.length from (by have:=yF hb1;have:=yF hb2;omega))))<|cX (qF (fun _ _ _ hG=>bM.ldA (i:=i) Tryz.isAgg60 Tryz.sizeOf60 hG.fn.1 (show i<ts.length from (by have:=yF hb1;have:=yF hb2;omega))))<|jE [[],[16]]) (fun _=>?_)
  refine sS Tryz.f31 3 [0,22,23,24,30] [0] (fun _=>[.agg (bW.row (gT ts i)),.bool (fdN (gT ts i).kd (gT ts i).m (gT ts i).nu (gT ts i).h (gT ts i).ks.length),.bool (!(fdN (gT ts i).kd (gT ts i).m (gT ts i).nu (gT ts i).h (gT ts i).ks.length))]) (fun _=>[]) (cR [[0]]<|cC (fun _ w=>dfields_any (gT ts i).kd (gT ts i).m (gT ts i).nu (gT ts i).h (gT ts i).ka (gT ts i).kc (gT ts i).ks (ho.gT i).h w)<|jE [[]]) (fun _=>?_)
  refine oC (!(fdN (gT ts i).kd (gT ts i).m (gT ts i).nu (gT ts i).h (gT ts i).ks.length)) (fun hb5=>?_) (fun hb5=>?_)
  ·
   rw [hb5]
   refine jJ Tryz.f31 1 [0,2,22,23,24] [vF] (aF (aP (aC (aC (aP (aC ?_))))))
   exact mR (v:=vF) (fun _ hS=>⟨jB (vl_c (sZ (f:=bW.fd) (l:=ts) (by have:=yF hb1;have:=yF hb2;omega) (dF hb5) hA)),hS.bel⟩)
  rw [hb5]
  refine aG (aJ (aA ?_))
  refine rS Tryz.f31 2 [0,22,23,24] [] (fun _=>[vn (i+1),vn (i+1)]) (fun _=>[]) (jW (fun ρ=>(((i:Nat):Int)+1)) (fun _=>(i+1)) (fun _=>(aW i 1 (by have:=yF hb1;have:=yF hb2;omega)))<|jE [[]]) (fun _=>?_)
  exact mN (i+1) (by show ts.length-(i+1)<ts.length-i;have:=yF hb1;have:=yF hb2;omega) (⟨(by have:=yF hb1;have:=yF hb2;omega),sF (f:=bW.fd) (l:=ts) (by have:=yF hb1;have:=yF hb2;omega) (aV hb5) hA⟩) []
 rw [hb4]
 have:=yF hb4
 refine bF (aN (aN (aT (aA (aB (jJ Tryz.f31 3 [32,33,34] [.slice a ts.length c,vn ts.length,vi 0] (aI ?_)))))))
 refine oL (σ:=Nat) (fun i2=>[(32,(.slice a ts.length c)),(33,(vn ts.length)),(34,(vn i2))]) (fun _=>[]) (fun i2=>ts.length-i2)
   (fun i2=>(i2≤ts.length)∧((ts.drop i2).all bW.vk=ts.all bW.vk)) 0 (⟨Nat.zero_le _,rfl⟩) [] ?_
 rintro i2 ⟨hi2,hB⟩
 change Ok Tryz.prog _ _ 50 [(32,(.slice a ts.length c)),(33,(vn ts.length)),(34,(vn i2))] _ [] (fun w=>bM w a c ts∧True)
 refine jJ Tryz.f31 1 [32,33,34,35] [.bool (decide (((i2:Nat):Int)<((ts.length:Nat):Int)))] (aB ?_)
 refine oC (decide (((i2:Nat):Int)<((ts.length:Nat):Int))) (fun hb6=>?_) (fun hb6=>?_)
 ·
  rw [hb6]
  have:=yT hb6
  refine aG (aA (aB (aI ?_)))
  refine sS Tryz.f31 4 [6,32,33,34] [] (fun ρ=>[.pointer (fK a (i2*36)),.agg (bW.row (gT ts i2)),pt (nb ρ 2),undef]) (fun ρ=>[(2,(nw ρ 2 (cL (iC 0 0 0 0 vz) 60))),(3,(bD 16 (nb ρ 2) (cL (bW.row (gT ts i2)) 60)))]) (cX (qF (fun _ _ _ hG=>bM.idx (k:=.i64) Tryz.underlying24 Tryz.sizeOf60 hG.fn.1 rfl (show ((i2:Nat):Int)=((i2:Nat):Int) from rfl) (show i2<ts.length from (by have:=yF hb1;have:=yF hb2;omega))))<|cX (qF (fun _ _ _ hG=>bM.ldA (i:=i2) Tryz.isAgg60 Tryz.sizeOf60 hG.fn.1 (show i2<ts.length from (by have:=yF hb1;have:=yF hb2;omega))))<|jE [[],[16]]) (fun ρ16=>?_)
  refine jM Tryz.f31 4 [32,33,34,39,40,41] [0] [jp (nb ρ16 2) 35,.slice (gT ts i2).ka (gT ts i2).ks.length (gT ts i2).kc,vn (gT ts i2).ks.length,vi 0] [[],[0],[],[]] (aI ?_)
  refine oL (σ:=Nat) (fun k=>[(32,(.slice a ts.length c)),(33,(vn ts.length)),(34,(vn i2)),(39,(.slice (gT ts i2).ka (gT ts i2).ks.length (gT ts i2).kc)),(40,(vn (gT ts i2).ks.length)),(41,(vn k))]) (fun _=>[]) (fun k=>(gT ts i2).ks.length-k)
    (fun k=>(k≤(gT ts i2).ks.length)∧(((gT ts i2).ks.drop k).all dO.vp=(gT ts i2).ks.all dO.vp)) 0 (⟨Nat.zero_le _,rfl⟩) [] ?_
  rintro k ⟨hk,hC⟩
  change Ok Tryz.prog _ _ 50 [(32,(.slice a ts.length c)),(33,(vn ts.length)),(34,(vn i2)),(39,(.slice (gT ts i2).ka (gT ts i2).ks.length (gT ts i2).kc)),(40,(vn (gT ts i2).ks.length)),(41,(vn k))] _ [] (fun w=>bM w a c ts∧True)
  have hkl:(gT ts i2).ks.length≤1000000:=ho.klen hf0 i2
  refine jJ Tryz.f31 1 [32,33,34,39,40,41,42] [.bool (decide (((k:Nat):Int)<(((gT ts i2).ks.length:Nat):Int)))] (aB ?_)
  refine oC (decide (((k:Nat):Int)<(((gT ts i2).ks.length:Nat):Int))) (fun hb7=>?_) (fun hb7=>?_)
  ·
   rw [hb7]
   have:=yT hb7
   refine aG (aA (aB (aI ?_)))
   refine sS Tryz.f31 4 [8,32,33,34,39,40,41] [] (fun ρ=>[.pointer (fK (gT ts i2).ka (k*45)),.agg (dO.row (gK (gT ts i2).ks k)),pt (nb ρ 2),undef]) (fun ρ=>[(2,(nw ρ 2 (cL (kM 0 0 0 0 0 0 vz vF) 69))),(3,(bD 16 (nb ρ 2) (cL (dO.row (gK (gT ts i2).ks k)) 69)))]) (cX (qF (fun _ _ _ hG=>oG.idx (k:=.i64) Tryz.underlying58 Tryz.sizeOf69 (hG.fn.1.sub _ (fA (show i2<ts.length from (by have:=yF hb1;have:=yF hb2;omega)))) rfl (show ((k:Nat):Int)=((k:Nat):Int) from rfl) (show k<(gT ts i2).ks.length from (by have:=yF hb1;have:=yF hb2;omega))))<|cX (qF (fun _ _ _ hG=>oG.ldA (i:=k) Tryz.isAgg69 Tryz.sizeOf69 (hG.fn.1.sub _ (fA (show i2<ts.length from (by have:=yF hb1;have:=yF hb2;omega)))) (show k<(gT ts i2).ks.length from (by have:=yF hb1;have:=yF hb2;omega))))<|jE [[],[16]]) (fun _=>?_)
   refine sS Tryz.f31 3 [32,33,34,39,40,41,47] [0] (fun _=>[.agg (dO.row (gK (gT ts i2).ks k)),.bool (dO.vp (gK (gT ts i2).ks k)),.bool (!(dO.vp (gK (gT ts i2).ks k)))]) (fun _=>[]) (cR [[0]]<|cX (qC (fun _ _ w hG=>dvpath_any (gK (gT ts i2).ks k) (ho.gK i2 k) w ((hG.fn.1.sub _ (fA (show i2<ts.length from (by have:=yF hb1;have:=yF hb2;omega)))).sub _ (nU (show k<(gT ts i2).ks.length from (by have:=yF hb1;have:=yF hb2;omega))))))<|jE [[]]) (fun _=>?_)
   refine oC (!(dO.vp (gK (gT ts i2).ks k))) (fun hb8=>?_) (fun hb8=>?_)
   ·
    rw [hb8]
    refine jJ Tryz.f31 1 [2,32,33,34,39,40,41] [vF] (aF (aP (aC (aC (aP (aP (aC (aC (aP (aC ?_))))))))))
    exact mR (v:=vF) (fun _ hS=>⟨jB (vl_d (sZ (f:=bW.vk) (l:=ts) (by have:=yF hb1;have:=yF hb2;omega) (sZ (f:=dO.vp) (l:=(gT ts i2).ks) (by have:=yF hb1;have:=yF hb2;omega) (dF hb8) hC) hB)),hS.bel⟩)
   rw [hb8]
   refine aG (aJ (aA ?_))
   refine rS Tryz.f31 2 [32,33,34,39,40,41] [] (fun _=>[vn (k+1),vn (k+1)]) (fun _=>[]) (jW (fun ρ=>(((k:Nat):Int)+1)) (fun _=>(k+1)) (fun _=>(aW k 1 (by have:=yF hb1;have:=yF hb2;omega)))<|jE [[]]) (fun _=>?_)
   exact mN (k+1) (by show (gT ts i2).ks.length-(k+1)<(gT ts i2).ks.length-k;have:=yF hb1;have:=yF hb2;omega) (⟨(by have:=yF hb1;have:=yF hb2;omega),sF (f:=dO.vp) (l:=(gT ts i2).ks) (by have:=yF hb1;have:=yF hb2;omega) (aV hb8) hC⟩) []
  rw [hb7]
  have:=yF hb7
  refine bF (aN (aN (aT (aJ (aA ?_)))))
  refine rS Tryz.f31 2 [32,33,34] [] (fun _=>[vn (i2+1),vn (i2+1)]) (fun _=>[]) (jW (fun ρ=>(((i2:Nat):Int)+1)) (fun _=>(i2+1)) (fun _=>(aW i2 1 (by have:=yF hb1;have:=yF hb2;omega)))<|jE [[]]) (fun _=>?_)
  exact mN (i2+1) (by show ts.length-(i2+1)<ts.length-i2;have:=yF hb1;have:=yF hb2;omega) (⟨(by have:=yF hb1;have:=yF hb2;omega),sF (f:=bW.vk) (l:=ts) (by have:=yF hb1;have:=yF hb2;omega) (xH (f:=dO.vp) (l:=(gT ts i2).ks) (by have:=yF hb1;have:=yF hb2;omega) hC) hB⟩) []
 rw [hb6]
 have:=yF hb6
 refine bF (aN (aN (aT (aA (jJ Tryz.f31 1 [2] [vT] (aF ?_))))))
 exact mR (v:=vT) (fun _ hS=>⟨jB (vl_e (by have:=yF hb1;have:=yF hb2;omega) (aV hb3) (xH (f:=bW.fd) (l:=ts) (by have:=yF hb1;have:=yF hb2;omega) hA) (xH (f:=bW.vk) (l:=ts) (by have:=yF hb1;have:=yF hb2;omega) hB)),hS.bel⟩)
theorem rdvalid_any (a:Option Addr) (c:Nat) (ts:List bW) (w0:World) (hf0:bM w0 a c ts):Calls Tryz.prog 35 #[.slice a ts.length c] w0 (jR (.bool (xW ts)) w0):=by
 refine Calls.of_ok (n:=47) (F:=(fun w=>bM w a c ts∧True)) Tryz.func35 rfl rfl rfl (by simp) (hf0.pers0.and cO) ?_
 have hlen:ts.length≤1000000:=hf0.max
 have ho:mP ts:=hf0.oks
 refine jJ Tryz.f35 1 [0,2] [vF] (aB ?_)
 refine sS Tryz.f35 3 [0,2,8] [] (fun _=>[.slice a ts.length c,.bool (shB ts),.bool (!(shB ts))]) (fun _=>[]) (cR [[]]<|cX (qC (fun _ _ w hG=>rdshaped_any a c ts w hG.fn.1))<|jE [[]]) (fun _=>?_)
 refine oC (!(shB ts)) (fun hb1=>?_) (fun hb1=>?_)
 ·
  rw [hb1]
  refine jJ Tryz.f35 1 [0,2] [vF] (aF (aC ?_))
  exact mR (v:=vF) (fun _ hS=>⟨jB (sh_no (dF hb1)),hS.bel⟩)
 rw [hb1]
 refine aG (aA (aB (jJ Tryz.f35 1 [0,2,3] [vi 0] (aI ?_))))
 refine oL (σ:=Nat) (fun i=>[(0,(.slice a ts.length c)),(3,(vn i))]) (fun _=>[]) (fun i=>ts.length-i)
   (fun i=>(i≤ts.length)∧((ts.drop i).all bW.fd=ts.all bW.fd)) 0 (⟨Nat.zero_le _,rfl⟩) [] ?_
 rintro i ⟨hi,hA⟩
 change Ok Tryz.prog _ _ 47 [(0,(.slice a ts.length c)),(3,(vn i))] _ [] (fun w=>bM w a c ts∧True)
 refine aB (jJ Tryz.f35 4 [0,3,12] [vn i,.slice a ts.length c,vn ts.length,.bool (decide (((i:Nat):Int)<((ts.length:Nat):Int)))] ?_)
 refine oC (decide (((i:Nat):Int)<((ts.length:Nat):Int))) (fun hb2=>?_) (fun hb2=>?_)
 ·
  rw [hb2]
  have:=yT hb2
  refine aG (aA (aB (aI ?_)))
  refine sS Tryz.f35 6 [0,3,20] [] (fun _=>[.slice a ts.length c,vn i,.pointer (fK a (i*36)),.agg (bW.row (gT ts i)),.bool (fdN (gT ts i).kd (gT ts i).m (gT ts i).nu (gT ts i).h (gT ts i).ks.length),.bool (!(fdN (gT ts i).kd (gT ts i).m (gT ts i).nu (gT ts i).h (gT ts i).ks.length))]) (fun _=>[]) (cR [[],[]]<|cX (qF (fun _ _ _ hG=>bM.idx (k:=.i64) Tryz.underlying24 Tryz.sizeOf60 hG.fn.1 rfl (show ((i:Nat):Int)=((i:Nat):Int) from rfl) (show i<ts.length from (by omega))))<|cX (qF (fun _ _ _ hG=>bM.ldA (i:=i) Tryz.isAgg60 Tryz.sizeOf60 hG.fn.1 (show i<ts.length from (by omega))))<|cC (fun _ w=>rdfields_any (gT ts i).kd (gT ts i).m (gT ts i).nu (gT ts i).h (gT ts i).ka (gT ts i).kc (gT ts i).ks (ho.gT i).h w)<|jE [[]]) (fun _=>?_)
  refine oC (!(fdN (gT ts i).kd (gT ts i).m (gT ts i).nu (gT ts i).h (gT ts i).ks.length)) (fun hb3=>?_) (fun hb3=>?_)
  ·
   rw [hb3]
   refine jJ Tryz.f35 1 [0,2,3] [vF] (aF (aP (aC (aC (aP (aC ?_))))))
   exact mR (v:=vF) (fun _ hS=>⟨jB (vl_c (sZ (f:=bW.fd) (l:=ts) (by omega) (dF hb3) hA)),hS.bel⟩)
  rw [hb3]
  refine aG (aJ (aA ?_))
  refine rS Tryz.f35 3 [0,3] [] (fun _=>[vn i,vn (i+1),vn (i+1)]) (fun _=>[]) (cR [[]]<|jW (fun ρ=>(((i:Nat):Int)+1)) (fun _=>(i+1)) (fun _=>(aW i 1 (by omega)))<|jE [[]]) (fun _=>?_)
  exact mN (i+1) (by show ts.length-(i+1)<ts.length-i;omega) (⟨(by omega),sF (f:=bW.fd) (l:=ts) (by omega) (aV hb3) hA⟩) []
 rw [hb2]
 have:=yF hb2
 refine bF (aN (aN (aT (aA (aB (jJ Tryz.f35 1 [0,4] [vi 0] (aI ?_)))))))
 refine oL (σ:=Nat) (fun i2=>[(0,(.slice a ts.length c)),(4,(vn i2))]) (fun _=>[]) (fun i2=>ts.length-i2)
   (fun i2=>(i2≤ts.length)∧((ts.drop i2).all bW.vk=ts.all bW.vk)) 0 (⟨Nat.zero_le _,rfl⟩) [] ?_
 rintro i2 ⟨hi2,hB⟩
 change Ok Tryz.prog _ _ 47 [(0,(.slice a ts.length c)),(4,(vn i2))] _ [] (fun w=>bM w a c ts∧True)
 refine aB (jJ Tryz.f35 4 [0,4,24] [vn i2,.slice a ts.length c,vn ts.length,.bool (decide (((i2:Nat):Int)<((ts.length:Nat):Int)))] ?_)
 refine oC (decide (((i2:Nat):Int)<((ts.length:Nat):Int))) (fun hb4=>?_) (fun hb4=>?_)
 ·
  rw [hb4]
  have:=yT hb4
  refine aG (aA (aB (aI (jJ Tryz.f35 1 [0,4,5] [vi 0] (aI ?_)))))
  refine oL (σ:=Nat) (fun k=>[(0,(.slice a ts.length c)),(4,(vn i2)),(5,(vn k))]) (fun _=>[]) (fun k=>(gT ts i2).ks.length-k)
    (fun k=>(k≤(gT ts i2).ks.length)∧(((gT ts i2).ks.drop k).all dO.vp=(gT ts i2).ks.all dO.vp)) 0 (⟨Nat.zero_le _,rfl⟩) [] ?_
  rintro k ⟨hk,hC⟩
  change Ok Tryz.prog _ _ 47 [(0,(.slice a ts.length c)),(4,(vn i2)),(5,(vn k))] _ [] (fun w=>bM w a c ts∧True)
  have hkl:(gT ts i2).ks.length≤1000000:=ho.klen hf0 i2
  refine aB ?_
  refine sS Tryz.f35 8 [0,4,5,34] [] (fun _=>[vn k,.slice a ts.length c,vn i2,.pointer (fK a (i2*36)),.pointer (fK a (i2*36+35)),.slice (gT ts i2).ka (gT ts i2).ks.length (gT ts i2).kc,vn (gT ts i2).ks.length,.bool (decide (((k:Nat):Int)<(((gT ts i2).ks.length:Nat):Int)))]) (fun _=>[]) (cR [[],[],[]]<|cX (qF (fun _ _ _ hG=>bM.idx (k:=.i64) Tryz.underlying24 Tryz.sizeOf60 hG.fn.1 rfl (show ((i2:Nat):Int)=((i2:Nat):Int) from rfl) (show i2<ts.length from (by omega))))<|cX (jF (fun _=>Instr.fieldAt 60 (.pointer (fK a (i2*36))) 4) (fun _=>(.pointer (fK a (i2*36+35)))) (fun _ _ _ hG=>uH (o:=35) (k:=i2*36) Tryz.underlying60 rfl rfl rfl Tryz.sizeOf58 (hG.fn.1.pos (show i2<ts.length from (by omega))).1 (hG.fn.1.pos (show i2<ts.length from (by omega))).2) (fun _ _ _ _=>cO))<|cX (qF (fun _ _ _ hG=>bM.ld (v:=(.slice (gT ts i2).ka (gT ts i2).ks.length (gT ts i2).kc)) (i:=i2) (j:=35) Tryz.isAgg58 hG.fn.1 (show i2<ts.length from (by omega)) (by decide) (by kernel_rfl)))<|jE [[],[]]) (fun _=>?_)
  refine oC (decide (((k:Nat):Int)<(((gT ts i2).ks.length:Nat):Int))) (fun hb5=>?_) (fun hb5=>?_)
  ·
   rw [hb5]
   have:=yT hb5
   refine aG (aA (aB (aI ?_)))
   refine sS Tryz.f35 10 [0,4,5,46] [] (fun _=>[.slice a ts.length c,vn i2,.pointer (fK a (i2*36)),.pointer (fK a (i2*36+35)),.slice (gT ts i2).ka (gT ts i2).ks.length (gT ts i2).kc,vn k,.pointer (fK (gT ts i2).ka (k*45)),.agg (dO.row (gK (gT ts i2).ks k)),.bool (dO.vp (gK (gT ts i2).ks k)),.bool (!(dO.vp (gK (gT ts i2).ks k)))]) (fun _=>[]) (cR [[],[]]<|cX (qF (fun _ _ _ hG=>bM.idx (k:=.i64) Tryz.underlying24 Tryz.sizeOf60 hG.fn.1 rfl (show ((i2:Nat):Int)=((i2:Nat):Int) from rfl) (show i2<ts.length from (by omega))))<|cX (jF (fun _=>Instr.fieldAt 60 (.pointer (fK a (i2*36))) 4) (fun _=>(.pointer (fK a (i2*36+35)))) (fun _ _ _ hG=>uH (o:=35) (k:=i2*36) Tryz.underlying60 rfl rfl rfl Tryz.sizeOf58 (hG.fn.1.pos (show i2<ts.length from (by omega))).1 (hG.fn.1.pos (show i2<ts.length from (by omega))).2) (fun _ _ _ _=>cO))<|cX (qF (fun _ _ _ hG=>bM.ld (v:=(.slice (gT ts i2).ka (gT ts i2).ks.length (gT ts i2).kc)) (i:=i2) (j:=35) Tryz.isAgg58 hG.fn.1 (show i2<ts.length from (by omega)) (by decide) (by kernel_rfl)))<|cR [[]]<|cX (qF (fun _ _ _ hG=>oG.idx (k:=.i64) Tryz.underlying58 Tryz.sizeOf69 (hG.fn.1.sub _ (fA (show i2<ts.length from (by omega)))) rfl (show ((k:Nat):Int)=((k:Nat):Int) from rfl) (show k<(gT ts i2).ks.length from (by omega))))<|cX (qF (fun _ _ _ hG=>oG.ldA (i:=k) Tryz.isAgg69 Tryz.sizeOf69 (hG.fn.1.sub _ (fA (show i2<ts.length from (by omega)))) (show k<(gT ts i2).ks.length from (by omega))))<|cX (qC (fun _ _ w hG=>rdvpath_any (gK (gT ts i2).ks k) (ho.gK i2 k) w ((hG.fn.1.sub _ (fA (show i2<ts.length from (by omega)))).sub _ (nU (show k<(gT ts i2).ks.length from (by omega))))))<|jE [[]]) (fun _=>?_)
   refine oC (!(dO.vp (gK (gT ts i2).ks k))) (fun hb6=>?_) (fun hb6=>?_)
   ·
    rw [hb6]
    refine jJ Tryz.f35 1 [0,2,4,5] [vF] (aF (aP (aC (aC (aP (aP (aC (aC (aP (aC ?_))))))))))
    exact mR (v:=vF) (fun _ hS=>⟨jB (vl_d (sZ (f:=bW.vk) (l:=ts) (by omega) (sZ (f:=dO.vp) (l:=(gT ts i2).ks) (by omega) (dF hb6) hC) hB)),hS.bel⟩)
   rw [hb6]
   refine aG (aJ (aA ?_))
   refine rS Tryz.f35 3 [0,4,5] [] (fun _=>[vn k,vn (k+1),vn (k+1)]) (fun _=>[]) (cR [[]]<|jW (fun ρ=>(((k:Nat):Int)+1)) (fun _=>(k+1)) (fun _=>(aW k 1 (by omega)))<|jE [[]]) (fun _=>?_)
   exact mN (k+1) (by show (gT ts i2).ks.length-(k+1)<(gT ts i2).ks.length-k;omega) (⟨(by omega),sF (f:=dO.vp) (l:=(gT ts i2).ks) (by omega) (aV hb6) hC⟩) []
  rw [hb5]
  have:=yF hb5
  refine bF (aN (aN (aT (aJ (aA ?_)))))
  refine rS Tryz.f35 3 [0,4] [] (fun _=>[vn i2,vn (i2+1),vn (i2+1)]) (fun _=>[]) (cR [[]]<|jW (fun ρ=>(((i2:Nat):Int)+1)) (fun _=>(i2+1)) (fun _=>(aW i2 1 (by omega)))<|jE [[]]) (fun _=>?_)
  exact mN (i2+1) (by show ts.length-(i2+1)<ts.length-i2;omega) (⟨(by omega),sF (f:=bW.vk) (l:=ts) (by omega) (xH (f:=dO.vp) (l:=(gT ts i2).ks) (by omega) hC) hB⟩) []
 rw [hb4]
 refine bF (aN (aN (aT (aA (jJ Tryz.f35 1 [2] [vT] (aF ?_))))))
 exact mR (v:=vT) (fun _ hS=>⟨jB (vl_e (sh_yes (aV hb1)).1 (sh_yes (aV hb1)).2 (xH (f:=bW.fd) (l:=ts) (by have:=yF hb4;omega) hA) (xH (f:=bW.vk) (l:=ts) (by have:=yF hb4;omega) hB)),hS.bel⟩)
theorem wO (a:Option Addr) (c:Nat) (ts:List bW) (w0:World) (hf0:bM w0 a c ts):Calls Tryz.prog 32 #[.slice a ts.length c] w0 (jR (.bool (rgB ts)) w0):=by
 refine Calls.of_ok (n:=24) (F:=(fun w=>bM w a c ts∧True)) Tryz.func32 rfl rfl rfl (by simp) (hf0.pers0.and cO) ?_
 have hlen:ts.length≤1000000:=hf0.max
 have ho:mP ts:=hf0.oks
 refine jJ Tryz.f32 1 [0,2] [vF] (aB (jJ Tryz.f32 3 [2,7,8,9] [.slice a ts.length c,vn ts.length,vi 0] (aI ?_)))
 refine oL (σ:=Nat) (fun i2=>[(7,(.slice a ts.length c)),(8,(vn ts.length)),(9,(vn i2))]) (fun _=>[]) (fun i2=>ts.length-i2)
   (fun i2=>(i2≤ts.length)∧((ts.drop i2).any bW.rg=ts.any bW.rg)) 0 (⟨Nat.zero_le _,rfl⟩) [] ?_
 rintro i2 ⟨hi2,hB⟩
 change Ok Tryz.prog _ _ 24 [(7,(.slice a ts.length c)),(8,(vn ts.length)),(9,(vn i2))] _ [] (fun w=>bM w a c ts∧True)
 refine jJ Tryz.f32 1 [7,8,9,10] [.bool (decide (((i2:Nat):Int)<((ts.length:Nat):Int)))] (aB ?_)
 refine oC (decide (((i2:Nat):Int)<((ts.length:Nat):Int))) (fun hb1=>?_) (fun hb1=>?_)
 ·
  rw [hb1]
  have:=yT hb1
  refine aG (aA (aB (aI ?_)))
  refine sS Tryz.f32 4 [4,7,8,9] [] (fun ρ=>[.pointer (fK a (i2*36)),.agg (bW.row (gT ts i2)),pt (nb ρ 2),undef]) (fun ρ=>[(2,(nw ρ 2 (cL (iC 0 0 0 0 vz) 60))),(3,(bD 16 (nb ρ 2) (cL (bW.row (gT ts i2)) 60)))]) (cX (qF (fun _ _ _ hG=>bM.idx (k:=.i64) Tryz.underlying24 Tryz.sizeOf60 hG.fn.1 rfl (show ((i2:Nat):Int)=((i2:Nat):Int) from rfl) (show i2<ts.length from (by omega))))<|cX (qF (fun _ _ _ hG=>bM.ldA (i:=i2) Tryz.isAgg60 Tryz.sizeOf60 hG.fn.1 (show i2<ts.length from (by omega))))<|jE [[],[16]]) (fun ρ4=>?_)
  refine jM Tryz.f32 4 [7,8,9,14,15,16] [0] [jp (nb ρ4 2) 35,.slice (gT ts i2).ka (gT ts i2).ks.length (gT ts i2).kc,vn (gT ts i2).ks.length,vi 0] [[],[0],[],[]] (aI ?_)
  refine oL (σ:=Nat) (fun k=>[(7,(.slice a ts.length c)),(8,(vn ts.length)),(9,(vn i2)),(14,(.slice (gT ts i2).ka (gT ts i2).ks.length (gT ts i2).kc)),(15,(vn (gT ts i2).ks.length)),(16,(vn k))]) (fun _=>[]) (fun k=>(gT ts i2).ks.length-k)
    (fun k=>(k≤(gT ts i2).ks.length)∧(((gT ts i2).ks.drop k).any dO.wd=(gT ts i2).ks.any dO.wd)) 0 (⟨Nat.zero_le _,rfl⟩) [] ?_
  rintro k ⟨hk,hC⟩
  change Ok Tryz.prog _ _ 24 [(7,(.slice a ts.length c)),(8,(vn ts.length)),(9,(vn i2)),(14,(.slice (gT ts i2).ka (gT ts i2).ks.length (gT ts i2).kc)),(15,(vn (gT ts i2).ks.length)),(16,(vn k))] _ [] (fun w=>bM w a c ts∧True)
  have hkl:(gT ts i2).ks.length≤1000000:=ho.klen hf0 i2
  refine jJ Tryz.f32 1 [7,8,9,14,15,16,17] [.bool (decide (((k:Nat):Int)<(((gT ts i2).ks.length:Nat):Int)))] (aB ?_)
  refine oC (decide (((k:Nat):Int)<(((gT ts i2).ks.length:Nat):Int))) (fun hb2=>?_) (fun hb2=>?_)
  ·
   rw [hb2]
   have:=yT hb2
   refine aG (aA (aB (aI ?_)))
   refine sS Tryz.f32 4 [6,7,8,9,14,15,16] [] (fun ρ=>[.pointer (fK (gT ts i2).ka (k*45)),.agg (dO.row (gK (gT ts i2).ks k)),pt (nb ρ 2),undef]) (fun ρ=>[(2,(nw ρ 2 (cL (kM 0 0 0 0 0 0 vz vF) 69))),(3,(bD 16 (nb ρ 2) (cL (dO.row (gK (gT ts i2).ks k)) 69)))]) (cX (qF (fun _ _ _ hG=>oG.idx (k:=.i64) Tryz.underlying58 Tryz.sizeOf69 (hG.fn.1.sub _ (fA (show i2<ts.length from (by omega)))) rfl (show ((k:Nat):Int)=((k:Nat):Int) from rfl) (show k<(gT ts i2).ks.length from (by omega))))<|cX (qF (fun _ _ _ hG=>oG.ldA (i:=k) Tryz.isAgg69 Tryz.sizeOf69 (hG.fn.1.sub _ (fA (show i2<ts.length from (by omega)))) (show k<(gT ts i2).ks.length from (by omega))))<|jE [[],[16]]) (fun ρ7=>?_)
   refine jM Tryz.f32 2 [7,8,9,14,15,16,21] [0] [jp (nb ρ7 2) 44,.bool (gK (gT ts i2).ks k).wd] [[],[0]] ?_
   refine oC (gK (gT ts i2).ks k).wd (fun hb3=>?_) (fun hb3=>?_)
   ·
    rw [hb3]
    refine jJ Tryz.f32 1 [2,7,8,9,14,15,16] [vT] (aF (aP (aC (aC (aP (aP (aC (aC (aP (aC ?_))))))))))
    exact mR (v:=vT) (fun _ hS=>⟨jB (xBI (f:=bW.rg) (l:=ts) (by omega) (xBI (f:=dO.wd) (l:=(gT ts i2).ks) (by omega) hb3 hC) hB).symm,hS.bel⟩)
   rw [hb3]
   refine aG (aJ (aA ?_))
   refine rS Tryz.f32 2 [7,8,9,14,15,16] [] (fun _=>[vn (k+1),vn (k+1)]) (fun _=>[]) (jW (fun ρ=>(((k:Nat):Int)+1)) (fun _=>(k+1)) (fun _=>(aW k 1 (by omega)))<|jE [[]]) (fun _=>?_)
   exact mN (k+1) (by show (gT ts i2).ks.length-(k+1)<(gT ts i2).ks.length-k;omega) (⟨(by omega),xBH (f:=dO.wd) (l:=(gT ts i2).ks) (by omega) hb3 hC⟩) []
  rw [hb2]
  have:=yF hb2
  refine bF (aN (aN (aT (aJ (aA ?_)))))
  refine rS Tryz.f32 2 [7,8,9] [] (fun _=>[vn (i2+1),vn (i2+1)]) (fun _=>[]) (jW (fun ρ=>(((i2:Nat):Int)+1)) (fun _=>(i2+1)) (fun _=>(aW i2 1 (by omega)))<|jE [[]]) (fun _=>?_)
  exact mN (i2+1) (by show ts.length-(i2+1)<ts.length-i2;omega) (⟨(by omega),xBH (f:=bW.rg) (l:=ts) (by omega) (xBF (f:=dO.wd) (l:=(gT ts i2).ks) (by omega) hC) hB⟩) []
 rw [hb1]
 refine bF (aN (aN (aT (aA (jJ Tryz.f32 1 [2] [vF] (aF ?_))))))
 exact mR (v:=vF) (fun _ hS=>⟨jB (xBF (f:=bW.rg) (l:=ts) (by have:=yF hb1;omega) hB).symm,hS.bel⟩)
theorem xAE (a:Option Addr) (c:Nat) (ts:List bW) (w0:World) (hf0:bM w0 a c ts):Calls Tryz.prog 36 #[.slice a ts.length c] w0 (jR (.bool (rgB ts)) w0):=by
 refine Calls.of_ok (n:=30) (F:=(fun w=>bM w a c ts∧True)) Tryz.func36 rfl rfl rfl (by simp) (hf0.pers0.and cO) ?_
 have hlen:ts.length≤1000000:=hf0.max
 have ho:mP ts:=hf0.oks
 refine jJ Tryz.f36 1 [0,2] [vF] (aB (jJ Tryz.f36 1 [0,2,3] [vi 0] (aI ?_)))
 refine oL (σ:=Nat) (fun i2=>[(0,(.slice a ts.length c)),(3,(vn i2))]) (fun _=>[]) (fun i2=>ts.length-i2)
   (fun i2=>(i2≤ts.length)∧((ts.drop i2).any bW.rg=ts.any bW.rg)) 0 (⟨Nat.zero_le _,rfl⟩) [] ?_
 rintro i2 ⟨hi2,hB⟩
 change Ok Tryz.prog _ _ 30 [(0,(.slice a ts.length c)),(3,(vn i2))] _ [] (fun w=>bM w a c ts∧True)
 refine aB (jJ Tryz.f36 4 [0,3,8] [vn i2,.slice a ts.length c,vn ts.length,.bool (decide (((i2:Nat):Int)<((ts.length:Nat):Int)))] ?_)
 refine oC (decide (((i2:Nat):Int)<((ts.length:Nat):Int))) (fun hb1=>?_) (fun hb1=>?_)
 ·
  rw [hb1]
  have:=yT hb1
  refine aG (aA (aB (aI (jJ Tryz.f36 1 [0,3,4] [vi 0] (aI ?_)))))
  refine oL (σ:=Nat) (fun k=>[(0,(.slice a ts.length c)),(3,(vn i2)),(4,(vn k))]) (fun _=>[]) (fun k=>(gT ts i2).ks.length-k)
    (fun k=>(k≤(gT ts i2).ks.length)∧(((gT ts i2).ks.drop k).any dO.wd=(gT ts i2).ks.any dO.wd)) 0 (⟨Nat.zero_le _,rfl⟩) [] ?_
  rintro k ⟨hk,hC⟩
  change Ok Tryz.prog _ _ 30 [(0,(.slice a ts.length c)),(3,(vn i2)),(4,(vn k))] _ [] (fun w=>bM w a c ts∧True)
  have hkl:(gT ts i2).ks.length≤1000000:=ho.klen hf0 i2
  refine aB ?_
  refine sS Tryz.f36 8 [0,3,4,18] [] (fun _=>[vn k,.slice a ts.length c,vn i2,.pointer (fK a (i2*36)),.pointer (fK a (i2*36+35)),.slice (gT ts i2).ka (gT ts i2).ks.length (gT ts i2).kc,vn (gT ts i2).ks.length,.bool (decide (((k:Nat):Int)<(((gT ts i2).ks.length:Nat):Int)))]) (fun _=>[]) (cR [[],[],[]]<|cX (qF (fun _ _ _ hG=>bM.idx (k:=.i64) Tryz.underlying24 Tryz.sizeOf60 hG.fn.1 rfl (show ((i2:Nat):Int)=((i2:Nat):Int) from rfl) (show i2<ts.length from (by omega))))<|cX (jF (fun _=>Instr.fieldAt 60 (.pointer (fK a (i2*36))) 4) (fun _=>(.pointer (fK a (i2*36+35)))) (fun _ _ _ hG=>uH (o:=35) (k:=i2*36) Tryz.underlying60 rfl rfl rfl Tryz.sizeOf58 (hG.fn.1.pos (show i2<ts.length from (by omega))).1 (hG.fn.1.pos (show i2<ts.length from (by omega))).2) (fun _ _ _ _=>cO))<|cX (qF (fun _ _ _ hG=>bM.ld (v:=(.slice (gT ts i2).ka (gT ts i2).ks.length (gT ts i2).kc)) (i:=i2) (j:=35) Tryz.isAgg58 hG.fn.1 (show i2<ts.length from (by omega)) (by decide) (by kernel_rfl)))<|jE [[],[]]) (fun _=>?_)
  refine oC (decide (((k:Nat):Int)<(((gT ts i2).ks.length:Nat):Int))) (fun hb2=>?_) (fun hb2=>?_)
  ·
   rw [hb2]
   have:=yT hb2
   refine aG (aA (aB (aI ?_)))
   refine sS Tryz.f36 9 [0,3,4,29] [] (fun _=>[.slice a ts.length c,vn i2,.pointer (fK a (i2*36)),.pointer (fK a (i2*36+35)),.slice (gT ts i2).ka (gT ts i2).ks.length (gT ts i2).kc,vn k,.pointer (fK (gT ts i2).ka (k*45)),.pointer (fK (gT ts i2).ka (k*45+44)),.bool (gK (gT ts i2).ks k).wd]) (fun _=>[]) (cR [[],[]]<|cX (qF (fun _ _ _ hG=>bM.idx (k:=.i64) Tryz.underlying24 Tryz.sizeOf60 hG.fn.1 rfl (show ((i2:Nat):Int)=((i2:Nat):Int) from rfl) (show i2<ts.length from (by omega))))<|cX (jF (fun _=>Instr.fieldAt 60 (.pointer (fK a (i2*36))) 4) (fun _=>(.pointer (fK a (i2*36+35)))) (fun _ _ _ hG=>uH (o:=35) (k:=i2*36) Tryz.underlying60 rfl rfl rfl Tryz.sizeOf58 (hG.fn.1.pos (show i2<ts.length from (by omega))).1 (hG.fn.1.pos (show i2<ts.length from (by omega))).2) (fun _ _ _ _=>cO))<|cX (qF (fun _ _ _ hG=>bM.ld (v:=(.slice (gT ts i2).ka (gT ts i2).ks.length (gT ts i2).kc)) (i:=i2) (j:=35) Tryz.isAgg58 hG.fn.1 (show i2<ts.length from (by omega)) (by decide) (by kernel_rfl)))<|cR [[]]<|cX (qF (fun _ _ _ hG=>oG.idx (k:=.i64) Tryz.underlying58 Tryz.sizeOf69 (hG.fn.1.sub _ (fA (show i2<ts.length from (by omega)))) rfl (show ((k:Nat):Int)=((k:Nat):Int) from rfl) (show k<(gT ts i2).ks.length from (by omega))))<|cX (jF (fun _=>Instr.fieldAt 69 (.pointer (fK (gT ts i2).ka (k*45))) 2) (fun _=>(.pointer (fK (gT ts i2).ka (k*45+44)))) (fun _ _ _ hG=>uH (o:=44) (k:=k*45) Tryz.underlying69 rfl rfl rfl Tryz.sizeOf4 ((hG.fn.1.sub _ (fA (show i2<ts.length from (by omega)))).pos (show k<(gT ts i2).ks.length from (by omega))).1 ((hG.fn.1.sub _ (fA (show i2<ts.length from (by omega)))).pos (show k<(gT ts i2).ks.length from (by omega))).2) (fun _ _ _ _=>cO))<|cX (qF (fun _ _ _ hG=>oG.ld (v:=(.bool (gK (gT ts i2).ks k).wd)) (i:=k) (j:=44) Tryz.isAgg4 (hG.fn.1.sub _ (fA (show i2<ts.length from (by omega)))) (show k<(gT ts i2).ks.length from (by omega)) (by decide) (by kernel_rfl)))<|cN) (fun _=>?_)
   refine oC (gK (gT ts i2).ks k).wd (fun hb3=>?_) (fun hb3=>?_)
   ·
    rw [hb3]
    refine jJ Tryz.f36 1 [0,2,3,4] [vT] (aF (aP (aC (aC (aP (aP (aC (aC (aP (aC ?_))))))))))
    exact mR (v:=vT) (fun _ hS=>⟨jB (xBI (f:=bW.rg) (l:=ts) (by omega) (xBI (f:=dO.wd) (l:=(gT ts i2).ks) (by omega) hb3 hC) hB).symm,hS.bel⟩)
   rw [hb3]
   refine aG (aJ (aA ?_))
   refine rS Tryz.f36 3 [0,3,4] [] (fun _=>[vn k,vn (k+1),vn (k+1)]) (fun _=>[]) (cR [[]]<|jW (fun ρ=>(((k:Nat):Int)+1)) (fun _=>(k+1)) (fun _=>(aW k 1 (by omega)))<|jE [[]]) (fun _=>?_)
   exact mN (k+1) (by show (gT ts i2).ks.length-(k+1)<(gT ts i2).ks.length-k;omega) (⟨(by omega),xBH (f:=dO.wd) (l:=(gT ts i2).ks) (by omega) hb3 hC⟩) []
  rw [hb2]
  have:=yF hb2
  refine bF (aN (aN (aT (aJ (aA ?_)))))
  refine rS Tryz.f36 3 [0,3] [] (fun _=>[vn i2,vn (i2+1),vn (i2+1)]) (fun _=>[]) (cR [[]]<|jW (fun ρ=>(((i2:Nat):Int)+1)) (fun _=>(i2+1)) (fun _=>(aW i2 1 (by omega)))<|jE [[]]) (fun _=>?_)
  exact mN (i2+1) (by show ts.length-(i2+1)<ts.length-i2;omega) (⟨(by omega),xBH (f:=bW.rg) (l:=ts) (by omega) (xBF (f:=dO.wd) (l:=(gT ts i2).ks) (by omega) hC) hB⟩) []
 rw [hb1]
 refine bF (aN (aN (aT (aA (jJ Tryz.f36 1 [2] [vF] (aF ?_))))))
 exact mR (v:=vF) (fun _ hS=>⟨jB (xBF (f:=bW.rg) (l:=ts) (by have:=yF hb1;omega) hB).symm,hS.bel⟩)
theorem run_remI {P:Program} {t:TypeId} {v:Int} {n:Nat} (hn:0<n) (w:World):(binOp .rem t (.int .i64 v) (.int .i64 (n:Int))).run P w=.ok (.int .i64 (Int.tmod v (n:Int))) w:=by
  simp only [binOp,Op.intDiv,ne_eq,not_true_eq_false,if_false,if_neg (by omega: ¬ (n:Int)=0)]
  rfl
theorem mod_wrap {v:Int} {n:Nat} (hn:0<n∧n≤1099511627776) (h:Int.tmod v n<0):IntKind.i64.wrap (Int.tmod v (n:Int)+(n:Int))=((dm v n:Nat):Int):=by
  have h1:=mod_neg hn.1 h
  have h2:=iG v hn.1
  rw [h1]
  exact gZ (by omega)
def Z64 (zs:List Int):Prop:=∀ z∈zs,-9223372036854775808≤z∧z<9223372036854775808
theorem Z64.get {zs:List Int} (h:Z64 zs) (i:Nat): -9223372036854775808≤gI zs i∧gI zs i<9223372036854775808:=by
  unfold gI
  by_cases hi:i<zs.length
  · rw [List.getD_eq_getElem?_getD, List.getElem?_eq_getElem hi]
    exact h _ (List.getElem_mem hi)
  · rw [List.getD_eq_getElem?_getD, List.getElem?_eq_none (by omega)]
    decide
theorem xBE (v:Int) (n:Nat) (hn:0<n∧n≤1099511627776) (__hv: -9223372036854775808≤v∧v<9223372036854775808) (w0:World):Calls Tryz.prog 10 #[vi v,vn n] w0 (jR (vn (dm v n)) w0):=by
 refine Calls.of_ok (n:=15) (F:=(fun _=>True)) Tryz.func10 rfl rfl rfl (by simp) jT ?_
 refine jJ Tryz.f10 1 [0,1,4] [vi 0] ?_
 refine sS Tryz.f10 4 [1,4,5] [] (fun _=>let qa:=vi (Int.tmod v ((n:Nat):Int));[vi v,vn n,qa,qa]) (fun _=>[]) (cR [[],[]]<|cB (a:=fun ρ=>(vi v)) (b:=fun ρ=>(vn n)) (v:=fun ρ=>(vi (Int.tmod v ((n:Nat):Int)))) .rem 3 (fun _ w=>run_remI hn.1 w)<|jE [[]]) (fun _=>?_)
 refine aB (jJ Tryz.f10 2 [1,4,5,10] [vi (Int.tmod v ((n:Nat):Int)),.bool (decide ((Int.tmod v ((n:Nat):Int))<0))] ?_)
 refine oC (decide ((Int.tmod v ((n:Nat):Int))<0)) (fun hb1=>?_) (fun hb1=>?_)
 ·
  rw [hb1]
  refine rS Tryz.f10 4 [4,5] [] (fun _=>[vi (Int.tmod v ((n:Nat):Int)),vn n,vn (dm v n),vn (dm v n)]) (fun _=>[]) (cR [[],[]]<|cA (fun _=>(vn (dm v n))) (fun _=>jI (mod_wrap hn (yT hb1)))<|jE [[]]) (fun _=>?_)
  refine aA (jJ Tryz.f10 2 [4] [vn (dm v n),vn (dm v n)] (aF ?_))
  exact mR (v:=(vn (dm v n))) (fun _ hS=>⟨rfl,hS.bel⟩)
 rw [hb1]
 refine aG (aA (jJ Tryz.f10 2 [4] (let qa:=vi (Int.tmod v ((n:Nat):Int));[qa,qa]) (aF ?_)))
 exact mR (v:=(vi (Int.tmod v ((n:Nat):Int)))) (fun _ hS=>⟨congrArg (fun x=>Ending.returned (vi x)) (mod_pos (yF hb1)),hS.bel⟩)
theorem rpad_any (n:Nat) (hn:n≤140737488351232) (w0:World):Calls Tryz.prog 165 #[vx n] w0 (fun ε w'=>∃ α κ,ε=.returned (.slice α (aY n).length κ)∧jG w0 w'∧Fs w0 w' α κ (aY n)):=by
 refine Calls.of_ok (n:=31) (F:=(fun _=>True)) Tryz.func165 rfl rfl rfl (by simp) jT ?_
 refine jJ Tryz.f165 1 [0,2] [vz] ?_
 refine sS Tryz.f165 2 [0,2,3] [] (fun ρ=>let qa:=vs (nb ρ 0) ([128]:List UInt8).length 1;[qa,qa]) (fun ρ=>[(0,(nw ρ 0 (cL #[.int .u8 128] 5)))]) (jE [[],[]]) (fun ρ2=>?_)
 refine aB (aI ?_)
 refine oL (σ:=(Nat × Nat × (List UInt8) × (Array Value) × Nat)) (fun s=>match s with |  ⟨_,g,X,_,κ⟩=>[(0,(vx n)),(2,vz),(3,(vs g X.length κ))]) (fun s=>match s with |  ⟨_,g,_,C,_⟩=>[(g,(cL C 5))]) (fun s=>match s with |  ⟨j,_,_,_,_⟩=>zeros n-j)
   (fun s=>match s with |  ⟨j,_,X,C,κ⟩=>(j≤zeros n)∧(X=128::List.replicate j 0)∧(Hd C X)∧(C.size=κ)∧(X.length≤κ)) ((0,nb ρ2 0,([128]:List UInt8),#[.int .u8 128],1)) (⟨Nat.zero_le _,rfl,(rfl:Hd #[.int .u8 128] ([128]:List UInt8)),rfl,Nat.le_refl 1⟩) [] ?_
 rintro ⟨j,g,X,C,κ⟩
 rintro ⟨hj,hX,hC,hs,hle⟩
 change Ok Tryz.prog _ _ 31 [(0,(vx n)),(2,vz),(3,(vs g X.length κ))] _ [(g,(cL C 5))] (fun _=>True)
 refine aB ?_
 refine sS Tryz.f165 8 [0,2,3,13] [] (fun _=>[vx n,vs g X.length κ,vn X.length,vx X.length,vx (n+X.length),vx ((n+X.length)+8),vx (((n+X.length)+8)%64),.bool (((((n+X.length)+8)%64:Nat):Int) != 0)]) (fun _=>[]) (cR [[],[],[]]<|cA (v:=fun ρ=>(.int .u64 (IntKind.u64.wrap ((X.length:Nat):Int)))) (fun _=>(vx X.length)) (fun _=>congrArg (Value.int .u64) (u64N (by have:=aS n;have:=nZ hX;omega)))<|cA (v:=fun ρ=>(.int .u64 (IntKind.u64.wrap (((n:Nat):Int)+((X.length:Nat):Int))))) (fun _=>(vx (n+X.length))) (fun _=>congrArg (Value.int .u64) (vW n X.length (by have:=aS n;have:=nZ hX;omega)))<|cA (v:=fun ρ=>(.int .u64 (IntKind.u64.wrap (((n+X.length:Nat):Int)+8)))) (fun _=>(vx ((n+X.length)+8))) (fun _=>congrArg (Value.int .u64) (vW (n+X.length) 8 (by have:=aS n;have:=nZ hX;omega)))<|cB (a:=fun ρ=>(vx ((n+X.length)+8))) (b:=fun ρ=>(.int .u64 64)) (v:=fun ρ=>(vx (((n+X.length)+8)%64))) .rem 62 (fun _ w=>zT (k:=.u64) (n:=((n+X.length)+8)) (d:=64) (by decide) w)<|jE [[]]) (fun _=>?_)
 refine oC (((((n+X.length)+8)%64:Nat):Int) != 0) (fun hb1=>?_) (fun hb1=>?_)
 ·
  rw [hb1]
  refine aG (aA (aI ?_))
  rcases Bool.eq_false_or_eq_true (decide (X.length+([0]:List UInt8).length≤κ)) with hb2 | hb2
  ·
   refine rS Tryz.f165 4 [0,2,3] [1,0] (fun ρ=>let qa:=vs g (X++([0]:List UInt8)).length κ;[vs g X.length κ,vs (nb ρ 1) ([0]:List UInt8).length 1,qa,qa]) (fun ρ=>[(1,(nw ρ 1 (cL #[.int .u8 0] 5))),(2,(bD 0 g (cL (inpl C X.length (bs ([0]:List UInt8))) 5)))]) (cR [[],[]]<|cX (o9 _ 0 (fun ρ=>do pure (Next.value (← Builtin.append_ #[37,37] 37 #[vs g X.length κ,vs (nb ρ 1) ([0]:List UInt8).length 1]))) (fun _=>g) (fun _=>(cL C 5)) (fun _=>(cL (inpl C X.length (bs ([0]:List UInt8))) 5)) (fun _=>(vs g (X++([0]:List UInt8)).length κ)) (fun _=>(by kernel_rfl)) (fun _=>(by kernel_rfl)) (fun _=>(by kernel_rfl)) (fun _=>(by kernel_rfl)) (fun _ _=>trivial) (fun ρ _ _ hG hg=>kD Tryz.underlying37 nH hg (Bs.src (tx:=37) Tryz.underlying37 (Bs.of_hd (hG.kn (g:=nb ρ 1) (o:=(cL #[.int .u8 0] 5)) 9) (rfl:Hd #[.int .u8 0] ([0]:List UInt8)) (Nat.le_refl 1) (Nat.le_of_ble_eq_true rfl))) hs (yT hb2)))<|jE [[]]) (fun _=>?_)
   refine aJ ?_
   exact mN ((j+1,g,X++([0]:List UInt8),inpl C X.length (bs ([0]:List UInt8)),κ)) (by show zeros n-(j+1)<zeros n-j;have:=(xAA hj (by have h1:=bne0N hb1;rw [nZ hX] at h1;exact h1));omega) (⟨xAA hj (by have h1:=bne0N hb1;rw [nZ hX] at h1;exact h1),zer_next hX,Hd.inpl hC rfl,(lG _ _ _ (room_le hs (yT hb2))).trans hs,oK (yT hb2)⟩) []
  refine rS Tryz.f165 4 [0,2,3] [0,0,1] (fun ρ=>let qa:=vs (nb ρ 2) (X++([0]:List UInt8)).length ((X++([0]:List UInt8)).length+aZ ρ 2);[vs g X.length κ,vs (nb ρ 1) ([0]:List UInt8).length 1,qa,qa]) (fun ρ=>[(1,(nw ρ 1 (cL #[.int .u8 0] 5))),(2,(nw ρ 2 (cL (grow C X.length (bs ([0]:List UInt8)) (aZ ρ 2)) 5)))]) (cR [[],[]]<|cX (qN (fun _ ζ=>(vs (ζ.headD 0) (X++([0]:List UInt8)).length ((X++([0]:List UInt8)).length+ζ.tail.headD 0))) (fun _ ζ=>(cL (grow C X.length (bs ([0]:List UInt8)) (ζ.tail.headD 0)) 5)) (fun ρ _ _ hG=>xG (ty:=37) Tryz.underlying37 nH (hG.kn (g:=g) (o:=(cL C 5)) 0) (Bs.src (tx:=37) Tryz.underlying37 (Bs.of_hd (hG.kn (g:=nb ρ 1) (o:=(cL #[.int .u8 0] 5)) 9) (rfl:Hd #[.int .u8 0] ([0]:List UInt8)) (Nat.le_refl 1) (Nat.le_of_ble_eq_true rfl))) hs hle (Nat.lt_of_not_le (yF hb2)) (by have:=yF hb2;have:=hn;have:=aS n;have:=hj;have:=nZ hX;simp only [List.length_cons,List.length_nil];omega)))<|jE [[]]) (fun ρ5=>?_)
  refine aJ ?_
  exact mN ((j+1,nb ρ5 2,X++([0]:List UInt8),grow C X.length (bs ([0]:List UInt8)) (aZ ρ5 2),(X++([0]:List UInt8)).length+aZ ρ5 2)) (by show zeros n-(j+1)<zeros n-j;have:=(xAA hj (by have h1:=bne0N hb1;rw [nZ hX] at h1;exact h1));omega) (⟨xAA hj (by have h1:=bne0N hb1;rw [nZ hX] at h1;exact h1),zer_next hX,Hd.grow hC rfl,tX hC,Nat.le_add_right _ _⟩) []
 rw [hb1]
 refine bF (aN (aN (aT (aA (aB (jJ Tryz.f165 1 [0,2,3,4] [vi 7] (aI ?_)))))))
 refine oL (σ:=(Nat × Nat × (List UInt8) × (Array Value) × Nat)) (fun s=>match s with |  ⟨k,g2,X2,_,κ2⟩=>[(0,(vx n)),(2,vz),(3,(vs g2 X2.length κ2)),(4,(vi (7-((k:Nat):Int))))]) (fun s=>match s with |  ⟨_,g2,_,C2,_⟩=>[(g2,(cL C2 5))]) (fun s=>match s with |  ⟨k,_,_,_,_⟩=>8-k)
   (fun s=>match s with |  ⟨k,_,X2,C2,κ2⟩=>(k≤8)∧(X2=128::(List.replicate (zeros n) 0++be8 (8*n) k))∧(Hd C2 X2)∧(C2.size=κ2)∧(X2.length≤κ2)) ((0,g,X,C,κ)) (⟨by decide,zer_be hX (zer_end hj (by have h1:=bne0N' hb1;rw [nZ hX] at h1;exact h1)),hC,hs,hle⟩) [] ?_
 rintro ⟨k,g2,X2,C2,κ2⟩
 rintro ⟨hk,hX2,hC2,hs2,hle2⟩
 change Ok Tryz.prog _ _ 31 [(0,(vx n)),(2,vz),(3,(vs g2 X2.length κ2)),(4,(vi (7-((k:Nat):Int))))] _ [(g2,(cL C2 5))] (fun _=>True)
 refine aB (jJ Tryz.f165 2 [0,2,3,4,18] [vi (7-((k:Nat):Int)),.bool (decide (0≤(7-((k:Nat):Int))))] ?_)
 refine oC (decide (0≤(7-((k:Nat):Int)))) (fun hb3=>?_) (fun hb3=>?_)
 ·
  rw [hb3]
  have:=yT hb3
  refine aG (aA (aB (aI ?_)))
  rcases Bool.eq_false_or_eq_true (decide (X2.length+([ob ((8*n / 2^(56-8*k)%256:Nat):Int)]:List UInt8).length≤κ2)) with hb4 | hb4
  ·
   refine rS Tryz.f165 10 [0,2,3,4] [1,0] (fun ρ=>let qa:=([ob ((8*n / 2^(56-8*k)%256:Nat):Int)]:List UInt8);let qb:=vs g2 (X2++qa).length κ2;[vs g2 X2.length κ2,vx n,vx (8*n),vi (7-((k:Nat):Int)),vn (56-8*k),vx (8*n / 2^(56-8*k)),vy (8*n / 2^(56-8*k)%256),vs (nb ρ 7) qa.length 1,qb,qb]) (fun ρ=>[(7,(nw ρ 7 (cL #[vy (8*n / 2^(56-8*k)%256)] 5))),(8,(bD 0 g2 (cL (inpl C2 X2.length (bs ([ob ((8*n / 2^(56-8*k)%256:Nat):Int)]:List UInt8))) 5)))]) (cR [[],[]]<|cA (v:=fun ρ=>(.int .u64 (IntKind.u64.wrap (8*((n:Nat):Int))))) (fun _=>(vx (8*n))) (fun _=>congrArg (Value.int .u64) (u64_mulN 8 n (by have:=yT hb4;have:=aS n;have:=dZ hX2;omega)))<|cR [[]]<|jW (fun ρ=>(8*(7-((k:Nat):Int)))) (fun _=>(56-8*k)) (fun _=>((gZ (by have:=yT hb4;have:=aS n;have:=dZ hX2;omega)).trans (by have:=yT hb4;have:=aS n;have:=dZ hX2;omega)))<|cB (a:=fun ρ=>(vx (8*n))) (b:=fun ρ=>(vn (56-8*k))) (v:=fun ρ=>(vx (8*n / 2^(56-8*k)))) .shr 62 (fun _ w=>gG (k:=.u64) (x:=8*n) (c:=56-8*k) (by have:=yT hb4;have:=hn;have:=aS n;have:=hj;have:=hk;have:=dZ hX2;show 8*n<18446744073709551616;omega) w)<|cA (fun _=>(vy (8*n / 2^(56-8*k)%256))) (fun _=>congrArg (Value.int .u8) (u8M (8*n / 2^(56-8*k))))<|cR [[]]<|cX (o9 _ 0 (fun ρ=>do pure (Next.value (← Builtin.append_ #[37,37] 37 #[vs g2 X2.length κ2,vs (nb ρ 7) ([ob ((8*n / 2^(56-8*k)%256:Nat):Int)]:List UInt8).length 1]))) (fun _=>g2) (fun _=>(cL C2 5)) (fun _=>(cL (inpl C2 X2.length (bs ([ob ((8*n / 2^(56-8*k)%256:Nat):Int)]:List UInt8))) 5)) (fun _=>(vs g2 (X2++([ob ((8*n / 2^(56-8*k)%256:Nat):Int)]:List UInt8)).length κ2)) (fun _=>(by kernel_rfl)) (fun _=>(by kernel_rfl)) (fun _=>(by kernel_rfl)) (fun _=>(by kernel_rfl)) (fun _ _=>trivial) (fun ρ _ _ hG hg=>kD Tryz.underlying37 nH hg (Bs.src (tx:=37) Tryz.underlying37 (Bs.of_hd (hG.kn (g:=nb ρ 7) (o:=(cL #[vy (8*n / 2^(56-8*k)%256)] 5)) 57) (hd1 (by omega)) (Nat.le_refl 1) (Nat.le_of_ble_eq_true rfl))) hs2 (yT hb4)))<|jE [[]]) (fun _=>?_)
   refine aJ (aA ?_)
   refine rS Tryz.f165 3 [0,2,3,4] [] (fun _=>let qa:=vi (7-((k+1:Nat):Int));[vi (7-((k:Nat):Int)),qa,qa]) (fun _=>[]) (cR [[]]<|jU (fun ρ=>((7-((k:Nat):Int))-1)) (fun _=>(7-((k+1:Nat):Int))) (fun _=>((gZ (by have:=yT hb4;have:=aS n;have:=dZ hX2;omega)).trans (by omega)))<|jE [[]]) (fun _=>?_)
   exact mN ((k+1,g2,X2++([ob ((8*n / 2^(56-8*k)%256:Nat):Int)]:List UInt8),inpl C2 X2.length (bs ([ob ((8*n / 2^(56-8*k)%256:Nat):Int)]:List UInt8)),κ2)) (by show 8-(k+1)<8-k;have:=yT hb4;have:=aS n;have:=dZ hX2;omega) (⟨(by have:=yT hb4;have:=aS n;have:=dZ hX2;omega),pad_next hX2,Hd.inpl hC2 rfl,(lG _ _ _ (room_le hs2 (yT hb4))).trans hs2,oK (yT hb4)⟩) []
  refine rS Tryz.f165 10 [0,2,3,4] [0,0,1] (fun ρ=>let qa:=([ob ((8*n / 2^(56-8*k)%256:Nat):Int)]:List UInt8);let qb:=vs (nb ρ 8) (X2++qa).length ((X2++qa).length+aZ ρ 8);[vs g2 X2.length κ2,vx n,vx (8*n),vi (7-((k:Nat):Int)),vn (56-8*k),vx (8*n / 2^(56-8*k)),vy (8*n / 2^(56-8*k)%256),vs (nb ρ 7) qa.length 1,qb,qb]) (fun ρ=>[(7,(nw ρ 7 (cL #[vy (8*n / 2^(56-8*k)%256)] 5))),(8,(nw ρ 8 (cL (grow C2 X2.length (bs ([ob ((8*n / 2^(56-8*k)%256:Nat):Int)]:List UInt8)) (aZ ρ 8)) 5)))]) (cR [[],[]]<|cA (v:=fun ρ=>(.int .u64 (IntKind.u64.wrap (8*((n:Nat):Int))))) (fun _=>(vx (8*n))) (fun _=>congrArg (Value.int .u64) (u64_mulN 8 n (by have:=yF hb4;have:=aS n;have:=dZ hX2;omega)))<|cR [[]]<|jW (fun ρ=>(8*(7-((k:Nat):Int)))) (fun _=>(56-8*k)) (fun _=>((gZ (by have:=yF hb4;have:=aS n;have:=dZ hX2;omega)).trans (by have:=yF hb4;have:=aS n;have:=dZ hX2;omega)))<|cB (a:=fun ρ=>(vx (8*n))) (b:=fun ρ=>(vn (56-8*k))) (v:=fun ρ=>(vx (8*n / 2^(56-8*k)))) .shr 62 (fun _ w=>gG (k:=.u64) (x:=8*n) (c:=56-8*k) (by have:=yF hb4;have:=hn;have:=aS n;have:=hj;have:=hk;have:=dZ hX2;show 8*n<18446744073709551616;omega) w)<|cA (fun _=>(vy (8*n / 2^(56-8*k)%256))) (fun _=>congrArg (Value.int .u8) (u8M (8*n / 2^(56-8*k))))<|cR [[]]<|cX (qN (fun _ ζ=>(vs (ζ.headD 0) (X2++([ob ((8*n / 2^(56-8*k)%256:Nat):Int)]:List UInt8)).length ((X2++([ob ((8*n / 2^(56-8*k)%256:Nat):Int)]:List UInt8)).length+ζ.tail.headD 0))) (fun _ ζ=>(cL (grow C2 X2.length (bs ([ob ((8*n / 2^(56-8*k)%256:Nat):Int)]:List UInt8)) (ζ.tail.headD 0)) 5)) (fun ρ _ _ hG=>xG (ty:=37) Tryz.underlying37 nH (hG.kn (g:=g2) (o:=(cL C2 5)) 0) (Bs.src (tx:=37) Tryz.underlying37 (Bs.of_hd (hG.kn (g:=nb ρ 7) (o:=(cL #[vy (8*n / 2^(56-8*k)%256)] 5)) 57) (hd1 (by omega)) (Nat.le_refl 1) (Nat.le_of_ble_eq_true rfl))) hs2 hle2 (Nat.lt_of_not_le (yF hb4)) (by have:=yF hb4;have:=hn;have:=aS n;have:=hj;have:=hk;have:=dZ hX2;simp only [List.length_cons,List.length_nil];omega)))<|jE [[]]) (fun ρ10=>?_)
  refine aJ (aA ?_)
  refine rS Tryz.f165 3 [0,2,3,4] [] (fun _=>let qa:=vi (7-((k+1:Nat):Int));[vi (7-((k:Nat):Int)),qa,qa]) (fun _=>[]) (cR [[]]<|jU (fun ρ=>((7-((k:Nat):Int))-1)) (fun _=>(7-((k+1:Nat):Int))) (fun _=>((gZ (by have:=yF hb4;have:=aS n;have:=dZ hX2;omega)).trans (by omega)))<|jE [[]]) (fun _=>?_)
  exact mN ((k+1,nb ρ10 8,X2++([ob ((8*n / 2^(56-8*k)%256:Nat):Int)]:List UInt8),grow C2 X2.length (bs ([ob ((8*n / 2^(56-8*k)%256:Nat):Int)]:List UInt8)) (aZ ρ10 8),(X2++([ob ((8*n / 2^(56-8*k)%256:Nat):Int)]:List UInt8)).length+aZ ρ10 8)) (by show 8-(k+1)<8-k;have:=yF hb4;have:=aS n;have:=dZ hX2;omega) (⟨(by have:=yF hb4;have:=aS n;have:=dZ hX2;omega),pad_next hX2,Hd.grow hC2 rfl,tX hC2,Nat.le_add_right _ _⟩) []
 rw [hb3]
 refine bF (aN (aN (aT (aA (jJ Tryz.f165 2 [2] [vs g2 X2.length κ2,vs g2 X2.length κ2] (aF (mD [(2,(vs g2 X2.length κ2))] [(g2,(cL C2 5))] ?_)))))))
 exact mR (v:=(vs g2 X2.length κ2)) (fun _ hS=>⟨some ⟨g2,0,none⟩,κ2,congrArg Ending.returned (by rw [(pad_end hX2 (by have:=yF hb3;have:=aS n;have:=dZ hX2;omega))]),hS.bel,dU (pad_end hX2 (by have:=yF hb3;have:=aS n;have:=dZ hX2;omega)) (hS.fresh (.head _) hC2 hle2 (by have:=aS n;have:=nZ hX;have:=dZ hX2;omega))⟩)
theorem tZ (a:Option Addr) (c:Nat) (B:List UInt8) (a2:Option Addr) (c2:Nat) (S:List UInt8) (hl:B.length+S.length≤140737488351232) (w0:World) (hf0:Bs w0 a c B) (hf1:Bs w0 a2 c2 S):Calls Tryz.prog 120 #[.slice a B.length c,.slice a2 S.length c2] w0 (fun ε w'=>∃ α κ,ε=.returned (.slice α (B++S).length κ)∧jG w0 w'∧Fs w0 w' α κ (B++S)):=by
 refine Calls.of_ok (n:=17) (F:=(fun w=>Bs w a c B∧Bs w a2 c2 S∧True)) Tryz.func120 rfl rfl rfl (by simp) (hf0.pers0.and (hf1.pers0.and cO)) ?_
 refine jJ Tryz.f120 1 [0,1,4] [vz] ?_
 refine sS Tryz.f120 7 [0,1,4,5] [] (fun ρ=>let qa:=vs (nb ρ 5) ([]:List UInt8).length (B.length+S.length);[.slice a B.length c,vn B.length,.slice a2 S.length c2,vn S.length,vn (B.length+S.length),qa,qa]) (fun ρ=>[(5,(nw ρ 5 (cL (zB (B.length+S.length)) 5)))]) (cR [[],[],[],[]]<|jW (fun ρ=>(((B.length:Nat):Int)+((S.length:Nat):Int))) (fun _=>(B.length+S.length)) (fun _=>(aW B.length S.length (by omega)))<|cX (uB _ (fun _=>do pure (Next.value (← Instr.makeSlice 37 (vi 0) (vn (B.length+S.length))))) (fun _ ζ=>(vs (ζ.headD 0) ([]:List UInt8).length (B.length+S.length))) (fun _ _=>(cL (zB (B.length+S.length)) 5)) (fun _ _=>(by kernel_rfl)) (fun _=>(by kernel_rfl)) (fun _ _=>trivial) (fun _ _ w _=>mM Tryz.underlying37 nH ([]:List UInt8) (rfl) (rfl) (Nat.zero_le _) hl w))<|jE [[]]) (fun ρ2=>?_)
 refine sS Tryz.f120 6 [4] [] (fun _=>let qa:=vs (nb ρ2 5) ((([]:List UInt8)++B)++S).length (B.length+S.length);[vs (nb ρ2 5) ([]:List UInt8).length (B.length+S.length),.slice a B.length c,vs (nb ρ2 5) (([]:List UInt8)++B).length (B.length+S.length),.slice a2 S.length c2,qa,qa]) (fun _=>[(2,(bD 0 (nb ρ2 5) (cL (inpl (zB (B.length+S.length)) ([]:List UInt8).length (bs B)) 5))),(4,(bD 0 (nb ρ2 5) (cL (inpl (inpl (zB (B.length+S.length)) ([]:List UInt8).length (bs B)) (([]:List UInt8)++B).length (bs S)) 5)))]) (cR [[],[]]<|cX (o9 _ 0 (fun _=>do pure (Next.value (← Builtin.append_ #[37,37] 37 #[vs (nb ρ2 5) ([]:List UInt8).length (B.length+S.length),.slice a B.length c]))) (fun _=>nb ρ2 5) (fun _=>(cL (zB (B.length+S.length)) 5)) (fun _=>(cL (inpl (zB (B.length+S.length)) ([]:List UInt8).length (bs B)) 5)) (fun _=>(vs (nb ρ2 5) (([]:List UInt8)++B).length (B.length+S.length))) (fun _=>(by kernel_rfl)) (fun _=>(by kernel_rfl)) (fun _=>(by kernel_rfl)) (fun _=>(by kernel_rfl)) (fun _ _=>trivial) (fun _ _ _ hG hg=>kD Tryz.underlying37 nH hg (Bs.src (tx:=37) Tryz.underlying37 hG.fn.1) (oD _) (by simp only [List.length_nil];omega)))<|cR [[]]<|cX (o9 _ 0 (fun _=>do pure (Next.value (← Builtin.append_ #[37,37] 37 #[vs (nb ρ2 5) (([]:List UInt8)++B).length (B.length+S.length),.slice a2 S.length c2]))) (fun _=>nb ρ2 5) (fun _=>(cL (inpl (zB (B.length+S.length)) ([]:List UInt8).length (bs B)) 5)) (fun _=>(cL (inpl (inpl (zB (B.length+S.length)) ([]:List UInt8).length (bs B)) (([]:List UInt8)++B).length (bs S)) 5)) (fun _=>(vs (nb ρ2 5) ((([]:List UInt8)++B)++S).length (B.length+S.length))) (fun _=>(by kernel_rfl)) (fun _=>(by kernel_rfl)) (fun _=>(by kernel_rfl)) (fun _=>(by kernel_rfl)) (fun _ _=>trivial) (fun _ _ _ hG hg=>kD Tryz.underlying37 nH hg (Bs.src (tx:=37) Tryz.underlying37 hG.fn.2.1) ((lG _ _ _ (room_le (oD _) (by simp only [List.length_nil];omega))).trans (oD _)) (Nat.le_refl _)))<|jE [[]]) (fun _=>?_)
 refine aF (mD [(4,(vs (nb ρ2 5) ((([]:List UInt8)++B)++S).length (B.length+S.length)))] [(nb ρ2 5,(cL (inpl (inpl (zB (B.length+S.length)) ([]:List UInt8).length (bs B)) (([]:List UInt8)++B).length (bs S)) 5))] ?_)
 exact mR (v:=(vs (nb ρ2 5) ((([]:List UInt8)++B)++S).length (B.length+S.length))) (fun _ hS=>⟨some ⟨nb ρ2 5,0,none⟩,B.length+S.length,congrArg Ending.returned (rfl),hS.bel,dU (rfl) (hS.fresh (.head _) (Hd.inpl (Hd.inpl (Hd.nil _) rfl) rfl) (oK (Nat.le_refl _)) (oK hl))⟩)
theorem join2_any (g:Nat) (a0:Option Addr) (c0:Nat) (B0:List UInt8) (a1:Option Addr) (c1:Nat) (B1:List UInt8) (hl:B0.length+B1.length≤140737488351232) (__h0:0<B0.length) (w0:World) (hf0:Kb w0 g #[.slice a0 B0.length c0,.slice a1 B1.length c1]) (hf1:Bs w0 a0 c0 B0) (hf2:Bs w0 a1 c1 B1):Calls Tryz.prog 85 #[vs g 2 2] w0 (fun ε w'=>∃ α κ,ε=.returned (.slice α (B0++B1).length κ)∧jG w0 w'∧Fs w0 w' α κ (B0++B1)):=by
 refine Calls.of_ok (n:=17) (F:=(fun w=>Kb w g #[.slice a0 B0.length c0,.slice a1 B1.length c1]∧Bs w a0 c0 B0∧Bs w a1 c1 B1∧True)) Tryz.func85 rfl rfl rfl (by simp) (hf0.pers0.and (hf1.pers0.and (hf2.pers0.and cO))) ?_
 refine jJ Tryz.f85 1 [0,2] [vz] (jJ Tryz.f85 1 [0,2,3] [vz] (aB (jJ Tryz.f85 3 [2,3,6,7,8] [vs g 2 2,vi 2,vi 0] (aI ?_))))
 refine jY 3 ?_
 refine dI ?_
 refine jJ Tryz.f85 1 [2,3,6,7,8,9] [vT] (aB ?_)
 refine oY ?_
 refine aG (aA (aB (aI ?_)))
 refine sS Tryz.f85 3 [2,3,5,6,7,8,9,10,11] [] (fun _=>[pt g,.slice a0 B0.length c0,.slice a0 B0.length c0]) (fun _=>[]) (cR [[]]<|cX (qF (v:=fun ρ=>(.slice a0 B0.length c0)) (fun _ _ _ hG=>mY (off:=0) Tryz.isAgg37 hG.fn.1 (rfl)))<|jE [[]]) (fun _=>?_)
 refine rSf Tryz.f85 4 [2,3,5,6,7,8,9,10,11,12,13,14] [] (fun ρ=>let qa:Value:=.slice (oa ρ 2) (([]:List UInt8)++B0).length (nb ρ 2);[vz,.slice a0 B0.length c0,qa,qa]) (fun _=>[]) (fun ρ=>[(2,fun w=>Fs w0 w (oa ρ 2) (nb ρ 2) (([]:List UInt8)++B0))]) (fun ρ=>(fun w=>Kb w g #[.slice a0 B0.length c0,.slice a1 B1.length c1]∧Bs w a0 c0 B0∧Bs w a1 c1 B1∧Fs w0 w (oa ρ 2) (nb ρ 2) (([]:List UInt8)++B0)∧True)) (fun _=>True) (fun _ _ hF hf=>⟨⟨hF.1,hF.2.1,hF.2.2.1,hf 2,trivial⟩,trivial⟩) (cR [[],[]]<|cX (qB (fun _ _ w hG=>tZ none 0 ([]:List UInt8) a0 c0 B0 (by (try simp only [List.length_nil])<;>(omega)) w Bs.nil hG.fn.2.1))<|jE [[]]) (fun ρ6 _=>?_)
 refine aJ (aA (jL Tryz.f85 2 [2,3,5,6,7,8,9,10,11,12,13,14,15] [] [vi 1,vi 1] [[],[]] (dV ?_)))
 refine dI ?_
 refine jJ Tryz.f85 1 [2,3,5,6,7,8,9,10,11,12,13,14,15] [vT] ?_
 refine lK [(2,vz),(3,(.slice (oa ρ6 2) (([]:List UInt8)++B0).length (nb ρ6 2))),(5,(.slice a0 B0.length c0)),(6,(vs g 2 2)),(7,(vi 2)),(8,(vi 1)),(9,vT),(10,(pt g)),(11,(.slice a0 B0.length c0)),(12,vz),(13,(.slice a0 B0.length c0)),(14,(.slice (oa ρ6 2) (([]:List UInt8)++B0).length (nb ρ6 2))),(15,(vi 1))] [] ?_
 refine aB ?_
 refine oY ?_
 refine aG (aA (aB (aI ?_)))
 refine sS Tryz.f85 3 [2,3,5,6,7,8,9,10,11,12,13,14,15] [] (fun _=>[jp g 1,.slice a1 B1.length c1,.slice a1 B1.length c1]) (fun _=>[]) (cR [[]]<|cX (qF (v:=fun ρ=>(.slice a1 B1.length c1)) (fun _ _ _ hG=>mY (off:=1) Tryz.isAgg37 hG.fn.1 (rfl)))<|jE [[]]) (fun _=>?_)
 refine rSf Tryz.f85 4 [2,3,5,6,7,8,9,10,11,12,13,14,15] [] (fun ρ=>let qa:Value:=.slice (oa ρ 2) ((([]:List UInt8)++B0)++B1).length (nb ρ 2);[.slice (oa ρ6 2) (([]:List UInt8)++B0).length (nb ρ6 2),.slice a1 B1.length c1,qa,qa]) (fun _=>[]) (fun ρ=>[(2,fun w=>Fs w0 w (oa ρ 2) (nb ρ 2) ((([]:List UInt8)++B0)++B1))]) (fun ρ=>(fun w=>Kb w g #[.slice a0 B0.length c0,.slice a1 B1.length c1]∧Bs w a0 c0 B0∧Bs w a1 c1 B1∧Fs w0 w (oa ρ6 2) (nb ρ6 2) (([]:List UInt8)++B0)∧Fs w0 w (oa ρ 2) (nb ρ 2) ((([]:List UInt8)++B0)++B1)∧True)) (fun _=>True) (fun _ _ hF hf=>⟨⟨hF.1,hF.2.1,hF.2.2.1,hF.2.2.2.1,hf 2,trivial⟩,trivial⟩) (cR [[],[]]<|cX (qB (fun _ _ w hG=>tZ (oa ρ6 2) (nb ρ6 2) (([]:List UInt8)++B0) a1 c1 B1 (by (try simp only [List.length_append,List.length_nil])<;>(omega)) w hG.fn.2.2.2.1.1 hG.fn.2.2.1))<|jE [[]]) (fun ρ10 _=>?_)
 refine aJ (aA (jL Tryz.f85 2 [2,3,5,6,7,8,9,10,11,12,13,14,15] [] [vi 2,vi 2] [[],[]] (dV ?_)))
 refine dI ?_
 refine jJ Tryz.f85 1 [2,3,5,6,7,8,9,10,11,12,13,14,15] [vF] (aB ?_)
 refine oN ?_
 refine bF (aN (aN (aT (aA (jJ Tryz.f85 2 [2] (let qa:Value:=.slice (oa ρ10 2) ((([]:List UInt8)++B0)++B1).length (nb ρ10 2);[qa,qa]) (aF (mD [(2,(.slice (oa ρ10 2) ((([]:List UInt8)++B0)++B1).length (nb ρ10 2)))] [] ?_)))))))
 exact mR (v:=(.slice (oa ρ10 2) ((([]:List UInt8)++B0)++B1).length (nb ρ10 2))) (fun _ hS=>⟨oa ρ10 2,nb ρ10 2,congrArg Ending.returned (rfl),hS.bel,dU (rfl) hS.facts.now.2.2.2.2.1⟩)
theorem kE (x:Nat) (n:Nat) (hx:x<4294967296) (hn:0<n∧n<32) (w0:World):Calls Tryz.prog 187 #[vu x,vn n] w0 (jR (vu (aH x n)) w0):=by
 refine Calls.of_ok (n:=9) (F:=(fun _=>True)) Tryz.func187 rfl rfl rfl (by simp) jT ?_
 refine jJ Tryz.f187 1 [0,1,4] [.int .u32 0] ?_
 refine sS Tryz.f187 5 [4] [] (fun _=>[vu x,vn n,vi (0-((n:Nat):Int)),vu (aH x n),vu (aH x n)]) (fun _=>[]) (cR [[],[]]<|jU (fun ρ=>(0-((n:Nat):Int))) (fun _=>(0-((n:Nat):Int))) (fun _=>(gZ (by omega)))<|cC (fun _ w=>rotl_any x n hx hn w)<|jE [[]]) (fun _=>?_)
 refine aF ?_
 exact mR (v:=(vu (aH x n))) (fun _ hS=>⟨rfl,hS.bel⟩)
theorem rsched_any (X:List UInt8) (hX:X.length=64) (w0:World):Calls Tryz.prog 185 #[.agg (bs X).toArray] w0 (jR (.agg (bY .u32 64 (wN X))) w0):=by
 refine Calls.of_ok (n:=97) (F:=(fun _=>True)) Tryz.func185 rfl rfl rfl (by simp) jT ?_
 refine sS Tryz.f185 2 [1,2] [] (fun ρ=>[pt (nb ρ 0),pt (nb ρ 1)]) (fun ρ=>[(0,(nw ρ 0 (cL (bs X).toArray 165))),(1,(nw ρ 1 (cL (bY .u32 64 (fun _=>0)) 174)))]) (jE [[],[]]) (fun ρ1=>?_)
 refine sS Tryz.f185 1 [1,2,3] [] (fun ρ=>[pt (nb ρ 0)]) (fun ρ=>[(0,(nw ρ 0 (cL (bY .u32 64 (fun _=>0)) 174)))]) (jE [[]]) (fun ρ2=>?_)
 refine aB (jJ Tryz.f185 1 [1,2,3,4] [vi 0] (aI ?_))
 refine oL (σ:=Nat × (Array Value)) (fun ⟨i,_⟩=>[(1,(pt (nb ρ1 0))),(2,(pt (nb ρ1 1))),(3,(pt (nb ρ2 0))),(4,(vn i))]) (fun ⟨_,C⟩=>[(nb ρ1 0,(cL (bs X).toArray 165)),(nb ρ1 1,(cL (bY .u32 64 (fun _=>0)) 174)),(nb ρ2 0,(cL C 174))]) (fun ⟨i,_⟩=>16-i)
   (fun ⟨i,C⟩=>(i≤16)∧(C=bY .u32 64 (sc X i 0))) (0,bY .u32 64 (fun _=>0)) (⟨by decide,zrow_sc X⟩) [] ?_
 rintro ⟨i,C⟩ ⟨hi,hC⟩
 change Ok Tryz.prog _ _ 97 [(1,(pt (nb ρ1 0))),(2,(pt (nb ρ1 1))),(3,(pt (nb ρ2 0))),(4,(vn i))] _ [(nb ρ1 0,(cL (bs X).toArray 165)),(nb ρ1 1,(cL (bY .u32 64 (fun _=>0)) 174)),(nb ρ2 0,(cL C 174))] (fun _=>True)
 refine aB (jJ Tryz.f185 2 [1,2,3,4,9] [vn i,.bool (decide (((i:Nat):Int)<16))] ?_)
 refine oC (decide (((i:Nat):Int)<16)) (fun hb1=>?_) (fun hb1=>?_)
 ·
  rw [hb1]
  have:=yT hb1
  refine aG (aA (aB (aI ?_)))
  refine rD Tryz.f185 [0,0,2,6,14,30,62,0,128,384,896,1920,3968,8064,16382,0,32768,98304,229376,491520,1015808,2064384,4194302,0,8388608,25165824,58720256,125829120,260046848,536870910,1073741823,2147483647] 32 [1,2,3,4] [] (fun _=>[vn i,vn i,vn (4*i),jp (nb ρ1 0) (4*i),vy (gB X (4*i)),vu (gB X (4*i)),vu (gB X (4*i)*16777216),vn i,vn (4*i),vn ((4*i)+1),jp (nb ρ1 0) ((4*i)+1),vy (gB X ((4*i)+1)),vu (gB X ((4*i)+1)),vu (gB X ((4*i)+1)*65536),vu ((gB X (4*i)*256+gB X ((4*i)+1))*65536),vn i,vn (4*i),vn ((4*i)+2),jp (nb ρ1 0) ((4*i)+2),vy (gB X ((4*i)+2)),vu (gB X ((4*i)+2)),vu (gB X ((4*i)+2)*256),vu (((gB X (4*i)*256+gB X ((4*i)+1))*256+gB X ((4*i)+2))*256),vn i,vn (4*i),vn ((4*i)+3),jp (nb ρ1 0) ((4*i)+3),vy (gB X ((4*i)+3)),vu (gB X ((4*i)+3)),vu (word X i),jp (nb ρ2 0) i,undef]) (fun _=>[(31,(bD 2 (nb ρ2 0) (cL (C.setIfInBounds i (vu (word X i))) 174)))]) (cR [[],[]]<|jW (fun ρ=>(4*((i:Nat):Int))) (fun _=>(4*i)) (fun _=>(fQ 4 i (by omega)))<|cX (jS (fun _=>Instr.indexAt 165 (pt (nb ρ1 0)) (vn (4*i))) (fun _=>(jp (nb ρ1 0) (4*i))) (fun _ w=>aX (n:=((4*i:Nat):Int)) (i:=4*i) Tryz.underlying165 Tryz.sizeOf5 (by omega) w))<|cX (kG _ 0 5 (fun _=>nb ρ1 0) (fun _=>4*i) (fun _=>(bs X).toArray) 165 (0,0) (fun _=>(vy (gB X (4*i)))) (fun _=>by kernel_rfl) Tryz.isAgg5 (fun _=>(zG (by rw [hX];omega))))<|cA (v:=fun ρ=>(.int .u32 (IntKind.u32.wrap ((gB X (4*i):Nat):Int)))) (fun _=>(vu (gB X (4*i)))) (fun _=>jN (u32N (Nat.lt_of_lt_of_le (iD _ _) (by decide))))<|cB (a:=fun ρ=>(vu (gB X (4*i)))) (b:=fun ρ=>(.int .u64 24)) (v:=fun ρ=>(vu (gB X (4*i)*16777216))) .shl 55 (fun _ w=>sV (k:=.u32) (yk:=.u64) (x:=gB X (4*i)) (c:=24) rfl (by have:=iD X (4*i);show _*16777216<4294967296;omega) (fun _=>by decide) w)<|cR [[]]<|jW (fun ρ=>(4*((i:Nat):Int))) (fun _=>(4*i)) (fun _=>(fQ 4 i (by omega)))<|jW (fun ρ=>(((4*i:Nat):Int)+1)) (fun _=>((4*i)+1)) (fun _=>(aW (4*i) 1 (by omega)))<|cX (jS (fun _=>Instr.indexAt 165 (pt (nb ρ1 0)) (vn ((4*i)+1))) (fun _=>(jp (nb ρ1 0) ((4*i)+1))) (fun _ w=>aX (n:=(((4*i)+1:Nat):Int)) (i:=(4*i)+1) Tryz.underlying165 Tryz.sizeOf5 (by omega) w))<|cX (kG _ 0 5 (fun _=>nb ρ1 0) (fun _=>(4*i)+1) (fun _=>(bs X).toArray) 165 (0,0) (fun _=>(vy (gB X ((4*i)+1)))) (fun _=>by kernel_rfl) Tryz.isAgg5 (fun _=>(zG (by rw [hX];omega))))<|cA (v:=fun ρ=>(.int .u32 (IntKind.u32.wrap ((gB X ((4*i)+1):Nat):Int)))) (fun _=>(vu (gB X ((4*i)+1)))) (fun _=>jN (u32N (Nat.lt_of_lt_of_le (iD _ _) (by decide))))<|cB (a:=fun ρ=>(vu (gB X ((4*i)+1)))) (b:=fun ρ=>(.int .u64 16)) (v:=fun ρ=>(vu (gB X ((4*i)+1)*65536))) .shl 55 (fun _ w=>sV (k:=.u32) (yk:=.u64) (x:=gB X ((4*i)+1)) (c:=16) rfl (by have:=iD X ((4*i)+1);show _*65536<4294967296;omega) (fun _=>by decide) w)<|cA (v:=fun ρ=>(.int .u32 (bits .or .u32 ((gB X (4*i)*16777216:Nat):Int) ((gB X ((4*i)+1)*65536:Nat):Int)))) (fun _=>(vu ((gB X (4*i)*256+gB X ((4*i)+1))*65536))) (fun _=>jN (or_w1 (iD _ _) (iD _ _)))<|cR [[]]<|jW (fun ρ=>(4*((i:Nat):Int))) (fun _=>(4*i)) (fun _=>(fQ 4 i (by omega)))<|jW (fun ρ=>(((4*i:Nat):Int)+2)) (fun _=>((4*i)+2)) (fun _=>(aW (4*i) 2 (by omega)))<|cX (jS (fun _=>Instr.indexAt 165 (pt (nb ρ1 0)) (vn ((4*i)+2))) (fun _=>(jp (nb ρ1 0) ((4*i)+2))) (fun _ w=>aX (n:=(((4*i)+2:Nat):Int)) (i:=(4*i)+2) Tryz.underlying165 Tryz.sizeOf5 (by omega) w))<|cX (kG _ 0 5 (fun _=>nb ρ1 0) (fun _=>(4*i)+2) (fun _=>(bs X).toArray) 165 (0,0) (fun _=>(vy (gB X ((4*i)+2)))) (fun _=>by kernel_rfl) Tryz.isAgg5 (fun _=>(zG (by rw [hX];omega))))<|cA (v:=fun ρ=>(.int .u32 (IntKind.u32.wrap ((gB X ((4*i)+2):Nat):Int)))) (fun _=>(vu (gB X ((4*i)+2)))) (fun _=>jN (u32N (Nat.lt_of_lt_of_le (iD _ _) (by decide))))<|cB (a:=fun ρ=>(vu (gB X ((4*i)+2)))) (b:=fun ρ=>(.int .u64 8)) (v:=fun ρ=>(vu (gB X ((4*i)+2)*256))) .shl 55 (fun _ w=>sV (k:=.u32) (yk:=.u64) (x:=gB X ((4*i)+2)) (c:=8) rfl (by have:=iD X ((4*i)+2);show _*256<4294967296;omega) (fun _=>by decide) w)<|cA (v:=fun ρ=>(.int .u32 (bits .or .u32 (((gB X (4*i)*256+gB X ((4*i)+1))*65536:Nat):Int) ((gB X ((4*i)+2)*256:Nat):Int)))) (fun _=>(vu (((gB X (4*i)*256+gB X ((4*i)+1))*256+gB X ((4*i)+2))*256))) (fun _=>jN (or_w2 (iD _ _) (iD _ _) (iD _ _)))<|cR [[]]<|jW (fun ρ=>(4*((i:Nat):Int))) (fun _=>(4*i)) (fun _=>(fQ 4 i (by omega)))<|jW (fun ρ=>(((4*i:Nat):Int)+3)) (fun _=>((4*i)+3)) (fun _=>(aW (4*i) 3 (by omega)))<|cX (jS (fun _=>Instr.indexAt 165 (pt (nb ρ1 0)) (vn ((4*i)+3))) (fun _=>(jp (nb ρ1 0) ((4*i)+3))) (fun _ w=>aX (n:=(((4*i)+3:Nat):Int)) (i:=(4*i)+3) Tryz.underlying165 Tryz.sizeOf5 (by omega) w))<|cX (kG _ 0 5 (fun _=>nb ρ1 0) (fun _=>(4*i)+3) (fun _=>(bs X).toArray) 165 (0,0) (fun _=>(vy (gB X ((4*i)+3)))) (fun _=>by kernel_rfl) Tryz.isAgg5 (fun _=>(zG (by rw [hX];omega))))<|cA (v:=fun ρ=>(.int .u32 (IntKind.u32.wrap ((gB X ((4*i)+3):Nat):Int)))) (fun _=>(vu (gB X ((4*i)+3)))) (fun _=>jN (u32N (Nat.lt_of_lt_of_le (iD _ _) (by decide))))<|cA (fun _=>(vu (word X i))) (fun _=>jN or_w3)<|cX (jS (fun _=>Instr.indexAt 174 (pt (nb ρ2 0)) (vn i)) (fun _=>(jp (nb ρ2 0) i)) (fun _ w=>aX (n:=((i:Nat):Int)) (i:=i) Tryz.underlying174 Tryz.sizeOf55 (by omega) w))<|cX (qG _ 2 55 (fun _=>nb ρ2 0) (fun _=>i) (fun _=>C) (fun _=>(C.setIfInBounds i (vu (word X i)))) 174 (fun _=>(vu (word X i))) (fun _=>by kernel_rfl) Tryz.sizeOf55 (fun _=>rfl) (fun _=>(by rw [hC,eH];omega)) (fun _=>rfl))<|cN) (fun _=>?_)
  refine aJ (aA ?_)
  refine rS Tryz.f185 3 [1,2,3,4] [] (fun _=>[vn i,vn (i+1),vn (i+1)]) (fun _=>[]) (cR [[]]<|jW (fun ρ=>(((i:Nat):Int)+1)) (fun _=>(i+1)) (fun _=>(aW i 1 (by omega)))<|jE [[]]) (fun _=>?_)
  exact mN (i+1,C.setIfInBounds i (vu (word X i))) (by show 16-(i+1)<16-i;omega) (⟨(by omega),by rw [hC];exact sc_word⟩) []
 rw [hb1]
 have:=yF hb1
 refine bF (aN (aN (aT (aA (aB (jM Tryz.f185 1 [2,3,5] [0,1,1] [vi 16] [[]] (aI ?_)))))))
 refine oL (σ:=Nat × (Array Value)) (fun ⟨k,_⟩=>[(2,(pt (nb ρ1 1))),(3,(pt (nb ρ2 0))),(5,(vn k))]) (fun ⟨_,C3⟩=>[(nb ρ1 1,(cL (bY .u32 64 (fun _=>0)) 174)),(nb ρ2 0,(cL C3 174))]) (fun ⟨k,_⟩=>64-k)
   (fun ⟨k,C3⟩=>(16≤k∧k≤64)∧(C3=bY .u32 64 (tc X k))) (16,C) (⟨by decide,hC.trans (by rw [show i=16 by omega];exact sc_tc X)⟩) [] ?_
 rintro ⟨k,C3⟩ ⟨hk,hC3⟩
 change Ok Tryz.prog _ _ 97 [(2,(pt (nb ρ1 1))),(3,(pt (nb ρ2 0))),(5,(vn k))] _ [(nb ρ1 1,(cL (bY .u32 64 (fun _=>0)) 174)),(nb ρ2 0,(cL C3 174))] (fun _=>True)
 refine aB (jJ Tryz.f185 2 [2,3,5,44] [vn k,.bool (decide (((k:Nat):Int)<64))] ?_)
 refine oC (decide (((k:Nat):Int)<64)) (fun hb2=>?_) (fun hb2=>?_)
 ·
  rw [hb2]
  have:=yT hb2
  refine aG (aA (aB (aI ?_)))
  refine sD Tryz.f185 [0,1,3,7,15,0,32,96,224,511,1023,0,2048,6144,14336,30720,65535,131071] 18 [2,3,5,6] [] (fun _=>let qa:=vu (((aH (wN X (k-15)) 7)^^^(aH (wN X (k-15)) 18))^^^((wN X (k-15)) / 2^3));let qb:=vi (((k:Nat):Int)-15);[vn k,qb,jp (nb ρ2 0) (k-15),vu (wN X (k-15)),vu (aH (wN X (k-15)) 7),vn k,qb,jp (nb ρ2 0) (k-15),vu (wN X (k-15)),vu (aH (wN X (k-15)) 18),vu ((aH (wN X (k-15)) 7)^^^(aH (wN X (k-15)) 18)),vn k,qb,jp (nb ρ2 0) (k-15),vu (wN X (k-15)),vu ((wN X (k-15)) / 2^3),qa,qa]) (fun _=>[]) (cR [[]]<|jU (fun ρ=>(((k:Nat):Int)-15)) (fun _=>(((k:Nat):Int)-15)) (fun _=>(gZ (by omega)))<|cX (jS (fun _=>Instr.indexAt 174 (pt (nb ρ2 0)) (vi (((k:Nat):Int)-15))) (fun _=>(jp (nb ρ2 0) (k-15))) (fun _ w=>aX (n:=((k:Nat):Int)-15) (i:=k-15) Tryz.underlying174 Tryz.sizeOf55 (by omega) w))<|cX (kG _ 1 55 (fun _=>nb ρ2 0) (fun _=>k-15) (fun _=>C3) 174 (0,0) (fun _=>(vu (wN X (k-15)))) (fun _=>by kernel_rfl) Tryz.isAgg55 (fun _=>(by rw [hC3];exact lM (by omega) (by omega))))<|cC (f:=187) (args:=fun ρ=> #[vu (wN X (k-15)),vi 7]) (v:=fun ρ=>(vu (aH (wN X (k-15)) 7))) (fun _ w=>(fun w=>kE (wN X (k-15)) 7 (iF _ _) (by decide) w) w)<|cR [[]]<|jU (fun ρ=>(((k:Nat):Int)-15)) (fun _=>(((k:Nat):Int)-15)) (fun _=>(gZ (by omega)))<|cX (jS (fun _=>Instr.indexAt 174 (pt (nb ρ2 0)) (vi (((k:Nat):Int)-15))) (fun _=>(jp (nb ρ2 0) (k-15))) (fun _ w=>aX (n:=((k:Nat):Int)-15) (i:=k-15) Tryz.underlying174 Tryz.sizeOf55 (by omega) w))<|cX (kG _ 1 55 (fun _=>nb ρ2 0) (fun _=>k-15) (fun _=>C3) 174 (0,0) (fun _=>(vu (wN X (k-15)))) (fun _=>by kernel_rfl) Tryz.isAgg55 (fun _=>(by rw [hC3];exact lM (by omega) (by omega))))<|cC (f:=187) (args:=fun ρ=> #[vu (wN X (k-15)),vi 18]) (v:=fun ρ=>(vu (aH (wN X (k-15)) 18))) (fun _ w=>(fun w=>kE (wN X (k-15)) 18 (iF _ _) (by decide) w) w)<|cA (v:=fun ρ=>(.int .u32 (bits .xor .u32 ((aH (wN X (k-15)) 7:Nat):Int) ((aH (wN X (k-15)) 18:Nat):Int)))) (fun _=>(vu ((aH (wN X (k-15)) 7)^^^(aH (wN X (k-15)) 18)))) (fun _=>jN (lH (dE _ (iF _ _)) (dE _ (iF _ _))))<|cR [[]]<|jU (fun ρ=>(((k:Nat):Int)-15)) (fun _=>(((k:Nat):Int)-15)) (fun _=>(gZ (by omega)))<|cX (jS (fun _=>Instr.indexAt 174 (pt (nb ρ2 0)) (vi (((k:Nat):Int)-15))) (fun _=>(jp (nb ρ2 0) (k-15))) (fun _ w=>aX (n:=((k:Nat):Int)-15) (i:=k-15) Tryz.underlying174 Tryz.sizeOf55 (by omega) w))<|cX (kG _ 1 55 (fun _=>nb ρ2 0) (fun _=>k-15) (fun _=>C3) 174 (0,0) (fun _=>(vu (wN X (k-15)))) (fun _=>by kernel_rfl) Tryz.isAgg55 (fun _=>(by rw [hC3];exact lM (by omega) (by omega))))<|cB (a:=fun ρ=>(vu (wN X (k-15)))) (b:=fun ρ=>(.int .u64 3)) (v:=fun ρ=>(vu ((wN X (k-15)) / 2^3))) .shr 55 (fun _ w=>gG (k:=.u32) (x:=(wN X (k-15))) (c:=3) (iF _ _) w)<|cA (v:=fun ρ=>(.int .u32 (bits .xor .u32 (((aH (wN X (k-15)) 7)^^^(aH (wN X (k-15)) 18):Nat):Int) (((wN X (k-15)) / 2^3:Nat):Int)))) (fun _=>(vu (((aH (wN X (k-15)) 7)^^^(aH (wN X (k-15)) 18))^^^((wN X (k-15)) / 2^3)))) (fun _=>jN (lH (lU (dE _ (iF _ _)) (dE _ (iF _ _))) (rV _ (iF _ _))))<|jE [[]]) (fun _=>?_)
  refine sD Tryz.f185 [0,1,3,7,15,0,32,96,224,511,1023,0,2048,6144,14336,30720,65535,131071] 18 [2,3,5,6,7] [] (fun _=>let qa:=vu (((aH (wN X (k-2)) 17)^^^(aH (wN X (k-2)) 19))^^^((wN X (k-2)) / 2^10));let qb:=vi (((k:Nat):Int)-2);[vn k,qb,jp (nb ρ2 0) (k-2),vu (wN X (k-2)),vu (aH (wN X (k-2)) 17),vn k,qb,jp (nb ρ2 0) (k-2),vu (wN X (k-2)),vu (aH (wN X (k-2)) 19),vu ((aH (wN X (k-2)) 17)^^^(aH (wN X (k-2)) 19)),vn k,qb,jp (nb ρ2 0) (k-2),vu (wN X (k-2)),vu ((wN X (k-2)) / 2^10),qa,qa]) (fun _=>[]) (cR [[]]<|jU (fun ρ=>(((k:Nat):Int)-2)) (fun _=>(((k:Nat):Int)-2)) (fun _=>(gZ (by omega)))<|cX (jS (fun _=>Instr.indexAt 174 (pt (nb ρ2 0)) (vi (((k:Nat):Int)-2))) (fun _=>(jp (nb ρ2 0) (k-2))) (fun _ w=>aX (n:=((k:Nat):Int)-2) (i:=k-2) Tryz.underlying174 Tryz.sizeOf55 (by omega) w))<|cX (kG _ 1 55 (fun _=>nb ρ2 0) (fun _=>k-2) (fun _=>C3) 174 (0,0) (fun _=>(vu (wN X (k-2)))) (fun _=>by kernel_rfl) Tryz.isAgg55 (fun _=>(by rw [hC3];exact lM (by omega) (by omega))))<|cC (f:=187) (args:=fun ρ=> #[vu (wN X (k-2)),vi 17]) (v:=fun ρ=>(vu (aH (wN X (k-2)) 17))) (fun _ w=>(fun w=>kE (wN X (k-2)) 17 (iF _ _) (by decide) w) w)<|cR [[]]<|jU (fun ρ=>(((k:Nat):Int)-2)) (fun _=>(((k:Nat):Int)-2)) (fun _=>(gZ (by omega)))<|cX (jS (fun _=>Instr.indexAt 174 (pt (nb ρ2 0)) (vi (((k:Nat):Int)-2))) (fun _=>(jp (nb ρ2 0) (k-2))) (fun _ w=>aX (n:=((k:Nat):Int)-2) (i:=k-2) Tryz.underlying174 Tryz.sizeOf55 (by omega) w))<|cX (kG _ 1 55 (fun _=>nb ρ2 0) (fun _=>k-2) (fun _=>C3) 174 (0,0) (fun _=>(vu (wN X (k-2)))) (fun _=>by kernel_rfl) Tryz.isAgg55 (fun _=>(by rw [hC3];exact lM (by omega) (by omega))))<|cC (f:=187) (args:=fun ρ=> #[vu (wN X (k-2)),vi 19]) (v:=fun ρ=>(vu (aH (wN X (k-2)) 19))) (fun _ w=>(fun w=>kE (wN X (k-2)) 19 (iF _ _) (by decide) w) w)<|cA (v:=fun ρ=>(.int .u32 (bits .xor .u32 ((aH (wN X (k-2)) 17:Nat):Int) ((aH (wN X (k-2)) 19:Nat):Int)))) (fun _=>(vu ((aH (wN X (k-2)) 17)^^^(aH (wN X (k-2)) 19)))) (fun _=>jN (lH (dE _ (iF _ _)) (dE _ (iF _ _))))<|cR [[]]<|jU (fun ρ=>(((k:Nat):Int)-2)) (fun _=>(((k:Nat):Int)-2)) (fun _=>(gZ (by omega)))<|cX (jS (fun _=>Instr.indexAt 174 (pt (nb ρ2 0)) (vi (((k:Nat):Int)-2))) (fun _=>(jp (nb ρ2 0) (k-2))) (fun _ w=>aX (n:=((k:Nat):Int)-2) (i:=k-2) Tryz.underlying174 Tryz.sizeOf55 (by omega) w))<|cX (kG _ 1 55 (fun _=>nb ρ2 0) (fun _=>k-2) (fun _=>C3) 174 (0,0) (fun _=>(vu (wN X (k-2)))) (fun _=>by kernel_rfl) Tryz.isAgg55 (fun _=>(by rw [hC3];exact lM (by omega) (by omega))))<|cB (a:=fun ρ=>(vu (wN X (k-2)))) (b:=fun ρ=>(.int .u64 10)) (v:=fun ρ=>(vu ((wN X (k-2)) / 2^10))) .shr 55 (fun _ w=>gG (k:=.u32) (x:=(wN X (k-2))) (c:=10) (iF _ _) w)<|cA (v:=fun ρ=>(.int .u32 (bits .xor .u32 (((aH (wN X (k-2)) 17)^^^(aH (wN X (k-2)) 19):Nat):Int) (((wN X (k-2)) / 2^10:Nat):Int)))) (fun _=>(vu (((aH (wN X (k-2)) 17)^^^(aH (wN X (k-2)) 19))^^^((wN X (k-2)) / 2^10)))) (fun _=>jN (lH (lU (dE _ (iF _ _)) (dE _ (iF _ _))) (rV _ (iF _ _))))<|jE [[]]) (fun _=>?_)
  refine rD Tryz.f185 [0,0,2,6,14,0,62,0,128,384,896,2046,0,8190,16383,32767] 16 [2,3,5] [] (fun _=>[vn k,vn k,vi (((k:Nat):Int)-16),jp (nb ρ2 0) (k-16),vu (wN X (k-16)),vu (((aH (wN X (k-15)) 7)^^^(aH (wN X (k-15)) 18))^^^((wN X (k-15)) / 2^3)),vu (add32 (wN X (k-16)) (((aH (wN X (k-15)) 7)^^^(aH (wN X (k-15)) 18))^^^((wN X (k-15)) / 2^3))),vn k,vi (((k:Nat):Int)-7),jp (nb ρ2 0) (k-7),vu (wN X (k-7)),vu (add32 (add32 (wN X (k-16)) (((aH (wN X (k-15)) 7)^^^(aH (wN X (k-15)) 18))^^^((wN X (k-15)) / 2^3))) (wN X (k-7))),vu (((aH (wN X (k-2)) 17)^^^(aH (wN X (k-2)) 19))^^^((wN X (k-2)) / 2^10)),vu (add32 (add32 (add32 (wN X (k-16)) (((aH (wN X (k-15)) 7)^^^(aH (wN X (k-15)) 18))^^^((wN X (k-15)) / 2^3))) (wN X (k-7))) (((aH (wN X (k-2)) 17)^^^(aH (wN X (k-2)) 19))^^^((wN X (k-2)) / 2^10))),jp (nb ρ2 0) k,undef]) (fun _=>[(15,(bD 1 (nb ρ2 0) (cL (C3.setIfInBounds k (vu (add32 (add32 (add32 (wN X (k-16)) (((aH (wN X (k-15)) 7)^^^(aH (wN X (k-15)) 18))^^^((wN X (k-15)) / 2^3))) (wN X (k-7))) (((aH (wN X (k-2)) 17)^^^(aH (wN X (k-2)) 19))^^^((wN X (k-2)) / 2^10))))) 174)))]) (cR [[],[]]<|jU (fun ρ=>(((k:Nat):Int)-16)) (fun _=>(((k:Nat):Int)-16)) (fun _=>(gZ (by omega)))<|cX (jS (fun _=>Instr.indexAt 174 (pt (nb ρ2 0)) (vi (((k:Nat):Int)-16))) (fun _=>(jp (nb ρ2 0) (k-16))) (fun _ w=>aX (n:=((k:Nat):Int)-16) (i:=k-16) Tryz.underlying174 Tryz.sizeOf55 (by omega) w))<|cX (kG _ 1 55 (fun _=>nb ρ2 0) (fun _=>k-16) (fun _=>C3) 174 (0,0) (fun _=>(vu (wN X (k-16)))) (fun _=>by kernel_rfl) Tryz.isAgg55 (fun _=>(by rw [hC3];exact lM (by omega) (by omega))))<|cR [[]]<|cA (fun _=>(vu (add32 (wN X (k-16)) (((aH (wN X (k-15)) 7)^^^(aH (wN X (k-15)) 18))^^^((wN X (k-15)) / 2^3))))) (fun _=>jN (bP (wN X (k-16)) (((aH (wN X (k-15)) 7)^^^(aH (wN X (k-15)) 18))^^^((wN X (k-15)) / 2^3))))<|cR [[]]<|jU (fun ρ=>(((k:Nat):Int)-7)) (fun _=>(((k:Nat):Int)-7)) (fun _=>(gZ (by omega)))<|cX (jS (fun _=>Instr.indexAt 174 (pt (nb ρ2 0)) (vi (((k:Nat):Int)-7))) (fun _=>(jp (nb ρ2 0) (k-7))) (fun _ w=>aX (n:=((k:Nat):Int)-7) (i:=k-7) Tryz.underlying174 Tryz.sizeOf55 (by omega) w))<|cX (kG _ 1 55 (fun _=>nb ρ2 0) (fun _=>k-7) (fun _=>C3) 174 (0,0) (fun _=>(vu (wN X (k-7)))) (fun _=>by kernel_rfl) Tryz.isAgg55 (fun _=>(by rw [hC3];exact lM (by omega) (by omega))))<|cA (fun _=>(vu (add32 (add32 (wN X (k-16)) (((aH (wN X (k-15)) 7)^^^(aH (wN X (k-15)) 18))^^^((wN X (k-15)) / 2^3))) (wN X (k-7))))) (fun _=>jN (bP (add32 (wN X (k-16)) (((aH (wN X (k-15)) 7)^^^(aH (wN X (k-15)) 18))^^^((wN X (k-15)) / 2^3))) (wN X (k-7))))<|cR [[]]<|cA (fun _=>(vu (add32 (add32 (add32 (wN X (k-16)) (((aH (wN X (k-15)) 7)^^^(aH (wN X (k-15)) 18))^^^((wN X (k-15)) / 2^3))) (wN X (k-7))) (((aH (wN X (k-2)) 17)^^^(aH (wN X (k-2)) 19))^^^((wN X (k-2)) / 2^10))))) (fun _=>jN (bP (add32 (add32 (wN X (k-16)) (((aH (wN X (k-15)) 7)^^^(aH (wN X (k-15)) 18))^^^((wN X (k-15)) / 2^3))) (wN X (k-7))) (((aH (wN X (k-2)) 17)^^^(aH (wN X (k-2)) 19))^^^((wN X (k-2)) / 2^10))))<|cX (jS (fun _=>Instr.indexAt 174 (pt (nb ρ2 0)) (vn k)) (fun _=>(jp (nb ρ2 0) k)) (fun _ w=>aX (n:=((k:Nat):Int)) (i:=k) Tryz.underlying174 Tryz.sizeOf55 (by omega) w))<|cX (qG _ 1 55 (fun _=>nb ρ2 0) (fun _=>k) (fun _=>C3) (fun _=>(C3.setIfInBounds k (vu (add32 (add32 (add32 (wN X (k-16)) (((aH (wN X (k-15)) 7)^^^(aH (wN X (k-15)) 18))^^^((wN X (k-15)) / 2^3))) (wN X (k-7))) (((aH (wN X (k-2)) 17)^^^(aH (wN X (k-2)) 19))^^^((wN X (k-2)) / 2^10)))))) 174 (fun _=>(vu (add32 (add32 (add32 (wN X (k-16)) (((aH (wN X (k-15)) 7)^^^(aH (wN X (k-15)) 18))^^^((wN X (k-15)) / 2^3))) (wN X (k-7))) (((aH (wN X (k-2)) 17)^^^(aH (wN X (k-2)) 19))^^^((wN X (k-2)) / 2^10))))) (fun _=>by kernel_rfl) Tryz.sizeOf55 (fun _=>rfl) (fun _=>(by rw [hC3,eH];omega)) (fun _=>rfl))<|cN) (fun _=>?_)
  refine aJ (aA ?_)
  refine rS Tryz.f185 3 [2,3,5] [] (fun _=>[vn k,vn (k+1),vn (k+1)]) (fun _=>[]) (cR [[]]<|jW (fun ρ=>(((k:Nat):Int)+1)) (fun _=>(k+1)) (fun _=>(aW k 1 (by omega)))<|jE [[]]) (fun _=>?_)
  exact mN (k+1,C3.setIfInBounds k (vu (add32 (add32 (add32 (wN X (k-16)) (((aH (wN X (k-15)) 7)^^^(aH (wN X (k-15)) 18))^^^((wN X (k-15)) / 2^3))) (wN X (k-7))) (((aH (wN X (k-2)) 17)^^^(aH (wN X (k-2)) 19))^^^((wN X (k-2)) / 2^10))))) (by show 64-(k+1)<64-k;omega) (⟨(by omega),by rw [hC3];exact tc_set (wN_more hk.1).symm⟩) []
 rw [hb2]
 refine bF (aN (aN (aT ?_)))
 rw [hC3]
 refine aA ?_
 refine sS Tryz.f185 2 [2] [1,0] (fun _=>[.agg (bY .u32 64 (tc X k)),undef]) (fun _=>[(1,(bD 0 (nb ρ1 1) (cL (bY .u32 64 (tc X k)) 174)))]) (jE [[1],[0]]) (fun _=>?_)
 refine aF ?_
 exact mR (v:=(.agg (bY .u32 64 (tc X k)))) (fun _ hS=>⟨congrArg Ending.returned (congrArg Value.agg (tc_end (by have:=yF hb2;omega))),hS.bel⟩)
theorem rconst_any  (w0:World):Calls Tryz.prog 186 #[] w0 (jR (.agg (bY .u32 64 kN)) w0):=by
 refine Calls.of_ok (n:=2) (F:=(fun _=>True)) Tryz.func186 rfl rfl rfl (by simp) jT ?_
 refine sS Tryz.f186 1 [0] [] (fun ρ=>[pt (nb ρ 0)]) (fun ρ=>[(0,(nw ρ 0 (cL (bY .u32 64 (fun _=>0)) 174)))]) (jE [[]]) (fun ρ1=>?_)
 refine sS Tryz.f186 2 [0] [] (fun _=>[.agg #[.int .u32 1116352408,.int .u32 1899447441,.int .u32 3049323471,.int .u32 3921009573,.int .u32 961987163,.int .u32 1508970993,.int .u32 2453635748,.int .u32 2870763221,.int .u32 3624381080,.int .u32 310598401,.int .u32 607225278,.int .u32 1426881987,.int .u32 1925078388,.int .u32 2162078206,.int .u32 2614888103,.int .u32 3248222580,.int .u32 3835390401,.int .u32 4022224774,.int .u32 264347078,.int .u32 604807628,.int .u32 770255983,.int .u32 1249150122,.int .u32 1555081692,.int .u32 1996064986,.int .u32 2554220882,.int .u32 2821834349,.int .u32 2952996808,.int .u32 3210313671,.int .u32 3336571891,.int .u32 3584528711,.int .u32 113926993,.int .u32 338241895,.int .u32 666307205,.int .u32 773529912,.int .u32 1294757372,.int .u32 1396182291,.int .u32 1695183700,.int .u32 1986661051,.int .u32 2177026350,.int .u32 2456956037,.int .u32 2730485921,.int .u32 2820302411,.int .u32 3259730800,.int .u32 3345764771,.int .u32 3516065817,.int .u32 3600352804,.int .u32 4094571909,.int .u32 275423344,.int .u32 430227734,.int .u32 506948616,.int .u32 659060556,.int .u32 883997877,.int .u32 958139571,.int .u32 1322822218,.int .u32 1537002063,.int .u32 1747873779,.int .u32 1955562222,.int .u32 2024104815,.int .u32 2227730452,.int .u32 2361852424,.int .u32 2428436474,.int .u32 2756734187,.int .u32 3204031479,.int .u32 3329325298],undef]) (fun _=>[(1,(bD 0 (nb ρ1 0) (cL #[.int .u32 1116352408,.int .u32 1899447441,.int .u32 3049323471,.int .u32 3921009573,.int .u32 961987163,.int .u32 1508970993,.int .u32 2453635748,.int .u32 2870763221,.int .u32 3624381080,.int .u32 310598401,.int .u32 607225278,.int .u32 1426881987,.int .u32 1925078388,.int .u32 2162078206,.int .u32 2614888103,.int .u32 3248222580,.int .u32 3835390401,.int .u32 4022224774,.int .u32 264347078,.int .u32 604807628,.int .u32 770255983,.int .u32 1249150122,.int .u32 1555081692,.int .u32 1996064986,.int .u32 2554220882,.int .u32 2821834349,.int .u32 2952996808,.int .u32 3210313671,.int .u32 3336571891,.int .u32 3584528711,.int .u32 113926993,.int .u32 338241895,.int .u32 666307205,.int .u32 773529912,.int .u32 1294757372,.int .u32 1396182291,.int .u32 1695183700,.int .u32 1986661051,.int .u32 2177026350,.int .u32 2456956037,.int .u32 2730485921,.int .u32 2820302411,.int .u32 3259730800,.int .u32 3345764771,.int .u32 3516065817,.int .u32 3600352804,.int .u32 4094571909,.int .u32 275423344,.int .u32 430227734,.int .u32 506948616,.int .u32 659060556,.int .u32 883997877,.int .u32 958139571,.int .u32 1322822218,.int .u32 1537002063,.int .u32 1747873779,.int .u32 1955562222,.int .u32 2024104815,.int .u32 2227730452,.int .u32 2361852424,.int .u32 2428436474,.int .u32 2756734187,.int .u32 3204031479,.int .u32 3329325298] 174)))]) (jE [[],[0]]) (fun _=>?_)
 refine aF ?_
 exact mR (v:=(.agg #[.int .u32 1116352408,.int .u32 1899447441,.int .u32 3049323471,.int .u32 3921009573,.int .u32 961987163,.int .u32 1508970993,.int .u32 2453635748,.int .u32 2870763221,.int .u32 3624381080,.int .u32 310598401,.int .u32 607225278,.int .u32 1426881987,.int .u32 1925078388,.int .u32 2162078206,.int .u32 2614888103,.int .u32 3248222580,.int .u32 3835390401,.int .u32 4022224774,.int .u32 264347078,.int .u32 604807628,.int .u32 770255983,.int .u32 1249150122,.int .u32 1555081692,.int .u32 1996064986,.int .u32 2554220882,.int .u32 2821834349,.int .u32 2952996808,.int .u32 3210313671,.int .u32 3336571891,.int .u32 3584528711,.int .u32 113926993,.int .u32 338241895,.int .u32 666307205,.int .u32 773529912,.int .u32 1294757372,.int .u32 1396182291,.int .u32 1695183700,.int .u32 1986661051,.int .u32 2177026350,.int .u32 2456956037,.int .u32 2730485921,.int .u32 2820302411,.int .u32 3259730800,.int .u32 3345764771,.int .u32 3516065817,.int .u32 3600352804,.int .u32 4094571909,.int .u32 275423344,.int .u32 430227734,.int .u32 506948616,.int .u32 659060556,.int .u32 883997877,.int .u32 958139571,.int .u32 1322822218,.int .u32 1537002063,.int .u32 1747873779,.int .u32 1955562222,.int .u32 2024104815,.int .u32 2227730452,.int .u32 2361852424,.int .u32 2428436474,.int .u32 2756734187,.int .u32 3204031479,.int .u32 3329325298])) (fun _ hS=>⟨by kernel_rfl,hS.bel⟩)
theorem rcompress_any (s0:Nat) (s1:Nat) (s2:Nat) (s3:Nat) (s4:Nat) (s5:Nat) (s6:Nat) (s7:Nat) (X:List UInt8) (hs:ok8 (s0,s1,s2,s3,s4,s5,s6,s7)) (hX:X.length=64) (w0:World):Calls Tryz.prog 167 #[.agg #[vu s0,vu s1,vu s2,vu s3,vu s4,vu s5,vu s6,vu s7],.agg (bs X).toArray] w0 (jR (.agg #[vu ((eF (s0,s1,s2,s3,s4,s5,s6,s7) X).1),vu ((eF (s0,s1,s2,s3,s4,s5,s6,s7) X).2.1),vu ((eF (s0,s1,s2,s3,s4,s5,s6,s7) X).2.2.1),vu ((eF (s0,s1,s2,s3,s4,s5,s6,s7) X).2.2.2.1),vu ((eF (s0,s1,s2,s3,s4,s5,s6,s7) X).2.2.2.2.1),vu ((eF (s0,s1,s2,s3,s4,s5,s6,s7) X).2.2.2.2.2.1),vu ((eF (s0,s1,s2,s3,s4,s5,s6,s7) X).2.2.2.2.2.2.1),vu ((eF (s0,s1,s2,s3,s4,s5,s6,s7) X).2.2.2.2.2.2.2)]) w0):=by
 refine Calls.of_ok (n:=133) (F:=(fun _=>True)) Tryz.func167 rfl rfl rfl (by simp) jT ?_
 refine sS Tryz.f167 3 [2,3,4] [] (fun ρ=>[pt (nb ρ 0),pt (nb ρ 1),pt (nb ρ 2)]) (fun ρ=>[(0,(nw ρ 0 (cL #[vu s0,vu s1,vu s2,vu s3,vu s4,vu s5,vu s6,vu s7] 163))),(1,(nw ρ 1 (cL (bs X).toArray 165))),(2,(nw ρ 2 (cL #[.int .u32 0,.int .u32 0,.int .u32 0,.int .u32 0,.int .u32 0,.int .u32 0,.int .u32 0,.int .u32 0] 163)))]) (jE [[],[],[]]) (fun ρ1=>?_)
 refine sS Tryz.f167 7 [2,4,5,6] [1,0,1,1,1] (fun ρ=>[.agg (bs X).toArray,.agg (bY .u32 64 (wN X)),.agg (bY .u32 64 kN),pt (nb ρ 3),pt (nb ρ 4),undef,undef]) (fun ρ=>[(3,(nw ρ 3 (cL (bY .u32 64 (fun _=>0)) 174))),(4,(nw ρ 4 (cL (bY .u32 64 (fun _=>0)) 174))),(5,(bD 27 (nb ρ 3) (cL (bY .u32 64 (wN X)) 174))),(6,(bD 35 (nb ρ 4) (cL (bY .u32 64 kN) 174)))]) (cX (qF (fun _ _ _ hG=>vS Tryz.isAgg165 Tryz.sizeOf165 (hG.kn (g:=nb ρ1 1) (o:=(cL (bs X).toArray 165)) 1) (by simp [bs,hX])))<|cC (fun _ w=>rsched_any X hX w)<|cC (fun _ w=>rconst_any w)<|jE [[],[],[27],[35]]) (fun ρ2=>?_)
 refine sD Tryz.f167 [0,1,0,4,0,16,0,64,0,256,0,1024,0,4096,0,16384,3,65551,196671,459007,984063,2035711,4145151,8388607] 24 [2,4,5,6,7,8,9,10,11,12,13,14] [] (fun _=>[pt (nb ρ1 0),vu s0,jp (nb ρ1 0) 1,vu s1,jp (nb ρ1 0) 2,vu s2,jp (nb ρ1 0) 3,vu s3,jp (nb ρ1 0) 4,vu s4,jp (nb ρ1 0) 5,vu s5,jp (nb ρ1 0) 6,vu s6,jp (nb ρ1 0) 7,vu s7,vu s0,vu s1,vu s2,vu s3,vu s4,vu s5,vu s6,vu s7]) (fun _=>[]) (jE [[],[0],[],[0],[],[0],[],[0],[],[0],[],[0],[],[0],[],[0],[],[],[],[],[],[],[],[]]) (fun _=>?_)
 refine aB (jJ Tryz.f167 1 [2,4,5,6,7,8,9,10,11,12,13,14,15] [vi 0] (aI ?_))
 refine oL (σ:=Nat × Nat × Nat × Nat × Nat × Nat × Nat × Nat × Nat) (fun ⟨i,ra,rb,rc,rd,re,rf,rg,rh⟩=>[(2,(pt (nb ρ1 0))),(4,(pt (nb ρ1 2))),(5,(pt (nb ρ2 3))),(6,(pt (nb ρ2 4))),(7,(vu ra)),(8,(vu rb)),(9,(vu rc)),(10,(vu rd)),(11,(vu re)),(12,(vu rf)),(13,(vu rg)),(14,(vu rh)),(15,(vn i))]) (fun ⟨_,_,_,_,_,_,_,_,_⟩=>[(nb ρ1 0,(cL #[vu s0,vu s1,vu s2,vu s3,vu s4,vu s5,vu s6,vu s7] 163)),(nb ρ1 2,(cL #[.int .u32 0,.int .u32 0,.int .u32 0,.int .u32 0,.int .u32 0,.int .u32 0,.int .u32 0,.int .u32 0] 163)),(nb ρ2 3,(cL (bY .u32 64 (wN X)) 174)),(nb ρ2 4,(cL (bY .u32 64 kN) 174))]) (fun ⟨i,_,_,_,_,_,_,_,_⟩=>64-i)
   (fun ⟨i,ra,rb,rc,rd,re,rf,rg,rh⟩=>(i≤64)∧(rnds X (s0,s1,s2,s3,s4,s5,s6,s7) i=(ra,rb,rc,rd,re,rf,rg,rh))) (0,s0,s1,s2,s3,s4,s5,s6,s7) (⟨by decide,rfl⟩) [] ?_
 rintro ⟨i,ra,rb,rc,rd,re,rf,rg,rh⟩ ⟨hi,hr⟩
 change Ok Tryz.prog _ _ 133 [(2,(pt (nb ρ1 0))),(4,(pt (nb ρ1 2))),(5,(pt (nb ρ2 3))),(6,(pt (nb ρ2 4))),(7,(vu ra)),(8,(vu rb)),(9,(vu rc)),(10,(vu rd)),(11,(vu re)),(12,(vu rf)),(13,(vu rg)),(14,(vu rh)),(15,(vn i))] _ [(nb ρ1 0,(cL #[vu s0,vu s1,vu s2,vu s3,vu s4,vu s5,vu s6,vu s7] 163)),(nb ρ1 2,(cL #[.int .u32 0,.int .u32 0,.int .u32 0,.int .u32 0,.int .u32 0,.int .u32 0,.int .u32 0,.int .u32 0] 163)),(nb ρ2 3,(cL (bY .u32 64 (wN X)) 174)),(nb ρ2 4,(cL (bY .u32 64 kN) 174))] (fun _=>True)
 have ho:ok8 (ra,rb,rc,rd,re,rf,rg,rh):=hr ▸ rnds_ok hs i
 refine aB (jJ Tryz.f167 2 [2,4,5,6,7,8,9,10,11,12,13,14,15,38] [vn i,.bool (decide (((i:Nat):Int)<64))] ?_)
 refine oC (decide (((i:Nat):Int)<64)) (fun hb1=>?_) (fun hb1=>?_)
 ·
  rw [hb1]
  have:=yT hb1
  refine aG (aA (aB (aI ?_)))
  refine sD Tryz.f167 [0,0,2,0,14,30,0,94,254,511,0,0,3072,0,8192,0,57344,130048,262143,0,524288,1572864,4194303,0,8388608,25165824,67108863,134217727] 28 [2,4,5,6,7,8,9,10,11,12,13,14,15,16] [] (fun _=>let qa:=vu (add32 (add32 (add32 (add32 rh (((aH re 6)^^^(aH re 11))^^^(aH re 25))) ((re&&&rf)^^^((dW re)&&&rg))) (kN i)) (wN X i));[vu rh,vu re,vu (aH re 6),vu re,vu (aH re 11),vu ((aH re 6)^^^(aH re 11)),vu re,vu (aH re 25),vu (((aH re 6)^^^(aH re 11))^^^(aH re 25)),vu (add32 rh (((aH re 6)^^^(aH re 11))^^^(aH re 25))),vu re,vu rf,vu (re&&&rf),vu re,vu (dW re),vu rg,vu ((dW re)&&&rg),vu ((re&&&rf)^^^((dW re)&&&rg)),vu (add32 (add32 rh (((aH re 6)^^^(aH re 11))^^^(aH re 25))) ((re&&&rf)^^^((dW re)&&&rg))),vn i,jp (nb ρ2 4) i,vu (kN i),vu (add32 (add32 (add32 rh (((aH re 6)^^^(aH re 11))^^^(aH re 25))) ((re&&&rf)^^^((dW re)&&&rg))) (kN i)),vn i,jp (nb ρ2 3) i,vu (wN X i),qa,qa]) (fun _=>[]) (cR [[],[]]<|cC (fun _ w=>kE re 6 ho.2.2.2.2.1 (by decide) w)<|cR [[]]<|cC (fun _ w=>kE re 11 ho.2.2.2.2.1 (by decide) w)<|cA (v:=fun ρ=>(.int .u32 (bits .xor .u32 ((aH re 6:Nat):Int) ((aH re 11:Nat):Int)))) (fun _=>(vu ((aH re 6)^^^(aH re 11)))) (fun _=>jN (lH (dE _ ho.2.2.2.2.1) (dE _ ho.2.2.2.2.1)))<|cR [[]]<|cC (fun _ w=>kE re 25 ho.2.2.2.2.1 (by decide) w)<|cA (v:=fun ρ=>(.int .u32 (bits .xor .u32 (((aH re 6)^^^(aH re 11):Nat):Int) ((aH re 25:Nat):Int)))) (fun _=>(vu (((aH re 6)^^^(aH re 11))^^^(aH re 25)))) (fun _=>jN (lH (lU (dE _ ho.2.2.2.2.1) (dE _ ho.2.2.2.2.1)) (dE _ ho.2.2.2.2.1)))<|cA (fun _=>(vu (add32 rh (((aH re 6)^^^(aH re 11))^^^(aH re 25))))) (fun _=>jN (bP rh (((aH re 6)^^^(aH re 11))^^^(aH re 25))))<|cR [[],[]]<|cA (fun _=>(vu (re&&&rf))) (fun _=>jN (xR ho.2.2.2.2.1 ho.2.2.2.2.2.1))<|cR [[]]<|cA (fun _=>(vu (dW re))) (fun _=>jN (not_xor32 ho.2.2.2.2.1))<|cR [[]]<|cA (v:=fun ρ=>(.int .u32 (bits .and .u32 ((dW re:Nat):Int) ((rg:Nat):Int)))) (fun _=>(vu ((dW re)&&&rg))) (fun _=>jN (xR (y9 _) ho.2.2.2.2.2.2.1))<|cA (v:=fun ρ=>(.int .u32 (bits .xor .u32 ((re&&&rf:Nat):Int) (((dW re)&&&rg:Nat):Int)))) (fun _=>(vu ((re&&&rf)^^^((dW re)&&&rg)))) (fun _=>jN (lH (iR _ ho.2.2.2.2.1) (iR _ (y9 _))))<|cA (fun _=>(vu (add32 (add32 rh (((aH re 6)^^^(aH re 11))^^^(aH re 25))) ((re&&&rf)^^^((dW re)&&&rg))))) (fun _=>jN (bP (add32 rh (((aH re 6)^^^(aH re 11))^^^(aH re 25))) ((re&&&rf)^^^((dW re)&&&rg))))<|cR [[]]<|cX (jS (fun _=>Instr.indexAt 174 (pt (nb ρ2 4)) (vn i)) (fun _=>(jp (nb ρ2 4) i)) (fun _ w=>aX (n:=((i:Nat):Int)) (i:=i) Tryz.underlying174 Tryz.sizeOf55 (by omega) w))<|cX (kG _ 3 55 (fun _=>nb ρ2 4) (fun _=>i) (fun _=>(bY .u32 64 kN)) 174 (0,0) (fun _=>(vu (kN i))) (fun _=>by kernel_rfl) Tryz.isAgg55 (fun _=>(kC_get (by omega))))<|cA (fun _=>(vu (add32 (add32 (add32 rh (((aH re 6)^^^(aH re 11))^^^(aH re 25))) ((re&&&rf)^^^((dW re)&&&rg))) (kN i)))) (fun _=>jN (bP (add32 (add32 rh (((aH re 6)^^^(aH re 11))^^^(aH re 25))) ((re&&&rf)^^^((dW re)&&&rg))) (kN i)))<|cR [[]]<|cX (jS (fun _=>Instr.indexAt 174 (pt (nb ρ2 3)) (vn i)) (fun _=>(jp (nb ρ2 3) i)) (fun _ w=>aX (n:=((i:Nat):Int)) (i:=i) Tryz.underlying174 Tryz.sizeOf55 (by omega) w))<|cX (kG _ 2 55 (fun _=>nb ρ2 3) (fun _=>i) (fun _=>(bY .u32 64 (wN X))) 174 (0,0) (fun _=>(vu (wN X i))) (fun _=>by kernel_rfl) Tryz.isAgg55 (fun _=>(nG (by omega))))<|cA (fun _=>(vu (add32 (add32 (add32 (add32 rh (((aH re 6)^^^(aH re 11))^^^(aH re 25))) ((re&&&rf)^^^((dW re)&&&rg))) (kN i)) (wN X i)))) (fun _=>jN (bP (add32 (add32 (add32 rh (((aH re 6)^^^(aH re 11))^^^(aH re 25))) ((re&&&rf)^^^((dW re)&&&rg))) (kN i)) (wN X i)))<|jE [[]]) (fun _=>?_)
  refine sS Tryz.f167 21 [2,4,5,6,7,8,9,10,11,12,13,14,15,16,17] [] (fun _=>let qa:=vu (add32 (((aH ra 2)^^^(aH ra 13))^^^(aH ra 22)) (((ra&&&rb)^^^(ra&&&rc))^^^(rb&&&rc)));[vu ra,vu (aH ra 2),vu ra,vu (aH ra 13),vu ((aH ra 2)^^^(aH ra 13)),vu ra,vu (aH ra 22),vu (((aH ra 2)^^^(aH ra 13))^^^(aH ra 22)),vu ra,vu rb,vu (ra&&&rb),vu ra,vu rc,vu (ra&&&rc),vu ((ra&&&rb)^^^(ra&&&rc)),vu rb,vu rc,vu (rb&&&rc),vu (((ra&&&rb)^^^(ra&&&rc))^^^(rb&&&rc)),qa,qa]) (fun _=>[]) (cR [[]]<|cC (fun _ w=>kE ra 2 ho.1 (by decide) w)<|cR [[]]<|cC (fun _ w=>kE ra 13 ho.1 (by decide) w)<|cA (v:=fun ρ=>(.int .u32 (bits .xor .u32 ((aH ra 2:Nat):Int) ((aH ra 13:Nat):Int)))) (fun _=>(vu ((aH ra 2)^^^(aH ra 13)))) (fun _=>jN (lH (dE _ ho.1) (dE _ ho.1)))<|cR [[]]<|cC (fun _ w=>kE ra 22 ho.1 (by decide) w)<|cA (v:=fun ρ=>(.int .u32 (bits .xor .u32 (((aH ra 2)^^^(aH ra 13):Nat):Int) ((aH ra 22:Nat):Int)))) (fun _=>(vu (((aH ra 2)^^^(aH ra 13))^^^(aH ra 22)))) (fun _=>jN (lH (lU (dE _ ho.1) (dE _ ho.1)) (dE _ ho.1)))<|cR [[],[]]<|cA (fun _=>(vu (ra&&&rb))) (fun _=>jN (xR ho.1 ho.2.1))<|cR [[],[]]<|cA (fun _=>(vu (ra&&&rc))) (fun _=>jN (xR ho.1 ho.2.2.1))<|cA (v:=fun ρ=>(.int .u32 (bits .xor .u32 ((ra&&&rb:Nat):Int) ((ra&&&rc:Nat):Int)))) (fun _=>(vu ((ra&&&rb)^^^(ra&&&rc)))) (fun _=>jN (lH (iR _ ho.1) (iR _ ho.1)))<|cR [[],[]]<|cA (fun _=>(vu (rb&&&rc))) (fun _=>jN (xR ho.2.1 ho.2.2.1))<|cA (v:=fun ρ=>(.int .u32 (bits .xor .u32 (((ra&&&rb)^^^(ra&&&rc):Nat):Int) ((rb&&&rc:Nat):Int)))) (fun _=>(vu (((ra&&&rb)^^^(ra&&&rc))^^^(rb&&&rc)))) (fun _=>jN (lH (lU (iR _ ho.1) (iR _ ho.1)) (iR _ ho.2.1)))<|cA (fun _=>(vu (add32 (((aH ra 2)^^^(aH ra 13))^^^(aH ra 22)) (((ra&&&rb)^^^(ra&&&rc))^^^(rb&&&rc))))) (fun _=>jN (bP (((aH ra 2)^^^(aH ra 13))^^^(aH ra 22)) (((ra&&&rb)^^^(ra&&&rc))^^^(rb&&&rc))))<|jE [[]]) (fun _=>?_)
  refine rS Tryz.f167 20 [2,4,5,6,7,8,9,10,11,12,13,14,15] [] (fun _=>let qa:=vu (add32 (add32 (add32 (add32 (add32 rh (((aH re 6)^^^(aH re 11))^^^(aH re 25))) ((re&&&rf)^^^((dW re)&&&rg))) (kN i)) (wN X i)) (add32 (((aH ra 2)^^^(aH ra 13))^^^(aH ra 22)) (((ra&&&rb)^^^(ra&&&rc))^^^(rb&&&rc))));let qb:=vu (add32 rd (add32 (add32 (add32 (add32 rh (((aH re 6)^^^(aH re 11))^^^(aH re 25))) ((re&&&rf)^^^((dW re)&&&rg))) (kN i)) (wN X i)));let qc:=vu (add32 (add32 (add32 (add32 rh (((aH re 6)^^^(aH re 11))^^^(aH re 25))) ((re&&&rf)^^^((dW re)&&&rg))) (kN i)) (wN X i));[vu rg,vu rf,vu re,vu rd,qc,qb,vu rc,vu rb,vu ra,qc,vu (add32 (((aH ra 2)^^^(aH ra 13))^^^(aH ra 22)) (((ra&&&rb)^^^(ra&&&rc))^^^(rb&&&rc))),qa,vu rg,vu rf,vu re,qb,vu rc,vu rb,vu ra,qa]) (fun _=>[]) (cR [[],[],[],[],[]]<|cA (fun _=>(vu (add32 rd (add32 (add32 (add32 (add32 rh (((aH re 6)^^^(aH re 11))^^^(aH re 25))) ((re&&&rf)^^^((dW re)&&&rg))) (kN i)) (wN X i))))) (fun _=>jN (bP rd (add32 (add32 (add32 (add32 rh (((aH re 6)^^^(aH re 11))^^^(aH re 25))) ((re&&&rf)^^^((dW re)&&&rg))) (kN i)) (wN X i))))<|cR [[],[],[],[],[]]<|cA (fun _=>(vu (add32 (add32 (add32 (add32 (add32 rh (((aH re 6)^^^(aH re 11))^^^(aH re 25))) ((re&&&rf)^^^((dW re)&&&rg))) (kN i)) (wN X i)) (add32 (((aH ra 2)^^^(aH ra 13))^^^(aH ra 22)) (((ra&&&rb)^^^(ra&&&rc))^^^(rb&&&rc)))))) (fun _=>jN (bP (add32 (add32 (add32 (add32 rh (((aH re 6)^^^(aH re 11))^^^(aH re 25))) ((re&&&rf)^^^((dW re)&&&rg))) (kN i)) (wN X i)) (add32 (((aH ra 2)^^^(aH ra 13))^^^(aH ra 22)) (((ra&&&rb)^^^(ra&&&rc))^^^(rb&&&rc)))))<|jE [[],[],[],[],[],[],[],[]]) (fun _=>?_)
  refine aJ (aA ?_)
  refine rS Tryz.f167 3 [2,4,5,6,7,8,9,10,11,12,13,14,15] [] (fun _=>[vn i,vn (i+1),vn (i+1)]) (fun _=>[]) (cR [[]]<|jW (fun ρ=>(((i:Nat):Int)+1)) (fun _=>(i+1)) (fun _=>(aW i 1 (by omega)))<|jE [[]]) (fun _=>?_)
  exact mN (i+1,add32 (add32 (add32 (add32 (add32 rh (((aH re 6)^^^(aH re 11))^^^(aH re 25))) ((re&&&rf)^^^((dW re)&&&rg))) (kN i)) (wN X i)) (add32 (((aH ra 2)^^^(aH ra 13))^^^(aH ra 22)) (((ra&&&rb)^^^(ra&&&rc))^^^(rb&&&rc))),ra,rb,rc,add32 rd (add32 (add32 (add32 (add32 rh (((aH re 6)^^^(aH re 11))^^^(aH re 25))) ((re&&&rf)^^^((dW re)&&&rg))) (kN i)) (wN X i)),re,rf,rg) (by show 64-(i+1)<64-i;omega) (⟨(by omega),rnds_next hr⟩) []
 rw [hb1]
 refine bF (aN (aN (aT (aA ?_))))
 refine sS Tryz.f167 34 [4] [0,1,0,0] (fun _=>[pt (nb ρ1 0),vu s0,vu ra,vu (add32 s0 ra),jp (nb ρ1 0) 1,vu s1,vu rb,vu (add32 s1 rb),jp (nb ρ1 0) 2,vu s2,vu rc,vu (add32 s2 rc),jp (nb ρ1 0) 3,vu s3,vu rd,vu (add32 s3 rd),jp (nb ρ1 0) 4,vu s4,vu re,vu (add32 s4 re),jp (nb ρ1 0) 5,vu s5,vu rf,vu (add32 s5 rf),jp (nb ρ1 0) 6,vu s6,vu rg,vu (add32 s6 rg),jp (nb ρ1 0) 7,vu s7,vu rh,vu (add32 s7 rh),.agg #[vu (add32 s0 ra),vu (add32 s1 rb),vu (add32 s2 rc),vu (add32 s3 rd),vu (add32 s4 re),vu (add32 s5 rf),vu (add32 s6 rg),vu (add32 s7 rh)],undef]) (fun _=>[(33,(bD 1 (nb ρ1 2) (cL #[vu (add32 s0 ra),vu (add32 s1 rb),vu (add32 s2 rc),vu (add32 s3 rd),vu (add32 s4 re),vu (add32 s5 rf),vu (add32 s6 rg),vu (add32 s7 rh)] 163)))]) (cR [[],[0],[]]<|cA (fun _=>(vu (add32 s0 ra))) (fun _=>jN (bP s0 ra))<|cR [[],[0],[]]<|cA (fun _=>(vu (add32 s1 rb))) (fun _=>jN (bP s1 rb))<|cR [[],[0],[]]<|cA (fun _=>(vu (add32 s2 rc))) (fun _=>jN (bP s2 rc))<|cR [[],[0],[]]<|cA (fun _=>(vu (add32 s3 rd))) (fun _=>jN (bP s3 rd))<|cR [[],[0],[]]<|cA (fun _=>(vu (add32 s4 re))) (fun _=>jN (bP s4 re))<|cR [[],[0],[]]<|cA (fun _=>(vu (add32 s5 rf))) (fun _=>jN (bP s5 rf))<|cR [[],[0],[]]<|cA (fun _=>(vu (add32 s6 rg))) (fun _=>jN (bP s6 rg))<|cR [[],[0],[]]<|cA (fun _=>(vu (add32 s7 rh))) (fun _=>jN (bP s7 rh))<|jE [[],[1]]) (fun _=>?_)
 refine aF ?_
 exact mR (v:=(.agg #[vu (add32 s0 ra),vu (add32 s1 rb),vu (add32 s2 rc),vu (add32 s3 rd),vu (add32 s4 re),vu (add32 s5 rf),vu (add32 s6 rg),vu (add32 s7 rh)])) (fun _ hS=>⟨congrArg Ending.returned (by rw [cmp_end hr (show i=64 by have:=yF hb1;omega)]),hS.bel⟩)
theorem rinitial_any  (w0:World):Calls Tryz.prog 166 #[] w0 (jR (.agg #[.int .u32 1779033703,.int .u32 3144134277,.int .u32 1013904242,.int .u32 2773480762,.int .u32 1359893119,.int .u32 2600822924,.int .u32 528734635,.int .u32 1541459225]) w0):=by
 refine Calls.of_ok (n:=2) (F:=(fun _=>True)) Tryz.func166 rfl rfl rfl (by simp) jT ?_
 refine sS Tryz.f166 1 [0] [] (fun ρ=>[pt (nb ρ 0)]) (fun ρ=>[(0,(nw ρ 0 (cL #[.int .u32 0,.int .u32 0,.int .u32 0,.int .u32 0,.int .u32 0,.int .u32 0,.int .u32 0,.int .u32 0] 163)))]) (jE [[]]) (fun ρ1=>?_)
 refine sS Tryz.f166 2 [0] [] (fun _=>[.agg #[.int .u32 1779033703,.int .u32 3144134277,.int .u32 1013904242,.int .u32 2773480762,.int .u32 1359893119,.int .u32 2600822924,.int .u32 528734635,.int .u32 1541459225],undef]) (fun _=>[(1,(bD 0 (nb ρ1 0) (cL #[.int .u32 1779033703,.int .u32 3144134277,.int .u32 1013904242,.int .u32 2773480762,.int .u32 1359893119,.int .u32 2600822924,.int .u32 528734635,.int .u32 1541459225] 163)))]) (jE [[],[0]]) (fun _=>?_)
 refine aF ?_
 exact mR (v:=(.agg #[.int .u32 1779033703,.int .u32 3144134277,.int .u32 1013904242,.int .u32 2773480762,.int .u32 1359893119,.int .u32 2600822924,.int .u32 528734635,.int .u32 1541459225])) (fun _ hS=>⟨rfl,hS.bel⟩)
theorem uY (a:Option Addr) (c:Nat) (B:List UInt8) (h0:0<B.length) (hl:B.length+73≤140737488351232) (w0:World) (hf0:Bs w0 a c B):Calls Tryz.prog 142 #[.slice a B.length c] w0 (jR (.agg (hB (aU B))) w0):=by
 refine Calls.of_ok (n:=66) (F:=(fun w=>Bs w a c B∧True)) Tryz.func142 rfl rfl rfl (by simp) (hf0.pers0.and cO) ?_
 refine sS Tryz.f142 1 [0,2] [] (fun ρ=>[pt (nb ρ 0)]) (fun ρ=>[(0,(nw ρ 0 (cL (hB 0) 57)))]) (jE [[]]) (fun ρ1=>?_)
 refine iZ Tryz.f142 8 [2,3] [] (fun ρ=>let qa:=vs (nb ρ 6) (B++(aY B.length)).length (aZ ρ 6);[.slice a B.length c,vs (nb ρ 1) B.length (B.length+aZ ρ 1),.slice a B.length c,vn B.length,vx B.length,.slice (oa ρ 5) (aY B.length).length (nb ρ 5),qa,qa]) (fun ρ=>[(1,(nw ρ 1 (cL ((bs B).toArray++zB (aZ ρ 1)) 5))),(6,(bD 9 (nb ρ 6) (cL (oc ρ 6) 5)))]) (fun ρ=>[(5,fun w=>Fs w0 w (oa ρ 5) (nb ρ 5) (aY B.length)),(6,fun w=>Ap (oc ρ 6) (B++(aY B.length)) (aZ ρ 6))]) (fun ρ=>(fun w=>Bs w a c B∧Fs w0 w (oa ρ 5) (nb ρ 5) (aY B.length)∧True)) (fun ρ=>Ap (oc ρ 6) (B++(aY B.length)) (aZ ρ 6)) (fun _ _ hF hf=>⟨⟨hF.1,hf 5,trivial⟩,hf 6⟩) (cR [[]]<|cX (qN (fun _ ζ=>(vs (ζ.headD 0) B.length (B.length+ζ.tail.headD 0))) (fun _ ζ=>(cL ((bs B).toArray++zB (ζ.tail.headD 0)) 5)) (fun _ _ _ hG=>oU (ty:=37) Tryz.underlying37 nH (Bs.src (tx:=37) Tryz.underlying37 hG.fn.1) h0 (by have:=bJ B;have:=aS B.length;omega)))<|cR [[],[]]<|cA (v:=fun ρ=>(.int .u64 (IntKind.u64.wrap ((B.length:Nat):Int)))) (fun _=>(vx B.length)) (fun _=>congrArg (Value.int .u64) (u64N (by have:=bJ B;have:=aS B.length;omega)))<|cX (qB (fun _ _ w _=>rpad_any B.length (by have:=bJ B;have:=aS B.length;omega) w))<|cX (qM 9 (fun ρ _ w hG hg=>app_any (ty:=37) (g:=nb ρ 1) (C:=((bs B).toArray++zB (aZ ρ 1))) (c:=B.length+aZ ρ 1) (xs:=B) Tryz.underlying37 nH (Ap.mk' (Hd.fresh _ _) (Nat.le_add_right _ _) (by have:=bJ B;have:=aS B.length;omega) (xAR _ _)) (Bs.src (tx:=37) Tryz.underlying37 (show Fs w0 w (oa ρ 5) (nb ρ 5) (aY B.length) from (hG.facts 5 rfl).now).1) (by have:=yG B.length;have:=aS B.length;omega) hg))<|jE [[]]) (fun ρ2 ap2_6=>?_)
 refine sS Tryz.f142 3 [2,3,4] [] (fun ρ=>[.agg #[.int .u32 1779033703,.int .u32 3144134277,.int .u32 1013904242,.int .u32 2773480762,.int .u32 1359893119,.int .u32 2600822924,.int .u32 528734635,.int .u32 1541459225],pt (nb ρ 1),undef]) (fun ρ=>[(1,(nw ρ 1 (cL #[.int .u32 0,.int .u32 0,.int .u32 0,.int .u32 0,.int .u32 0,.int .u32 0,.int .u32 0,.int .u32 0] 163))),(2,(bD 10 (nb ρ 1) (cL #[.int .u32 1779033703,.int .u32 3144134277,.int .u32 1013904242,.int .u32 2773480762,.int .u32 1359893119,.int .u32 2600822924,.int .u32 528734635,.int .u32 1541459225] 163)))]) (cC (fun _ w=>rinitial_any w)<|jE [[],[10]]) (fun ρ3=>?_)
 refine aB (jJ Tryz.f142 1 [2,3,4,5] [vi 0] (aI ?_))
 refine oL (σ:=Nat × Nat × Nat × Nat × Nat × Nat × Nat × Nat × Nat) (fun ⟨i,_,_,_,_,_,_,_,_⟩=>[(2,(pt (nb ρ1 0))),(3,(vs (nb ρ2 6) (B++(aY B.length)).length (aZ ρ2 6))),(4,(pt (nb ρ3 1))),(5,(vn (64*i)))]) (fun ⟨_,t0,t1,t2,t3,t4,t5,t6,t7⟩=>[(nb ρ1 0,(cL (hB 0) 57)),(nb ρ2 6,(cL (oc ρ2 6) 5)),(nb ρ3 1,(cL #[vu t0,vu t1,vu t2,vu t3,vu t4,vu t5,vu t6,vu t7] 163))]) (fun ⟨i,_,_,_,_,_,_,_,_⟩=>(B++(aY B.length)).length / 64-i)
   (fun ⟨i,t0,t1,t2,t3,t4,t5,t6,t7⟩=>(i≤(B++(aY B.length)).length / 64)∧(shaS (B++(aY B.length)) i=(t0,t1,t2,t3,t4,t5,t6,t7))) (0,1779033703,3144134277,1013904242,2773480762,1359893119,2600822924,528734635,1541459225) (⟨Nat.zero_le _,rfl⟩) [] ?_
 rintro ⟨i,t0,t1,t2,t3,t4,t5,t6,t7⟩ ⟨hi,hQ⟩
 change Ok Tryz.prog _ _ 66 [(2,(pt (nb ρ1 0))),(3,(vs (nb ρ2 6) (B++(aY B.length)).length (aZ ρ2 6))),(4,(pt (nb ρ3 1))),(5,(vn (64*i)))] _ [(nb ρ1 0,(cL (hB 0) 57)),(nb ρ2 6,(cL (oc ρ2 6) 5)),(nb ρ3 1,(cL #[vu t0,vu t1,vu t2,vu t3,vu t4,vu t5,vu t6,vu t7] 163))] (fun w=>Bs w a c B∧Fs w0 w (oa ρ2 5) (nb ρ2 5) (aY B.length)∧True)
 refine aB ?_
 refine sS Tryz.f142 5 [2,3,4,5,22] [] (fun _=>[vn (64*i),vn (64*(i+1)),vs (nb ρ2 6) (B++(aY B.length)).length (aZ ρ2 6),vn (B++(aY B.length)).length,.bool (decide (((64*(i+1):Nat):Int)≤(((B++(aY B.length)).length:Nat):Int)))]) (fun _=>[]) (cR [[]]<|jW (fun ρ=>(((64*i:Nat):Int)+64)) (fun _=>(64*(i+1))) (fun _=>((gZ (by have:=bJ B;have:=aS B.length;omega)).trans (by omega)))<|jE [[],[],[]]) (fun _=>?_)
 refine oC (decide (((64*(i+1):Nat):Int)≤(((B++(aY B.length)).length:Nat):Int))) (fun hb1=>?_) (fun hb1=>?_)
 ·
  rw [hb1]
  have:=yT hb1
  refine aG (aA (aB (aI ?_)))
  refine sS Tryz.f142 1 [2,3,4,5,6] [] (fun ρ=>[pt (nb ρ 0)]) (fun ρ=>[(0,(nw ρ 0 (cL (bY .u8 64 (fun _=>0)) 165)))]) (jE [[]]) (fun ρ6=>?_)
  refine sD Tryz.f142 [0,0,0,6,15] 5 [2,3,4,5,6] [] (fun _=>[vs (nb ρ6 0) 64 64,vs (nb ρ2 6) (B++(aY B.length)).length (aZ ρ2 6),vn (64*i),.slice (uF (some ⟨nb ρ2 6,0,none⟩) (64*i) (aZ ρ2 6)) (mid (B++(aY B.length)) (64*i) (B++(aY B.length)).length).length ((aZ ρ2 6)-(64*i)),vn (Nat.min (mid (B++(aY B.length)) (64*i) (B++(aY B.length)).length).length 64)]) (fun _=>[(4,(bD 3 (nb ρ6 0) (cL (bs ((mid (B++(aY B.length)) (64*i) (B++(aY B.length)).length).take 64)).toArray 165)))]) (cR [[],[],[]]<|cX (jF (fun _=>Instr.sliceAt 37 (vs (nb ρ2 6) (B++(aY B.length)).length (aZ ρ2 6)) (some (vn (64*i))) none none) (fun _=>(.slice (uF (some ⟨nb ρ2 6,0,none⟩) (64*i) (aZ ρ2 6)) (mid (B++(aY B.length)) (64*i) (B++(aY B.length)).length).length ((aZ ρ2 6)-(64*i)))) (fun _ _ _ hG=>vH (l:=64*i) (k:=(B++(aY B.length)).length) Tryz.underlying37 nH (Bs.of_hd (hG.kn (g:=nb ρ2 6) (o:=(cL (oc ρ2 6) 5)) 1) ap2_6.hd ap2_6.le ap2_6.max) rfl (Or.inr (congrArg (fun z=>some (Value.int .i64 z)) (rfl))) (Or.inl ⟨rfl,rfl⟩) (by have:=bJ B;have:=aS B.length;omega) (Nat.le_refl _)) (fun _ _ _ _=>cO))<|cX (o9 _ 3 (fun _=>do pure (Next.value (← Builtin.copy_ #[37,37] 3 #[vs (nb ρ6 0) 64 64,.slice (uF (some ⟨nb ρ2 6,0,none⟩) (64*i) (aZ ρ2 6)) (mid (B++(aY B.length)) (64*i) (B++(aY B.length)).length).length ((aZ ρ2 6)-(64*i))]))) (fun _=>nb ρ6 0) (fun _=>(cL (bY .u8 64 (fun _=>0)) 165)) (fun _=>(cL (bs ((mid (B++(aY B.length)) (64*i) (B++(aY B.length)).length).take 64)).toArray 165)) (fun _=>(vn (Nat.min (mid (B++(aY B.length)) (64*i) (B++(aY B.length)).length).length 64))) (fun _=>(by kernel_rfl)) (fun _=>(by kernel_rfl)) (fun _=>(by kernel_rfl)) (fun _=>(by kernel_rfl)) (fun _ _=>trivial) (fun _ _ _ hG hg=>(by as_aux_lemma=>(rw [← copy_arr (C:=(bY .u8 64 (fun _=>0))) (eH _ _ _) (by rw [kS _ _ _ (Nat.le_refl _)];have:=bJ B;have:=aS B.length;omega)];exact copy_row Tryz.underlying37 nH hg ((Bs.of_hd (hG.kn (g:=nb ρ2 6) (o:=(cL (oc ρ2 6) 5)) 1) ap2_6.hd ap2_6.le ap2_6.max).mid (by have:=bJ B;have:=aS B.length;omega) (Nat.le_refl _)) rfl (Nat.le_of_eq (eH _ 64 _).symm)))))<|cN) (fun _=>?_)
  refine rS Tryz.f142 4 [2,3,4,5] [1,1,1,0] (fun _=>[.agg #[vu t0,vu t1,vu t2,vu t3,vu t4,vu t5,vu t6,vu t7],.agg (bs ((mid (B++(aY B.length)) (64*i) (B++(aY B.length)).length).take 64)).toArray,.agg #[vu ((eF (t0,t1,t2,t3,t4,t5,t6,t7) ((mid (B++(aY B.length)) (64*i) (B++(aY B.length)).length).take 64)).1),vu ((eF (t0,t1,t2,t3,t4,t5,t6,t7) ((mid (B++(aY B.length)) (64*i) (B++(aY B.length)).length).take 64)).2.1),vu ((eF (t0,t1,t2,t3,t4,t5,t6,t7) ((mid (B++(aY B.length)) (64*i) (B++(aY B.length)).length).take 64)).2.2.1),vu ((eF (t0,t1,t2,t3,t4,t5,t6,t7) ((mid (B++(aY B.length)) (64*i) (B++(aY B.length)).length).take 64)).2.2.2.1),vu ((eF (t0,t1,t2,t3,t4,t5,t6,t7) ((mid (B++(aY B.length)) (64*i) (B++(aY B.length)).length).take 64)).2.2.2.2.1),vu ((eF (t0,t1,t2,t3,t4,t5,t6,t7) ((mid (B++(aY B.length)) (64*i) (B++(aY B.length)).length).take 64)).2.2.2.2.2.1),vu ((eF (t0,t1,t2,t3,t4,t5,t6,t7) ((mid (B++(aY B.length)) (64*i) (B++(aY B.length)).length).take 64)).2.2.2.2.2.2.1),vu ((eF (t0,t1,t2,t3,t4,t5,t6,t7) ((mid (B++(aY B.length)) (64*i) (B++(aY B.length)).length).take 64)).2.2.2.2.2.2.2)],undef]) (fun _=>[(3,(bD 2 (nb ρ3 1) (cL #[vu ((eF (t0,t1,t2,t3,t4,t5,t6,t7) ((mid (B++(aY B.length)) (64*i) (B++(aY B.length)).length).take 64)).1),vu ((eF (t0,t1,t2,t3,t4,t5,t6,t7) ((mid (B++(aY B.length)) (64*i) (B++(aY B.length)).length).take 64)).2.1),vu ((eF (t0,t1,t2,t3,t4,t5,t6,t7) ((mid (B++(aY B.length)) (64*i) (B++(aY B.length)).length).take 64)).2.2.1),vu ((eF (t0,t1,t2,t3,t4,t5,t6,t7) ((mid (B++(aY B.length)) (64*i) (B++(aY B.length)).length).take 64)).2.2.2.1),vu ((eF (t0,t1,t2,t3,t4,t5,t6,t7) ((mid (B++(aY B.length)) (64*i) (B++(aY B.length)).length).take 64)).2.2.2.2.1),vu ((eF (t0,t1,t2,t3,t4,t5,t6,t7) ((mid (B++(aY B.length)) (64*i) (B++(aY B.length)).length).take 64)).2.2.2.2.2.1),vu ((eF (t0,t1,t2,t3,t4,t5,t6,t7) ((mid (B++(aY B.length)) (64*i) (B++(aY B.length)).length).take 64)).2.2.2.2.2.2.1),vu ((eF (t0,t1,t2,t3,t4,t5,t6,t7) ((mid (B++(aY B.length)) (64*i) (B++(aY B.length)).length).take 64)).2.2.2.2.2.2.2)] 163)))]) (cR [[2]]<|cX (qF (fun _ _ _ hG=>vS Tryz.isAgg165 Tryz.sizeOf165 (hG.kn (g:=nb ρ6 0) (o:=(cL (bs ((mid (B++(aY B.length)) (64*i) (B++(aY B.length)).length).take 64)).toArray 165)) 3) (by rw [List.size_toArray,dH,List.length_take,kS _ _ _ (Nat.le_refl _)];have:=bJ B;have:=aS B.length;omega)))<|cC (f:=167) (args:=fun ρ=> #[.agg #[vu t0,vu t1,vu t2,vu t3,vu t4,vu t5,vu t6,vu t7],.agg (bs ((mid (B++(aY B.length)) (64*i) (B++(aY B.length)).length).take 64)).toArray]) (v:=fun ρ=>(.agg #[vu ((eF (t0,t1,t2,t3,t4,t5,t6,t7) ((mid (B++(aY B.length)) (64*i) (B++(aY B.length)).length).take 64)).1),vu ((eF (t0,t1,t2,t3,t4,t5,t6,t7) ((mid (B++(aY B.length)) (64*i) (B++(aY B.length)).length).take 64)).2.1),vu ((eF (t0,t1,t2,t3,t4,t5,t6,t7) ((mid (B++(aY B.length)) (64*i) (B++(aY B.length)).length).take 64)).2.2.1),vu ((eF (t0,t1,t2,t3,t4,t5,t6,t7) ((mid (B++(aY B.length)) (64*i) (B++(aY B.length)).length).take 64)).2.2.2.1),vu ((eF (t0,t1,t2,t3,t4,t5,t6,t7) ((mid (B++(aY B.length)) (64*i) (B++(aY B.length)).length).take 64)).2.2.2.2.1),vu ((eF (t0,t1,t2,t3,t4,t5,t6,t7) ((mid (B++(aY B.length)) (64*i) (B++(aY B.length)).length).take 64)).2.2.2.2.2.1),vu ((eF (t0,t1,t2,t3,t4,t5,t6,t7) ((mid (B++(aY B.length)) (64*i) (B++(aY B.length)).length).take 64)).2.2.2.2.2.2.1),vu ((eF (t0,t1,t2,t3,t4,t5,t6,t7) ((mid (B++(aY B.length)) (64*i) (B++(aY B.length)).length).take 64)).2.2.2.2.2.2.2)])) (fun _ w=>(fun w=>rcompress_any t0 t1 t2 t3 t4 t5 t6 t7 ((mid (B++(aY B.length)) (64*i) (B++(aY B.length)).length).take 64) (hQ ▸ xA (B++(aY B.length)) i) (by rw [List.length_take,kS _ _ _ (Nat.le_refl _)];have:=bJ B;have:=aS B.length;omega) w) w)<|jE [[2]]) (fun _=>?_)
  refine aJ (aA ?_)
  refine rS Tryz.f142 3 [2,3,4,5] [] (fun _=>[vn (64*i),vn (64*(i+1)),vn (64*(i+1))]) (fun _=>[]) (cR [[]]<|jW (fun ρ=>(((64*i:Nat):Int)+64)) (fun _=>(64*(i+1))) (fun _=>((gZ (by have:=bJ B;have:=aS B.length;omega)).trans (by omega)))<|jE [[]]) (fun _=>?_)
  exact mN (i+1,(eF (t0,t1,t2,t3,t4,t5,t6,t7) ((mid (B++(aY B.length)) (64*i) (B++(aY B.length)).length).take 64)).1,(eF (t0,t1,t2,t3,t4,t5,t6,t7) ((mid (B++(aY B.length)) (64*i) (B++(aY B.length)).length).take 64)).2.1,(eF (t0,t1,t2,t3,t4,t5,t6,t7) ((mid (B++(aY B.length)) (64*i) (B++(aY B.length)).length).take 64)).2.2.1,(eF (t0,t1,t2,t3,t4,t5,t6,t7) ((mid (B++(aY B.length)) (64*i) (B++(aY B.length)).length).take 64)).2.2.2.1,(eF (t0,t1,t2,t3,t4,t5,t6,t7) ((mid (B++(aY B.length)) (64*i) (B++(aY B.length)).length).take 64)).2.2.2.2.1,(eF (t0,t1,t2,t3,t4,t5,t6,t7) ((mid (B++(aY B.length)) (64*i) (B++(aY B.length)).length).take 64)).2.2.2.2.2.1,(eF (t0,t1,t2,t3,t4,t5,t6,t7) ((mid (B++(aY B.length)) (64*i) (B++(aY B.length)).length).take 64)).2.2.2.2.2.2.1,(eF (t0,t1,t2,t3,t4,t5,t6,t7) ((mid (B++(aY B.length)) (64*i) (B++(aY B.length)).length).take 64)).2.2.2.2.2.2.2) (by show (B++(aY B.length)).length / 64-(i+1)<(B++(aY B.length)).length / 64-i;have:=bJ B;have:=aS B.length;omega) (⟨(by have:=bJ B;have:=aS B.length;omega),sha_next hQ (by have:=bJ B;have:=aS B.length;omega)⟩) []
 rw [hb1]
 have:=yF hb1
 refine bF (aN (aN (aT (aA ?_))))
 refine sS Tryz.f142 1 [2,4,7] [1,0,1,1] (fun ρ=>[pt (nb ρ 0)]) (fun ρ=>[(0,(nw ρ 0 (cL (hB 0) 57)))]) (jE [[]]) (fun ρ10=>?_)
 refine aB (jM Tryz.f142 2 [2,7,33,34] [1,0,1] [.agg #[vu t0,vu t1,vu t2,vu t3,vu t4,vu t5,vu t6,vu t7],vi 0] [[1],[]] (aI ?_))
 refine oL (σ:=Nat × (Array Value)) (fun ⟨m,_⟩=>[(2,(pt (nb ρ1 0))),(7,(pt (nb ρ10 0))),(33,(.agg #[vu t0,vu t1,vu t2,vu t3,vu t4,vu t5,vu t6,vu t7])),(34,(vn m))]) (fun ⟨_,C⟩=>[(nb ρ1 0,(cL (hB 0) 57)),(nb ρ10 0,(cL C 57))]) (fun ⟨m,_⟩=>8-m)
   (fun ⟨m,C⟩=>(m≤8)∧(C=bY .u8 32 (yU (t0,t1,t2,t3,t4,t5,t6,t7) (4*m)))) (0,hB 0) (⟨by decide,hB0_row (t0,t1,t2,t3,t4,t5,t6,t7)⟩) [] ?_
 rintro ⟨m,C⟩ ⟨hm,hC⟩
 change Ok Tryz.prog _ _ 66 [(2,(pt (nb ρ1 0))),(7,(pt (nb ρ10 0))),(33,(.agg #[vu t0,vu t1,vu t2,vu t3,vu t4,vu t5,vu t6,vu t7])),(34,(vn m))] _ [(nb ρ1 0,(cL (hB 0) 57)),(nb ρ10 0,(cL C 57))] (fun w=>Bs w a c B∧Fs w0 w (oa ρ2 5) (nb ρ2 5) (aY B.length)∧True)
 refine jJ Tryz.f142 1 [2,7,33,34,35] [.bool (decide (((m:Nat):Int)<8))] (aB ?_)
 refine oC (decide (((m:Nat):Int)<8)) (fun hb2=>?_) (fun hb2=>?_)
 ·
  rw [hb2]
  have:=yT hb2
  refine aG (aA (aB (aI ?_)))
  refine sS Tryz.f142 4 [2,7,8,9,33,34] [] (fun _=>let qa:=vu (iT (t0,t1,t2,t3,t4,t5,t6,t7) m);[vn m,qa,vn m,qa]) (fun _=>[]) (cR [[]]<|cX (jS (fun _=>Instr.index 163 (.agg #[vu t0,vu t1,vu t2,vu t3,vu t4,vu t5,vu t6,vu t7]) (vn m)) (fun _=>(vu (iT (t0,t1,t2,t3,t4,t5,t6,t7) m))) (fun _ w=>idx_arr8 Tryz.underlying163 Tryz.underlying55 Tryz.sizeOf55 (by have:=bJ B;have:=aS B.length;omega) w))<|jE [[],[]]) (fun _=>?_)
  refine rS Tryz.f142 30 [2,7,33,34] [] (fun _=>let qa:=vu (iT (t0,t1,t2,t3,t4,t5,t6,t7) m);[vn m,vn (4*m),vn m,vn (4*m),vn ((4*m)+1),vn m,vn (4*m),vn ((4*m)+2),vn m,vn (4*m),vn ((4*m)+3),qa,vu (iT (t0,t1,t2,t3,t4,t5,t6,t7) m / 2^24),vy (iT (t0,t1,t2,t3,t4,t5,t6,t7) m / 2^24%256),qa,vu (iT (t0,t1,t2,t3,t4,t5,t6,t7) m / 2^16),vy (iT (t0,t1,t2,t3,t4,t5,t6,t7) m / 2^16%256),qa,vu (iT (t0,t1,t2,t3,t4,t5,t6,t7) m / 2^8),vy (iT (t0,t1,t2,t3,t4,t5,t6,t7) m / 2^8%256),qa,vy (iT (t0,t1,t2,t3,t4,t5,t6,t7) m%256),jp (nb ρ10 0) (4*m),undef,jp (nb ρ10 0) ((4*m)+1),undef,jp (nb ρ10 0) ((4*m)+2),undef,jp (nb ρ10 0) ((4*m)+3),undef]) (fun _=>[(23,(bD 1 (nb ρ10 0) (cL (bY .u8 32 (yU (t0,t1,t2,t3,t4,t5,t6,t7) (4*m+1))) 57))),(25,(bD 1 (nb ρ10 0) (cL (bY .u8 32 (yU (t0,t1,t2,t3,t4,t5,t6,t7) (4*m+2))) 57))),(27,(bD 1 (nb ρ10 0) (cL (bY .u8 32 (yU (t0,t1,t2,t3,t4,t5,t6,t7) (4*m+3))) 57))),(29,(bD 1 (nb ρ10 0) (cL (bY .u8 32 (yU (t0,t1,t2,t3,t4,t5,t6,t7) (4*(m+1)))) 57)))]) (cR [[]]<|jW (fun ρ=>(4*((m:Nat):Int))) (fun _=>(4*m)) (fun _=>(fQ 4 m (by have:=bJ B;have:=aS B.length;omega)))<|cR [[]]<|jW (fun ρ=>(4*((m:Nat):Int))) (fun _=>(4*m)) (fun _=>(fQ 4 m (by have:=bJ B;have:=aS B.length;omega)))<|jW (fun ρ=>(((4*m:Nat):Int)+1)) (fun _=>((4*m)+1)) (fun _=>(aW (4*m) 1 (by have:=bJ B;have:=aS B.length;omega)))<|cR [[]]<|jW (fun ρ=>(4*((m:Nat):Int))) (fun _=>(4*m)) (fun _=>(fQ 4 m (by have:=bJ B;have:=aS B.length;omega)))<|jW (fun ρ=>(((4*m:Nat):Int)+2)) (fun _=>((4*m)+2)) (fun _=>(aW (4*m) 2 (by have:=bJ B;have:=aS B.length;omega)))<|cR [[]]<|jW (fun ρ=>(4*((m:Nat):Int))) (fun _=>(4*m)) (fun _=>(fQ 4 m (by have:=bJ B;have:=aS B.length;omega)))<|jW (fun ρ=>(((4*m:Nat):Int)+3)) (fun _=>((4*m)+3)) (fun _=>(aW (4*m) 3 (by have:=bJ B;have:=aS B.length;omega)))<|cR [[]]<|cB (a:=fun ρ=>(vu (iT (t0,t1,t2,t3,t4,t5,t6,t7) m))) (b:=fun ρ=>(.int .u64 24)) (v:=fun ρ=>(vu (iT (t0,t1,t2,t3,t4,t5,t6,t7) m / 2^24))) .shr 55 (fun _ w=>gG (k:=.u32) (x:=iT (t0,t1,t2,t3,t4,t5,t6,t7) m) (c:=24) (sel8_lt (hQ ▸ xA _ i) _) w)<|cA (fun _=>(vy (iT (t0,t1,t2,t3,t4,t5,t6,t7) m / 2^24%256))) (fun _=>congrArg (Value.int .u8) (u8M (iT (t0,t1,t2,t3,t4,t5,t6,t7) m / 2^24)))<|cR [[]]<|cB (a:=fun ρ=>(vu (iT (t0,t1,t2,t3,t4,t5,t6,t7) m))) (b:=fun ρ=>(.int .u64 16)) (v:=fun ρ=>(vu (iT (t0,t1,t2,t3,t4,t5,t6,t7) m / 2^16))) .shr 55 (fun _ w=>gG (k:=.u32) (x:=iT (t0,t1,t2,t3,t4,t5,t6,t7) m) (c:=16) (sel8_lt (hQ ▸ xA _ i) _) w)<|cA (fun _=>(vy (iT (t0,t1,t2,t3,t4,t5,t6,t7) m / 2^16%256))) (fun _=>congrArg (Value.int .u8) (u8M (iT (t0,t1,t2,t3,t4,t5,t6,t7) m / 2^16)))<|cR [[]]<|cB (a:=fun ρ=>(vu (iT (t0,t1,t2,t3,t4,t5,t6,t7) m))) (b:=fun ρ=>(.int .u64 8)) (v:=fun ρ=>(vu (iT (t0,t1,t2,t3,t4,t5,t6,t7) m / 2^8))) .shr 55 (fun _ w=>gG (k:=.u32) (x:=iT (t0,t1,t2,t3,t4,t5,t6,t7) m) (c:=8) (sel8_lt (hQ ▸ xA _ i) _) w)<|cA (fun _=>(vy (iT (t0,t1,t2,t3,t4,t5,t6,t7) m / 2^8%256))) (fun _=>congrArg (Value.int .u8) (u8M (iT (t0,t1,t2,t3,t4,t5,t6,t7) m / 2^8)))<|cR [[]]<|cA (fun _=>(vy (iT (t0,t1,t2,t3,t4,t5,t6,t7) m%256))) (fun _=>congrArg (Value.int .u8) (u8M (iT (t0,t1,t2,t3,t4,t5,t6,t7) m)))<|cX (jS (fun _=>Instr.indexAt 57 (pt (nb ρ10 0)) (vn (4*m))) (fun _=>(jp (nb ρ10 0) (4*m))) (fun _ w=>aX (n:=((4*m:Nat):Int)) (i:=4*m) Tryz.underlying57 Tryz.sizeOf5 (by have:=bJ B;have:=aS B.length;omega) w))<|cX (qG _ 1 5 (fun _=>nb ρ10 0) (fun _=>4*m) (fun _=>C) (fun _=>(bY .u8 32 (yU (t0,t1,t2,t3,t4,t5,t6,t7) (4*m+1)))) 57 (fun _=>(vy (iT (t0,t1,t2,t3,t4,t5,t6,t7) m / 2^24%256))) (fun _=>by kernel_rfl) Tryz.sizeOf5 (fun _=>rfl) (fun _=>(by rw [hC,eH];have:=bJ B;have:=aS B.length;omega)) (fun _=>(by rw [hC];exact zI (m:=4*m) (by rw [show 4*m / 4=m by omega,show 24-4*m%4*8=24 by omega]))))<|cX (jS (fun _=>Instr.indexAt 57 (pt (nb ρ10 0)) (vn ((4*m)+1))) (fun _=>(jp (nb ρ10 0) ((4*m)+1))) (fun _ w=>aX (n:=(((4*m)+1:Nat):Int)) (i:=(4*m)+1) Tryz.underlying57 Tryz.sizeOf5 (by have:=bJ B;have:=aS B.length;omega) w))<|cX (qG _ 1 5 (fun _=>nb ρ10 0) (fun _=>(4*m)+1) (fun _=>(bY .u8 32 (yU (t0,t1,t2,t3,t4,t5,t6,t7) (4*m+1)))) (fun _=>(bY .u8 32 (yU (t0,t1,t2,t3,t4,t5,t6,t7) (4*m+2)))) 57 (fun _=>(vy (iT (t0,t1,t2,t3,t4,t5,t6,t7) m / 2^16%256))) (fun _=>by kernel_rfl) Tryz.sizeOf5 (fun _=>rfl) (fun _=>(by rw [eH];have:=bJ B;have:=aS B.length;omega)) (fun _=>(by exact zI (m:=4*m+1) (by rw [show (4*m+1) / 4=m by omega,show 24-(4*m+1)%4*8=16 by omega]))))<|cX (jS (fun _=>Instr.indexAt 57 (pt (nb ρ10 0)) (vn ((4*m)+2))) (fun _=>(jp (nb ρ10 0) ((4*m)+2))) (fun _ w=>aX (n:=(((4*m)+2:Nat):Int)) (i:=(4*m)+2) Tryz.underlying57 Tryz.sizeOf5 (by have:=bJ B;have:=aS B.length;omega) w))<|cX (qG _ 1 5 (fun _=>nb ρ10 0) (fun _=>(4*m)+2) (fun _=>(bY .u8 32 (yU (t0,t1,t2,t3,t4,t5,t6,t7) (4*m+2)))) (fun _=>(bY .u8 32 (yU (t0,t1,t2,t3,t4,t5,t6,t7) (4*m+3)))) 57 (fun _=>(vy (iT (t0,t1,t2,t3,t4,t5,t6,t7) m / 2^8%256))) (fun _=>by kernel_rfl) Tryz.sizeOf5 (fun _=>rfl) (fun _=>(by rw [eH];have:=bJ B;have:=aS B.length;omega)) (fun _=>(by exact zI (m:=4*m+2) (by rw [show (4*m+2) / 4=m by omega,show 24-(4*m+2)%4*8=8 by omega]))))<|cX (jS (fun _=>Instr.indexAt 57 (pt (nb ρ10 0)) (vn ((4*m)+3))) (fun _=>(jp (nb ρ10 0) ((4*m)+3))) (fun _ w=>aX (n:=(((4*m)+3:Nat):Int)) (i:=(4*m)+3) Tryz.underlying57 Tryz.sizeOf5 (by have:=bJ B;have:=aS B.length;omega) w))<|cX (qG _ 1 5 (fun _=>nb ρ10 0) (fun _=>(4*m)+3) (fun _=>(bY .u8 32 (yU (t0,t1,t2,t3,t4,t5,t6,t7) (4*m+3)))) (fun _=>(bY .u8 32 (yU (t0,t1,t2,t3,t4,t5,t6,t7) (4*(m+1))))) 57 (fun _=>(vy (iT (t0,t1,t2,t3,t4,t5,t6,t7) m%256))) (fun _=>by kernel_rfl) Tryz.sizeOf5 (fun _=>rfl) (fun _=>(by rw [eH];have:=bJ B;have:=aS B.length;omega)) (fun _=>(by exact zI (m:=4*m+3) (by rw [show (4*m+3) / 4=m by omega,show 24-(4*m+3)%4*8=0 by omega];simp))))<|cN) (fun _=>?_)
  refine aJ (aA ?_)
  refine rS Tryz.f142 2 [2,7,33,34] [] (fun _=>[vn (m+1),vn (m+1)]) (fun _=>[]) (jW (fun ρ=>(((m:Nat):Int)+1)) (fun _=>(m+1)) (fun _=>(aW m 1 (by have:=bJ B;have:=aS B.length;omega)))<|jE [[]]) (fun _=>?_)
  exact mN (m+1,bY .u8 32 (yU (t0,t1,t2,t3,t4,t5,t6,t7) (4*(m+1)))) (by show 8-(m+1)<8-m;have:=bJ B;have:=aS B.length;omega) (⟨(by have:=bJ B;have:=aS B.length;omega),rfl⟩) []
 rw [hb2]
 refine bF (aN (aN (aT ?_)))
 rw [hC]
 refine aA ?_
 refine sS Tryz.f142 2 [2] [1,0] (fun _=>[.agg (bY .u8 32 (yU (t0,t1,t2,t3,t4,t5,t6,t7) (4*m))),undef]) (fun _=>[(1,(bD 0 (nb ρ1 0) (cL (bY .u8 32 (yU (t0,t1,t2,t3,t4,t5,t6,t7) (4*m))) 57)))]) (cX (qF (fun _ _ _ hG=>vS Tryz.isAgg57 Tryz.sizeOf57 (hG.kn (g:=nb ρ10 0) (o:=(cL (bY .u8 32 (yU (t0,t1,t2,t3,t4,t5,t6,t7) (4*m))) 57)) 1) (eH _ _ _)))<|jE [[0]]) (fun _=>?_)
 refine aF ?_
 exact mR (v:=(.agg (bY .u8 32 (yU (t0,t1,t2,t3,t4,t5,t6,t7) (4*m))))) (fun _ hS=>⟨congrArg Ending.returned (congrArg Value.agg ((dgf_end (by have:=yF hb2;have:=bJ B;have:=aS B.length;omega)).trans (congrArg hB (sha_end hQ (by have:=yF hb2;have:=bJ B;have:=aS B.length;omega))))),hS.bel⟩)
theorem wK (T:List UInt8) (a:Option Addr) (c:Nat) (B:List UInt8) (hT:0<T.length∧T.length≤1000) (hl:B.length+200≤140737488351232) (w0:World) (hf0:Bs w0 a c B):Calls Tryz.prog 113 #[.string (gY T),.slice a B.length c] w0 (jR (.agg (hB (lV T B))) w0):=by
 refine Calls.of_ok (n:=16) (F:=(fun w=>Bs w a c B∧True)) Tryz.func113 rfl rfl rfl (by simp) (hf0.pers0.and cO) ?_
 refine sS Tryz.f113 1 [0,1,4] [] (fun ρ=>[pt (nb ρ 0)]) (fun ρ=>[(0,(nw ρ 0 (cL (hB 0) 57)))]) (jE [[]]) (fun ρ1=>?_)
 refine iZ Tryz.f113 5 [1,4,5] [] (fun ρ=>[.string (gY T),.slice (oa ρ 1) T.length (nb ρ 1),.agg (hB (aU T)),pt (nb ρ 3),undef]) (fun ρ=>[(3,(nw ρ 3 (cL (hB 0) 57))),(4,(bD 25 (nb ρ 3) (cL (hB (aU T)) 57)))]) (fun ρ=>[(1,fun w=>Fs w0 w (oa ρ 1) (nb ρ 1) T)]) (fun ρ=>(fun w=>Bs w a c B∧Fs w0 w (oa ρ 1) (nb ρ 1) T∧True)) (fun _=>True) (fun _ _ hF hf=>⟨⟨hF.1,hf 1,trivial⟩,trivial⟩) (cR [[]]<|cX (o_newF _ (fun _=>do pure (Next.value (← convert 9 37 (.string (gY T))))) (fun _ α κ=>(.slice α T.length κ)) (fun _=>T) (fun _ _=>(by kernel_rfl)) (fun _=>(by kernel_rfl)) (fun _ _=>(by kernel_rfl)) (fun _ _ w _=>bytes_str Tryz.underlying9 Tryz.underlying37 Tryz.underlying5 T (by omega) w))<|cX (qC (fun ρ _ w hG=>uY (oa ρ 1) (nb ρ 1) T hT.1 (by omega) w (show Fs w0 w (oa ρ 1) (nb ρ 1) T from (hG.facts 1 rfl).now).1))<|jE [[],[25]]) (fun ρ2 _=>?_)
 refine sDf Tryz.f113 [0,1,0,7,0,31,63,127] 8 [4] [1,0,0] (fun ρ=>let qa:=vs (nb ρ2 3) (hL (aU T)).length 32;[qa,vs (nb ρ 1) (hL (aU T)).length ((hL (aU T)).length+aZ ρ 1),qa,vs (nb ρ 3) ((hL (aU T))++(hL (aU T))).length (aZ ρ 3),.slice a B.length c,vs (nb ρ 5) (((hL (aU T))++(hL (aU T)))++B).length (aZ ρ 5),.agg (hB (aU (((hL (aU T))++(hL (aU T)))++B))),undef]) (fun ρ=>[(1,(nw ρ 1 (cL ((bs (hL (aU T))).toArray++zB (aZ ρ 1)) 5))),(3,(bD 10 (nb ρ 3) (cL (oc ρ 3) 5))),(5,(bD 10 (nb ρ 5) (cL (oc ρ 5) 5))),(7,(bD 0 (nb ρ1 0) (cL (hB (aU (((hL (aU T))++(hL (aU T)))++B))) 57)))]) (fun ρ=>[(3,fun w=>Ap (oc ρ 3) ((hL (aU T))++(hL (aU T))) (aZ ρ 3)),(5,fun w=>Ap (oc ρ 5) (((hL (aU T))++(hL (aU T)))++B) (aZ ρ 5))]) (fun _=>(fun w=>Bs w a c B∧Fs w0 w (oa ρ2 1) (nb ρ2 1) T∧True)) (fun ρ=>Ap (oc ρ 3) ((hL (aU T))++(hL (aU T))) (aZ ρ 3)∧Ap (oc ρ 5) (((hL (aU T))++(hL (aU T)))++B) (aZ ρ 5)) (fun _ _ hF hf=>⟨hF,⟨hf 3,hf 5⟩⟩) (cR [[]]<|cX (qN (fun _ ζ=>(vs (ζ.headD 0) (hL (aU T)).length ((hL (aU T)).length+ζ.tail.headD 0))) (fun _ ζ=>(cL ((bs (hL (aU T))).toArray++zB (ζ.tail.headD 0)) 5)) (fun _ _ _ hG=>oU (ty:=37) Tryz.underlying37 nH (Bs.src (tx:=37) Tryz.underlying37 (Bs.of_hd (c:=32) (hG.kn (g:=nb ρ2 3) (o:=(cL (hB (aU T)) 57)) 1) (tN _) (Nat.le_refl _) (Nat.le_of_ble_eq_true rfl))) (by rw [aO];decide) (by rw [aO];decide)))<|cR [[]]<|cX (qM 10 (fun ρ _ _ hG hg=>app_any (ty:=37) (g:=nb ρ 1) (C:=((bs (hL (aU T))).toArray++zB (aZ ρ 1))) (c:=(hL (aU T)).length+aZ ρ 1) (xs:=hL (aU T)) Tryz.underlying37 nH (Ap.mk' (Hd.fresh _ _) (Nat.le_add_right _ _) (by rw [aO];decide) (xAR _ _)) (Bs.src (tx:=37) Tryz.underlying37 (Bs.of_hd (c:=32) (hG.kn (g:=nb ρ2 3) (o:=(cL (hB (aU T)) 57)) 1) (tN _) (Nat.le_refl _) (Nat.le_of_ble_eq_true rfl))) (by simp only [aO];omega) hg))<|cR [[]]<|cX (qM 10 (fun ρ _ _ hG hg=>app_any (ty:=37) (g:=nb ρ 3) (C:=(oc ρ 3)) (c:=aZ ρ 3) (xs:=(hL (aU T))++(hL (aU T))) Tryz.underlying37 nH (Ap.mk' (show Ap (oc ρ 3) ((hL (aU T))++(hL (aU T))) (aZ ρ 3) from (hG.facts 3 rfl).now).hd (show Ap (oc ρ 3) ((hL (aU T))++(hL (aU T))) (aZ ρ 3) from (hG.facts 3 rfl).now).le (show Ap (oc ρ 3) ((hL (aU T))++(hL (aU T))) (aZ ρ 3) from (hG.facts 3 rfl).now).max (show Ap (oc ρ 3) ((hL (aU T))++(hL (aU T))) (aZ ρ 3) from (hG.facts 3 rfl).now).size) (Bs.src (tx:=37) Tryz.underlying37 hG.fn.1) (by simp only [List.length_append,aO];omega) hg))<|cX (qC (fun ρ _ w hG=>uY (some ⟨nb ρ 5,0,none⟩) (aZ ρ 5) (((hL (aU T))++(hL (aU T)))++B) (by simp only [List.length_append,aO];omega) (by simp only [List.length_append,aO];omega) w (Bs.of_hd (hG.kn (g:=nb ρ 5) (o:=(cL (oc ρ 5) 5)) 10) (show Ap (oc ρ 5) (((hL (aU T))++(hL (aU T)))++B) (aZ ρ 5) from (hG.facts 5 rfl).now).hd (show Ap (oc ρ 5) (((hL (aU T))++(hL (aU T)))++B) (aZ ρ 5) from (hG.facts 5 rfl).now).le (show Ap (oc ρ 5) (((hL (aU T))++(hL (aU T)))++B) (aZ ρ 5) from (hG.facts 5 rfl).now).max)))<|jE [[0]]) (fun _ ⟨ap3_3,ap3_5⟩=>?_)
 refine aF ?_
 exact mR (v:=(.agg (hB (aU (((hL (aU T))++(hL (aU T)))++B))))) (fun _ hS=>⟨congrArg Ending.returned (congrArg (fun z=>Value.agg (hB z)) (by rw [lV,hL_sha])),hS.bel⟩)
theorem kprint_any (k:Ky) (_hk:k.Ok) (w0:World) (hf0:kJ w0) (hf1:fU w0):Calls Tryz.prog 158 #[.agg (kY k)] w0 (jR (vu (o8 k.p)) w0):=by
 refine Calls.of_ok (n:=26) (F:=(fun w=>kJ w∧fU w∧True)) Tryz.func158 rfl rfl rfl (by simp) (hf0.pers0.and (hf1.pers0.and cO)) ?_
 refine sS Tryz.f158 2 [1,2] [] (fun ρ=>[pt (nb ρ 0),.int .u32 0]) (fun ρ=>[(0,(nw ρ 0 (cL (kY k) 66)))]) (jE [[],[]]) (fun ρ1=>?_)
 refine sS Tryz.f158 5 [2,3] [0,1] (fun ρ=>[jp (nb ρ1 0) 4,U k.p,.agg (hB k.p),pt (nb ρ 3),undef]) (fun ρ=>[(3,(nw ρ 3 (cL (hB 0) 57))),(4,(bD 25 (nb ρ 3) (cL (hB k.p) 57)))]) (cR [[],[0]]<|cC (fun _ w=>pW k.p w)<|jE [[],[25]]) (fun ρ2=>?_)
 refine jJ Tryz.f158 1 [2,3,4] [.int .u32 0] ?_
 refine sS Tryz.f158 4 [2,4,5] [0,1] (fun ρ=>[vs (nb ρ2 3) (hL k.p).length 32,.agg (hB (aU (hL k.p))),pt (nb ρ 2),undef]) (fun ρ=>[(2,(nw ρ 2 (cL (hB 0) 57))),(3,(bD 17 (nb ρ 2) (cL (hB (aU (hL k.p))) 57)))]) (cR [[]]<|cX (qC (fun _ _ w hG=>sum_any (some ⟨nb ρ2 3,0,none⟩) 32 (hL k.p) (by rw [aO];decide) (by rw [aO];decide) w (Bs.of_hd (c:=32) (hG.kn (g:=nb ρ2 3) (o:=(cL (hB k.p) 57)) 0) (tN _) (Nat.le_refl _) (Nat.le_of_ble_eq_true rfl)) hG.fn.1 hG.fn.2.1))<|jE [[],[17]]) (fun ρ4=>?_)
 refine aB (jJ Tryz.f158 3 [2,4,13,14,15] [vs (nb ρ4 2) 4 32,vi 4,vi 0] (aI ?_))
 refine jY 5 ?_
 refine dI ?_
 refine jJ Tryz.f158 1 [2,4,13,14,15,16] [vT] (aB ?_)
 refine oY ?_
 refine aG (aA (aB (aI (jM Tryz.f158 3 [2,4,7,13,14,15,16,17,18] [] (let qa:Value:=.int .u8 (nR (aU (hL k.p)) 0);[pt (nb ρ4 2),qa,qa]) [[],[0],[]] ?_))))
 refine lK [(2,(.int .u32 0)),(4,(.int .u32 0)),(7,(.int .u8 (nR (aU (hL k.p)) 0))),(13,(vs (nb ρ4 2) 4 32)),(14,(vi 4)),(15,(vi 0)),(16,vT),(17,(pt (nb ρ4 2))),(18,(.int .u8 (nR (aU (hL k.p)) 0)))] [(nb ρ4 2,(cL (hB (aU (hL k.p))) 57))] ?_
 refine rS Tryz.f158 6 [2,4,7,13,14,15,16,17,18,19,20,21,22,23] [] (fun _=>let qa:=vu (hiN (aU (hL k.p)) 1);[.int .u32 0,.int .u32 0,.int .u8 (nR (aU (hL k.p)) 0),vu (bN (aU (hL k.p)) 0),qa,qa]) (fun _=>[]) (cR [[],[],[]]<|cA (fun _=>(vu (bN (aU (hL k.p)) 0))) (fun _=>jN (vI (aU (hL k.p)) 0))<|cA (v:=fun ρ=>(.int .u32 (bits .or .u32 0 ((bN (aU (hL k.p)) 0:Nat):Int)))) (fun _=>(vu (hiN (aU (hL k.p)) 1))) (fun _=>jN (or_hi (D:=(aU (hL k.p))) (j:=0) (by decide)))<|jE [[]]) (fun _=>?_)
 refine aJ (aA (jL Tryz.f158 2 [2,4,7,13,14,15,16,17,18,19,20,21,22,23,24] [] [vi 1,vi 1] [[],[]] (dV ?_)))
 refine dI ?_
 refine jJ Tryz.f158 1 [2,4,7,13,14,15,16,17,18,19,20,21,22,23,24] [vT] (aB ?_)
 refine oY ?_
 refine aG (aA (aB (aI (jM Tryz.f158 3 [2,4,7,13,14,15,16,17,18,19,20,21,22,23,24] [] (let qa:Value:=.int .u8 (nR (aU (hL k.p)) 1);[jp (nb ρ4 2) 1,qa,qa]) [[],[0],[]] ?_))))
 refine rS Tryz.f158 6 [2,4,7,13,14,15,16,17,18,19,20,21,22,23,24] [] (fun _=>let qa:=vu (hiN (aU (hL k.p)) 2);[vu (hiN (aU (hL k.p)) 1),vu (hiN (aU (hL k.p)) 1*256),.int .u8 (nR (aU (hL k.p)) 1),vu (bN (aU (hL k.p)) 1),qa,qa]) (fun _=>[]) (cR [[]]<|cB (a:=fun ρ=>(vu (hiN (aU (hL k.p)) 1))) (b:=fun ρ=>(.int .u64 8)) (v:=fun ρ=>(vu (hiN (aU (hL k.p)) 1*256))) .shl 55 (fun _ w=>run_hi8 (D:=(aU (hL k.p))) (j:=1) (by decide) w)<|cR [[]]<|cA (fun _=>(vu (bN (aU (hL k.p)) 1))) (fun _=>jN (vI (aU (hL k.p)) 1))<|cA (v:=fun ρ=>(.int .u32 (bits .or .u32 ((hiN (aU (hL k.p)) 1*256:Nat):Int) ((bN (aU (hL k.p)) 1:Nat):Int)))) (fun _=>(vu (hiN (aU (hL k.p)) 2))) (fun _=>jN (or_hi (D:=(aU (hL k.p))) (j:=1) (by decide)))<|jE [[]]) (fun _=>?_)
 refine aJ (aA (jL Tryz.f158 2 [2,4,7,13,14,15,16,17,18,19,20,21,22,23,24] [] [vi 2,vi 2] [[],[]] (dV ?_)))
 refine dI ?_
 refine jJ Tryz.f158 1 [2,4,7,13,14,15,16,17,18,19,20,21,22,23,24] [vT] ?_
 refine lK [(2,(.int .u32 0)),(4,(vu (hiN (aU (hL k.p)) 2))),(7,(.int .u8 (nR (aU (hL k.p)) 1))),(13,(vs (nb ρ4 2) 4 32)),(14,(vi 4)),(15,(vi 2)),(16,vT),(17,(jp (nb ρ4 2) 1)),(18,(.int .u8 (nR (aU (hL k.p)) 1))),(19,(vu (hiN (aU (hL k.p)) 1))),(20,(vu (hiN (aU (hL k.p)) 1*256))),(21,(.int .u8 (nR (aU (hL k.p)) 1))),(22,(vu (bN (aU (hL k.p)) 1))),(23,(vu (hiN (aU (hL k.p)) 2))),(24,(vi 2))] [(nb ρ4 2,(cL (hB (aU (hL k.p))) 57))] ?_
 refine aB ?_
 refine oY ?_
 refine aG (aA (aB (aI (jM Tryz.f158 3 [2,4,7,13,14,15,16,17,18,19,20,21,22,23,24] [] (let qa:Value:=.int .u8 (nR (aU (hL k.p)) 2);[jp (nb ρ4 2) 2,qa,qa]) [[],[0],[]] ?_))))
 refine rS Tryz.f158 6 [2,4,7,13,14,15,16,17,18,19,20,21,22,23,24] [] (fun _=>let qa:=vu (hiN (aU (hL k.p)) 3);[vu (hiN (aU (hL k.p)) 2),vu (hiN (aU (hL k.p)) 2*256),.int .u8 (nR (aU (hL k.p)) 2),vu (bN (aU (hL k.p)) 2),qa,qa]) (fun _=>[]) (cR [[]]<|cB (a:=fun ρ=>(vu (hiN (aU (hL k.p)) 2))) (b:=fun ρ=>(.int .u64 8)) (v:=fun ρ=>(vu (hiN (aU (hL k.p)) 2*256))) .shl 55 (fun _ w=>run_hi8 (D:=(aU (hL k.p))) (j:=2) (by decide) w)<|cR [[]]<|cA (fun _=>(vu (bN (aU (hL k.p)) 2))) (fun _=>jN (vI (aU (hL k.p)) 2))<|cA (v:=fun ρ=>(.int .u32 (bits .or .u32 ((hiN (aU (hL k.p)) 2*256:Nat):Int) ((bN (aU (hL k.p)) 2:Nat):Int)))) (fun _=>(vu (hiN (aU (hL k.p)) 3))) (fun _=>jN (or_hi (D:=(aU (hL k.p))) (j:=2) (by decide)))<|jE [[]]) (fun _=>?_)
 refine aJ (aA (jL Tryz.f158 2 [2,4,7,13,14,15,16,17,18,19,20,21,22,23,24] [] [vi 3,vi 3] [[],[]] (dV ?_)))
 refine dI ?_
 refine jJ Tryz.f158 1 [2,4,7,13,14,15,16,17,18,19,20,21,22,23,24] [vT] (aB ?_)
 refine oY ?_
 refine aG (aA (aB (aI (jM Tryz.f158 3 [2,4,7,13,14,15,16,17,18,19,20,21,22,23,24] [] (let qa:Value:=.int .u8 (nR (aU (hL k.p)) 3);[jp (nb ρ4 2) 3,qa,qa]) [[],[0],[]] ?_))))
 refine rS Tryz.f158 6 [2,4,7,13,14,15,16,17,18,19,20,21,22,23,24] [] (fun _=>let qa:=vu (hiN (aU (hL k.p)) 4);[vu (hiN (aU (hL k.p)) 3),vu (hiN (aU (hL k.p)) 3*256),.int .u8 (nR (aU (hL k.p)) 3),vu (bN (aU (hL k.p)) 3),qa,qa]) (fun _=>[]) (cR [[]]<|cB (a:=fun ρ=>(vu (hiN (aU (hL k.p)) 3))) (b:=fun ρ=>(.int .u64 8)) (v:=fun ρ=>(vu (hiN (aU (hL k.p)) 3*256))) .shl 55 (fun _ w=>run_hi8 (D:=(aU (hL k.p))) (j:=3) (by decide) w)<|cR [[]]<|cA (fun _=>(vu (bN (aU (hL k.p)) 3))) (fun _=>jN (vI (aU (hL k.p)) 3))<|cA (v:=fun ρ=>(.int .u32 (bits .or .u32 ((hiN (aU (hL k.p)) 3*256:Nat):Int) ((bN (aU (hL k.p)) 3:Nat):Int)))) (fun _=>(vu (hiN (aU (hL k.p)) 4))) (fun _=>jN (or_hi (D:=(aU (hL k.p))) (j:=3) (by decide)))<|jE [[]]) (fun _=>?_)
 refine aJ (aA (jL Tryz.f158 2 [2,4,7,13,14,15,16,17,18,19,20,21,22,23,24] [] [vi 4,vi 4] [[],[]] (dV ?_)))
 refine dI ?_
 refine jJ Tryz.f158 1 [2,4,7,13,14,15,16,17,18,19,20,21,22,23,24] [vF] ?_
 refine lK [(2,(.int .u32 0)),(4,(vu (hiN (aU (hL k.p)) 4))),(7,(.int .u8 (nR (aU (hL k.p)) 3))),(13,(vs (nb ρ4 2) 4 32)),(14,(vi 4)),(15,(vi 4)),(16,vF),(17,(jp (nb ρ4 2) 3)),(18,(.int .u8 (nR (aU (hL k.p)) 3))),(19,(vu (hiN (aU (hL k.p)) 3))),(20,(vu (hiN (aU (hL k.p)) 3*256))),(21,(.int .u8 (nR (aU (hL k.p)) 3))),(22,(vu (bN (aU (hL k.p)) 3))),(23,(vu (hiN (aU (hL k.p)) 4))),(24,(vi 4))] [(nb ρ4 2,(cL (hB (aU (hL k.p))) 57))] ?_
 refine aB ?_
 refine oN ?_
 refine bF (aN (aN (aT (aA (jM Tryz.f158 2 [2] [0] [vu (hiN (aU (hL k.p)) 4),vu (hiN (aU (hL k.p)) 4)] [[],[]] (aF ?_))))))
 exact mR (v:=(vu (hiN (aU (hL k.p)) 4))) (fun _ hS=>⟨rfl,hS.bel⟩)
theorem oJ (a:Nat) (_ha:a<M) (w0:World):Calls Tryz.prog 115 #[U a] w0 (fun ε w'=>∃ α κ,ε=.returned (.slice α (hL a).length κ)∧jG w0 w'∧Fs w0 w' α κ (hL a)):=by
 refine Calls.of_ok (n:=9) (F:=(fun _=>True)) Tryz.func115 rfl rfl rfl (by simp) jT ?_
 refine sS Tryz.f115 2 [1,2] [] (fun ρ=>[pt (nb ρ 0),vz]) (fun ρ=>[(0,(nw ρ 0 (cL (cU a) 64)))]) (jE [[],[]]) (fun _=>?_)
 refine sS Tryz.f115 4 [2,3] [0,1] (fun ρ=>[U a,.agg (hB a),pt (nb ρ 2),undef]) (fun ρ=>[(2,(nw ρ 2 (cL (hB 0) 57))),(3,(bD 17 (nb ρ 2) (cL (hB a) 57)))]) (cR [[0]]<|cC (fun _ w=>rbytes_any a w)<|jE [[],[17]]) (fun ρ2=>?_)
 refine iZ Tryz.f115 4 [2] [0,1] (fun ρ=>let qa:=vs (nb ρ 2) (([]:List UInt8)++(hL a)).length (aZ ρ 2);[vs (nb ρ 0) ([]:List UInt8).length 0,vs (nb ρ2 2) (hL a).length 32,qa,qa]) (fun ρ=>[(0,(nw ρ 0 (cL #[] 5))),(2,(bD 1 (nb ρ 2) (cL (oc ρ 2) 5)))]) (fun ρ=>[(2,fun w=>Ap (oc ρ 2) (([]:List UInt8)++(hL a)) (aZ ρ 2))]) (fun _=>(fun _=>True)) (fun ρ=>Ap (oc ρ 2) (([]:List UInt8)++(hL a)) (aZ ρ 2)) (fun _ _ hF hf=>⟨hF,hf 2⟩) (cR [[],[]]<|cX (qM 1 (fun ρ _ _ hG hg=>app_any (ty:=37) (g:=nb ρ 0) (C:= #[]) (c:=0) (xs:=([]:List UInt8)) Tryz.underlying37 nH (Ap.mk' (rfl:Hd #[] ([]:List UInt8)) (Nat.le_refl 0) (Nat.le_of_ble_eq_true rfl) rfl) (Bs.src (tx:=37) Tryz.underlying37 (Bs.of_hd (c:=32) (hG.kn (g:=nb ρ2 2) (o:=(cL (hB a) 57)) 0) (tN _) (Nat.le_refl _) (Nat.le_of_ble_eq_true rfl))) (by rw [aO];decide) hg))<|jE [[]]) (fun ρ3 ap3_2=>?_)
 refine aF (mD [(2,(vs (nb ρ3 2) (([]:List UInt8)++(hL a)).length (aZ ρ3 2)))] [(nb ρ3 2,(cL (oc ρ3 2) 5))] ?_)
 exact mR (v:=(vs (nb ρ3 2) (([]:List UInt8)++(hL a)).length (aZ ρ3 2))) (fun _ hS=>⟨some ⟨nb ρ3 2,0,none⟩,aZ ρ3 2,congrArg Ending.returned (by rw [List.nil_append]),hS.bel,dU (List.nil_append _) (hS.fresh (.head _) ap3_2.hd ap3_2.le ap3_2.max)⟩)
theorem rkprint_any (k:Ky) (hk:k.Ok) (w0:World):Calls Tryz.prog 117 #[.agg (kY k)] w0 (jR (vu (o8 k.p)) w0):=by
 refine Calls.of_ok (n:=26) (F:=(fun _=>True)) Tryz.func117 rfl rfl rfl (by simp) jT ?_
 refine sS Tryz.f117 2 [1,2] [] (fun ρ=>[pt (nb ρ 0),.int .u32 0]) (fun ρ=>[(0,(nw ρ 0 (cL (kY k) 66)))]) (jE [[],[]]) (fun ρ1=>?_)
 refine iZ Tryz.f117 6 [2,3] [0,1] (fun ρ=>[jp (nb ρ1 0) 4,U k.p,.slice (oa ρ 2) (hL k.p).length (nb ρ 2),.agg (hB (aU (hL k.p))),pt (nb ρ 4),undef]) (fun ρ=>[(4,(nw ρ 4 (cL (hB 0) 57))),(5,(bD 33 (nb ρ 4) (cL (hB (aU (hL k.p))) 57)))]) (fun ρ=>[(2,fun w=>Fs w0 w (oa ρ 2) (nb ρ 2) (hL k.p))]) (fun ρ=>(fun w=>Fs w0 w (oa ρ 2) (nb ρ 2) (hL k.p)∧True)) (fun _=>True) (fun _ _ _ hf=>⟨⟨hf 2,trivial⟩,trivial⟩) (cR [[],[0]]<|cX (qB (fun _ _ w _=>oJ k.p hk.p w))<|cX (qC (fun ρ _ w hG=>uY (oa ρ 2) (nb ρ 2) (hL k.p) (by rw [aO];decide) (by rw [aO];decide) w (show Fs w0 w (oa ρ 2) (nb ρ 2) (hL k.p) from (hG.facts 2 rfl).now).1))<|jE [[],[33]]) (fun ρ2 _=>?_)
 refine sS Tryz.f117 19 [2] [0] (fun _=>let qa:=vu (hiN (aU (hL k.p)) 4);[pt (nb ρ2 4),.int .u8 (nR (aU (hL k.p)) 0),vu (bN (aU (hL k.p)) 0),vu (bN (aU (hL k.p)) 0*2^24),jp (nb ρ2 4) 1,.int .u8 (nR (aU (hL k.p)) 1),vu (bN (aU (hL k.p)) 1),vu (bN (aU (hL k.p)) 1*2^16),vu ((bN (aU (hL k.p)) 0*256+bN (aU (hL k.p)) 1)*65536),jp (nb ρ2 4) 2,.int .u8 (nR (aU (hL k.p)) 2),vu (bN (aU (hL k.p)) 2),vu (bN (aU (hL k.p)) 2*2^8),vu (((bN (aU (hL k.p)) 0*256+bN (aU (hL k.p)) 1)*256+bN (aU (hL k.p)) 2)*256),jp (nb ρ2 4) 3,.int .u8 (nR (aU (hL k.p)) 3),vu (bN (aU (hL k.p)) 3),qa,qa]) (fun _=>[]) (cR [[],[0]]<|cA (fun _=>(vu (bN (aU (hL k.p)) 0))) (fun _=>jN (vI (aU (hL k.p)) 0))<|cB (a:=fun ρ=>(vu (bN (aU (hL k.p)) 0))) (b:=fun ρ=>(.int .u64 24)) (v:=fun ρ=>(vu (bN (aU (hL k.p)) 0*2^24))) .shl 55 (fun _ w=>run_bN (D:=(aU (hL k.p))) (j:=0) (c:=24) (by decide) w)<|cR [[],[0]]<|cA (fun _=>(vu (bN (aU (hL k.p)) 1))) (fun _=>jN (vI (aU (hL k.p)) 1))<|cB (a:=fun ρ=>(vu (bN (aU (hL k.p)) 1))) (b:=fun ρ=>(.int .u64 16)) (v:=fun ρ=>(vu (bN (aU (hL k.p)) 1*2^16))) .shl 55 (fun _ w=>run_bN (D:=(aU (hL k.p))) (j:=1) (c:=16) (by decide) w)<|cA (fun _=>(vu ((bN (aU (hL k.p)) 0*256+bN (aU (hL k.p)) 1)*65536))) (fun _=>jN (or_p1 (aU (hL k.p))))<|cR [[],[0]]<|cA (fun _=>(vu (bN (aU (hL k.p)) 2))) (fun _=>jN (vI (aU (hL k.p)) 2))<|cB (a:=fun ρ=>(vu (bN (aU (hL k.p)) 2))) (b:=fun ρ=>(.int .u64 8)) (v:=fun ρ=>(vu (bN (aU (hL k.p)) 2*2^8))) .shl 55 (fun _ w=>run_bN (D:=(aU (hL k.p))) (j:=2) (c:=8) (by decide) w)<|cA (fun _=>(vu (((bN (aU (hL k.p)) 0*256+bN (aU (hL k.p)) 1)*256+bN (aU (hL k.p)) 2)*256))) (fun _=>jN (or_p2 (aU (hL k.p))))<|cR [[],[0]]<|cA (fun _=>(vu (bN (aU (hL k.p)) 3))) (fun _=>jN (vI (aU (hL k.p)) 3))<|cA (fun _=>(vu (hiN (aU (hL k.p)) 4))) (fun _=>jN (or_p3 (aU (hL k.p))))<|jE [[]]) (fun _=>?_)
 refine aF ?_
 exact mR (v:=(vu (hiN (aU (hL k.p)) 4))) (fun _ hS=>⟨rfl,hS.bel⟩)
def kpL (K:Nat):List UInt8:=hL K++List.replicate 32 0
theorem kpL_len (K:Nat):(kpL K).length=64:=by simp [kpL,aO]
theorem eP (v:UInt8) (K:Nat):(xB v K).length=64:=by simp [xB,aO]
theorem xB_get (v:UInt8) (K:Nat) {i:Nat} (h:i<64):gB (xB v K) i=gB (kpL K) i^^^v.toNat:=by
  have hk:i<(kpL K).length:=by rw [kpL_len];exact h
  unfold gB xB
  rw [show hL K++List.replicate 32 0=kpL K from rfl,List.getD_eq_getElem?_getD,List.getD_eq_getElem?_getD,List.getElem?_map,List.getElem?_eq_getElem hk]
  simp
def hmf (v:UInt8) (K m i:Nat):Nat:=if i<m then gB (xB v K) i else gB (kpL K) i
theorem hmf_at {v:UInt8} {K i:Nat}:hmf v K i i=gB (kpL K) i:=by unfold hmf;rw [if_neg (by omega)]
theorem xor8 {a b:Nat} (ha:a<256) (hb:b<256):bits .xor .u8 (a:Int) (b:Int)=((a^^^b:Nat):Int):=bits_xorU rfl ha hb
theorem hm_xor {v:UInt8} {K i:Nat} (h:i<64):bits .xor .u8 ((gB (kpL K) i:Nat):Int) ((v.toNat:Nat):Int)=((gB (xB v K) i:Nat):Int):=by
  rw [xor8 (iD _ _) (UInt8.toNat_lt v),xB_get v K h]
theorem hmf_set {v:UInt8} {K m:Nat}:(bY .u8 64 (hmf v K m)).setIfInBounds m (.int .u8 ((gB (xB v K) m:Nat):Int))=bY .u8 64 (hmf v K (m+1)):=by
  rw [wI]
  refine fG fun i _=>?_
  unfold hmf
  by_cases h:i=m
  · subst h;rw [if_pos rfl,if_pos (by omega)]
  · rw [if_neg h]
    by_cases h2:i<m
    · rw [if_pos h2,if_pos (by omega)]
    · rw [if_neg h2,if_neg (by omega)]
theorem rowK_bs {xs:List UInt8} {n:Nat} (h:xs.length=n):bY .u8 n (gB xs)=(bs xs).toArray:=by
  subst h
  unfold bY bs
  congr 1
  apply List.ext_getElem
  · simp
  · intro i h1 h2
    have hi:i<xs.length:=by simpa using h1
    simp [gB,bv,List.getD_eq_getElem?_getD,List.getElem?_eq_getElem hi]
theorem hmf_end {v:UInt8} {K m:Nat} (h:64≤m):bY .u8 64 (hmf v K m)=(bs (xB v K)).toArray:=by
  rw [← rowK_bs (eP v K)]
  exact fG fun i hi=>by unfold hmf;rw [if_pos (by omega)]
theorem hmf_zero (v:UInt8) (K:Nat):(bs (kpL K)).toArray=bY .u8 64 (hmf v K 0):=by
  rw [← rowK_bs (kpL_len K)]
  exact fG fun i hi=>by unfold hmf;rw [if_neg (by omega)]
theorem hm_copy (K:Nat):inpl (bY .u8 64 (fun _=>0)) 0 (bs ((hL K).take 64))=(bs (kpL K)).toArray:=by
  rw [List.take_of_length_le (by rw [aO];decide)]
  have e:bY .u8 64 (fun _=>0)=(bs (List.replicate 64 0)).toArray:=by
    rw [← rowK_bs (List.length_replicate ..)]
    exact fG fun i hi=>by unfold gB;rw [List.getD_eq_getElem?_getD,List.getElem?_replicate,if_pos hi];rfl
  rw [e]
  unfold inpl kpL bs
  simp [aO]
def fl2 (X:List UInt8) (n i:Nat):List UInt8:=X.take i++List.replicate (n-i) 0
theorem xM {X:List UInt8} {n i:Nat} (hX:X.length=n) (hi:i≤n):(fl2 X n i).length=n:=by simp [fl2];omega
theorem fl2_zero (X:List UInt8) (n:Nat):fl2 X n 0=List.replicate n 0:=by simp [fl2]
theorem fl2_end {X:List UInt8} {n i:Nat} (hX:X.length=n) (h:n≤i):fl2 X n i=X:=by
  unfold fl2
  rw [List.take_of_length_le (by omega),show n-i=0 by omega];simp
theorem fl2_set {X : List UInt8} {n i x : Nat} (hX : X.length = n) (hi : i < n) (hx : x = gB X i) : (bs (fl2 X n i)).toArray.setIfInBounds i (.int .u8 ((x : Nat) : Int)) = (bs (fl2 X n (i + 1))).toArray := by
  subst hx
  apply Array.ext
  · simp [dH,fl2];omega
  · intro j h1 h2
    have hj:j<n:=by simpa [dH,xM hX (show i+1≤n by omega)] using h2
    have hij:i<X.length:=by omega
    have hjx:j<X.length:=by omega
    rw [Array.getElem_setIfInBounds]
    split
    · rename_i e
      subst e
      simp only [bs,List.getElem_toArray,List.getElem_map,fl2]
      rw [List.getElem_append_left (by rw [List.length_take];omega)]
      simp [gB,bv,List.getD_eq_getElem?_getD,List.getElem?_eq_getElem hij]
    · rename_i e
      simp only [bs,List.getElem_toArray,List.getElem_map,fl2]
      by_cases hlt:j<i
      · rw [List.getElem_append_left (by rw [List.length_take]; omega), List.getElem_append_left (by rw [List.length_take]; omega)]
        simp
      · rw [List.getElem_append_right (by rw [List.length_take]; omega), List.getElem_append_right (by rw [List.length_take]; omega)]
        simp
    · rw [List.size_toArray,dH,xM hX (by omega)];exact hj
theorem kp_in {K i:Nat} (h:i<32):gB (hL K) i=gB (kpL K) i:=by
  unfold gB kpL
  rw [List.getD_eq_getElem?_getD,List.getD_eq_getElem?_getD,List.getElem?_append_left (by rw [aO];exact h)]
theorem kp_out {K i:Nat} (h: ¬ i<32):gB (kpL K) i=0:=by
  unfold gB kpL
  rw [List.getD_eq_getElem?_getD,List.getElem?_append_right (by rw [aO];omega)]
  rw [List.getElem?_replicate]
  split<;>rfl
theorem hm_xorL54 {K i:Nat} (h:i<32):bits .xor .u8 ((gB (hL K) i:Nat):Int) 54=((gB (xB 54 K) i:Nat):Int):=by rw [kp_in h];exact hm_xor (v:=54) (by omega)
theorem hm_xorL92 {K i:Nat} (h:i<32):bits .xor .u8 ((gB (hL K) i:Nat):Int) 92=((gB (xB 92 K) i:Nat):Int):=by rw [kp_in h];exact hm_xor (v:=92) (by omega)
theorem kx_out54 {K i:Nat} (h: ¬ i<32) (h2:i<64):54=gB (xB 54 K) i:=by rw [xB_get _ _ h2,kp_out h];rfl
theorem kx_out92 {K i:Nat} (h: ¬ i<32) (h2:i<64):92=gB (xB 92 K) i:=by rw [xB_get _ _ h2,kp_out h];rfl
theorem kC_chain (s p c:Nat) (d i n:Int) (j:Nat) (hj:j<32):(kC s p c d i n)[8+j]? = (hB c)[j]? := by
  unfold kC
  rw [Array.getElem?_append_left (by simp [cU,yV];omega),Array.getElem?_append_right (by simp [cU]),show 8+j-(cU s++cU p).size=j by simp [cU]]
theorem Bs.of_key {w:World} {g s p c:Nat} {d i n:Int} {T:TypeId} {fr:Nat × Nat} (hb:w.heap[g]? = some (.cells (kC s p c d i n) T fr)):Bs w (some ⟨g,8,none⟩) 32 (hL c):=by
  refine ⟨by rw [aO];exact Nat.le_refl _,by rw [aO];decide,Or.inr ⟨_,rfl,fun j v hv=>?_⟩⟩
  have hj:j<32:=by
    have:=(List.getElem?_eq_some_iff.1 hv).1
    rw [dH,aO] at this;exact this
  have h1:(hB c)[j]? = some v:=by
    have hh:=tN c
    unfold Hd at hh
    rw [← hh,List.getElem?_take,if_pos (by rw [aO];exact hj)] at hv
    simpa using hv
  rw [show (⟨g,8,none⟩:Addr).add j=⟨g,8+j,none⟩ by simp [Addr.add]]
  unfold World.cell?
  simp only [hb]
  rw [← h1,← kC_chain s p c d i n j hj]
  simp
theorem hmac_any (a:Option Addr) (c:Nat) (K:Nat) (a2:Option Addr) (c2:Nat) (S:List UInt8) (hl:S.length+200≤140737488351232) (w0:World) (hf0:Bs w0 a c (hL K)) (hf1:Bs w0 a2 c2 S) (hf2:kJ w0) (hf3:fU w0):Calls Tryz.prog 157 #[.slice a (hL K).length c,.slice a2 S.length c2] w0 (jR (.agg (hB (hmN K S))) w0):=by
 refine Calls.of_ok (n:=46) (F:=(fun w=>Bs w a c (hL K)∧Bs w a2 c2 S∧kJ w∧fU w∧True)) Tryz.func157 rfl rfl rfl (by simp) (hf0.pers0.and (hf1.pers0.and (hf2.pers0.and (hf3.pers0.and cO)))) ?_
 refine sS Tryz.f157 1 [0,1,4] [] (fun ρ=>[pt (nb ρ 0)]) (fun ρ=>[(0,(nw ρ 0 (cL (hB 0) 57)))]) (jE [[]]) (fun ρ1=>?_)
 refine aB ?_
 refine sS Tryz.f157 3 [0,1,4,12] [] (fun _=>[.slice a (hL K).length c,vn (hL K).length,vF]) (fun _=>[]) (cR [[],[]]<|jQ (fun ρ=>(decide (64<(((hL K).length:Nat):Int)))) false (fun _=>(decide_eq_false (by rw [aO];decide)))<|cN) (fun _=>?_)
 refine oN ?_
 refine aG (aA ?_)
 refine sS Tryz.f157 2 [0,1,4,6,7] [] (fun ρ=>[pt (nb ρ 0),pt (nb ρ 1)]) (fun ρ=>[(0,(nw ρ 0 (cL (bY .u8 64 (fun _=>0)) 165))),(1,(nw ρ 1 (cL (bY .u8 64 (fun _=>0)) 165)))]) (jE [[],[]]) (fun ρ3=>?_)
 refine sS Tryz.f157 3 [0,1,4,6,7] [] (fun _=>[vs (nb ρ3 0) 64 64,.slice a (hL K).length c,vn (Nat.min (hL K).length 64)]) (fun _=>[(2,(bD 1 (nb ρ3 0) (cL (bs (kpL K)).toArray 165)))]) (cR [[],[]]<|cX (o9 _ 1 (fun _=>do pure (Next.value (← Builtin.copy_ #[37,37] 3 #[vs (nb ρ3 0) 64 64,.slice a (hL K).length c]))) (fun _=>nb ρ3 0) (fun _=>(cL (bY .u8 64 (fun _=>0)) 165)) (fun _=>(cL (bs (kpL K)).toArray 165)) (fun _=>(vn (Nat.min (hL K).length 64))) (fun _=>(by kernel_rfl)) (fun _=>(by kernel_rfl)) (fun _=>(by kernel_rfl)) (fun _=>(by kernel_rfl)) (fun _ _=>trivial) (fun _ _ _ hG hg=>(by as_aux_lemma=>(rw [← hm_copy K];exact copy_row Tryz.underlying37 nH hg hG.fn.1 rfl (Nat.le_of_eq (eH _ 64 _).symm)))))<|cN) (fun _=>?_)
 refine sS Tryz.f157 3 [1,4,6,7] [] (fun _=>[vs (nb ρ3 1) 64 64,.slice a (hL K).length c,vn (Nat.min (hL K).length 64)]) (fun _=>[(2,(bD 2 (nb ρ3 1) (cL (bs (kpL K)).toArray 165)))]) (cR [[],[]]<|cX (o9 _ 2 (fun _=>do pure (Next.value (← Builtin.copy_ #[37,37] 3 #[vs (nb ρ3 1) 64 64,.slice a (hL K).length c]))) (fun _=>nb ρ3 1) (fun _=>(cL (bY .u8 64 (fun _=>0)) 165)) (fun _=>(cL (bs (kpL K)).toArray 165)) (fun _=>(vn (Nat.min (hL K).length 64))) (fun _=>(by kernel_rfl)) (fun _=>(by kernel_rfl)) (fun _=>(by kernel_rfl)) (fun _=>(by kernel_rfl)) (fun _ _=>trivial) (fun _ _ _ hG hg=>(by as_aux_lemma=>(rw [← hm_copy K];exact copy_row Tryz.underlying37 nH hg hG.fn.1 rfl (Nat.le_of_eq (eH _ 64 _).symm)))))<|cN) (fun _=>?_)
 refine aB (jJ Tryz.f157 1 [1,4,6,7,22] [vi 0] (aI ?_))
 refine oL (σ:=Nat × (Array Value) × (Array Value)) (fun ⟨m,_,_⟩=>[(1,(.slice a2 S.length c2)),(4,(pt (nb ρ1 0))),(6,(pt (nb ρ3 0))),(7,(pt (nb ρ3 1))),(22,(vn m))]) (fun ⟨_,C1,C2⟩=>[(nb ρ1 0,(cL (hB 0) 57)),(nb ρ3 0,(cL C1 165)),(nb ρ3 1,(cL C2 165))]) (fun ⟨m,_,_⟩=>64-m)
   (fun ⟨m,C1,C2⟩=>(m≤64)∧(C1=bY .u8 64 (hmf 54 K m))∧(C2=bY .u8 64 (hmf 92 K m))) (0,(bs (kpL K)).toArray,(bs (kpL K)).toArray) (⟨by decide,hmf_zero 54 K,hmf_zero 92 K⟩) [] ?_
 rintro ⟨m,C1,C2⟩ ⟨hm,hC1,hC2⟩
 change Ok Tryz.prog _ _ 46 [(1,(.slice a2 S.length c2)),(4,(pt (nb ρ1 0))),(6,(pt (nb ρ3 0))),(7,(pt (nb ρ3 1))),(22,(vn m))] _ [(nb ρ1 0,(cL (hB 0) 57)),(nb ρ3 0,(cL C1 165)),(nb ρ3 1,(cL C2 165))] (fun w=>Bs w a c (hL K)∧Bs w a2 c2 S∧kJ w∧fU w∧True)
 refine jJ Tryz.f157 1 [1,4,6,7,22,23] [.bool (decide (((m:Nat):Int)<64))] (aB ?_)
 refine oC (decide (((m:Nat):Int)<64)) (fun hb1=>?_) (fun hb1=>?_)
 ·
  rw [hb1]
  have:=yT hb1
  refine aG (aA (aB (aI (jJ Tryz.f157 2 [1,4,6,7,8,22] [vn m,vn m] ?_))))
  refine sS Tryz.f157 6 [1,4,6,7,8,22] [] (fun _=>[vn m,jp (nb ρ3 0) m,vy (gB (kpL K) m),vy (gB (xB 54 K) m),jp (nb ρ3 0) m,undef]) (fun _=>[(5,(bD 1 (nb ρ3 0) (cL (bY .u8 64 (hmf 54 K (m+1))) 165)))]) (cR [[]]<|cX (jS (fun _=>Instr.indexAt 165 (pt (nb ρ3 0)) (vn m)) (fun _=>(jp (nb ρ3 0) m)) (fun _ w=>aX (n:=((m:Nat):Int)) (i:=m) Tryz.underlying165 Tryz.sizeOf5 (by omega) w))<|cX (kG _ 1 5 (fun _=>nb ρ3 0) (fun _=>m) (fun _=>C1) 165 (0,0) (fun _=>(vy (gB (kpL K) m))) (fun _=>by kernel_rfl) Tryz.isAgg5 (fun _=>(by rw [hC1,nG (by omega),hmf_at])))<|cA (v:=fun ρ=>(.int .u8 (bits .xor .u8 ((gB (kpL K) m:Nat):Int) 54))) (fun _=>(vy (gB (xB 54 K) m))) (fun _=>congrArg (Value.int .u8) (hm_xor (v:=54) (K:=K) (i:=m) (by omega)))<|cX (jS (fun _=>Instr.indexAt 165 (pt (nb ρ3 0)) (vn m)) (fun _=>(jp (nb ρ3 0) m)) (fun _ w=>aX (n:=((m:Nat):Int)) (i:=m) Tryz.underlying165 Tryz.sizeOf5 (by omega) w))<|cX (qG _ 1 5 (fun _=>nb ρ3 0) (fun _=>m) (fun _=>C1) (fun _=>(bY .u8 64 (hmf 54 K (m+1)))) 165 (fun _=>(vy (gB (xB 54 K) m))) (fun _=>by kernel_rfl) Tryz.sizeOf5 (fun _=>rfl) (fun _=>(by rw [hC1,eH];omega)) (fun _=>(by rw [hC1];exact hmf_set)))<|cN) (fun _=>?_)
  refine rS Tryz.f157 6 [1,4,6,7,22] [] (fun _=>[vn m,jp (nb ρ3 1) m,vy (gB (kpL K) m),vy (gB (xB 92 K) m),jp (nb ρ3 1) m,undef]) (fun _=>[(5,(bD 2 (nb ρ3 1) (cL (bY .u8 64 (hmf 92 K (m+1))) 165)))]) (cR [[]]<|cX (jS (fun _=>Instr.indexAt 165 (pt (nb ρ3 1)) (vn m)) (fun _=>(jp (nb ρ3 1) m)) (fun _ w=>aX (n:=((m:Nat):Int)) (i:=m) Tryz.underlying165 Tryz.sizeOf5 (by omega) w))<|cX (kG _ 2 5 (fun _=>nb ρ3 1) (fun _=>m) (fun _=>C2) 165 (0,0) (fun _=>(vy (gB (kpL K) m))) (fun _=>by kernel_rfl) Tryz.isAgg5 (fun _=>(by rw [hC2,nG (by omega),hmf_at])))<|cA (v:=fun ρ=>(.int .u8 (bits .xor .u8 ((gB (kpL K) m:Nat):Int) 92))) (fun _=>(vy (gB (xB 92 K) m))) (fun _=>congrArg (Value.int .u8) (hm_xor (v:=92) (K:=K) (i:=m) (by omega)))<|cX (jS (fun _=>Instr.indexAt 165 (pt (nb ρ3 1)) (vn m)) (fun _=>(jp (nb ρ3 1) m)) (fun _ w=>aX (n:=((m:Nat):Int)) (i:=m) Tryz.underlying165 Tryz.sizeOf5 (by omega) w))<|cX (qG _ 2 5 (fun _=>nb ρ3 1) (fun _=>m) (fun _=>C2) (fun _=>(bY .u8 64 (hmf 92 K (m+1)))) 165 (fun _=>(vy (gB (xB 92 K) m))) (fun _=>by kernel_rfl) Tryz.sizeOf5 (fun _=>rfl) (fun _=>(by rw [hC2,eH];omega)) (fun _=>(by rw [hC2];exact hmf_set)))<|cN) (fun _=>?_)
  refine aJ (aA ?_)
  refine rS Tryz.f157 2 [1,4,6,7,22] [] (fun _=>[vn (m+1),vn (m+1)]) (fun _=>[]) (jW (fun ρ=>(((m:Nat):Int)+1)) (fun _=>(m+1)) (fun _=>(aW m 1 (by omega)))<|jE [[]]) (fun _=>?_)
  exact mN (m+1,bY .u8 64 (hmf 54 K (m+1)),bY .u8 64 (hmf 92 K (m+1))) (by show 64-(m+1)<64-m;omega) (⟨(by omega),rfl,rfl⟩) []
 rw [hb1]
 refine bF (aN (aN (aT ?_)))
 rw [hC1]
 rw [hC2]
 refine aA ?_
 refine iZ Tryz.f157 7 [4,7,9] [1,0,1,0,1] (fun ρ=>[vs (nb ρ3 0) (xB 54 K).length 64,.slice a2 S.length c2,vs (nb ρ 2) 2 2,.slice (oa ρ 3) ((xB 54 K)++S).length (nb ρ 3),.agg (hB (aU ((xB 54 K)++S))),pt (nb ρ 5),undef]) (fun ρ=>[(2,(nw ρ 2 (cL #[vs (nb ρ3 0) (xB 54 K).length 64,.slice a2 S.length c2] 37))),(5,(nw ρ 5 (cL (hB 0) 57))),(6,(bD 43 (nb ρ 5) (cL (hB (aU ((xB 54 K)++S))) 57)))]) (fun ρ=>[(3,fun w=>Fs w0 w (oa ρ 3) (nb ρ 3) ((xB 54 K)++S))]) (fun ρ=>(fun w=>Bs w a c (hL K)∧Bs w a2 c2 S∧kJ w∧fU w∧Fs w0 w (oa ρ 3) (nb ρ 3) ((xB 54 K)++S)∧True)) (fun _=>True) (fun _ _ hF hf=>⟨⟨hF.1,hF.2.1,hF.2.2.1,hF.2.2.2.1,hf 3,trivial⟩,trivial⟩) (cR [[],[],[]]<|cX (qB (fun ρ _ w hG=>yA (nb ρ 2) (some ⟨nb ρ3 0,0,none⟩) 64 (xB 54 K) a2 c2 S (by simp only [eP];omega) (by rw [eP];decide) w (Kb.of_block (hG.kn (g:=nb ρ 2) (o:=(cL #[vs (nb ρ3 0) (xB 54 K).length 64,.slice a2 S.length c2] 37)) 19)) (Bs.of_hd (c:=64) (hG.kn (g:=nb ρ3 0) (o:=(cL (bY .u8 64 (hmf 54 K m)) 165)) 1) (by rw [hmf_end (by have:=yF hb1;omega)];exact Hd.all _) (Nat.le_of_eq (eP _ _)) (by rw [eP];decide)) hG.fn.2.1))<|cX (qC (fun ρ _ w hG=>sum_any (oa ρ 3) (nb ρ 3) ((xB 54 K)++S) (by simp only [List.length_append,eP];omega) (by simp only [List.length_append,eP];omega) w (show Fs w0 w (oa ρ 3) (nb ρ 3) ((xB 54 K)++S) from (hG.facts 3 rfl).now).1 hG.fn.2.2.1 hG.fn.2.2.2.1))<|jE [[],[43]]) (fun ρ12 _=>?_)
 refine sDf Tryz.f157 [0,0,3,7,15,31] 6 [4] [1,0,0,0] (fun ρ=>[vs (nb ρ3 1) (xB 92 K).length 64,vs (nb ρ12 5) (hL (aU ((xB 54 K)++S))).length 32,vs (nb ρ 2) 2 2,.slice (oa ρ 3) ((xB 92 K)++(hL (aU ((xB 54 K)++S)))).length (nb ρ 3),.agg (hB (aU ((xB 92 K)++(hL (aU ((xB 54 K)++S)))))),undef]) (fun ρ=>[(2,(nw ρ 2 (cL #[vs (nb ρ3 1) (xB 92 K).length 64,vs (nb ρ12 5) (hL (aU ((xB 54 K)++S))).length 32] 37))),(5,(bD 0 (nb ρ1 0) (cL (hB (aU ((xB 92 K)++(hL (aU ((xB 54 K)++S)))))) 57)))]) (fun ρ=>[(3,fun w=>Fs w0 w (oa ρ 3) (nb ρ 3) ((xB 92 K)++(hL (aU ((xB 54 K)++S)))))]) (fun ρ=>(fun w=>Bs w a c (hL K)∧Bs w a2 c2 S∧kJ w∧fU w∧Fs w0 w (oa ρ12 3) (nb ρ12 3) ((xB 54 K)++S)∧Fs w0 w (oa ρ 3) (nb ρ 3) ((xB 92 K)++(hL (aU ((xB 54 K)++S))))∧True)) (fun _=>True) (fun _ _ hF hf=>⟨⟨hF.1,hF.2.1,hF.2.2.1,hF.2.2.2.1,hF.2.2.2.2.1,hf 3,trivial⟩,trivial⟩) (cR [[],[],[]]<|cX (qB (fun ρ _ w hG=>yA (nb ρ 2) (some ⟨nb ρ3 1,0,none⟩) 64 (xB 92 K) (some ⟨nb ρ12 5,0,none⟩) 32 (hL (aU ((xB 54 K)++S))) (by simp only [eP,aO];omega) (by rw [eP];decide) w (Kb.of_block (hG.kn (g:=nb ρ 2) (o:=(cL #[vs (nb ρ3 1) (xB 92 K).length 64,vs (nb ρ12 5) (hL (aU ((xB 54 K)++S))).length 32] 37)) 19)) (Bs.of_hd (c:=64) (hG.kn (g:=nb ρ3 1) (o:=(cL (bY .u8 64 (hmf 92 K m)) 165)) 1) (by rw [hmf_end (by have:=yF hb1;omega)];exact Hd.all _) (Nat.le_of_eq (eP _ _)) (by rw [eP];decide)) (Bs.of_hd (c:=32) (hG.kn (g:=nb ρ12 5) (o:=(cL (hB (aU ((xB 54 K)++S))) 57)) 2) (tN _) (Nat.le_refl _) (Nat.le_of_ble_eq_true rfl))))<|cX (qC (fun ρ _ w hG=>sum_any (oa ρ 3) (nb ρ 3) ((xB 92 K)++(hL (aU ((xB 54 K)++S)))) (by simp only [List.length_append,eP];omega) (by simp only [List.length_append,eP,aO];omega) w (show Fs w0 w (oa ρ 3) (nb ρ 3) ((xB 92 K)++(hL (aU ((xB 54 K)++S)))) from (hG.facts 3 rfl).now).1 hG.fn.2.2.1 hG.fn.2.2.2.1))<|jE [[0]]) (fun _ _=>?_)
 refine aF ?_
 exact mR (v:=(.agg (hB (aU ((xB 92 K)++(hL (aU ((xB 54 K)++S)))))))) (fun _ hS=>⟨rfl,hS.bel⟩)
theorem grow0_any (n:Nat) (hn:0<n∧n≤140737488351232) (w0:World):Calls Tryz.prog 197 #[vz,vn n] w0 (fun ε w'=>∃ z:List Nat,ε=.returned (vs (z.headD 0) 0 (z.tail.headD 0))∧jG w0 w'∧w0.heap.size≤z.headD 0∧w'.heap[z.headD 0]? = some (cL (zB (z.tail.headD 0)) 5)):=by
 refine Calls.of_ok (n:=27) (F:=(fun _=>True)) Tryz.func197 rfl rfl rfl (by simp) jT ?_
 refine jJ Tryz.f197 1 [0,1,4] [vz] (aB ?_)
 refine sS Tryz.f197 2 [0,1,4,6] [] (fun _=>[vn n,vF]) (fun _=>[]) (cR [[]]<|jQ (fun ρ=>(decide (((n:Nat):Int)<0))) false (fun _=>(decide_eq_false (Int.not_lt.2 (Int.natCast_nonneg _))))<|cN) (fun _=>?_)
 refine oN ?_
 refine aG (aA (aB ?_))
 refine sS Tryz.f197 8 [0,1,4] [] (fun _=>[vn n,vz,vi 0,vz,vi 0,vi 0,vn n,vn n]) (fun _=>[]) (cR [[],[],[],[],[],[]]<|jW (fun ρ=>(((n:Nat):Int)-0)) (fun _=>n) (fun _=>((gZ (by omega)).trans (by omega)))<|jE [[]]) (fun _=>?_)
 refine sS Tryz.f197 2 [0,1,4,16] [] (fun _=>[vn n,vT]) (fun _=>[]) (cR [[]]<|jQ (fun ρ=>(decide (0<((n:Nat):Int)))) true (fun _=>(decide_eq_true (by omega)))<|cN) (fun _=>?_)
 refine oY ?_
 refine rS Tryz.f197 10 [0,4] [] (fun ρ=>let qa:=vs (nb ρ 5) (mid (List.replicate n (0:UInt8)) 0 0).length (n+aZ ρ 5);[vz,vz,vi 0,vz,vn n,vs (nb ρ 5) (List.replicate n (0:UInt8)).length (n+aZ ρ 5),vz,vi 0,qa,qa]) (fun ρ=>[(5,(nw ρ 5 (cL (zB (n+aZ ρ 5)) 5)))]) (cR [[],[],[],[],[]]<|cX (qN (fun _ ζ=>(vs (ζ.headD 0) (List.replicate n (0:UInt8)).length (n+ζ.tail.headD 0))) (fun _ ζ=>(cL (zB (n+ζ.tail.headD 0)) 5)) (fun _ _ _ _=>app_zeros (ty:=37) Tryz.underlying37 nH Tryz.underlying3 hn.1 hn.2))<|cR [[],[]]<|cX (o_semF _ (fun ρ=>do pure (Next.value (← Instr.sliceAt 37 (vs (nb ρ 5) (List.replicate n (0:UInt8)).length (n+aZ ρ 5)) none (some (vi 0)) none))) (fun ρ=>(vs (nb ρ 5) (mid (List.replicate n (0:UInt8)) 0 0).length (n+aZ ρ 5))) (fun _=>(by kernel_rfl)) (fun _=>(by kernel_rfl)) (fun ρ _ _ hG=>(vH (l:=0) (k:=0) Tryz.underlying37 nH (Bs.of_hd (hG.kn (g:=nb ρ 5) (o:=(cL (zB (n+aZ ρ 5)) 5)) 40) (hdz_le _ _) (by rw [List.length_replicate];exact Nat.le_add_right _ _) (by rw [List.length_replicate];exact hn.2)) rfl (Or.inl ⟨rfl,rfl⟩) (Or.inr (congrArg (fun z=>some (Value.int .i64 z)) (rfl))) (Nat.le_refl _) (Nat.zero_le _)).trans (by rw [sadr_zero,Nat.sub_zero])) (fun _ _ _ _=>cO))<|jE [[]]) (fun ρ5=>?_)
 refine aA (jJ Tryz.f197 2 [4] (let qa:=vs (nb ρ5 5) (mid (List.replicate n (0:UInt8)) 0 0).length (n+aZ ρ5 5);[qa,qa]) (aF ?_))
 exact mR (v:=(vs (nb ρ5 5) (mid (List.replicate n (0:UInt8)) 0 0).length (n+aZ ρ5 5))) (fun _ hS=>⟨[nb ρ5 5,n+aZ ρ5 5],rfl,hS.bel,(hS.newb (.head _)).1,(hS.newb (.head _)).2⟩)
theorem concat2_any (g:Nat) (a0:Option Addr) (c0:Nat) (B0:List UInt8) (a1:Option Addr) (c1:Nat) (B1:List UInt8) (hl:B0.length+B1.length≤140737488351232) (h0:0<B0.length) (w0:World) (hf0:Kb w0 g #[.slice a0 B0.length c0,.slice a1 B1.length c1]) (hf1:Bs w0 a0 c0 B0) (hf2:Bs w0 a1 c1 B1):Calls Tryz.prog 177 #[vs g 2 2] w0 (fun ε w'=>∃ α κ,ε=.returned (.slice α (B0++B1).length κ)∧jG w0 w'∧Fs w0 w' α κ (B0++B1)):=by
 refine Calls.of_ok (n:=36) (F:=(fun w=>Kb w g #[.slice a0 B0.length c0,.slice a1 B1.length c1]∧Bs w a0 c0 B0∧Bs w a1 c1 B1∧True)) Tryz.func177 rfl rfl rfl (by simp) (hf0.pers0.and (hf1.pers0.and (hf2.pers0.and cO))) ?_
 refine jJ Tryz.f177 1 [0,2] [vz] (jJ Tryz.f177 1 [0,2,3] [vi 0] (aB (jJ Tryz.f177 3 [0,2,3,9,10,11] [vs g 2 2,vi 2,vi 0] (aI ?_))))
 refine jY 3 ?_
 refine dI ?_
 refine jJ Tryz.f177 1 [0,2,3,9,10,11,12] [vT] (aB ?_)
 refine oY ?_
 refine aG (aA (aB (aI ?_)))
 refine sS Tryz.f177 3 [0,2,3,5,9,10,11,12,13,14] [] (fun _=>[pt g,.slice a0 B0.length c0,.slice a0 B0.length c0]) (fun _=>[]) (cR [[]]<|cX (qF (v:=fun ρ=>(.slice a0 B0.length c0)) (fun _ _ _ hG=>mY (off:=0) Tryz.isAgg37 hG.fn.1 (rfl)))<|jE [[]]) (fun _=>?_)
 refine sS Tryz.f177 5 [0,2,3,5,9,10,11,12,13,14,15,16,17,18] [] (fun _=>[vi 0,.slice a0 B0.length c0,vn B0.length,vn B0.length,vn B0.length]) (fun _=>[]) (cR [[],[],[]]<|jW (fun ρ=>(0+((B0.length:Nat):Int))) (fun _=>B0.length) (fun _=>((gZ (by omega)).trans (by omega)))<|jE [[]]) (fun _=>?_)
 refine sS Tryz.f177 2 [0,2,3,5,9,10,11,12,13,14,15,16,17,18,19,20] [] (fun _=>[vn B0.length,vF]) (fun _=>[]) (cR [[]]<|jQ (fun ρ=>(decide (((B0.length:Nat):Int)<0))) false (fun _=>(decide_eq_false (Int.not_lt.2 (Int.natCast_nonneg _))))<|cN) (fun _=>?_)
 refine lK [(0,(vs g 2 2)),(2,vz),(3,(vn B0.length)),(5,(.slice a0 B0.length c0)),(9,(vs g 2 2)),(10,(vi 2)),(11,(vi 0)),(12,vT),(13,(pt g)),(14,(.slice a0 B0.length c0)),(15,(vi 0)),(16,(.slice a0 B0.length c0)),(17,(vn B0.length)),(18,(vn B0.length)),(19,(vn B0.length)),(20,vF)] [] ?_
 refine oN ?_
 refine aG (aJ (aA (jL Tryz.f177 2 [0,2,3,5,9,10,11,12,13,14,15,16,17,18,19,20,22] [] [vi 1,vi 1] [[],[]] (dV ?_))))
 refine dI ?_
 refine jJ Tryz.f177 1 [0,2,3,5,9,10,11,12,13,14,15,16,17,18,19,20,22] [vT] (aB ?_)
 refine oY ?_
 refine aG (aA (aB (aI ?_)))
 refine sS Tryz.f177 3 [0,2,3,5,9,10,11,12,13,14,15,16,17,18,19,20,22] [] (fun _=>[jp g 1,.slice a1 B1.length c1,.slice a1 B1.length c1]) (fun _=>[]) (cR [[]]<|cX (qF (v:=fun ρ=>(.slice a1 B1.length c1)) (fun _ _ _ hG=>mY (off:=1) Tryz.isAgg37 hG.fn.1 (rfl)))<|jE [[]]) (fun _=>?_)
 refine sS Tryz.f177 5 [0,2,3,5,9,10,11,12,13,14,15,16,17,18,19,20,22] [] (fun _=>let qa:=vn (B0.length+B1.length);[vn B0.length,.slice a1 B1.length c1,vn B1.length,qa,qa]) (fun _=>[]) (cR [[],[],[]]<|jW (fun ρ=>(((B0.length:Nat):Int)+((B1.length:Nat):Int))) (fun _=>(B0.length+B1.length)) (fun _=>(aW B0.length B1.length (by omega)))<|jE [[]]) (fun _=>?_)
 refine sS Tryz.f177 2 [0,2,3,5,9,10,11,12,13,14,15,16,17,18,19,20,22] [] (fun _=>[vn (B0.length+B1.length),vF]) (fun _=>[]) (cR [[]]<|jQ (fun ρ=>(decide (((B0.length+B1.length:Nat):Int)<0))) false (fun _=>(decide_eq_false (Int.not_lt.2 (Int.natCast_nonneg _))))<|cN) (fun _=>?_)
 refine oN ?_
 refine aG (aJ (aA (jL Tryz.f177 2 [0,2,3,5,9,10,11,12,13,14,15,16,17,18,19,20,22] [] [vi 2,vi 2] [[],[]] (dV ?_))))
 refine dI ?_
 refine jJ Tryz.f177 1 [0,2,3,5,9,10,11,12,13,14,15,16,17,18,19,20,22] [vF] ?_
 refine lK [(0,(vs g 2 2)),(2,vz),(3,(vn (B0.length+B1.length))),(5,(.slice a1 B1.length c1)),(9,(vs g 2 2)),(10,(vi 2)),(11,(vi 2)),(12,vF),(13,(jp g 1)),(14,(.slice a1 B1.length c1)),(15,(vn B0.length)),(16,(.slice a1 B1.length c1)),(17,(vn B1.length)),(18,(vn (B0.length+B1.length))),(19,(vn (B0.length+B1.length))),(20,vF),(22,(vi 2))] [] ?_
 refine aB ?_
 refine oN ?_
 refine bF (aN (aN (aT (aA ?_))))
 refine sS Tryz.f177 3 [0,2,6] [] (fun ρ=>let qa:=vs (nb ρ 1) ([]:List UInt8).length (aZ ρ 1);[vn (B0.length+B1.length),qa,qa]) (fun ρ=>[(1,(nw ρ 1 (cL (zB (aZ ρ 1)) 5)))]) (cR [[]]<|cX (o_callM _ 197 (fun _=> #[vz,vn (B0.length+B1.length)]) (fun _ ζ=>(vs (ζ.headD 0) ([]:List UInt8).length (ζ.tail.headD 0))) (fun _ ζ=>(cL (zB (ζ.tail.headD 0)) 5)) (fun _ _=>(by kernel_rfl)) (fun _ _=>(by kernel_rfl)) (fun _ _=>(by kernel_rfl)) (fun _ _=>trivial) (fun _ _ w _=>grow0_any (B0.length+B1.length) (by omega) w))<|jE [[]]) (fun ρ15=>?_)
 refine aB (jJ Tryz.f177 3 [2,6,25,26,27] [vs g 2 2,vi 2,vi 0] (aI ?_))
 refine jY 3 ?_
 refine dI ?_
 refine jJ Tryz.f177 1 [2,6,25,26,27,28] [vT] (aB ?_)
 refine oY ?_
 refine aG (aA (aB (aI ?_)))
 refine sS Tryz.f177 3 [2,6,8,25,26,27,28,29,30] [] (fun _=>[pt g,.slice a0 B0.length c0,.slice a0 B0.length c0]) (fun _=>[]) (cR [[]]<|cX (qF (v:=fun ρ=>(.slice a0 B0.length c0)) (fun _ _ _ hG=>mY (off:=0) Tryz.isAgg37 hG.fn.1 (rfl)))<|jE [[]]) (fun _=>?_)
 refine rSf Tryz.f177 4 [2,6,8,25,26,27,28,29,30,31,32,33] [] (fun ρ=>let qa:=vs (nb ρ 2) (([]:List UInt8)++B0).length (aZ ρ 2);[vs (nb ρ15 1) ([]:List UInt8).length (aZ ρ15 1),.slice a0 B0.length c0,qa,qa]) (fun ρ=>[(2,(bD 0 (nb ρ 2) (cL (oc ρ 2) 5)))]) (fun ρ=>[(2,fun w=>Ap (oc ρ 2) (([]:List UInt8)++B0) (aZ ρ 2))]) (fun _=>(fun w=>Kb w g #[.slice a0 B0.length c0,.slice a1 B1.length c1]∧Bs w a0 c0 B0∧Bs w a1 c1 B1∧True)) (fun ρ=>Ap (oc ρ 2) (([]:List UInt8)++B0) (aZ ρ 2)) (fun _ _ hF hf=>⟨hF,hf 2⟩) (cR [[],[]]<|cX (qM 0 (fun _ _ _ hG hg=>app_any (ty:=37) (g:=nb ρ15 1) (C:=(zB (aZ ρ15 1))) (c:=aZ ρ15 1) (xs:=([]:List UInt8)) Tryz.underlying37 nH (Ap.mk' (Hd.nil _) (Nat.zero_le _) (Nat.zero_le _) (oD _)) (Bs.src (tx:=37) Tryz.underlying37 hG.fn.2.1) (by simp only [List.length_nil];omega) hg))<|jE [[]]) (fun ρ19 ap19_2=>?_)
 refine aJ (aA (jL Tryz.f177 2 [2,6,8,25,26,27,28,29,30,31,32,33,34] [] [vi 1,vi 1] [[],[]] (dV ?_)))
 refine dI ?_
 refine jJ Tryz.f177 1 [2,6,8,25,26,27,28,29,30,31,32,33,34] [vT] ?_
 refine lK [(2,vz),(6,(vs (nb ρ19 2) (([]:List UInt8)++B0).length (aZ ρ19 2))),(8,(.slice a0 B0.length c0)),(25,(vs g 2 2)),(26,(vi 2)),(27,(vi 1)),(28,vT),(29,(pt g)),(30,(.slice a0 B0.length c0)),(31,(vs (nb ρ15 1) ([]:List UInt8).length (aZ ρ15 1))),(32,(.slice a0 B0.length c0)),(33,(vs (nb ρ19 2) (([]:List UInt8)++B0).length (aZ ρ19 2))),(34,(vi 1))] [(nb ρ19 2,(cL (oc ρ19 2) 5))] ?_
 refine aB ?_
 refine oY ?_
 refine aG (aA (aB (aI ?_)))
 refine sS Tryz.f177 3 [2,6,8,25,26,27,28,29,30,31,32,33,34] [] (fun _=>[jp g 1,.slice a1 B1.length c1,.slice a1 B1.length c1]) (fun _=>[]) (cR [[]]<|cX (qF (v:=fun ρ=>(.slice a1 B1.length c1)) (fun _ _ _ hG=>mY (off:=1) Tryz.isAgg37 hG.fn.1 (rfl)))<|jE [[]]) (fun _=>?_)
 refine rSf Tryz.f177 4 [2,6,8,25,26,27,28,29,30,31,32,33,34] [] (fun ρ=>let qa:=vs (nb ρ 2) ((([]:List UInt8)++B0)++B1).length (aZ ρ 2);[vs (nb ρ19 2) (([]:List UInt8)++B0).length (aZ ρ19 2),.slice a1 B1.length c1,qa,qa]) (fun ρ=>[(2,(bD 0 (nb ρ 2) (cL (oc ρ 2) 5)))]) (fun ρ=>[(2,fun w=>Ap (oc ρ 2) ((([]:List UInt8)++B0)++B1) (aZ ρ 2))]) (fun _=>(fun w=>Kb w g #[.slice a0 B0.length c0,.slice a1 B1.length c1]∧Bs w a0 c0 B0∧Bs w a1 c1 B1∧True)) (fun ρ=>Ap (oc ρ 2) ((([]:List UInt8)++B0)++B1) (aZ ρ 2)) (fun _ _ hF hf=>⟨hF,hf 2⟩) (cR [[],[]]<|cX (qM 0 (fun _ _ _ hG hg=>app_any (ty:=37) (g:=nb ρ19 2) (C:=(oc ρ19 2)) (c:=aZ ρ19 2) (xs:=([]:List UInt8)++B0) Tryz.underlying37 nH (Ap.mk' ap19_2.hd ap19_2.le ap19_2.max ap19_2.size) (Bs.src (tx:=37) Tryz.underlying37 hG.fn.2.2.1) (by simp only [List.length_append,List.length_nil];omega) hg))<|jE [[]]) (fun ρ23 ap23_2=>?_)
 refine aJ (aA (jL Tryz.f177 2 [2,6,8,25,26,27,28,29,30,31,32,33,34] [] [vi 2,vi 2] [[],[]] (dV ?_)))
 refine dI ?_
 refine jJ Tryz.f177 1 [2,6,8,25,26,27,28,29,30,31,32,33,34] [vF] (aB ?_)
 refine oN ?_
 refine bF (aN (aN (aT (aA (jJ Tryz.f177 2 [2] (let qa:=vs (nb ρ23 2) ((([]:List UInt8)++B0)++B1).length (aZ ρ23 2);[qa,qa]) (aF (mD [(2,(vs (nb ρ23 2) ((([]:List UInt8)++B0)++B1).length (aZ ρ23 2)))] [(nb ρ23 2,(cL (oc ρ23 2) 5))] ?_)))))))
 exact mR (v:=(vs (nb ρ23 2) ((([]:List UInt8)++B0)++B1).length (aZ ρ23 2))) (fun _ hS=>⟨some ⟨nb ρ23 2,0,none⟩,aZ ρ23 2,congrArg Ending.returned (by rw [List.nil_append]),hS.bel,dU (by rw [List.nil_append]) (hS.fresh (.head _) ap23_2.hd ap23_2.le ap23_2.max)⟩)
theorem extend_any (a:Option Addr) (c:Nat) (B:List UInt8) (a2:Option Addr) (c2:Nat) (S:List UInt8) (hl:B.length+S.length≤140737488351232) (w0:World) (hf0:Bs w0 a c B) (hf1:Bs w0 a2 c2 S):Calls Tryz.prog 195 #[.slice a B.length c,.slice a2 S.length c2] w0 (fun ε w'=>∃ α κ,ε=.returned (.slice α (B++S).length κ)∧jG w0 w'∧Fs w0 w' α κ (B++S)):=by
 refine Calls.of_ok (n:=18) (F:=(fun w=>Bs w a c B∧Bs w a2 c2 S∧True)) Tryz.func195 rfl rfl rfl (by simp) (hf0.pers0.and (hf1.pers0.and cO)) ?_
 refine jJ Tryz.f195 1 [0,1,4] [vz] ?_
 refine sS Tryz.f195 7 [0,1,4,5] [] (fun ρ=>let qa:=vs (nb ρ 5) ([]:List UInt8).length (B.length+S.length);[.slice a B.length c,vn B.length,.slice a2 S.length c2,vn S.length,vn (B.length+S.length),qa,qa]) (fun ρ=>[(5,(nw ρ 5 (cL (zB (B.length+S.length)) 5)))]) (cR [[],[],[],[]]<|jW (fun ρ=>(((B.length:Nat):Int)+((S.length:Nat):Int))) (fun _=>(B.length+S.length)) (fun _=>(aW B.length S.length (by omega)))<|cX (uB _ (fun _=>do pure (Next.value (← Instr.makeSlice 37 (vi 0) (vn (B.length+S.length))))) (fun _ ζ=>(vs (ζ.headD 0) ([]:List UInt8).length (B.length+S.length))) (fun _ _=>(cL (zB (B.length+S.length)) 5)) (fun _ _=>(by kernel_rfl)) (fun _=>(by kernel_rfl)) (fun _ _=>trivial) (fun _ _ w _=>mM Tryz.underlying37 nH ([]:List UInt8) (rfl) (rfl) (Nat.zero_le _) hl w))<|jE [[]]) (fun ρ2=>?_)
 refine sS Tryz.f195 4 [1,4,5] [] (fun _=>let qa:=vs (nb ρ2 5) (([]:List UInt8)++B).length (B.length+S.length);[vs (nb ρ2 5) ([]:List UInt8).length (B.length+S.length),.slice a B.length c,qa,qa]) (fun _=>[(2,(bD 0 (nb ρ2 5) (cL (inpl (zB (B.length+S.length)) ([]:List UInt8).length (bs B)) 5)))]) (cR [[],[]]<|cX (o9 _ 0 (fun _=>do pure (Next.value (← Builtin.append_ #[37,37] 37 #[vs (nb ρ2 5) ([]:List UInt8).length (B.length+S.length),.slice a B.length c]))) (fun _=>nb ρ2 5) (fun _=>(cL (zB (B.length+S.length)) 5)) (fun _=>(cL (inpl (zB (B.length+S.length)) ([]:List UInt8).length (bs B)) 5)) (fun _=>(vs (nb ρ2 5) (([]:List UInt8)++B).length (B.length+S.length))) (fun _=>(by kernel_rfl)) (fun _=>(by kernel_rfl)) (fun _=>(by kernel_rfl)) (fun _=>(by kernel_rfl)) (fun _ _=>trivial) (fun _ _ _ hG hg=>kD Tryz.underlying37 nH hg (Bs.src (tx:=37) Tryz.underlying37 hG.fn.1) (oD _) (by simp only [List.length_nil];omega)))<|jE [[]]) (fun _=>?_)
 refine sS Tryz.f195 4 [4] [] (fun _=>let qa:=vs (nb ρ2 5) ((([]:List UInt8)++B)++S).length (B.length+S.length);[vs (nb ρ2 5) (([]:List UInt8)++B).length (B.length+S.length),.slice a2 S.length c2,qa,qa]) (fun _=>[(2,(bD 0 (nb ρ2 5) (cL (inpl (inpl (zB (B.length+S.length)) ([]:List UInt8).length (bs B)) (([]:List UInt8)++B).length (bs S)) 5)))]) (cR [[],[]]<|cX (o9 _ 0 (fun _=>do pure (Next.value (← Builtin.append_ #[37,37] 37 #[vs (nb ρ2 5) (([]:List UInt8)++B).length (B.length+S.length),.slice a2 S.length c2]))) (fun _=>nb ρ2 5) (fun _=>(cL (inpl (zB (B.length+S.length)) ([]:List UInt8).length (bs B)) 5)) (fun _=>(cL (inpl (inpl (zB (B.length+S.length)) ([]:List UInt8).length (bs B)) (([]:List UInt8)++B).length (bs S)) 5)) (fun _=>(vs (nb ρ2 5) ((([]:List UInt8)++B)++S).length (B.length+S.length))) (fun _=>(by kernel_rfl)) (fun _=>(by kernel_rfl)) (fun _=>(by kernel_rfl)) (fun _=>(by kernel_rfl)) (fun _ _=>trivial) (fun _ _ _ hG hg=>kD Tryz.underlying37 nH hg (Bs.src (tx:=37) Tryz.underlying37 hG.fn.2.1) ((lG _ _ _ (room_le (oD _) (by simp only [List.length_nil];omega))).trans (oD _)) (Nat.le_refl _)))<|jE [[]]) (fun _=>?_)
 refine aF (mD [(4,(vs (nb ρ2 5) ((([]:List UInt8)++B)++S).length (B.length+S.length)))] [(nb ρ2 5,(cL (inpl (inpl (zB (B.length+S.length)) ([]:List UInt8).length (bs B)) (([]:List UInt8)++B).length (bs S)) 5))] ?_)
 exact mR (v:=(vs (nb ρ2 5) ((([]:List UInt8)++B)++S).length (B.length+S.length))) (fun _ hS=>⟨some ⟨nb ρ2 5,0,none⟩,B.length+S.length,congrArg Ending.returned (rfl),hS.bel,dU (rfl) (hS.fresh (.head _) (Hd.inpl (Hd.inpl (Hd.nil _) rfl) rfl) (oK (Nat.le_refl _)) (oK hl))⟩)
theorem lowest_any (n:Nat) (m:Nat) (hn:n<18446744073709551616) (hm:m≤8) (w0:World):Calls Tryz.prog 196 #[vx n,vn m] w0 (fun ε w'=>∃ α κ,ε=.returned (.slice α (leB n m).length κ)∧jG w0 w'∧Fs w0 w' α κ (leB n m)):=by
 refine Calls.of_ok (n:=23) (F:=(fun _=>True)) Tryz.func196 rfl rfl rfl (by simp) jT ?_
 refine jJ Tryz.f196 1 [0,1,4] [vz] ?_
 refine sS Tryz.f196 3 [0,1,4,5] [] (fun ρ=>let qa:=vs (nb ρ 1) (List.replicate m (0:UInt8)).length m;[vn m,qa,qa]) (fun ρ=>[(1,(nw ρ 1 (cL (zB m) 5)))]) (cR [[]]<|cX (uB _ (fun _=>do pure (Next.value (← Instr.makeSlice 37 (vn m) (vn m)))) (fun _ ζ=>(vs (ζ.headD 0) (List.replicate m (0:UInt8)).length m)) (fun _ _=>(cL (zB m) 5)) (fun _ _=>(by kernel_rfl)) (fun _=>(by kernel_rfl)) (fun _ _=>trivial) (fun _ _ w _=>mM Tryz.underlying37 nH (List.replicate m (0:UInt8)) ((rfl).trans (by rw [List.length_replicate])) (rfl) (by rw [List.length_replicate];exact Nat.le_refl _) (by omega) w))<|jE [[]]) (fun ρ2=>?_)
 refine aB (jJ Tryz.f196 2 [0,4,5,9,10] [vn m,vi 0] (aI ?_))
 refine oL (σ:=Nat) (fun i=>[(0,(vx n)),(4,vz),(5,(vs (nb ρ2 1) (List.replicate m (0:UInt8)).length m)),(9,(vn m)),(10,(vn i))]) (fun i=>[(nb ρ2 1,(cL (oZ n m i) 5))]) (fun i=>m-i)
   (fun i=>(i≤m)) 0 (Nat.zero_le m) [] ?_
 rintro i hi
 change Ok Tryz.prog _ _ 23 [(0,(vx n)),(4,vz),(5,(vs (nb ρ2 1) (List.replicate m (0:UInt8)).length m)),(9,(vn m)),(10,(vn i))] _ [(nb ρ2 1,(cL (oZ n m i) 5))] (fun _=>True)
 refine jJ Tryz.f196 1 [0,4,5,9,10,11] [.bool (decide (((i:Nat):Int)<((m:Nat):Int)))] (aB ?_)
 refine oC (decide (((i:Nat):Int)<((m:Nat):Int))) (fun hb1=>?_) (fun hb1=>?_)
 ·
  rw [hb1]
  have:=yT hb1
  refine aG (aA (aB (aI (jJ Tryz.f196 2 [0,4,5,6,9,10] [vn i,vn i] ?_))))
  refine rS Tryz.f196 9 [0,4,5,9,10] [] (fun _=>[vs (nb ρ2 1) (List.replicate m (0:UInt8)).length m,vn i,vx n,vn i,vn (8*i),vx (n / 2^(8*i)),vy (n / 256^i%256),jp (nb ρ2 1) i,undef]) (fun _=>[(8,(bD 0 (nb ρ2 1) (cL (oZ n m (i+1)) 5)))]) (cR [[],[],[],[]]<|jW (fun ρ=>(8*((i:Nat):Int))) (fun _=>(8*i)) (fun _=>(fQ 8 i (by have:=List.length_replicate (n:=m) (a:=(0:UInt8));omega)))<|cB (a:=fun ρ=>(vx n)) (b:=fun ρ=>(vn (8*i))) (v:=fun ρ=>(vx (n / 2^(8*i)))) .shr 62 (fun _ w=>gG (k:=.u64) hn w)<|cA (fun _=>(vy (n / 256^i%256))) (fun _=>congrArg (Value.int .u8) (low_byte n i))<|cX (qS (fun _ w=>uI (g:=nb ρ2 1) (c:=m) (k:=.i64) Tryz.underlying37 nH (show ((i:Nat):Int)=((i:Nat):Int) from rfl) (show i<(List.replicate m (0:UInt8)).length from (by rw [List.length_replicate];have:=List.length_replicate (n:=m) (a:=(0:UInt8));omega)) w))<|cX (qG _ 0 5 (fun _=>nb ρ2 1) (fun _=>i) (fun _=>(oZ n m i)) (fun _=>(oZ n m (i+1))) 5 (fun _=>(vy (n / 256^i%256))) (fun _=>by kernel_rfl) Tryz.sizeOf5 (fun _=>rfl) (fun _=>(by rw [fill_size hi];have:=List.length_replicate (n:=m) (a:=(0:UInt8));omega)) (fun _=>(fill_set (by have:=List.length_replicate (n:=m) (a:=(0:UInt8));omega))))<|cN) (fun _=>?_)
  refine aJ (aA ?_)
  refine rS Tryz.f196 2 [0,4,5,9,10] [] (fun _=>[vn (i+1),vn (i+1)]) (fun _=>[]) (jW (fun ρ=>(((i:Nat):Int)+1)) (fun _=>(i+1)) (fun _=>(aW i 1 (by have:=List.length_replicate (n:=m) (a:=(0:UInt8));omega)))<|jE [[]]) (fun _=>?_)
  exact mN (i+1) (by show m-(i+1)<m-i;have:=List.length_replicate (n:=m) (a:=(0:UInt8));omega) (by show i+1≤m;have:=List.length_replicate (n:=m) (a:=(0:UInt8));omega) []
 rw [hb1]
 refine bF (aN (aN (aT (aA (jJ Tryz.f196 2 [4] (let qa:=vs (nb ρ2 1) (List.replicate m (0:UInt8)).length m;[qa,qa]) (aF (mD [(4,(vs (nb ρ2 1) (List.replicate m (0:UInt8)).length m))] [(nb ρ2 1,(cL (oZ n m i) 5))] ?_)))))))
 exact mR (v:=(vs (nb ρ2 1) (List.replicate m (0:UInt8)).length m)) (fun _ hS=>⟨some ⟨nb ρ2 1,0,none⟩,m,congrArg Ending.returned (by rw [List.length_replicate,eQ]),hS.bel,dU (fill_end (by have:=yF hb1;have:=List.length_replicate (n:=m) (a:=(0:UInt8));omega)) (hS.fresh (.head _) (Hd.all _) (Nat.le_of_eq (zX hi)) (by rw [zX hi];omega))⟩)
theorem little_any (n:Nat) (m:Nat) (hn:n<18446744073709551616) (hm:m≤8) (w0:World):Calls Tryz.prog 143 #[vx n,vn m] w0 (fun ε w'=>∃ α κ,ε=.returned (.slice α (leB n m).length κ)∧jG w0 w'∧Fs w0 w' α κ (leB n m)):=by
 refine Calls.of_ok (n:=24) (F:=(fun _=>True)) Tryz.func143 rfl rfl rfl (by simp) jT ?_
 refine jJ Tryz.f143 1 [0,1,4] [vz] ?_
 refine sS Tryz.f143 3 [0,4,5] [] (fun ρ=>let qa:=vs (nb ρ 1) (List.replicate m (0:UInt8)).length m;[vn m,qa,qa]) (fun ρ=>[(1,(nw ρ 1 (cL (zB m) 5)))]) (cR [[]]<|cX (uB _ (fun _=>do pure (Next.value (← Instr.makeSlice 37 (vn m) (vn m)))) (fun _ ζ=>(vs (ζ.headD 0) (List.replicate m (0:UInt8)).length m)) (fun _ _=>(cL (zB m) 5)) (fun _ _=>(by kernel_rfl)) (fun _=>(by kernel_rfl)) (fun _ _=>trivial) (fun _ _ w _=>mM Tryz.underlying37 nH (List.replicate m (0:UInt8)) ((rfl).trans (by rw [List.length_replicate])) (rfl) (by rw [List.length_replicate];exact Nat.le_refl _) (by omega) w))<|jE [[]]) (fun ρ2=>?_)
 refine aB (jJ Tryz.f143 3 [0,4,5,10,11] [vs (nb ρ2 1) (List.replicate m (0:UInt8)).length m,vn (List.replicate m (0:UInt8)).length,vi 0] (aI ?_))
 refine oL (σ:=Nat) (fun i=>[(0,(vx n)),(4,vz),(5,(vs (nb ρ2 1) (List.replicate m (0:UInt8)).length m)),(10,(vn (List.replicate m (0:UInt8)).length)),(11,(vn i))]) (fun i=>[(nb ρ2 1,(cL (oZ n m i) 5))]) (fun i=>m-i)
   (fun i=>(i≤m)) 0 (Nat.zero_le m) [] ?_
 rintro i hi
 change Ok Tryz.prog _ _ 24 [(0,(vx n)),(4,vz),(5,(vs (nb ρ2 1) (List.replicate m (0:UInt8)).length m)),(10,(vn (List.replicate m (0:UInt8)).length)),(11,(vn i))] _ [(nb ρ2 1,(cL (oZ n m i) 5))] (fun _=>True)
 refine jJ Tryz.f143 1 [0,4,5,10,11,12] [.bool (decide (((i:Nat):Int)<(((List.replicate m (0:UInt8)).length:Nat):Int)))] (aB ?_)
 refine oC (decide (((i:Nat):Int)<(((List.replicate m (0:UInt8)).length:Nat):Int))) (fun hb1=>?_) (fun hb1=>?_)
 ·
  rw [hb1]
  have:=yT hb1
  refine aG (aA (aB (aI (jJ Tryz.f143 2 [0,4,5,6,10,11] [vn i,vn i] ?_))))
  refine rS Tryz.f143 9 [0,4,5,10,11] [] (fun _=>[vs (nb ρ2 1) (List.replicate m (0:UInt8)).length m,vn i,vx n,vn i,vn (8*i),vx (n / 2^(8*i)),vy (n / 256^i%256),jp (nb ρ2 1) i,undef]) (fun _=>[(8,(bD 0 (nb ρ2 1) (cL (oZ n m (i+1)) 5)))]) (cR [[],[],[],[]]<|jW (fun ρ=>(8*((i:Nat):Int))) (fun _=>(8*i)) (fun _=>(fQ 8 i (by have:=List.length_replicate (n:=m) (a:=(0:UInt8));omega)))<|cB (a:=fun ρ=>(vx n)) (b:=fun ρ=>(vn (8*i))) (v:=fun ρ=>(vx (n / 2^(8*i)))) .shr 62 (fun _ w=>gG (k:=.u64) hn w)<|cA (fun _=>(vy (n / 256^i%256))) (fun _=>congrArg (Value.int .u8) (low_byte n i))<|cX (qS (fun _ w=>uI (g:=nb ρ2 1) (c:=m) (k:=.i64) Tryz.underlying37 nH (show ((i:Nat):Int)=((i:Nat):Int) from rfl) (show i<(List.replicate m (0:UInt8)).length from (by rw [List.length_replicate];have:=List.length_replicate (n:=m) (a:=(0:UInt8));omega)) w))<|cX (qG _ 0 5 (fun _=>nb ρ2 1) (fun _=>i) (fun _=>(oZ n m i)) (fun _=>(oZ n m (i+1))) 5 (fun _=>(vy (n / 256^i%256))) (fun _=>by kernel_rfl) Tryz.sizeOf5 (fun _=>rfl) (fun _=>(by rw [fill_size hi];have:=List.length_replicate (n:=m) (a:=(0:UInt8));omega)) (fun _=>(fill_set (by have:=List.length_replicate (n:=m) (a:=(0:UInt8));omega))))<|cN) (fun _=>?_)
  refine aJ (aA ?_)
  refine rS Tryz.f143 2 [0,4,5,10,11] [] (fun _=>[vn (i+1),vn (i+1)]) (fun _=>[]) (jW (fun ρ=>(((i:Nat):Int)+1)) (fun _=>(i+1)) (fun _=>(aW i 1 (by have:=List.length_replicate (n:=m) (a:=(0:UInt8));omega)))<|jE [[]]) (fun _=>?_)
  exact mN (i+1) (by show m-(i+1)<m-i;have:=List.length_replicate (n:=m) (a:=(0:UInt8));omega) (by show i+1≤m;have:=List.length_replicate (n:=m) (a:=(0:UInt8));omega) []
 rw [hb1]
 refine bF (aN (aN (aT (aA (jJ Tryz.f143 2 [4] (let qa:=vs (nb ρ2 1) (List.replicate m (0:UInt8)).length m;[qa,qa]) (aF (mD [(4,(vs (nb ρ2 1) (List.replicate m (0:UInt8)).length m))] [(nb ρ2 1,(cL (oZ n m i) 5))] ?_)))))))
 exact mR (v:=(vs (nb ρ2 1) (List.replicate m (0:UInt8)).length m)) (fun _ hS=>⟨some ⟨nb ρ2 1,0,none⟩,m,congrArg Ending.returned (by rw [List.length_replicate,eQ]),hS.bel,dU (fill_end (by have:=yF hb1;have:=List.length_replicate (n:=m) (a:=(0:UInt8));omega)) (hS.fresh (.head _) (Hd.all _) (Nat.le_of_eq (zX hi)) (by rw [zX hi];omega))⟩)
theorem yX (a:Option Addr) (c:Nat) (B:List UInt8) (n:Nat) (hn:n<4294967296) (hl:B.length+8≤140737488351232) (w0:World) (hf0:Bs w0 a c B):Calls Tryz.prog 176 #[.slice a B.length c,vu n] w0 (fun ε w'=>∃ α κ,ε=.returned (.slice α (B++leB n 4).length κ)∧jG w0 w'∧Fs w0 w' α κ (B++leB n 4)):=by
 refine Calls.of_ok (n:=10) (F:=(fun w=>Bs w a c B∧True)) Tryz.func176 rfl rfl rfl (by simp) (hf0.pers0.and cO) ?_
 refine jJ Tryz.f176 1 [0,1,4] [vz] ?_
 refine iZ Tryz.f176 6 [4] [] (fun ρ=>let qa:Value:=.slice (oa ρ 4) (B++(leB n 4)).length (nb ρ 4);[.slice a B.length c,vu n,vx n,.slice (oa ρ 3) (leB n 4).length (nb ρ 3),qa,qa]) (fun _=>[]) (fun ρ=>[(3,fun w=>Fs w0 w (oa ρ 3) (nb ρ 3) (leB n 4)),(4,fun w=>Fs w0 w (oa ρ 4) (nb ρ 4) (B++(leB n 4)))]) (fun ρ=>(fun w=>Bs w a c B∧Fs w0 w (oa ρ 3) (nb ρ 3) (leB n 4)∧Fs w0 w (oa ρ 4) (nb ρ 4) (B++(leB n 4))∧True)) (fun _=>True) (fun _ _ hF hf=>⟨⟨hF.1,hf 3,hf 4,trivial⟩,trivial⟩) (cR [[],[]]<|cA (v:=fun ρ=>(.int .u64 (IntKind.u64.wrap ((n:Nat):Int)))) (fun _=>(vx n)) (fun _=>congrArg (Value.int .u64) (u64N (by omega)))<|cX (qB (fun _ _ w _=>lowest_any n 4 (by omega) (by omega) w))<|cX (qB (fun ρ _ w hG=>extend_any a c B (oa ρ 3) (nb ρ 3) (leB n 4) (by simp only [eQ];omega) w hG.fn.1 (show Fs w0 w (oa ρ 3) (nb ρ 3) (leB n 4) from (hG.facts 3 rfl).now).1))<|jE [[]]) (fun ρ2 _=>?_)
 refine aF (mD [(4,(.slice (oa ρ2 4) (B++(leB n 4)).length (nb ρ2 4)))] [] ?_)
 exact mR (v:=(.slice (oa ρ2 4) (B++(leB n 4)).length (nb ρ2 4))) (fun _ hS=>⟨oa ρ2 4,nb ρ2 4,congrArg Ending.returned (rfl),hS.bel,dU (rfl) hS.facts.now.2.2.1⟩)
theorem rM (a:Option Addr) (c:Nat) (B:List UInt8) (n:Nat) (hn:n<4294967296) (hl:B.length+8≤140737488351232) (w0:World) (hf0:Bs w0 a c B):Calls Tryz.prog 114 #[.slice a B.length c,vu n] w0 (fun ε w'=>∃ α κ,ε=.returned (.slice α (B++leB n 4).length κ)∧jG w0 w'∧Fs w0 w' α κ (B++leB n 4)):=by
 refine Calls.of_ok (n:=10) (F:=(fun w=>Bs w a c B∧True)) Tryz.func114 rfl rfl rfl (by simp) (hf0.pers0.and cO) ?_
 refine jJ Tryz.f114 1 [0,1,4] [vz] ?_
 refine iZ Tryz.f114 6 [4] [] (fun ρ=>let qa:Value:=.slice (oa ρ 4) (B++(leB n 4)).length (nb ρ 4);[.slice a B.length c,vu n,vx n,.slice (oa ρ 3) (leB n 4).length (nb ρ 3),qa,qa]) (fun _=>[]) (fun ρ=>[(3,fun w=>Fs w0 w (oa ρ 3) (nb ρ 3) (leB n 4)),(4,fun w=>Fs w0 w (oa ρ 4) (nb ρ 4) (B++(leB n 4)))]) (fun ρ=>(fun w=>Bs w a c B∧Fs w0 w (oa ρ 3) (nb ρ 3) (leB n 4)∧Fs w0 w (oa ρ 4) (nb ρ 4) (B++(leB n 4))∧True)) (fun _=>True) (fun _ _ hF hf=>⟨⟨hF.1,hf 3,hf 4,trivial⟩,trivial⟩) (cR [[],[]]<|cA (v:=fun ρ=>(.int .u64 (IntKind.u64.wrap ((n:Nat):Int)))) (fun _=>(vx n)) (fun _=>congrArg (Value.int .u64) (u64N (by omega)))<|cX (qB (fun _ _ w _=>little_any n 4 (by omega) (by omega) w))<|cX (qB (fun ρ _ w hG=>tZ a c B (oa ρ 3) (nb ρ 3) (leB n 4) (by simp only [eQ];omega) w hG.fn.1 (show Fs w0 w (oa ρ 3) (nb ρ 3) (leB n 4) from (hG.facts 3 rfl).now).1))<|jE [[]]) (fun ρ2 _=>?_)
 refine aF (mD [(4,(.slice (oa ρ2 4) (B++(leB n 4)).length (nb ρ2 4)))] [] ?_)
 exact mR (v:=(.slice (oa ρ2 4) (B++(leB n 4)).length (nb ρ2 4))) (fun _ hS=>⟨oa ρ2 4,nb ρ2 4,congrArg Ending.returned (rfl),hS.bel,dU (rfl) hS.facts.now.2.2.1⟩)
theorem twk_any (k:Ky) (i:Nat) (_hk:k.Ok) (hi:i<4294967296) (w0:World) (hf0:kJ w0) (hf1:fU w0):Calls Tryz.prog 156 #[.agg (kY k),vu i] w0 (jR (.agg (hB (bT k i))) w0):=by
 refine Calls.of_ok (n:=24) (F:=(fun w=>kJ w∧fU w∧True)) Tryz.func156 rfl rfl rfl (by simp) (hf0.pers0.and (hf1.pers0.and cO)) ?_
 refine sS Tryz.f156 2 [1,2,4] [] (fun ρ=>[pt (nb ρ 0),pt (nb ρ 1)]) (fun ρ=>[(0,(nw ρ 0 (cL (kY k) 66))),(1,(nw ρ 1 (cL (hB 0) 57)))]) (jE [[],[]]) (fun ρ1=>?_)
 refine sS Tryz.f156 6 [1,2,4,5,6] [] (fun ρ=>[jp (nb ρ1 0) 4,U k.p,.agg (hB k.p),pt (nb ρ 3),.string ⟨#[108,105,103,104,116,99,108,105,101,110,116,47,115,111,102,116]⟩,undef]) (fun ρ=>[(3,(nw ρ 3 (cL (hB 0) 57))),(5,(bD 26 (nb ρ 3) (cL (hB k.p) 57)))]) (cR [[],[0]]<|cC (fun _ w=>pW k.p w)<|jE [[],[],[26]]) (fun ρ2=>?_)
 refine aB (jJ Tryz.f156 2 [1,2,4,5,6,11] [vu i,.bool (decide (2147483648≤((i:Nat):Int)))] ?_)
 refine oC (decide (2147483648≤((i:Nat):Int))) (fun hb1=>?_) (fun hb1=>?_)
 ·
  rw [hb1]
  refine rS Tryz.f156 5 [1,2,4,5,6] [] (fun _=>[pt (nb ρ1 0),U k.s,.agg (hB k.s),.string ⟨#[108,105,103,104,116,99,108,105,101,110,116,47,104,97,114,100]⟩,undef]) (fun _=>[(4,(bD 2 (nb ρ2 3) (cL (hB k.s) 57)))]) (cR [[],[0]]<|cC (fun _ w=>pW k.s w)<|jE [[],[2]]) (fun _=>?_)
  refine aA ?_
  refine sDf Tryz.f156 [0,0,2,0,14,30,0,126,255,511] 10 [4] [0,1,0,0] (fun ρ=>[.string ⟨#[108,105,103,104,116,99,108,105,101,110,116,47,104,97,114,100]⟩,jp (nb ρ1 0) 8,.slice (some ⟨nb ρ1 0,8,none⟩) (hL k.c).length 32,vs (nb ρ2 3) (hL k.s).length 32,vs (nb ρ 4) 2 2,.slice (oa ρ 5) ((hL k.c)++(hL k.s)).length (nb ρ 5),vu i,.slice (oa ρ 7) (((hL k.c)++(hL k.s))++leB i 4).length (nb ρ 7),.agg (hB (lV tgH (((hL k.c)++(hL k.s))++leB i 4))),undef]) (fun ρ=>[(4,(nw ρ 4 (cL #[.slice (some ⟨nb ρ1 0,8,none⟩) (hL k.c).length 32,vs (nb ρ2 3) (hL k.s).length 32] 37))),(9,(bD 1 (nb ρ1 1) (cL (hB (lV tgH (((hL k.c)++(hL k.s))++leB i 4))) 57)))]) (fun ρ=>[(5,fun w=>Fs w0 w (oa ρ 5) (nb ρ 5) ((hL k.c)++(hL k.s))),(7,fun w=>Fs w0 w (oa ρ 7) (nb ρ 7) (((hL k.c)++(hL k.s))++leB i 4))]) (fun ρ=>(fun w=>kJ w∧fU w∧Fs w0 w (oa ρ 5) (nb ρ 5) ((hL k.c)++(hL k.s))∧Fs w0 w (oa ρ 7) (nb ρ 7) (((hL k.c)++(hL k.s))++leB i 4)∧True)) (fun _=>True) (fun _ _ hF hf=>⟨⟨hF.1,hF.2.1,hf 5,hf 7,trivial⟩,trivial⟩) (cR [[],[],[],[],[]]<|cX (qB (fun ρ _ w hG=>concat2_any (nb ρ 4) (some ⟨nb ρ1 0,8,none⟩) 32 (hL k.c) (some ⟨nb ρ2 3,0,none⟩) 32 (hL k.s) (by simp only [aO];omega) (by rw [aO];decide) w (Kb.of_block (hG.kn (g:=nb ρ 4) (o:=(cL #[.slice (some ⟨nb ρ1 0,8,none⟩) (hL k.c).length 32,vs (nb ρ2 3) (hL k.s).length 32] 37)) 35)) (Bs.of_key (hG.kn (g:=nb ρ1 0) (o:=(cL (kY k) 66)) 0)) (Bs.of_hd (c:=32) (hG.kn (g:=nb ρ2 3) (o:=(cL (hB k.s) 57)) 2) (tN _) (Nat.le_refl _) (Nat.le_of_ble_eq_true rfl))))<|cR [[]]<|cX (qB (fun ρ _ w hG=>yX (oa ρ 5) (nb ρ 5) ((hL k.c)++(hL k.s)) i (by have:=yT hb1;omega) (by simp only [List.length_append,aO];have:=yT hb1;omega) w (show Fs w0 w (oa ρ 5) (nb ρ 5) ((hL k.c)++(hL k.s)) from (hG.facts 5 rfl).now).1))<|cX (qC (fun ρ _ w hG=>yM tgH (oa ρ 7) (nb ρ 7) (((hL k.c)++(hL k.s))++leB i 4) (by decide) (by simp only [List.length_append,aO,eQ];omega) w (show Fs w0 w (oa ρ 7) (nb ρ 7) (((hL k.c)++(hL k.s))++leB i 4) from (hG.facts 7 rfl).now).1 hG.fn.1 hG.fn.2.1))<|jE [[1]]) (fun _ _=>?_)
  refine aF ?_
  exact mR (v:=(.agg (hB (lV tgH (((hL k.c)++(hL k.s))++leB i 4))))) (fun _ hS=>⟨congrArg Ending.returned (congrArg (fun z=>Value.agg (hB z)) (twk_1 hb1)),hS.bel⟩)
 rw [hb1]
 refine aG (aA ?_)
 refine sDf Tryz.f156 [0,0,2,0,14,30,0,126,255,511] 10 [4] [0,1,0,0] (fun ρ=>[.string ⟨#[108,105,103,104,116,99,108,105,101,110,116,47,115,111,102,116]⟩,jp (nb ρ1 0) 8,.slice (some ⟨nb ρ1 0,8,none⟩) (hL k.c).length 32,vs (nb ρ2 3) (hL k.p).length 32,vs (nb ρ 4) 2 2,.slice (oa ρ 5) ((hL k.c)++(hL k.p)).length (nb ρ 5),vu i,.slice (oa ρ 7) (((hL k.c)++(hL k.p))++leB i 4).length (nb ρ 7),.agg (hB (lV tgS (((hL k.c)++(hL k.p))++leB i 4))),undef]) (fun ρ=>[(4,(nw ρ 4 (cL #[.slice (some ⟨nb ρ1 0,8,none⟩) (hL k.c).length 32,vs (nb ρ2 3) (hL k.p).length 32] 37))),(9,(bD 1 (nb ρ1 1) (cL (hB (lV tgS (((hL k.c)++(hL k.p))++leB i 4))) 57)))]) (fun ρ=>[(5,fun w=>Fs w0 w (oa ρ 5) (nb ρ 5) ((hL k.c)++(hL k.p))),(7,fun w=>Fs w0 w (oa ρ 7) (nb ρ 7) (((hL k.c)++(hL k.p))++leB i 4))]) (fun ρ=>(fun w=>kJ w∧fU w∧Fs w0 w (oa ρ 5) (nb ρ 5) ((hL k.c)++(hL k.p))∧Fs w0 w (oa ρ 7) (nb ρ 7) (((hL k.c)++(hL k.p))++leB i 4)∧True)) (fun _=>True) (fun _ _ hF hf=>⟨⟨hF.1,hF.2.1,hf 5,hf 7,trivial⟩,trivial⟩) (cR [[],[],[],[],[]]<|cX (qB (fun ρ _ w hG=>concat2_any (nb ρ 4) (some ⟨nb ρ1 0,8,none⟩) 32 (hL k.c) (some ⟨nb ρ2 3,0,none⟩) 32 (hL k.p) (by simp only [aO];omega) (by rw [aO];decide) w (Kb.of_block (hG.kn (g:=nb ρ 4) (o:=(cL #[.slice (some ⟨nb ρ1 0,8,none⟩) (hL k.c).length 32,vs (nb ρ2 3) (hL k.p).length 32] 37)) 35)) (Bs.of_key (hG.kn (g:=nb ρ1 0) (o:=(cL (kY k) 66)) 0)) (Bs.of_hd (c:=32) (hG.kn (g:=nb ρ2 3) (o:=(cL (hB k.p) 57)) 2) (tN _) (Nat.le_refl _) (Nat.le_of_ble_eq_true rfl))))<|cR [[]]<|cX (qB (fun ρ _ w hG=>yX (oa ρ 5) (nb ρ 5) ((hL k.c)++(hL k.p)) i (by have:=yF hb1;omega) (by simp only [List.length_append,aO];have:=yF hb1;omega) w (show Fs w0 w (oa ρ 5) (nb ρ 5) ((hL k.c)++(hL k.p)) from (hG.facts 5 rfl).now).1))<|cX (qC (fun ρ _ w hG=>yM tgS (oa ρ 7) (nb ρ 7) (((hL k.c)++(hL k.p))++leB i 4) (by decide) (by simp only [List.length_append,aO,eQ];omega) w (show Fs w0 w (oa ρ 7) (nb ρ 7) (((hL k.c)++(hL k.p))++leB i 4) from (hG.facts 7 rfl).now).1 hG.fn.1 hG.fn.2.1))<|jE [[1]]) (fun _ _=>?_)
 refine aF ?_
 exact mR (v:=(.agg (hB (lV tgS (((hL k.c)++(hL k.p))++leB i 4))))) (fun _ hS=>⟨congrArg Ending.returned (congrArg (fun z=>Value.agg (hB z)) (twk_0 hb1)),hS.bel⟩)
theorem child_any (k:Ky) (i:Nat) (hk:k.Ok) (hi:i<4294967296) (w0:World) (hf0:kJ w0) (hf1:fU w0):Calls Tryz.prog 135 #[.agg (kY k),vu i] w0 (jR (.tuple #[.agg (kY (chK k i)),vi (chE k i)]) w0):=by
 refine Calls.of_ok (n:=77) (F:=(fun w=>kJ w∧fU w∧True)) Tryz.func135 rfl rfl rfl (by simp) (hf0.pers0.and (hf1.pers0.and cO)) ?_
 refine sS Tryz.f135 3 [1,2,4,5] [] (fun ρ=>[pt (nb ρ 0),pt (nb ρ 1),vi 0]) (fun ρ=>[(0,(nw ρ 0 (cL (kY k) 66))),(1,(nw ρ 1 (cL (kC 0 0 0 0 0 0) 66)))]) (jE [[],[],[]]) (fun ρ1=>?_)
 refine sS Tryz.f135 5 [1,2,4,5,6] [] (fun _=>let qa:Value:=.bool (!decide (k.s=0));[pt (nb ρ1 0),U k.s,U 0,qa,qa]) (fun _=>[]) (cR [[],[0],[]]<|cB (a:=fun ρ=>(U k.s)) (b:=fun ρ=>(U 0)) (v:=fun ρ=>(.bool (!decide (k.s=0)))) .neq 64 (fun _ _=>neqU k.s 0 hk.s (by decide +kernel) _)<|jE [[]]) (fun _=>?_)
 refine aB (aI ?_)
 refine sS Tryz.f135 4 [1,2,4,5,6,14] [] (fun _=>[.agg (kY k),.bool (fC k),.bool (!(fC k)),.bool (!(fC k))]) (fun _=>[]) (cR [[0]]<|cC (fun _ w=>yN k hk w)<|jE [[],[]]) (fun _=>?_)
 refine oC (!(fC k)) (fun hb1=>?_) (fun hb1=>?_)
 ·
  rw [hb1]
  refine sS Tryz.f135 3 [1,2,4,5,6] [] (fun _=>[.agg (kC 0 0 0 0 0 0),undef,vi 6]) (fun _=>[(1,(bD 1 (nb ρ1 1) (cL (kC 0 0 0 0 0 0) 66)))]) (jE [[],[1],[]]) (fun _=>?_)
  refine aF (aP (aC ?_))
  exact mR (v:=(.tuple #[.agg (kC 0 0 0 0 0 0),vi 6])) (ps:=[1,1,1,1,1,1,1,1,1,1,1,1,1,1,1,1,1,1,1,1,1,1,1,1,1,1,1,1,1,1,1,1,1,1,1,1,1,1,1,1,1,1,1]) (fun _ hS=>⟨by rw [(ch_6 (dF hb1)).1,(ch_6 (dF hb1)).2];rfl,hS.bel⟩)
 rw [hb1]
 refine jM Tryz.f135 4 [1,2,4,5,6,19] [] [jp (nb ρ1 0) 40,vi k.d,.bool (k.d==8),.bool (k.d==8)] [[],[0],[],[]] ?_
 refine oC (k.d==8) (fun hb2=>?_) (fun hb2=>?_)
 ·
  rw [hb2]
  refine sS Tryz.f135 3 [1,2,4,5,6] [] (fun _=>[.agg (kC 0 0 0 0 0 0),undef,vi 4]) (fun _=>[(1,(bD 1 (nb ρ1 1) (cL (kC 0 0 0 0 0 0) 66)))]) (jE [[],[1],[]]) (fun _=>?_)
  refine aF (aP (aC ?_))
  exact mR (v:=(.tuple #[.agg (kC 0 0 0 0 0 0),vi 4])) (ps:=[1,1,1,1,1,1,1,1,1,1,1,1,1,1,1,1,1,1,1,1,1,1,1,1,1,1,1,1,1,1,1,1,1,1,1,1,1,1,1,1,1,1,1]) (fun _ hS=>⟨by rw [(ch_4 (i:=i) (aV hb1) (xQ hb2)).1,(ch_4 (i:=i) (aV hb1) (xQ hb2)).2];rfl,hS.bel⟩)
 rw [hb2]
 rcases Bool.eq_false_or_eq_true (decide (2147483648≤((i:Nat):Int))) with hb3 | hb3
 ·
  refine sS Tryz.f135 7 [1,2,4,5,6,24] [] (fun _=>let qa:Value:=.bool (!(!decide (k.s=0)));[vu i,vT,vT,.bool (!decide (k.s=0)),qa,qa,qa]) (fun _=>[]) (cR [[]]<|cA (fun _=>vT) (fun _=>congrArg Value.bool hb3)<|jE [[],[],[],[],[]]) (fun _=>?_)
  refine oC (!(!decide (k.s=0))) (fun hb4=>?_) (fun hb4=>?_)
  ·
   rw [hb4]
   refine sS Tryz.f135 3 [1,2,4,5,6] [] (fun _=>[.agg (kC 0 0 0 0 0 0),undef,vi 250]) (fun _=>[(1,(bD 1 (nb ρ1 1) (cL (kC 0 0 0 0 0 0) 66)))]) (jE [[],[1],[]]) (fun _=>?_)
   refine aF (aP (aC ?_))
   exact mR (v:=(.tuple #[.agg (kC 0 0 0 0 0 0),vi 250])) (ps:=[1,1,1,1,1,1,1,1,1,1,1,1,1,1,1,1,1,1,1,1,1,1,1,1,1,1,1,1,1,1,1,1,1,1,1,1,1,1,1,1,1,1,1]) (fun _ hS=>⟨by rw [(ch_250 (aV hb1) (jP hb2) (hd_t hb3) (yT (aV (dF hb4)))).1,(ch_250 (aV hb1) (jP hb2) (hd_t hb3) (yT (aV (dF hb4)))).2];rfl,hS.bel⟩)
  rw [hb4]
  refine aG (aJ (aA ?_))
  refine sS Tryz.f135 5 [1,2,4,5,6,7] [] (fun ρ=>[.agg (kY k),vu i,.agg (hB (bT k i)),pt (nb ρ 3),undef]) (fun ρ=>[(3,(nw ρ 3 (cL (hB 0) 57))),(4,(bD 26 (nb ρ 3) (cL (hB (bT k i)) 57)))]) (cR [[0],[]]<|cX (qC (fun _ _ w hG=>twk_any k i hk hi w hG.fn.1 hG.fn.2.1))<|jE [[],[26]]) (fun ρ9=>?_)
  refine sD Tryz.f135 [0,1,0,7,0,16,48,0,0,271,1023,0,4095] 13 [2,4,5,6,7,8] [] (fun ρ=>[jp (nb ρ1 0) 8,.slice (some ⟨nb ρ1 0,8,none⟩) (hL k.c).length 32,vs (nb ρ9 3) (hL (bT k i)).length 32,.agg (hB (hmN k.c (hL (bT k i)))),jp (nb ρ1 0) 40,vi k.d,vi (k.d+1),vu i,.agg (kY k),vu (o8 k.p),.agg (kC 0 0 (hmN k.c (hL (bT k i))) (k.d+1) ((i:Nat):Int) ((o8 k.p:Nat):Int)),pt (nb ρ 11),undef]) (fun ρ=>[(11,(nw ρ 11 (cL (kC 0 0 0 0 0 0) 66))),(12,(bD 91 (nb ρ 11) (cL (kC 0 0 (hmN k.c (hL (bT k i))) (k.d+1) ((i:Nat):Int) ((o8 k.p:Nat):Int)) 66)))]) (cR [[],[],[]]<|cX (qC (fun _ _ w hG=>hmac_any (some ⟨nb ρ1 0,8,none⟩) 32 k.c (some ⟨nb ρ9 3,0,none⟩) 32 (hL (bT k i)) (by rw [aO];decide) w (Bs.of_key (hG.kn (g:=nb ρ1 0) (o:=(cL (kY k) 66)) 0)) (Bs.of_hd (c:=32) (hG.kn (g:=nb ρ9 3) (o:=(cL (hB (bT k i)) 57)) 2) (tN _) (Nat.le_refl _) (Nat.le_of_ble_eq_true rfl)) hG.fn.1 hG.fn.2.1))<|cR [[],[0]]<|jU (fun ρ=>(k.d+1)) (fun _=>(k.d+1)) (fun _=>(gZ (by have:=oI (aV hb1);omega)))<|cR [[],[0]]<|cX (qC (fun _ _ w hG=>kprint_any k hk w hG.fn.1 hG.fn.2.1))<|jE [[],[],[91]]) (fun ρ10=>?_)
  refine lK [(2,(pt (nb ρ1 0))),(4,(pt (nb ρ1 1))),(5,(vi 0)),(6,(.bool (!decide (k.s=0)))),(7,(pt (nb ρ9 3))),(8,(pt (nb ρ10 11)))] [(nb ρ1 0,(cL (kY k) 66)),(nb ρ1 1,(cL (kC 0 0 0 0 0 0) 66)),(nb ρ9 3,(cL (hB (bT k i)) 57)),(nb ρ10 11,(cL (kC 0 0 (hmN k.c (hL (bT k i))) (k.d+1) ((i:Nat):Int) ((o8 k.p:Nat):Int)) 66))] ?_
  refine jJ Tryz.f135 1 [2,4,5,6,7,8,9] [vi 0] (aB (jJ Tryz.f135 1 [2,4,5,7,8,9,46] [.bool (!decide (k.s=0))] ?_))
  refine oC (!decide (k.s=0)) (fun hb5=>?_) (fun hb5=>?_)
  ·
   rw [hb5]
   refine sS Tryz.f135 10 [4,5,8,9] [0,1,0,1] (fun _=>let qa:=vi (nY k.s (bT k i));[pt (nb ρ1 0),U k.s,.agg (hB (bT k i)),.tuple #[U (fO k.s (bT k i)),qa],.tuple #[U (fO k.s (bT k i)),qa],U (fO k.s (bT k i)),qa,pt (nb ρ10 11),undef,qa]) (fun _=>[(8,(bD 3 (nb ρ10 11) (cL (kC (fO k.s (bT k i)) 0 (hmN k.c (hL (bT k i))) (k.d+1) ((i:Nat):Int) ((o8 k.p:Nat):Int)) 66)))]) (cR [[],[0],[2]]<|cC (f:=159) (args:=fun ρ=> #[U k.s,.agg (hB (bT k i))]) (v:=fun ρ=>(.tuple #[U (fO k.s (bT k i)),vi (nY k.s (bT k i))])) (fun _ w=>(fun w=>uQ k.s (bT k i) hk.s (twk_lt _ _) w) w)<|jE [[],[],[],[],[3],[]]) (fun _=>?_)
   refine jJ Tryz.f135 2 [4,5,8,9,56] [vi (nY k.s (bT k i)),.bool ((nY k.s (bT k i))==0)] ?_
   refine oC ((nY k.s (bT k i))==0) (fun hb6=>?_) (fun hb6=>?_)
   ·
    rw [hb6]
    refine rS Tryz.f135 9 [4,5,8,9] [] (fun _=>let qa:=vi (iW (fO k.s (bT k i)));[pt (nb ρ10 11),U (fO k.s (bT k i)),.tuple #[U (dK (fO k.s (bT k i))),qa],.tuple #[U (dK (fO k.s (bT k i))),qa],U (dK (fO k.s (bT k i))),qa,jp (nb ρ10 11) 4,undef,qa]) (fun _=>[(7,(bD 1 (nb ρ10 11) (cL (kC (fO k.s (bT k i)) (dK (fO k.s (bT k i))) (hmN k.c (hL (bT k i))) (k.d+1) ((i:Nat):Int) ((o8 k.p:Nat):Int)) 66)))]) (cR [[],[1]]<|cC (f:=103) (args:=fun ρ=> #[U (fO k.s (bT k i))]) (v:=fun ρ=>(.tuple #[U (dK (fO k.s (bT k i))),vi (iW (fO k.s (bT k i)))])) (fun _ w=>(fun w=>yD (fO k.s (bT k i)) (tsV_lt _ _) w) w)<|jE [[],[],[],[],[1],[]]) (fun _=>?_)
    refine aA (aB ?_)
    refine sS Tryz.f135 2 [4,5,8,9,73] [] (fun _=>[vi (iW (fO k.s (bT k i))),vF]) (fun _=>[]) (cR [[]]<|cA (fun _=>vF) (fun _=>congrArg Value.bool (pub_ts (bnI hb6)))<|cN) (fun _=>?_)
    refine oN ?_
    refine aG (aA ?_)
    refine sS Tryz.f135 3 [4,5] [1,0] (fun _=>[.agg (kC (fO k.s (bT k i)) (dK (fO k.s (bT k i))) (hmN k.c (hL (bT k i))) (k.d+1) ((i:Nat):Int) ((o8 k.p:Nat):Int)),undef,vi 0]) (fun _=>[(1,(bD 0 (nb ρ1 1) (cL (kC (fO k.s (bT k i)) (dK (fO k.s (bT k i))) (hmN k.c (hL (bT k i))) (k.d+1) ((i:Nat):Int) ((o8 k.p:Nat):Int)) 66)))]) (jE [[1],[0],[]]) (fun _=>?_)
    refine aF ?_
    exact mR (v:=(.tuple #[.agg (kC (fO k.s (bT k i)) (dK (fO k.s (bT k i))) (hmN k.c (hL (bT k i))) (k.d+1) ((i:Nat):Int) ((o8 k.p:Nat):Int)),vi 0])) (fun _ hS=>⟨by rw [(ch_s0 (aV hb1) (jP hb2) (Or.inr (yF (dF (aV hb4)))) (yF (dF (aV hb4))) (xQ hb6)).1,(ch_s0 (aV hb1) (jP hb2) (Or.inr (yF (dF (aV hb4)))) (yF (dF (aV hb4))) (xQ hb6)).2]<;>rfl,hS.bel⟩)
   rw [hb6]
   refine aG (aA (aB ?_))
   refine sS Tryz.f135 2 [4,5,8,9,73] [] (fun _=>[vi (nY k.s (bT k i)),vT]) (fun _=>[]) (cR [[]]<|cA (fun _=>vT) (fun _=>congrArg Value.bool (bn_n hb6))<|cN) (fun _=>?_)
   refine oY ?_
   refine sS Tryz.f135 4 [4,5,8] [] (fun _=>[.agg (kC 0 0 0 0 0 0),vi (nY k.s (bT k i)),undef,vi (nY k.s (bT k i))]) (fun _=>[(2,(bD 0 (nb ρ1 1) (cL (kC 0 0 0 0 0 0) 66)))]) (jE [[],[],[0],[]]) (fun _=>?_)
   refine aF (aC ?_)
   exact mR (v:=(.tuple #[.agg (kC 0 0 0 0 0 0),vi (nY k.s (bT k i))])) (fun _ hS=>⟨by rw [(ch_s1 (aV hb1) (jP hb2) (Or.inr (yF (dF (aV hb4)))) (yF (dF (aV hb4))) (jP hb6)).1,(ch_s1 (aV hb1) (jP hb2) (Or.inr (yF (dF (aV hb4)))) (yF (dF (aV hb4))) (jP hb6)).2]<;>rfl,hS.bel⟩)
  exact absurd ((show (!decide (k.s=0))=true from (aV hb4)).symm.trans hb5) (by decide)
 refine sS Tryz.f135 7 [1,2,4,5,6,24] [] (fun _=>[vu i,vF,vF,undef,undef,vF,vF]) (fun _=>[]) (cR [[]]<|cA (fun _=>vF) (fun _=>congrArg Value.bool hb3)<|jE [[],[],[],[],[]]) (fun _=>?_)
 refine oN ?_
 refine aG (aJ (aA ?_))
 refine sS Tryz.f135 5 [1,2,4,5,6,7] [] (fun ρ=>[.agg (kY k),vu i,.agg (hB (bT k i)),pt (nb ρ 3),undef]) (fun ρ=>[(3,(nw ρ 3 (cL (hB 0) 57))),(4,(bD 26 (nb ρ 3) (cL (hB (bT k i)) 57)))]) (cR [[0],[]]<|cX (qC (fun _ _ w hG=>twk_any k i hk hi w hG.fn.1 hG.fn.2.1))<|jE [[],[26]]) (fun ρ21=>?_)
 refine sD Tryz.f135 [0,1,0,7,0,16,48,0,0,271,1023,0,4095] 13 [2,4,5,6,7,8] [] (fun ρ=>[jp (nb ρ1 0) 8,.slice (some ⟨nb ρ1 0,8,none⟩) (hL k.c).length 32,vs (nb ρ21 3) (hL (bT k i)).length 32,.agg (hB (hmN k.c (hL (bT k i)))),jp (nb ρ1 0) 40,vi k.d,vi (k.d+1),vu i,.agg (kY k),vu (o8 k.p),.agg (kC 0 0 (hmN k.c (hL (bT k i))) (k.d+1) ((i:Nat):Int) ((o8 k.p:Nat):Int)),pt (nb ρ 11),undef]) (fun ρ=>[(11,(nw ρ 11 (cL (kC 0 0 0 0 0 0) 66))),(12,(bD 91 (nb ρ 11) (cL (kC 0 0 (hmN k.c (hL (bT k i))) (k.d+1) ((i:Nat):Int) ((o8 k.p:Nat):Int)) 66)))]) (cR [[],[],[]]<|cX (qC (fun _ _ w hG=>hmac_any (some ⟨nb ρ1 0,8,none⟩) 32 k.c (some ⟨nb ρ21 3,0,none⟩) 32 (hL (bT k i)) (by rw [aO];decide) w (Bs.of_key (hG.kn (g:=nb ρ1 0) (o:=(cL (kY k) 66)) 0)) (Bs.of_hd (c:=32) (hG.kn (g:=nb ρ21 3) (o:=(cL (hB (bT k i)) 57)) 2) (tN _) (Nat.le_refl _) (Nat.le_of_ble_eq_true rfl)) hG.fn.1 hG.fn.2.1))<|cR [[],[0]]<|jU (fun ρ=>(k.d+1)) (fun _=>(k.d+1)) (fun _=>(gZ (by have:=oI (aV hb1);omega)))<|cR [[],[0]]<|cX (qC (fun _ _ w hG=>kprint_any k hk w hG.fn.1 hG.fn.2.1))<|jE [[],[],[91]]) (fun ρ22=>?_)
 refine lK [(2,(pt (nb ρ1 0))),(4,(pt (nb ρ1 1))),(5,(vi 0)),(6,(.bool (!decide (k.s=0)))),(7,(pt (nb ρ21 3))),(8,(pt (nb ρ22 11)))] [(nb ρ1 0,(cL (kY k) 66)),(nb ρ1 1,(cL (kC 0 0 0 0 0 0) 66)),(nb ρ21 3,(cL (hB (bT k i)) 57)),(nb ρ22 11,(cL (kC 0 0 (hmN k.c (hL (bT k i))) (k.d+1) ((i:Nat):Int) ((o8 k.p:Nat):Int)) 66))] ?_
 refine jJ Tryz.f135 1 [2,4,5,6,7,8,9] [vi 0] (aB (jJ Tryz.f135 1 [2,4,5,7,8,9,46] [.bool (!decide (k.s=0))] ?_))
 refine oC (!decide (k.s=0)) (fun hb7=>?_) (fun hb7=>?_)
 ·
  rw [hb7]
  refine sS Tryz.f135 10 [4,5,8,9] [0,1,0,1] (fun _=>let qa:=vi (nY k.s (bT k i));[pt (nb ρ1 0),U k.s,.agg (hB (bT k i)),.tuple #[U (fO k.s (bT k i)),qa],.tuple #[U (fO k.s (bT k i)),qa],U (fO k.s (bT k i)),qa,pt (nb ρ22 11),undef,qa]) (fun _=>[(8,(bD 3 (nb ρ22 11) (cL (kC (fO k.s (bT k i)) 0 (hmN k.c (hL (bT k i))) (k.d+1) ((i:Nat):Int) ((o8 k.p:Nat):Int)) 66)))]) (cR [[],[0],[2]]<|cC (f:=159) (args:=fun ρ=> #[U k.s,.agg (hB (bT k i))]) (v:=fun ρ=>(.tuple #[U (fO k.s (bT k i)),vi (nY k.s (bT k i))])) (fun _ w=>(fun w=>uQ k.s (bT k i) hk.s (twk_lt _ _) w) w)<|jE [[],[],[],[],[3],[]]) (fun _=>?_)
  refine jJ Tryz.f135 2 [4,5,8,9,56] [vi (nY k.s (bT k i)),.bool ((nY k.s (bT k i))==0)] ?_
  refine oC ((nY k.s (bT k i))==0) (fun hb8=>?_) (fun hb8=>?_)
  ·
   rw [hb8]
   refine rS Tryz.f135 9 [4,5,8,9] [] (fun _=>let qa:=vi (iW (fO k.s (bT k i)));[pt (nb ρ22 11),U (fO k.s (bT k i)),.tuple #[U (dK (fO k.s (bT k i))),qa],.tuple #[U (dK (fO k.s (bT k i))),qa],U (dK (fO k.s (bT k i))),qa,jp (nb ρ22 11) 4,undef,qa]) (fun _=>[(7,(bD 1 (nb ρ22 11) (cL (kC (fO k.s (bT k i)) (dK (fO k.s (bT k i))) (hmN k.c (hL (bT k i))) (k.d+1) ((i:Nat):Int) ((o8 k.p:Nat):Int)) 66)))]) (cR [[],[1]]<|cC (f:=103) (args:=fun ρ=> #[U (fO k.s (bT k i))]) (v:=fun ρ=>(.tuple #[U (dK (fO k.s (bT k i))),vi (iW (fO k.s (bT k i)))])) (fun _ w=>(fun w=>yD (fO k.s (bT k i)) (tsV_lt _ _) w) w)<|jE [[],[],[],[],[1],[]]) (fun _=>?_)
   refine aA (aB ?_)
   refine sS Tryz.f135 2 [4,5,8,9,73] [] (fun _=>[vi (iW (fO k.s (bT k i))),vF]) (fun _=>[]) (cR [[]]<|cA (fun _=>vF) (fun _=>congrArg Value.bool (pub_ts (bnI hb8)))<|cN) (fun _=>?_)
   refine oN ?_
   refine aG (aA ?_)
   refine sS Tryz.f135 3 [4,5] [1,0] (fun _=>[.agg (kC (fO k.s (bT k i)) (dK (fO k.s (bT k i))) (hmN k.c (hL (bT k i))) (k.d+1) ((i:Nat):Int) ((o8 k.p:Nat):Int)),undef,vi 0]) (fun _=>[(1,(bD 0 (nb ρ1 1) (cL (kC (fO k.s (bT k i)) (dK (fO k.s (bT k i))) (hmN k.c (hL (bT k i))) (k.d+1) ((i:Nat):Int) ((o8 k.p:Nat):Int)) 66)))]) (jE [[1],[0],[]]) (fun _=>?_)
   refine aF ?_
   exact mR (v:=(.tuple #[.agg (kC (fO k.s (bT k i)) (dK (fO k.s (bT k i))) (hmN k.c (hL (bT k i))) (k.d+1) ((i:Nat):Int) ((o8 k.p:Nat):Int)),vi 0])) (fun _ hS=>⟨by rw [(ch_s0 (aV hb1) (jP hb2) (Or.inr (yF (dF hb7))) (yF (dF hb7)) (xQ hb8)).1,(ch_s0 (aV hb1) (jP hb2) (Or.inr (yF (dF hb7))) (yF (dF hb7)) (xQ hb8)).2]<;>rfl,hS.bel⟩)
  rw [hb8]
  refine aG (aA (aB ?_))
  refine sS Tryz.f135 2 [4,5,8,9,73] [] (fun _=>[vi (nY k.s (bT k i)),vT]) (fun _=>[]) (cR [[]]<|cA (fun _=>vT) (fun _=>congrArg Value.bool (bn_n hb8))<|cN) (fun _=>?_)
  refine oY ?_
  refine sS Tryz.f135 4 [4,5,8] [] (fun _=>[.agg (kC 0 0 0 0 0 0),vi (nY k.s (bT k i)),undef,vi (nY k.s (bT k i))]) (fun _=>[(2,(bD 0 (nb ρ1 1) (cL (kC 0 0 0 0 0 0) 66)))]) (jE [[],[],[0],[]]) (fun _=>?_)
  refine aF (aC ?_)
  exact mR (v:=(.tuple #[.agg (kC 0 0 0 0 0 0),vi (nY k.s (bT k i))])) (fun _ hS=>⟨by rw [(ch_s1 (aV hb1) (jP hb2) (Or.inr (yF (dF hb7))) (yF (dF hb7)) (jP hb8)).1,(ch_s1 (aV hb1) (jP hb2) (Or.inr (yF (dF hb7))) (yF (dF hb7)) (jP hb8)).2]<;>rfl,hS.bel⟩)
 rw [hb7]
 refine rS Tryz.f135 10 [4,5,8,9] [0,1,0,1] (fun _=>let qa:=vi (wY k.p (bT k i));[jp (nb ρ1 0) 4,U k.p,.agg (hB (bT k i)),.tuple #[U (yS k.p (bT k i)),qa],.tuple #[U (yS k.p (bT k i)),qa],U (yS k.p (bT k i)),qa,jp (nb ρ22 11) 4,undef,qa]) (fun _=>[(8,(bD 3 (nb ρ22 11) (cL (kC 0 (yS k.p (bT k i)) (hmN k.c (hL (bT k i))) (k.d+1) ((i:Nat):Int) ((o8 k.p:Nat):Int)) 66)))]) (cR [[],[0],[2]]<|cC (f:=160) (args:=fun ρ=> #[U k.p,.agg (hB (bT k i))]) (v:=fun ρ=>(.tuple #[U (yS k.p (bT k i)),vi (wY k.p (bT k i))])) (fun _ w=>(fun w=>tweak_any k.p (bT k i) hk.p (twk_lt _ _) w) w)<|jE [[],[],[],[],[3],[]]) (fun _=>?_)
 refine aA (aB (jJ Tryz.f135 2 [4,5,8,9,73] [vi (wY k.p (bT k i)),.bool ((wY k.p (bT k i)) != 0)] ?_))
 refine oC ((wY k.p (bT k i)) != 0) (fun hb9=>?_) (fun hb9=>?_)
 ·
  rw [hb9]
  refine sS Tryz.f135 4 [4,5,8] [] (fun _=>[.agg (kC 0 0 0 0 0 0),vi (wY k.p (bT k i)),undef,vi (wY k.p (bT k i))]) (fun _=>[(2,(bD 0 (nb ρ1 1) (cL (kC 0 0 0 0 0 0) 66)))]) (jE [[],[],[0],[]]) (fun _=>?_)
  refine aF (aC ?_)
  exact mR (v:=(.tuple #[.agg (kC 0 0 0 0 0 0),vi (wY k.p (bT k i))])) (fun _ hS=>⟨by rw [(ch_p1 (aV hb1) (jP hb2) (Or.inl (hd_f hb3)) (yT (aV hb7)) (xAU hb9)).1,(ch_p1 (aV hb1) (jP hb2) (Or.inl (hd_f hb3)) (yT (aV hb7)) (xAU hb9)).2]<;>rfl,hS.bel⟩)
 rw [hb9]
 refine aG (aA ?_)
 refine sS Tryz.f135 3 [4,5] [1,0] (fun _=>[.agg (kC 0 (yS k.p (bT k i)) (hmN k.c (hL (bT k i))) (k.d+1) ((i:Nat):Int) ((o8 k.p:Nat):Int)),undef,vi 0]) (fun _=>[(1,(bD 0 (nb ρ1 1) (cL (kC 0 (yS k.p (bT k i)) (hmN k.c (hL (bT k i))) (k.d+1) ((i:Nat):Int) ((o8 k.p:Nat):Int)) 66)))]) (jE [[1],[0],[]]) (fun _=>?_)
 refine aF ?_
 exact mR (v:=(.tuple #[.agg (kC 0 (yS k.p (bT k i)) (hmN k.c (hL (bT k i))) (k.d+1) ((i:Nat):Int) ((o8 k.p:Nat):Int)),vi 0])) (fun _ hS=>⟨by rw [(ch_p0 (aV hb1) (jP hb2) (Or.inl (hd_f hb3)) (yT (aV hb7)) (o5 hb9)).1,(ch_p0 (aV hb1) (jP hb2) (Or.inl (hd_f hb3)) (yT (aV hb7)) (o5 hb9)).2]<;>rfl,hS.bel⟩)
theorem yH (k:Ky) (a:Option Addr) (c:Nat) (ps:List Nat) (hk:k.Ok) (hp:∀ i∈ps,i<4294967296) (w0:World) (hf0:Is w0 .u32 a c (nI ps)) (hf1:kJ w0) (hf2:fU w0):Calls Tryz.prog 105 #[.agg (kY k),.slice a (nI ps).length c] w0 (jR (.tuple #[.agg (kY (iQ k ps)),vi (nM k ps)]) w0):=by
 refine Calls.of_ok (n:=33) (F:=(fun w=>Is w .u32 a c (nI ps)∧kJ w∧fU w∧True)) Tryz.func105 rfl rfl rfl (by simp) (hf0.pers0.and (hf1.pers0.and (hf2.pers0.and cO))) ?_
 have hlen:(nI ps).length≤140737488351232:=hf0.max
 refine sS Tryz.f105 3 [1,2,4,5] [] (fun ρ=>[pt (nb ρ 0),pt (nb ρ 1),vi 0]) (fun ρ=>[(0,(nw ρ 0 (cL (kY k) 66))),(1,(nw ρ 1 (cL (kC 0 0 0 0 0 0) 66)))]) (jE [[],[],[]]) (fun ρ1=>?_)
 refine aB ?_
 refine sS Tryz.f105 3 [1,2,4,5,12] [] (fun _=>[.agg (kY k),.bool (fC k),.bool (!(fC k))]) (fun _=>[]) (cR [[0]]<|cC (fun _ w=>yN k hk w)<|jE [[]]) (fun _=>?_)
 refine oC (!(fC k)) (fun hb1=>?_) (fun hb1=>?_)
 ·
  rw [hb1]
  refine sS Tryz.f105 3 [1,2,4,5] [] (fun _=>[.agg (kC 0 0 0 0 0 0),undef,vi 6]) (fun _=>[(1,(bD 1 (nb ρ1 1) (cL (kC 0 0 0 0 0 0) 66)))]) (jE [[],[1],[]]) (fun _=>?_)
  refine aF (aC ?_)
  exact mR (v:=(.tuple #[.agg (kC 0 0 0 0 0 0),vi 6])) (ps:=[1,1,1,1,1,1,1,1,1,1,1,1,1,1,1,1,1,1,1,1,1,1,1,1,1,1,1,1,1,1,1,1,1,1,1,1,1,1,1,1,1,1,1]) (fun _ hS=>⟨by rw [(dr_6 (dF hb1)).1,(dr_6 (dF hb1)).2];rfl,hS.bel⟩)
 rw [hb1]
 refine aG (aA (aB (jJ Tryz.f105 3 [2,4,5,14,15,16] [.slice a (nI ps).length c,vn (nI ps).length,vi 0] (aI ?_))))
 refine oL (σ:=Nat × Ky) (fun ⟨j,_⟩=>[(2,(pt (nb ρ1 0))),(4,(pt (nb ρ1 1))),(14,(.slice a (nI ps).length c)),(15,(vn (nI ps).length)),(16,(vn j))]) (fun ⟨_,x⟩=>[(nb ρ1 0,(cL (kY x) 66)),(nb ρ1 1,(cL (kC 0 0 0 0 0 0) 66))]) (fun ⟨j,_⟩=>(nI ps).length-j)
   (fun ⟨j,x⟩=>(j≤(nI ps).length)∧x.Ok∧(fC x=true)∧(dvE x (ps.drop j)=dvE k ps)∧(dvK x (ps.drop j)=dvK k ps)) (0,k) (⟨Nat.zero_le _,hk,aV hb1,rfl,rfl⟩) [] ?_
 rintro ⟨j,x⟩ ⟨hj,hx,hsx,hE,hK⟩
 change Ok Tryz.prog _ _ 33 [(2,(pt (nb ρ1 0))),(4,(pt (nb ρ1 1))),(14,(.slice a (nI ps).length c)),(15,(vn (nI ps).length)),(16,(vn j))] _ [(nb ρ1 0,(cL (kY x) 66)),(nb ρ1 1,(cL (kC 0 0 0 0 0 0) 66))] (fun w=>Is w .u32 a c (nI ps)∧kJ w∧fU w∧True)
 refine jJ Tryz.f105 1 [2,4,14,15,16,17] [.bool (decide (((j:Nat):Int)<(((nI ps).length:Nat):Int)))] (aB ?_)
 refine oC (decide (((j:Nat):Int)<(((nI ps).length:Nat):Int))) (fun hb2=>?_) (fun hb2=>?_)
 ·
  rw [hb2]
  have:=yT hb2
  refine aG (aA (aB (aI ?_)))
  refine sS Tryz.f105 3 [2,4,7,14,15,16] [] (fun _=>[.pointer (fK a j),vu (ps.getD j 0),vu (ps.getD j 0)]) (fun _=>[]) (cX (qF (fun _ _ _ hG=>o6 (k:=.i64) Tryz.underlying67 Tryz.sizeOf55 hG.fn.1 rfl (show ((j:Nat):Int)=((j:Nat):Int) from rfl) (show j<(nI ps).length from (by omega))))<|cX (qF (v:=fun ρ=>(vu (ps.getD j 0))) (fun _ _ _ hG=>(rG Tryz.isAgg55 hG.fn.1 (show j<(nI ps).length from (by omega))).trans (by rw [yQ])))<|jE [[]]) (fun _=>?_)
  refine sS Tryz.f105 9 [2,4,8,9,14,15,16] [] (fun ρ=>let qa:=vi (chE x (ps.getD j 0));let qb:Value:=.agg (kY (chK x (ps.getD j 0)));[.agg (kY x),vu (ps.getD j 0),.tuple #[qb,qa],.tuple #[qb,qa],qb,qa,pt (nb ρ 6),undef,qa]) (fun ρ=>[(6,(nw ρ 6 (cL (kC 0 0 0 0 0 0) 66))),(7,(bD 50 (nb ρ 6) (cL (kY (chK x (ps.getD j 0))) 66)))]) (cR [[0],[]]<|cX (qC (fun _ _ w hG=>child_any x (ps.getD j 0) hx (get_all hp (by decide) j) w hG.fn.2.1 hG.fn.2.2.1))<|jE [[],[],[],[],[50],[]]) (fun _=>?_)
  refine aB (jJ Tryz.f105 2 [2,4,8,9,14,15,16,27] [vi (chE x (ps.getD j 0)),.bool ((chE x (ps.getD j 0)) != 0)] ?_)
  refine oC ((chE x (ps.getD j 0)) != 0) (fun hb3=>?_) (fun hb3=>?_)
  ·
   rw [hb3]
   refine sS Tryz.f105 4 [2,4,5,8,14,15,16] [] (fun _=>let qa:=vi (chE x (ps.getD j 0));[.agg (kC 0 0 0 0 0 0),qa,undef,qa]) (fun _=>[(2,(bD 1 (nb ρ1 1) (cL (kC 0 0 0 0 0 0) 66)))]) (jE [[],[],[1],[]]) (fun _=>?_)
   refine aF (aC (aP (aC (aC (aP (aC ?_))))))
   exact mR (v:=(.tuple #[.agg (kC 0 0 0 0 0 0),vi (chE x (ps.getD j 0))])) (ps:=[1,1,1,1,1,1,1,1,1,1,1,1,1,1,1,1,1,1,1,1,1,1,1,1,1,1,1,1,1,1,1,1,1,1,1,1,1,1,1,1,1,1,1]) (fun _ hS=>⟨by rw [(dv_fail (aV hb1) hsx (by have:=fZ ps;omega) hE hK hb3).1,(dv_fail (aV hb1) hsx (by have:=fZ ps;omega) hE hK hb3).2];rfl,hS.bel⟩)
  rw [hb3]
  refine aG (aA ?_)
  refine rS Tryz.f105 2 [2,4,14,15,16] [1,1,0] (fun _=>[.agg (kY (chK x (ps.getD j 0))),undef]) (fun _=>[(1,(bD 0 (nb ρ1 0) (cL (kY (chK x (ps.getD j 0))) 66)))]) (jE [[2],[0]]) (fun _=>?_)
  refine aJ (aA ?_)
  refine rS Tryz.f105 2 [2,4,14,15,16] [] (fun _=>[vn (j+1),vn (j+1)]) (fun _=>[]) (jW (fun ρ=>(((j:Nat):Int)+1)) (fun _=>(j+1)) (fun _=>(aW j 1 (by omega)))<|jE [[]]) (fun _=>?_)
  exact mN (j+1,chK x (ps.getD j 0)) (by show (nI ps).length-(j+1)<(nI ps).length-j;omega) (⟨(by omega),chK_ok _ _ (get_all hp (by decide) j),(wU hsx (by have:=fZ ps;omega) hE hK hb3).1,(wU hsx (by have:=fZ ps;omega) hE hK hb3).2.1,(wU hsx (by have:=fZ ps;omega) hE hK hb3).2.2⟩) []
 rw [hb2]
 refine bF (aN (aN (aT (aA ?_))))
 refine sS Tryz.f105 3 [4,5] [0,1] (fun _=>[.agg (kY x),undef,vi 0]) (fun _=>[(1,(bD 1 (nb ρ1 1) (cL (kY x) 66)))]) (jE [[0],[1],[]]) (fun _=>?_)
 refine aF ?_
 exact mR (v:=(.tuple #[.agg (kY x),vi 0])) (fun _ hS=>⟨by rw [(dv_done (aV hb1) (by have:=fZ ps;have:=yF hb2;omega) hE hK).1,(dv_done (aV hb1) (by have:=fZ ps;have:=yF hb2;omega) hE hK).2]<;>rfl,hS.bel⟩)
end Go.Proofs.YtahoheofpggopaaGreatDoor
