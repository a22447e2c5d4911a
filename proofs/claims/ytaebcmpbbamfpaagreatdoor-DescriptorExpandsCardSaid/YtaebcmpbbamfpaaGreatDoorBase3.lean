/-
  What this statement needs, part 3: the texts of it, one behind the other.
-/
import Derived.Test.YtaebcmpbbamfpaaGreatDoorBase2
set_option maxRecDepth 100000
namespace Go.Proofs.YtaebcmpbbamfpaaGreatDoor
open Go Go.RowKit
theorem dkids_any (z:Int) (w0:World):Calls Tryz.prog 15 #[vi z] w0 (jR (vi (nO z)) w0):=by
 refine Calls.of_ok (n:=13) (F:=(fun _=>True)) Tryz.func15 rfl rfl rfl (by simp) jT ?_
 refine jJ Tryz.f15 1 [0,2] [vi 0] (aB (jJ Tryz.f15 1 [2,3] [vi z] (aI (aB (jJ Tryz.f15 2 [2,3,4] [.bool (z==1),.bool (z==1)] ?_)))))
 refine oC (z==1) (fun hb1=>?_) (fun hb1=>?_)
 ·
  rw [hb1]
  refine aG (aA ?_)
  refine oY ?_
  refine jJ Tryz.f15 1 [2] [vi 0] (aF (aP (aC ?_)))
  exact mR (v:=(vi 0)) (fun _ hS=>⟨congrArg (fun x=>Ending.returned (vi x)) (kd_1 (by have:=xQ hb1;omega)),hS.bel⟩)
 rw [hb1]
 refine jL Tryz.f15 2 [2,3,4] [] [.bool (z==2),.bool (z==2)] [[],[]] (aA ?_)
 refine oC (z==2) (fun hb2=>?_) (fun hb2=>?_)
 ·
  rw [hb2]
  refine jJ Tryz.f15 1 [2] [vi 0] (aF (aP (aC ?_)))
  exact mR (v:=(vi 0)) (fun _ hS=>⟨congrArg (fun x=>Ending.returned (vi x)) (kd_1 (by have:=jP hb1;have:=xQ hb2;omega)),hS.bel⟩)
 rw [hb2]
 refine aB (jJ Tryz.f15 2 [2,3,7] [.bool (z==3),.bool (z==3)] ?_)
 refine oC (z==3) (fun hb3=>?_) (fun hb3=>?_)
 ·
  rw [hb3]
  refine aG (aA ?_)
  refine oY ?_
  refine jJ Tryz.f15 1 [2] [vi 1] (aF (aP (aC ?_)))
  exact mR (v:=(vi 1)) (fun _ hS=>⟨congrArg (fun x=>Ending.returned (vi x)) (kd_3 (by have:=jP hb1;have:=jP hb2;have:=xQ hb3;omega)),hS.bel⟩)
 rw [hb3]
 refine jJ Tryz.f15 2 [2,3,7] [.bool (z==4),.bool (z==4)] ?_
 refine oC (z==4) (fun hb4=>?_) (fun hb4=>?_)
 ·
  rw [hb4]
  refine aG (aA ?_)
  refine oY ?_
  refine jJ Tryz.f15 1 [2] [vi 1] (aF (aP (aC ?_)))
  exact mR (v:=(vi 1)) (fun _ hS=>⟨congrArg (fun x=>Ending.returned (vi x)) (kd_3 (by have:=jP hb1;have:=jP hb2;have:=jP hb3;have:=xQ hb4;omega)),hS.bel⟩)
 rw [hb4]
 refine jL Tryz.f15 2 [2,3,7] [] [.bool (z==5),.bool (z==5)] [[],[]] (aA ?_)
 refine oC (z==5) (fun hb5=>?_) (fun hb5=>?_)
 ·
  rw [hb5]
  refine jJ Tryz.f15 1 [2] [vi 1] (aF (aP (aC ?_)))
  exact mR (v:=(vi 1)) (fun _ hS=>⟨congrArg (fun x=>Ending.returned (vi x)) (kd_3 (by have:=jP hb1;have:=jP hb2;have:=jP hb3;have:=jP hb4;have:=xQ hb5;omega)),hS.bel⟩)
 rw [hb5]
 refine jJ Tryz.f15 2 [2,11] [.bool (z==6),.bool (z==6)] ?_
 refine lK [(2,(vi 0)),(11,(.bool (z==6)))] [] ?_
 refine oC (z==6) (fun hb6=>?_) (fun hb6=>?_)
 ·
  rw [hb6]
  refine jJ Tryz.f15 1 [2] [vi 2] (aF (aP (aC ?_)))
  exact mR (v:=(vi 2)) (fun _ hS=>⟨congrArg (fun x=>Ending.returned (vi x)) (kd_6 (by have:=jP hb1;have:=jP hb2;have:=jP hb3;have:=jP hb4;have:=jP hb5;have:=xQ hb6;omega)),hS.bel⟩)
 rw [hb6]
 refine aG (aJ (aA (jJ Tryz.f15 1 [2] [vi (-1)] (aF ?_))))
 exact mR (v:=(vi (-1))) (fun _ hS=>⟨congrArg (fun x=>Ending.returned (vi x)) (kd_0 (by have:=jP hb1;have:=jP hb2;have:=jP hb3;have:=jP hb4;have:=jP hb5;have:=jP hb6;omega)),hS.bel⟩)
theorem rdkids_any (z:Int) (w0:World):Calls Tryz.prog 67 #[vi z] w0 (jR (vi (nO z)) w0):=by
 refine Calls.of_ok (n:=13) (F:=(fun _=>True)) Tryz.func67 rfl rfl rfl (by simp) jT ?_
 refine jJ Tryz.f67 1 [0,2] [vi 0] (aB (jJ Tryz.f67 1 [2,3] [vi z] (aI (aB (jJ Tryz.f67 2 [2,3,4] [.bool (z==1),.bool (z==1)] ?_)))))
 refine oC (z==1) (fun hb1=>?_) (fun hb1=>?_)
 ·
  rw [hb1]
  refine aG (aA ?_)
  refine oY ?_
  refine jJ Tryz.f67 1 [2] [vi 0] (aF (aP (aC ?_)))
  exact mR (v:=(vi 0)) (fun _ hS=>⟨congrArg (fun x=>Ending.returned (vi x)) (kd_1 (by have:=xQ hb1;omega)),hS.bel⟩)
 rw [hb1]
 refine jL Tryz.f67 2 [2,3,4] [] [.bool (z==2),.bool (z==2)] [[],[]] (aA ?_)
 refine oC (z==2) (fun hb2=>?_) (fun hb2=>?_)
 ·
  rw [hb2]
  refine jJ Tryz.f67 1 [2] [vi 0] (aF (aP (aC ?_)))
  exact mR (v:=(vi 0)) (fun _ hS=>⟨congrArg (fun x=>Ending.returned (vi x)) (kd_1 (by have:=jP hb1;have:=xQ hb2;omega)),hS.bel⟩)
 rw [hb2]
 refine aB (jJ Tryz.f67 2 [2,3,7] [.bool (z==3),.bool (z==3)] ?_)
 refine oC (z==3) (fun hb3=>?_) (fun hb3=>?_)
 ·
  rw [hb3]
  refine aG (aA ?_)
  refine oY ?_
  refine jJ Tryz.f67 1 [2] [vi 1] (aF (aP (aC ?_)))
  exact mR (v:=(vi 1)) (fun _ hS=>⟨congrArg (fun x=>Ending.returned (vi x)) (kd_3 (by have:=jP hb1;have:=jP hb2;have:=xQ hb3;omega)),hS.bel⟩)
 rw [hb3]
 refine jJ Tryz.f67 2 [2,3,7] [.bool (z==4),.bool (z==4)] ?_
 refine oC (z==4) (fun hb4=>?_) (fun hb4=>?_)
 ·
  rw [hb4]
  refine aG (aA ?_)
  refine oY ?_
  refine jJ Tryz.f67 1 [2] [vi 1] (aF (aP (aC ?_)))
  exact mR (v:=(vi 1)) (fun _ hS=>⟨congrArg (fun x=>Ending.returned (vi x)) (kd_3 (by have:=jP hb1;have:=jP hb2;have:=jP hb3;have:=xQ hb4;omega)),hS.bel⟩)
 rw [hb4]
 refine jL Tryz.f67 2 [2,3,7] [] [.bool (z==5),.bool (z==5)] [[],[]] (aA ?_)
 refine oC (z==5) (fun hb5=>?_) (fun hb5=>?_)
 ·
  rw [hb5]
  refine jJ Tryz.f67 1 [2] [vi 1] (aF (aP (aC ?_)))
  exact mR (v:=(vi 1)) (fun _ hS=>⟨congrArg (fun x=>Ending.returned (vi x)) (kd_3 (by have:=jP hb1;have:=jP hb2;have:=jP hb3;have:=jP hb4;have:=xQ hb5;omega)),hS.bel⟩)
 rw [hb5]
 refine jJ Tryz.f67 2 [2,11] [.bool (z==6),.bool (z==6)] ?_
 refine lK [(2,(vi 0)),(11,(.bool (z==6)))] [] ?_
 refine oC (z==6) (fun hb6=>?_) (fun hb6=>?_)
 ·
  rw [hb6]
  refine jJ Tryz.f67 1 [2] [vi 2] (aF (aP (aC ?_)))
  exact mR (v:=(vi 2)) (fun _ hS=>⟨congrArg (fun x=>Ending.returned (vi x)) (kd_6 (by have:=jP hb1;have:=jP hb2;have:=jP hb3;have:=jP hb4;have:=jP hb5;have:=xQ hb6;omega)),hS.bel⟩)
 rw [hb6]
 refine aG (aJ (aA (jJ Tryz.f67 1 [2] [vi (-1)] (aF ?_))))
 exact mR (v:=(vi (-1))) (fun _ hS=>⟨congrArg (fun x=>Ending.returned (vi x)) (kd_0 (by have:=jP hb1;have:=jP hb2;have:=jP hb3;have:=jP hb4;have:=jP hb5;have:=jP hb6;omega)),hS.bel⟩)
theorem dwhole_any (a:Option Addr) (c:Nat) (ts:List bW) (w0:World) (hf0:bM w0 a c ts):Calls Tryz.prog 32 #[.slice a ts.length c] w0 (jR (.bool (vG 1 ts)) w0):=by
 refine Calls.of_ok (n:=29) (F:=(fun w=>bM w a c ts∧True)) Tryz.func32 rfl rfl rfl (by simp) (hf0.pers0.and cO) ?_
 have hlen:ts.length≤1000000:=hf0.max
 have ho:mP ts:=hf0.oks
 refine jJ Tryz.f32 1 [0,2] [vF] (jJ Tryz.f32 1 [0,2,3] [vi 1] (aB (jJ Tryz.f32 3 [2,3,7,8,9] [.slice a ts.length c,vn ts.length,vi 0] (aI ?_))))
 refine oL (σ:=Nat × Int) (fun ⟨i,m⟩=>[(3,(vi m)),(7,(.slice a ts.length c)),(8,(vn ts.length)),(9,(vn i))]) (fun ⟨_,_⟩=>[]) (fun ⟨i,_⟩=>ts.length-i)
   (fun ⟨i,m⟩=>(i≤ts.length)∧(0≤m∧m≤1+(i:Int))∧(vG m (ts.drop i)=vG 1 ts)) (0,1) (⟨Nat.zero_le _,by decide,rfl⟩) [] ?_
 rintro ⟨i,m⟩ ⟨hi,hm,hr⟩
 change Ok Tryz.prog _ _ 29 [(3,(vi m)),(7,(.slice a ts.length c)),(8,(vn ts.length)),(9,(vn i))] _ [] (fun w=>bM w a c ts∧True)
 refine jJ Tryz.f32 1 [3,7,8,9,10] [.bool (decide (((i:Nat):Int)<((ts.length:Nat):Int)))] (aB ?_)
 refine oC (decide (((i:Nat):Int)<((ts.length:Nat):Int))) (fun hb1=>?_) (fun hb1=>?_)
 ·
  rw [hb1]
  have:=yT hb1
  refine aG (aA (aB (aI ?_)))
  refine sS Tryz.f32 4 [3,5,7,8,9] [] (fun ρ=>[.pointer (fK a (i*36)),.agg (bW.row (gT ts i)),pt (nb ρ 2),undef]) (fun ρ=>[(2,(nw ρ 2 (cL (iC 0 0 0 0 vz) 46))),(3,(bD 16 (nb ρ 2) (cL (bW.row (gT ts i)) 46)))]) (cX (qF (fun _ _ _ hG=>bM.idx (k:=.i64) Tryz.underlying24 Tryz.sizeOf46 hG.fn.1 rfl (show ((i:Nat):Int)=((i:Nat):Int) from rfl) (show i<ts.length from (by omega))))<|cX (qF (fun _ _ _ hG=>bM.ldA (i:=i) Tryz.isAgg46 Tryz.sizeOf46 hG.fn.1 (show i<ts.length from (by omega))))<|jE [[],[16]]) (fun ρ5=>?_)
  refine sS Tryz.f32 4 [3,6,7,8,9] [0] (fun _=>[pt (nb ρ5 2),vi (gT ts i).kd,vi (nO (gT ts i).kd),vi (nO (gT ts i).kd)]) (fun _=>[]) (cR [[],[0]]<|cC (fun _ w=>dkids_any (gT ts i).kd w)<|jE [[]]) (fun _=>?_)
  refine aB ?_
  rcases Bool.eq_false_or_eq_true (m==0) with hb2 | hb2
  ·
   refine sS Tryz.f32 6 [3,6,7,8,9,21] [] (fun _=>[vi m,vT,vT,undef,undef,vT]) (fun _=>[]) (cR [[]]<|cA (fun _=>vT) (fun _=>congrArg Value.bool hb2)<|jE [[],[],[],[]]) (fun _=>?_)
   refine oY ?_
   refine jJ Tryz.f32 1 [2,3,6,7,8,9] [vF] (aF (aC (aP (aC (aC (aP (aC ?_)))))))
   exact mR (v:=vF) (fun _ hS=>⟨jB (wh_stop (by omega) (Or.inl (xQ hb2)) hr).symm,hS.bel⟩)
  refine sS Tryz.f32 6 [3,6,7,8,9,21] [] (fun _=>let qa:Value:=.bool (decide ((nO (gT ts i).kd)<0));[vi m,vF,vF,vi (nO (gT ts i).kd),qa,qa]) (fun _=>[]) (cR [[]]<|cA (fun _=>vF) (fun _=>congrArg Value.bool hb2)<|jE [[],[],[],[]]) (fun _=>?_)
  refine oC (decide ((nO (gT ts i).kd)<0)) (fun hb3=>?_) (fun hb3=>?_)
  ·
   rw [hb3]
   refine jJ Tryz.f32 1 [2,3,6,7,8,9] [vF] (aF (aC (aP (aC (aC (aP (aC ?_)))))))
   exact mR (v:=vF) (fun _ hS=>⟨jB (wh_stop (by have:=yT hb3;omega) (Or.inr (yT hb3)) hr).symm,hS.bel⟩)
  rw [hb3]
  have:=yF hb3
  refine aG (aA ?_)
  refine rS Tryz.f32 5 [3,7,8,9] [] (fun _=>let qa:=vi (m+(nO (gT ts i).kd-1));[vi m,vi (nO (gT ts i).kd),vi (nO (gT ts i).kd-1),qa,qa]) (fun _=>[]) (cR [[],[]]<|jU (fun ρ=>((nO (gT ts i).kd)-1)) (fun _=>(nO (gT ts i).kd-1)) (fun _=>(gZ (by have:=zM (gT ts i).kd;omega)))<|jU (fun ρ=>(m+(nO (gT ts i).kd-1))) (fun _=>(m+(nO (gT ts i).kd-1))) (fun _=>(gZ (by have:=zM (gT ts i).kd;omega)))<|jE [[]]) (fun _=>?_)
  refine aJ (aA ?_)
  refine rS Tryz.f32 2 [3,7,8,9] [] (fun _=>[vn (i+1),vn (i+1)]) (fun _=>[]) (jW (fun ρ=>(((i:Nat):Int)+1)) (fun _=>(i+1)) (fun _=>(aW i 1 (by omega)))<|jE [[]]) (fun _=>?_)
  exact mN (i+1,m+(nO (gT ts i).kd-1)) (by show ts.length-(i+1)<ts.length-i;omega) (⟨(by omega),by have:=zM (gT ts i).kd;have:=jP hb2;omega,wh_next (by omega) (jP hb2) (yF hb3) hr⟩) []
 rw [hb1]
 refine bF (aN (aN (aT (aA (jJ Tryz.f32 3 [2] [vi m,.bool (m==0),.bool (m==0)] (aF ?_))))))
 exact mR (v:=(.bool (m==0))) (fun _ hS=>⟨jB ((beq_dec m).trans (wh_end (by have:=yF hb1;omega) hr)),hS.bel⟩)
theorem rdshaped_any (a:Option Addr) (c:Nat) (ts:List bW) (w0:World) (hf0:bM w0 a c ts):Calls Tryz.prog 37 #[.slice a ts.length c] w0 (jR (.bool (shB ts)) w0):=by
 refine Calls.of_ok (n:=40) (F:=(fun w=>bM w a c ts∧True)) Tryz.func37 rfl rfl rfl (by simp) (hf0.pers0.and cO) ?_
 have hlen:ts.length≤1000000:=hf0.max
 have ho:mP ts:=hf0.oks
 refine jJ Tryz.f37 1 [0,2] [vF] (jJ Tryz.f37 1 [0,2,3] [vi 1] (aB (jJ Tryz.f37 1 [0,2,3,4] [vi 0] (aI ?_))))
 refine oL (σ:=Nat × Int) (fun ⟨i,m⟩=>[(0,(.slice a ts.length c)),(3,(vi m)),(4,(vn i))]) (fun ⟨_,_⟩=>[]) (fun ⟨i,_⟩=>ts.length-i)
   (fun ⟨i,m⟩=>(i≤ts.length)∧(0≤m∧m≤1+(i:Int))∧(vG m (ts.drop i)=vG 1 ts)) (0,1) (⟨Nat.zero_le _,by decide,rfl⟩) [] ?_
 rintro ⟨i,m⟩ ⟨hi,hm,hr⟩
 change Ok Tryz.prog _ _ 40 [(0,(.slice a ts.length c)),(3,(vi m)),(4,(vn i))] _ [] (fun w=>bM w a c ts∧True)
 refine aB (jJ Tryz.f37 4 [0,3,4,9] [vn i,.slice a ts.length c,vn ts.length,.bool (decide (((i:Nat):Int)<((ts.length:Nat):Int)))] ?_)
 refine oC (decide (((i:Nat):Int)<((ts.length:Nat):Int))) (fun hb1=>?_) (fun hb1=>?_)
 ·
  rw [hb1]
  have:=yT hb1
  refine aG (aA (aB (aI ?_)))
  refine sS Tryz.f37 7 [0,3,4,5] [] (fun _=>let qa:Value:=.pointer (fK a (i*36));[.slice a ts.length c,vn i,qa,qa,vi (gT ts i).kd,vi (nO (gT ts i).kd),vi (nO (gT ts i).kd)]) (fun _=>[]) (cR [[],[]]<|cX (qF (fun _ _ _ hG=>bM.idx (k:=.i64) Tryz.underlying24 Tryz.sizeOf46 hG.fn.1 rfl (show ((i:Nat):Int)=((i:Nat):Int) from rfl) (show i<ts.length from (by omega))))<|cX (jF (fun _=>Instr.fieldAt 46 (.pointer (fK a (i*36))) 0) (fun _=>(.pointer (fK a (i*36)))) (fun _ _ _ hG=>uH (o:=0) (k:=i*36) Tryz.underlying46 rfl rfl rfl Tryz.sizeOf3 (hG.fn.1.pos (show i<ts.length from (by omega))).1 (hG.fn.1.pos (show i<ts.length from (by omega))).2) (fun _ _ _ _=>cO))<|cX (qF (fun _ _ _ hG=>bM.ld (v:=(vi (gT ts i).kd)) (i:=i) (j:=0) Tryz.isAgg3 hG.fn.1 (show i<ts.length from (by omega)) (by decide) (by kernel_rfl)))<|cC (fun _ w=>rdkids_any (gT ts i).kd w)<|jE [[]]) (fun _=>?_)
  refine aB ?_
  rcases Bool.eq_false_or_eq_true (decide ((nO (gT ts i).kd)<0)) with hb2 | hb2
  ·
   refine sS Tryz.f37 6 [0,3,4,5,23] [] (fun _=>[vi (nO (gT ts i).kd),vT,vT,undef,undef,vT]) (fun _=>[]) (cR [[]]<|cA (fun _=>vT) (fun _=>congrArg Value.bool hb2)<|jE [[],[],[],[]]) (fun _=>?_)
   refine oY ?_
   refine jJ Tryz.f37 1 [0,2,3,4,5] [vF] (aF (aC (aP (aC (aC (aP (aC ?_)))))))
   exact mR (v:=vF) (fun _ hS=>⟨jB (show false=shB ts by unfold shB;rw [wh_stop (by have:=yT hb2;omega) (Or.inr (yT hb2)) hr];rfl),hS.bel⟩)
  refine sS Tryz.f37 6 [0,3,4,5,23] [] (fun _=>[vi (nO (gT ts i).kd),vF,vF,vi m,.bool (m==0),.bool (m==0)]) (fun _=>[]) (cR [[]]<|cA (fun _=>vF) (fun _=>congrArg Value.bool hb2)<|jE [[],[],[],[]]) (fun _=>?_)
  refine oC (m==0) (fun hb3=>?_) (fun hb3=>?_)
  ·
   rw [hb3]
   refine jJ Tryz.f37 1 [0,2,3,4,5] [vF] (aF (aC (aP (aC (aC (aP (aC ?_)))))))
   exact mR (v:=vF) (fun _ hS=>⟨jB (show false=shB ts by unfold shB;rw [wh_stop (by have:=yF hb2;omega) (Or.inl (xQ hb3)) hr];rfl),hS.bel⟩)
  rw [hb3]
  refine aG (aA ?_)
  refine rS Tryz.f37 5 [0,3,4] [] (fun _=>let qa:=vi (m+(nO (gT ts i).kd-1));[vi m,vi (m-1),vi (nO (gT ts i).kd),qa,qa]) (fun _=>[]) (cR [[]]<|jU (fun ρ=>(m-1)) (fun _=>(m-1)) (fun _=>(gZ (by omega)))<|cR [[]]<|jU (fun ρ=>((m-1)+(nO (gT ts i).kd))) (fun _=>(m+(nO (gT ts i).kd-1))) (fun _=>((gZ (by have:=zM (gT ts i).kd;omega)).trans (by omega)))<|jE [[]]) (fun _=>?_)
  refine aJ (aA ?_)
  refine rS Tryz.f37 3 [0,3,4] [] (fun _=>[vn i,vn (i+1),vn (i+1)]) (fun _=>[]) (cR [[]]<|jW (fun ρ=>(((i:Nat):Int)+1)) (fun _=>(i+1)) (fun _=>(aW i 1 (by have:=yF hb2;omega)))<|jE [[]]) (fun _=>?_)
  exact mN (i+1,m+(nO (gT ts i).kd-1)) (by show ts.length-(i+1)<ts.length-i;have:=yF hb2;omega) (⟨(by have:=yF hb2;omega),by have:=zM (gT ts i).kd;have:=jP hb3;have:=yF hb2;omega,wh_next (by have:=yF hb2;omega) (jP hb3) (yF hb2) hr⟩) []
 rw [hb1]
 have:=yF hb1
 refine bF (aN (aN (aT (aA ?_))))
 rcases Bool.eq_false_or_eq_true (m==0) with hb4 | hb4
 ·
  rcases Bool.eq_false_or_eq_true (decide (1≤((ts.length:Nat):Int))) with hb5 | hb5
  ·
   refine sS Tryz.f37 13 [2] [] (fun _=>let qa:Value:=.bool (decide (((ts.length:Nat):Int)≤8));[vi m,vT,vT,.slice a ts.length c,vn ts.length,vT,vT,vT,.slice a ts.length c,vn ts.length,qa,qa,qa]) (fun _=>[]) (cR [[]]<|cA (fun _=>vT) (fun _=>congrArg Value.bool hb4)<|cR [[],[],[]]<|cA (fun _=>vT) (fun _=>congrArg Value.bool hb5)<|jE [[],[],[],[],[],[],[]]) (fun _=>?_)
   refine aF ?_
   exact mR (v:=(.bool (decide (((ts.length:Nat):Int)≤8)))) (fun _ hS=>⟨jB (sh_2 (wh_end (by have:=yT hb5;omega) hr) hb4 hb5),hS.bel⟩)
  refine sS Tryz.f37 13 [2] [] (fun _=>[vi m,vT,vT,.slice a ts.length c,vn ts.length,vF,vF,vF,undef,undef,undef,vF,vF]) (fun _=>[]) (cR [[]]<|cA (fun _=>vT) (fun _=>congrArg Value.bool hb4)<|cR [[],[],[]]<|cA (fun _=>vF) (fun _=>congrArg Value.bool hb5)<|jE [[],[],[],[],[],[],[]]) (fun _=>?_)
  refine aF ?_
  exact mR (v:=vF) (fun _ hS=>⟨jB (sh_1 (wh_end (by have:=yF hb5;omega) hr) hb4 hb5),hS.bel⟩)
 refine sS Tryz.f37 13 [2] [] (fun _=>[vi m,vF,vF,undef,undef,undef,vF,vF,undef,undef,undef,vF,vF]) (fun _=>[]) (cR [[]]<|cA (fun _=>vF) (fun _=>congrArg Value.bool hb4)<|jE [[],[],[],[],[],[],[],[],[],[],[]]) (fun _=>?_)
 refine aF ?_
 exact mR (v:=vF) (fun _ hS=>⟨jB (sh_0 (wh_end (by omega) hr) hb4),hS.bel⟩)
theorem dfields_any (kd:Int) (m:Int) (nu:Nat) (h:Nat) (ka:Option Addr) (kc:Nat) (ks:List dO) (hh:h<M) (w0:World):Calls Tryz.prog 33 #[.agg (iC kd m ((nu:Nat):Int) h (.slice ka ks.length kc))] w0 (jR (.bool (fdN kd m nu h ks.length)) w0):=by
 refine Calls.of_ok (n:=70) (F:=(fun _=>True)) Tryz.func33 rfl rfl rfl (by simp) jT ?_
 refine sS Tryz.f33 2 [1,2] [] (fun ρ=>[pt (nb ρ 0),vF]) (fun ρ=>[(0,(nw ρ 0 (cL (iC kd m ((nu:Nat):Int) h (.slice ka ks.length kc)) 46)))]) (jE [[],[]]) (fun ρ1=>?_)
 refine aB ?_
 rcases Bool.eq_false_or_eq_true (kd != 2) with hb1 | hb1
 ·
  refine sS Tryz.f33 8 [1,2,10] [] (fun _=>[pt (nb ρ1 0),vi kd,vT,vT,jp (nb ρ1 0) 1,vi m,.bool (m != 0),.bool (m != 0)]) (fun _=>[]) (cR [[],[0]]<|cA (fun _=>vT) (fun _=>congrArg Value.bool hb1)<|jE [[],[],[0],[],[]]) (fun _=>?_)
  refine oC (m != 0) (fun hb2=>?_) (fun hb2=>?_)
  ·
   rw [hb2]
   refine jJ Tryz.f33 1 [1,2] [vF] (aF (aC ?_))
   exact mR (v:=vF) (fun _ hS=>⟨jB (qU (by have:=iK hb1;have:=iK hb2;unfold o7;omega)),hS.bel⟩)
  rw [hb2]
  refine aG (aA (aB ?_))
  rcases Bool.eq_false_or_eq_true (kd != 3) with hb3 | hb3
  ·
   rcases Bool.eq_false_or_eq_true (kd != 4) with hb4 | hb4
   ·
    refine sS Tryz.f33 13 [1,2,23] [] (fun _=>let qa:Value:=.bool (((nu:Nat):Int) != 0);[pt (nb ρ1 0),vi kd,vT,vT,pt (nb ρ1 0),vi kd,vT,vT,vT,jp (nb ρ1 0) 2,vu nu,qa,qa]) (fun _=>[]) (cR [[],[0]]<|cA (fun _=>vT) (fun _=>congrArg Value.bool hb3)<|cR [[],[],[0]]<|cA (fun _=>vT) (fun _=>congrArg Value.bool hb4)<|jE [[],[],[],[0],[],[]]) (fun _=>?_)
    refine oC (((nu:Nat):Int) != 0) (fun hb5=>?_) (fun hb5=>?_)
    ·
     rw [hb5]
     refine jJ Tryz.f33 1 [1,2] [vF] (aF (aC ?_))
     exact mR (v:=vF) (fun _ hS=>⟨jB (qU (by have:=iK hb1;have:=dD hb2;have:=iK hb3;have:=iK hb4;have:=iK hb5;unfold o7;omega)),hS.bel⟩)
    rw [hb5]
    refine aG (aA (aB ?_))
    rcases Bool.eq_false_or_eq_true (kd != 5) with hb6 | hb6
    ·
     refine sS Tryz.f33 9 [1,2,32] [] (fun _=>[pt (nb ρ1 0),vi kd,vT,vT,jp (nb ρ1 0) 3,.agg (hB h),.agg (hB 0),.bool (!decide (h=0)),.bool (!decide (h=0))]) (fun _=>[]) (cR [[],[0]]<|cA (fun _=>vT) (fun _=>congrArg Value.bool hb6)<|cR [[],[],[0],[]]<|cB (a:=fun ρ=>(.agg (hB h))) (b:=fun ρ=>(.agg (hB 0))) (v:=fun ρ=>(.bool (!decide (h=0)))) .neq 43 (fun _ _=>neqH h 0 hh (by decide +kernel) _)<|jE [[]]) (fun _=>?_)
     refine oC (!decide (h=0)) (fun hb7=>?_) (fun hb7=>?_)
     ·
      rw [hb7]
      refine jJ Tryz.f33 1 [1,2] [vF] (aF (aC ?_))
      exact mR (v:=vF) (fun _ hS=>⟨jB (qU (by have:=iK hb1;have:=dD hb2;have:=iK hb3;have:=iK hb4;have:=dD hb5;have:=iK hb6;have:=yF (dF hb7);unfold o7;omega)),hS.bel⟩)
     rw [hb7]
     refine aG (aA (aB (jM Tryz.f33 2 [1,2,34] [] [pt (nb ρ1 0),vi kd] [[],[0]] (aI (jJ Tryz.f33 2 [1,2,34,35] [.bool (kd==1),.bool (kd==1)] ?_)))))
     refine oC (kd==1) (fun hb8=>?_) (fun hb8=>?_)
     ·
      rw [hb8]
      refine jM Tryz.f33 5 [1,2] [] (let qa:Value:=.bool (((ks.length:Nat):Int)==1);[jp (nb ρ1 0) 35,.slice ka ks.length kc,vn ks.length,qa,qa]) [[],[0],[],[],[]] (aF (aP (aC ?_)))
      exact mR (v:=(.bool (((ks.length:Nat):Int)==1))) (fun _ hS=>⟨jB (fd_b (by have:=iK hb1;have:=dD hb2;have:=iK hb3;have:=iK hb4;have:=dD hb5;have:=iK hb6;have:=yT (aV hb7);have:=xQ hb8;unfold o7;omega)),hS.bel⟩)
     rw [hb8]
     refine sS Tryz.f33 2 [1,2,41] [] (fun _=>[vF,vF]) (fun _=>[]) (cA (fun _=>vF) (fun _=>congrArg Value.bool (beq_f (iK hb1)))<|jE [[]]) (fun _=>?_)
     refine lK [(1,(pt (nb ρ1 0))),(2,vF),(41,vF)] [(nb ρ1 0,(cL (iC kd m ((nu:Nat):Int) h (.slice ka ks.length kc)) 46))] ?_
     refine oN ?_
     refine aG (aJ (aA (jM Tryz.f33 5 [2] [0] (let qa:Value:=.bool (((ks.length:Nat):Int)==0);[jp (nb ρ1 0) 35,.slice ka ks.length kc,vn ks.length,qa,qa]) [[],[0],[],[],[]] (aF ?_))))
     exact mR (v:=(.bool (((ks.length:Nat):Int)==0))) (fun _ hS=>⟨jB (fd_b (by have:=iK hb1;have:=dD hb2;have:=iK hb3;have:=iK hb4;have:=dD hb5;have:=iK hb6;have:=yT (aV hb7);have:=jP hb8;unfold o7;omega)),hS.bel⟩)
    refine sS Tryz.f33 9 [1,2,32] [] (fun _=>[pt (nb ρ1 0),vi kd,vF,vF,undef,undef,undef,undef,vF]) (fun _=>[]) (cR [[],[0]]<|cA (fun _=>vF) (fun _=>congrArg Value.bool hb6)<|jE [[],[],[],[],[],[]]) (fun _=>?_)
    refine oN ?_
    refine aG (aA (aB (jM Tryz.f33 2 [1,2,34] [] [pt (nb ρ1 0),vi kd] [[],[0]] (aI ?_))))
    refine sS Tryz.f33 2 [1,2,34,35] [] (fun _=>[vF,vF]) (fun _=>[]) (jQ (fun ρ=>(kd==1)) false (fun _=>(show (kd==1)=false by rw [dD hb6];rfl))<|jE [[]]) (fun _=>?_)
    refine oN ?_
    refine sS Tryz.f33 2 [1,2,41] [] (fun _=>[vF,vF]) (fun _=>[]) (jQ (fun ρ=>(kd==2)) false (fun _=>(show (kd==2)=false by rw [dD hb6];rfl))<|jE [[]]) (fun _=>?_)
    refine lK [(1,(pt (nb ρ1 0))),(2,vF),(41,vF)] [(nb ρ1 0,(cL (iC kd m ((nu:Nat):Int) h (.slice ka ks.length kc)) 46))] ?_
    refine oN ?_
    refine aG (aJ (aA (jM Tryz.f33 5 [2] [0] (let qa:Value:=.bool (((ks.length:Nat):Int)==0);[jp (nb ρ1 0) 35,.slice ka ks.length kc,vn ks.length,qa,qa]) [[],[0],[],[],[]] (aF ?_))))
    exact mR (v:=(.bool (((ks.length:Nat):Int)==0))) (fun _ hS=>⟨jB (fd_b (by have:=iK hb1;have:=dD hb2;have:=iK hb3;have:=iK hb4;have:=dD hb5;have:=dD hb6;unfold o7;omega)),hS.bel⟩)
   refine sS Tryz.f33 13 [1,2,23] [] (fun _=>[pt (nb ρ1 0),vi kd,vT,vT,pt (nb ρ1 0),vi kd,vF,vF,vF,undef,undef,undef,vF]) (fun _=>[]) (cR [[],[0]]<|cA (fun _=>vT) (fun _=>congrArg Value.bool hb3)<|cR [[],[],[0]]<|cA (fun _=>vF) (fun _=>congrArg Value.bool hb4)<|jE [[],[],[],[],[],[]]) (fun _=>?_)
   refine oN ?_
   refine aG (aA (aB ?_))
   refine sS Tryz.f33 9 [1,2,32] [] (fun _=>[pt (nb ρ1 0),vi kd,vT,vT,jp (nb ρ1 0) 3,.agg (hB h),.agg (hB 0),.bool (!decide (h=0)),.bool (!decide (h=0))]) (fun _=>[]) (cR [[],[0]]<|jQ (fun ρ=>(kd != 5)) true (fun _=>(show (kd != 5)=true by rw [dD hb4];rfl))<|cR [[],[],[0],[]]<|cB (a:=fun ρ=>(.agg (hB h))) (b:=fun ρ=>(.agg (hB 0))) (v:=fun ρ=>(.bool (!decide (h=0)))) .neq 43 (fun _ _=>neqH h 0 hh (by decide +kernel) _)<|jE [[]]) (fun _=>?_)
   refine oC (!decide (h=0)) (fun hb9=>?_) (fun hb9=>?_)
   ·
    rw [hb9]
    refine jJ Tryz.f33 1 [1,2] [vF] (aF (aC ?_))
    exact mR (v:=vF) (fun _ hS=>⟨jB (qU (by have:=iK hb1;have:=dD hb2;have:=iK hb3;have:=dD hb4;have:=yF (dF hb9);unfold o7;omega)),hS.bel⟩)
   rw [hb9]
   refine aG (aA (aB (jM Tryz.f33 2 [1,2,34] [] [pt (nb ρ1 0),vi kd] [[],[0]] (aI ?_))))
   refine sS Tryz.f33 2 [1,2,34,35] [] (fun _=>[vF,vF]) (fun _=>[]) (jQ (fun ρ=>(kd==1)) false (fun _=>(show (kd==1)=false by rw [dD hb4];rfl))<|jE [[]]) (fun _=>?_)
   refine oN ?_
   refine sS Tryz.f33 2 [1,2,41] [] (fun _=>[vF,vF]) (fun _=>[]) (jQ (fun ρ=>(kd==2)) false (fun _=>(show (kd==2)=false by rw [dD hb4];rfl))<|jE [[]]) (fun _=>?_)
   refine lK [(1,(pt (nb ρ1 0))),(2,vF),(41,vF)] [(nb ρ1 0,(cL (iC kd m ((nu:Nat):Int) h (.slice ka ks.length kc)) 46))] ?_
   refine oN ?_
   refine aG (aJ (aA (jM Tryz.f33 5 [2] [0] (let qa:Value:=.bool (((ks.length:Nat):Int)==0);[jp (nb ρ1 0) 35,.slice ka ks.length kc,vn ks.length,qa,qa]) [[],[0],[],[],[]] (aF ?_))))
   exact mR (v:=(.bool (((ks.length:Nat):Int)==0))) (fun _ hS=>⟨jB (fd_b (by have:=iK hb1;have:=dD hb2;have:=iK hb3;have:=dD hb4;have:=yT (aV hb9);unfold o7;omega)),hS.bel⟩)
  refine sS Tryz.f33 13 [1,2,23] [] (fun _=>[pt (nb ρ1 0),vi kd,vF,vF,undef,undef,undef,vF,vF,undef,undef,undef,vF]) (fun _=>[]) (cR [[],[0]]<|cA (fun _=>vF) (fun _=>congrArg Value.bool hb3)<|jE [[],[],[],[],[],[],[],[],[],[]]) (fun _=>?_)
  refine oN ?_
  refine aG (aA (aB ?_))
  refine sS Tryz.f33 9 [1,2,32] [] (fun _=>[pt (nb ρ1 0),vi kd,vT,vT,jp (nb ρ1 0) 3,.agg (hB h),.agg (hB 0),.bool (!decide (h=0)),.bool (!decide (h=0))]) (fun _=>[]) (cR [[],[0]]<|jQ (fun ρ=>(kd != 5)) true (fun _=>(show (kd != 5)=true by rw [dD hb3];rfl))<|cR [[],[],[0],[]]<|cB (a:=fun ρ=>(.agg (hB h))) (b:=fun ρ=>(.agg (hB 0))) (v:=fun ρ=>(.bool (!decide (h=0)))) .neq 43 (fun _ _=>neqH h 0 hh (by decide +kernel) _)<|jE [[]]) (fun _=>?_)
  refine oC (!decide (h=0)) (fun hb10=>?_) (fun hb10=>?_)
  ·
   rw [hb10]
   refine jJ Tryz.f33 1 [1,2] [vF] (aF (aC ?_))
   exact mR (v:=vF) (fun _ hS=>⟨jB (qU (by have:=iK hb1;have:=dD hb2;have:=dD hb3;have:=yF (dF hb10);unfold o7;omega)),hS.bel⟩)
  rw [hb10]
  refine aG (aA (aB (jM Tryz.f33 2 [1,2,34] [] [pt (nb ρ1 0),vi kd] [[],[0]] (aI ?_))))
  refine sS Tryz.f33 2 [1,2,34,35] [] (fun _=>[vF,vF]) (fun _=>[]) (jQ (fun ρ=>(kd==1)) false (fun _=>(show (kd==1)=false by rw [dD hb3];rfl))<|jE [[]]) (fun _=>?_)
  refine oN ?_
  refine sS Tryz.f33 2 [1,2,41] [] (fun _=>[vF,vF]) (fun _=>[]) (jQ (fun ρ=>(kd==2)) false (fun _=>(show (kd==2)=false by rw [dD hb3];rfl))<|jE [[]]) (fun _=>?_)
  refine lK [(1,(pt (nb ρ1 0))),(2,vF),(41,vF)] [(nb ρ1 0,(cL (iC kd m ((nu:Nat):Int) h (.slice ka ks.length kc)) 46))] ?_
  refine oN ?_
  refine aG (aJ (aA (jM Tryz.f33 5 [2] [0] (let qa:Value:=.bool (((ks.length:Nat):Int)==0);[jp (nb ρ1 0) 35,.slice ka ks.length kc,vn ks.length,qa,qa]) [[],[0],[],[],[]] (aF ?_))))
  exact mR (v:=(.bool (((ks.length:Nat):Int)==0))) (fun _ hS=>⟨jB (fd_b (by have:=iK hb1;have:=dD hb2;have:=dD hb3;have:=yT (aV hb10);unfold o7;omega)),hS.bel⟩)
 refine sS Tryz.f33 8 [1,2,10] [] (fun _=>[pt (nb ρ1 0),vi kd,vF,vF,undef,undef,undef,vF]) (fun _=>[]) (cR [[],[0]]<|cA (fun _=>vF) (fun _=>congrArg Value.bool hb1)<|jE [[],[],[],[],[]]) (fun _=>?_)
 refine oN ?_
 refine aG (aA (aB ?_))
 refine sS Tryz.f33 13 [1,2,23] [] (fun _=>let qa:Value:=.bool (((nu:Nat):Int) != 0);[pt (nb ρ1 0),vi kd,vT,vT,pt (nb ρ1 0),vi kd,vT,vT,vT,jp (nb ρ1 0) 2,vu nu,qa,qa]) (fun _=>[]) (cR [[],[0]]<|jQ (fun ρ=>(kd != 3)) true (fun _=>(show (kd != 3)=true by rw [dD hb1];rfl))<|cR [[],[],[0]]<|jQ (fun ρ=>(kd != 4)) true (fun _=>(show (kd != 4)=true by rw [dD hb1];rfl))<|jE [[],[],[],[0],[],[]]) (fun _=>?_)
 refine oC (((nu:Nat):Int) != 0) (fun hb11=>?_) (fun hb11=>?_)
 ·
  rw [hb11]
  refine jJ Tryz.f33 1 [1,2] [vF] (aF (aC ?_))
  exact mR (v:=vF) (fun _ hS=>⟨jB (qU (by have:=dD hb1;have:=iK hb11;unfold o7;omega)),hS.bel⟩)
 rw [hb11]
 refine aG (aA (aB ?_))
 refine sS Tryz.f33 9 [1,2,32] [] (fun _=>[pt (nb ρ1 0),vi kd,vT,vT,jp (nb ρ1 0) 3,.agg (hB h),.agg (hB 0),.bool (!decide (h=0)),.bool (!decide (h=0))]) (fun _=>[]) (cR [[],[0]]<|jQ (fun ρ=>(kd != 5)) true (fun _=>(show (kd != 5)=true by rw [dD hb1];rfl))<|cR [[],[],[0],[]]<|cB (a:=fun ρ=>(.agg (hB h))) (b:=fun ρ=>(.agg (hB 0))) (v:=fun ρ=>(.bool (!decide (h=0)))) .neq 43 (fun _ _=>neqH h 0 hh (by decide +kernel) _)<|jE [[]]) (fun _=>?_)
 refine oC (!decide (h=0)) (fun hb12=>?_) (fun hb12=>?_)
 ·
  rw [hb12]
  refine jJ Tryz.f33 1 [1,2] [vF] (aF (aC ?_))
  exact mR (v:=vF) (fun _ hS=>⟨jB (qU (by have:=dD hb1;have:=dD hb11;have:=yF (dF hb12);unfold o7;omega)),hS.bel⟩)
 rw [hb12]
 refine aG (aA (aB (jM Tryz.f33 2 [1,2,34] [] [pt (nb ρ1 0),vi kd] [[],[0]] (aI ?_))))
 refine sS Tryz.f33 2 [1,2,34,35] [] (fun _=>[vF,vF]) (fun _=>[]) (jQ (fun ρ=>(kd==1)) false (fun _=>(show (kd==1)=false by rw [dD hb1];rfl))<|jE [[]]) (fun _=>?_)
 refine oN ?_
 refine sS Tryz.f33 2 [1,2,41] [] (fun _=>[vT,vT]) (fun _=>[]) (jQ (fun ρ=>(kd==2)) true (fun _=>(show (kd==2)=true by rw [dD hb1];rfl))<|jE [[]]) (fun _=>?_)
 refine lK [(1,(pt (nb ρ1 0))),(2,vF),(41,vT)] [(nb ρ1 0,(cL (iC kd m ((nu:Nat):Int) h (.slice ka ks.length kc)) 46))] ?_
 refine oY ?_
 rcases Bool.eq_false_or_eq_true (decide (1≤((ks.length:Nat):Int))) with hb13 | hb13
 ·
  rcases Bool.eq_false_or_eq_true (decide (((ks.length:Nat):Int)≤15)) with hb14 | hb14
  ·
   rcases Bool.eq_false_or_eq_true (decide (1≤m)) with hb15 | hb15
   ·
    refine sS Tryz.f33 24 [1,2] [] (fun _=>let qa:Value:=.bool (decide (m≤((ks.length:Nat):Int)));let qb:Value:=.slice ka ks.length kc;[jp (nb ρ1 0) 35,qb,vn ks.length,vT,vT,jp (nb ρ1 0) 35,qb,vn ks.length,vT,vT,vT,jp (nb ρ1 0) 1,vi m,vT,vT,vT,jp (nb ρ1 0) 1,vi m,jp (nb ρ1 0) 35,qb,vn ks.length,qa,qa,qa]) (fun _=>[]) (cR [[],[0],[]]<|cA (fun _=>vT) (fun _=>congrArg Value.bool hb13)<|cR [[],[],[0],[]]<|cA (fun _=>vT) (fun _=>congrArg Value.bool hb14)<|cR [[],[],[],[0]]<|cA (fun _=>vT) (fun _=>congrArg Value.bool hb15)<|jE [[],[],[],[0],[],[0],[],[],[],[]]) (fun _=>?_)
    refine aF (aP (aC ?_))
    exact mR (v:=(.bool (decide (m≤((ks.length:Nat):Int))))) (fun _ hS=>⟨jB (fd_d (by have:=dD hb1;have:=dD hb11;have:=yT (aV hb12);have:=yT hb13;have:=yT hb14;have:=yT hb15;unfold o7;omega)),hS.bel⟩)
   refine sS Tryz.f33 24 [1,2] [] (fun _=>[jp (nb ρ1 0) 35,.slice ka ks.length kc,vn ks.length,vT,vT,jp (nb ρ1 0) 35,.slice ka ks.length kc,vn ks.length,vT,vT,vT,jp (nb ρ1 0) 1,vi m,vF,vF,vF,undef,undef,undef,undef,undef,undef,vF,vF]) (fun _=>[]) (cR [[],[0],[]]<|cA (fun _=>vT) (fun _=>congrArg Value.bool hb13)<|cR [[],[],[0],[]]<|cA (fun _=>vT) (fun _=>congrArg Value.bool hb14)<|cR [[],[],[],[0]]<|cA (fun _=>vF) (fun _=>congrArg Value.bool hb15)<|jE [[],[],[],[],[],[],[],[],[],[]]) (fun _=>?_)
   refine aF (aP (aC ?_))
   exact mR (v:=vF) (fun _ hS=>⟨jB (qU (by have:=dD hb1;have:=dD hb11;have:=yT (aV hb12);have:=yT hb13;have:=yT hb14;have:=yF hb15;unfold o7;omega)),hS.bel⟩)
  refine sS Tryz.f33 24 [1,2] [] (fun _=>[jp (nb ρ1 0) 35,.slice ka ks.length kc,vn ks.length,vT,vT,jp (nb ρ1 0) 35,.slice ka ks.length kc,vn ks.length,vF,vF,vF,undef,undef,undef,vF,vF,undef,undef,undef,undef,undef,undef,vF,vF]) (fun _=>[]) (cR [[],[0],[]]<|cA (fun _=>vT) (fun _=>congrArg Value.bool hb13)<|cR [[],[],[0],[]]<|cA (fun _=>vF) (fun _=>congrArg Value.bool hb14)<|jE [[],[],[],[],[],[],[],[],[],[],[],[],[],[],[]]) (fun _=>?_)
  refine aF (aP (aC ?_))
  exact mR (v:=vF) (fun _ hS=>⟨jB (qU (by have:=dD hb1;have:=dD hb11;have:=yT (aV hb12);have:=yT hb13;have:=yF hb14;unfold o7;omega)),hS.bel⟩)
 refine sS Tryz.f33 24 [1,2] [] (fun _=>[jp (nb ρ1 0) 35,.slice ka ks.length kc,vn ks.length,vF,vF,undef,undef,undef,undef,vF,vF,undef,undef,undef,vF,vF,undef,undef,undef,undef,undef,undef,vF,vF]) (fun _=>[]) (cR [[],[0],[]]<|cA (fun _=>vF) (fun _=>congrArg Value.bool hb13)<|jE [[],[],[],[],[],[],[],[],[],[],[],[],[],[],[],[],[],[],[],[]]) (fun _=>?_)
 refine aF (aP (aC ?_))
 exact mR (v:=vF) (fun _ hS=>⟨jB (qU (by have:=dD hb1;have:=dD hb11;have:=yT (aV hb12);have:=yF hb13;unfold o7;omega)),hS.bel⟩)
theorem rdfields_any (kd:Int) (m:Int) (nu:Nat) (h:Nat) (ka:Option Addr) (kc:Nat) (ks:List dO) (hh:h<M) (w0:World):Calls Tryz.prog 38 #[.agg (iC kd m ((nu:Nat):Int) h (.slice ka ks.length kc))] w0 (jR (.bool (fdN kd m nu h ks.length)) w0):=by
 refine Calls.of_ok (n:=68) (F:=(fun _=>True)) Tryz.func38 rfl rfl rfl (by simp) jT ?_
 refine sS Tryz.f38 2 [1,2] [] (fun ρ=>[pt (nb ρ 0),vF]) (fun ρ=>[(0,(nw ρ 0 (cL (iC kd m ((nu:Nat):Int) h (.slice ka ks.length kc)) 46)))]) (jE [[],[]]) (fun ρ1=>?_)
 refine jM Tryz.f38 4 [1,2,3] [] [jp (nb ρ1 0) 35,.slice ka ks.length kc,vn ks.length,vn ks.length] [[],[0],[],[]] (aB ?_)
 rcases Bool.eq_false_or_eq_true (((nu:Nat):Int) != 0) with hb1 | hb1
 ·
  rcases Bool.eq_false_or_eq_true (kd != 3) with hb2 | hb2
  ·
   rcases Bool.eq_false_or_eq_true (kd != 4) with hb3 | hb3
   ·
    refine sS Tryz.f38 24 [1,2,3,30] [] (fun _=>[jp (nb ρ1 0) 2,vu nu,vT,vT,pt (nb ρ1 0),vi kd,vT,vT,vT,pt (nb ρ1 0),vi kd,vT,vT,vT,undef,undef,undef,undef,undef,undef,undef,undef,undef,vT]) (fun _=>[]) (cR [[],[0]]<|cA (fun _=>vT) (fun _=>congrArg Value.bool hb1)<|cR [[],[],[0]]<|cA (fun _=>vT) (fun _=>congrArg Value.bool hb2)<|cR [[],[],[],[0]]<|cA (fun _=>vT) (fun _=>congrArg Value.bool hb3)<|jE [[],[],[],[],[],[],[],[],[],[],[],[]]) (fun _=>?_)
    refine oY ?_
    refine jJ Tryz.f38 1 [1,2,3] [vF] (aF (aC ?_))
    exact mR (v:=vF) (fun _ hS=>⟨jB (qU (by have:=iK hb1;have:=iK hb2;have:=iK hb3;unfold o7;omega)),hS.bel⟩)
   rcases Bool.eq_false_or_eq_true (decide (h=0)) with hb4 | hb4
   ·
    refine sS Tryz.f38 24 [1,2,3,30] [] (fun _=>[jp (nb ρ1 0) 2,vu nu,vT,vT,pt (nb ρ1 0),vi kd,vT,vT,vT,pt (nb ρ1 0),vi kd,vF,vF,vF,jp (nb ρ1 0) 3,.agg (hB h),.agg (hB 0),vF,vF,undef,undef,undef,vF,vF]) (fun _=>[]) (cR [[],[0]]<|cA (fun _=>vT) (fun _=>congrArg Value.bool hb1)<|cR [[],[],[0]]<|cA (fun _=>vT) (fun _=>congrArg Value.bool hb2)<|cR [[],[],[],[0]]<|cA (fun _=>vF) (fun _=>congrArg Value.bool hb3)<|cR [[],[],[],[0],[]]<|cB (a:=fun ρ=>(.agg (hB h))) (b:=fun ρ=>(.agg (hB 0))) (v:=fun ρ=>vF) .neq 43 (fun _ _=>(neqH h 0 hh (by decide +kernel) _).trans (by rw [hb4];try rfl))<|jE [[],[],[],[],[],[]]) (fun _=>?_)
    refine oN ?_
    refine aG (aA (aB (jM Tryz.f38 2 [1,2,3,32] [] [pt (nb ρ1 0),vi kd] [[],[0]] (aI ?_))))
    refine sS Tryz.f38 2 [1,2,3,32,33] [] (fun _=>[vF,vF]) (fun _=>[]) (jQ (fun ρ=>(kd==1)) false (fun _=>(show (kd==1)=false by rw [dD hb3];rfl))<|jE [[]]) (fun _=>?_)
    refine oN ?_
    refine sS Tryz.f38 2 [1,2,3,42] [] (fun _=>[vF,vF]) (fun _=>[]) (jQ (fun ρ=>(kd==2)) false (fun _=>(show (kd==2)=false by rw [dD hb3];rfl))<|jE [[]]) (fun _=>?_)
    refine oN ?_
    refine aG (aJ (aA ?_))
    rcases Bool.eq_false_or_eq_true (((ks.length:Nat):Int)==0) with hb5 | hb5
    ·
     refine sS Tryz.f38 8 [2] [0] (fun _=>[vn ks.length,vT,vT,jp (nb ρ1 0) 1,vi m,.bool (m==0),.bool (m==0),.bool (m==0)]) (fun _=>[]) (cR [[]]<|cA (fun _=>vT) (fun _=>congrArg Value.bool hb5)<|jE [[],[],[0],[],[],[]]) (fun _=>?_)
     refine aF ?_
     exact mR (v:=(.bool (m==0))) (fun _ hS=>⟨jB (fd_b (by have:=iK hb1;have:=iK hb2;have:=dD hb3;have:=yT hb4;have:=xQ hb5;unfold o7;omega)),hS.bel⟩)
    refine sS Tryz.f38 8 [2] [0] (fun _=>[vn ks.length,vF,vF,undef,undef,undef,vF,vF]) (fun _=>[]) (cR [[]]<|cA (fun _=>vF) (fun _=>congrArg Value.bool hb5)<|jE [[],[],[],[],[],[]]) (fun _=>?_)
    refine aF ?_
    exact mR (v:=vF) (fun _ hS=>⟨jB (qU (by have:=iK hb1;have:=iK hb2;have:=dD hb3;have:=yT hb4;have:=jP hb5;unfold o7;omega)),hS.bel⟩)
   refine sS Tryz.f38 24 [1,2,3,30] [] (fun _=>[jp (nb ρ1 0) 2,vu nu,vT,vT,pt (nb ρ1 0),vi kd,vT,vT,vT,pt (nb ρ1 0),vi kd,vF,vF,vF,jp (nb ρ1 0) 3,.agg (hB h),.agg (hB 0),vT,vT,pt (nb ρ1 0),vi kd,vT,vT,vT]) (fun _=>[]) (cR [[],[0]]<|cA (fun _=>vT) (fun _=>congrArg Value.bool hb1)<|cR [[],[],[0]]<|cA (fun _=>vT) (fun _=>congrArg Value.bool hb2)<|cR [[],[],[],[0]]<|cA (fun _=>vF) (fun _=>congrArg Value.bool hb3)<|cR [[],[],[],[0],[]]<|cB (a:=fun ρ=>(.agg (hB h))) (b:=fun ρ=>(.agg (hB 0))) (v:=fun ρ=>vT) .neq 43 (fun _ _=>(neqH h 0 hh (by decide +kernel) _).trans (by rw [hb4];try rfl))<|cR [[],[],[0]]<|jQ (fun ρ=>(kd != 5)) true (fun _=>(show (kd != 5)=true by rw [dD hb3];rfl))<|jE [[],[]]) (fun _=>?_)
   refine oY ?_
   refine jJ Tryz.f38 1 [1,2,3] [vF] (aF (aC ?_))
   exact mR (v:=vF) (fun _ hS=>⟨jB (qU (by have:=iK hb1;have:=iK hb2;have:=dD hb3;have:=yF hb4;unfold o7;omega)),hS.bel⟩)
  rcases Bool.eq_false_or_eq_true (decide (h=0)) with hb6 | hb6
  ·
   refine sS Tryz.f38 24 [1,2,3,30] [] (fun _=>[jp (nb ρ1 0) 2,vu nu,vT,vT,pt (nb ρ1 0),vi kd,vF,vF,vF,undef,undef,undef,vF,vF,jp (nb ρ1 0) 3,.agg (hB h),.agg (hB 0),vF,vF,undef,undef,undef,vF,vF]) (fun _=>[]) (cR [[],[0]]<|cA (fun _=>vT) (fun _=>congrArg Value.bool hb1)<|cR [[],[],[0]]<|cA (fun _=>vF) (fun _=>congrArg Value.bool hb2)<|cR [[],[],[],[],[],[],[],[],[0],[]]<|cB (a:=fun ρ=>(.agg (hB h))) (b:=fun ρ=>(.agg (hB 0))) (v:=fun ρ=>vF) .neq 43 (fun _ _=>(neqH h 0 hh (by decide +kernel) _).trans (by rw [hb6];try rfl))<|jE [[],[],[],[],[],[]]) (fun _=>?_)
   refine oN ?_
   refine aG (aA (aB (jM Tryz.f38 2 [1,2,3,32] [] [pt (nb ρ1 0),vi kd] [[],[0]] (aI ?_))))
   refine sS Tryz.f38 2 [1,2,3,32,33] [] (fun _=>[vF,vF]) (fun _=>[]) (jQ (fun ρ=>(kd==1)) false (fun _=>(show (kd==1)=false by rw [dD hb2];rfl))<|jE [[]]) (fun _=>?_)
   refine oN ?_
   refine sS Tryz.f38 2 [1,2,3,42] [] (fun _=>[vF,vF]) (fun _=>[]) (jQ (fun ρ=>(kd==2)) false (fun _=>(show (kd==2)=false by rw [dD hb2];rfl))<|jE [[]]) (fun _=>?_)
   refine oN ?_
   refine aG (aJ (aA ?_))
   rcases Bool.eq_false_or_eq_true (((ks.length:Nat):Int)==0) with hb7 | hb7
   ·
    refine sS Tryz.f38 8 [2] [0] (fun _=>[vn ks.length,vT,vT,jp (nb ρ1 0) 1,vi m,.bool (m==0),.bool (m==0),.bool (m==0)]) (fun _=>[]) (cR [[]]<|cA (fun _=>vT) (fun _=>congrArg Value.bool hb7)<|jE [[],[],[0],[],[],[]]) (fun _=>?_)
    refine aF ?_
    exact mR (v:=(.bool (m==0))) (fun _ hS=>⟨jB (fd_b (by have:=iK hb1;have:=dD hb2;have:=yT hb6;have:=xQ hb7;unfold o7;omega)),hS.bel⟩)
   refine sS Tryz.f38 8 [2] [0] (fun _=>[vn ks.length,vF,vF,undef,undef,undef,vF,vF]) (fun _=>[]) (cR [[]]<|cA (fun _=>vF) (fun _=>congrArg Value.bool hb7)<|jE [[],[],[],[],[],[]]) (fun _=>?_)
   refine aF ?_
   exact mR (v:=vF) (fun _ hS=>⟨jB (qU (by have:=iK hb1;have:=dD hb2;have:=yT hb6;have:=jP hb7;unfold o7;omega)),hS.bel⟩)
  refine sS Tryz.f38 24 [1,2,3,30] [] (fun _=>[jp (nb ρ1 0) 2,vu nu,vT,vT,pt (nb ρ1 0),vi kd,vF,vF,vF,undef,undef,undef,vF,vF,jp (nb ρ1 0) 3,.agg (hB h),.agg (hB 0),vT,vT,pt (nb ρ1 0),vi kd,vT,vT,vT]) (fun _=>[]) (cR [[],[0]]<|cA (fun _=>vT) (fun _=>congrArg Value.bool hb1)<|cR [[],[],[0]]<|cA (fun _=>vF) (fun _=>congrArg Value.bool hb2)<|cR [[],[],[],[],[],[],[],[],[0],[]]<|cB (a:=fun ρ=>(.agg (hB h))) (b:=fun ρ=>(.agg (hB 0))) (v:=fun ρ=>vT) .neq 43 (fun _ _=>(neqH h 0 hh (by decide +kernel) _).trans (by rw [hb6];try rfl))<|cR [[],[],[0]]<|jQ (fun ρ=>(kd != 5)) true (fun _=>(show (kd != 5)=true by rw [dD hb2];rfl))<|jE [[],[]]) (fun _=>?_)
  refine oY ?_
  refine jJ Tryz.f38 1 [1,2,3] [vF] (aF (aC ?_))
  exact mR (v:=vF) (fun _ hS=>⟨jB (qU (by have:=iK hb1;have:=dD hb2;have:=yF hb6;unfold o7;omega)),hS.bel⟩)
 rcases Bool.eq_false_or_eq_true (decide (h=0)) with hb8 | hb8
 ·
  refine sS Tryz.f38 24 [1,2,3,30] [] (fun _=>[jp (nb ρ1 0) 2,vu nu,vF,vF,undef,undef,undef,vF,vF,undef,undef,undef,vF,vF,jp (nb ρ1 0) 3,.agg (hB h),.agg (hB 0),vF,vF,undef,undef,undef,vF,vF]) (fun _=>[]) (cR [[],[0]]<|cA (fun _=>vF) (fun _=>congrArg Value.bool hb1)<|cR [[],[],[],[],[],[],[],[],[],[],[],[],[0],[]]<|cB (a:=fun ρ=>(.agg (hB h))) (b:=fun ρ=>(.agg (hB 0))) (v:=fun ρ=>vF) .neq 43 (fun _ _=>(neqH h 0 hh (by decide +kernel) _).trans (by rw [hb8];try rfl))<|jE [[],[],[],[],[],[]]) (fun _=>?_)
  refine oN ?_
  refine aG (aA (aB (jM Tryz.f38 2 [1,2,3,32] [] [pt (nb ρ1 0),vi kd] [[],[0]] (aI (jJ Tryz.f38 2 [1,2,3,32,33] [.bool (kd==1),.bool (kd==1)] ?_)))))
  refine oC (kd==1) (fun hb9=>?_) (fun hb9=>?_)
  ·
   rw [hb9]
   rcases Bool.eq_false_or_eq_true (((ks.length:Nat):Int)==1) with hb10 | hb10
   ·
    refine sS Tryz.f38 8 [1,2,3] [] (fun _=>[vn ks.length,vT,vT,jp (nb ρ1 0) 1,vi m,.bool (m==0),.bool (m==0),.bool (m==0)]) (fun _=>[]) (cR [[]]<|cA (fun _=>vT) (fun _=>congrArg Value.bool hb10)<|jE [[],[],[0],[],[],[]]) (fun _=>?_)
    refine aF (aP (aC ?_))
    exact mR (v:=(.bool (m==0))) (fun _ hS=>⟨jB (fd_b (by have:=dD hb1;have:=yT hb8;have:=xQ hb9;have:=xQ hb10;unfold o7;omega)),hS.bel⟩)
   refine sS Tryz.f38 8 [1,2,3] [] (fun _=>[vn ks.length,vF,vF,undef,undef,undef,vF,vF]) (fun _=>[]) (cR [[]]<|cA (fun _=>vF) (fun _=>congrArg Value.bool hb10)<|jE [[],[],[],[],[],[]]) (fun _=>?_)
   refine aF (aP (aC ?_))
   exact mR (v:=vF) (fun _ hS=>⟨jB (qU (by have:=dD hb1;have:=yT hb8;have:=xQ hb9;have:=jP hb10;unfold o7;omega)),hS.bel⟩)
  rw [hb9]
  refine jJ Tryz.f38 2 [1,2,3,42] [.bool (kd==2),.bool (kd==2)] ?_
  refine oC (kd==2) (fun hb11=>?_) (fun hb11=>?_)
  ·
   rw [hb11]
   rcases Bool.eq_false_or_eq_true (decide (1≤((ks.length:Nat):Int))) with hb12 | hb12
   ·
    rcases Bool.eq_false_or_eq_true (decide (((ks.length:Nat):Int)≤15)) with hb13 | hb13
    ·
     rcases Bool.eq_false_or_eq_true (decide (1≤m)) with hb14 | hb14
     ·
      refine sS Tryz.f38 18 [1,2,3] [] (fun _=>let qa:Value:=.bool (decide (m≤((ks.length:Nat):Int)));[vn ks.length,vT,vT,vn ks.length,vT,vT,vT,jp (nb ρ1 0) 1,vi m,vT,vT,vT,jp (nb ρ1 0) 1,vi m,vn ks.length,qa,qa,qa]) (fun _=>[]) (cR [[]]<|cA (fun _=>vT) (fun _=>congrArg Value.bool hb12)<|cR [[],[]]<|cA (fun _=>vT) (fun _=>congrArg Value.bool hb13)<|cR [[],[],[],[0]]<|cA (fun _=>vT) (fun _=>congrArg Value.bool hb14)<|jE [[],[],[],[0],[],[],[],[]]) (fun _=>?_)
      refine aF (aP (aC ?_))
      exact mR (v:=(.bool (decide (m≤((ks.length:Nat):Int))))) (fun _ hS=>⟨jB (fd_d (by have:=dD hb1;have:=yT hb8;have:=jP hb9;have:=xQ hb11;have:=yT hb12;have:=yT hb13;have:=yT hb14;unfold o7;omega)),hS.bel⟩)
     refine sS Tryz.f38 18 [1,2,3] [] (fun _=>[vn ks.length,vT,vT,vn ks.length,vT,vT,vT,jp (nb ρ1 0) 1,vi m,vF,vF,vF,undef,undef,undef,undef,vF,vF]) (fun _=>[]) (cR [[]]<|cA (fun _=>vT) (fun _=>congrArg Value.bool hb12)<|cR [[],[]]<|cA (fun _=>vT) (fun _=>congrArg Value.bool hb13)<|cR [[],[],[],[0]]<|cA (fun _=>vF) (fun _=>congrArg Value.bool hb14)<|jE [[],[],[],[],[],[],[],[]]) (fun _=>?_)
     refine aF (aP (aC ?_))
     exact mR (v:=vF) (fun _ hS=>⟨jB (qU (by have:=dD hb1;have:=yT hb8;have:=jP hb9;have:=xQ hb11;have:=yT hb12;have:=yT hb13;have:=yF hb14;unfold o7;omega)),hS.bel⟩)
    refine sS Tryz.f38 18 [1,2,3] [] (fun _=>[vn ks.length,vT,vT,vn ks.length,vF,vF,vF,undef,undef,undef,vF,vF,undef,undef,undef,undef,vF,vF]) (fun _=>[]) (cR [[]]<|cA (fun _=>vT) (fun _=>congrArg Value.bool hb12)<|cR [[],[]]<|cA (fun _=>vF) (fun _=>congrArg Value.bool hb13)<|jE [[],[],[],[],[],[],[],[],[],[],[],[],[]]) (fun _=>?_)
    refine aF (aP (aC ?_))
    exact mR (v:=vF) (fun _ hS=>⟨jB (qU (by have:=dD hb1;have:=yT hb8;have:=jP hb9;have:=xQ hb11;have:=yT hb12;have:=yF hb13;unfold o7;omega)),hS.bel⟩)
   refine sS Tryz.f38 18 [1,2,3] [] (fun _=>[vn ks.length,vF,vF,undef,undef,vF,vF,undef,undef,undef,vF,vF,undef,undef,undef,undef,vF,vF]) (fun _=>[]) (cR [[]]<|cA (fun _=>vF) (fun _=>congrArg Value.bool hb12)<|jE [[],[],[],[],[],[],[],[],[],[],[],[],[],[],[],[]]) (fun _=>?_)
   refine aF (aP (aC ?_))
   exact mR (v:=vF) (fun _ hS=>⟨jB (qU (by have:=dD hb1;have:=yT hb8;have:=jP hb9;have:=xQ hb11;have:=yF hb12;unfold o7;omega)),hS.bel⟩)
  rw [hb11]
  refine aG (aJ (aA ?_))
  rcases Bool.eq_false_or_eq_true (((ks.length:Nat):Int)==0) with hb15 | hb15
  ·
   refine sS Tryz.f38 8 [2] [0] (fun _=>[vn ks.length,vT,vT,jp (nb ρ1 0) 1,vi m,.bool (m==0),.bool (m==0),.bool (m==0)]) (fun _=>[]) (cR [[]]<|cA (fun _=>vT) (fun _=>congrArg Value.bool hb15)<|jE [[],[],[0],[],[],[]]) (fun _=>?_)
   refine aF ?_
   exact mR (v:=(.bool (m==0))) (fun _ hS=>⟨jB (fd_b (by have:=dD hb1;have:=yT hb8;have:=jP hb9;have:=jP hb11;have:=xQ hb15;unfold o7;omega)),hS.bel⟩)
  refine sS Tryz.f38 8 [2] [0] (fun _=>[vn ks.length,vF,vF,undef,undef,undef,vF,vF]) (fun _=>[]) (cR [[]]<|cA (fun _=>vF) (fun _=>congrArg Value.bool hb15)<|jE [[],[],[],[],[],[]]) (fun _=>?_)
  refine aF ?_
  exact mR (v:=vF) (fun _ hS=>⟨jB (qU (by have:=dD hb1;have:=yT hb8;have:=jP hb9;have:=jP hb11;have:=jP hb15;unfold o7;omega)),hS.bel⟩)
 refine sS Tryz.f38 24 [1,2,3,30] [] (fun _=>[jp (nb ρ1 0) 2,vu nu,vF,vF,undef,undef,undef,vF,vF,undef,undef,undef,vF,vF,jp (nb ρ1 0) 3,.agg (hB h),.agg (hB 0),vT,vT,pt (nb ρ1 0),vi kd,.bool (kd != 5),.bool (kd != 5),.bool (kd != 5)]) (fun _=>[]) (cR [[],[0]]<|cA (fun _=>vF) (fun _=>congrArg Value.bool hb1)<|cR [[],[],[],[],[],[],[],[],[],[],[],[],[0],[]]<|cB (a:=fun ρ=>(.agg (hB h))) (b:=fun ρ=>(.agg (hB 0))) (v:=fun ρ=>vT) .neq 43 (fun _ _=>(neqH h 0 hh (by decide +kernel) _).trans (by rw [hb8];try rfl))<|jE [[],[],[0],[],[],[]]) (fun _=>?_)
 refine oC (kd != 5) (fun hb16=>?_) (fun hb16=>?_)
 ·
  rw [hb16]
  refine jJ Tryz.f38 1 [1,2,3] [vF] (aF (aC ?_))
  exact mR (v:=vF) (fun _ hS=>⟨jB (qU (by have:=dD hb1;have:=yF hb8;have:=iK hb16;unfold o7;omega)),hS.bel⟩)
 rw [hb16]
 refine aG (aA (aB (jM Tryz.f38 2 [1,2,3,32] [] [pt (nb ρ1 0),vi kd] [[],[0]] (aI ?_))))
 refine sS Tryz.f38 2 [1,2,3,32,33] [] (fun _=>[vF,vF]) (fun _=>[]) (jQ (fun ρ=>(kd==1)) false (fun _=>(show (kd==1)=false by rw [dD hb16];rfl))<|jE [[]]) (fun _=>?_)
 refine oN ?_
 refine sS Tryz.f38 2 [1,2,3,42] [] (fun _=>[vF,vF]) (fun _=>[]) (jQ (fun ρ=>(kd==2)) false (fun _=>(show (kd==2)=false by rw [dD hb16];rfl))<|jE [[]]) (fun _=>?_)
 refine oN ?_
 refine aG (aJ (aA ?_))
 rcases Bool.eq_false_or_eq_true (((ks.length:Nat):Int)==0) with hb17 | hb17
 ·
  refine sS Tryz.f38 8 [2] [0] (fun _=>[vn ks.length,vT,vT,jp (nb ρ1 0) 1,vi m,.bool (m==0),.bool (m==0),.bool (m==0)]) (fun _=>[]) (cR [[]]<|cA (fun _=>vT) (fun _=>congrArg Value.bool hb17)<|jE [[],[],[0],[],[],[]]) (fun _=>?_)
  refine aF ?_
  exact mR (v:=(.bool (m==0))) (fun _ hS=>⟨jB (fd_b (by have:=dD hb1;have:=yF hb8;have:=dD hb16;have:=xQ hb17;unfold o7;omega)),hS.bel⟩)
 refine sS Tryz.f38 8 [2] [0] (fun _=>[vn ks.length,vF,vF,undef,undef,undef,vF,vF]) (fun _=>[]) (cR [[]]<|cA (fun _=>vF) (fun _=>congrArg Value.bool hb17)<|jE [[],[],[],[],[],[]]) (fun _=>?_)
 refine aF ?_
 exact mR (v:=vF) (fun _ hS=>⟨jB (qU (by have:=dD hb1;have:=yF hb8;have:=dD hb16;have:=jP hb17;unfold o7;omega)),hS.bel⟩)
def tgD:List UInt8:=[108,105,103,104,116,99,108,105,101,110,116,47,100,101,115,99,114,105,112,116,111,114]
theorem sum_8 (d:Nat):((((hxS ((hL d).take 4)).length:Nat):Int)==8)=true:=by
  have h:(hxS ((hL d).take 4)).length=8:=by rw [hxS_length,List.length_take,aO];rfl
  rw [h];rfl
theorem hex_any (a:Option Addr) (c:Nat) (B:List UInt8) (h46:B.length≤70368744175616) (w0:World) (hf0:Bs w0 a c B):Calls Tryz.prog 29 #[.slice a B.length c] w0 (jR (.string (gY (hxS B))) w0):=by
 refine Calls.of_ok (n:=28) (F:=(fun w=>Bs w a c B∧True)) Tryz.func29 rfl rfl rfl (by simp) (hf0.pers0.and cO) ?_
 refine jJ Tryz.f29 1 [0,2] [.string ⟨#[]⟩] ?_
 refine sS Tryz.f29 5 [0,2,3] [] (fun ρ=>let qa:=vs (nb ρ 3) ([]:List UInt8).length (2*B.length);[.slice a B.length c,vn B.length,vn (2*B.length),qa,qa]) (fun ρ=>[(3,(nw ρ 3 (cL (zB (2*B.length)) 5)))]) (cR [[],[]]<|jW (fun ρ=>(2*((B.length:Nat):Int))) (fun _=>(2*B.length)) (fun _=>(fQ 2 B.length (by omega)))<|cX (uB _ (fun _=>do pure (Next.value (← Instr.makeSlice 33 (vi 0) (vn (2*B.length))))) (fun _ ζ=>(vs (ζ.headD 0) ([]:List UInt8).length (2*B.length))) (fun _ _=>(cL (zB (2*B.length)) 5)) (fun _ _=>(by kernel_rfl)) (fun _=>(by kernel_rfl)) (fun _ _=>trivial) (fun _ _ w _=>mM Tryz.underlying33 nH ([]:List UInt8) (rfl) (rfl) (Nat.zero_le _) (by omega) w))<|jE [[]]) (fun ρ2=>?_)
 refine aB (jJ Tryz.f29 3 [2,3,10,11,12] [.slice a B.length c,vn B.length,vi 0] (aI ?_))
 refine oL (σ:=Nat × (List UInt8) × (Array Value)) (fun ⟨i,X,_⟩=>[(2,(.string ⟨#[]⟩)),(3,(vs (nb ρ2 3) X.length (2*B.length))),(10,(.slice a B.length c)),(11,(vn B.length)),(12,(vn i))]) (fun ⟨_,_,C⟩=>[(nb ρ2 3,(cL C 5))]) (fun ⟨i,_,_⟩=>B.length-i)
   (fun ⟨i,X,C⟩=>(i≤B.length)∧(X=hxS (B.take i))∧(Hd C X)∧(C.size=2*B.length)) (0,([]:List UInt8),zB (2*B.length)) (⟨Nat.zero_le _,rfl,Hd.nil _,oD _⟩) [] ?_
 rintro ⟨i,X,C⟩ ⟨hi,hX,hC,hs⟩
 change Ok Tryz.prog _ _ 28 [(2,(.string ⟨#[]⟩)),(3,(vs (nb ρ2 3) X.length (2*B.length))),(10,(.slice a B.length c)),(11,(vn B.length)),(12,(vn i))] _ [(nb ρ2 3,(cL C 5))] (fun w=>Bs w a c B∧True)
 refine jJ Tryz.f29 1 [2,3,10,11,12,13] [.bool (decide (((i:Nat):Int)<((B.length:Nat):Int)))] (aB ?_)
 refine oC (decide (((i:Nat):Int)<((B.length:Nat):Int))) (fun hb1=>?_) (fun hb1=>?_)
 ·
  rw [hb1]
  have:=yT hb1
  refine aG (aA (aB (aI ?_)))
  refine sS Tryz.f29 3 [2,3,5,10,11,12] [] (fun _=>[.pointer (fK a i),vy (gB B i),vy (gB B i)]) (fun _=>[]) (cX (qF (fun _ _ _ hG=>idx_bytes (k:=.i64) Tryz.underlying33 nH hG.fn.1 rfl (show ((i:Nat):Int)=((i:Nat):Int) from rfl) (show i<B.length from (by have:=qL hi hX;omega))))<|cX (qF (fun _ _ _ hG=>ld_bytes Tryz.isAgg5 hG.fn.1 (show i<B.length from (by have:=qL hi hX;omega))))<|jE [[]]) (fun _=>?_)
  refine rD Tryz.f29 [0,0,2,6,0,16,48,126,255,511] 10 [2,3,10,11,12] [1,0] (fun ρ=>let qa:=([ob ((hexD (gB B i / 16):Nat):Int),ob ((hexD (gB B i%16):Nat):Int)]:List UInt8);let qb:=vs (nb ρ2 3) (X++qa).length (2*B.length);[vs (nb ρ2 3) X.length (2*B.length),vy (gB B i),vy (gB B i / 16),vy (hexD (gB B i / 16)),vy (gB B i),vy (gB B i%16),vy (hexD (gB B i%16)),vs (nb ρ 7) qa.length 2,qb,qb]) (fun ρ=>[(7,(nw ρ 7 (cL #[vy (hexD (gB B i / 16)),vy (hexD (gB B i%16))] 5))),(8,(bD 0 (nb ρ2 3) (cL (inpl C X.length (bs ([ob ((hexD (gB B i / 16):Nat):Int),ob ((hexD (gB B i%16):Nat):Int)]:List UInt8))) 5)))]) (cR [[],[]]<|cB (a:=fun ρ=>(vy (gB B i))) (b:=fun ρ=>(.int .u64 4)) (v:=fun ρ=>(vy (gB B i / 16))) .shr 5 (fun _ w=>gG (k:=.u8) (x:=gB B i) (c:=4) (iD B i) w)<|cX (jS (fun _=>Instr.index 9 (.string (gY ([48,49,50,51,52,53,54,55,56,57,97,98,99,100,101,102]:List UInt8))) (vy (gB B i / 16))) (fun _=>(vy (hexD (gB B i / 16)))) (fun _ w=>(idx_str (S:=([48,49,50,51,52,53,54,55,56,57,97,98,99,100,101,102]:List UInt8)) Tryz.underlying9 (show ((gB B i / 16:Nat):Int)=(((gB B i / 16):Nat):Int) from rfl) (show (gB B i / 16)<([48,49,50,51,52,53,54,55,56,57,97,98,99,100,101,102]:List UInt8).length from (by have:=iD B i;show gB B i / 16<16;omega)) w).trans (by rw [gB_dig (show gB B i / 16<16 by have:=iD B i;omega)])))<|cR [[]]<|cA (fun _=>(vy (gB B i%16))) (fun _=>congrArg (Value.int .u8) (and15 (iD B i)))<|cX (jS (fun _=>Instr.index 9 (.string (gY ([48,49,50,51,52,53,54,55,56,57,97,98,99,100,101,102]:List UInt8))) (vy (gB B i%16))) (fun _=>(vy (hexD (gB B i%16)))) (fun _ w=>(idx_str (S:=([48,49,50,51,52,53,54,55,56,57,97,98,99,100,101,102]:List UInt8)) Tryz.underlying9 (show ((gB B i%16:Nat):Int)=(((gB B i%16):Nat):Int) from rfl) (show (gB B i%16)<([48,49,50,51,52,53,54,55,56,57,97,98,99,100,101,102]:List UInt8).length from (by have:=iD B i;show gB B i%16<16;omega)) w).trans (by rw [gB_dig (show gB B i%16<16 by have:=iD B i;omega)])))<|cR [[]]<|cX (o9 _ 0 (fun ρ=>do pure (Next.value (← Builtin.append_ #[33,33] 33 #[vs (nb ρ2 3) X.length (2*B.length),vs (nb ρ 7) ([ob ((hexD (gB B i / 16):Nat):Int),ob ((hexD (gB B i%16):Nat):Int)]:List UInt8).length 2]))) (fun _=>nb ρ2 3) (fun _=>(cL C 5)) (fun _=>(cL (inpl C X.length (bs ([ob ((hexD (gB B i / 16):Nat):Int),ob ((hexD (gB B i%16):Nat):Int)]:List UInt8))) 5)) (fun _=>(vs (nb ρ2 3) (X++([ob ((hexD (gB B i / 16):Nat):Int),ob ((hexD (gB B i%16):Nat):Int)]:List UInt8)).length (2*B.length))) (fun _=>(by kernel_rfl)) (fun _=>(by kernel_rfl)) (fun _=>(by kernel_rfl)) (fun _=>(by kernel_rfl)) (fun _ _=>trivial) (fun ρ _ _ hG hg=>kD Tryz.underlying33 nH hg (Bs.src (tx:=33) Tryz.underlying33 (Bs.of_hd (hG.kn (g:=nb ρ 7) (o:=(cL #[vy (hexD (gB B i / 16)),vy (hexD (gB B i%16))] 5)) 57) (hd2 (hexD_rng (by have:=iD B i;omega)) (hexD_rng (by have:=iD B i;omega))) (Nat.le_refl 2) (Nat.le_of_ble_eq_true rfl))) hs (by simp only [List.length_cons,List.length_nil];have:=qL hi hX;omega)))<|jE [[]]) (fun _=>?_)
  refine aJ (aA ?_)
  refine rS Tryz.f29 2 [2,3,10,11,12] [] (fun _=>[vn (i+1),vn (i+1)]) (fun _=>[]) (jW (fun ρ=>(((i:Nat):Int)+1)) (fun _=>(i+1)) (fun _=>(aW i 1 (by have:=qL hi hX;omega)))<|jE [[]]) (fun _=>?_)
  exact mN (i+1,X++([ob ((hexD (gB B i / 16):Nat):Int),ob ((hexD (gB B i%16):Nat):Int)]:List UInt8),inpl C X.length (bs ([ob ((hexD (gB B i / 16):Nat):Int),ob ((hexD (gB B i%16):Nat):Int)]:List UInt8))) (by show B.length-(i+1)<B.length-i;have:=qL hi hX;omega) (⟨(by have:=qL hi hX;omega),hx_next (by have:=qL hi hX;omega) hX,Hd.inpl hC rfl,(lG _ _ _ (room_le hs (by simp only [List.length_cons,List.length_nil];have:=qL hi hX;omega))).trans hs⟩) []
 rw [hb1]
 refine bF (aN (aN (aT (aA ?_))))
 refine sS Tryz.f29 3 [2] [0] (fun _=>[vs (nb ρ2 3) X.length (2*B.length),.string (gY X),.string (gY X)]) (fun _=>[]) (cR [[]]<|cX (jF (fun _=>convert 33 9 (vs (nb ρ2 3) X.length (2*B.length))) (fun _=>(.string (gY X))) (fun _ _ _ hG=>str_bytes (xs:=X) Tryz.underlying33 Tryz.underlying5 Tryz.underlying9 (Bs.of_hd (hG.kn (g:=nb ρ2 3) (o:=(cL C 5)) 0) hC (by have:=qL hi hX;omega) (by have:=qL hi hX;omega)) rfl) (fun _ _ _ _=>cO))<|jE [[]]) (fun _=>?_)
 refine aF ?_
 exact mR (v:=(.string (gY X))) (fun _ hS=>⟨congrArg (fun x=>Ending.returned (.string (gY x))) (hx_end (by have:=yF hb1;have:=qL hi hX;omega) hX),hS.bel⟩)
theorem dsum_any (S:List UInt8) (hS:S.length+1000≤140737488351232) (w0:World) (hf0:kJ w0) (hf1:kX w0):Calls Tryz.prog 16 #[.string (gY S)] w0 (jR (.string (gY (hxS ((hL (lV tgD S)).take 4)))) w0):=by
 refine Calls.of_ok (n:=9) (F:=(fun w=>kJ w∧kX w∧True)) Tryz.func16 rfl rfl rfl (by simp) (hf0.pers0.and (hf1.pers0.and cO)) ?_
 refine jJ Tryz.f16 1 [0,2] [.string ⟨#[]⟩] ?_
 refine iZ Tryz.f16 5 [2,3] [] (fun ρ=>[.string (gY S),.slice (oa ρ 1) S.length (nb ρ 1),.agg (hB (lV tgD S)),pt (nb ρ 3),undef]) (fun ρ=>[(3,(nw ρ 3 (cL (hB 0) 43))),(4,(bD 24 (nb ρ 3) (cL (hB (lV tgD S)) 43)))]) (fun ρ=>[(1,fun w=>Fs w0 w (oa ρ 1) (nb ρ 1) S)]) (fun ρ=>(fun w=>kJ w∧kX w∧Fs w0 w (oa ρ 1) (nb ρ 1) S∧True)) (fun _=>True) (fun _ _ hF hf=>⟨⟨hF.1,hF.2.1,hf 1,trivial⟩,trivial⟩) (cR [[]]<|cX (o_newF _ (fun _=>do pure (Next.value (← convert 9 33 (.string (gY S))))) (fun _ α κ=>(.slice α S.length κ)) (fun _=>S) (fun _ _=>(by kernel_rfl)) (fun _=>(by kernel_rfl)) (fun _ _=>(by kernel_rfl)) (fun _ _ w _=>bytes_str Tryz.underlying9 Tryz.underlying33 Tryz.underlying5 S (by omega) w))<|cX (qC (fun ρ _ w hG=>yM tgD (oa ρ 1) (nb ρ 1) S (by decide) (by omega) w (show Fs w0 w (oa ρ 1) (nb ρ 1) S from (hG.facts 1 rfl).now).1 hG.fn.1 hG.fn.2.1))<|jE [[],[24]]) (fun ρ2 _=>?_)
 refine sS Tryz.f16 3 [2] [0] (fun _=>[vs (nb ρ2 3) ((hL (lV tgD S)).take 4).length 32,.string (gY (hxS ((hL (lV tgD S)).take 4))),.string (gY (hxS ((hL (lV tgD S)).take 4)))]) (fun _=>[]) (cR [[]]<|cX (qC (fun _ _ w hG=>hex_any (some ⟨nb ρ2 3,0,none⟩) 32 ((hL (lV tgD S)).take 4) (by rw [List.length_take,aO];decide) w (Bs.of_hd (c:=32) (hG.kn (g:=nb ρ2 3) (o:=(cL (hB (lV tgD S)) 43)) 0) (Hd.take (kP _) _) (Nat.le_of_ble_eq_true rfl) (Nat.le_of_ble_eq_true rfl))))<|jE [[]]) (fun _=>?_)
 refine aF ?_
 exact mR (v:=(.string (gY (hxS ((hL (lV tgD S)).take 4))))) (fun _ hS=>⟨rfl,hS.bel⟩)
theorem dsanew_any (dd:Nat) (edd:lV tgD ([]:List UInt8)=dd) (w0:World) (hf0:kJ w0) (hf1:kX w0):Calls Tryz.prog 5 #[] w0 (jR vT w0):=by
 refine Calls.of_ok (n:=12) (F:=(fun w=>kJ w∧kX w∧True)) Tryz.func5 rfl rfl rfl (by simp) (hf0.pers0.and (hf1.pers0.and cO)) ?_
 refine jJ Tryz.f5 1 [0] [vF] ?_
 refine sS Tryz.f5 12 [0] [] (fun _=>[vi (nO 6),vT,vT,vi (nO 9),vT,vT,vT,.string (gY (hxS ((hL dd).take 4))),vn (hxS ((hL dd).take 4)).length,vT,vT,vT]) (fun _=>[]) (cC (fun _ w=>dkids_any 6 w)<|jQ (fun ρ=>((nO 6)==2)) true (fun _=>(show ((nO 6)==2)=true from rfl))<|cR [[]]<|cC (fun _ w=>dkids_any 9 w)<|jQ (fun ρ=>((nO 9)==(-1))) true (fun _=>(show ((nO 9)==(-1))=true from rfl))<|cR [[],[]]<|cX (o_callP _ 16 (fun _=> #[.string ⟨#[]⟩]) (fun _=>(.string (gY (hxS ((hL dd).take 4))))) (fun _ _=>(by kernel_rfl)) (fun _=>(by kernel_rfl)) (fun _ _=>(by kernel_rfl)) (fun _ _=>trivial) (fun _ _ w hG=>(by as_aux_lemma=>(have hcall:=dsum_any ([]:List UInt8) (by decide) w hG.fn.1 hG.fn.2.1;rw [edd] at hcall;exact hcall))))<|cR [[]]<|cA (fun _=>vT) (fun _=>congrArg Value.bool (sum_8 dd))<|jE [[],[]]) (fun _=>?_)
 refine aF ?_
 exact mR (v:=vT) (fun _ hS=>⟨rfl,hS.bel⟩)
theorem dsane_any (w0:World) (hf0:kJ w0) (hf1:kX w0):Calls Tryz.prog 5 #[] w0 (jR vT w0):=dsanew_any _ rfl w0 hf0 hf1
theorem reduce_w (a:Nat) (m:Nat) (ha:a<M) (hm:m<M) (w0:World):Calls Tryz.prog 144 #[U a,U m] w0 (jR (U (aQ a m)) w0):=by
 refine Calls.of_ok (n:=22) (F:=(fun _=>True)) Tryz.func144 rfl rfl rfl (by simp) jT ?_
 refine sS Tryz.f144 3 [2,3,4] [] (fun ρ=>[pt (nb ρ 0),pt (nb ρ 1),pt (nb ρ 2)]) (fun ρ=>[(0,(nw ρ 0 (cL (cU a) 39))),(1,(nw ρ 1 (cL (cU m) 39))),(2,(nw ρ 2 (cL (cU 0) 39)))]) (jE [[],[],[]]) (fun ρ1=>?_)
 refine aB ?_
 refine sS Tryz.f144 4 [2,3,4,11] [] (fun _=>[U a,U m,vi (fJ a m),.bool (decide ((fJ a m)<0))]) (fun _=>[]) (cR [[0],[1]]<|cC (fun _ w=>uN a m w ha hm)<|jE [[]]) (fun _=>?_)
 refine oC (decide ((fJ a m)<0)) (fun hb1=>?_) (fun hb1=>?_)
 ·
  rw [hb1]
  refine sS Tryz.f144 2 [2,3,4] [] (fun _=>[U a,undef]) (fun _=>[(1,(bD 2 (nb ρ1 2) (cL (cU a) 39)))]) (jE [[0],[2]]) (fun _=>?_)
  refine aF (aC ?_)
  exact mR (v:=(U a)) (ps:=[2,2,2,2]) (fun _ hS=>⟨congrArg (fun x=>Ending.returned (U x)) (red_lt hb1),hS.bel⟩)
 rw [hb1]
 refine aG (aA ?_)
 refine sS Tryz.f144 13 [4,6] [0,0,1,0,1] (fun ρ=>let qa:Value:=.bool (decide (0<m));[U 0,U a,U m,.tuple #[U (qQ 0 a m),U (iV 0 a m),qa],.tuple #[U (qQ 0 a m),U (iV 0 a m),qa],U (qQ 0 a m),U (iV 0 a m),qa,pt (nb ρ 8),pt (nb ρ 9),undef,undef,qa]) (fun ρ=>[(8,(nw ρ 8 (cL (cU 0) 39))),(9,(nw ρ 9 (cL (cU 0) 39))),(10,(bD 67 (nb ρ 8) (cL (cU (qQ 0 a m)) 39))),(11,(bD 75 (nb ρ 9) (cL (cU (iV 0 a m)) 39)))]) (cR [[],[0],[1]]<|cC (fun _ w=>div_any 0 a m w (by decide +kernel) ha hm)<|jE [[],[],[],[],[],[],[67],[75],[]]) (fun _=>?_)
 refine sS Tryz.f144 2 [4] [1,0] (fun _=>[U (iV 0 a m),undef]) (fun _=>[(1,(bD 0 (nb ρ1 2) (cL (cU (iV 0 a m)) 39)))]) (jE [[1],[0]]) (fun _=>?_)
 refine aF ?_
 exact mR (v:=(U (iV 0 a m))) (fun _ hS=>⟨congrArg (fun x=>Ending.returned (U x)) (red_div hb1),hS.bel⟩)
theorem yE (a m:Nat) (w0:World) (ha:a<M) (hm:m<M):Calls Tryz.prog 144 #[U a,U m] w0 (jR (U (aQ a m)) w0):=reduce_w a m ha hm w0
theorem rreduce_w (a:Nat) (m:Nat) (ha:a<M) (hm:m<M) (w0:World):Calls Tryz.prog 154 #[U a,U m] w0 (jR (U (aQ a m)) w0):=by
 refine Calls.of_ok (n:=17) (F:=(fun _=>True)) Tryz.func154 rfl rfl rfl (by simp) jT ?_
 refine sS Tryz.f154 3 [2,3,4] [] (fun ρ=>[pt (nb ρ 0),pt (nb ρ 1),pt (nb ρ 2)]) (fun ρ=>[(0,(nw ρ 0 (cL (cU a) 39))),(1,(nw ρ 1 (cL (cU m) 39))),(2,(nw ρ 2 (cL (cU 0) 39)))]) (jE [[],[],[]]) (fun ρ1=>?_)
 refine sS Tryz.f154 13 [4,6] [0,0,1,0,1] (fun ρ=>let qa:Value:=.bool (decide (0<m));[U 0,U a,U m,.tuple #[U (qQ 0 a m),U (iV 0 a m),qa],.tuple #[U (qQ 0 a m),U (iV 0 a m),qa],U (qQ 0 a m),U (iV 0 a m),qa,pt (nb ρ 8),pt (nb ρ 9),undef,undef,qa]) (fun ρ=>[(8,(nw ρ 8 (cL (cU 0) 39))),(9,(nw ρ 9 (cL (cU 0) 39))),(10,(bD 67 (nb ρ 8) (cL (cU (qQ 0 a m)) 39))),(11,(bD 75 (nb ρ 9) (cL (cU (iV 0 a m)) 39)))]) (cR [[],[0],[1]]<|cC (fun _ w=>rdiv_any 0 a m w (by decide +kernel) ha hm)<|jE [[],[],[],[],[],[],[67],[75],[]]) (fun _=>?_)
 refine sS Tryz.f154 2 [4] [1,0] (fun _=>[U (iV 0 a m),undef]) (fun _=>[(1,(bD 0 (nb ρ1 2) (cL (cU (iV 0 a m)) 39)))]) (jE [[1],[0]]) (fun _=>?_)
 refine aF ?_
 exact mR (v:=(U (iV 0 a m))) (fun _ hS=>⟨congrArg (fun x=>Ending.returned (U x)) (red_div0 a m),hS.bel⟩)
theorem oM (a m:Nat) (w0:World) (ha:a<M) (hm:m<M):Calls Tryz.prog 154 #[U a,U m] w0 (jR (U (aQ a m)) w0):=rreduce_w a m ha hm w0
theorem mul64_any (x y:Int) (hx:Word x) (hy:Word y) (w:World):Calls Tryz.prog 161 #[.int .u64 x,.int .u64 y] w fun ε w'=>ε=.returned (.tuple #[.int .u64 (mJ x y),.int .u64 (bZ x y)])∧Below w.heap.size w w':=by
  obtain ⟨x,rfl⟩:=Int.eq_ofNat_of_zero_le hx.1
  obtain ⟨y,rfl⟩:=Int.eq_ofNat_of_zero_le hy.1
  refine (mul64_nat x y (by have:=hx.2;omega) (by have:=hy.2;omega) w).mono ?_
  rintro e w' ⟨rfl,rfl⟩
  refine ⟨?_,Below.refl _ _⟩
  unfold mJ bZ
  rw [Int.natCast_ediv,Int.natCast_emod,Int.natCast_mul];rfl
theorem mul_w (a:Nat) (b:Nat) (ha:a<M) (hb:b<M) (w0:World):Calls Tryz.prog 146 #[U a,U b] w0 (jR (.tuple #[U (a*b / M),U (a*b%M)]) w0):=by
 refine Calls.of_ok (n:=69) (F:=(fun _=>True)) Tryz.func146 rfl rfl rfl (by simp) jT ?_
 refine sS Tryz.f146 4 [2,3,4,5] [] (fun ρ=>[pt (nb ρ 0),pt (nb ρ 1),pt (nb ρ 2),pt (nb ρ 3)]) (fun ρ=>[(0,(nw ρ 0 (cL (cU a) 39))),(1,(nw ρ 1 (cL (cU b) 39))),(2,(nw ρ 2 (cL (cU 0) 39))),(3,(nw ρ 3 (cL (cU 0) 39)))]) (jE [[],[],[],[]]) (fun ρ1=>?_)
 refine sS Tryz.f146 1 [2,3,4,5,6] [] (fun ρ=>[pt (nb ρ 0)]) (fun ρ=>[(0,(nw ρ 0 (cL #[.int .u64 0,.int .u64 0,.int .u64 0,.int .u64 0,.int .u64 0,.int .u64 0,.int .u64 0,.int .u64 0] 138)))]) (jE [[]]) (fun ρ2=>?_)
 refine aB (jJ Tryz.f146 1 [2,3,4,5,6,14] [vi 0] (aI ?_))
 refine oL (σ:=Nat × (Nat→Int)) (fun ⟨i,_⟩=>[(2,(pt (nb ρ1 0))),(3,(pt (nb ρ1 1))),(4,(pt (nb ρ1 2))),(5,(pt (nb ρ1 3))),(6,(pt (nb ρ2 0))),(14,(vn i))]) (fun ⟨_,f⟩=>[(nb ρ1 0,(cL (cU a) 39)),(nb ρ1 1,(cL (cU b) 39)),(nb ρ1 2,(cL (cU 0) 39)),(nb ρ1 3,(cL (cU 0) 39)),(nb ρ2 0,(cL (c8 f) 138))]) (fun ⟨i,_⟩=>4-i)
   (fun ⟨i,f⟩=>(i≤4)∧(MulO a b i f)) (0,(fun _=>0)) (⟨by omega,mulO_zero a b⟩) [] ?_
 rintro ⟨i,f⟩ ⟨hi,hO⟩
 change Ok Tryz.prog _ _ 69 [(2,(pt (nb ρ1 0))),(3,(pt (nb ρ1 1))),(4,(pt (nb ρ1 2))),(5,(pt (nb ρ1 3))),(6,(pt (nb ρ2 0))),(14,(vn i))] _ [(nb ρ1 0,(cL (cU a) 39)),(nb ρ1 1,(cL (cU b) 39)),(nb ρ1 2,(cL (cU 0) 39)),(nb ρ1 3,(cL (cU 0) 39)),(nb ρ2 0,(cL (c8 f) 138))] (fun _=>True)
 refine jJ Tryz.f146 1 [2,3,4,5,6,14,15] [.bool (decide (((i:Nat):Int)<4))] (aB ?_)
 refine oC (decide (((i:Nat):Int)<4)) (fun hb1=>?_) (fun hb1=>?_)
 ·
  rw [hb1]
  have:=yT hb1
  refine aG (aA (aB (aI (jJ Tryz.f146 2 [2,3,4,5,6,7,14] [vn i,vn i] (jJ Tryz.f146 1 [2,3,4,5,6,7,8,14] [.int .u64 0] (aB (jJ Tryz.f146 1 [2,3,4,5,6,7,8,14,17] [vi 0] (aI ?_))))))))
  refine oL (σ:=Nat × (Nat→Int) × Int) (fun ⟨j,_,c⟩=>[(2,(pt (nb ρ1 0))),(3,(pt (nb ρ1 1))),(4,(pt (nb ρ1 2))),(5,(pt (nb ρ1 3))),(6,(pt (nb ρ2 0))),(7,(vn i)),(8,(.int .u64 c)),(14,(vn i)),(17,(vn j))]) (fun ⟨_,u,_⟩=>[(nb ρ1 0,(cL (cU a) 39)),(nb ρ1 1,(cL (cU b) 39)),(nb ρ1 2,(cL (cU 0) 39)),(nb ρ1 3,(cL (cU 0) 39)),(nb ρ2 0,(cL (c8 u) 138))]) (fun ⟨j,_,_⟩=>4-j)
    (fun ⟨j,u,c⟩=>(j≤4)∧(MulI a b i j u c)) (0,f,0) (⟨by omega,mulO_begin hO⟩) [] ?_
  rintro ⟨j,u,c⟩ ⟨hj,hM⟩
  change Ok Tryz.prog _ _ 69 [(2,(pt (nb ρ1 0))),(3,(pt (nb ρ1 1))),(4,(pt (nb ρ1 2))),(5,(pt (nb ρ1 3))),(6,(pt (nb ρ2 0))),(7,(vn i)),(8,(.int .u64 c)),(14,(vn i)),(17,(vn j))] _ [(nb ρ1 0,(cL (cU a) 39)),(nb ρ1 1,(cL (cU b) 39)),(nb ρ1 2,(cL (cU 0) 39)),(nb ρ1 3,(cL (cU 0) 39)),(nb ρ2 0,(cL (c8 u) 138))] (fun _=>True)
  refine jJ Tryz.f146 1 [2,3,4,5,6,7,8,14,17,18] [.bool (decide (((j:Nat):Int)<4))] (aB ?_)
  refine oC (decide (((j:Nat):Int)<4)) (fun hb2=>?_) (fun hb2=>?_)
  ·
   rw [hb2]
   have:=yT hb2
   refine aG (aA (aB (aI (jJ Tryz.f146 2 [2,3,4,5,6,7,8,9,14,17] [vn j,vn j] ?_))))
   refine sD Tryz.f146 [0,1,3,0,8,24,63,127,255,255,511,2047] 12 [2,3,4,5,6,7,8,9,10,11,14,17] [] (fun _=>let qa:Value:=.int .u64 (mJ (wd a i) (wd b j));let qb:Value:=.int .u64 (bZ (wd a i) (wd b j));[vn i,jp (nb ρ1 0) i,.int .u64 (wd a i),vn j,jp (nb ρ1 1) j,.int .u64 (wd b j),.tuple #[qa,qb],.tuple #[qa,qb],qa,qb,qa,qb]) (fun _=>[]) (cR [[]]<|cX (jS (fun _=>Instr.indexAt 39 (pt (nb ρ1 0)) (vn i)) (fun _=>(jp (nb ρ1 0) i)) (fun _ w=>aX (n:=((i:Nat):Int)) (i:=i) Tryz.underlying39 Tryz.sizeOf37 (⟨rfl,by omega⟩) w))<|cX (kG _ 0 37 (fun _=>nb ρ1 0) (fun _=>i) (fun _=>(cU a)) 39 (0,0) (fun _=>(.int .u64 (wd a i))) (fun _=>by kernel_rfl) Tryz.isAgg37 (fun _=>lL a i (by omega)))<|cR [[]]<|cX (jS (fun _=>Instr.indexAt 39 (pt (nb ρ1 1)) (vn j)) (fun _=>(jp (nb ρ1 1) j)) (fun _ w=>aX (n:=((j:Nat):Int)) (i:=j) Tryz.underlying39 Tryz.sizeOf37 (⟨rfl,by omega⟩) w))<|cX (kG _ 1 37 (fun _=>nb ρ1 1) (fun _=>j) (fun _=>(cU b)) 39 (0,0) (fun _=>(.int .u64 (wd b j))) (fun _=>by kernel_rfl) Tryz.isAgg37 (fun _=>lL b j (by omega)))<|cC (fun _ w=>mul64_any (wd a i) (wd b j) (bG a i) (bG b j) w)<|jE [[],[],[],[],[]]) (fun _=>?_)
   refine sS Tryz.f146 12 [2,3,4,5,6,7,8,9,10,12,13,14,17] [] (fun _=>let qa:Value:=.int .u64 (cZ (bZ (wd a i) (wd b j)) (u (i+j)) 0);let qb:Value:=.int .u64 (dJ (bZ (wd a i) (wd b j)) (u (i+j)) 0);[.int .u64 (bZ (wd a i) (wd b j)),vn i,vn j,vn (i+j),jp (nb ρ2 0) (i+j),.int .u64 (u (i+j)),.tuple #[qa,qb],.tuple #[qa,qb],qa,qb,qa,qb]) (fun _=>[]) (cR [[],[],[]]<|jW (fun ρ=>(((i:Nat):Int)+((j:Nat):Int))) (fun _=>(i+j)) (fun _=>(dX i j (by omega)))<|cX (jS (fun _=>Instr.indexAt 138 (pt (nb ρ2 0)) (vn (i+j))) (fun _=>(jp (nb ρ2 0) (i+j))) (fun _ w=>aX (n:=((i+j:Nat):Int)) (i:=i+j) Tryz.underlying138 Tryz.sizeOf37 (⟨rfl,by omega⟩) w))<|cX (kG _ 4 37 (fun _=>nb ρ2 0) (fun _=>i+j) (fun _=>(c8 u)) 138 (0,0) (fun _=>(.int .u64 (u (i+j)))) (fun _=>by kernel_rfl) Tryz.isAgg37 (fun _=>c8_get u (i+j) (by omega)))<|cX (o_sem _ (fun _=>callFunc 159 #[.int .u64 (bZ (wd a i) (wd b j)),.int .u64 (u (i+j)),.int .u64 0]) (fun _=>(.tuple #[.int .u64 (cZ (bZ (wd a i) (wd b j)) (u (i+j)) 0),.int .u64 (dJ (bZ (wd a i) (wd b j)) (u (i+j)) 0)])) (fun _=>by kernel_rfl) (fun _=>by kernel_rfl) (fun _ w=>(add64 (bZ (wd a i) (wd b j)) (u (i+j)) 0 (yO _ _) (hM.word _) jD) w))<|jE [[],[],[],[],[]]) (fun _=>?_)
   refine jJ Tryz.f146 4 [2,3,4,5,6,7,8,9,10,12,13,14,17] (let qa:Value:=.int .u64 (IntKind.u64.wrap ((mJ (wd a i) (wd b j))+(dJ (bZ (wd a i) (wd b j)) (u (i+j)) 0)));[.int .u64 (mJ (wd a i) (wd b j)),.int .u64 (dJ (bZ (wd a i) (wd b j)) (u (i+j)) 0),qa,qa]) ?_
   refine sS Tryz.f146 8 [2,3,4,5,6,7,8,9,10,12,13,14,17] [] (fun _=>let qa:Value:=.int .u64 (cZ (cZ (bZ (wd a i) (wd b j)) (u (i+j)) 0) c 0);let qb:Value:=.int .u64 (dJ (cZ (bZ (wd a i) (wd b j)) (u (i+j)) 0) c 0);[.int .u64 (cZ (bZ (wd a i) (wd b j)) (u (i+j)) 0),.int .u64 c,.tuple #[qa,qb],.tuple #[qa,qb],qa,qb,qa,qb]) (fun _=>[]) (cR [[],[]]<|cX (o_sem _ (fun _=>callFunc 159 #[.int .u64 (cZ (bZ (wd a i) (wd b j)) (u (i+j)) 0),.int .u64 c,.int .u64 0]) (fun _=>(.tuple #[.int .u64 (cZ (cZ (bZ (wd a i) (wd b j)) (u (i+j)) 0) c 0),.int .u64 (dJ (cZ (bZ (wd a i) (wd b j)) (u (i+j)) 0) c 0)])) (fun _=>by kernel_rfl) (fun _=>by kernel_rfl) (fun _ w=>(add64 (cZ (bZ (wd a i) (wd b j)) (u (i+j)) 0) c 0 (gQ _ _ _) hM.car jD) w))<|jE [[],[],[],[],[]]) (fun _=>?_)
   refine rS Tryz.f146 10 [2,3,4,5,6,7,8,14,17] [] (fun _=>let qa:Value:=.int .u64 (IntKind.u64.wrap ((IntKind.u64.wrap ((mJ (wd a i) (wd b j))+(dJ (bZ (wd a i) (wd b j)) (u (i+j)) 0)))+(dJ (cZ (bZ (wd a i) (wd b j)) (u (i+j)) 0) c 0)));[vn i,vn j,vn (i+j),.int .u64 (cZ (cZ (bZ (wd a i) (wd b j)) (u (i+j)) 0) c 0),.int .u64 (IntKind.u64.wrap ((mJ (wd a i) (wd b j))+(dJ (bZ (wd a i) (wd b j)) (u (i+j)) 0))),.int .u64 (dJ (cZ (bZ (wd a i) (wd b j)) (u (i+j)) 0) c 0),qa,jp (nb ρ2 0) (i+j),undef,qa]) (fun _=>[(8,(bD 4 (nb ρ2 0) (cL (c8 (qR u (i+j) (cZ (cZ (bZ (wd a i) (wd b j)) (u (i+j)) 0) c 0))) 138)))]) (cR [[],[]]<|jW (fun ρ=>(((i:Nat):Int)+((j:Nat):Int))) (fun _=>(i+j)) (fun _=>(dX i j (by omega)))<|cR [[],[],[],[]]<|cX (jS (fun _=>Instr.indexAt 138 (pt (nb ρ2 0)) (vn (i+j))) (fun _=>(jp (nb ρ2 0) (i+j))) (fun _ w=>aX (n:=((i+j:Nat):Int)) (i:=i+j) Tryz.underlying138 Tryz.sizeOf37 (⟨rfl,by omega⟩) w))<|cX (qG _ 4 37 (fun _=>nb ρ2 0) (fun _=>i+j) (fun _=>(c8 u)) (fun _=>(c8 (qR u (i+j) (cZ (cZ (bZ (wd a i) (wd b j)) (u (i+j)) 0) c 0)))) 138 (fun _=>(.int .u64 (cZ (cZ (bZ (wd a i) (wd b j)) (u (i+j)) 0) c 0))) (fun _=>by kernel_rfl) Tryz.sizeOf37 (fun _=>rfl) (fun _=>(show _<8 from (by omega))) (fun _=>c8_set u (i+j) (cZ (cZ (bZ (wd a i) (wd b j)) (u (i+j)) 0) c 0) (by omega)))<|jE [[]]) (fun _=>?_)
   refine aJ (aA ?_)
   refine rS Tryz.f146 2 [2,3,4,5,6,7,8,14,17] [] (fun _=>[vn (j+1),vn (j+1)]) (fun _=>[]) (jW (fun ρ=>(((j:Nat):Int)+1)) (fun _=>(j+1)) (fun _=>(dX j 1 (by omega)))<|jE [[]]) (fun _=>?_)
   exact mN (j+1,qR u (i+j) (cZ (cZ (bZ (wd a i) (wd b j)) (u (i+j)) 0) c 0),IntKind.u64.wrap ((IntKind.u64.wrap ((mJ (wd a i) (wd b j))+(dJ (bZ (wd a i) (wd b j)) (u (i+j)) 0)))+(dJ (cZ (bZ (wd a i) (wd b j)) (u (i+j)) 0) c 0))) (by show 4-(j+1)<4-j;omega) (⟨by omega,mulI_next (by omega) (by omega) hM (gQ _ _ _) (mul_step (bG a i) (bG b j) (hM.word _) hM.car).2 (mul_step (bG a i) (bG b j) (hM.word _) hM.car).1⟩) []
  rw [hb2]
  refine bF (aN (aN (aT (aA ?_))))
  refine rS Tryz.f146 5 [2,3,4,5,6,14] [] (fun _=>[vn i,vn (i+4),.int .u64 c,jp (nb ρ2 0) (i+4),undef]) (fun _=>[(4,(bD 4 (nb ρ2 0) (cL (c8 (qR u (i+4) c)) 138)))]) (cR [[]]<|jW (fun ρ=>(((i:Nat):Int)+4)) (fun _=>(i+4)) (fun _=>(dX i 4 (by omega)))<|cR [[]]<|cX (jS (fun _=>Instr.indexAt 138 (pt (nb ρ2 0)) (vn (i+4))) (fun _=>(jp (nb ρ2 0) (i+4))) (fun _ w=>aX (n:=((i+4:Nat):Int)) (i:=i+4) Tryz.underlying138 Tryz.sizeOf37 (⟨rfl,by omega⟩) w))<|cX (qG _ 4 37 (fun _=>nb ρ2 0) (fun _=>i+4) (fun _=>(c8 u)) (fun _=>(c8 (qR u (i+4) c))) 138 (fun _=>(.int .u64 c)) (fun _=>by kernel_rfl) Tryz.sizeOf37 (fun _=>rfl) (fun _=>(show _<8 from (by omega))) (fun _=>c8_set u (i+4) c (by omega)))<|cN) (fun _=>?_)
  refine aJ (aA ?_)
  refine rS Tryz.f146 2 [2,3,4,5,6,14] [] (fun _=>[vn (i+1),vn (i+1)]) (fun _=>[]) (jW (fun ρ=>(((i:Nat):Int)+1)) (fun _=>(i+1)) (fun _=>(dX i 1 (by omega)))<|jE [[]]) (fun _=>?_)
  exact mN (i+1,qR u (i+4) c) (by show 4-(i+1)<4-i;omega) (⟨by omega,mulI_end (by omega) (by have:j=4:=(by have:=yF hb2;omega);subst this;exact hM)⟩) []
 rw [hb1]
 refine bF (aN (aN (aT (aA ?_))))
 refine sD Tryz.f146 [0,1,3,0,8,24,7,127] 8 [4,5] [0,0,1,1,0] (fun _=>[.slice (some ⟨nb ρ2 0,4,none⟩) 4 4,jp (nb ρ2 0) 4,.agg #[.int .u64 (f 4),.int .u64 (f 5),.int .u64 (f 6),.int .u64 (f 7)],vs (nb ρ2 0) 4 8,pt (nb ρ2 0),.agg #[.int .u64 (f 0),.int .u64 (f 1),.int .u64 (f 2),.int .u64 (f 3)],undef,undef]) (fun _=>[(6,(bD 2 (nb ρ1 2) (cL #[.int .u64 (f 4),.int .u64 (f 5),.int .u64 (f 6),.int .u64 (f 7)] 39))),(7,(bD 3 (nb ρ1 3) (cL #[.int .u64 (f 0),.int .u64 (f 1),.int .u64 (f 2),.int .u64 (f 3)] 39)))]) (jE [[],[],[4],[],[],[4],[2],[3]]) (fun _=>?_)
 refine aF ?_
 exact mR (v:=(.tuple #[.agg #[.int .u64 (f 4),.int .u64 (f 5),.int .u64 (f 6),.int .u64 (f 7)],.agg #[.int .u64 (f 0),.int .u64 (f 1),.int .u64 (f 2),.int .u64 (f 3)]])) (ps:=[0,0,0,0,1,1,1,1]) (fun _ hS=>⟨mul_end ha hb (by have:i=4:=(by have:=yF hb1;omega);subst this;exact hO),hS.bel⟩)
theorem mul_any (a b:Nat) (w0:World) (ha:a<M) (hb:b<M):Calls Tryz.prog 146 #[U a,U b] w0 (jR (.tuple #[U (a*b / M),U (a*b%M)]) w0):=mul_w a b ha hb w0
theorem rmul_w (a:Nat) (b:Nat) (ha:a<M) (hb:b<M) (w0:World):Calls Tryz.prog 156 #[U a,U b] w0 (jR (.tuple #[U (a*b / M),U (a*b%M)]) w0):=by
 refine Calls.of_ok (n:=71) (F:=(fun _=>True)) Tryz.func156 rfl rfl rfl (by simp) jT ?_
 refine sS Tryz.f156 4 [2,3,4,5] [] (fun ρ=>[pt (nb ρ 0),pt (nb ρ 1),pt (nb ρ 2),pt (nb ρ 3)]) (fun ρ=>[(0,(nw ρ 0 (cL (cU a) 39))),(1,(nw ρ 1 (cL (cU b) 39))),(2,(nw ρ 2 (cL (cU 0) 39))),(3,(nw ρ 3 (cL (cU 0) 39)))]) (jE [[],[],[],[]]) (fun ρ1=>?_)
 refine sS Tryz.f156 1 [2,3,4,5,6] [] (fun ρ=>[pt (nb ρ 0)]) (fun ρ=>[(0,(nw ρ 0 (cL #[.int .u64 0,.int .u64 0,.int .u64 0,.int .u64 0,.int .u64 0,.int .u64 0,.int .u64 0,.int .u64 0] 138)))]) (jE [[]]) (fun ρ2=>?_)
 refine aB (jJ Tryz.f156 1 [2,3,4,5,6,15] [vi 0] (aI ?_))
 refine oL (σ:=Nat × (Nat→Int)) (fun ⟨i,_⟩=>[(2,(pt (nb ρ1 0))),(3,(pt (nb ρ1 1))),(4,(pt (nb ρ1 2))),(5,(pt (nb ρ1 3))),(6,(pt (nb ρ2 0))),(15,(vn i))]) (fun ⟨_,f⟩=>[(nb ρ1 0,(cL (cU a) 39)),(nb ρ1 1,(cL (cU b) 39)),(nb ρ1 2,(cL (cU 0) 39)),(nb ρ1 3,(cL (cU 0) 39)),(nb ρ2 0,(cL (c8 f) 138))]) (fun ⟨i,_⟩=>4-i)
   (fun ⟨i,f⟩=>(i≤4)∧(MulO a b i f)) (0,(fun _=>0)) (⟨by omega,mulO_zero a b⟩) [] ?_
 rintro ⟨i,f⟩ ⟨hi,hO⟩
 change Ok Tryz.prog _ _ 71 [(2,(pt (nb ρ1 0))),(3,(pt (nb ρ1 1))),(4,(pt (nb ρ1 2))),(5,(pt (nb ρ1 3))),(6,(pt (nb ρ2 0))),(15,(vn i))] _ [(nb ρ1 0,(cL (cU a) 39)),(nb ρ1 1,(cL (cU b) 39)),(nb ρ1 2,(cL (cU 0) 39)),(nb ρ1 3,(cL (cU 0) 39)),(nb ρ2 0,(cL (c8 f) 138))] (fun _=>True)
 refine jJ Tryz.f156 1 [2,3,4,5,6,15,16] [.bool (decide (((i:Nat):Int)<4))] (aB ?_)
 refine oC (decide (((i:Nat):Int)<4)) (fun hb1=>?_) (fun hb1=>?_)
 ·
  rw [hb1]
  have:=yT hb1
  refine aG (aA (aB (aI (jJ Tryz.f156 2 [2,3,4,5,6,7,15] [vn i,vn i] (jJ Tryz.f156 1 [2,3,4,5,6,7,8,15] [.int .u64 0] (aB (jJ Tryz.f156 1 [2,3,4,5,6,7,8,15,18] [vi 0] (aI ?_))))))))
  refine oL (σ:=Nat × (Nat→Int) × Int) (fun ⟨j,_,c⟩=>[(2,(pt (nb ρ1 0))),(3,(pt (nb ρ1 1))),(4,(pt (nb ρ1 2))),(5,(pt (nb ρ1 3))),(6,(pt (nb ρ2 0))),(7,(vn i)),(8,(.int .u64 c)),(15,(vn i)),(18,(vn j))]) (fun ⟨_,u,_⟩=>[(nb ρ1 0,(cL (cU a) 39)),(nb ρ1 1,(cL (cU b) 39)),(nb ρ1 2,(cL (cU 0) 39)),(nb ρ1 3,(cL (cU 0) 39)),(nb ρ2 0,(cL (c8 u) 138))]) (fun ⟨j,_,_⟩=>4-j)
    (fun ⟨j,u,c⟩=>(j≤4)∧(MulI a b i j u c)) (0,f,0) (⟨by omega,mulO_begin hO⟩) [] ?_
  rintro ⟨j,u,c⟩ ⟨hj,hM⟩
  change Ok Tryz.prog _ _ 71 [(2,(pt (nb ρ1 0))),(3,(pt (nb ρ1 1))),(4,(pt (nb ρ1 2))),(5,(pt (nb ρ1 3))),(6,(pt (nb ρ2 0))),(7,(vn i)),(8,(.int .u64 c)),(15,(vn i)),(18,(vn j))] _ [(nb ρ1 0,(cL (cU a) 39)),(nb ρ1 1,(cL (cU b) 39)),(nb ρ1 2,(cL (cU 0) 39)),(nb ρ1 3,(cL (cU 0) 39)),(nb ρ2 0,(cL (c8 u) 138))] (fun _=>True)
  refine jJ Tryz.f156 1 [2,3,4,5,6,7,8,15,18,19] [.bool (decide (((j:Nat):Int)<4))] (aB ?_)
  refine oC (decide (((j:Nat):Int)<4)) (fun hb2=>?_) (fun hb2=>?_)
  ·
   rw [hb2]
   have:=yT hb2
   refine aG (aA (aB (aI (jJ Tryz.f156 2 [2,3,4,5,6,7,8,9,15,18] [vn j,vn j] ?_))))
   refine sD Tryz.f156 [0,1,3,0,8,24,63,127,255,255,511,2047] 12 [2,3,4,5,6,7,8,9,10,11,15,18] [] (fun _=>let qa:Value:=.int .u64 (mJ (wd a i) (wd b j));let qb:Value:=.int .u64 (bZ (wd a i) (wd b j));[vn i,jp (nb ρ1 0) i,.int .u64 (wd a i),vn j,jp (nb ρ1 1) j,.int .u64 (wd b j),.tuple #[qa,qb],.tuple #[qa,qb],qa,qb,qa,qb]) (fun _=>[]) (cR [[]]<|cX (jS (fun _=>Instr.indexAt 39 (pt (nb ρ1 0)) (vn i)) (fun _=>(jp (nb ρ1 0) i)) (fun _ w=>aX (n:=((i:Nat):Int)) (i:=i) Tryz.underlying39 Tryz.sizeOf37 (⟨rfl,by omega⟩) w))<|cX (kG _ 0 37 (fun _=>nb ρ1 0) (fun _=>i) (fun _=>(cU a)) 39 (0,0) (fun _=>(.int .u64 (wd a i))) (fun _=>by kernel_rfl) Tryz.isAgg37 (fun _=>lL a i (by omega)))<|cR [[]]<|cX (jS (fun _=>Instr.indexAt 39 (pt (nb ρ1 1)) (vn j)) (fun _=>(jp (nb ρ1 1) j)) (fun _ w=>aX (n:=((j:Nat):Int)) (i:=j) Tryz.underlying39 Tryz.sizeOf37 (⟨rfl,by omega⟩) w))<|cX (kG _ 1 37 (fun _=>nb ρ1 1) (fun _=>j) (fun _=>(cU b)) 39 (0,0) (fun _=>(.int .u64 (wd b j))) (fun _=>by kernel_rfl) Tryz.isAgg37 (fun _=>lL b j (by omega)))<|cC (fun _ w=>mul64_any (wd a i) (wd b j) (bG a i) (bG b j) w)<|jE [[],[],[],[],[]]) (fun _=>?_)
   refine sS Tryz.f156 12 [2,3,4,5,6,7,8,9,10,12,13,15,18] [] (fun _=>let qa:Value:=.int .u64 (cZ (u (i+j)) (bZ (wd a i) (wd b j)) 0);let qb:Value:=.int .u64 (dJ (u (i+j)) (bZ (wd a i) (wd b j)) 0);[vn i,vn j,vn (i+j),jp (nb ρ2 0) (i+j),.int .u64 (u (i+j)),.int .u64 (bZ (wd a i) (wd b j)),.tuple #[qa,qb],.tuple #[qa,qb],qa,qb,qa,qb]) (fun _=>[]) (cR [[],[]]<|jW (fun ρ=>(((i:Nat):Int)+((j:Nat):Int))) (fun _=>(i+j)) (fun _=>(dX i j (by omega)))<|cX (jS (fun _=>Instr.indexAt 138 (pt (nb ρ2 0)) (vn (i+j))) (fun _=>(jp (nb ρ2 0) (i+j))) (fun _ w=>aX (n:=((i+j:Nat):Int)) (i:=i+j) Tryz.underlying138 Tryz.sizeOf37 (⟨rfl,by omega⟩) w))<|cX (kG _ 4 37 (fun _=>nb ρ2 0) (fun _=>i+j) (fun _=>(c8 u)) 138 (0,0) (fun _=>(.int .u64 (u (i+j)))) (fun _=>by kernel_rfl) Tryz.isAgg37 (fun _=>c8_get u (i+j) (by omega)))<|cR [[]]<|cX (o_sem _ (fun _=>callFunc 159 #[.int .u64 (u (i+j)),.int .u64 (bZ (wd a i) (wd b j)),.int .u64 0]) (fun _=>(.tuple #[.int .u64 (cZ (u (i+j)) (bZ (wd a i) (wd b j)) 0),.int .u64 (dJ (u (i+j)) (bZ (wd a i) (wd b j)) 0)])) (fun _=>by kernel_rfl) (fun _=>by kernel_rfl) (fun _ w=>(add64 (u (i+j)) (bZ (wd a i) (wd b j)) 0 (hM.word _) (yO _ _) jD) w))<|jE [[],[],[],[],[]]) (fun _=>?_)
   refine sS Tryz.f156 8 [2,3,4,5,6,7,8,9,10,12,13,14,15,18] [] (fun _=>let qa:Value:=.int .u64 (cZ (cZ (u (i+j)) (bZ (wd a i) (wd b j)) 0) c 0);let qb:Value:=.int .u64 (dJ (cZ (u (i+j)) (bZ (wd a i) (wd b j)) 0) c 0);[.int .u64 (cZ (u (i+j)) (bZ (wd a i) (wd b j)) 0),.int .u64 c,.tuple #[qa,qb],.tuple #[qa,qb],qa,qb,qa,qb]) (fun _=>[]) (cR [[],[]]<|cX (o_sem _ (fun _=>callFunc 159 #[.int .u64 (cZ (u (i+j)) (bZ (wd a i) (wd b j)) 0),.int .u64 c,.int .u64 0]) (fun _=>(.tuple #[.int .u64 (cZ (cZ (u (i+j)) (bZ (wd a i) (wd b j)) 0) c 0),.int .u64 (dJ (cZ (u (i+j)) (bZ (wd a i) (wd b j)) 0) c 0)])) (fun _=>by kernel_rfl) (fun _=>by kernel_rfl) (fun _ w=>(add64 (cZ (u (i+j)) (bZ (wd a i) (wd b j)) 0) c 0 (gQ _ _ _) hM.car jD) w))<|jE [[],[],[],[],[]]) (fun _=>?_)
   refine rS Tryz.f156 12 [2,3,4,5,6,7,8,15,18] [] (fun _=>let qa:Value:=.int .u64 (IntKind.u64.wrap ((IntKind.u64.wrap ((mJ (wd a i) (wd b j))+(dJ (u (i+j)) (bZ (wd a i) (wd b j)) 0)))+(dJ (cZ (u (i+j)) (bZ (wd a i) (wd b j)) 0) c 0)));[vn i,vn j,vn (i+j),.int .u64 (cZ (cZ (u (i+j)) (bZ (wd a i) (wd b j)) 0) c 0),.int .u64 (mJ (wd a i) (wd b j)),.int .u64 (dJ (u (i+j)) (bZ (wd a i) (wd b j)) 0),.int .u64 (IntKind.u64.wrap ((mJ (wd a i) (wd b j))+(dJ (u (i+j)) (bZ (wd a i) (wd b j)) 0))),.int .u64 (dJ (cZ (u (i+j)) (bZ (wd a i) (wd b j)) 0) c 0),qa,jp (nb ρ2 0) (i+j),undef,qa]) (fun _=>[(10,(bD 4 (nb ρ2 0) (cL (c8 (qR u (i+j) (cZ (cZ (u (i+j)) (bZ (wd a i) (wd b j)) 0) c 0))) 138)))]) (cR [[],[]]<|jW (fun ρ=>(((i:Nat):Int)+((j:Nat):Int))) (fun _=>(i+j)) (fun _=>(dX i j (by omega)))<|cR [[],[],[],[],[],[]]<|cX (jS (fun _=>Instr.indexAt 138 (pt (nb ρ2 0)) (vn (i+j))) (fun _=>(jp (nb ρ2 0) (i+j))) (fun _ w=>aX (n:=((i+j:Nat):Int)) (i:=i+j) Tryz.underlying138 Tryz.sizeOf37 (⟨rfl,by omega⟩) w))<|cX (qG _ 4 37 (fun _=>nb ρ2 0) (fun _=>i+j) (fun _=>(c8 u)) (fun _=>(c8 (qR u (i+j) (cZ (cZ (u (i+j)) (bZ (wd a i) (wd b j)) 0) c 0)))) 138 (fun _=>(.int .u64 (cZ (cZ (u (i+j)) (bZ (wd a i) (wd b j)) 0) c 0))) (fun _=>by kernel_rfl) Tryz.sizeOf37 (fun _=>rfl) (fun _=>(show _<8 from (by omega))) (fun _=>c8_set u (i+j) (cZ (cZ (u (i+j)) (bZ (wd a i) (wd b j)) 0) c 0) (by omega)))<|jE [[]]) (fun _=>?_)
   refine aJ (aA ?_)
   refine rS Tryz.f156 2 [2,3,4,5,6,7,8,15,18] [] (fun _=>[vn (j+1),vn (j+1)]) (fun _=>[]) (jW (fun ρ=>(((j:Nat):Int)+1)) (fun _=>(j+1)) (fun _=>(dX j 1 (by omega)))<|jE [[]]) (fun _=>?_)
   exact mN (j+1,qR u (i+j) (cZ (cZ (u (i+j)) (bZ (wd a i) (wd b j)) 0) c 0),IntKind.u64.wrap ((IntKind.u64.wrap ((mJ (wd a i) (wd b j))+(dJ (u (i+j)) (bZ (wd a i) (wd b j)) 0)))+(dJ (cZ (u (i+j)) (bZ (wd a i) (wd b j)) 0) c 0))) (by show 4-(j+1)<4-j;omega) (⟨by omega,mulI_next (by omega) (by omega) hM (gQ _ _ _) (rmul_step (bG a i) (bG b j) (hM.word _) hM.car).2 (rmul_step (bG a i) (bG b j) (hM.word _) hM.car).1⟩) []
  rw [hb2]
  refine bF (aN (aN (aT (aA ?_))))
  refine rS Tryz.f156 5 [2,3,4,5,6,15] [] (fun _=>[vn i,vn (i+4),.int .u64 c,jp (nb ρ2 0) (i+4),undef]) (fun _=>[(4,(bD 4 (nb ρ2 0) (cL (c8 (qR u (i+4) c)) 138)))]) (cR [[]]<|jW (fun ρ=>(((i:Nat):Int)+4)) (fun _=>(i+4)) (fun _=>(dX i 4 (by omega)))<|cR [[]]<|cX (jS (fun _=>Instr.indexAt 138 (pt (nb ρ2 0)) (vn (i+4))) (fun _=>(jp (nb ρ2 0) (i+4))) (fun _ w=>aX (n:=((i+4:Nat):Int)) (i:=i+4) Tryz.underlying138 Tryz.sizeOf37 (⟨rfl,by omega⟩) w))<|cX (qG _ 4 37 (fun _=>nb ρ2 0) (fun _=>i+4) (fun _=>(c8 u)) (fun _=>(c8 (qR u (i+4) c))) 138 (fun _=>(.int .u64 c)) (fun _=>by kernel_rfl) Tryz.sizeOf37 (fun _=>rfl) (fun _=>(show _<8 from (by omega))) (fun _=>c8_set u (i+4) c (by omega)))<|cN) (fun _=>?_)
  refine aJ (aA ?_)
  refine rS Tryz.f156 2 [2,3,4,5,6,15] [] (fun _=>[vn (i+1),vn (i+1)]) (fun _=>[]) (jW (fun ρ=>(((i:Nat):Int)+1)) (fun _=>(i+1)) (fun _=>(dX i 1 (by omega)))<|jE [[]]) (fun _=>?_)
  exact mN (i+1,qR u (i+4) c) (by show 4-(i+1)<4-i;omega) (⟨by omega,mulI_end (by omega) (by have:j=4:=(by have:=yF hb2;omega);subst this;exact hM)⟩) []
 rw [hb1]
 refine bF (aN (aN (aT (aA ?_))))
 refine sD Tryz.f156 [0,0,3] 3 [4,5,6] [0,0,1,1,1] (fun _=>[vs (nb ρ1 3) 4 4,vs (nb ρ2 0) 4 8,vi 4]) (fun _=>[(2,(bD 3 (nb ρ1 3) (cL #[.int .u64 (f 0),.int .u64 (f 1),.int .u64 (f 2),.int .u64 (f 3)] 39)))]) (cR [[],[]]<|cX (o_run _ [3,4] [1,1,1,1,0,0,0,0] (fun _ _=>[nb ρ2 0,nb ρ2 0,nb ρ2 0,nb ρ2 0,nb ρ1 3,nb ρ1 3,nb ρ1 3,nb ρ1 3]) (fun _ _=>by kernel_rfl))<|cN) (fun _=>?_)
 refine sD Tryz.f156 [0,0,3] 3 [4,5] [1,1,0] (fun _=>[vs (nb ρ1 2) 4 4,.slice (some ⟨nb ρ2 0,4,none⟩) 4 4,vi 4]) (fun _=>[(2,(bD 0 (nb ρ1 2) (cL #[.int .u64 (f 4),.int .u64 (f 5),.int .u64 (f 6),.int .u64 (f 7)] 39)))]) (cR [[],[]]<|cX (o_run _ [0,2] [1,1,1,1,0,0,0,0] (fun _ _=>[nb ρ2 0,nb ρ2 0,nb ρ2 0,nb ρ2 0,nb ρ1 2,nb ρ1 2,nb ρ1 2,nb ρ1 2]) (fun _ _=>by kernel_rfl))<|cN) (fun _=>?_)
 refine sS Tryz.f156 4 [4,5] [] (fun _=>[.agg #[.int .u64 (f 4),.int .u64 (f 5),.int .u64 (f 6),.int .u64 (f 7)],.agg #[.int .u64 (f 0),.int .u64 (f 1),.int .u64 (f 2),.int .u64 (f 3)],undef,undef]) (fun _=>[(2,(bD 0 (nb ρ1 2) (cL #[.int .u64 (f 4),.int .u64 (f 5),.int .u64 (f 6),.int .u64 (f 7)] 39))),(3,(bD 1 (nb ρ1 3) (cL #[.int .u64 (f 0),.int .u64 (f 1),.int .u64 (f 2),.int .u64 (f 3)] 39)))]) (jE [[0],[1],[0],[1]]) (fun _=>?_)
 refine aF ?_
 exact mR (v:=(.tuple #[.agg #[.int .u64 (f 4),.int .u64 (f 5),.int .u64 (f 6),.int .u64 (f 7)],.agg #[.int .u64 (f 0),.int .u64 (f 1),.int .u64 (f 2),.int .u64 (f 3)]])) (ps:=[0,0,0,0,1,1,1,1]) (fun _ hS=>⟨mul_end ha hb (by have:i=4:=(by have:=yF hb1;omega);subst this;exact hO),hS.bel⟩)
theorem rmul_any (a b:Nat) (w0:World) (ha:a<M) (hb:b<M):Calls Tryz.prog 156 #[U a,U b] w0 (jR (.tuple #[U (a*b / M),U (a*b%M)]) w0):=rmul_w a b ha hb w0
theorem addmod_w (a:Nat) (b:Nat) (m:Nat) (ha:a<M) (hb:b<M) (hm:m<M) (w0:World):Calls Tryz.prog 125 #[U a,U b,U m] w0 (jR (U (bC a b m)) w0):=by
 refine Calls.of_ok (n:=37) (F:=(fun _=>True)) Tryz.func125 rfl rfl rfl (by simp) jT ?_
 refine sS Tryz.f125 4 [3,4,5,6] [] (fun ρ=>[pt (nb ρ 0),pt (nb ρ 1),pt (nb ρ 2),pt (nb ρ 3)]) (fun ρ=>[(0,(nw ρ 0 (cL (cU a) 39))),(1,(nw ρ 1 (cL (cU b) 39))),(2,(nw ρ 2 (cL (cU m) 39))),(3,(nw ρ 3 (cL (cU 0) 39)))]) (jE [[],[],[],[]]) (fun ρ1=>?_)
 refine aB ?_
 refine sS Tryz.f125 3 [3,4,5,6,11] [] (fun _=>[U m,U 0,.bool (decide (m=0))]) (fun _=>[]) (cR [[2],[]]<|cB (a:=fun ρ=>(U m)) (b:=fun ρ=>(U 0)) (v:=fun ρ=>(.bool (decide (m=0)))) .eql 39 (fun _ _=>eqlU m 0 hm (by decide +kernel) _)<|cN) (fun _=>?_)
 refine oC (decide (m=0)) (fun hb1=>?_) (fun hb1=>?_)
 ·
  rw [hb1]
  refine sS Tryz.f125 2 [3,4,5,6] [] (fun _=>[U 0,undef]) (fun _=>[(1,(bD 3 (nb ρ1 3) (cL (cU 0) 39)))]) (jE [[],[3]]) (fun _=>?_)
  refine aF (aC ?_)
  exact mR (v:=(U 0)) (ps:=[3,3,3,3]) (fun _ hS=>⟨congrArg (fun x=>Ending.returned (U x)) (addm_0 hb1),hS.bel⟩)
 rw [hb1]
 refine aG (aA ?_)
 refine sD Tryz.f125 [0,0,3,0,0,31,63,127,255,255,0,1535,4095] 13 [5,6,7,8] [0,0,1,1,1] (fun ρ=>let qa:Value:=.bool (decide (M≤(aQ a m)+(aQ b m)));[U a,U m,U (aQ a m),U b,U m,U (aQ b m),.tuple #[U (((aQ a m)+(aQ b m))%M),qa],.tuple #[U (((aQ a m)+(aQ b m))%M),qa],U (((aQ a m)+(aQ b m))%M),qa,pt (nb ρ 10),undef,qa]) (fun ρ=>[(10,(nw ρ 10 (cL (cU 0) 39))),(11,(bD 84 (nb ρ 10) (cL (cU (((aQ a m)+(aQ b m))%M)) 39)))]) (cR [[0],[2]]<|cC (fun _ w=>yE a m w ha hm)<|cR [[1],[2]]<|cC (fun _ w=>yE b m w hb hm)<|cC (fun _ w=>add_any (aQ a m) (aQ b m) w (pR ha) (pR hb))<|jE [[],[],[],[],[84],[]]) (fun ρ4=>?_)
 refine aB ?_
 rcases Bool.eq_false_or_eq_true (decide (M≤(aQ a m)+(aQ b m))) with hb2 | hb2
 ·
  rw [hb2]
  refine jJ Tryz.f125 7 [5,6,7,29] [vT,vT,undef,undef,undef,undef,vT] ?_
  refine oY ?_
  refine rS Tryz.f125 7 [6,7] [0,1,1] (fun _=>let qa:Value:=.bool (decide ((((aQ a m)+(aQ b m))%M)<m));[U (((aQ a m)+(aQ b m))%M),U m,.tuple #[U (((((aQ a m)+(aQ b m))%M)+M-m)%M),qa],.tuple #[U (((((aQ a m)+(aQ b m))%M)+M-m)%M),qa],U (((((aQ a m)+(aQ b m))%M)+M-m)%M),qa,undef]) (fun _=>[(6,(bD 2 (nb ρ4 10) (cL (cU (((((aQ a m)+(aQ b m))%M)+M-m)%M)) 39)))]) (cR [[2],[0]]<|cC (f:=145) (args:=fun ρ=> #[U (((aQ a m)+(aQ b m))%M),U m]) (v:=fun ρ=>(.tuple #[U (((((aQ a m)+(aQ b m))%M)+M-m)%M),.bool (decide ((((aQ a m)+(aQ b m))%M)<m))])) (fun _ w=>(fun w=>sub_any (((aQ a m)+(aQ b m))%M) m w (rC _) hm) w)<|jE [[],[],[],[2]]) (fun _=>?_)
  refine aA ?_
  refine sS Tryz.f125 2 [6] [1,0] (fun _=>[U (((((aQ a m)+(aQ b m))%M)+M-m)%M),undef]) (fun _=>[(1,(bD 0 (nb ρ1 3) (cL (cU (((((aQ a m)+(aQ b m))%M)+M-m)%M)) 39)))]) (jE [[1],[0]]) (fun _=>?_)
  refine aF ?_
  exact mR (v:=(U (((((aQ a m)+(aQ b m))%M)+M-m)%M))) (fun _ hS=>⟨congrArg (fun x=>Ending.returned (U x)) (addm_2 hm hb1 hb2),hS.bel⟩)
 rw [hb2]
 refine sS Tryz.f125 7 [5,6,7,29] [] (fun _=>let qa:Value:=.bool (decide (0≤(fJ (((aQ a m)+(aQ b m))%M) m)));[vF,vF,U (((aQ a m)+(aQ b m))%M),U m,vi (fJ (((aQ a m)+(aQ b m))%M) m),qa,qa]) (fun _=>[]) (cR [[],[],[2],[0]]<|cC (f:=117) (args:=fun ρ=> #[U (((aQ a m)+(aQ b m))%M),U m]) (v:=fun ρ=>(vi (fJ (((aQ a m)+(aQ b m))%M) m))) (fun _ w=>(fun w=>uN (((aQ a m)+(aQ b m))%M) m w (rC _) hm) w)<|jE [[],[]]) (fun _=>?_)
 refine oC (decide (0≤(fJ (((aQ a m)+(aQ b m))%M) m))) (fun hb3=>?_) (fun hb3=>?_)
 ·
  rw [hb3]
  refine rS Tryz.f125 7 [6,7] [0,1,1] (fun _=>let qa:Value:=.bool (decide ((((aQ a m)+(aQ b m))%M)<m));[U (((aQ a m)+(aQ b m))%M),U m,.tuple #[U (((((aQ a m)+(aQ b m))%M)+M-m)%M),qa],.tuple #[U (((((aQ a m)+(aQ b m))%M)+M-m)%M),qa],U (((((aQ a m)+(aQ b m))%M)+M-m)%M),qa,undef]) (fun _=>[(6,(bD 2 (nb ρ4 10) (cL (cU (((((aQ a m)+(aQ b m))%M)+M-m)%M)) 39)))]) (cR [[2],[0]]<|cC (f:=145) (args:=fun ρ=> #[U (((aQ a m)+(aQ b m))%M),U m]) (v:=fun ρ=>(.tuple #[U (((((aQ a m)+(aQ b m))%M)+M-m)%M),.bool (decide ((((aQ a m)+(aQ b m))%M)<m))])) (fun _ w=>(fun w=>sub_any (((aQ a m)+(aQ b m))%M) m w (rC _) hm) w)<|jE [[],[],[],[2]]) (fun _=>?_)
  refine aA ?_
  refine sS Tryz.f125 2 [6] [1,0] (fun _=>[U (((((aQ a m)+(aQ b m))%M)+M-m)%M),undef]) (fun _=>[(1,(bD 0 (nb ρ1 3) (cL (cU (((((aQ a m)+(aQ b m))%M)+M-m)%M)) 39)))]) (jE [[1],[0]]) (fun _=>?_)
  refine aF ?_
  exact mR (v:=(U (((((aQ a m)+(aQ b m))%M)+M-m)%M))) (fun _ hS=>⟨congrArg (fun x=>Ending.returned (U x)) (addm_3t hm hb1 hb2 hb3),hS.bel⟩)
 rw [hb3]
 refine aG (aA ?_)
 refine sS Tryz.f125 2 [6] [0,1,0] (fun _=>[U (((aQ a m)+(aQ b m))%M),undef]) (fun _=>[(1,(bD 1 (nb ρ1 3) (cL (cU (((aQ a m)+(aQ b m))%M)) 39)))]) (jE [[2],[1]]) (fun _=>?_)
 refine aF ?_
 exact mR (v:=(U (((aQ a m)+(aQ b m))%M))) (fun _ hS=>⟨congrArg (fun x=>Ending.returned (U x)) (addm_3f hm hb1 hb2 hb3),hS.bel⟩)
theorem addmod_any (a b m:Nat) (w0:World) (ha:a<M) (hb:b<M) (hm:m<M):Calls Tryz.prog 125 #[U a,U b,U m] w0 (jR (U (bC a b m)) w0):=addmod_w a b m ha hb hm w0
theorem mulmod_w (a:Nat) (b:Nat) (m:Nat) (ha:a<M) (hb:b<M) (hm:m<M) (w0:World):Calls Tryz.prog 127 #[U a,U b,U m] w0 (jR (U (bV a b m)) w0):=by
 refine Calls.of_ok (n:=33) (F:=(fun _=>True)) Tryz.func127 rfl rfl rfl (by simp) jT ?_
 refine sS Tryz.f127 4 [3,4,5,6] [] (fun ρ=>[pt (nb ρ 0),pt (nb ρ 1),pt (nb ρ 2),pt (nb ρ 3)]) (fun ρ=>[(0,(nw ρ 0 (cL (cU a) 39))),(1,(nw ρ 1 (cL (cU b) 39))),(2,(nw ρ 2 (cL (cU m) 39))),(3,(nw ρ 3 (cL (cU 0) 39)))]) (jE [[],[],[],[]]) (fun ρ1=>?_)
 refine aB ?_
 refine sS Tryz.f127 3 [3,4,5,6,14] [] (fun _=>[U m,U 0,.bool (decide (m=0))]) (fun _=>[]) (cR [[2],[]]<|cB (a:=fun ρ=>(U m)) (b:=fun ρ=>(U 0)) (v:=fun ρ=>(.bool (decide (m=0)))) .eql 39 (fun _ _=>eqlU m 0 hm (by decide +kernel) _)<|cN) (fun _=>?_)
 refine oC (decide (m=0)) (fun hb1=>?_) (fun hb1=>?_)
 ·
  rw [hb1]
  refine sS Tryz.f127 2 [3,4,5,6] [] (fun _=>[U 0,undef]) (fun _=>[(1,(bD 3 (nb ρ1 3) (cL (cU 0) 39)))]) (jE [[],[3]]) (fun _=>?_)
  refine aF (aC ?_)
  exact mR (v:=(U 0)) (ps:=[3,3,3,3]) (fun _ hS=>⟨congrArg (fun x=>Ending.returned (U x)) (mulm_0 hb1),hS.bel⟩)
 rw [hb1]
 refine aG (aA ?_)
 refine sS Tryz.f127 10 [5,6,7,8] [0,0,1,1,1,1] (fun ρ=>[U a,U b,.tuple #[U ((a*b) / M),U ((a*b)%M)],.tuple #[U ((a*b) / M),U ((a*b)%M)],U ((a*b) / M),U ((a*b)%M),pt (nb ρ 6),pt (nb ρ 7),undef,undef]) (fun ρ=>[(6,(nw ρ 6 (cL (cU 0) 39))),(7,(nw ρ 7 (cL (cU 0) 39))),(8,(bD 52 (nb ρ 6) (cL (cU ((a*b) / M)) 39))),(9,(bD 60 (nb ρ 7) (cL (cU ((a*b)%M)) 39)))]) (cR [[0],[1]]<|cC (fun _ w=>mul_any a b w ha hb)<|jE [[],[],[],[],[],[52],[60]]) (fun _=>?_)
 refine sD Tryz.f127 [0,0,3,0,0,31,63,127,127,127,0,0,3327,7679,16383] 15 [6,10] [0,1,0,0,0,1] (fun ρ=>let qa:Value:=.bool (decide ((aQ ((a*b) / M) m)<m));[U ((a*b) / M),U m,U (aQ ((a*b) / M) m),U ((a*b)%M),U m,.tuple #[U (qQ (aQ ((a*b) / M) m) ((a*b)%M) m),U (iV (aQ ((a*b) / M) m) ((a*b)%M) m),qa],.tuple #[U (qQ (aQ ((a*b) / M) m) ((a*b)%M) m),U (iV (aQ ((a*b) / M) m) ((a*b)%M) m),qa],U (qQ (aQ ((a*b) / M) m) ((a*b)%M) m),U (iV (aQ ((a*b) / M) m) ((a*b)%M) m),qa,pt (nb ρ 10),pt (nb ρ 11),undef,undef,qa]) (fun ρ=>[(10,(nw ρ 10 (cL (cU 0) 39))),(11,(nw ρ 11 (cL (cU 0) 39))),(12,(bD 84 (nb ρ 10) (cL (cU (qQ (aQ ((a*b) / M) m) ((a*b)%M) m)) 39))),(13,(bD 92 (nb ρ 11) (cL (cU (iV (aQ ((a*b) / M) m) ((a*b)%M) m)) 39)))]) (cR [[2],[0]]<|cC (fun _ w=>yE ((a*b) / M) m w (mulhi_lt ha hb) hm)<|cR [[3],[0]]<|cC (f:=147) (args:=fun ρ=> #[U (aQ ((a*b) / M) m),U ((a*b)%M),U m]) (v:=fun ρ=>(.tuple #[U (qQ (aQ ((a*b) / M) m) ((a*b)%M) m),U (iV (aQ ((a*b) / M) m) ((a*b)%M) m),.bool (decide ((aQ ((a*b) / M) m)<m))])) (fun _ w=>(fun w=>div_any (aQ ((a*b) / M) m) ((a*b)%M) m w (pR (mulhi_lt ha hb)) (rC _) hm) w)<|jE [[],[],[],[],[],[],[84],[92],[]]) (fun _=>?_)
 refine sS Tryz.f127 2 [6] [1,0] (fun _=>[U (iV (aQ ((a*b) / M) m) ((a*b)%M) m),undef]) (fun _=>[(1,(bD 0 (nb ρ1 3) (cL (cU (iV (aQ ((a*b) / M) m) ((a*b)%M) m)) 39)))]) (jE [[1],[0]]) (fun _=>?_)
 refine aF ?_
 exact mR (v:=(U (iV (aQ ((a*b) / M) m) ((a*b)%M) m))) (fun _ hS=>⟨congrArg (fun x=>Ending.returned (U x)) (mulm_1 hb1),hS.bel⟩)
theorem mulmod_any (a b m:Nat) (w0:World) (ha:a<M) (hb:b<M) (hm:m<M):Calls Tryz.prog 127 #[U a,U b,U m] w0 (jR (U (bV a b m)) w0):=mulmod_w a b m ha hb hm w0
theorem raddmod_w (a:Nat) (b:Nat) (m:Nat) (ha:a<M) (hb:b<M) (hm:m<M) (w0:World):Calls Tryz.prog 136 #[U a,U b,U m] w0 (jR (U (bC a b m)) w0):=by
 refine Calls.of_ok (n:=38) (F:=(fun _=>True)) Tryz.func136 rfl rfl rfl (by simp) jT ?_
 refine sS Tryz.f136 4 [3,4,5,6] [] (fun ρ=>[pt (nb ρ 0),pt (nb ρ 1),pt (nb ρ 2),pt (nb ρ 3)]) (fun ρ=>[(0,(nw ρ 0 (cL (cU a) 39))),(1,(nw ρ 1 (cL (cU b) 39))),(2,(nw ρ 2 (cL (cU m) 39))),(3,(nw ρ 3 (cL (cU 0) 39)))]) (jE [[],[],[],[]]) (fun ρ1=>?_)
 refine aB ?_
 refine sS Tryz.f136 2 [3,4,5,6,10] [] (fun _=>[U m,.bool (decide (m=0))]) (fun _=>[]) (cR [[2]]<|cC (fun _ w=>iI m w hm)<|cN) (fun _=>?_)
 refine oC (decide (m=0)) (fun hb1=>?_) (fun hb1=>?_)
 ·
  rw [hb1]
  refine sS Tryz.f136 2 [3,4,5,6] [] (fun _=>[U m,undef]) (fun _=>[(1,(bD 3 (nb ρ1 3) (cL (cU m) 39)))]) (jE [[2],[3]]) (fun _=>?_)
  refine aF (aC ?_)
  exact mR (v:=(U m)) (ps:=[3,3,3,3]) (fun _ hS=>⟨congrArg (fun x=>Ending.returned (U x)) (addm_0' hb1),hS.bel⟩)
 rw [hb1]
 refine aG (aA ?_)
 refine sD Tryz.f136 [0,0,3,0,0,31,63,127] 8 [3,4,5,6] [] (fun _=>[U a,U m,U (aQ a m),U b,U m,U (aQ b m),undef,undef]) (fun _=>[(6,(bD 0 (nb ρ1 0) (cL (cU (aQ a m)) 39))),(7,(bD 1 (nb ρ1 1) (cL (cU (aQ b m)) 39)))]) (cR [[0],[2]]<|cC (fun _ w=>oM a m w ha hm)<|cR [[1],[2]]<|cC (fun _ w=>oM b m w hb hm)<|jE [[0],[1]]) (fun _=>?_)
 refine sS Tryz.f136 9 [5,6,7,8] [0,0,1,1,1] (fun ρ=>let qa:Value:=.bool (decide (M≤(aQ a m)+(aQ b m)));[U (aQ a m),U (aQ b m),.tuple #[U (((aQ a m)+(aQ b m))%M),qa],.tuple #[U (((aQ a m)+(aQ b m))%M),qa],U (((aQ a m)+(aQ b m))%M),qa,pt (nb ρ 6),undef,qa]) (fun ρ=>[(6,(nw ρ 6 (cL (cU 0) 39))),(7,(bD 52 (nb ρ 6) (cL (cU (((aQ a m)+(aQ b m))%M)) 39)))]) (cR [[0],[1]]<|cC (fun _ w=>radd_any (aQ a m) (aQ b m) w (pR ha) (pR hb))<|jE [[],[],[],[],[52],[]]) (fun ρ5=>?_)
 refine aB ?_
 rcases Bool.eq_false_or_eq_true (decide (M≤(aQ a m)+(aQ b m))) with hb2 | hb2
 ·
  rw [hb2]
  refine jJ Tryz.f136 7 [5,6,7,30] [vT,vT,undef,undef,undef,undef,vT] ?_
  refine oY ?_
  refine rS Tryz.f136 7 [6,7] [0,1,1] (fun _=>let qa:Value:=.bool (decide ((((aQ a m)+(aQ b m))%M)<m));[U (((aQ a m)+(aQ b m))%M),U m,.tuple #[U (((((aQ a m)+(aQ b m))%M)+M-m)%M),qa],.tuple #[U (((((aQ a m)+(aQ b m))%M)+M-m)%M),qa],U (((((aQ a m)+(aQ b m))%M)+M-m)%M),qa,undef]) (fun _=>[(6,(bD 2 (nb ρ5 6) (cL (cU (((((aQ a m)+(aQ b m))%M)+M-m)%M)) 39)))]) (cR [[2],[0]]<|cC (f:=148) (args:=fun ρ=> #[U (((aQ a m)+(aQ b m))%M),U m]) (v:=fun ρ=>(.tuple #[U (((((aQ a m)+(aQ b m))%M)+M-m)%M),.bool (decide ((((aQ a m)+(aQ b m))%M)<m))])) (fun _ w=>(fun w=>zQ (((aQ a m)+(aQ b m))%M) m w (rC _) hm) w)<|jE [[],[],[],[2]]) (fun _=>?_)
  refine aA ?_
  refine sS Tryz.f136 2 [6] [1,0] (fun _=>[U (((((aQ a m)+(aQ b m))%M)+M-m)%M),undef]) (fun _=>[(1,(bD 0 (nb ρ1 3) (cL (cU (((((aQ a m)+(aQ b m))%M)+M-m)%M)) 39)))]) (jE [[1],[0]]) (fun _=>?_)
  refine aF ?_
  exact mR (v:=(U (((((aQ a m)+(aQ b m))%M)+M-m)%M))) (fun _ hS=>⟨congrArg (fun x=>Ending.returned (U x)) (addm_2 hm hb1 hb2),hS.bel⟩)
 rw [hb2]
 refine sS Tryz.f136 7 [5,6,7,30] [] (fun _=>let qa:Value:=.bool (decide (0≤(fJ (((aQ a m)+(aQ b m))%M) m)));[vF,vF,U (((aQ a m)+(aQ b m))%M),U m,vi (fJ (((aQ a m)+(aQ b m))%M) m),qa,qa]) (fun _=>[]) (cR [[],[],[2],[0]]<|cC (f:=128) (args:=fun ρ=> #[U (((aQ a m)+(aQ b m))%M),U m]) (v:=fun ρ=>(vi (fJ (((aQ a m)+(aQ b m))%M) m))) (fun _ w=>(fun w=>qE (((aQ a m)+(aQ b m))%M) m w (rC _) hm) w)<|jE [[],[]]) (fun _=>?_)
 refine oC (decide (0≤(fJ (((aQ a m)+(aQ b m))%M) m))) (fun hb3=>?_) (fun hb3=>?_)
 ·
  rw [hb3]
  refine rS Tryz.f136 7 [6,7] [0,1,1] (fun _=>let qa:Value:=.bool (decide ((((aQ a m)+(aQ b m))%M)<m));[U (((aQ a m)+(aQ b m))%M),U m,.tuple #[U (((((aQ a m)+(aQ b m))%M)+M-m)%M),qa],.tuple #[U (((((aQ a m)+(aQ b m))%M)+M-m)%M),qa],U (((((aQ a m)+(aQ b m))%M)+M-m)%M),qa,undef]) (fun _=>[(6,(bD 2 (nb ρ5 6) (cL (cU (((((aQ a m)+(aQ b m))%M)+M-m)%M)) 39)))]) (cR [[2],[0]]<|cC (f:=148) (args:=fun ρ=> #[U (((aQ a m)+(aQ b m))%M),U m]) (v:=fun ρ=>(.tuple #[U (((((aQ a m)+(aQ b m))%M)+M-m)%M),.bool (decide ((((aQ a m)+(aQ b m))%M)<m))])) (fun _ w=>(fun w=>zQ (((aQ a m)+(aQ b m))%M) m w (rC _) hm) w)<|jE [[],[],[],[2]]) (fun _=>?_)
  refine aA ?_
  refine sS Tryz.f136 2 [6] [1,0] (fun _=>[U (((((aQ a m)+(aQ b m))%M)+M-m)%M),undef]) (fun _=>[(1,(bD 0 (nb ρ1 3) (cL (cU (((((aQ a m)+(aQ b m))%M)+M-m)%M)) 39)))]) (jE [[1],[0]]) (fun _=>?_)
  refine aF ?_
  exact mR (v:=(U (((((aQ a m)+(aQ b m))%M)+M-m)%M))) (fun _ hS=>⟨congrArg (fun x=>Ending.returned (U x)) (addm_3t hm hb1 hb2 hb3),hS.bel⟩)
 rw [hb3]
 refine aG (aA ?_)
 refine sS Tryz.f136 2 [6] [0,1,0] (fun _=>[U (((aQ a m)+(aQ b m))%M),undef]) (fun _=>[(1,(bD 1 (nb ρ1 3) (cL (cU (((aQ a m)+(aQ b m))%M)) 39)))]) (jE [[2],[1]]) (fun _=>?_)
 refine aF ?_
 exact mR (v:=(U (((aQ a m)+(aQ b m))%M))) (fun _ hS=>⟨congrArg (fun x=>Ending.returned (U x)) (addm_3f hm hb1 hb2 hb3),hS.bel⟩)
theorem raddmod_any (a b m:Nat) (w0:World) (ha:a<M) (hb:b<M) (hm:m<M):Calls Tryz.prog 136 #[U a,U b,U m] w0 (jR (U (bC a b m)) w0):=raddmod_w a b m ha hb hm w0
theorem rmulmod_w (a:Nat) (b:Nat) (m:Nat) (ha:a<M) (hb:b<M) (hm:m<M) (w0:World):Calls Tryz.prog 138 #[U a,U b,U m] w0 (jR (U (bV a b m)) w0):=by
 refine Calls.of_ok (n:=34) (F:=(fun _=>True)) Tryz.func138 rfl rfl rfl (by simp) jT ?_
 refine sS Tryz.f138 4 [3,4,5,6] [] (fun ρ=>[pt (nb ρ 0),pt (nb ρ 1),pt (nb ρ 2),pt (nb ρ 3)]) (fun ρ=>[(0,(nw ρ 0 (cL (cU a) 39))),(1,(nw ρ 1 (cL (cU b) 39))),(2,(nw ρ 2 (cL (cU m) 39))),(3,(nw ρ 3 (cL (cU 0) 39)))]) (jE [[],[],[],[]]) (fun ρ1=>?_)
 refine aB ?_
 refine sS Tryz.f138 2 [3,4,5,6,13] [] (fun _=>[U m,.bool (decide (m=0))]) (fun _=>[]) (cR [[2]]<|cC (fun _ w=>iI m w hm)<|cN) (fun _=>?_)
 refine oC (decide (m=0)) (fun hb1=>?_) (fun hb1=>?_)
 ·
  rw [hb1]
  refine sS Tryz.f138 2 [3,4,5,6] [] (fun _=>[U m,undef]) (fun _=>[(1,(bD 3 (nb ρ1 3) (cL (cU m) 39)))]) (jE [[2],[3]]) (fun _=>?_)
  refine aF (aC ?_)
  exact mR (v:=(U m)) (ps:=[3,3,3,3]) (fun _ hS=>⟨congrArg (fun x=>Ending.returned (U x)) (mulm_0' hb1),hS.bel⟩)
 rw [hb1]
 refine aG (aA ?_)
 refine sD Tryz.f138 [0,0,3,0,0,31,63,127,255,255,0,0,3583,8191] 14 [5,6,7,8] [0,0,1,1,1,1] (fun ρ=>[U a,U m,U (aQ a m),U b,U m,U (aQ b m),.tuple #[U (((aQ a m)*(aQ b m)) / M),U (((aQ a m)*(aQ b m))%M)],.tuple #[U (((aQ a m)*(aQ b m)) / M),U (((aQ a m)*(aQ b m))%M)],U (((aQ a m)*(aQ b m)) / M),U (((aQ a m)*(aQ b m))%M),pt (nb ρ 10),pt (nb ρ 11),undef,undef]) (fun ρ=>[(10,(nw ρ 10 (cL (cU 0) 39))),(11,(nw ρ 11 (cL (cU 0) 39))),(12,(bD 84 (nb ρ 10) (cL (cU (((aQ a m)*(aQ b m)) / M)) 39))),(13,(bD 92 (nb ρ 11) (cL (cU (((aQ a m)*(aQ b m))%M)) 39)))]) (cR [[0],[2]]<|cC (fun _ w=>oM a m w ha hm)<|cR [[1],[2]]<|cC (fun _ w=>oM b m w hb hm)<|cC (fun _ w=>rmul_any (aQ a m) (aQ b m) w (pR ha) (pR hb))<|jE [[],[],[],[],[],[84],[92]]) (fun _=>?_)
 refine sS Tryz.f138 13 [6,10] [0,1,0,0,0,1] (fun ρ=>let qa:Value:=.bool (decide ((((aQ a m)*(aQ b m)) / M)<m));[U (((aQ a m)*(aQ b m)) / M),U (((aQ a m)*(aQ b m))%M),U m,.tuple #[U (qQ (((aQ a m)*(aQ b m)) / M) (((aQ a m)*(aQ b m))%M) m),U (iV (((aQ a m)*(aQ b m)) / M) (((aQ a m)*(aQ b m))%M) m),qa],.tuple #[U (qQ (((aQ a m)*(aQ b m)) / M) (((aQ a m)*(aQ b m))%M) m),U (iV (((aQ a m)*(aQ b m)) / M) (((aQ a m)*(aQ b m))%M) m),qa],U (qQ (((aQ a m)*(aQ b m)) / M) (((aQ a m)*(aQ b m))%M) m),U (iV (((aQ a m)*(aQ b m)) / M) (((aQ a m)*(aQ b m))%M) m),qa,pt (nb ρ 8),pt (nb ρ 9),undef,undef,qa]) (fun ρ=>[(8,(nw ρ 8 (cL (cU 0) 39))),(9,(nw ρ 9 (cL (cU 0) 39))),(10,(bD 68 (nb ρ 8) (cL (cU (qQ (((aQ a m)*(aQ b m)) / M) (((aQ a m)*(aQ b m))%M) m)) 39))),(11,(bD 76 (nb ρ 9) (cL (cU (iV (((aQ a m)*(aQ b m)) / M) (((aQ a m)*(aQ b m))%M) m)) 39)))]) (cR [[2],[3],[0]]<|cC (f:=157) (args:=fun ρ=> #[U (((aQ a m)*(aQ b m)) / M),U (((aQ a m)*(aQ b m))%M),U m]) (v:=fun ρ=>(.tuple #[U (qQ (((aQ a m)*(aQ b m)) / M) (((aQ a m)*(aQ b m))%M) m),U (iV (((aQ a m)*(aQ b m)) / M) (((aQ a m)*(aQ b m))%M) m),.bool (decide ((((aQ a m)*(aQ b m)) / M)<m))])) (fun _ w=>(fun w=>rdiv_any (((aQ a m)*(aQ b m)) / M) (((aQ a m)*(aQ b m))%M) m w (mulhi_lt (pR ha) (pR hb)) (rC _) hm) w)<|jE [[],[],[],[],[],[],[68],[76],[]]) (fun _=>?_)
 refine sS Tryz.f138 2 [6] [1,0] (fun _=>[U (iV (((aQ a m)*(aQ b m)) / M) (((aQ a m)*(aQ b m))%M) m),undef]) (fun _=>[(1,(bD 0 (nb ρ1 3) (cL (cU (iV (((aQ a m)*(aQ b m)) / M) (((aQ a m)*(aQ b m))%M) m)) 39)))]) (jE [[1],[0]]) (fun _=>?_)
 refine aF ?_
 exact mR (v:=(U (iV (((aQ a m)*(aQ b m)) / M) (((aQ a m)*(aQ b m))%M) m))) (fun _ hS=>⟨congrArg (fun x=>Ending.returned (U x)) (mulm_2 hm hb1),hS.bel⟩)
theorem vU (a b m:Nat) (w0:World) (ha:a<M) (hb:b<M) (hm:m<M):Calls Tryz.prog 138 #[U a,U b,U m] w0 (jR (U (bV a b m)) w0):=rmulmod_w a b m ha hb hm w0
theorem rshr_neg (a:Nat) (n:Int) (hn:n≤0) (w0:World):Calls Tryz.prog 150 #[U a,vi n] w0 (jR (U a) w0):=by
 refine Calls.of_ok (n:=34) (F:=(fun _=>True)) Tryz.func150 rfl rfl rfl (by simp) jT ?_
 have hk0:decide (n≤0)=true:=decide_eq_true hn
 refine sS Tryz.f150 2 [1,2,4] [] (fun ρ=>[pt (nb ρ 0),pt (nb ρ 1)]) (fun ρ=>[(0,(nw ρ 0 (cL (cU a) 39))),(1,(nw ρ 1 (cL (cU 0) 39)))]) (jE [[],[]]) (fun ρ1=>?_)
 refine aB ?_
 refine sS Tryz.f150 2 [1,2,4,8] [] (fun _=>[vi n,vT]) (fun _=>[]) (cR [[]]<|cA (fun _=>vT) (fun _=>congrArg Value.bool hk0)<|cN) (fun _=>?_)
 refine oY ?_
 refine sS Tryz.f150 2 [1,2,4] [] (fun _=>[U a,undef]) (fun _=>[(1,(bD 1 (nb ρ1 1) (cL (cU a) 39)))]) (jE [[0],[1]]) (fun _=>?_)
 refine aF (aC ?_)
 exact mR (v:=(U a)) (ps:=[1,1,1,1]) (fun _ hS=>⟨rfl,hS.bel⟩)
theorem rshr_big (a:Nat) (n:Int) (hn:256≤n) (w0:World):Calls Tryz.prog 150 #[U a,vi n] w0 (jR (U 0) w0):=by
 refine Calls.of_ok (n:=34) (F:=(fun _=>True)) Tryz.func150 rfl rfl rfl (by simp) jT ?_
 have hk0:decide (n≤0)=false:=decide_eq_false (by omega)
 have hk1:decide (256≤n)=true:=decide_eq_true hn
 refine sS Tryz.f150 2 [1,2,4] [] (fun ρ=>[pt (nb ρ 0),pt (nb ρ 1)]) (fun ρ=>[(0,(nw ρ 0 (cL (cU a) 39))),(1,(nw ρ 1 (cL (cU 0) 39)))]) (jE [[],[]]) (fun ρ1=>?_)
 refine aB ?_
 refine sS Tryz.f150 2 [1,2,4,8] [] (fun _=>[vi n,vF]) (fun _=>[]) (cR [[]]<|cA (fun _=>vF) (fun _=>congrArg Value.bool hk0)<|cN) (fun _=>?_)
 refine oN ?_
 refine aG (aA (aB ?_))
 refine sS Tryz.f150 2 [1,2,4,11] [] (fun _=>[vi n,vT]) (fun _=>[]) (cR [[]]<|cA (fun _=>vT) (fun _=>congrArg Value.bool hk1)<|cN) (fun _=>?_)
 refine oY ?_
 refine sS Tryz.f150 2 [1,2,4] [] (fun _=>[U 0,undef]) (fun _=>[(1,(bD 1 (nb ρ1 1) (cL (cU 0) 39)))]) (jE [[],[1]]) (fun _=>?_)
 refine aF (aC ?_)
 exact mR (v:=(U 0)) (ps:=[1,1,1,1]) (fun _ hS=>⟨rfl,hS.bel⟩)
theorem run_shl1 {P:Program} {t:TypeId} (k:Nat) (h:k<64) (w:World):(binOp .shl t (.int .u64 1) (.int .i64 (k:Int))).run P w=.ok (.int .u64 (2^k)) w:=by
  rw [run_shl]
  unfold shlW
  rw [Nat.min_eq_left (by omega),Int.one_mul,x8 k h]
theorem rshr_mid (a:Nat) (m:Nat) (ha:a<M) (_h0:0<m) (_hm:m<256) (w0:World):Calls Tryz.prog 150 #[U a,vn m] w0 (jR (U (a / 2^m)) w0):=by
 refine Calls.of_ok (n:=34) (F:=(fun _=>True)) Tryz.func150 rfl rfl rfl (by simp) jT ?_
 have hk0:decide (((m:Nat):Int)≤0)=false:=decide_eq_false (by omega)
 have hk1:decide (256≤((m:Nat):Int))=false:=decide_eq_false (by omega)
 refine sS Tryz.f150 2 [1,2,4] [] (fun ρ=>[pt (nb ρ 0),pt (nb ρ 1)]) (fun ρ=>[(0,(nw ρ 0 (cL (cU a) 39))),(1,(nw ρ 1 (cL (cU 0) 39)))]) (jE [[],[]]) (fun ρ1=>?_)
 refine aB ?_
 refine sS Tryz.f150 2 [1,2,4,8] [] (fun _=>[vn m,vF]) (fun _=>[]) (cR [[]]<|cA (fun _=>vF) (fun _=>congrArg Value.bool hk0)<|cN) (fun _=>?_)
 refine oN ?_
 refine aG (aA (aB ?_))
 refine sS Tryz.f150 2 [1,2,4,11] [] (fun _=>[vn m,vF]) (fun _=>[]) (cR [[]]<|cA (fun _=>vF) (fun _=>congrArg Value.bool hk1)<|cN) (fun _=>?_)
 refine oN ?_
 refine aG (aA ?_)
 refine sS Tryz.f150 1 [1,2,4,5] [] (fun ρ=>[pt (nb ρ 0)]) (fun ρ=>[(0,(nw ρ 0 (cL (cU 0) 39)))]) (jE [[]]) (fun ρ4=>?_)
 refine aB (jJ Tryz.f150 1 [1,2,4,5,6] [vi 0] (aI ?_))
 refine oL (σ:=Nat × Nat) (fun ⟨i,_⟩=>[(1,(vn m)),(2,(pt (nb ρ1 0))),(4,(pt (nb ρ1 1))),(5,(pt (nb ρ4 0))),(6,(vn i))]) (fun ⟨_,b⟩=>[(nb ρ1 0,(cL (cU a) 39)),(nb ρ1 1,(cL (cU 0) 39)),(nb ρ4 0,(cL (cU b) 39))]) (fun ⟨i,_⟩=>256-i)
   (fun ⟨i,b⟩=>(i+m≤256)∧(b=a / 2^m%2^i)) (0,0) (⟨by omega,by simp [Nat.mod_one]⟩) [] ?_
 rintro ⟨i,b⟩ ⟨hi,hb⟩
 change Ok Tryz.prog _ _ 34 [(1,(vn m)),(2,(pt (nb ρ1 0))),(4,(pt (nb ρ1 1))),(5,(pt (nb ρ4 0))),(6,(vn i))] _ [(nb ρ1 0,(cL (cU a) 39)),(nb ρ1 1,(cL (cU 0) 39)),(nb ρ4 0,(cL (cU b) 39))] (fun _=>True)
 refine aB ?_
 refine sS Tryz.f150 4 [1,2,4,5,6,16] [] (fun _=>[vn i,vn m,vn (i+m),.bool (decide (((i+m:Nat):Int)<256))]) (fun _=>[]) (cR [[],[]]<|jW (fun ρ=>(((i:Nat):Int)+((m:Nat):Int))) (fun _=>(i+m)) (fun _=>(dX i m (by omega)))<|jE [[]]) (fun _=>?_)
 refine oC (decide (((i+m:Nat):Int)<256)) (fun hb1=>?_) (fun hb1=>?_)
 ·
  rw [hb1]
  have:=yT hb1
  refine aG (aA (aB (aI ?_)))
  refine sS Tryz.f150 5 [1,2,4,5,6,23] [] (fun _=>[U a,vn i,vn m,vn (i+m),.bool (nJ a (i+m))]) (fun _=>[]) (cR [[0],[],[]]<|jW (fun ρ=>(((i:Nat):Int)+((m:Nat):Int))) (fun _=>(i+m)) (fun _=>(dX i m (by omega)))<|cC (fun _ w=>rW a (i+m) w (by omega))<|cN) (fun _=>?_)
  refine oC (nJ a (i+m)) (fun hb2=>?_) (fun hb2=>?_)
  ·
   rw [hb2]
   refine rD Tryz.f150 [0,1,3,7,0,16,48,127,255,511] 10 [1,2,4,5,6] [] (fun _=>[vn i,vn (i / 64),jp (nb ρ4 0) (i / 64),.int .u64 (wd b (i / 64)),vn i,vn (i%64),.int .u64 ((2:Int)^(i%64)),.int .u64 (bits .or .u64 (wd b (i / 64)) ((2:Int)^(i%64))),jp (nb ρ4 0) (i / 64),undef]) (fun _=>[(9,(bD 2 (nb ρ4 0) (cL (cU (b+2^(64*(i / 64)+i%64))) 39)))]) (cR [[]]<|cB (a:=fun ρ=>(vn i)) (b:=fun ρ=>(vi 64)) (v:=fun ρ=>(vn (i / 64))) .quo 3 (fun _ w=>run_quo_nat i 64 (i / 64) (by decide) (by omega) rfl w)<|cX (jS (fun _=>Instr.indexAt 39 (pt (nb ρ4 0)) (vn (i / 64))) (fun _=>(jp (nb ρ4 0) (i / 64))) (fun _ w=>aX (n:=((i / 64:Nat):Int)) (i:=i / 64) Tryz.underlying39 Tryz.sizeOf37 (⟨rfl,by omega⟩) w))<|cX (kG _ 2 37 (fun _=>nb ρ4 0) (fun _=>i / 64) (fun _=>(cU b)) 39 (0,0) (fun _=>(.int .u64 (wd b (i / 64)))) (fun _=>by kernel_rfl) Tryz.isAgg37 (fun _=>lL b (i / 64) (by omega)))<|cR [[]]<|cB (a:=fun ρ=>(vn i)) (b:=fun ρ=>(vi 64)) (v:=fun ρ=>(vn (i%64))) .rem 3 (fun _ w=>run_rem_nat i 64 (i%64) (by decide) rfl w)<|cB (a:=fun ρ=>(.int .u64 1)) (b:=fun ρ=>(vn (i%64))) (v:=fun ρ=>(.int .u64 ((2:Int)^(i%64)))) .shl 37 (fun _ w=>run_shl1 (i%64) (by omega) w)<|cR [[]]<|cX (jS (fun _=>Instr.indexAt 39 (pt (nb ρ4 0)) (vn (i / 64))) (fun _=>(jp (nb ρ4 0) (i / 64))) (fun _ w=>aX (n:=((i / 64:Nat):Int)) (i:=i / 64) Tryz.underlying39 Tryz.sizeOf37 (⟨rfl,by omega⟩) w))<|cX (qG _ 2 37 (fun _=>nb ρ4 0) (fun _=>i / 64) (fun _=>(cU b)) (fun _=>(cU (b+2^(64*(i / 64)+i%64)))) 39 (fun _=>(.int .u64 (bits .or .u64 (wd b (i / 64)) ((2:Int)^(i%64))))) (fun _=>by kernel_rfl) Tryz.sizeOf37 (fun _=>rfl) (fun _=>(show _<4 from by omega)) (fun _=>setlow_row b (i / 64) (i%64) (by omega) (by omega) (by rw [hb,show 64*(i / 64)+i%64=i by omega];exact Nat.mod_lt _ (Nat.pow_pos (by decide)))))<|cN) (fun _=>?_)
   refine aJ (aA ?_)
   refine rS Tryz.f150 3 [1,2,4,5,6] [] (fun _=>[vn i,vn (i+1),vn (i+1)]) (fun _=>[]) (cR [[]]<|jW (fun ρ=>(((i:Nat):Int)+1)) (fun _=>(i+1)) (fun _=>(dX i 1 (by omega)))<|jE [[]]) (fun _=>?_)
   exact mN (i+1,b+2^(64*(i / 64)+i%64)) (by show 256-(i+1)<256-i;omega) (⟨by omega,by rw [low_next,hb];have h2:=hb2;unfold nJ at h2;rw [shr_bit] at h2;rw [if_pos (yT h2),show 64*(i / 64)+i%64=i by omega]⟩) []
  rw [hb2]
  refine aG (aJ (aA ?_))
  refine rS Tryz.f150 3 [1,2,4,5,6] [] (fun _=>[vn i,vn (i+1),vn (i+1)]) (fun _=>[]) (cR [[]]<|jW (fun ρ=>(((i:Nat):Int)+1)) (fun _=>(i+1)) (fun _=>(dX i 1 (by omega)))<|jE [[]]) (fun _=>?_)
  exact mN (i+1,b) (by show 256-(i+1)<256-i;omega) (⟨by omega,by rw [low_next,hb];have h2:=hb2;unfold nJ at h2;rw [shr_bit] at h2;rw [if_neg (yF h2),Nat.add_zero]⟩) []
 rw [hb1]
 refine bF (aN (aN (aT (aA ?_))))
 refine sS Tryz.f150 2 [4] [0,1,0] (fun _=>[U b,undef]) (fun _=>[(1,(bD 1 (nb ρ1 1) (cL (cU b) 39)))]) (jE [[2],[1]]) (fun _=>?_)
 refine aF ?_
 exact mR (v:=(U b)) (fun _ hS=>⟨congrArg (fun x=>Ending.returned (U x)) (by rw [hb];exact shr_all ha (by have:=yF hb1;omega)),hS.bel⟩)
theorem rshr_any (a:Nat) (n:Int) (w0:World) (ha:a<M):Calls Tryz.prog 150 #[U a,.int .i64 n] w0 (jR (U (shrZ a n)) w0):=by
  unfold shrZ
  by_cases h0:n<0
  · rw [if_pos h0];exact rshr_neg a n (by omega) w0
  · rw [if_neg h0]
    by_cases h1:256≤n
    · rw [shrN_big ha (by omega)];exact rshr_big a n h1 w0
    · obtain ⟨k, rfl⟩ := Int.eq_ofNat_of_zero_le (by omega : 0 ≤ n)
      rw [Int.toNat_natCast]
      by_cases hk:k=0
      · subst hk;rw [Nat.pow_zero,Nat.div_one];exact rshr_neg a _ (by omega) w0
      · exact rshr_mid a k ha (by omega) (by omega) w0
theorem rexpmod_w (a:Nat) (e:Nat) (m:Nat) (ha:a<M) (he:e<M) (hm:m<M) (w0:World):Calls Tryz.prog 149 #[U a,U e,U m] w0 (jR (U (bK a e m)) w0):=by
 refine Calls.of_ok (n:=34) (F:=(fun _=>True)) Tryz.func149 rfl rfl rfl (by simp) jT ?_
 refine sS Tryz.f149 4 [3,4,5,6] [] (fun ρ=>[pt (nb ρ 0),pt (nb ρ 1),pt (nb ρ 2),pt (nb ρ 3)]) (fun ρ=>[(0,(nw ρ 0 (cL (cU a) 39))),(1,(nw ρ 1 (cL (cU e) 39))),(2,(nw ρ 2 (cL (cU m) 39))),(3,(nw ρ 3 (cL (cU 0) 39)))]) (jE [[],[],[],[]]) (fun ρ1=>?_)
 refine aB ?_
 refine sS Tryz.f149 2 [3,4,5,6,10] [] (fun _=>[U m,.bool (decide (m=0))]) (fun _=>[]) (cR [[2]]<|cC (fun _ w=>iI m w hm)<|cN) (fun _=>?_)
 refine oC (decide (m=0)) (fun hb1=>?_) (fun hb1=>?_)
 ·
  rw [hb1]
  refine sS Tryz.f149 2 [3,4,5,6] [] (fun _=>[U m,undef]) (fun _=>[(1,(bD 3 (nb ρ1 3) (cL (cU m) 39)))]) (jE [[2],[3]]) (fun _=>?_)
  refine aF (aC ?_)
  exact mR (v:=(U m)) (ps:=[3,3,3,3]) (fun _ hS=>⟨congrArg (fun x=>Ending.returned (U x)) (expm_0' hb1),hS.bel⟩)
 rw [hb1]
 refine aG (aA ?_)
 refine sD Tryz.f149 [0,0,3,0,15] 5 [3,4,5,6,7] [] (fun ρ=>[U 1,U m,U (aQ 1 m),pt (nb ρ 3),undef]) (fun ρ=>[(3,(nw ρ 3 (cL (cU 0) 39))),(4,(bD 28 (nb ρ 3) (cL (cU (aQ 1 m)) 39)))]) (cC (fun _ w=>iE 1 w (by decide))<|cR [[2]]<|cC (fun _ w=>oM 1 m w (by decide +kernel) hm)<|jE [[],[28]]) (fun ρ4=>?_)
 refine aB ?_
 refine sS Tryz.f149 4 [3,4,5,6,7,8] [] (fun _=>let qa:=vi (((dG e:Nat):Int)-1);[U e,vn (dG e),qa,qa]) (fun _=>[]) (cR [[1]]<|cC (fun _ w=>rlen_any e w he)<|jU (fun ρ=>(((dG e:Nat):Int)-1)) (fun _=>(((dG e:Nat):Int)-1)) (fun _=>(wrap_pred (by have:=iJ e he;omega)))<|jE [[]]) (fun _=>?_)
 refine aI ?_
 refine oL (σ:=Nat × Nat) (fun ⟨k,_⟩=>[(3,(pt (nb ρ1 0))),(4,(pt (nb ρ1 1))),(5,(pt (nb ρ1 2))),(6,(pt (nb ρ1 3))),(7,(pt (nb ρ4 3))),(8,(vi (((k:Nat):Int)-1)))]) (fun ⟨_,p⟩=>[(nb ρ1 0,(cL (cU a) 39)),(nb ρ1 1,(cL (cU e) 39)),(nb ρ1 2,(cL (cU m) 39)),(nb ρ1 3,(cL (cU 0) 39)),(nb ρ4 3,(cL (cU p) 39))]) (fun ⟨k,_⟩=>k)
   (fun ⟨k,p⟩=>(k≤256)∧(p=a^(e / 2^k)%m)) (dG e,aQ 1 m) (⟨iJ e he,exp_start hb1⟩) [] ?_
 rintro ⟨k,p⟩ ⟨hk,hp⟩
 change Ok Tryz.prog _ _ 34 [(3,(pt (nb ρ1 0))),(4,(pt (nb ρ1 1))),(5,(pt (nb ρ1 2))),(6,(pt (nb ρ1 3))),(7,(pt (nb ρ4 3))),(8,(vi (((k:Nat):Int)-1)))] _ [(nb ρ1 0,(cL (cU a) 39)),(nb ρ1 1,(cL (cU e) 39)),(nb ρ1 2,(cL (cU m) 39)),(nb ρ1 3,(cL (cU 0) 39)),(nb ρ4 3,(cL (cU p) 39))] (fun _=>True)
 have hpM:p<M:=exp_lt hm hb1 hp
 refine aB (jJ Tryz.f149 2 [3,4,5,6,7,8,19] [vi (((k:Nat):Int)-1),.bool (decide (0≤(((k:Nat):Int)-1)))] ?_)
 refine oC (decide (0≤(((k:Nat):Int)-1))) (fun hb2=>?_) (fun hb2=>?_)
 ·
  rw [hb2]
  refine aG (aA (aB (aI ?_)))
  refine sS Tryz.f149 5 [3,4,5,6,7,8] [] (fun _=>[U p,U p,U m,U (bV p p m),undef]) (fun _=>[(4,(bD 4 (nb ρ4 3) (cL (cU (bV p p m)) 39)))]) (cR [[4],[4],[2]]<|cC (fun _ w=>vU p p m w hpM hpM hm)<|jE [[4]]) (fun _=>?_)
  refine sS Tryz.f149 3 [3,4,5,6,7,8,28] [] (fun _=>[U e,vi (((k:Nat):Int)-1),.bool (nJ e (k-1))]) (fun _=>[]) (cR [[1],[]]<|cC (f:=164) (args:=fun ρ=> #[U e,vi (((k:Nat):Int)-1)]) (v:=fun ρ=>(.bool (nJ e (k-1)))) (fun _ w=>(fun w=>rbit_at e (k-1) _ (by have h1:=yT hb2;omega) w (by have h1:=yT hb2;omega)) w)<|cN) (fun _=>?_)
  refine oC (nJ e (k-1)) (fun hb3=>?_) (fun hb3=>?_)
  ·
   rw [hb3]
   refine rS Tryz.f149 5 [3,4,5,6,7,8] [] (fun _=>[U (bV p p m),U a,U m,U (bV (bV p p m) a m),undef]) (fun _=>[(4,(bD 4 (nb ρ4 3) (cL (cU (bV (bV p p m) a m)) 39)))]) (cR [[4],[0],[2]]<|cC (f:=138) (args:=fun ρ=> #[U (bV p p m),U a,U m]) (v:=fun ρ=>(U (bV (bV p p m) a m))) (fun _ w=>(fun w=>vU (bV p p m) a m w (wE _ _ hm) ha hm) w)<|jE [[4]]) (fun _=>?_)
   refine aJ (aA ?_)
   refine rS Tryz.f149 3 [3,4,5,6,7,8] [] (fun _=>let qa:=vi (((k-1:Nat):Int)-1);[vi (((k:Nat):Int)-1),qa,qa]) (fun _=>[]) (cR [[]]<|jU (fun ρ=>((((k:Nat):Int)-1)-1)) (fun _=>(((k-1:Nat):Int)-1)) (fun _=>(wrap_down (by have h1:=yT hb2;omega) (by omega)))<|jE [[]]) (fun _=>?_)
   exact mN (k-1,bV (bV p p m) a m) (by show k-1<k;have h1:=yT hb2;omega) (⟨by omega,by rw [exp_step1 hp (jH (a:=0) hb1).2.1,half_odd (by have h1:=yT hb2;omega) hb3]⟩) []
  rw [hb3]
  refine aG (aJ (aA ?_))
  refine rS Tryz.f149 3 [3,4,5,6,7,8] [] (fun _=>let qa:=vi (((k-1:Nat):Int)-1);[vi (((k:Nat):Int)-1),qa,qa]) (fun _=>[]) (cR [[]]<|jU (fun ρ=>((((k:Nat):Int)-1)-1)) (fun _=>(((k-1:Nat):Int)-1)) (fun _=>(wrap_down (by have h1:=yT hb2;omega) (by omega)))<|jE [[]]) (fun _=>?_)
  exact mN (k-1,bV p p m) (by show k-1<k;have h1:=yT hb2;omega) (⟨by omega,by rw [exp_step hp (jH (a:=0) hb1).2.1,half_even (by have h1:=yT hb2;omega) hb3]⟩) []
 rw [hb2]
 refine bF (aN (aN (aT (aA ?_))))
 refine sS Tryz.f149 2 [6] [0,0,0,1,0] (fun _=>[U p,undef]) (fun _=>[(1,(bD 3 (nb ρ1 3) (cL (cU p) 39)))]) (jE [[4],[3]]) (fun _=>?_)
 refine aF ?_
 exact mR (v:=(U p)) (fun _ hS=>⟨congrArg (fun x=>Ending.returned (U x)) (exp_end (k:=k) hb1 (by have h1:=yF hb2;omega) hp),hS.bel⟩)
theorem rexpmod_any (a e m:Nat) (w0:World) (ha:a<M) (he:e<M) (hm:m<M):Calls Tryz.prog 149 #[U a,U e,U m] w0 (jR (U (bK a e m)) w0):=rexpmod_w a e m ha he hm w0
theorem qX {A k:Nat} {C:Array Value} {v:Int} (hC:C.size=32) (hk:k<32) (hj:∀ j,j<k→C[j]? = some (.int .u8 (nR A j))) (hv:v=nR A k) :
    (C.setIfInBounds k (.int .u8 v)).size=32∧∀ j,j<k+1→(C.setIfInBounds k (.int .u8 v))[j]? = some (.int .u8 (nR A j)):=by
  refine ⟨by simpa using hC,fun j h=>?_⟩
  by_cases e:j=k
  · subst e;rw [hv];simp [hC,hk]
  · rw [Array.getElem?_setIfInBounds_ne (fun x=>e x.symm)];exact hj j (by omega)
theorem nV {C:Array Value} (h:C.size=32):(Tryz.prog.info? 43).map (·.size)=some C.size:=by rw [h];kernel_rfl
set_option maxHeartbeats 1000000 in
set_option maxRecDepth 100000 in
theorem pW (A : Nat) (w : World) :
    Calls Tryz.prog 79 #[U A] w fun e w'=>e=.returned (.agg (hB A))∧Below w.heap.size w w':=by
  go_enter Tryz.func79,Tryz.ntmps79
  go_wp2
  obtain ⟨Z,hZ⟩:∃ Z:Array Value,Z= #[.int .u8 0,.int .u8 0,.int .u8 0,.int .u8 0,.int .u8 0,.int .u8 0,.int .u8 0,.int .u8 0,.int .u8 0,.int .u8 0,.int .u8 0,.int .u8 0,.int .u8 0,.int .u8 0,.int .u8 0,.int .u8 0,.int .u8 0,.int .u8 0,.int .u8 0,.int .u8 0,.int .u8 0,.int .u8 0,.int .u8 0,.int .u8 0,.int .u8 0,.int .u8 0,.int .u8 0,.int .u8 0,.int .u8 0,.int .u8 0,.int .u8 0,.int .u8 0]:=⟨_,rfl⟩
  rw [← hZ]
  have hz:Z.size=32:=by rw [hZ];rfl
  clear hZ
  go_loopw [5] (fun i wr=>∃ (k:Nat) (C:Array Value),k≤32∧i=.int .i64 k∧C.size=32∧(∀ j,j<k→C[j]? = some (.int .u8 (nR A j)))∧wr=((w.alloc (.cells #[.int .u64 (wd A 0),.int .u64 (wd A 1),.int .u64 (wd A 2),.int .u64 (wd A 3)] 39)).alloc (.cells Z 43)).alloc (.cells C 43)) (fun i _=>32-(intOf i).toNat)
  case atStart=>exact ⟨0,Z,by omega,rfl,hz,fun j hj=>by omega,rfl⟩
  case round =>
    obtain ⟨k,C,hk,rfl,hC,hj,rfl⟩:=hrel
    have HC:=Lib.hid hC;have HJ:=Lib.hid hj;have HZ:=Lib.hid hz
    clear hC hj hz
    by_cases hlt:k<32
    · have hC2 : k < C.size := by have := HC.out; omega
      rcases (by omega:(k:Int) / 8=0∨(k:Int) / 8=1∨(k:Int) / 8=2∨(k:Int) / 8=3) with h8 | h8 | h8 | h8
      all_goals
        go_wp2
        go_roundw
        case rel =>
          first | (obtain ⟨g1,g2⟩:=qX HC.out hlt HJ.out (byt_wd A 3 k hlt (by omega));exact ⟨k+1,_,by omega,by go_num,g1,g2,rfl⟩) | (obtain ⟨g1,g2⟩:=qX HC.out hlt HJ.out (byt_wd A 2 k hlt (by omega));exact ⟨k+1,_,by omega,by go_num,g1,g2,rfl⟩) | (obtain ⟨g1,g2⟩:=qX HC.out hlt HJ.out (byt_wd A 1 k hlt (by omega));exact ⟨k+1,_,by omega,by go_num,g1,g2,rfl⟩) | (obtain ⟨g1,g2⟩:=qX HC.out hlt HJ.out (byt_wd A 0 k hlt (by omega));exact ⟨k+1,_,by omega,by go_num,g1,g2,rfl⟩)
        case measure=>simp [intOf];omega
    · go_wp2_with (first | (refine wl_load (w.heap.size + 1 + 1) 43 C _ rfl (hp_3_2 _ _ _ _) Tryz.underlying43 rfl (nV HC.out) ?_) | (refine wl_store (w.heap.size + 1) 43 Z C rfl rfl (hp_3_1 _ _ _ _) (nV HC.out) (HZ.out.trans HC.out.symm) (by rw [hB_ext HC.out (fun j h => HJ.out j (by omega))]; exact hB_one A) ?_))
      rw [sr_3_1]
      refine bodyPost_ret (results_cell_row rfl _ _ (w.heap.size+1) 43 C (0,0) _ rfl (hp_3_1 _ _ _ _) Tryz.underlying43 rfl (nV HC.out)) rfl ?_
      refine ⟨by rw [hB_ext HC.out (fun j h=>HJ.out j (by omega))],?_⟩
      (exact bt)
theorem run_index_hash (A k:Nat) (hk:k<32) (w:World):(Instr.index 43 (.agg (hB A)) (.int .i64 k)).run Tryz.prog w=.ok (.int .u8 (nR A k)) w:=by
  have h:=hB_get A k hk
  have h0:(0:Int)≤(k:Int)∧(k:Int)<32:=by omega
  simp [Instr.index,go_sem,part,h,h0,hk]
set_option maxHeartbeats 1000000 in
set_option maxRecDepth 100000 in
theorem frombytes_any (A : Nat) (w : World) :
    Calls Tryz.prog 126 #[.agg (hB A)] w fun e w'=>e=.returned (U A)∧Below w.heap.size w w':=by
  go_enter Tryz.func126,Tryz.ntmps126
  go_wp2_with (refine wl_load (w.heap.size) 43 (hB A) _ rfl (hp_3_0 _ _ _ _) Tryz.underlying43 rfl (nV (yV A)) ?_)
  go_loopw [8] (fun i wr=>∃ (k:Nat),k≤32∧i=.int .i64 k∧wr=((w.alloc (.cells (hB A) 43)).alloc (.cells #[.int .u64 0,.int .u64 0,.int .u64 0,.int .u64 0] 39)).alloc (.cells #[.int .u64 (pre A 0 k),.int .u64 (pre A 1 k),.int .u64 (pre A 2 k),.int .u64 (pre A 3 k)] 39)) (fun i _=>32-(intOf i).toNat)
  case atStart=>exact ⟨0,by omega,rfl,by rw [xI A 0 0 (by omega),xI A 1 0 (by omega),xI A 2 0 (by omega),xI A 3 0 (by omega)]⟩
  case round =>
    obtain ⟨k,hk,rfl,rfl⟩:=hrel
    by_cases hlt:k<32
    · have hidx := run_index_hash A k hlt
      rcases (by omega:(k:Int) / 8=0∨(k:Int) / 8=1∨(k:Int) / 8=2∨(k:Int) / 8=3) with h8 | h8 | h8 | h8
      all_goals
        go_wp2
        go_roundw
        case rel =>
          refine ⟨k+1,by omega,by go_num,?_⟩
          first
            | rw [yZ A 3 k hlt (by omega),iP A 0 k (by omega) (by omega),iP A 1 k (by omega) (by omega),iP A 2 k (by omega) (by omega)]
            | rw [yZ A 2 k hlt (by omega),iP A 0 k (by omega) (by omega),iP A 1 k (by omega) (by omega),iP A 3 k (by omega) (by omega)]
            | rw [yZ A 1 k hlt (by omega),iP A 0 k (by omega) (by omega),iP A 2 k (by omega) (by omega),iP A 3 k (by omega) (by omega)]
            | rw [yZ A 0 k hlt (by omega),iP A 1 k (by omega) (by omega),iP A 2 k (by omega) (by omega),iP A 3 k (by omega) (by omega)]
        case measure=>simp [intOf];omega
    · obtain rfl : k = 32 := by omega
      rw [pre_end A 0 (by omega),pre_end A 1 (by omega),pre_end A 2 (by omega),pre_end A 3 (by omega)]
      go_wp2
      go_returns
      refine ⟨rfl,?_⟩
      (exact bt)
theorem setCell_drewN (w:World) (n:Nat) (a:Addr) (v:Value):(w.drewN n).setCell a v=(w.setCell a v).drewN n:=rfl
set_option maxHeartbeats 1000000 in
set_option maxRecDepth 100000 in
theorem rfrombytes_any (A : Nat) (w : World) :
    Calls Tryz.prog 137 #[.agg (hB A)] w fun e w'=>e=.returned (U A)∧Below w.heap.size w w':=by
  go_enter Tryz.func137,Tryz.ntmps137
  go_wp2
  go_loopw [6] (fun i wr=>∃ (k n:Nat),k≤32∧i=.int .i64 k∧wr=(((w.alloc (.cells (hB A) 43)).alloc (.cells #[.int .u64 0,.int .u64 0,.int .u64 0,.int .u64 0] 39)).alloc (.cells #[.int .u64 (top A 0 k),.int .u64 (top A 1 k),.int .u64 (top A 2 k),.int .u64 (top A 3 k)] 39)).drewN n) (fun i _=>32-(intOf i).toNat)
  case atStart=>exact ⟨0,0,by omega,rfl,by rw [World.drewN_zero,xC A 0 0 (by omega),xC A 1 0 (by omega),xC A 2 0 (by omega),xC A 3 0 (by omega)]⟩
  case round =>
    obtain ⟨k,n,hk,rfl,rfl⟩:=hrel
    by_cases hlt:k<32
    · have hcell := hB_get A k hlt
      rcases (by omega:(31-(k:Int)) / 8=0∨(31-(k:Int)) / 8=1∨(31-(k:Int)) / 8=2∨(31-(k:Int)) / 8=3) with h8 | h8 | h8 | h8
      all_goals
        go_wp2
        go_region
        go_wp2
        go_roundw
        case rel =>
          refine ⟨k+1,n+1,by omega,by go_num,?_⟩
          have e8:8*((31-k)%8)=56-k%8*8:=by omega
          rw [e8,xAB (qK A k) (by have:=byt_lt A k;omega),top_byte_in A k,setCell_drewN,World.setCell_alloc_at _ _ _ _ _ (by simp)]
          first
            | (rw [zF A 3 k hlt (by omega),iO A 0 k (by omega) (by omega),iO A 1 k (by omega) (by omega),iO A 2 k (by omega) (by omega)];rfl)
            | (rw [zF A 2 k hlt (by omega),iO A 0 k (by omega) (by omega),iO A 1 k (by omega) (by omega),iO A 3 k (by omega) (by omega)];rfl)
            | (rw [zF A 1 k hlt (by omega),iO A 0 k (by omega) (by omega),iO A 2 k (by omega) (by omega),iO A 3 k (by omega) (by omega)];rfl)
            | (rw [zF A 0 k hlt (by omega),iO A 1 k (by omega) (by omega),iO A 2 k (by omega) (by omega),iO A 3 k (by omega) (by omega)];rfl)
        case measure=>simp [intOf];omega
    · obtain rfl : k = 32 := by omega
      rw [top_end A 0 (by omega),top_end A 1 (by omega),top_end A 2 (by omega),top_end A 3 (by omega)]
      go_wp2
      go_returns
      refine ⟨rfl,?_⟩
      (exact bt)
set_option maxHeartbeats 1000000 in
set_option maxRecDepth 100000 in
theorem rbytes_any (A : Nat) (w : World) :
    Calls Tryz.prog 107 #[U A] w fun e w'=>e=.returned (.agg (hB A))∧Below w.heap.size w w':=by
  go_enter Tryz.func107,Tryz.ntmps107
  go_wp2
  obtain ⟨Z,hZ⟩:∃ Z:Array Value,Z= #[.int .u8 0,.int .u8 0,.int .u8 0,.int .u8 0,.int .u8 0,.int .u8 0,.int .u8 0,.int .u8 0,.int .u8 0,.int .u8 0,.int .u8 0,.int .u8 0,.int .u8 0,.int .u8 0,.int .u8 0,.int .u8 0,.int .u8 0,.int .u8 0,.int .u8 0,.int .u8 0,.int .u8 0,.int .u8 0,.int .u8 0,.int .u8 0,.int .u8 0,.int .u8 0,.int .u8 0,.int .u8 0,.int .u8 0,.int .u8 0,.int .u8 0,.int .u8 0]:=⟨_,rfl⟩
  rw [← hZ]
  have hz:Z.size=32:=by rw [hZ];rfl
  clear hZ
  go_loopw [6] (fun i wr=>∃ (k:Nat) (C:Array Value),k≤32∧i=.int .i64 k∧C.size=32∧(∀ j,j<k→C[j]? = some (.int .u8 (nR A j)))∧wr=((w.alloc (.cells #[.int .u64 (wd A 0),.int .u64 (wd A 1),.int .u64 (wd A 2),.int .u64 (wd A 3)] 39)).alloc (.cells Z 43)).alloc (.cells C 43)) (fun i _=>32-(intOf i).toNat)
  case atStart=>exact ⟨0,Z,by omega,rfl,hz,fun j hj=>by omega,rfl⟩
  case round =>
    obtain ⟨k,C,hk,rfl,hC,hj,rfl⟩:=hrel
    have HC:=Lib.hid hC;have HJ:=Lib.hid hj;have HZ:=Lib.hid hz
    clear hC hj hz
    by_cases hlt:k<32
    · have hC2 : k < C.size := by have := HC.out; omega
      rcases (by omega:(31-(k:Int)) / 8=0∨(31-(k:Int)) / 8=1∨(31-(k:Int)) / 8=2∨(31-(k:Int)) / 8=3) with h8 | h8 | h8 | h8
      all_goals
        go_wp2
        go_roundw
        case rel =>
          first | (obtain ⟨g1,g2⟩:=qX HC.out hlt HJ.out (byt_wd' A 3 k hlt (by omega));exact ⟨k+1,_,by omega,by go_num,g1,g2,rfl⟩) | (obtain ⟨g1,g2⟩:=qX HC.out hlt HJ.out (byt_wd' A 2 k hlt (by omega));exact ⟨k+1,_,by omega,by go_num,g1,g2,rfl⟩) | (obtain ⟨g1,g2⟩:=qX HC.out hlt HJ.out (byt_wd' A 1 k hlt (by omega));exact ⟨k+1,_,by omega,by go_num,g1,g2,rfl⟩) | (obtain ⟨g1,g2⟩:=qX HC.out hlt HJ.out (byt_wd' A 0 k hlt (by omega));exact ⟨k+1,_,by omega,by go_num,g1,g2,rfl⟩)
        case measure=>simp [intOf];omega
    · go_wp2_with (first | (refine wl_load (w.heap.size + 1 + 1) 43 C _ rfl (hp_3_2 _ _ _ _) Tryz.underlying43 rfl (nV HC.out) ?_) | (refine wl_store (w.heap.size + 1) 43 Z C rfl rfl (hp_3_1 _ _ _ _) (nV HC.out) (HZ.out.trans HC.out.symm) (by rw [hB_ext HC.out (fun j h => HJ.out j (by omega))]; exact hB_one A) ?_))
      rw [sr_3_1]
      refine bodyPost_ret (results_cell_row rfl _ _ (w.heap.size+1) 43 C (0,0) _ rfl (hp_3_1 _ _ _ _) Tryz.underlying43 rfl (nV HC.out)) rfl ?_
      refine ⟨by rw [hB_ext HC.out (fun j h=>HJ.out j (by omega))],?_⟩
      (exact bt)
theorem gmodulus_w  (w0:World):Calls Tryz.prog 118 #[] w0 (jR (U pP) w0):=by
 refine Calls.of_ok (n:=2) (F:=(fun _=>True)) Tryz.func118 rfl rfl rfl (by simp) jT ?_
 refine sS Tryz.f118 1 [0] [] (fun ρ=>[pt (nb ρ 0)]) (fun ρ=>[(0,(nw ρ 0 (cL (cU 0) 39)))]) (jE [[]]) (fun ρ1=>?_)
 refine sS Tryz.f118 2 [0] [] (fun _=>[U 115792089237316195423570985008687907853269984665640564039457584007913129603823,undef]) (fun _=>[(1,(bD 0 (nb ρ1 0) (cL (cU 115792089237316195423570985008687907853269984665640564039457584007913129603823) 39)))]) (jE [[],[0]]) (fun _=>?_)
 refine aF ?_
 exact mR (v:=(U 115792089237316195423570985008687907853269984665640564039457584007913129603823)) (fun _ hS=>⟨congrArg (fun x=>Ending.returned (U x)) (by decide +kernel),hS.bel⟩)
theorem yY (w0:World)  : Calls Tryz.prog 118 #[] w0 (jR (U pP) w0):=gmodulus_w  w0
theorem gorder_w  (w0:World):Calls Tryz.prog 120 #[] w0 (jR (U qP) w0):=by
 refine Calls.of_ok (n:=2) (F:=(fun _=>True)) Tryz.func120 rfl rfl rfl (by simp) jT ?_
 refine sS Tryz.f120 1 [0] [] (fun ρ=>[pt (nb ρ 0)]) (fun ρ=>[(0,(nw ρ 0 (cL (cU 0) 39)))]) (jE [[]]) (fun ρ1=>?_)
 refine sS Tryz.f120 2 [0] [] (fun _=>[U 57896044618658097711785492504343953926634992332820282019728792003956564801911,undef]) (fun _=>[(1,(bD 0 (nb ρ1 0) (cL (cU 57896044618658097711785492504343953926634992332820282019728792003956564801911) 39)))]) (jE [[],[0]]) (fun _=>?_)
 refine aF ?_
 exact mR (v:=(U 57896044618658097711785492504343953926634992332820282019728792003956564801911)) (fun _ hS=>⟨congrArg (fun x=>Ending.returned (U x)) (by decide +kernel),hS.bel⟩)
theorem yC (w0:World)  : Calls Tryz.prog 120 #[] w0 (jR (U qP) w0):=gorder_w  w0
theorem rgmodulus_w  (w0:World):Calls Tryz.prog 129 #[] w0 (jR (U pP) w0):=by
 refine Calls.of_ok (n:=10) (F:=(fun _=>True)) Tryz.func129 rfl rfl rfl (by simp) jT ?_
 refine sS Tryz.f129 1 [0] [] (fun ρ=>[pt (nb ρ 0)]) (fun ρ=>[(0,(nw ρ 0 (cL (cU 0) 39)))]) (jE [[]]) (fun ρ1=>?_)
 refine sS Tryz.f129 9 [0,1] [] (fun ρ=>let qa:Value:=.bool (decide (0<36113));[U 0,U 36113,.tuple #[U ((0+M-36113)%M),qa],.tuple #[U ((0+M-36113)%M),qa],U ((0+M-36113)%M),qa,pt (nb ρ 6),undef,qa]) (fun ρ=>[(6,(nw ρ 6 (cL (cU 0) 39))),(7,(bD 49 (nb ρ 6) (cL (cU ((0+M-36113)%M)) 39)))]) (cR [[]]<|cC (fun _ w=>iE 36113 w (by decide))<|cC (fun _ w=>zQ 0 36113 w (by decide +kernel) (by decide +kernel))<|jE [[],[],[],[],[49],[]]) (fun _=>?_)
 refine sS Tryz.f129 2 [0] [1,0] (fun _=>[U ((0+M-36113)%M),undef]) (fun _=>[(1,(bD 0 (nb ρ1 0) (cL (cU ((0+M-36113)%M)) 39)))]) (jE [[1],[0]]) (fun _=>?_)
 refine aF ?_
 exact mR (v:=(U ((0+M-36113)%M))) (fun _ hS=>⟨congrArg (fun x=>Ending.returned (U x)) (by decide +kernel),hS.bel⟩)
theorem lW (w0:World)  : Calls Tryz.prog 129 #[] w0 (jR (U pP) w0):=rgmodulus_w  w0
theorem rgorder_w  (w0:World):Calls Tryz.prog 131 #[] w0 (jR (U qP) w0):=by
 refine Calls.of_ok (n:=3) (F:=(fun _=>True)) Tryz.func131 rfl rfl rfl (by simp) jT ?_
 refine sS Tryz.f131 1 [0] [] (fun ρ=>[pt (nb ρ 0)]) (fun ρ=>[(0,(nw ρ 0 (cL (cU 0) 39)))]) (jE [[]]) (fun ρ1=>?_)
 refine sS Tryz.f131 3 [0] [] (fun _=>[U pP,U (shrZ pP 1),undef]) (fun _=>[(2,(bD 0 (nb ρ1 0) (cL (cU (shrZ pP 1)) 39)))]) (cC (fun _ w=>lW w)<|cC (fun _ w=>rshr_any pP 1 w oV)<|jE [[0]]) (fun _=>?_)
 refine aF ?_
 exact mR (v:=(U (shrZ pP 1))) (fun _ hS=>⟨congrArg (fun x=>Ending.returned (U x)) (by decide +kernel),hS.bel⟩)
theorem wC (w0:World)  : Calls Tryz.prog 131 #[] w0 (jR (U qP) w0):=rgorder_w  w0
theorem rgone_w  (w0:World):Calls Tryz.prog 132 #[] w0 (jR (U 1) w0):=by
 refine Calls.of_ok (n:=2) (F:=(fun _=>True)) Tryz.func132 rfl rfl rfl (by simp) jT ?_
 refine sS Tryz.f132 1 [0] [] (fun ρ=>[pt (nb ρ 0)]) (fun ρ=>[(0,(nw ρ 0 (cL (cU 0) 39)))]) (jE [[]]) (fun ρ1=>?_)
 refine sS Tryz.f132 2 [0] [] (fun _=>[U 1,undef]) (fun _=>[(1,(bD 0 (nb ρ1 0) (cL (cU 1) 39)))]) (cC (fun _ w=>iE 1 w (by decide))<|jE [[0]]) (fun _=>?_)
 refine aF ?_
 exact mR (v:=(U 1)) (fun _ hS=>⟨rfl,hS.bel⟩)
theorem rgone_any (w0:World)  : Calls Tryz.prog 132 #[] w0 (jR (U 1) w0):=rgone_w  w0
theorem gmul_w (a:Nat) (b:Nat) (ha:a<M) (hb:b<M) (w0:World):Calls Tryz.prog 100 #[U a,U b] w0 (jR (U (bV a b pP)) w0):=by
 refine Calls.of_ok (n:=9) (F:=(fun _=>True)) Tryz.func100 rfl rfl rfl (by simp) jT ?_
 refine sS Tryz.f100 3 [2,3,4] [] (fun ρ=>[pt (nb ρ 0),pt (nb ρ 1),pt (nb ρ 2)]) (fun ρ=>[(0,(nw ρ 0 (cL (cU a) 39))),(1,(nw ρ 1 (cL (cU b) 39))),(2,(nw ρ 2 (cL (cU 0) 39)))]) (jE [[],[],[]]) (fun ρ1=>?_)
 refine sD Tryz.f100 [0,0,0,7,15] 5 [4] [0,0,1] (fun _=>[U a,U b,U pP,U (bV a b pP),undef]) (fun _=>[(4,(bD 2 (nb ρ1 2) (cL (cU (bV a b pP)) 39)))]) (cR [[0],[1]]<|cC (fun _ w=>yY w)<|cC (fun _ w=>mulmod_any a b pP w ha hb oV)<|jE [[2]]) (fun _=>?_)
 refine aF ?_
 exact mR (v:=(U (bV a b pP))) (fun _ hS=>⟨rfl,hS.bel⟩)
theorem gmul_any (a b:Nat) (w0:World) (ha:a<M) (hb:b<M):Calls Tryz.prog 100 #[U a,U b] w0 (jR (U (bV a b pP)) w0):=gmul_w a b ha hb w0
theorem rgmul_w (a:Nat) (b:Nat) (ha:a<M) (hb:b<M) (w0:World):Calls Tryz.prog 110 #[U a,U b] w0 (jR (U (bV a b pP)) w0):=by
 refine Calls.of_ok (n:=9) (F:=(fun _=>True)) Tryz.func110 rfl rfl rfl (by simp) jT ?_
 refine sS Tryz.f110 3 [2,3,4] [] (fun ρ=>[pt (nb ρ 0),pt (nb ρ 1),pt (nb ρ 2)]) (fun ρ=>[(0,(nw ρ 0 (cL (cU a) 39))),(1,(nw ρ 1 (cL (cU b) 39))),(2,(nw ρ 2 (cL (cU 0) 39)))]) (jE [[],[],[]]) (fun ρ1=>?_)
 refine sD Tryz.f110 [0,0,0,7,15] 5 [4] [0,0,1] (fun _=>[U a,U b,U pP,U (bV a b pP),undef]) (fun _=>[(4,(bD 2 (nb ρ1 2) (cL (cU (bV a b pP)) 39)))]) (cR [[0],[1]]<|cC (fun _ w=>lW w)<|cC (fun _ w=>vU a b pP w ha hb oV)<|jE [[2]]) (fun _=>?_)
 refine aF ?_
 exact mR (v:=(U (bV a b pP))) (fun _ hS=>⟨rfl,hS.bel⟩)
theorem rgmul_any (a b:Nat) (w0:World) (ha:a<M) (hb:b<M):Calls Tryz.prog 110 #[U a,U b] w0 (jR (U (bV a b pP)) w0):=rgmul_w a b ha hb w0
theorem gexp_w (a:Nat) (e:Nat) (ha:a<M) (he:e<M) (w0:World):Calls Tryz.prog 119 #[U a,U e] w0 (jR (U (bK a e pP)) w0):=by
 refine Calls.of_ok (n:=37) (F:=(fun _=>True)) Tryz.func119 rfl rfl rfl (by simp) jT ?_
 refine sS Tryz.f119 3 [2,3,4] [] (fun ρ=>[pt (nb ρ 0),pt (nb ρ 1),pt (nb ρ 2)]) (fun ρ=>[(0,(nw ρ 0 (cL (cU a) 39))),(1,(nw ρ 1 (cL (cU e) 39))),(2,(nw ρ 2 (cL (cU 0) 39)))]) (jE [[],[],[]]) (fun ρ1=>?_)
 refine sS Tryz.f119 3 [2,3,4,5] [] (fun ρ=>[U 1,pt (nb ρ 1),undef]) (fun ρ=>[(1,(nw ρ 1 (cL (cU 0) 39))),(2,(bD 11 (nb ρ 1) (cL (cU 1) 39)))]) (cC (fun _ w=>lF 1 w (by decide))<|jE [[],[11]]) (fun ρ2=>?_)
 refine sS Tryz.f119 3 [2,3,4,5,6] [] (fun _=>[U e,vn (dG e),vn (dG e)]) (fun _=>[]) (cR [[1]]<|cC (fun _ w=>len_any e w he)<|jE [[]]) (fun _=>?_)
 refine aB (jJ Tryz.f119 2 [2,3,4,5,6,12,13] [vn (dG e),vi 0] (aI ?_))
 refine oL (σ:=Nat × Nat) (fun ⟨i,_⟩=>[(2,(pt (nb ρ1 0))),(3,(pt (nb ρ1 1))),(4,(pt (nb ρ1 2))),(5,(pt (nb ρ2 1))),(6,(vn (dG e))),(12,(vn (dG e))),(13,(vn i))]) (fun ⟨_,p⟩=>[(nb ρ1 0,(cL (cU a) 39)),(nb ρ1 1,(cL (cU e) 39)),(nb ρ1 2,(cL (cU 0) 39)),(nb ρ2 1,(cL (cU p) 39))]) (fun ⟨i,_⟩=>dG e-i)
   (fun ⟨i,p⟩=>(i≤dG e)∧(p=a^(e / 2^(dG e-i))%pP)) (0,1) (⟨Nat.zero_le _,exp_one a e⟩) [] ?_
 rintro ⟨i,p⟩ ⟨hi,hp⟩
 change Ok Tryz.prog _ _ 37 [(2,(pt (nb ρ1 0))),(3,(pt (nb ρ1 1))),(4,(pt (nb ρ1 2))),(5,(pt (nb ρ2 1))),(6,(vn (dG e))),(12,(vn (dG e))),(13,(vn i))] _ [(nb ρ1 0,(cL (cU a) 39)),(nb ρ1 1,(cL (cU e) 39)),(nb ρ1 2,(cL (cU 0) 39)),(nb ρ2 1,(cL (cU p) 39))] (fun _=>True)
 have hpM:p<M:=gexp_lt hp
 refine jJ Tryz.f119 1 [2,3,4,5,6,12,13,14] [.bool (decide (((i:Nat):Int)<((dG e:Nat):Int)))] (aB ?_)
 refine oC (decide (((i:Nat):Int)<((dG e:Nat):Int))) (fun hb1=>?_) (fun hb1=>?_)
 ·
  rw [hb1]
  refine aG (aA (aB (aI (jJ Tryz.f119 2 [2,3,4,5,6,7,12,13] [vn i,vn i] ?_))))
  refine sS Tryz.f119 5 [2,3,4,5,6,8,12,13] [] (fun _=>[vn (dG e),vn (dG e-1),vn i,vn (dG e-1-i),vn (dG e-1-i)]) (fun _=>[]) (cR [[]]<|jW (fun ρ=>(((dG e:Nat):Int)-1)) (fun _=>(dG e-1)) (fun _=>(zY (dG e) 1 (by have h1:=yT hb1;have h2:=iJ e he;omega) (by have h1:=yT hb1;have h2:=iJ e he;omega)))<|cR [[]]<|jW (fun ρ=>(((dG e-1:Nat):Int)-((i:Nat):Int))) (fun _=>(dG e-1-i)) (fun _=>(zY (dG e-1) i (by have h1:=yT hb1;have h2:=iJ e he;omega) (by have h1:=yT hb1;have h2:=iJ e he;omega)))<|jE [[]]) (fun _=>?_)
  refine sS Tryz.f119 4 [2,3,4,5,6,8,12,13] [] (fun _=>[U p,U p,U (bV p p pP),undef]) (fun _=>[(3,(bD 3 (nb ρ2 1) (cL (cU (bV p p pP)) 39)))]) (cR [[3],[3]]<|cC (fun _ w=>gmul_any p p w hpM hpM)<|jE [[3]]) (fun _=>?_)
  refine sS Tryz.f119 9 [2,3,4,5,6,12,13,31] [] (fun _=>[vn (dG e-1-i),vn ((dG e-1-i) / 64),jp (nb ρ1 1) ((dG e-1-i) / 64),.int .u64 (wd e ((dG e-1-i) / 64)),vn (dG e-1-i),vn ((dG e-1-i)%64),.int .u64 (shrW (wd e ((dG e-1-i) / 64)) ((dG e-1-i)%64)),.int .u64 (bits .and .u64 (shrW (wd e ((dG e-1-i) / 64)) ((dG e-1-i)%64)) 1),.bool (nJ e (dG e-1-i))]) (fun _=>[]) (cR [[]]<|cB (a:=fun ρ=>(vn (dG e-1-i))) (b:=fun ρ=>(vi 64)) (v:=fun ρ=>(vn ((dG e-1-i) / 64))) .quo 3 (fun _ w=>run_quo_nat (dG e-1-i) 64 ((dG e-1-i) / 64) (by decide) (by have h1:=yT hb1;have h2:=iJ e he;omega) rfl w)<|cX (jS (fun _=>Instr.indexAt 39 (pt (nb ρ1 1)) (vn ((dG e-1-i) / 64))) (fun _=>(jp (nb ρ1 1) ((dG e-1-i) / 64))) (fun _ w=>aX (n:=(((dG e-1-i) / 64:Nat):Int)) (i:=(dG e-1-i) / 64) Tryz.underlying39 Tryz.sizeOf37 (⟨rfl,(by have h1:=yT hb1;have h2:=iJ e he;omega)⟩) w))<|cX (kG _ 1 37 (fun _=>nb ρ1 1) (fun _=>(dG e-1-i) / 64) (fun _=>(cU e)) 39 (0,0) (fun _=>(.int .u64 (wd e ((dG e-1-i) / 64)))) (fun _=>by kernel_rfl) Tryz.isAgg37 (fun _=>lL e ((dG e-1-i) / 64) (by have h1:=yT hb1;have h2:=iJ e he;omega)))<|cR [[]]<|cB (a:=fun ρ=>(vn (dG e-1-i))) (b:=fun ρ=>(vi 64)) (v:=fun ρ=>(vn ((dG e-1-i)%64))) .rem 3 (fun _ w=>run_rem_nat (dG e-1-i) 64 ((dG e-1-i)%64) (by decide) rfl w)<|cB (a:=fun ρ=>(.int .u64 (wd e ((dG e-1-i) / 64)))) (b:=fun ρ=>(vn ((dG e-1-i)%64))) (v:=fun ρ=>(.int .u64 (shrW (wd e ((dG e-1-i) / 64)) ((dG e-1-i)%64)))) .shr 37 (fun _ w=>run_shr (wd e ((dG e-1-i) / 64)) ((dG e-1-i)%64) w)<|cR [[]]<|cA (fun _=>(.bool (nJ e (dG e-1-i)))) (fun _=>congrArg Value.bool (expbit e (dG e-1-i)))<|cN) (fun _=>?_)
  refine oC (nJ e (dG e-1-i)) (fun hb2=>?_) (fun hb2=>?_)
  ·
   rw [hb2]
   refine rS Tryz.f119 4 [2,3,4,5,6,12,13] [] (fun _=>[U (bV p p pP),U a,U (bV (bV p p pP) a pP),undef]) (fun _=>[(3,(bD 3 (nb ρ2 1) (cL (cU (bV (bV p p pP) a pP)) 39)))]) (cR [[3],[0]]<|cC (f:=100) (args:=fun ρ=> #[U (bV p p pP),U a]) (v:=fun ρ=>(U (bV (bV p p pP) a pP))) (fun _ w=>(fun w=>gmul_any (bV p p pP) a w (wE _ _ oV) ha) w)<|jE [[3]]) (fun _=>?_)
   refine aJ (aA ?_)
   refine rS Tryz.f119 2 [2,3,4,5,6,12,13] [] (fun _=>[vn (i+1),vn (i+1)]) (fun _=>[]) (jW (fun ρ=>(((i:Nat):Int)+1)) (fun _=>(i+1)) (fun _=>(dX i 1 (by have h1:=yT hb1;have h2:=iJ e he;omega)))<|jE [[]]) (fun _=>?_)
   exact mN (i+1,bV (bV p p pP) a pP) (by show dG e-(i+1)<dG e-i;have h1:=yT hb1;have h2:=iJ e he;omega) (⟨by have h1:=yT hb1;have h2:=iJ e he;omega,by rw [exp_step1 hp (Nat.lt_trans Nat.zero_lt_one pF),show dG e-(i+1)=(dG e-i)-1 by omega,← half_odd (by have h1:=yT hb1;have h2:=iJ e he;omega) (by rw [show dG e-i-1=dG e-1-i by omega];exact hb2)]⟩) []
  rw [hb2]
  refine aG (aJ (aA ?_))
  refine rS Tryz.f119 2 [2,3,4,5,6,12,13] [] (fun _=>[vn (i+1),vn (i+1)]) (fun _=>[]) (jW (fun ρ=>(((i:Nat):Int)+1)) (fun _=>(i+1)) (fun _=>(dX i 1 (by have h1:=yT hb1;have h2:=iJ e he;omega)))<|jE [[]]) (fun _=>?_)
  exact mN (i+1,bV p p pP) (by show dG e-(i+1)<dG e-i;have h1:=yT hb1;have h2:=iJ e he;omega) (⟨by have h1:=yT hb1;have h2:=iJ e he;omega,by rw [exp_step hp (Nat.lt_trans Nat.zero_lt_one pF),show dG e-(i+1)=(dG e-i)-1 by omega,← half_even (by have h1:=yT hb1;have h2:=iJ e he;omega) (by rw [show dG e-i-1=dG e-1-i by omega];exact hb2)]⟩) []
 rw [hb1]
 refine bF (aN (aN (aT (aA ?_))))
 refine sS Tryz.f119 2 [4] [0,0,1,0] (fun _=>[U p,undef]) (fun _=>[(1,(bD 2 (nb ρ1 2) (cL (cU p) 39)))]) (jE [[3],[2]]) (fun _=>?_)
 refine aF ?_
 exact mR (v:=(U p)) (fun _ hS=>⟨congrArg (fun x=>Ending.returned (U x)) (gexp_end (i:=i) (by have h1:=yF hb1;omega) hp),hS.bel⟩)
theorem gexp_any (a e:Nat) (w0:World) (ha:a<M) (he:e<M):Calls Tryz.prog 119 #[U a,U e] w0 (jR (U (bK a e pP)) w0):=gexp_w a e ha he w0
theorem rgexp_w (a:Nat) (e:Nat) (ha:a<M) (he:e<M) (w0:World):Calls Tryz.prog 130 #[U a,U e] w0 (jR (U (bK a e pP)) w0):=by
 refine Calls.of_ok (n:=9) (F:=(fun _=>True)) Tryz.func130 rfl rfl rfl (by simp) jT ?_
 refine sS Tryz.f130 3 [2,3,4] [] (fun ρ=>[pt (nb ρ 0),pt (nb ρ 1),pt (nb ρ 2)]) (fun ρ=>[(0,(nw ρ 0 (cL (cU a) 39))),(1,(nw ρ 1 (cL (cU e) 39))),(2,(nw ρ 2 (cL (cU 0) 39)))]) (jE [[],[],[]]) (fun ρ1=>?_)
 refine sD Tryz.f130 [0,0,0,7,15] 5 [4] [0,0,1] (fun _=>[U a,U e,U pP,U (bK a e pP),undef]) (fun _=>[(4,(bD 2 (nb ρ1 2) (cL (cU (bK a e pP)) 39)))]) (cR [[0],[1]]<|cC (fun _ w=>lW w)<|cC (fun _ w=>rexpmod_any a e pP w ha he oV)<|jE [[2]]) (fun _=>?_)
 refine aF ?_
 exact mR (v:=(U (bK a e pP))) (fun _ hS=>⟨rfl,hS.bel⟩)
theorem rgexp_any (a e:Nat) (w0:World) (ha:a<M) (he:e<M):Calls Tryz.prog 130 #[U a,U e] w0 (jR (U (bK a e pP)) w0):=rgexp_w a e ha he w0
theorem gmember_w (a:Nat) (ha:a<M) (w0:World):Calls Tryz.prog 93 #[U a] w0 (jR (.bool (mW a)) w0):=by
 refine Calls.of_ok (n:=17) (F:=(fun _=>True)) Tryz.func93 rfl rfl rfl (by simp) jT ?_
 refine sS Tryz.f93 2 [1,2] [] (fun ρ=>[pt (nb ρ 0),vF]) (fun ρ=>[(0,(nw ρ 0 (cL (cU a) 39)))]) (jE [[],[]]) (fun _=>?_)
 refine aB ?_
 rcases Bool.eq_false_or_eq_true (decide (a=0)) with hb1 | hb1
 ·
  refine sD Tryz.f93 [0,0,3,7,15,15,63,127,255] 9 [1,2,11] [] (fun _=>[U a,U 0,vT,vT,undef,undef,undef,undef,vT]) (fun _=>[]) (cR [[0],[]]<|cB (a:=fun ρ=>(U a)) (b:=fun ρ=>(U 0)) (v:=fun ρ=>vT) .eql 39 (fun _ _=>(eqlU a 0 ha (by decide +kernel) _).trans (by rw [hb1];try rfl))<|jE [[],[],[],[],[],[]]) (fun _=>?_)
  refine oY ?_
  refine jJ Tryz.f93 1 [1,2] [vF] (aF (aC ?_))
  exact mR (v:=vF) (fun _ hS=>⟨jB (mem_no1 hb1),hS.bel⟩)
 refine sD Tryz.f93 [0,0,3,7,15,15,63,127,255] 9 [1,2,11] [] (fun _=>let qa:Value:=.bool (decide (0≤(fJ a pP)));[U a,U 0,vF,vF,U a,U pP,vi (fJ a pP),qa,qa]) (fun _=>[]) (cR [[0],[]]<|cB (a:=fun ρ=>(U a)) (b:=fun ρ=>(U 0)) (v:=fun ρ=>vF) .eql 39 (fun _ _=>(eqlU a 0 ha (by decide +kernel) _).trans (by rw [hb1];try rfl))<|cR [[],[0]]<|cC (fun _ w=>yY w)<|cC (fun _ w=>uN a pP w ha oV)<|jE [[],[]]) (fun _=>?_)
 refine oC (decide (0≤(fJ a pP))) (fun hb2=>?_) (fun hb2=>?_)
 ·
  rw [hb2]
  refine jJ Tryz.f93 1 [1,2] [vF] (aF (aC ?_))
  exact mR (v:=vF) (fun _ hS=>⟨jB (mem_no2 hb2),hS.bel⟩)
 rw [hb2]
 refine aG (aA ?_)
 refine sD Tryz.f93 [0,0,3,7,15,31] 6 [2] [0] (fun _=>let qa:Value:=.bool (decide (bK a qP pP=1));[U a,U qP,U (bK a qP pP),U 1,qa,qa]) (fun _=>[]) (cR [[0]]<|cC (fun _ w=>yC w)<|cC (fun _ w=>gexp_any a qP w ha sW)<|cC (fun _ w=>lF 1 w (by decide))<|cB (a:=fun ρ=>(U (bK a qP pP))) (b:=fun ρ=>(U 1)) (v:=fun ρ=>(.bool (decide (bK a qP pP=1)))) .eql 39 (fun _ _=>eqlU (bK a qP pP) 1 (vZ _ _ oV) (by decide +kernel) _)<|jE [[]]) (fun _=>?_)
 refine aF ?_
 exact mR (v:=(.bool (decide (bK a qP pP=1)))) (fun _ hS=>⟨jB (mem_yes hb1 (by have:=yF hb2;omega)),hS.bel⟩)
theorem gmember_any (a:Nat) (w0:World) (ha:a<M):Calls Tryz.prog 93 #[U a] w0 (jR (.bool (mW a)) w0):=gmember_w a ha w0
theorem gpower_w (e:Nat) (he:e<M) (w0:World):Calls Tryz.prog 95 #[U e] w0 (jR (U (bK 4 e pP)) w0):=by
 refine Calls.of_ok (n:=6) (F:=(fun _=>True)) Tryz.func95 rfl rfl rfl (by simp) jT ?_
 refine sS Tryz.f95 2 [1,2] [] (fun ρ=>[pt (nb ρ 0),pt (nb ρ 1)]) (fun ρ=>[(0,(nw ρ 0 (cL (cU e) 39))),(1,(nw ρ 1 (cL (cU 0) 39)))]) (jE [[],[]]) (fun ρ1=>?_)
 refine sD Tryz.f95 [0,0,3,7] 4 [2] [0,1] (fun _=>[U 4,U e,U (bK 4 e pP),undef]) (fun _=>[(3,(bD 1 (nb ρ1 1) (cL (cU (bK 4 e pP)) 39)))]) (cC (fun _ w=>lF 4 w (by decide))<|cR [[0]]<|cC (fun _ w=>gexp_any 4 e w (by decide +kernel) he)<|jE [[1]]) (fun _=>?_)
 refine aF ?_
 exact mR (v:=(U (bK 4 e pP))) (fun _ hS=>⟨rfl,hS.bel⟩)
theorem gpower_any (e:Nat) (w0:World) (he:e<M):Calls Tryz.prog 95 #[U e] w0 (jR (U (bK 4 e pP)) w0):=gpower_w e he w0
theorem gaddscalar_w (a:Nat) (b:Nat) (ha:a<M) (hb:b<M) (w0:World):Calls Tryz.prog 98 #[U a,U b] w0 (jR (U (bC a b qP)) w0):=by
 refine Calls.of_ok (n:=9) (F:=(fun _=>True)) Tryz.func98 rfl rfl rfl (by simp) jT ?_
 refine sS Tryz.f98 3 [2,3,4] [] (fun ρ=>[pt (nb ρ 0),pt (nb ρ 1),pt (nb ρ 2)]) (fun ρ=>[(0,(nw ρ 0 (cL (cU a) 39))),(1,(nw ρ 1 (cL (cU b) 39))),(2,(nw ρ 2 (cL (cU 0) 39)))]) (jE [[],[],[]]) (fun ρ1=>?_)
 refine sD Tryz.f98 [0,0,0,7,15] 5 [4] [0,0,1] (fun _=>[U a,U b,U qP,U (bC a b qP),undef]) (fun _=>[(4,(bD 2 (nb ρ1 2) (cL (cU (bC a b qP)) 39)))]) (cR [[0],[1]]<|cC (fun _ w=>yC w)<|cC (fun _ w=>addmod_any a b qP w ha hb sW)<|jE [[2]]) (fun _=>?_)
 refine aF ?_
 exact mR (v:=(U (bC a b qP))) (fun _ hS=>⟨rfl,hS.bel⟩)
theorem wH (a b:Nat) (w0:World) (ha:a<M) (hb:b<M):Calls Tryz.prog 98 #[U a,U b] w0 (jR (U (bC a b qP)) w0):=gaddscalar_w a b ha hb w0
theorem gscalar_w (h:Nat) (hh:h<M) (w0:World):Calls Tryz.prog 99 #[.agg (hB h)] w0 (jR (U (bC h 0 qP)) w0):=by
 refine Calls.of_ok (n:=7) (F:=(fun _=>True)) Tryz.func99 rfl rfl rfl (by simp) jT ?_
 refine sS Tryz.f99 2 [1,2] [] (fun ρ=>[pt (nb ρ 0),pt (nb ρ 1)]) (fun ρ=>[(0,(nw ρ 0 (cL (hB h) 43))),(1,(nw ρ 1 (cL (cU 0) 39)))]) (jE [[],[]]) (fun ρ1=>?_)
 refine sS Tryz.f99 5 [2] [0,1] (fun _=>[.agg (hB h),U h,U 0,U (bC h 0 qP),undef]) (fun _=>[(4,(bD 1 (nb ρ1 1) (cL (cU (bC h 0 qP)) 39)))]) (cR [[0]]<|cC (fun _ w=>frombytes_any h w)<|cR [[]]<|cC (fun _ w=>wH h 0 w hh (by decide +kernel))<|jE [[1]]) (fun _=>?_)
 refine aF ?_
 exact mR (v:=(U (bC h 0 qP))) (fun _ hS=>⟨rfl,hS.bel⟩)
theorem gscalar_any (h:Nat) (w0:World) (hh:h<M):Calls Tryz.prog 99 #[.agg (hB h)] w0 (jR (U (bC h 0 qP)) w0):=gscalar_w h hh w0
theorem rgmember_w (a:Nat) (ha:a<M) (w0:World):Calls Tryz.prog 101 #[U a] w0 (jR (.bool (mW a)) w0):=by
 refine Calls.of_ok (n:=19) (F:=(fun _=>True)) Tryz.func101 rfl rfl rfl (by simp) jT ?_
 refine sS Tryz.f101 2 [1,2] [] (fun ρ=>[pt (nb ρ 0),vF]) (fun ρ=>[(0,(nw ρ 0 (cL (cU a) 39)))]) (jE [[],[]]) (fun _=>?_)
 rcases Bool.eq_false_or_eq_true (decide (a=0)) with hb1 | hb1
 ·
  refine sD Tryz.f101 [0,1,3,7,15,15,63,127,255,511,1023,1023,4095,8191,16383,32767,65535] 17 [2] [0] (fun _=>[U a,vT,vF,vF,undef,undef,undef,undef,vF,vF,undef,undef,undef,undef,undef,vF,vF]) (fun _=>[]) (cR [[0]]<|cC (f:=68) (args:=fun ρ=> #[U a]) (v:=fun ρ=>vT) (fun _ w=>by as_aux_lemma=>(have hcall:=(fun w=>iI a w ha) w;rw [hb1] at hcall;exact hcall))<|jE [[],[],[],[],[],[],[],[],[],[],[],[],[],[],[]]) (fun _=>?_)
  refine aF ?_
  exact mR (v:=vF) (fun _ hS=>⟨jB (mem_no1 hb1),hS.bel⟩)
 rcases Bool.eq_false_or_eq_true (decide ((fJ a pP)<0)) with hb2 | hb2
 ·
  refine sD Tryz.f101 [0,1,3,7,15,15,63,127,255,511,1023,1023,4095,8191,16383,32767,65535] 17 [2] [0] (fun _=>let qa:Value:=.bool (decide (bK a qP pP=1));[U a,vF,vT,vT,U a,U pP,vi (fJ a pP),vT,vT,vT,U a,U qP,U (bK a qP pP),U 1,qa,qa,qa]) (fun _=>[]) (cR [[0]]<|cC (f:=68) (args:=fun ρ=> #[U a]) (v:=fun ρ=>vF) (fun _ w=>by as_aux_lemma=>(have hcall:=(fun w=>iI a w ha) w;rw [hb1] at hcall;exact hcall))<|cR [[],[],[0]]<|cC (fun _ w=>lW w)<|cC (fun _ w=>qE a pP w ha oV)<|cA (fun _=>vT) (fun _=>congrArg Value.bool hb2)<|cR [[],[],[0]]<|cC (fun _ w=>wC w)<|cC (fun _ w=>rgexp_any a qP w ha sW)<|cC (fun _ w=>rgone_any w)<|cB (a:=fun ρ=>(U (bK a qP pP))) (b:=fun ρ=>(U 1)) (v:=fun ρ=>(.bool (decide (bK a qP pP=1)))) .eql 39 (fun _ _=>eqlU (bK a qP pP) 1 (vZ _ _ oV) (by decide +kernel) _)<|jE [[],[]]) (fun _=>?_)
  refine aF ?_
  exact mR (v:=(.bool (decide (bK a qP pP=1)))) (fun _ hS=>⟨jB (mem_yes hb1 (by have:=yT hb2;omega)),hS.bel⟩)
 refine sD Tryz.f101 [0,1,3,7,15,15,63,127,255,511,1023,1023,4095,8191,16383,32767,65535] 17 [2] [0] (fun _=>[U a,vF,vT,vT,U a,U pP,vi (fJ a pP),vF,vF,vF,undef,undef,undef,undef,undef,vF,vF]) (fun _=>[]) (cR [[0]]<|cC (f:=68) (args:=fun ρ=> #[U a]) (v:=fun ρ=>vF) (fun _ w=>by as_aux_lemma=>(have hcall:=(fun w=>iI a w ha) w;rw [hb1] at hcall;exact hcall))<|cR [[],[],[0]]<|cC (fun _ w=>lW w)<|cC (fun _ w=>qE a pP w ha oV)<|cA (fun _=>vF) (fun _=>congrArg Value.bool hb2)<|jE [[],[],[],[],[],[],[],[],[]]) (fun _=>?_)
 refine aF ?_
 exact mR (v:=vF) (fun _ hS=>⟨jB (mem_no3 hb2),hS.bel⟩)
theorem rgmember_any (a:Nat) (w0:World) (ha:a<M):Calls Tryz.prog 101 #[U a] w0 (jR (.bool (mW a)) w0):=rgmember_w a ha w0
theorem rgpower_w (e:Nat) (he:e<M) (w0:World):Calls Tryz.prog 103 #[U e] w0 (jR (U (bK 4 e pP)) w0):=by
 refine Calls.of_ok (n:=6) (F:=(fun _=>True)) Tryz.func103 rfl rfl rfl (by simp) jT ?_
 refine sS Tryz.f103 2 [1,2] [] (fun ρ=>[pt (nb ρ 0),pt (nb ρ 1)]) (fun ρ=>[(0,(nw ρ 0 (cL (cU e) 39))),(1,(nw ρ 1 (cL (cU 0) 39)))]) (jE [[],[]]) (fun ρ1=>?_)
 refine sD Tryz.f103 [0,0,3,7] 4 [2] [0,1] (fun _=>[U 4,U e,U (bK 4 e pP),undef]) (fun _=>[(3,(bD 1 (nb ρ1 1) (cL (cU (bK 4 e pP)) 39)))]) (cC (fun _ w=>iE 4 w (by decide))<|cR [[0]]<|cC (fun _ w=>rgexp_any 4 e w (by decide +kernel) he)<|jE [[1]]) (fun _=>?_)
 refine aF ?_
 exact mR (v:=(U (bK 4 e pP))) (fun _ hS=>⟨rfl,hS.bel⟩)
theorem rgpower_any (e:Nat) (w0:World) (he:e<M):Calls Tryz.prog 103 #[U e] w0 (jR (U (bK 4 e pP)) w0):=rgpower_w e he w0
theorem rgaddscalar_w (a:Nat) (b:Nat) (ha:a<M) (hb:b<M) (w0:World):Calls Tryz.prog 108 #[U a,U b] w0 (jR (U (bC a b qP)) w0):=by
 refine Calls.of_ok (n:=9) (F:=(fun _=>True)) Tryz.func108 rfl rfl rfl (by simp) jT ?_
 refine sS Tryz.f108 3 [2,3,4] [] (fun ρ=>[pt (nb ρ 0),pt (nb ρ 1),pt (nb ρ 2)]) (fun ρ=>[(0,(nw ρ 0 (cL (cU a) 39))),(1,(nw ρ 1 (cL (cU b) 39))),(2,(nw ρ 2 (cL (cU 0) 39)))]) (jE [[],[],[]]) (fun ρ1=>?_)
 refine sD Tryz.f108 [0,0,0,7,15] 5 [4] [0,0,1] (fun _=>[U a,U b,U qP,U (bC a b qP),undef]) (fun _=>[(4,(bD 2 (nb ρ1 2) (cL (cU (bC a b qP)) 39)))]) (cR [[0],[1]]<|cC (fun _ w=>wC w)<|cC (fun _ w=>raddmod_any a b qP w ha hb sW)<|jE [[2]]) (fun _=>?_)
 refine aF ?_
 exact mR (v:=(U (bC a b qP))) (fun _ hS=>⟨rfl,hS.bel⟩)
theorem uP (a b:Nat) (w0:World) (ha:a<M) (hb:b<M):Calls Tryz.prog 108 #[U a,U b] w0 (jR (U (bC a b qP)) w0):=rgaddscalar_w a b ha hb w0
theorem rgscalar_w (h:Nat) (hh:h<M) (w0:World):Calls Tryz.prog 109 #[.agg (hB h)] w0 (jR (U (bC h 0 qP)) w0):=by
 refine Calls.of_ok (n:=7) (F:=(fun _=>True)) Tryz.func109 rfl rfl rfl (by simp) jT ?_
 refine sS Tryz.f109 2 [1,2] [] (fun ρ=>[pt (nb ρ 0),pt (nb ρ 1)]) (fun ρ=>[(0,(nw ρ 0 (cL (hB h) 43))),(1,(nw ρ 1 (cL (cU 0) 39)))]) (jE [[],[]]) (fun ρ1=>?_)
 refine sS Tryz.f109 5 [2] [0,1] (fun _=>[.agg (hB h),U h,U 0,U (bC h 0 qP),undef]) (fun _=>[(4,(bD 1 (nb ρ1 1) (cL (cU (bC h 0 qP)) 39)))]) (cR [[0]]<|cC (fun _ w=>rfrombytes_any h w)<|cR [[]]<|cC (fun _ w=>uP h 0 w hh (by decide +kernel))<|jE [[1]]) (fun _=>?_)
 refine aF ?_
 exact mR (v:=(U (bC h 0 qP))) (fun _ hS=>⟨rfl,hS.bel⟩)
theorem zA (h:Nat) (w0:World) (hh:h<M):Calls Tryz.prog 109 #[.agg (hB h)] w0 (jR (U (bC h 0 qP)) w0):=rgscalar_w h hh w0
theorem scalarb_any (a:Nat) (ha:a<M) (w0:World):Calls Tryz.prog 121 #[U a] w0 (jR (.bool (scB a)) w0):=by
 refine Calls.of_ok (n:=7) (F:=(fun _=>True)) Tryz.func121 rfl rfl rfl (by simp) jT ?_
 refine sS Tryz.f121 2 [1,2] [] (fun ρ=>[pt (nb ρ 0),vF]) (fun ρ=>[(0,(nw ρ 0 (cL (cU a) 39)))]) (jE [[],[]]) (fun _=>?_)
 refine sD Tryz.f121 [0,0,3,7,15] 5 [2] [0] (fun _=>let qa:Value:=.bool (decide ((fJ a qP)<0));[U a,U qP,vi (fJ a qP),qa,qa]) (fun _=>[]) (cR [[0]]<|cC (fun _ w=>yC w)<|cC (fun _ w=>uN a qP w ha sW)<|jE [[],[]]) (fun _=>?_)
 refine aF ?_
 exact mR (v:=(.bool (decide ((fJ a qP)<0)))) (fun _ hS=>⟨jB (sc_dec a),hS.bel⟩)
theorem secret_any (x:Nat) (hx:x<M) (w0:World):Calls Tryz.prog 94 #[U x] w0 (jR (.bool (iM x)) w0):=by
 refine Calls.of_ok (n:=10) (F:=(fun _=>True)) Tryz.func94 rfl rfl rfl (by simp) jT ?_
 refine sS Tryz.f94 2 [1,2] [] (fun ρ=>[pt (nb ρ 0),vF]) (fun ρ=>[(0,(nw ρ 0 (cL (cU x) 39)))]) (jE [[],[]]) (fun _=>?_)
 rcases Bool.eq_false_or_eq_true (decide (x=0)) with hb1 | hb1
 ·
  refine sS Tryz.f94 8 [2] [0] (fun _=>[U x,U 0,vF,vF,undef,undef,vF,vF]) (fun _=>[]) (cR [[0],[]]<|cB (a:=fun ρ=>(U x)) (b:=fun ρ=>(U 0)) (v:=fun ρ=>vF) .neq 39 (fun _ _=>(neqU x 0 hx (by decide +kernel) _).trans (by rw [hb1];try rfl))<|jE [[],[],[],[],[]]) (fun _=>?_)
  refine aF ?_
  exact mR (v:=vF) (fun _ hS=>⟨jB (sec_0 hb1),hS.bel⟩)
 refine sS Tryz.f94 8 [2] [0] (fun _=>[U x,U 0,vT,vT,U x,.bool (scB x),.bool (scB x),.bool (scB x)]) (fun _=>[]) (cR [[0],[]]<|cB (a:=fun ρ=>(U x)) (b:=fun ρ=>(U 0)) (v:=fun ρ=>vT) .neq 39 (fun _ _=>(neqU x 0 hx (by decide +kernel) _).trans (by rw [hb1];try rfl))<|cR [[],[0]]<|cC (fun _ w=>scalarb_any x hx w)<|jE [[],[]]) (fun _=>?_)
 refine aF ?_
 exact mR (v:=(.bool (scB x))) (fun _ hS=>⟨jB (sec_1 hb1),hS.bel⟩)
theorem rsecret_any (x:Nat) (hx:x<M) (w0:World):Calls Tryz.prog 102 #[U x] w0 (jR (.bool (iM x)) w0):=by
 refine Calls.of_ok (n:=12) (F:=(fun _=>True)) Tryz.func102 rfl rfl rfl (by simp) jT ?_
 refine sS Tryz.f102 2 [1,2] [] (fun ρ=>[pt (nb ρ 0),vF]) (fun ρ=>[(0,(nw ρ 0 (cL (cU x) 39)))]) (jE [[],[]]) (fun _=>?_)
 rcases Bool.eq_false_or_eq_true (decide (x=0)) with hb1 | hb1
 ·
  refine sD Tryz.f102 [0,1,3,7,15,15,63,127,255,511] 10 [2] [0] (fun _=>[U x,vT,vF,vF,undef,undef,undef,undef,vF,vF]) (fun _=>[]) (cR [[0]]<|cC (f:=68) (args:=fun ρ=> #[U x]) (v:=fun ρ=>vT) (fun _ w=>by as_aux_lemma=>(have hcall:=(fun w=>iI x w hx) w;rw [hb1] at hcall;exact hcall))<|jE [[],[],[],[],[],[],[],[]]) (fun _=>?_)
  refine aF ?_
  exact mR (v:=vF) (fun _ hS=>⟨jB (sec_0 hb1),hS.bel⟩)
 refine sD Tryz.f102 [0,1,3,7,15,15,63,127,255,511] 10 [2] [0] (fun _=>let qa:Value:=.bool (decide ((fJ x qP)<0));[U x,vF,vT,vT,U x,U qP,vi (fJ x qP),qa,qa,qa]) (fun _=>[]) (cR [[0]]<|cC (f:=68) (args:=fun ρ=> #[U x]) (v:=fun ρ=>vF) (fun _ w=>by as_aux_lemma=>(have hcall:=(fun w=>iI x w hx) w;rw [hb1] at hcall;exact hcall))<|cR [[],[],[0]]<|cC (fun _ w=>wC w)<|cC (fun _ w=>qE x qP w hx sW)<|jE [[],[],[]]) (fun _=>?_)
 refine aF ?_
 exact mR (v:=(.bool (decide ((fJ x qP)<0)))) (fun _ hS=>⟨jB ((sc_dec x).trans (sec_1 hb1)),hS.bel⟩)
theorem yD (x:Nat) (hx:x<M) (w0:World):Calls Tryz.prog 61 #[U x] w0 (jR (.tuple #[U (dK x),vi (iW x)]) w0):=by
 refine Calls.of_ok (n:=10) (F:=(fun _=>True)) Tryz.func61 rfl rfl rfl (by simp) jT ?_
 refine sS Tryz.f61 3 [1,2,3] [] (fun ρ=>[pt (nb ρ 0),pt (nb ρ 1),vi 0]) (fun ρ=>[(0,(nw ρ 0 (cL (cU x) 39))),(1,(nw ρ 1 (cL (cU 0) 39)))]) (jE [[],[],[]]) (fun ρ1=>?_)
 refine aB ?_
 refine sS Tryz.f61 3 [1,2,3,6] [] (fun _=>[U x,.bool (iM x),.bool (!(iM x))]) (fun _=>[]) (cR [[0]]<|cC (fun _ w=>secret_any x hx w)<|jE [[]]) (fun _=>?_)
 refine oC (!(iM x)) (fun hb1=>?_) (fun hb1=>?_)
 ·
  rw [hb1]
  refine sS Tryz.f61 3 [1,2,3] [] (fun _=>[U 0,undef,vi 60]) (fun _=>[(1,(bD 1 (nb ρ1 1) (cL (cU 0) 39)))]) (jE [[],[1],[]]) (fun _=>?_)
  refine aF (aC ?_)
  exact mR (v:=(.tuple #[U 0,vi 60])) (ps:=[1,1,1,1]) (fun _ hS=>⟨by rw [(pub_no (dF hb1)).1,(pub_no (dF hb1)).2],hS.bel⟩)
 rw [hb1]
 refine aG (aA ?_)
 refine sS Tryz.f61 4 [2,3] [0,1] (fun _=>[U x,U (bK 4 x pP),undef,vi 0]) (fun _=>[(2,(bD 1 (nb ρ1 1) (cL (cU (bK 4 x pP)) 39)))]) (cR [[0]]<|cC (fun _ w=>gpower_any x w hx)<|jE [[1],[]]) (fun _=>?_)
 refine aF ?_
 exact mR (v:=(.tuple #[U (bK 4 x pP),vi 0])) (fun _ hS=>⟨by rw [(lZ (aV hb1)).1,(lZ (aV hb1)).2],hS.bel⟩)
theorem valid_any (p:Nat) (hp:p<M) (w0:World):Calls Tryz.prog 60 #[U p] w0 (jR (.bool (iY p)) w0):=by
 refine Calls.of_ok (n:=10) (F:=(fun _=>True)) Tryz.func60 rfl rfl rfl (by simp) jT ?_
 refine sS Tryz.f60 2 [1,2] [] (fun ρ=>[pt (nb ρ 0),vF]) (fun ρ=>[(0,(nw ρ 0 (cL (cU p) 39)))]) (jE [[],[]]) (fun _=>?_)
 rcases Bool.eq_false_or_eq_true (decide (p=1)) with hb1 | hb1
 ·
  refine sD Tryz.f60 [0,0,3,7,15,31,63,127] 8 [2] [0] (fun _=>[U p,U 1,vF,vF,undef,undef,vF,vF]) (fun _=>[]) (cR [[0]]<|cC (fun _ w=>lF 1 w (by decide))<|cB (a:=fun ρ=>(U p)) (b:=fun ρ=>(U 1)) (v:=fun ρ=>vF) .neq 39 (fun _ _=>(neqU p 1 hp (by decide +kernel) _).trans (by rw [hb1];try rfl))<|jE [[],[],[],[],[]]) (fun _=>?_)
  refine aF ?_
  exact mR (v:=vF) (fun _ hS=>⟨jB (val_0 hb1),hS.bel⟩)
 refine sD Tryz.f60 [0,0,3,7,15,31,63,127] 8 [2] [0] (fun _=>[U p,U 1,vT,vT,U p,.bool (mW p),.bool (mW p),.bool (mW p)]) (fun _=>[]) (cR [[0]]<|cC (fun _ w=>lF 1 w (by decide))<|cB (a:=fun ρ=>(U p)) (b:=fun ρ=>(U 1)) (v:=fun ρ=>vT) .neq 39 (fun _ _=>(neqU p 1 hp (by decide +kernel) _).trans (by rw [hb1];try rfl))<|cR [[],[0]]<|cC (fun _ w=>gmember_any p w hp)<|jE [[],[]]) (fun _=>?_)
 refine aF ?_
 exact mR (v:=(.bool (mW p))) (fun _ hS=>⟨jB (val_1 hb1),hS.bel⟩)
theorem tweak_any (p:Nat) (t:Nat) (hp:p<M) (ht:t<M) (w0:World):Calls Tryz.prog 66 #[U p,.agg (hB t)] w0 (jR (.tuple #[U (yS p t),vi (wY p t)]) w0):=by
 refine Calls.of_ok (n:=21) (F:=(fun _=>True)) Tryz.func66 rfl rfl rfl (by simp) jT ?_
 refine sS Tryz.f66 4 [2,3,4,5] [] (fun ρ=>[pt (nb ρ 0),pt (nb ρ 1),pt (nb ρ 2),vi 0]) (fun ρ=>[(0,(nw ρ 0 (cL (cU p) 39))),(1,(nw ρ 1 (cL (hB t) 43))),(2,(nw ρ 2 (cL (cU 0) 39)))]) (jE [[],[],[],[]]) (fun ρ1=>?_)
 refine aB ?_
 refine sS Tryz.f66 3 [2,3,4,5,9] [] (fun _=>[U p,.bool (iY p),.bool (!(iY p))]) (fun _=>[]) (cR [[0]]<|cC (fun _ w=>valid_any p hp w)<|jE [[]]) (fun _=>?_)
 refine oC (!(iY p)) (fun hb1=>?_) (fun hb1=>?_)
 ·
  rw [hb1]
  refine sS Tryz.f66 3 [2,3,4,5] [] (fun _=>[U 0,undef,vi 60]) (fun _=>[(1,(bD 2 (nb ρ1 2) (cL (cU 0) 39)))]) (jE [[],[2],[]]) (fun _=>?_)
  refine aF (aC ?_)
  exact mR (v:=(.tuple #[U 0,vi 60])) (ps:=[2,2,2,2]) (fun _ hS=>⟨by rw [(tw_a (dF hb1)).1,(tw_a (dF hb1)).2],hS.bel⟩)
 rw [hb1]
 refine aG (aA ?_)
 refine sD Tryz.f66 [0,0,2,6,15,0,63] 7 [4,5,6] [0,0,1,1] (fun ρ=>[U p,.agg (hB t),U (bC t 0 qP),U (bK 4 (bC t 0 qP) pP),U (bV p (bK 4 (bC t 0 qP) pP) pP),pt (nb ρ 5),undef]) (fun ρ=>[(5,(nw ρ 5 (cL (cU 0) 39))),(6,(bD 43 (nb ρ 5) (cL (cU (bV p (bK 4 (bC t 0 qP) pP) pP)) 39)))]) (cR [[0],[1]]<|cC (fun _ w=>gscalar_any t w ht)<|cC (f:=95) (args:=fun ρ=> #[U (bC t 0 qP)]) (v:=fun ρ=>(U (bK 4 (bC t 0 qP) pP))) (fun _ w=>(fun w=>gpower_any (bC t 0 qP) w (qI _ _ sW)) w)<|cC (f:=100) (args:=fun ρ=> #[U p,U (bK 4 (bC t 0 qP) pP)]) (v:=fun ρ=>(U (bV p (bK 4 (bC t 0 qP) pP) pP))) (fun _ w=>(fun w=>gmul_any p (bK 4 (bC t 0 qP) pP) w hp (vZ _ _ oV)) w)<|jE [[],[43]]) (fun _=>?_)
 refine aB ?_
 refine sD Tryz.f66 [0,0,3] 3 [4,5,6,18] [] (fun _=>[U (bV p (bK 4 (bC t 0 qP) pP) pP),U 1,.bool (decide (bV p (bK 4 (bC t 0 qP) pP) pP=1))]) (fun _=>[]) (cR [[1]]<|cC (fun _ w=>lF 1 w (by decide))<|cB (a:=fun ρ=>(U (bV p (bK 4 (bC t 0 qP) pP) pP))) (b:=fun ρ=>(U 1)) (v:=fun ρ=>(.bool (decide (bV p (bK 4 (bC t 0 qP) pP) pP=1)))) .eql 39 (fun _ _=>eqlU (bV p (bK 4 (bC t 0 qP) pP) pP) 1 (wE _ _ oV) (by decide +kernel) _)<|cN) (fun _=>?_)
 refine oC (decide (bV p (bK 4 (bC t 0 qP) pP) pP=1)) (fun hb2=>?_) (fun hb2=>?_)
 ·
  rw [hb2]
  refine sS Tryz.f66 3 [4,5,6] [] (fun _=>[U 0,undef,vi 5]) (fun _=>[(1,(bD 0 (nb ρ1 2) (cL (cU 0) 39)))]) (jE [[],[0],[]]) (fun _=>?_)
  refine aF (aC ?_)
  exact mR (v:=(.tuple #[U 0,vi 5])) (fun _ hS=>⟨by rw [(tw_b (t:=t) (aV hb1) (yT hb2)).1,(tw_b (t:=t) (aV hb1) (yT hb2)).2],hS.bel⟩)
 rw [hb2]
 refine aG (aA ?_)
 refine sS Tryz.f66 3 [4,5] [1,0] (fun _=>[U (bV p (bK 4 (bC t 0 qP) pP) pP),undef,vi 0]) (fun _=>[(1,(bD 0 (nb ρ1 2) (cL (cU (bV p (bK 4 (bC t 0 qP) pP) pP)) 39)))]) (jE [[1],[0],[]]) (fun _=>?_)
 refine aF ?_
 exact mR (v:=(.tuple #[U (bV p (bK 4 (bC t 0 qP) pP) pP),vi 0])) (fun _ hS=>⟨by rw [(tw_c (t:=t) (aV hb1) (yF hb2)).1,(tw_c (t:=t) (aV hb1) (yF hb2)).2];rfl,hS.bel⟩)
theorem uQ (x:Nat) (t:Nat) (hx:x<M) (ht:t<M) (w0:World):Calls Tryz.prog 65 #[U x,.agg (hB t)] w0 (jR (.tuple #[U (fO x t),vi (nY x t)]) w0):=by
 refine Calls.of_ok (n:=20) (F:=(fun _=>True)) Tryz.func65 rfl rfl rfl (by simp) jT ?_
 refine sS Tryz.f65 4 [2,3,4,5] [] (fun ρ=>[pt (nb ρ 0),pt (nb ρ 1),pt (nb ρ 2),vi 0]) (fun ρ=>[(0,(nw ρ 0 (cL (cU x) 39))),(1,(nw ρ 1 (cL (hB t) 43))),(2,(nw ρ 2 (cL (cU 0) 39)))]) (jE [[],[],[],[]]) (fun ρ1=>?_)
 refine aB ?_
 refine sS Tryz.f65 3 [2,3,4,5,9] [] (fun _=>[U x,.bool (iM x),.bool (!(iM x))]) (fun _=>[]) (cR [[0]]<|cC (fun _ w=>secret_any x hx w)<|jE [[]]) (fun _=>?_)
 refine oC (!(iM x)) (fun hb1=>?_) (fun hb1=>?_)
 ·
  rw [hb1]
  refine sS Tryz.f65 3 [2,3,4,5] [] (fun _=>[U 0,undef,vi 60]) (fun _=>[(1,(bD 2 (nb ρ1 2) (cL (cU 0) 39)))]) (jE [[],[2],[]]) (fun _=>?_)
  refine aF (aC ?_)
  exact mR (v:=(.tuple #[U 0,vi 60])) (ps:=[2,2,2,2]) (fun _ hS=>⟨by rw [(ts_a (dF hb1)).1,(ts_a (dF hb1)).2],hS.bel⟩)
 rw [hb1]
 refine aG (aA ?_)
 refine sD Tryz.f65 [0,0,2,7,0,31] 6 [4,5,6] [0,0,1,1] (fun ρ=>[U x,.agg (hB t),U (bC t 0 qP),U (bC x (bC t 0 qP) qP),pt (nb ρ 4),undef]) (fun ρ=>[(4,(nw ρ 4 (cL (cU 0) 39))),(5,(bD 35 (nb ρ 4) (cL (cU (bC x (bC t 0 qP) qP)) 39)))]) (cR [[0],[1]]<|cC (fun _ w=>gscalar_any t w ht)<|cC (f:=98) (args:=fun ρ=> #[U x,U (bC t 0 qP)]) (v:=fun ρ=>(U (bC x (bC t 0 qP) qP))) (fun _ w=>(fun w=>wH x (bC t 0 qP) w hx (qI _ _ sW)) w)<|jE [[],[35]]) (fun _=>?_)
 refine aB ?_
 refine sS Tryz.f65 3 [4,5,6,17] [] (fun _=>[U (bC x (bC t 0 qP) qP),U 0,.bool (decide (bC x (bC t 0 qP) qP=0))]) (fun _=>[]) (cR [[1],[]]<|cB (a:=fun ρ=>(U (bC x (bC t 0 qP) qP))) (b:=fun ρ=>(U 0)) (v:=fun ρ=>(.bool (decide (bC x (bC t 0 qP) qP=0)))) .eql 39 (fun _ _=>eqlU (bC x (bC t 0 qP) qP) 0 (qI _ _ sW) (by decide +kernel) _)<|cN) (fun _=>?_)
 refine oC (decide (bC x (bC t 0 qP) qP=0)) (fun hb2=>?_) (fun hb2=>?_)
 ·
  rw [hb2]
  refine sS Tryz.f65 3 [4,5,6] [] (fun _=>[U 0,undef,vi 5]) (fun _=>[(1,(bD 0 (nb ρ1 2) (cL (cU 0) 39)))]) (jE [[],[0],[]]) (fun _=>?_)
  refine aF (aC ?_)
  exact mR (v:=(.tuple #[U 0,vi 5])) (fun _ hS=>⟨by rw [(ts_b (t:=t) (aV hb1) (yT hb2)).1,(ts_b (t:=t) (aV hb1) (yT hb2)).2],hS.bel⟩)
 rw [hb2]
 refine aG (aA ?_)
 refine sS Tryz.f65 3 [4,5] [1,0] (fun _=>[U (bC x (bC t 0 qP) qP),undef,vi 0]) (fun _=>[(1,(bD 0 (nb ρ1 2) (cL (cU (bC x (bC t 0 qP) qP)) 39)))]) (jE [[1],[0],[]]) (fun _=>?_)
 refine aF ?_
 exact mR (v:=(.tuple #[U (bC x (bC t 0 qP) qP),vi 0])) (fun _ hS=>⟨by rw [(ts_c (t:=t) (aV hb1) (yF hb2)).1,(ts_c (t:=t) (aV hb1) (yF hb2)).2];rfl,hS.bel⟩)
theorem rE (x:Nat) (hx:x<M) (w0:World):Calls Tryz.prog 70 #[U x] w0 (jR (.tuple #[U (dK x),vi (iW x)]) w0):=by
 refine Calls.of_ok (n:=10) (F:=(fun _=>True)) Tryz.func70 rfl rfl rfl (by simp) jT ?_
 refine sS Tryz.f70 3 [1,2,3] [] (fun ρ=>[pt (nb ρ 0),pt (nb ρ 1),vi 0]) (fun ρ=>[(0,(nw ρ 0 (cL (cU x) 39))),(1,(nw ρ 1 (cL (cU 0) 39)))]) (jE [[],[],[]]) (fun ρ1=>?_)
 refine aB ?_
 refine sS Tryz.f70 3 [1,2,3,6] [] (fun _=>[U x,.bool (iM x),.bool (!(iM x))]) (fun _=>[]) (cR [[0]]<|cC (fun _ w=>rsecret_any x hx w)<|jE [[]]) (fun _=>?_)
 refine oC (!(iM x)) (fun hb1=>?_) (fun hb1=>?_)
 ·
  rw [hb1]
  refine sS Tryz.f70 3 [1,2,3] [] (fun _=>[U 0,undef,vi 60]) (fun _=>[(1,(bD 1 (nb ρ1 1) (cL (cU 0) 39)))]) (jE [[],[1],[]]) (fun _=>?_)
  refine aF (aC ?_)
  exact mR (v:=(.tuple #[U 0,vi 60])) (ps:=[1,1,1,1]) (fun _ hS=>⟨by rw [(pub_no (dF hb1)).1,(pub_no (dF hb1)).2],hS.bel⟩)
 rw [hb1]
 refine aG (aA ?_)
 refine sS Tryz.f70 4 [2,3] [0,1] (fun _=>[U x,U (bK 4 x pP),undef,vi 0]) (fun _=>[(2,(bD 1 (nb ρ1 1) (cL (cU (bK 4 x pP)) 39)))]) (cR [[0]]<|cC (fun _ w=>rgpower_any x w hx)<|jE [[1],[]]) (fun _=>?_)
 refine aF ?_
 exact mR (v:=(.tuple #[U (bK 4 x pP),vi 0])) (fun _ hS=>⟨by rw [(lZ (aV hb1)).1,(lZ (aV hb1)).2],hS.bel⟩)
theorem rvalid_any (p:Nat) (hp:p<M) (w0:World):Calls Tryz.prog 69 #[U p] w0 (jR (.bool (iY p)) w0):=by
 refine Calls.of_ok (n:=10) (F:=(fun _=>True)) Tryz.func69 rfl rfl rfl (by simp) jT ?_
 refine sS Tryz.f69 2 [1,2] [] (fun ρ=>[pt (nb ρ 0),vF]) (fun ρ=>[(0,(nw ρ 0 (cL (cU p) 39)))]) (jE [[],[]]) (fun _=>?_)
 rcases Bool.eq_false_or_eq_true (decide (p=1)) with hb1 | hb1
 ·
  refine sD Tryz.f69 [0,0,3,7,15,31,63,127] 8 [2] [0] (fun _=>[U p,U 1,vF,vF,undef,undef,vF,vF]) (fun _=>[]) (cR [[0]]<|cC (fun _ w=>iE 1 w (by decide))<|cB (a:=fun ρ=>(U p)) (b:=fun ρ=>(U 1)) (v:=fun ρ=>vF) .neq 39 (fun _ _=>(neqU p 1 hp (by decide +kernel) _).trans (by rw [hb1];try rfl))<|jE [[],[],[],[],[]]) (fun _=>?_)
  refine aF ?_
  exact mR (v:=vF) (fun _ hS=>⟨jB (val_0 hb1),hS.bel⟩)
 refine sD Tryz.f69 [0,0,3,7,15,31,63,127] 8 [2] [0] (fun _=>[U p,U 1,vT,vT,U p,.bool (mW p),.bool (mW p),.bool (mW p)]) (fun _=>[]) (cR [[0]]<|cC (fun _ w=>iE 1 w (by decide))<|cB (a:=fun ρ=>(U p)) (b:=fun ρ=>(U 1)) (v:=fun ρ=>vT) .neq 39 (fun _ _=>(neqU p 1 hp (by decide +kernel) _).trans (by rw [hb1];try rfl))<|cR [[],[0]]<|cC (fun _ w=>rgmember_any p w hp)<|jE [[],[]]) (fun _=>?_)
 refine aF ?_
 exact mR (v:=(.bool (mW p))) (fun _ hS=>⟨jB (val_1 hb1),hS.bel⟩)
theorem rtweak_any (p:Nat) (t:Nat) (hp:p<M) (ht:t<M) (w0:World):Calls Tryz.prog 78 #[U p,.agg (hB t)] w0 (jR (.tuple #[U (yS p t),vi (wY p t)]) w0):=by
 refine Calls.of_ok (n:=21) (F:=(fun _=>True)) Tryz.func78 rfl rfl rfl (by simp) jT ?_
 refine sS Tryz.f78 4 [2,3,4,5] [] (fun ρ=>[pt (nb ρ 0),pt (nb ρ 1),pt (nb ρ 2),vi 0]) (fun ρ=>[(0,(nw ρ 0 (cL (cU p) 39))),(1,(nw ρ 1 (cL (hB t) 43))),(2,(nw ρ 2 (cL (cU 0) 39)))]) (jE [[],[],[],[]]) (fun ρ1=>?_)
 refine aB ?_
 refine sS Tryz.f78 3 [2,3,4,5,9] [] (fun _=>[U p,.bool (iY p),.bool (!(iY p))]) (fun _=>[]) (cR [[0]]<|cC (fun _ w=>rvalid_any p hp w)<|jE [[]]) (fun _=>?_)
 refine oC (!(iY p)) (fun hb1=>?_) (fun hb1=>?_)
 ·
  rw [hb1]
  refine sS Tryz.f78 3 [2,3,4,5] [] (fun _=>[U 0,undef,vi 60]) (fun _=>[(1,(bD 2 (nb ρ1 2) (cL (cU 0) 39)))]) (jE [[],[2],[]]) (fun _=>?_)
  refine aF (aC ?_)
  exact mR (v:=(.tuple #[U 0,vi 60])) (ps:=[2,2,2,2]) (fun _ hS=>⟨by rw [(tw_a (dF hb1)).1,(tw_a (dF hb1)).2],hS.bel⟩)
 rw [hb1]
 refine aG (aA ?_)
 refine sD Tryz.f78 [0,0,2,6,15,0,63] 7 [4,5,6] [0,0,1,1] (fun ρ=>[U p,.agg (hB t),U (bC t 0 qP),U (bK 4 (bC t 0 qP) pP),U (bV p (bK 4 (bC t 0 qP) pP) pP),pt (nb ρ 5),undef]) (fun ρ=>[(5,(nw ρ 5 (cL (cU 0) 39))),(6,(bD 43 (nb ρ 5) (cL (cU (bV p (bK 4 (bC t 0 qP) pP) pP)) 39)))]) (cR [[0],[1]]<|cC (fun _ w=>zA t w ht)<|cC (f:=103) (args:=fun ρ=> #[U (bC t 0 qP)]) (v:=fun ρ=>(U (bK 4 (bC t 0 qP) pP))) (fun _ w=>(fun w=>rgpower_any (bC t 0 qP) w (qI _ _ sW)) w)<|cC (f:=110) (args:=fun ρ=> #[U p,U (bK 4 (bC t 0 qP) pP)]) (v:=fun ρ=>(U (bV p (bK 4 (bC t 0 qP) pP) pP))) (fun _ w=>(fun w=>rgmul_any p (bK 4 (bC t 0 qP) pP) w hp (vZ _ _ oV)) w)<|jE [[],[43]]) (fun _=>?_)
 refine aB ?_
 refine sD Tryz.f78 [0,0,3] 3 [4,5,6,18] [] (fun _=>[U (bV p (bK 4 (bC t 0 qP) pP) pP),U 1,.bool (decide (bV p (bK 4 (bC t 0 qP) pP) pP=1))]) (fun _=>[]) (cR [[1]]<|cC (fun _ w=>iE 1 w (by decide))<|cB (a:=fun ρ=>(U (bV p (bK 4 (bC t 0 qP) pP) pP))) (b:=fun ρ=>(U 1)) (v:=fun ρ=>(.bool (decide (bV p (bK 4 (bC t 0 qP) pP) pP=1)))) .eql 39 (fun _ _=>eqlU (bV p (bK 4 (bC t 0 qP) pP) pP) 1 (wE _ _ oV) (by decide +kernel) _)<|cN) (fun _=>?_)
 refine oC (decide (bV p (bK 4 (bC t 0 qP) pP) pP=1)) (fun hb2=>?_) (fun hb2=>?_)
 ·
  rw [hb2]
  refine sS Tryz.f78 3 [4,5,6] [] (fun _=>[U 0,undef,vi 5]) (fun _=>[(1,(bD 0 (nb ρ1 2) (cL (cU 0) 39)))]) (jE [[],[0],[]]) (fun _=>?_)
  refine aF (aC ?_)
  exact mR (v:=(.tuple #[U 0,vi 5])) (fun _ hS=>⟨by rw [(tw_b (t:=t) (aV hb1) (yT hb2)).1,(tw_b (t:=t) (aV hb1) (yT hb2)).2],hS.bel⟩)
 rw [hb2]
 refine aG (aA ?_)
 refine sS Tryz.f78 3 [4,5] [1,0] (fun _=>[U (bV p (bK 4 (bC t 0 qP) pP) pP),undef,vi 0]) (fun _=>[(1,(bD 0 (nb ρ1 2) (cL (cU (bV p (bK 4 (bC t 0 qP) pP) pP)) 39)))]) (jE [[1],[0],[]]) (fun _=>?_)
 refine aF ?_
 exact mR (v:=(.tuple #[U (bV p (bK 4 (bC t 0 qP) pP) pP),vi 0])) (fun _ hS=>⟨by rw [(tw_c (t:=t) (aV hb1) (yF hb2)).1,(tw_c (t:=t) (aV hb1) (yF hb2)).2];rfl,hS.bel⟩)
theorem sJ (x:Nat) (t:Nat) (hx:x<M) (ht:t<M) (w0:World):Calls Tryz.prog 77 #[U x,.agg (hB t)] w0 (jR (.tuple #[U (fO x t),vi (nY x t)]) w0):=by
 refine Calls.of_ok (n:=19) (F:=(fun _=>True)) Tryz.func77 rfl rfl rfl (by simp) jT ?_
 refine sS Tryz.f77 4 [2,3,4,5] [] (fun ρ=>[pt (nb ρ 0),pt (nb ρ 1),pt (nb ρ 2),vi 0]) (fun ρ=>[(0,(nw ρ 0 (cL (cU x) 39))),(1,(nw ρ 1 (cL (hB t) 43))),(2,(nw ρ 2 (cL (cU 0) 39)))]) (jE [[],[],[],[]]) (fun ρ1=>?_)
 refine aB ?_
 refine sS Tryz.f77 3 [2,3,4,5,9] [] (fun _=>[U x,.bool (iM x),.bool (!(iM x))]) (fun _=>[]) (cR [[0]]<|cC (fun _ w=>rsecret_any x hx w)<|jE [[]]) (fun _=>?_)
 refine oC (!(iM x)) (fun hb1=>?_) (fun hb1=>?_)
 ·
  rw [hb1]
  refine sS Tryz.f77 3 [2,3,4,5] [] (fun _=>[U 0,undef,vi 60]) (fun _=>[(1,(bD 2 (nb ρ1 2) (cL (cU 0) 39)))]) (jE [[],[2],[]]) (fun _=>?_)
  refine aF (aC ?_)
  exact mR (v:=(.tuple #[U 0,vi 60])) (ps:=[2,2,2,2]) (fun _ hS=>⟨by rw [(ts_a (dF hb1)).1,(ts_a (dF hb1)).2],hS.bel⟩)
 rw [hb1]
 refine aG (aA ?_)
 refine sD Tryz.f77 [0,0,2,7,0,31] 6 [4,5,6] [0,0,1,1] (fun ρ=>[U x,.agg (hB t),U (bC t 0 qP),U (bC x (bC t 0 qP) qP),pt (nb ρ 4),undef]) (fun ρ=>[(4,(nw ρ 4 (cL (cU 0) 39))),(5,(bD 35 (nb ρ 4) (cL (cU (bC x (bC t 0 qP) qP)) 39)))]) (cR [[0],[1]]<|cC (fun _ w=>zA t w ht)<|cC (f:=108) (args:=fun ρ=> #[U x,U (bC t 0 qP)]) (v:=fun ρ=>(U (bC x (bC t 0 qP) qP))) (fun _ w=>(fun w=>uP x (bC t 0 qP) w hx (qI _ _ sW)) w)<|jE [[],[35]]) (fun _=>?_)
 refine aB ?_
 refine sS Tryz.f77 2 [4,5,6,16] [] (fun _=>[U (bC x (bC t 0 qP) qP),.bool (decide (bC x (bC t 0 qP) qP=0))]) (fun _=>[]) (cR [[1]]<|cC (f:=68) (args:=fun ρ=> #[U (bC x (bC t 0 qP) qP)]) (v:=fun ρ=>(.bool (decide (bC x (bC t 0 qP) qP=0)))) (fun _ w=>(fun w=>iI (bC x (bC t 0 qP) qP) w (qI _ _ sW)) w)<|cN) (fun _=>?_)
 refine oC (decide (bC x (bC t 0 qP) qP=0)) (fun hb2=>?_) (fun hb2=>?_)
 ·
  rw [hb2]
  refine sS Tryz.f77 3 [4,5,6] [] (fun _=>[U 0,undef,vi 5]) (fun _=>[(1,(bD 0 (nb ρ1 2) (cL (cU 0) 39)))]) (jE [[],[0],[]]) (fun _=>?_)
  refine aF (aC ?_)
  exact mR (v:=(.tuple #[U 0,vi 5])) (fun _ hS=>⟨by rw [(ts_b (t:=t) (aV hb1) (yT hb2)).1,(ts_b (t:=t) (aV hb1) (yT hb2)).2],hS.bel⟩)
 rw [hb2]
 refine aG (aA ?_)
 refine sS Tryz.f77 3 [4,5] [1,0] (fun _=>[U (bC x (bC t 0 qP) qP),undef,vi 0]) (fun _=>[(1,(bD 0 (nb ρ1 2) (cL (cU (bC x (bC t 0 qP) qP)) 39)))]) (jE [[1],[0],[]]) (fun _=>?_)
 refine aF ?_
 exact mR (v:=(.tuple #[U (bC x (bC t 0 qP) qP),vi 0])) (fun _ hS=>⟨by rw [(ts_c (t:=t) (aV hb1) (yF hb2)).1,(ts_c (t:=t) (aV hb1) (yF hb2)).2];rfl,hS.bel⟩)
theorem yN (k:Ky) (hk:k.Ok) (w0:World):Calls Tryz.prog 35 #[.agg (kY k)] w0 (jR (.bool (fC k)) w0):=by
 refine Calls.of_ok (n:=37) (F:=(fun _=>True)) Tryz.func35 rfl rfl rfl (by simp) jT ?_
 refine sS Tryz.f35 2 [1,2] [] (fun ρ=>[pt (nb ρ 0),vF]) (fun ρ=>[(0,(nw ρ 0 (cL (kY k) 48)))]) (jE [[],[]]) (fun ρ1=>?_)
 refine aB ?_
 rcases Bool.eq_false_or_eq_true (decide (k.d<0)) with hb1 | hb1
 ·
  refine sS Tryz.f35 14 [1,2,18] [] (fun _=>[jp (nb ρ1 0) 40,vi k.d,vT,vT,undef,undef,undef,vT,vT,undef,undef,undef,undef,vT]) (fun _=>[]) (cR [[],[0]]<|cA (fun _=>vT) (fun _=>congrArg Value.bool hb1)<|jE [[],[],[],[],[],[],[],[],[],[],[]]) (fun _=>?_)
  refine oY ?_
  refine jJ Tryz.f35 1 [1,2] [vF] (aF (aC ?_))
  exact mR (v:=vF) (fun _ hS=>⟨jB (snd_end1 hb1),hS.bel⟩)
 rcases Bool.eq_false_or_eq_true (decide (8<k.d)) with hb2 | hb2
 ·
  refine sS Tryz.f35 14 [1,2,18] [] (fun _=>[jp (nb ρ1 0) 40,vi k.d,vF,vF,jp (nb ρ1 0) 40,vi k.d,vT,vT,vT,undef,undef,undef,undef,vT]) (fun _=>[]) (cR [[],[0]]<|cA (fun _=>vF) (fun _=>congrArg Value.bool hb1)<|cR [[],[],[0]]<|cA (fun _=>vT) (fun _=>congrArg Value.bool hb2)<|jE [[],[],[],[],[],[],[]]) (fun _=>?_)
  refine oY ?_
  refine jJ Tryz.f35 1 [1,2] [vF] (aF (aC ?_))
  exact mR (v:=vF) (fun _ hS=>⟨jB (snd_end2 hb1 hb2),hS.bel⟩)
 refine sS Tryz.f35 14 [1,2,18] [] (fun _=>[jp (nb ρ1 0) 40,vi k.d,vF,vF,jp (nb ρ1 0) 40,vi k.d,vF,vF,vF,jp (nb ρ1 0) 4,U k.p,.bool (iY k.p),.bool (!(iY k.p)),.bool (!(iY k.p))]) (fun _=>[]) (cR [[],[0]]<|cA (fun _=>vF) (fun _=>congrArg Value.bool hb1)<|cR [[],[],[0]]<|cA (fun _=>vF) (fun _=>congrArg Value.bool hb2)<|cR [[],[],[],[0]]<|cC (fun _ w=>valid_any k.p hk.p w)<|jE [[],[]]) (fun _=>?_)
 refine oC (!(iY k.p)) (fun hb3=>?_) (fun hb3=>?_)
 ·
  rw [hb3]
  refine jJ Tryz.f35 1 [1,2] [vF] (aF (aC ?_))
  exact mR (v:=vF) (fun _ hS=>⟨jB (snd_end3 hb1 hb2 (dF hb3)),hS.bel⟩)
 rw [hb3]
 refine aG (aA (aB ?_))
 refine sS Tryz.f35 4 [1,2,22] [] (fun _=>[pt (nb ρ1 0),U k.s,U 0,.bool (decide (k.s=0))]) (fun _=>[]) (cR [[],[0],[]]<|cB (a:=fun ρ=>(U k.s)) (b:=fun ρ=>(U 0)) (v:=fun ρ=>(.bool (decide (k.s=0)))) .eql 39 (fun _ _=>eqlU k.s 0 hk.s (by decide +kernel) _)<|cN) (fun _=>?_)
 refine oC (decide (k.s=0)) (fun hb4=>?_) (fun hb4=>?_)
 ·
  rw [hb4]
  refine jJ Tryz.f35 1 [1,2] [vT] (aF (aC ?_))
  exact mR (v:=vT) (fun _ hS=>⟨jB (snd_ok4 hb1 hb2 (aV hb3) hb4),hS.bel⟩)
 rw [hb4]
 refine aG (aA ?_)
 refine sS Tryz.f35 9 [1,2,3,4] [] (fun ρ=>[pt (nb ρ1 0),U k.s,.tuple #[U (dK k.s),vi (iW k.s)],.tuple #[U (dK k.s),vi (iW k.s)],U (dK k.s),vi (iW k.s),pt (nb ρ 6),undef,vi (iW k.s)]) (fun ρ=>[(6,(nw ρ 6 (cL (cU 0) 39))),(7,(bD 49 (nb ρ 6) (cL (cU (dK k.s)) 39)))]) (cR [[],[0]]<|cC (fun _ w=>yD k.s hk.s w)<|jE [[],[],[],[],[49],[]]) (fun _=>?_)
 rcases Bool.eq_false_or_eq_true ((iW k.s)==0) with hb5 | hb5
 ·
  refine sS Tryz.f35 9 [2] [0,0] (fun _=>let qa:Value:=.bool (decide (dK k.s=k.p));[vi (iW k.s),vT,vT,U (dK k.s),jp (nb ρ1 0) 4,U k.p,qa,qa,qa]) (fun _=>[]) (cR [[]]<|cA (fun _=>vT) (fun _=>congrArg Value.bool hb5)<|cR [[],[1],[],[0]]<|cB (a:=fun ρ=>(U (dK k.s))) (b:=fun ρ=>(U k.p)) (v:=fun ρ=>(.bool (decide (dK k.s=k.p)))) .eql 39 (fun _ _=>eqlU (dK k.s) k.p (pubV_lt _) hk.p _)<|jE [[],[]]) (fun _=>?_)
  refine aF ?_
  exact mR (v:=(.bool (decide (dK k.s=k.p)))) (fun _ hS=>⟨jB (snd_ok5 hb1 hb2 (aV hb3) hb4 hb5),hS.bel⟩)
 refine sS Tryz.f35 9 [2] [0,0] (fun _=>[vi (iW k.s),vF,vF,undef,undef,undef,undef,vF,vF]) (fun _=>[]) (cR [[]]<|cA (fun _=>vF) (fun _=>congrArg Value.bool hb5)<|jE [[],[],[],[],[],[],[]]) (fun _=>?_)
 refine aF ?_
 exact mR (v:=vF) (fun _ hS=>⟨jB (snd_end5 hb1 hb2 (aV hb3) hb4 hb5),hS.bel⟩)
theorem oQ (k:Ky) (hk:k.Ok) (w0:World):Calls Tryz.prog 40 #[.agg (kY k)] w0 (jR (.bool (fC k)) w0):=by
 refine Calls.of_ok (n:=36) (F:=(fun _=>True)) Tryz.func40 rfl rfl rfl (by simp) jT ?_
 refine sS Tryz.f40 2 [1,2] [] (fun ρ=>[pt (nb ρ 0),vF]) (fun ρ=>[(0,(nw ρ 0 (cL (kY k) 48)))]) (jE [[],[]]) (fun ρ1=>?_)
 refine aB ?_
 rcases Bool.eq_false_or_eq_true (decide (k.d<0)) with hb1 | hb1
 ·
  refine sS Tryz.f40 14 [1,2,18] [] (fun _=>[jp (nb ρ1 0) 40,vi k.d,vT,vT,undef,undef,undef,vT,vT,undef,undef,undef,undef,vT]) (fun _=>[]) (cR [[],[0]]<|cA (fun _=>vT) (fun _=>congrArg Value.bool hb1)<|jE [[],[],[],[],[],[],[],[],[],[],[]]) (fun _=>?_)
  refine oY ?_
  refine jJ Tryz.f40 1 [1,2] [vF] (aF (aC ?_))
  exact mR (v:=vF) (fun _ hS=>⟨jB (snd_end1 hb1),hS.bel⟩)
 rcases Bool.eq_false_or_eq_true (decide (8<k.d)) with hb2 | hb2
 ·
  refine sS Tryz.f40 14 [1,2,18] [] (fun _=>[jp (nb ρ1 0) 40,vi k.d,vF,vF,jp (nb ρ1 0) 40,vi k.d,vT,vT,vT,undef,undef,undef,undef,vT]) (fun _=>[]) (cR [[],[0]]<|cA (fun _=>vF) (fun _=>congrArg Value.bool hb1)<|cR [[],[],[0]]<|cA (fun _=>vT) (fun _=>congrArg Value.bool hb2)<|jE [[],[],[],[],[],[],[]]) (fun _=>?_)
  refine oY ?_
  refine jJ Tryz.f40 1 [1,2] [vF] (aF (aC ?_))
  exact mR (v:=vF) (fun _ hS=>⟨jB (snd_end2 hb1 hb2),hS.bel⟩)
 refine sS Tryz.f40 14 [1,2,18] [] (fun _=>[jp (nb ρ1 0) 40,vi k.d,vF,vF,jp (nb ρ1 0) 40,vi k.d,vF,vF,vF,jp (nb ρ1 0) 4,U k.p,.bool (iY k.p),.bool (!(iY k.p)),.bool (!(iY k.p))]) (fun _=>[]) (cR [[],[0]]<|cA (fun _=>vF) (fun _=>congrArg Value.bool hb1)<|cR [[],[],[0]]<|cA (fun _=>vF) (fun _=>congrArg Value.bool hb2)<|cR [[],[],[],[0]]<|cC (fun _ w=>rvalid_any k.p hk.p w)<|jE [[],[]]) (fun _=>?_)
 refine oC (!(iY k.p)) (fun hb3=>?_) (fun hb3=>?_)
 ·
  rw [hb3]
  refine jJ Tryz.f40 1 [1,2] [vF] (aF (aC ?_))
  exact mR (v:=vF) (fun _ hS=>⟨jB (snd_end3 hb1 hb2 (dF hb3)),hS.bel⟩)
 rw [hb3]
 refine aG (aA (aB ?_))
 refine sS Tryz.f40 3 [1,2,21] [] (fun _=>[pt (nb ρ1 0),U k.s,.bool (decide (k.s=0))]) (fun _=>[]) (cR [[],[0]]<|cC (fun _ w=>iI k.s w hk.s)<|cN) (fun _=>?_)
 refine oC (decide (k.s=0)) (fun hb4=>?_) (fun hb4=>?_)
 ·
  rw [hb4]
  refine jJ Tryz.f40 1 [1,2] [vT] (aF (aC ?_))
  exact mR (v:=vT) (fun _ hS=>⟨jB (snd_ok4 hb1 hb2 (aV hb3) hb4),hS.bel⟩)
 rw [hb4]
 refine aG (aA ?_)
 refine sS Tryz.f40 9 [1,2,3,4] [] (fun ρ=>[pt (nb ρ1 0),U k.s,.tuple #[U (dK k.s),vi (iW k.s)],.tuple #[U (dK k.s),vi (iW k.s)],U (dK k.s),vi (iW k.s),pt (nb ρ 6),undef,vi (iW k.s)]) (fun ρ=>[(6,(nw ρ 6 (cL (cU 0) 39))),(7,(bD 49 (nb ρ 6) (cL (cU (dK k.s)) 39)))]) (cR [[],[0]]<|cC (fun _ w=>rE k.s hk.s w)<|jE [[],[],[],[],[49],[]]) (fun _=>?_)
 rcases Bool.eq_false_or_eq_true ((iW k.s)==0) with hb5 | hb5
 ·
  refine sS Tryz.f40 9 [2] [0,0] (fun _=>let qa:Value:=.bool (decide (dK k.s=k.p));[vi (iW k.s),vT,vT,U (dK k.s),jp (nb ρ1 0) 4,U k.p,qa,qa,qa]) (fun _=>[]) (cR [[]]<|cA (fun _=>vT) (fun _=>congrArg Value.bool hb5)<|cR [[],[1],[],[0]]<|cB (a:=fun ρ=>(U (dK k.s))) (b:=fun ρ=>(U k.p)) (v:=fun ρ=>(.bool (decide (dK k.s=k.p)))) .eql 39 (fun _ _=>eqlU (dK k.s) k.p (pubV_lt _) hk.p _)<|jE [[],[]]) (fun _=>?_)
  refine aF ?_
  exact mR (v:=(.bool (decide (dK k.s=k.p)))) (fun _ hS=>⟨jB (snd_ok5 hb1 hb2 (aV hb3) hb4 hb5),hS.bel⟩)
 refine sS Tryz.f40 9 [2] [0,0] (fun _=>[vi (iW k.s),vF,vF,undef,undef,undef,undef,vF,vF]) (fun _=>[]) (cR [[]]<|cA (fun _=>vF) (fun _=>congrArg Value.bool hb5)<|jE [[],[],[],[],[],[],[]]) (fun _=>?_)
 refine aF ?_
 exact mR (v:=vF) (fun _ hS=>⟨jB (snd_end5 hb1 hb2 (aV hb3) hb4 hb5),hS.bel⟩)
def dm (v:Int) (n:Nat):Nat:=(v%(n:Int)).toNat
theorem dm_lt (v:Int) {n:Nat} (hn:0<n):dm v n<n:=by
  unfold dm
  have:=Int.emod_nonneg v (b:=(n:Int)) (by omega)
  have:=Int.emod_lt_of_pos v (b:=(n:Int)) (by omega)
  omega
def pN (zs:List Int) (j:Nat):Nat:=min j zs.length
def dN (zs:List Int) (j n:Nat):Nat:=if j<zs.length then dm (gI zs j) n else 0
theorem iG (zs:List Int) (j:Nat) {n:Nat} (hn:0<n):dN zs j n<n:=by
  unfold dN
  split
  · exact dm_lt _ hn
  · exact hn
theorem pN_zero (zs:List Int):pN zs 0=0:=Nat.zero_min _
theorem pN_lt {zs:List Int} {j:Nat} (h:pN zs j<zs.length):j<zs.length∧pN zs j=j:=by unfold pN at *;omega
theorem pN_ge {zs:List Int} {j:Nat} (h: ¬ pN zs j<zs.length): ¬ j<zs.length∧pN zs (j+1)=pN zs j:=by unfold pN at *;omega
theorem pN_succ {zs:List Int} {j:Nat} (h:pN zs j<zs.length):pN zs (j+1)=pN zs j+1:=by unfold pN at *;omega
theorem dN_yes {zs:List Int} {j n:Nat} (h:pN zs j<zs.length):dm (gI zs (pN zs j)) n=dN zs j n:=by
  obtain ⟨h1,h2⟩:=pN_lt h
  unfold dN
  rw [if_pos h1,h2]
theorem dN_no {zs:List Int} {j n:Nat} (h: ¬ pN zs j<zs.length):0=dN zs j n:=by
  unfold dN
  rw [if_neg (pN_ge h).1]
theorem mod_pos {v:Int} {n:Nat} (h: ¬ Int.tmod v n<0):Int.tmod v n=((dm v n:Nat):Int):=by
  unfold dm
  rcases Nat.eq_zero_or_pos n with h0 | h0
  · subst h0
    simp at h ⊢
    omega
  · have e := Int.emod_nonneg v (b := (n : Int)) (by omega)
    have e2:=Int.emod_lt_of_pos v (b:=(n:Int)) (by omega)
    have h2:=Int.tmod_eq_emod (a:=v) (b:=(n:Int))
    rw [Int.natAbs_natCast] at h2
    split at h2<;>omega
theorem mod_neg {v:Int} {n:Nat} (hn:0<n) (h:Int.tmod v n<0):Int.tmod v n+n=((dm v n:Nat):Int):=by
  unfold dm
  have e:=Int.emod_nonneg v (b:=(n:Int)) (by omega)
  have e2:=Int.emod_lt_of_pos v (b:=(n:Int)) (by omega)
  have h2:=Int.tmod_eq_emod (a:=v) (b:=(n:Int))
  rw [Int.natAbs_natCast] at h2
  split at h2<;>omega
def hs2 (a b:Nat):Nat:=a*256^31+b
theorem hs2_lt {a b:Nat} (ha:a<256) (hb:b<256):hs2 a b<M:=by
  unfold hs2
  rw [mQ]
  have:a*256^31≤255*256^31:=Nat.mul_le_mul_right _ (by omega)
  omega
theorem hs2_byt {a b:Nat} (ha:a<256) (hb:b<256) (i:Nat) (hi:i<32):bN (hs2 a b) i=if i=0 then a else if i=31 then b else 0:=by
  unfold bN hs2
  by_cases h0:i=0
  · subst h0
    rw [if_pos rfl]
    omega
  · rw [if_neg h0]
    by_cases h1:i=31
    · subst h1
      rw [if_pos rfl]
      omega
    · rw [if_neg h1]
      obtain ⟨j,hj⟩:∃ j,31-i=j+1:=⟨30-i,by omega⟩
      have e1:256^31=256^(31-i)*256^i:=by rw [← Nat.pow_add];congr 1;omega
      have e2:b / 256^(31-i)=0:=Nat.div_eq_of_lt (Nat.lt_of_lt_of_le hb (by rw [hj];exact Nat.le_self_pow (by omega) 256))
      rw [e1,Nat.mul_comm a,Nat.mul_assoc,Nat.mul_add_div (Nat.pow_pos (by decide)),e2,Nat.add_zero,Nat.mul_comm]
      obtain ⟨q,hq⟩:∃ q,i=q+1:=⟨i-1,by omega⟩
      rw [hq,Nat.pow_succ,← Nat.mul_assoc]
      exact Nat.mul_mod_left _ _
theorem hs2_agg {a b:Nat} (ha:a<256) (hb:b<256):Value.agg #[.int .u8 ((a:Nat):Int),.int .u8 0,.int .u8 0,.int .u8 0,.int .u8 0,.int .u8 0,.int .u8 0,.int .u8 0,.int .u8 0,.int .u8 0,.int .u8 0,.int .u8 0,.int .u8 0,.int .u8 0,.int .u8 0,.int .u8 0,.int .u8 0,.int .u8 0,.int .u8 0,.int .u8 0,.int .u8 0,.int .u8 0,.int .u8 0,.int .u8 0,.int .u8 0,.int .u8 0,.int .u8 0,.int .u8 0,.int .u8 0,.int .u8 0,.int .u8 0,.int .u8 ((b:Nat):Int)]=.agg (hB (hs2 a b)):=by
  congr 1
  apply hB_ext rfl
  intro j hj
  rw [byt_bN,hs2_byt ha hb j hj]
  match j,hj with
  | 0,_=>rfl
  | 1,_=>rfl
  | 2,_=>rfl
  | 3,_=>rfl
  | 4,_=>rfl
  | 5,_=>rfl
  | 6,_=>rfl
  | 7,_=>rfl
  | 8,_=>rfl
  | 9,_=>rfl
  | 10,_=>rfl
  | 11,_=>rfl
  | 12,_=>rfl
  | 13,_=>rfl
  | 14,_=>rfl
  | 15,_=>rfl
  | 16,_=>rfl
  | 17,_=>rfl
  | 18,_=>rfl
  | 19,_=>rfl
  | 20,_=>rfl
  | 21,_=>rfl
  | 22,_=>rfl
  | 23,_=>rfl
  | 24,_=>rfl
  | 25,_=>rfl
  | 26,_=>rfl
  | 27,_=>rfl
  | 28,_=>rfl
  | 29,_=>rfl
  | 30,_=>rfl
  | 31,_=>rfl
  | j+32,h=>exact absurd h (by omega)
def uT (zs:List Int) (j:Nat):Nat:=1+dN zs j 4
def mkK (zs:List Int) (j:Nat) (b:Bool):Ky:={ s:=if b=true then uT zs j else 0,p:=dK (uT zs j),c:=hs2 (dN zs (j+1) 5) (dN zs (j+2) 7),d:=((dN zs (j+3) 3:Nat):Int),i:=dN zs (j+4) 5,n:=dN zs (j+5) 5}
theorem mkX_pos (zs:List Int) (j:Nat):1≤uT zs j∧uT zs j<5:=by
  have:=iG zs j (n:=4) (by decide)
  unfold uT
  omega
theorem small_lt {x:Nat} (h:x<256):x<M:=by rw [mQ];exact Nat.lt_trans h (by decide)
theorem mkX_lt (zs:List Int) (j:Nat):uT zs j<M:=small_lt (by have:=mkX_pos zs j;omega)
theorem mkX_sec (zs:List Int) (j:Nat):iM (uT zs j)=true:=by
  have:=mkX_pos zs j
  unfold iM
  apply decide_eq_true
  exact ⟨by omega,Nat.lt_trans (show uT zs j<5 by omega) (by unfold qP;decide)⟩
theorem mkK_ok (zs:List Int) (j:Nat) (b:Bool):(mkK zs j b).Ok:=by
  have h1:=iG zs (j+1) (n:=5) (by decide)
  have h2:=iG zs (j+2) (n:=7) (by decide)
  have h4:=iG zs (j+4) (n:=5) (by decide)
  have h5:=iG zs (j+5) (n:=5) (by decide)
  exact ⟨ifM (mkX_lt _ _) iL,pubV_lt _,hs2_lt (by omega) (by omega),by show dN zs (j+4) 5<_;omega,by show dN zs (j+5) 5<_;omega⟩
theorem mkK_snd (zs:List Int) (j:Nat) (b:Bool):fC (mkK zs j b)=true:=by
  have h3:=iG zs (j+3) (n:=3) (by decide)
  have hs:=mkX_sec zs j
  refine snd_mk (by show 0≤((dN zs (j+3) 3:Nat):Int);omega) (by show ((dN zs (j+3) 3:Nat):Int)≤8;omega) ?_ ?_
  · show iY (dK (uT zs j)) = true
    rw [(lZ hs).1];exact val_pub hs
  · show (if b = true then uT zs j else 0) = 0 ∨ (iM (if b = true then uT zs j else 0) = true ∧ dK (if b = true then uT zs j else 0) = dK (uT zs j))
    cases b
    · exact Or.inl rfl
    · exact Or.inr ⟨hs,rfl⟩
theorem run_remI {P:Program} {t:TypeId} {v:Int} {n:Nat} (hn:0<n) (w:World):(binOp .rem t (.int .i64 v) (.int .i64 (n:Int))).run P w=.ok (.int .i64 (Int.tmod v (n:Int))) w:=by
  simp only [binOp,Op.intDiv,ne_eq,not_true_eq_false,if_false,if_neg (by omega: ¬ (n:Int)=0)]
  rfl
theorem mod_wrap {v:Int} {n:Nat} (hn:0<n∧n≤1099511627776) (h:Int.tmod v n<0):IntKind.i64.wrap (Int.tmod v (n:Int)+(n:Int))=((dm v n:Nat):Int):=by
  have h1:=mod_neg hn.1 h
  have h2:=dm_lt v hn.1
  rw [h1]
  exact gZ (by omega)
def Z64 (zs:List Int):Prop:=∀ z∈zs,-9223372036854775808≤z∧z<9223372036854775808
theorem Z64.get {zs:List Int} (h:Z64 zs) (i:Nat): -9223372036854775808≤gI zs i∧gI zs i<9223372036854775808:=by
  unfold gI
  by_cases hi:i<zs.length
  · rw [List.getD_eq_getElem?_getD, List.getElem?_eq_getElem hi]
    exact h _ (List.getElem_mem hi)
  · rw [List.getD_eq_getElem?_getD, List.getElem?_eq_none (by omega)]
    decide
theorem pN_wrap {zs:List Int} {j:Nat} (hl:zs.length≤140737488351232) (h:((pN zs j:Nat):Int)<((zs.length:Nat):Int)):IntKind.i64.wrap (((pN zs j:Nat):Int)+1)=((pN zs (j+1):Nat):Int):=by
  have h1:=pN_succ (zs:=zs) (j:=j) (by omega)
  rw [h1,gZ (by omega)]
  omega
theorem pN_back {zs:List Int} {j:Nat} (hl:zs.length≤140737488351232) (h:((pN zs j:Nat):Int)<((zs.length:Nat):Int)):IntKind.i64.wrap (((pN zs (j+1):Nat):Int)-1)=((pN zs j:Nat):Int):=by
  have h1:=pN_succ (zs:=zs) (j:=j) (by omega)
  rw [h1,gZ (by omega)]
  omega
theorem mod_any (v:Int) (n:Nat) (hn:0<n∧n≤1099511627776) (__hv: -9223372036854775808≤v∧v<9223372036854775808) (w0:World):Calls Tryz.prog 8 #[vi v,vn n] w0 (jR (vn (dm v n)) w0):=by
 refine Calls.of_ok (n:=15) (F:=(fun _=>True)) Tryz.func8 rfl rfl rfl (by simp) jT ?_
 refine jJ Tryz.f8 1 [0,1,4] [vi 0] ?_
 refine sS Tryz.f8 4 [1,4,5] [] (fun _=>let qa:=vi (Int.tmod v ((n:Nat):Int));[vi v,vn n,qa,qa]) (fun _=>[]) (cR [[],[]]<|cB (a:=fun ρ=>(vi v)) (b:=fun ρ=>(vn n)) (v:=fun ρ=>(vi (Int.tmod v ((n:Nat):Int)))) .rem 3 (fun _ w=>run_remI hn.1 w)<|jE [[]]) (fun _=>?_)
 refine aB (jJ Tryz.f8 2 [1,4,5,10] [vi (Int.tmod v ((n:Nat):Int)),.bool (decide ((Int.tmod v ((n:Nat):Int))<0))] ?_)
 refine oC (decide ((Int.tmod v ((n:Nat):Int))<0)) (fun hb1=>?_) (fun hb1=>?_)
 ·
  rw [hb1]
  refine rS Tryz.f8 4 [4,5] [] (fun _=>[vi (Int.tmod v ((n:Nat):Int)),vn n,vn (dm v n),vn (dm v n)]) (fun _=>[]) (cR [[],[]]<|cA (fun _=>(vn (dm v n))) (fun _=>jI (mod_wrap hn (yT hb1)))<|jE [[]]) (fun _=>?_)
  refine aA (jJ Tryz.f8 2 [4] [vn (dm v n),vn (dm v n)] (aF ?_))
  exact mR (v:=(vn (dm v n))) (fun _ hS=>⟨rfl,hS.bel⟩)
 rw [hb1]
 refine aG (aA (jJ Tryz.f8 2 [4] (let qa:=vi (Int.tmod v ((n:Nat):Int));[qa,qa]) (aF ?_)))
 exact mR (v:=(vi (Int.tmod v ((n:Nat):Int)))) (fun _ hS=>⟨congrArg (fun x=>Ending.returned (vi x)) (mod_pos (yF hb1)),hS.bel⟩)
theorem left_any (g:Nat) (a:Option Addr) (c:Nat) (zs:List Int) (j:Nat) (w0:World) (hf0:Kb w0 g #[.slice a zs.length c,vn (pN zs j)]):Calls Tryz.prog 30 #[pt g] w0 (jR (.bool (decide (((pN zs j:Nat):Int)<((zs.length:Nat):Int)))) w0):=by
 refine Calls.of_ok (n:=13) (F:=(fun w=>Kb w g #[.slice a zs.length c,vn (pN zs j)]∧True)) Tryz.func30 rfl rfl rfl (by simp) (hf0.pers0.and cO) ?_
 refine jJ Tryz.f30 1 [0,2] [vF] ?_
 refine sD Tryz.f30 [0,1,3,7,0,16,48,112,240,511,1023] 11 [2] [] (fun _=>let qa:Value:=.bool (decide (((pN zs j:Nat):Int)<((zs.length:Nat):Int)));[pt g,pt g,jp g 1,vn (pN zs j),pt g,pt g,pt g,.slice a zs.length c,vn zs.length,qa,qa]) (fun _=>[]) (cR [[],[],[]]<|cX (qF (v:=fun ρ=>(vn (pN zs j))) (fun _ _ _ hG=>mY (off:=1) Tryz.isAgg3 hG.fn.1 (rfl)))<|cR [[],[],[]]<|cX (qF (v:=fun ρ=>(.slice a zs.length c)) (fun _ _ _ hG=>mY (off:=0) Tryz.isAgg22 hG.fn.1 (rfl)))<|jE [[],[],[]]) (fun _=>?_)
 refine aF ?_
 exact mR (v:=(.bool (decide (((pN zs j:Nat):Int)<((zs.length:Nat):Int))))) (fun _ hS=>⟨rfl,hS.bel⟩)
theorem next_any (g:Nat) (a:Option Addr) (c:Nat) (zs:List Int) (j:Nat) (n:Nat) (hn:0<n∧n≤1099511627776) (hz:Z64 zs) (w0:World) (hK:Knows [(g,(cL #[.slice a zs.length c,vn (pN zs j)] 59))] w0) (hP:dL (fun b=>b∈([(g,(cL #[.slice a zs.length c,vn (pN zs j)] 59))]:List (Nat × Obj)).map (·.1)) (fun w=>Is w .i64 a c zs∧True) w0):Calls Tryz.prog 17 #[pt g,vn n] w0 (fun ε w'=>ε=.returned (vn (dN zs j n))∧nN (fun b=>b∈([(g,(cL #[.slice a zs.length c,vn (pN zs j)] 59))]:List (Nat × Obj)).map (·.1)) w0 w'∧Knows [(g,(cL #[.slice a zs.length c,vn (pN zs (j+1))] 59))] w'):=by
 refine Calls.of_okW (n:=28) (F:=(fun w=>Is w .i64 a c zs∧True)) [(g,(cL #[.slice a zs.length c,vn (pN zs j)] 59))] Tryz.func17 rfl rfl rfl (by simp) hK (by simp) hP ?_
 have hlen:zs.length≤140737488351232:=hP.now.1.max
 refine jJ Tryz.f17 1 [0,1,4] [vi 0] (aB ?_)
 refine sS Tryz.f17 3 [0,1,4,7] [] (fun _=>[pt g,.bool (decide (((pN zs j:Nat):Int)<((zs.length:Nat):Int))),.bool (!(decide (((pN zs j:Nat):Int)<((zs.length:Nat):Int))))]) (fun _=>[]) (cR [[]]<|cX (qC (fun _ _ w hG=>left_any g a c zs j w (Kb.of_block (hG.kn (g:=g) (o:=(cL #[.slice a zs.length c,vn (pN zs j)] 59)) 0))))<|jE [[]]) (fun _=>?_)
 refine oC (!(decide (((pN zs j:Nat):Int)<((zs.length:Nat):Int)))) (fun hb1=>?_) (fun hb1=>?_)
 ·
  rw [hb1]
  refine jJ Tryz.f17 1 [0,1,4] [vi 0] (aF (aC ?_))
  exact mR (v:=(vi 0)) (fun _ hS=>⟨congrArg (fun x=>Ending.returned (vi x)) (congrArg (fun z:Nat=>(z:Int)) (dN_no (fun h=>absurd (Int.ofNat_lt.2 h) (yF (dF hb1))))),hS.below,(by rw [(pN_ge (fun h=>absurd (Int.ofNat_lt.2 h) (yF (dF hb1)))).2];exact hS.knows [1])⟩)
 rw [hb1]
 refine aG (aA ?_)
 refine sS Tryz.f17 8 [0,1,4] [] (fun _=>[pt g,pt g,jp g 1,vn (pN zs j),vn (pN zs (j+1)),pt g,jp g 1,undef]) (fun _=>[(7,(bD 0 g (cL #[.slice a zs.length c,vn (pN zs (j+1))] 59)))]) (cR [[],[],[],[0]]<|cA (fun _=>(vn (pN zs (j+1)))) (fun _=>jI (pN_wrap hlen (yT (aV hb1))))<|jE [[],[],[0]]) (fun _=>?_)
 refine sD Tryz.f17 [0,1,3,7,0,16,48,112,240,511,1023,0,4095,8191] 14 [4] [] (fun _=>let qa:=vn (dm (gI zs (pN zs j)) n);[pt g,pt g,pt g,.slice a zs.length c,pt g,pt g,jp g 1,vn (pN zs (j+1)),vn (pN zs j),.pointer (fK a (pN zs j)),vi (gI zs (pN zs j)),vn n,qa,qa]) (fun _=>[]) (cR [[],[],[],[0],[],[],[],[0]]<|cA (fun _=>(vn (pN zs j))) (fun _=>jI (pN_back hlen (yT (aV hb1))))<|cX (qF (fun _ _ _ hG=>o6 (k:=.i64) Tryz.underlying22 Tryz.sizeOf3 hG.fn.1 rfl (show ((pN zs j:Nat):Int)=((pN zs j:Nat):Int) from rfl) (show pN zs j<zs.length from (Int.ofNat_lt.1 (yT (aV hb1))))))<|cX (qF (fun _ _ _ hG=>rG Tryz.isAgg3 hG.fn.1 (show pN zs j<zs.length from (Int.ofNat_lt.1 (yT (aV hb1))))))<|cR [[]]<|cC (f:=8) (args:=fun ρ=> #[vi (gI zs (pN zs j)),vn n]) (v:=fun ρ=>(vn (dm (gI zs (pN zs j)) n))) (fun _ w=>(fun w=>mod_any (gI zs (pN zs j)) n hn (hz.get _) w) w)<|jE [[]]) (fun _=>?_)
 refine aF ?_
 exact mR (v:=(vn (dm (gI zs (pN zs j)) n))) (fun _ hS=>⟨congrArg (fun x=>Ending.returned (vi x)) (congrArg (fun z:Nat=>(z:Int)) (dN_yes (Int.ofNat_lt.1 (yT (aV hb1))))),hS.below,hS.knows [1]⟩)
theorem range_any (g:Nat) (a:Option Addr) (c:Nat) (zs:List Int) (j:Nat) (lo:Nat) (hi:Nat) (hlh:lo≤hi∧hi≤1000000) (hz:Z64 zs) (w0:World) (hK:Knows [(g,(cL #[.slice a zs.length c,vn (pN zs j)] 59))] w0) (hP:dL (fun b=>b∈([(g,(cL #[.slice a zs.length c,vn (pN zs j)] 59))]:List (Nat × Obj)).map (·.1)) (fun w=>Is w .i64 a c zs∧True) w0):Calls Tryz.prog 20 #[pt g,vn lo,vn hi] w0 (fun ε w'=>ε=.returned (vn (lo+dN zs j (hi-lo+1)))∧nN (fun b=>b∈([(g,(cL #[.slice a zs.length c,vn (pN zs j)] 59))]:List (Nat × Obj)).map (·.1)) w0 w'∧Knows [(g,(cL #[.slice a zs.length c,vn (pN zs (j+1))] 59))] w'):=by
 refine Calls.of_okW (n:=15) (F:=(fun w=>Is w .i64 a c zs∧True)) [(g,(cL #[.slice a zs.length c,vn (pN zs j)] 59))] Tryz.func20 rfl rfl rfl (by simp) hK (by simp) hP ?_
 refine jJ Tryz.f20 1 [0,1,2,6] [vi 0] ?_
 refine sS Tryz.f20 9 [6] [] (fun _=>let qa:=vn (lo+dN zs j (hi-lo+1));[vn lo,pt g,vn hi,vn lo,vn (hi-lo),vn (hi-lo+1),vn (dN zs j (hi-lo+1)),qa,qa]) (fun _=>[(6,(bD 0 g (cL #[.slice a zs.length c,vn (pN zs (j+1))] 59)))]) (cR [[],[],[],[]]<|jW (fun ρ=>(((hi:Nat):Int)-((lo:Nat):Int))) (fun _=>(hi-lo)) (fun _=>((gZ (by omega)).trans (by omega)))<|jW (fun ρ=>(((hi-lo:Nat):Int)+1)) (fun _=>(hi-lo+1)) (fun _=>((gZ (by omega)).trans (by omega)))<|cX (qW [0] (fun _ _ w hG hK=>next_any g a c zs j (hi-lo+1) (by omega) hz w hK (hG.pK [0] (fun _ hF=>⟨hF.1,trivial⟩))))<|jW (fun ρ=>(((lo:Nat):Int)+((dN zs j (hi-lo+1):Nat):Int))) (fun _=>(lo+dN zs j (hi-lo+1))) (fun _=>((gZ (by have:=iG zs j (n:=hi-lo+1) (by omega);omega)).trans (by omega)))<|jE [[]]) (fun _=>?_)
 refine aF ?_
 exact mR (v:=(vn (lo+dN zs j (hi-lo+1)))) (fun _ hS=>⟨rfl,hS.below,hS.knows [1]⟩)
theorem msecret_any (g:Nat) (a:Option Addr) (c:Nat) (zs:List Int) (j:Nat) (hz:Z64 zs) (w0:World) (hK:Knows [(g,(cL #[.slice a zs.length c,vn (pN zs j)] 59))] w0) (hP:dL (fun b=>b∈([(g,(cL #[.slice a zs.length c,vn (pN zs j)] 59))]:List (Nat × Obj)).map (·.1)) (fun w=>Is w .i64 a c zs∧True) w0):Calls Tryz.prog 56 #[pt g] w0 (fun ε w'=>ε=.returned (U (uT zs j))∧nN (fun b=>b∈([(g,(cL #[.slice a zs.length c,vn (pN zs j)] 59))]:List (Nat × Obj)).map (·.1)) w0 w'∧Knows [(g,(cL #[.slice a zs.length c,vn (pN zs (j+1))] 59))] w'):=by
 refine Calls.of_okW (n:=7) (F:=(fun w=>Is w .i64 a c zs∧True)) [(g,(cL #[.slice a zs.length c,vn (pN zs j)] 59))] Tryz.func56 rfl rfl rfl (by simp) hK (by simp) hP ?_
 refine sS Tryz.f56 1 [0,2] [] (fun ρ=>[pt (nb ρ 0)]) (fun ρ=>[(0,(nw ρ 0 (cL (cU 0) 39)))]) (jE [[]]) (fun ρ1=>?_)
 refine sS Tryz.f56 5 [2] [] (fun _=>[pt g,vn (1+dN zs j 4),vx (1+dN zs j 4),U (1+dN zs j 4),undef]) (fun _=>[(1,(bD 0 g (cL #[.slice a zs.length c,vn (pN zs (j+1))] 59))),(4,(bD 1 (nb ρ1 0) (cL (cU (1+dN zs j 4)) 39)))]) (cR [[]]<|cX (qW [0] (fun _ _ w hG hK=>range_any g a c zs j 1 4 (by decide) hz w hK (hG.pK [0] (fun _ hF=>⟨hF.1,trivial⟩))))<|cA (v:=fun ρ=>(.int .u64 (IntKind.u64.wrap ((1+dN zs j 4:Nat):Int)))) (fun _=>(vx (1+dN zs j 4))) (fun _=>congrArg (Value.int .u64) (u64N (by have h:=mkX_pos zs j;unfold uT at h;omega)))<|cC (fun _ w=>iE (1+dN zs j 4) w (by have h:=mkX_pos zs j;unfold uT at h;omega))<|jE [[1]]) (fun _=>?_)
 refine aF ?_
 exact mR (v:=(U (1+dN zs j 4))) (ps:=[1,1,1,1]) (fun _ hS=>⟨rfl,hS.below,hS.knows [1,0]⟩)
theorem mpublic_any (x:Nat) (hx:x<M) (w0:World):Calls Tryz.prog 57 #[U x] w0 (jR (U (dK x)) w0):=by
 refine Calls.of_ok (n:=11) (F:=(fun _=>True)) Tryz.func57 rfl rfl rfl (by simp) jT ?_
 refine sS Tryz.f57 2 [1,2] [] (fun ρ=>[pt (nb ρ 0),pt (nb ρ 1)]) (fun ρ=>[(0,(nw ρ 0 (cL (cU x) 39))),(1,(nw ρ 1 (cL (cU 0) 39)))]) (jE [[],[]]) (fun ρ1=>?_)
 refine sS Tryz.f57 8 [2,3] [0,1,1] (fun ρ=>[U x,.tuple #[U (dK x),vi (iW x)],.tuple #[U (dK x),vi (iW x)],U (dK x),vi (iW x),pt (nb ρ 5),undef,vi (iW x)]) (fun ρ=>[(5,(nw ρ 5 (cL (cU 0) 39))),(6,(bD 42 (nb ρ 5) (cL (cU (dK x)) 39)))]) (cR [[0]]<|cC (fun _ w=>rE x hx w)<|jE [[],[],[],[],[42],[]]) (fun _=>?_)
 refine sS Tryz.f57 2 [2] [1,0] (fun _=>[U (dK x),undef]) (fun _=>[(1,(bD 0 (nb ρ1 1) (cL (cU (dK x)) 39)))]) (jE [[1],[0]]) (fun _=>?_)
 refine aF ?_
 exact mR (v:=(U (dK x))) (fun _ hS=>⟨rfl,hS.bel⟩)
theorem mhash_any (g:Nat) (a:Option Addr) (c:Nat) (zs:List Int) (j:Nat) (hz:Z64 zs) (w0:World) (hK:Knows [(g,(cL #[.slice a zs.length c,vn (pN zs j)] 59))] w0) (hP:dL (fun b=>b∈([(g,(cL #[.slice a zs.length c,vn (pN zs j)] 59))]:List (Nat × Obj)).map (·.1)) (fun w=>Is w .i64 a c zs∧True) w0):Calls Tryz.prog 18 #[pt g] w0 (fun ε w'=>ε=.returned (.agg (hB (hs2 (dN zs j 5) (dN zs (j+1) 7))))∧nN (fun b=>b∈([(g,(cL #[.slice a zs.length c,vn (pN zs j)] 59))]:List (Nat × Obj)).map (·.1)) w0 w'∧Knows [(g,(cL #[.slice a zs.length c,vn (pN zs (j+2))] 59))] w'):=by
 refine Calls.of_okW (n:=10) (F:=(fun w=>Is w .i64 a c zs∧True)) [(g,(cL #[.slice a zs.length c,vn (pN zs j)] 59))] Tryz.func18 rfl rfl rfl (by simp) hK (by simp) hP ?_
 refine sS Tryz.f18 1 [0,2] [] (fun ρ=>[pt (nb ρ 0)]) (fun ρ=>[(0,(nw ρ 0 (cL (hB 0) 43)))]) (jE [[]]) (fun ρ1=>?_)
 refine sS Tryz.f18 8 [2] [] (fun _=>[pt g,vn (dN zs j 5),vy (dN zs j 5),pt g,vn (dN zs (j+1) 7),vy (dN zs (j+1) 7),.agg (hB (hs2 (dN zs j 5) (dN zs (j+1) 7))),undef]) (fun _=>[(1,(bD 0 g (cL #[.slice a zs.length c,vn (pN zs (j+1))] 59))),(4,(bD 0 g (cL #[.slice a zs.length c,vn (pN zs (j+2))] 59))),(7,(bD 1 (nb ρ1 0) (cL (hB (hs2 (dN zs j 5) (dN zs (j+1) 7))) 43)))]) (cR [[]]<|cX (qW [0] (fun _ _ w hG hK=>next_any g a c zs j 5 (by decide) hz w hK (hG.pK [0] (fun _ hF=>⟨hF.1,trivial⟩))))<|cA (v:=fun ρ=>(.int .u8 (IntKind.u8.wrap ((dN zs j 5:Nat):Int)))) (fun _=>(vy (dN zs j 5))) (fun _=>congrArg (Value.int .u8) (u8N (Nat.lt_of_lt_of_le (iG zs j (by decide)) (by decide))))<|cR [[]]<|cX (qW [0] (fun _ _ w hG hK=>next_any g a c zs (j+1) 7 (by decide) hz w hK (hG.pK [0] (fun _ hF=>⟨hF.1,trivial⟩))))<|cA (v:=fun ρ=>(.int .u8 (IntKind.u8.wrap ((dN zs (j+1) 7:Nat):Int)))) (fun _=>(vy (dN zs (j+1) 7))) (fun _=>congrArg (Value.int .u8) (u8N (Nat.lt_of_lt_of_le (iG zs (j+1) (by decide)) (by decide))))<|cA (v:=fun ρ=>(.agg #[vy (dN zs j 5),.int .u8 0,.int .u8 0,.int .u8 0,.int .u8 0,.int .u8 0,.int .u8 0,.int .u8 0,.int .u8 0,.int .u8 0,.int .u8 0,.int .u8 0,.int .u8 0,.int .u8 0,.int .u8 0,.int .u8 0,.int .u8 0,.int .u8 0,.int .u8 0,.int .u8 0,.int .u8 0,.int .u8 0,.int .u8 0,.int .u8 0,.int .u8 0,.int .u8 0,.int .u8 0,.int .u8 0,.int .u8 0,.int .u8 0,.int .u8 0,vy (dN zs (j+1) 7)])) (fun _=>(.agg (hB (hs2 (dN zs j 5) (dN zs (j+1) 7))))) (fun _=>hs2_agg (Nat.lt_of_lt_of_le (iG zs j (by decide)) (by decide)) (Nat.lt_of_lt_of_le (iG zs (j+1) (by decide)) (by decide)))<|jE [[1]]) (fun _=>?_)
 refine aF ?_
 exact mR (v:=(.agg (hB (hs2 (dN zs j 5) (dN zs (j+1) 7))))) (ps:=[1,1,1,1,1,1,1,1,1,1,1,1,1,1,1,1,1,1,1,1,1,1,1,1,1,1,1,1,1,1,1,1]) (fun _ hS=>⟨rfl,hS.below,hS.knows [1,0]⟩)
theorem mkey_any (g:Nat) (a:Option Addr) (c:Nat) (zs:List Int) (j:Nat) (pv:Bool) (hz:Z64 zs) (w0:World) (hK:Knows [(g,(cL #[.slice a zs.length c,vn (pN zs j)] 59))] w0) (hP:dL (fun b=>b∈([(g,(cL #[.slice a zs.length c,vn (pN zs j)] 59))]:List (Nat × Obj)).map (·.1)) (fun w=>Is w .i64 a c zs∧True) w0):Calls Tryz.prog 31 #[pt g,.bool pv] w0 (fun ε w'=>ε=.returned (.agg (kY (mkK zs j pv)))∧nN (fun b=>b∈([(g,(cL #[.slice a zs.length c,vn (pN zs j)] 59))]:List (Nat × Obj)).map (·.1)) w0 w'∧Knows [(g,(cL #[.slice a zs.length c,vn (pN zs (j+6))] 59))] w'):=by
 refine Calls.of_okW (n:=26) (F:=(fun w=>Is w .i64 a c zs∧True)) [(g,(cL #[.slice a zs.length c,vn (pN zs j)] 59))] Tryz.func31 rfl rfl rfl (by simp) hK (by simp) hP ?_
 refine sS Tryz.f31 1 [0,1,4] [] (fun ρ=>[pt (nb ρ 0)]) (fun ρ=>[(0,(nw ρ 0 (cL (kC 0 0 0 0 0 0) 48)))]) (jE [[]]) (fun ρ1=>?_)
 refine sS Tryz.f31 4 [0,1,4,5] [] (fun ρ=>[pt g,U (uT zs j),pt (nb ρ 2),undef]) (fun ρ=>[(1,(bD 0 g (cL #[.slice a zs.length c,vn (pN zs (j+1))] 59))),(2,(nw ρ 2 (cL (cU 0) 39))),(3,(bD 18 (nb ρ 2) (cL (cU (uT zs j)) 39)))]) (cR [[]]<|cX (qW [0] (fun _ _ w hG hK=>msecret_any g a c zs j  hz w hK (hG.pK [0] (fun _ hF=>⟨hF.1,trivial⟩))))<|jE [[],[18]]) (fun _=>?_)
 refine sS Tryz.f31 15 [1,4,5,6] [] (fun ρ=>[U (uT zs j),U (dK (uT zs j)),pt g,.agg (hB (hs2 (dN zs (j+1) 5) (dN zs (j+2) 7))),pt g,vn (dN zs (j+3) 3),pt g,vn (dN zs (j+4) 5),vu (dN zs (j+4) 5),pt g,vn (dN zs (j+5) 5),vu (dN zs (j+5) 5),.agg (kC 0 (dK (uT zs j)) (hs2 (dN zs (j+1) 5) (dN zs (j+2) 7)) ((dN zs (j+3) 3:Nat):Int) ((dN zs (j+4) 5:Nat):Int) ((dN zs (j+5) 5:Nat):Int)),pt (nb ρ 13),undef]) (fun ρ=>[(3,(bD 0 g (cL #[.slice a zs.length c,vn (pN zs (j+3))] 59))),(5,(bD 0 g (cL #[.slice a zs.length c,vn (pN zs (j+4))] 59))),(7,(bD 0 g (cL #[.slice a zs.length c,vn (pN zs (j+5))] 59))),(10,(bD 0 g (cL #[.slice a zs.length c,vn (pN zs (j+6))] 59))),(13,(nw ρ 13 (cL (kC 0 0 0 0 0 0) 48))),(14,(bD 107 (nb ρ 13) (cL (kC 0 (dK (uT zs j)) (hs2 (dN zs (j+1) 5) (dN zs (j+2) 7)) ((dN zs (j+3) 3:Nat):Int) ((dN zs (j+4) 5:Nat):Int) ((dN zs (j+5) 5:Nat):Int)) 48)))]) (cR [[2]]<|cC (f:=57) (args:=fun ρ=> #[U (uT zs j)]) (v:=fun ρ=>(U (dK (uT zs j)))) (fun _ w=>(fun w=>mpublic_any (uT zs j) (mkX_lt _ _) w) w)<|cR [[]]<|cX (qW [0] (fun _ _ w hG hK=>mhash_any g a c zs (j+1)  hz w hK (hG.pK [0] (fun _ hF=>⟨hF.1,trivial⟩))))<|cR [[]]<|cX (qW [0] (fun _ _ w hG hK=>next_any g a c zs (j+3) 3 (by decide) hz w hK (hG.pK [0] (fun _ hF=>⟨hF.1,trivial⟩))))<|cR [[]]<|cX (qW [0] (fun _ _ w hG hK=>next_any g a c zs (j+4) 5 (by decide) hz w hK (hG.pK [0] (fun _ hF=>⟨hF.1,trivial⟩))))<|cA (v:=fun ρ=>(.int .u32 (IntKind.u32.wrap ((dN zs (j+4) 5:Nat):Int)))) (fun _=>(vu (dN zs (j+4) 5))) (fun _=>jN (u32N (Nat.lt_of_lt_of_le (iG zs (j+4) (by decide)) (by decide))))<|cR [[]]<|cX (qW [0] (fun _ _ w hG hK=>next_any g a c zs (j+5) 5 (by decide) hz w hK (hG.pK [0] (fun _ hF=>⟨hF.1,trivial⟩))))<|cA (v:=fun ρ=>(.int .u32 (IntKind.u32.wrap ((dN zs (j+5) 5:Nat):Int)))) (fun _=>(vu (dN zs (j+5) 5))) (fun _=>jN (u32N (Nat.lt_of_lt_of_le (iG zs (j+5) (by decide)) (by decide))))<|jE [[],[],[107]]) (fun ρ3=>?_)
 refine aB (jJ Tryz.f31 1 [4,5,6,22] [.bool pv] ?_)
 refine oC pv (fun hb1=>?_) (fun hb1=>?_)
 ·
  rw [hb1]
  refine rS Tryz.f31 3 [4,6] [1,1,0,1] (fun _=>[U (uT zs j),pt (nb ρ3 13),undef]) (fun _=>[(2,(bD 3 (nb ρ3 13) (cL (kC (uT zs j) (dK (uT zs j)) (hs2 (dN zs (j+1) 5) (dN zs (j+2) 7)) ((dN zs (j+3) 3:Nat):Int) ((dN zs (j+4) 5:Nat):Int) ((dN zs (j+5) 5:Nat):Int)) 48)))]) (jE [[2],[],[3]]) (fun _=>?_)
  refine aA ?_
  refine sS Tryz.f31 2 [4] [1,1,0] (fun _=>[.agg (kC (uT zs j) (dK (uT zs j)) (hs2 (dN zs (j+1) 5) (dN zs (j+2) 7)) ((dN zs (j+3) 3:Nat):Int) ((dN zs (j+4) 5:Nat):Int) ((dN zs (j+5) 5:Nat):Int)),undef]) (fun _=>[(1,(bD 1 (nb ρ1 0) (cL (kC (uT zs j) (dK (uT zs j)) (hs2 (dN zs (j+1) 5) (dN zs (j+2) 7)) ((dN zs (j+3) 3:Nat):Int) ((dN zs (j+4) 5:Nat):Int) ((dN zs (j+5) 5:Nat):Int)) 48)))]) (jE [[2],[1]]) (fun _=>?_)
  refine aF ?_
  exact mR (v:=(.agg (kC (uT zs j) (dK (uT zs j)) (hs2 (dN zs (j+1) 5) (dN zs (j+2) 7)) ((dN zs (j+3) 3:Nat):Int) ((dN zs (j+4) 5:Nat):Int) ((dN zs (j+5) 5:Nat):Int)))) (ps:=[1,1,1,1,1,1,1,1,1,1,1,1,1,1,1,1,1,1,1,1,1,1,1,1,1,1,1,1,1,1,1,1,1,1,1,1,1,1,1,1,1,1,1]) (fun _ hS=>⟨rfl,hS.below,hS.knows [1,0]⟩)
 rw [hb1]
 refine aG (aA ?_)
 refine sS Tryz.f31 2 [4] [1,1,0,0] (fun _=>[.agg (kC 0 (dK (uT zs j)) (hs2 (dN zs (j+1) 5) (dN zs (j+2) 7)) ((dN zs (j+3) 3:Nat):Int) ((dN zs (j+4) 5:Nat):Int) ((dN zs (j+5) 5:Nat):Int)),undef]) (fun _=>[(1,(bD 1 (nb ρ1 0) (cL (kC 0 (dK (uT zs j)) (hs2 (dN zs (j+1) 5) (dN zs (j+2) 7)) ((dN zs (j+3) 3:Nat):Int) ((dN zs (j+4) 5:Nat):Int) ((dN zs (j+5) 5:Nat):Int)) 48)))]) (jE [[3],[1]]) (fun _=>?_)
 refine aF ?_
 exact mR (v:=(.agg (kC 0 (dK (uT zs j)) (hs2 (dN zs (j+1) 5) (dN zs (j+2) 7)) ((dN zs (j+3) 3:Nat):Int) ((dN zs (j+4) 5:Nat):Int) ((dN zs (j+5) 5:Nat):Int)))) (ps:=[1,1,1,1,1,1,1,1,1,1,1,1,1,1,1,1,1,1,1,1,1,1,1,1,1,1,1,1,1,1,1,1,1,1,1,1,1,1,1,1,1,1,1]) (fun _ hS=>⟨rfl,hS.below,hS.knows [1,0]⟩)
theorem mnew_any (a:Option Addr) (c:Nat) (zs:List Int) (w0:World) (hf0:Is w0 .i64 a c zs):Calls Tryz.prog 7 #[.slice a zs.length c] w0 (fun ε w'=>∃ g,ε=.returned (pt g)∧jG w0 w'∧w0.heap.size≤g∧w'.heap[g]? = some (cL #[.slice a zs.length c,vn (pN zs 0)] 59)):=by
 refine Calls.of_ok (n:=6) (F:=(fun w=>Is w .i64 a c zs∧True)) Tryz.func7 rfl rfl rfl (by simp) (hf0.pers0.and cO) ?_
 refine jJ Tryz.f7 1 [0,2] [.pointer none] ?_
 refine sS Tryz.f7 4 [2] [] (fun ρ=>[.slice a zs.length c,.agg #[.slice a zs.length c,vi 0],pt (nb ρ 2),pt (nb ρ 2)]) (fun ρ=>[(2,(nw ρ 2 (cL #[.slice a zs.length c,vi 0] 59)))]) (jE [[],[],[],[]]) (fun ρ2=>?_)
 refine aF (mD [(2,(pt (nb ρ2 2)))] [(nb ρ2 2,(cL #[.slice a zs.length c,vi 0] 59))] ?_)
 exact mR (v:=(pt (nb ρ2 2))) (fun _ hS=>⟨nb ρ2 2,rfl,hS.bel,(hS.newb (.head _)).1,(hS.newb (.head _)).2.trans (by rw [pN_zero];rfl)⟩)
def pV (ts:List bW):List Value:=ts.flatMap fun t=>t.row.toList
def kpR (ks:List dO):List Value:=ks.flatMap fun p=>p.row.toList
theorem tmR_len (ts:List bW):(pV ts).length=ts.length*36:=yB bW.row_len ts
theorem kpR_len (ks:List dO):(kpR ks).length=ks.length*45:=yB dO.row_len ks
theorem cU_one (s:Nat):∀ u∈(cU s).toList,u.oneCell'=true:=by
  intro u hu
  simp at hu
  rcases hu with rfl | rfl | rfl | rfl<;>rfl
theorem hB_oneL (h:Nat):∀ u∈(hB h).toList,u.oneCell'=true:=by
  intro u hu
  unfold hB at hu
  simp only [List.mem_map] at hu
  obtain ⟨i,_,rfl⟩:=hu
  rfl
theorem bW.row_one (t:bW):∀ u∈t.row.toList,u.oneCell'=true:=by
  intro u hu
  simp only [bW.row,iC,Array.toList_append,List.mem_append] at hu
  rcases hu with (hu | hu) | hu
  · simp at hu;rcases hu with rfl | rfl | rfl<;>rfl
  · exact hB_oneL _ u hu
  · simp at hu;rcases hu with rfl;rfl
theorem tmR_one (ts:List bW):∀ u∈pV ts,u.oneCell'=true:=by
  intro u hu
  obtain ⟨t,_,hu⟩:=List.mem_flatMap.1 hu
  exact t.row_one u hu
theorem bM.src {P : Program} {w : World} {a : Option Addr} {c : Nat} {ts : List bW} {tx e' : TypeId} (hk : P.underlying tx = some (.slice e')) (h : bM w a c ts) : Src P 36 tx (.slice a ts.length c) ts.length (pV ts) w := by
  cases a with
  | none =>
    have h0:ts=[]:=by
      rcases h.rows with h0 | ⟨p,hp,_⟩
      · have := congrArg List.length h0
        rw [yB bW.row_len] at this
        exact List.eq_nil_of_length_eq_zero (by simp only [List.length_nil] at this;omega)
      · exact absurd hp (by simp)
    subst h0
    exact Src.ofNil w hk c
  | some p =>
    refine Src.ofSlice w hk p ts.length c (pV ts) (tmR_len ts) ?_ (tmR_one ts)
    intro j u hu
    rcases h.rows with h0 | ⟨p',hp,hh⟩
    · rw [show pV ts=[] from h0] at hu;simp at hu
    · obtain rfl : p = p' := by simpa using hp
      exact hh j u hu
abbrev At (C:Array Value) (ts:List bW) (c:Nat):Prop:=Av C 36 ts.length (pV ts) c
theorem At.app {C:Array Value} {ts us:List bW} {c:Nat} (h:Av C 36 (ts.length+us.length) (pV ts++pV us) c):At C (ts++us) c:=by
  unfold At
  rw [List.length_append,show pV (ts++us)=pV ts++pV us from List.flatMap_append]
  exact h
theorem At.src {P:Program} {w:World} {g c:Nat} {C:Array Value} {ts:List bW} {T tx e':TypeId} {fr:Nat × Nat} (hk:P.underlying tx=some (.slice e')) (hb:w.heap[g]? = some (.cells C T fr)) (hA:At C ts c):Src P 36 tx (.slice (some ⟨g,0,none⟩) ts.length c) ts.length (pV ts) w:=by
  refine Src.ofSlice w hk ⟨g,0,none⟩ ts.length c (pV ts) (tmR_len ts) ?_ (tmR_one ts)
  intro j u hu
  rcases Rs.of_av hb hA with h0 | ⟨p',hp,hh⟩
  · rw [h0] at hu;simp at hu
  · obtain rfl : (⟨g, 0, none⟩ : Addr) = p' := by simpa using hp
    exact hh j u hu
theorem At.empty:At #[] [] 0:=⟨rfl,rfl,Nat.le_refl _,rfl⟩
theorem At.one (t:bW):At t.row [t] 1:=by
  have e:pV [t]=t.row.toList:=by simp [pV]
  refine ⟨?_,?_,Nat.le_refl _,?_⟩
  · rw [e,List.take_length]
  · rw [tmR_len]
  · have := t.row_len
    rw [Array.length_toList] at this
    exact this
theorem fm_set {α:Type} {f:α→List Value} {n:Nat} (hf:∀ x,(f x).length=n):∀ (l:List α) (i o:Nat) (x:α) (v:Value),i<l.length→o<n→(∀ y,l[i]? = some y→f x=(f y).set o v)→(l.set i x).flatMap f=(l.flatMap f).set (i*n+o) v
  | [],_,_,_,_,h,_,_=>absurd h (by simp)
  | y :: r, 0, o, x, v, _, ho, hx => by
    rw [List.set_cons_zero,List.flatMap_cons,List.flatMap_cons,Nat.zero_mul,Nat.zero_add,List.set_append_left _ _ (by rw [hf];exact ho),hx y rfl]
  | y :: r, i + 1, o, x, v, h, ho, hx => by
    rw [List.set_cons_succ,List.flatMap_cons,List.flatMap_cons,fm_set hf r i o x v (by simpa using h) ho (fun z hz=>hx z (by simpa using hz)),List.set_append_right _ _ (by rw [hf,Nat.add_mul,Nat.one_mul];omega),hf,show (i+1)*n+o-n=i*n+o by rw [Nat.add_mul,Nat.one_mul];omega]
theorem Av.set {C:Array Value} {sz n c j:Nat} {xs:List Value} {v:Value} (h:Av C sz n xs c):Av (C.setIfInBounds j v) sz n (xs.set j v) c:=by
  refine ⟨?_,by rw [List.length_set];exact h.len,h.le,by rw [Array.size_setIfInBounds];exact h.size⟩
  rw [List.length_set,Array.toList_setIfInBounds,List.take_set,h.hd]
theorem At.set {C:Array Value} {ts:List bW} {c j o:Nat} {v:Value} (t':bW) (h:At C ts c) (hj:j<ts.length) (ho:o<36) (hr:t'.row.toList=(gT ts j).row.toList.set o v):At (C.setIfInBounds (j*36+o) v) (ts.set j t') c:=by
  have e:pV (ts.set j t')=(pV ts).set (j*36+o) v:=fm_set bW.row_len ts j o t' v hj ho (fun y hy=>by
    rw [hr]
    have:gT ts j=y:=by unfold gT;rw [List.getD_eq_getElem?_getD,hy];rfl
    rw [this])
  unfold At
  rw [List.length_set,e]
  exact Av.set h
theorem At.get {C:Array Value} {ts:List bW} {c j o:Nat} {v:Value} (h:At C ts c) (hj:j<ts.length) (ho:o<36) (hv:(gT ts j).row[o]? = some v):C[j*36+o]? = some v:=by
  have h1:=bM.cell hj ho hv
  have h2:=h.hd
  rw [show (ts.flatMap fun t=>t.row.toList)=pV ts from rfl,← h2,List.getElem?_take] at h1
  split at h1
  · simpa using h1
  · exact absurd h1 (by simp)
theorem At.size {C:Array Value} {ts:List bW} {c j o:Nat} (h:At C ts c) (hj:j<ts.length) (ho:o<36):j*36+o<C.size:=by
  have:=h.le;rw [Av.size h];omega
theorem rsP {T:Nat→Prop} {w0 w:World} {g sz n c:Nat} {C:Array Value} {e:TypeId} {fr:Nat × Nat} {xs:List Value} (hT:∀ b,T b→b<w0.heap.size) (hg:w0.heap.size≤g∧w.heap[g]? = some (.cells C e fr)) (hA:Av C sz n xs c):dL T (fun w=>Rs w (some ⟨g,0,none⟩) xs) w :=
  (Rs.of_av hg.2 hA).pers (fun p hp _ hx=>by
    obtain rfl:(⟨g,0,none⟩:Addr)=p:=by simpa using hp
    have h1:g<w0.heap.size:=hT _ hx
    have:=hg.1
    omega)
def SubT (ts ts':List bW):Prop:=∀ t'∈ts',t'.Ok∧(t'.ks=[]∨∃ t∈ts,t'.ka=t.ka∧t'.kc=t.kc∧t'.ks=t.ks)
theorem SubT.refl {ts:List bW} (h:∀ t∈ts,t.Ok):SubT ts ts:=fun t ht=>⟨h t ht,Or.inr ⟨t,ht,rfl,rfl,rfl⟩⟩
theorem SubT.app {ts us vs:List bW} (h:SubT ts us) (h2:SubT ts vs):SubT ts (us++vs):=fun t ht=>(List.mem_append.1 ht).elim (h t) (h2 t)
theorem SubT.tail {ts us:List bW} (h:SubT ts us):SubT ts us.tail:=fun t ht=>h t (List.mem_of_mem_tail ht)
theorem SubT.set {ts us:List bW} {j:Nat} {t':bW} (h:SubT ts us) (ho:t'.Ok) (hk:t'.ks=[]∨∃ t∈ts,t'.ka=t.ka∧t'.kc=t.kc∧t'.ks=t.ks):SubT ts (us.set j t'):=fun t ht=>by
  rcases List.mem_or_eq_of_mem_set ht with h1 | rfl
  · exact h t h1
  · exact ⟨ho,hk⟩
theorem bM.tail {w:World} {a:Option Addr} {c:Nat} {ts:List bW} (h:bM w a c ts) (h0:0<ts.length):bM w (if c=1 then a else a.map (·.add (1*36))) (c-1) ts.tail:=by
  have hle:=h.le
  refine ⟨by rw [List.length_tail];omega,by rw [List.length_tail];have:=h.max;omega,?_,fun t ht=>h.sub t (List.mem_of_mem_tail ht),fun t ht=>h.ok t (List.mem_of_mem_tail ht)⟩
  by_cases hc:c=1
  · have : ts.tail = [] := List.eq_nil_of_length_eq_zero (by rw [List.length_tail]; omega)
    rw [this];exact Or.inl rfl
  · rw [if_neg hc]
    have e:(ts.tail.flatMap fun t=>t.row.toList)=(ts.flatMap fun t=>t.row.toList).drop 36:=by
      cases ts with
      | nil=>simp at h0
      | cons t r=>rw [List.tail_cons,List.flatMap_cons,List.drop_append_of_le_length (by rw [bW.row_len];exact Nat.le_refl _),List.drop_of_length_le (by rw [bW.row_len];exact Nat.le_refl _),List.nil_append]
    rw [e]
    exact h.rows.drop 36
def rQ:Value:=.agg #[.int .i64 0,.int .i64 0,.int .u32 0,.int .u8 0,.int .u8 0,.int .u8 0,.int .u8 0,.int .u8 0,.int .u8 0,.int .u8 0,.int .u8 0,.int .u8 0,.int .u8 0,.int .u8 0,.int .u8 0,.int .u8 0,.int .u8 0,.int .u8 0,.int .u8 0,.int .u8 0,.int .u8 0,.int .u8 0,.int .u8 0,.int .u8 0,.int .u8 0,.int .u8 0,.int .u8 0,.int .u8 0,.int .u8 0,.int .u8 0,.int .u8 0,.int .u8 0,.int .u8 0,.int .u8 0,.int .u8 0,.slice none 0 0]
def SoftK (p:dO):Prop:=fC p.k=true∧∀ i∈p.ps,hdB i=false
def SoftL (t:bW):Prop:=t.ks.length≤2∧(t.kd=2→t.ks.length=2)∧∀ p∈t.ks,SoftK p
def Soft (ts:List bW):Prop:=∀ t∈ts,SoftL t
def TmN (w:World) (a:Option Addr) (c:Nat) (ts:List bW):Prop:=bM w a c ts∧0<ts.length∧ts.length≤8∧Soft ts
theorem TmN.pers0 {w:World} {a:Option Addr} {c:Nat} {ts:List bW} (h:TmN w a c ts):dL (fun _=>False) (fun w=>TmN w a c ts) w:=h.1.pers0.mono (fun _ h1=>⟨h1,h.2⟩)
def ot (ρ:Nat→bH) (i:Nat):List bW:=(ρ i).t
section
variable {P : Program} {ops : Array Oper} {D : List Nat} {l : List (Nat × Value)} {w0 : Base} {h : List (Nat × Obj)} {F0 : World → Prop}
variable {vals : (Nat → bH) → Nat → Value} {effs : (Nat → bH) → Nat → Eff} {fact : (Nat → bH) → Nat → World → Prop}
theorem o_callWT (i:Nat) (ns:List Nat) (f:FuncId) (args:(Nat→bH)→Array Value) (v:(Nat→bH)→Option Addr→Nat→List bW→Value) (K:(Nat→bH)→List (Nat × Obj)) (K':(Nat→bH)→Nat→List (Nat × Obj))
    (hf:∀ ρ T w,Given ops D w0 h F0 effs fact i ρ T w→Knows (K ρ) w→Calls P f (args ρ) w (fun e w'=>∃ a c ts j,e=.returned (v ρ a c ts)∧nN (fun b=>b∈(K ρ).map (·.1)) w w'∧Knows (K' ρ j) w'∧dL (fun b=>b<w.heap.size) (fun w=>TmN w a c ts) w'))
    (hc:∀ ρ z,eU P ops D l (vals ρ) i z=some (.enter f (args ρ),[],[]):=by intros;kernel_rfl)
    (hv:∀ ρ r,vals (upd ρ i r) i=v ρ r.a (r.n.headD 0) r.t:=by intros;kernel_rfl) (he:∀ ρ r,effs (upd ρ i r) i={ puts:=ns.zip (K' ρ (r.n.tail.headD 0))}:=by intros;kernel_rfl)
    (hn:∀ ρ,dY ops D h (effs ρ) i ns=true:=by intros;kernel_rfl) (hk:∀ ρ,known ops D h (effs ρ) i ns=K ρ:=by intros;kernel_rfl) (hl:∀ ρ j,(K' ρ j).map (·.1)=(K ρ).map (·.1):=by intros;kernel_rfl)
    (ht:∀ ρ r,fact (upd ρ i r) i=(fun w=>TmN w r.a (r.n.headD 0) r.t):=by intros;kernel_rfl):jV P ops D l w0 h F0 vals effs fact i:=by
  refine y7 i ns f args K (fun ρ r=>K' ρ (r.n.tail.headD 0)) hc he hn hk (fun ρ r=>hl ρ _) (fun ρ T w hG hK=>(hf ρ T w hG hK).mono (fun e w' hew=>?_))
  obtain ⟨a,c,ts,j,h1,h2,h3,h4⟩:=hew
  refine ⟨h2,{ n:=[c,j],a:=a,t:=ts},?_,h3,?_⟩
  · rw [hv];exact h1
  · rw [ht];exact h4
theorem o_callWJ (i:Nat) (ns:List Nat) (f:FuncId) (args:(Nat→bH)→Array Value) (v:(Nat→bH)→Option Addr→Nat→Value) (ik:IntKind) (zs:(Nat→bH)→List Int) (K K':(Nat→bH)→List (Nat × Obj))
    (hf:∀ ρ T w,Given ops D w0 h F0 effs fact i ρ T w→Knows (K ρ) w→Calls P f (args ρ) w (fun e w'=>∃ a c,e=.returned (v ρ a c)∧nN (fun b=>b∈(K ρ).map (·.1)) w w'∧Knows (K' ρ) w'∧Fi w w' ik a c (zs ρ)))
    (hc:∀ ρ z,eU P ops D l (vals ρ) i z=some (.enter f (args ρ),[],[]):=by intros;kernel_rfl)
    (hv:∀ ρ r,vals (upd ρ i r) i=v ρ r.a (r.n.headD 0):=by intros;kernel_rfl) (he:∀ ρ r,effs (upd ρ i r) i={ puts:=ns.zip (K' ρ)}:=by intros;kernel_rfl)
    (hn:∀ ρ,dY ops D h (effs ρ) i ns=true:=by intros;kernel_rfl) (hk:∀ ρ,known ops D h (effs ρ) i ns=K ρ:=by intros;kernel_rfl) (hl:∀ ρ,(K' ρ).map (·.1)=(K ρ).map (·.1):=by intros;kernel_rfl)
    (ht:∀ ρ r,fact (upd ρ i r) i=(fun w=>Fi w0.w w ik r.a (r.n.headD 0) (zs ρ)):=by intros;kernel_rfl):jV P ops D l w0 h F0 vals effs fact i:=by
  refine y7 i ns f args K (fun ρ _=>K' ρ) hc he hn hk (fun ρ _=>hl ρ) (fun ρ T w hG hK=>(hf ρ T w hG hK).mono (fun e w' hew=>?_))
  obtain ⟨a,c,h1,h2,h3,h4⟩:=hew
  refine ⟨h2,{ n:=[c],a:=a},?_,h3,?_⟩
  · rw [hv];exact h1
  · rw [ht];exact (h4.pers (fun b hb=>hb)).mono (fun _ hi=>⟨hi,fun p hp hn=>Nat.le_trans hG.below.size (h4.2 p hp hn)⟩)
theorem qWJ {i:Nat} (ns:List Nat) {f:FuncId} {args:(Nat→bH)→Array Value} {v:(Nat→bH)→Option Addr→Nat→Value} {ik:IntKind} {zs:(Nat→bH)→List Int} {K K':(Nat→bH)→List (Nat × Obj)}
    (hf:∀ ρ T w,Given ops D w0 h F0 effs fact i ρ T w→Knows (K ρ) w→Calls P f (args ρ) w (fun e w'=>∃ a c,e=.returned (v ρ a c)∧nN (fun b=>b∈(K ρ).map (·.1)) w w'∧Knows (K' ρ) w'∧Fi w w' ik a c (zs ρ)))
    (hc:∀ ρ z,eU P ops D l (vals ρ) i z=some (.enter f (args ρ),[],[]):=by intros;kernel_rfl)
    (hv:∀ ρ r,vals (upd ρ i r) i=v ρ r.a (r.n.headD 0):=by intros;kernel_rfl) (he:∀ ρ r,effs (upd ρ i r) i={ puts:=ns.zip (K' ρ)}:=by intros;kernel_rfl)
    (hn:∀ ρ,dY ops D h (effs ρ) i ns=true:=by intros;kernel_rfl) (hk:∀ ρ,known ops D h (effs ρ) i ns=K ρ:=by intros;kernel_rfl) (hl:∀ ρ,(K' ρ).map (·.1)=(K ρ).map (·.1):=by intros;kernel_rfl)
    (ht:∀ ρ r,fact (upd ρ i r) i=(fun w=>Fi w0.w w ik r.a (r.n.headD 0) (zs ρ)):=by intros;kernel_rfl):jV P ops D l w0 h F0 vals effs fact i:=o_callWJ i ns f args v ik zs K K' hf hc hv he hn hk hl ht
end
section
variable {P : Program} {t e : TypeId} {b : Nat} {z : Value}
theorem nP {w:World} {g:Nat} {x:bW} {T tx e':TypeId} {fr:Nat × Nat} (hk:P.underlying tx=some (.slice e')) (hb:w.heap[g]? = some (.cells x.row T fr)):Src P 36 tx (.slice (some ⟨g,0,none⟩) 1 1) 1 (pV [x]) w:=by
  have e:pV [x]=x.row.toList:=by simp [pV]
  rw [e]
  exact nX hk (by rw [Array.toArray_toList];exact hb) (by rw [x.row_len]) (List.all_eq_true.2 x.row_one)
theorem src_t2 {w:World} {g:Nat} {x y:bW} {T tx e':TypeId} {fr:Nat × Nat} (hk:P.underlying tx=some (.slice e')) (hb:w.heap[g]? = some (.cells (x.row++y.row) T fr)):Src P 36 tx (.slice (some ⟨g,0,none⟩) 2 2) 2 (pV [x,y]) w:=by
  have e:pV [x,y]=(x.row++y.row).toList:=by simp [pV]
  rw [e]
  exact nX hk (by rw [Array.toArray_toList];exact hb) (by rw [Array.toList_append,List.length_append,x.row_len,y.row_len]) (List.all_eq_true.2 (fun u hu=>by
    rw [Array.toList_append] at hu
    exact (List.mem_append.1 hu).elim (x.row_one u) (y.row_one u)))
theorem sK {w:World} {ty tx:TypeId} (ht:P.underlying t=some (.slice e)) (hi:wM P e 36 b z) {x:Value} {us:List bW} (hs:Src P 36 tx x us.length (pV us) w) (h0:0<us.length) (hm:us.length≤1000) (hb:b≤1000) :
    ∃ k w',(do pure (Next.value (← Builtin.append_ #[t,tx] ty #[.slice none 0 0,x])):Sem Next).run P w=.ok (.value (.slice (some ⟨([w.heap.size,k]:List Nat).headD 0,0,none⟩) us.length (us.length+([w.heap.size,k]:List Nat).tail.headD 0))) w'∧Grew w w' (.cells ((pV us).toArray++Builtin.zeroCells z.cells (([w.heap.size,k]:List Nat).tail.headD 0)) e (0,0)) :=
  uV ht hi hs h0 (by omega) (Nat.le_trans (Nat.mul_le_mul hm hb) (by decide))
theorem At.fresh (hz:z.cells.size=36) (us:List bW) (k:Nat):At ((pV us).toArray++Builtin.zeroCells z.cells k) us (us.length+k):=Av.fresh hz (tmR_len us) k
theorem o5 {w:World} {ty tx:TypeId} (ht:P.underlying t=some (.slice e)) (hi:wM P e 36 b z) {g c:Nat} {C:Array Value} {x:Value} {ts us:List bW} (hA:At C ts c) (hs:Src P 36 tx x us.length (pV us) w) (hm:ts.length+us.length≤1000) (hb:b≤1000) (hg:w.heap[g]? = some (.cells C e (0,0))) :
    ∃ r w',(do pure (Next.value (← Builtin.append_ #[t,tx] ty #[.slice (some ⟨g,0,none⟩) ts.length c,x])):Sem Next).run P w=.ok (.value (.slice (some ⟨r.n.headD 0,0,none⟩) (ts++us).length (r.n.tail.headD 0))) w'∧At (uG r) (ts++us) (r.n.tail.headD 0)∧Moved w w' g (r.n.headD 0) (.cells (uG r) e (0,0)):=by
  obtain ⟨r,w',h1,h2,h3⟩:=sN (ty:=ty) ht hi hA hs (by omega) (Nat.le_trans (Nat.mul_le_mul hm hb) (by decide)) hg
  refine ⟨r,w',?_,At.app h2,h3⟩
  rw [List.length_append];exact h1
end
theorem kp_one (p:dO):∀ u∈p.row.toList,u.oneCell'=true:=by
  intro u hu
  simp only [dO.row,kM,Array.toList_append,List.mem_append] at hu
  rcases hu with ((hu | hu) | hu) | hu
  · exact cU_one _ u hu
  · exact cU_one _ u hu
  · exact hB_oneL _ u hu
  · simp at hu;rcases hu with rfl | rfl | rfl | rfl | rfl<;>rfl
theorem Ak.one (p:dO):Av p.row 45 1 (kpR [p]) 1:=by
  have e:kpR [p]=p.row.toList:=by simp [kpR]
  have hl:=p.row_len
  refine ⟨?_,?_,Nat.le_refl _,?_⟩
  · rw [e,List.take_length]
  · rw [kpR_len];rfl
  · rw [Array.length_toList] at hl;exact hl
theorem Ak.two (p q:dO):Av (p.row++q.row) 45 2 (kpR [p,q]) 2:=by
  have e:kpR [p,q]=(p.row++q.row).toList:=by simp [kpR]
  have hl:=p.row_len
  have hq:=q.row_len
  rw [Array.length_toList] at hl hq
  refine ⟨?_,?_,Nat.le_refl _,?_⟩
  · rw [e,List.take_length]
  · rw [kpR_len];rfl
  · rw [Array.size_append,hl,hq]
theorem kf1 {T:Nat→Prop} {w0 w:World} {g:Nat} {e:TypeId} {fr:Nat × Nat} {p:dO} (hT:∀ b,T b→b<w0.heap.size) (hg:w0.heap.size≤g∧w.heap[g]? = some (.cells p.row e fr)) (hf:dL T (fun w=>Is w .u32 p.pa p.pc (nI p.ps)) w) (ho:p.Ok):dL T (fun w=>oG w (some ⟨g,0,none⟩) 1 [p]) w :=
  oG.mkP (Nat.le_refl 1) (Nat.le_of_ble_eq_true rfl) (rsP hT hg (Ak.one p)) (fun q hq=>by rw [List.mem_singleton.1 hq];exact hf) (fun q hq=>by rw [List.mem_singleton.1 hq];exact ho)
theorem kf2 {T:Nat→Prop} {w0 w:World} {g:Nat} {e:TypeId} {fr:Nat × Nat} {p q:dO} (hT:∀ b,T b→b<w0.heap.size) (hg:w0.heap.size≤g∧w.heap[g]? = some (.cells (p.row++q.row) e fr)) (hf:dL T (fun w=>Is w .u32 p.pa p.pc (nI p.ps)) w) (ho:p.Ok) (hf2:dL T (fun w=>Is w .u32 q.pa q.pc (nI q.ps)) w) (ho2:q.Ok):dL T (fun w=>oG w (some ⟨g,0,none⟩) 2 [p,q]) w :=
  oG.mkP (Nat.le_refl 2) (Nat.le_of_ble_eq_true rfl) (rsP hT hg (Ak.two p q)) (fun r hr=>by
    rcases List.mem_cons.1 hr with rfl | hr
    · exact hf
    · rw [List.mem_singleton.1 hr];exact hf2) (fun r hr=>by
    rcases List.mem_cons.1 hr with rfl | hr
    · exact ho
    · rw [List.mem_singleton.1 hr];exact ho2)
def y8 (T:Nat→Prop) (w:World) (t:bW):Prop:=t.Ok∧dL T (fun w=>oG w t.ka t.kc t.ks) w∧SoftL t
theorem vP {t:bW} (h:t.ks=[]) (hk:t.kd≠2):SoftL t:=⟨by rw [h];decide,fun q=>absurd q hk,by rw [h];simp⟩
theorem wO {t:bW} {q:dO} (h:t.ks=[q]) (hk:t.kd≠2) (hq:SoftK q):SoftL t:=⟨by rw [h];exact Nat.le_of_ble_eq_true rfl,fun q=>absurd q hk,fun p hp=>by rw [h] at hp;rw [List.mem_singleton.1 hp];exact hq⟩
theorem soft_2 {t:bW} {q r:dO} (h:t.ks=[q,r]) (hq:SoftK q) (hr:SoftK r):SoftL t:=⟨by rw [h];exact Nat.le_refl 2,fun _=>by rw [h];rfl,fun p hp=>by
  rw [h] at hp
  rcases List.mem_cons.1 hp with e | e
  · rw [e];exact hq
  · rw [List.mem_singleton.1 e];exact hr⟩
theorem mX {T:Nat→Prop} {w:World} {ts us:List bW} (h:∀ t∈ts,y8 T w t) (h2:∀ t∈us,y8 T w t):∀ t∈ts++us,y8 T w t:=fun t ht=>(List.mem_append.1 ht).elim (h t) (h2 t)
theorem kF {T:Nat→Prop} {w:World} {t:bW} (h:y8 T w t):∀ x∈[t],y8 T w x:=fun x hx=>by rw [List.mem_singleton.1 hx];exact h
theorem made_2 {T:Nat→Prop} {w:World} {t u:bW} (h:y8 T w t) (h2:y8 T w u):∀ x∈[t,u],y8 T w x:=mX (ts:=[t]) (us:=[u]) (kF h) (kF h2)
theorem lX {T:Nat→Prop} {w0 w:World} {g c:Nat} {C:Array Value} {e:TypeId} {fr:Nat × Nat} {ts:List bW} (hT:∀ b,T b→b<w0.heap.size) (hg:w0.heap.size≤g∧w.heap[g]? = some (.cells C e fr)) (hA:At C ts c) (h:∀ t∈ts,y8 T w t) (h0:0<ts.length) (h8:ts.length≤8):dL T (fun w=>TmN w (some ⟨g,0,none⟩) c ts) w :=
  (bM.mkP hA.le (by omega) (rsP hT hg hA) (fun t ht=>(h t ht).2.1) (fun t ht=>(h t ht).1)).mono (fun _ hh=>⟨hh,h0,h8,fun t ht=>(h t ht).2.2⟩)
section
variable {S : List UInt8} {t y x : Nat} (et : lV tgM S = t) (ey : lV tgI S = y) (ex : bC t 0 qP = x) (h : ¬ (S.length < 16 ∨ 64 < S.length))
include et ex h
include ey
end
def bI (zs:List Int) (j:Nat):Nat:=dN zs (j+8) 2
def iT (zs:List Int) (j:Nat):List Nat:=(List.range (bI zs j)).map fun m=>dN zs (j+9+m) 4
theorem ptn_0 {zs:List Int} {j:Nat} (h:decide (0<((dN zs (j+8) 2:Nat):Int))=false):bI zs j=0:=by have:=of_decide_eq_false h;unfold bI;omega
theorem ptn_1 {zs:List Int} {j:Nat} (h:decide (0<((dN zs (j+8) 2:Nat):Int))=true):bI zs j=1:=by
  have:=of_decide_eq_true h;have:=iG zs (j+8) (n:=2) (by decide);unfold bI;omega
theorem ptP_0 {zs:List Int} {j:Nat} (h:bI zs j=0):nI (iT zs j)=[]:=by unfold iT;rw [h];rfl
theorem ptP_1 {zs:List Int} {j:Nat} (h:bI zs j=1):nI (iT zs j)=[((dN zs (j+9) 4:Nat):Int)]:=by unfold iT;rw [h];rfl
theorem ptP_32 (zs:List Int) (j:Nat):∀ i∈iT zs j,i<4294967296:=by
  intro i hi
  obtain ⟨m,_,rfl⟩:=List.mem_map.1 hi
  exact Nat.lt_of_lt_of_le (iG _ _ (by decide)) (by decide)
def pX (zs:List Int) (j:Nat):Bool:=((dN zs (j+7) 2:Nat):Int)==0
def bU (zs:List Int) (j:Nat):Ky:=mkK zs (j+1) (((dN zs j 3:Nat):Int)==0)
theorem ptK_ok (zs:List Int) (j:Nat):(bU zs j).Ok:=mkK_ok _ _ _
def ptA (zs:List Int) (j:Nat) (a:Option Addr) (c:Nat):dO:=⟨bU zs j,iT zs j,pX zs j,a,c⟩
theorem lN (zs:List Int) (j:Nat) (a:Option Addr) (c:Nat):(ptA zs j a c).Ok:=⟨ptK_ok zs j,by
  have:=iG zs (j+1+3) (n:=3) (by decide)
  show rng ((dN zs (j+1+3) 3:Nat):Int)
  unfold rng;omega,ptP_32 zs j⟩
theorem gX (zs:List Int) (j:Nat) (a:Option Addr) (c:Nat):SoftK (ptA zs j a c):=⟨mkK_snd _ _ _,fun i hi=>by
  obtain ⟨m,_,rfl⟩:=List.mem_map.1 hi
  have:=iG zs (j+9+m) (n:=4) (by decide)
  exact decide_eq_false (by omega)⟩
def tN (kd:Int) (n:Nat):bW:=⟨kd,0,n,0,[],none,0⟩
def tH (h:Nat):bW:=⟨5,0,0,h,[],none,0⟩
def tE:bW:=⟨6,0,0,0,[],none,0⟩
def tK (zs:List Int) (j:Nat) (a:Option Addr) (c g:Nat):bW:=⟨1,0,0,0,[ptA zs j a c],some ⟨g,0,none⟩,1⟩
def tM (m:Nat) (zs:List Int) (j:Nat) (a:Option Addr) (c:Nat) (j2:Nat) (a2:Option Addr) (c2 g:Nat):bW:=⟨2,(m:Int),0,0,[ptA zs j a c,ptA zs j2 a2 c2],some ⟨g,0,none⟩,2⟩
end Go.Proofs.YtaebcmpbbamfpaaGreatDoor
