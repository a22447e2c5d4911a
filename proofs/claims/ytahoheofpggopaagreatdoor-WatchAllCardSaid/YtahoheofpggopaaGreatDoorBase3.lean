/-
  What this statement needs, part 3: the texts of it, one behind the other.
-/
import Derived.Test.YtahoheofpggopaaGreatDoorBase2
import Derived.Shelf.SlSortCmp.NoneTotal
import Derived.ChangeKeysEq
import Derived.Laws.StructEq
set_option maxRecDepth 100000
namespace Go.Proofs.YtahoheofpggopaaGreatDoor
open Go Go.RowKit
theorem compress_any (s0:Nat) (s1:Nat) (s2:Nat) (s3:Nat) (s4:Nat) (s5:Nat) (s6:Nat) (s7:Nat) (X:List UInt8) (hs:ok8 (s0,s1,s2,s3,s4,s5,s6,s7)) (hX:X.length=64) (w0:World) (hf0:kJ w0):Calls Tryz.prog 199 #[.agg #[vu s0,vu s1,vu s2,vu s3,vu s4,vu s5,vu s6,vu s7],.agg (bs X).toArray] w0 (jR (.agg #[vu ((eF (s0,s1,s2,s3,s4,s5,s6,s7) X).1),vu ((eF (s0,s1,s2,s3,s4,s5,s6,s7) X).2.1),vu ((eF (s0,s1,s2,s3,s4,s5,s6,s7) X).2.2.1),vu ((eF (s0,s1,s2,s3,s4,s5,s6,s7) X).2.2.2.1),vu ((eF (s0,s1,s2,s3,s4,s5,s6,s7) X).2.2.2.2.1),vu ((eF (s0,s1,s2,s3,s4,s5,s6,s7) X).2.2.2.2.2.1),vu ((eF (s0,s1,s2,s3,s4,s5,s6,s7) X).2.2.2.2.2.2.1),vu ((eF (s0,s1,s2,s3,s4,s5,s6,s7) X).2.2.2.2.2.2.2)]) w0):=by
 refine Calls.of_ok (n:=131) (F:=(fun w=>kJ w∧True)) Tryz.func199 rfl rfl rfl (by simp) (hf0.pers0.and cO) ?_
 refine sS Tryz.f199 3 [2,3,4] [] (fun ρ=>[pt (nb ρ 0),pt (nb ρ 1),pt (nb ρ 2)]) (fun ρ=>[(0,(nw ρ 0 (cL #[vu s0,vu s1,vu s2,vu s3,vu s4,vu s5,vu s6,vu s7] 163))),(1,(nw ρ 1 (cL (bs X).toArray 165))),(2,(nw ρ 2 (cL #[.int .u32 0,.int .u32 0,.int .u32 0,.int .u32 0,.int .u32 0,.int .u32 0,.int .u32 0,.int .u32 0] 163)))]) (jE [[],[],[]]) (fun ρ1=>?_)
 refine sS Tryz.f199 4 [2,4,5] [1,0,1,1] (fun ρ=>[.agg (bs X).toArray,.agg (bY .u32 64 (wN X)),pt (nb ρ 2),undef]) (fun ρ=>[(2,(nw ρ 2 (cL (bY .u32 64 (fun _=>0)) 174))),(3,(bD 19 (nb ρ 2) (cL (bY .u32 64 (wN X)) 174)))]) (cX (qF (fun _ _ _ hG=>vS Tryz.isAgg165 Tryz.sizeOf165 (hG.kn (g:=nb ρ1 1) (o:=(cL (bs X).toArray 165)) 1) (by simp [bs,hX])))<|cC (fun _ w=>sched_any X hX w)<|jE [[],[19]]) (fun ρ2=>?_)
 refine sD Tryz.f199 [0,1,0,4,0,16,0,64,3,271,831,2047] 12 [2,4,5,6,7,8,9] [] (fun _=>[pt (nb ρ1 0),vu s0,jp (nb ρ1 0) 1,vu s1,jp (nb ρ1 0) 2,vu s2,jp (nb ρ1 0) 3,vu s3,vu s0,vu s1,vu s2,vu s3]) (fun _=>[]) (jE [[],[0],[],[0],[],[0],[],[0],[],[],[],[]]) (fun _=>?_)
 refine sD Tryz.f199 [0,1,0,4,0,16,0,64,3,271,831,2047] 12 [2,4,5,6,7,8,9,10,11,12,13] [] (fun _=>[jp (nb ρ1 0) 4,vu s4,jp (nb ρ1 0) 5,vu s5,jp (nb ρ1 0) 6,vu s6,jp (nb ρ1 0) 7,vu s7,vu s4,vu s5,vu s6,vu s7]) (fun _=>[]) (jE [[],[0],[],[0],[],[0],[],[0],[],[],[],[]]) (fun _=>?_)
 refine aB (jJ Tryz.f199 1 [2,4,5,6,7,8,9,10,11,12,13,35] [vi 0] (aI ?_))
 refine oL (σ:=Nat × Nat × Nat × Nat × Nat × Nat × Nat × Nat × Nat) (fun ⟨i,ra,rb,rc,rd,re,rf,rg,rh⟩=>[(2,(pt (nb ρ1 0))),(4,(pt (nb ρ1 2))),(5,(pt (nb ρ2 2))),(6,(vu ra)),(7,(vu rb)),(8,(vu rc)),(9,(vu rd)),(10,(vu re)),(11,(vu rf)),(12,(vu rg)),(13,(vu rh)),(35,(vn i))]) (fun ⟨_,_,_,_,_,_,_,_,_⟩=>[(nb ρ1 0,(cL #[vu s0,vu s1,vu s2,vu s3,vu s4,vu s5,vu s6,vu s7] 163)),(nb ρ1 2,(cL #[.int .u32 0,.int .u32 0,.int .u32 0,.int .u32 0,.int .u32 0,.int .u32 0,.int .u32 0,.int .u32 0] 163)),(nb ρ2 2,(cL (bY .u32 64 (wN X)) 174))]) (fun ⟨i,_,_,_,_,_,_,_,_⟩=>64-i)
   (fun ⟨i,ra,rb,rc,rd,re,rf,rg,rh⟩=>(i≤64)∧(rnds X (s0,s1,s2,s3,s4,s5,s6,s7) i=(ra,rb,rc,rd,re,rf,rg,rh))) (0,s0,s1,s2,s3,s4,s5,s6,s7) (⟨by decide,rfl⟩) [] ?_
 rintro ⟨i,ra,rb,rc,rd,re,rf,rg,rh⟩ ⟨hi,hr⟩
 change Ok Tryz.prog _ _ 131 [(2,(pt (nb ρ1 0))),(4,(pt (nb ρ1 2))),(5,(pt (nb ρ2 2))),(6,(vu ra)),(7,(vu rb)),(8,(vu rc)),(9,(vu rd)),(10,(vu re)),(11,(vu rf)),(12,(vu rg)),(13,(vu rh)),(35,(vn i))] _ [(nb ρ1 0,(cL #[vu s0,vu s1,vu s2,vu s3,vu s4,vu s5,vu s6,vu s7] 163)),(nb ρ1 2,(cL #[.int .u32 0,.int .u32 0,.int .u32 0,.int .u32 0,.int .u32 0,.int .u32 0,.int .u32 0,.int .u32 0] 163)),(nb ρ2 2,(cL (bY .u32 64 (wN X)) 174))] (fun w=>kJ w∧True)
 have ho:ok8 (ra,rb,rc,rd,re,rf,rg,rh):=hr ▸ rnds_ok hs i
 refine jJ Tryz.f199 1 [2,4,5,6,7,8,9,10,11,12,13,35,36] [.bool (decide (((i:Nat):Int)<64))] (aB ?_)
 refine oC (decide (((i:Nat):Int)<64)) (fun hb1=>?_) (fun hb1=>?_)
 ·
  rw [hb1]
  have:=yT hb1
  refine aG (aA (aB (aI (jJ Tryz.f199 2 [2,4,5,6,7,8,9,10,11,12,13,14,35] [vn i,vn i] ?_))))
  refine sD Tryz.f199 [0,0,2,0,14,30,0,94,254,511,0,0,3072,0,8192,0,57344,130048,262143,0,524288,1572864,4194303,0,8388608,25165824,67108863,134217727] 28 [2,4,5,6,7,8,9,10,11,12,13,15,35] [] (fun _=>let qa:=vu (add32 (add32 (add32 (add32 rh (((aH re 6)^^^(aH re 11))^^^(aH re 25))) ((re&&&rf)^^^((dW re)&&&rg))) (kN i)) (wN X i));[vu rh,vu re,vu (aH re 6),vu re,vu (aH re 11),vu ((aH re 6)^^^(aH re 11)),vu re,vu (aH re 25),vu (((aH re 6)^^^(aH re 11))^^^(aH re 25)),vu (add32 rh (((aH re 6)^^^(aH re 11))^^^(aH re 25))),vu re,vu rf,vu (re&&&rf),vu re,vu (dW re),vu rg,vu ((dW re)&&&rg),vu ((re&&&rf)^^^((dW re)&&&rg)),vu (add32 (add32 rh (((aH re 6)^^^(aH re 11))^^^(aH re 25))) ((re&&&rf)^^^((dW re)&&&rg))),vn i,jp 2 i,vu (kN i),vu (add32 (add32 (add32 rh (((aH re 6)^^^(aH re 11))^^^(aH re 25))) ((re&&&rf)^^^((dW re)&&&rg))) (kN i)),vn i,jp (nb ρ2 2) i,vu (wN X i),qa,qa]) (fun _=>[]) (cR [[],[]]<|cC (fun _ w=>lS re 6 ho.2.2.2.2.1 (by decide) w)<|cR [[]]<|cC (fun _ w=>lS re 11 ho.2.2.2.2.1 (by decide) w)<|cA (v:=fun ρ=>(.int .u32 (bits .xor .u32 ((aH re 6:Nat):Int) ((aH re 11:Nat):Int)))) (fun _=>(vu ((aH re 6)^^^(aH re 11)))) (fun _=>jN (lH (dE _ ho.2.2.2.2.1) (dE _ ho.2.2.2.2.1)))<|cR [[]]<|cC (fun _ w=>lS re 25 ho.2.2.2.2.1 (by decide) w)<|cA (v:=fun ρ=>(.int .u32 (bits .xor .u32 (((aH re 6)^^^(aH re 11):Nat):Int) ((aH re 25:Nat):Int)))) (fun _=>(vu (((aH re 6)^^^(aH re 11))^^^(aH re 25)))) (fun _=>jN (lH (lU (dE _ ho.2.2.2.2.1) (dE _ ho.2.2.2.2.1)) (dE _ ho.2.2.2.2.1)))<|cA (fun _=>(vu (add32 rh (((aH re 6)^^^(aH re 11))^^^(aH re 25))))) (fun _=>jN (bP rh (((aH re 6)^^^(aH re 11))^^^(aH re 25))))<|cR [[],[]]<|cA (fun _=>(vu (re&&&rf))) (fun _=>jN (xR ho.2.2.2.2.1 ho.2.2.2.2.2.1))<|cR [[]]<|cA (fun _=>(vu (dW re))) (fun _=>jN (not_xor32 ho.2.2.2.2.1))<|cR [[]]<|cA (v:=fun ρ=>(.int .u32 (bits .and .u32 ((dW re:Nat):Int) ((rg:Nat):Int)))) (fun _=>(vu ((dW re)&&&rg))) (fun _=>jN (xR (y9 _) ho.2.2.2.2.2.2.1))<|cA (v:=fun ρ=>(.int .u32 (bits .xor .u32 ((re&&&rf:Nat):Int) (((dW re)&&&rg:Nat):Int)))) (fun _=>(vu ((re&&&rf)^^^((dW re)&&&rg)))) (fun _=>jN (lH (iR _ ho.2.2.2.2.1) (iR _ (y9 _))))<|cA (fun _=>(vu (add32 (add32 rh (((aH re 6)^^^(aH re 11))^^^(aH re 25))) ((re&&&rf)^^^((dW re)&&&rg))))) (fun _=>jN (bP (add32 rh (((aH re 6)^^^(aH re 11))^^^(aH re 25))) ((re&&&rf)^^^((dW re)&&&rg))))<|cR [[]]<|cX (jS (fun _=>Instr.indexAt 174 (pt 2) (vn i)) (fun _=>(jp 2 i)) (fun _ w=>aX (n:=((i:Nat):Int)) (i:=i) Tryz.underlying174 Tryz.sizeOf55 (by omega) w))<|cX (qF (v:=fun ρ=>(vu (kN i))) (fun _ _ _ hG=>mY (off:=i) Tryz.isAgg55 hG.fn.1 (kC_get (by omega))))<|cA (fun _=>(vu (add32 (add32 (add32 rh (((aH re 6)^^^(aH re 11))^^^(aH re 25))) ((re&&&rf)^^^((dW re)&&&rg))) (kN i)))) (fun _=>jN (bP (add32 (add32 rh (((aH re 6)^^^(aH re 11))^^^(aH re 25))) ((re&&&rf)^^^((dW re)&&&rg))) (kN i)))<|cR [[]]<|cX (jS (fun _=>Instr.indexAt 174 (pt (nb ρ2 2)) (vn i)) (fun _=>(jp (nb ρ2 2) i)) (fun _ w=>aX (n:=((i:Nat):Int)) (i:=i) Tryz.underlying174 Tryz.sizeOf55 (by omega) w))<|cX (kG _ 2 55 (fun _=>nb ρ2 2) (fun _=>i) (fun _=>(bY .u32 64 (wN X))) 174 (0,0) (fun _=>(vu (wN X i))) (fun _=>by kernel_rfl) Tryz.isAgg55 (fun _=>(nG (by omega))))<|cA (fun _=>(vu (add32 (add32 (add32 (add32 rh (((aH re 6)^^^(aH re 11))^^^(aH re 25))) ((re&&&rf)^^^((dW re)&&&rg))) (kN i)) (wN X i)))) (fun _=>jN (bP (add32 (add32 (add32 rh (((aH re 6)^^^(aH re 11))^^^(aH re 25))) ((re&&&rf)^^^((dW re)&&&rg))) (kN i)) (wN X i)))<|jE [[]]) (fun _=>?_)
  refine sS Tryz.f199 21 [2,4,5,6,7,8,9,10,11,12,13,15,16,35] [] (fun _=>let qa:=vu (add32 (((aH ra 2)^^^(aH ra 13))^^^(aH ra 22)) (((ra&&&rb)^^^(ra&&&rc))^^^(rb&&&rc)));[vu ra,vu (aH ra 2),vu ra,vu (aH ra 13),vu ((aH ra 2)^^^(aH ra 13)),vu ra,vu (aH ra 22),vu (((aH ra 2)^^^(aH ra 13))^^^(aH ra 22)),vu ra,vu rb,vu (ra&&&rb),vu ra,vu rc,vu (ra&&&rc),vu ((ra&&&rb)^^^(ra&&&rc)),vu rb,vu rc,vu (rb&&&rc),vu (((ra&&&rb)^^^(ra&&&rc))^^^(rb&&&rc)),qa,qa]) (fun _=>[]) (cR [[]]<|cC (fun _ w=>lS ra 2 ho.1 (by decide) w)<|cR [[]]<|cC (fun _ w=>lS ra 13 ho.1 (by decide) w)<|cA (v:=fun ρ=>(.int .u32 (bits .xor .u32 ((aH ra 2:Nat):Int) ((aH ra 13:Nat):Int)))) (fun _=>(vu ((aH ra 2)^^^(aH ra 13)))) (fun _=>jN (lH (dE _ ho.1) (dE _ ho.1)))<|cR [[]]<|cC (fun _ w=>lS ra 22 ho.1 (by decide) w)<|cA (v:=fun ρ=>(.int .u32 (bits .xor .u32 (((aH ra 2)^^^(aH ra 13):Nat):Int) ((aH ra 22:Nat):Int)))) (fun _=>(vu (((aH ra 2)^^^(aH ra 13))^^^(aH ra 22)))) (fun _=>jN (lH (lU (dE _ ho.1) (dE _ ho.1)) (dE _ ho.1)))<|cR [[],[]]<|cA (fun _=>(vu (ra&&&rb))) (fun _=>jN (xR ho.1 ho.2.1))<|cR [[],[]]<|cA (fun _=>(vu (ra&&&rc))) (fun _=>jN (xR ho.1 ho.2.2.1))<|cA (v:=fun ρ=>(.int .u32 (bits .xor .u32 ((ra&&&rb:Nat):Int) ((ra&&&rc:Nat):Int)))) (fun _=>(vu ((ra&&&rb)^^^(ra&&&rc)))) (fun _=>jN (lH (iR _ ho.1) (iR _ ho.1)))<|cR [[],[]]<|cA (fun _=>(vu (rb&&&rc))) (fun _=>jN (xR ho.2.1 ho.2.2.1))<|cA (v:=fun ρ=>(.int .u32 (bits .xor .u32 (((ra&&&rb)^^^(ra&&&rc):Nat):Int) ((rb&&&rc:Nat):Int)))) (fun _=>(vu (((ra&&&rb)^^^(ra&&&rc))^^^(rb&&&rc)))) (fun _=>jN (lH (lU (iR _ ho.1) (iR _ ho.1)) (iR _ ho.2.1)))<|cA (fun _=>(vu (add32 (((aH ra 2)^^^(aH ra 13))^^^(aH ra 22)) (((ra&&&rb)^^^(ra&&&rc))^^^(rb&&&rc))))) (fun _=>jN (bP (((aH ra 2)^^^(aH ra 13))^^^(aH ra 22)) (((ra&&&rb)^^^(ra&&&rc))^^^(rb&&&rc))))<|jE [[]]) (fun _=>?_)
  refine rS Tryz.f199 20 [2,4,5,6,7,8,9,10,11,12,13,35] [] (fun _=>let qa:=vu (add32 (add32 (add32 (add32 (add32 rh (((aH re 6)^^^(aH re 11))^^^(aH re 25))) ((re&&&rf)^^^((dW re)&&&rg))) (kN i)) (wN X i)) (add32 (((aH ra 2)^^^(aH ra 13))^^^(aH ra 22)) (((ra&&&rb)^^^(ra&&&rc))^^^(rb&&&rc))));let qb:=vu (add32 rd (add32 (add32 (add32 (add32 rh (((aH re 6)^^^(aH re 11))^^^(aH re 25))) ((re&&&rf)^^^((dW re)&&&rg))) (kN i)) (wN X i)));let qc:=vu (add32 (add32 (add32 (add32 rh (((aH re 6)^^^(aH re 11))^^^(aH re 25))) ((re&&&rf)^^^((dW re)&&&rg))) (kN i)) (wN X i));[qc,vu (add32 (((aH ra 2)^^^(aH ra 13))^^^(aH ra 22)) (((ra&&&rb)^^^(ra&&&rc))^^^(rb&&&rc))),qa,vu ra,vu rb,vu rc,vu rd,qc,qb,vu re,vu rf,vu rg,qa,vu ra,vu rb,vu rc,qb,vu re,vu rf,vu rg]) (fun _=>[]) (cR [[],[]]<|cA (fun _=>(vu (add32 (add32 (add32 (add32 (add32 rh (((aH re 6)^^^(aH re 11))^^^(aH re 25))) ((re&&&rf)^^^((dW re)&&&rg))) (kN i)) (wN X i)) (add32 (((aH ra 2)^^^(aH ra 13))^^^(aH ra 22)) (((ra&&&rb)^^^(ra&&&rc))^^^(rb&&&rc)))))) (fun _=>jN (bP (add32 (add32 (add32 (add32 rh (((aH re 6)^^^(aH re 11))^^^(aH re 25))) ((re&&&rf)^^^((dW re)&&&rg))) (kN i)) (wN X i)) (add32 (((aH ra 2)^^^(aH ra 13))^^^(aH ra 22)) (((ra&&&rb)^^^(ra&&&rc))^^^(rb&&&rc)))))<|cR [[],[],[],[],[]]<|cA (fun _=>(vu (add32 rd (add32 (add32 (add32 (add32 rh (((aH re 6)^^^(aH re 11))^^^(aH re 25))) ((re&&&rf)^^^((dW re)&&&rg))) (kN i)) (wN X i))))) (fun _=>jN (bP rd (add32 (add32 (add32 (add32 rh (((aH re 6)^^^(aH re 11))^^^(aH re 25))) ((re&&&rf)^^^((dW re)&&&rg))) (kN i)) (wN X i))))<|jE [[],[],[],[],[],[],[],[],[],[],[]]) (fun _=>?_)
  refine aJ (aA ?_)
  refine rS Tryz.f199 2 [2,4,5,6,7,8,9,10,11,12,13,35] [] (fun _=>[vn (i+1),vn (i+1)]) (fun _=>[]) (jW (fun ρ=>(((i:Nat):Int)+1)) (fun _=>(i+1)) (fun _=>(aW i 1 (by omega)))<|jE [[]]) (fun _=>?_)
  exact mN (i+1,add32 (add32 (add32 (add32 (add32 rh (((aH re 6)^^^(aH re 11))^^^(aH re 25))) ((re&&&rf)^^^((dW re)&&&rg))) (kN i)) (wN X i)) (add32 (((aH ra 2)^^^(aH ra 13))^^^(aH ra 22)) (((ra&&&rb)^^^(ra&&&rc))^^^(rb&&&rc))),ra,rb,rc,add32 rd (add32 (add32 (add32 (add32 rh (((aH re 6)^^^(aH re 11))^^^(aH re 25))) ((re&&&rf)^^^((dW re)&&&rg))) (kN i)) (wN X i)),re,rf,rg) (by show 64-(i+1)<64-i;omega) (⟨(by omega),rnds_next hr⟩) []
 rw [hb1]
 refine bF (aN (aN (aT (aA ?_))))
 refine sS Tryz.f199 34 [4] [0,1,0] (fun _=>[pt (nb ρ1 0),vu s0,vu ra,vu (add32 s0 ra),jp (nb ρ1 0) 1,vu s1,vu rb,vu (add32 s1 rb),jp (nb ρ1 0) 2,vu s2,vu rc,vu (add32 s2 rc),jp (nb ρ1 0) 3,vu s3,vu rd,vu (add32 s3 rd),jp (nb ρ1 0) 4,vu s4,vu re,vu (add32 s4 re),jp (nb ρ1 0) 5,vu s5,vu rf,vu (add32 s5 rf),jp (nb ρ1 0) 6,vu s6,vu rg,vu (add32 s6 rg),jp (nb ρ1 0) 7,vu s7,vu rh,vu (add32 s7 rh),.agg #[vu (add32 s0 ra),vu (add32 s1 rb),vu (add32 s2 rc),vu (add32 s3 rd),vu (add32 s4 re),vu (add32 s5 rf),vu (add32 s6 rg),vu (add32 s7 rh)],undef]) (fun _=>[(33,(bD 1 (nb ρ1 2) (cL #[vu (add32 s0 ra),vu (add32 s1 rb),vu (add32 s2 rc),vu (add32 s3 rd),vu (add32 s4 re),vu (add32 s5 rf),vu (add32 s6 rg),vu (add32 s7 rh)] 163)))]) (cR [[],[0],[]]<|cA (fun _=>(vu (add32 s0 ra))) (fun _=>jN (bP s0 ra))<|cR [[],[0],[]]<|cA (fun _=>(vu (add32 s1 rb))) (fun _=>jN (bP s1 rb))<|cR [[],[0],[]]<|cA (fun _=>(vu (add32 s2 rc))) (fun _=>jN (bP s2 rc))<|cR [[],[0],[]]<|cA (fun _=>(vu (add32 s3 rd))) (fun _=>jN (bP s3 rd))<|cR [[],[0],[]]<|cA (fun _=>(vu (add32 s4 re))) (fun _=>jN (bP s4 re))<|cR [[],[0],[]]<|cA (fun _=>(vu (add32 s5 rf))) (fun _=>jN (bP s5 rf))<|cR [[],[0],[]]<|cA (fun _=>(vu (add32 s6 rg))) (fun _=>jN (bP s6 rg))<|cR [[],[0],[]]<|cA (fun _=>(vu (add32 s7 rh))) (fun _=>jN (bP s7 rh))<|jE [[],[1]]) (fun _=>?_)
 refine aF ?_
 exact mR (v:=(.agg #[vu (add32 s0 ra),vu (add32 s1 rb),vu (add32 s2 rc),vu (add32 s3 rd),vu (add32 s4 re),vu (add32 s5 rf),vu (add32 s6 rg),vu (add32 s7 rh)])) (fun _ hS=>⟨congrArg Ending.returned (by rw [cmp_end hr (show i=64 by have:=yF hb1;omega)]),hS.bel⟩)
theorem sum_any (a:Option Addr) (c:Nat) (B:List UInt8) (h0:0<B.length) (hl:B.length+73≤140737488351232) (w0:World) (hf0:Bs w0 a c B) (hf1:kJ w0) (hf2:fD w0):Calls Tryz.prog 178 #[.slice a B.length c] w0 (jR (.agg (hB (aU B))) w0):=by
 refine Calls.of_ok (n:=48) (F:=(fun w=>Bs w a c B∧kJ w∧fD w∧True)) Tryz.func178 rfl rfl rfl (by simp) (hf0.pers0.and (hf1.pers0.and (hf2.pers0.and cO))) ?_
 refine sS Tryz.f178 1 [0,2] [] (fun ρ=>[pt (nb ρ 0)]) (fun ρ=>[(0,(nw ρ 0 (cL (hB 0) 57)))]) (jE [[]]) (fun ρ1=>?_)
 refine iZ Tryz.f178 8 [2,3] [1,0] (fun ρ=>let qa:Value:=.slice (oa ρ 6) (B++(aY B.length)).length (nb ρ 6);[.slice a B.length c,.slice a B.length c,vn B.length,vx B.length,.slice (oa ρ 4) (aY B.length).length (nb ρ 4),vs (nb ρ 5) 2 2,qa,qa]) (fun ρ=>[(5,(nw ρ 5 (cL #[.slice a B.length c,.slice (oa ρ 4) (aY B.length).length (nb ρ 4)] 37)))]) (fun ρ=>[(4,fun w=>Fs w0 w (oa ρ 4) (nb ρ 4) (aY B.length)),(6,fun w=>Fs w0 w (oa ρ 6) (nb ρ 6) (B++(aY B.length)))]) (fun ρ=>(fun w=>Bs w a c B∧kJ w∧fD w∧Fs w0 w (oa ρ 4) (nb ρ 4) (aY B.length)∧Fs w0 w (oa ρ 6) (nb ρ 6) (B++(aY B.length))∧True)) (fun _=>True) (fun _ _ hF hf=>⟨⟨hF.1,hF.2.1,hF.2.2.1,hf 4,hf 6,trivial⟩,trivial⟩) (cR [[],[],[]]<|cA (v:=fun ρ=>(.int .u64 (IntKind.u64.wrap ((B.length:Nat):Int)))) (fun _=>(vx B.length)) (fun _=>congrArg (Value.int .u64) (u64N (by have:=bJ B;have:=aS B.length;omega)))<|cX (qB (fun _ _ w _=>pad_any B.length (by have:=bJ B;have:=aS B.length;omega) w))<|cR [[]]<|cX (qB (fun ρ _ w hG=>yA (nb ρ 5) a c B (oa ρ 4) (nb ρ 4) (aY B.length) (by have:=yG B.length;have:=aS B.length;omega) h0 w (Kb.of_block (hG.kn (g:=nb ρ 5) (o:=(cL #[.slice a B.length c,.slice (oa ρ 4) (aY B.length).length (nb ρ 4)] 37)) 41)) hG.fn.1 (show Fs w0 w (oa ρ 4) (nb ρ 4) (aY B.length) from (hG.facts 4 rfl).now).1))<|jE [[]]) (fun ρ2 _=>?_)
 refine sS Tryz.f178 3 [2,3,4] [] (fun ρ=>[.agg #[.int .u32 1779033703,.int .u32 3144134277,.int .u32 1013904242,.int .u32 2773480762,.int .u32 1359893119,.int .u32 2600822924,.int .u32 528734635,.int .u32 1541459225],pt (nb ρ 1),undef]) (fun ρ=>[(1,(nw ρ 1 (cL #[.int .u32 0,.int .u32 0,.int .u32 0,.int .u32 0,.int .u32 0,.int .u32 0,.int .u32 0,.int .u32 0] 163))),(2,(bD 9 (nb ρ 1) (cL #[.int .u32 1779033703,.int .u32 3144134277,.int .u32 1013904242,.int .u32 2773480762,.int .u32 1359893119,.int .u32 2600822924,.int .u32 528734635,.int .u32 1541459225] 163)))]) (cX (qF (v:=fun ρ=>(.agg #[.int .u32 1779033703,.int .u32 3144134277,.int .u32 1013904242,.int .u32 2773480762,.int .u32 1359893119,.int .u32 2600822924,.int .u32 528734635,.int .u32 1541459225])) (fun _ _ _ hG=>ld_blkA (off:=0) (vs:=[.int .u32 1779033703,.int .u32 3144134277,.int .u32 1013904242,.int .u32 2773480762,.int .u32 1359893119,.int .u32 2600822924,.int .u32 528734635,.int .u32 1541459225]) Tryz.isAgg163 Tryz.sizeOf163 hG.fn.2.2.1 rfl (fun _ _=>by rw [Nat.zero_add];simp)))<|jE [[],[9]]) (fun ρ3=>?_)
 refine aB ?_
 refine sS Tryz.f178 4 [2,3,4,18,19] [] (fun _=>[.slice (oa ρ2 6) (B++(aY B.length)).length (nb ρ2 6),vn (B++(aY B.length)).length,vn ((B++(aY B.length)).length / 64),vi 0]) (fun _=>[]) (cR [[],[]]<|cB (a:=fun ρ=>(vn (B++(aY B.length)).length)) (b:=fun ρ=>(vi 64)) (v:=fun ρ=>(vn ((B++(aY B.length)).length / 64))) .quo 3 (fun _ w=>run_quoI (n:=(B++(aY B.length)).length) (d:=64) (by decide) (by have:=bJ B;have:=aS B.length;omega) w)<|jE [[]]) (fun _=>?_)
 refine aI ?_
 refine oL (σ:=Nat × Nat × Nat × Nat × Nat × Nat × Nat × Nat × Nat) (fun ⟨i,_,_,_,_,_,_,_,_⟩=>[(2,(pt (nb ρ1 0))),(3,(.slice (oa ρ2 6) (B++(aY B.length)).length (nb ρ2 6))),(4,(pt (nb ρ3 1))),(18,(vn ((B++(aY B.length)).length / 64))),(19,(vn i))]) (fun ⟨_,t0,t1,t2,t3,t4,t5,t6,t7⟩=>[(nb ρ1 0,(cL (hB 0) 57)),(nb ρ3 1,(cL #[vu t0,vu t1,vu t2,vu t3,vu t4,vu t5,vu t6,vu t7] 163))]) (fun ⟨i,_,_,_,_,_,_,_,_⟩=>(B++(aY B.length)).length / 64-i)
   (fun ⟨i,t0,t1,t2,t3,t4,t5,t6,t7⟩=>(i≤(B++(aY B.length)).length / 64)∧(shaS (B++(aY B.length)) i=(t0,t1,t2,t3,t4,t5,t6,t7))) (0,1779033703,3144134277,1013904242,2773480762,1359893119,2600822924,528734635,1541459225) (⟨Nat.zero_le _,rfl⟩) [] ?_
 rintro ⟨i,t0,t1,t2,t3,t4,t5,t6,t7⟩ ⟨hi,hQ⟩
 change Ok Tryz.prog _ _ 48 [(2,(pt (nb ρ1 0))),(3,(.slice (oa ρ2 6) (B++(aY B.length)).length (nb ρ2 6))),(4,(pt (nb ρ3 1))),(18,(vn ((B++(aY B.length)).length / 64))),(19,(vn i))] _ [(nb ρ1 0,(cL (hB 0) 57)),(nb ρ3 1,(cL #[vu t0,vu t1,vu t2,vu t3,vu t4,vu t5,vu t6,vu t7] 163))] (fun w=>Bs w a c B∧kJ w∧fD w∧Fs w0 w (oa ρ2 4) (nb ρ2 4) (aY B.length)∧Fs w0 w (oa ρ2 6) (nb ρ2 6) (B++(aY B.length))∧True)
 refine jJ Tryz.f178 1 [2,3,4,18,19,20] [.bool (decide (((i:Nat):Int)<(((B++(aY B.length)).length / 64:Nat):Int)))] (aB ?_)
 refine oC (decide (((i:Nat):Int)<(((B++(aY B.length)).length / 64:Nat):Int))) (fun hb1=>?_) (fun hb1=>?_)
 ·
  rw [hb1]
  have:=yT hb1
  refine aG (aA (aB (aI (jJ Tryz.f178 2 [2,3,4,5,18,19] [vn i,vn i] ?_))))
  refine rDf Tryz.f178 [0,0,0,4,14,30,62,127,255] 9 [2,3,4,18,19] [] (fun _=>[.agg #[vu t0,vu t1,vu t2,vu t3,vu t4,vu t5,vu t6,vu t7],.slice (oa ρ2 6) (B++(aY B.length)).length (nb ρ2 6),vn i,vn (64*i),.slice (uF (oa ρ2 6) (64*i) (nb ρ2 6)) (mid (B++(aY B.length)) (64*i) (B++(aY B.length)).length).length ((nb ρ2 6)-(64*i)),.pointer (uF (oa ρ2 6) (64*i) (nb ρ2 6)),.agg (bs ((mid (B++(aY B.length)) (64*i) (B++(aY B.length)).length).take 64)).toArray,.agg #[vu ((eF (t0,t1,t2,t3,t4,t5,t6,t7) ((mid (B++(aY B.length)) (64*i) (B++(aY B.length)).length).take 64)).1),vu ((eF (t0,t1,t2,t3,t4,t5,t6,t7) ((mid (B++(aY B.length)) (64*i) (B++(aY B.length)).length).take 64)).2.1),vu ((eF (t0,t1,t2,t3,t4,t5,t6,t7) ((mid (B++(aY B.length)) (64*i) (B++(aY B.length)).length).take 64)).2.2.1),vu ((eF (t0,t1,t2,t3,t4,t5,t6,t7) ((mid (B++(aY B.length)) (64*i) (B++(aY B.length)).length).take 64)).2.2.2.1),vu ((eF (t0,t1,t2,t3,t4,t5,t6,t7) ((mid (B++(aY B.length)) (64*i) (B++(aY B.length)).length).take 64)).2.2.2.2.1),vu ((eF (t0,t1,t2,t3,t4,t5,t6,t7) ((mid (B++(aY B.length)) (64*i) (B++(aY B.length)).length).take 64)).2.2.2.2.2.1),vu ((eF (t0,t1,t2,t3,t4,t5,t6,t7) ((mid (B++(aY B.length)) (64*i) (B++(aY B.length)).length).take 64)).2.2.2.2.2.2.1),vu ((eF (t0,t1,t2,t3,t4,t5,t6,t7) ((mid (B++(aY B.length)) (64*i) (B++(aY B.length)).length).take 64)).2.2.2.2.2.2.2)],undef]) (fun _=>[(8,(bD 1 (nb ρ3 1) (cL #[vu ((eF (t0,t1,t2,t3,t4,t5,t6,t7) ((mid (B++(aY B.length)) (64*i) (B++(aY B.length)).length).take 64)).1),vu ((eF (t0,t1,t2,t3,t4,t5,t6,t7) ((mid (B++(aY B.length)) (64*i) (B++(aY B.length)).length).take 64)).2.1),vu ((eF (t0,t1,t2,t3,t4,t5,t6,t7) ((mid (B++(aY B.length)) (64*i) (B++(aY B.length)).length).take 64)).2.2.1),vu ((eF (t0,t1,t2,t3,t4,t5,t6,t7) ((mid (B++(aY B.length)) (64*i) (B++(aY B.length)).length).take 64)).2.2.2.1),vu ((eF (t0,t1,t2,t3,t4,t5,t6,t7) ((mid (B++(aY B.length)) (64*i) (B++(aY B.length)).length).take 64)).2.2.2.2.1),vu ((eF (t0,t1,t2,t3,t4,t5,t6,t7) ((mid (B++(aY B.length)) (64*i) (B++(aY B.length)).length).take 64)).2.2.2.2.2.1),vu ((eF (t0,t1,t2,t3,t4,t5,t6,t7) ((mid (B++(aY B.length)) (64*i) (B++(aY B.length)).length).take 64)).2.2.2.2.2.2.1),vu ((eF (t0,t1,t2,t3,t4,t5,t6,t7) ((mid (B++(aY B.length)) (64*i) (B++(aY B.length)).length).take 64)).2.2.2.2.2.2.2)] 163)))]) (fun _=>[(4,fun w=>Bs w (uF (oa ρ2 6) (64*i) (nb ρ2 6)) ((nb ρ2 6)-(64*i)) (mid (B++(aY B.length)) (64*i) (B++(aY B.length)).length))]) (fun _=>(fun w=>Bs w a c B∧kJ w∧fD w∧Fs w0 w (oa ρ2 4) (nb ρ2 4) (aY B.length)∧Fs w0 w (oa ρ2 6) (nb ρ2 6) (B++(aY B.length))∧Bs w (uF (oa ρ2 6) (64*i) (nb ρ2 6)) ((nb ρ2 6)-(64*i)) (mid (B++(aY B.length)) (64*i) (B++(aY B.length)).length)∧True)) (fun _=>True) (fun _ _ hF hf=>⟨⟨hF.1,hF.2.1,hF.2.2.1,hF.2.2.2.1,hF.2.2.2.2.1,hf 4,trivial⟩,trivial⟩) (cR [[1],[],[]]<|jW (fun ρ=>(64*((i:Nat):Int))) (fun _=>(64*i)) (fun _=>(fQ 64 i (by have:=bJ B;have:=aS B.length;omega)))<|cX (jF (fun _=>Instr.sliceAt 37 (.slice (oa ρ2 6) (B++(aY B.length)).length (nb ρ2 6)) (some (vn (64*i))) none none) (fun _=>(.slice (uF (oa ρ2 6) (64*i) (nb ρ2 6)) (mid (B++(aY B.length)) (64*i) (B++(aY B.length)).length).length ((nb ρ2 6)-(64*i)))) (fun _ _ _ hG=>vH (l:=64*i) (k:=(B++(aY B.length)).length) Tryz.underlying37 nH hG.fn.2.2.2.2.1.1 rfl (Or.inr (congrArg (fun z=>some (Value.int .i64 z)) (rfl))) (Or.inl ⟨rfl,rfl⟩) (by have:=bJ B;have:=aS B.length;omega) (Nat.le_refl _)) (fun _ _ w hG=>hG.facts0.mono (fun _ hF=>hF.2.2.2.2.1.1.mid (by have:=bJ B;have:=aS B.length;omega) (Nat.le_refl _))))<|cX (jF (fun _=>Instr.arrayAt 165 (.slice (uF (oa ρ2 6) (64*i) (nb ρ2 6)) (mid (B++(aY B.length)) (64*i) (B++(aY B.length)).length).length ((nb ρ2 6)-(64*i)))) (fun _=>(.pointer (uF (oa ρ2 6) (64*i) (nb ρ2 6)))) (fun _ _ _ _=>arr_bytes Tryz.underlying165 (by rw [kS _ _ _ (Nat.le_refl _)];have:=bJ B;have:=aS B.length;omega)) (fun _ _ _ _=>cO))<|cX (qF (fun _ _ w hG=>ld_arr Tryz.isAgg165 Tryz.sizeOf165 (show Bs w (uF (oa ρ2 6) (64*i) (nb ρ2 6)) ((nb ρ2 6)-(64*i)) (mid (B++(aY B.length)) (64*i) (B++(aY B.length)).length) from (hG.facts 4 rfl).now) (by rw [kS _ _ _ (Nat.le_refl _)];have:=bJ B;have:=aS B.length;omega) (by decide)))<|cX (qC (fun _ _ w hG=>compress_any t0 t1 t2 t3 t4 t5 t6 t7 ((mid (B++(aY B.length)) (64*i) (B++(aY B.length)).length).take 64) (hQ ▸ xA (B++(aY B.length)) i) (by rw [List.length_take,kS _ _ _ (Nat.le_refl _)];have:=bJ B;have:=aS B.length;omega) w hG.fn.2.1))<|jE [[1]]) (fun _ _=>?_)
  refine aJ (aA ?_)
  refine rS Tryz.f178 2 [2,3,4,18,19] [] (fun _=>[vn (i+1),vn (i+1)]) (fun _=>[]) (jW (fun ρ=>(((i:Nat):Int)+1)) (fun _=>(i+1)) (fun _=>(aW i 1 (by have:=bJ B;have:=aS B.length;omega)))<|jE [[]]) (fun _=>?_)
  refine nD (fun w=>Bs w a c B∧kJ w∧fD w∧Fs w0 w (oa ρ2 4) (nb ρ2 4) (aY B.length)∧Fs w0 w (oa ρ2 6) (nb ρ2 6) (B++(aY B.length))∧True) (fun w hF=>⟨hF.1,hF.2.1,hF.2.2.1,hF.2.2.2.1,hF.2.2.2.2.1,trivial⟩) ?_
  exact mN (i+1,(eF (t0,t1,t2,t3,t4,t5,t6,t7) ((mid (B++(aY B.length)) (64*i) (B++(aY B.length)).length).take 64)).1,(eF (t0,t1,t2,t3,t4,t5,t6,t7) ((mid (B++(aY B.length)) (64*i) (B++(aY B.length)).length).take 64)).2.1,(eF (t0,t1,t2,t3,t4,t5,t6,t7) ((mid (B++(aY B.length)) (64*i) (B++(aY B.length)).length).take 64)).2.2.1,(eF (t0,t1,t2,t3,t4,t5,t6,t7) ((mid (B++(aY B.length)) (64*i) (B++(aY B.length)).length).take 64)).2.2.2.1,(eF (t0,t1,t2,t3,t4,t5,t6,t7) ((mid (B++(aY B.length)) (64*i) (B++(aY B.length)).length).take 64)).2.2.2.2.1,(eF (t0,t1,t2,t3,t4,t5,t6,t7) ((mid (B++(aY B.length)) (64*i) (B++(aY B.length)).length).take 64)).2.2.2.2.2.1,(eF (t0,t1,t2,t3,t4,t5,t6,t7) ((mid (B++(aY B.length)) (64*i) (B++(aY B.length)).length).take 64)).2.2.2.2.2.2.1,(eF (t0,t1,t2,t3,t4,t5,t6,t7) ((mid (B++(aY B.length)) (64*i) (B++(aY B.length)).length).take 64)).2.2.2.2.2.2.2) (by show (B++(aY B.length)).length / 64-(i+1)<(B++(aY B.length)).length / 64-i;have:=bJ B;have:=aS B.length;omega) (⟨(by have:=bJ B;have:=aS B.length;omega),sha_next hQ (by have:=bJ B;have:=aS B.length;omega)⟩) []
 rw [hb1]
 have:=yF hb1
 refine bF (aN (aN (aT (aA ?_))))
 refine sS Tryz.f178 1 [2,4,6] [] (fun ρ=>[pt (nb ρ 0)]) (fun ρ=>[(0,(nw ρ 0 (cL (hB 0) 57)))]) (jE [[]]) (fun ρ9=>?_)
 refine aB (jJ Tryz.f178 1 [2,4,6,31] [vi 0] (aI ?_))
 refine oL (σ:=Nat × (Array Value)) (fun ⟨m,_⟩=>[(2,(pt (nb ρ1 0))),(4,(pt (nb ρ3 1))),(6,(pt (nb ρ9 0))),(31,(vn m))]) (fun ⟨_,C⟩=>[(nb ρ1 0,(cL (hB 0) 57)),(nb ρ3 1,(cL #[vu t0,vu t1,vu t2,vu t3,vu t4,vu t5,vu t6,vu t7] 163)),(nb ρ9 0,(cL C 57))]) (fun ⟨m,_⟩=>32-m)
   (fun ⟨m,C⟩=>(m≤32)∧(C=bY .u8 32 (yU (t0,t1,t2,t3,t4,t5,t6,t7) m))) (0,hB 0) (⟨by decide,hB0_row (t0,t1,t2,t3,t4,t5,t6,t7)⟩) [] ?_
 rintro ⟨m,C⟩ ⟨hm,hC⟩
 change Ok Tryz.prog _ _ 48 [(2,(pt (nb ρ1 0))),(4,(pt (nb ρ3 1))),(6,(pt (nb ρ9 0))),(31,(vn m))] _ [(nb ρ1 0,(cL (hB 0) 57)),(nb ρ3 1,(cL #[vu t0,vu t1,vu t2,vu t3,vu t4,vu t5,vu t6,vu t7] 163)),(nb ρ9 0,(cL C 57))] (fun w=>Bs w a c B∧kJ w∧fD w∧Fs w0 w (oa ρ2 4) (nb ρ2 4) (aY B.length)∧Fs w0 w (oa ρ2 6) (nb ρ2 6) (B++(aY B.length))∧True)
 refine jJ Tryz.f178 1 [2,4,6,31,32] [.bool (decide (((m:Nat):Int)<32))] (aB ?_)
 refine oC (decide (((m:Nat):Int)<32)) (fun hb2=>?_) (fun hb2=>?_)
 ·
  rw [hb2]
  have:=yT hb2
  refine aG (aA (aB (aI (jJ Tryz.f178 2 [2,4,6,7,31] [vn m,vn m] ?_))))
  refine rS Tryz.f178 13 [2,4,6,31] [] (fun _=>[vn m,vn m,vn (m / 4),jp (nb ρ3 1) (m / 4),vu (o5 (t0,t1,t2,t3,t4,t5,t6,t7) (m / 4)),vn m,vn (m%4),vn ((m%4)*8),vn (24-m%4*8),vu (o5 (t0,t1,t2,t3,t4,t5,t6,t7) (m / 4) / 2^(24-m%4*8)),vy (o5 (t0,t1,t2,t3,t4,t5,t6,t7) (m / 4) / 2^(24-m%4*8)%256),jp (nb ρ9 0) m,undef]) (fun _=>[(12,(bD 2 (nb ρ9 0) (cL (C.setIfInBounds m (vy (o5 (t0,t1,t2,t3,t4,t5,t6,t7) (m / 4) / 2^(24-m%4*8)%256))) 57)))]) (cR [[],[]]<|cB (a:=fun ρ=>(vn m)) (b:=fun ρ=>(vi 4)) (v:=fun ρ=>(vn (m / 4))) .quo 3 (fun _ w=>run_quoI (n:=m) (d:=4) (by decide) (by have:=bJ B;have:=aS B.length;omega) w)<|cX (jS (fun _=>Instr.indexAt 163 (pt (nb ρ3 1)) (vn (m / 4))) (fun _=>(jp (nb ρ3 1) (m / 4))) (fun _ w=>aX (n:=((m / 4:Nat):Int)) (i:=m / 4) Tryz.underlying163 Tryz.sizeOf55 (by have:=bJ B;have:=aS B.length;omega) w))<|cX (kG _ 1 55 (fun _=>nb ρ3 1) (fun _=>m / 4) (fun _=> #[vu t0,vu t1,vu t2,vu t3,vu t4,vu t5,vu t6,vu t7]) 163 (0,0) (fun _=>(vu (o5 (t0,t1,t2,t3,t4,t5,t6,t7) (m / 4)))) (fun _=>by kernel_rfl) Tryz.isAgg55 (fun _=>sel_get (by have:=bJ B;have:=aS B.length;omega)))<|cR [[]]<|cB (a:=fun ρ=>(vn m)) (b:=fun ρ=>(vi 4)) (v:=fun ρ=>(vn (m%4))) .rem 3 (fun _ w=>zT (k:=.i64) (n:=m) (d:=4) (by decide) w)<|jW (fun ρ=>(((m%4:Nat):Int)*8)) (fun _=>((m%4)*8)) (fun _=>(fQ (m%4) 8 (by have:=bJ B;have:=aS B.length;omega)))<|jW (fun ρ=>(24-(((m%4)*8:Nat):Int))) (fun _=>(24-m%4*8)) (fun _=>((gZ (by have:=bJ B;have:=aS B.length;omega)).trans (by omega)))<|cB (a:=fun ρ=>(vu (o5 (t0,t1,t2,t3,t4,t5,t6,t7) (m / 4)))) (b:=fun ρ=>(vn (24-m%4*8))) (v:=fun ρ=>(vu (o5 (t0,t1,t2,t3,t4,t5,t6,t7) (m / 4) / 2^(24-m%4*8)))) .shr 55 (fun _ w=>gG (k:=.u32) (x:=o5 (t0,t1,t2,t3,t4,t5,t6,t7) (m / 4)) (c:=24-m%4*8) (sel8_lt (hQ ▸ xA _ i) _) w)<|cA (fun _=>(vy (o5 (t0,t1,t2,t3,t4,t5,t6,t7) (m / 4) / 2^(24-m%4*8)%256))) (fun _=>congrArg (Value.int .u8) (u8M (o5 (t0,t1,t2,t3,t4,t5,t6,t7) (m / 4) / 2^(24-m%4*8))))<|cX (jS (fun _=>Instr.indexAt 57 (pt (nb ρ9 0)) (vn m)) (fun _=>(jp (nb ρ9 0) m)) (fun _ w=>aX (n:=((m:Nat):Int)) (i:=m) Tryz.underlying57 Tryz.sizeOf5 (by have:=bJ B;have:=aS B.length;omega) w))<|cX (qG _ 2 5 (fun _=>nb ρ9 0) (fun _=>m) (fun _=>C) (fun _=>(C.setIfInBounds m (vy (o5 (t0,t1,t2,t3,t4,t5,t6,t7) (m / 4) / 2^(24-m%4*8)%256)))) 57 (fun _=>(vy (o5 (t0,t1,t2,t3,t4,t5,t6,t7) (m / 4) / 2^(24-m%4*8)%256))) (fun _=>by kernel_rfl) Tryz.sizeOf5 (fun _=>rfl) (fun _=>(by rw [hC,eH];have:=bJ B;have:=aS B.length;omega)) (fun _=>rfl))<|cN) (fun _=>?_)
  refine aJ (aA ?_)
  refine rS Tryz.f178 2 [2,4,6,31] [] (fun _=>[vn (m+1),vn (m+1)]) (fun _=>[]) (jW (fun ρ=>(((m:Nat):Int)+1)) (fun _=>(m+1)) (fun _=>(aW m 1 (by have:=bJ B;have:=aS B.length;omega)))<|jE [[]]) (fun _=>?_)
  exact mN (m+1,C.setIfInBounds m (vy (o5 (t0,t1,t2,t3,t4,t5,t6,t7) (m / 4) / 2^(24-m%4*8)%256))) (by show 32-(m+1)<32-m;have:=bJ B;have:=aS B.length;omega) (⟨(by have:=bJ B;have:=aS B.length;omega),by rw [hC];exact zI rfl⟩) []
 rw [hb2]
 refine bF (aN (aN (aT ?_)))
 rw [hC]
 refine aA ?_
 refine sS Tryz.f178 2 [2] [1,0,0] (fun _=>[.agg (bY .u8 32 (yU (t0,t1,t2,t3,t4,t5,t6,t7) m)),undef]) (fun _=>[(1,(bD 0 (nb ρ1 0) (cL (bY .u8 32 (yU (t0,t1,t2,t3,t4,t5,t6,t7) m)) 57)))]) (cX (qF (fun _ _ _ hG=>vS Tryz.isAgg57 Tryz.sizeOf57 (hG.kn (g:=nb ρ9 0) (o:=(cL (bY .u8 32 (yU (t0,t1,t2,t3,t4,t5,t6,t7) m)) 57)) 2) (eH _ _ _)))<|jE [[0]]) (fun _=>?_)
 refine aF ?_
 exact mR (v:=(.agg (bY .u8 32 (yU (t0,t1,t2,t3,t4,t5,t6,t7) m)))) (fun _ hS=>⟨congrArg Ending.returned (congrArg Value.agg ((dgf_end (by have:=yF hb2;have:=bJ B;have:=aS B.length;omega)).trans (congrArg hB (sha_end hQ (by have:=yF hb2;have:=bJ B;have:=aS B.length;omega))))),hS.bel⟩)
theorem yM (T:List UInt8) (a:Option Addr) (c:Nat) (B:List UInt8) (hT:0<T.length∧T.length≤1000) (hl:B.length+200≤140737488351232) (w0:World) (hf0:Bs w0 a c B) (hf1:kJ w0) (hf2:fD w0):Calls Tryz.prog 175 #[.string (gY T),.slice a B.length c] w0 (jR (.agg (hB (lV T B))) w0):=by
 refine Calls.of_ok (n:=15) (F:=(fun w=>Bs w a c B∧kJ w∧fD w∧True)) Tryz.func175 rfl rfl rfl (by simp) (hf0.pers0.and (hf1.pers0.and (hf2.pers0.and cO))) ?_
 refine sS Tryz.f175 1 [0,1,4] [] (fun ρ=>[pt (nb ρ 0)]) (fun ρ=>[(0,(nw ρ 0 (cL (hB 0) 57)))]) (jE [[]]) (fun ρ1=>?_)
 refine iZ Tryz.f175 5 [1,4,5] [] (fun ρ=>[.string (gY T),.slice (oa ρ 1) T.length (nb ρ 1),.agg (hB (aU T)),pt (nb ρ 3),undef]) (fun ρ=>[(3,(nw ρ 3 (cL (hB 0) 57))),(4,(bD 25 (nb ρ 3) (cL (hB (aU T)) 57)))]) (fun ρ=>[(1,fun w=>Fs w0 w (oa ρ 1) (nb ρ 1) T)]) (fun ρ=>(fun w=>Bs w a c B∧kJ w∧fD w∧Fs w0 w (oa ρ 1) (nb ρ 1) T∧True)) (fun _=>True) (fun _ _ hF hf=>⟨⟨hF.1,hF.2.1,hF.2.2.1,hf 1,trivial⟩,trivial⟩) (cR [[]]<|cX (o_newF _ (fun _=>do pure (Next.value (← convert 9 37 (.string (gY T))))) (fun _ α κ=>(.slice α T.length κ)) (fun _=>T) (fun _ _=>(by kernel_rfl)) (fun _=>(by kernel_rfl)) (fun _ _=>(by kernel_rfl)) (fun _ _ w _=>bytes_str Tryz.underlying9 Tryz.underlying37 Tryz.underlying5 T (by omega) w))<|cX (qC (fun ρ _ w hG=>sum_any (oa ρ 1) (nb ρ 1) T hT.1 (by omega) w (show Fs w0 w (oa ρ 1) (nb ρ 1) T from (hG.facts 1 rfl).now).1 hG.fn.2.1 hG.fn.2.2.1))<|jE [[],[25]]) (fun ρ2 _=>?_)
 refine sDf Tryz.f175 [0,0,0,7,15,31,63] 7 [4] [1,0,0] (fun ρ=>let qa:=vs (nb ρ2 3) (hL (aU T)).length 32;[qa,qa,.slice a B.length c,vs (nb ρ 3) 3 3,.slice (oa ρ 4) (((hL (aU T))++(hL (aU T)))++B).length (nb ρ 4),.agg (hB (aU (((hL (aU T))++(hL (aU T)))++B))),undef]) (fun ρ=>let qa:=vs (nb ρ2 3) (hL (aU T)).length 32;[(3,(nw ρ 3 (cL #[qa,qa,.slice a B.length c] 37))),(6,(bD 0 (nb ρ1 0) (cL (hB (aU (((hL (aU T))++(hL (aU T)))++B))) 57)))]) (fun ρ=>[(4,fun w=>Fs w0 w (oa ρ 4) (nb ρ 4) (((hL (aU T))++(hL (aU T)))++B))]) (fun ρ=>(fun w=>Bs w a c B∧kJ w∧fD w∧Fs w0 w (oa ρ2 1) (nb ρ2 1) T∧Fs w0 w (oa ρ 4) (nb ρ 4) (((hL (aU T))++(hL (aU T)))++B)∧True)) (fun _=>True) (fun _ _ hF hf=>⟨⟨hF.1,hF.2.1,hF.2.2.1,hF.2.2.2.1,hf 4,trivial⟩,trivial⟩) (cR [[],[],[],[]]<|cX (qB (fun ρ _ w hG=>shrow3_any (nb ρ 3) (some ⟨nb ρ2 3,0,none⟩) 32 (hL (aU T)) (some ⟨nb ρ2 3,0,none⟩) 32 (hL (aU T)) a c B (by simp only [aO];omega) (by rw [aO];decide) w (Kb.of_block (hG.kn (g:=nb ρ 3) (o:=(cL #[vs (nb ρ2 3) (hL (aU T)).length 32,vs (nb ρ2 3) (hL (aU T)).length 32,.slice a B.length c] 37)) 26)) (Bs.of_hd (c:=32) (hG.kn (g:=nb ρ2 3) (o:=(cL (hB (aU T)) 57)) 1) (nP _) (Nat.le_refl _) (Nat.le_of_ble_eq_true rfl)) (Bs.of_hd (c:=32) (hG.kn (g:=nb ρ2 3) (o:=(cL (hB (aU T)) 57)) 1) (nP _) (Nat.le_refl _) (Nat.le_of_ble_eq_true rfl)) hG.fn.1))<|cX (qC (fun ρ _ w hG=>sum_any (oa ρ 4) (nb ρ 4) (((hL (aU T))++(hL (aU T)))++B) (by simp only [List.length_append,aO];omega) (by simp only [List.length_append,aO];omega) w (show Fs w0 w (oa ρ 4) (nb ρ 4) (((hL (aU T))++(hL (aU T)))++B) from (hG.facts 4 rfl).now).1 hG.fn.2.1 hG.fn.2.2.1))<|jE [[0]]) (fun _ _=>?_)
 refine aF ?_
 exact mR (v:=(.agg (hB (aU (((hL (aU T))++(hL (aU T)))++B))))) (fun _ hS=>⟨congrArg Ending.returned (congrArg (fun z=>Value.agg (hB z)) (by rw [lV,hL_sha])),hS.bel⟩)
theorem sK (a:Option Addr) (c:Nat) (B:List UInt8) (a2:Option Addr) (c2:Nat) (S:List UInt8) (w0:World) (hf0:Bs w0 a c B) (hf1:Bs w0 a2 c2 S):Calls Tryz.prog 45 #[.slice a B.length c,.slice a2 S.length c2] w0 (jR (.bool (decide (B=S))) w0):=by
 refine Calls.of_ok (n:=10) (F:=(fun w=>Bs w a c B∧Bs w a2 c2 S∧True)) Tryz.func45 rfl rfl rfl (by simp) (hf0.pers0.and (hf1.pers0.and cO)) ?_
 refine jJ Tryz.f45 1 [0,1,4] [vF] ?_
 refine sS Tryz.f45 6 [4] [] (fun _=>[.slice a B.length c,.string (gY B),.slice a2 S.length c2,.string (gY S),.bool (decide (B=S)),.bool (decide (B=S))]) (fun _=>[]) (cR [[]]<|cX (jF (fun _=>convert 37 9 (.slice a B.length c)) (fun _=>(.string (gY B))) (fun _ _ _ hG=>mX (xs:=B) Tryz.underlying37 Tryz.underlying5 Tryz.underlying9 hG.fn.1 rfl) (fun _ _ _ _=>cO))<|cR [[]]<|cX (jF (fun _=>convert 37 9 (.slice a2 S.length c2)) (fun _=>(.string (gY S))) (fun _ _ _ hG=>mX (xs:=S) Tryz.underlying37 Tryz.underlying5 Tryz.underlying9 hG.fn.2.1 rfl) (fun _ _ _ _=>cO))<|cB .eql 9 (fun _ w=>eql_str B S w)<|jE [[]]) (fun _=>?_)
 refine aF ?_
 exact mR (v:=(.bool (decide (B=S)))) (fun _ hS=>⟨rfl,hS.bel⟩)
theorem bclone_any (a:Option Addr) (c:Nat) (B:List UInt8) (w0:World) (hf0:Bs w0 a c B):Calls Tryz.prog 42 #[.slice a B.length c] w0 (fun ε w'=>∃ α κ,ε=.returned (.slice α B.length κ)∧jG w0 w'∧Fs w0 w' α κ B):=by
 refine Calls.of_ok (n:=8) (F:=(fun w=>Bs w a c B∧True)) Tryz.func42 rfl rfl rfl (by simp) (hf0.pers0.and cO) ?_
 refine jJ Tryz.f42 1 [0,2] [vz] (aB ?_)
 refine sS Tryz.f42 2 [0,2,4] [] (fun _=>[.slice a B.length c,.bool a.isNone]) (fun _=>[]) (cR [[]]<|cB .eql 37 (fun _ w=>eql_nil8 a B.length c w)<|cN) (fun _=>?_)
 refine oC a.isNone (fun hb1=>?_) (fun hb1=>?_)
 ·
  rw [hb1]
  refine jJ Tryz.f42 1 [0,2] [vz] (aF (aC (mD [(0,(.slice a B.length c)),(2,vz)] [] ?_)))
  exact mR (v:=vz) (fun _ hS=>⟨none,0,congrArg Ending.returned (by rw [Bs.isn hf0 hb1]<;>rfl),hS.bel,dU (Bs.isn hf0 hb1).symm Fs.nil⟩)
 rw [hb1]
 refine aG (aA ?_)
 refine iZ Tryz.f42 4 [2] [] (fun ρ=>let qa:=vs (nb ρ 2) (([]:List UInt8)++B).length (aZ ρ 2);[vs (nb ρ 0) ([]:List UInt8).length 0,.slice a B.length c,qa,qa]) (fun ρ=>[(0,(nw ρ 0 (cL #[] 5))),(2,(bD 0 (nb ρ 2) (cL (oc ρ 2) 5)))]) (fun ρ=>[(2,fun w=>Ap (oc ρ 2) (([]:List UInt8)++B) (aZ ρ 2))]) (fun _=>(fun w=>Bs w a c B∧True)) (fun ρ=>Ap (oc ρ 2) (([]:List UInt8)++B) (aZ ρ 2)) (fun _ _ hF hf=>⟨hF,hf 2⟩) (cR [[],[]]<|cX (qM 0 (fun ρ _ _ hG hg=>app_any (ty:=37) (g:=nb ρ 0) (C:= #[]) (c:=0) (xs:=([]:List UInt8)) Tryz.underlying37 nH (Ap.mk' (rfl:Hd #[] ([]:List UInt8)) (Nat.le_refl 0) (Nat.le_of_ble_eq_true rfl) rfl) (Bs.src (tx:=37) Tryz.underlying37 hG.fn.1) (by rw [List.length_nil,Nat.zero_add];exact hf0.max) hg))<|jE [[]]) (fun ρ4 ap4_2=>?_)
 refine aF (mD [(2,(vs (nb ρ4 2) (([]:List UInt8)++B).length (aZ ρ4 2)))] [(nb ρ4 2,(cL (oc ρ4 2) 5))] ?_)
 exact mR (v:=(vs (nb ρ4 2) (([]:List UInt8)++B).length (aZ ρ4 2))) (fun _ hS=>⟨some ⟨nb ρ4 2,0,none⟩,aZ ρ4 2,congrArg Ending.returned (rfl),hS.bel,dU (rfl) (hS.fresh (.head _) ap4_2.hd ap4_2.le ap4_2.max)⟩)
theorem wfind1_any (a:Option Addr) (c:Nat) (B:List UInt8) (a2:Option Addr) (c2:Nat) (S:List UInt8) (g:Nat) (w0:World) (hf0:Bs w0 a c B) (hf1:Bs w0 a2 c2 S) (hf2:Kb w0 g #[.slice a2 S.length c2]):Calls Tryz.prog 44 #[.slice a B.length c,pt g] w0 (jR (.bool (decide (B=S))) w0):=by
 refine Calls.of_ok (n:=7) (F:=(fun w=>Bs w a c B∧Bs w a2 c2 S∧Kb w g #[.slice a2 S.length c2]∧True)) Tryz.func44 rfl rfl rfl (by simp) (hf0.pers0.and (hf1.pers0.and (hf2.pers0.and cO))) ?_
 refine jJ Tryz.f44 1 [0,1,3] [vF] ?_
 refine sS Tryz.f44 4 [3] [] (fun _=>[.slice a B.length c,.slice a2 S.length c2,.bool (decide (B=S)),.bool (decide (B=S))]) (fun _=>[]) (cR [[]]<|cX (qF (v:=fun ρ=>(.slice a2 S.length c2)) (fun _ _ _ hG=>mY (off:=0) Tryz.isAgg37 hG.fn.2.2.1 (rfl)))<|cX (qC (fun _ _ w hG=>sK a c B a2 c2 S w hG.fn.1 hG.fn.2.1))<|jE [[]]) (fun _=>?_)
 refine aF ?_
 exact mR (v:=(.bool (decide (B=S)))) (fun _ hS=>⟨rfl,hS.bel⟩)
theorem windex_any (a:Option Addr) (c:Nat) (l:List bI) (a2:Option Addr) (c2:Nat) (S:List UInt8) (g:Nat) (w0:World) (hf0:bU w0 a c l) (hf1:Bs w0 a2 c2 S) (hf2:Kb w0 g #[.slice a2 S.length c2]):Calls Tryz.prog 43 #[.slice a l.length c,.func (.func 44) #[] #[pt g]] w0 (jR (vi (ixB S (sB l) 0)) w0):=by
 refine Calls.of_ok (n:=19) (F:=(fun w=>bU w a c l∧Bs w a2 c2 S∧Kb w g #[.slice a2 S.length c2]∧True)) Tryz.func43 rfl rfl rfl (by simp) (hf0.pers0.and (hf1.pers0.and (hf2.pers0.and cO))) ?_
 have hlen:l.length≤140737488351232:=hf0.max
 refine jJ Tryz.f43 1 [0,1,4] [vi 0] (aB (jJ Tryz.f43 3 [0,1,4,7,8] [.slice a l.length c,vn l.length,vi 0] (aI ?_)))
 refine oL (σ:=Nat) (fun i=>[(0,(.slice a l.length c)),(1,(.func (.func 44) #[] #[pt g])),(7,(vn l.length)),(8,(vn i))]) (fun _=>[]) (fun i=>l.length-i)
   (fun i=>(i≤l.length)∧(ixB S ((sB l).drop i) i=ixB S (sB l) 0)) 0 (⟨Nat.zero_le _,rfl⟩) [] ?_
 rintro i ⟨hi,hr⟩
 change Ok Tryz.prog _ _ 19 [(0,(.slice a l.length c)),(1,(.func (.func 44) #[] #[pt g])),(7,(vn l.length)),(8,(vn i))] _ [] (fun w=>bU w a c l∧Bs w a2 c2 S∧Kb w g #[.slice a2 S.length c2]∧True)
 refine jJ Tryz.f43 1 [0,1,7,8,9] [.bool (decide (((i:Nat):Int)<((l.length:Nat):Int)))] (aB ?_)
 refine oC (decide (((i:Nat):Int)<((l.length:Nat):Int))) (fun hb1=>?_) (fun hb1=>?_)
 ·
  rw [hb1]
  have:=yT hb1
  refine aG (aA (aB (aI (jJ Tryz.f43 2 [0,1,5,7,8] [vn i,vn i] ?_))))
  refine sS Tryz.f43 6 [0,1,5,7,8,16] [] (fun _=>[.func (.func 44) #[] #[pt g],.slice a l.length c,vn i,.pointer (fK a i),.slice (gS l i).a (gS l i).b.length (gS l i).c,.bool (decide ((gS l i).b=S))]) (fun _=>[]) (cR [[],[],[]]<|cX (qF (fun _ _ _ hG=>bU.idx (k:=.i64) Tryz.underlying29 Tryz.sizeOf37 hG.fn.1 rfl (show ((i:Nat):Int)=((i:Nat):Int) from rfl) (show i<l.length from (by omega))))<|cX (qF (fun _ _ _ hG=>bU.ld Tryz.isAgg37 hG.fn.1 (show i<l.length from (by omega))))<|cX (qC (fun _ _ w hG=>wfind1_any (gS l i).a (gS l i).c (gS l i).b a2 c2 S g w (hG.fn.1.sub _ (iO (show i<l.length from (by omega)))) hG.fn.2.1 hG.fn.2.2.1))<|cN) (fun _=>?_)
  refine oC (decide ((gS l i).b=S)) (fun hb2=>?_) (fun hb2=>?_)
  ·
   rw [hb2]
   refine jJ Tryz.f43 2 [0,1,4,7,8] [vn i,vn i] (aF (aP (aC (aC (aP (aC ?_))))))
   exact mR (v:=(vn i)) (fun _ hS=>⟨congrArg (fun x=>Ending.returned (vi x)) (ixB_stop (by have:=yT hb2;omega) hb2 hr),hS.bel⟩)
  rw [hb2]
  have:=yF hb2
  refine aG (aJ (aA ?_))
  refine rS Tryz.f43 2 [0,1,7,8] [] (fun _=>[vn (i+1),vn (i+1)]) (fun _=>[]) (jW (fun ρ=>(((i:Nat):Int)+1)) (fun _=>(i+1)) (fun _=>(aW i 1 (by omega)))<|jE [[]]) (fun _=>?_)
  exact mN (i+1) (by show l.length-(i+1)<l.length-i;omega) (⟨(by omega),ixB_next (by omega) hb2 hr⟩) []
 rw [hb1]
 refine bF (aN (aN (aT (aA (jJ Tryz.f43 1 [4] [vi (-1)] (aF ?_))))))
 exact mR (v:=(vi (-1))) (fun _ hS=>⟨congrArg (fun x=>Ending.returned (vi x)) (ixB_end (by have:=yF hb1;omega) hr),hS.bel⟩)
theorem wfind_any (x0:Value) (x1:Int) (x2:Int) (a:Option Addr) (c:Nat) (l:List bI) (a2:Option Addr) (c2:Nat) (S:List UInt8) (w0:World) (hf0:bU w0 a c l) (hf1:Bs w0 a2 c2 S):Calls Tryz.prog 21 #[.agg #[x0,vi x1,vi x2,.slice a l.length c],.slice a2 S.length c2] w0 (jR (vi (ixB S (sB l) 0)) w0):=by
 refine Calls.of_ok (n:=9) (F:=(fun w=>bU w a c l∧Bs w a2 c2 S∧True)) Tryz.func21 rfl rfl rfl (by simp) (hf0.pers0.and (hf1.pers0.and cO)) ?_
 refine sS Tryz.f21 3 [2,3,4] [] (fun ρ=>[pt (nb ρ 0),pt (nb ρ 1),vi 0]) (fun ρ=>[(0,(nw ρ 0 (cL #[x0,vi x1,vi x2,.slice a l.length c] 31))),(1,(nw ρ 1 (cL #[.slice a2 S.length c2] 37)))]) (jE [[],[],[]]) (fun ρ1=>?_)
 refine sS Tryz.f21 5 [4] [0,0] (fun _=>[jp (nb ρ1 0) 3,.slice a l.length c,.func (.func 44) #[] #[pt (nb ρ1 1)],vi (ixB S (sB l) 0),vi (ixB S (sB l) 0)]) (fun _=>[]) (cR [[],[0],[]]<|cX (qC (fun _ _ w hG=>windex_any a c l a2 c2 S (nb ρ1 1) w hG.fn.1 hG.fn.2.1 (Kb.of_block (hG.kn (g:=nb ρ1 1) (o:=(cL #[.slice a2 S.length c2] 37)) 1))))<|jE [[]]) (fun _=>?_)
 refine aF ?_
 exact mR (v:=(vi (ixB S (sB l) 0))) (fun _ hS=>⟨rfl,hS.bel⟩)
theorem wcomp_any (g:Nat) (κ:Nat) (C:Array Value) (l:List bI) (hA:kW.A C l κ) (hlm:l.length≤1000) (w0:World) (hK:Knows [(g,(cL C 37))] w0) (hP:dL (fun b=>b∈([(g,(cL C 37))]:List (Nat × Obj)).map (·.1)) (fun w=>dN w l∧True) w0) (T:Nat→Prop) (hTg:T g) (hY:dL T (fun w=>dN w l) w0):Calls Tryz.prog 48 #[vs g l.length κ,.func (.func 45) #[] #[]] w0 (fun ε w'=>nN (fun b=>b∈([(g,.cells C 37 (0,0))]:List (Nat × Obj)).map (·.1)) w0 w'∧∃ r:bH,ε=.returned (vs g r.s.length κ)∧Knows [(g,.cells (uG r) 37 (0,0))] w'∧dL T (fun w=>dN w r.s∧kW.A (uG r) r.s κ∧(∀ s∈r.s,s∈l)∧sB r.s=cpB (sB l)) w'):=by
 refine Calls.of_okW (n:=66) (F:=(fun w=>dN w l∧True)) [(g,(cL C 37))] Tryz.func48 rfl rfl rfl (by simp) hK (by simp) hP ?_
 have hle:l.length≤κ:=Av.le hA
 refine jJ Tryz.f48 1 [0,1,4] [vz] (aB (jJ Tryz.f48 3 [0,1,4,10] [vs g l.length κ,vn l.length,.bool (decide (((l.length:Nat):Int)<2))] ?_))
 refine oC (decide (((l.length:Nat):Int)<2)) (fun hb1=>?_) (fun hb1=>?_)
 ·
  rw [hb1]
  refine jJ Tryz.f48 2 [0,1,4] [vs g l.length κ,vs g l.length κ] (aF (aC (mD [(0,(vs g l.length κ)),(1,(.func (.func 45) #[] #[])),(4,(vs g l.length κ))] [(g,(cL C 37))] ?_)))
  exact mR (v:=(vs g l.length κ)) (fun _ hS=>⟨hS.below,{ o:=[.cells C 0 (0,0)],s:=l},rfl,hS.knows [1],(hY.upd hS.below (fun b hb=>by rw [List.mem_singleton.1 hb];exact hTg) (fun b hb=>Or.inl hb)).mono (fun _ h=>⟨h.subl (fun _ h=>h),hA,(fun _ h=>h),cp_short (show l.length<2 from by have:=yT hb1;omega)⟩)⟩)
 rw [hb1]
 have:=yF hb1
 refine aG (aA (aB (jJ Tryz.f48 1 [0,1,4,5] [vi 1] (aI ?_))))
 refine oL (σ:=Nat) (fun k=>[(0,(vs g l.length κ)),(1,(.func (.func 45) #[] #[])),(5,(vn k))]) (fun _=>[(g,(cL C 37))]) (fun k=>l.length-k)
   (fun k=>(Cq l k)) 1 (Cq.start (by omega)) [] ?_
 rintro k hq
 change Ok Tryz.prog _ _ 66 [(0,(vs g l.length κ)),(1,(.func (.func 45) #[] #[])),(5,(vn k))] _ [(g,(cL C 37))] (fun w=>dN w l∧True)
 refine aB (jJ Tryz.f48 4 [0,1,5,15] [vn k,vs g l.length κ,vn l.length,.bool (decide (((k:Nat):Int)<((l.length:Nat):Int)))] ?_)
 refine oC (decide (((k:Nat):Int)<((l.length:Nat):Int))) (fun hb2=>?_) (fun hb2=>?_)
 ·
  rw [hb2]
  have:=yT hb2
  refine aG (aA (aB (aI ?_)))
  refine sD Tryz.f48 [0,0,0,6,14,0,0,64,224,480,1023] 11 [0,1,5,28] [] (fun _=>[.func (.func 45) #[] #[],vs g l.length κ,vn k,jp g (k*1),.slice (gS l k).a (gS l k).b.length (gS l k).c,vs g l.length κ,vn k,vn (k-1),jp g ((k-1)*1),.slice (gS l (k-1)).a (gS l (k-1)).b.length (gS l (k-1)).c,.bool (decide ((gS l k).b=(gS l (k-1)).b))]) (fun _=>[]) (cR [[],[],[]]<|cX (qS (fun _ w=>iG (g:=g) (c:=κ) (k:=.i64) Tryz.underlying29 Tryz.sizeOf37 (show ((k:Nat):Int)=((k:Nat):Int) from rfl) (show k<l.length from (by have:=hq.h;omega)) w))<|cX (kG _ 0 37 (fun _=>g) (fun _=>k*1) (fun _=>C) 37 (0,0) (fun _=>(.slice (gS l k).a (gS l k).b.length (gS l k).c)) (fun _=>by kernel_rfl) Tryz.isAgg37 (fun _=>kW_get hA (show k<l.length from (by have:=hq.h;omega))))<|cR [[],[]]<|jW (fun ρ=>(((k:Nat):Int)-1)) (fun _=>(k-1)) (fun _=>((gZ (by have:=hq.h;omega)).trans (by have:=hq.h;omega)))<|cX (qS (fun _ w=>iG (g:=g) (c:=κ) (k:=.i64) Tryz.underlying29 Tryz.sizeOf37 (show (((k-1):Nat):Int)=(((k-1):Nat):Int) from rfl) (show (k-1)<l.length from (by have:=hq.h;omega)) w))<|cX (kG _ 0 37 (fun _=>g) (fun _=>(k-1)*1) (fun _=>C) 37 (0,0) (fun _=>(.slice (gS l (k-1)).a (gS l (k-1)).b.length (gS l (k-1)).c)) (fun _=>by kernel_rfl) Tryz.isAgg37 (fun _=>kW_get hA (show (k-1)<l.length from (by have:=hq.h;omega))))<|cX (qC (fun _ _ w hG=>sK (gS l k).a (gS l k).c (gS l k).b (gS l (k-1)).a (gS l (k-1)).c (gS l (k-1)).b w (hG.fn.1 _ (iO (show k<l.length from (by have:=hq.h;omega)))) (hG.fn.1 _ (iO (show (k-1)<l.length from (by have:=hq.h;omega))))))<|cN) (fun _=>?_)
  refine oC (decide ((gS l k).b=(gS l (k-1)).b)) (fun hb3=>?_) (fun hb3=>?_)
  ·
   rw [hb3]
   have:=yT hb3
   refine sS Tryz.f48 4 [0,1,5,6] [] (fun _=>let qa:Value:=.slice (some ⟨g,k,none⟩) (l.length-k) (κ-k);[vs g l.length κ,vn k,qa,qa]) (fun _=>[]) (cR [[],[]]<|cX (qF (fun _ _ _ _=>slice_off (g:=g) (m:=l.length) (c:=κ) (k:=k) Tryz.underlying29 Tryz.sizeOf37 (jI (rfl)) (by have:=hq.h;omega) (by have:=hq.h;omega)))<|jE [[]]) (fun _=>?_)
   refine aB (jJ Tryz.f48 1 [0,1,5,6,7] [vi 1] (aI ?_))
   refine oLF (σ:=Nat × Nat × (Array Value) × (List bI)) (fun ⟨_,_,_,M⟩=>(fun w=>dN w l∧dN w M∧True)) (fun ⟨k2,j,_,_⟩=>[(0,(vs g l.length κ)),(1,(.func (.func 45) #[] #[])),(5,(vn j)),(6,(.slice (some ⟨g,k,none⟩) (l.length-k) (κ-k))),(7,(vn k2))]) (fun ⟨_,_,C2,_⟩=>[(g,(cL C2 37))]) (fun ⟨k2,_,_,_⟩=>l.length-k-k2)
     (fun ⟨k2,j,C2,M⟩=>(Cp l M k k2 j)∧(kW.A C2 M κ)) (1,k,C,l) (⟨Cp.start hq (by have:=hq.h;omega) hb3,hA⟩) (fun w hF=>⟨hF.1,hF.1,trivial⟩) [] ?_
   rintro ⟨k2,j,C2,M⟩ ⟨hp,hA2⟩
   change Ok Tryz.prog _ _ 66 [(0,(vs g l.length κ)),(1,(.func (.func 45) #[] #[])),(5,(vn j)),(6,(.slice (some ⟨g,k,none⟩) (l.length-k) (κ-k))),(7,(vn k2))] _ [(g,(cL C2 37))] (fun w=>dN w l∧dN w M∧True)
   refine aB (jJ Tryz.f48 4 [0,1,5,6,7,35] [vn k2,.slice (some ⟨g,k,none⟩) (l.length-k) (κ-k),vn (l.length-k),.bool (decide (((k2:Nat):Int)<((l.length-k:Nat):Int)))] ?_)
   refine oC (decide (((k2:Nat):Int)<((l.length-k:Nat):Int))) (fun hb4=>?_) (fun hb4=>?_)
   ·
    rw [hb4]
    have:=yT hb4
    refine aG (aA (aB (aI ?_)))
    refine sD Tryz.f48 [0,0,0,6,14,0,0,64,224,480,1023,2047] 12 [0,1,5,6,7,49] [] (fun _=>let qa:Value:=.slice (some ⟨g,k,none⟩) (l.length-k) (κ-k);[.func (.func 45) #[] #[],qa,vn k2,jp g (k+k2),.slice (gS M (k+k2)).a (gS M (k+k2)).b.length (gS M (k+k2)).c,qa,vn k2,vn (k2-1),jp g (k+(k2-1)),.slice (gS M (k+(k2-1))).a (gS M (k+(k2-1))).b.length (gS M (k+(k2-1))).c,.bool (decide ((gS M (k+k2)).b=(gS M (k+(k2-1))).b)),.bool (!(decide ((gS M (k+k2)).b=(gS M (k+(k2-1))).b)))]) (fun _=>[]) (cR [[],[],[]]<|cX (qS (fun _ w=>idx_off (g:=g) (o:=k) (c:=κ-k) (k:=.i64) Tryz.underlying29 Tryz.sizeOf37 (show ((k2:Nat):Int)=((k2:Nat):Int) from rfl) (show k2<l.length-k from (by have:=hp.h2;have:=hp.hk;have:=hp.len;have:=hq.h;omega)) w))<|cX (kG _ 0 37 (fun _=>g) (fun _=>k+k2) (fun _=>C2) 37 (0,0) (fun _=>(.slice (gS M (k+k2)).a (gS M (k+k2)).b.length (gS M (k+k2)).c)) (fun _=>by kernel_rfl) Tryz.isAgg37 (fun _=>kW_getO hA2 (show k+k2<M.length from (by have:=hp.h2;have:=hp.hk;have:=hp.len;have:=hq.h;omega))))<|cR [[],[]]<|jW (fun ρ=>(((k2:Nat):Int)-1)) (fun _=>(k2-1)) (fun _=>((gZ (by have:=hp.h2;have:=hp.hk;have:=hp.len;have:=hq.h;omega)).trans (by have:=hp.h2;have:=hp.hk;have:=hp.len;have:=hq.h;omega)))<|cX (qS (fun _ w=>idx_off (g:=g) (o:=k) (c:=κ-k) (k:=.i64) Tryz.underlying29 Tryz.sizeOf37 (show (((k2-1):Nat):Int)=(((k2-1):Nat):Int) from rfl) (show (k2-1)<l.length-k from (by have:=hp.h2;have:=hp.hk;have:=hp.len;have:=hq.h;omega)) w))<|cX (kG _ 0 37 (fun _=>g) (fun _=>k+(k2-1)) (fun _=>C2) 37 (0,0) (fun _=>(.slice (gS M (k+(k2-1))).a (gS M (k+(k2-1))).b.length (gS M (k+(k2-1))).c)) (fun _=>by kernel_rfl) Tryz.isAgg37 (fun _=>kW_getO hA2 (show k+(k2-1)<M.length from (by have:=hp.h2;have:=hp.hk;have:=hp.len;have:=hq.h;omega))))<|cX (qC (fun _ _ w hG=>sK (gS M (k+k2)).a (gS M (k+k2)).c (gS M (k+k2)).b (gS M (k+(k2-1))).a (gS M (k+(k2-1))).c (gS M (k+(k2-1))).b w (hG.fn.2.1 _ (iO (show k+k2<M.length from (by have:=hp.h2;have:=hp.hk;have:=hp.len;have:=hq.h;omega)))) (hG.fn.2.1 _ (iO (show k+(k2-1)<M.length from (by have:=hp.h2;have:=hp.hk;have:=hp.len;have:=hq.h;omega))))))<|jE [[]]) (fun _=>?_)
    refine oC (!(decide ((gS M (k+k2)).b=(gS M (k+(k2-1))).b))) (fun hb5=>?_) (fun hb5=>?_)
    ·
     rw [hb5]
     refine sS Tryz.f48 8 [0,1,5,6,7] [] (fun _=>[vs g l.length κ,vn j,.slice (some ⟨g,k,none⟩) (l.length-k) (κ-k),vn k2,jp g (k+k2),.slice (gS M (k+k2)).a (gS M (k+k2)).b.length (gS M (k+k2)).c,jp g (j*1),undef]) (fun _=>[(7,(bD 0 g (cL (C2.setIfInBounds (j*1) (.slice (gS M (k+k2)).a (gS M (k+k2)).b.length (gS M (k+k2)).c)) 37)))]) (cR [[],[],[],[]]<|cX (qS (fun _ w=>idx_off (g:=g) (o:=k) (c:=κ-k) (k:=.i64) Tryz.underlying29 Tryz.sizeOf37 (show ((k2:Nat):Int)=((k2:Nat):Int) from rfl) (show k2<l.length-k from (by have:=hp.h2;have:=hp.hk;have:=hp.len;have:=hq.h;omega)) w))<|cX (kG _ 0 37 (fun _=>g) (fun _=>k+k2) (fun _=>C2) 37 (0,0) (fun _=>(.slice (gS M (k+k2)).a (gS M (k+k2)).b.length (gS M (k+k2)).c)) (fun _=>by kernel_rfl) Tryz.isAgg37 (fun _=>kW_getO hA2 (show k+k2<M.length from (by have:=hp.h2;have:=hp.hk;have:=hp.len;have:=hq.h;omega))))<|cX (qS (fun _ w=>iG (g:=g) (c:=κ) (k:=.i64) Tryz.underlying29 Tryz.sizeOf37 (show ((j:Nat):Int)=((j:Nat):Int) from rfl) (show j<l.length from (by have:=hp.h2;have:=hp.hk;have:=hp.len;have:=hq.h;omega)) w))<|cX (qG _ 0 37 (fun _=>g) (fun _=>j*1) (fun _=>C2) (fun _=>(C2.setIfInBounds (j*1) (.slice (gS M (k+k2)).a (gS M (k+k2)).b.length (gS M (k+k2)).c))) 37 (fun _=>(.slice (gS M (k+k2)).a (gS M (k+k2)).b.length (gS M (k+k2)).c)) (fun _=>by kernel_rfl) Tryz.sizeOf37 (fun _=>rfl) (fun _=>(kW_lt hA2 (show j<M.length from (by have:=hp.h2;have:=hp.hk;have:=hp.len;have:=hq.h;omega)))) (fun _=>rfl))<|cN) (fun _=>?_)
     refine rS Tryz.f48 3 [0,1,5,6,7] [] (fun _=>[vn j,vn (j+1),vn (j+1)]) (fun _=>[]) (cR [[]]<|jW (fun ρ=>(((j:Nat):Int)+1)) (fun _=>(j+1)) (fun _=>(aW j 1 (by have:=hp.h2;have:=hp.hk;have:=hp.len;have:=hq.h;omega)))<|jE [[]]) (fun _=>?_)
     refine aJ (aA ?_)
     refine rS Tryz.f48 3 [0,1,5,6,7] [] (fun _=>[vn k2,vn (k2+1),vn (k2+1)]) (fun _=>[]) (cR [[]]<|jW (fun ρ=>(((k2:Nat):Int)+1)) (fun _=>(k2+1)) (fun _=>(aW k2 1 (by have:=hp.h2;have:=hp.hk;have:=hp.len;have:=hq.h;omega)))<|jE [[]]) (fun _=>?_)
     refine mD [(0,(vs g l.length κ)),(1,(.func (.func 45) #[] #[])),(5,(vn (j+1))),(6,(.slice (some ⟨g,k,none⟩) (l.length-k) (κ-k))),(7,(vn (k2+1)))] [(g,(cL (C2.setIfInBounds (j*1) (.slice (gS M (k+k2)).a (gS M (k+k2)).b.length (gS M (k+k2)).c)) 37))] ?_
     exact mNF (k2+1,j+1,C2.setIfInBounds (j*1) (.slice (gS M (k+k2)).a (gS M (k+k2)).b.length (gS M (k+k2)).c),M.set j (gS M (k+k2))) (by show l.length-k-(k2+1)<l.length-k-k2;have:=hp.h2;have:=hp.hk;have:=hp.len;have:=hq.h;omega) (⟨hp.keep (show k+k2<l.length from (by have:=hp.h2;have:=hp.hk;have:=hp.len;have:=hq.h;omega)) (dF hb5),kW_set (j:=j) hA2 (gS M (k+k2))⟩) (fun w hS=>hS.weaken (fun w hF=>⟨hF.1,dN.subl hF.1 (Cp.sub (hp.keep (show k+k2<l.length from (by have:=hp.h2;have:=hp.hk;have:=hp.len;have:=hq.h;omega)) (dF hb5))),trivial⟩))
    rw [hb5]
    refine aG (aJ (aA ?_))
    refine rS Tryz.f48 3 [0,1,5,6,7] [] (fun _=>[vn k2,vn (k2+1),vn (k2+1)]) (fun _=>[]) (cR [[]]<|jW (fun ρ=>(((k2:Nat):Int)+1)) (fun _=>(k2+1)) (fun _=>(aW k2 1 (by have:=hp.h2;have:=hp.hk;have:=hp.len;have:=hq.h;omega)))<|jE [[]]) (fun _=>?_)
    refine mD [(0,(vs g l.length κ)),(1,(.func (.func 45) #[] #[])),(5,(vn j)),(6,(.slice (some ⟨g,k,none⟩) (l.length-k) (κ-k))),(7,(vn (k2+1)))] [(g,(cL C2 37))] ?_
    exact mNF (k2+1,j,C2,M) (by show l.length-k-(k2+1)<l.length-k-k2;have:=hp.h2;have:=hp.hk;have:=hp.len;have:=hq.h;omega) (⟨hp.same (show k+k2<l.length from (by have:=hp.h2;have:=hp.hk;have:=hp.len;have:=hq.h;omega)) (aV hb5),hA2⟩) (fun w hS=>hS.weaken (fun w hF=>⟨hF.1,dN.subl hF.1 (Cp.sub (hp.same (show k+k2<l.length from (by have:=hp.h2;have:=hp.hk;have:=hp.len;have:=hq.h;omega)) (aV hb5))),trivial⟩))
   rw [hb4]
   have:=yF hb4
   refine bF (aN (aN (aT (aA ?_))))
   refine sS Tryz.f48 4 [0,1,5] [] (fun _=>[vs g l.length κ,vn j,.slice (some ⟨g,j,none⟩) (l.length-j) (κ-j),.tuple #[]]) (fun _=>[(3,(bD 0 g (cL (inpl C2 j (List.replicate (l.length-j) vz)) 37)))]) (cR [[],[]]<|cX (qF (fun _ _ _ _=>slice_off (g:=g) (m:=l.length) (c:=κ) (k:=j) Tryz.underlying29 Tryz.sizeOf37 (jI (rfl)) (by have:=hp.h2;have:=hp.hk;have:=hp.len;have:=hq.h;omega) (by have:=hp.h2;have:=hp.hk;have:=hp.len;have:=hq.h;omega)))<|cX (o9 _ 0 (fun _=>do pure (Next.value (← Builtin.clear_ #[29] 0 #[.slice (some ⟨g,j,none⟩) (l.length-j) (κ-j)]))) (fun _=>g) (fun _=>(cL C2 37)) (fun _=>(cL (inpl C2 j (List.replicate (l.length-j) vz)) 37)) (fun _=>(.tuple #[])) (fun _=>(by kernel_rfl)) (fun _=>(by kernel_rfl)) (fun _=>(by kernel_rfl)) (fun _=>(by kernel_rfl)) (fun _ _=>trivial) (fun _ _ _ _ hg=>clear_row Tryz.underlying29 Tryz.zeroValue37 rfl rfl (by have:=hp.h2;have:=hp.hk;have:=hp.len;have:=hq.h;omega) (by have:=Av.size hA2;have:=hp.h2;have:=hp.hk;have:=hp.len;have:=hq.h;omega) hg))<|cN) (fun _=>?_)
   refine sS Tryz.f48 4 [0,1,4,5] [] (fun _=>let qa:=vs g (M.take j).length κ;[vs g l.length κ,vn j,qa,qa]) (fun _=>[]) (cR [[],[]]<|cX (qF (fun _ _ _ _=>pY (a:=some ⟨g,0,none⟩) (c:=κ) (m:=l.length) (n:=l.length) (k:=j) (r:=(M.take j).length) Tryz.underlying29 Tryz.sizeOf37 rfl (jI (rfl)) (Nat.le_of_lt (by have:=hp.h2;have:=hp.hk;have:=hp.len;have:=hq.h;omega)) (by have:=hp.h2;have:=hp.hk;have:=hp.len;have:=hq.h;omega) (by rw [List.length_take];exact (Nat.min_eq_left (by have:=hp.h2;have:=hp.hk;have:=hp.len;have:=hq.h;omega)).symm)))<|jE [[]]) (fun _=>?_)
   refine aF (aP (aC (aC (aP (aC (mD [(0,(vs g l.length κ)),(1,(.func (.func 45) #[] #[])),(4,(vs g (M.take j).length κ)),(5,(vn j))] [(g,(cL (inpl C2 j (List.replicate (l.length-j) vz)) 37))] ?_))))))
   exact mR (v:=(vs g (M.take j).length κ)) (fun _ hS=>⟨hS.below,{ o:=[.cells (inpl C2 j (List.replicate (l.length-j) vz)) 0 (0,0)],s:=M.take j},rfl,hS.knows [1],(hY.upd hS.below (fun b hb=>by rw [List.mem_singleton.1 hb];exact hTg) (fun b hb=>Or.inl hb)).mono (fun _ h=>⟨h.subl (fun s hs=>hp.sub s (List.mem_of_mem_take hs)),kW_clear hA2 (by have:=hp.h2;have:=hp.hk;have:=hp.len;have:=hq.h;omega) (by rw [List.length_replicate];exact (by have:=Av.size hA2;have:=hp.h2;have:=hp.hk;have:=hp.len;have:=hq.h;omega)),(fun s hs=>hp.sub s (List.mem_of_mem_take hs)),hp.done (by have:=hp.h2;have:=hp.hk;have:=hp.len;have:=hq.h;omega)⟩)⟩)
  rw [hb3]
  have:=yF hb3
  refine aG (aJ (aA ?_))
  refine rS Tryz.f48 3 [0,1,5] [] (fun _=>[vn k,vn (k+1),vn (k+1)]) (fun _=>[]) (cR [[]]<|jW (fun ρ=>(((k:Nat):Int)+1)) (fun _=>(k+1)) (fun _=>(aW k 1 (by have:=hq.h;omega)))<|jE [[]]) (fun _=>?_)
  exact mN (k+1) (by show l.length-(k+1)<l.length-k;have:=hq.h;omega) (hq.next (show k<l.length from (by have:=hq.h;omega)) hb3) []
 rw [hb2]
 refine bF (aN (aN (aT (aA (jJ Tryz.f48 2 [4] [vs g l.length κ,vs g l.length κ] (aF (mD [(4,(vs g l.length κ))] [(g,(cL C 37))] ?_)))))))
 exact mR (v:=(vs g l.length κ)) (fun _ hS=>⟨hS.below,{ o:=[.cells C 0 (0,0)],s:=l},rfl,hS.knows [1],(hY.upd hS.below (fun b hb=>by rw [List.mem_singleton.1 hb];exact hTg) (fun b hb=>Or.inl hb)).mono (fun _ h=>⟨h.subl (fun _ h=>h),hA,(fun _ h=>h),hq.done (by have:=yF hb2;have:=hq.h;omega)⟩)⟩)
theorem wcompN_any (g κ:Nat) (C:Array Value) (l:List bI) (n:Nat) (hn:l.length=n) (hA:kW.A C l κ) (hlm:l.length≤1000) (w0:World) (hK:Knows [(g,.cells C 37 (0,0))] w0) (hP:dL (fun b=>b∈([(g,.cells C 37 (0,0))]:List (Nat × Obj)).map (·.1)) (fun w=>dN w l∧True) w0) (T:Nat→Prop) (hTg:T g) (hY:dL T (fun w=>dN w l) w0):Calls Tryz.prog 48 #[.slice (some ⟨g,0,none⟩) n κ,.func (.func 45) #[] #[]] w0 (fun ε w'=>nN (fun b=>b∈([(g,.cells C 37 (0,0))]:List (Nat × Obj)).map (·.1)) w0 w'∧∃ r:bH,ε=.returned (.slice (some ⟨g,0,none⟩) r.s.length κ)∧Knows [(g,.cells (uG r) 37 (0,0))] w'∧dL T (fun w=>dN w r.s∧kW.A (uG r) r.s κ∧(∀ s∈r.s,s∈l)∧sB r.s=cpB (sB l)) w'):=by
  subst hn
  exact wcomp_any g κ C l hA hlm w0 hK hP T hTg hY
theorem wcomp0_any  (w0:World):Calls Tryz.prog 48 #[vz,.func (.func 45) #[] #[]] w0 (jR vz w0):=by
 refine Calls.of_ok (n:=66) (F:=(fun _=>True)) Tryz.func48 rfl rfl rfl (by simp) jT ?_
 refine jJ Tryz.f48 1 [0,1,4] [vz] (aB (jJ Tryz.f48 3 [0,1,4,10] [vz,vi 0,vT] ?_))
 refine oY ?_
 refine jJ Tryz.f48 2 [0,1,4] [vz,vz] (aF (aC ?_))
 exact mR (v:=vz) (fun _ hS=>⟨rfl,hS.bel⟩)
theorem clw0_any (a:Option Addr) (c:Nat) (l:List bI) (hn:a.isNone=true) (w0:World) (hf0:bU w0 a c l):Calls Tryz.prog 69 #[.slice a l.length c] w0 (jR vz w0):=by
 refine Calls.of_ok (n:=8) (F:=(fun w=>bU w a c l∧True)) Tryz.func69 rfl rfl rfl (by simp) (hf0.pers0.and cO) ?_
 refine jJ Tryz.f69 1 [0,2] [vz] (aB ?_)
 refine sS Tryz.f69 2 [0,2,4] [] (fun _=>[.slice a l.length c,vT]) (fun _=>[]) (cR [[]]<|cB (a:=fun ρ=>(.slice a l.length c)) (b:=fun ρ=>vz) (v:=fun ρ=>vT) .eql 29 (fun _ w=>(eql_nilW a l.length c w).trans (by rw [show a.isNone=true from hn]))<|cN) (fun _=>?_)
 refine oY ?_
 refine jJ Tryz.f69 1 [0,2] [vz] (aF (aC ?_))
 exact mR (v:=vz) (fun _ hS=>⟨rfl,hS.bel⟩)
theorem clw1_any (a:Option Addr) (c:Nat) (l:List bI) (hn:a.isNone=false) (_h9:l.length≤900) (w0:World) (hf0:bU w0 a c l):Calls Tryz.prog 69 #[.slice a l.length c] w0 (fun ε w'=>∃ r:bH,ε=.returned (vs (r.n.headD 0) l.length (r.n.tail.headD 0))∧jG w0 w'∧w0.heap.size≤r.n.headD 0∧w'.heap[r.n.headD 0]? = some (cL (uG r) 37)∧kW.A (uG r) l (r.n.tail.headD 0)):=by
 refine Calls.of_ok (n:=8) (F:=(fun w=>bU w a c l∧True)) Tryz.func69 rfl rfl rfl (by simp) (hf0.pers0.and cO) ?_
 refine jJ Tryz.f69 1 [0,2] [vz] (aB ?_)
 refine sS Tryz.f69 2 [0,2,4] [] (fun _=>[.slice a l.length c,vF]) (fun _=>[]) (cR [[]]<|cB (a:=fun ρ=>(.slice a l.length c)) (b:=fun ρ=>vz) (v:=fun ρ=>vF) .eql 29 (fun _ w=>(eql_nilW a l.length c w).trans (by rw [show a.isNone=false from hn]))<|cN) (fun _=>?_)
 refine oN ?_
 refine aG (aA ?_)
 refine iZ Tryz.f69 4 [2] [] (fun ρ=>let qa:=vs (nb ρ 2) (([]:List bI)++l).length (aZ ρ 2);[vs (nb ρ 0) 0 0,.slice a l.length c,qa,qa]) (fun ρ=>[(0,(nw ρ 0 (cL #[] 37))),(2,(bD 0 (nb ρ 2) (cL (oc ρ 2) 37)))]) (fun ρ=>[(2,fun w=>kW.A (oc ρ 2) (([]:List bI)++l) (aZ ρ 2))]) (fun _=>(fun w=>bU w a c l∧True)) (fun ρ=>kW.A (oc ρ 2) (([]:List bI)++l) (aZ ρ 2)) (fun _ _ hF hf=>⟨hF,hf 2⟩) (cR [[],[]]<|cX (qM 0 (fun ρ _ _ hG hg=>wB (K:=kW) (ty:=29) (g:=nb ρ 0) (ts:=([]:List bI)) (us:=l) Tryz.underlying29 (dA (sz:=1) (b:=24) (z:=vz) (by kernel_rfl) rfl) RowK.A.empty (bU.src Tryz.underlying29 hG.fn.1) (by rw [List.length_nil];omega) (by decide) hg))<|jE [[]]) (fun ρ3 ap3_2=>?_)
 refine aF (mD [(2,(vs (nb ρ3 2) (([]:List bI)++l).length (aZ ρ3 2)))] [(nb ρ3 2,(cL (oc ρ3 2) 37))] ?_)
 exact mR (v:=(vs (nb ρ3 2) (([]:List bI)++l).length (aZ ρ3 2))) (fun _ hS=>⟨{ n:=[nb ρ3 2,aZ ρ3 2],o:=[.cells (oc ρ3 2) 0 (0,0)]},rfl,hS.bel,(hS.newb (.head _)).1,(hS.newb (.head _)).2,ap3_2⟩)
theorem cls0_any (a:Option Addr) (c:Nat) (l:List bI) (hn:a.isNone=true) (w0:World) (hf0:bU w0 a c l):Calls Tryz.prog 41 #[.slice a l.length c] w0 (jR vz w0):=by
 refine Calls.of_ok (n:=21) (F:=(fun w=>bU w a c l∧True)) Tryz.func41 rfl rfl rfl (by simp) (hf0.pers0.and cO) ?_
 refine jJ Tryz.f41 1 [0,2] [vz] ?_
 refine sS Tryz.f41 3 [0,2] [] (fun _=>[.slice a l.length c,vz,vz]) (fun _=>[]) (cR [[]]<|cX (qC (fun _ _ w hG=>clw0_any a c l hn w hG.fn.1))<|jE [[]]) (fun _=>?_)
 refine aB (jJ Tryz.f41 3 [0,2,7,8,9] [vz,vi 0,vi 0] (aI ?_))
 refine jY 1 ?_
 refine dI ?_
 refine jJ Tryz.f41 1 [0,2,7,8,9,10] [vF] (aB ?_)
 refine oN ?_
 refine bF (aN (aN (aT (aA (jJ Tryz.f41 2 [2] [vz,vz] (aF ?_))))))
 exact mR (v:=vz) (fun _ hS=>⟨rfl,hS.bel⟩)
theorem cls1_any (a:Option Addr) (c:Nat) (l:List bI) (hn:a.isNone=false) (h9:l.length≤900) (w0:World) (hf0:bU w0 a c l) (T:Nat→Prop) (hT:∀ b,T b→b<w0.heap.size):Calls Tryz.prog 41 #[.slice a l.length c] w0 (fun ε w'=>∃ r:bH,ε=.returned (vs (r.n.headD 0) r.s.length (r.n.tail.headD 0))∧jG w0 w'∧w0.heap.size≤r.n.headD 0∧w'.heap[r.n.headD 0]? = some (cL (uG r) 37)∧lW w0.heap.size r.s∧dL (fun b=>T b∨b=r.n.headD 0) (fun w=>dN w r.s∧kW.A (uG r) r.s (r.n.tail.headD 0)∧sB r.s=sB l) w'):=by
 refine Calls.of_ok (n:=21) (F:=(fun w=>bU w a c l∧True)) Tryz.func41 rfl rfl rfl (by simp) (hf0.pers0.and cO) ?_
 refine jJ Tryz.f41 1 [0,2] [vz] ?_
 refine iZ Tryz.f41 3 [0,2] [] (fun ρ=>let qa:=vs (nb ρ 1) l.length (aZ ρ 1);[.slice a l.length c,qa,qa]) (fun ρ=>[(1,(nw ρ 1 (cL (oc ρ 1) 37)))]) (fun ρ=>[(1,fun w=>kW.A (oc ρ 1) l (aZ ρ 1))]) (fun _=>(fun w=>bU w a c l∧True)) (fun ρ=>kW.A (oc ρ 1) l (aZ ρ 1)) (fun _ _ hF hf=>⟨hF,hf 1⟩) (cR [[]]<|cX (rM _ 69 (fun _=> #[.slice a l.length c]) (fun _ r=>(vs (r.n.headD 0) l.length (r.n.tail.headD 0))) (fun _ r=>(cL (uG r) 37)) (fun _ r=>kW.A (uG r) l (r.n.tail.headD 0)) (fun _ _=>(by kernel_rfl)) (fun _ _=>(by kernel_rfl)) (fun _ _=>(by kernel_rfl)) (fun _ _=>(by kernel_rfl)) (fun _ _ w hG=>clw1_any a c l hn h9 w hG.fn.1))<|jE [[]]) (fun ρ2 ap2_1=>?_)
 refine aB (jJ Tryz.f41 3 [0,2,7,8,9] [vs (nb ρ2 1) l.length (aZ ρ2 1),vn l.length,vi 0] (aI ?_))
 refine oLF (σ:=Nat × (Array Value) × (List bI)) (fun ⟨_,_,L⟩=>(fun w=>bU w a c l∧dN w L∧True)) (fun ⟨i,_,_⟩=>[(0,(vs (nb ρ2 1) l.length (aZ ρ2 1))),(2,vz),(7,(vs (nb ρ2 1) l.length (aZ ρ2 1))),(8,(vn l.length)),(9,(vn i))]) (fun ⟨_,C,_⟩=>[(nb ρ2 1,(cL C 37))]) (fun ⟨i,_,_⟩=>l.length-i)
   (fun ⟨i,C,L⟩=>(i≤l.length)∧(sB L=sB l)∧(kW.A C L (aZ ρ2 1))∧(lW w0.heap.size (L.take i))) (0,oc ρ2 1,l) (⟨Nat.zero_le _,rfl,ap2_1,iI.nil⟩) (fun w hF=>⟨hF.1,hF.1.sub,trivial⟩) [] ?_
 rintro ⟨i,C,L⟩ ⟨hi,hL,hA,hN⟩
 change Ok Tryz.prog _ _ 21 [(0,(vs (nb ρ2 1) l.length (aZ ρ2 1))),(2,vz),(7,(vs (nb ρ2 1) l.length (aZ ρ2 1))),(8,(vn l.length)),(9,(vn i))] _ [(nb ρ2 1,(cL C 37))] (fun w=>bU w a c l∧dN w L∧True)
 have hLl:L.length=l.length:=iE hL
 refine jJ Tryz.f41 1 [0,2,7,8,9,10] [.bool (decide (((i:Nat):Int)<((l.length:Nat):Int)))] (aB ?_)
 refine oC (decide (((i:Nat):Int)<((l.length:Nat):Int))) (fun hb1=>?_) (fun hb1=>?_)
 ·
  rw [hb1]
  have:=yT hb1
  refine aG (aA (aB (aI ?_)))
  refine sS Tryz.f41 5 [0,2,3,4,7,8,9] [] (fun _=>let qa:Value:=.slice (gS L i).a (gS L i).b.length (gS L i).c;[vn i,jp (nb ρ2 1) (i*1),qa,vn i,qa]) (fun _=>[]) (cR [[]]<|cX (qS (fun _ w=>iG (g:=nb ρ2 1) (c:=aZ ρ2 1) (k:=.i64) Tryz.underlying29 Tryz.sizeOf37 (show ((i:Nat):Int)=((i:Nat):Int) from rfl) (show i<l.length from (by omega)) w))<|cX (kG _ 0 37 (fun _=>nb ρ2 1) (fun _=>i*1) (fun _=>C) 37 (0,0) (fun _=>(.slice (gS L i).a (gS L i).b.length (gS L i).c)) (fun _=>by kernel_rfl) Tryz.isAgg37 (fun _=>kW_get hA (show i<L.length from (by omega))))<|jE [[],[]]) (fun _=>?_)
  refine rSf Tryz.f41 6 [0,2,7,8,9] [] (fun ρ=>[vs (nb ρ2 1) l.length (aZ ρ2 1),vn i,.slice (gS L i).a (gS L i).b.length (gS L i).c,.slice (oa ρ 3) (gS L i).b.length (nb ρ 3),jp (nb ρ2 1) (i*1),undef]) (fun ρ=>[(5,(bD 0 (nb ρ2 1) (cL (C.setIfInBounds (i*1) (.slice (oa ρ 3) (gS L i).b.length (nb ρ 3))) 37)))]) (fun ρ=>[(3,fun w=>Fs w0 w (oa ρ 3) (nb ρ 3) (gS L i).b)]) (fun ρ=>(fun w=>bU w a c l∧dN w L∧Fs w0 w (oa ρ 3) (nb ρ 3) (gS L i).b∧True)) (fun _=>True) (fun _ _ hF hf=>⟨⟨hF.1,hF.2.1,hf 3,trivial⟩,trivial⟩) (cR [[],[],[]]<|cX (qB (fun _ _ w hG=>bclone_any (gS L i).a (gS L i).c (gS L i).b w (hG.fn.2.1 _ (iO (show i<L.length from (by omega))))))<|cY (qS (fun _ w=>iG (g:=nb ρ2 1) (c:=aZ ρ2 1) (k:=.i64) Tryz.underlying29 Tryz.sizeOf37 (show ((i:Nat):Int)=((i:Nat):Int) from rfl) (show i<l.length from (by omega)) w))<|cY (qG _ 0 37 (fun _=>nb ρ2 1) (fun _=>i*1) (fun _=>C) (fun ρ=>(C.setIfInBounds (i*1) (.slice (oa ρ 3) (gS L i).b.length (nb ρ 3)))) 37 (fun ρ=>(.slice (oa ρ 3) (gS L i).b.length (nb ρ 3))) (fun _=>by kernel_rfl) Tryz.sizeOf37 (fun _=>rfl) (fun _=>(kW_lt hA (show i<L.length from (by omega)))) (fun _=>rfl))<|cN) (fun ρ6 _=>?_)
  refine aJ (aA ?_)
  refine okPure (p:=lW w0.heap.size [⟨oa ρ6 3,nb ρ6 3,(gS L i).b⟩]) (fun w hF=>lW.one hF.2.2.1) (fun hx=>?_)
  refine rS Tryz.f41 2 [0,2,7,8,9] [] (fun _=>[vn (i+1),vn (i+1)]) (fun _=>[]) (jW (fun ρ=>(((i:Nat):Int)+1)) (fun _=>(i+1)) (fun _=>(aW i 1 (by omega)))<|jE [[]]) (fun _=>?_)
  refine mD [(0,(vs (nb ρ2 1) l.length (aZ ρ2 1))),(2,vz),(7,(vs (nb ρ2 1) l.length (aZ ρ2 1))),(8,(vn l.length)),(9,(vn (i+1)))] [(nb ρ2 1,(cL (C.setIfInBounds (i*1) (.slice (oa ρ6 3) (gS L i).b.length (nb ρ6 3))) 37))] ?_
  exact mNF (i+1,C.setIfInBounds (i*1) (.slice (oa ρ6 3) (gS L i).b.length (nb ρ6 3)),L.set i (bI.mk (oa ρ6 3) (nb ρ6 3) (gS L i).b)) (by show l.length-(i+1)<l.length-i;omega) (⟨(by omega),(sB_set (show i<L.length from (by omega))).trans hL,kW_set (j:=i) hA (bI.mk (oa ρ6 3) (nb ρ6 3) (gS L i).b),lW.next (show i<L.length from (by omega)) hN hx⟩) (fun w hS=>hS.weaken (fun w hF=>⟨hF.1,dN.set hF.2.1 hF.2.2.1.1,trivial⟩))
 rw [hb1]
 refine bF (aN (aN (aT (aA (jJ Tryz.f41 2 [2] (let qa:=vs (nb ρ2 1) l.length (aZ ρ2 1);[qa,qa]) (aF (mD [(2,(vs (nb ρ2 1) l.length (aZ ρ2 1)))] [(nb ρ2 1,(cL C 37))] ?_)))))))
 exact mR (v:=(vs (nb ρ2 1) l.length (aZ ρ2 1))) (fun _ hS=>⟨{ n:=[nb ρ2 1,aZ ρ2 1],o:=[.cells C 0 (0,0)],s:=L},congrArg (fun z=>Ending.returned (.slice _ z _)) hLl.symm,hS.bel,(hS.newb (.head _)).1,(hS.newb (.head _)).2,lW.all (l:=L) (by have:=yF hb1;omega) hN,(hS.scs (.head _) (fun w hF=>hF.2.1) (lW.all (by have:=yF hb1;omega) hN) hT).mono (fun _ h=>⟨h,hA,hL⟩)⟩)
theorem cls_any (a:Option Addr) (c:Nat) (l:List bI) (h9:l.length≤900) (w0:World) (T:Nat→Prop) (hT:∀ b,T b→b<w0.heap.size) (hf0:bU w0 a c l):Calls Tryz.prog 41 #[.slice a l.length c] w0 (fun ε w'=>jG w0 w'∧∃ a c s,ε=.returned (.slice a (List.length s) c)∧fU w0.heap.size a∧lW w0.heap.size s∧dL T (fun w=>bU w a c s∧sB s=sB l) w'):=by
  cases hn:a.isNone with
  | true =>
    have e:=hf0.isn hn
    exact (cls0_any a c l hn w0 hf0).mono (fun _ _ h=>⟨h.2,none,0,[],h.1,fU.none,iI.nil,dB (fun _=>⟨bU.nil,by rw [e]⟩)⟩)
  | false =>
    refine (cls1_any a c l hn h9 w0 hf0 T hT).mono (fun ε w' h=>?_)
    obtain ⟨r,h1,h2,h3,h4,hN,h5⟩:=h
    have h6:=h5.now
    exact ⟨h2,_,_,_,h1,fU.some h3,hN,(bU.fin h4 h6.2.1 (by rw [iE h6.2.2];omega) hT h3 ((h5.mono (fun _ h=>h.1)).sub (fun b hb=>Or.inl hb))).mono (fun _ h=>⟨h,h6.2.2⟩)⟩
theorem wsort0 (w:World):Calls Tryz.prog 46 #[.slice none 0 0,.func (.func 47) #[] #[]] w (fun e w'=>e=.returned (.tuple #[])∧Below w.heap.size w w') :=
  (AnyF.slices_SortFunc_none { sortS with} none 0 (.func (.func 47) #[] #[]) w).mono (fun _ _ h=>⟨h.1,by rw [h.2];exact Below.refl _ _⟩)
theorem wall_any (a:Option Addr) (c:Nat) (W:List kF) (h5:W.length≤5) (h8:∀ x∈W,x.l.length≤8) (w0:World) (hf0:lX w0 a c W) (T:Nat→Prop) (hT:∀ b,T b→b<w0.heap.size):Calls Tryz.prog 24 #[.slice a W.length c] w0 (fun ε w'=>jG w0 w'∧∃ a c s,ε=.returned (.slice a (List.length s) c)∧fU w0.heap.size a∧lW w0.heap.size s∧dL T (fun w=>bU w a c s∧sB s=allB W) w'):=by
 refine Calls.of_ok (n:=22) (F:=(fun w=>lX w a c W∧True)) Tryz.func24 rfl rfl rfl (by simp) (hf0.pers0.and cO) ?_
 have hlen:W.length≤1000000:=hf0.max
 refine jJ Tryz.f24 1 [0,2] [vz] (jJ Tryz.f24 1 [0,2,3] [vz] (aB (jJ Tryz.f24 3 [2,3,6,7,8] [.slice a W.length c,vn W.length,vi 0] (aI ?_))))
 refine oLF (σ:=Nat ⊕ (Nat × Nat × (Array Value) × (List bI) × Nat)) (fun s=>match s with | Sum.inl _=>(fun w=>lX w a c W∧True) | Sum.inr ⟨_,_,_,M,_⟩=>(fun w=>lX w a c W∧dN w M∧True)) (fun s=>match s with | Sum.inl i=>[(2,vz),(3,vz),(6,(.slice a W.length c)),(7,(vn W.length)),(8,(vn i))] | Sum.inr ⟨i,q,_,M,κ⟩=>[(2,vz),(3,(vs q M.length κ)),(6,(.slice a W.length c)),(7,(vn W.length)),(8,(vn i))]) (fun s=>match s with | Sum.inl _=>[] | Sum.inr ⟨_,q,C,_,_⟩=>[(q,(cL C 37))]) (fun s=>match s with | Sum.inl i=>W.length-i | Sum.inr ⟨i,_,_,_,_⟩=>W.length-i)
   (fun s=>match s with | Sum.inl i=>(i≤W.length)∧(([]:List (List UInt8))=wcB (W.take i)) | Sum.inr ⟨i,_,C,M,κ⟩=>(i≤W.length)∧(sB M=wcB (W.take i))∧(kW.A C M κ)∧(M.length≤8*i)∧(0<M.length)∧(lW w0.heap.size M)) (Sum.inl 0) (⟨Nat.zero_le _,rfl⟩) (fun w hF=>hF) [] ?_
 rintro (i | ⟨i,q,C,M,κ⟩)
 ·
  rintro ⟨hi,hr⟩
  change Ok Tryz.prog _ _ 22 [(2,vz),(3,vz),(6,(.slice a W.length c)),(7,(vn W.length)),(8,(vn i))] _ [] (fun w=>lX w a c W∧True)
  refine jJ Tryz.f24 1 [2,3,6,7,8,9] [.bool (decide (((i:Nat):Int)<((W.length:Nat):Int)))] (aB ?_)
  refine oC (decide (((i:Nat):Int)<((W.length:Nat):Int))) (fun hb1=>?_) (fun hb1=>?_)
  ·
   rw [hb1]
   have:=yT hb1
   refine aG (aA (aB (aI ?_)))
   refine sS Tryz.f24 4 [2,3,5,6,7,8] [] (fun ρ=>[.pointer (fK a (i*4)),.agg #[vz,vi 0,vi 0,.slice (gW W i).a (gW W i).l.length (gW W i).c],pt (nb ρ 2),undef]) (fun ρ=>[(2,(nw ρ 2 (cL #[vz,vi 0,vi 0,vz] 31))),(3,(bD 16 (nb ρ 2) (cL #[vz,vi 0,vi 0,.slice (gW W i).a (gW W i).l.length (gW W i).c] 31)))]) (cX (qF (fun _ _ _ hG=>lX.idx (k:=.i64) Tryz.underlying49 Tryz.sizeOf31 hG.fn.1 rfl (show ((i:Nat):Int)=((i:Nat):Int) from rfl) (show i<W.length from (by omega))))<|cX (qF (fun _ _ _ hG=>lX.ldA Tryz.isAgg31 Tryz.sizeOf31 hG.fn.1 (show i<W.length from (by omega))))<|jE [[],[16]]) (fun ρ5=>?_)
   rcases Bool.eq_false_or_eq_true (decide ((gW W i).l.length=0)) with hb2 | hb2
   ·
    refine rSf Tryz.f24 6 [2,3,6,7,8] [0] (fun ρ=>[vz,jp (nb ρ5 2) 3,.slice (gW W i).a (gW W i).l.length (gW W i).c,.slice (oa ρ 3) (os ρ 3).length (nb ρ 3),vz,vz]) (fun _=>[]) (fun ρ=>[(3,fun w=>(bU w (oa ρ 3) (nb ρ 3) (os ρ 3)∧sB (os ρ 3)=sB (gW W i).l∧lW w0.heap.size (os ρ 3)∧fU w0.heap.size (oa ρ 3)))]) (fun ρ=>(fun w=>lX w a c W∧bU w (oa ρ 3) (nb ρ 3) (os ρ 3)∧True)) (fun ρ=>(sB (os ρ 3)=sB (gW W i).l∧lW w0.heap.size (os ρ 3)∧fU w0.heap.size (oa ρ 3))) (fun _ _ hF hf=>⟨⟨hF.1,(hf 3).1,trivial⟩,(hf 3).2⟩) (cR [[],[],[0]]<|cX (qE (fun _ τ w hG=>cls_any (gW W i).a (gW W i).c (gW W i).l (Nat.le_trans (h8 _ (gX (show i<W.length from (by have:=yT hb2;omega)))) (by decide)) w τ hG.lt (hG.fn.1.sub _ (gX (show i<W.length from (by omega))))))<|cX (qF (fun ρ _ w hG=>appW_nil0 (ty:=29) Tryz.underlying29 (dA (sz:=1) (b:=24) (z:=vz) (by kernel_rfl) rfl) (bU.src Tryz.underlying29 (show (bU w (oa ρ 3) (nb ρ 3) (os ρ 3)∧sB (os ρ 3)=sB (gW W i).l∧lW w0.heap.size (os ρ 3)∧fU w0.heap.size (oa ρ 3)) from (hG.facts 3 rfl).now).1) ((iE (show (bU w (oa ρ 3) (nb ρ 3) (os ρ 3)∧sB (os ρ 3)=sB (gW W i).l∧lW w0.heap.size (os ρ 3)∧fU w0.heap.size (oa ρ 3)) from (hG.facts 3 rfl).now).2.1).trans (yT hb2))))<|jE [[]]) (fun _ ap6_3=>?_)
    refine aJ (aA ?_)
    refine rS Tryz.f24 2 [2,3,6,7,8] [] (fun _=>[vn (i+1),vn (i+1)]) (fun _=>[]) (jW (fun ρ=>(((i:Nat):Int)+1)) (fun _=>(i+1)) (fun _=>(aW i 1 (by have:=yT hb2;omega)))<|jE [[]]) (fun _=>?_)
    refine mD [(2,vz),(3,vz),(6,(.slice a W.length c)),(7,(vn W.length)),(8,(vn (i+1)))] [] ?_
    exact mNF (Sum.inl (i+1)) (by show W.length-(i+1)<W.length-i;have:=yT hb2;omega) (⟨(by have:=yT hb2;omega),by rw [qL (show i<W.length from (by have:=yT hb2;omega)),← hr,List.eq_nil_of_length_eq_zero (yT hb2)];rfl⟩) (fun w hS=>hS.weaken (fun w hF=>⟨hF.1,trivial⟩))
   refine rSf Tryz.f24 6 [2,3,6,7,8] [0,1] (fun ρ=>let qa:=vs (nb ρ 4) (os ρ 3).length ((os ρ 3).length+aZ ρ 4);[vz,jp (nb ρ5 2) 3,.slice (gW W i).a (gW W i).l.length (gW W i).c,.slice (oa ρ 3) (os ρ 3).length (nb ρ 3),qa,qa]) (fun ρ=>[(4,(nw ρ 4 (cL ((kW.r (os ρ 3)).toArray++Builtin.zeroCells (Value.cells vz) (aZ ρ 4)) 37)))]) (fun ρ=>[(3,fun w=>(bU w (oa ρ 3) (nb ρ 3) (os ρ 3)∧sB (os ρ 3)=sB (gW W i).l∧lW w0.heap.size (os ρ 3)∧fU w0.heap.size (oa ρ 3)))]) (fun ρ=>(fun w=>lX w a c W∧bU w (oa ρ 3) (nb ρ 3) (os ρ 3)∧True)) (fun ρ=>(sB (os ρ 3)=sB (gW W i).l∧lW w0.heap.size (os ρ 3)∧fU w0.heap.size (oa ρ 3))) (fun _ _ hF hf=>⟨⟨hF.1,(hf 3).1,trivial⟩,(hf 3).2⟩) (cR [[],[],[0]]<|cX (qE (fun _ τ w hG=>cls_any (gW W i).a (gW W i).c (gW W i).l (Nat.le_trans (h8 _ (gX (show i<W.length from (by have:=yF hb2;omega)))) (by decide)) w τ hG.lt (hG.fn.1.sub _ (gX (show i<W.length from (by omega))))))<|cX (qN (fun ρ ζ=>(vs (ζ.headD 0) (os ρ 3).length ((os ρ 3).length+ζ.tail.headD 0))) (fun ρ ζ=>(cL ((kW.r (os ρ 3)).toArray++Builtin.zeroCells (Value.cells vz) (ζ.tail.headD 0)) 37)) (fun ρ _ w hG=>pX (K:=kW) (ty:=29) (us:=os ρ 3) Tryz.underlying29 (dA (sz:=1) (b:=24) (z:=vz) (by kernel_rfl) rfl) (bU.src Tryz.underlying29 (show (bU w (oa ρ 3) (nb ρ 3) (os ρ 3)∧sB (os ρ 3)=sB (gW W i).l∧lW w0.heap.size (os ρ 3)∧fU w0.heap.size (oa ρ 3)) from (hG.facts 3 rfl).now).1) (by have e:=(iE (show (bU w (oa ρ 3) (nb ρ 3) (os ρ 3)∧sB (os ρ 3)=sB (gW W i).l∧lW w0.heap.size (os ρ 3)∧fU w0.heap.size (oa ρ 3)) from (hG.facts 3 rfl).now).2.1);have:=yF hb2;omega) (by have e:=(iE (show (bU w (oa ρ 3) (nb ρ 3) (os ρ 3)∧sB (os ρ 3)=sB (gW W i).l∧lW w0.heap.size (os ρ 3)∧fU w0.heap.size (oa ρ 3)) from (hG.facts 3 rfl).now).2.1);have:=h8 _ (gX (show i<W.length from (by have:=yF hb2;omega)));omega) (by decide)))<|jE [[]]) (fun ρ8 ap8_3=>?_)
   refine aJ (aA ?_)
   refine rS Tryz.f24 2 [2,3,6,7,8] [] (fun _=>[vn (i+1),vn (i+1)]) (fun _=>[]) (jW (fun ρ=>(((i:Nat):Int)+1)) (fun _=>(i+1)) (fun _=>(aW i 1 (by have:=yF hb2;omega)))<|jE [[]]) (fun _=>?_)
   refine mD [(2,vz),(3,(vs (nb ρ8 4) (os ρ8 3).length ((os ρ8 3).length+aZ ρ8 4))),(6,(.slice a W.length c)),(7,(vn W.length)),(8,(vn (i+1)))] [(nb ρ8 4,(cL ((kW.r (os ρ8 3)).toArray++Builtin.zeroCells (Value.cells vz) (aZ ρ8 4)) 37))] ?_
   exact mNF (Sum.inr (i+1,nb ρ8 4,(kW.r (os ρ8 3)).toArray++Builtin.zeroCells (Value.cells vz) (aZ ρ8 4),os ρ8 3,(os ρ8 3).length+aZ ρ8 4)) (by show W.length-(i+1)<W.length-i;have:=yF hb2;omega) (⟨(by have:=yF hb2;omega),(by rw [qL (show i<W.length from (by have:=yF hb2;omega)),← hr,← ap8_3.1];rfl),RowK.A.fresh (K:=kW) (z:=vz) rfl (os ρ8 3) (aZ ρ8 4),(by have e:=iE ap8_3.1;have:=h8 _ (gX (show i<W.length from (by have:=yF hb2;omega)));omega),(by have e:=iE ap8_3.1;have:=h8 _ (gX (show i<W.length from (by have:=yF hb2;omega)));have:=yF hb2;omega),ap8_3.2.1⟩) (fun w hS=>hS.weaken (fun w hF=>⟨hF.1,hF.2.1.sub,trivial⟩))
  rw [hb1]
  refine bF (aN (aN (aT (aA ?_))))
  refine sS Tryz.f24 2 [2,3] [] (fun _=>[vz,.tuple #[]]) (fun _=>[]) (cR [[]]<|cC (fun _ w=>wsort0 w)<|cN) (fun _=>?_)
  refine sS Tryz.f24 3 [2] [] (fun _=>[vz,vz,vz]) (fun _=>[]) (cR [[]]<|cC (fun _ w=>wcomp0_any w)<|jE [[]]) (fun _=>?_)
  refine aF (mD [(2,vz)] [] ?_)
  exact mR (v:=vz) (fun _ hS=>⟨hS.bel,none,0,[],rfl,fU.none,iI.nil,dB (fun _=>⟨bU.nil,allB_nil (by have:=yF hb1;omega) hr⟩)⟩)
 rintro ⟨hi,hr,hA,hm,h0,hN⟩
 change Ok Tryz.prog _ _ 22 [(2,vz),(3,(vs q M.length κ)),(6,(.slice a W.length c)),(7,(vn W.length)),(8,(vn i))] _ [(q,(cL C 37))] (fun w=>lX w a c W∧dN w M∧True)
 refine jJ Tryz.f24 1 [2,3,6,7,8,9] [.bool (decide (((i:Nat):Int)<((W.length:Nat):Int)))] (aB ?_)
 refine oC (decide (((i:Nat):Int)<((W.length:Nat):Int))) (fun hb3=>?_) (fun hb3=>?_)
 ·
  rw [hb3]
  have:=yT hb3
  refine aG (aA (aB (aI ?_)))
  refine sS Tryz.f24 4 [2,3,5,6,7,8] [] (fun ρ=>[.pointer (fK a (i*4)),.agg #[vz,vi 0,vi 0,.slice (gW W i).a (gW W i).l.length (gW W i).c],pt (nb ρ 2),undef]) (fun ρ=>[(2,(nw ρ 2 (cL #[vz,vi 0,vi 0,vz] 31))),(3,(bD 17 (nb ρ 2) (cL #[vz,vi 0,vi 0,.slice (gW W i).a (gW W i).l.length (gW W i).c] 31)))]) (cX (qF (fun _ _ _ hG=>lX.idx (k:=.i64) Tryz.underlying49 Tryz.sizeOf31 hG.fn.1 rfl (show ((i:Nat):Int)=((i:Nat):Int) from rfl) (show i<W.length from (by omega))))<|cX (qF (fun _ _ _ hG=>lX.ldA Tryz.isAgg31 Tryz.sizeOf31 hG.fn.1 (show i<W.length from (by omega))))<|jE [[],[17]]) (fun ρ13=>?_)
  refine rSf Tryz.f24 6 [2,3,6,7,8] [1,0] (fun ρ=>let qa:=vs (nb ρ 4) (M++(os ρ 3)).length (aZ ρ 4);[vs q M.length κ,jp (nb ρ13 2) 3,.slice (gW W i).a (gW W i).l.length (gW W i).c,.slice (oa ρ 3) (os ρ 3).length (nb ρ 3),qa,qa]) (fun ρ=>[(4,(bD 0 (nb ρ 4) (cL (oc ρ 4) 37)))]) (fun ρ=>[(3,fun w=>(bU w (oa ρ 3) (nb ρ 3) (os ρ 3)∧sB (os ρ 3)=sB (gW W i).l∧lW w0.heap.size (os ρ 3)∧fU w0.heap.size (oa ρ 3))),(4,fun w=>kW.A (oc ρ 4) (M++(os ρ 3)) (aZ ρ 4))]) (fun ρ=>(fun w=>lX w a c W∧dN w M∧bU w (oa ρ 3) (nb ρ 3) (os ρ 3)∧True)) (fun ρ=>(sB (os ρ 3)=sB (gW W i).l∧lW w0.heap.size (os ρ 3)∧fU w0.heap.size (oa ρ 3))∧kW.A (oc ρ 4) (M++(os ρ 3)) (aZ ρ 4)) (fun _ _ hF hf=>⟨⟨hF.1,hF.2.1,(hf 3).1,trivial⟩,⟨(hf 3).2,hf 4⟩⟩) (cR [[],[],[1]]<|cX (qE (fun _ τ w hG=>cls_any (gW W i).a (gW W i).c (gW W i).l (Nat.le_trans (h8 _ (gX (show i<W.length from (by omega)))) (by decide)) w τ hG.lt (hG.fn.1.sub _ (gX (show i<W.length from (by omega))))))<|cX (qM 0 (fun ρ _ w hG hg=>wB (K:=kW) (ty:=29) (g:=q) (ts:=M) (us:=os ρ 3) Tryz.underlying29 (dA (sz:=1) (b:=24) (z:=vz) (by kernel_rfl) rfl) hA (bU.src Tryz.underlying29 (show (bU w (oa ρ 3) (nb ρ 3) (os ρ 3)∧sB (os ρ 3)=sB (gW W i).l∧lW w0.heap.size (os ρ 3)∧fU w0.heap.size (oa ρ 3)) from (hG.facts 3 rfl).now).1) (by have e:=(iE (show (bU w (oa ρ 3) (nb ρ 3) (os ρ 3)∧sB (os ρ 3)=sB (gW W i).l∧lW w0.heap.size (os ρ 3)∧fU w0.heap.size (oa ρ 3)) from (hG.facts 3 rfl).now).2.1);have:=h8 _ (gX (show i<W.length from (by omega)));omega) (by decide) hg))<|jE [[]]) (fun ρ14 ⟨ap14_3,ap14_4⟩=>?_)
  refine aJ (aA ?_)
  refine rS Tryz.f24 2 [2,3,6,7,8] [] (fun _=>[vn (i+1),vn (i+1)]) (fun _=>[]) (jW (fun ρ=>(((i:Nat):Int)+1)) (fun _=>(i+1)) (fun _=>(aW i 1 (by omega)))<|jE [[]]) (fun _=>?_)
  refine mD [(2,vz),(3,(vs (nb ρ14 4) (M++(os ρ14 3)).length (aZ ρ14 4))),(6,(.slice a W.length c)),(7,(vn W.length)),(8,(vn (i+1)))] [(nb ρ14 4,(cL (oc ρ14 4) 37))] ?_
  exact mNF (Sum.inr (i+1,nb ρ14 4,oc ρ14 4,M++(os ρ14 3),aZ ρ14 4)) (by show W.length-(i+1)<W.length-i;omega) (⟨(by omega),(by rw [qL (show i<W.length from (by omega)),← hr,← ap14_3.1];exact List.map_append),ap14_4,(by have e:=iE ap14_3.1;have:=h8 _ (gX (show i<W.length from (by omega)));simp only [List.length_append];omega),(by simp only [List.length_append];omega),iI.app hN ap14_3.2.1⟩) (fun w hS=>hS.weaken (fun w hF=>⟨hF.1,dN.app hF.2.1 hF.2.2.1.sub,trivial⟩))
 rw [hb3]
 have:=yF hb3
 refine bF (aN (aN (aT (aA ?_))))
 refine iZ Tryz.f24 2 [2,3] [] (fun _=>[vs q M.length κ,.tuple #[]]) (fun ρ=>[(1,(bD 0 q (cL (oc ρ 1) 37)))]) (fun ρ=>[(1,fun w=>(dN w (os ρ 1)∧kW.A (oc ρ 1) (os ρ 1) κ∧((os ρ 1).length=M.length∧(∀ s∈os ρ 1,s∈M)∧(sB (os ρ 1)).Perm (sB M)∧Srt (sB (os ρ 1)))))]) (fun ρ=>(fun w=>lX w a c W∧dN w M∧dN w (os ρ 1)∧True)) (fun ρ=>(kW.A (oc ρ 1) (os ρ 1) κ∧((os ρ 1).length=M.length∧(∀ s∈os ρ 1,s∈M)∧(sB (os ρ 1)).Perm (sB M)∧Srt (sB (os ρ 1))))) (fun _ _ hF hf=>⟨⟨hF.1,hF.2.1,(hf 1).1,trivial⟩,(hf 1).2⟩) (cR [[]]<|cX (qSW [0] (fun _ τ w hG hK=>wsort_any q κ C M hA (by omega) h0 w hK τ (hG.inT (o:=(cL C 37)) 0) (hG.facts0.mono (fun _ hF=>hF.2.1))))<|cN) (fun ρ16 ap16_1=>?_)
 refine iZ Tryz.f24 3 [2] [] (fun ρ=>let qa:=vs q (os ρ 1).length κ;[vs q M.length κ,qa,qa]) (fun ρ=>[(1,(bD 0 q (cL (oc ρ 1) 37)))]) (fun ρ=>[(1,fun w=>(dN w (os ρ 1)∧kW.A (oc ρ 1) (os ρ 1) κ∧((∀ s∈os ρ 1,s∈(os ρ16 1))∧sB (os ρ 1)=cpB (sB (os ρ16 1)))))]) (fun ρ=>(fun w=>lX w a c W∧dN w M∧dN w (os ρ16 1)∧dN w (os ρ 1)∧True)) (fun ρ=>(kW.A (oc ρ 1) (os ρ 1) κ∧((∀ s∈os ρ 1,s∈(os ρ16 1))∧sB (os ρ 1)=cpB (sB (os ρ16 1))))) (fun _ _ hF hf=>⟨⟨hF.1,hF.2.1,hF.2.2.1,(hf 1).1,trivial⟩,(hf 1).2⟩) (cR [[]]<|cX (qSW [0] (fun _ τ w hG hK=>wcompN_any q κ (oc ρ16 1) (os ρ16 1) M.length ap16_1.2.1 ap16_1.1 (by have:=ap16_1.2.1;omega) w hK (hG.pK [0] (fun _ hF=>⟨hF.2.2.1,trivial⟩)) τ (hG.inT (o:=(cL (oc ρ16 1) 37)) 0) (hG.facts0.mono (fun _ hF=>hF.2.2.1))))<|jE [[]]) (fun ρ17 ap17_1=>?_)
 refine aF (mD [(2,(vs q (os ρ17 1).length κ))] [(q,(cL (oc ρ17 1) 37))] ?_)
 exact mR (v:=(vs q (os ρ17 1).length κ)) (fun _ hS=>⟨hS.bel,_,_,os ρ17 1,rfl,fU.some (hS.newb (.head _)).1,(iI.subl hN (fun s hs=>ap16_1.2.2.1 s (ap17_1.2.1 s hs))),(bU.fin (hS.newb (.head _)).2 ap17_1.1 (by have:=comp_len ap17_1.2.2;have:=ap16_1.2.1;omega) hT (hS.newb (.head _)).1 (dN.mkA hS.facts.now.2.2.2.1 (fun s hs=>((iI.subl hN (fun s hs=>ap16_1.2.2.1 s (ap17_1.2.1 s hs))) s hs).sub hT))).mono (fun _ h=>⟨h,allB_row (by omega) hr ap16_1.2.2.2.1 ap16_1.2.2.2.2 ap17_1.2.2⟩)⟩)
theorem same6_any (a:Option Addr) (c:Nat) (B:List UInt8) (a2:Option Addr) (c2:Nat) (S:List UInt8) (w0:World) (hf0:Bs w0 a c B) (hf1:Bs w0 a2 c2 S):Calls Tryz.prog 20 #[.slice a B.length c,.slice a2 S.length c2] w0 (jR (.bool (decide (B=S))) w0):=by
 refine Calls.of_ok (n:=10) (F:=(fun w=>Bs w a c B∧Bs w a2 c2 S∧True)) Tryz.func20 rfl rfl rfl (by simp) (hf0.pers0.and (hf1.pers0.and cO)) ?_
 refine jJ Tryz.f20 1 [0,1,4] [vF] ?_
 refine sS Tryz.f20 6 [4] [] (fun _=>[.slice a B.length c,.string (gY B),.slice a2 S.length c2,.string (gY S),.bool (decide (B=S)),.bool (decide (B=S))]) (fun _=>[]) (cR [[]]<|cX (jF (fun _=>convert 37 9 (.slice a B.length c)) (fun _=>(.string (gY B))) (fun _ _ _ hG=>mX (xs:=B) Tryz.underlying37 Tryz.underlying5 Tryz.underlying9 hG.fn.1 rfl) (fun _ _ _ _=>cO))<|cR [[]]<|cX (jF (fun _=>convert 37 9 (.slice a2 S.length c2)) (fun _=>(.string (gY S))) (fun _ _ _ hG=>mX (xs:=S) Tryz.underlying37 Tryz.underlying5 Tryz.underlying9 hG.fn.2.1 rfl) (fun _ _ _ _=>cO))<|cB .eql 9 (fun _ w=>eql_str B S w)<|jE [[]]) (fun _=>?_)
 refine aF ?_
 exact mR (v:=(.bool (decide (B=S)))) (fun _ hS=>⟨rfl,hS.bel⟩)
theorem putscr_any (a:Option Addr) (c:Nat) (l:List bI) (a2:Option Addr) (c2:Nat) (S:List UInt8) (h9:l.length≤900) (w0:World) (hf0:bU w0 a c l) (hf1:Bs w0 a2 c2 S) (T:Nat→Prop) (hT:∀ b,T b→b<w0.heap.size) (hP:dL T (fun w=>bU w a c l∧Bs w a2 c2 S) w0) (N:Nat) (Q:bI→Prop) (hNw:N≤w0.heap.size) (hNa:fU N a) (hQl:∀ x∈l,Q x) (hQs:Q ⟨a2,c2,S⟩):Calls Tryz.prog 49 #[.slice a l.length c,.slice a2 S.length c2] w0 (fun ε w'=>jG w0 w'∧∃ a c s,ε=.returned (.slice a (List.length s) c)∧dL T (fun w=>bU w a c s∧sB s=lN (sB l) S∧fU N a∧∀ x∈s,Q x) w'):=by
 refine Calls.of_ok (n:=47) (F:=(fun w=>bU w a c l∧Bs w a2 c2 S∧True)) Tryz.func49 rfl rfl rfl (by simp) (hf0.pers0.and (hf1.pers0.and cO)) ?_
 refine jJ Tryz.f49 1 [0,1,4] [vz] (jJ Tryz.f49 1 [0,1,4,5] [vi 0] (aB (aI ?_)))
 refine oL (σ:=Nat) (fun i=>[(0,(.slice a l.length c)),(1,(.slice a2 S.length c2)),(4,vz),(5,(vn i))]) (fun _=>[]) (fun i=>l.length-i)
   (fun i=>(Pt l S i)) 0 Pt.start [] ?_
 rintro i hp
 change Ok Tryz.prog _ _ 47 [(0,(.slice a l.length c)),(1,(.slice a2 S.length c2)),(4,vz),(5,(vn i))] _ [] (fun w=>bU w a c l∧Bs w a2 c2 S∧True)
 refine aB ?_
 rcases Bool.eq_false_or_eq_true (decide (((i:Nat):Int)<((l.length:Nat):Int))) with hb1 | hb1
 ·
  refine sD Tryz.f49 [0,0,2,7,15,31,31,127,255,511,31,1055,4095,8191] 14 [0,1,4,5,19] [] (fun _=>[vn i,.slice a l.length c,vn l.length,vT,vT,.slice a l.length c,vn i,.pointer (fK a i),.slice (gS l i).a (gS l i).b.length (gS l i).c,.string (gY (gS l i).b),.slice a2 S.length c2,.string (gY S),.bool (bl (gS l i).b S),.bool (bl (gS l i).b S)]) (fun _=>[]) (cR [[],[],[]]<|cA (fun _=>vT) (fun _=>congrArg Value.bool hb1)<|cR [[],[],[]]<|cX (qF (fun _ _ _ hG=>bU.idx (k:=.i64) Tryz.underlying29 Tryz.sizeOf37 hG.fn.1 rfl (show ((i:Nat):Int)=((i:Nat):Int) from rfl) (show i<l.length from (by have:=yT hb1;have:=hp.le;omega))))<|cX (qF (fun _ _ _ hG=>bU.ld Tryz.isAgg37 hG.fn.1 (show i<l.length from (by have:=yT hb1;have:=hp.le;omega))))<|cX (jF (fun _=>convert 37 9 (.slice (gS l i).a (gS l i).b.length (gS l i).c)) (fun _=>(.string (gY (gS l i).b))) (fun _ _ _ hG=>mX (xs:=(gS l i).b) Tryz.underlying37 Tryz.underlying5 Tryz.underlying9 (hG.fn.1.sub _ (iO (show i<l.length from (by have:=yT hb1;have:=hp.le;omega)))) rfl) (fun _ _ _ _=>cO))<|cR [[]]<|cX (jF (fun _=>convert 37 9 (.slice a2 S.length c2)) (fun _=>(.string (gY S))) (fun _ _ _ hG=>mX (xs:=S) Tryz.underlying37 Tryz.underlying5 Tryz.underlying9 hG.fn.2.1 rfl) (fun _ _ _ _=>cO))<|cB (a:=fun ρ=>(.string (gY (gS l i).b))) (b:=fun ρ=>(.string (gY S))) (v:=fun ρ=>(.bool (bl (gS l i).b S))) .lss 9 (fun _ w=>lss_str (gS l i).b S w)<|jE [[]]) (fun _=>?_)
  refine oC (bl (gS l i).b S) (fun hb2=>?_) (fun hb2=>?_)
  ·
   rw [hb2]
   refine aG (aA (aI ?_))
   refine rS Tryz.f49 3 [0,1,4,5] [] (fun _=>[vn i,vn (i+1),vn (i+1)]) (fun _=>[]) (cR [[]]<|jW (fun ρ=>(((i:Nat):Int)+1)) (fun _=>(i+1)) (fun _=>(aW i 1 (by have:=yT hb1;have:=hp.le;omega)))<|jE [[]]) (fun _=>?_)
   refine aJ ?_
   exact mN (i+1) (by show l.length-(i+1)<l.length-i;have:=yT hb1;have:=hp.le;omega) (hp.next (show i<l.length from (by have:=yT hb1;have:=hp.le;omega)) hb2) []
  rw [hb2]
  refine bF (aN (aN (aT (aA (aB ?_)))))
  refine sS Tryz.f49 12 [0,1,4,5,33] [] (fun _=>let qa:Value:=.bool (decide ((gS l i).b=S));[vn i,.slice a l.length c,vn l.length,vT,vT,.slice a l.length c,vn i,.pointer (fK a i),.slice (gS l i).a (gS l i).b.length (gS l i).c,.slice a2 S.length c2,qa,qa]) (fun _=>[]) (cR [[],[],[]]<|cA (fun _=>vT) (fun _=>congrArg Value.bool hb1)<|cR [[],[],[]]<|cX (qF (fun _ _ _ hG=>bU.idx (k:=.i64) Tryz.underlying29 Tryz.sizeOf37 hG.fn.1 rfl (show ((i:Nat):Int)=((i:Nat):Int) from rfl) (show i<l.length from (by have:=yT hb1;have:=hp.le;omega))))<|cX (qF (fun _ _ _ hG=>bU.ld Tryz.isAgg37 hG.fn.1 (show i<l.length from (by have:=yT hb1;have:=hp.le;omega))))<|cR [[]]<|cX (qC (fun _ _ w hG=>same6_any (gS l i).a (gS l i).c (gS l i).b a2 c2 S w (hG.fn.1.sub _ (iO (show i<l.length from (by have:=yT hb1;have:=hp.le;omega)))) hG.fn.2.1))<|jE [[]]) (fun _=>?_)
  refine oC (decide ((gS l i).b=S)) (fun hb3=>?_) (fun hb3=>?_)
  ·
   rw [hb3]
   refine jJ Tryz.f49 2 [0,1,4,5] [.slice a l.length c,.slice a l.length c] (aF (aC (mD [(0,(.slice a l.length c)),(1,(.slice a2 S.length c2)),(4,(.slice a l.length c)),(5,(vn i))] [] ?_)))
   exact mR (v:=(.slice a l.length c)) (fun _ hS=>⟨hS.bel,_,_,_,rfl,(hP.upd (X:=fun _=>False) (nN.of_below hS.bel) (fun _ h=>h.elim) (fun b hb=>Or.inl hb)).mono (fun _ h=>⟨h.1,hp.same (show i<l.length from (by have:=yT hb1;have:=yT hb3;have:=hp.le;omega)) hb2 hb3,hNa,hQl⟩)⟩)
  rw [hb3]
  have:=yF hb3
  refine aG (aA ?_)
  refine sDf Tryz.f49 [0,0,0,6,15,0,32,127,0,0,768,2047,4095] 13 [4] [1,0] (fun ρ=>let qa:=vs (nb ρ 11) (((([]:List bI)++(l.take i))++([bI.mk a2 c2 S]))++(l.drop i)).length (aZ ρ 11);[vs (nb ρ 0) 0 0,.slice a l.length c,vn i,.slice a (l.take i).length c,vs (nb ρ 4) (([]:List bI)++(l.take i)).length (aZ ρ 4),.slice a2 S.length c2,vs (nb ρ 6) 1 1,vs (nb ρ 7) ((([]:List bI)++(l.take i))++([bI.mk a2 c2 S])).length (aZ ρ 7),.slice a l.length c,vn i,.slice (jA a c i 1) (l.drop i).length (c-i),qa,qa]) (fun ρ=>[(0,(nw ρ 0 (cL #[] 37))),(4,(bD 0 (nb ρ 4) (cL (oc ρ 4) 37))),(6,(nw ρ 6 (cL #[.slice a2 S.length c2] 37))),(7,(bD 0 (nb ρ 7) (cL (oc ρ 7) 37))),(11,(bD 0 (nb ρ 11) (cL (oc ρ 11) 37)))]) (fun ρ=>[(3,fun w=>bU w a c (l.take i)),(4,fun w=>kW.A (oc ρ 4) (([]:List bI)++(l.take i)) (aZ ρ 4)),(7,fun w=>kW.A (oc ρ 7) ((([]:List bI)++(l.take i))++([bI.mk a2 c2 S])) (aZ ρ 7)),(10,fun w=>bU w (jA a c i 1) (c-i) (l.drop i)),(11,fun w=>kW.A (oc ρ 11) (((([]:List bI)++(l.take i))++([bI.mk a2 c2 S]))++(l.drop i)) (aZ ρ 11))]) (fun _=>(fun w=>bU w a c l∧Bs w a2 c2 S∧bU w a c (l.take i)∧bU w (jA a c i 1) (c-i) (l.drop i)∧True)) (fun ρ=>kW.A (oc ρ 4) (([]:List bI)++(l.take i)) (aZ ρ 4)∧kW.A (oc ρ 7) ((([]:List bI)++(l.take i))++([bI.mk a2 c2 S])) (aZ ρ 7)∧kW.A (oc ρ 11) (((([]:List bI)++(l.take i))++([bI.mk a2 c2 S]))++(l.drop i)) (aZ ρ 11)) (fun _ _ hF hf=>⟨⟨hF.1,hF.2.1,hf 3,hf 10,trivial⟩,⟨hf 4,hf 7,hf 11⟩⟩) (cR [[],[],[]]<|cX (jF (fun _=>Instr.sliceAt 29 (.slice a l.length c) none (some (vn i)) none) (fun _=>(.slice a (l.take i).length c)) (fun _ _ _ hG=>pY (k:=i) Tryz.underlying29 Tryz.sizeOf37 rfl (jI (rfl)) hp.le hG.fn.1.le (by rw [List.length_take];exact (Nat.min_eq_left hp.le).symm)) (fun _ _ w hG=>hG.facts0.mono (fun _ hF=>hF.1.take i)))<|cX (qM 0 (fun ρ _ w hG hg=>wB (K:=kW) (ty:=29) (g:=nb ρ 0) (ts:=([]:List bI)) (us:=l.take i) Tryz.underlying29 (dA (sz:=1) (b:=24) (z:=vz) (by kernel_rfl) rfl) RowK.A.empty (bU.src Tryz.underlying29 (show bU w a c (l.take i) from (hG.facts 3 rfl).now)) (by simp only [List.length_take,List.length_nil];have:=yT hb1;have:=hp.le;omega) (by decide) hg))<|cR [[],[]]<|cX (qM 0 (fun ρ _ _ hG hg=>wB (K:=kW) (ty:=29) (g:=nb ρ 4) (ts:=([]:List bI)++(l.take i)) (us:=[bI.mk a2 c2 S]) Tryz.underlying29 (dA (sz:=1) (b:=24) (z:=vz) (by kernel_rfl) rfl) (show kW.A (oc ρ 4) (([]:List bI)++(l.take i)) (aZ ρ 4) from (hG.facts 4 rfl).now) (src_s1 Tryz.underlying29 rfl (hG.kn (g:=nb ρ 6) (o:=(cL #[.slice a2 S.length c2] 37)) 48)) (by simp only [List.length_append,List.length_take,List.length_cons,List.length_nil];have:=yT hb1;have:=hp.le;omega) (by decide) hg))<|cR [[],[]]<|cX (jF (fun _=>Instr.sliceAt 29 (.slice a l.length c) (some (vn i)) none none) (fun _=>(.slice (jA a c i 1) (l.drop i).length (c-i))) (fun _ _ _ hG=>fP (k:=i) Tryz.underlying29 Tryz.sizeOf37 rfl (jI (rfl)) hp.le hG.fn.1.le (by rw [List.length_drop])) (fun _ _ w hG=>hG.facts0.mono (fun _ hF=>hF.1.drop hp.le)))<|cX (qM 0 (fun ρ _ w hG hg=>wB (K:=kW) (ty:=29) (g:=nb ρ 7) (ts:=(([]:List bI)++(l.take i))++([bI.mk a2 c2 S])) (us:=l.drop i) Tryz.underlying29 (dA (sz:=1) (b:=24) (z:=vz) (by kernel_rfl) rfl) (show kW.A (oc ρ 7) ((([]:List bI)++(l.take i))++([bI.mk a2 c2 S])) (aZ ρ 7) from (hG.facts 7 rfl).now) (bU.src Tryz.underlying29 (show bU w (jA a c i 1) (c-i) (l.drop i) from (hG.facts 10 rfl).now)) (by simp only [List.length_append,List.length_take,List.length_drop,List.length_cons,List.length_nil];have:=yT hb1;have:=hp.le;omega) (by decide) hg))<|jE [[]]) (fun ρ7 ⟨ap7_4,ap7_7,ap7_11⟩=>?_)
  refine aF (mD [(4,(vs (nb ρ7 11) (((([]:List bI)++(l.take i))++([bI.mk a2 c2 S]))++(l.drop i)).length (aZ ρ7 11)))] [(nb ρ7 11,(cL (oc ρ7 11) 37))] ?_)
  exact mR (v:=(vs (nb ρ7 11) (((([]:List bI)++(l.take i))++([bI.mk a2 c2 S]))++(l.drop i)).length (aZ ρ7 11))) (fun _ hS=>⟨hS.bel,_,_,_,rfl,(bU.fin (hS.newb (.head _)).2 ap7_11 (by simp only [List.length_append,List.length_take,List.length_drop,List.length_cons,List.length_nil];have:=yT hb1;have:=hp.le;omega) hT (hS.newb (.head _)).1 ((hP.upd (X:=fun _=>False) (nN.of_below hS.bel) (fun _ h=>h.elim) (fun b hb=>Or.inl hb)).mono (fun _ h s hs=>(Pt.mem hs).elim (h.1.sub s) (fun e=>by rw [e];exact h.2)))).mono (fun _ h=>⟨h,hp.put (fun _=>⟨hb2,hb3⟩),fU.some (Nat.le_trans hNw (hS.newb (.head _)).1),fun s hs=>(Pt.mem hs).elim (hQl s) (fun e=>by rw [e];exact hQs)⟩)⟩)
 refine sD Tryz.f49 [0,0,2,7,15,31,31,127,255,511,31,1055,4095,8191] 14 [0,1,4,5,19] [] (fun _=>[vn i,.slice a l.length c,vn l.length,vF,vF,undef,undef,undef,undef,undef,undef,undef,undef,vF]) (fun _=>[]) (cR [[],[],[]]<|cA (fun _=>vF) (fun _=>congrArg Value.bool hb1)<|jE [[],[],[],[],[],[],[],[],[],[]]) (fun _=>?_)
 refine oN ?_
 refine bF (aN (aN (aT (aA (aB ?_)))))
 refine sS Tryz.f49 12 [0,1,4,5,33] [] (fun _=>[vn i,.slice a l.length c,vn l.length,vF,vF,undef,undef,undef,undef,undef,undef,vF]) (fun _=>[]) (cR [[],[],[]]<|cA (fun _=>vF) (fun _=>congrArg Value.bool hb1)<|jE [[],[],[],[],[],[],[],[]]) (fun _=>?_)
 refine oN ?_
 refine aG (aA ?_)
 refine sDf Tryz.f49 [0,0,0,6,15,0,32,127,0,0,768,2047,4095] 13 [4] [1,0] (fun ρ=>let qa:=vs (nb ρ 11) (((([]:List bI)++(l.take i))++([bI.mk a2 c2 S]))++(l.drop i)).length (aZ ρ 11);[vs (nb ρ 0) 0 0,.slice a l.length c,vn i,.slice a (l.take i).length c,vs (nb ρ 4) (([]:List bI)++(l.take i)).length (aZ ρ 4),.slice a2 S.length c2,vs (nb ρ 6) 1 1,vs (nb ρ 7) ((([]:List bI)++(l.take i))++([bI.mk a2 c2 S])).length (aZ ρ 7),.slice a l.length c,vn i,.slice (jA a c i 1) (l.drop i).length (c-i),qa,qa]) (fun ρ=>[(0,(nw ρ 0 (cL #[] 37))),(4,(bD 0 (nb ρ 4) (cL (oc ρ 4) 37))),(6,(nw ρ 6 (cL #[.slice a2 S.length c2] 37))),(7,(bD 0 (nb ρ 7) (cL (oc ρ 7) 37))),(11,(bD 0 (nb ρ 11) (cL (oc ρ 11) 37)))]) (fun ρ=>[(3,fun w=>bU w a c (l.take i)),(4,fun w=>kW.A (oc ρ 4) (([]:List bI)++(l.take i)) (aZ ρ 4)),(7,fun w=>kW.A (oc ρ 7) ((([]:List bI)++(l.take i))++([bI.mk a2 c2 S])) (aZ ρ 7)),(10,fun w=>bU w (jA a c i 1) (c-i) (l.drop i)),(11,fun w=>kW.A (oc ρ 11) (((([]:List bI)++(l.take i))++([bI.mk a2 c2 S]))++(l.drop i)) (aZ ρ 11))]) (fun _=>(fun w=>bU w a c l∧Bs w a2 c2 S∧bU w a c (l.take i)∧bU w (jA a c i 1) (c-i) (l.drop i)∧True)) (fun ρ=>kW.A (oc ρ 4) (([]:List bI)++(l.take i)) (aZ ρ 4)∧kW.A (oc ρ 7) ((([]:List bI)++(l.take i))++([bI.mk a2 c2 S])) (aZ ρ 7)∧kW.A (oc ρ 11) (((([]:List bI)++(l.take i))++([bI.mk a2 c2 S]))++(l.drop i)) (aZ ρ 11)) (fun _ _ hF hf=>⟨⟨hF.1,hF.2.1,hf 3,hf 10,trivial⟩,⟨hf 4,hf 7,hf 11⟩⟩) (cR [[],[],[]]<|cX (jF (fun _=>Instr.sliceAt 29 (.slice a l.length c) none (some (vn i)) none) (fun _=>(.slice a (l.take i).length c)) (fun _ _ _ hG=>pY (k:=i) Tryz.underlying29 Tryz.sizeOf37 rfl (jI (rfl)) hp.le hG.fn.1.le (by rw [List.length_take];exact (Nat.min_eq_left hp.le).symm)) (fun _ _ w hG=>hG.facts0.mono (fun _ hF=>hF.1.take i)))<|cX (qM 0 (fun ρ _ w hG hg=>wB (K:=kW) (ty:=29) (g:=nb ρ 0) (ts:=([]:List bI)) (us:=l.take i) Tryz.underlying29 (dA (sz:=1) (b:=24) (z:=vz) (by kernel_rfl) rfl) RowK.A.empty (bU.src Tryz.underlying29 (show bU w a c (l.take i) from (hG.facts 3 rfl).now)) (by simp only [List.length_take,List.length_nil];have:=yF hb1;have:=hp.le;omega) (by decide) hg))<|cR [[],[]]<|cX (qM 0 (fun ρ _ _ hG hg=>wB (K:=kW) (ty:=29) (g:=nb ρ 4) (ts:=([]:List bI)++(l.take i)) (us:=[bI.mk a2 c2 S]) Tryz.underlying29 (dA (sz:=1) (b:=24) (z:=vz) (by kernel_rfl) rfl) (show kW.A (oc ρ 4) (([]:List bI)++(l.take i)) (aZ ρ 4) from (hG.facts 4 rfl).now) (src_s1 Tryz.underlying29 rfl (hG.kn (g:=nb ρ 6) (o:=(cL #[.slice a2 S.length c2] 37)) 48)) (by simp only [List.length_append,List.length_take,List.length_cons,List.length_nil];have:=yF hb1;have:=hp.le;omega) (by decide) hg))<|cR [[],[]]<|cX (jF (fun _=>Instr.sliceAt 29 (.slice a l.length c) (some (vn i)) none none) (fun _=>(.slice (jA a c i 1) (l.drop i).length (c-i))) (fun _ _ _ hG=>fP (k:=i) Tryz.underlying29 Tryz.sizeOf37 rfl (jI (rfl)) hp.le hG.fn.1.le (by rw [List.length_drop])) (fun _ _ w hG=>hG.facts0.mono (fun _ hF=>hF.1.drop hp.le)))<|cX (qM 0 (fun ρ _ w hG hg=>wB (K:=kW) (ty:=29) (g:=nb ρ 7) (ts:=(([]:List bI)++(l.take i))++([bI.mk a2 c2 S])) (us:=l.drop i) Tryz.underlying29 (dA (sz:=1) (b:=24) (z:=vz) (by kernel_rfl) rfl) (show kW.A (oc ρ 7) ((([]:List bI)++(l.take i))++([bI.mk a2 c2 S])) (aZ ρ 7) from (hG.facts 7 rfl).now) (bU.src Tryz.underlying29 (show bU w (jA a c i 1) (c-i) (l.drop i) from (hG.facts 10 rfl).now)) (by simp only [List.length_append,List.length_take,List.length_drop,List.length_cons,List.length_nil];have:=yF hb1;have:=hp.le;omega) (by decide) hg))<|jE [[]]) (fun ρ10 ⟨ap10_4,ap10_7,ap10_11⟩=>?_)
 refine aF (mD [(4,(vs (nb ρ10 11) (((([]:List bI)++(l.take i))++([bI.mk a2 c2 S]))++(l.drop i)).length (aZ ρ10 11)))] [(nb ρ10 11,(cL (oc ρ10 11) 37))] ?_)
 exact mR (v:=(vs (nb ρ10 11) (((([]:List bI)++(l.take i))++([bI.mk a2 c2 S]))++(l.drop i)).length (aZ ρ10 11))) (fun _ hS=>⟨hS.bel,_,_,_,rfl,(bU.fin (hS.newb (.head _)).2 ap10_11 (by simp only [List.length_append,List.length_take,List.length_drop,List.length_cons,List.length_nil];have:=yF hb1;have:=hp.le;omega) hT (hS.newb (.head _)).1 ((hP.upd (X:=fun _=>False) (nN.of_below hS.bel) (fun _ h=>h.elim) (fun b hb=>Or.inl hb)).mono (fun _ h s hs=>(Pt.mem hs).elim (h.1.sub s) (fun e=>by rw [e];exact h.2)))).mono (fun _ h=>⟨h,hp.put (fun h=>absurd h (by have:=yF hb1;have:=hp.le;omega)),fU.some (Nat.le_trans hNw (hS.newb (.head _)).1),fun s hs=>(Pt.mem hs).elim (hQl s) (fun e=>by rw [e];exact hQs)⟩)⟩)
theorem rwall_any (a:Option Addr) (c:Nat) (W:List kF) (h5:W.length≤5) (h8:∀ x∈W,x.l.length≤8) (w0:World) (hf0:lX w0 a c W) (T:Nat→Prop) (hT:∀ b,T b→b<w0.heap.size) (hP:dL T (fun w=>∀ x∈W,bU w x.a x.c x.l) w0):Calls Tryz.prog 25 #[.slice a W.length c] w0 (fun ε w'=>jG w0 w'∧∃ a c s,ε=.returned (.slice a (List.length s) c)∧dL T (fun w=>bU w a c s∧sB s=allB W) w'):=by
 refine Calls.of_ok (n:=33) (F:=(fun w=>lX w a c W∧True)) Tryz.func25 rfl rfl rfl (by simp) (hf0.pers0.and cO) ?_
 have hlen:W.length≤1000000:=hf0.max
 refine jJ Tryz.f25 1 [0,2] [vz] (jJ Tryz.f25 1 [0,2,3] [vz] (aB (jJ Tryz.f25 1 [0,2,3,4] [vi 0] (aI ?_))))
 refine oLF (σ:=Nat × (Option Addr) × Nat × (List bI)) (fun ⟨_,ua,uc,ul⟩=>(fun w=>lX w a c W∧bU w ua uc ul∧True)) (fun ⟨i,ua,uc,ul⟩=>[(0,(.slice a W.length c)),(2,vz),(3,(.slice ua ul.length uc)),(4,(vn i))]) (fun ⟨_,_,_,_⟩=>[]) (fun ⟨i,_,_,_⟩=>W.length-i)
   (fun ⟨i,ua,_,ul⟩=>(i≤W.length)∧(sB ul=oM [] (wcB (W.take i)))∧(fU w0.heap.size ua)∧(∀ x∈ul,∃ y∈W,x∈y.l)) (0,none,0,[]) (⟨Nat.zero_le _,rfl,fU.none,fun _ h=>absurd h (by simp)⟩) (fun w hF=>⟨hF.1,bU.nil,trivial⟩) [] ?_
 rintro ⟨i,ua,uc,ul⟩ ⟨hi,hr,hNo,hQo⟩
 change Ok Tryz.prog _ _ 33 [(0,(.slice a W.length c)),(2,vz),(3,(.slice ua ul.length uc)),(4,(vn i))] _ [] (fun w=>lX w a c W∧bU w ua uc ul∧True)
 refine aB (jJ Tryz.f25 4 [0,2,3,4,9] [vn i,.slice a W.length c,vn W.length,.bool (decide (((i:Nat):Int)<((W.length:Nat):Int)))] ?_)
 refine oC (decide (((i:Nat):Int)<((W.length:Nat):Int))) (fun hb1=>?_) (fun hb1=>?_)
 ·
  rw [hb1]
  have:=yT hb1
  refine aG (aA (aB (aI (jJ Tryz.f25 1 [0,2,3,4,5] [vi 0] (aI ?_)))))
  refine oLF (σ:=Nat × (Option Addr) × Nat × (List bI)) (fun ⟨_,ua,uc,ul⟩=>(fun w=>lX w a c W∧bU w ua uc ul∧True)) (fun ⟨k,ua,uc,ul⟩=>[(0,(.slice a W.length c)),(2,vz),(3,(.slice ua ul.length uc)),(4,(vn i)),(5,(vn k))]) (fun ⟨_,_,_,_⟩=>[]) (fun ⟨k,_,_,_⟩=>(gW W i).l.length-k)
    (fun ⟨k,ua,_,ul⟩=>(k≤(gW W i).l.length)∧(sB ul=oM (oM [] (wcB (W.take i))) (sB ((gW W i).l.take k)))∧(fU w0.heap.size ua)∧(∀ x∈ul,∃ y∈W,x∈y.l)) (0,ua,uc,ul) (⟨Nat.zero_le _,hr,hNo,hQo⟩) (fun w hF=>⟨hF.1,hF.2.1,trivial⟩) [] ?_
  rintro ⟨k,ua,uc,ul⟩ ⟨hk,hq,hNa,hQ⟩
  change Ok Tryz.prog _ _ 33 [(0,(.slice a W.length c)),(2,vz),(3,(.slice ua ul.length uc)),(4,(vn i)),(5,(vn k))] _ [] (fun w=>lX w a c W∧bU w ua uc ul∧True)
  have hg8:(gW W i).l.length≤8:=h8 _ (gX (show i<W.length from (by omega)))
  have hl9:ul.length≤48:=(by have e:=congrArg List.length hq;have h1:=putA_len (sB ((gW W i).l.take k)) (oM [] (wcB (W.take i)));have h2:=putA_len (wcB (W.take i)) [];have h3:=wcB_len h8 i;have:=h8 _ (gX (show i<W.length from (by omega)));rw [oH] at e;rw [oH,List.length_take] at h1;simp only [List.length_nil] at h2;omega)
  refine aB ?_
  refine sS Tryz.f25 8 [0,2,3,4,5,19] [] (fun _=>[vn k,.slice a W.length c,vn i,.pointer (fK a (i*4)),.pointer (fK a (i*4+3)),.slice (gW W i).a (gW W i).l.length (gW W i).c,vn (gW W i).l.length,.bool (decide (((k:Nat):Int)<(((gW W i).l.length:Nat):Int)))]) (fun _=>[]) (cR [[],[],[]]<|cX (qF (fun _ _ _ hG=>lX.idx (k:=.i64) Tryz.underlying49 Tryz.sizeOf31 hG.fn.1 rfl (show ((i:Nat):Int)=((i:Nat):Int) from rfl) (show i<W.length from (by omega))))<|cX (qF (fun _ _ _ hG=>uH (f:=3) (o:=3) (k:=i*4) Tryz.underlying31 rfl rfl rfl Tryz.sizeOf29 (lX.pos hG.fn.1 (show i<W.length from (by omega))).1 (lX.pos hG.fn.1 (show i<W.length from (by omega))).2))<|cX (qF (fun _ _ _ hG=>lX.ld3 Tryz.isAgg29 hG.fn.1 (show i<W.length from (by omega))))<|jE [[],[]]) (fun _=>?_)
  refine oC (decide (((k:Nat):Int)<(((gW W i).l.length:Nat):Int))) (fun hb2=>?_) (fun hb2=>?_)
  ·
   rw [hb2]
   have:=yT hb2
   refine aG (aA (aB (aI ?_)))
   refine rSf Tryz.f25 11 [0,2,3,4,5] [] (fun ρ=>let qa:Value:=.slice (oa ρ 9) (os ρ 9).length (nb ρ 9);[.slice ua ul.length uc,.slice a W.length c,vn i,.pointer (fK a (i*4)),.pointer (fK a (i*4+3)),.slice (gW W i).a (gW W i).l.length (gW W i).c,vn k,.pointer (fK (gW W i).a k),.slice (gS (gW W i).l k).a (gS (gW W i).l k).b.length (gS (gW W i).l k).c,qa,qa]) (fun _=>[]) (fun ρ=>[(9,fun w=>(bU w (oa ρ 9) (nb ρ 9) (os ρ 9)∧sB (os ρ 9)=lN (sB ul) (gS (gW W i).l k).b∧(fU w0.heap.size (oa ρ 9)∧∀ x∈os ρ 9,∃ y∈W,x∈y.l)))]) (fun ρ=>(fun w=>lX w a c W∧bU w ua uc ul∧bU w (oa ρ 9) (nb ρ 9) (os ρ 9)∧True)) (fun ρ=>sB (os ρ 9)=lN (sB ul) (gS (gW W i).l k).b∧(fU w0.heap.size (oa ρ 9)∧∀ x∈os ρ 9,∃ y∈W,x∈y.l)) (fun _ _ hF hf=>⟨⟨hF.1,hF.2.1,(hf 9).1,trivial⟩,(hf 9).2⟩) (cR [[],[],[]]<|cX (qF (fun _ _ _ hG=>lX.idx (k:=.i64) Tryz.underlying49 Tryz.sizeOf31 hG.fn.1 rfl (show ((i:Nat):Int)=((i:Nat):Int) from rfl) (show i<W.length from (by omega))))<|cX (qF (fun _ _ _ hG=>uH (f:=3) (o:=3) (k:=i*4) Tryz.underlying31 rfl rfl rfl Tryz.sizeOf29 (lX.pos hG.fn.1 (show i<W.length from (by omega))).1 (lX.pos hG.fn.1 (show i<W.length from (by omega))).2))<|cX (qF (fun _ _ _ hG=>lX.ld3 Tryz.isAgg29 hG.fn.1 (show i<W.length from (by omega))))<|cR [[]]<|cX (qF (fun _ _ _ hG=>bU.idx (k:=.i64) Tryz.underlying29 Tryz.sizeOf37 (hG.fn.1.sub _ (gX (show i<W.length from (by omega)))) rfl (show ((k:Nat):Int)=((k:Nat):Int) from rfl) (show k<(gW W i).l.length from (by omega))))<|cX (qF (fun _ _ _ hG=>bU.ld Tryz.isAgg37 (hG.fn.1.sub _ (gX (show i<W.length from (by omega)))) (show k<(gW W i).l.length from (by omega))))<|cX (qS3 (fun _ τ w hG=>putscr_any ua uc ul (gS (gW W i).l k).a (gS (gW W i).l k).c (gS (gW W i).l k).b (by omega) w hG.fn.2.1 ((hG.fn.1.sub _ (gX (show i<W.length from (by omega)))).sub _ (iO (show k<(gW W i).l.length from (by omega)))) τ hG.lt (hG.facts0.mono (fun _ hF=>⟨hF.2.1,((hF.1.sub _ (gX (show i<W.length from (by omega)))).sub _ (iO (show k<(gW W i).l.length from (by omega))))⟩)) w0.heap.size (fun x=>∃ y∈W,x∈y.l) hG.below.size hNa hQ ⟨_,gX (show i<W.length from (by omega)),iO (show k<(gW W i).l.length from (by omega))⟩))<|jE [[]]) (fun ρ7 ap7_9=>?_)
   refine aJ (aA ?_)
   refine rS Tryz.f25 3 [0,2,3,4,5] [] (fun _=>[vn k,vn (k+1),vn (k+1)]) (fun _=>[]) (cR [[]]<|jW (fun ρ=>(((k:Nat):Int)+1)) (fun _=>(k+1)) (fun _=>(aW k 1 (by omega)))<|jE [[]]) (fun _=>?_)
   refine mD [(0,(.slice a W.length c)),(2,vz),(3,(.slice (oa ρ7 9) (os ρ7 9).length (nb ρ7 9))),(4,(vn i)),(5,(vn (k+1)))] [] ?_
   exact mNF (k+1,oa ρ7 9,nb ρ7 9,os ρ7 9) (by show (gW W i).l.length-(k+1)<(gW W i).l.length-k;omega) (⟨(by omega),by rw [putA_next (show k<(gW W i).l.length from (by omega)),← hq];exact ap7_9.1,ap7_9.2.1,ap7_9.2.2⟩) (fun w hS=>hS.weaken (fun w hF=>⟨hF.1,hF.2.2.1,trivial⟩))
  rw [hb2]
  have:=yF hb2
  refine bF (aN (aN (aT (aJ (aA ?_)))))
  refine rS Tryz.f25 3 [0,2,3,4] [] (fun _=>[vn i,vn (i+1),vn (i+1)]) (fun _=>[]) (cR [[]]<|jW (fun ρ=>(((i:Nat):Int)+1)) (fun _=>(i+1)) (fun _=>(aW i 1 (by omega)))<|jE [[]]) (fun _=>?_)
  refine mD [(0,(.slice a W.length c)),(2,vz),(3,(.slice ua ul.length uc)),(4,(vn (i+1)))] [] ?_
  exact mNF (i+1,ua,uc,ul) (by show W.length-(i+1)<W.length-i;omega) (⟨(by omega),by rw [putA_w (show i<W.length from (by omega)),hq,List.take_of_length_le (show (gW W i).l.length≤k from (by omega))],hNa,hQ⟩) (fun w hS=>hS.weaken (fun w hF=>⟨hF.1,hF.2.1,trivial⟩))
 rw [hb1]
 refine bF (aN (aN (aT (aA (jJ Tryz.f25 2 [2] [.slice ua ul.length uc,.slice ua ul.length uc] (aF (mD [(2,(.slice ua ul.length uc))] [] ?_)))))))
 exact mR (v:=(.slice ua ul.length uc)) (fun _ hS=>⟨hS.bel,_,_,_,rfl,(bU.mkP hS.facts.now.2.1.le hS.facts.now.2.1.max (hS.facts.now.2.1.rows.pers (hNo.ap hT)) ((hP.upd (X:=fun _=>False) (nN.of_below hS.bel) (fun _ h=>h.elim) (fun b hb=>Or.inl hb)).mono (fun _ h s hs=>let ⟨y,hy,hz⟩:=hQo s hs;(h y hy).sub s hz))).mono (fun _ h=>⟨h,by rw [hr,List.take_of_length_le (show W.length≤i from (by have:=yF hb1;omega))];rfl⟩)⟩)
theorem wsame_any (a:Option Addr) (c:Nat) (l:List bI) (a2:Option Addr) (c2:Nat) (m:List bI) (he:sB l=sB m) (w0:World) (hf0:bU w0 a c l) (hf1:bU w0 a2 c2 m):Calls Tryz.prog 23 #[.slice a l.length c,.slice a2 m.length c2] w0 (jR vT w0):=by
 refine Calls.of_ok (n:=27) (F:=(fun w=>bU w a c l∧bU w a2 c2 m∧True)) Tryz.func23 rfl rfl rfl (by simp) (hf0.pers0.and (hf1.pers0.and cO)) ?_
 have hlen:l.length≤140737488351232:=hf0.max
 have hle:l.length=m.length:=iE he
 refine jJ Tryz.f23 1 [0,1,4] [vF] (aB ?_)
 refine sS Tryz.f23 5 [0,1,4,10] [] (fun _=>[.slice a l.length c,vn l.length,.slice a2 m.length c2,vn m.length,vF]) (fun _=>[]) (cR [[],[],[],[]]<|jQ (fun ρ=>(((l.length:Nat):Int) != ((m.length:Nat):Int))) false (fun _=>(bne_f (by have:=iE he;omega)))<|cN) (fun _=>?_)
 refine oN ?_
 refine aG (aA (aB (jJ Tryz.f23 1 [0,1,4,5] [vi 0] (aI ?_))))
 refine oL (σ:=Nat) (fun i=>[(0,(.slice a l.length c)),(1,(.slice a2 m.length c2)),(5,(vn i))]) (fun _=>[]) (fun i=>l.length-i)
   (fun i=>(i≤l.length)) 0 (Nat.zero_le _) [] ?_
 rintro i hi
 change Ok Tryz.prog _ _ 27 [(0,(.slice a l.length c)),(1,(.slice a2 m.length c2)),(5,(vn i))] _ [] (fun w=>bU w a c l∧bU w a2 c2 m∧True)
 refine aB (jJ Tryz.f23 4 [0,1,5,14] [vn i,.slice a l.length c,vn l.length,.bool (decide (((i:Nat):Int)<((l.length:Nat):Int)))] ?_)
 refine oC (decide (((i:Nat):Int)<((l.length:Nat):Int))) (fun hb1=>?_) (fun hb1=>?_)
 ·
  rw [hb1]
  have:=yT hb1
  refine aG (aA (aB (aI ?_)))
  refine sD Tryz.f23 [0,0,3,7,0,0,48,112,255,511] 10 [0,1,5,26] [] (fun _=>[.slice a l.length c,vn i,.pointer (fK a i),.slice (gS l i).a (gS l i).b.length (gS l i).c,.slice a2 m.length c2,vn i,.pointer (fK a2 i),.slice (gS m i).a (gS m i).b.length (gS m i).c,vT,vF]) (fun _=>[]) (cR [[],[]]<|cX (qF (fun _ _ _ hG=>bU.idx (k:=.i64) Tryz.underlying29 Tryz.sizeOf37 hG.fn.1 rfl (show ((i:Nat):Int)=((i:Nat):Int) from rfl) (show i<l.length from (by omega))))<|cX (qF (fun _ _ _ hG=>bU.ld Tryz.isAgg37 hG.fn.1 (show i<l.length from (by omega))))<|cR [[],[]]<|cX (qF (fun _ _ _ hG=>bU.idx (k:=.i64) Tryz.underlying29 Tryz.sizeOf37 hG.fn.2.1 rfl (show ((i:Nat):Int)=((i:Nat):Int) from rfl) (show i<m.length from (by omega))))<|cX (qF (fun _ _ _ hG=>bU.ld Tryz.isAgg37 hG.fn.2.1 (show i<m.length from (by omega))))<|cX (tK _ 20 (fun _=> #[.slice (gS l i).a (gS l i).b.length (gS l i).c,.slice (gS m i).a (gS m i).b.length (gS m i).c]) (fun _=>vT) (fun _ _=>(by kernel_rfl)) (fun _=>(by kernel_rfl)) (fun _ _=>(by kernel_rfl)) (fun _ _=>trivial) (fun _ _ w hG=>(by as_aux_lemma=>(have hcall:=same6_any (gS l i).a (gS l i).c (gS l i).b (gS m i).a (gS m i).c (gS m i).b w (hG.fn.1.sub _ (iO (show i<l.length from (by omega)))) (hG.fn.2.1.sub _ (iO (show i<m.length from (by omega))));rw [(decide_eq_true (same_len he i))] at hcall;exact hcall))))<|jE [[]]) (fun _=>?_)
  refine oN ?_
  refine aG (aJ (aA ?_))
  refine rS Tryz.f23 3 [0,1,5] [] (fun _=>[vn i,vn (i+1),vn (i+1)]) (fun _=>[]) (cR [[]]<|jW (fun ρ=>(((i:Nat):Int)+1)) (fun _=>(i+1)) (fun _=>(aW i 1 (by omega)))<|jE [[]]) (fun _=>?_)
  exact mN (i+1) (by show l.length-(i+1)<l.length-i;omega) (by omega) []
 rw [hb1]
 refine bF (aN (aN (aT (aA (jJ Tryz.f23 1 [4] [vT] (aF ?_))))))
 exact mR (v:=vT) (fun _ hS=>⟨rfl,hS.bel⟩)
theorem allB4 {w:World} {a0 a1 a2 a3:Option Addr} {c0 c1 c2 c3:Nat} {B0 B1 B2 B3:List UInt8} (h0:Bs w a0 c0 B0) (h1:Bs w a1 c1 B1) (h2:Bs w a2 c2 B2) (h3:Bs w a3 c3 B3):rO w 4 (fun k=>[a0,a1,a2,a3].getD k none) (fun k=>[c0,c1,c2,c3].getD k 0) (fun k=>[B0,B1,B2,B3].getD k []):=by
  intro k hk
  rcases (by omega:k=0∨k=1∨k=2∨k=3) with rfl | rfl | rfl | rfl
  · exact h0
  · exact h1
  · exact h2
  · exact h3
theorem allB5 {w:World} {a0 a1 a2 a3 a4:Option Addr} {c0 c1 c2 c3 c4:Nat} {B0 B1 B2 B3 B4:List UInt8} (h0:Bs w a0 c0 B0) (h1:Bs w a1 c1 B1) (h2:Bs w a2 c2 B2) (h3:Bs w a3 c3 B3) (h4:Bs w a4 c4 B4):rO w 5 (fun k=>[a0,a1,a2,a3,a4].getD k none) (fun k=>[c0,c1,c2,c3,c4].getD k 0) (fun k=>[B0,B1,B2,B3,B4].getD k []):=by
  intro k hk
  rcases (by omega:k=0∨k=1∨k=2∨k=3∨k=4) with rfl | rfl | rfl | rfl | rfl
  · exact h0
  · exact h1
  · exact h2
  · exact h3
  · exact h4
theorem hd3 {x y z:Int} (h:0≤x∧x<256) (h':0≤y∧y<256) (h2:0≤z∧z<256):Hd #[.int .u8 x,.int .u8 y,.int .u8 z] [ob x,ob y,ob z]:=by
  simp [Hd,bs,zW h,zW h',zW h2]
theorem eG (d:List UInt8):(bQ d).length=d.length+2:=by unfold bQ;rw [List.length_append,List.length_cons,List.length_cons,List.length_nil];omega
theorem qY (d:List UInt8):0<(bQ d).length:=by rw [eG];omega
theorem itF_len:∀ f n:Nat,(itF f n).length≤f
  | 0,_=>Nat.le_refl _
  | f + 1, n => by
    unfold itF
    split
    · exact Nat.zero_le _
    · rw [List.length_cons];exact Nat.succ_le_succ (itF_len f _)
theorem itF_pos {f n:Nat} (h:decide (0<((n:Nat):Int))=true):itF (f+1) n=ob ((n%256:Nat):Int)::itF f (n / 2^8):=by
  have:=of_decide_eq_true h
  rw [itF,if_neg (by omega)]
theorem itF_z {f n:Nat} (h:decide (0<((n:Nat):Int))=false):itF f n=[]:=by
  have:=of_decide_eq_false h
  cases f with
  | zero=>rfl
  | succ f=>rw [itF,if_pos (by omega)]
theorem it_lt {m:Nat} (h0:decide (0<((m:Nat):Int))=true):m / 2^8<m:=by
  have:=of_decide_eq_true h0
  omega
theorem lY {X T:List UInt8} {m:Nat} (h0:decide (0<((m:Nat):Int))=true) (hX:X.length≤4) (hb:m<2^(8*(4-X.length))) (hE:X++itF (4-X.length) m=T) :
    (X++[ob ((m%256:Nat):Int)]).length≤4∧m / 2^8<2^(8*(4-(X++[ob ((m%256:Nat):Int)]).length))∧(X++[ob ((m%256:Nat):Int)])++itF (4-(X++[ob ((m%256:Nat):Int)]).length) (m / 2^8)=T:=by
  have hp:=of_decide_eq_true h0
  have hl:(X++[ob ((m%256:Nat):Int)]).length=X.length+1:=by rw [List.length_append];rfl
  rcases Nat.lt_or_ge X.length 4 with h4 | h4
  · obtain ⟨f, hf⟩ : ∃ f, 4 - X.length = f + 1 := ⟨4 - X.length - 1, by omega⟩
    have hf':4-(X.length+1)=f:=by omega
    rw [hf] at hb hE
    rw [hl,hf']
    refine ⟨by omega,?_,?_⟩
    · rw [Nat.mul_add, Nat.pow_add] at hb
      exact Nat.div_lt_of_lt_mul (by rw [Nat.mul_comm];exact hb)
    · rw [← hE,itF_pos h0,List.append_assoc];rfl
  · rw [show 4 - X.length = 0 by omega] at hb
    simp at hb
    omega
theorem it_32 {m k:Nat} (h:m<2^(8*(4-k))):m<4294967296:=by
  have h1:2^(8*(4-k))≤2^32:=Nat.pow_le_pow_right (by decide) (by omega)
  have h2:(2:Nat)^32=4294967296:=by decide
  omega
theorem pO (n:Nat):(iU n).length≤4:=itF_len 4 n
theorem lC (p:Nat):(sgB p).length=35:=by unfold sgB;rw [List.length_append,eG,aO];rfl
theorem mlB_len (m:Int):∀ ns:List Nat,(mlB m ns).length=34*ns.length+3:=by
  intro ns
  unfold mlB
  rw [List.length_append]
  have:(ns.flatMap fun p=>bQ (hL p)).length=34*ns.length:=by
    induction ns with
    | nil=>rfl
    | cons n r ih=>rw [List.flatMap_cons,List.length_append,ih,eG,aO,List.length_cons];omega
  rw [this];rfl
theorem nx_len : ∀ (f : Nat) (s : Mk) (b : List UInt8) (s' : Mk), nx f s = some (b, s') → b.length + 1000 ≤ 1000 * 2 ^ f
  | 0,_,_,_,h=>by simp [nx] at h
  | f + 1, s, b, s', h => by
    have hp:1000*2^(f+1)=1000*2^f+1000*2^f:=by rw [Nat.pow_succ];omega
    have h1:1000≤1000*2^f:=Nat.le_mul_of_pos_right _ (Nat.two_pow_pos f)
    unfold nx at h
    split at h
    · exact absurd h (by simp)
    rename_i hc
    have hc':s.can=true:=by simpa using hc
    split at h
    · simp only [Option.some.injEq,Prod.mk.injEq] at h;rw [← h.1,lC];omega
    split at h
    · rename_i hk2
      simp only [Option.some.injEq,Prod.mk.injEq] at h;rw [← h.1,mlB_len]
      unfold Mk.can at hc'
      simp only [Bool.and_eq_true] at hc'
      have:=((fd_iff _ _ _ _ _).1 hc'.2.1).2.2.2.2.1 hk2
      have h3:(s.ns.take s.fst.ks.length).length≤s.fst.ks.length:=by rw [List.length_take];exact Nat.min_le_left _ _
      omega
    split at h
    · exact absurd h (by simp)
    rename_i a s1 e1
    have ha:=nx_len f _ _ _ e1
    have hi:=pO s.fst.nu
    have q1:(afB s.fst.nu a).length≤a.length+8:=by unfold afB;simp only [List.length_append,eG,List.length_cons,List.length_nil];omega
    have q2:(olB s.fst.nu a).length≤a.length+8:=by unfold olB;simp only [List.length_append,eG,List.length_cons,List.length_nil];omega
    have q3:(hsB s.fst.h a).length=a.length+37:=by unfold hsB;simp only [List.length_append,eG,aO,List.length_cons,List.length_nil];omega
    split at h
    · simp only [Option.some.injEq,Prod.mk.injEq] at h;rw [← h.1];omega
    split at h
    · simp only [Option.some.injEq,Prod.mk.injEq] at h;rw [← h.1];omega
    split at h
    · simp only [Option.some.injEq,Prod.mk.injEq] at h;rw [← h.1];omega
    split at h
    · split at h
      · exact absurd h (by simp)
      · rename_i b2 s2 e2
        have hb:=nx_len f _ _ _ e2
        have q4:(eiB a b2).length=a.length+b2.length+3:=by unfold eiB;simp only [List.length_append,List.length_cons,List.length_nil];omega
        simp only [Option.some.injEq,Prod.mk.injEq] at h;rw [← h.1,q4];omega
    · exact absurd h (by simp)
def pT (k:Ky) (wd:Bool):dO:=⟨k,[],wd,none,0⟩
def oT (k:Ky) (wd:Bool) (ka:Option Addr) (kc:Nat):bW:=⟨1,0,0,0,[pT k wd],ka,kc⟩
theorem pT_ok {k:Ky} {wd:Bool} (hk:k.Ok) (hd:rng k.d):(pT k wd).Ok:=⟨hk,hd,fun i hi=>absurd hi (by simp [pT])⟩
theorem oT_ok {k:Ky} {wd:Bool} {ka:Option Addr} {kc:Nat}:(oT k wd ka kc).Ok:=⟨dS (z:=1) (by decide),dS (z:=0) (by decide),by show (0:Nat)<4294967296;decide,iL⟩
theorem bM.srcT {P:Program} {w:World} {a:Option Addr} {c:Nat} {ts:List bW} {tx e':TypeId} (hk:P.underlying tx=some (.slice e')) (h:bM w a c ts):Src P 36 tx (.slice a ts.length c) ts.length (kT.r ts) w:=by
  rw [kT_r];exact h.src hk
section
variable {α : Type} {sz : Nat} {K : RowK α sz} {C : Array Value} {x : α} {c o : Nat}
theorem one_get (h:K.A C [x] c) {v:Value} (_ho:o<sz) (hv:(K.f x)[o]? = some v):C[0*sz+o]? = some v:=by
  have h1:=Av.hd h
  have hr:K.r [x]=K.f x:=by simp [RowK.r]
  rw [hr] at h1
  have h2:(C.toList.take (K.f x).length)[o]? = some v:=by rw [h1];exact hv
  rw [List.getElem?_take] at h2
  split at h2
  · rw [Nat.zero_mul,Nat.zero_add];simpa using h2
  · exact absurd h2 (by simp)
theorem one_lt (h:K.A C [x] c) (ho:o<sz):0*sz+o<C.size:=by
  have h1:=Av.size h
  have h2:1≤c:=Av.le h
  have h3:1*sz≤c*sz:=Nat.mul_le_mul_right _ h2
  rw [h1];omega
theorem one_set (h:K.A C [x] c) {v:Value} {x':α} (_ho:o<sz) (hx:K.f x'=(K.f x).set o v):K.A (C.setIfInBounds (0*sz+o) v) [x'] c:=by
  have h1:=Av.set (j:=0*sz+o) (v:=v) h
  unfold RowK.A
  have e:K.r [x']=(K.r [x]).set (0*sz+o) v:=by
    have r1:K.r [x']=K.f x':=by simp [RowK.r]
    have r2:K.r [x]=K.f x:=by simp [RowK.r]
    rw [r1,r2,hx,Nat.zero_mul,Nat.zero_add]
  rw [e];exact h1
theorem one_ldA {P:Program} {e:TypeId} {w:World} {g:Nat} {T:TypeId} {fr:Nat × Nat} (ha:∀ w,(isAgg e).run P w=.ok true w) (hs:∀ w,(sizeOf e).run P w=.ok sz w) (hb:w.heap[g]? = some (.cells C T fr)) (h:K.A C [x] c) :
    (do pure (Next.value (← Instr.loadAt e (.pointer (some ⟨g,0*sz,none⟩)))):Sem Next).run P w=.ok (.value (.agg (K.f x).toArray)) w :=
  ld_blkA (vs:=K.f x) ha hs (Kb.of_block hb) (K.len x) (fun j hj=>by
    rw [one_get h hj (List.getElem?_eq_getElem (by rw [K.len];exact hj)),List.getElem?_eq_getElem (by rw [K.len];exact hj)])
end
section
variable {P : Program} {ops : Array Oper} {D : List Nat} {l : List (Nat × Value)} {w0 : Base} {h : List (Nat × Obj)} {F0 : World → Prop}
variable {vals : (Nat → bH) → Nat → Value} {effs : (Nat → bH) → Nat → Eff} {fact : (Nat → bH) → Nat → World → Prop}
theorem qO {i:Nat} {f:FuncId} {args:(Nat→bH)→Array Value} {v:(Nat→bH)→bH→Value} {Φ:(Nat→bH)→bH→World→Prop}
    (hf:∀ ρ T w,Given ops D w0 h F0 effs fact i ρ T w→Calls P f (args ρ) w (fun e w'=>Below w.heap.size w w'∧∃ r,e=.returned (v ρ r)∧dL T (Φ ρ r) w'))
    (hc:∀ ρ z,eU P ops D l (vals ρ) i z=some (.enter f (args ρ),[],[]):=by intros;kernel_rfl)
    (hv:∀ ρ r,vals (upd ρ i r) i=v ρ r:=by intros;kernel_rfl) (he:∀ ρ r,effs (upd ρ i r) i={}:=by intros;kernel_rfl)
    (ht:∀ ρ r,fact (upd ρ i r) i=Φ ρ r:=by intros;kernel_rfl):jV P ops D l w0 h F0 vals effs fact i:=by
  refine o_callGT i f args hc he (fun ρ T w hG=>(hf ρ T w hG).mono (fun e w' hew=>?_))
  obtain ⟨hb,r,h1,h2⟩:=hew
  exact ⟨hb,r,by rw [hv];exact h1,by rw [ht];exact h2⟩
end
def tN (ρ:Nat→bH) (i:Nat):Option Addr:=(ρ i).b
def od2 (ρ:Nat→bH) (i:Nat):Option Addr:=(ρ i).d
def nb3 (ρ:Nat→bH) (i:Nat):Nat:=(ρ i).n.tail.tail.headD 0
theorem St.oneT {B:Base} {w:World} {h:List (Nat × Obj)} {F:World→Prop} (_hS:St B h F w) {n g q c d:Nat} {C E:Array Value} {e e':TypeId} {fr fr':Nat × Nat} {k:Ky} {wd:Bool} {T:Nat→Prop} (hT:∀ b,T b→b<n)
    (hg:n≤g∧w.heap[g]? = some (.cells C e fr)) (hq:n≤q∧w.heap[q]? = some (.cells E e' fr')) (hA:kT.A C [oT k wd (some ⟨q,0,none⟩) d] c) (hB:kK.A E [pT k wd] d) (hk:(pT k wd).Ok):dL T (fun w=>bM w (some ⟨g,0,none⟩) c [oT k wd (some ⟨q,0,none⟩) d]) w:=by
  have ap:∀ {x m:Nat},n≤x→Apart T (some ⟨x,0,none⟩) m:=fun hx p hp _ ht=>by
    obtain rfl:(⟨_,0,none⟩:Addr)=p:=by simpa using hp
    have:=hT _ ht
    simp only at this
    omega
  have r1:Rs w (some ⟨g,0,none⟩) (pV [oT k wd (some ⟨q,0,none⟩) d]):=by rw [← kT_r];exact Rs.of_av hg.2 hA
  have r2:Rs w (some ⟨q,0,none⟩) (kpR [pT k wd]):=by rw [← kK_r];exact Rs.of_av hq.2 hB
  refine bM.mkP (Av.le hA) (by show 1≤1000000;decide) (r1.pers (ap hg.1)) (fun t ht=>?_) (fun t ht=>?_)
  · rw [List.mem_singleton.1 ht]
    exact oG.mkP (Av.le hB) (by show 1≤1000000;decide) (r2.pers (ap hq.1)) (fun p hp=>by rw [List.mem_singleton.1 hp];exact dB (fun _=>Is.nil)) (fun p hp=>by rw [List.mem_singleton.1 hp];exact hk)
  · rw [List.mem_singleton.1 ht];exact oT_ok
theorem eql_nilT (a:Option Addr) (n c:Nat) (w:World):(binOp .eql 24 (.slice a n c) (.slice none 0 0)).run Tryz.prog w=.ok (.bool a.isNone) w:=by cases a<;>kernel_rfl
theorem eql_nilK (a:Option Addr) (n c:Nat) (w:World):(binOp .eql 58 (.slice a n c) (.slice none 0 0)).run Tryz.prog w=.ok (.bool a.isNone) w:=by cases a<;>kernel_rfl
theorem bM.nn {w:World} {a:Option Addr} {c:Nat} {t:bW} (h:bM w a c [t]):a.isNone=false:=by
  obtain ⟨p,rfl,_⟩:=h.rows.some (i:=0) (by rw [yB bW.row_len];exact Nat.le_of_ble_eq_true rfl)
  rfl
theorem oG.nn {w:World} {a:Option Addr} {c:Nat} {p:dO} (h:oG w a c [p]):a.isNone=false:=by
  obtain ⟨p,rfl,_⟩:=h.rows.some (i:=0) (by rw [yB dO.row_len];exact Nat.le_of_ble_eq_true rfl)
  rfl
theorem bM.kn {w:World} {a:Option Addr} {c:Nat} {k:Ky} {wd:Bool} {ka:Option Addr} {kc:Nat} (h:bM w a c [oT k wd ka kc]):ka.isNone=false:=(h.sub _ List.mem_cons_self).nn
theorem bM.oneP {w:World} {n c d:Nat} {a b:Option Addr} {k:Ky} {wd:Bool} {T:Nat→Prop} (h:bM w a c [oT k wd b d]) (ha:fU n a) (hb:fU n b) (hT:∀ b,T b→b<n):dL T (fun w=>bM w a c [oT k wd b d]) w:=by
  refine bM.mkP h.le h.max (h.rows.pers (ha.ap hT)) (fun t ht=>?_) h.ok
  rw [List.mem_singleton.1 ht]
  have hk:=h.sub _ List.mem_cons_self
  exact oG.mkP hk.le hk.max (hk.rows.pers (hb.ap hT)) (fun p hp=>by rw [List.mem_singleton.1 hp];exact dB (fun _=>Is.nil)) hk.ok
section
variable {P : Program} {ops : Array Oper} {D : List Nat} {l : List (Nat × Value)} {w0 : Base} {h : List (Nat × Obj)} {F0 : World → Prop}
variable {vals : (Nat → bH) → Nat → Value} {effs : (Nat → bH) → Nat → Eff} {fact : (Nat → bH) → Nat → World → Prop}
theorem qT1 {i:Nat} {f:FuncId} {args:(Nat→bH)→Array Value} {k:Ky} {wd:Bool}
    (hf:∀ ρ T w,Given ops D w0 h F0 effs fact i ρ T w→Calls P f (args ρ) w (fun e w'=>Below w.heap.size w w'∧∃ r:bH,e=.returned (.slice r.a 1 (r.n.headD 0))∧fU w.heap.size r.a∧fU w.heap.size r.b∧dL T (fun w=>bM w r.a (r.n.headD 0) [oT k wd r.b (r.n.tail.headD 0)]) w'))
    (hc:∀ ρ z,eU P ops D l (vals ρ) i z=some (.enter f (args ρ),[],[]):=by intros;kernel_rfl)
    (hv:∀ ρ r,vals (upd ρ i r) i=.slice r.a 1 (r.n.headD 0):=by intros;kernel_rfl) (he:∀ ρ r,effs (upd ρ i r) i={}:=by intros;kernel_rfl)
    (ht:∀ ρ r,fact (upd ρ i r) i=(fun w=>bM w r.a (r.n.headD 0) [oT k wd r.b (r.n.tail.headD 0)]∧fU w0.w.heap.size r.a∧fU w0.w.heap.size r.b):=by intros;kernel_rfl):jV P ops D l w0 h F0 vals effs fact i :=
  qO (v:=fun _ r=>.slice r.a 1 (r.n.headD 0)) (Φ:=fun _ r w=>bM w r.a (r.n.headD 0) [oT k wd r.b (r.n.tail.headD 0)]∧fU w0.w.heap.size r.a∧fU w0.w.heap.size r.b)
    (fun ρ T w hG=>(hf ρ T w hG).mono (fun _ _ ⟨h1,r,h2,h3,h4,h5⟩=>⟨h1,r,h2,h5.mono (fun _ h=>⟨h,fun p hp=>Nat.le_trans hG.below.size (h3 p hp),fun p hp=>Nat.le_trans hG.below.size (h4 p hp)⟩)⟩)) hc hv he ht
end
def gwB (ts:List bW) (n:Nat):List (List UInt8):=(List.range n).map (fun i=>wG ts ((i:Nat):Int))
theorem gwB_next (ts:List bW) (n:Nat):gwB ts (n+1)=gwB ts n++[wG ts ((n:Nat):Int)]:=by unfold gwB;rw [List.range_succ,List.map_append];rfl
theorem one_ldK {P:Program} {e:TypeId} {w:World} {g c:Nat} {C:Array Value} {T:TypeId} {fr:Nat × Nat} {k:Ky} {wd:Bool} (ha:∀ w,(isAgg e).run P w=.ok true w) (hs:∀ w,(sizeOf e).run P w=.ok 45 w) (hb:w.heap[g]? = some (.cells C T fr)) (h:kK.A C [pT k wd] c) :
    (do pure (Next.value (← Instr.loadAt e (.pointer (some ⟨g,0*45,none⟩)))):Sem Next).run P w=.ok (.value (.agg (kM k.s k.p k.c k.d ((k.i:Nat):Int) ((k.n:Nat):Int) (.slice none (nI []).length 0) (.bool wd)))) w:=by
  have h1:=one_ldA ha hs hb h
  rw [kK_f,Array.toArray_toList] at h1
  exact h1
section
variable {k : Ky} {wd : Bool} {ka : Option Addr} {kc : Nat}
theorem oT_two:∀ t∈[oT k wd ka kc],t.kd=2→t.ks.length=2:=fun t ht h=>by rw [List.mem_singleton.1 ht] at h;exact absurd h (by show ¬ (1:Int)=2;decide)
theorem oT_rg:rgB [oT k wd ka kc]=wd:=by
  unfold rgB bW.rg rgK oT pT
  simp
theorem oT_vl (hs:fC k=true) (hd:k.d+(pT k wd).w1≤8):xW [oT k wd ka kc]=true:=by
  unfold xW
  have e1:vG 1 [oT k wd ka kc]=true:=by
    unfold oT;simp [vG,nO]
  have e2:[oT k wd ka kc].all bW.fd=true:=by
    unfold oT bW.fd fdN;simp
  have e3:[oT k wd ka kc].all bW.vk=true:=by
    have hv:dO.vp (pT k wd)=true:=by
      unfold dO.vp
      have h1:(pT k wd).k=k:=rfl
      have h2:(pT k wd).ps=[]:=rfl
      rw [h1,h2,hs]
      simp only [List.length_nil,List.any_nil,Bool.not_false,Bool.true_or,Bool.and_true,Bool.true_and]
      rw [decide_eq_true (Nat.zero_le 8),Bool.true_and,decide_eq_true_eq]
      have:(((0:Nat):Int))=0:=rfl
      omega
    unfold bW.vk vkB oT
    simp [hv]
  rw [e1,e2,e3];rfl
theorem oT_aK:aK [oT k wd ka kc]=[pT k wd]:=rfl
end
def kP (p:Nat):Ky:=⟨0,p,0,0,0,0⟩
section
variable {ka : Option Addr} {kc p : Nat}
theorem kP_ok (h:p<M):(kP p).Ok:=⟨iL,h,iL,by show (0:Nat)<4294967296;decide,by show (0:Nat)<4294967296;decide⟩
theorem kP_rng:rng (kP p).d:=dS (z:=0) (by decide)
theorem kP_snd (h:iY p=true):fC (kP p)=true:=by
  unfold fC kP
  simp [h]
theorem fx_vl (h:iY p=true):xW [oT (kP p) false ka kc]=true:=oT_vl (kP_snd h) (by show (0:Int)+(((if false=true then 1 else 0:Nat):Nat):Int)≤8;decide)
theorem fx_dr (h:iY p=true):nM (kP p) ((pT (kP p) false).ix (0:Int).toNat)=0∧iQ (kP p) ((pT (kP p) false).ix (0:Int).toNat)=kP p:=by
  rw [ix_a rfl rfl]
  unfold nM iQ
  rw [if_pos (kP_snd h),if_pos (kP_snd h)]
  exact ⟨rfl,rfl⟩
theorem fx_kyE (h:iY p=true):kZ [oT (kP p) false ka kc] 0=0:=by
  unfold kZ
  rw [if_pos (fx_vl h),if_pos ⟨Int.le_refl _,by decide⟩,oT_aK]
  unfold uU
  have e:(pT (kP p) false).k=kP p:=rfl
  rw [e,if_pos (fx_dr h).1]
  rfl
theorem fx_kyN (h:iY p=true):gV [oT (kP p) false ka kc] 0=[p]:=by
  unfold gV
  rw [if_pos (fx_kyE h),oT_aK]
  unfold xE dO.pn
  have e:(pT (kP p) false).k=kP p:=rfl
  rw [List.map_cons,List.map_nil,e,(fx_dr h).2]
  rfl
theorem fx_exL (h:iY p=true):xP [oT (kP p) false ka kc] 0=sgB p:=by
  unfold xP nxB
  rw [fx_kyN h]
  rfl
theorem sg_len (p:Nat):(sgB p).length=35:=by unfold sgB;rw [List.length_append,eG,aO];rfl
theorem fx_exE (h:iY p=true):exE [oT (kP p) false ka kc] 0=0:=by
  unfold exE
  rw [if_pos (fx_kyE h),fx_exL h,sg_len]
  rfl
theorem fx_exB (h:iY p=true):wG [oT (kP p) false ka kc] 0=sgB p:=by
  unfold wG
  rw [if_pos (fx_exE h),fx_exL h]
theorem fx_gw (h:iY p=true):gwB [oT (kP p) false ka kc] 1=[sgB p]:=by
  show [wG _ ((0:Nat):Int)]=_
  rw [show ((0:Nat):Int)=0 from rfl,fx_exB h]
end
theorem val_four:iY 4=true:=by
  have e:∀ b:Bool,mW 4=b→iY 4=(decide ((4:Nat)≠1)&&b):=fun b hb=>by rw [← hb];rfl
  rw [e true memB_four];rfl
theorem four_M:(4:Nat)<M:=by rw [mQ];decide
theorem kT_one (t:bW):kT.A t.row [t] 1:=⟨by show t.row.toList.take _=_;rw [kT_r];simp only [pV,List.flatMap_cons,List.flatMap_nil,List.append_nil,List.take_length],kT.r_len _,Nat.le_refl _,by have:=bW.row_len t;rw [Array.length_toList] at this;rw [this]⟩
theorem kK_one (p:dO):kK.A p.row [p] 1:=⟨by show p.row.toList.take _=_;rw [kK_r];simp only [kpR,List.flatMap_cons,List.flatMap_nil,List.append_nil,List.take_length],kK.r_len _,Nat.le_refl _,by have:=dO.row_len p;rw [Array.length_toList] at this;rw [this]⟩
theorem one_sc {l:List bI} {x:List UInt8} (h:sB l=[x]):l.length=1∧(gS l 0).b=x∧ixB ((gS l 0).b) (sB l) 0=0:=by
  have h1:l.length=1:=by have:=congrArg List.length h;rwa [oH] at this
  have h2:(gS l 0).b=x:=by rw [gS_b,h];rfl
  refine ⟨h1,h2,?_⟩
  rw [h2,h]
  unfold ixB
  rw [if_pos rfl];rfl
theorem fx_T (g:Nat):kT.A (iC 1 0 0 0 (.slice (some ⟨g,0,none⟩) 1 1)) [oT (kP 4) false (some ⟨g,0,none⟩) 1] 1:=kT_one (oT (kP 4) false (some ⟨g,0,none⟩) 1)
theorem fx_K:kK.A (kM 0 4 0 0 0 0 (.slice none 0 0) (.bool false)) [pT (kP 4) false] 1:=kK_one (pT (kP 4) false)
theorem bU.newP {w:World} {n c:Nat} {a:Option Addr} {l:List bI} {T:Nat→Prop} (h:bU w a c l) (ha:fU n a) (hl:lW n l) (hT:∀ b,T b→b<n):dL T (fun w=>bU w a c l) w :=
  bU.mkP h.le h.max (h.rows.pers (ha.ap hT)) (dN.mkA h.sub (fun s hs=>(hl s hs).sub hT))
theorem eql_nil32 (a:Option Addr) (n c:Nat) (w:World):(binOp .eql 67 (.slice a n c) (.slice none 0 0)).run Tryz.prog w=.ok (.bool a.isNone) w:=by cases a<;>kernel_rfl
theorem reduce_w (a:Nat) (m:Nat) (ha:a<M) (hm:m<M) (w0:World):Calls Tryz.prog 208 #[U a,U m] w0 (jR (U (aQ a m)) w0):=by
 refine Calls.of_ok (n:=22) (F:=(fun _=>True)) Tryz.func208 rfl rfl rfl (by simp) jT ?_
 refine sS Tryz.f208 3 [2,3,4] [] (fun ρ=>[pt (nb ρ 0),pt (nb ρ 1),pt (nb ρ 2)]) (fun ρ=>[(0,(nw ρ 0 (cL (cU a) 64))),(1,(nw ρ 1 (cL (cU m) 64))),(2,(nw ρ 2 (cL (cU 0) 64)))]) (jE [[],[],[]]) (fun ρ1=>?_)
 refine aB ?_
 refine sS Tryz.f208 4 [2,3,4,11] [] (fun _=>[U a,U m,vi (fJ a m),.bool (decide ((fJ a m)<0))]) (fun _=>[]) (cR [[0],[1]]<|cC (fun _ w=>uN a m w ha hm)<|jE [[]]) (fun _=>?_)
 refine oC (decide ((fJ a m)<0)) (fun hb1=>?_) (fun hb1=>?_)
 ·
  rw [hb1]
  refine sS Tryz.f208 2 [2,3,4] [] (fun _=>[U a,undef]) (fun _=>[(1,(bD 2 (nb ρ1 2) (cL (cU a) 64)))]) (jE [[0],[2]]) (fun _=>?_)
  refine aF (aC ?_)
  exact mR (v:=(U a)) (ps:=[2,2,2,2]) (fun _ hS=>⟨congrArg (fun x=>Ending.returned (U x)) (red_lt hb1),hS.bel⟩)
 rw [hb1]
 refine aG (aA ?_)
 refine sS Tryz.f208 13 [4,6] [0,0,1,0,1] (fun ρ=>let qa:Value:=.bool (decide (0<m));[U 0,U a,U m,.tuple #[U (qQ 0 a m),U (iV 0 a m),qa],.tuple #[U (qQ 0 a m),U (iV 0 a m),qa],U (qQ 0 a m),U (iV 0 a m),qa,pt (nb ρ 8),pt (nb ρ 9),undef,undef,qa]) (fun ρ=>[(8,(nw ρ 8 (cL (cU 0) 64))),(9,(nw ρ 9 (cL (cU 0) 64))),(10,(bD 67 (nb ρ 8) (cL (cU (qQ 0 a m)) 64))),(11,(bD 75 (nb ρ 9) (cL (cU (iV 0 a m)) 64)))]) (cR [[],[0],[1]]<|cC (fun _ w=>div_any 0 a m w (by decide +kernel) ha hm)<|jE [[],[],[],[],[],[],[67],[75],[]]) (fun _=>?_)
 refine sS Tryz.f208 2 [4] [1,0] (fun _=>[U (iV 0 a m),undef]) (fun _=>[(1,(bD 0 (nb ρ1 2) (cL (cU (iV 0 a m)) 64)))]) (jE [[1],[0]]) (fun _=>?_)
 refine aF ?_
 exact mR (v:=(U (iV 0 a m))) (fun _ hS=>⟨congrArg (fun x=>Ending.returned (U x)) (red_div hb1),hS.bel⟩)
theorem yE (a m:Nat) (w0:World) (ha:a<M) (hm:m<M):Calls Tryz.prog 208 #[U a,U m] w0 (jR (U (aQ a m)) w0):=reduce_w a m ha hm w0
theorem mul64_any (x y:Int) (hx:Word x) (hy:Word y) (w:World):Calls Tryz.prog 205 #[.int .u64 x,.int .u64 y] w fun ε w'=>ε=.returned (.tuple #[.int .u64 (mJ x y),.int .u64 (bZ x y)])∧Below w.heap.size w w':=by
  obtain ⟨x,rfl⟩:=Int.eq_ofNat_of_zero_le hx.1
  obtain ⟨y,rfl⟩:=Int.eq_ofNat_of_zero_le hy.1
  refine (mul64_nat x y (by have:=hx.2;omega) (by have:=hy.2;omega) w).mono ?_
  rintro e w' ⟨rfl,rfl⟩
  refine ⟨?_,Below.refl _ _⟩
  unfold mJ bZ
  rw [Int.natCast_ediv,Int.natCast_emod,Int.natCast_mul];rfl
theorem mul_w (a:Nat) (b:Nat) (ha:a<M) (hb:b<M) (w0:World):Calls Tryz.prog 206 #[U a,U b] w0 (jR (.tuple #[U (a*b / M),U (a*b%M)]) w0):=by
 refine Calls.of_ok (n:=69) (F:=(fun _=>True)) Tryz.func206 rfl rfl rfl (by simp) jT ?_
 refine sS Tryz.f206 4 [2,3,4,5] [] (fun ρ=>[pt (nb ρ 0),pt (nb ρ 1),pt (nb ρ 2),pt (nb ρ 3)]) (fun ρ=>[(0,(nw ρ 0 (cL (cU a) 64))),(1,(nw ρ 1 (cL (cU b) 64))),(2,(nw ρ 2 (cL (cU 0) 64))),(3,(nw ρ 3 (cL (cU 0) 64)))]) (jE [[],[],[],[]]) (fun ρ1=>?_)
 refine sS Tryz.f206 1 [2,3,4,5,6] [] (fun ρ=>[pt (nb ρ 0)]) (fun ρ=>[(0,(nw ρ 0 (cL #[.int .u64 0,.int .u64 0,.int .u64 0,.int .u64 0,.int .u64 0,.int .u64 0,.int .u64 0,.int .u64 0] 187)))]) (jE [[]]) (fun ρ2=>?_)
 refine aB (jJ Tryz.f206 1 [2,3,4,5,6,14] [vi 0] (aI ?_))
 refine oL (σ:=Nat × (Nat→Int)) (fun ⟨i,_⟩=>[(2,(pt (nb ρ1 0))),(3,(pt (nb ρ1 1))),(4,(pt (nb ρ1 2))),(5,(pt (nb ρ1 3))),(6,(pt (nb ρ2 0))),(14,(vn i))]) (fun ⟨_,f⟩=>[(nb ρ1 0,(cL (cU a) 64)),(nb ρ1 1,(cL (cU b) 64)),(nb ρ1 2,(cL (cU 0) 64)),(nb ρ1 3,(cL (cU 0) 64)),(nb ρ2 0,(cL (c8 f) 187))]) (fun ⟨i,_⟩=>4-i)
   (fun ⟨i,f⟩=>(i≤4)∧(MulO a b i f)) (0,(fun _=>0)) (⟨by omega,mulO_zero a b⟩) [] ?_
 rintro ⟨i,f⟩ ⟨hi,hO⟩
 change Ok Tryz.prog _ _ 69 [(2,(pt (nb ρ1 0))),(3,(pt (nb ρ1 1))),(4,(pt (nb ρ1 2))),(5,(pt (nb ρ1 3))),(6,(pt (nb ρ2 0))),(14,(vn i))] _ [(nb ρ1 0,(cL (cU a) 64)),(nb ρ1 1,(cL (cU b) 64)),(nb ρ1 2,(cL (cU 0) 64)),(nb ρ1 3,(cL (cU 0) 64)),(nb ρ2 0,(cL (c8 f) 187))] (fun _=>True)
 refine jJ Tryz.f206 1 [2,3,4,5,6,14,15] [.bool (decide (((i:Nat):Int)<4))] (aB ?_)
 refine oC (decide (((i:Nat):Int)<4)) (fun hb1=>?_) (fun hb1=>?_)
 ·
  rw [hb1]
  have:=yT hb1
  refine aG (aA (aB (aI (jJ Tryz.f206 2 [2,3,4,5,6,7,14] [vn i,vn i] (jJ Tryz.f206 1 [2,3,4,5,6,7,8,14] [.int .u64 0] (aB (jJ Tryz.f206 1 [2,3,4,5,6,7,8,14,17] [vi 0] (aI ?_))))))))
  refine oL (σ:=Nat × (Nat→Int) × Int) (fun ⟨j,_,c⟩=>[(2,(pt (nb ρ1 0))),(3,(pt (nb ρ1 1))),(4,(pt (nb ρ1 2))),(5,(pt (nb ρ1 3))),(6,(pt (nb ρ2 0))),(7,(vn i)),(8,(.int .u64 c)),(14,(vn i)),(17,(vn j))]) (fun ⟨_,u,_⟩=>[(nb ρ1 0,(cL (cU a) 64)),(nb ρ1 1,(cL (cU b) 64)),(nb ρ1 2,(cL (cU 0) 64)),(nb ρ1 3,(cL (cU 0) 64)),(nb ρ2 0,(cL (c8 u) 187))]) (fun ⟨j,_,_⟩=>4-j)
    (fun ⟨j,u,c⟩=>(j≤4)∧(MulI a b i j u c)) (0,f,0) (⟨by omega,mulO_begin hO⟩) [] ?_
  rintro ⟨j,u,c⟩ ⟨hj,hM⟩
  change Ok Tryz.prog _ _ 69 [(2,(pt (nb ρ1 0))),(3,(pt (nb ρ1 1))),(4,(pt (nb ρ1 2))),(5,(pt (nb ρ1 3))),(6,(pt (nb ρ2 0))),(7,(vn i)),(8,(.int .u64 c)),(14,(vn i)),(17,(vn j))] _ [(nb ρ1 0,(cL (cU a) 64)),(nb ρ1 1,(cL (cU b) 64)),(nb ρ1 2,(cL (cU 0) 64)),(nb ρ1 3,(cL (cU 0) 64)),(nb ρ2 0,(cL (c8 u) 187))] (fun _=>True)
  refine jJ Tryz.f206 1 [2,3,4,5,6,7,8,14,17,18] [.bool (decide (((j:Nat):Int)<4))] (aB ?_)
  refine oC (decide (((j:Nat):Int)<4)) (fun hb2=>?_) (fun hb2=>?_)
  ·
   rw [hb2]
   have:=yT hb2
   refine aG (aA (aB (aI (jJ Tryz.f206 2 [2,3,4,5,6,7,8,9,14,17] [vn j,vn j] ?_))))
   refine sD Tryz.f206 [0,1,3,0,8,24,63,127,255,255,511,2047] 12 [2,3,4,5,6,7,8,9,10,11,14,17] [] (fun _=>let qa:Value:=.int .u64 (mJ (wd a i) (wd b j));let qb:Value:=.int .u64 (bZ (wd a i) (wd b j));[vn i,jp (nb ρ1 0) i,.int .u64 (wd a i),vn j,jp (nb ρ1 1) j,.int .u64 (wd b j),.tuple #[qa,qb],.tuple #[qa,qb],qa,qb,qa,qb]) (fun _=>[]) (cR [[]]<|cX (jS (fun _=>Instr.indexAt 64 (pt (nb ρ1 0)) (vn i)) (fun _=>(jp (nb ρ1 0) i)) (fun _ w=>aX (n:=((i:Nat):Int)) (i:=i) Tryz.underlying64 Tryz.sizeOf62 (⟨rfl,by omega⟩) w))<|cX (kG _ 0 62 (fun _=>nb ρ1 0) (fun _=>i) (fun _=>(cU a)) 64 (0,0) (fun _=>(.int .u64 (wd a i))) (fun _=>by kernel_rfl) Tryz.isAgg62 (fun _=>lL a i (by omega)))<|cR [[]]<|cX (jS (fun _=>Instr.indexAt 64 (pt (nb ρ1 1)) (vn j)) (fun _=>(jp (nb ρ1 1) j)) (fun _ w=>aX (n:=((j:Nat):Int)) (i:=j) Tryz.underlying64 Tryz.sizeOf62 (⟨rfl,by omega⟩) w))<|cX (kG _ 1 62 (fun _=>nb ρ1 1) (fun _=>j) (fun _=>(cU b)) 64 (0,0) (fun _=>(.int .u64 (wd b j))) (fun _=>by kernel_rfl) Tryz.isAgg62 (fun _=>lL b j (by omega)))<|cC (fun _ w=>mul64_any (wd a i) (wd b j) (bG a i) (bG b j) w)<|jE [[],[],[],[],[]]) (fun _=>?_)
   refine sS Tryz.f206 12 [2,3,4,5,6,7,8,9,10,12,13,14,17] [] (fun _=>let qa:Value:=.int .u64 (cZ (bZ (wd a i) (wd b j)) (u (i+j)) 0);let qb:Value:=.int .u64 (dJ (bZ (wd a i) (wd b j)) (u (i+j)) 0);[.int .u64 (bZ (wd a i) (wd b j)),vn i,vn j,vn (i+j),jp (nb ρ2 0) (i+j),.int .u64 (u (i+j)),.tuple #[qa,qb],.tuple #[qa,qb],qa,qb,qa,qb]) (fun _=>[]) (cR [[],[],[]]<|jW (fun ρ=>(((i:Nat):Int)+((j:Nat):Int))) (fun _=>(i+j)) (fun _=>(dX i j (by omega)))<|cX (jS (fun _=>Instr.indexAt 187 (pt (nb ρ2 0)) (vn (i+j))) (fun _=>(jp (nb ρ2 0) (i+j))) (fun _ w=>aX (n:=((i+j:Nat):Int)) (i:=i+j) Tryz.underlying187 Tryz.sizeOf62 (⟨rfl,by omega⟩) w))<|cX (kG _ 4 62 (fun _=>nb ρ2 0) (fun _=>i+j) (fun _=>(c8 u)) 187 (0,0) (fun _=>(.int .u64 (u (i+j)))) (fun _=>by kernel_rfl) Tryz.isAgg62 (fun _=>c8_get u (i+j) (by omega)))<|cX (o_sem _ (fun _=>callFunc 204 #[.int .u64 (bZ (wd a i) (wd b j)),.int .u64 (u (i+j)),.int .u64 0]) (fun _=>(.tuple #[.int .u64 (cZ (bZ (wd a i) (wd b j)) (u (i+j)) 0),.int .u64 (dJ (bZ (wd a i) (wd b j)) (u (i+j)) 0)])) (fun _=>by kernel_rfl) (fun _=>by kernel_rfl) (fun _ w=>(add64 (bZ (wd a i) (wd b j)) (u (i+j)) 0 (yO _ _) (hM.word _) jD) w))<|jE [[],[],[],[],[]]) (fun _=>?_)
   refine jJ Tryz.f206 4 [2,3,4,5,6,7,8,9,10,12,13,14,17] (let qa:Value:=.int .u64 (IntKind.u64.wrap ((mJ (wd a i) (wd b j))+(dJ (bZ (wd a i) (wd b j)) (u (i+j)) 0)));[.int .u64 (mJ (wd a i) (wd b j)),.int .u64 (dJ (bZ (wd a i) (wd b j)) (u (i+j)) 0),qa,qa]) ?_
   refine sS Tryz.f206 8 [2,3,4,5,6,7,8,9,10,12,13,14,17] [] (fun _=>let qa:Value:=.int .u64 (cZ (cZ (bZ (wd a i) (wd b j)) (u (i+j)) 0) c 0);let qb:Value:=.int .u64 (dJ (cZ (bZ (wd a i) (wd b j)) (u (i+j)) 0) c 0);[.int .u64 (cZ (bZ (wd a i) (wd b j)) (u (i+j)) 0),.int .u64 c,.tuple #[qa,qb],.tuple #[qa,qb],qa,qb,qa,qb]) (fun _=>[]) (cR [[],[]]<|cX (o_sem _ (fun _=>callFunc 204 #[.int .u64 (cZ (bZ (wd a i) (wd b j)) (u (i+j)) 0),.int .u64 c,.int .u64 0]) (fun _=>(.tuple #[.int .u64 (cZ (cZ (bZ (wd a i) (wd b j)) (u (i+j)) 0) c 0),.int .u64 (dJ (cZ (bZ (wd a i) (wd b j)) (u (i+j)) 0) c 0)])) (fun _=>by kernel_rfl) (fun _=>by kernel_rfl) (fun _ w=>(add64 (cZ (bZ (wd a i) (wd b j)) (u (i+j)) 0) c 0 (gQ _ _ _) hM.car jD) w))<|jE [[],[],[],[],[]]) (fun _=>?_)
   refine rS Tryz.f206 10 [2,3,4,5,6,7,8,14,17] [] (fun _=>let qa:Value:=.int .u64 (IntKind.u64.wrap ((IntKind.u64.wrap ((mJ (wd a i) (wd b j))+(dJ (bZ (wd a i) (wd b j)) (u (i+j)) 0)))+(dJ (cZ (bZ (wd a i) (wd b j)) (u (i+j)) 0) c 0)));[vn i,vn j,vn (i+j),.int .u64 (cZ (cZ (bZ (wd a i) (wd b j)) (u (i+j)) 0) c 0),.int .u64 (IntKind.u64.wrap ((mJ (wd a i) (wd b j))+(dJ (bZ (wd a i) (wd b j)) (u (i+j)) 0))),.int .u64 (dJ (cZ (bZ (wd a i) (wd b j)) (u (i+j)) 0) c 0),qa,jp (nb ρ2 0) (i+j),undef,qa]) (fun _=>[(8,(bD 4 (nb ρ2 0) (cL (c8 (qR u (i+j) (cZ (cZ (bZ (wd a i) (wd b j)) (u (i+j)) 0) c 0))) 187)))]) (cR [[],[]]<|jW (fun ρ=>(((i:Nat):Int)+((j:Nat):Int))) (fun _=>(i+j)) (fun _=>(dX i j (by omega)))<|cR [[],[],[],[]]<|cX (jS (fun _=>Instr.indexAt 187 (pt (nb ρ2 0)) (vn (i+j))) (fun _=>(jp (nb ρ2 0) (i+j))) (fun _ w=>aX (n:=((i+j:Nat):Int)) (i:=i+j) Tryz.underlying187 Tryz.sizeOf62 (⟨rfl,by omega⟩) w))<|cX (qG _ 4 62 (fun _=>nb ρ2 0) (fun _=>i+j) (fun _=>(c8 u)) (fun _=>(c8 (qR u (i+j) (cZ (cZ (bZ (wd a i) (wd b j)) (u (i+j)) 0) c 0)))) 187 (fun _=>(.int .u64 (cZ (cZ (bZ (wd a i) (wd b j)) (u (i+j)) 0) c 0))) (fun _=>by kernel_rfl) Tryz.sizeOf62 (fun _=>rfl) (fun _=>(show _<8 from (by omega))) (fun _=>c8_set u (i+j) (cZ (cZ (bZ (wd a i) (wd b j)) (u (i+j)) 0) c 0) (by omega)))<|jE [[]]) (fun _=>?_)
   refine aJ (aA ?_)
   refine rS Tryz.f206 2 [2,3,4,5,6,7,8,14,17] [] (fun _=>[vn (j+1),vn (j+1)]) (fun _=>[]) (jW (fun ρ=>(((j:Nat):Int)+1)) (fun _=>(j+1)) (fun _=>(dX j 1 (by omega)))<|jE [[]]) (fun _=>?_)
   exact mN (j+1,qR u (i+j) (cZ (cZ (bZ (wd a i) (wd b j)) (u (i+j)) 0) c 0),IntKind.u64.wrap ((IntKind.u64.wrap ((mJ (wd a i) (wd b j))+(dJ (bZ (wd a i) (wd b j)) (u (i+j)) 0)))+(dJ (cZ (bZ (wd a i) (wd b j)) (u (i+j)) 0) c 0))) (by show 4-(j+1)<4-j;omega) (⟨by omega,mulI_next (by omega) (by omega) hM (gQ _ _ _) (mul_step (bG a i) (bG b j) (hM.word _) hM.car).2 (mul_step (bG a i) (bG b j) (hM.word _) hM.car).1⟩) []
  rw [hb2]
  refine bF (aN (aN (aT (aA ?_))))
  refine rS Tryz.f206 5 [2,3,4,5,6,14] [] (fun _=>[vn i,vn (i+4),.int .u64 c,jp (nb ρ2 0) (i+4),undef]) (fun _=>[(4,(bD 4 (nb ρ2 0) (cL (c8 (qR u (i+4) c)) 187)))]) (cR [[]]<|jW (fun ρ=>(((i:Nat):Int)+4)) (fun _=>(i+4)) (fun _=>(dX i 4 (by omega)))<|cR [[]]<|cX (jS (fun _=>Instr.indexAt 187 (pt (nb ρ2 0)) (vn (i+4))) (fun _=>(jp (nb ρ2 0) (i+4))) (fun _ w=>aX (n:=((i+4:Nat):Int)) (i:=i+4) Tryz.underlying187 Tryz.sizeOf62 (⟨rfl,by omega⟩) w))<|cX (qG _ 4 62 (fun _=>nb ρ2 0) (fun _=>i+4) (fun _=>(c8 u)) (fun _=>(c8 (qR u (i+4) c))) 187 (fun _=>(.int .u64 c)) (fun _=>by kernel_rfl) Tryz.sizeOf62 (fun _=>rfl) (fun _=>(show _<8 from (by omega))) (fun _=>c8_set u (i+4) c (by omega)))<|cN) (fun _=>?_)
  refine aJ (aA ?_)
  refine rS Tryz.f206 2 [2,3,4,5,6,14] [] (fun _=>[vn (i+1),vn (i+1)]) (fun _=>[]) (jW (fun ρ=>(((i:Nat):Int)+1)) (fun _=>(i+1)) (fun _=>(dX i 1 (by omega)))<|jE [[]]) (fun _=>?_)
  exact mN (i+1,qR u (i+4) c) (by show 4-(i+1)<4-i;omega) (⟨by omega,mulI_end (by omega) (by have:j=4:=(by have:=yF hb2;omega);subst this;exact hM)⟩) []
 rw [hb1]
 refine bF (aN (aN (aT (aA ?_))))
 refine sD Tryz.f206 [0,1,3,0,8,24,7,127] 8 [4,5] [0,0,1,1,0] (fun _=>[.slice (some ⟨nb ρ2 0,4,none⟩) 4 4,jp (nb ρ2 0) 4,.agg #[.int .u64 (f 4),.int .u64 (f 5),.int .u64 (f 6),.int .u64 (f 7)],vs (nb ρ2 0) 4 8,pt (nb ρ2 0),.agg #[.int .u64 (f 0),.int .u64 (f 1),.int .u64 (f 2),.int .u64 (f 3)],undef,undef]) (fun _=>[(6,(bD 2 (nb ρ1 2) (cL #[.int .u64 (f 4),.int .u64 (f 5),.int .u64 (f 6),.int .u64 (f 7)] 64))),(7,(bD 3 (nb ρ1 3) (cL #[.int .u64 (f 0),.int .u64 (f 1),.int .u64 (f 2),.int .u64 (f 3)] 64)))]) (jE [[],[],[4],[],[],[4],[2],[3]]) (fun _=>?_)
 refine aF ?_
 exact mR (v:=(.tuple #[.agg #[.int .u64 (f 4),.int .u64 (f 5),.int .u64 (f 6),.int .u64 (f 7)],.agg #[.int .u64 (f 0),.int .u64 (f 1),.int .u64 (f 2),.int .u64 (f 3)]])) (ps:=[0,0,0,0,1,1,1,1]) (fun _ hS=>⟨mul_end ha hb (by have:i=4:=(by have:=yF hb1;omega);subst this;exact hO),hS.bel⟩)
theorem mul_any (a b:Nat) (w0:World) (ha:a<M) (hb:b<M):Calls Tryz.prog 206 #[U a,U b] w0 (jR (.tuple #[U (a*b / M),U (a*b%M)]) w0):=mul_w a b ha hb w0
theorem addmod_w (a:Nat) (b:Nat) (m:Nat) (ha:a<M) (hb:b<M) (hm:m<M) (w0:World):Calls Tryz.prog 200 #[U a,U b,U m] w0 (jR (U (bC a b m)) w0):=by
 refine Calls.of_ok (n:=37) (F:=(fun _=>True)) Tryz.func200 rfl rfl rfl (by simp) jT ?_
 refine sS Tryz.f200 4 [3,4,5,6] [] (fun ρ=>[pt (nb ρ 0),pt (nb ρ 1),pt (nb ρ 2),pt (nb ρ 3)]) (fun ρ=>[(0,(nw ρ 0 (cL (cU a) 64))),(1,(nw ρ 1 (cL (cU b) 64))),(2,(nw ρ 2 (cL (cU m) 64))),(3,(nw ρ 3 (cL (cU 0) 64)))]) (jE [[],[],[],[]]) (fun ρ1=>?_)
 refine aB ?_
 refine sS Tryz.f200 3 [3,4,5,6,11] [] (fun _=>[U m,U 0,.bool (decide (m=0))]) (fun _=>[]) (cR [[2],[]]<|cB (a:=fun ρ=>(U m)) (b:=fun ρ=>(U 0)) (v:=fun ρ=>(.bool (decide (m=0)))) .eql 64 (fun _ _=>eqlU m 0 hm (by decide +kernel) _)<|cN) (fun _=>?_)
 refine oC (decide (m=0)) (fun hb1=>?_) (fun hb1=>?_)
 ·
  rw [hb1]
  refine sS Tryz.f200 2 [3,4,5,6] [] (fun _=>[U 0,undef]) (fun _=>[(1,(bD 3 (nb ρ1 3) (cL (cU 0) 64)))]) (jE [[],[3]]) (fun _=>?_)
  refine aF (aC ?_)
  exact mR (v:=(U 0)) (ps:=[3,3,3,3]) (fun _ hS=>⟨congrArg (fun x=>Ending.returned (U x)) (addm_0 hb1),hS.bel⟩)
 rw [hb1]
 refine aG (aA ?_)
 refine sD Tryz.f200 [0,0,3,0,0,31,63,127,255,255,0,1535,4095] 13 [5,6,7,8] [0,0,1,1,1] (fun ρ=>let qa:Value:=.bool (decide (M≤(aQ a m)+(aQ b m)));[U a,U m,U (aQ a m),U b,U m,U (aQ b m),.tuple #[U (((aQ a m)+(aQ b m))%M),qa],.tuple #[U (((aQ a m)+(aQ b m))%M),qa],U (((aQ a m)+(aQ b m))%M),qa,pt (nb ρ 10),undef,qa]) (fun ρ=>[(10,(nw ρ 10 (cL (cU 0) 64))),(11,(bD 84 (nb ρ 10) (cL (cU (((aQ a m)+(aQ b m))%M)) 64)))]) (cR [[0],[2]]<|cC (fun _ w=>yE a m w ha hm)<|cR [[1],[2]]<|cC (fun _ w=>yE b m w hb hm)<|cC (fun _ w=>add_any (aQ a m) (aQ b m) w (pR ha) (pR hb))<|jE [[],[],[],[],[84],[]]) (fun ρ4=>?_)
 refine aB ?_
 rcases Bool.eq_false_or_eq_true (decide (M≤(aQ a m)+(aQ b m))) with hb2 | hb2
 ·
  rw [hb2]
  refine jJ Tryz.f200 7 [5,6,7,29] [vT,vT,undef,undef,undef,undef,vT] ?_
  refine oY ?_
  refine rS Tryz.f200 7 [6,7] [0,1,1] (fun _=>let qa:Value:=.bool (decide ((((aQ a m)+(aQ b m))%M)<m));[U (((aQ a m)+(aQ b m))%M),U m,.tuple #[U (((((aQ a m)+(aQ b m))%M)+M-m)%M),qa],.tuple #[U (((((aQ a m)+(aQ b m))%M)+M-m)%M),qa],U (((((aQ a m)+(aQ b m))%M)+M-m)%M),qa,undef]) (fun _=>[(6,(bD 2 (nb ρ4 10) (cL (cU (((((aQ a m)+(aQ b m))%M)+M-m)%M)) 64)))]) (cR [[2],[0]]<|cC (f:=212) (args:=fun ρ=> #[U (((aQ a m)+(aQ b m))%M),U m]) (v:=fun ρ=>(.tuple #[U (((((aQ a m)+(aQ b m))%M)+M-m)%M),.bool (decide ((((aQ a m)+(aQ b m))%M)<m))])) (fun _ w=>(fun w=>sub_any (((aQ a m)+(aQ b m))%M) m w (rC _) hm) w)<|jE [[],[],[],[2]]) (fun _=>?_)
  refine aA ?_
  refine sS Tryz.f200 2 [6] [1,0] (fun _=>[U (((((aQ a m)+(aQ b m))%M)+M-m)%M),undef]) (fun _=>[(1,(bD 0 (nb ρ1 3) (cL (cU (((((aQ a m)+(aQ b m))%M)+M-m)%M)) 64)))]) (jE [[1],[0]]) (fun _=>?_)
  refine aF ?_
  exact mR (v:=(U (((((aQ a m)+(aQ b m))%M)+M-m)%M))) (fun _ hS=>⟨congrArg (fun x=>Ending.returned (U x)) (addm_2 hm hb1 hb2),hS.bel⟩)
 rw [hb2]
 refine sS Tryz.f200 7 [5,6,7,29] [] (fun _=>let qa:Value:=.bool (decide (0≤(fJ (((aQ a m)+(aQ b m))%M) m)));[vF,vF,U (((aQ a m)+(aQ b m))%M),U m,vi (fJ (((aQ a m)+(aQ b m))%M) m),qa,qa]) (fun _=>[]) (cR [[],[],[2],[0]]<|cC (f:=151) (args:=fun ρ=> #[U (((aQ a m)+(aQ b m))%M),U m]) (v:=fun ρ=>(vi (fJ (((aQ a m)+(aQ b m))%M) m))) (fun _ w=>(fun w=>uN (((aQ a m)+(aQ b m))%M) m w (rC _) hm) w)<|jE [[],[]]) (fun _=>?_)
 refine oC (decide (0≤(fJ (((aQ a m)+(aQ b m))%M) m))) (fun hb3=>?_) (fun hb3=>?_)
 ·
  rw [hb3]
  refine rS Tryz.f200 7 [6,7] [0,1,1] (fun _=>let qa:Value:=.bool (decide ((((aQ a m)+(aQ b m))%M)<m));[U (((aQ a m)+(aQ b m))%M),U m,.tuple #[U (((((aQ a m)+(aQ b m))%M)+M-m)%M),qa],.tuple #[U (((((aQ a m)+(aQ b m))%M)+M-m)%M),qa],U (((((aQ a m)+(aQ b m))%M)+M-m)%M),qa,undef]) (fun _=>[(6,(bD 2 (nb ρ4 10) (cL (cU (((((aQ a m)+(aQ b m))%M)+M-m)%M)) 64)))]) (cR [[2],[0]]<|cC (f:=212) (args:=fun ρ=> #[U (((aQ a m)+(aQ b m))%M),U m]) (v:=fun ρ=>(.tuple #[U (((((aQ a m)+(aQ b m))%M)+M-m)%M),.bool (decide ((((aQ a m)+(aQ b m))%M)<m))])) (fun _ w=>(fun w=>sub_any (((aQ a m)+(aQ b m))%M) m w (rC _) hm) w)<|jE [[],[],[],[2]]) (fun _=>?_)
  refine aA ?_
  refine sS Tryz.f200 2 [6] [1,0] (fun _=>[U (((((aQ a m)+(aQ b m))%M)+M-m)%M),undef]) (fun _=>[(1,(bD 0 (nb ρ1 3) (cL (cU (((((aQ a m)+(aQ b m))%M)+M-m)%M)) 64)))]) (jE [[1],[0]]) (fun _=>?_)
  refine aF ?_
  exact mR (v:=(U (((((aQ a m)+(aQ b m))%M)+M-m)%M))) (fun _ hS=>⟨congrArg (fun x=>Ending.returned (U x)) (addm_3t hm hb1 hb2 hb3),hS.bel⟩)
 rw [hb3]
 refine aG (aA ?_)
 refine sS Tryz.f200 2 [6] [0,1,0] (fun _=>[U (((aQ a m)+(aQ b m))%M),undef]) (fun _=>[(1,(bD 1 (nb ρ1 3) (cL (cU (((aQ a m)+(aQ b m))%M)) 64)))]) (jE [[2],[1]]) (fun _=>?_)
 refine aF ?_
 exact mR (v:=(U (((aQ a m)+(aQ b m))%M))) (fun _ hS=>⟨congrArg (fun x=>Ending.returned (U x)) (addm_3f hm hb1 hb2 hb3),hS.bel⟩)
theorem addmod_any (a b m:Nat) (w0:World) (ha:a<M) (hb:b<M) (hm:m<M):Calls Tryz.prog 200 #[U a,U b,U m] w0 (jR (U (bC a b m)) w0):=addmod_w a b m ha hb hm w0
theorem mulmod_w (a:Nat) (b:Nat) (m:Nat) (ha:a<M) (hb:b<M) (hm:m<M) (w0:World):Calls Tryz.prog 194 #[U a,U b,U m] w0 (jR (U (bV a b m)) w0):=by
 refine Calls.of_ok (n:=33) (F:=(fun _=>True)) Tryz.func194 rfl rfl rfl (by simp) jT ?_
 refine sS Tryz.f194 4 [3,4,5,6] [] (fun ρ=>[pt (nb ρ 0),pt (nb ρ 1),pt (nb ρ 2),pt (nb ρ 3)]) (fun ρ=>[(0,(nw ρ 0 (cL (cU a) 64))),(1,(nw ρ 1 (cL (cU b) 64))),(2,(nw ρ 2 (cL (cU m) 64))),(3,(nw ρ 3 (cL (cU 0) 64)))]) (jE [[],[],[],[]]) (fun ρ1=>?_)
 refine aB ?_
 refine sS Tryz.f194 3 [3,4,5,6,14] [] (fun _=>[U m,U 0,.bool (decide (m=0))]) (fun _=>[]) (cR [[2],[]]<|cB (a:=fun ρ=>(U m)) (b:=fun ρ=>(U 0)) (v:=fun ρ=>(.bool (decide (m=0)))) .eql 64 (fun _ _=>eqlU m 0 hm (by decide +kernel) _)<|cN) (fun _=>?_)
 refine oC (decide (m=0)) (fun hb1=>?_) (fun hb1=>?_)
 ·
  rw [hb1]
  refine sS Tryz.f194 2 [3,4,5,6] [] (fun _=>[U 0,undef]) (fun _=>[(1,(bD 3 (nb ρ1 3) (cL (cU 0) 64)))]) (jE [[],[3]]) (fun _=>?_)
  refine aF (aC ?_)
  exact mR (v:=(U 0)) (ps:=[3,3,3,3]) (fun _ hS=>⟨congrArg (fun x=>Ending.returned (U x)) (mulm_0 hb1),hS.bel⟩)
 rw [hb1]
 refine aG (aA ?_)
 refine sS Tryz.f194 10 [5,6,7,8] [0,0,1,1,1,1] (fun ρ=>[U a,U b,.tuple #[U ((a*b) / M),U ((a*b)%M)],.tuple #[U ((a*b) / M),U ((a*b)%M)],U ((a*b) / M),U ((a*b)%M),pt (nb ρ 6),pt (nb ρ 7),undef,undef]) (fun ρ=>[(6,(nw ρ 6 (cL (cU 0) 64))),(7,(nw ρ 7 (cL (cU 0) 64))),(8,(bD 52 (nb ρ 6) (cL (cU ((a*b) / M)) 64))),(9,(bD 60 (nb ρ 7) (cL (cU ((a*b)%M)) 64)))]) (cR [[0],[1]]<|cC (fun _ w=>mul_any a b w ha hb)<|jE [[],[],[],[],[],[52],[60]]) (fun _=>?_)
 refine sD Tryz.f194 [0,0,3,0,0,31,63,127,127,127,0,0,3327,7679,16383] 15 [6,10] [0,1,0,0,0,1] (fun ρ=>let qa:Value:=.bool (decide ((aQ ((a*b) / M) m)<m));[U ((a*b) / M),U m,U (aQ ((a*b) / M) m),U ((a*b)%M),U m,.tuple #[U (qQ (aQ ((a*b) / M) m) ((a*b)%M) m),U (iV (aQ ((a*b) / M) m) ((a*b)%M) m),qa],.tuple #[U (qQ (aQ ((a*b) / M) m) ((a*b)%M) m),U (iV (aQ ((a*b) / M) m) ((a*b)%M) m),qa],U (qQ (aQ ((a*b) / M) m) ((a*b)%M) m),U (iV (aQ ((a*b) / M) m) ((a*b)%M) m),qa,pt (nb ρ 10),pt (nb ρ 11),undef,undef,qa]) (fun ρ=>[(10,(nw ρ 10 (cL (cU 0) 64))),(11,(nw ρ 11 (cL (cU 0) 64))),(12,(bD 84 (nb ρ 10) (cL (cU (qQ (aQ ((a*b) / M) m) ((a*b)%M) m)) 64))),(13,(bD 92 (nb ρ 11) (cL (cU (iV (aQ ((a*b) / M) m) ((a*b)%M) m)) 64)))]) (cR [[2],[0]]<|cC (fun _ w=>yE ((a*b) / M) m w (mulhi_lt ha hb) hm)<|cR [[3],[0]]<|cC (f:=207) (args:=fun ρ=> #[U (aQ ((a*b) / M) m),U ((a*b)%M),U m]) (v:=fun ρ=>(.tuple #[U (qQ (aQ ((a*b) / M) m) ((a*b)%M) m),U (iV (aQ ((a*b) / M) m) ((a*b)%M) m),.bool (decide ((aQ ((a*b) / M) m)<m))])) (fun _ w=>(fun w=>div_any (aQ ((a*b) / M) m) ((a*b)%M) m w (pR (mulhi_lt ha hb)) (rC _) hm) w)<|jE [[],[],[],[],[],[],[84],[92],[]]) (fun _=>?_)
 refine sS Tryz.f194 2 [6] [1,0] (fun _=>[U (iV (aQ ((a*b) / M) m) ((a*b)%M) m),undef]) (fun _=>[(1,(bD 0 (nb ρ1 3) (cL (cU (iV (aQ ((a*b) / M) m) ((a*b)%M) m)) 64)))]) (jE [[1],[0]]) (fun _=>?_)
 refine aF ?_
 exact mR (v:=(U (iV (aQ ((a*b) / M) m) ((a*b)%M) m))) (fun _ hS=>⟨congrArg (fun x=>Ending.returned (U x)) (mulm_1 hb1),hS.bel⟩)
theorem mulmod_any (a b m:Nat) (w0:World) (ha:a<M) (hb:b<M) (hm:m<M):Calls Tryz.prog 194 #[U a,U b,U m] w0 (jR (U (bV a b m)) w0):=mulmod_w a b m ha hb hm w0
theorem qX {A k:Nat} {C:Array Value} {v:Int} (hC:C.size=32) (hk:k<32) (hj:∀ j,j<k→C[j]? = some (.int .u8 (nR A j))) (hv:v=nR A k) :
    (C.setIfInBounds k (.int .u8 v)).size=32∧∀ j,j<k+1→(C.setIfInBounds k (.int .u8 v))[j]? = some (.int .u8 (nR A j)):=by
  refine ⟨by simpa using hC,fun j h=>?_⟩
  by_cases e:j=k
  · subst e;rw [hv];simp [hC,hk]
  · rw [Array.getElem?_setIfInBounds_ne (fun x=>e x.symm)];exact hj j (by omega)
theorem nV {C:Array Value} (h:C.size=32):(Tryz.prog.info? 57).map (·.size)=some C.size:=by rw [h];kernel_rfl
set_option maxHeartbeats 1000000 in
set_option maxRecDepth 100000 in
theorem pW (A : Nat) (w : World) :
    Calls Tryz.prog 136 #[U A] w fun e w'=>e=.returned (.agg (hB A))∧Below w.heap.size w w':=by
  go_enter Tryz.func136,Tryz.ntmps136
  go_wp2
  obtain ⟨Z,hZ⟩:∃ Z:Array Value,Z= #[.int .u8 0,.int .u8 0,.int .u8 0,.int .u8 0,.int .u8 0,.int .u8 0,.int .u8 0,.int .u8 0,.int .u8 0,.int .u8 0,.int .u8 0,.int .u8 0,.int .u8 0,.int .u8 0,.int .u8 0,.int .u8 0,.int .u8 0,.int .u8 0,.int .u8 0,.int .u8 0,.int .u8 0,.int .u8 0,.int .u8 0,.int .u8 0,.int .u8 0,.int .u8 0,.int .u8 0,.int .u8 0,.int .u8 0,.int .u8 0,.int .u8 0,.int .u8 0]:=⟨_,rfl⟩
  rw [← hZ]
  have hz:Z.size=32:=by rw [hZ];rfl
  clear hZ
  go_loopw [5] (fun i wr=>∃ (k:Nat) (C:Array Value),k≤32∧i=.int .i64 k∧C.size=32∧(∀ j,j<k→C[j]? = some (.int .u8 (nR A j)))∧wr=((w.alloc (.cells #[.int .u64 (wd A 0),.int .u64 (wd A 1),.int .u64 (wd A 2),.int .u64 (wd A 3)] 64)).alloc (.cells Z 57)).alloc (.cells C 57)) (fun i _=>32-(intOf i).toNat)
  case atStart=>exact ⟨0,Z,by omega,rfl,hz,fun j hj=>by omega,rfl⟩
  case round =>
    obtain ⟨k,C,hk,rfl,hC,hj,rfl⟩:=hrel
    have HC:=Lib.hid hC;have HJ:=Lib.hid hj;have HZ:=Lib.hid hz
    clear hC hj hz
    by_cases hlt:k<32
    · have hC2 : k < C.size := by have := HC.out; omega
      rcases (by omega:(k:Int) / 8=0∨(k:Int) / 8=1∨(k:Int) / 8=2∨(k:Int) / 8=3) with h8 | h8 | h8 | h8
      all_goals
        go_wp2
        go_roundw
        case rel =>
          first | (obtain ⟨g1,g2⟩:=qX HC.out hlt HJ.out (byt_wd A 3 k hlt (by omega));exact ⟨k+1,_,by omega,by go_num,g1,g2,rfl⟩) | (obtain ⟨g1,g2⟩:=qX HC.out hlt HJ.out (byt_wd A 2 k hlt (by omega));exact ⟨k+1,_,by omega,by go_num,g1,g2,rfl⟩) | (obtain ⟨g1,g2⟩:=qX HC.out hlt HJ.out (byt_wd A 1 k hlt (by omega));exact ⟨k+1,_,by omega,by go_num,g1,g2,rfl⟩) | (obtain ⟨g1,g2⟩:=qX HC.out hlt HJ.out (byt_wd A 0 k hlt (by omega));exact ⟨k+1,_,by omega,by go_num,g1,g2,rfl⟩)
        case measure=>simp [intOf];omega
    · go_wp2_with (first | (refine wl_load (w.heap.size + 1 + 1) 57 C _ rfl (hp_3_2 _ _ _ _) Tryz.underlying57 rfl (nV HC.out) ?_) | (refine wl_store (w.heap.size + 1) 57 Z C rfl rfl (hp_3_1 _ _ _ _) (nV HC.out) (HZ.out.trans HC.out.symm) (by rw [hB_ext HC.out (fun j h => HJ.out j (by omega))]; exact hB_one A) ?_))
      rw [sr_3_1]
      refine bodyPost_ret (results_cell_row rfl _ _ (w.heap.size+1) 57 C (0,0) _ rfl (hp_3_1 _ _ _ _) Tryz.underlying57 rfl (nV HC.out)) rfl ?_
      refine ⟨by rw [hB_ext HC.out (fun j h=>HJ.out j (by omega))],?_⟩
      (exact bt)
theorem run_index_hash (A k:Nat) (hk:k<32) (w:World):(Instr.index 57 (.agg (hB A)) (.int .i64 k)).run Tryz.prog w=.ok (.int .u8 (nR A k)) w:=by
  have h:=hB_get A k hk
  have h0:(0:Int)≤(k:Int)∧(k:Int)<32:=by omega
  simp [Instr.index,go_sem,part,h,h0,hk]
set_option maxHeartbeats 1000000 in
set_option maxRecDepth 100000 in
theorem frombytes_any (A : Nat) (w : World) :
    Calls Tryz.prog 201 #[.agg (hB A)] w fun e w'=>e=.returned (U A)∧Below w.heap.size w w':=by
  go_enter Tryz.func201,Tryz.ntmps201
  go_wp2_with (refine wl_load (w.heap.size) 57 (hB A) _ rfl (hp_3_0 _ _ _ _) Tryz.underlying57 rfl (nV (yV A)) ?_)
  go_loopw [8] (fun i wr=>∃ (k:Nat),k≤32∧i=.int .i64 k∧wr=((w.alloc (.cells (hB A) 57)).alloc (.cells #[.int .u64 0,.int .u64 0,.int .u64 0,.int .u64 0] 64)).alloc (.cells #[.int .u64 (pre A 0 k),.int .u64 (pre A 1 k),.int .u64 (pre A 2 k),.int .u64 (pre A 3 k)] 64)) (fun i _=>32-(intOf i).toNat)
  case atStart=>exact ⟨0,by omega,rfl,by rw [xI A 0 0 (by omega),xI A 1 0 (by omega),xI A 2 0 (by omega),xI A 3 0 (by omega)]⟩
  case round =>
    obtain ⟨k,hk,rfl,rfl⟩:=hrel
    by_cases hlt:k<32
    · have hidx := run_index_hash A k hlt
      rcases (by omega:(k:Int) / 8=0∨(k:Int) / 8=1∨(k:Int) / 8=2∨(k:Int) / 8=3) with h8 | h8 | h8 | h8
      all_goals
        go_wp2
        go_roundw
        case rel =>
          refine ⟨k+1,by omega,by go_num,?_⟩
          first
            | rw [yZ A 3 k hlt (by omega),iP A 0 k (by omega) (by omega),iP A 1 k (by omega) (by omega),iP A 2 k (by omega) (by omega)]
            | rw [yZ A 2 k hlt (by omega),iP A 0 k (by omega) (by omega),iP A 1 k (by omega) (by omega),iP A 3 k (by omega) (by omega)]
            | rw [yZ A 1 k hlt (by omega),iP A 0 k (by omega) (by omega),iP A 2 k (by omega) (by omega),iP A 3 k (by omega) (by omega)]
            | rw [yZ A 0 k hlt (by omega),iP A 1 k (by omega) (by omega),iP A 2 k (by omega) (by omega),iP A 3 k (by omega) (by omega)]
        case measure=>simp [intOf];omega
    · obtain rfl : k = 32 := by omega
      rw [pre_end A 0 (by omega),pre_end A 1 (by omega),pre_end A 2 (by omega),pre_end A 3 (by omega)]
      go_wp2
      go_returns
      refine ⟨rfl,?_⟩
      (exact bt)
theorem gmodulus_w  (w0:World):Calls Tryz.prog 152 #[] w0 (jR (U pP) w0):=by
 refine Calls.of_ok (n:=2) (F:=(fun _=>True)) Tryz.func152 rfl rfl rfl (by simp) jT ?_
 refine sS Tryz.f152 1 [0] [] (fun ρ=>[pt (nb ρ 0)]) (fun ρ=>[(0,(nw ρ 0 (cL (cU 0) 64)))]) (jE [[]]) (fun ρ1=>?_)
 refine sS Tryz.f152 2 [0] [] (fun _=>[U 115792089237316195423570985008687907853269984665640564039457584007913129603823,undef]) (fun _=>[(1,(bD 0 (nb ρ1 0) (cL (cU 115792089237316195423570985008687907853269984665640564039457584007913129603823) 64)))]) (jE [[],[0]]) (fun _=>?_)
 refine aF ?_
 exact mR (v:=(U 115792089237316195423570985008687907853269984665640564039457584007913129603823)) (fun _ hS=>⟨congrArg (fun x=>Ending.returned (U x)) (by decide +kernel),hS.bel⟩)
theorem yY (w0:World)  : Calls Tryz.prog 152 #[] w0 (jR (U pP) w0):=gmodulus_w  w0
theorem gorder_w  (w0:World):Calls Tryz.prog 154 #[] w0 (jR (U qP) w0):=by
 refine Calls.of_ok (n:=2) (F:=(fun _=>True)) Tryz.func154 rfl rfl rfl (by simp) jT ?_
 refine sS Tryz.f154 1 [0] [] (fun ρ=>[pt (nb ρ 0)]) (fun ρ=>[(0,(nw ρ 0 (cL (cU 0) 64)))]) (jE [[]]) (fun ρ1=>?_)
 refine sS Tryz.f154 2 [0] [] (fun _=>[U 57896044618658097711785492504343953926634992332820282019728792003956564801911,undef]) (fun _=>[(1,(bD 0 (nb ρ1 0) (cL (cU 57896044618658097711785492504343953926634992332820282019728792003956564801911) 64)))]) (jE [[],[0]]) (fun _=>?_)
 refine aF ?_
 exact mR (v:=(U 57896044618658097711785492504343953926634992332820282019728792003956564801911)) (fun _ hS=>⟨congrArg (fun x=>Ending.returned (U x)) (by decide +kernel),hS.bel⟩)
theorem yC (w0:World)  : Calls Tryz.prog 154 #[] w0 (jR (U qP) w0):=gorder_w  w0
theorem gmul_w (a:Nat) (b:Nat) (ha:a<M) (hb:b<M) (w0:World):Calls Tryz.prog 174 #[U a,U b] w0 (jR (U (bV a b pP)) w0):=by
 refine Calls.of_ok (n:=9) (F:=(fun _=>True)) Tryz.func174 rfl rfl rfl (by simp) jT ?_
 refine sS Tryz.f174 3 [2,3,4] [] (fun ρ=>[pt (nb ρ 0),pt (nb ρ 1),pt (nb ρ 2)]) (fun ρ=>[(0,(nw ρ 0 (cL (cU a) 64))),(1,(nw ρ 1 (cL (cU b) 64))),(2,(nw ρ 2 (cL (cU 0) 64)))]) (jE [[],[],[]]) (fun ρ1=>?_)
 refine sD Tryz.f174 [0,0,0,7,15] 5 [4] [0,0,1] (fun _=>[U a,U b,U pP,U (bV a b pP),undef]) (fun _=>[(4,(bD 2 (nb ρ1 2) (cL (cU (bV a b pP)) 64)))]) (cR [[0],[1]]<|cC (fun _ w=>yY w)<|cC (fun _ w=>mulmod_any a b pP w ha hb oV)<|jE [[2]]) (fun _=>?_)
 refine aF ?_
 exact mR (v:=(U (bV a b pP))) (fun _ hS=>⟨rfl,hS.bel⟩)
theorem gmul_any (a b:Nat) (w0:World) (ha:a<M) (hb:b<M):Calls Tryz.prog 174 #[U a,U b] w0 (jR (U (bV a b pP)) w0):=gmul_w a b ha hb w0
theorem gexp_w (a:Nat) (e:Nat) (ha:a<M) (he:e<M) (w0:World):Calls Tryz.prog 153 #[U a,U e] w0 (jR (U (bK a e pP)) w0):=by
 refine Calls.of_ok (n:=37) (F:=(fun _=>True)) Tryz.func153 rfl rfl rfl (by simp) jT ?_
 refine sS Tryz.f153 3 [2,3,4] [] (fun ρ=>[pt (nb ρ 0),pt (nb ρ 1),pt (nb ρ 2)]) (fun ρ=>[(0,(nw ρ 0 (cL (cU a) 64))),(1,(nw ρ 1 (cL (cU e) 64))),(2,(nw ρ 2 (cL (cU 0) 64)))]) (jE [[],[],[]]) (fun ρ1=>?_)
 refine sS Tryz.f153 3 [2,3,4,5] [] (fun ρ=>[U 1,pt (nb ρ 1),undef]) (fun ρ=>[(1,(nw ρ 1 (cL (cU 0) 64))),(2,(bD 11 (nb ρ 1) (cL (cU 1) 64)))]) (cC (fun _ w=>lF 1 w (by decide))<|jE [[],[11]]) (fun ρ2=>?_)
 refine sS Tryz.f153 3 [2,3,4,5,6] [] (fun _=>[U e,vn (dG e),vn (dG e)]) (fun _=>[]) (cR [[1]]<|cC (fun _ w=>len_any e w he)<|jE [[]]) (fun _=>?_)
 refine aB (jJ Tryz.f153 2 [2,3,4,5,6,12,13] [vn (dG e),vi 0] (aI ?_))
 refine oL (σ:=Nat × Nat) (fun ⟨i,_⟩=>[(2,(pt (nb ρ1 0))),(3,(pt (nb ρ1 1))),(4,(pt (nb ρ1 2))),(5,(pt (nb ρ2 1))),(6,(vn (dG e))),(12,(vn (dG e))),(13,(vn i))]) (fun ⟨_,p⟩=>[(nb ρ1 0,(cL (cU a) 64)),(nb ρ1 1,(cL (cU e) 64)),(nb ρ1 2,(cL (cU 0) 64)),(nb ρ2 1,(cL (cU p) 64))]) (fun ⟨i,_⟩=>dG e-i)
   (fun ⟨i,p⟩=>(i≤dG e)∧(p=a^(e / 2^(dG e-i))%pP)) (0,1) (⟨Nat.zero_le _,exp_one a e⟩) [] ?_
 rintro ⟨i,p⟩ ⟨hi,hp⟩
 change Ok Tryz.prog _ _ 37 [(2,(pt (nb ρ1 0))),(3,(pt (nb ρ1 1))),(4,(pt (nb ρ1 2))),(5,(pt (nb ρ2 1))),(6,(vn (dG e))),(12,(vn (dG e))),(13,(vn i))] _ [(nb ρ1 0,(cL (cU a) 64)),(nb ρ1 1,(cL (cU e) 64)),(nb ρ1 2,(cL (cU 0) 64)),(nb ρ2 1,(cL (cU p) 64))] (fun _=>True)
 have hpM:p<M:=gexp_lt hp
 refine jJ Tryz.f153 1 [2,3,4,5,6,12,13,14] [.bool (decide (((i:Nat):Int)<((dG e:Nat):Int)))] (aB ?_)
 refine oC (decide (((i:Nat):Int)<((dG e:Nat):Int))) (fun hb1=>?_) (fun hb1=>?_)
 ·
  rw [hb1]
  refine aG (aA (aB (aI (jJ Tryz.f153 2 [2,3,4,5,6,7,12,13] [vn i,vn i] ?_))))
  refine sS Tryz.f153 5 [2,3,4,5,6,8,12,13] [] (fun _=>[vn (dG e),vn (dG e-1),vn i,vn (dG e-1-i),vn (dG e-1-i)]) (fun _=>[]) (cR [[]]<|jW (fun ρ=>(((dG e:Nat):Int)-1)) (fun _=>(dG e-1)) (fun _=>(zY (dG e) 1 (by have h1:=yT hb1;have h2:=iJ e he;omega) (by have h1:=yT hb1;have h2:=iJ e he;omega)))<|cR [[]]<|jW (fun ρ=>(((dG e-1:Nat):Int)-((i:Nat):Int))) (fun _=>(dG e-1-i)) (fun _=>(zY (dG e-1) i (by have h1:=yT hb1;have h2:=iJ e he;omega) (by have h1:=yT hb1;have h2:=iJ e he;omega)))<|jE [[]]) (fun _=>?_)
  refine sS Tryz.f153 4 [2,3,4,5,6,8,12,13] [] (fun _=>[U p,U p,U (bV p p pP),undef]) (fun _=>[(3,(bD 3 (nb ρ2 1) (cL (cU (bV p p pP)) 64)))]) (cR [[3],[3]]<|cC (fun _ w=>gmul_any p p w hpM hpM)<|jE [[3]]) (fun _=>?_)
  refine sS Tryz.f153 9 [2,3,4,5,6,12,13,31] [] (fun _=>[vn (dG e-1-i),vn ((dG e-1-i) / 64),jp (nb ρ1 1) ((dG e-1-i) / 64),.int .u64 (wd e ((dG e-1-i) / 64)),vn (dG e-1-i),vn ((dG e-1-i)%64),.int .u64 (shrW (wd e ((dG e-1-i) / 64)) ((dG e-1-i)%64)),.int .u64 (bits .and .u64 (shrW (wd e ((dG e-1-i) / 64)) ((dG e-1-i)%64)) 1),.bool (nJ e (dG e-1-i))]) (fun _=>[]) (cR [[]]<|cB (a:=fun ρ=>(vn (dG e-1-i))) (b:=fun ρ=>(vi 64)) (v:=fun ρ=>(vn ((dG e-1-i) / 64))) .quo 3 (fun _ w=>run_quo_nat (dG e-1-i) 64 ((dG e-1-i) / 64) (by decide) (by have h1:=yT hb1;have h2:=iJ e he;omega) rfl w)<|cX (jS (fun _=>Instr.indexAt 64 (pt (nb ρ1 1)) (vn ((dG e-1-i) / 64))) (fun _=>(jp (nb ρ1 1) ((dG e-1-i) / 64))) (fun _ w=>aX (n:=(((dG e-1-i) / 64:Nat):Int)) (i:=(dG e-1-i) / 64) Tryz.underlying64 Tryz.sizeOf62 (⟨rfl,(by have h1:=yT hb1;have h2:=iJ e he;omega)⟩) w))<|cX (kG _ 1 62 (fun _=>nb ρ1 1) (fun _=>(dG e-1-i) / 64) (fun _=>(cU e)) 64 (0,0) (fun _=>(.int .u64 (wd e ((dG e-1-i) / 64)))) (fun _=>by kernel_rfl) Tryz.isAgg62 (fun _=>lL e ((dG e-1-i) / 64) (by have h1:=yT hb1;have h2:=iJ e he;omega)))<|cR [[]]<|cB (a:=fun ρ=>(vn (dG e-1-i))) (b:=fun ρ=>(vi 64)) (v:=fun ρ=>(vn ((dG e-1-i)%64))) .rem 3 (fun _ w=>run_rem_nat (dG e-1-i) 64 ((dG e-1-i)%64) (by decide) rfl w)<|cB (a:=fun ρ=>(.int .u64 (wd e ((dG e-1-i) / 64)))) (b:=fun ρ=>(vn ((dG e-1-i)%64))) (v:=fun ρ=>(.int .u64 (shrW (wd e ((dG e-1-i) / 64)) ((dG e-1-i)%64)))) .shr 62 (fun _ w=>run_shr (wd e ((dG e-1-i) / 64)) ((dG e-1-i)%64) w)<|cR [[]]<|cA (fun _=>(.bool (nJ e (dG e-1-i)))) (fun _=>congrArg Value.bool (expbit e (dG e-1-i)))<|cN) (fun _=>?_)
  refine oC (nJ e (dG e-1-i)) (fun hb2=>?_) (fun hb2=>?_)
  ·
   rw [hb2]
   refine rS Tryz.f153 4 [2,3,4,5,6,12,13] [] (fun _=>[U (bV p p pP),U a,U (bV (bV p p pP) a pP),undef]) (fun _=>[(3,(bD 3 (nb ρ2 1) (cL (cU (bV (bV p p pP) a pP)) 64)))]) (cR [[3],[0]]<|cC (f:=174) (args:=fun ρ=> #[U (bV p p pP),U a]) (v:=fun ρ=>(U (bV (bV p p pP) a pP))) (fun _ w=>(fun w=>gmul_any (bV p p pP) a w (wE _ _ oV) ha) w)<|jE [[3]]) (fun _=>?_)
   refine aJ (aA ?_)
   refine rS Tryz.f153 2 [2,3,4,5,6,12,13] [] (fun _=>[vn (i+1),vn (i+1)]) (fun _=>[]) (jW (fun ρ=>(((i:Nat):Int)+1)) (fun _=>(i+1)) (fun _=>(dX i 1 (by have h1:=yT hb1;have h2:=iJ e he;omega)))<|jE [[]]) (fun _=>?_)
   exact mN (i+1,bV (bV p p pP) a pP) (by show dG e-(i+1)<dG e-i;have h1:=yT hb1;have h2:=iJ e he;omega) (⟨by have h1:=yT hb1;have h2:=iJ e he;omega,by rw [exp_step1 hp (Nat.lt_trans Nat.zero_lt_one pF),show dG e-(i+1)=(dG e-i)-1 by omega,← half_odd (by have h1:=yT hb1;have h2:=iJ e he;omega) (by rw [show dG e-i-1=dG e-1-i by omega];exact hb2)]⟩) []
  rw [hb2]
  refine aG (aJ (aA ?_))
  refine rS Tryz.f153 2 [2,3,4,5,6,12,13] [] (fun _=>[vn (i+1),vn (i+1)]) (fun _=>[]) (jW (fun ρ=>(((i:Nat):Int)+1)) (fun _=>(i+1)) (fun _=>(dX i 1 (by have h1:=yT hb1;have h2:=iJ e he;omega)))<|jE [[]]) (fun _=>?_)
  exact mN (i+1,bV p p pP) (by show dG e-(i+1)<dG e-i;have h1:=yT hb1;have h2:=iJ e he;omega) (⟨by have h1:=yT hb1;have h2:=iJ e he;omega,by rw [exp_step hp (Nat.lt_trans Nat.zero_lt_one pF),show dG e-(i+1)=(dG e-i)-1 by omega,← half_even (by have h1:=yT hb1;have h2:=iJ e he;omega) (by rw [show dG e-i-1=dG e-1-i by omega];exact hb2)]⟩) []
 rw [hb1]
 refine bF (aN (aN (aT (aA ?_))))
 refine sS Tryz.f153 2 [4] [0,0,1,0] (fun _=>[U p,undef]) (fun _=>[(1,(bD 2 (nb ρ1 2) (cL (cU p) 64)))]) (jE [[3],[2]]) (fun _=>?_)
 refine aF ?_
 exact mR (v:=(U p)) (fun _ hS=>⟨congrArg (fun x=>Ending.returned (U x)) (gexp_end (i:=i) (by have h1:=yF hb1;omega) hp),hS.bel⟩)
theorem gexp_any (a e:Nat) (w0:World) (ha:a<M) (he:e<M):Calls Tryz.prog 153 #[U a,U e] w0 (jR (U (bK a e pP)) w0):=gexp_w a e ha he w0
theorem gmember_w (a:Nat) (ha:a<M) (w0:World):Calls Tryz.prog 132 #[U a] w0 (jR (.bool (mW a)) w0):=by
 refine Calls.of_ok (n:=17) (F:=(fun _=>True)) Tryz.func132 rfl rfl rfl (by simp) jT ?_
 refine sS Tryz.f132 2 [1,2] [] (fun ρ=>[pt (nb ρ 0),vF]) (fun ρ=>[(0,(nw ρ 0 (cL (cU a) 64)))]) (jE [[],[]]) (fun _=>?_)
 refine aB ?_
 rcases Bool.eq_false_or_eq_true (decide (a=0)) with hb1 | hb1
 ·
  refine sD Tryz.f132 [0,0,3,7,15,15,63,127,255] 9 [1,2,11] [] (fun _=>[U a,U 0,vT,vT,undef,undef,undef,undef,vT]) (fun _=>[]) (cR [[0],[]]<|cB (a:=fun ρ=>(U a)) (b:=fun ρ=>(U 0)) (v:=fun ρ=>vT) .eql 64 (fun _ _=>(eqlU a 0 ha (by decide +kernel) _).trans (by rw [hb1];try rfl))<|jE [[],[],[],[],[],[]]) (fun _=>?_)
  refine oY ?_
  refine jJ Tryz.f132 1 [1,2] [vF] (aF (aC ?_))
  exact mR (v:=vF) (fun _ hS=>⟨jB (mem_no1 hb1),hS.bel⟩)
 refine sD Tryz.f132 [0,0,3,7,15,15,63,127,255] 9 [1,2,11] [] (fun _=>let qa:Value:=.bool (decide (0≤(fJ a pP)));[U a,U 0,vF,vF,U a,U pP,vi (fJ a pP),qa,qa]) (fun _=>[]) (cR [[0],[]]<|cB (a:=fun ρ=>(U a)) (b:=fun ρ=>(U 0)) (v:=fun ρ=>vF) .eql 64 (fun _ _=>(eqlU a 0 ha (by decide +kernel) _).trans (by rw [hb1];try rfl))<|cR [[],[0]]<|cC (fun _ w=>yY w)<|cC (fun _ w=>uN a pP w ha oV)<|jE [[],[]]) (fun _=>?_)
 refine oC (decide (0≤(fJ a pP))) (fun hb2=>?_) (fun hb2=>?_)
 ·
  rw [hb2]
  refine jJ Tryz.f132 1 [1,2] [vF] (aF (aC ?_))
  exact mR (v:=vF) (fun _ hS=>⟨jB (mem_no2 hb2),hS.bel⟩)
 rw [hb2]
 refine aG (aA ?_)
 refine sD Tryz.f132 [0,0,3,7,15,31] 6 [2] [0] (fun _=>let qa:Value:=.bool (decide (bK a qP pP=1));[U a,U qP,U (bK a qP pP),U 1,qa,qa]) (fun _=>[]) (cR [[0]]<|cC (fun _ w=>yC w)<|cC (fun _ w=>gexp_any a qP w ha sW)<|cC (fun _ w=>lF 1 w (by decide))<|cB (a:=fun ρ=>(U (bK a qP pP))) (b:=fun ρ=>(U 1)) (v:=fun ρ=>(.bool (decide (bK a qP pP=1)))) .eql 64 (fun _ _=>eqlU (bK a qP pP) 1 (vZ _ _ oV) (by decide +kernel) _)<|jE [[]]) (fun _=>?_)
 refine aF ?_
 exact mR (v:=(.bool (decide (bK a qP pP=1)))) (fun _ hS=>⟨jB (mem_yes hb1 (by have:=yF hb2;omega)),hS.bel⟩)
theorem gmember_any (a:Nat) (w0:World) (ha:a<M):Calls Tryz.prog 132 #[U a] w0 (jR (.bool (mW a)) w0):=gmember_w a ha w0
theorem gpower_w (e:Nat) (he:e<M) (w0:World):Calls Tryz.prog 134 #[U e] w0 (jR (U (bK 4 e pP)) w0):=by
 refine Calls.of_ok (n:=6) (F:=(fun _=>True)) Tryz.func134 rfl rfl rfl (by simp) jT ?_
 refine sS Tryz.f134 2 [1,2] [] (fun ρ=>[pt (nb ρ 0),pt (nb ρ 1)]) (fun ρ=>[(0,(nw ρ 0 (cL (cU e) 64))),(1,(nw ρ 1 (cL (cU 0) 64)))]) (jE [[],[]]) (fun ρ1=>?_)
 refine sD Tryz.f134 [0,0,3,7] 4 [2] [0,1] (fun _=>[U 4,U e,U (bK 4 e pP),undef]) (fun _=>[(3,(bD 1 (nb ρ1 1) (cL (cU (bK 4 e pP)) 64)))]) (cC (fun _ w=>lF 4 w (by decide))<|cR [[0]]<|cC (fun _ w=>gexp_any 4 e w (by decide +kernel) he)<|jE [[1]]) (fun _=>?_)
 refine aF ?_
 exact mR (v:=(U (bK 4 e pP))) (fun _ hS=>⟨rfl,hS.bel⟩)
theorem gpower_any (e:Nat) (w0:World) (he:e<M):Calls Tryz.prog 134 #[U e] w0 (jR (U (bK 4 e pP)) w0):=gpower_w e he w0
theorem gaddscalar_w (a:Nat) (b:Nat) (ha:a<M) (hb:b<M) (w0:World):Calls Tryz.prog 180 #[U a,U b] w0 (jR (U (bC a b qP)) w0):=by
 refine Calls.of_ok (n:=9) (F:=(fun _=>True)) Tryz.func180 rfl rfl rfl (by simp) jT ?_
 refine sS Tryz.f180 3 [2,3,4] [] (fun ρ=>[pt (nb ρ 0),pt (nb ρ 1),pt (nb ρ 2)]) (fun ρ=>[(0,(nw ρ 0 (cL (cU a) 64))),(1,(nw ρ 1 (cL (cU b) 64))),(2,(nw ρ 2 (cL (cU 0) 64)))]) (jE [[],[],[]]) (fun ρ1=>?_)
 refine sD Tryz.f180 [0,0,0,7,15] 5 [4] [0,0,1] (fun _=>[U a,U b,U qP,U (bC a b qP),undef]) (fun _=>[(4,(bD 2 (nb ρ1 2) (cL (cU (bC a b qP)) 64)))]) (cR [[0],[1]]<|cC (fun _ w=>yC w)<|cC (fun _ w=>addmod_any a b qP w ha hb sW)<|jE [[2]]) (fun _=>?_)
 refine aF ?_
 exact mR (v:=(U (bC a b qP))) (fun _ hS=>⟨rfl,hS.bel⟩)
theorem wH (a b:Nat) (w0:World) (ha:a<M) (hb:b<M):Calls Tryz.prog 180 #[U a,U b] w0 (jR (U (bC a b qP)) w0):=gaddscalar_w a b ha hb w0
theorem gscalar_w (h:Nat) (hh:h<M) (w0:World):Calls Tryz.prog 181 #[.agg (hB h)] w0 (jR (U (bC h 0 qP)) w0):=by
 refine Calls.of_ok (n:=7) (F:=(fun _=>True)) Tryz.func181 rfl rfl rfl (by simp) jT ?_
 refine sS Tryz.f181 2 [1,2] [] (fun ρ=>[pt (nb ρ 0),pt (nb ρ 1)]) (fun ρ=>[(0,(nw ρ 0 (cL (hB h) 57))),(1,(nw ρ 1 (cL (cU 0) 64)))]) (jE [[],[]]) (fun ρ1=>?_)
 refine sS Tryz.f181 5 [2] [0,1] (fun _=>[.agg (hB h),U h,U 0,U (bC h 0 qP),undef]) (fun _=>[(4,(bD 1 (nb ρ1 1) (cL (cU (bC h 0 qP)) 64)))]) (cR [[0]]<|cC (fun _ w=>frombytes_any h w)<|cR [[]]<|cC (fun _ w=>wH h 0 w hh (by decide +kernel))<|jE [[1]]) (fun _=>?_)
 refine aF ?_
 exact mR (v:=(U (bC h 0 qP))) (fun _ hS=>⟨rfl,hS.bel⟩)
theorem gscalar_any (h:Nat) (w0:World) (hh:h<M):Calls Tryz.prog 181 #[.agg (hB h)] w0 (jR (U (bC h 0 qP)) w0):=gscalar_w h hh w0
theorem scalarb_any (a:Nat) (ha:a<M) (w0:World):Calls Tryz.prog 155 #[U a] w0 (jR (.bool (scB a)) w0):=by
 refine Calls.of_ok (n:=7) (F:=(fun _=>True)) Tryz.func155 rfl rfl rfl (by simp) jT ?_
 refine sS Tryz.f155 2 [1,2] [] (fun ρ=>[pt (nb ρ 0),vF]) (fun ρ=>[(0,(nw ρ 0 (cL (cU a) 64)))]) (jE [[],[]]) (fun _=>?_)
 refine sD Tryz.f155 [0,0,3,7,15] 5 [2] [0] (fun _=>let qa:Value:=.bool (decide ((fJ a qP)<0));[U a,U qP,vi (fJ a qP),qa,qa]) (fun _=>[]) (cR [[0]]<|cC (fun _ w=>yC w)<|cC (fun _ w=>uN a qP w ha sW)<|jE [[],[]]) (fun _=>?_)
 refine aF ?_
 exact mR (v:=(.bool (decide ((fJ a qP)<0)))) (fun _ hS=>⟨jB (sc_dec a),hS.bel⟩)
theorem secret_any (x:Nat) (hx:x<M) (w0:World):Calls Tryz.prog 133 #[U x] w0 (jR (.bool (iM x)) w0):=by
 refine Calls.of_ok (n:=10) (F:=(fun _=>True)) Tryz.func133 rfl rfl rfl (by simp) jT ?_
 refine sS Tryz.f133 2 [1,2] [] (fun ρ=>[pt (nb ρ 0),vF]) (fun ρ=>[(0,(nw ρ 0 (cL (cU x) 64)))]) (jE [[],[]]) (fun _=>?_)
 rcases Bool.eq_false_or_eq_true (decide (x=0)) with hb1 | hb1
 ·
  refine sS Tryz.f133 8 [2] [0] (fun _=>[U x,U 0,vF,vF,undef,undef,vF,vF]) (fun _=>[]) (cR [[0],[]]<|cB (a:=fun ρ=>(U x)) (b:=fun ρ=>(U 0)) (v:=fun ρ=>vF) .neq 64 (fun _ _=>(neqU x 0 hx (by decide +kernel) _).trans (by rw [hb1];try rfl))<|jE [[],[],[],[],[]]) (fun _=>?_)
  refine aF ?_
  exact mR (v:=vF) (fun _ hS=>⟨jB (sec_0 hb1),hS.bel⟩)
 refine sS Tryz.f133 8 [2] [0] (fun _=>[U x,U 0,vT,vT,U x,.bool (scB x),.bool (scB x),.bool (scB x)]) (fun _=>[]) (cR [[0],[]]<|cB (a:=fun ρ=>(U x)) (b:=fun ρ=>(U 0)) (v:=fun ρ=>vT) .neq 64 (fun _ _=>(neqU x 0 hx (by decide +kernel) _).trans (by rw [hb1];try rfl))<|cR [[],[0]]<|cC (fun _ w=>scalarb_any x hx w)<|jE [[],[]]) (fun _=>?_)
 refine aF ?_
 exact mR (v:=(.bool (scB x))) (fun _ hS=>⟨jB (sec_1 hb1),hS.bel⟩)
theorem yD (x:Nat) (hx:x<M) (w0:World):Calls Tryz.prog 103 #[U x] w0 (jR (.tuple #[U (dK x),vi (iW x)]) w0):=by
 refine Calls.of_ok (n:=10) (F:=(fun _=>True)) Tryz.func103 rfl rfl rfl (by simp) jT ?_
 refine sS Tryz.f103 3 [1,2,3] [] (fun ρ=>[pt (nb ρ 0),pt (nb ρ 1),vi 0]) (fun ρ=>[(0,(nw ρ 0 (cL (cU x) 64))),(1,(nw ρ 1 (cL (cU 0) 64)))]) (jE [[],[],[]]) (fun ρ1=>?_)
 refine aB ?_
 refine sS Tryz.f103 3 [1,2,3,6] [] (fun _=>[U x,.bool (iM x),.bool (!(iM x))]) (fun _=>[]) (cR [[0]]<|cC (fun _ w=>secret_any x hx w)<|jE [[]]) (fun _=>?_)
 refine oC (!(iM x)) (fun hb1=>?_) (fun hb1=>?_)
 ·
  rw [hb1]
  refine sS Tryz.f103 3 [1,2,3] [] (fun _=>[U 0,undef,vi 60]) (fun _=>[(1,(bD 1 (nb ρ1 1) (cL (cU 0) 64)))]) (jE [[],[1],[]]) (fun _=>?_)
  refine aF (aC ?_)
  exact mR (v:=(.tuple #[U 0,vi 60])) (ps:=[1,1,1,1]) (fun _ hS=>⟨by rw [(pub_no (dF hb1)).1,(pub_no (dF hb1)).2],hS.bel⟩)
 rw [hb1]
 refine aG (aA ?_)
 refine sS Tryz.f103 4 [2,3] [0,1] (fun _=>[U x,U (bK 4 x pP),undef,vi 0]) (fun _=>[(2,(bD 1 (nb ρ1 1) (cL (cU (bK 4 x pP)) 64)))]) (cR [[0]]<|cC (fun _ w=>gpower_any x w hx)<|jE [[1],[]]) (fun _=>?_)
 refine aF ?_
 exact mR (v:=(.tuple #[U (bK 4 x pP),vi 0])) (fun _ hS=>⟨by rw [(lZ (aV hb1)).1,(lZ (aV hb1)).2],hS.bel⟩)
theorem valid_any (p:Nat) (hp:p<M) (w0:World):Calls Tryz.prog 102 #[U p] w0 (jR (.bool (iY p)) w0):=by
 refine Calls.of_ok (n:=10) (F:=(fun _=>True)) Tryz.func102 rfl rfl rfl (by simp) jT ?_
 refine sS Tryz.f102 2 [1,2] [] (fun ρ=>[pt (nb ρ 0),vF]) (fun ρ=>[(0,(nw ρ 0 (cL (cU p) 64)))]) (jE [[],[]]) (fun _=>?_)
 rcases Bool.eq_false_or_eq_true (decide (p=1)) with hb1 | hb1
 ·
  refine sD Tryz.f102 [0,0,3,7,15,31,63,127] 8 [2] [0] (fun _=>[U p,U 1,vF,vF,undef,undef,vF,vF]) (fun _=>[]) (cR [[0]]<|cC (fun _ w=>lF 1 w (by decide))<|cB (a:=fun ρ=>(U p)) (b:=fun ρ=>(U 1)) (v:=fun ρ=>vF) .neq 64 (fun _ _=>(neqU p 1 hp (by decide +kernel) _).trans (by rw [hb1];try rfl))<|jE [[],[],[],[],[]]) (fun _=>?_)
  refine aF ?_
  exact mR (v:=vF) (fun _ hS=>⟨jB (val_0 hb1),hS.bel⟩)
 refine sD Tryz.f102 [0,0,3,7,15,31,63,127] 8 [2] [0] (fun _=>[U p,U 1,vT,vT,U p,.bool (mW p),.bool (mW p),.bool (mW p)]) (fun _=>[]) (cR [[0]]<|cC (fun _ w=>lF 1 w (by decide))<|cB (a:=fun ρ=>(U p)) (b:=fun ρ=>(U 1)) (v:=fun ρ=>vT) .neq 64 (fun _ _=>(neqU p 1 hp (by decide +kernel) _).trans (by rw [hb1];try rfl))<|cR [[],[0]]<|cC (fun _ w=>gmember_any p w hp)<|jE [[],[]]) (fun _=>?_)
 refine aF ?_
 exact mR (v:=(.bool (mW p))) (fun _ hS=>⟨jB (val_1 hb1),hS.bel⟩)
theorem tweak_any (p:Nat) (t:Nat) (hp:p<M) (ht:t<M) (w0:World):Calls Tryz.prog 160 #[U p,.agg (hB t)] w0 (jR (.tuple #[U (yS p t),vi (wY p t)]) w0):=by
 refine Calls.of_ok (n:=21) (F:=(fun _=>True)) Tryz.func160 rfl rfl rfl (by simp) jT ?_
 refine sS Tryz.f160 4 [2,3,4,5] [] (fun ρ=>[pt (nb ρ 0),pt (nb ρ 1),pt (nb ρ 2),vi 0]) (fun ρ=>[(0,(nw ρ 0 (cL (cU p) 64))),(1,(nw ρ 1 (cL (hB t) 57))),(2,(nw ρ 2 (cL (cU 0) 64)))]) (jE [[],[],[],[]]) (fun ρ1=>?_)
 refine aB ?_
 refine sS Tryz.f160 3 [2,3,4,5,9] [] (fun _=>[U p,.bool (iY p),.bool (!(iY p))]) (fun _=>[]) (cR [[0]]<|cC (fun _ w=>valid_any p hp w)<|jE [[]]) (fun _=>?_)
 refine oC (!(iY p)) (fun hb1=>?_) (fun hb1=>?_)
 ·
  rw [hb1]
  refine sS Tryz.f160 3 [2,3,4,5] [] (fun _=>[U 0,undef,vi 60]) (fun _=>[(1,(bD 2 (nb ρ1 2) (cL (cU 0) 64)))]) (jE [[],[2],[]]) (fun _=>?_)
  refine aF (aC ?_)
  exact mR (v:=(.tuple #[U 0,vi 60])) (ps:=[2,2,2,2]) (fun _ hS=>⟨by rw [(tw_a (dF hb1)).1,(tw_a (dF hb1)).2],hS.bel⟩)
 rw [hb1]
 refine aG (aA ?_)
 refine sD Tryz.f160 [0,0,2,6,15,0,63] 7 [4,5,6] [0,0,1,1] (fun ρ=>[U p,.agg (hB t),U (bC t 0 qP),U (bK 4 (bC t 0 qP) pP),U (bV p (bK 4 (bC t 0 qP) pP) pP),pt (nb ρ 5),undef]) (fun ρ=>[(5,(nw ρ 5 (cL (cU 0) 64))),(6,(bD 43 (nb ρ 5) (cL (cU (bV p (bK 4 (bC t 0 qP) pP) pP)) 64)))]) (cR [[0],[1]]<|cC (fun _ w=>gscalar_any t w ht)<|cC (f:=134) (args:=fun ρ=> #[U (bC t 0 qP)]) (v:=fun ρ=>(U (bK 4 (bC t 0 qP) pP))) (fun _ w=>(fun w=>gpower_any (bC t 0 qP) w (qI _ _ sW)) w)<|cC (f:=174) (args:=fun ρ=> #[U p,U (bK 4 (bC t 0 qP) pP)]) (v:=fun ρ=>(U (bV p (bK 4 (bC t 0 qP) pP) pP))) (fun _ w=>(fun w=>gmul_any p (bK 4 (bC t 0 qP) pP) w hp (vZ _ _ oV)) w)<|jE [[],[43]]) (fun _=>?_)
 refine aB ?_
 refine sD Tryz.f160 [0,0,3] 3 [4,5,6,18] [] (fun _=>[U (bV p (bK 4 (bC t 0 qP) pP) pP),U 1,.bool (decide (bV p (bK 4 (bC t 0 qP) pP) pP=1))]) (fun _=>[]) (cR [[1]]<|cC (fun _ w=>lF 1 w (by decide))<|cB (a:=fun ρ=>(U (bV p (bK 4 (bC t 0 qP) pP) pP))) (b:=fun ρ=>(U 1)) (v:=fun ρ=>(.bool (decide (bV p (bK 4 (bC t 0 qP) pP) pP=1)))) .eql 64 (fun _ _=>eqlU (bV p (bK 4 (bC t 0 qP) pP) pP) 1 (wE _ _ oV) (by decide +kernel) _)<|cN) (fun _=>?_)
 refine oC (decide (bV p (bK 4 (bC t 0 qP) pP) pP=1)) (fun hb2=>?_) (fun hb2=>?_)
 ·
  rw [hb2]
  refine sS Tryz.f160 3 [4,5,6] [] (fun _=>[U 0,undef,vi 5]) (fun _=>[(1,(bD 0 (nb ρ1 2) (cL (cU 0) 64)))]) (jE [[],[0],[]]) (fun _=>?_)
  refine aF (aC ?_)
  exact mR (v:=(.tuple #[U 0,vi 5])) (fun _ hS=>⟨by rw [(tw_b (t:=t) (aV hb1) (yT hb2)).1,(tw_b (t:=t) (aV hb1) (yT hb2)).2],hS.bel⟩)
 rw [hb2]
 refine aG (aA ?_)
 refine sS Tryz.f160 3 [4,5] [1,0] (fun _=>[U (bV p (bK 4 (bC t 0 qP) pP) pP),undef,vi 0]) (fun _=>[(1,(bD 0 (nb ρ1 2) (cL (cU (bV p (bK 4 (bC t 0 qP) pP) pP)) 64)))]) (jE [[1],[0],[]]) (fun _=>?_)
 refine aF ?_
 exact mR (v:=(.tuple #[U (bV p (bK 4 (bC t 0 qP) pP) pP),vi 0])) (fun _ hS=>⟨by rw [(tw_c (t:=t) (aV hb1) (yF hb2)).1,(tw_c (t:=t) (aV hb1) (yF hb2)).2];rfl,hS.bel⟩)
theorem uQ (x:Nat) (t:Nat) (hx:x<M) (ht:t<M) (w0:World):Calls Tryz.prog 159 #[U x,.agg (hB t)] w0 (jR (.tuple #[U (fO x t),vi (nY x t)]) w0):=by
 refine Calls.of_ok (n:=20) (F:=(fun _=>True)) Tryz.func159 rfl rfl rfl (by simp) jT ?_
 refine sS Tryz.f159 4 [2,3,4,5] [] (fun ρ=>[pt (nb ρ 0),pt (nb ρ 1),pt (nb ρ 2),vi 0]) (fun ρ=>[(0,(nw ρ 0 (cL (cU x) 64))),(1,(nw ρ 1 (cL (hB t) 57))),(2,(nw ρ 2 (cL (cU 0) 64)))]) (jE [[],[],[],[]]) (fun ρ1=>?_)
 refine aB ?_
 refine sS Tryz.f159 3 [2,3,4,5,9] [] (fun _=>[U x,.bool (iM x),.bool (!(iM x))]) (fun _=>[]) (cR [[0]]<|cC (fun _ w=>secret_any x hx w)<|jE [[]]) (fun _=>?_)
 refine oC (!(iM x)) (fun hb1=>?_) (fun hb1=>?_)
 ·
  rw [hb1]
  refine sS Tryz.f159 3 [2,3,4,5] [] (fun _=>[U 0,undef,vi 60]) (fun _=>[(1,(bD 2 (nb ρ1 2) (cL (cU 0) 64)))]) (jE [[],[2],[]]) (fun _=>?_)
  refine aF (aC ?_)
  exact mR (v:=(.tuple #[U 0,vi 60])) (ps:=[2,2,2,2]) (fun _ hS=>⟨by rw [(ts_a (dF hb1)).1,(ts_a (dF hb1)).2],hS.bel⟩)
 rw [hb1]
 refine aG (aA ?_)
 refine sD Tryz.f159 [0,0,2,7,0,31] 6 [4,5,6] [0,0,1,1] (fun ρ=>[U x,.agg (hB t),U (bC t 0 qP),U (bC x (bC t 0 qP) qP),pt (nb ρ 4),undef]) (fun ρ=>[(4,(nw ρ 4 (cL (cU 0) 64))),(5,(bD 35 (nb ρ 4) (cL (cU (bC x (bC t 0 qP) qP)) 64)))]) (cR [[0],[1]]<|cC (fun _ w=>gscalar_any t w ht)<|cC (f:=180) (args:=fun ρ=> #[U x,U (bC t 0 qP)]) (v:=fun ρ=>(U (bC x (bC t 0 qP) qP))) (fun _ w=>(fun w=>wH x (bC t 0 qP) w hx (qI _ _ sW)) w)<|jE [[],[35]]) (fun _=>?_)
 refine aB ?_
 refine sS Tryz.f159 3 [4,5,6,17] [] (fun _=>[U (bC x (bC t 0 qP) qP),U 0,.bool (decide (bC x (bC t 0 qP) qP=0))]) (fun _=>[]) (cR [[1],[]]<|cB (a:=fun ρ=>(U (bC x (bC t 0 qP) qP))) (b:=fun ρ=>(U 0)) (v:=fun ρ=>(.bool (decide (bC x (bC t 0 qP) qP=0)))) .eql 64 (fun _ _=>eqlU (bC x (bC t 0 qP) qP) 0 (qI _ _ sW) (by decide +kernel) _)<|cN) (fun _=>?_)
 refine oC (decide (bC x (bC t 0 qP) qP=0)) (fun hb2=>?_) (fun hb2=>?_)
 ·
  rw [hb2]
  refine sS Tryz.f159 3 [4,5,6] [] (fun _=>[U 0,undef,vi 5]) (fun _=>[(1,(bD 0 (nb ρ1 2) (cL (cU 0) 64)))]) (jE [[],[0],[]]) (fun _=>?_)
  refine aF (aC ?_)
  exact mR (v:=(.tuple #[U 0,vi 5])) (fun _ hS=>⟨by rw [(ts_b (t:=t) (aV hb1) (yT hb2)).1,(ts_b (t:=t) (aV hb1) (yT hb2)).2],hS.bel⟩)
 rw [hb2]
 refine aG (aA ?_)
 refine sS Tryz.f159 3 [4,5] [1,0] (fun _=>[U (bC x (bC t 0 qP) qP),undef,vi 0]) (fun _=>[(1,(bD 0 (nb ρ1 2) (cL (cU (bC x (bC t 0 qP) qP)) 64)))]) (jE [[1],[0],[]]) (fun _=>?_)
 refine aF ?_
 exact mR (v:=(.tuple #[U (bC x (bC t 0 qP) qP),vi 0])) (fun _ hS=>⟨by rw [(ts_c (t:=t) (aV hb1) (yF hb2)).1,(ts_c (t:=t) (aV hb1) (yF hb2)).2];rfl,hS.bel⟩)
section
variable {P : Program}
end
theorem yN (k:Ky) (hk:k.Ok) (w0:World):Calls Tryz.prog 76 #[.agg (kY k)] w0 (jR (.bool (fC k)) w0):=by
 refine Calls.of_ok (n:=37) (F:=(fun _=>True)) Tryz.func76 rfl rfl rfl (by simp) jT ?_
 refine sS Tryz.f76 2 [1,2] [] (fun ρ=>[pt (nb ρ 0),vF]) (fun ρ=>[(0,(nw ρ 0 (cL (kY k) 66)))]) (jE [[],[]]) (fun ρ1=>?_)
 refine aB ?_
 rcases Bool.eq_false_or_eq_true (decide (k.d<0)) with hb1 | hb1
 ·
  refine sS Tryz.f76 14 [1,2,18] [] (fun _=>[jp (nb ρ1 0) 40,vi k.d,vT,vT,undef,undef,undef,vT,vT,undef,undef,undef,undef,vT]) (fun _=>[]) (cR [[],[0]]<|cA (fun _=>vT) (fun _=>congrArg Value.bool hb1)<|jE [[],[],[],[],[],[],[],[],[],[],[]]) (fun _=>?_)
  refine oY ?_
  refine jJ Tryz.f76 1 [1,2] [vF] (aF (aC ?_))
  exact mR (v:=vF) (fun _ hS=>⟨jB (snd_end1 hb1),hS.bel⟩)
 rcases Bool.eq_false_or_eq_true (decide (8<k.d)) with hb2 | hb2
 ·
  refine sS Tryz.f76 14 [1,2,18] [] (fun _=>[jp (nb ρ1 0) 40,vi k.d,vF,vF,jp (nb ρ1 0) 40,vi k.d,vT,vT,vT,undef,undef,undef,undef,vT]) (fun _=>[]) (cR [[],[0]]<|cA (fun _=>vF) (fun _=>congrArg Value.bool hb1)<|cR [[],[],[0]]<|cA (fun _=>vT) (fun _=>congrArg Value.bool hb2)<|jE [[],[],[],[],[],[],[]]) (fun _=>?_)
  refine oY ?_
  refine jJ Tryz.f76 1 [1,2] [vF] (aF (aC ?_))
  exact mR (v:=vF) (fun _ hS=>⟨jB (snd_end2 hb1 hb2),hS.bel⟩)
 refine sS Tryz.f76 14 [1,2,18] [] (fun _=>[jp (nb ρ1 0) 40,vi k.d,vF,vF,jp (nb ρ1 0) 40,vi k.d,vF,vF,vF,jp (nb ρ1 0) 4,U k.p,.bool (iY k.p),.bool (!(iY k.p)),.bool (!(iY k.p))]) (fun _=>[]) (cR [[],[0]]<|cA (fun _=>vF) (fun _=>congrArg Value.bool hb1)<|cR [[],[],[0]]<|cA (fun _=>vF) (fun _=>congrArg Value.bool hb2)<|cR [[],[],[],[0]]<|cC (fun _ w=>valid_any k.p hk.p w)<|jE [[],[]]) (fun _=>?_)
 refine oC (!(iY k.p)) (fun hb3=>?_) (fun hb3=>?_)
 ·
  rw [hb3]
  refine jJ Tryz.f76 1 [1,2] [vF] (aF (aC ?_))
  exact mR (v:=vF) (fun _ hS=>⟨jB (snd_end3 hb1 hb2 (dF hb3)),hS.bel⟩)
 rw [hb3]
 refine aG (aA (aB ?_))
 refine sS Tryz.f76 4 [1,2,22] [] (fun _=>[pt (nb ρ1 0),U k.s,U 0,.bool (decide (k.s=0))]) (fun _=>[]) (cR [[],[0],[]]<|cB (a:=fun ρ=>(U k.s)) (b:=fun ρ=>(U 0)) (v:=fun ρ=>(.bool (decide (k.s=0)))) .eql 64 (fun _ _=>eqlU k.s 0 hk.s (by decide +kernel) _)<|cN) (fun _=>?_)
 refine oC (decide (k.s=0)) (fun hb4=>?_) (fun hb4=>?_)
 ·
  rw [hb4]
  refine jJ Tryz.f76 1 [1,2] [vT] (aF (aC ?_))
  exact mR (v:=vT) (fun _ hS=>⟨jB (snd_ok4 hb1 hb2 (aV hb3) hb4),hS.bel⟩)
 rw [hb4]
 refine aG (aA ?_)
 refine sS Tryz.f76 9 [1,2,3,4] [] (fun ρ=>[pt (nb ρ1 0),U k.s,.tuple #[U (dK k.s),vi (iW k.s)],.tuple #[U (dK k.s),vi (iW k.s)],U (dK k.s),vi (iW k.s),pt (nb ρ 6),undef,vi (iW k.s)]) (fun ρ=>[(6,(nw ρ 6 (cL (cU 0) 64))),(7,(bD 49 (nb ρ 6) (cL (cU (dK k.s)) 64)))]) (cR [[],[0]]<|cC (fun _ w=>yD k.s hk.s w)<|jE [[],[],[],[],[49],[]]) (fun _=>?_)
 rcases Bool.eq_false_or_eq_true ((iW k.s)==0) with hb5 | hb5
 ·
  refine sS Tryz.f76 9 [2] [0,0] (fun _=>let qa:Value:=.bool (decide (dK k.s=k.p));[vi (iW k.s),vT,vT,U (dK k.s),jp (nb ρ1 0) 4,U k.p,qa,qa,qa]) (fun _=>[]) (cR [[]]<|cA (fun _=>vT) (fun _=>congrArg Value.bool hb5)<|cR [[],[1],[],[0]]<|cB (a:=fun ρ=>(U (dK k.s))) (b:=fun ρ=>(U k.p)) (v:=fun ρ=>(.bool (decide (dK k.s=k.p)))) .eql 64 (fun _ _=>eqlU (dK k.s) k.p (pubV_lt _) hk.p _)<|jE [[],[]]) (fun _=>?_)
  refine aF ?_
  exact mR (v:=(.bool (decide (dK k.s=k.p)))) (fun _ hS=>⟨jB (snd_ok5 hb1 hb2 (aV hb3) hb4 hb5),hS.bel⟩)
 refine sS Tryz.f76 9 [2] [0,0] (fun _=>[vi (iW k.s),vF,vF,undef,undef,undef,undef,vF,vF]) (fun _=>[]) (cR [[]]<|cA (fun _=>vF) (fun _=>congrArg Value.bool hb5)<|jE [[],[],[],[],[],[],[]]) (fun _=>?_)
 refine aF ?_
 exact mR (v:=vF) (fun _ hS=>⟨jB (snd_end5 hb1 hb2 (aV hb3) hb4 hb5),hS.bel⟩)
theorem yK (a:Option Addr) (c:Nat) (ps:List Nat) (hn:a.isNone=true) (w0:World) (hf0:Is w0 .u32 a c (nI ps)):Calls Tryz.prog 58 #[.slice a (nI ps).length c] w0 (jR vz w0):=by
 refine Calls.of_ok (n:=8) (F:=(fun w=>Is w .u32 a c (nI ps)∧True)) Tryz.func58 rfl rfl rfl (by simp) (hf0.pers0.and cO) ?_
 refine jJ Tryz.f58 1 [0,2] [vz] (aB ?_)
 refine sS Tryz.f58 2 [0,2,4] [] (fun _=>[.slice a (nI ps).length c,vT]) (fun _=>[]) (cR [[]]<|cB (a:=fun ρ=>(.slice a (nI ps).length c)) (b:=fun ρ=>vz) (v:=fun ρ=>vT) .eql 67 (fun _ w=>(eql_nil32 a (nI ps).length c w).trans (by rw [show a.isNone=true from hn]))<|cN) (fun _=>?_)
 refine oY ?_
 refine jJ Tryz.f58 1 [0,2] [vz] (aF (aC ?_))
 exact mR (v:=vz) (fun _ hS=>⟨rfl,hS.bel⟩)
theorem yP (a:Option Addr) (c:Nat) (ps:List Nat) (hn:a.isNone=false) (_h8:ps.length≤8) (w0:World) (hf0:Is w0 .u32 a c (nI ps)):Calls Tryz.prog 58 #[.slice a (nI ps).length c] w0 (fun ε w'=>∃ r:bH,ε=.returned (vs (r.n.headD 0) (nI ps).length (r.n.tail.headD 0))∧jG w0 w'∧w0.heap.size≤r.n.headD 0∧w'.heap[r.n.headD 0]? = some (cL (uG r) 55)∧kI.A (uG r) ps (r.n.tail.headD 0)):=by
 refine Calls.of_ok (n:=8) (F:=(fun w=>Is w .u32 a c (nI ps)∧True)) Tryz.func58 rfl rfl rfl (by simp) (hf0.pers0.and cO) ?_
 refine jJ Tryz.f58 1 [0,2] [vz] (aB ?_)
 refine sS Tryz.f58 2 [0,2,4] [] (fun _=>[.slice a (nI ps).length c,vF]) (fun _=>[]) (cR [[]]<|cB (a:=fun ρ=>(.slice a (nI ps).length c)) (b:=fun ρ=>vz) (v:=fun ρ=>vF) .eql 67 (fun _ w=>(eql_nil32 a (nI ps).length c w).trans (by rw [show a.isNone=false from hn]))<|cN) (fun _=>?_)
 refine oN ?_
 refine aG (aA ?_)
 refine iZ Tryz.f58 4 [2] [] (fun ρ=>let qa:=vs (nb ρ 2) (nI (([]:List Nat)++ps)).length (aZ ρ 2);[vs (nb ρ 0) 0 0,.slice a (nI ps).length c,qa,qa]) (fun ρ=>[(0,(nw ρ 0 (cL #[] 55))),(2,(bD 0 (nb ρ 2) (cL (oc ρ 2) 55)))]) (fun ρ=>[(2,fun w=>kI.A (oc ρ 2) (([]:List Nat)++ps) (aZ ρ 2))]) (fun _=>(fun w=>Is w .u32 a c (nI ps)∧True)) (fun ρ=>kI.A (oc ρ 2) (([]:List Nat)++ps) (aZ ρ 2)) (fun _ _ hF hf=>⟨hF,hf 2⟩) (cR [[],[]]<|cX (qM 0 (fun ρ _ _ hG hg=>lT (ty:=67) (g:=nb ρ 0) (ts:=([]:List Nat)) (us:=ps) Tryz.underlying67 (dA (sz:=1) (b:=4) (z:=(.int .u32 0)) (by kernel_rfl) rfl) RowK.A.empty (src_is Tryz.underlying67 hG.fn.1) (by rw [List.length_nil];omega) (by decide) hg))<|jE [[]]) (fun ρ3 ap3_2=>?_)
 refine aF (mD [(2,(vs (nb ρ3 2) (nI (([]:List Nat)++ps)).length (aZ ρ3 2)))] [(nb ρ3 2,(cL (oc ρ3 2) 55))] ?_)
 exact mR (v:=(vs (nb ρ3 2) (nI (([]:List Nat)++ps)).length (aZ ρ3 2))) (fun _ hS=>⟨{ n:=[nb ρ3 2,aZ ρ3 2],o:=[.cells (oc ρ3 2) 0 (0,0)]},rfl,hS.bel,(hS.newb (.head _)).1,(hS.newb (.head _)).2,ap3_2⟩)
theorem clt1_any (a:Option Addr) (c:Nat) (us:List bW) (hn:a.isNone=false) (_h8:us.length≤8) (w0:World) (hf0:bM w0 a c us):Calls Tryz.prog 56 #[.slice a us.length c] w0 (fun ε w'=>∃ r:bH,ε=.returned (vs (r.n.headD 0) us.length (r.n.tail.headD 0))∧jG w0 w'∧w0.heap.size≤r.n.headD 0∧w'.heap[r.n.headD 0]? = some (cL (uG r) 60)∧kT.A (uG r) us (r.n.tail.headD 0)):=by
 refine Calls.of_ok (n:=8) (F:=(fun w=>bM w a c us∧True)) Tryz.func56 rfl rfl rfl (by simp) (hf0.pers0.and cO) ?_
 refine jJ Tryz.f56 1 [0,2] [vz] (aB ?_)
 refine sS Tryz.f56 2 [0,2,4] [] (fun _=>[.slice a us.length c,vF]) (fun _=>[]) (cR [[]]<|cB (a:=fun ρ=>(.slice a us.length c)) (b:=fun ρ=>vz) (v:=fun ρ=>vF) .eql 24 (fun _ w=>(eql_nilT a us.length c w).trans (by rw [show a.isNone=false from hn]))<|cN) (fun _=>?_)
 refine oN ?_
 refine aG (aA ?_)
 refine iZ Tryz.f56 4 [2] [] (fun ρ=>let qa:=vs (nb ρ 2) (([]:List bW)++us).length (aZ ρ 2);[vs (nb ρ 0) 0 0,.slice a us.length c,qa,qa]) (fun ρ=>[(0,(nw ρ 0 (cL #[] 60))),(2,(bD 0 (nb ρ 2) (cL (oc ρ 2) 60)))]) (fun ρ=>[(2,fun w=>kT.A (oc ρ 2) (([]:List bW)++us) (aZ ρ 2))]) (fun _=>(fun w=>bM w a c us∧True)) (fun ρ=>kT.A (oc ρ 2) (([]:List bW)++us) (aZ ρ 2)) (fun _ _ hF hf=>⟨hF,hf 2⟩) (cR [[],[]]<|cX (qM 0 (fun ρ _ _ hG hg=>wB (K:=kT) (ty:=24) (g:=nb ρ 0) (ts:=([]:List bW)) (us:=us) Tryz.underlying24 (dA (sz:=36) (b:=80) (z:=rQ) (by kernel_rfl) rfl) RowK.A.empty (bM.srcT Tryz.underlying24 hG.fn.1) (by rw [List.length_nil];omega) (by decide) hg))<|jE [[]]) (fun ρ3 ap3_2=>?_)
 refine aF (mD [(2,(vs (nb ρ3 2) (([]:List bW)++us).length (aZ ρ3 2)))] [(nb ρ3 2,(cL (oc ρ3 2) 60))] ?_)
 exact mR (v:=(vs (nb ρ3 2) (([]:List bW)++us).length (aZ ρ3 2))) (fun _ hS=>⟨{ n:=[nb ρ3 2,aZ ρ3 2],o:=[.cells (oc ρ3 2) 0 (0,0)]},rfl,hS.bel,(hS.newb (.head _)).1,(hS.newb (.head _)).2,ap3_2⟩)
theorem clk1_any (a:Option Addr) (c:Nat) (us:List dO) (hn:a.isNone=false) (_h8:us.length≤8) (w0:World) (hf0:oG w0 a c us):Calls Tryz.prog 57 #[.slice a us.length c] w0 (fun ε w'=>∃ r:bH,ε=.returned (vs (r.n.headD 0) us.length (r.n.tail.headD 0))∧jG w0 w'∧w0.heap.size≤r.n.headD 0∧w'.heap[r.n.headD 0]? = some (cL (uG r) 69)∧kK.A (uG r) us (r.n.tail.headD 0)):=by
 refine Calls.of_ok (n:=8) (F:=(fun w=>oG w a c us∧True)) Tryz.func57 rfl rfl rfl (by simp) (hf0.pers0.and cO) ?_
 refine jJ Tryz.f57 1 [0,2] [vz] (aB ?_)
 refine sS Tryz.f57 2 [0,2,4] [] (fun _=>[.slice a us.length c,vF]) (fun _=>[]) (cR [[]]<|cB (a:=fun ρ=>(.slice a us.length c)) (b:=fun ρ=>vz) (v:=fun ρ=>vF) .eql 58 (fun _ w=>(eql_nilK a us.length c w).trans (by rw [show a.isNone=false from hn]))<|cN) (fun _=>?_)
 refine oN ?_
 refine aG (aA ?_)
 refine iZ Tryz.f57 4 [2] [] (fun ρ=>let qa:=vs (nb ρ 2) (([]:List dO)++us).length (aZ ρ 2);[vs (nb ρ 0) 0 0,.slice a us.length c,qa,qa]) (fun ρ=>[(0,(nw ρ 0 (cL #[] 69))),(2,(bD 0 (nb ρ 2) (cL (oc ρ 2) 69)))]) (fun ρ=>[(2,fun w=>kK.A (oc ρ 2) (([]:List dO)++us) (aZ ρ 2))]) (fun _=>(fun w=>oG w a c us∧True)) (fun ρ=>kK.A (oc ρ 2) (([]:List dO)++us) (aZ ρ 2)) (fun _ _ hF hf=>⟨hF,hf 2⟩) (cR [[],[]]<|cX (qM 0 (fun ρ _ _ hG hg=>wB (K:=kK) (ty:=58) (g:=nb ρ 0) (ts:=([]:List dO)) (us:=us) Tryz.underlying58 (dA (sz:=45) (b:=144) (z:=zKp) (by kernel_rfl) rfl) RowK.A.empty (oG.src Tryz.underlying58 hG.fn.1) (by rw [List.length_nil];omega) (by decide) hg))<|jE [[]]) (fun ρ3 ap3_2=>?_)
 refine aF (mD [(2,(vs (nb ρ3 2) (([]:List dO)++us).length (aZ ρ3 2)))] [(nb ρ3 2,(cL (oc ρ3 2) 69))] ?_)
 exact mR (v:=(vs (nb ρ3 2) (([]:List dO)++us).length (aZ ρ3 2))) (fun _ hS=>⟨{ n:=[nb ρ3 2,aZ ρ3 2],o:=[.cells (oc ρ3 2) 0 (0,0)]},rfl,hS.bel,(hS.newb (.head _)).1,(hS.newb (.head _)).2,ap3_2⟩)
theorem clone_nil (w:World):Calls Tryz.prog 58 #[.slice none (nI []).length 0] w (fun ε w'=>ε=.returned vz∧Below w.heap.size w w'):=yK none 0 [] rfl w Is.nil
set_option maxHeartbeats 800000 in
theorem clterms_any (a:Option Addr) (c:Nat) (k:Ky) (wd:Bool) (ka:Option Addr) (kc:Nat) (hk:k.Ok) (hd:rng k.d) (w0:World) (hf0:bM w0 a c ([oT k wd ka kc])) (T:Nat→Prop) (hT:∀ b,T b→b<w0.heap.size):Calls Tryz.prog 34 #[.slice a ([oT k wd ka kc]).length c] w0 (fun ε w'=>jG w0 w'∧∃ r:bH,ε=.returned (.slice r.a 1 (r.n.headD 0))∧fU w0.heap.size r.a∧fU w0.heap.size r.b∧dL T (fun w=>bM w r.a (r.n.headD 0) [oT k wd r.b (r.n.tail.headD 0)]) w'):=by
 refine Calls.of_ok (n:=48) (F:=(fun w=>bM w a c ([oT k wd ka kc])∧True)) Tryz.func34 rfl rfl rfl (by simp) (hf0.pers0.and cO) ?_
 have hna:a.isNone=false:=hf0.nn
 have hnk:ka.isNone=false:=hf0.kn
 refine jJ Tryz.f34 1 [0,2] [vz] ?_
 refine iZ Tryz.f34 3 [0,2] [] (fun ρ=>let qa:=vs (nb ρ 1) 1 (aZ ρ 1);[.slice a ([oT k wd ka kc]).length c,qa,qa]) (fun ρ=>[(1,(nw ρ 1 (cL (oc ρ 1) 60)))]) (fun ρ=>[(1,fun w=>kT.A (oc ρ 1) ([oT k wd ka kc]) (aZ ρ 1))]) (fun _=>(fun w=>bM w a c ([oT k wd ka kc])∧True)) (fun ρ=>kT.A (oc ρ 1) ([oT k wd ka kc]) (aZ ρ 1)) (fun _ _ hF hf=>⟨hF,hf 1⟩) (cR [[]]<|cX (rM _ 56 (fun _=> #[.slice a ([oT k wd ka kc]).length c]) (fun _ r=>(vs (r.n.headD 0) 1 (r.n.tail.headD 0))) (fun _ r=>(cL (uG r) 60)) (fun _ r=>kT.A (uG r) ([oT k wd ka kc]) (r.n.tail.headD 0)) (fun _ _=>(by kernel_rfl)) (fun _ _=>(by kernel_rfl)) (fun _ _=>(by kernel_rfl)) (fun _ _=>(by kernel_rfl)) (fun _ _ w hG=>clt1_any a c ([oT k wd ka kc]) hna (Nat.le_of_ble_eq_true rfl) w hG.fn.1))<|jE [[]]) (fun ρ2 ap2_1=>?_)
 refine aB (jJ Tryz.f34 3 [0,2,9,10] [vs (nb ρ2 1) 1 (aZ ρ2 1),vi 1,vi 0] (aI ?_))
 refine jY 2 ?_
 refine dI ?_
 refine jJ Tryz.f34 1 [0,2,9,10,11] [vT] (aB ?_)
 refine oY ?_
 refine aG (aA (aB (aI (jJ Tryz.f34 2 [0,2,3,9,10,11,12] [vi 0,vi 0] ?_))))
 refine iZ Tryz.f34 11 [0,2,3,9,10,11,12,13,14,15,16,17,18,19,20,21,22] [] (fun ρ=>let qa:=vs (nb ρ2 1) 1 (aZ ρ2 1);let qb:=jp (nb ρ2 1) (0*36+35);[qa,vi 0,qa,vi 0,jp (nb ρ2 1) (0*36),qb,.slice ka ([pT k wd]).length kc,vs (nb ρ 7) 1 (aZ ρ 7),jp (nb ρ2 1) (0*36),qb,undef]) (fun ρ=>[(7,(nw ρ 7 (cL (oc ρ 7) 69))),(10,(bD 0 (nb ρ2 1) (cL ((oc ρ2 1).setIfInBounds (0*36+35) (vs (nb ρ 7) 1 (aZ ρ 7))) 60)))]) (fun ρ=>[(7,fun w=>kK.A (oc ρ 7) ([pT k wd]) (aZ ρ 7))]) (fun _=>(fun w=>bM w a c ([oT k wd ka kc])∧True)) (fun ρ=>kK.A (oc ρ 7) ([pT k wd]) (aZ ρ 7)) (fun _ _ hF hf=>⟨hF,hf 7⟩) (cR [[],[],[],[]]<|cY (qS (fun _ w=>iG (g:=nb ρ2 1) (c:=aZ ρ2 1) (k:=.i64) Tryz.underlying24 Tryz.sizeOf60 (show (0:Int)=((0:Nat):Int) from rfl) (show 0<1 from Nat.le_of_ble_eq_true rfl) w))<|cR [[]]<|cY (kG _ 0 58 (fun _=>nb ρ2 1) (fun _=>0*36+35) (fun _=>(oc ρ2 1)) 60 (0,0) (fun _=>(.slice ka ([pT k wd]).length kc)) (fun _=>by kernel_rfl) Tryz.isAgg58 (fun _=>one_get (x:=oT k wd ka kc) (o:=35) ap2_1 (by decide) (by kernel_rfl)))<|cX (rM _ 57 (fun _=> #[.slice ka ([pT k wd]).length kc]) (fun _ r=>(vs (r.n.headD 0) 1 (r.n.tail.headD 0))) (fun _ r=>(cL (uG r) 69)) (fun _ r=>kK.A (uG r) ([pT k wd]) (r.n.tail.headD 0)) (fun _ _=>(by kernel_rfl)) (fun _ _=>(by kernel_rfl)) (fun _ _=>(by kernel_rfl)) (fun _ _=>(by kernel_rfl)) (fun _ _ w hG=>clk1_any ka kc ([pT k wd]) hnk (Nat.le_of_ble_eq_true rfl) w (hG.fn.1.sub _ (fA (show 0<([oT k wd ka kc]).length from Nat.le_of_ble_eq_true rfl)))))<|cY (qS (fun _ w=>iG (g:=nb ρ2 1) (c:=aZ ρ2 1) (k:=.i64) Tryz.underlying24 Tryz.sizeOf60 (show (0:Int)=((0:Nat):Int) from rfl) (show 0<1 from Nat.le_of_ble_eq_true rfl) w))<|cR [[]]<|cY (qG _ 0 58 (fun _=>nb ρ2 1) (fun _=>0*36+35) (fun _=>(oc ρ2 1)) (fun ρ=>((oc ρ2 1).setIfInBounds (0*36+35) (vs (nb ρ 7) 1 (aZ ρ 7)))) 60 (fun ρ=>(vs (nb ρ 7) 1 (aZ ρ 7))) (fun _=>by kernel_rfl) Tryz.sizeOf58 (fun _=>rfl) (fun _=>(one_lt (o:=35) ap2_1 (by decide))) (fun _=>rfl))<|cN) (fun ρ6 ap6_7=>?_)
 refine sS Tryz.f34 7 [0,2,3,9,10,11,12,13,14,15,16,17,18,19,20,21,22,23,24,25,26,27,28,29] [] (fun _=>[vs (nb ρ2 1) 1 (aZ ρ2 1),vi 0,jp (nb ρ2 1) (0*36),jp (nb ρ2 1) (0*36+35),vs (nb ρ6 7) 1 (aZ ρ6 7),vi 1,vi 0]) (fun _=>[]) (cR [[],[]]<|cX (qS (fun _ w=>iG (g:=nb ρ2 1) (c:=aZ ρ2 1) (k:=.i64) Tryz.underlying24 Tryz.sizeOf60 (show (0:Int)=((0:Nat):Int) from rfl) (show 0<1 from Nat.le_of_ble_eq_true rfl) w))<|cR [[]]<|cX (kG _ 0 58 (fun _=>nb ρ2 1) (fun _=>0*36+35) (fun _=>((oc ρ2 1).setIfInBounds (0*36+35) (vs (nb ρ6 7) 1 (aZ ρ6 7)))) 60 (0,0) (fun _=>(vs (nb ρ6 7) 1 (aZ ρ6 7))) (fun _=>by kernel_rfl) Tryz.isAgg58 (fun _=>one_get (x:=oT k wd (some ⟨nb ρ6 7,0,none⟩) (aZ ρ6 7)) (o:=35) (one_set (o:=35) (v:=(vs (nb ρ6 7) 1 (aZ ρ6 7))) (x':=oT k wd (some ⟨nb ρ6 7,0,none⟩) (aZ ρ6 7)) ap2_1 (by decide) (by kernel_rfl)) (by decide) (by kernel_rfl)))<|jE [[],[]]) (fun _=>?_)
 refine lK [(0,(vs (nb ρ2 1) 1 (aZ ρ2 1))),(2,vz),(3,(vi 0)),(9,(vi 1)),(10,(vi 0)),(11,vT),(12,(vi 0)),(13,(vs (nb ρ2 1) 1 (aZ ρ2 1))),(14,(vi 0)),(15,(vs (nb ρ2 1) 1 (aZ ρ2 1))),(16,(vi 0)),(17,(jp (nb ρ2 1) (0*36))),(18,(jp (nb ρ2 1) (0*36+35))),(19,(.slice ka ([pT k wd]).length kc)),(20,(vs (nb ρ6 7) 1 (aZ ρ6 7))),(21,(jp (nb ρ2 1) (0*36))),(22,(jp (nb ρ2 1) (0*36+35))),(23,(vs (nb ρ2 1) 1 (aZ ρ2 1))),(24,(vi 0)),(25,(jp (nb ρ2 1) (0*36))),(26,(jp (nb ρ2 1) (0*36+35))),(27,(vs (nb ρ6 7) 1 (aZ ρ6 7))),(28,(vi 1)),(29,(vi 0))] [(nb ρ2 1,(cL ((oc ρ2 1).setIfInBounds (0*36+35) (vs (nb ρ6 7) 1 (aZ ρ6 7))) 60)),(nb ρ6 7,(cL (oc ρ6 7) 69))] ?_
 refine aI ?_
 refine jY 2 ?_
 refine dI ?_
 refine jJ Tryz.f34 1 [0,2,3,9,10,11,12,13,14,15,16,17,18,19,20,21,22,23,24,25,26,27,28,29,30] [vT] (aB ?_)
 refine oY ?_
 refine aG (aA (aB (aI ?_)))
 refine sS Tryz.f34 6 [0,2,3,4,5,9,10,11,12,13,14,15,16,17,18,19,20,21,22,23,24,25,26,27,28,29,30,31,32,33] [] (fun ρ=>[vi 0,jp (nb ρ6 7) (0*45),.agg (kM k.s k.p k.c k.d ((k.i:Nat):Int) ((k.n:Nat):Int) (.slice none (nI []).length 0) (.bool wd)),pt (nb ρ 3),vi 0,undef]) (fun ρ=>[(3,(nw ρ 3 (cL (kM 0 0 0 0 0 0 vz vF) 69))),(5,(bD 26 (nb ρ 3) (cL (kM k.s k.p k.c k.d ((k.i:Nat):Int) ((k.n:Nat):Int) (.slice none (nI []).length 0) (.bool wd)) 69)))]) (cR [[]]<|cX (qS (fun _ w=>iG (g:=nb ρ6 7) (c:=aZ ρ6 7) (k:=.i64) Tryz.underlying58 Tryz.sizeOf69 (show (0:Int)=((0:Nat):Int) from rfl) (show 0<1 from Nat.le_of_ble_eq_true rfl) w))<|cX (qF (v:=fun ρ=>(.agg (kM k.s k.p k.c k.d ((k.i:Nat):Int) ((k.n:Nat):Int) (.slice none (nI []).length 0) (.bool wd)))) (fun _ _ _ hG=>one_ldK (k:=k) (wd:=wd) Tryz.isAgg69 Tryz.sizeOf69 (hG.kn (g:=nb ρ6 7) (o:=(cL (oc ρ6 7) 69)) 1) ap6_7))<|jE [[],[],[26]]) (fun ρ9=>?_)
 refine rD Tryz.f34 [0,0,3,7,15,0,0,64,192,511,1023,2047] 12 [0,2,3,4,5,9,10,11,12,13,14,15,16,17,18,19,20,21,22,23,24,25,26,27,28,29,30,31,32,33,34,35,36,37,38,39,40,41,42,43,44] [] (fun _=>[vs (nb ρ2 1) 1 (aZ ρ2 1),vi 0,jp (nb ρ2 1) (0*36),jp (nb ρ2 1) (0*36+35),vs (nb ρ6 7) 1 (aZ ρ6 7),vi 0,jp (nb ρ9 3) 43,.slice none (nI []).length 0,vz,jp (nb ρ6 7) (0*45),jp (nb ρ6 7) (0*45+43),undef]) (fun _=>[(11,(bD 1 (nb ρ6 7) (cL ((oc ρ6 7).setIfInBounds (0*45+43) vz) 69)))]) (cR [[],[]]<|cX (qS (fun _ w=>iG (g:=nb ρ2 1) (c:=aZ ρ2 1) (k:=.i64) Tryz.underlying24 Tryz.sizeOf60 (show (0:Int)=((0:Nat):Int) from rfl) (show 0<1 from Nat.le_of_ble_eq_true rfl) w))<|cR [[]]<|cX (kG _ 0 58 (fun _=>nb ρ2 1) (fun _=>0*36+35) (fun _=>((oc ρ2 1).setIfInBounds (0*36+35) (vs (nb ρ6 7) 1 (aZ ρ6 7)))) 60 (0,0) (fun _=>(vs (nb ρ6 7) 1 (aZ ρ6 7))) (fun _=>by kernel_rfl) Tryz.isAgg58 (fun _=>one_get (x:=oT k wd (some ⟨nb ρ6 7,0,none⟩) (aZ ρ6 7)) (o:=35) (one_set (o:=35) (v:=(vs (nb ρ6 7) 1 (aZ ρ6 7))) (x':=oT k wd (some ⟨nb ρ6 7,0,none⟩) (aZ ρ6 7)) ap2_1 (by decide) (by kernel_rfl)) (by decide) (by kernel_rfl)))<|cR [[],[],[2]]<|cC (fun _ w=>clone_nil w)<|cX (qS (fun _ w=>iG (g:=nb ρ6 7) (c:=aZ ρ6 7) (k:=.i64) Tryz.underlying58 Tryz.sizeOf69 (show (0:Int)=((0:Nat):Int) from rfl) (show 0<1 from Nat.le_of_ble_eq_true rfl) w))<|cR [[]]<|cX (qG _ 1 67 (fun _=>nb ρ6 7) (fun _=>0*45+43) (fun _=>(oc ρ6 7)) (fun _=>((oc ρ6 7).setIfInBounds (0*45+43) vz)) 69 (fun _=>vz) (fun _=>by kernel_rfl) Tryz.sizeOf67 (fun _=>rfl) (fun _=>(one_lt (o:=43) ap6_7 (by decide))) (fun _=>rfl))<|cN) (fun _=>?_)
 refine aJ (aA (jL Tryz.f34 2 [0,2,3,4,5,9,10,11,12,13,14,15,16,17,18,19,20,21,22,23,24,25,26,27,28,29,30,31,32,33,34,35,36,37,38,39,40,41,42,43,44,45] [] [vi 1,vi 1] [[],[]] (dV ?_)))
 refine dI ?_
 refine jJ Tryz.f34 1 [0,2,3,4,5,9,10,11,12,13,14,15,16,17,18,19,20,21,22,23,24,25,26,27,28,29,30,31,32,33,34,35,36,37,38,39,40,41,42,43,44,45] [vF] (aB ?_)
 refine oN ?_
 refine bF (aN (aN (aT (aJ (aA (jL Tryz.f34 2 [0,2,3,4,5,9,10,11,12,13,14,15,16,17,18,19,20,21,22,23,24,25,26,27,28,29,30,31,32,33,34,35,36,37,38,39,40,41,42,43,44,45,46] [] [vi 1,vi 1] [[],[]] (dV ?_)))))))
 refine dI ?_
 refine jJ Tryz.f34 1 [0,2,3,4,5,9,10,11,12,13,14,15,16,17,18,19,20,21,22,23,24,25,26,27,28,29,30,31,32,33,34,35,36,37,38,39,40,41,42,43,44,45,46] [vF] ?_
 refine lK [(0,(vs (nb ρ2 1) 1 (aZ ρ2 1))),(2,vz),(3,(vi 0)),(4,(vi 0)),(5,(pt (nb ρ9 3))),(9,(vi 1)),(10,(vi 1)),(11,vF),(12,(vi 0)),(13,(vs (nb ρ2 1) 1 (aZ ρ2 1))),(14,(vi 0)),(15,(vs (nb ρ2 1) 1 (aZ ρ2 1))),(16,(vi 0)),(17,(jp (nb ρ2 1) (0*36))),(18,(jp (nb ρ2 1) (0*36+35))),(19,(.slice ka ([pT k wd]).length kc)),(20,(vs (nb ρ6 7) 1 (aZ ρ6 7))),(21,(jp (nb ρ2 1) (0*36))),(22,(jp (nb ρ2 1) (0*36+35))),(23,(vs (nb ρ2 1) 1 (aZ ρ2 1))),(24,(vi 0)),(25,(jp (nb ρ2 1) (0*36))),(26,(jp (nb ρ2 1) (0*36+35))),(27,(vs (nb ρ6 7) 1 (aZ ρ6 7))),(28,(vi 1)),(29,(vi 1)),(30,vF),(31,(vi 0)),(32,(jp (nb ρ6 7) (0*45))),(33,(.agg (kM k.s k.p k.c k.d ((k.i:Nat):Int) ((k.n:Nat):Int) (.slice none (nI []).length 0) (.bool wd)))),(34,(vs (nb ρ2 1) 1 (aZ ρ2 1))),(35,(vi 0)),(36,(jp (nb ρ2 1) (0*36))),(37,(jp (nb ρ2 1) (0*36+35))),(38,(vs (nb ρ6 7) 1 (aZ ρ6 7))),(39,(vi 0)),(40,(jp (nb ρ9 3) 43)),(41,(.slice none (nI []).length 0)),(42,vz),(43,(jp (nb ρ6 7) (0*45))),(44,(jp (nb ρ6 7) (0*45+43))),(45,(vi 1)),(46,(vi 1))] [(nb ρ2 1,(cL ((oc ρ2 1).setIfInBounds (0*36+35) (vs (nb ρ6 7) 1 (aZ ρ6 7))) 60)),(nb ρ6 7,(cL ((oc ρ6 7).setIfInBounds (0*45+43) vz) 69)),(nb ρ9 3,(cL (kM k.s k.p k.c k.d ((k.i:Nat):Int) ((k.n:Nat):Int) (.slice none (nI []).length 0) (.bool wd)) 69))] ?_
 refine aB ?_
 refine oN ?_
 refine bF (aN (aN (aT (aA (jM Tryz.f34 2 [2] [1,1,0] [vs (nb ρ2 1) 1 (aZ ρ2 1),vs (nb ρ2 1) 1 (aZ ρ2 1)] [[],[]] (aF (mD [(2,(vs (nb ρ2 1) 1 (aZ ρ2 1)))] [(nb ρ2 1,(cL ((oc ρ2 1).setIfInBounds (0*36+35) (vs (nb ρ6 7) 1 (aZ ρ6 7))) 60)),(nb ρ6 7,(cL ((oc ρ6 7).setIfInBounds (0*45+43) vz) 69))] ?_)))))))
 exact mR (v:=(vs (nb ρ2 1) 1 (aZ ρ2 1))) (fun _ hS=>⟨hS.bel,{ n:=[aZ ρ2 1,aZ ρ6 7],a:=some ⟨nb ρ2 1,0,none⟩,b:=some ⟨nb ρ6 7,0,none⟩},rfl,fU.some (hS.newb (.head _)).1,fU.some (hS.newb (.tail _ (.head _))).1,hS.oneT hT (hS.newb (.head _)) (hS.newb (.tail _ (.head _))) (one_set (o:=35) (v:=(vs (nb ρ6 7) 1 (aZ ρ6 7))) (x':=oT k wd (some ⟨nb ρ6 7,0,none⟩) (aZ ρ6 7)) ap2_1 (by decide) (by kernel_rfl)) (one_set (o:=43) (v:=vz) (x':=pT k wd) ap6_7 (by decide) (by kernel_rfl)) (pT_ok hk hd)⟩)
theorem eX {s:Mk} (h:s.can=true):0<s.ts.length:=by
  unfold Mk.can at h
  simp only [Bool.and_eq_true,decide_eq_true_eq] at h
  exact h.1
theorem vV {s:Mk} (h:s.can=true):o7 s.fst.kd s.fst.m s.fst.nu s.fst.h s.fst.ks.length:=by
  unfold Mk.can at h
  simp only [Bool.and_eq_true] at h
  exact (fd_iff _ _ _ _ _).1 h.2.1
theorem fE {s:Mk} (h:s.can=true):s.fst.ks.length≤s.ns.length:=by
  unfold Mk.can at h
  simp only [Bool.and_eq_true,decide_eq_true_eq] at h
  exact h.2.2
theorem gU_take {ns:List Nat} {n:Nat} (h:0<n):gU (ns.take n) 0=ns.getD 0 0:=by
  cases ns with
  | nil=>simp [gU]
  | cons x r => cases n with
    | zero=>omega
    | succ n=>rfl
theorem bM.go {w:World} {s:Mk} (hc:s.can=true) (h:bM w s.ta s.tc s.ts):bM w s.go.ta s.go.tc s.go.ts:=h.tail (eX hc)
theorem Us.go {w:World} {s:Mk} (hc:s.can=true) (h:Us w s.ka s.kc s.ns):Us w s.go.ka s.go.kc s.go.ns:=h.drop (fE hc)
structure Left (s s':Mk):Prop where
  t:∀ w,bM w s.ta s.tc s.ts→bM w s'.ta s'.tc s'.ts
  u:∀ w,Us w s.ka s.kc s.ns→Us w s'.ka s'.kc s'.ns
  m:∀ x∈s'.ts,x∈s.ts
theorem Left.go {s:Mk} (hc:s.can=true):Left s s.go:=⟨fun _=>bM.go hc,fun _=>Us.go hc,fun _ hx=>List.mem_of_mem_tail hx⟩
theorem Left.trans {a b c:Mk} (h:Left a b) (k:Left b c):Left a c:=⟨fun w x=>k.t w (h.t w x),fun w x=>k.u w (h.u w x),fun x hx=>h.m x (k.m x hx)⟩
theorem nx_left : ∀ (f : Nat) (s : Mk) (b : List UInt8) (s' : Mk), nx f s = some (b, s') → Left s s'
  | 0,_,_,_,h=>by simp [nx] at h
  | f + 1, s, b, s', h => by
    unfold nx at h
    split at h
    · exact absurd h (by simp)
    rename_i hc
    have hg:=Left.go (s:=s) (by simpa using hc)
    split at h
    · simp only [Option.some.injEq,Prod.mk.injEq] at h;rw [← h.2];exact hg
    split at h
    · simp only [Option.some.injEq,Prod.mk.injEq] at h;rw [← h.2];exact hg
    split at h
    · exact absurd h (by simp)
    rename_i a s1 e1
    have h1:=hg.trans (nx_left f _ _ _ e1)
    split at h
    · simp only [Option.some.injEq,Prod.mk.injEq] at h;rw [← h.2];exact h1
    split at h
    · simp only [Option.some.injEq,Prod.mk.injEq] at h;rw [← h.2];exact h1
    split at h
    · simp only [Option.some.injEq,Prod.mk.injEq] at h;rw [← h.2];exact h1
    split at h
    · split at h
      · exact absurd h (by simp)
      · rename_i b2 s2 e2
        simp only [Option.some.injEq,Prod.mk.injEq] at h;rw [← h.2];exact h1.trans (nx_left f _ _ _ e2)
    · exact absurd h (by simp)
def nxS (s:Mk):Mk:=((nx 8 s).map (·.2)).getD s
theorem nxS_eq {s:Mk} {b:List UInt8} (h:∃ s',nx 8 s=some (b,s')):nx 8 s=some (b,nxS s):=by
  obtain ⟨s',h⟩:=h
  unfold nxS
  rw [h];rfl
section
variable {ts : List bW} {z : Int}
theorem ex_err (h:(kZ ts z != 0)=true):exE ts z=kZ ts z∧wG ts z=[]:=by
  have e:exE ts z=kZ ts z:=by unfold exE;rw [if_neg (iK h)]
  exact ⟨e,by unfold wG;rw [e,if_neg (iK h)]⟩
theorem wQ (h0:(kZ ts z != 0)=false) (h:decide (520<(((xP ts z).length:Nat):Int))=true):exE ts z=4∧wG ts z=[]:=by
  have:=of_decide_eq_true h
  have e:exE ts z=4:=by unfold exE;rw [if_pos (dD h0),if_pos (by omega)]
  exact ⟨e,by unfold wG;rw [e];rfl⟩
theorem ex_ok (h0:(kZ ts z != 0)=false) (h:decide (520<(((xP ts z).length:Nat):Int))=false):exE ts z=0∧wG ts z=xP ts z:=by
  have:=of_decide_eq_false h
  have e:exE ts z=0:=by unfold exE;rw [if_pos (dD h0),if_neg (by omega)]
  exact ⟨e,by unfold wG;rw [if_pos e]⟩
end
theorem wX (g:Nat) (n:Nat) (pa:Nat→Option Addr) (pc:Nat→Nat) (pB:Nat→List UInt8) (hn:n≤16) (hl:(mZ pB n).length≤140737488351232) (h0:0<(pB 0).length) (w0:World) (hf0:Kb w0 g (xO n pa pc pB)) (hf1:rO w0 n pa pc pB):Calls Tryz.prog 137 #[vs g n n] w0 (fun ε w'=>∃ α κ,ε=.returned (.slice α (mZ pB n).length κ)∧jG w0 w'∧Fs w0 w' α κ (mZ pB n)):=by
 refine Calls.of_ok (n:=17) (F:=(fun w=>Kb w g (xO n pa pc pB)∧rO w n pa pc pB∧True)) Tryz.func137 rfl rfl rfl (by simp) (hf0.pers0.and (hf1.pers0.and cO)) ?_
 refine jJ Tryz.f137 1 [0,2] [vz] (jJ Tryz.f137 1 [0,2,3] [vz] (aB (jJ Tryz.f137 3 [2,3,6,7,8] [vs g n n,vn n,vi 0] (aI ?_))))
 refine oL (σ:=Nat ⊕ (Nat × Nat × (List UInt8) × (Array Value) × Nat)) (fun s=>match s with | Sum.inl i=>[(2,vz),(3,vz),(6,(vs g n n)),(7,(vn n)),(8,(vn i))] | Sum.inr ⟨i,q,X,_,κ⟩=>[(2,vz),(3,(vs q X.length κ)),(6,(vs g n n)),(7,(vn n)),(8,(vn i))]) (fun s=>match s with | Sum.inl _=>[] | Sum.inr ⟨_,q,_,C,_⟩=>[(q,(cL C 5))]) (fun s=>match s with | Sum.inl i=>n-i | Sum.inr ⟨i,_,_,_,_⟩=>n-i)
   (fun s=>match s with | Sum.inl i=>(i≤n)∧(i=0) | Sum.inr ⟨i,_,X,C,κ⟩=>(i≤n)∧(X=mZ pB i)∧(Hd C X)∧(C.size=κ)∧(X.length≤κ)) (Sum.inl 0) (⟨Nat.zero_le _,rfl⟩) [] ?_
 rintro (i | ⟨i,q,X,C,κ⟩)
 ·
  rintro ⟨hi,h0i⟩
  change Ok Tryz.prog _ _ 17 [(2,vz),(3,vz),(6,(vs g n n)),(7,(vn n)),(8,(vn i))] _ [] (fun w=>Kb w g (xO n pa pc pB)∧rO w n pa pc pB∧True)
  refine jJ Tryz.f137 1 [2,3,6,7,8,9] [.bool (decide (((i:Nat):Int)<((n:Nat):Int)))] (aB ?_)
  refine oC (decide (((i:Nat):Int)<((n:Nat):Int))) (fun hb1=>?_) (fun hb1=>?_)
  ·
   rw [hb1]
   have:=yT hb1
   refine aG (aA (aB (aI ?_)))
   refine sS Tryz.f137 3 [2,3,5,6,7,8] [] (fun _=>let qa:Value:=.slice (pa i) (pB i).length (pc i);[jp g i,qa,qa]) (fun _=>[]) (cX (qS (fun _ w=>sO (g:=g) (c:=n) (k:=.i64) Tryz.underlying29 Tryz.sizeOf37 (show ((i:Nat):Int)=((i:Nat):Int) from rfl) (show i<n from (by omega)) w))<|cX (qF (v:=fun ρ=>(.slice (pa i) (pB i).length (pc i))) (fun _ _ _ hG=>mY (off:=i) Tryz.isAgg37 hG.fn.1 (uX (by omega))))<|jE [[]]) (fun _=>?_)
   refine rS Tryz.f137 4 [2,3,6,7,8] [] (fun ρ=>let qa:=vs (nb ρ 2) (pB i).length ((pB i).length+aZ ρ 2);[vz,.slice (pa i) (pB i).length (pc i),qa,qa]) (fun ρ=>[(2,(nw ρ 2 (cL ((bs (pB i)).toArray++zB (aZ ρ 2)) 5)))]) (cR [[],[]]<|cX (qN (fun _ ζ=>(vs (ζ.headD 0) (pB i).length ((pB i).length+ζ.tail.headD 0))) (fun _ ζ=>(cL ((bs (pB i)).toArray++zB (ζ.tail.headD 0)) 5)) (fun _ _ _ hG=>oU (ty:=37) Tryz.underlying37 nH (Bs.src (tx:=37) Tryz.underlying37 (hG.fn.2.1 i (by omega))) (by rw [h0i];exact h0) (by have h1:=(sH pB (show i<n by omega));omega)))<|jE [[]]) (fun ρ6=>?_)
   refine aJ (aA ?_)
   refine rS Tryz.f137 2 [2,3,6,7,8] [] (fun _=>[vn (i+1),vn (i+1)]) (fun _=>[]) (jW (fun ρ=>(((i:Nat):Int)+1)) (fun _=>(i+1)) (fun _=>(aW i 1 (by omega)))<|jE [[]]) (fun _=>?_)
   exact mN (Sum.inr (i+1,nb ρ6 2,pB i,(bs (pB i)).toArray++zB (aZ ρ6 2),(pB i).length+aZ ρ6 2)) (by show n-(i+1)<n-i;omega) (⟨(by omega),(by rw [h0i];rfl),Hd.fresh _ _,oQ _ _,Nat.le_add_right _ _⟩) []
  rw [hb1]
  refine bF (aN (aN (aT (aA (jJ Tryz.f137 2 [2] [vz,vz] (aF (mD [(2,vz)] [] ?_)))))))
  exact mR (v:=vz) (fun _ hS=>⟨none,0,congrArg Ending.returned (by rw [← (show ([]:List UInt8)=mZ pB n by rw [show n=0 by have:=yF hb1;omega];rfl)];rfl),hS.bel,dU (show ([]:List UInt8)=mZ pB n by rw [show n=0 by have:=yF hb1;omega];rfl) Fs.nil⟩)
 rintro ⟨hi,hX,hC,hs,hle⟩
 change Ok Tryz.prog _ _ 17 [(2,vz),(3,(vs q X.length κ)),(6,(vs g n n)),(7,(vn n)),(8,(vn i))] _ [(q,(cL C 5))] (fun w=>Kb w g (xO n pa pc pB)∧rO w n pa pc pB∧True)
 refine jJ Tryz.f137 1 [2,3,6,7,8,9] [.bool (decide (((i:Nat):Int)<((n:Nat):Int)))] (aB ?_)
 refine oC (decide (((i:Nat):Int)<((n:Nat):Int))) (fun hb2=>?_) (fun hb2=>?_)
 ·
  rw [hb2]
  have:=yT hb2
  refine aG (aA (aB (aI ?_)))
  refine sS Tryz.f137 3 [2,3,5,6,7,8] [] (fun _=>let qa:Value:=.slice (pa i) (pB i).length (pc i);[jp g i,qa,qa]) (fun _=>[]) (cX (qS (fun _ w=>sO (g:=g) (c:=n) (k:=.i64) Tryz.underlying29 Tryz.sizeOf37 (show ((i:Nat):Int)=((i:Nat):Int) from rfl) (show i<n from (by omega)) w))<|cX (qF (v:=fun ρ=>(.slice (pa i) (pB i).length (pc i))) (fun _ _ _ hG=>mY (off:=i) Tryz.isAgg37 hG.fn.1 (uX (by omega))))<|jE [[]]) (fun _=>?_)
  refine rSf Tryz.f137 4 [2,3,6,7,8] [] (fun ρ=>let qa:=vs (nb ρ 2) (X++(pB i)).length (aZ ρ 2);[vs q X.length κ,.slice (pa i) (pB i).length (pc i),qa,qa]) (fun ρ=>[(2,(bD 0 (nb ρ 2) (cL (oc ρ 2) 5)))]) (fun ρ=>[(2,fun w=>Ap (oc ρ 2) (X++(pB i)) (aZ ρ 2))]) (fun _=>(fun w=>Kb w g (xO n pa pc pB)∧rO w n pa pc pB∧True)) (fun ρ=>Ap (oc ρ 2) (X++(pB i)) (aZ ρ 2)) (fun _ _ hF hf=>⟨hF,hf 2⟩) (cR [[],[]]<|cX (qM 0 (fun _ _ _ hG hg=>app_any (ty:=37) (g:=q) (C:=C) (c:=κ) (xs:=X) Tryz.underlying37 nH (Ap.mk' hC hle (by rw [hX];exact Nat.le_trans (catB_le pB hi) hl) hs) (Bs.src (tx:=37) Tryz.underlying37 (hG.fn.2.1 i (by omega))) (by have h1:=(sH pB (show i<n by omega));rw [← hX] at h1;exact Nat.le_trans h1 hl) hg))<|jE [[]]) (fun ρ11 ap11_2=>?_)
  refine aJ (aA ?_)
  refine rS Tryz.f137 2 [2,3,6,7,8] [] (fun _=>[vn (i+1),vn (i+1)]) (fun _=>[]) (jW (fun ρ=>(((i:Nat):Int)+1)) (fun _=>(i+1)) (fun _=>(aW i 1 (by omega)))<|jE [[]]) (fun _=>?_)
  exact mN (Sum.inr (i+1,nb ρ11 2,X++(pB i),oc ρ11 2,aZ ρ11 2)) (by show n-(i+1)<n-i;omega) (⟨(by omega),(by rw [hX];rfl),ap11_2.hd,ap11_2.size,ap11_2.le⟩) []
 rw [hb2]
 refine bF (aN (aN (aT (aA (jJ Tryz.f137 2 [2] [vs q X.length κ,vs q X.length κ] (aF (mD [(2,(vs q X.length κ))] [(q,(cL C 5))] ?_)))))))
 exact mR (v:=(vs q X.length κ)) (fun _ hS=>⟨some ⟨q,0,none⟩,κ,congrArg Ending.returned (by rw [← (show X=mZ pB n from hX.trans (by rw [show i=n by have:=yF hb2;omega]))]),hS.bel,dU (show X=mZ pB n from hX.trans (by rw [show i=n by have:=yF hb2;omega])) (hS.fresh (.head _) hC hle (by rw [hX];exact Nat.le_trans (catB_le pB hi) hl))⟩)
theorem scrow2_any (g:Nat) (a0:Option Addr) (c0:Nat) (B0:List UInt8) (a1:Option Addr) (c1:Nat) (B1:List UInt8) (hl:B0.length+B1.length≤140737488351232) (h0:0<B0.length) (w0:World) (hf0:Kb w0 g #[.slice a0 B0.length c0,.slice a1 B1.length c1]) (hf1:Bs w0 a0 c0 B0) (hf2:Bs w0 a1 c1 B1):Calls Tryz.prog 137 #[.slice (some ⟨g,0,none⟩) 2 2] w0 (fun ε w'=>∃ α κ,ε=.returned (.slice α (B0++B1).length κ)∧jG w0 w'∧Fs w0 w' α κ (B0++B1)):=wX g 2 (fun k=>[a0,a1].getD k none) (fun k=>[c0,c1].getD k 0) (fun k=>[B0,B1].getD k []) (by decide) (by show (([]++B0)++B1).length≤_;simp only [List.length_append,List.length_nil];omega) h0 w0 hf0 (allB2 hf1 hf2)
theorem scrow3_any (g:Nat) (a0:Option Addr) (c0:Nat) (B0:List UInt8) (a1:Option Addr) (c1:Nat) (B1:List UInt8) (a2:Option Addr) (c2:Nat) (B2:List UInt8) (hl:B0.length+B1.length+B2.length≤140737488351232) (h0:0<B0.length) (w0:World) (hf0:Kb w0 g #[.slice a0 B0.length c0,.slice a1 B1.length c1,.slice a2 B2.length c2]) (hf1:Bs w0 a0 c0 B0) (hf2:Bs w0 a1 c1 B1) (hf3:Bs w0 a2 c2 B2):Calls Tryz.prog 137 #[.slice (some ⟨g,0,none⟩) 3 3] w0 (fun ε w'=>∃ α κ,ε=.returned (.slice α ((B0++B1)++B2).length κ)∧jG w0 w'∧Fs w0 w' α κ ((B0++B1)++B2)):=wX g 3 (fun k=>[a0,a1,a2].getD k none) (fun k=>[c0,c1,c2].getD k 0) (fun k=>[B0,B1,B2].getD k []) (by decide) (by show ((([]++B0)++B1)++B2).length≤_;simp only [List.length_append,List.length_nil];omega) h0 w0 hf0 (allB3 hf1 hf2 hf3)
theorem scrow4_any (g:Nat) (a0:Option Addr) (c0:Nat) (B0:List UInt8) (a1:Option Addr) (c1:Nat) (B1:List UInt8) (a2:Option Addr) (c2:Nat) (B2:List UInt8) (a3:Option Addr) (c3:Nat) (B3:List UInt8) (hl:B0.length+B1.length+B2.length+B3.length≤140737488351232) (h0:0<B0.length) (w0:World) (hf0:Kb w0 g #[.slice a0 B0.length c0,.slice a1 B1.length c1,.slice a2 B2.length c2,.slice a3 B3.length c3]) (hf1:Bs w0 a0 c0 B0) (hf2:Bs w0 a1 c1 B1) (hf3:Bs w0 a2 c2 B2) (hf4:Bs w0 a3 c3 B3):Calls Tryz.prog 137 #[.slice (some ⟨g,0,none⟩) 4 4] w0 (fun ε w'=>∃ α κ,ε=.returned (.slice α (((B0++B1)++B2)++B3).length κ)∧jG w0 w'∧Fs w0 w' α κ (((B0++B1)++B2)++B3)):=wX g 4 (fun k=>[a0,a1,a2,a3].getD k none) (fun k=>[c0,c1,c2,c3].getD k 0) (fun k=>[B0,B1,B2,B3].getD k []) (by decide) (by show (((([]++B0)++B1)++B2)++B3).length≤_;simp only [List.length_append,List.length_nil];omega) h0 w0 hf0 (allB4 hf1 hf2 hf3 hf4)
theorem scrow5_any (g:Nat) (a0:Option Addr) (c0:Nat) (B0:List UInt8) (a1:Option Addr) (c1:Nat) (B1:List UInt8) (a2:Option Addr) (c2:Nat) (B2:List UInt8) (a3:Option Addr) (c3:Nat) (B3:List UInt8) (a4:Option Addr) (c4:Nat) (B4:List UInt8) (hl:B0.length+B1.length+B2.length+B3.length+B4.length≤140737488351232) (h0:0<B0.length) (w0:World) (hf0:Kb w0 g #[.slice a0 B0.length c0,.slice a1 B1.length c1,.slice a2 B2.length c2,.slice a3 B3.length c3,.slice a4 B4.length c4]) (hf1:Bs w0 a0 c0 B0) (hf2:Bs w0 a1 c1 B1) (hf3:Bs w0 a2 c2 B2) (hf4:Bs w0 a3 c3 B3) (hf5:Bs w0 a4 c4 B4):Calls Tryz.prog 137 #[.slice (some ⟨g,0,none⟩) 5 5] w0 (fun ε w'=>∃ α κ,ε=.returned (.slice α ((((B0++B1)++B2)++B3)++B4).length κ)∧jG w0 w'∧Fs w0 w' α κ ((((B0++B1)++B2)++B3)++B4)):=wX g 5 (fun k=>[a0,a1,a2,a3,a4].getD k none) (fun k=>[c0,c1,c2,c3,c4].getD k 0) (fun k=>[B0,B1,B2,B3,B4].getD k []) (by decide) (by show ((((([]++B0)++B1)++B2)++B3)++B4).length≤_;simp only [List.length_append,List.length_nil];omega) h0 w0 hf0 (allB5 hf1 hf2 hf3 hf4 hf5)
theorem push_any (a:Option Addr) (c:Nat) (B:List UInt8) (hl:B.length≤255) (w0:World) (hf0:Bs w0 a c B):Calls Tryz.prog 138 #[.slice a B.length c] w0 (fun ε w'=>∃ α κ,ε=.returned (.slice α (bQ B).length κ)∧jG w0 w'∧Fs w0 w' α κ (bQ B)):=by
 refine Calls.of_ok (n:=10) (F:=(fun w=>Bs w a c B∧True)) Tryz.func138 rfl rfl rfl (by simp) (hf0.pers0.and cO) ?_
 refine jJ Tryz.f138 1 [0,2] [vz] ?_
 refine iZ Tryz.f138 8 [2] [0,0] (fun ρ=>let qa:=([ob 1,ob ((B.length:Nat):Int)]:List UInt8);let qb:Value:=.slice (oa ρ 6) (qa++B).length (nb ρ 6);[.slice a B.length c,vn B.length,vy B.length,vs (nb ρ 3) qa.length 2,.slice a B.length c,vs (nb ρ 5) 2 2,qb,qb]) (fun ρ=>[(3,(nw ρ 3 (cL #[.int .u8 1,vy B.length] 5))),(5,(nw ρ 5 (cL #[vs (nb ρ 3) ([ob 1,ob ((B.length:Nat):Int)]:List UInt8).length 2,.slice a B.length c] 37)))]) (fun ρ=>[(6,fun w=>Fs w0 w (oa ρ 6) (nb ρ 6) (([ob 1,ob ((B.length:Nat):Int)]:List UInt8)++B))]) (fun ρ=>(fun w=>Bs w a c B∧Fs w0 w (oa ρ 6) (nb ρ 6) (([ob 1,ob ((B.length:Nat):Int)]:List UInt8)++B)∧True)) (fun _=>True) (fun _ _ hF hf=>⟨⟨hF.1,hf 6,trivial⟩,trivial⟩) (cR [[],[]]<|cA (v:=fun ρ=>(.int .u8 (IntKind.u8.wrap ((B.length:Nat):Int)))) (fun _=>(vy B.length)) (fun _=>congrArg (Value.int .u8) (u8N (by omega)))<|cR [[],[],[]]<|cX (qB (fun ρ _ w hG=>scrow2_any (nb ρ 5) (some ⟨nb ρ 3,0,none⟩) 2 ([ob 1,ob ((B.length:Nat):Int)]:List UInt8) a c B (by simp only [List.length_cons,List.length_nil];omega) (Nat.zero_lt_succ _) w (Kb.of_block (hG.kn (g:=nb ρ 5) (o:=(cL #[vs (nb ρ 3) ([ob 1,ob ((B.length:Nat):Int)]:List UInt8).length 2,.slice a B.length c] 37)) 40)) (Bs.of_hd (hG.kn (g:=nb ρ 3) (o:=(cL #[.int .u8 1,vy B.length] 5)) 24) (hd2 (by decide) (by omega)) (Nat.le_refl 2) (Nat.le_of_ble_eq_true rfl)) hG.fn.1))<|jE [[]]) (fun ρ2 _=>?_)
 refine aF (mD [(2,(.slice (oa ρ2 6) (([ob 1,ob ((B.length:Nat):Int)]:List UInt8)++B).length (nb ρ2 6)))] [] ?_)
 exact mR (v:=(.slice (oa ρ2 6) (([ob 1,ob ((B.length:Nat):Int)]:List UInt8)++B).length (nb ρ2 6))) (fun _ hS=>⟨oa ρ2 6,nb ρ2 6,congrArg Ending.returned (rfl),hS.bel,dU (rfl) hS.facts.now.2.1⟩)
theorem item_any (n:Nat) (hn:n<4294967296) (w0:World):Calls Tryz.prog 140 #[vu n] w0 (fun ε w'=>∃ α κ,ε=.returned (.slice α (iU n).length κ)∧jG w0 w'∧Fs w0 w' α κ (iU n)):=by
 refine Calls.of_ok (n:=14) (F:=(fun _=>True)) Tryz.func140 rfl rfl rfl (by simp) jT ?_
 refine jJ Tryz.f140 1 [0,2] [vz] (jJ Tryz.f140 1 [0,2,3] [vz] (aB (aI ?_)))
 refine oL (σ:=Nat ⊕ (Nat × Nat × (List UInt8) × (Array Value) × Nat)) (fun s=>match s with | Sum.inl m=>[(0,(vu m)),(2,vz),(3,vz)] | Sum.inr ⟨m,q,X,_,κ⟩=>[(0,(vu m)),(2,vz),(3,(vs q X.length κ))]) (fun s=>match s with | Sum.inl _=>[] | Sum.inr ⟨_,q,_,C,_⟩=>[(q,(cL C 5))]) (fun s=>match s with | Sum.inl m=>m | Sum.inr ⟨m,_,_,_,_⟩=>m)
   (fun s=>match s with | Sum.inl m=>(m=n) | Sum.inr ⟨m,_,X,C,κ⟩=>(X.length≤4)∧(m<2^(8*(4-X.length)))∧(X++itF (4-X.length) m=iU n)∧(Hd C X)∧(C.size=κ)∧(X.length≤κ)) (Sum.inl n) (rfl) [] ?_
 rintro (m | ⟨m,q,X,C,κ⟩)
 ·
  rintro hm0
  change Ok Tryz.prog _ _ 14 [(0,(vu m)),(2,vz),(3,vz)] _ [] (fun _=>True)
  refine aB (jJ Tryz.f140 2 [0,2,3,5] [vu m,.bool (decide (0<((m:Nat):Int)))] ?_)
  refine oC (decide (0<((m:Nat):Int))) (fun hb1=>?_) (fun hb1=>?_)
  ·
   rw [hb1]
   refine aG (aA (aB (aI ?_)))
   refine rS Tryz.f140 6 [0,2,3] [0,1] (fun ρ=>let qa:=([ob ((m%256:Nat):Int)]:List UInt8);let qb:=vs (nb ρ 4) qa.length (qa.length+aZ ρ 4);[vz,vu m,vy (m%256),vs (nb ρ 3) qa.length 1,qb,qb]) (fun ρ=>[(3,(nw ρ 3 (cL #[vy (m%256)] 5))),(4,(nw ρ 4 (cL ((bs ([ob ((m%256:Nat):Int)]:List UInt8)).toArray++zB (aZ ρ 4)) 5)))]) (cR [[],[]]<|cA (fun _=>(vy (m%256))) (fun _=>congrArg (Value.int .u8) (u8M m))<|cR [[]]<|cX (qN (fun _ ζ=>(vs (ζ.headD 0) ([ob ((m%256:Nat):Int)]:List UInt8).length (([ob ((m%256:Nat):Int)]:List UInt8).length+ζ.tail.headD 0))) (fun _ ζ=>(cL ((bs ([ob ((m%256:Nat):Int)]:List UInt8)).toArray++zB (ζ.tail.headD 0)) 5)) (fun ρ _ _ hG=>oU (ty:=37) Tryz.underlying37 nH (Bs.src (tx:=37) Tryz.underlying37 (Bs.of_hd (hG.kn (g:=nb ρ 3) (o:=(cL #[vy (m%256)] 5)) 24) (hd1 (by omega)) (Nat.le_refl 1) (Nat.le_of_ble_eq_true rfl))) (Nat.zero_lt_succ _) (Nat.le_of_ble_eq_true rfl)))<|jE [[]]) (fun ρ4=>?_)
   refine aJ (aA ?_)
   refine rS Tryz.f140 3 [0,2,3] [] (fun _=>[vu m,vu (m / 2^8),vu (m / 2^8)]) (fun _=>[]) (cR [[]]<|cB (a:=fun ρ=>(vu m)) (b:=fun ρ=>(.int .u64 8)) (v:=fun ρ=>(vu (m / 2^8))) .shr 55 (fun _ w=>gG (k:=.u32) (x:=m) (c:=8) (by rw [hm0];exact hn) w)<|jE [[]]) (fun _=>?_)
   exact mN (Sum.inr (m / 2^8,nb ρ4 4,([ob ((m%256:Nat):Int)]:List UInt8),(bs ([ob ((m%256:Nat):Int)]:List UInt8)).toArray++zB (aZ ρ4 4),([ob ((m%256:Nat):Int)]:List UInt8).length+aZ ρ4 4)) (it_lt hb1) (⟨(lY (X:=[]) hb1 (by decide) (by rw [hm0];exact Nat.lt_of_lt_of_le hn (by decide)) (by rw [hm0]<;>rfl)).1,(lY (X:=[]) hb1 (by decide) (by rw [hm0];exact Nat.lt_of_lt_of_le hn (by decide)) (by rw [hm0]<;>rfl)).2.1,(lY (X:=[]) hb1 (by decide) (by rw [hm0];exact Nat.lt_of_lt_of_le hn (by decide)) (by rw [hm0]<;>rfl)).2.2,Hd.fresh _ _,oQ _ _,Nat.le_add_right _ _⟩) []
  rw [hb1]
  refine bF (aN (aN (aT (aA (jJ Tryz.f140 2 [2] [vz,vz] (aF (mD [(2,vz)] [] ?_)))))))
  exact mR (v:=vz) (fun _ hS=>⟨none,0,congrArg Ending.returned (by rw [← (show ([]:List UInt8)=iU n by rw [← hm0];exact (itF_z hb1).symm)]<;>rfl),hS.bel,dU (show ([]:List UInt8)=iU n by rw [← hm0];exact (itF_z hb1).symm) Fs.nil⟩)
 rintro ⟨hX4,hmb,hE,hC,hs,hle⟩
 change Ok Tryz.prog _ _ 14 [(0,(vu m)),(2,vz),(3,(vs q X.length κ))] _ [(q,(cL C 5))] (fun _=>True)
 refine aB (jJ Tryz.f140 2 [0,2,3,5] [vu m,.bool (decide (0<((m:Nat):Int)))] ?_)
 refine oC (decide (0<((m:Nat):Int))) (fun hb2=>?_) (fun hb2=>?_)
 ·
  rw [hb2]
  refine aG (aA (aB (aI ?_)))
  refine rSf Tryz.f140 6 [0,2,3] [1,0] (fun ρ=>let qa:=([ob ((m%256:Nat):Int)]:List UInt8);let qb:=vs (nb ρ 4) (X++qa).length (aZ ρ 4);[vs q X.length κ,vu m,vy (m%256),vs (nb ρ 3) qa.length 1,qb,qb]) (fun ρ=>[(3,(nw ρ 3 (cL #[vy (m%256)] 5))),(4,(bD 0 (nb ρ 4) (cL (oc ρ 4) 5)))]) (fun ρ=>[(4,fun w=>Ap (oc ρ 4) (X++([ob ((m%256:Nat):Int)]:List UInt8)) (aZ ρ 4))]) (fun _=>(fun _=>True)) (fun ρ=>Ap (oc ρ 4) (X++([ob ((m%256:Nat):Int)]:List UInt8)) (aZ ρ 4)) (fun _ _ hF hf=>⟨hF,hf 4⟩) (cR [[],[]]<|cA (fun _=>(vy (m%256))) (fun _=>congrArg (Value.int .u8) (u8M m))<|cR [[]]<|cX (qM 0 (fun ρ _ _ hG hg=>app_any (ty:=37) (g:=q) (C:=C) (c:=κ) (xs:=X) Tryz.underlying37 nH (Ap.mk' hC hle (Nat.le_trans hX4 (by decide)) hs) (Bs.src (tx:=37) Tryz.underlying37 (Bs.of_hd (hG.kn (g:=nb ρ 3) (o:=(cL #[vy (m%256)] 5)) 25) (hd1 (by omega)) (Nat.le_refl 1) (Nat.le_of_ble_eq_true rfl))) (by simp only [List.length_cons,List.length_nil];omega) hg))<|jE [[]]) (fun ρ8 ap8_4=>?_)
  refine aJ (aA ?_)
  refine rS Tryz.f140 3 [0,2,3] [] (fun _=>[vu m,vu (m / 2^8),vu (m / 2^8)]) (fun _=>[]) (cR [[]]<|cB (a:=fun ρ=>(vu m)) (b:=fun ρ=>(.int .u64 8)) (v:=fun ρ=>(vu (m / 2^8))) .shr 55 (fun _ w=>gG (k:=.u32) (x:=m) (c:=8) (it_32 hmb) w)<|jE [[]]) (fun _=>?_)
  exact mN (Sum.inr (m / 2^8,nb ρ8 4,X++([ob ((m%256:Nat):Int)]:List UInt8),oc ρ8 4,aZ ρ8 4)) (it_lt hb2) (⟨(lY hb2 hX4 hmb hE).1,(lY hb2 hX4 hmb hE).2.1,(lY hb2 hX4 hmb hE).2.2,ap8_4.hd,ap8_4.size,ap8_4.le⟩) []
 rw [hb2]
 refine bF (aN (aN (aT (aA (jJ Tryz.f140 2 [2] [vs q X.length κ,vs q X.length κ] (aF (mD [(2,(vs q X.length κ))] [(q,(cL C 5))] ?_)))))))
 exact mR (v:=(vs q X.length κ)) (fun _ hS=>⟨some ⟨q,0,none⟩,κ,congrArg Ending.returned (by rw [← (show X=iU n by rw [← hE,itF_z hb2];exact (List.append_nil X).symm)]<;>rfl),hS.bel,dU (show X=iU n by rw [← hE,itF_z hb2];exact (List.append_nil X).symm) (hS.fresh (.head _) hC hle (Nat.le_trans hX4 (by decide)))⟩)
theorem single_any (p:Nat) (_hp:p<M) (w0:World):Calls Tryz.prog 106 #[U p] w0 (fun ε w'=>∃ α κ,ε=.returned (.slice α (sgB p).length κ)∧jG w0 w'∧Fs w0 w' α κ (sgB p)):=by
 refine Calls.of_ok (n:=11) (F:=(fun _=>True)) Tryz.func106 rfl rfl rfl (by simp) jT ?_
 refine sS Tryz.f106 2 [1,2] [] (fun ρ=>[pt (nb ρ 0),vz]) (fun ρ=>[(0,(nw ρ 0 (cL (cU p) 64)))]) (jE [[],[]]) (fun _=>?_)
 refine sS Tryz.f106 4 [2,3] [0,1] (fun ρ=>[U p,.agg (hB p),pt (nb ρ 2),undef]) (fun ρ=>[(2,(nw ρ 2 (cL (hB 0) 57))),(3,(bD 17 (nb ρ 2) (cL (hB p) 57)))]) (cR [[0]]<|cC (fun _ w=>pW p w)<|jE [[],[17]]) (fun ρ2=>?_)
 refine iZ Tryz.f106 6 [2] [0,0,0] (fun ρ=>let qa:Value:=.slice (oa ρ 4) ((bQ (hL p))++([10]:List UInt8)).length (nb ρ 4);[vs (nb ρ2 2) (hL p).length 32,.slice (oa ρ 1) (bQ (hL p)).length (nb ρ 1),vs (nb ρ 2) ([10]:List UInt8).length 1,vs (nb ρ 3) 2 2,qa,qa]) (fun ρ=>[(2,(nw ρ 2 (cL #[.int .u8 10] 5))),(3,(nw ρ 3 (cL #[.slice (oa ρ 1) (bQ (hL p)).length (nb ρ 1),vs (nb ρ 2) ([10]:List UInt8).length 1] 37)))]) (fun ρ=>[(1,fun w=>Fs w0 w (oa ρ 1) (nb ρ 1) (bQ (hL p))),(4,fun w=>Fs w0 w (oa ρ 4) (nb ρ 4) ((bQ (hL p))++([10]:List UInt8)))]) (fun ρ=>(fun w=>Fs w0 w (oa ρ 1) (nb ρ 1) (bQ (hL p))∧Fs w0 w (oa ρ 4) (nb ρ 4) ((bQ (hL p))++([10]:List UInt8))∧True)) (fun _=>True) (fun _ _ _ hf=>⟨⟨hf 1,hf 4,trivial⟩,trivial⟩) (cR [[]]<|cX (qB (fun _ _ w hG=>push_any (some ⟨nb ρ2 2,0,none⟩) 32 (hL p) (by rw [aO];decide) w (Bs.of_hd (c:=32) (hG.kn (g:=nb ρ2 2) (o:=(cL (hB p) 57)) 0) (nP _) (Nat.le_refl _) (Nat.le_of_ble_eq_true rfl))))<|cR [[],[]]<|cX (qB (fun ρ _ w hG=>scrow2_any (nb ρ 3) (oa ρ 1) (nb ρ 1) (bQ (hL p)) (some ⟨nb ρ 2,0,none⟩) 1 ([10]:List UInt8) (by simp only [List.length_cons,List.length_nil,eG,aO];omega) (qY _) w (Kb.of_block (hG.kn (g:=nb ρ 3) (o:=(cL #[.slice (oa ρ 1) (bQ (hL p)).length (nb ρ 1),vs (nb ρ 2) ([10]:List UInt8).length 1] 37)) 25)) (show Fs w0 w (oa ρ 1) (nb ρ 1) (bQ (hL p)) from (hG.facts 1 rfl).now).1 (Bs.of_hd (hG.kn (g:=nb ρ 2) (o:=(cL #[.int .u8 10] 5)) 17) (rfl:Hd #[.int .u8 10] ([10]:List UInt8)) (Nat.le_refl 1) (Nat.le_of_ble_eq_true rfl))))<|jE [[]]) (fun ρ3 _=>?_)
 refine aF (mD [(2,(.slice (oa ρ3 4) ((bQ (hL p))++([10]:List UInt8)).length (nb ρ3 4)))] [] ?_)
 exact mR (v:=(.slice (oa ρ3 4) ((bQ (hL p))++([10]:List UInt8)).length (nb ρ3 4))) (fun _ hS=>⟨oa ρ3 4,nb ρ3 4,congrArg Ending.returned (rfl),hS.bel,dU (rfl) hS.facts.now.2.1⟩)
theorem after_any (n:Nat) (a:Option Addr) (c:Nat) (B:List UInt8) (hn:n<4294967296) (hl:B.length≤1000000) (w0:World) (hf0:Bs w0 a c B):Calls Tryz.prog 108 #[vu n,.slice a B.length c] w0 (fun ε w'=>∃ α κ,ε=.returned (.slice α (afB n B).length κ)∧jG w0 w'∧Fs w0 w' α κ (afB n B)):=by
 refine Calls.of_ok (n:=12) (F:=(fun w=>Bs w a c B∧True)) Tryz.func108 rfl rfl rfl (by simp) (hf0.pers0.and cO) ?_
 refine jJ Tryz.f108 1 [0,1,4] [vz] ?_
 refine iZ Tryz.f108 8 [4] [0,0] (fun ρ=>let qa:Value:=.slice (oa ρ 6) (((bQ (iU n))++([12,3]:List UInt8))++B).length (nb ρ 6);[vu n,.slice (oa ρ 1) (iU n).length (nb ρ 1),.slice (oa ρ 2) (bQ (iU n)).length (nb ρ 2),vs (nb ρ 3) ([12,3]:List UInt8).length 2,.slice a B.length c,vs (nb ρ 5) 3 3,qa,qa]) (fun ρ=>[(3,(nw ρ 3 (cL #[.int .u8 12,.int .u8 3] 5))),(5,(nw ρ 5 (cL #[.slice (oa ρ 2) (bQ (iU n)).length (nb ρ 2),vs (nb ρ 3) ([12,3]:List UInt8).length 2,.slice a B.length c] 37)))]) (fun ρ=>[(1,fun w=>Fs w0 w (oa ρ 1) (nb ρ 1) (iU n)),(2,fun w=>Fs w0 w (oa ρ 2) (nb ρ 2) (bQ (iU n))),(6,fun w=>Fs w0 w (oa ρ 6) (nb ρ 6) (((bQ (iU n))++([12,3]:List UInt8))++B))]) (fun ρ=>(fun w=>Bs w a c B∧Fs w0 w (oa ρ 1) (nb ρ 1) (iU n)∧Fs w0 w (oa ρ 2) (nb ρ 2) (bQ (iU n))∧Fs w0 w (oa ρ 6) (nb ρ 6) (((bQ (iU n))++([12,3]:List UInt8))++B)∧True)) (fun _=>True) (fun _ _ hF hf=>⟨⟨hF.1,hf 1,hf 2,hf 6,trivial⟩,trivial⟩) (cR [[]]<|cX (qB (fun _ _ w _=>item_any n hn w))<|cX (qB (fun ρ _ w hG=>push_any (oa ρ 1) (nb ρ 1) (iU n) (by have:=pO n;omega) w (show Fs w0 w (oa ρ 1) (nb ρ 1) (iU n) from (hG.facts 1 rfl).now).1))<|cR [[],[],[]]<|cX (qB (fun ρ _ w hG=>scrow3_any (nb ρ 5) (oa ρ 2) (nb ρ 2) (bQ (iU n)) (some ⟨nb ρ 3,0,none⟩) 2 ([12,3]:List UInt8) a c B (by simp only [List.length_cons,List.length_nil,eG];have:=pO n;omega) (qY _) w (Kb.of_block (hG.kn (g:=nb ρ 5) (o:=(cL #[.slice (oa ρ 2) (bQ (iU n)).length (nb ρ 2),vs (nb ρ 3) ([12,3]:List UInt8).length 2,.slice a B.length c] 37)) 40)) (show Fs w0 w (oa ρ 2) (nb ρ 2) (bQ (iU n)) from (hG.facts 2 rfl).now).1 (Bs.of_hd (hG.kn (g:=nb ρ 3) (o:=(cL #[.int .u8 12,.int .u8 3] 5)) 24) (rfl:Hd #[.int .u8 12,.int .u8 3] ([12,3]:List UInt8)) (Nat.le_refl 2) (Nat.le_of_ble_eq_true rfl)) hG.fn.1))<|jE [[]]) (fun ρ2 _=>?_)
 refine aF (mD [(4,(.slice (oa ρ2 6) (((bQ (iU n))++([12,3]:List UInt8))++B).length (nb ρ2 6)))] [] ?_)
 exact mR (v:=(.slice (oa ρ2 6) (((bQ (iU n))++([12,3]:List UInt8))++B).length (nb ρ2 6))) (fun _ hS=>⟨oa ρ2 6,nb ρ2 6,congrArg Ending.returned (rfl),hS.bel,dU (rfl) hS.facts.now.2.2.2.1⟩)
theorem older_any (n:Nat) (a:Option Addr) (c:Nat) (B:List UInt8) (hn:n<4294967296) (hl:B.length≤1000000) (w0:World) (hf0:Bs w0 a c B):Calls Tryz.prog 109 #[vu n,.slice a B.length c] w0 (fun ε w'=>∃ α κ,ε=.returned (.slice α (olB n B).length κ)∧jG w0 w'∧Fs w0 w' α κ (olB n B)):=by
 refine Calls.of_ok (n:=12) (F:=(fun w=>Bs w a c B∧True)) Tryz.func109 rfl rfl rfl (by simp) (hf0.pers0.and cO) ?_
 refine jJ Tryz.f109 1 [0,1,4] [vz] ?_
 refine iZ Tryz.f109 8 [4] [0,0] (fun ρ=>let qa:Value:=.slice (oa ρ 6) (((bQ (iU n))++([13,3]:List UInt8))++B).length (nb ρ 6);[vu n,.slice (oa ρ 1) (iU n).length (nb ρ 1),.slice (oa ρ 2) (bQ (iU n)).length (nb ρ 2),vs (nb ρ 3) ([13,3]:List UInt8).length 2,.slice a B.length c,vs (nb ρ 5) 3 3,qa,qa]) (fun ρ=>[(3,(nw ρ 3 (cL #[.int .u8 13,.int .u8 3] 5))),(5,(nw ρ 5 (cL #[.slice (oa ρ 2) (bQ (iU n)).length (nb ρ 2),vs (nb ρ 3) ([13,3]:List UInt8).length 2,.slice a B.length c] 37)))]) (fun ρ=>[(1,fun w=>Fs w0 w (oa ρ 1) (nb ρ 1) (iU n)),(2,fun w=>Fs w0 w (oa ρ 2) (nb ρ 2) (bQ (iU n))),(6,fun w=>Fs w0 w (oa ρ 6) (nb ρ 6) (((bQ (iU n))++([13,3]:List UInt8))++B))]) (fun ρ=>(fun w=>Bs w a c B∧Fs w0 w (oa ρ 1) (nb ρ 1) (iU n)∧Fs w0 w (oa ρ 2) (nb ρ 2) (bQ (iU n))∧Fs w0 w (oa ρ 6) (nb ρ 6) (((bQ (iU n))++([13,3]:List UInt8))++B)∧True)) (fun _=>True) (fun _ _ hF hf=>⟨⟨hF.1,hf 1,hf 2,hf 6,trivial⟩,trivial⟩) (cR [[]]<|cX (qB (fun _ _ w _=>item_any n hn w))<|cX (qB (fun ρ _ w hG=>push_any (oa ρ 1) (nb ρ 1) (iU n) (by have:=pO n;omega) w (show Fs w0 w (oa ρ 1) (nb ρ 1) (iU n) from (hG.facts 1 rfl).now).1))<|cR [[],[],[]]<|cX (qB (fun ρ _ w hG=>scrow3_any (nb ρ 5) (oa ρ 2) (nb ρ 2) (bQ (iU n)) (some ⟨nb ρ 3,0,none⟩) 2 ([13,3]:List UInt8) a c B (by simp only [List.length_cons,List.length_nil,eG];have:=pO n;omega) (qY _) w (Kb.of_block (hG.kn (g:=nb ρ 5) (o:=(cL #[.slice (oa ρ 2) (bQ (iU n)).length (nb ρ 2),vs (nb ρ 3) ([13,3]:List UInt8).length 2,.slice a B.length c] 37)) 40)) (show Fs w0 w (oa ρ 2) (nb ρ 2) (bQ (iU n)) from (hG.facts 2 rfl).now).1 (Bs.of_hd (hG.kn (g:=nb ρ 3) (o:=(cL #[.int .u8 13,.int .u8 3] 5)) 24) (rfl:Hd #[.int .u8 13,.int .u8 3] ([13,3]:List UInt8)) (Nat.le_refl 2) (Nat.le_of_ble_eq_true rfl)) hG.fn.1))<|jE [[]]) (fun ρ2 _=>?_)
 refine aF (mD [(4,(.slice (oa ρ2 6) (((bQ (iU n))++([13,3]:List UInt8))++B).length (nb ρ2 6)))] [] ?_)
 exact mR (v:=(.slice (oa ρ2 6) (((bQ (iU n))++([13,3]:List UInt8))++B).length (nb ρ2 6))) (fun _ hS=>⟨oa ρ2 6,nb ρ2 6,congrArg Ending.returned (rfl),hS.bel,dU (rfl) hS.facts.now.2.2.2.1⟩)
theorem hashed_any (h:Nat) (a:Option Addr) (c:Nat) (B:List UInt8) (_hh:h<M) (hl:B.length≤1000000) (w0:World) (hf0:Bs w0 a c B):Calls Tryz.prog 110 #[.agg (hB h),.slice a B.length c] w0 (fun ε w'=>∃ α κ,ε=.returned (.slice α (hsB h B).length κ)∧jG w0 w'∧Fs w0 w' α κ (hsB h B)):=by
 refine Calls.of_ok (n:=12) (F:=(fun w=>Bs w a c B∧True)) Tryz.func110 rfl rfl rfl (by simp) (hf0.pers0.and cO) ?_
 refine sS Tryz.f110 2 [1,2,4] [] (fun ρ=>[pt (nb ρ 0),vz]) (fun ρ=>[(0,(nw ρ 0 (cL (hB h) 57)))]) (jE [[],[]]) (fun ρ1=>?_)
 refine iZ Tryz.f110 8 [4] [0,0,0,0] (fun ρ=>let qa:Value:=.slice (oa ρ 6) (((([8]:List UInt8)++(bQ (hL h)))++([5,7]:List UInt8))++B).length (nb ρ 6);[vs (nb ρ 0) ([8]:List UInt8).length 1,vs (nb ρ1 0) (hL h).length 32,.slice (oa ρ 2) (bQ (hL h)).length (nb ρ 2),vs (nb ρ 3) ([5,7]:List UInt8).length 2,.slice a B.length c,vs (nb ρ 5) 4 4,qa,qa]) (fun ρ=>[(0,(nw ρ 0 (cL #[.int .u8 8] 5))),(3,(nw ρ 3 (cL #[.int .u8 5,.int .u8 7] 5))),(5,(nw ρ 5 (cL #[vs (nb ρ 0) ([8]:List UInt8).length 1,.slice (oa ρ 2) (bQ (hL h)).length (nb ρ 2),vs (nb ρ 3) ([5,7]:List UInt8).length 2,.slice a B.length c] 37)))]) (fun ρ=>[(2,fun w=>Fs w0 w (oa ρ 2) (nb ρ 2) (bQ (hL h))),(6,fun w=>Fs w0 w (oa ρ 6) (nb ρ 6) (((([8]:List UInt8)++(bQ (hL h)))++([5,7]:List UInt8))++B))]) (fun ρ=>(fun w=>Bs w a c B∧Fs w0 w (oa ρ 2) (nb ρ 2) (bQ (hL h))∧Fs w0 w (oa ρ 6) (nb ρ 6) (((([8]:List UInt8)++(bQ (hL h)))++([5,7]:List UInt8))++B)∧True)) (fun _=>True) (fun _ _ hF hf=>⟨⟨hF.1,hf 2,hf 6,trivial⟩,trivial⟩) (cR [[],[]]<|cX (qB (fun _ _ w hG=>push_any (some ⟨nb ρ1 0,0,none⟩) 32 (hL h) (by rw [aO];decide) w (Bs.of_hd (c:=32) (hG.kn (g:=nb ρ1 0) (o:=(cL (hB h) 57)) 0) (nP _) (Nat.le_refl _) (Nat.le_of_ble_eq_true rfl))))<|cR [[],[],[]]<|cX (qB (fun ρ _ w hG=>scrow4_any (nb ρ 5) (some ⟨nb ρ 0,0,none⟩) 1 ([8]:List UInt8) (oa ρ 2) (nb ρ 2) (bQ (hL h)) (some ⟨nb ρ 3,0,none⟩) 2 ([5,7]:List UInt8) a c B (by simp only [List.length_cons,List.length_nil,eG,aO];omega) (Nat.zero_lt_succ _) w (Kb.of_block (hG.kn (g:=nb ρ 5) (o:=(cL #[vs (nb ρ 0) ([8]:List UInt8).length 1,.slice (oa ρ 2) (bQ (hL h)).length (nb ρ 2),vs (nb ρ 3) ([5,7]:List UInt8).length 2,.slice a B.length c] 37)) 41)) (Bs.of_hd (hG.kn (g:=nb ρ 0) (o:=(cL #[.int .u8 8] 5)) 1) (rfl:Hd #[.int .u8 8] ([8]:List UInt8)) (Nat.le_refl 1) (Nat.le_of_ble_eq_true rfl)) (show Fs w0 w (oa ρ 2) (nb ρ 2) (bQ (hL h)) from (hG.facts 2 rfl).now).1 (Bs.of_hd (hG.kn (g:=nb ρ 3) (o:=(cL #[.int .u8 5,.int .u8 7] 5)) 25) (rfl:Hd #[.int .u8 5,.int .u8 7] ([5,7]:List UInt8)) (Nat.le_refl 2) (Nat.le_of_ble_eq_true rfl)) hG.fn.1))<|jE [[]]) (fun ρ2 _=>?_)
 refine aF (mD [(4,(.slice (oa ρ2 6) (((([8]:List UInt8)++(bQ (hL h)))++([5,7]:List UInt8))++B).length (nb ρ2 6)))] [] ?_)
 exact mR (v:=(.slice (oa ρ2 6) (((([8]:List UInt8)++(bQ (hL h)))++([5,7]:List UInt8))++B).length (nb ρ2 6))) (fun _ hS=>⟨oa ρ2 6,nb ρ2 6,congrArg Ending.returned (rfl),hS.bel,dU (rfl) hS.facts.now.2.2.1⟩)
theorem either_any (a:Option Addr) (c:Nat) (B:List UInt8) (a2:Option Addr) (c2:Nat) (S:List UInt8) (hl:B.length≤1000000) (hl2:S.length≤1000000) (w0:World) (hf0:Bs w0 a c B) (hf1:Bs w0 a2 c2 S):Calls Tryz.prog 111 #[.slice a B.length c,.slice a2 S.length c2] w0 (fun ε w'=>∃ α κ,ε=.returned (.slice α (eiB B S).length κ)∧jG w0 w'∧Fs w0 w' α κ (eiB B S)):=by
 refine Calls.of_ok (n:=12) (F:=(fun w=>Bs w a c B∧Bs w a2 c2 S∧True)) Tryz.func111 rfl rfl rfl (by simp) (hf0.pers0.and (hf1.pers0.and cO)) ?_
 refine jJ Tryz.f111 1 [0,1,4] [vz] ?_
 refine iZ Tryz.f111 8 [4] [0,0,0,0] (fun ρ=>let qa:Value:=.slice (oa ρ 6) ((((([14]:List UInt8)++B)++([15]:List UInt8))++S)++([16]:List UInt8)).length (nb ρ 6);[vs (nb ρ 0) ([14]:List UInt8).length 1,.slice a B.length c,vs (nb ρ 2) ([15]:List UInt8).length 1,.slice a2 S.length c2,vs (nb ρ 4) ([16]:List UInt8).length 1,vs (nb ρ 5) 5 5,qa,qa]) (fun ρ=>[(0,(nw ρ 0 (cL #[.int .u8 14] 5))),(2,(nw ρ 2 (cL #[.int .u8 15] 5))),(4,(nw ρ 4 (cL #[.int .u8 16] 5))),(5,(nw ρ 5 (cL #[vs (nb ρ 0) ([14]:List UInt8).length 1,.slice a B.length c,vs (nb ρ 2) ([15]:List UInt8).length 1,.slice a2 S.length c2,vs (nb ρ 4) ([16]:List UInt8).length 1] 37)))]) (fun ρ=>[(6,fun w=>Fs w0 w (oa ρ 6) (nb ρ 6) ((((([14]:List UInt8)++B)++([15]:List UInt8))++S)++([16]:List UInt8)))]) (fun ρ=>(fun w=>Bs w a c B∧Bs w a2 c2 S∧Fs w0 w (oa ρ 6) (nb ρ 6) ((((([14]:List UInt8)++B)++([15]:List UInt8))++S)++([16]:List UInt8))∧True)) (fun _=>True) (fun _ _ hF hf=>⟨⟨hF.1,hF.2.1,hf 6,trivial⟩,trivial⟩) (cR [[],[],[],[],[],[]]<|cX (qB (fun ρ _ w hG=>scrow5_any (nb ρ 5) (some ⟨nb ρ 0,0,none⟩) 1 ([14]:List UInt8) a c B (some ⟨nb ρ 2,0,none⟩) 1 ([15]:List UInt8) a2 c2 S (some ⟨nb ρ 4,0,none⟩) 1 ([16]:List UInt8) (by simp only [List.length_cons,List.length_nil];omega) (Nat.zero_lt_succ _) w (Kb.of_block (hG.kn (g:=nb ρ 5) (o:=(cL #[vs (nb ρ 0) ([14]:List UInt8).length 1,.slice a B.length c,vs (nb ρ 2) ([15]:List UInt8).length 1,.slice a2 S.length c2,vs (nb ρ 4) ([16]:List UInt8).length 1] 37)) 40)) (Bs.of_hd (hG.kn (g:=nb ρ 0) (o:=(cL #[.int .u8 14] 5)) 0) (rfl:Hd #[.int .u8 14] ([14]:List UInt8)) (Nat.le_refl 1) (Nat.le_of_ble_eq_true rfl)) hG.fn.1 (Bs.of_hd (hG.kn (g:=nb ρ 2) (o:=(cL #[.int .u8 15] 5)) 16) (rfl:Hd #[.int .u8 15] ([15]:List UInt8)) (Nat.le_refl 1) (Nat.le_of_ble_eq_true rfl)) hG.fn.2.1 (Bs.of_hd (hG.kn (g:=nb ρ 4) (o:=(cL #[.int .u8 16] 5)) 32) (rfl:Hd #[.int .u8 16] ([16]:List UInt8)) (Nat.le_refl 1) (Nat.le_of_ble_eq_true rfl))))<|jE [[]]) (fun ρ2 _=>?_)
 refine aF (mD [(4,(.slice (oa ρ2 6) ((((([14]:List UInt8)++B)++([15]:List UInt8))++S)++([16]:List UInt8)).length (nb ρ2 6)))] [] ?_)
 exact mR (v:=(.slice (oa ρ2 6) ((((([14]:List UInt8)++B)++([15]:List UInt8))++S)++([16]:List UInt8)).length (nb ρ2 6))) (fun _ hS=>⟨oa ρ2 6,nb ρ2 6,congrArg Ending.returned (rfl),hS.bel,dU (rfl) hS.facts.now.2.2.1⟩)
theorem known1_any  (w0:World):Calls Tryz.prog 182 #[vi 1] w0 (jR vT w0):=by
 refine Calls.of_ok (n:=9) (F:=(fun _=>True)) Tryz.func182 rfl rfl rfl (by simp) jT ?_
 refine jJ Tryz.f182 1 [0,2] [vF] (jJ Tryz.f182 7 [2] [vi 1,vT,vT,vi 1,vT,vT,vT] (aF ?_))
 exact mR (v:=vT) (fun _ hS=>⟨rfl,hS.bel⟩)
theorem known11_any  (w0:World):Calls Tryz.prog 182 #[vi 11] w0 (jR vT w0):=by
 refine Calls.of_ok (n:=9) (F:=(fun _=>True)) Tryz.func182 rfl rfl rfl (by simp) jT ?_
 refine jJ Tryz.f182 1 [0,2] [vF] (jJ Tryz.f182 7 [2] [vi 11,vT,vT,vi 11,vT,vT,vT] (aF ?_))
 exact mR (v:=vT) (fun _ hS=>⟨rfl,hS.bel⟩)
theorem inrange2 (m:Int) (hm:1≤m∧m≤2) (w0:World):Calls Tryz.prog 183 #[vi m,vi 2] w0 (jR vT w0):=by
 refine Calls.of_ok (n:=20) (F:=(fun _=>True)) Tryz.func183 rfl rfl rfl (by simp) jT ?_
 refine jJ Tryz.f183 1 [0,1,4] [vF] ?_
 refine sS Tryz.f183 16 [4] [] (fun _=>[vi 2,vT,vT,vi 2,vT,vT,vT,vi m,vT,vT,vT,vi m,vi 2,vT,vT,vT]) (fun _=>[]) (cR [[],[],[],[],[],[],[],[]]<|jQ (fun ρ=>(decide (1≤m))) true (fun _=>(decide_eq_true (by omega)))<|cR [[],[],[],[]]<|jQ (fun ρ=>(decide (m≤2))) true (fun _=>(decide_eq_true (by omega)))<|jE [[],[]]) (fun _=>?_)
 refine aF ?_
 exact mR (v:=vT) (fun _ hS=>⟨rfl,hS.bel⟩)
theorem checkm2 (m:Int) (hm:1≤m∧m≤2) (w0:World):Calls Tryz.prog 161 #[.agg #[vi 11,vz,vi m,vi 2]] w0 (jR (vi 0) w0):=by
 refine Calls.of_ok (n:=49) (F:=(fun _=>True)) Tryz.func161 rfl rfl rfl (by simp) jT ?_
 refine sS Tryz.f161 2 [1,2] [] (fun ρ=>[pt (nb ρ 0),vi 0]) (fun ρ=>[(0,(nw ρ 0 (cL #[vi 11,vz,vi m,vi 2] 120)))]) (jE [[],[]]) (fun ρ1=>?_)
 refine aB (aI ?_)
 refine sS Tryz.f161 5 [1,2,3] [] (fun _=>[pt (nb ρ1 0),vi 11,vT,vF,vF]) (fun _=>[]) (cR [[],[0]]<|cC (fun _ w=>known11_any w)<|jE [[],[]]) (fun _=>?_)
 refine oN ?_
 refine jM Tryz.f161 10 [1,2,8] [] [pt (nb ρ1 0),vi 11,vT,vT,jp (nb ρ1 0) 1,vz,vi 0,vF,vF,vF] [[],[0],[],[],[],[0],[],[],[],[]] ?_
 refine oN ?_
 refine jM Tryz.f161 14 [1,2,18] [] [pt (nb ρ1 0),vi 11,vF,vF,undef,undef,undef,undef,undef,undef,undef,undef,vF,vF] [[],[0],[],[],[],[],[],[],[],[],[],[],[],[]] ?_
 refine oN ?_
 refine jM Tryz.f161 5 [1,2,32] [] [jp (nb ρ1 0) 1,vz,vi 0,vF,vF] [[],[0],[],[],[]] ?_
 refine oN ?_
 refine sS Tryz.f161 12 [2,37] [0] (fun _=>[pt (nb ρ1 0),vi 11,vT,vT,jp (nb ρ1 0) 2,vi m,jp (nb ρ1 0) 3,vi 2,vT,vF,vF,vF]) (fun _=>[]) (cR [[],[0],[],[],[],[0],[],[0]]<|cC (fun _ w=>inrange2 m hm w)<|jE [[],[],[]]) (fun _=>?_)
 refine oN ?_
 refine aG (aJ (aA (jJ Tryz.f161 1 [2] [vi 0] (aF ?_))))
 exact mR (v:=(vi 0)) (fun _ hS=>⟨rfl,hS.bel⟩)
theorem encodem2 (m:Int) (hm:1≤m∧m≤2) (w0:World):Calls Tryz.prog 162 #[.agg #[vi 11,vz,vi m,vi 2]] w0 (fun ε w'=>∃ α κ,ε=.returned (.slice α ([ob 11,ob m,ob 2]).length κ)∧jG w0 w'∧Fs w0 w' α κ ([ob 11,ob m,ob 2])):=by
 refine Calls.of_ok (n:=23) (F:=(fun _=>True)) Tryz.func162 rfl rfl rfl (by simp) jT ?_
 refine sS Tryz.f162 2 [1,2] [] (fun ρ=>[pt (nb ρ 0),vz]) (fun ρ=>[(0,(nw ρ 0 (cL #[vi 11,vz,vi m,vi 2] 120)))]) (jE [[],[]]) (fun ρ1=>?_)
 refine aB (jM Tryz.f162 2 [1,2,4] [] [pt (nb ρ1 0),vi 11] [[],[0]] (aI (jJ Tryz.f162 2 [1,2,4,5] [vF,vF] ?_)))
 refine oN ?_
 refine jJ Tryz.f162 2 [1,2,10] [vT,vT] ?_
 refine oY ?_
 refine sS Tryz.f162 8 [1,2] [] (fun ρ=>let qa:=vs (nb ρ 6) ([ob 11,ob m,ob 2]:List UInt8).length 3;[jp (nb ρ1 0) 2,vi m,.int .u8 m,jp (nb ρ1 0) 3,vi 2,.int .u8 2,qa,qa]) (fun ρ=>[(6,(nw ρ 6 (cL #[.int .u8 11,.int .u8 m,.int .u8 2] 5)))]) (cR [[],[0]]<|cA (v:=fun ρ=>(.int .u8 (IntKind.u8.wrap m))) (fun _=>(.int .u8 m)) (fun _=>congrArg (Value.int .u8) (u8I (by omega)))<|jE [[],[0],[],[],[]]) (fun ρ5=>?_)
 refine aF (aP (aC (mD [(1,(pt (nb ρ1 0))),(2,(vs (nb ρ5 6) ([ob 11,ob m,ob 2]:List UInt8).length 3))] [(nb ρ1 0,(cL #[vi 11,vz,vi m,vi 2] 120)),(nb ρ5 6,(cL #[.int .u8 11,.int .u8 m,.int .u8 2] 5))] ?_)))
 exact mR (v:=(vs (nb ρ5 6) ([ob 11,ob m,ob 2]:List UInt8).length 3)) (fun _ hS=>⟨some ⟨nb ρ5 6,0,none⟩,3,congrArg Ending.returned (rfl),hS.bel,dU (rfl) (hS.fresh (.tail _ (.head _)) (hd3 (by decide) (by omega) (by decide)) (Nat.le_refl 3) (Nat.le_of_ble_eq_true rfl))⟩)
theorem check1_any (a:Option Addr) (c:Nat) (B:List UInt8) (hl:B.length≤255) (w0:World):Calls Tryz.prog 161 #[.agg #[vi 1,.slice a B.length c,vi 0,vi 0]] w0 (jR (vi 0) w0):=by
 refine Calls.of_ok (n:=49) (F:=(fun _=>True)) Tryz.func161 rfl rfl rfl (by simp) jT ?_
 refine sS Tryz.f161 2 [1,2] [] (fun ρ=>[pt (nb ρ 0),vi 0]) (fun ρ=>[(0,(nw ρ 0 (cL #[vi 1,.slice a B.length c,vi 0,vi 0] 120)))]) (jE [[],[]]) (fun ρ1=>?_)
 refine aB (aI ?_)
 refine sS Tryz.f161 5 [1,2,3] [] (fun _=>[pt (nb ρ1 0),vi 1,vT,vF,vF]) (fun _=>[]) (cR [[],[0]]<|cC (fun _ w=>known1_any w)<|jE [[],[]]) (fun _=>?_)
 refine oN ?_
 refine jM Tryz.f161 10 [1,2,8] [] [pt (nb ρ1 0),vi 1,vF,vF,undef,undef,undef,undef,vF,vF] [[],[0],[],[],[],[],[],[],[],[]] ?_
 refine oN ?_
 refine jM Tryz.f161 14 [1,2,18] [] [pt (nb ρ1 0),vi 1,vT,vT,jp (nb ρ1 0) 2,vi 0,vF,vF,jp (nb ρ1 0) 3,vi 0,vF,vF,vF,vF] [[],[0],[],[],[],[0],[],[],[],[0],[],[],[],[]] ?_
 refine oN ?_
 refine sS Tryz.f161 5 [1,2,32] [] (fun _=>[jp (nb ρ1 0) 1,.slice a B.length c,vn B.length,vF,vF]) (fun _=>[]) (cR [[],[0],[]]<|jQ (fun ρ=>(decide (255<((B.length:Nat):Int)))) false (fun _=>(decide_eq_false (by omega)))<|jE [[]]) (fun _=>?_)
 refine oN ?_
 refine jM Tryz.f161 12 [2,37] [0] [pt (nb ρ1 0),vi 1,vF,vF,undef,undef,undef,undef,undef,undef,vF,vF] [[],[0],[],[],[],[],[],[],[],[],[],[]] ?_
 refine oN ?_
 refine aG (aJ (aA (jJ Tryz.f161 1 [2] [vi 0] (aF ?_))))
 exact mR (v:=(vi 0)) (fun _ hS=>⟨rfl,hS.bel⟩)
theorem encode1_any (a:Option Addr) (c:Nat) (B:List UInt8) (hl:B.length≤255) (w0:World) (hf0:Bs w0 a c B):Calls Tryz.prog 162 #[.agg #[vi 1,.slice a B.length c,vi 0,vi 0]] w0 (fun ε w'=>∃ α κ,ε=.returned (.slice α (bQ B).length κ)∧jG w0 w'∧Fs w0 w' α κ (bQ B)):=by
 refine Calls.of_ok (n:=23) (F:=(fun w=>Bs w a c B∧True)) Tryz.func162 rfl rfl rfl (by simp) (hf0.pers0.and cO) ?_
 refine sS Tryz.f162 2 [1,2] [] (fun ρ=>[pt (nb ρ 0),vz]) (fun ρ=>[(0,(nw ρ 0 (cL #[vi 1,.slice a B.length c,vi 0,vi 0] 120)))]) (jE [[],[]]) (fun ρ1=>?_)
 refine aB (jM Tryz.f162 2 [1,2,4] [] [pt (nb ρ1 0),vi 1] [[],[0]] (aI (jJ Tryz.f162 2 [1,2,4,5] [vT,vT] ?_)))
 refine oY ?_
 refine iZ Tryz.f162 4 [1,2] [] (fun ρ=>let qa:Value:=.slice (oa ρ 2) (bQ B).length (nb ρ 2);[jp (nb ρ1 0) 1,.slice a B.length c,qa,qa]) (fun _=>[]) (fun ρ=>[(2,fun w=>Fs w0 w (oa ρ 2) (nb ρ 2) (bQ B))]) (fun ρ=>(fun w=>Bs w a c B∧Fs w0 w (oa ρ 2) (nb ρ 2) (bQ B)∧True)) (fun _=>True) (fun _ _ hF hf=>⟨⟨hF.1,hf 2,trivial⟩,trivial⟩) (cR [[],[0]]<|cX (qB (fun _ _ w hG=>push_any a c B hl w hG.fn.1))<|jE [[]]) (fun ρ4 _=>?_)
 refine aF (aP (aC (mD [(1,(pt (nb ρ1 0))),(2,(.slice (oa ρ4 2) (bQ B).length (nb ρ4 2)))] [(nb ρ1 0,(cL #[vi 1,.slice a B.length c,vi 0,vi 0] 120))] ?_)))
 exact mR (v:=(.slice (oa ρ4 2) (bQ B).length (nb ρ4 2))) (fun _ hS=>⟨oa ρ4 2,nb ρ4 2,congrArg Ending.returned (rfl),hS.bel,dU (rfl) hS.facts.now.2.1⟩)
theorem asm2 (g:Nat) (c:Nat) (a0:Option Addr) (c0:Nat) (p:Nat) (a1:Option Addr) (c1:Nat) (q:Nat) (m:Int) (hm:1≤m∧m≤2) (w0:World) (hf0:Rs w0 (some ⟨g,0,none⟩) [vi 1,.slice a0 (hL p).length c0,vi 0,vi 0,vi 1,.slice a1 (hL q).length c1,vi 0,vi 0,vi 11,vz,vi m,vi 2]) (hf1:Bs w0 a0 c0 (hL p)) (hf2:Bs w0 a1 c1 (hL q)):Calls Tryz.prog 139 #[vs g 3 c] w0 (fun ε w'=>∃ α κ,ε=.returned (.tuple #[.slice α (((bQ (hL p))++(bQ (hL q)))++([ob 11,ob m,ob 2])).length κ,vi 0])∧jG w0 w'∧Fs w0 w' α κ (((bQ (hL p))++(bQ (hL q)))++([ob 11,ob m,ob 2]))):=by
 refine Calls.of_ok (n:=28) (F:=(fun w=>Rs w (some ⟨g,0,none⟩) [vi 1,.slice a0 (hL p).length c0,vi 0,vi 0,vi 1,.slice a1 (hL q).length c1,vi 0,vi 0,vi 11,vz,vi m,vi 2]∧Bs w a0 c0 (hL p)∧Bs w a1 c1 (hL q)∧True)) Tryz.func139 rfl rfl rfl (by simp) (hf0.pers0.and (hf1.pers0.and (hf2.pers0.and cO))) ?_
 refine jJ Tryz.f139 2 [0,2,3] [vz,vi 0] (jJ Tryz.f139 1 [0,2,3,4] [vz] (aB (jJ Tryz.f139 3 [2,3,4,8,9,10] [vs g 3 c,vi 3,vi 0] (aI ?_))))
 refine jY 4 ?_
 refine dI ?_
 refine jJ Tryz.f139 1 [2,3,4,8,9,10,11] [vT] (aB ?_)
 refine oY ?_
 refine aG (aA (aB (aI ?_)))
 refine sS Tryz.f139 4 [2,3,4,6,8,9,10,11,12,13] [] (fun ρ=>[pt g,.agg #[vi 1,.slice a0 (hL p).length c0,vi 0,vi 0],pt (nb ρ 2),undef]) (fun ρ=>[(2,(nw ρ 2 (cL #[vi 0,vz,vi 0,vi 0] 120))),(3,(bD 16 (nb ρ 2) (cL #[vi 1,.slice a0 (hL p).length c0,vi 0,vi 0] 120)))]) (cR [[]]<|cX (qF (v:=fun ρ=>(.agg #[vi 1,.slice a0 (hL p).length c0,vi 0,vi 0])) (fun _ _ _ hG=>pG (us:=[vi 1,.slice a0 (hL p).length c0,vi 0,vi 0]) (k:=0) Tryz.isAgg120 Tryz.sizeOf120 hG.fn.1 rfl (by decide) (fun j hj=>match j,hj with | 0,_=>rfl | 1,_=>rfl | 2,_=>rfl | 3,_=>rfl)))<|jE [[],[16]]) (fun ρ5=>?_)
 refine aB ?_
 refine sS Tryz.f139 3 [2,3,4,6,7,8,9,10,11,12,13,14,15] [] (fun _=>[.agg #[vi 1,.slice a0 (hL p).length c0,vi 0,vi 0],vi 0,vi 0]) (fun _=>[]) (cR [[0]]<|cX (qC (fun _ _ w _=>check1_any a0 c0 (hL p) (by rw [aO];decide) w))<|jE [[]]) (fun _=>?_)
 refine jJ Tryz.f139 2 [2,3,4,6,7,8,9,10,11,12,13,14,15,16,17] [vi 0,vF] ?_
 refine lK [(2,vz),(3,(vi 0)),(4,vz),(6,(pt (nb ρ5 2))),(7,(vi 0)),(8,(vs g 3 c)),(9,(vi 3)),(10,(vi 0)),(11,vT),(12,(pt g)),(13,(.agg #[vi 1,.slice a0 (hL p).length c0,vi 0,vi 0])),(14,(.agg #[vi 1,.slice a0 (hL p).length c0,vi 0,vi 0])),(15,(vi 0)),(16,(vi 0)),(17,vF)] [(nb ρ5 2,(cL #[vi 1,.slice a0 (hL p).length c0,vi 0,vi 0] 120))] ?_
 refine oN ?_
 refine aG (aA ?_)
 refine rSf Tryz.f139 5 [2,3,4,6,7,8,9,10,11,12,13,14,15,16,17,19,20,21,22] [] (fun ρ=>let qa:=vs (nb ρ 3) (bQ (hL p)).length ((bQ (hL p)).length+aZ ρ 3);[vz,.agg #[vi 1,.slice a0 (hL p).length c0,vi 0,vi 0],.slice (oa ρ 2) (bQ (hL p)).length (nb ρ 2),qa,qa]) (fun ρ=>[(3,(nw ρ 3 (cL ((bs (bQ (hL p))).toArray++zB (aZ ρ 3)) 5)))]) (fun ρ=>[(2,fun w=>Fs w0 w (oa ρ 2) (nb ρ 2) (bQ (hL p)))]) (fun ρ=>(fun w=>Rs w (some ⟨g,0,none⟩) [vi 1,.slice a0 (hL p).length c0,vi 0,vi 0,vi 1,.slice a1 (hL q).length c1,vi 0,vi 0,vi 11,vz,vi m,vi 2]∧Bs w a0 c0 (hL p)∧Bs w a1 c1 (hL q)∧Fs w0 w (oa ρ 2) (nb ρ 2) (bQ (hL p))∧True)) (fun _=>True) (fun _ _ hF hf=>⟨⟨hF.1,hF.2.1,hF.2.2.1,hf 2,trivial⟩,trivial⟩) (cR [[],[0]]<|cX (qB (fun _ _ w hG=>encode1_any a0 c0 (hL p) (by rw [aO];decide) w hG.fn.2.1))<|cX (qN (fun _ ζ=>(vs (ζ.headD 0) (bQ (hL p)).length ((bQ (hL p)).length+ζ.tail.headD 0))) (fun _ ζ=>(cL ((bs (bQ (hL p))).toArray++zB (ζ.tail.headD 0)) 5)) (fun ρ _ w hG=>oU (ty:=37) Tryz.underlying37 nH (Bs.src (tx:=37) Tryz.underlying37 (show Fs w0 w (oa ρ 2) (nb ρ 2) (bQ (hL p)) from (hG.facts 2 rfl).now).1) (qY _) (by rw [eG,aO];decide)))<|jE [[]]) (fun ρ8 _=>?_)
 refine aJ (aA (jL Tryz.f139 2 [2,3,4,6,7,8,9,10,11,12,13,14,15,16,17,19,20,21,22,23] [] [vi 1,vi 1] [[],[]] (dV ?_)))
 refine dI ?_
 refine jJ Tryz.f139 1 [2,3,4,6,7,8,9,10,11,12,13,14,15,16,17,19,20,21,22,23] [vT] (aB ?_)
 refine oY ?_
 refine aG (aA (aB (aI ?_)))
 refine sS Tryz.f139 4 [2,3,4,6,7,8,9,10,11,12,13,14,15,16,17,19,20,21,22,23] [0,1,1] (fun ρ=>[jp g 4,.agg #[vi 1,.slice a1 (hL q).length c1,vi 0,vi 0],pt (nb ρ 2),undef]) (fun ρ=>[(2,(nw ρ 2 (cL #[vi 0,vz,vi 0,vi 0] 120))),(3,(bD 18 (nb ρ 2) (cL #[vi 1,.slice a1 (hL q).length c1,vi 0,vi 0] 120)))]) (cR [[]]<|cX (qF (v:=fun ρ=>(.agg #[vi 1,.slice a1 (hL q).length c1,vi 0,vi 0])) (fun _ _ _ hG=>pG (us:=[vi 1,.slice a1 (hL q).length c1,vi 0,vi 0]) (k:=4) Tryz.isAgg120 Tryz.sizeOf120 hG.fn.1 rfl (by decide) (fun j hj=>match j,hj with | 0,_=>rfl | 1,_=>rfl | 2,_=>rfl | 3,_=>rfl)))<|jE [[],[18]]) (fun ρ11=>?_)
 refine aB ?_
 refine sS Tryz.f139 3 [2,3,4,6,7,8,9,10,11,12,13,14,15,16,17,19,20,21,22,23] [] (fun _=>[.agg #[vi 1,.slice a1 (hL q).length c1,vi 0,vi 0],vi 0,vi 0]) (fun _=>[]) (cR [[1]]<|cX (qC (fun _ _ w _=>check1_any a1 c1 (hL q) (by rw [aO];decide) w))<|jE [[]]) (fun _=>?_)
 refine jJ Tryz.f139 2 [2,3,4,6,7,8,9,10,11,12,13,14,15,16,17,19,20,21,22,23] [vi 0,vF] ?_
 refine oN ?_
 refine aG (aA ?_)
 refine rSf Tryz.f139 5 [2,3,4,6,7,8,9,10,11,12,13,14,15,16,17,19,20,21,22,23] [] (fun ρ=>let qa:=vs (nb ρ 3) ((bQ (hL p))++(bQ (hL q))).length (aZ ρ 3);[vs (nb ρ8 3) (bQ (hL p)).length ((bQ (hL p)).length+aZ ρ8 3),.agg #[vi 1,.slice a1 (hL q).length c1,vi 0,vi 0],.slice (oa ρ 2) (bQ (hL q)).length (nb ρ 2),qa,qa]) (fun ρ=>[(3,(bD 0 (nb ρ 3) (cL (oc ρ 3) 5)))]) (fun ρ=>[(2,fun w=>Fs w0 w (oa ρ 2) (nb ρ 2) (bQ (hL q))),(3,fun w=>Ap (oc ρ 3) ((bQ (hL p))++(bQ (hL q))) (aZ ρ 3))]) (fun ρ=>(fun w=>Rs w (some ⟨g,0,none⟩) [vi 1,.slice a0 (hL p).length c0,vi 0,vi 0,vi 1,.slice a1 (hL q).length c1,vi 0,vi 0,vi 11,vz,vi m,vi 2]∧Bs w a0 c0 (hL p)∧Bs w a1 c1 (hL q)∧Fs w0 w (oa ρ8 2) (nb ρ8 2) (bQ (hL p))∧Fs w0 w (oa ρ 2) (nb ρ 2) (bQ (hL q))∧True)) (fun ρ=>Ap (oc ρ 3) ((bQ (hL p))++(bQ (hL q))) (aZ ρ 3)) (fun _ _ hF hf=>⟨⟨hF.1,hF.2.1,hF.2.2.1,hF.2.2.2.1,hf 2,trivial⟩,hf 3⟩) (cR [[],[1]]<|cX (qB (fun _ _ w hG=>encode1_any a1 c1 (hL q) (by rw [aO];decide) w hG.fn.2.2.1))<|cX (qM 0 (fun ρ _ w hG hg=>app_any (ty:=37) (g:=nb ρ8 3) (C:=((bs (bQ (hL p))).toArray++zB (aZ ρ8 3))) (c:=(bQ (hL p)).length+aZ ρ8 3) (xs:=bQ (hL p)) Tryz.underlying37 nH (Ap.mk' (Hd.fresh _ _) (Nat.le_add_right _ _) (by rw [eG,aO];decide) (oQ _ _)) (Bs.src (tx:=37) Tryz.underlying37 (show Fs w0 w (oa ρ 2) (nb ρ 2) (bQ (hL q)) from (hG.facts 2 rfl).now).1) (by simp only [eG,aO];omega) hg))<|jE [[]]) (fun ρ14 ap14_3=>?_)
 refine aJ (aA (jL Tryz.f139 2 [2,3,4,6,7,8,9,10,11,12,13,14,15,16,17,19,20,21,22,23] [] [vi 2,vi 2] [[],[]] (dV ?_)))
 refine dI ?_
 refine jJ Tryz.f139 1 [2,3,4,6,7,8,9,10,11,12,13,14,15,16,17,19,20,21,22,23] [vT] ?_
 refine lK [(2,vz),(3,(vi 0)),(4,(vs (nb ρ14 3) ((bQ (hL p))++(bQ (hL q))).length (aZ ρ14 3))),(6,(pt (nb ρ11 2))),(7,(vi 0)),(8,(vs g 3 c)),(9,(vi 3)),(10,(vi 2)),(11,vT),(12,(jp g 4)),(13,(.agg #[vi 1,.slice a1 (hL q).length c1,vi 0,vi 0])),(14,(.agg #[vi 1,.slice a1 (hL q).length c1,vi 0,vi 0])),(15,(vi 0)),(16,(vi 0)),(17,vF),(19,(vs (nb ρ8 3) (bQ (hL p)).length ((bQ (hL p)).length+aZ ρ8 3))),(20,(.agg #[vi 1,.slice a1 (hL q).length c1,vi 0,vi 0])),(21,(.slice (oa ρ14 2) (bQ (hL q)).length (nb ρ14 2))),(22,(vs (nb ρ14 3) ((bQ (hL p))++(bQ (hL q))).length (aZ ρ14 3))),(23,(vi 2))] [(nb ρ14 3,(cL (oc ρ14 3) 5)),(nb ρ11 2,(cL #[vi 1,.slice a1 (hL q).length c1,vi 0,vi 0] 120))] ?_
 refine aB ?_
 refine oY ?_
 refine aG (aA (aB (aI ?_)))
 refine sS Tryz.f139 4 [2,3,4,6,7,8,9,10,11,12,13,14,15,16,17,19,20,21,22,23] [1,0,1] (fun ρ=>[jp g 8,.agg #[vi 11,vz,vi m,vi 2],pt (nb ρ 2),undef]) (fun ρ=>[(2,(nw ρ 2 (cL #[vi 0,vz,vi 0,vi 0] 120))),(3,(bD 18 (nb ρ 2) (cL #[vi 11,vz,vi m,vi 2] 120)))]) (cR [[]]<|cX (qF (v:=fun ρ=>(.agg #[vi 11,vz,vi m,vi 2])) (fun _ _ _ hG=>pG (us:=[vi 11,vz,vi m,vi 2]) (k:=8) Tryz.isAgg120 Tryz.sizeOf120 hG.fn.1 rfl (by decide) (fun j hj=>match j,hj with | 0,_=>rfl | 1,_=>rfl | 2,_=>rfl | 3,_=>rfl)))<|jE [[],[18]]) (fun _=>?_)
 refine aB ?_
 refine sS Tryz.f139 3 [2,3,4,6,7,8,9,10,11,12,13,14,15,16,17,19,20,21,22,23] [] (fun _=>[.agg #[vi 11,vz,vi m,vi 2],vi 0,vi 0]) (fun _=>[]) (cR [[1]]<|cC (fun _ w=>checkm2 m hm w)<|jE [[]]) (fun _=>?_)
 refine jJ Tryz.f139 2 [2,3,4,6,7,8,9,10,11,12,13,14,15,16,17,19,20,21,22,23] [vi 0,vF] ?_
 refine oN ?_
 refine aG (aA ?_)
 refine rSf Tryz.f139 5 [2,3,4,6,7,8,9,10,11,12,13,14,15,16,17,19,20,21,22,23] [] (fun ρ=>let qa:=vs (nb ρ 3) (((bQ (hL p))++(bQ (hL q)))++([ob 11,ob m,ob 2])).length (aZ ρ 3);[vs (nb ρ14 3) ((bQ (hL p))++(bQ (hL q))).length (aZ ρ14 3),.agg #[vi 11,vz,vi m,vi 2],.slice (oa ρ 2) ([ob 11,ob m,ob 2]).length (nb ρ 2),qa,qa]) (fun ρ=>[(3,(bD 0 (nb ρ 3) (cL (oc ρ 3) 5)))]) (fun ρ=>[(2,fun w=>Fs w0 w (oa ρ 2) (nb ρ 2) ([ob 11,ob m,ob 2])),(3,fun w=>Ap (oc ρ 3) (((bQ (hL p))++(bQ (hL q)))++([ob 11,ob m,ob 2])) (aZ ρ 3))]) (fun ρ=>(fun w=>Rs w (some ⟨g,0,none⟩) [vi 1,.slice a0 (hL p).length c0,vi 0,vi 0,vi 1,.slice a1 (hL q).length c1,vi 0,vi 0,vi 11,vz,vi m,vi 2]∧Bs w a0 c0 (hL p)∧Bs w a1 c1 (hL q)∧Fs w0 w (oa ρ8 2) (nb ρ8 2) (bQ (hL p))∧Fs w0 w (oa ρ14 2) (nb ρ14 2) (bQ (hL q))∧Fs w0 w (oa ρ 2) (nb ρ 2) ([ob 11,ob m,ob 2])∧True)) (fun ρ=>Ap (oc ρ 3) (((bQ (hL p))++(bQ (hL q)))++([ob 11,ob m,ob 2])) (aZ ρ 3)) (fun _ _ hF hf=>⟨⟨hF.1,hF.2.1,hF.2.2.1,hF.2.2.2.1,hF.2.2.2.2.1,hf 2,trivial⟩,hf 3⟩) (cR [[],[1]]<|cX (qB (fun _ _ w _=>encodem2 m hm w))<|cX (qM 0 (fun ρ _ w hG hg=>app_any (ty:=37) (g:=nb ρ14 3) (C:=(oc ρ14 3)) (c:=aZ ρ14 3) (xs:=(bQ (hL p))++(bQ (hL q))) Tryz.underlying37 nH (Ap.mk' ap14_3.hd ap14_3.le ap14_3.max ap14_3.size) (Bs.src (tx:=37) Tryz.underlying37 (show Fs w0 w (oa ρ 2) (nb ρ 2) ([ob 11,ob m,ob 2]) from (hG.facts 2 rfl).now).1) (by simp only [List.length_append,List.length_cons,List.length_nil,eG,aO];omega) hg))<|jE [[]]) (fun ρ20 ap20_3=>?_)
 refine aJ (aA (jL Tryz.f139 2 [2,3,4,6,7,8,9,10,11,12,13,14,15,16,17,19,20,21,22,23] [] [vi 3,vi 3] [[],[]] (dV ?_)))
 refine dI ?_
 refine jJ Tryz.f139 1 [2,3,4,6,7,8,9,10,11,12,13,14,15,16,17,19,20,21,22,23] [vF] (aB ?_)
 refine oN ?_
 refine bF (aN (aN (aT (aA (aB ?_)))))
 refine sS Tryz.f139 3 [2,3,4,26] [1,0] (fun _=>[vs (nb ρ20 3) (((bQ (hL p))++(bQ (hL q)))++([ob 11,ob m,ob 2])).length (aZ ρ20 3),vn (((bQ (hL p))++(bQ (hL q)))++([ob 11,ob m,ob 2])).length,vF]) (fun _=>[]) (cR [[],[]]<|jQ (fun ρ=>(decide (520<(((((bQ (hL p))++(bQ (hL q)))++([ob 11,ob m,ob 2])).length:Nat):Int)))) false (fun _=>(decide_eq_false (by simp only [List.length_append,List.length_cons,List.length_nil,eG,aO];omega)))<|cN) (fun _=>?_)
 refine lK [(2,vz),(3,(vi 0)),(4,(vs (nb ρ20 3) (((bQ (hL p))++(bQ (hL q)))++([ob 11,ob m,ob 2])).length (aZ ρ20 3))),(26,vF)] [(nb ρ20 3,(cL (oc ρ20 3) 5))] ?_
 refine oN ?_
 refine aG (aA (jJ Tryz.f139 3 [2,3] (let qa:=vs (nb ρ20 3) (((bQ (hL p))++(bQ (hL q)))++([ob 11,ob m,ob 2])).length (aZ ρ20 3);[qa,qa,vi 0]) (aF (mD [(2,(vs (nb ρ20 3) (((bQ (hL p))++(bQ (hL q)))++([ob 11,ob m,ob 2])).length (aZ ρ20 3))),(3,(vi 0))] [(nb ρ20 3,(cL (oc ρ20 3) 5))] ?_))))
 exact mR (v:=(.tuple #[vs (nb ρ20 3) (((bQ (hL p))++(bQ (hL q)))++([ob 11,ob m,ob 2])).length (aZ ρ20 3),vi 0])) (fun _ hS=>⟨some ⟨nb ρ20 3,0,none⟩,aZ ρ20 3,congrArg Ending.returned (rfl),hS.bel,dU (rfl) (hS.fresh (.head _) ap20_3.hd ap20_3.le ap20_3.max)⟩)
theorem multi2 (m:Int) (a:Option Addr) (c:Nat) (p:Nat) (q:Nat) (_hp:p<M) (_hq:q<M) (hm:1≤m∧m≤2) (w0:World) (hf0:Us w0 a c ([p,q])):Calls Tryz.prog 107 #[vi m,.slice a ([p,q]).length c] w0 (fun ε w'=>∃ α κ,ε=.returned (.tuple #[.slice α (mlB m [p,q]).length κ,vi 0])∧jG w0 w'∧Fs w0 w' α κ (mlB m [p,q])):=by
 refine Calls.of_ok (n:=34) (F:=(fun w=>Us w a c ([p,q])∧True)) Tryz.func107 rfl rfl rfl (by simp) (hf0.pers0.and cO) ?_
 refine jJ Tryz.f107 2 [0,1,4,5] [vz,vi 0] (jJ Tryz.f107 1 [0,1,4,5,6] [vz] (aB (jJ Tryz.f107 3 [0,1,4,5,6,10,11,12] [.slice a ([p,q]).length c,vi 2,vi 0] (aI ?_))))
 refine jY 3 ?_
 refine dI ?_
 refine jJ Tryz.f107 1 [0,1,4,5,6,10,11,12,13] [vT] (aB ?_)
 refine oY ?_
 refine aG (aA (aB (aI ?_)))
 refine sS Tryz.f107 4 [0,1,4,5,6,8,10,11,12,13,14,15] [] (fun ρ=>[.pointer (fK a (0*4)),U p,pt (nb ρ 2),undef]) (fun ρ=>[(2,(nw ρ 2 (cL (cU 0) 64))),(3,(bD 16 (nb ρ 2) (cL (cU p) 64)))]) (cX (qF (fun _ _ _ hG=>Us.idx (k:=.i64) Tryz.underlying80 Tryz.sizeOf64 hG.fn.1 rfl (show (0:Int)=((0:Nat):Int) from rfl) (show 0<([p,q]).length from Nat.le_of_ble_eq_true rfl)))<|cX (qF (fun _ _ _ hG=>Us.ldA Tryz.isAgg64 Tryz.sizeOf64 hG.fn.1 (show 0<([p,q]).length from Nat.le_of_ble_eq_true rfl)))<|jE [[],[16]]) (fun ρ5=>?_)
 refine sS Tryz.f107 4 [0,1,4,5,6,8,9,10,11,12,13,14,15,16,17] [] (fun ρ=>[U p,.agg (hB p),pt (nb ρ 2),undef]) (fun ρ=>[(2,(nw ρ 2 (cL (hB 0) 57))),(3,(bD 17 (nb ρ 2) (cL (hB p) 57)))]) (cR [[0]]<|cC (fun _ w=>pW p w)<|jE [[],[17]]) (fun ρ6=>?_)
 refine rS Tryz.f107 6 [0,1,4,5,6,8,9,10,11,12,13,14,15,16,17,18,19,20,21,22] [] (fun ρ=>let qa:=vs (nb ρ6 2) (hL p).length 32;let qb:=vs (nb ρ 4) 1 (1+aZ ρ 4);[vz,qa,.agg #[vi 1,qa,vi 0,vi 0],vs (nb ρ 3) 1 1,qb,qb]) (fun ρ=>let qa:=vs (nb ρ6 2) (hL p).length 32;[(3,(nw ρ 3 (cL #[vi 1,qa,vi 0,vi 0] 120))),(4,(nw ρ 4 (cL ([vi 1,qa,vi 0,vi 0].toArray++Builtin.zeroCells (Value.cells (.agg #[vi 0,vz,vi 0,vi 0])) (aZ ρ 4)) 120)))]) (cR [[],[],[],[]]<|cX (qN (fun _ ζ=>(vs (ζ.headD 0) 1 (1+ζ.tail.headD 0))) (fun _ ζ=>(cL ([vi 1,vs (nb ρ6 2) (hL p).length 32,vi 0,vi 0].toArray++Builtin.zeroCells (Value.cells (.agg #[vi 0,vz,vi 0,vi 0])) (ζ.tail.headD 0)) 120)) (fun ρ _ _ hG=>uV (ty:=118) Tryz.underlying118 (dA (sz:=4) (b:=48) (z:=(.agg #[vi 0,vz,vi 0,vi 0])) (by kernel_rfl) rfl) (nX (c:=1) (vs:=[vi 1,vs (nb ρ6 2) (hL p).length 32,vi 0,vi 0]) Tryz.underlying118 (hG.kn (g:=nb ρ 3) (o:=(cL #[vi 1,vs (nb ρ6 2) (hL p).length 32,vi 0,vi 0] 120)) 26) rfl rfl) (by decide) (by decide) (by decide)))<|jE [[]]) (fun ρ7=>?_)
 refine aJ (aA (jL Tryz.f107 2 [0,1,4,5,6,8,9,10,11,12,13,14,15,16,17,18,19,20,21,22,23] [] [vi 1,vi 1] [[],[]] (dV ?_)))
 refine dI ?_
 refine jJ Tryz.f107 1 [0,1,4,5,6,8,9,10,11,12,13,14,15,16,17,18,19,20,21,22,23] [vT] ?_
 refine lK [(0,(vi m)),(1,(.slice a ([p,q]).length c)),(4,vz),(5,(vi 0)),(6,(vs (nb ρ7 4) 1 (1+aZ ρ7 4))),(8,(pt (nb ρ5 2))),(9,(pt (nb ρ6 2))),(10,(.slice a ([p,q]).length c)),(11,(vi 2)),(12,(vi 1)),(13,vT),(14,(.pointer (fK a (0*4)))),(15,(U p)),(16,(U p)),(17,(.agg (hB p))),(18,vz),(19,(vs (nb ρ6 2) (hL p).length 32)),(20,(.agg #[vi 1,vs (nb ρ6 2) (hL p).length 32,vi 0,vi 0])),(21,(vs (nb ρ7 3) 1 1)),(22,(vs (nb ρ7 4) 1 (1+aZ ρ7 4))),(23,(vi 1))] [(nb ρ5 2,(cL (cU p) 64)),(nb ρ6 2,(cL (hB p) 57)),(nb ρ7 3,(cL #[vi 1,vs (nb ρ6 2) (hL p).length 32,vi 0,vi 0] 120)),(nb ρ7 4,(cL ([vi 1,vs (nb ρ6 2) (hL p).length 32,vi 0,vi 0].toArray++Builtin.zeroCells (Value.cells (.agg #[vi 0,vz,vi 0,vi 0])) (aZ ρ7 4)) 120))] ?_
 refine aB ?_
 refine oY ?_
 refine aG (aA (aB (aI ?_)))
 refine sS Tryz.f107 4 [0,1,4,5,6,8,9,10,11,12,13,14,15,16,17,18,19,20,21,22,23] [] (fun ρ=>[.pointer (fK a (1*4)),U q,pt (nb ρ 2),undef]) (fun ρ=>[(2,(nw ρ 2 (cL (cU 0) 64))),(3,(bD 20 (nb ρ 2) (cL (cU q) 64)))]) (cX (qF (fun _ _ _ hG=>Us.idx (k:=.i64) Tryz.underlying80 Tryz.sizeOf64 hG.fn.1 rfl (show (1:Int)=((1:Nat):Int) from rfl) (show 1<([p,q]).length from Nat.le_of_ble_eq_true rfl)))<|cX (qF (fun _ _ _ hG=>Us.ldA Tryz.isAgg64 Tryz.sizeOf64 hG.fn.1 (show 1<([p,q]).length from Nat.le_of_ble_eq_true rfl)))<|jE [[],[20]]) (fun ρ10=>?_)
 refine sS Tryz.f107 4 [0,1,4,5,6,8,9,10,11,12,13,14,15,16,17,18,19,20,21,22,23] [] (fun ρ=>[U q,.agg (hB q),pt (nb ρ 2),undef]) (fun ρ=>[(2,(nw ρ 2 (cL (hB 0) 57))),(3,(bD 21 (nb ρ 2) (cL (hB q) 57)))]) (cR [[4]]<|cC (fun _ w=>pW q w)<|jE [[],[21]]) (fun ρ11=>?_)
 refine rSf Tryz.f107 6 [0,1,4,5,6,8,9,10,11,12,13,14,15,16,17,18,19,20,21,22,23] [] (fun ρ=>let qa:=vs (nb ρ11 2) (hL q).length 32;let qb:=vs (nb ρ 4) 2 (aZ ρ 4);[vs (nb ρ7 4) 1 (1+aZ ρ7 4),qa,.agg #[vi 1,qa,vi 0,vi 0],vs (nb ρ 3) 1 1,qb,qb]) (fun ρ=>[(3,(nw ρ 3 (cL #[vi 1,vs (nb ρ11 2) (hL q).length 32,vi 0,vi 0] 120))),(4,(bD 3 (nb ρ 4) (cL (oc ρ 4) 120)))]) (fun ρ=>[(4,fun w=>Av (oc ρ 4) 4 2 [vi 1,vs (nb ρ6 2) (hL p).length 32,vi 0,vi 0,vi 1,vs (nb ρ11 2) (hL q).length 32,vi 0,vi 0] (aZ ρ 4))]) (fun _=>(fun w=>Us w a c ([p,q])∧True)) (fun ρ=>Av (oc ρ 4) 4 2 [vi 1,vs (nb ρ6 2) (hL p).length 32,vi 0,vi 0,vi 1,vs (nb ρ11 2) (hL q).length 32,vi 0,vi 0] (aZ ρ 4)) (fun _ _ hF hf=>⟨hF,hf 4⟩) (cR [[],[],[],[]]<|cX (qM 3 (fun ρ _ _ hG hg=>sN (ty:=118) (g:=nb ρ7 4) Tryz.underlying118 (dA (sz:=4) (b:=48) (z:=(.agg #[vi 0,vz,vi 0,vi 0])) (by kernel_rfl) rfl) (Av.fresh (z:=(.agg #[vi 0,vz,vi 0,vi 0])) (m:=1) rfl (ys:=[vi 1,vs (nb ρ6 2) (hL p).length 32,vi 0,vi 0]) rfl (aZ ρ7 4)) (nX (c:=1) (vs:=[vi 1,vs (nb ρ11 2) (hL q).length 32,vi 0,vi 0]) Tryz.underlying118 (hG.kn (g:=nb ρ 3) (o:=(cL #[vi 1,vs (nb ρ11 2) (hL q).length 32,vi 0,vi 0] 120)) 30) rfl rfl) (by decide) (by decide) hg))<|jE [[]]) (fun ρ12 ap12_4=>?_)
 refine aJ (aA (jL Tryz.f107 2 [0,1,4,5,6,8,9,10,11,12,13,14,15,16,17,18,19,20,21,22,23] [] [vi 2,vi 2] [[],[]] (dV ?_)))
 refine dI ?_
 refine jJ Tryz.f107 1 [0,1,4,5,6,8,9,10,11,12,13,14,15,16,17,18,19,20,21,22,23] [vF] (aB ?_)
 refine oN ?_
 refine bF (aN (aN (aT (aA ?_))))
 refine iZ Tryz.f107 12 [4,5] [] (fun ρ=>let qa:Value:=.slice (oa ρ 7) (((bQ (hL p))++(bQ (hL q)))++([ob 11,ob m,ob 2])).length (nb ρ 7);[vs (nb ρ12 4) 2 (aZ ρ12 4),vi m,.slice a ([p,q]).length c,vi 2,.agg #[vi 11,vz,vi m,vi 2],vs (nb ρ 5) 1 1,vs (nb ρ 6) 3 (aZ ρ 6),.tuple #[qa,vi 0],qa,vi 0,qa,vi 0]) (fun ρ=>[(5,(nw ρ 5 (cL #[vi 11,vz,vi m,vi 2] 120))),(6,(bD 3 (nb ρ 6) (cL (oc ρ 6) 120)))]) (fun ρ=>[(6,fun w=>Av (oc ρ 6) 4 3 [vi 1,vs (nb ρ6 2) (hL p).length 32,vi 0,vi 0,vi 1,vs (nb ρ11 2) (hL q).length 32,vi 0,vi 0,vi 11,vz,vi m,vi 2] (aZ ρ 6)),(7,fun w=>Fs w0 w (oa ρ 7) (nb ρ 7) (((bQ (hL p))++(bQ (hL q)))++([ob 11,ob m,ob 2])))]) (fun ρ=>(fun w=>Us w a c ([p,q])∧Fs w0 w (oa ρ 7) (nb ρ 7) (((bQ (hL p))++(bQ (hL q)))++([ob 11,ob m,ob 2]))∧True)) (fun ρ=>Av (oc ρ 6) 4 3 [vi 1,vs (nb ρ6 2) (hL p).length 32,vi 0,vi 0,vi 1,vs (nb ρ11 2) (hL q).length 32,vi 0,vi 0,vi 11,vz,vi m,vi 2] (aZ ρ 6)) (fun _ _ hF hf=>⟨⟨hF.1,hf 7,trivial⟩,hf 6⟩) (cR [[],[],[],[],[],[]]<|cX (qM 3 (fun ρ _ _ hG hg=>sN (ty:=118) (g:=nb ρ12 4) Tryz.underlying118 (dA (sz:=4) (b:=48) (z:=(.agg #[vi 0,vz,vi 0,vi 0])) (by kernel_rfl) rfl) ap12_4 (nX (c:=1) (vs:=[vi 11,vz,vi m,vi 2]) Tryz.underlying118 (hG.kn (g:=nb ρ 5) (o:=(cL #[vi 11,vz,vi m,vi 2] 120)) 47) rfl rfl) (by decide) (by decide) hg))<|cX (qB (fun ρ _ w hG=>asm2 (nb ρ 6) (aZ ρ 6) (some ⟨nb ρ6 2,0,none⟩) 32 p (some ⟨nb ρ11 2,0,none⟩) 32 q m hm w (Rs.of_av (hG.kn (g:=nb ρ 6) (o:=(cL (oc ρ 6) 120)) 3) (show Av (oc ρ 6) 4 3 [vi 1,vs (nb ρ6 2) (hL p).length 32,vi 0,vi 0,vi 1,vs (nb ρ11 2) (hL q).length 32,vi 0,vi 0,vi 11,vz,vi m,vi 2] (aZ ρ 6) from (hG.facts 6 rfl).now)) (Bs.of_hd (c:=32) (hG.kn (g:=nb ρ6 2) (o:=(cL (hB p) 57)) 1) (nP _) (Nat.le_refl _) (Nat.le_of_ble_eq_true rfl)) (Bs.of_hd (c:=32) (hG.kn (g:=nb ρ11 2) (o:=(cL (hB q) 57)) 5) (nP _) (Nat.le_refl _) (Nat.le_of_ble_eq_true rfl))))<|jE [[],[],[],[]]) (fun ρ15 ap15_6=>?_)
 refine aF (mD [(4,(.slice (oa ρ15 7) (((bQ (hL p))++(bQ (hL q)))++([ob 11,ob m,ob 2])).length (nb ρ15 7))),(5,(vi 0))] [(nb ρ5 2,(cL (cU p) 64)),(nb ρ6 2,(cL (hB p) 57)),(nb ρ7 3,(cL #[vi 1,vs (nb ρ6 2) (hL p).length 32,vi 0,vi 0] 120)),(nb ρ15 6,(cL (oc ρ15 6) 120)),(nb ρ10 2,(cL (cU q) 64)),(nb ρ11 2,(cL (hB q) 57)),(nb ρ12 3,(cL #[vi 1,vs (nb ρ11 2) (hL q).length 32,vi 0,vi 0] 120)),(nb ρ15 5,(cL #[vi 11,vz,vi m,vi 2] 120))] ?_)
 exact mR (v:=(.tuple #[.slice (oa ρ15 7) (((bQ (hL p))++(bQ (hL q)))++([ob 11,ob m,ob 2])).length (nb ρ15 7),vi 0])) (fun _ hS=>⟨oa ρ15 7,nb ρ15 7,congrArg Ending.returned (rfl),hS.bel,dU (rfl) hS.facts.now.2.1⟩)
theorem multi_any (m:Int) (a:Option Addr) (c:Nat) (ns:List Nat) (hU:∀ n∈ns,n<M) (hl:ns.length=2) (hm:1≤m∧m≤ns.length) (w0:World) (hf0:Us w0 a c ns):Calls Tryz.prog 107 #[.int .i64 m,.slice a ns.length c] w0 (fun ε w'=>∃ α κ,ε=.returned (.tuple #[.slice α (mlB m ns).length κ,.int .i64 0])∧jG w0 w'∧Fs w0 w' α κ (mlB m ns)):=by
  match ns,hl with
  | [p,q],_=>exact multi2 m a c p q (hU p (by simp)) (hU q (by simp)) hm w0 hf0
  | [],h=>simp at h
  | [_],h=>simp at h
  | _::_::_::_,h=>simp at h
end Go.Proofs.YtahoheofpggopaaGreatDoor
